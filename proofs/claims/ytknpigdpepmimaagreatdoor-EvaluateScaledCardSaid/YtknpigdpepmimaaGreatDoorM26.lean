/- Values are valid; evaluations are counted; the count does not matter where there is a value. No program. The path of a failure is not longer than the term is large. No program. Contracts of Digits, Number and of the two Texts. -/
import Derived.Test.YtknpigdpepmimaaGreatDoorM13
import Derived.Test.YtknpigdpepmimaaGreatDoorM25
import Derived.Lib.ItoaLen
import Derived.Lib.ItoaMem
import Derived.Laws.BytesString
import Derived.Test.YtknpigdpepmimaaGreatDoorM02
import Derived.Test.YtknpigdpepmimaaGreatDoorM10
namespace Go.Proofs.YtknpigdpepmimaaGreatDoor
theorem nz1 : ¬ (1 : Int) = 0 := by decide
theorem nz6 : ¬ (6 : Int) = 0 := by decide
theorem nz11 : ¬ (11 : Int) = 0 := by decide
theorem nz13 : ¬ (13 : Int) = 0 := by decide
theorem nz15 : ¬ (15 : Int) = 0 := by decide
/-- what gives valid values -/
def OKg (g : G) : Prop := ∀ c, (g c).1.e = 0 → (g c).1.v.ok
/-- what counts forward, and never beyond the limit -/
def Mon (g : G) : Prop := ∀ c, c ≤ (g c).2 ∧ (c ≤ 2000 → (g c).2 ≤ 2000)
/-- what gives the same value with a smaller count -/
def Shf (g : G) : Prop := ∀ c j, (g (c + j)).1.e = 0 → ∃ m, g (c + j) = ((g (c + j)).1, c + j + m) ∧ g c = ((g (c + j)).1, c + m)
theorem under_e (r : R) (i : Int) : (r.under i).e = r.e := by unfold R.under; split <;> rfl
theorem under_v (r : R) (i : Int) : (r.under i).v = r.v := by unfold R.under; split <;> rfl
theorem lookR_ok {α : Type} {f : α → Option V} {x : α} (h : ∀ v, f x = some v → v.ok) (he : (lookR f x).e = 0) : (lookR f x).v.ok := by
  unfold lookR at he ⊢
  cases hf : f x with
  | none => rw [hf] at he; exact absurd he nz11
  | some v => exact h v hf
theorem argsG_ok : ∀ (gs : List G) (i c : Nat) (out : List V), (∀ g ∈ gs, OKg g) → (∀ x ∈ out, x.ok) → (argsG i gs c out).1.1.e = 0 → (∀ x ∈ (argsG i gs c out).1.2, x.ok) ∧ (argsG i gs c out).1.2.length = out.length + gs.length
  | [], i, c, out, _, ho, _ => ⟨ho, rfl⟩
  | g :: gs, i, c, out, hg, ho, he => by
    rw [argsG] at he ⊢
    by_cases h0 : (g c).1.e = 0
    · rw [if_pos h0] at he ⊢
      have := argsG_ok gs (i + 1) (g c).2 (out ++ [(g c).1.v]) (fun g h => hg g (List.mem_cons_of_mem _ h)) (fun x hx => by
        rcases List.mem_append.1 hx with hx | hx
        · exact ho x hx
        · rw [List.mem_singleton] at hx; subst hx; exact hg g List.mem_cons_self c h0) he
      refine ⟨this.1, ?_⟩
      rw [this.2, List.length_append, List.length_cons, List.length_cons, List.length_nil]; omega
    · rw [if_neg h0] at he
      exact absurd (show ((g c).1.under i).e = 0 from he) (by rw [under_e]; exact h0)
theorem argsG_mon : ∀ (gs : List G) (i c : Nat) (out : List V), (∀ g ∈ gs, Mon g) → c ≤ (argsG i gs c out).2 ∧ (c ≤ 2000 → (argsG i gs c out).2 ≤ 2000)
  | [], i, c, out, _ => ⟨Nat.le_refl _, fun h => h⟩
  | g :: gs, i, c, out, hg => by
    rw [argsG]
    have h1 := hg g List.mem_cons_self c
    split
    · have := argsG_mon gs (i + 1) (g c).2 (out ++ [(g c).1.v]) (fun g h => hg g (List.mem_cons_of_mem _ h))
      exact ⟨Nat.le_trans h1.1 this.1, fun h => this.2 (h1.2 h)⟩
    · exact h1
theorem argsG_shf : ∀ (gs : List G) (i c j : Nat) (out : List V), (∀ g ∈ gs, Shf g) → (argsG i gs (c + j) out).1.1.e = 0 → ∃ m, argsG i gs (c + j) out = ((argsG i gs (c + j) out).1, c + j + m) ∧ argsG i gs c out = ((argsG i gs (c + j) out).1, c + m)
  | [], i, c, j, out, _, _ => ⟨0, rfl, rfl⟩
  | g :: gs, i, c, j, out, hg, he => by
    rw [argsG] at he
    by_cases h0 : (g (c + j)).1.e = 0
    · rw [if_pos h0] at he
      obtain ⟨m, e1, e2⟩ := hg g List.mem_cons_self c j h0
      rw [argsG, argsG, if_pos h0]
      have e3 : (g c).1 = (g (c + j)).1 := by rw [e2]
      have e4 : (g c).2 = c + m := by rw [e2]
      have e5 : (g (c + j)).2 = c + m + j := by rw [e1]; show c + j + m = _; omega
      rw [e5] at he ⊢
      rw [e3, if_pos h0, e4]
      obtain ⟨m2, f1, f2⟩ := argsG_shf gs (i + 1) (c + m) j (out ++ [(g (c + j)).1.v]) (fun g h => hg g (List.mem_cons_of_mem _ h)) he
      exact ⟨m + m2, by rw [f1]; exact Prod.ext rfl (by show _ = _; omega), by rw [f2]; exact Prod.ext rfl (by show _ = _; omega)⟩
    · rw [if_neg h0] at he
      exact absurd (show ((g (c + j)).1.under i).e = 0 from he) (by rw [under_e]; exact h0)
theorem loopB_ok (body : Int → G) (add : V → V → V × Int) (fr hi : Int) (hb : ∀ k, fr ≤ k → k ≤ hi → OKg (body k)) (ha : ∀ a b, a.ok → b.ok → (add a b).2 = 0 → (add a b).1.ok) :
    ∀ (f : Nat) (k : Int) (v : V) (c : Nat), fr ≤ k → v.ok → (loopB body add fr hi f k v c).1.e = 0 → (loopB body add fr hi f k v c).1.v.ok
  | 0, _, _, _, _, _, h => absurd h nz6
  | f + 1, k, v, c, hk, hv, h => by
    rw [loopB] at h ⊢
    split at h
    · rename_i h1
      rw [if_pos h1]
      split at h
      · exact absurd h nz6
      · rename_i h2
        rw [if_neg h2]
        split at h
        · rename_i h3
          rw [if_pos h3]
          have h3' := hb k hk h1 (c + 1) h3
          split at h
          · rename_i h4
            rw [if_pos h4]
            exact loopB_ok body add fr hi hb ha f (k + 1) _ _ (by omega) h3' h
          · rename_i h4
            rw [if_neg h4]
            split at h
            · rename_i h5
              rw [if_pos h5]
              exact loopB_ok body add fr hi hb ha f (k + 1) _ _ (by omega) (ha _ _ hv h3' h5) h
            · rename_i h5; exact absurd h h5
        · rename_i h3
          exact absurd (show ((body k (c + 1)).1.under 2).e = 0 from h) (by rw [under_e]; exact h3)
    · rename_i h1
      rw [if_neg h1]; exact hv
theorem loopB_mon (body : Int → G) (add : V → V → V × Int) (fr hi : Int) (hb : ∀ k, Mon (body k)) :
    ∀ (f : Nat) (k : Int) (v : V) (c : Nat), c ≤ (loopB body add fr hi f k v c).2 ∧ (c ≤ 2000 → (loopB body add fr hi f k v c).2 ≤ 2000)
  | 0, _, _, _ => ⟨Nat.le_refl _, fun h => h⟩
  | f + 1, k, v, c => by
    rw [loopB]
    have h3 := hb k (c + 1)
    split
    · split
      · exact ⟨Nat.le_refl _, fun h => h⟩
      · rename_i h2
        split
        · split
          · have := loopB_mon body add fr hi hb f (k + 1) (body k (c + 1)).1.v (body k (c + 1)).2
            exact ⟨by omega, fun h => this.2 (h3.2 (by omega))⟩
          · split
            · have := loopB_mon body add fr hi hb f (k + 1) (add v (body k (c + 1)).1.v).1 (body k (c + 1)).2
              exact ⟨by omega, fun h => this.2 (h3.2 (by omega))⟩
            · exact ⟨by show c ≤ (body k (c + 1)).2; omega, fun h => h3.2 (by omega)⟩
        · exact ⟨by show c ≤ (body k (c + 1)).2; omega, fun h => h3.2 (by omega)⟩
    · exact ⟨Nat.le_refl _, fun h => h⟩
theorem loopB_shf (body : Int → G) (add : V → V → V × Int) (fr hi : Int) (hb : ∀ k, Shf (body k)) :
    ∀ (f : Nat) (k : Int) (v : V) (c j : Nat), (loopB body add fr hi f k v (c + j)).1.e = 0 → ∃ m, loopB body add fr hi f k v (c + j) = ((loopB body add fr hi f k v (c + j)).1, c + j + m) ∧ loopB body add fr hi f k v c = ((loopB body add fr hi f k v (c + j)).1, c + m)
  | 0, _, _, _, _, h => absurd h nz6
  | f + 1, k, v, c, j, h => by
    rw [loopB] at h
    by_cases h1 : k ≤ hi
    · rw [if_pos h1] at h
      by_cases h2 : 2000 ≤ c + j
      · rw [if_pos h2] at h; exact absurd h nz6
      · rw [if_neg h2] at h
        have e0 : c + j + 1 = c + 1 + j := by omega
        rw [e0] at h
        by_cases h3 : (body k (c + 1 + j)).1.e = 0
        · rw [if_pos h3] at h
          obtain ⟨m, e1, e2⟩ := hb k (c + 1) j h3
          have e3 : (body k (c + 1)).1 = (body k (c + 1 + j)).1 := by rw [e2]
          have e4 : (body k (c + 1)).2 = c + 1 + m := by rw [e2]
          have e5 : (body k (c + 1 + j)).2 = c + 1 + m + j := by rw [e1]; show c + 1 + j + m = _; omega
          rw [e5] at h
          rw [loopB, loopB, if_pos h1, if_pos h1, if_neg h2, if_neg (show ¬ 2000 ≤ c by omega), e0, if_pos h3, e3, if_pos h3, e5, e4]
          by_cases h4 : k = fr
          · rw [if_pos h4] at h
            rw [if_pos h4, if_pos h4]
            obtain ⟨m2, f1, f2⟩ := loopB_shf body add fr hi hb f (k + 1) _ (c + 1 + m) j h
            exact ⟨1 + m + m2, by rw [f1]; exact Prod.ext rfl (by show _ = _; omega), by rw [f2]; exact Prod.ext rfl (by show _ = _; omega)⟩
          · rw [if_neg h4] at h
            rw [if_neg h4, if_neg h4]
            by_cases h5 : (add v (body k (c + 1 + j)).1.v).2 = 0
            · rw [if_pos h5] at h
              rw [if_pos h5, if_pos h5]
              obtain ⟨m2, f1, f2⟩ := loopB_shf body add fr hi hb f (k + 1) _ (c + 1 + m) j h
              exact ⟨1 + m + m2, by rw [f1]; exact Prod.ext rfl (by show _ = _; omega), by rw [f2]; exact Prod.ext rfl (by show _ = _; omega)⟩
            · rw [if_neg h5] at h; exact absurd h h5
        · rw [if_neg h3] at h
          exact absurd (show ((body k (c + 1 + j)).1.under 2).e = 0 from h) (by rw [under_e]; exact h3)
    · rw [loopB, loopB, if_neg h1, if_neg h1]
      exact ⟨0, rfl, rfl⟩
theorem addOf_ok (n : W8) (a b : V) (ha : a.ok) (h : (addOf n a b).2 = 0) : (addOf n a b).1.ok := by
  unfold addOf at h ⊢
  split at h <;> rename_i hn
  · rw [if_pos hn]; exact sumV_ok ha h
  · rw [if_neg hn]; exact proV_ok h
theorem zeroOf_ok (n : W8) : (zeroOf n).ok := by
  unfold zeroOf
  split
  · exact wh_ok (by omega)
  · exact wh_ok (by omega)
/-- whole numbers within the bounds -/
def inQ (k : Int) : Prop := -2147483647 ≤ k ∧ k ≤ 2147483647
theorem limG_ok {n : W8} {h : Int → G} (hh : ∀ k, inQ k → OKg (h k)) {a : (R × List V) × Nat} (ha : a.1.1.e = 0 → ∀ x ∈ a.1.2, x.ok) (he : (limG n h a).1.e = 0) : (limG n h a).1.v.ok := by
  obtain ⟨⟨r, l⟩, c⟩ := a
  unfold limG at he ⊢
  simp only at he ⊢ ha
  split at he
  · rename_i h0
    rw [if_pos h0]
    have hl := ha h0
    rcases l with _ | ⟨x, _ | ⟨y, _ | ⟨z, l⟩⟩⟩
    · exact absurd he nz1
    · exact absurd he nz1
    · simp only at he ⊢
      split at he
      · rename_i h1
        rw [if_pos h1]
        have hx := (hl x (by simp)).num
        have hy := (hl y (by simp)).num
        exact loopB_ok h (addOf n) x.num y.num (fun k h1 h2 => hh k ⟨by omega, by omega⟩) (fun a b ha _ h => addOf_ok n a b ha h) 2001 x.num (zeroOf n) c (Int.le_refl _) (zeroOf_ok n) he
      · rename_i h1; exact absurd he h1
    · exact absurd he nz1
  · rename_i h0; exact absurd he h0
theorem limG_mon {n : W8} {h : Int → G} (hh : ∀ k, Mon (h k)) (a : (R × List V) × Nat) : a.2 ≤ (limG n h a).2 ∧ (a.2 ≤ 2000 → (limG n h a).2 ≤ 2000) := by
  obtain ⟨⟨r, l⟩, c⟩ := a
  unfold limG
  simp only
  split
  · rcases l with _ | ⟨x, _ | ⟨y, _ | ⟨z, l⟩⟩⟩
    · exact ⟨Nat.le_refl _, fun h => h⟩
    · exact ⟨Nat.le_refl _, fun h => h⟩
    · simp only
      split
      · exact loopB_mon h (addOf n) x.num y.num hh 2001 x.num (zeroOf n) c
      · exact ⟨Nat.le_refl _, fun h => h⟩
    · exact ⟨Nat.le_refl _, fun h => h⟩
  · exact ⟨Nat.le_refl _, fun h => h⟩
theorem limG_shf {n : W8} {h : Int → G} (hh : ∀ k, Shf (h k)) (r : R × List V) (c j : Nat) (he : (limG n h (r, c + j)).1.e = 0) : ∃ m, limG n h (r, c + j) = ((limG n h (r, c + j)).1, c + j + m) ∧ limG n h (r, c) = ((limG n h (r, c + j)).1, c + m) := by
  obtain ⟨r, l⟩ := r
  unfold limG at he ⊢
  simp only at he ⊢
  by_cases h0 : r.e = 0
  · rw [if_pos h0] at he
    rw [if_pos h0, if_pos h0]
    rcases l with _ | ⟨x, _ | ⟨y, _ | ⟨z, l⟩⟩⟩
    · exact absurd he nz1
    · exact absurd he nz1
    · simp only at he ⊢
      by_cases h1 : (limE x y).e = 0
      · rw [if_pos h1] at he
        rw [if_pos h1, if_pos h1]
        exact loopB_shf h (addOf n) x.num y.num hh 2001 x.num (zeroOf n) c j he
      · rw [if_neg h1] at he; exact absurd he h1
    · exact absurd he nz1
  · rw [if_neg h0] at he; exact absurd he h0
theorem units_ok : ∀ p ∈ unitTab, p.2.ok := by
  unfold V.ok
  decide
theorem lookup_mem {β : Type} : ∀ {l : List (W8 × β)} {x : W8} {v : β}, l.lookup x = some v → (x, v) ∈ l
  | [], _, _, h => by simp at h
  | (y, u) :: l, x, v, h => by
    rw [List.lookup_cons] at h
    by_cases hx : x = y
    · subst hx; simp at h; subst h; exact List.mem_cons_self
    · have : (x == y) = false := by simpa using hx
      rw [this] at h
      exact List.mem_cons_of_mem _ (lookup_mem h)
def Sc.ok (s : Sc) : Prop := ∀ p ∈ s, p.2.ok
theorem num_ok {n : W8} (h : (numR' n).e = 0) : (numR' n).v.ok := join_ok parse_valid (fun _ => rfl) h
theorem args_list {N : Nat} {t : T} (h : t.size ≤ N + 1) {P : T → Prop} (ih : ∀ u : T, u.size ≤ N → P u) : ∀ u ∈ t.args, P u := fun u hu => ih u (size_list h hu)
theorem stepN_cases (k : Int) (n : W8) (lk : R) (gs : List G) (hs : List (Int → G)) (P : R × Nat → Prop) (c : Nat) (h1 : P (numR' n, c)) (h2 : P (lk, c)) (h3 : P (unitR n, c)) (h5 : P (bindG n gs hs c)) (h4 : P (applyG n gs c)) : P (stepN k n lk gs hs c) := by
  unfold stepN
  split
  · exact h1
  · split
    · exact h2
    · split
      · exact h3
      · split
        · exact h5
        · exact h4
theorem ev_ok : ∀ (N : Nat) (t : T), t.size ≤ N → ∀ (s : Sc), s.ok → OKg (ev t s)
  | 0, t, h, _, _ => by have := size_pos t; omega
  | N + 1, t, h, s, hs => fun c => by
    have ih := fun (u : T) (hu : u ∈ t.args) => ev_ok N u (size_list h hu)
    rw [ev_eq]
    refine stepN_cases _ _ _ _ _ (fun r => r.1.e = 0 → r.1.v.ok) c num_ok (lookR_ok fun v hv => hs _ (lookup_mem hv)) (lookR_ok fun v hv => units_ok _ (lookup_mem hv)) ?_ ?_
    · by_cases h3 : t.args.length = 3
      · obtain ⟨a, b, e, hargs⟩ := three h3
        rw [hargs] at ih ⊢
        rw [evs, evs, evs, evs, evh, evh, evh, evh, bindG_three]
        split
        · refine limG_ok (fun k hk => ih e (by simp) _ (fun p hp => ?_)) (fun h0 => (argsG_ok _ _ _ _ (fun g hg => ?_) (fun x hx => by cases hx) h0).1)
          · rcases List.mem_cons.1 hp with rfl | hp
            · exact wh_ok hk
            · exact hs p hp
          · rcases List.mem_cons.1 hg with rfl | hg
            · exact ih a (by simp) s hs
            · rw [List.mem_singleton] at hg; subst hg; exact ih b (by simp) s hs
        · intro h; first | exact absurd h nz13 | exact absurd h nz15
      · intro hh
        rw [bindG_len (by rw [evs_map, List.length_map]; exact h3)] at hh
        split at hh <;> first | exact absurd hh nz13 | exact absurd hh nz15
    · unfold applyG
      split
      · intro h; first | exact absurd h nz13 | exact absurd h nz15
      · rename_i ar k _
        split
        · split
          · rename_i h0
            intro he
            exact opK_ok _ _ (argsG_ok _ _ _ _ (fun g hg => by
              rw [evs_map] at hg
              obtain ⟨u, hu, rfl⟩ := List.mem_map.1 hg
              exact ih u hu s hs) (fun x hx => by cases hx) h0).1 he
          · rename_i h0; intro he; exact absurd he h0
        · intro h; first | exact absurd h nz13 | exact absurd h nz15
theorem ev_mon : ∀ (N : Nat) (t : T), t.size ≤ N → ∀ (s : Sc), Mon (ev t s)
  | 0, t, h, _ => by have := size_pos t; omega
  | N + 1, t, h, s => fun c => by
    have ih := fun (u : T) (hu : u ∈ t.args) => ev_mon N u (size_list h hu)
    have hr : ∀ r : R, c ≤ ((r, c) : R × Nat).2 ∧ (c ≤ 2000 → ((r, c) : R × Nat).2 ≤ 2000) := fun r => ⟨Nat.le_refl _, fun h => h⟩
    have hgs : ∀ g ∈ evs t.args s, Mon g := fun g hg => by
      rw [evs_map] at hg
      obtain ⟨u, hu, rfl⟩ := List.mem_map.1 hg
      exact ih u hu s
    rw [ev_eq]
    refine stepN_cases _ _ _ _ _ (fun r => c ≤ r.2 ∧ (c ≤ 2000 → r.2 ≤ 2000)) c (hr _) (hr _) (hr _) ?_ ?_
    · by_cases h3 : t.args.length = 3
      · obtain ⟨a, b, e, hargs⟩ := three h3
        rw [hargs] at ih ⊢
        rw [evs, evs, evs, evs, evh, evh, evh, evh, bindG_three]
        split
        · have h1 := argsG_mon [ev a s, ev b s] 0 c [] (fun g hg => by
            rcases List.mem_cons.1 hg with rfl | hg
            · exact ih a (by simp) s
            · rw [List.mem_singleton] at hg; subst hg; exact ih b (by simp) s)
          have h2 := limG_mon (n := t.name) (h := fun k => ev e ((t.var, whV k) :: s)) (fun k => ih e (by simp) _) (argsG 0 [ev a s, ev b s] c [])
          exact ⟨Nat.le_trans h1.1 h2.1, fun h => h2.2 (h1.2 h)⟩
        · exact hr _
      · rw [bindG_len (by rw [evs_map, List.length_map]; exact h3)]
        split <;> exact hr _
    · unfold applyG
      split
      · exact hr _
      · split
        · have h1 := argsG_mon (evs t.args s) 0 c [] hgs
          split <;> exact h1
        · exact hr _
theorem ev_shf : ∀ (N : Nat) (t : T), t.size ≤ N → ∀ (s : Sc), Shf (ev t s)
  | 0, t, h, _ => by have := size_pos t; omega
  | N + 1, t, h, s => fun c j => by
    have ih := fun (u : T) (hu : u ∈ t.args) => ev_shf N u (size_list h hu)
    have hgs : ∀ g ∈ evs t.args s, Shf g := fun g hg => by
      rw [evs_map] at hg
      obtain ⟨u, hu, rfl⟩ := List.mem_map.1 hg
      exact ih u hu s
    rw [ev_eq]
    unfold stepN
    split
    · exact fun _ => ⟨0, rfl, rfl⟩
    · split
      · exact fun _ => ⟨0, rfl, rfl⟩
      · split
        · exact fun _ => ⟨0, rfl, rfl⟩
        · split
          · by_cases h3 : t.args.length = 3
            · obtain ⟨a, b, e, hargs⟩ := three h3
              rw [hargs] at ih ⊢
              rw [evs, evs, evs, evs, evh, evh, evh, evh, bindG_three, bindG_three]
              split
              · intro he
                have hab : ∀ g ∈ [ev a s, ev b s], Shf g := fun g hg => by
                  rcases List.mem_cons.1 hg with rfl | hg
                  · exact ih a (by simp) s
                  · rw [List.mem_singleton] at hg; subst hg; exact ih b (by simp) s
                have h0 : (argsG 0 [ev a s, ev b s] (c + j) []).1.1.e = 0 := by
                  generalize argsG 0 [ev a s, ev b s] (c + j) [] = A at he ⊢
                  unfold limG at he
                  split at he
                  · assumption
                  · exact he
                obtain ⟨m, e1, e2⟩ := argsG_shf _ 0 c j [] hab h0
                rw [e2]
                generalize argsG 0 [ev a s, ev b s] (c + j) [] = A at *
                obtain ⟨r, c1⟩ := A
                obtain rfl : c1 = c + j + m := (Prod.ext_iff.1 e1).2
                have e5 : c + j + m = c + m + j := by omega
                rw [e5] at he ⊢
                obtain ⟨m2, f1, f2⟩ := limG_shf (n := t.name) (h := fun k => ev e ((t.var, whV k) :: s)) (fun k => ih e (by simp) _) r (c + m) j he
                exact ⟨m + m2, by rw [f1]; exact Prod.ext rfl (by show _ = _; omega), by show limG _ _ (r, c + m) = _; rw [f2]; exact Prod.ext rfl (by show _ = _; omega)⟩
              · exact fun _ => ⟨0, rfl, rfl⟩
            · rw [bindG_len (by rw [evs_map, List.length_map]; exact h3), bindG_len (by rw [evs_map, List.length_map]; exact h3)]
              split <;> exact fun _ => ⟨0, rfl, rfl⟩
          · unfold applyG
            split
            · exact fun _ => ⟨0, rfl, rfl⟩
            · split
              · by_cases h0 : (argsG 0 (evs t.args s) (c + j) []).1.1.e = 0
                · rw [if_pos h0]
                  intro he
                  obtain ⟨m, e1, e2⟩ := argsG_shf _ 0 c j [] hgs h0
                  rw [e2]
                  generalize argsG 0 (evs t.args s) (c + j) [] = A at *
                  obtain ⟨r, c1⟩ := A
                  obtain rfl : c1 = c + j + m := (Prod.ext_iff.1 e1).2
                  rw [if_pos h0]
                  exact ⟨m, rfl, rfl⟩
                · rw [if_neg h0]
                  intro he; exact absurd he h0
              · exact fun _ => ⟨0, rfl, rfl⟩
end Go.Proofs.YtknpigdpepmimaaGreatDoor

namespace Go.Proofs.YtknpigdpepmimaaGreatDoor
theorem under_len (r : R) (i : Int) : (r.under i).path.length ≤ r.path.length + 1 := by
  unfold R.under; split
  · omega
  · simp
theorem argsG_path {N : Nat} : ∀ (gs : List G) (i c : Nat) (out : List V), (∀ g ∈ gs, ∀ c, (g c).1.path.length ≤ N) → (argsG i gs c out).1.1.path.length ≤ N + 1
  | [], _, _, _, _ => Nat.zero_le _
  | g :: gs, i, c, out, hg => by
    rw [argsG]
    split
    · exact argsG_path gs _ _ _ (fun g h => hg g (List.mem_cons_of_mem _ h))
    · have h1 := under_len (g c).1 i
      have h2 := hg g List.mem_cons_self c
      show ((g c).1.under i).path.length ≤ _
      omega
theorem loopB_path {N : Nat} (body : Int → G) (add : V → V → V × Int) (fr hi : Int) (hb : ∀ k c, (body k c).1.path.length ≤ N) :
    ∀ (f : Nat) (k : Int) (v : V) (c : Nat), (loopB body add fr hi f k v c).1.path.length ≤ N + 1
  | 0, _, _, _ => Nat.zero_le _
  | f + 1, k, v, c => by
    rw [loopB]
    split
    · split
      · exact Nat.zero_le _
      · split
        · split
          · exact loopB_path body add fr hi hb f _ _ _
          · split
            · exact loopB_path body add fr hi hb f _ _ _
            · exact Nat.zero_le _
        · have h1 := under_len (body k (c + 1)).1 2
          have h2 := hb k (c + 1)
          show ((body k (c + 1)).1.under 2).path.length ≤ _
          omega
    · exact Nat.zero_le _
theorem limE_path (x y : V) : (limE x y).path.length ≤ 1 := by
  unfold limE
  split
  · split
    · split
      · split
        · exact Nat.zero_le _
        · exact Nat.le_refl _
      · exact Nat.le_refl _
    · exact Nat.le_refl _
  · exact Nat.le_refl _
theorem limG_path {N : Nat} {n : W8} {h : Int → G} (hh : ∀ k c, (h k c).1.path.length ≤ N) {a : (R × List V) × Nat} (ha : a.1.1.path.length ≤ N + 1) : (limG n h a).1.path.length ≤ N + 1 := by
  obtain ⟨⟨r, l⟩, c⟩ := a
  unfold limG
  simp only at ha ⊢
  split
  · rcases l with _ | ⟨x, _ | ⟨y, _ | ⟨z, l⟩⟩⟩
    · exact Nat.zero_le _
    · exact Nat.zero_le _
    · simp only
      split
      · exact loopB_path h (addOf n) x.num y.num hh 2001 x.num (zeroOf n) c
      · exact Nat.le_trans (limE_path x y) (by omega)
    · exact Nat.zero_le _
  · exact ha
theorem lookR_path {α : Type} (f : α → Option V) (x : α) : (lookR f x).path.length ≤ 0 := by
  unfold lookR; split <;> exact Nat.le_refl _
theorem ev_path : ∀ (N : Nat) (t : T), t.size ≤ N → ∀ (s : Sc) (c : Nat), (ev t s c).1.path.length ≤ N
  | 0, t, h, _, _ => by have := size_pos t; omega
  | N + 1, t, h, s, c => by
    have ih := fun (u : T) (hu : u ∈ t.args) => ev_path N u (size_list h hu)
    have hgs : ∀ g ∈ evs t.args s, ∀ c, (g c).1.path.length ≤ N := fun g hg => by
      rw [evs_map] at hg
      obtain ⟨u, hu, rfl⟩ := List.mem_map.1 hg
      exact ih u hu s
    rw [ev_eq]
    refine stepN_cases _ _ _ _ _ (fun r => r.1.path.length ≤ N + 1) c (Nat.zero_le _) (Nat.le_trans (lookR_path _ _) (Nat.zero_le _)) (Nat.le_trans (lookR_path _ _) (Nat.zero_le _)) ?_ ?_
    · by_cases h3 : t.args.length = 3
      · obtain ⟨a, b, e, hargs⟩ := three h3
        rw [hargs] at ih ⊢
        rw [evs, evs, evs, evs, evh, evh, evh, evh, bindG_three]
        split
        · refine limG_path (fun k c => ih e (by simp) _ c) (argsG_path _ _ _ _ (fun g hg => ?_))
          rcases List.mem_cons.1 hg with rfl | hg
          · exact ih a (by simp) s
          · rw [List.mem_singleton] at hg; subst hg; exact ih b (by simp) s
        · exact Nat.zero_le _
      · rw [bindG_len (by rw [evs_map, List.length_map]; exact h3)]
        split <;> exact Nat.zero_le _
    · unfold applyG
      split
      · exact Nat.zero_le _
      · split
        · split
          · exact Nat.zero_le _
          · exact argsG_path _ _ _ _ hgs
        · exact Nat.zero_le _
end Go.Proofs.YtknpigdpepmimaaGreatDoor

namespace Go.Proofs.YtknpigdpepmimaaGreatDoor.Q
open Go.RowKit
theorem dec_ten (n : Nat) (h : ¬ n < 10) : Lib.decDigits n = Lib.decDigits (n / 10) ++ Lib.decDigits (n % 10) := by
  rw [Lib.decDigits_one (i := n % 10) (Nat.mod_lt _ (by decide))]
  conv => lhs; rw [Lib.decDigits]
  rw [dif_neg h]
/-- 'string([]byte{b})' -/
theorem conv_one (b : Int) (w : World) : (convert 183 9 (.slice (some ⟨w.heap.size, 0, none⟩) 1 1)).run Tryz.prog (w.alloc (.cells #[.int .u8 b] 5)) = .ok (.string ⟨#[UInt8.ofNat b.toNat]⟩) (w.alloc (.cells #[.int .u8 b] 5)) := by
  rw [run_convert_bytes_string _ 183 9 5 _ _ _ Tryz.underlying183 Tryz.underlying5 Tryz.underlying9]
  rw [run_bytesToString _ _ _ _ [b] (by simp [loadCells, go_sem])]
  rfl
theorem cat (a b : List UInt8) : (⟨a.toArray⟩ : ByteArray) ++ ⟨b.toArray⟩ = ⟨(a ++ b).toArray⟩ := by
  apply ByteArray.ext
  rw [ByteArray.data_append]
  simp
set_option maxHeartbeats 400000 in
theorem digit1 (n : Nat) (w : World) (h : n < 10) :
    Calls Tryz.prog 104 #[.int .i64 n] w fun e w' => e = .returned (.string ⟨(Lib.decDigits n).toArray⟩) ∧ Below w.heap.size w w' := by
  have hz : (n : Int) < 10 := by omega
  have hc := fun w => conv_one (48 + (n : Int)) w
  go_enter Tryz.func104, Tryz.ntmps104
  go_wp2_with fail
  go_ret
  refine ⟨?_, (Below.refl _ _).alloc (Nat.le_refl _) _⟩
  rw [Lib.decDigits_one h]
  rw [show (48 + n : Nat) = (48 + (n : Int)).toNat from by omega]
  rfl
set_option maxHeartbeats 400000 in
theorem digits_any (k : Nat) : ∀ (n : Nat) (w : World), n ≤ k → n ≤ 9223372036854775807 →
    Calls Tryz.prog 104 #[.int .i64 n] w fun e w' => e = .returned (.string ⟨(Lib.decDigits n).toArray⟩) ∧ Below w.heap.size w w' := by
  induction k with
  | zero => intro n w hk hN; exact digit1 n w (by omega)
  | succ k ih =>
    intro n w hk hN
    by_cases h : n < 10
    · exact digit1 n w h
    · have hz : ¬ (n : Int) < 10 := by omega
      have IH := Lib.hid ih
      have hl1 : (Lib.decDigits (n / 10)).length ≤ 30 := by have := Lib.itoa_length_le ((n / 10 : Nat) : Int) (by omega) (by omega); rw [Lib.itoa_nonneg] at this; omega
      have hl2 : (Lib.decDigits (n % 10)).length ≤ 30 := by have := Lib.itoa_length_le ((n % 10 : Nat) : Int) (by omega) (by omega); rw [Lib.itoa_nonneg] at this; omega
      have HD := Lib.hid (dec_ten n h)
      clear ih
      go_enter Tryz.func104, Tryz.ntmps104
      go_wp2_with fail
      rw [show ((n : Int) / 10) = ((n / 10 : Nat) : Int) from by simp]
      refine (IH.out (n / 10) _ (by omega) (by omega)).mono ?_
      rintro e w1 ⟨rfl, hb1⟩
      go_wp2_with fail
      rw [show ((n : Int) % 10) = ((n % 10 : Nat) : Int) from by simp]
      refine (digit1 (n % 10) _ (Nat.mod_lt _ (by decide))).mono ?_
      rintro e w2 ⟨rfl, hb2⟩
      have hB : Below w.heap.size w w2 := hb1.trans (hb2.mono hb1.size)
      clear hb1 hb2
      generalize Lib.decDigits (n / 10) = d1 at *
      generalize Lib.decDigits (n % 10) = d2 at *
      go_wp2
      go_ret
      refine ⟨?_, hB⟩
      rw [HD.out, ← cat]
      rfl
set_option maxHeartbeats 400000 in
theorem number_any (n : Int) (w : World) (h0 : -9223372036854775807 ≤ n) (h1 : n ≤ 9223372036854775807) :
    Calls Tryz.prog 56 #[.int .i64 n] w fun e w' => e = .returned (.string ⟨(Lib.itoa n).toArray⟩) ∧ Below w.heap.size w w' := by
  have hlen := Lib.itoa_length_le n (by omega) (by omega)
  by_cases h : n < 0
  · obtain ⟨u, rfl⟩ : ∃ u : Nat, n = -(u : Int) := ⟨n.natAbs, by omega⟩
    rw [Lib.itoa_neg u (by omega)] at hlen ⊢
    have hl : (Lib.decDigits u).length ≤ 30 := by simp at hlen; omega
    have HC : Hid ((⟨#[45]⟩ : ByteArray) ++ ⟨(Lib.decDigits u).toArray⟩ = ⟨(45 :: Lib.decDigits u).toArray⟩) := cat [45] (Lib.decDigits u)
    clear hlen
    go_enter Tryz.func56, Tryz.ntmps56
    go_wp2_with fail
    refine (digits_any u u _ (Nat.le_refl _) (by omega)).mono ?_
    rintro e w1 ⟨rfl, hb1⟩
    go_wp2
    go_ret
    refine ⟨?_, hb1⟩
    rw [← HC.out]
    rfl
  · obtain ⟨u, rfl⟩ : ∃ u : Nat, n = (u : Int) := ⟨n.natAbs, by omega⟩
    rw [Lib.itoa_nonneg u]
    clear hlen
    go_enter Tryz.func56, Tryz.ntmps56
    go_wp2_with fail
    refine (digits_any u u _ (Nat.le_refl _) (by omega)).mono ?_
    rintro e w1 ⟨rfl, hb1⟩
    go_wp2
    go_ret
    exact ⟨rfl, hb1⟩
/-- the text of a number -/
def txt (n d : Int) : List UInt8 := if validQ n d then (if d = 1 then Lib.itoa n else Lib.itoa n ++ [47] ++ Lib.itoa d) else []
set_option maxHeartbeats 1000000 in
theorem refText_any (n d : Int) (w : World) (hn : -9223372036854775808 ≤ n) (hN : n ≤ 9223372036854775807) (hd : -9223372036854775808 ≤ d) (hD : d ≤ 9223372036854775807) :
    Calls Tryz.prog 27 #[.agg #[.int .i64 n, .int .i64 d]] w fun e w' => e = .returned (.string ⟨(txt n d).toArray⟩) ∧ Below w.heap.size w w' := by
  have q0 : (w.alloc (.cells #[.int .i64 n, .int .i64 d] 64)).cell? ⟨w.heap.size, 0, none⟩ = some (.int .i64 n) := by simp
  have q1 : (w.alloc (.cells #[.int .i64 n, .int .i64 d] 64)).cell? ⟨w.heap.size, 1, none⟩ = some (.int .i64 d) := by simp
  have hbw : Hid (Below w.heap.size w (w.alloc (.cells #[.int .i64 n, .int .i64 d] 64))) := (Below.refl _ _).alloc (Nat.le_refl _) _
  cases hv : validQ n d with
  | false =>
    have HT : Hid (txt n d = []) := by show txt n d = []; unfold txt; rw [hv]; rfl
    have HV := Lib.hid hv
    clear hv
    go_enter Tryz.func27, Tryz.ntmps27
    go_wp2_with fail
    refine (refValid_any n d _ hn hN hd hD).mono ?_
    rw [HV.out]
    rintro e w1 ⟨rfl, hb1⟩
    obtain ⟨_, _, _, hB1⟩ := res2 hb1
    clear hb1
    go_wp2
    go_ret
    refine ⟨?_, hB1⟩
    rw [HT.out]
    rfl
  | true =>
    have HV := Lib.hid hv
    obtain ⟨h1, h2, h3, h4, _⟩ := (valid_iff n d).1 hv
    have hln := Lib.itoa_length_le n (by omega) (by omega)
    have hld := Lib.itoa_length_le d (by omega) (by omega)
    by_cases hd1 : d = 1
    · have HT : Hid (txt n d = Lib.itoa n) := by show txt n d = _; unfold txt; rw [hv, if_pos rfl, if_pos hd1]
      subst hd1
      clear hv
      go_enter Tryz.func27, Tryz.ntmps27
      go_wp2_with fail
      refine (refValid_any n 1 _ hn hN hd hD).mono ?_
      rw [HV.out]
      rintro e w1 ⟨rfl, hb1⟩
      obtain ⟨⟨p0, p1⟩, _, _, hB1⟩ := res2 hb1
      have HB1 := Lib.hid hB1
      have hs1 := hB1.size
      clear hb1 hB1
      go_wp2_with fail
      refine (number_any n _ (by omega) (by omega)).mono ?_
      rintro e w2 ⟨rfl, hb2⟩
      have hB2 := HB1.out.trans (hb2.mono hs1)
      clear hb2
      go_wp2
      go_ret
      refine ⟨?_, hB2⟩
      rw [HT.out]
      rfl
    · have HT : Hid (txt n d = Lib.itoa n ++ [47] ++ Lib.itoa d) := by show txt n d = _; unfold txt; rw [hv, if_pos rfl, if_neg hd1]
      have hd1' : (d == 1) = false := by simpa using hd1
      clear hv
      go_enter Tryz.func27, Tryz.ntmps27
      go_wp2_with fail
      refine (refValid_any n d _ hn hN hd hD).mono ?_
      rw [HV.out]
      rintro e w1 ⟨rfl, hb1⟩
      obtain ⟨⟨p0, p1⟩, _, _, hB1⟩ := res2 hb1
      have HB1 := Lib.hid hB1
      have hs1 := hB1.size
      clear hb1 hB1
      go_wp2
      have k0 := fun d os => cell_regrown p0 d os
      have k1 := fun d os => cell_regrown p1 d os
      have cI := Lib.hid fun (x : Int) dd os (hx : -9223372036854775807 ≤ x) (hX : x ≤ 9223372036854775807) => Calls.regrown_of (number_any x (Sort.grow (redrawn w1 dd) os) (by omega) hX)
      refine wp_region_quiet_below (by kernel_rfl) (by kernel_rfl) ?_
      repeat (first | go_big_quiet_step ((go_at_call 56; exact cI.out _ _ _ (by omega) (by omega))) | quiet_step ((go_at_call 56; exact cI.out _ _ _ (by omega) (by omega))))
      refine wpQuiet_nil ?_
      intro _ hw'
      obtain ⟨⟨dq, osq⟩, hw''⟩ := hw'
      subst hw''
      have hB2 := HB1.out.trans ((below_regrown w1 dq osq).mono hs1)
      clear cI k0 k1
      go_wp2
      go_ret
      refine ⟨?_, hB2⟩
      rw [HT.out, ← cat, ← cat]
      rfl
end Go.Proofs.YtknpigdpepmimaaGreatDoor.Q
