/- Values in other units, plain: a term without texts has the rescaled value in the rescaled environment, or ErrValue. No program. -/
import Derived.Test.YtknpigdpepmimaaGreatDoorM26
import Derived.Test.YtknpigdpepmimaaGreatDoorM40
import Derived.Test.YtknpigdpepmimaaGreatDoorM41
namespace Go.Proofs.YtknpigdpepmimaaGreatDoor
mutual
/-- a term has a text -/
def txB : T → Bool
  | .mk k _ _ ys _ => txBs ys || decide (k = 3)
def txBs : List T → Bool
  | [] => false
  | t :: ts => txB t || txBs ts
end
theorem txB_eq (t : T) : txB t = (txBs t.args || decide (t.kind = 3)) := by
  cases t with
  | mk k n v ys f => rw [txB]; rfl
theorem txBs_mem : ∀ {ts : List T}, txBs ts = false → ∀ u ∈ ts, txB u = false
  | t :: ts, h, u, hu => by
    rw [txBs, Bool.or_eq_false_iff] at h
    rcases List.mem_cons.1 hu with rfl | hu
    · exact h.1
    · exact txBs_mem h.2 u hu
theorem txB_parts {t : T} (h : txB t = false) : t.kind ≠ 3 ∧ ∀ u ∈ t.args, txB u = false := by
  rw [txB_eq, Bool.or_eq_false_iff, decide_eq_false_iff_not] at h
  exact ⟨h.2, txBs_mem h.1⟩
/-- the second list is the first one in other units -/
def SclL (F : Fs) : List V → List V → Prop
  | [], [] => True
  | a :: l, b :: m => Scl F a b ∧ SclL F l m
  | _, _ => False
theorem SclL.len {F : Fs} : ∀ {l m : List V}, SclL F l m → l.length = m.length
  | [], [], _ => rfl
  | a :: l, b :: m, h => by
    unfold SclL at h
    rw [List.length_cons, List.length_cons, SclL.len h.2]
  | [], _ :: _, h => by unfold SclL at h; exact h.elim
  | _ :: _, [], h => by unfold SclL at h; exact h.elim
theorem SclL.snoc {F : Fs} {a b : V} (hab : Scl F a b) : ∀ {l m : List V}, SclL F l m → SclL F (l ++ [a]) (m ++ [b])
  | [], [], _ => by
    show SclL F [a] [b]
    unfold SclL SclL
    exact ⟨hab, trivial⟩
  | x :: l, y :: m, h => by
    unfold SclL at h
    show SclL F (x :: (l ++ [a])) (y :: (m ++ [b]))
    unfold SclL
    exact ⟨h.1, SclL.snoc hab h.2⟩
  | [], _ :: _, h => by unfold SclL at h; exact h.elim
  | _ :: _, [], h => by unfold SclL at h; exact h.elim
theorem SclL.one {F : Fs} {a : V} : ∀ {m : List V}, SclL F [a] m → ∃ b, m = [b] ∧ Scl F a b
  | [], h => by unfold SclL at h; exact h.elim
  | [b], h => by unfold SclL at h; exact ⟨b, rfl, h.1⟩
  | b :: c :: m, h => by unfold SclL at h; have := h.2; unfold SclL at this; exact this.elim
theorem SclL.two {F : Fs} {a a2 : V} : ∀ {m : List V}, SclL F [a, a2] m → ∃ b b2, m = [b, b2] ∧ Scl F a b ∧ Scl F a2 b2
  | [], h => by unfold SclL at h; exact h.elim
  | b :: m, h => by
    unfold SclL at h
    obtain ⟨b2, rfl, h2⟩ := SclL.one h.2
    exact ⟨b, b2, rfl, h.1, h2⟩
theorem opK_scl {F : Fs} (k : Nat) {l l' : List V} (hl : ∀ x ∈ l, x.ok) (hs : SclL F l l') (h : (opK k l).2 = 0) : SclR F (opK k l) (opK k l') := by
  rcases l with _ | ⟨a, _ | ⟨b, _ | ⟨c, l⟩⟩⟩
  · exfalso
    revert h
    rcases k with _ | _ | _ | _ | _ | _ | _ | _ | _ | _ | k <;> exact fun h => absurd h nz1
  · obtain ⟨a', rfl, h1⟩ := hs.one
    have ha := hl a (by simp)
    rcases k with _ | _ | _ | _ | _ | _ | _ | _ | _ | _ | k
    · exact absurd h nz1
    · exact absurd h nz1
    · exact neg_scl ha h1
    · exact .inr ⟨rfl, h1⟩
    · exact absurd h nz1
    · exact absurd h nz1
    · exact absurd h nz1
    · exact roo_scl ha h1 h
    · exact abs_scl ha h1
    · exact fac_scl ha h1 h
    · exact absurd h nz1
  · obtain ⟨a', b', rfl, h1, h2⟩ := hs.two
    have ha := hl a (by simp)
    have hb := hl b (by simp)
    rcases k with _ | _ | _ | _ | _ | _ | _ | _ | _ | _ | k
    · exact sum_scl ha hb h1 h2 h
    · exact dif_scl ha hb h1 h2 h
    · exact absurd h nz1
    · exact absurd h nz1
    · exact pro_scl ha hb h1 h2 h
    · exact quo_scl ha hb h1 h2 h
    · exact pow_scl ha hb h1 h2 h
    · exact absurd h nz1
    · exact absurd h nz1
    · exact absurd h nz1
    · exact absurd h nz1
  · exfalso
    revert h
    rcases k with _ | _ | _ | _ | _ | _ | _ | _ | _ | _ | k <;> exact fun h => absurd h nz1
/-- in other units: the same with the same count, or ErrValue -/
def SclG (F : Fs) (g g' : G) : Prop := ∀ c, (g c).1.e = 0 → (g' c).1.e = 17 ∨ ((g' c).1.e = 0 ∧ Scl F (g c).1.v (g' c).1.v ∧ (g' c).2 = (g c).2)
theorem nz17 : ¬ (17 : Int) = 0 := by decide
theorem argsG_scl {F : Fs} {α : Type} (f f' : α → G) : ∀ (xs : List α) (i c : Nat) (out out' : List V), (∀ x ∈ xs, OKg (f x) ∧ SclG F (f x) (f' x)) → (∀ x ∈ out, x.ok) → SclL F out out' → (argsG i (xs.map f) c out).1.1.e = 0 →
    (argsG i (xs.map f') c out').1.1.e = 17 ∨ ((argsG i (xs.map f') c out').1.1.e = 0 ∧ SclL F (argsG i (xs.map f) c out).1.2 (argsG i (xs.map f') c out').1.2 ∧ (argsG i (xs.map f') c out').2 = (argsG i (xs.map f) c out).2)
  | [], i, c, out, out', _, _, hs, _ => .inr ⟨rfl, hs, rfl⟩
  | x :: xs, i, c, out, out', hg, ho, hs, he => by
    rw [List.map_cons, argsG] at he
    by_cases h0 : (f x c).1.e = 0
    · rw [if_pos h0] at he
      have hx := hg x List.mem_cons_self
      rw [List.map_cons, List.map_cons, argsG, argsG, if_pos h0]
      rcases hx.2 c h0 with h1 | ⟨h1, h2, h3⟩
      · rw [if_neg (by rw [h1]; exact nz17)]
        exact .inl (by rw [under_e]; exact h1)
      · rw [if_pos h1, h3]
        refine argsG_scl f f' xs (i + 1) _ _ _ (fun y hy => hg y (List.mem_cons_of_mem _ hy)) (fun y hy => ?_) (hs.snoc h2) he
        rcases List.mem_append.1 hy with hy | hy
        · exact ho y hy
        · rw [List.mem_singleton] at hy; subst hy; exact hx.1 c h0
    · rw [if_neg h0] at he
      exact absurd (show ((f x c).1.under i).e = 0 from he) (by rw [under_e]; exact h0)
theorem addOf_scl {F : Fs} (n : W8) {a b a' b' : V} (ha : a.ok) (hb : b.ok) (h1 : Scl F a a') (h2 : Scl F b b') (h : (addOf n a b).2 = 0) : SclR F (addOf n a b) (addOf n a' b') := by
  unfold addOf at h ⊢
  split at h <;> rename_i hn
  · rw [if_pos hn]; exact sum_scl ha hb h1 h2 h
  · rw [if_neg hn]; exact pro_scl ha hb h1 h2 h
theorem loopB_scl {F : Fs} (n : W8) (body body' : Int → G) (fr hi : Int) (hb : ∀ k, fr ≤ k → k ≤ hi → OKg (body k) ∧ SclG F (body k) (body' k)) :
    ∀ (f : Nat) (k : Int) (v v' : V) (c : Nat), fr ≤ k → v.ok → Scl F v v' → (loopB body (addOf n) fr hi f k v c).1.e = 0 →
      (loopB body' (addOf n) fr hi f k v' c).1.e = 17 ∨ ((loopB body' (addOf n) fr hi f k v' c).1.e = 0 ∧ Scl F (loopB body (addOf n) fr hi f k v c).1.v (loopB body' (addOf n) fr hi f k v' c).1.v ∧ (loopB body' (addOf n) fr hi f k v' c).2 = (loopB body (addOf n) fr hi f k v c).2)
  | 0, _, _, _, _, _, _, _, h => absurd h nz6
  | f + 1, k, v, v', c, hk, hv, hs, h => by
    rw [loopB] at h
    by_cases h1 : k ≤ hi
    · rw [if_pos h1] at h
      by_cases h2 : 2000 ≤ c
      · rw [if_pos h2] at h; exact absurd h nz6
      rw [if_neg h2] at h
      by_cases h3 : (body k (c + 1)).1.e = 0
      · rw [if_pos h3] at h
        have hbk := hb k hk h1
        have hok := hbk.1 (c + 1) h3
        rw [loopB, loopB, if_pos h1, if_pos h1, if_neg h2, if_neg h2, if_pos h3]
        rcases hbk.2 (c + 1) h3 with g1 | ⟨g1, g2, g3⟩
        · rw [if_neg (by rw [g1]; exact nz17)]
          exact .inl (by rw [under_e]; exact g1)
        · rw [if_pos g1, g3]
          by_cases h4 : k = fr
          · rw [if_pos h4] at h
            rw [if_pos h4, if_pos h4]
            exact loopB_scl n body body' fr hi hb f (k + 1) _ _ _ (by omega) hok g2 h
          · rw [if_neg h4] at h
            rw [if_neg h4, if_neg h4]
            by_cases h5 : (addOf n v (body k (c + 1)).1.v).2 = 0
            · rw [if_pos h5] at h
              rw [if_pos h5]
              rcases addOf_scl n hv hok hs g2 h5 with e1 | ⟨e1, e2⟩
              · rw [if_neg (by rw [e1]; exact nz17)]
                exact .inl e1
              · rw [if_pos e1]
                exact loopB_scl n body body' fr hi hb f (k + 1) _ _ _ (by omega) (addOf_ok n _ _ hv h5) e2 h
            · rw [if_neg h5] at h; exact absurd h h5
      · rw [if_neg h3] at h
        exact absurd (show ((body k (c + 1)).1.under 2).e = 0 from h) (by rw [under_e]; exact h3)
    · rw [loopB, loopB, if_neg h1, if_neg h1]
      exact .inr ⟨rfl, hs, rfl⟩
theorem zeroOf_scl {F : Fs} (n : W8) : Scl F (zeroOf n) (zeroOf n) := Scl.same (zeroOf_ok n) (by unfold zeroOf; split <;> rfl)
theorem limE_dims {x y : V} (h : (limE x y).e = 0) : x.dim = zD ∧ y.dim = zD := by
  unfold limE at h
  split at h
  · rename_i h1
    split at h
    · rename_i h2; exact ⟨h1, h2⟩
    · exact absurd h (by decide)
  · exact absurd h (by decide)
theorem limG_scl {F : Fs} {n : W8} {h h' : Int → G} (hh : ∀ k, inQ k → OKg (h k) ∧ SclG F (h k) (h' k)) {a a' : (R × List V) × Nat} (ha : a.1.1.e = 0 → ∀ x ∈ a.1.2, x.ok)
    (hs : a.1.1.e = 0 → a'.1.1.e = 17 ∨ (a'.1.1.e = 0 ∧ SclL F a.1.2 a'.1.2 ∧ a'.2 = a.2)) (he : (limG n h a).1.e = 0) :
    (limG n h' a').1.e = 17 ∨ ((limG n h' a').1.e = 0 ∧ Scl F (limG n h a).1.v (limG n h' a').1.v ∧ (limG n h' a').2 = (limG n h a).2) := by
  obtain ⟨⟨r, l⟩, c⟩ := a
  obtain ⟨⟨r', l'⟩, c'⟩ := a'
  by_cases h0 : r.e = 0
  · rcases hs h0 with g1 | ⟨g1, g2, g3⟩
    · left
      unfold limG
      dsimp only at g1 ⊢
      rw [if_neg (by rw [g1]; exact nz17)]
      exact g1
    · have hl := ha h0
      dsimp only at g1 g2 g3 hl
      subst g3
      unfold limG at he ⊢
      dsimp only at he ⊢
      rw [if_pos h0] at he
      rw [if_pos h0, if_pos g1]
      rcases l with _ | ⟨x, _ | ⟨y, _ | ⟨z, l⟩⟩⟩
      · exact absurd he nz1
      · exact absurd he nz1
      · obtain ⟨x', y', rfl, s1, s2⟩ := g2.two
        dsimp only at he ⊢
        by_cases h1 : (limE x y).e = 0
        · have hd := limE_dims h1
          have hx := hl x (by simp)
          have hy := hl y (by simp)
          obtain rfl := s1.pure hx hd.1
          obtain rfl := s2.pure hy hd.2
          rw [if_pos h1] at he
          rw [if_pos h1, if_pos h1]
          exact loopB_scl n h h' x'.num y'.num (fun k h1 h2 => hh k ⟨by have := hx.num; omega, by have := hy.num; omega⟩) 2001 x'.num _ _ _ (Int.le_refl _) (zeroOf_ok n) (zeroOf_scl n) he
        · rw [if_neg h1] at he; exact absurd he h1
      · exact absurd he nz1
  · unfold limG at he
    dsimp only at he
    rw [if_neg h0] at he
    exact absurd he h0
/-- the second environment is the first one in other units -/
def SclE (F : Fs) (s s' : Sc) : Prop := ∀ x v, s.lookup x = some v → ∃ v', s'.lookup x = some v' ∧ Scl F v v'
theorem SclE.cons {F : Fs} {s s' : Sc} (h : SclE F s s') (x : W8) {a : V} (ha : Scl F a a) : SclE F ((x, a) :: s) ((x, a) :: s') := fun y v hy => by
  rw [List.lookup_cons] at hy ⊢
  cases hyx : y == x with
  | true =>
    rw [hyx] at hy
    exact ⟨a, rfl, by rw [← Option.some.inj hy]; exact ha⟩
  | false =>
    rw [hyx] at hy
    exact h y v hy
theorem SclE.zip {F : Fs} : ∀ (ns : List W8) {vs vs' : List V}, SclL F vs vs' → SclE F (ns.zip vs) (ns.zip vs')
  | [], _, _, _ => fun x v h => by simp at h
  | n :: ns, [], [], _ => fun x v h => by simp at h
  | n :: ns, a :: vs, b :: vs', h => fun x v hx => by
    unfold SclL at h
    rw [List.zip_cons_cons, List.lookup_cons] at hx ⊢
    cases hyx : x == n with
    | true => rw [hyx] at hx; exact ⟨b, rfl, by rw [← Option.some.inj hx]; exact h.1⟩
    | false => rw [hyx] at hx; exact SclE.zip ns h.2 x v hx
  | _ :: _, [], _ :: _, h => by unfold SclL at h; exact h.elim
  | _ :: _, _ :: _, [], h => by unfold SclL at h; exact h.elim
theorem num_dim (n : W8) (h : (numR' n).e = 0) : (numR' n).v.dim = zD := by
  obtain ⟨_, _, h3⟩ := join_spec (show (joinQ (Q.parseQ n) zD 0).2 = 0 from h)
  show (joinQ (Q.parseQ n) zD 0).1.dim = zD
  rw [h3]
theorem ev_scl {F : Fs} : ∀ (N : Nat) (t : T), t.size ≤ N → txB t = false → ∀ (s s' : Sc), s.ok → SclE F s s' → SclG F (ev t s) (ev t s')
  | 0, t, h, _, _, _, _, _ => by have := size_pos t; omega
  | N + 1, t, h, hx, s, s', hs, hss => fun c he => by
    have hp := txB_parts hx
    have ih := fun (u : T) (hu : u ∈ t.args) => ev_scl (F := F) N u (size_list h hu) (hp.2 u hu)
    have ok := fun (u : T) (_ : u ∈ t.args) => ev_ok u.size u (Nat.le_refl _)
    rw [ev_eq] at he
    rw [ev_eq t s, ev_eq t s']
    unfold stepN at he ⊢
    by_cases h1 : t.kind = 1
    · rw [if_pos h1] at he
      rw [if_pos h1, if_pos h1]
      exact .inr ⟨he, Scl.same (num_ok he) (num_dim _ he), rfl⟩
    rw [if_neg h1] at he
    rw [if_neg h1, if_neg h1]
    by_cases h2 : t.kind = 2
    · rw [if_pos h2] at he
      rw [if_pos h2, if_pos h2]
      right
      dsimp only at he ⊢
      unfold lkR lookR at he ⊢
      dsimp only at he ⊢
      cases hl : s.lookup t.name with
      | none => rw [hl] at he; exact absurd he nz11
      | some v =>
        obtain ⟨v', e1, e2⟩ := hss _ _ hl
        rw [e1]
        exact ⟨rfl, e2, rfl⟩
    rw [if_neg h2] at he
    rw [if_neg h2, if_neg h2]
    rw [if_neg hp.1] at he
    rw [if_neg hp.1, if_neg hp.1]
    by_cases h5 : t.kind = 5
    · rw [if_pos h5] at he
      rw [if_pos h5, if_pos h5]
      by_cases h3 : t.args.length = 3
      · obtain ⟨a, b, d, hargs⟩ := three h3
        rw [hargs] at ih ok he ⊢
        rw [evs, evs, evs, evs, evh, evh, evh, evh, bindG_three] at he
        rw [evs, evs, evs, evs, evh, evh, evh, evh, bindG_three, evs, evs, evs, evs, evh, evh, evh, evh, bindG_three]
        by_cases hn : t.name = sumW ∨ t.name = prodW
        · rw [if_pos hn] at he
          rw [if_pos hn, if_pos hn]
          have hs2 : ∀ k, inQ k → Sc.ok ((t.var, whV k) :: s) := fun k hk p hp => by
            rcases List.mem_cons.1 hp with rfl | hp
            · exact wh_ok hk
            · exact hs p hp
          have hpr : ∀ x ∈ [a, b], OKg (ev x s) ∧ SclG F (ev x s) (ev x s') := fun x hx => by
            have hx' : x ∈ [a, b, d] := by
              rcases List.mem_cons.1 hx with rfl | hx
              · simp
              · rw [List.mem_singleton] at hx; subst hx; simp
            exact ⟨ok x hx' s hs, ih x hx' s s' hs hss⟩
          refine limG_scl (fun k hk => ⟨ok d (by simp) _ (hs2 k hk), ih d (by simp) _ _ (hs2 k hk) (hss.cons _ (Scl.same (wh_ok hk) rfl))⟩) (fun h0 => (argsG_ok [ev a s, ev b s] 0 c [] (fun g hg => ?_) (fun x hx => by cases hx) h0).1)
            (fun h0 => argsG_scl (fun u => ev u s) (fun u => ev u s') [a, b] 0 c [] [] hpr (fun x hx => by cases hx) trivial h0) he
          rcases List.mem_cons.1 hg with rfl | hg
          · exact (hpr a (by simp)).1
          · rw [List.mem_singleton] at hg; subst hg; exact (hpr b (by simp)).1
        · rw [if_neg hn] at he; exact absurd he nz15
      · rw [bindG_len (by rw [evs_map, List.length_map]; exact h3)] at he
        split at he
        · exact absurd he nz13
        · exact absurd he nz15
    · rw [if_neg h5] at he
      rw [if_neg h5, if_neg h5]
      unfold applyG at he ⊢
      cases ho : opOf t.name with
      | none => rw [ho] at he; exact absurd he nz15
      | some p =>
        obtain ⟨ar, k⟩ := p
        rw [ho] at he
        dsimp only at he ⊢
        rw [evs_map, List.length_map] at he
        rw [evs_map, evs_map, List.length_map, List.length_map]
        by_cases hl : t.args.length = ar
        · rw [if_pos hl] at he
          rw [if_pos hl, if_pos hl]
          by_cases h0 : (argsG 0 (t.args.map fun u => ev u s) c []).1.1.e = 0
          · rw [if_pos h0] at he
            rw [if_pos h0]
            rcases argsG_scl (fun u => ev u s) (fun u => ev u s') t.args 0 c [] [] (fun x hx => ⟨ok x hx s hs, ih x hx s s' hs hss⟩) (fun x hx => by cases hx) trivial h0 with g1 | ⟨g1, g2, g3⟩
            · rw [if_neg (by rw [g1]; exact nz17)]
              exact .inl g1
            · rw [if_pos g1]
              have hok := (argsG_ok (t.args.map fun u => ev u s) 0 c [] (fun g hg => by
                obtain ⟨u, hu, rfl⟩ := List.mem_map.1 hg
                exact ok u hu s hs) (fun x hx => by cases hx) h0).1
              rcases opK_scl k hok g2 he with e1 | ⟨e1, e2⟩
              · exact .inl e1
              · exact .inr ⟨e1, e2, g3⟩
          · rw [if_neg h0] at he; exact absurd he h0
        · rw [if_neg hl] at he; exact absurd he nz13
theorem valueR_ok {t : T} {ns : List W8} {vs : List V} (he : (valueR t ns vs).e = 0) : envB ns vs = true ∧ validB t = true ∧ (valueR t ns vs).v.ok := by
  unfold valueR at he ⊢
  by_cases h1 : envB ns vs = true
  · rw [if_pos h1] at he ⊢
    by_cases h2 : validB t = true
    · rw [if_pos h2] at he ⊢
      exact ⟨h1, h2, ev_ok t.size t (Nat.le_refl _) _ (env_ok h1) 0 he⟩
    · rw [if_neg h2] at he; exact absurd he nz1
  · rw [if_neg h1] at he; exact absurd he nz1
theorem SclL.ok {F : Fs} : ∀ {l m : List V}, SclL F l m → ∀ x ∈ m, x.ok
  | [], [], _ => fun x hx => by cases hx
  | a :: l, b :: m, h => fun x hx => by
    unfold SclL at h
    rcases List.mem_cons.1 hx with rfl | hx
    · exact h.1.1
    · exact SclL.ok h.2 x hx
  | [], _ :: _, h => by unfold SclL at h; exact h.elim
  | _ :: _, [], h => by unfold SclL at h; exact h.elim
theorem envB_scl {F : Fs} {ns : List W8} {vs vs' : List V} (h : envB ns vs = true) (hs : SclL F vs vs') : envB ns vs' = true := envB_vals h hs.len.symm hs.ok
theorem valueR_scl {F : Fs} {t : T} {ns : List W8} {vs vs' : List V} (hx : txB t = false) (hs : SclL F vs vs') (he : (valueR t ns vs).e = 0) : (valueR t ns vs').e = 17 ∨ ((valueR t ns vs').e = 0 ∧ Scl F (valueR t ns vs).v (valueR t ns vs').v) := by
  obtain ⟨h1, h2, h3⟩ := valueR_ok he
  unfold valueR at he ⊢
  rw [if_pos h1, if_pos h2] at he ⊢
  rw [if_pos (envB_scl h1 hs), if_pos h2]
  rcases ev_scl t.size t (Nat.le_refl _) hx (ns.zip vs) (ns.zip vs') (env_ok h1) (SclE.zip ns hs) 0 he with g | ⟨g1, g2, _⟩
  · exact .inl g
  · exact .inr ⟨g1, g2⟩
end Go.Proofs.YtknpigdpepmimaaGreatDoor
