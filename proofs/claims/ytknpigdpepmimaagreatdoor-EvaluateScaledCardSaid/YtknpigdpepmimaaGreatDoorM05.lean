/- Plain: the words in their order, by number; the first one that is an identifier and not in a list. Plain: what a term means under an assignment of its names; substitution. Plain: the free names of a substitution; alpha-equivalence by meaning. Plain: the laws of substitution and of renaming. -/
import Derived.Test.YtknpigdpepmimaaGreatDoorM04
namespace Go.Proofs.YtknpigdpepmimaaGreatDoor
theorem rk_lt (c : UInt8) (h : isL c = true) : rk c < 52 := by
  unfold isL at h
  simp at h
  unfold rk rkN
  split <;> omega
def numR : W8 → Nat | [] => 0 | c :: r => rk c + 1 + 52 * numR r
/-- the next word, last letter first -/
def folR : W8 → W8
  | [] => [97]
  | c :: r => if c.toNat = 90 then 97 :: folR r else if c.toNat = 122 then 65 :: r else (c + 1) :: r
theorem folR_ok : ∀ r : W8, r.all isL = true → (folR r).all isL = true ∧ numR (folR r) = numR r + 1
  | [], _ => by decide
  | c :: r, h => by
    simp only [List.all_cons, Bool.and_eq_true] at h
    have ih := folR_ok r h.2
    rw [folR]
    split
    · rename_i hc
      have e : rk c = 51 := by unfold rk rkN; rw [if_neg (by omega)]; omega
      refine ⟨?_, ?_⟩
      · simp only [List.all_cons, Bool.and_eq_true]; exact ⟨by decide, ih.1⟩
      · rw [numR, numR, ih.2, e]; have : rk 97 = 0 := by decide
        rw [this]; omega
    · split
      · rename_i hc
        have e : rk c = 25 := by unfold rk rkN; rw [if_pos (by omega)]; omega
        refine ⟨?_, ?_⟩
        · simp only [List.all_cons, Bool.and_eq_true]; exact ⟨by decide, h.2⟩
        · rw [numR, numR, e]; have : rk 65 = 26 := by decide
          rw [this]; omega
      · rename_i h1 h2
        have hl := h.1
        unfold isL at hl
        simp at hl
        have e1 : (c + 1).toNat = c.toNat + 1 := by
          rw [UInt8.toNat_add]
          have : (1 : UInt8).toNat = 1 := rfl
          rw [this]; omega
        refine ⟨?_, ?_⟩
        · simp only [List.all_cons, Bool.and_eq_true]
          refine ⟨?_, h.2⟩
          unfold isL
          rw [e1]
          simp; omega
        · rw [numR, numR]
          have : rk (c + 1) = rk c + 1 := by
            unfold rk rkN
            rw [e1]
            rcases hl with hl | hl
            · rw [if_pos (by omega), if_pos (by omega)]; omega
            · rw [if_neg (by omega), if_neg (by omega)]; omega
          rw [this]; omega
theorem numR_inj : ∀ r s : W8, r.all isL = true → s.all isL = true → numR r = numR s → r = s
  | [], [], _, _, _ => rfl
  | [], d :: s, _, _, h => by rw [numR, numR] at h; omega
  | c :: r, [], _, _, h => by rw [numR, numR] at h; omega
  | c :: r, d :: s, h1, h2, h => by
    simp only [List.all_cons, Bool.and_eq_true] at h1 h2
    rw [numR, numR] at h
    have a := rk_lt c h1.1
    have b := rk_lt d h2.1
    rw [rk_inj c d h1.1 h2.1 (by omega), numR_inj r s h1.2 h2.2 (by omega)]
theorem numR_len : ∀ r : W8, r.length ≤ numR r ∧ (3 ≤ r.length → 2757 ≤ numR r)
  | [] => by simp [numR]
  | [a] => by simp [numR]
  | [a, b] => by simp [numR]; omega
  | a :: b :: c :: r => by
    have := numR_len (b :: c :: r)
    simp only [List.length_cons] at *
    simp only [numR] at *
    omega
def wdR : Nat → W8 | 0 => [] | n + 1 => folR (wdR n)
theorem wdR_ok : ∀ n, (wdR n).all isL = true ∧ numR (wdR n) = n
  | 0 => by decide
  | n + 1 => by
    have ih := wdR_ok n
    have := folR_ok _ ih.1
    rw [wdR]
    exact ⟨this.1, by rw [this.2, ih.2]⟩
/-- word number n: the first is "a" -/
def wd (n : Nat) : W8 := (wdR n).reverse
/-- the word that follows -/
def follow (s : W8) : W8 := (folR s.reverse).reverse
theorem follow_wd (n : Nat) : follow (wd n) = wd (n + 1) := by unfold follow wd; rw [List.reverse_reverse, wdR]
theorem wd_all (n : Nat) : (wd n).all isL = true := by unfold wd; rw [List.all_reverse]; exact (wdR_ok n).1
theorem wd_inj {m n : Nat} (h : wd m = wd n) : m = n := by
  have h1 : wdR m = wdR n := by unfold wd at h; simpa using h
  rw [← (wdR_ok m).2, ← (wdR_ok n).2, h1]
theorem wd_len {n : Nat} (h1 : 1 ≤ n) (h2 : n ≤ 2756) : 1 ≤ (wd n).length ∧ (wd n).length ≤ 2 := by
  have hn := (wdR_ok n).2
  have hl := numR_len (wdR n)
  have e : (wd n).length = (wdR n).length := by unfold wd; simp
  rw [e]
  refine ⟨?_, by omega⟩
  cases hw : wdR n with
  | nil => rw [hw, numR] at hn; omega
  | cons c r => simp
theorem wd_snoc (n : Nat) (c : UInt8) (h : isL c = true) : wd n ++ [c] = wd (52 * n + rk c + 1) := by
  have e : c :: wdR n = wdR (52 * n + rk c + 1) := by
    refine numR_inj _ _ (by simp only [List.all_cons, Bool.and_eq_true]; exact ⟨h, (wdR_ok n).1⟩) (wdR_ok _).1 ?_
    rw [numR, (wdR_ok _).2, (wdR_ok _).2]; omega
  unfold wd
  rw [← e]; simp
theorem wd_ident {n : Nat} (h1 : 1 ≤ n) (h2 : n ≤ 2756) : identB (wd n) = true := by
  have hl := wd_len h1 h2
  have ha := wd_all n
  generalize wd n = w at *
  unfold identB wordB
  rw [ha]
  have k1 : kwds.contains w = false := by
    cases h : kwds.contains w with
    | false => rfl
    | true =>
      have : w ∈ kwds := by simpa using h
      unfold kwds at this
      simp only [List.mem_cons, List.not_mem_nil, or_false] at this
      rcases this with rfl | rfl | rfl | rfl <;> simp at hl
  have k2 : accs.contains w = false := by
    cases h : accs.contains w with
    | false => rfl
    | true =>
      have : w ∈ accs := by simpa using h
      unfold accs at this
      simp only [List.mem_cons, List.not_mem_nil, or_false] at this
      rcases this with rfl | rfl | rfl | rfl | rfl | rfl <;> simp at hl
  rw [k1, k2]
  simp; omega
/-- an identifier that is not in the list -/
def good (l : List W8) (w : W8) : Bool := identB w && !l.contains w
def frs (l : List W8) : Nat → Nat → Nat
  | 0, n => n
  | f + 1, n => if good l (wd n) = true then n else frs l f (n + 1)
def freshN (l : List W8) : Nat := frs l 2756 1
/-- the first identifier that is not in the list -/
def freshL (l : List W8) : W8 := wd (freshN l)
theorem frs_spec (l : List W8) : ∀ (f n m : Nat), n ≤ m → m < n + f → good l (wd m) = true →
    good l (wd (frs l f n)) = true ∧ n ≤ frs l f n ∧ frs l f n ≤ m ∧ ∀ j, n ≤ j → j < frs l f n → good l (wd j) = false
  | 0, n, m, h1, h2, _ => by omega
  | f + 1, n, m, h1, h2, h3 => by
    rw [frs]
    split
    · rename_i h
      exact ⟨h, Nat.le_refl _, h1, fun j h4 h5 => by omega⟩
    · rename_i h
      have hne : n ≠ m := fun e => h (by rw [e]; exact h3)
      obtain ⟨i1, i2, i3, i4⟩ := frs_spec l f (n + 1) m (by omega) (by omega) h3
      refine ⟨i1, by omega, i3, fun j h4 h5 => ?_⟩
      by_cases hj : j = n
      · rw [hj]; simpa using h
      · exact i4 j (by omega) h5
theorem len_of_sub {α : Type} [DecidableEq α] : ∀ (xs l : List α), xs.Nodup → (∀ x ∈ xs, x ∈ l) → xs.length ≤ l.length
  | [], l, _, _ => by simp
  | x :: xs, l, hn, h => by
    rw [List.nodup_cons] at hn
    have hx : x ∈ l := h x List.mem_cons_self
    have ih := len_of_sub xs (l.erase x) hn.2 (fun y hy => by
      have hne : y ≠ x := fun e => hn.1 (e ▸ hy)
      exact (List.mem_erase_of_ne hne).2 (h y (List.mem_cons_of_mem _ hy)))
    rw [List.length_erase_of_mem hx] at ih
    have : 1 ≤ l.length := List.length_pos_of_mem hx
    simp only [List.length_cons]; omega
theorem fresh_some (l : List W8) (h : l.length ≤ 2755) : ∃ m, 1 ≤ m ∧ m < 1 + 2756 ∧ good l (wd m) = true := by
  refine Classical.byContradiction fun hno => ?_
  have hall : ∀ x ∈ (List.range 2756).map (fun i => wd (i + 1)), x ∈ l := fun x hx => by
    obtain ⟨i, hi, rfl⟩ := List.mem_map.1 hx
    rw [List.mem_range] at hi
    cases hg : good l (wd (i + 1)) with
    | true => exact absurd ⟨i + 1, by omega, by omega, hg⟩ hno
    | false =>
      unfold good at hg
      rw [wd_ident (by omega) (by omega)] at hg
      simpa using hg
  have hn : ((List.range 2756).map (fun i => wd (i + 1))).Nodup := by
    unfold List.Nodup
    rw [List.pairwise_map]
    exact List.Pairwise.imp (R := fun a b : Nat => a ≠ b) (S := fun a b : Nat => wd (a + 1) ≠ wd (b + 1)) (fun {a b} hab e => hab (by have := wd_inj e; omega)) List.nodup_range
  have := len_of_sub _ _ hn hall
  rw [List.length_map, List.length_range] at this
  omega
theorem fresh_spec (l : List W8) (h : l.length ≤ 2755) : good l (freshL l) = true ∧ 1 ≤ freshN l ∧ freshN l ≤ 2756 ∧ ∀ j, 1 ≤ j → j < freshN l → good l (wd j) = false := by
  obtain ⟨m, h1, h2, h3⟩ := fresh_some l h
  obtain ⟨i1, i2, i3, i4⟩ := frs_spec l 2756 1 m h1 h2 h3
  exact ⟨i1, i2, by show frs l 2756 1 ≤ 2756; omega, i4⟩
theorem good_iff {l : List W8} {w : W8} : good l w = true ↔ identB w = true ∧ w ∉ l := by
  unfold good; simp
theorem fresh_ident (l : List W8) (h : l.length ≤ 2755) : identB (freshL l) = true := (good_iff.1 (fresh_spec l h).1).1
theorem fresh_not (l : List W8) (h : l.length ≤ 2755) : freshL l ∉ l := (good_iff.1 (fresh_spec l h).1).2
theorem good_ext {l m : List W8} (h : ∀ x, x ∈ l ↔ x ∈ m) (w : W8) : good l w = good m w := by
  rw [Bool.eq_iff_iff, good_iff, good_iff, h]
theorem frs_ext {l m : List W8} (h : ∀ x, x ∈ l ↔ x ∈ m) : ∀ f n, frs l f n = frs m f n
  | 0, n => rfl
  | f + 1, n => by rw [frs, frs, good_ext h, frs_ext h f]
theorem fresh_ext {l m : List W8} (h : ∀ x, x ∈ l ↔ x ∈ m) : freshL l = freshL m := by
  unfold freshL freshN; rw [frs_ext h]
end Go.Proofs.YtknpigdpepmimaaGreatDoor

namespace Go.Proofs.YtknpigdpepmimaaGreatDoor
def lvl (k : Nat) : T := .mk 7 (List.replicate k 0) [] [] []
def vrT (x : W8) : T := .mk 2 x [] [] []
def upd (ρ : W8 → Nat → T) (v : W8) (a : Nat → T) : W8 → Nat → T := fun x => if x = v then a else ρ x
theorem upd_same (ρ : W8 → Nat → T) (v : W8) (a : Nat → T) : upd ρ v a v = a := if_pos rfl
theorem upd_other (ρ : W8 → Nat → T) (v : W8) (a : Nat → T) {x : W8} (h : x ≠ v) : upd ρ v a x = ρ x := if_neg h
mutual
def sem (ρ : W8 → Nat → T) (d : Nat) : T → T
  | .mk k n v ys f => if k = 2 then ρ n d else .mk k n [] (sems ρ d k v ys) f
def sems (ρ : W8 → Nat → T) (d : Nat) (k : Int) (v : W8) : List T → List T
  | [] => []
  | t :: ts => (if k = 5 ∧ ts.length = 0 then sem (upd ρ v fun _ => lvl d) (d + 1) t else sem ρ d t) :: sems ρ d k v ts
end
theorem sem_eq (ρ : W8 → Nat → T) (d : Nat) (t : T) : sem ρ d t = if t.kind = 2 then ρ t.name d else .mk t.kind t.name [] (sems ρ d t.kind t.var t.args) t.form := by
  cases t with
  | mk k n v ys f => rw [sem]; rfl
mutual
theorem sem_congr (ρ ρ' : W8 → Nat → T) (d : Nat) (t : T) (h : ∀ x ∈ frL t, ρ x = ρ' x) : sem ρ d t = sem ρ' d t := by
  cases t with
  | mk k n v ys f =>
    rw [sem, sem]
    split
    · rename_i hk
      rw [h n ((mem_frL _).2 (.inl ⟨hk, rfl⟩))]
    · rename_i hk
      rw [sems_congr ρ ρ' d k v ys (fun x hx => h x ((mem_frL _).2 (.inr ⟨hk, hx⟩)))]
theorem sems_congr (ρ ρ' : W8 → Nat → T) (d : Nat) (k : Int) (v : W8) (ts : List T) (h : ∀ x, inArgs k v x ts → ρ x = ρ' x) : sems ρ d k v ts = sems ρ' d k v ts := by
  cases ts with
  | nil => rw [sems, sems]
  | cons t ts =>
    rw [sems, sems, sems_congr ρ ρ' d k v ts (fun x hx => h x (by rw [inArgs]; exact .inr hx))]
    congr 1
    split
    · rename_i hl
      refine sem_congr _ _ _ t (fun x hx => ?_)
      by_cases e : x = v
      · rw [e, upd_same, upd_same]
      · rw [upd_other _ _ _ e, upd_other _ _ _ e]
        exact h x (by rw [inArgs]; exact .inl ⟨hx, fun h' => e h'.2.2⟩)
    · rename_i hl
      exact sem_congr _ _ _ t (fun x hx => h x (by rw [inArgs]; exact .inl ⟨hx, fun h' => hl ⟨h'.1, h'.2.1⟩⟩))
end
/-- the arguments with a function applied to each, another one to the scope -/
def subsF (g h : T → T) (k : Int) : List T → List T
  | [] => []
  | t :: ts => (if k = 5 ∧ ts.length = 0 then h t else g t) :: subsF g h k ts
def varF (h : T → W8) (k : Int) (v : W8) : List T → W8
  | [] => v
  | t :: ts => if k = 5 ∧ ts.length = 0 then h t else varF h k v ts
/-- the bound variable and the scope behind a substitution -/
def scp (S : T → W8 → T → T) (v : W8) (s : T) (x : W8) (b : T) : W8 × T :=
  if v = x ∨ x ∉ frL s then (v, s)
  else if v ∉ frL b then (v, S s x b)
  else (freshL (frL s ++ frL b ++ [x]), S (S s v (vrT (freshL (frL s ++ frL b ++ [x])))) x b)
def sub : Nat → T → W8 → T → T
  | 0, t, _, _ => t
  | N + 1, t, x, b => if t.kind = 2 ∧ t.name = x then b else
    .mk t.kind t.name (varF (fun s => (scp (sub N) t.var s x b).1) t.kind t.var t.args) (subsF (fun u => sub N u x b) (fun s => (scp (sub N) t.var s x b).2) t.kind t.args) t.form
theorem subsF_len (g h : T → T) (k : Int) : ∀ ts : List T, (subsF g h k ts).length = ts.length
  | [] => rfl
  | t :: ts => by rw [subsF, List.length_cons, subsF_len g h k ts, List.length_cons]
theorem subsF_sizes (g h : T → T) (k : Int) : ∀ ts : List T, (∀ u ∈ ts, (g u).size ≤ u.size ∧ (h u).size ≤ u.size) → sizes (subsF g h k ts) ≤ sizes ts
  | [], _ => by rw [subsF]; exact Nat.le_refl _
  | t :: ts, hh => by
    have ih := subsF_sizes g h k ts (fun u hu => hh u (List.mem_cons_of_mem _ hu))
    have h1 := hh t List.mem_cons_self
    rw [subsF, sizes, sizes]
    split <;> omega
theorem vrT_size (x : W8) : (vrT x).size = 1 := by unfold vrT; rw [T.size, sizes]
/-- a name in the place of a name makes no term larger -/
theorem sub_var_size : ∀ (N : Nat) (t : T) (x : W8) (w : W8), (sub N t x (vrT w)).size ≤ t.size
  | 0, t, x, w => by rw [sub]; exact Nat.le_refl _
  | N + 1, t, x, w => by
    have ih := sub_var_size N
    rw [sub]
    split
    · rw [vrT_size]; exact size_pos t
    · rw [T.size, size_eq t]
      have := subsF_sizes (fun u => sub N u x (vrT w)) (fun s => (scp (sub N) t.var s x (vrT w)).2) t.kind t.args (fun u _ => ⟨ih u x w, by
        unfold scp
        split
        · exact Nat.le_refl _
        · split
          · exact ih u x w
          · exact Nat.le_trans (ih _ x w) (ih u _ _)⟩)
      omega
theorem frs_len3 (s b : T) (x : W8) (h : s.size + b.size ≤ 2700) : (frL s ++ frL b ++ [x]).length ≤ 2755 := by
  have := frL_len s
  have := frL_len b
  simp only [List.length_append, List.length_cons, List.length_nil]; omega
theorem sems_subsF (ρ ρ' : W8 → Nat → T) (d : Nat) (k : Int) (v : W8) (g h : T → T) (hv : T → W8) : ∀ ts : List T,
    (∀ u ∈ ts, sem ρ d (g u) = sem ρ' d u) → (k = 5 → ∀ u ∈ ts, sem (upd ρ (hv u) fun _ => lvl d) (d + 1) (h u) = sem (upd ρ' v fun _ => lvl d) (d + 1) u) →
    sems ρ d k (varF hv k v ts) (subsF g h k ts) = sems ρ' d k v ts
  | [], _, _ => by rw [subsF, sems, sems]
  | t :: ts, h1, h2 => by
    have ih := sems_subsF ρ ρ' d k v g h hv ts (fun u hu => h1 u (List.mem_cons_of_mem _ hu)) (fun hk u hu => h2 hk u (List.mem_cons_of_mem _ hu))
    rw [subsF, sems, sems, subsF_len]
    by_cases hl : k = 5 ∧ ts.length = 0
    · have e : ts = [] := List.eq_nil_of_length_eq_zero hl.2
      subst e
      rw [if_pos hl, if_pos hl, if_pos hl, varF, if_pos hl, subsF, sems, sems, h2 hl.1 t List.mem_cons_self]
    · rw [if_neg hl, if_neg hl, if_neg hl, varF, if_neg hl, ih, h1 t List.mem_cons_self]
theorem upd_comm (ρ : W8 → Nat → T) {x y : W8} (a b : Nat → T) (h : x ≠ y) : upd (upd ρ x a) y b = upd (upd ρ y b) x a := by
  funext z
  unfold upd
  by_cases h1 : z = y
  · by_cases h2 : z = x
    · exact absurd (h2.symm.trans h1) h
    · rw [if_pos h1, if_neg h2, if_pos h1]
  · rw [if_neg h1]
    by_cases h2 : z = x
    · rw [if_pos h2, if_pos h2]
    · rw [if_neg h2, if_neg h2, if_neg h1]
/-- THE LAW OF SUBSTITUTION -/
theorem sub_sem : ∀ (N : Nat) (t : T) (x : W8) (b : T) (ρ : W8 → Nat → T) (d : Nat), t.size ≤ N → t.size + b.size ≤ 2700 →
    sem ρ d (sub N t x b) = sem (upd ρ x fun j => sem ρ j b) d t
  | 0, t, x, b, ρ, d, h, _ => by have := size_pos t; omega
  | N + 1, t, x, b, ρ, d, h, hb => by
    have ih := sub_sem N
    rw [sub]
    by_cases hx : t.kind = 2 ∧ t.name = x
    · rw [if_pos hx, sem_eq _ _ t, if_pos hx.1, hx.2, upd_same]
    · rw [if_neg hx, sem_eq _ _ t, sem]
      by_cases hk : t.kind = 2
      · rw [if_pos hk, if_pos hk, upd_other _ _ _ (fun e => hx ⟨hk, e⟩)]
      · rw [if_neg hk, if_neg hk]
        congr 1
        have hsz : ∀ u ∈ t.args, u.size ≤ N ∧ u.size + b.size ≤ 2700 := fun u hu => by have := size_arg hu; omega
        refine sems_subsF ρ _ d t.kind t.var (fun u => sub N u x b) (fun s => (scp (sub N) t.var s x b).2) (fun s => (scp (sub N) t.var s x b).1) t.args (fun u hu => ih u x b ρ d (hsz u hu).1 (hsz u hu).2) (fun _ s hs => ?_)
        obtain ⟨hs1, hs2⟩ := hsz s hs
        generalize t.var = v
        show sem (upd ρ (scp (sub N) v s x b).1 fun _ => lvl d) (d + 1) (scp (sub N) v s x b).2 = _
        unfold scp
        by_cases c1 : v = x ∨ x ∉ frL s
        · rw [if_pos c1]
          refine sem_congr _ _ _ s (fun y hy => ?_)
          show upd ρ v (fun _ => lvl d) y = _
          by_cases e : y = v
          · rw [e, upd_same, upd_same]
          · rw [upd_other _ _ _ e, upd_other _ _ _ e]
            rcases c1 with c1 | c1
            · rw [upd_other _ _ _ (fun e' => e (e'.trans c1.symm))]
            · rw [upd_other _ _ _ (show y ≠ x from fun e' => c1 (by rw [← e']; exact hy))]
        · rw [if_neg c1]
          have hvx : v ≠ x := fun e => c1 (.inl e)
          by_cases c2 : v ∉ frL b
          · rw [if_pos c2]
            show sem (upd ρ v fun _ => lvl d) (d + 1) (sub N s x b) = _
            have e : (fun j => sem (upd ρ v fun _ => lvl d) j b) = fun j => sem ρ j b := by
              funext j
              exact sem_congr _ _ _ b (fun y hy => upd_other _ _ _ (show y ≠ v from fun e => c2 (by rw [← e]; exact hy)))
            rw [ih s x b _ _ hs1 hs2, e, upd_comm _ _ _ hvx]
          · rw [if_neg c2]
            have hl := frs_len3 s b x hs2
            have hw := fresh_not _ hl
            generalize freshL (frL s ++ frL b ++ [x]) = w at *
            simp only [List.mem_append, List.mem_singleton, not_or] at hw
            obtain ⟨⟨hws, hwb⟩, hwx⟩ := hw
            show sem (upd ρ w fun _ => lvl d) (d + 1) (sub N (sub N s v (vrT w)) x b) = _
            have hr := sub_var_size N s v w
            rw [ih _ x b _ _ (by omega) (by omega), ih s v (vrT w) _ _ hs1 (by rw [vrT_size]; have := size_pos b; omega)]
            refine sem_congr _ _ _ s (fun y hy => ?_)
            by_cases e : y = v
            · rw [e, upd_same, upd_same]
              funext j
              unfold vrT
              rw [sem, if_pos rfl, upd_other _ _ _ hwx, upd_same]
            · rw [upd_other _ _ _ e, upd_other _ _ _ e]
              by_cases e2 : y = x
              · rw [e2, upd_same, upd_same]
                funext j
                exact sem_congr _ _ _ b (fun z hz => upd_other _ _ _ (show z ≠ w from fun e' => hwb (by rw [← e']; exact hz)))
              · rw [upd_other _ _ _ e2, upd_other _ _ _ e2, upd_other _ _ _ (show y ≠ w from fun e' => hws (by rw [← e']; exact hy))]
theorem subsF_wf (g h : T → T) (k : Int) : ∀ ts : List T, (∀ u ∈ ts, WF (g u)) → (k = 5 → ∀ u ∈ ts, WF (h u)) → WFs (subsF g h k ts)
  | [], _, _ => by rw [subsF, WFs]; trivial
  | t :: ts, h1, h2 => by
    rw [subsF, WFs]
    refine ⟨?_, subsF_wf g h k ts (fun u hu => h1 u (List.mem_cons_of_mem _ hu)) (fun hk u hu => h2 hk u (List.mem_cons_of_mem _ hu))⟩
    split
    · rename_i hl; exact h2 hl.1 t List.mem_cons_self
    · exact h1 t List.mem_cons_self
theorem varF_ident (h : T → W8) (k : Int) (v : W8) : ∀ ts : List T, (v = [] ∨ identB v = true) → (k = 5 → ∀ u ∈ ts, identB (h u) = true) → (k = 5 → identB v = true) → (k = 5 → identB (varF h k v ts) = true) ∧ (k ≠ 5 → varF h k v ts = v)
  | [], _, _, h3 => ⟨fun hk => by rw [varF]; exact h3 hk, fun _ => by rw [varF]⟩
  | t :: ts, h1, h2, h3 => by
    have ih := varF_ident h k v ts h1 (fun hk u hu => h2 hk u (List.mem_cons_of_mem _ hu)) h3
    rw [varF]
    split
    · rename_i hl; exact ⟨fun _ => h2 hl.1 t List.mem_cons_self, fun hk => absurd hl.1 hk⟩
    · exact ih
theorem own_of {t : T} (h : ownB t = true) (v : W8) (ys : List T) (hl : ys.length = t.args.length) (h5 : t.kind = 5 → identB v = true) (hn : t.kind ≠ 5 → v = t.var) : ownB (.mk t.kind t.name v ys t.form) = true := by
  have he : ys.isEmpty = t.args.isEmpty := by
    cases ys with
    | nil => cases hh : t.args with
      | nil => rfl
      | cons a l => rw [hh] at hl; simp at hl
    | cons b m => cases hh : t.args with
      | nil => rw [hh] at hl; simp at hl
      | cons a l => rfl
  by_cases hk : t.kind = 5
  · have hv := h5 hk
    unfold ownB at h ⊢
    unfold formB at h ⊢
    rw [if_neg (by omega), if_neg (by omega), if_neg (by omega), if_neg (by omega), if_pos hk] at h
    show (if t.kind = 1 then _ else if t.kind = 2 then _ else if t.kind = 3 then _ else if t.kind = 4 then _ else if t.kind = 5 then _ else _) = true
    rw [if_neg (by omega), if_neg (by omega), if_neg (by omega), if_neg (by omega), if_pos hk]
    show (okS 33 t.form && decide (t.form.length ≤ 16) && wordB t.name && identB v && !ys.isEmpty) = true
    simp only [Bool.and_eq_true] at h ⊢
    exact ⟨⟨h.1.1, hv⟩, by rw [he]; exact h.2⟩
  · rw [hn hk]
    have e : ownB (.mk t.kind t.name t.var ys t.form) = ownB t := by
      unfold ownB leafB formB
      show (if t.kind = 1 then t.var.isEmpty && (t.form.isEmpty && ys.isEmpty) && numB t.name else if t.kind = 2 then t.var.isEmpty && (t.form.isEmpty && ys.isEmpty) && identB t.name else if t.kind = 3 then t.var.isEmpty && (t.form.isEmpty && ys.isEmpty) && (okS 32 t.name && decide (t.name.length ≤ 200)) else if t.kind = 4 then okS 33 t.form && decide (t.form.length ≤ 16) && wordB t.name && t.var.isEmpty else if t.kind = 5 then okS 33 t.form && decide (t.form.length ≤ 16) && wordB t.name && identB t.var && !ys.isEmpty else false) = _
      rw [he]
    rw [e]; exact h
theorem vrT_wf {w : W8} (h : identB w = true) : WF (vrT w) := by
  refine WF.of ?_ (by unfold vrT; rw [T.args, WFs]; trivial)
  unfold vrT ownB leafB
  show (if (2 : Int) = 1 then _ else if (2 : Int) = 2 then _ else _) = true
  rw [if_neg (by decide), if_pos rfl]
  simp [T.var, T.form, T.args, T.name, h]
theorem own_nonbind {t : T} (h : ownB t = true) (hk : t.kind ≠ 5) : t.var = [] := by
  unfold ownB at h
  unfold leafB at h
  split at h
  · simp at h; exact h.1.1
  · split at h
    · simp at h; exact h.1.1
    · split at h
      · simp at h; exact h.1.1
      · split at h
        · simp at h; exact h.2
        · cases h
theorem sub_wf : ∀ (N : Nat) (t : T) (x : W8) (b : T), WF t → WF b → t.size + b.size ≤ 2700 → WF (sub N t x b)
  | 0, t, x, b, h, _, _ => by rw [sub]; exact h
  | N + 1, t, x, b, h, hb, hz => by
    have ih := sub_wf N
    have hp := h.parts
    have hsz : ∀ u ∈ t.args, u.size + b.size ≤ 2700 := fun u hu => by have := size_arg hu; omega
    rw [sub]
    split
    · exact hb
    · have hv1 : t.var = [] ∨ identB t.var = true := by
        by_cases hk : t.kind = 5
        · exact .inr (own_bind hp.1 hk).1
        · exact .inl (own_nonbind hp.1 hk)
      have hs : t.kind = 5 → ∀ u ∈ t.args, identB (scp (sub N) t.var u x b).1 = true ∧ WF (scp (sub N) t.var u x b).2 := fun hk u hu => by
        have hiv := (own_bind hp.1 hk).1
        have hwu := hp.2.mem hu
        unfold scp
        split
        · exact ⟨hiv, hwu⟩
        · split
          · exact ⟨hiv, ih u x b hwu hb (hsz u hu)⟩
          · have hid := fresh_ident _ (frs_len3 u b x (hsz u hu))
            refine ⟨hid, ih _ x b (ih u _ _ hwu (vrT_wf hid) ?_) hb ?_⟩
            · rw [vrT_size]; have := hsz u hu; have := size_pos b; omega
            · have := hsz u hu; have := sub_var_size N u t.var (freshL (frL u ++ frL b ++ [x])); omega
      have hvf := varF_ident (fun s => (scp (sub N) t.var s x b).1) t.kind t.var t.args hv1 (fun hk u hu => (hs hk u hu).1) (fun hk => (own_bind hp.1 hk).1)
      rw [WF]
      exact ⟨own_of hp.1 _ _ (subsF_len _ _ _ _) hvf.1 hvf.2, subsF_wf _ _ _ _ (fun u hu => ih u x b (hp.2.mem hu) hb (hsz u hu)) (fun hk u hu => (hs hk u hu).2)⟩
end Go.Proofs.YtknpigdpepmimaaGreatDoor

namespace Go.Proofs.YtknpigdpepmimaaGreatDoor
/-- the place of the last of the names that is x, from the first on, or -1 -/
def binI : List W8 → W8 → Nat → Int → Int
  | [], _, _, acc => acc
  | s :: l, x, i, acc => binI l x (i + 1) (if s = x then (i : Int) else acc)
def binL (z : List W8) (x : W8) : Int := binI z x 0 (-1)
/-- the names' meaning inside of scopes -/
def envZ (z : List W8) : W8 → Nat → T := fun x _ => if binL z x < 0 then vrT x else lvl (binL z x).toNat
theorem envZ_nil : envZ [] = fun x _ => vrT x := by
  funext x j
  unfold envZ
  rw [if_pos (by unfold binL; rw [binI]; decide)]
theorem sems_len (ρ : W8 → Nat → T) (d : Nat) (k : Int) (v : W8) : ∀ ts : List T, (sems ρ d k v ts).length = ts.length
  | [] => by rw [sems]
  | t :: ts => by rw [sems, List.length_cons, List.length_cons, sems_len ρ d k v ts]
end Go.Proofs.YtknpigdpepmimaaGreatDoor

namespace Go.Proofs.YtknpigdpepmimaaGreatDoor
/-- a substitution's result, before it is looked at -/
def subT (t : T) (x : W8) (b : T) : T := sub t.size t x b
/-- Subst: 0 is OK; the numbers of the errors are the program's own -/
def okSub (t : T) (x : W8) (b : T) : Bool := validB t && validB b && identB x
theorem sub_bound {t b : T} (ht : validB t = true) (hb : validB b = true) : t.size + b.size ≤ 2700 := by
  have := ((valid_iff t).1 ht).2
  have := ((valid_iff b).1 hb).2
  omega
theorem subT_wf {t b : T} (x : W8) (ht : validB t = true) (hb : validB b = true) : WF (subT t x b) := sub_wf t.size t x b ((valid_iff t).1 ht).1 ((valid_iff b).1 hb).1 (sub_bound ht hb)
/-- some fresh names put to a list -/
def moreL : Nat → List W8 → List W8
  | 0, l => l
  | n + 1, l => moreL n (withL l (freshL l))
theorem withL_len (l : List W8) (s : W8) : (withL l s).length ≤ l.length + 1 := by
  unfold withL
  split
  · omega
  · have : ∀ l : List W8, (insL s l).length = l.length + 1 := fun l => by
      induction l with
      | nil => simp [insL]
      | cons a l ih => rw [insL]; split <;> simp [ih]
    rw [this]; omega
theorem moreL_len : ∀ (n : Nat) (l : List W8), (moreL n l).length ≤ l.length + n
  | 0, l => Nat.le_refl _
  | n + 1, l => by
    have h := moreL_len n (withL l (freshL l))
    have := withL_len l (freshL l)
    rw [moreL]; omega
theorem moreL_sub : ∀ (n : Nat) (l : List W8) {x : W8}, x ∈ l → x ∈ moreL n l
  | 0, _, _, h => h
  | n + 1, l, _, h => by rw [moreL]; exact moreL_sub n _ (mem_withL.2 (.inr h))
/-- the argument list with the last one turned -/
def lastF (g : T → T) : List T → List T
  | [] => []
  | [t] => [g t]
  | t :: u :: ts => t :: lastF g (u :: ts)
theorem lastF_len (g : T → T) : ∀ ts : List T, (lastF g ts).length = ts.length
  | [] => rfl
  | [t] => rfl
  | t :: u :: ts => by rw [lastF, List.length_cons, lastF_len g (u :: ts)]; rfl
def lastT : List T → T
  | [] => .mk 0 [] [] [] []
  | [t] => t
  | _ :: u :: ts => lastT (u :: ts)
/-- the fresh name that a number picks -/
def pickW (s : T) (p : Nat) : W8 := freshL (moreL (p % 5) (frL s))
/-- Rename -/
def ren : List Int → T → Nat → T
  | [], t, p => if t.kind = 5 then .mk 5 t.name (pickW (lastT t.args) p) (lastF (fun s => sub s.size s t.var (vrT (pickW (lastT t.args) p))) t.args) t.form else t
  | i :: path, t, p => if h : 0 ≤ i ∧ i < t.args.length then .mk t.kind t.name t.var (t.args.set i.toNat (ren path (t.args[i.toNat]'(by omega)) p)) t.form else t
theorem sems_lastF (ρ : W8 → Nat → T) (d : Nat) (v w : W8) (g : T → T) : ∀ ts : List T, ts ≠ [] → sem (upd ρ w fun _ => lvl d) (d + 1) (g (lastT ts)) = sem (upd ρ v fun _ => lvl d) (d + 1) (lastT ts) →
    sems ρ d 5 w (lastF g ts) = sems ρ d 5 v ts
  | [], h, _ => absurd rfl h
  | [t], _, h => by
    rw [lastT] at h
    rw [lastF, sems, sems, sems, sems, if_pos ⟨rfl, rfl⟩, if_pos ⟨rfl, rfl⟩, h]
  | t :: u :: ts, _, h => by
    rw [lastT] at h
    have ih := sems_lastF ρ d v w g (u :: ts) (by simp) h
    have hl := lastF_len g (u :: ts)
    rw [lastF, sems, sems, ih, hl, if_neg (by simp), if_neg (by simp)]
theorem lastT_mem : ∀ ts : List T, ts ≠ [] → lastT ts ∈ ts
  | [], h => absurd rfl h
  | [t], _ => by rw [lastT]; exact List.mem_cons_self
  | t :: u :: ts, _ => by rw [lastT]; exact List.mem_cons_of_mem _ (lastT_mem (u :: ts) (by simp))
theorem lastF_all (g : T → T) (P : T → Prop) : ∀ ts : List T, (∀ u ∈ ts, P u) → (∀ u ∈ ts, P (g u)) → ∀ u ∈ lastF g ts, P u
  | [], _, _, u, hu => by rw [lastF] at hu; cases hu
  | [t], _, h2, u, hu => by
    rw [lastF, List.mem_singleton] at hu
    rw [hu]; exact h2 t List.mem_cons_self
  | t :: v :: ts, h1, h2, u, hu => by
    rw [lastF, List.mem_cons] at hu
    rcases hu with rfl | hu
    · exact h1 u List.mem_cons_self
    · exact lastF_all g P (v :: ts) (fun u hu => h1 u (List.mem_cons_of_mem _ hu)) (fun u hu => h2 u (List.mem_cons_of_mem _ hu)) u hu
theorem lastF_sizes (g : T → T) : ∀ ts : List T, (∀ u ∈ ts, (g u).size ≤ u.size) → sizes (lastF g ts) ≤ sizes ts
  | [], _ => by rw [lastF]; exact Nat.le_refl _
  | [t], h => by have := h t List.mem_cons_self; rw [lastF, sizes, sizes, sizes]; omega
  | t :: u :: ts, h => by
    have ih := lastF_sizes g (u :: ts) (fun v hv => h v (List.mem_cons_of_mem _ hv))
    rw [lastF, sizes]
    show _ ≤ sizes (t :: u :: ts)
    rw [sizes.eq_2 t (u :: ts)]
    omega
theorem pick_spec (s : T) (p : Nat) (h : s.size ≤ 2700) : identB (pickW s p) = true ∧ pickW s p ∉ frL s := by
  have h1 := moreL_len (p % 5) (frL s)
  have h2 := frL_len s
  have h3 : (moreL (p % 5) (frL s)).length ≤ 2755 := by omega
  exact ⟨fresh_ident _ h3, fun hm => fresh_not _ h3 (moreL_sub _ _ hm)⟩
theorem sems_set (ρ : W8 → Nat → T) (v : W8) (k : Int) (d : Nat) : ∀ (ts : List T) (i : Nat) (u : T) (hi : i < ts.length), (∀ ρ d, sem ρ d u = sem ρ d ts[i]) → sems ρ d k v (ts.set i u) = sems ρ d k v ts
  | [], i, u, hi, _ => by simp at hi
  | t :: ts, 0, u, _, h => by
    have h' : ∀ ρ d, sem ρ d u = sem ρ d t := h
    rw [List.set_cons_zero, sems, sems, h', h']
  | t :: ts, i + 1, u, hi, h => by
    rw [List.set_cons_succ, sems, sems, sems_set ρ v k d ts i u (by simpa using hi) h, List.length_set]
theorem sizes_set (u : T) : ∀ (ts : List T) (i : Nat) (hi : i < ts.length), u.size ≤ ts[i].size → sizes (ts.set i u) ≤ sizes ts
  | [], i, hi, _ => by simp at hi
  | t :: ts, 0, _, h => by
    have h' : u.size ≤ t.size := h
    rw [List.set_cons_zero, sizes, sizes]; omega
  | t :: ts, i + 1, hi, h => by
    have ih := sizes_set u ts i (by simpa using hi) h
    rw [List.set_cons_succ, sizes, sizes]; omega
/-- RENAMING: valid, no larger, of the same meaning -/
theorem ren_ok : ∀ (path : List Int) (t : T) (p : Nat), WF t → t.size ≤ 2600 → WF (ren path t p) ∧ (ren path t p).size ≤ t.size ∧ ∀ ρ d, sem ρ d (ren path t p) = sem ρ d t
  | [], t, p, hw, hz => by
    have hp := hw.parts
    rw [ren]
    split
    · rename_i hk
      have hb := own_bind hp.1 hk
      have hlm := lastT_mem t.args hb.2
      have hls := size_arg hlm
      have hps := pick_spec (lastT t.args) p (by omega)
      generalize hs : lastT t.args = s at *
      have hgs : ∀ u ∈ t.args, WF u ∧ u.size < t.size := fun u hu => ⟨hp.2.mem hu, size_arg hu⟩
      have hlen : (lastF (fun s_1 => sub s_1.size s_1 t.var (vrT (pickW s p))) t.args).length = t.args.length := lastF_len _ _
      refine ⟨?_, ?_, fun ρ d => ?_⟩
      · rw [WF]
        have ho := own_of hp.1 (pickW s p) (lastF (fun s_1 => sub s_1.size s_1 t.var (vrT (pickW s p))) t.args) hlen (fun _ => hps.1) (fun h => absurd hk h)
        rw [hk] at ho
        refine ⟨ho, WFs.of (lastF_all _ WF t.args (fun u hu => (hgs u hu).1) (fun u hu => ?_))⟩
        have := (hgs u hu).2
        exact sub_wf _ u _ _ (hgs u hu).1 (vrT_wf hps.1) (by rw [vrT_size]; omega)
      · have := lastF_sizes (fun s_1 => sub s_1.size s_1 t.var (vrT (pickW s p))) t.args (fun u _ => sub_var_size _ u _ _)
        rw [T.size, size_eq t]; omega
      · rw [sem, sem_eq _ _ t, if_neg (by omega), if_neg (by omega), hk]
        rw [sems_lastF ρ d t.var (pickW s p) _ t.args hb.2]
        rw [hs, sub_sem _ s _ _ _ _ (Nat.le_refl _) (by rw [vrT_size]; omega)]
        refine sem_congr _ _ _ s (fun y hy => ?_)
        by_cases e : y = t.var
        · rw [e, upd_same, upd_same]
          funext j
          unfold vrT
          rw [sem, if_pos rfl, upd_same]
        · rw [upd_other _ _ _ e, upd_other _ _ _ e, upd_other _ _ _ (show y ≠ pickW s p from fun e => hps.2 (by rw [← e]; exact hy))]
    · exact ⟨hw, Nat.le_refl _, fun _ _ => rfl⟩
  | i :: path, t, p, hw, hz => by
    have hp := hw.parts
    rw [ren]
    split
    · rename_i h
      have hi : i.toNat < t.args.length := by omega
      have hm : t.args[i.toNat] ∈ t.args := List.getElem_mem hi
      have hs := size_arg hm
      have ih := ren_ok path t.args[i.toNat] p (hp.2.mem hm) (by omega)
      refine ⟨?_, ?_, fun ρ d => ?_⟩
      · rw [WF]
        refine ⟨own_of hp.1 _ _ (List.length_set ..) (fun hk => (own_bind hp.1 hk).1) (fun _ => rfl), WFs.of (fun u hu => ?_)⟩
        rcases List.mem_or_eq_of_mem_set hu with hu | rfl
        · exact hp.2.mem hu
        · exact ih.1
      · have := sizes_set _ t.args i.toNat hi ih.2.1
        rw [T.size, size_eq t]; omega
      · rw [sem, sem_eq _ _ t, sems_set ρ t.var t.kind d t.args i.toNat _ hi ih.2.2]
    · exact ⟨hw, Nat.le_refl _, fun _ _ => rfl⟩
theorem ren_valid (path : List Int) (t : T) (p : Nat) (h : validB t = true) : validB (ren path t p) = true ∧ sem (envZ []) 0 (ren path t p) = sem (envZ []) 0 t := by
  have hv := (valid_iff t).1 h
  have ho := ren_ok path t p hv.1 (by omega)
  exact ⟨(valid_iff _).2 ⟨ho.1, by omega⟩, ho.2.2 _ _⟩
end Go.Proofs.YtknpigdpepmimaaGreatDoor
