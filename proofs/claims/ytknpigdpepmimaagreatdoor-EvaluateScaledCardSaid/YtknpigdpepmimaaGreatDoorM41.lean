/- Values as rational numbers: what the operations give, and what they give in other units. No program. -/
import Derived.Test.YtknpigdpepmimaaGreatDoorM13
namespace Go.Proofs.YtknpigdpepmimaaGreatDoor
theorem zpow_ne {q : Rat} (h : 0 < q) (n : Int) : q ^ n ≠ 0 := by
  have := Rat.zpow_pos (n := n) h
  intro e; rw [e] at this; exact absurd this (by decide)
theorem pos_ne {q : Rat} (h : 0 < q) : q ≠ 0 := by intro e; rw [e] at h; exact absurd h (by decide)
theorem zpow_mul_nat {q : Rat} (h : 0 < q) (x : Int) : ∀ n : Nat, q ^ (x * n) = (q ^ x) ^ n
  | 0 => by simp
  | n + 1 => by
    rw [show x * ((n + 1 : Nat) : Int) = x * n + x from by rw [Int.natCast_succ, Int.mul_add, Int.mul_one], Rat.zpow_add (pos_ne h), zpow_mul_nat h x n, Rat.pow_succ]
theorem zpow_mul {q : Rat} (h : 0 < q) (x n : Int) : q ^ (x * n) = (q ^ x) ^ n := by
  rcases Int.le_total 0 n with h0 | h0
  · obtain ⟨k, rfl⟩ := Int.eq_ofNat_of_zero_le h0
    exact zpow_mul_nat h x k
  · obtain ⟨k, hk⟩ := Int.eq_ofNat_of_zero_le (show 0 ≤ -n by omega)
    obtain rfl : n = -(k : Int) := by omega
    rw [Int.mul_neg, Rat.zpow_neg, Rat.zpow_neg, zpow_mul_nat h x k]; rfl
theorem mul_pow_nat (p q : Rat) : ∀ n : Nat, (p * q) ^ n = p ^ n * q ^ n
  | 0 => by simp
  | n + 1 => by rw [Rat.pow_succ, Rat.pow_succ, Rat.pow_succ, mul_pow_nat p q n]; grind
theorem mul_zpow' {p q : Rat} (n : Int) : (p * q) ^ n = p ^ n * q ^ n := by
  rcases Int.le_total 0 n with h0 | h0
  · obtain ⟨k, rfl⟩ := Int.eq_ofNat_of_zero_le h0
    exact mul_pow_nat p q k
  · obtain ⟨k, hk⟩ := Int.eq_ofNat_of_zero_le (show 0 ≤ -n by omega)
    obtain rfl : n = -(k : Int) := by omega
    rw [Rat.zpow_neg, Rat.zpow_neg, Rat.zpow_neg, Rat.zpow_natCast, Rat.zpow_natCast, Rat.zpow_natCast, mul_pow_nat p q k, Rat.inv_mul_rev, Rat.mul_comm]
/-- seven positive factors -/
structure Fs where
  a : Rat
  b : Rat
  c : Rat
  d : Rat
  e : Rat
  f : Rat
  g : Rat
  ha : 0 < a
  hb : 0 < b
  hc : 0 < c
  hd : 0 < d
  he : 0 < e
  hf : 0 < f
  hg : 0 < g
/-- the factor of a dimension -/
def Fs.P (F : Fs) (x : Dm) : Rat := F.a ^ x.a * F.b ^ x.b * F.c ^ x.c * F.d ^ x.d * F.e ^ x.e * F.f ^ x.f * F.g ^ x.g
theorem Fs.P_pos (F : Fs) (x : Dm) : 0 < F.P x := by
  unfold Fs.P
  exact Rat.mul_pos (Rat.mul_pos (Rat.mul_pos (Rat.mul_pos (Rat.mul_pos (Rat.mul_pos (Rat.zpow_pos F.ha) (Rat.zpow_pos F.hb)) (Rat.zpow_pos F.hc)) (Rat.zpow_pos F.hd)) (Rat.zpow_pos F.he)) (Rat.zpow_pos F.hf)) (Rat.zpow_pos F.hg)
theorem Fs.P_ne (F : Fs) (x : Dm) : F.P x ≠ 0 := pos_ne (F.P_pos x)
theorem Fs.P_zero (F : Fs) : F.P zD = 1 := by
  unfold Fs.P zD
  simp only [Rat.zpow_zero, Rat.mul_one]
theorem Fs.P_plus (F : Fs) (x y : Dm) : F.P (x.plus 1 y) = F.P x * F.P y := by
  unfold Fs.P Dm.plus
  simp only [Int.one_mul]
  rw [Rat.zpow_add (pos_ne F.ha), Rat.zpow_add (pos_ne F.hb), Rat.zpow_add (pos_ne F.hc), Rat.zpow_add (pos_ne F.hd), Rat.zpow_add (pos_ne F.he), Rat.zpow_add (pos_ne F.hf), Rat.zpow_add (pos_ne F.hg)]
  generalize F.a ^ x.a = a1; generalize F.b ^ x.b = b1; generalize F.c ^ x.c = c1; generalize F.d ^ x.d = d1; generalize F.e ^ x.e = e1; generalize F.f ^ x.f = f1; generalize F.g ^ x.g = g1
  generalize F.a ^ y.a = a2; generalize F.b ^ y.b = b2; generalize F.c ^ y.c = c2; generalize F.d ^ y.d = d2; generalize F.e ^ y.e = e2; generalize F.f ^ y.f = f2; generalize F.g ^ y.g = g2
  grind
theorem Fs.P_times (F : Fs) (x : Dm) (n : Int) : F.P (x.times n) = F.P x ^ n := by
  unfold Fs.P Dm.times
  simp only [mul_zpow', zpow_mul F.ha, zpow_mul F.hb, zpow_mul F.hc, zpow_mul F.hd, zpow_mul F.he, zpow_mul F.hf, zpow_mul F.hg]
theorem plus_minus (x y : Dm) : (x.plus (-1) y).plus 1 y = x := by
  cases x; cases y
  unfold Dm.plus
  simp only [Dm.mk.injEq]
  refine ⟨by omega, by omega, by omega, by omega, by omega, by omega, by omega⟩
theorem Fs.P_minus (F : Fs) (x y : Dm) : F.P (x.plus (-1) y) = F.P x / F.P y := by
  have h := F.P_plus (x.plus (-1) y) y
  rw [plus_minus] at h
  have := F.P_ne y
  grind
theorem half_twice {n : Int} (h : Int.tmod n 2 = 0) : Int.tdiv n 2 + 1 * Int.tdiv n 2 = n := by
  have := Int.mul_tdiv_add_tmod n 2
  omega
theorem half_plus {x : Dm} (h : x.even = true) : x.half.plus 1 x.half = x := by
  cases x
  unfold Dm.even evE at h
  simp only [Bool.and_eq_true, decide_eq_true_eq] at h
  obtain ⟨⟨⟨⟨⟨⟨h1, h2⟩, h3⟩, h4⟩, h5⟩, h6⟩, h7⟩ := h
  unfold Dm.half Dm.plus
  simp only [half_twice h1, half_twice h2, half_twice h3, half_twice h4, half_twice h5, half_twice h6, half_twice h7]
theorem Fs.P_half (F : Fs) {x : Dm} (h : x.even = true) : F.P x.half * F.P x.half = F.P x := by
  rw [← F.P_plus, half_plus h]
/-- the number of a value -/
def qv (v : V) : Rat := (v.num : Rat) / (v.den : Rat)
theorem cast_ne {d : Int} (h : d ≠ 0) : (d : Rat) ≠ 0 := by exact_mod_cast h
theorem V.ok.den_pos {v : V} (h : v.ok) : 1 ≤ v.den := ((Q.valid_iff _ _).1 h.1).1
theorem V.ok.den_ne {v : V} (h : v.ok) : (v.den : Rat) ≠ 0 := cast_ne (by have := h.den_pos; omega)
theorem quo_cross {a b c d : Int} (hb : b ≠ 0) (hd : d ≠ 0) : (a : Rat) / b = (c : Rat) / d ↔ a * d = c * b := by
  have h2 := cast_ne hb
  have h3 := cast_ne hd
  constructor
  · intro h
    have : (a : Rat) * d = c * b := by grind
    exact_mod_cast this
  · intro h
    have : (a : Rat) * d = c * b := by exact_mod_cast congrArg (fun x : Int => (x : Rat)) h
    grind
theorem qv_inj {u v : V} (hu : u.ok) (hv : v.ok) (hd : u.dim = v.dim) (h : qv u = qv v) : u = v := by
  have h1 := hu.den_pos
  have h2 := hv.den_pos
  have hc := (quo_cross (by omega) (by omega)).1 h
  have e1 := Q.mk_eq (n := u.num) (d := u.den) hu.1 (by omega) rfl
  have e2 := Q.mk_eq (n := u.num) (d := u.den) hv.1 (by omega) hc
  rw [e1] at e2
  cases u; cases v
  simp only [Q.Res.mk.injEq] at e2
  simp only [V.mk.injEq]
  exact ⟨e2.1, e2.2.1, hd⟩
theorem qv_zero {v : V} (h : v.ok) : v.num = 0 ↔ qv v = 0 := by
  have h1 := h.den_ne
  unfold qv
  constructor
  · intro e; rw [e]; grind
  · intro e
    have : (v.num : Rat) = 0 := by grind
    exact_mod_cast this
theorem mk_quo {n d : Int} (h : (Q.mk n d).err = 0) : ((Q.mk n d).num : Rat) / ((Q.mk n d).den : Rat) = (n : Rat) / d := by
  obtain ⟨h1, h2, h3⟩ := mk_spec h
  have h4 := ((Q.valid_iff _ _).1 h2).1
  exact (quo_cross (by omega) h1).2 h3.symm
theorem join_spec {x : Q.Res} {d : Dm} {f : Int} (h : (joinQ x d f).2 = 0) : x.err = 0 ∧ f = 0 ∧ (joinQ x d f).1 = ⟨x.num, x.den, d⟩ := by
  unfold joinQ at h ⊢
  by_cases hc : x.err = 0 ∧ f = 0
  · rw [if_pos hc]; exact ⟨hc.1, hc.2, rfl⟩
  · rw [if_neg hc] at h; exact absurd h (by decide)
theorem join_err2 {x : Q.Res} {d : Dm} {f : Int} (h : (joinQ x d f).2 ≠ 0) : (joinQ x d f).2 = 17 := by rw [join_err h]
theorem sum_spec {a b : V} (ha : a.ok) (hb : b.ok) (h : (sumV a b).2 = 0) : a.dim = b.dim ∧ (sumV a b).1.dim = a.dim ∧ qv (sumV a b).1 = qv a + qv b := by
  unfold sumV at h ⊢
  by_cases hd : a.dim = b.dim
  · rw [if_pos hd] at h ⊢
    obtain ⟨h1, _, h3⟩ := join_spec h
    rw [h3]
    refine ⟨hd, rfl, ?_⟩
    unfold Q.addQ at h1 ⊢
    rw [if_pos (by rw [ha.1, hb.1]; rfl)] at h1 ⊢
    show ((Q.mk _ _).num : Rat) / ((Q.mk _ _).den : Rat) = _
    rw [mk_quo h1]
    have e1 := ha.den_ne
    have e2 := hb.den_ne
    unfold qv
    simp only [Rat.intCast_add, Rat.intCast_mul]
    grind
  · rw [if_neg hd] at h; exact absurd h (by decide)
theorem dif_spec {a b : V} (ha : a.ok) (hb : b.ok) (h : (difV a b).2 = 0) : a.dim = b.dim ∧ (difV a b).1.dim = a.dim ∧ qv (difV a b).1 = qv a - qv b := by
  unfold difV at h ⊢
  by_cases hd : a.dim = b.dim
  · rw [if_pos hd] at h ⊢
    obtain ⟨h1, _, h3⟩ := join_spec h
    rw [h3]
    refine ⟨hd, rfl, ?_⟩
    unfold Q.subQ at h1 ⊢
    rw [if_pos (by rw [ha.1, hb.1]; rfl)] at h1 ⊢
    show ((Q.mk _ _).num : Rat) / ((Q.mk _ _).den : Rat) = _
    rw [mk_quo h1]
    have e1 := ha.den_ne
    have e2 := hb.den_ne
    unfold qv
    simp only [Rat.intCast_sub, Rat.intCast_mul]
    grind
  · rw [if_neg hd] at h; exact absurd h (by decide)
theorem sum_fail {a b : V} (hd : a.dim = b.dim) (h : (sumV a b).2 ≠ 0) : (sumV a b).2 = 17 := by
  unfold sumV at h ⊢
  rw [if_pos hd] at h ⊢
  exact join_err2 h
theorem dif_fail {a b : V} (hd : a.dim = b.dim) (h : (difV a b).2 ≠ 0) : (difV a b).2 = 17 := by
  unfold difV at h ⊢
  rw [if_pos hd] at h ⊢
  exact join_err2 h
theorem neg_spec {a : V} (ha : a.ok) : (negV a).2 = 0 ∧ (negV a).1.dim = a.dim ∧ qv (negV a).1 = - qv a := by
  unfold negV Q.negQ joinQ
  rw [if_pos ha.1, if_pos ⟨rfl, rfl⟩]
  refine ⟨rfl, rfl, ?_⟩
  unfold qv
  simp only [Rat.intCast_neg]
  grind
theorem comb_spec {x y : Dm} {s : Int} (h : (combQ x y s).2 = 0) : (combQ x y s).1 = x.plus s y := by
  unfold combQ at h ⊢
  split at h
  · split at h
    · rename_i h1 h2; rw [if_pos h1, if_pos h2]
    · exact absurd h (by decide)
  · exact absurd h (by decide)
theorem pro_spec {a b : V} (ha : a.ok) (hb : b.ok) (h : (proV a b).2 = 0) : (proV a b).1.dim = a.dim.plus 1 b.dim ∧ qv (proV a b).1 = qv a * qv b := by
  unfold proV at h ⊢
  obtain ⟨h1, h2, h3⟩ := join_spec h
  rw [h3]
  refine ⟨comb_spec h2, ?_⟩
  unfold Q.mulQ at h1 ⊢
  rw [if_pos (by rw [ha.1, hb.1]; rfl)] at h1 ⊢
  show ((Q.mk _ _).num : Rat) / ((Q.mk _ _).den : Rat) = _
  rw [mk_quo h1]
  have e1 := ha.den_ne
  have e2 := hb.den_ne
  unfold qv
  simp only [Rat.intCast_mul]
  grind
theorem pro_fail {a b : V} (h : (proV a b).2 ≠ 0) : (proV a b).2 = 17 := join_err2 h
theorem quo_spec {a b : V} (ha : a.ok) (hb : b.ok) (h : (quoV a b).2 = 0) : b.num ≠ 0 ∧ (quoV a b).1.dim = a.dim.plus (-1) b.dim ∧ qv (quoV a b).1 = qv a / qv b := by
  unfold quoV at h ⊢
  by_cases h0 : b.num = 0
  · rw [if_pos h0] at h; exact absurd h (by decide)
  rw [if_neg h0] at h ⊢
  obtain ⟨h1, h2, h3⟩ := join_spec h
  rw [h3]
  refine ⟨h0, comb_spec h2, ?_⟩
  unfold Q.divQ at h1 ⊢
  rw [if_pos (by rw [ha.1, hb.1]; rfl)] at h1 ⊢
  show ((Q.mk _ _).num : Rat) / ((Q.mk _ _).den : Rat) = _
  rw [mk_quo h1]
  have e1 := ha.den_ne
  have e2 := hb.den_ne
  have e3 := cast_ne h0
  unfold qv
  simp only [Rat.intCast_mul]
  grind
theorem quo_fail {a b : V} (h0 : b.num ≠ 0) (h : (quoV a b).2 ≠ 0) : (quoV a b).2 = 17 := by
  unfold quoV at h ⊢
  rw [if_neg h0] at h ⊢
  exact join_err2 h
theorem quo_pow (a b : Int) (hb : b ≠ 0) (k : Nat) : ((a ^ k : Int) : Rat) / ((b ^ k : Int) : Rat) = ((a : Rat) / b) ^ k := by
  have := cast_ne hb
  induction k with
  | zero => simp; grind
  | succ k ih =>
    rw [Rat.pow_succ, ← ih, Int.pow_succ, Int.pow_succ, Rat.intCast_mul, Rat.intCast_mul]
    have h2 : ((b ^ k : Int) : Rat) ≠ 0 := cast_ne (Int.pow_ne_zero hb)
    grind
theorem powQ_quo {a b n : Int} (hv : Q.validQ a b = true) (h : (Q.powQ a b n).err = 0) : ((Q.powQ a b n).num : Rat) / ((Q.powQ a b n).den : Rat) = ((a : Rat) / b) ^ n := by
  have hb := ((Q.valid_iff _ _).1 hv).1
  have hbn : b ≠ 0 := by omega
  unfold Q.powQ at h ⊢
  rw [if_pos hv] at h ⊢
  by_cases h0 : a = 0 ∧ n < 0
  · rw [if_pos h0] at h; exact absurd h (by decide)
  rw [if_neg h0] at h ⊢
  by_cases hn : n < 0
  · rw [if_pos hn] at h ⊢
    have ha : a ≠ 0 := fun e => h0 ⟨e, hn⟩
    unfold Q.powN at h ⊢
    split at h
    · rename_i hf
      rw [if_pos hf]
      rw [quo_pow _ _ (by omega)]
      obtain ⟨k, hk⟩ := Int.eq_ofNat_of_zero_le (show 0 ≤ -n by omega)
      have hn2 : n = -(k : Int) := by omega
      subst hn2
      rw [Rat.zpow_neg, Rat.zpow_natCast, show ((-(k : Int)).natAbs) = k from by omega]
      have e : ((a.sign * b : Int) : Rat) / ((a.natAbs : Int) : Rat) = ((a : Rat) / b)⁻¹ := by
        have h3 := cast_ne ha
        have h4 := cast_ne hbn
        rcases Int.lt_or_le a 0 with hs | hs
        · rw [Int.sign_eq_neg_one_of_neg hs, show ((a.natAbs : Nat) : Int) = -a from by omega, Int.neg_one_mul, Rat.intCast_neg, Rat.intCast_neg]
          grind
        · rw [Int.sign_eq_one_of_pos (by omega), show ((a.natAbs : Nat) : Int) = a from by omega, Int.one_mul]
          grind
      rw [e]
      have : ∀ (q : Rat) (k : Nat), q ≠ 0 → (q⁻¹) ^ k = (q ^ k)⁻¹ := fun q k hq => by
        have h5 := mul_pow_nat q q⁻¹ k
        rw [Rat.mul_inv_cancel q hq] at h5
        have h6 : (1 : Rat) ^ k = 1 := by
          clear h5
          induction k with
          | zero => rfl
          | succ k ih => rw [Rat.pow_succ, ih, Rat.mul_one]
        rw [h6] at h5
        exact (Rat.inv_eq_of_mul_eq_one h5.symm).symm
      exact this _ _ (by have := cast_ne ha; have := cast_ne hbn; grind)
    · exact absurd h (by decide)
  · rw [if_neg hn] at h ⊢
    unfold Q.powN at h ⊢
    split at h
    · rename_i hf
      rw [if_pos hf]
      rw [quo_pow _ _ hbn]
      obtain ⟨k, rfl⟩ := Int.eq_ofNat_of_zero_le (show 0 ≤ n by omega)
      rw [Rat.zpow_natCast]; rfl
    · exact absurd h (by decide)
theorem times_zero (n : Int) : zD.times n = zD := by
  unfold zD Dm.times
  simp only [Int.zero_mul]
theorem dpow_spec {x : Dm} {n : Int} (h : (dpowQ x n).2 = 0) : (dpowQ x n).1 = x.times n := by
  unfold dpowQ at h ⊢
  by_cases h1 : x.ok = true
  · rw [if_pos h1] at h ⊢
    by_cases h2 : x = zD
    · rw [if_pos h2, h2, times_zero]
    · rw [if_neg h2] at h ⊢
      by_cases h3 : n < -100 ∨ 100 < n
      · rw [if_pos h3] at h; exact absurd h (by decide)
      · rw [if_neg h3] at h ⊢
        by_cases h4 : (x.times n).ok = true
        · rw [if_pos h4]
        · rw [if_neg h4] at h; exact absurd h (by decide)
  · rw [if_neg h1] at h; exact absurd h (by decide)
theorem pow_spec {a b : V} (ha : a.ok) (h : (powV a b).2 = 0) : b.dim = zD ∧ b.den = 1 ∧ ¬ (a.num = 0 ∧ b.num < 0) ∧ (powV a b).1.dim = a.dim.times b.num ∧ qv (powV a b).1 = qv a ^ b.num := by
  unfold powV at h ⊢
  by_cases h1 : b.dim = zD
  · rw [if_pos h1] at h ⊢
    by_cases h2 : b.den = 1
    · rw [if_pos h2] at h ⊢
      by_cases h3 : a.num = 0 ∧ b.num < 0
      · rw [if_pos h3] at h; exact absurd h (by decide)
      · rw [if_neg h3] at h ⊢
        obtain ⟨e1, e2, e3⟩ := join_spec h
        rw [e3]
        exact ⟨h1, h2, h3, dpow_spec e2, powQ_quo ha.1 e1⟩
    · rw [if_neg h2] at h; exact absurd h (by decide)
  · rw [if_neg h1] at h; exact absurd h (by decide)
theorem pow_fail {a b : V} (h1 : b.dim = zD) (h3 : ¬ (a.num = 0 ∧ b.num < 0)) (h : (powV a b).2 ≠ 0) : (powV a b).2 = 17 := by
  unfold powV at h ⊢
  rw [if_pos h1] at h ⊢
  by_cases h2 : b.den = 1
  · rw [if_pos h2, if_neg h3] at h ⊢
    exact join_err2 h
  · rw [if_neg h2]
theorem droot_spec {x : Dm} (h : (drootQ x).2 = 0) : (drootQ x).1 = x.half ∧ x.even = true := by
  unfold drootQ at h ⊢
  by_cases h1 : x.ok = true
  · rw [if_pos h1] at h ⊢
    by_cases h2 : x.even = true
    · rw [if_pos h2]; exact ⟨rfl, h2⟩
    · rw [if_neg h2] at h; exact absurd h (by decide)
  · rw [if_neg h1] at h; exact absurd h (by decide)
theorem roo_spec {a : V} (ha : a.ok) (h : (rooV a).2 = 0) : (drootQ a.dim).2 = 0 ∧ a.dim.even = true ∧ (rooV a).1.dim = a.dim.half ∧ qv (rooV a).1 * qv (rooV a).1 = qv a ∧ 0 ≤ (rooV a).1.num := by
  unfold rooV at h ⊢
  by_cases h1 : (drootQ a.dim).2 = 0
  · rw [if_pos h1] at h ⊢
    obtain ⟨e1, e2, e3⟩ := join_spec h
    rw [e3]
    obtain ⟨d1, d2⟩ := droot_spec h1
    refine ⟨h1, d2, d1, ?_⟩
    unfold Q.rootQ at e1 ⊢
    rw [if_pos ha.1] at e1 ⊢
    split at e1
    · rename_i hs
      rw [if_pos hs]
      have hb := Q.sqr_bnd a.num
      refine ⟨?_, hb.1⟩
      have hne : Q.sqr a.den ≠ 0 := fun e => by
        have := ha.den_pos
        rw [e] at hs
        have := hs.2
        omega
      have h5 := cast_ne hne
      have h6 : (Q.sqr a.num : Rat) * Q.sqr a.num = a.num := by exact_mod_cast congrArg (fun x : Int => (x : Rat)) hs.1
      have h7 : (Q.sqr a.den : Rat) * Q.sqr a.den = a.den := by exact_mod_cast congrArg (fun x : Int => (x : Rat)) hs.2
      show (Q.sqr a.num : Rat) / Q.sqr a.den * ((Q.sqr a.num : Rat) / Q.sqr a.den) = (a.num : Rat) / a.den
      rw [← h6, ← h7]
      grind
    · exact absurd e1 (by decide)
  · rw [if_neg h1] at h; exact absurd h (by decide)
theorem roo_fail {a : V} (h1 : (drootQ a.dim).2 = 0) (h : (rooV a).2 ≠ 0) : (rooV a).2 = 17 := by
  unfold rooV at h ⊢
  rw [if_pos h1] at h ⊢
  exact join_err2 h
theorem quo_nonneg {v : V} (h : v.ok) : 0 ≤ v.num ↔ 0 ≤ qv v := by
  have h1 := h.den_pos
  have h2 : (0 : Rat) < v.den := Rat.intCast_pos.2 (by omega)
  have h3 := h.den_ne
  have e : (v.num : Rat) = qv v * v.den := by unfold qv; grind
  rw [← Rat.intCast_nonneg, e]
  constructor
  · intro h4
    rcases (Rat.le_total : 0 ≤ qv v ∨ qv v ≤ 0) with h5 | h5
    · exact h5
    · have h6 : qv v * v.den ≤ 0 := by
        have := Rat.mul_le_mul_of_nonneg_right h5 (Rat.le_of_lt h2)
        grind
      have h7 : qv v * v.den = 0 := Rat.le_antisymm h6 h4
      rcases Rat.mul_eq_zero.1 h7 with h8 | h8
      · rw [h8]; exact Rat.le_refl
      · exact absurd h8 h3
  · intro h4
    exact Rat.mul_nonneg h4 (Rat.le_of_lt h2)
theorem abs_spec {a : V} (ha : a.ok) : (absV a).2 = 0 ∧ (absV a).1.dim = a.dim ∧ qv (absV a).1 = if 0 ≤ qv a then qv a else - qv a := by
  refine ⟨rfl, rfl, ?_⟩
  by_cases h : 0 ≤ a.num
  · rw [if_pos ((quo_nonneg ha).1 h)]
    unfold absV qv
    rw [show max a.num (-a.num) = a.num from by omega]
  · rw [if_neg (fun h2 => h ((quo_nonneg ha).2 h2))]
    unfold absV qv
    rw [show max a.num (-a.num) = -a.num from by omega]
    simp only [Rat.intCast_neg]
    grind
/-- a value in other units -/
def Scl (F : Fs) (v v' : V) : Prop := v'.ok ∧ v'.dim = v.dim ∧ qv v' * F.P v.dim = qv v
theorem Scl.pure {F : Fs} {v v' : V} (h : Scl F v v') (hv : v.ok) (hd : v.dim = zD) : v' = v := by
  refine qv_inj h.1 hv h.2.1 ?_
  have := h.2.2
  rw [hd, F.P_zero] at this
  grind
theorem Scl.same {F : Fs} {v : V} (hv : v.ok) (hd : v.dim = zD) : Scl F v v := ⟨hv, rfl, by rw [hd, F.P_zero]; grind⟩
theorem Scl.zero {F : Fs} {v v' : V} (h : Scl F v v') (hv : v.ok) : v'.num = 0 ↔ v.num = 0 := by
  rw [qv_zero hv, qv_zero h.1, ← h.2.2]
  have := F.P_ne v.dim
  constructor
  · intro e; rw [e]; grind
  · intro e
    rcases Rat.mul_eq_zero.1 e with h1 | h1
    · exact h1
    · exact absurd h1 this
theorem Scl.nonneg {F : Fs} {v v' : V} (h : Scl F v v') : 0 ≤ qv v' ↔ 0 ≤ qv v := by
  rw [← h.2.2]
  have h2 := F.P_pos v.dim
  constructor
  · intro e; exact Rat.mul_nonneg e (Rat.le_of_lt h2)
  · intro h4
    rcases (Rat.le_total : 0 ≤ qv v' ∨ qv v' ≤ 0) with h5 | h5
    · exact h5
    · have h6 : qv v' * F.P v.dim ≤ 0 := by
        have := Rat.mul_le_mul_of_nonneg_right h5 (Rat.le_of_lt h2)
        grind
      have h7 := Rat.le_antisymm h6 h4
      rcases Rat.mul_eq_zero.1 h7 with h8 | h8
      · rw [h8]; exact Rat.le_refl
      · exact absurd h8 (pos_ne h2)
/-- what an operation gives in other units -/
def SclR (F : Fs) (r r' : V × Int) : Prop := r'.2 = 17 ∨ (r'.2 = 0 ∧ Scl F r.1 r'.1)
theorem sum_scl {F : Fs} {a b a' b' : V} (ha : a.ok) (hb : b.ok) (h1 : Scl F a a') (h2 : Scl F b b') (h : (sumV a b).2 = 0) : SclR F (sumV a b) (sumV a' b') := by
  obtain ⟨e1, e2, e3⟩ := sum_spec ha hb h
  have hd : a'.dim = b'.dim := by rw [h1.2.1, h2.2.1, e1]
  by_cases h0 : (sumV a' b').2 = 0
  · obtain ⟨f1, f2, f3⟩ := sum_spec h1.1 h2.1 h0
    refine .inr ⟨h0, sumV_ok h1.1 h0, by rw [f2, h1.2.1, e2], ?_⟩
    rw [f3, e3, e2, ← h1.2.2, ← h2.2.2, ← e1]
    grind
  · exact .inl (sum_fail hd h0)
theorem dif_scl {F : Fs} {a b a' b' : V} (ha : a.ok) (hb : b.ok) (h1 : Scl F a a') (h2 : Scl F b b') (h : (difV a b).2 = 0) : SclR F (difV a b) (difV a' b') := by
  obtain ⟨e1, e2, e3⟩ := dif_spec ha hb h
  have hd : a'.dim = b'.dim := by rw [h1.2.1, h2.2.1, e1]
  by_cases h0 : (difV a' b').2 = 0
  · obtain ⟨f1, f2, f3⟩ := dif_spec h1.1 h2.1 h0
    refine .inr ⟨h0, difV_ok h1.1 h0, by rw [f2, h1.2.1, e2], ?_⟩
    rw [f3, e3, e2, ← h1.2.2, ← h2.2.2, ← e1]
    grind
  · exact .inl (dif_fail hd h0)
theorem neg_scl {F : Fs} {a a' : V} (ha : a.ok) (h1 : Scl F a a') : SclR F (negV a) (negV a') := by
  obtain ⟨e1, e2, e3⟩ := neg_spec ha
  obtain ⟨f1, f2, f3⟩ := neg_spec h1.1
  refine .inr ⟨f1, negV_ok h1.1 f1, by rw [f2, h1.2.1, e2], ?_⟩
  rw [f3, e3, e2, ← h1.2.2]
  grind
theorem pro_scl {F : Fs} {a b a' b' : V} (ha : a.ok) (hb : b.ok) (h1 : Scl F a a') (h2 : Scl F b b') (h : (proV a b).2 = 0) : SclR F (proV a b) (proV a' b') := by
  obtain ⟨e2, e3⟩ := pro_spec ha hb h
  by_cases h0 : (proV a' b').2 = 0
  · obtain ⟨f2, f3⟩ := pro_spec h1.1 h2.1 h0
    refine .inr ⟨h0, proV_ok h0, by rw [f2, h1.2.1, h2.2.1, e2], ?_⟩
    rw [f3, e3, e2, F.P_plus, ← h1.2.2, ← h2.2.2]
    grind
  · exact .inl (pro_fail h0)
theorem quo_scl {F : Fs} {a b a' b' : V} (ha : a.ok) (hb : b.ok) (h1 : Scl F a a') (h2 : Scl F b b') (h : (quoV a b).2 = 0) : SclR F (quoV a b) (quoV a' b') := by
  obtain ⟨e1, e2, e3⟩ := quo_spec ha hb h
  have hn : b'.num ≠ 0 := fun e => e1 ((h2.zero hb).1 e)
  by_cases h0 : (quoV a' b').2 = 0
  · obtain ⟨f1, f2, f3⟩ := quo_spec h1.1 h2.1 h0
    refine .inr ⟨h0, quoV_ok h0, by rw [f2, h1.2.1, h2.2.1, e2], ?_⟩
    have g1 : qv b' ≠ 0 := fun e => hn ((qv_zero h2.1).2 e)
    have g2 := F.P_ne b.dim
    rw [f3, e3, e2, F.P_minus, ← h1.2.2, ← h2.2.2]
    grind
  · exact .inl (quo_fail hn h0)
theorem pow_scl {F : Fs} {a b a' b' : V} (ha : a.ok) (hb : b.ok) (h1 : Scl F a a') (h2 : Scl F b b') (h : (powV a b).2 = 0) : SclR F (powV a b) (powV a' b') := by
  obtain ⟨e0, e1, e4, e2, e3⟩ := pow_spec ha h
  obtain rfl := h2.pure hb e0
  have hn : ¬ (a'.num = 0 ∧ b'.num < 0) := fun e => e4 ⟨(h1.zero ha).1 e.1, e.2⟩
  by_cases h0 : (powV a' b').2 = 0
  · obtain ⟨f0, f1, f4, f2, f3⟩ := pow_spec h1.1 h0
    refine .inr ⟨h0, powV_ok h0, by rw [f2, h1.2.1, e2], ?_⟩
    rw [f3, e3, e2, F.P_times, ← h1.2.2, mul_zpow']
  · exact .inl (pow_fail e0 hn h0)
theorem sq_inj {a b : Rat} (ha : 0 ≤ a) (hb : 0 ≤ b) (h : a * a = b * b) : a = b := by
  have : (a - b) * (a + b) = 0 := by grind
  rcases Rat.mul_eq_zero.1 this with h | h
  · grind
  · have : a = 0 := by grind
    grind
theorem roo_scl {F : Fs} {a a' : V} (ha : a.ok) (h1 : Scl F a a') (h : (rooV a).2 = 0) : SclR F (rooV a) (rooV a') := by
  obtain ⟨e0, e1, e2, e3, e4⟩ := roo_spec ha h
  by_cases h0 : (rooV a').2 = 0
  · obtain ⟨f0, f1, f2, f3, f4⟩ := roo_spec h1.1 h0
    refine .inr ⟨h0, rooV_ok h0, by rw [f2, h1.2.1, e2], ?_⟩
    have g1 := (quo_nonneg (rooV_ok h)).1 e4
    have g2 := (quo_nonneg (rooV_ok h0)).1 f4
    refine sq_inj (Rat.mul_nonneg g2 (Rat.le_of_lt (F.P_pos _))) g1 ?_
    rw [e3, e2, ← h1.2.2, ← f3, ← F.P_half e1]
    grind
  · exact .inl (roo_fail (by rw [h1.2.1]; exact e0) h0)
theorem abs_scl {F : Fs} {a a' : V} (ha : a.ok) (h1 : Scl F a a') : SclR F (absV a) (absV a') := by
  obtain ⟨e1, e2, e3⟩ := abs_spec ha
  obtain ⟨f1, f2, f3⟩ := abs_spec h1.1
  refine .inr ⟨f1, absV_ok h1.1, by rw [f2, h1.2.1, e2], ?_⟩
  rw [f3, e3, e2]
  by_cases h : 0 ≤ qv a
  · rw [if_pos h, if_pos (h1.nonneg.2 h)]; exact h1.2.2
  · rw [if_neg h, if_neg (fun h2 => h (h1.nonneg.1 h2)), ← h1.2.2]; grind
theorem fac_scl {F : Fs} {a a' : V} (ha : a.ok) (h1 : Scl F a a') (h : (facV a).2 = 0) : SclR F (facV a) (facV a') := by
  have hd : a.dim = zD := by
    unfold facV at h
    by_cases hd : a.dim = zD
    · exact hd
    · rw [if_neg hd] at h; exact absurd h (by decide)
  obtain rfl := h1.pure ha hd
  refine .inr ⟨h, Scl.same (facV_ok h) ?_⟩
  unfold facV at h ⊢
  rw [if_pos hd] at h ⊢
  split at h
  · rename_i h2; rw [if_pos h2]; rfl
  · exact absurd h (by decide)
end Go.Proofs.YtknpigdpepmimaaGreatDoor
