/- The laws of three numbers, and of results with errors. No program. -/
import Derived.Test.YtaekhbhjgcmghaaDoorField
namespace Go.Proofs.YtaekhbhjgcmghaaDoor

theorem agree_of {x y : Res} (h : x.err = 0 → y.err = 0 → x.num = y.num ∧ x.den = y.den) : agreeQ x y = true := by
  unfold agreeQ
  by_cases h1 : x.err = 0
  · by_cases h2 : y.err = 0
    · obtain ⟨e1, e2⟩ := h h1 h2
      simp [h1, h2, e1, e2]
    · simp [h2]
  · simp [h1]
theorem op0_ok {x y : Res} (h : (op0 x y).err = 0) : x.err = 0 ∧ y.err = 0 ∧ op0 x y = addQ x.num x.den y.num y.den := by
  unfold op0 at h ⊢
  split
  · rename_i hc; exact ⟨hc.1, hc.2, rfl⟩
  · rename_i hc; rw [if_neg hc] at h; cases h
theorem op2_ok {x y : Res} (h : (op2 x y).err = 0) : x.err = 0 ∧ y.err = 0 ∧ op2 x y = mulQ x.num x.den y.num y.den := by
  unfold op2 at h ⊢
  split
  · rename_i hc; exact ⟨hc.1, hc.2, rfl⟩
  · rename_i hc; rw [if_neg hc] at h; cases h

/-- sums of three: the left one -/
theorem sum3 {ln ld sn sd xn xd yn yd zn zd : Int} (hs : sd ≠ 0) (h1 : ln * (sd * zd) = (sn * zd + zn * sd) * ld) (h2 : sn * (xd * yd) = (xn * yd + yn * xd) * sd) :
    ln * (xd * yd * zd) = (xn * yd * zd + yn * xd * zd + zn * xd * yd) * ld := by
  apply Int.eq_of_mul_eq_mul_left hs
  have e : (ln * (sd * zd)) * (xd * yd) = (sn * (xd * yd)) * zd * ld + zn * sd * ld * (xd * yd) := by rw [h1]; grind
  rw [h2] at e
  grind
theorem prod3 {ln ld sn sd xn xd yn yd zn zd : Int} (hs : sd ≠ 0) (h1 : ln * (sd * zd) = (sn * zn) * ld) (h2 : sn * (xd * yd) = (xn * yn) * sd) :
    ln * (xd * yd * zd) = (xn * yn * zn) * ld := by
  apply Int.eq_of_mul_eq_mul_left hs
  have e : (ln * (sd * zd)) * (xd * yd) = (sn * (xd * yd)) * zn * ld := by rw [h1]; grind
  rw [h2] at e
  grind
theorem sum3r {rn rd sn sd xn xd yn yd zn zd : Int} (hs : sd ≠ 0) (h1 : rn * (xd * sd) = (xn * sd + sn * xd) * rd) (h2 : sn * (yd * zd) = (yn * zd + zn * yd) * sd) :
    rn * (xd * yd * zd) = (xn * yd * zd + yn * xd * zd + zn * xd * yd) * rd := by
  have h3 : rn * (sd * xd) = (sn * xd + xn * sd) * rd := by rw [Int.mul_comm sd, h1, Int.add_comm]
  have := sum3 hs h3 h2
  grind
theorem prod3r {rn rd sn sd xn xd yn yd zn zd : Int} (hs : sd ≠ 0) (h1 : rn * (xd * sd) = (xn * sn) * rd) (h2 : sn * (yd * zd) = (yn * zn) * sd) :
    rn * (xd * yd * zd) = (xn * yn * zn) * rd := by
  have h3 : rn * (sd * xd) = (sn * xn) * rd := by rw [Int.mul_comm sd, h1, Int.mul_comm sn]
  have := prod3 hs h3 h2
  grind
theorem same_of {ln ld rn rd D N : Int} (hD : D ≠ 0) (h1 : ln * D = N * ld) (h2 : rn * D = N * rd) : ln * rd = rn * ld := by
  apply Int.eq_of_mul_eq_mul_left hD
  have e1 : D * (ln * rd) = (ln * D) * rd := by grind
  have e2 : D * (rn * ld) = (rn * D) * ld := by grind
  rw [e1, e2, h1, h2]; grind

theorem add_assoc3 (x y z : Res) : agreeQ (op0 (op0 x y) z) (op0 x (op0 y z)) = true := by
  apply agree_of
  intro h1 h2
  obtain ⟨hl, hz, e1⟩ := op0_ok h1
  obtain ⟨hx, hr, e2⟩ := op0_ok h2
  obtain ⟨_, hy, e3⟩ := op0_ok hl
  obtain ⟨_, _, e4⟩ := op0_ok hr
  rw [e1] at h1 ⊢
  rw [e2] at h2 ⊢
  rw [e3] at h1 hl ⊢
  rw [e4] at h2 hr ⊢
  obtain ⟨vxy, vz, vl, ql⟩ := addQ_ok h1
  obtain ⟨vx, vyz, vr, qr⟩ := addQ_ok h2
  obtain ⟨_, vy, _, qxy⟩ := addQ_ok hl
  obtain ⟨_, _, _, qyz⟩ := addQ_ok hr
  refine valid_unique vl vr (same_of (D := x.den * y.den * z.den) (Int.mul_ne_zero (Int.mul_ne_zero (valid_den vx) (valid_den vy)) (valid_den vz)) (sum3 (valid_den vxy) ql qxy) ?_)
  exact sum3r (valid_den vyz) qr qyz
theorem mul_assoc3 (x y z : Res) : agreeQ (op2 (op2 x y) z) (op2 x (op2 y z)) = true := by
  apply agree_of
  intro h1 h2
  obtain ⟨hl, hz, e1⟩ := op2_ok h1
  obtain ⟨hx, hr, e2⟩ := op2_ok h2
  obtain ⟨_, hy, e3⟩ := op2_ok hl
  obtain ⟨_, _, e4⟩ := op2_ok hr
  rw [e1] at h1 ⊢
  rw [e2] at h2 ⊢
  rw [e3] at h1 hl ⊢
  rw [e4] at h2 hr ⊢
  obtain ⟨vxy, vz, vl, ql⟩ := mulQ_ok h1
  obtain ⟨vx, vyz, vr, qr⟩ := mulQ_ok h2
  obtain ⟨_, vy, _, qxy⟩ := mulQ_ok hl
  obtain ⟨_, _, _, qyz⟩ := mulQ_ok hr
  refine valid_unique vl vr (same_of (D := x.den * y.den * z.den) (Int.mul_ne_zero (Int.mul_ne_zero (valid_den vx) (valid_den vy)) (valid_den vz)) (prod3 (valid_den vxy) ql qxy) ?_)
  exact prod3r (valid_den vyz) qr qyz
/-- a product with a sum, from the results -/
theorem distr_lhs {an ad sn sd xn xd yn yd zn zd : Int} (hs : sd ≠ 0) (h1 : an * (xd * sd) = (xn * sn) * ad) (h2 : sn * (yd * zd) = (yn * zd + zn * yd) * sd) :
    an * (xd * yd * zd) = (xn * (yn * zd + zn * yd)) * ad := by
  apply Int.eq_of_mul_eq_mul_left hs
  have e : (an * (xd * sd)) * (yd * zd) = xn * (sn * (yd * zd)) * ad := by rw [h1]; grind
  rw [h2] at e
  grind
theorem distr_rhs {bn bd pn pd qn qd xn xd yn yd zn zd : Int} (hp : pd ≠ 0) (hq : qd ≠ 0) (hx : xd ≠ 0) (h1 : bn * (pd * qd) = (pn * qd + qn * pd) * bd) (h2 : pn * (xd * yd) = (xn * yn) * pd) (h3 : qn * (xd * zd) = (xn * zn) * qd) :
    bn * (xd * yd * zd) = (xn * (yn * zd + zn * yd)) * bd := by
  apply Int.eq_of_mul_eq_mul_left hp
  apply Int.eq_of_mul_eq_mul_left hq
  apply Int.eq_of_mul_eq_mul_left hx
  have e : (bn * (pd * qd)) * (xd * (xd * yd * zd)) = ((pn * (xd * yd)) * qd * (xd * zd) + (qn * (xd * zd)) * pd * (xd * yd)) * bd := by rw [h1]; grind
  rw [h2, h3] at e
  grind
theorem distr3 (x y z : Res) (hx : x.err = 0) : agreeQ (op2 x (addQ y.num y.den z.num z.den)) (op0 (mulQ x.num x.den y.num y.den) (mulQ x.num x.den z.num z.den)) = true := by
  have _ := hx
  apply agree_of
  intro h1 h2
  obtain ⟨_, hs, e1⟩ := op2_ok h1
  obtain ⟨hp, hq, e2⟩ := op0_ok h2
  rw [e1] at h1 ⊢
  rw [e2] at h2 ⊢
  obtain ⟨vx, vs, va, qa⟩ := mulQ_ok h1
  obtain ⟨vp, vq, vb, qb⟩ := addQ_ok h2
  obtain ⟨vy, vz, _, qs⟩ := addQ_ok hs
  obtain ⟨_, _, _, qp⟩ := mulQ_ok hp
  obtain ⟨_, _, _, qq⟩ := mulQ_ok hq
  exact valid_unique va vb (same_of (D := x.den * y.den * z.den) (Int.mul_ne_zero (Int.mul_ne_zero (valid_den vx) (valid_den vy)) (valid_den vz)) (distr_lhs (valid_den vs) qa qs) (distr_rhs (valid_den vp) (valid_den vq) (valid_den vx) qb qp qq))
theorem op0_comm (x y : Res) : op0 x y = op0 y x := by unfold op0; rw [addQ_comm]; simp only [and_comm]
theorem op2_comm (x y : Res) : op2 x y = op2 y x := by unfold op2; rw [mulQ_comm]; simp only [and_comm]
end Go.Proofs.YtaekhbhjgcmghaaDoor
