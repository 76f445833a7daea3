/- Walk of LengthSymmetric. -/
import Derived.Test.YtbaljopgkelcfaaDoorText
namespace Go.Proofs.YtbaljopgkelcfaaDoor
open Go.RowKit

theorem valid_neg (n : Int) : validL (-n) = validL n := by rw [Bool.eq_iff_iff, validL_iff, validL_iff]; omega
theorem half_neg (n : Int) : halfL (-n) = -halfL n := by
  unfold halfL
  rw [valid_neg]
  split
  · exact rnd_neg1 n 2 (by decide)
  · rfl
theorem scale_neg (n p : Int) : scaleL (-n) p = -scaleL n p := by
  unfold scaleL
  rw [valid_neg]
  split
  · rw [Int.neg_mul]; exact rnd_neg1 _ _ (by decide)
  · rfl
theorem mulDiv_neg (n a b : Int) : mulDivL (-n) a b = -mulDivL n a b := by
  unfold mulDivL
  rw [valid_neg]
  split
  · rename_i h
    simp at h
    rw [Int.neg_mul]; exact rnd_neg1 _ _ h.2
  · rfl
theorem rnd_mul (a b c : Int) (hb : b ≠ 0) (hc : c ≠ 0) : rnd (c * a) (c * b) = rnd a b := by
  have key : ∀ (k : Nat) (a b : Int), 0 < k → b ≠ 0 → rnd ((k : Int) * a) ((k : Int) * b) = rnd a b := by
    intro k a b hk hb
    unfold rnd
    have hs : ∀ x : Int, decide ((k : Int) * x < 0) = decide (x < 0) := by
      intro x
      have hk' : (0 : Int) < (k : Int) := by omega
      by_cases hx : x < 0
      · rw [decide_eq_true hx, decide_eq_true (Int.mul_neg_of_pos_of_neg hk' hx)]
      · rw [decide_eq_false hx, decide_eq_false (by have := Int.mul_nonneg (Int.le_of_lt hk') (by omega : 0 ≤ x); omega)]
    rw [hs, hs, Int.natAbs_mul, Int.natAbs_mul, Int.natAbs_natCast, rn_mul _ _ _ hk]
  by_cases h : c < 0
  · obtain ⟨k, rfl⟩ : ∃ k : Nat, c = -(k : Int) := ⟨c.natAbs, by omega⟩
    rw [Int.neg_mul, Int.neg_mul, rnd_neg _ _ (Int.mul_ne_zero (by omega) hb)]
    exact key k a b (by omega) hb
  · obtain ⟨k, rfl⟩ : ∃ k : Nat, c = (k : Int) := ⟨c.natAbs, by omega⟩
    exact key k a b (by omega) hb
theorem mulDiv_mul (n a b c : Int) (hc : c ≠ 0) (ha : validL a = true) (hb : validL b = true) (ha' : validL (c * a) = true) (hb' : validL (c * b) = true) : mulDivL n (c * a) (c * b) = mulDivL n a b := by
  unfold mulDivL
  rw [ha, hb, ha', hb']
  by_cases h0 : b = 0
  · subst h0; simp
  · have e1 : (b == 0) = false := by simpa using h0
    have e2 : (c * b == 0) = false := by simpa using ⟨hc, h0⟩
    rw [e1, e2]
    split
    · rw [Int.mul_left_comm]; exact rnd_mul _ _ _ h0 hc
    · rfl

theorem rnd_le (x y : Int) (B : Nat) (hy : y ≠ 0) (hx : x.natAbs ≤ B) : -(B : Int) ≤ rnd x y ∧ rnd x y ≤ (B : Int) := by
  have := rnd_bnd x y hy; omega
theorem half_bnd (n : Int) : -2305843009213693952 ≤ halfL n ∧ halfL n ≤ 2305843009213693952 := by
  unfold halfL
  split
  · rename_i h
    obtain ⟨h1, h2⟩ := (validL_iff n).1 h
    have := rnd_le n 2 1073741824 (by decide) (by omega)
    omega
  · omega
theorem scale_bnd (n p : Int) : -2305843009213693952 ≤ scaleL n p ∧ scaleL n p ≤ 2305843009213693952 := by
  unfold scaleL
  split
  · rename_i h
    simp only [Bool.and_eq_true, decide_eq_true_eq] at h
    obtain ⟨⟨h0, h1⟩, h2⟩ := h
    obtain ⟨n1, n2⟩ := (validL_iff n).1 h0
    have hp := prod_bnd (a := n) (b := p) (A := 1073741824) (B := 10000) (by omega) (by omega)
    have := rnd_le (n * p) 100 10737418240000 (by decide) (by omega)
    omega
  · omega
theorem mulDiv_bnd (n a b : Int) : -2305843009213693952 ≤ mulDivL n a b ∧ mulDivL n a b ≤ 2305843009213693952 := by
  unfold mulDivL
  split
  · rename_i h
    simp only [Bool.and_eq_true, Bool.not_eq_true', beq_eq_false_iff_ne] at h
    obtain ⟨⟨⟨h0, h1⟩, h2⟩, h3⟩ := h
    obtain ⟨n1, n2⟩ := (validL_iff n).1 h0
    obtain ⟨a1, a2⟩ := (validL_iff a).1 h1
    have hp := prod_bnd (a := n) (b := a) (A := 1073741824) (B := 1073741824) (by omega) (by omega)
    have := rnd_le (n * a) b 1152921504606846976 h3 (by omega)
    omega
  · omega
theorem half_eq (x r : Int) (w : World) (h : halfL x = r) : Calls Tryd.prog 15 #[.int .i64 x] w fun e w' => e = .returned (.int .i64 r) ∧ Below w.heap.size w w' := h ▸ half_any x w
theorem scale_eq (x r : Int) (w : World) (h : scaleL x 70 = r) : Calls Tryd.prog 13 #[.int .i64 x, .int .i64 70] w fun e w' => e = .returned (.int .i64 r) ∧ Below w.heap.size w w' := h ▸ scale_any x 70 w (by omega) (by omega)
theorem mulDiv_eq (x a b r : Int) (w : World) (h : mulDivL x a b = r) : Calls Tryd.prog 17 #[.int .i64 x, .int .i64 a, .int .i64 b] w fun e w' => e = .returned (.int .i64 r) ∧ Below w.heap.size w w' := h ▸ mulDiv_any x a b w
structure Two (w : World) (b : Nat) (v0 v1 : Value) : Prop where
  c0 : w.cell? ⟨b, 0, none⟩ = some v0
  c1 : w.cell? ⟨b, 1, none⟩ = some v1
  lt : b < w.heap.size
theorem Two.below {w w' : World} {b : Nat} {v0 v1 : Value} (h : Two w b v0 v1) (hb : Below w.heap.size w w') : Two w' b v0 v1 :=
  ⟨(hb.cell (p := ⟨b, 0, none⟩) h.lt).trans h.c0, (hb.cell (p := ⟨b, 1, none⟩) h.lt).trans h.c1, Nat.lt_of_lt_of_le h.lt hb.size⟩
theorem Two.new (w : World) (v0 v1 : Value) (t : TypeId) : Two (w.alloc (.cells #[v0, v1] t)) w.heap.size v0 v1 := ⟨by simp, by simp, by simp⟩

set_option maxRecDepth 20000 in
set_option maxHeartbeats 2000000 in
theorem sym_main (n a b c : Int) (w : World) (ht : Tab w) (hn : validL n = true) (ha : validL a = true) (hb : validL b = true) (hc : -9223372036854775808 ≤ c) (hC : c ≤ 9223372036854775807) :
    Calls Tryd.prog 6 #[.int .i64 n, .agg #[.int .i64 a, .int .i64 b], .int .i64 c] w fun e w' => e = .returned (.bool true) ∧ Below w.heap.size w w' := by
  obtain ⟨n1, n2⟩ := (validL_iff n).1 hn
  obtain ⟨a1, a2⟩ := (validL_iff a).1 ha
  obtain ⟨b1, b2⟩ := (validL_iff b).1 hb
  have HT := Lib.hid ht
  have HN := Lib.hid hn
  have HA := Lib.hid ha
  have HB := Lib.hid hb
  clear ht hn ha hb
  obtain ⟨hf, hhf⟩ : ∃ hf, hf = halfL n := ⟨_, rfl⟩
  obtain ⟨sc, hsc⟩ : ∃ sc, sc = scaleL n 70 := ⟨_, rfl⟩
  obtain ⟨md, hmd⟩ : ∃ md, md = mulDivL n a b := ⟨_, rfl⟩
  have bh : -2305843009213693952 ≤ hf ∧ hf ≤ 2305843009213693952 := hhf ▸ half_bnd n
  have bs : -2305843009213693952 ≤ sc ∧ sc ≤ 2305843009213693952 := hsc ▸ scale_bnd n 70
  have bm : -2305843009213693952 ≤ md ∧ md ≤ 2305843009213693952 := hmd ▸ mulDiv_bnd n a b
  have h1 : Hid (halfL n = hf) := Lib.hid hhf.symm
  have h2 : Hid (halfL (-n) = -hf) := by show halfL (-n) = -hf; rw [half_neg, hhf]
  have s1 : Hid (scaleL n 70 = sc) := Lib.hid hsc.symm
  have s2 : Hid (scaleL (-n) 70 = -sc) := by show scaleL (-n) 70 = -sc; rw [scale_neg, hsc]
  have m1 : Hid (mulDivL n a b = md) := Lib.hid hmd.symm
  have m2 : Hid (mulDivL (-n) a b = -md) := by show mulDivL (-n) a b = -md; rw [mulDiv_neg, hmd]
  clear hhf hsc hmd
  have HTW := Lib.hid (Two.new w (.int .i64 a) (.int .i64 b) 31)
  have HBW : Hid (Below w.heap.size w (w.alloc (.cells #[.int .i64 a, .int .i64 b] 31))) := Lib.hid ((Below.refl _ _).alloc (Nat.le_refl _) _)
  go_enter Tryd.func6, Tryd.ntmps6
  go_wp2_with fail
  refine (awake_any _ (HT.out.below HBW.out)).mono ?_
  rintro e w1 ⟨rfl, hb1⟩
  have HB1 := Lib.hid (HBW.out.trans (hb1.mono HBW.out.size))
  have HT1 := Lib.hid (HTW.out.below hb1)
  have p0 := HT1.out.c0
  have p1 := HT1.out.c1
  clear hb1 HTW HBW
  go_wp2_with fail
  refine (refValid_any n _).mono ?_
  rw [HN.out]
  rintro e w' ⟨rfl, rfl⟩
  go_wp2_with fail
  refine (refValid_any a _).mono ?_
  rw [HA.out]
  rintro e w' ⟨rfl, rfl⟩
  go_wp2_with fail
  refine (refValid_any b _).mono ?_
  rw [HB.out]
  rintro e w' ⟨rfl, rfl⟩
  go_wp2
  have k0 := fun d os => cell_regrown p0 d os
  have k1 := fun d os => cell_regrown p1 d os
  refine wp_region_quiet_below (by kernel_rfl) (by kernel_rfl) ?_
  repeat (go_big_quiet_step ((first | (go_at_call 15; apply Calls.regrown_of; apply half_eq; first | exact h1.out | exact h2.out) | (go_at_call 13; apply Calls.regrown_of; apply scale_eq; first | exact s1.out | exact s2.out) | (go_at_call 17; apply Calls.regrown_of; apply mulDiv_eq; first | exact m1.out | exact m2.out))))
  refine wpQuiet_nil ?_
  intro _ hw'
  obtain ⟨⟨dq, osq⟩, hw''⟩ := hw'
  subst hw''
  have HB2 := Lib.hid (HB1.out.trans ((below_regrown w1 dq osq).mono HB1.out.size))
  have q0 := k0 dq osq
  have q1 := k1 dq osq
  clear k0 k1 p0 p1 HT1
  simp only at *
  generalize Sort.grow (redrawn w1 dq) osq = w2 at *
  by_cases c0 : c = 0
  · have c0' : (c == 0) = true := by simpa using c0
    clear c0
    go_wp2
    go_ret
    exact ⟨rfl, HB2.out⟩
  have c0' : (c == 0) = false := by simpa using c0
  have HC0 := Lib.hid c0
  clear c0
  by_cases c1 : c < -1000
  · go_wp2
    go_ret
    exact ⟨rfl, HB2.out⟩
  by_cases c2 : 1000 < c
  · go_wp2
    go_ret
    exact ⟨rfl, HB2.out⟩
  have pa := prod_bnd (a := c) (b := a) (A := 1000) (B := 1073741824) (by omega) (by omega)
  have pb := prod_bnd (a := c) (b := b) (A := 1000) (B := 1073741824) (by omega) (by omega)
  cases va : validL (c * a) with
  | false =>
    have VA := Lib.hid va
    clear va
    go_wp2_with fail
    refine (refValid_any _ _).mono ?_
    rw [VA.out]
    rintro e w' ⟨rfl, rfl⟩
    go_wp2
    go_ret
    exact ⟨rfl, HB2.out⟩
  | true =>
  have VA := Lib.hid va
  clear va
  cases vb : validL (c * b) with
  | false =>
    have VB := Lib.hid vb
    clear vb
    go_wp2_with fail
    refine (refValid_any _ _).mono ?_
    rw [VA.out]
    rintro e w' ⟨rfl, rfl⟩
    go_wp2_with fail
    refine (refValid_any _ _).mono ?_
    rw [VB.out]
    rintro e w' ⟨rfl, rfl⟩
    go_wp2
    go_ret
    exact ⟨rfl, HB2.out⟩
  | true =>
  have VB := Lib.hid vb
  clear vb
  have m3 : Hid (mulDivL n (c * a) (c * b) = md) := by show mulDivL n (c * a) (c * b) = md; rw [mulDiv_mul n a b c HC0.out HA.out HB.out VA.out VB.out]; exact m1.out
  go_wp2_with fail
  refine (refValid_any _ _).mono ?_
  rw [VA.out]
  rintro e w' ⟨rfl, rfl⟩
  go_wp2_with fail
  refine (refValid_any _ _).mono ?_
  rw [VB.out]
  rintro e w' ⟨rfl, rfl⟩
  go_wp2
  have k0 := fun d os => cell_regrown q0 d os
  have k1 := fun d os => cell_regrown q1 d os
  refine wp_region_quiet_below (by kernel_rfl) (by kernel_rfl) ?_
  repeat (go_big_quiet_step ((go_at_call 17; apply Calls.regrown_of; apply mulDiv_eq; first | exact m3.out | exact m1.out)))
  refine wpQuiet_nil ?_
  intro _ hw'
  obtain ⟨⟨dr, osr⟩, hw''⟩ := hw'
  subst hw''
  have HB3 := Lib.hid (HB2.out.trans ((below_regrown w2 dr osr).mono HB2.out.size))
  go_wp2
  go_ret
  exact ⟨rfl, HB3.out⟩

set_option maxHeartbeats 1000000 in
theorem sym_no (n a b c : Int) (w : World) (ht : Tab w) (h : validL n = false ∨ validL a = false ∨ validL b = false) :
    Calls Tryd.prog 6 #[.int .i64 n, .agg #[.int .i64 a, .int .i64 b], .int .i64 c] w fun e w' => e = .returned (.bool true) ∧ Below w.heap.size w w' := by
  have HT := Lib.hid ht
  have H := Lib.hid h
  clear ht h
  have HTW := Lib.hid (Two.new w (.int .i64 a) (.int .i64 b) 31)
  have HBW : Hid (Below w.heap.size w (w.alloc (.cells #[.int .i64 a, .int .i64 b] 31))) := Lib.hid ((Below.refl _ _).alloc (Nat.le_refl _) _)
  go_enter Tryd.func6, Tryd.ntmps6
  go_wp2_with fail
  refine (awake_any _ (HT.out.below HBW.out)).mono ?_
  rintro e w1 ⟨rfl, hb1⟩
  have HB1 := Lib.hid (HBW.out.trans (hb1.mono HBW.out.size))
  have HT1 := Lib.hid (HTW.out.below hb1)
  have p0 := HT1.out.c0
  have p1 := HT1.out.c1
  clear hb1 HTW HBW
  go_wp2_with fail
  refine (refValid_any n _).mono ?_
  cases hn : validL n with
  | false =>
    rintro e w' ⟨rfl, rfl⟩
    clear hn
    go_wp2
    go_ret
    exact ⟨rfl, HB1.out⟩
  | true =>
  rintro e w' ⟨rfl, rfl⟩
  have H2 : Hid (validL a = false ∨ validL b = false) := by
    show validL a = false ∨ validL b = false
    rcases H.out with h | h
    · rw [hn] at h; cases h
    · exact h
  clear hn
  go_wp2_with fail
  refine (refValid_any a _).mono ?_
  cases ha : validL a with
  | false =>
    rintro e w' ⟨rfl, rfl⟩
    clear ha
    go_wp2
    go_ret
    exact ⟨rfl, HB1.out⟩
  | true =>
  rintro e w' ⟨rfl, rfl⟩
  have H3 : Hid (validL b = false) := by
    show validL b = false
    rcases H2.out with h | h
    · rw [ha] at h; cases h
    · exact h
  clear ha
  go_wp2_with fail
  refine (refValid_any b _).mono ?_
  rw [H3.out]
  rintro e w' ⟨rfl, rfl⟩
  go_wp2
  go_ret
  exact ⟨rfl, HB1.out⟩

theorem lengthSymmetric_walk (n a b c : Int) (w : World) (_hn : -9223372036854775808 ≤ n) (_hN : n ≤ 9223372036854775807) (_ha : -9223372036854775808 ≤ a) (_hA : a ≤ 9223372036854775807) (_hb : -9223372036854775808 ≤ b) (_hB : b ≤ 9223372036854775807) (hc : -9223372036854775808 ≤ c) (hC : c ≤ 9223372036854775807) (ht : Tab w) :
    Calls Tryd.prog 6 #[.int .i64 n, .agg #[.int .i64 a, .int .i64 b], .int .i64 c] w fun e w' => e = .returned (.bool true) ∧ Below w.heap.size w w' := by
  cases hn : validL n with
  | false => exact sym_no n a b c w ht (.inl hn)
  | true =>
    cases ha : validL a with
    | false => exact sym_no n a b c w ht (.inr (.inl ha))
    | true =>
      cases hb : validL b with
      | false => exact sym_no n a b c w ht (.inr (.inr hb))
      | true => exact sym_main n a b c w ht hn ha hb hc hC
end Go.Proofs.YtbaljopgkelcfaaDoor
