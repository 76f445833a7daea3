/- Contracts of Add, Sub, Mul, Div, Neg and of their references. Contracts of square, Root and of their references. -/
import Derived.Test.YtknpigdpepmimaaGreatDoorM10
namespace Go.Proofs.YtknpigdpepmimaaGreatDoor.Q
open Go.RowKit
set_option maxHeartbeats 1000000 in
theorem add_any (a b c d : Int) (w : World) (ha : -9223372036854775808 ≤ a) (hA : a ≤ 9223372036854775807) (hb : -9223372036854775808 ≤ b) (hB : b ≤ 9223372036854775807) (hc : -9223372036854775808 ≤ c) (hC : c ≤ 9223372036854775807) (hd : -9223372036854775808 ≤ d) (hD : d ≤ 9223372036854775807) :
    Calls Tryz.prog 117 #[.agg #[.int .i64 a, .int .i64 b], .agg #[.int .i64 c, .int .i64 d]] w fun e w' => e = .returned (addQ a b c d).val ∧ Below w.heap.size w w' := by
  have hX := (((Two.new w (.int .i64 a) (.int .i64 b) 57).alloc (.cells #[.int .i64 c, .int .i64 d] 57)).alloc (.cells #[.int .i64 0, .int .i64 0] 57))
  have hY := ((Two.new1 w (.cells #[.int .i64 a, .int .i64 b] 57) (.int .i64 c) (.int .i64 d) 57).alloc (.cells #[.int .i64 0, .int .i64 0] 57))
  have hR := Two.new2 w (.cells #[.int .i64 a, .int .i64 b] 57) (.cells #[.int .i64 c, .int .i64 d] 57) (.int .i64 0) (.int .i64 0) 57
  have h3 := Below.three w (.cells #[.int .i64 a, .int .i64 b] 57) (.cells #[.int .i64 c, .int .i64 d] 57) (.cells #[.int .i64 0, .int .i64 0] 57)
  cases hv : validQ a b with
  | false =>
    have HQ : Hid (addQ a b c d = ⟨0, 0, 1⟩) := by show addQ a b c d = _; unfold addQ; rw [hv]; rfl
    have HV := Lib.hid hv
    have H := Lib.hid (And.intro hX (And.intro hY (And.intro hR h3)))
    clear hv hX hY hR h3
    go_enter Tryz.func117, Tryz.ntmps117
    go_wp2_with fail
    refine (valid_any a b _ ha hA hb hB).mono ?_
    rw [HV.out]
    rintro e w1 ⟨rfl, hb1⟩
    obtain ⟨hX, hY, hR, h3⟩ := H.out
    obtain ⟨r0, r1, rf, rlt⟩ := hR.below hb1
    have hB1 := h3.trans (hb1.mono h3.size)
    have HB1 := Lib.hid hB1
    clear hX hY hR h3 hb1 hB1
    go_wp2
    refine bodyPost_ret (v := .tuple #[.agg #[.int .i64 0, .int .i64 0], .int .i64 1]) (by simp [results, Tryz.results117, go_sem, r0, r1]) rfl ⟨?_, ?_⟩
    · rw [HQ.out]; rfl
    · exact (HB1.out.setCell (by simp; omega) _).setCell (by simp; omega) _
  | true =>
    have HV := Lib.hid hv
    obtain ⟨v1, v2, v3, v4, _⟩ := (valid_iff a b).1 hv
    have H := Lib.hid (And.intro hX (And.intro hY (And.intro hR h3)))
    go_enter Tryz.func117, Tryz.ntmps117
    clear hX hY hR h3 hv
    go_wp2_with fail
    refine (valid_any a b _ ha hA hb hB).mono ?_
    rw [HV.out]
    rintro e w1 ⟨rfl, hb1⟩
    obtain ⟨hX, hY, hR, h3⟩ := H.out
    have hX1 := hX.below hb1
    have hY1 := hY.below hb1
    have hR1 := hR.below hb1
    have hB1 := h3.trans (hb1.mono h3.size)
    have H1 := Lib.hid (And.intro hX1 (And.intro hY1 (And.intro hR1 hB1)))
    obtain ⟨y0, y1, _, _⟩ := hY1
    clear hX hY hR h3 hb1 hX1 hR1 hB1 H
    go_wp2_with fail
    refine (valid_any c d _ hc hC hd hD).mono ?_
    rintro e w2 ⟨rfl, hb2⟩
    obtain ⟨hX, hY, hR, h3⟩ := H1.out
    obtain ⟨x0, x1, _, _⟩ := hX.below hb2
    obtain ⟨z0, z1, _, _⟩ := hY.below hb2
    have hR2 := hR.below hb2
    obtain ⟨r0, r1, rf, rlt⟩ := hR2
    have HR2 := Lib.hid (hR.below hb2)
    have HB2 := Lib.hid (h3.trans (hb2.mono h3.size))
    have hs2 := HB2.out.size
    clear hX hY hR h3 hb2 H1 y0 y1
    cases hv2 : validQ c d with
    | false =>
      have HQ : Hid (addQ a b c d = ⟨0, 0, 1⟩) := by show addQ a b c d = _; unfold addQ; rw [HV.out, hv2]; rfl
      clear hv2
      go_wp2
      refine bodyPost_ret (v := .tuple #[.agg #[.int .i64 0, .int .i64 0], .int .i64 1]) (by simp [results, Tryz.results117, go_sem, r0, r1]) rfl ⟨?_, ?_⟩
      · rw [HQ.out]; rfl
      · exact (HB2.out.setCell (by simp; omega) _).setCell (by simp; omega) _
    | true =>
      obtain ⟨u1, u2, u3, u4, _⟩ := (valid_iff c d).1 hv2
      have HQ : Hid (addQ a b c d = mk (a * d + c * b) (b * d)) := by show addQ a b c d = _; unfold addQ; rw [HV.out, hv2]; rfl
      clear hv2
      have p1 := prod_bnd v3 v4 (show -2147483647 ≤ d by omega) u2
      have p2 := prod_bnd u3 u4 (show -2147483647 ≤ b by omega) v2
      have p3 := prod_bnd (show -2147483647 ≤ b by omega) v2 (show -2147483647 ≤ d by omega) u2
      have p4 := prod_bnd v3 v4 u3 u4
      have p5 := prod_bnd (show -2147483647 ≤ b by omega) v2 u3 u4
      go_wp2_with fail
      refine (make_any _ _ _ (by omega) (by omega) (by omega) (by omega)).mono ?_
      rw [← HQ.out]
      rintro e w3 ⟨rfl, hb3⟩
      obtain ⟨s0, s1, sf, slt⟩ := HR2.out.below hb3
      have HB3 := Lib.hid (HB2.out.trans (hb3.mono hs2))
      have hs3 := HB3.out.size
      clear hb3 r0 r1 rf rlt x0 x1 z0 z1 p1 p2 p3 p4 p5
      obtain ⟨r, hr⟩ : ∃ r, r = addQ a b c d := ⟨_, rfl⟩
      rw [← hr]
      have HRm := Lib.hid hr
      clear hr
      obtain ⟨rn, rd, re⟩ := r
      simp only [Res.val]
      go_wp2
      refine bodyPost_ret (v := .tuple #[.agg #[.int .i64 rn, .int .i64 rd], .int .i64 re]) (by simp [results, Tryz.results117, go_sem, s0, s1]) rfl ⟨?_, ?_⟩
      · rw [← HRm.out]; rfl
      · exact (HB3.out.setCell (by simp; omega) _).setCell (by simp; omega) _
set_option maxHeartbeats 1000000 in
theorem sub_any (a b c d : Int) (w : World) (ha : -9223372036854775808 ≤ a) (hA : a ≤ 9223372036854775807) (hb : -9223372036854775808 ≤ b) (hB : b ≤ 9223372036854775807) (hc : -9223372036854775808 ≤ c) (hC : c ≤ 9223372036854775807) (hd : -9223372036854775808 ≤ d) (hD : d ≤ 9223372036854775807) :
    Calls Tryz.prog 118 #[.agg #[.int .i64 a, .int .i64 b], .agg #[.int .i64 c, .int .i64 d]] w fun e w' => e = .returned (subQ a b c d).val ∧ Below w.heap.size w w' := by
  have hX := (((Two.new w (.int .i64 a) (.int .i64 b) 57).alloc (.cells #[.int .i64 c, .int .i64 d] 57)).alloc (.cells #[.int .i64 0, .int .i64 0] 57))
  have hY := ((Two.new1 w (.cells #[.int .i64 a, .int .i64 b] 57) (.int .i64 c) (.int .i64 d) 57).alloc (.cells #[.int .i64 0, .int .i64 0] 57))
  have hR := Two.new2 w (.cells #[.int .i64 a, .int .i64 b] 57) (.cells #[.int .i64 c, .int .i64 d] 57) (.int .i64 0) (.int .i64 0) 57
  have h3 := Below.three w (.cells #[.int .i64 a, .int .i64 b] 57) (.cells #[.int .i64 c, .int .i64 d] 57) (.cells #[.int .i64 0, .int .i64 0] 57)
  cases hv : validQ a b with
  | false =>
    have HQ : Hid (subQ a b c d = ⟨0, 0, 1⟩) := by show subQ a b c d = _; unfold subQ; rw [hv]; rfl
    have HV := Lib.hid hv
    have H := Lib.hid (And.intro hX (And.intro hY (And.intro hR h3)))
    clear hv hX hY hR h3
    go_enter Tryz.func118, Tryz.ntmps118
    go_wp2_with fail
    refine (valid_any a b _ ha hA hb hB).mono ?_
    rw [HV.out]
    rintro e w1 ⟨rfl, hb1⟩
    obtain ⟨hX, hY, hR, h3⟩ := H.out
    obtain ⟨r0, r1, rf, rlt⟩ := hR.below hb1
    have hB1 := h3.trans (hb1.mono h3.size)
    have HB1 := Lib.hid hB1
    clear hX hY hR h3 hb1 hB1
    go_wp2
    refine bodyPost_ret (v := .tuple #[.agg #[.int .i64 0, .int .i64 0], .int .i64 1]) (by simp [results, Tryz.results118, go_sem, r0, r1]) rfl ⟨?_, ?_⟩
    · rw [HQ.out]; rfl
    · exact (HB1.out.setCell (by simp; omega) _).setCell (by simp; omega) _
  | true =>
    have HV := Lib.hid hv
    obtain ⟨v1, v2, v3, v4, _⟩ := (valid_iff a b).1 hv
    have H := Lib.hid (And.intro hX (And.intro hY (And.intro hR h3)))
    go_enter Tryz.func118, Tryz.ntmps118
    clear hX hY hR h3 hv
    go_wp2_with fail
    refine (valid_any a b _ ha hA hb hB).mono ?_
    rw [HV.out]
    rintro e w1 ⟨rfl, hb1⟩
    obtain ⟨hX, hY, hR, h3⟩ := H.out
    have hX1 := hX.below hb1
    have hY1 := hY.below hb1
    have hR1 := hR.below hb1
    have hB1 := h3.trans (hb1.mono h3.size)
    have H1 := Lib.hid (And.intro hX1 (And.intro hY1 (And.intro hR1 hB1)))
    obtain ⟨y0, y1, _, _⟩ := hY1
    clear hX hY hR h3 hb1 hX1 hR1 hB1 H
    go_wp2_with fail
    refine (valid_any c d _ hc hC hd hD).mono ?_
    rintro e w2 ⟨rfl, hb2⟩
    obtain ⟨hX, hY, hR, h3⟩ := H1.out
    obtain ⟨x0, x1, _, _⟩ := hX.below hb2
    obtain ⟨z0, z1, _, _⟩ := hY.below hb2
    have hR2 := hR.below hb2
    obtain ⟨r0, r1, rf, rlt⟩ := hR2
    have HR2 := Lib.hid (hR.below hb2)
    have HB2 := Lib.hid (h3.trans (hb2.mono h3.size))
    have hs2 := HB2.out.size
    clear hX hY hR h3 hb2 H1 y0 y1
    cases hv2 : validQ c d with
    | false =>
      have HQ : Hid (subQ a b c d = ⟨0, 0, 1⟩) := by show subQ a b c d = _; unfold subQ; rw [HV.out, hv2]; rfl
      clear hv2
      go_wp2
      refine bodyPost_ret (v := .tuple #[.agg #[.int .i64 0, .int .i64 0], .int .i64 1]) (by simp [results, Tryz.results118, go_sem, r0, r1]) rfl ⟨?_, ?_⟩
      · rw [HQ.out]; rfl
      · exact (HB2.out.setCell (by simp; omega) _).setCell (by simp; omega) _
    | true =>
      obtain ⟨u1, u2, u3, u4, _⟩ := (valid_iff c d).1 hv2
      have HQ : Hid (subQ a b c d = mk (a * d - c * b) (b * d)) := by show subQ a b c d = _; unfold subQ; rw [HV.out, hv2]; rfl
      clear hv2
      have p1 := prod_bnd v3 v4 (show -2147483647 ≤ d by omega) u2
      have p2 := prod_bnd u3 u4 (show -2147483647 ≤ b by omega) v2
      have p3 := prod_bnd (show -2147483647 ≤ b by omega) v2 (show -2147483647 ≤ d by omega) u2
      have p4 := prod_bnd v3 v4 u3 u4
      have p5 := prod_bnd (show -2147483647 ≤ b by omega) v2 u3 u4
      go_wp2_with fail
      refine (make_any _ _ _ (by omega) (by omega) (by omega) (by omega)).mono ?_
      rw [← HQ.out]
      rintro e w3 ⟨rfl, hb3⟩
      obtain ⟨s0, s1, sf, slt⟩ := HR2.out.below hb3
      have HB3 := Lib.hid (HB2.out.trans (hb3.mono hs2))
      have hs3 := HB3.out.size
      clear hb3 r0 r1 rf rlt x0 x1 z0 z1 p1 p2 p3 p4 p5
      obtain ⟨r, hr⟩ : ∃ r, r = subQ a b c d := ⟨_, rfl⟩
      rw [← hr]
      have HRm := Lib.hid hr
      clear hr
      obtain ⟨rn, rd, re⟩ := r
      simp only [Res.val]
      go_wp2
      refine bodyPost_ret (v := .tuple #[.agg #[.int .i64 rn, .int .i64 rd], .int .i64 re]) (by simp [results, Tryz.results118, go_sem, s0, s1]) rfl ⟨?_, ?_⟩
      · rw [← HRm.out]; rfl
      · exact (HB3.out.setCell (by simp; omega) _).setCell (by simp; omega) _
set_option maxHeartbeats 1000000 in
theorem mul_any (a b c d : Int) (w : World) (ha : -9223372036854775808 ≤ a) (hA : a ≤ 9223372036854775807) (hb : -9223372036854775808 ≤ b) (hB : b ≤ 9223372036854775807) (hc : -9223372036854775808 ≤ c) (hC : c ≤ 9223372036854775807) (hd : -9223372036854775808 ≤ d) (hD : d ≤ 9223372036854775807) :
    Calls Tryz.prog 45 #[.agg #[.int .i64 a, .int .i64 b], .agg #[.int .i64 c, .int .i64 d]] w fun e w' => e = .returned (mulQ a b c d).val ∧ Below w.heap.size w w' := by
  have hX := (((Two.new w (.int .i64 a) (.int .i64 b) 57).alloc (.cells #[.int .i64 c, .int .i64 d] 57)).alloc (.cells #[.int .i64 0, .int .i64 0] 57))
  have hY := ((Two.new1 w (.cells #[.int .i64 a, .int .i64 b] 57) (.int .i64 c) (.int .i64 d) 57).alloc (.cells #[.int .i64 0, .int .i64 0] 57))
  have hR := Two.new2 w (.cells #[.int .i64 a, .int .i64 b] 57) (.cells #[.int .i64 c, .int .i64 d] 57) (.int .i64 0) (.int .i64 0) 57
  have h3 := Below.three w (.cells #[.int .i64 a, .int .i64 b] 57) (.cells #[.int .i64 c, .int .i64 d] 57) (.cells #[.int .i64 0, .int .i64 0] 57)
  cases hv : validQ a b with
  | false =>
    have HQ : Hid (mulQ a b c d = ⟨0, 0, 1⟩) := by show mulQ a b c d = _; unfold mulQ; rw [hv]; rfl
    have HV := Lib.hid hv
    have H := Lib.hid (And.intro hX (And.intro hY (And.intro hR h3)))
    clear hv hX hY hR h3
    go_enter Tryz.func45, Tryz.ntmps45
    go_wp2_with fail
    refine (valid_any a b _ ha hA hb hB).mono ?_
    rw [HV.out]
    rintro e w1 ⟨rfl, hb1⟩
    obtain ⟨hX, hY, hR, h3⟩ := H.out
    obtain ⟨r0, r1, rf, rlt⟩ := hR.below hb1
    have hB1 := h3.trans (hb1.mono h3.size)
    have HB1 := Lib.hid hB1
    clear hX hY hR h3 hb1 hB1
    go_wp2
    refine bodyPost_ret (v := .tuple #[.agg #[.int .i64 0, .int .i64 0], .int .i64 1]) (by simp [results, Tryz.results45, go_sem, r0, r1]) rfl ⟨?_, ?_⟩
    · rw [HQ.out]; rfl
    · exact (HB1.out.setCell (by simp; omega) _).setCell (by simp; omega) _
  | true =>
    have HV := Lib.hid hv
    obtain ⟨v1, v2, v3, v4, _⟩ := (valid_iff a b).1 hv
    have H := Lib.hid (And.intro hX (And.intro hY (And.intro hR h3)))
    go_enter Tryz.func45, Tryz.ntmps45
    clear hX hY hR h3 hv
    go_wp2_with fail
    refine (valid_any a b _ ha hA hb hB).mono ?_
    rw [HV.out]
    rintro e w1 ⟨rfl, hb1⟩
    obtain ⟨hX, hY, hR, h3⟩ := H.out
    have hX1 := hX.below hb1
    have hY1 := hY.below hb1
    have hR1 := hR.below hb1
    have hB1 := h3.trans (hb1.mono h3.size)
    have H1 := Lib.hid (And.intro hX1 (And.intro hY1 (And.intro hR1 hB1)))
    obtain ⟨y0, y1, _, _⟩ := hY1
    clear hX hY hR h3 hb1 hX1 hR1 hB1 H
    go_wp2_with fail
    refine (valid_any c d _ hc hC hd hD).mono ?_
    rintro e w2 ⟨rfl, hb2⟩
    obtain ⟨hX, hY, hR, h3⟩ := H1.out
    obtain ⟨x0, x1, _, _⟩ := hX.below hb2
    obtain ⟨z0, z1, _, _⟩ := hY.below hb2
    have hR2 := hR.below hb2
    obtain ⟨r0, r1, rf, rlt⟩ := hR2
    have HR2 := Lib.hid (hR.below hb2)
    have HB2 := Lib.hid (h3.trans (hb2.mono h3.size))
    have hs2 := HB2.out.size
    clear hX hY hR h3 hb2 H1 y0 y1
    cases hv2 : validQ c d with
    | false =>
      have HQ : Hid (mulQ a b c d = ⟨0, 0, 1⟩) := by show mulQ a b c d = _; unfold mulQ; rw [HV.out, hv2]; rfl
      clear hv2
      go_wp2
      refine bodyPost_ret (v := .tuple #[.agg #[.int .i64 0, .int .i64 0], .int .i64 1]) (by simp [results, Tryz.results45, go_sem, r0, r1]) rfl ⟨?_, ?_⟩
      · rw [HQ.out]; rfl
      · exact (HB2.out.setCell (by simp; omega) _).setCell (by simp; omega) _
    | true =>
      obtain ⟨u1, u2, u3, u4, _⟩ := (valid_iff c d).1 hv2
      have HQ : Hid (mulQ a b c d = mk (a * c) (b * d)) := by show mulQ a b c d = _; unfold mulQ; rw [HV.out, hv2]; rfl
      clear hv2
      have p1 := prod_bnd v3 v4 (show -2147483647 ≤ d by omega) u2
      have p2 := prod_bnd u3 u4 (show -2147483647 ≤ b by omega) v2
      have p3 := prod_bnd (show -2147483647 ≤ b by omega) v2 (show -2147483647 ≤ d by omega) u2
      have p4 := prod_bnd v3 v4 u3 u4
      have p5 := prod_bnd (show -2147483647 ≤ b by omega) v2 u3 u4
      go_wp2_with fail
      refine (make_any _ _ _ (by omega) (by omega) (by omega) (by omega)).mono ?_
      rw [← HQ.out]
      rintro e w3 ⟨rfl, hb3⟩
      obtain ⟨s0, s1, sf, slt⟩ := HR2.out.below hb3
      have HB3 := Lib.hid (HB2.out.trans (hb3.mono hs2))
      have hs3 := HB3.out.size
      clear hb3 r0 r1 rf rlt x0 x1 z0 z1 p1 p2 p3 p4 p5
      obtain ⟨r, hr⟩ : ∃ r, r = mulQ a b c d := ⟨_, rfl⟩
      rw [← hr]
      have HRm := Lib.hid hr
      clear hr
      obtain ⟨rn, rd, re⟩ := r
      simp only [Res.val]
      go_wp2
      refine bodyPost_ret (v := .tuple #[.agg #[.int .i64 rn, .int .i64 rd], .int .i64 re]) (by simp [results, Tryz.results45, go_sem, s0, s1]) rfl ⟨?_, ?_⟩
      · rw [← HRm.out]; rfl
      · exact (HB3.out.setCell (by simp; omega) _).setCell (by simp; omega) _
set_option maxHeartbeats 1000000 in
theorem div_any (a b c d : Int) (w : World) (ha : -9223372036854775808 ≤ a) (hA : a ≤ 9223372036854775807) (hb : -9223372036854775808 ≤ b) (hB : b ≤ 9223372036854775807) (hc : -9223372036854775808 ≤ c) (hC : c ≤ 9223372036854775807) (hd : -9223372036854775808 ≤ d) (hD : d ≤ 9223372036854775807) :
    Calls Tryz.prog 46 #[.agg #[.int .i64 a, .int .i64 b], .agg #[.int .i64 c, .int .i64 d]] w fun e w' => e = .returned (divQ a b c d).val ∧ Below w.heap.size w w' := by
  have hX := (((Two.new w (.int .i64 a) (.int .i64 b) 57).alloc (.cells #[.int .i64 c, .int .i64 d] 57)).alloc (.cells #[.int .i64 0, .int .i64 0] 57))
  have hY := ((Two.new1 w (.cells #[.int .i64 a, .int .i64 b] 57) (.int .i64 c) (.int .i64 d) 57).alloc (.cells #[.int .i64 0, .int .i64 0] 57))
  have hR := Two.new2 w (.cells #[.int .i64 a, .int .i64 b] 57) (.cells #[.int .i64 c, .int .i64 d] 57) (.int .i64 0) (.int .i64 0) 57
  have h3 := Below.three w (.cells #[.int .i64 a, .int .i64 b] 57) (.cells #[.int .i64 c, .int .i64 d] 57) (.cells #[.int .i64 0, .int .i64 0] 57)
  cases hv : validQ a b with
  | false =>
    have HQ : Hid (divQ a b c d = ⟨0, 0, 1⟩) := by show divQ a b c d = _; unfold divQ; rw [hv]; rfl
    have HV := Lib.hid hv
    have H := Lib.hid (And.intro hX (And.intro hY (And.intro hR h3)))
    clear hv hX hY hR h3
    go_enter Tryz.func46, Tryz.ntmps46
    go_wp2_with fail
    refine (valid_any a b _ ha hA hb hB).mono ?_
    rw [HV.out]
    rintro e w1 ⟨rfl, hb1⟩
    obtain ⟨hX, hY, hR, h3⟩ := H.out
    obtain ⟨r0, r1, rf, rlt⟩ := hR.below hb1
    have hB1 := h3.trans (hb1.mono h3.size)
    have HB1 := Lib.hid hB1
    clear hX hY hR h3 hb1 hB1
    go_wp2
    refine bodyPost_ret (v := .tuple #[.agg #[.int .i64 0, .int .i64 0], .int .i64 1]) (by simp [results, Tryz.results46, go_sem, r0, r1]) rfl ⟨?_, ?_⟩
    · rw [HQ.out]; rfl
    · exact (HB1.out.setCell (by simp; omega) _).setCell (by simp; omega) _
  | true =>
    have HV := Lib.hid hv
    obtain ⟨v1, v2, v3, v4, _⟩ := (valid_iff a b).1 hv
    have H := Lib.hid (And.intro hX (And.intro hY (And.intro hR h3)))
    go_enter Tryz.func46, Tryz.ntmps46
    clear hX hY hR h3 hv
    go_wp2_with fail
    refine (valid_any a b _ ha hA hb hB).mono ?_
    rw [HV.out]
    rintro e w1 ⟨rfl, hb1⟩
    obtain ⟨hX, hY, hR, h3⟩ := H.out
    have hX1 := hX.below hb1
    have hY1 := hY.below hb1
    have hR1 := hR.below hb1
    have hB1 := h3.trans (hb1.mono h3.size)
    have H1 := Lib.hid (And.intro hX1 (And.intro hY1 (And.intro hR1 hB1)))
    obtain ⟨y0, y1, _, _⟩ := hY1
    clear hX hY hR h3 hb1 hX1 hR1 hB1 H
    go_wp2_with fail
    refine (valid_any c d _ hc hC hd hD).mono ?_
    rintro e w2 ⟨rfl, hb2⟩
    obtain ⟨hX, hY, hR, h3⟩ := H1.out
    obtain ⟨x0, x1, _, _⟩ := hX.below hb2
    obtain ⟨z0, z1, _, _⟩ := hY.below hb2
    have hR2 := hR.below hb2
    obtain ⟨r0, r1, rf, rlt⟩ := hR2
    have HR2 := Lib.hid (hR.below hb2)
    have HB2 := Lib.hid (h3.trans (hb2.mono h3.size))
    have hs2 := HB2.out.size
    clear hX hY hR h3 hb2 H1 y0 y1
    cases hv2 : validQ c d with
    | false =>
      have HQ : Hid (divQ a b c d = ⟨0, 0, 1⟩) := by show divQ a b c d = _; unfold divQ; rw [HV.out, hv2]; rfl
      clear hv2
      go_wp2
      refine bodyPost_ret (v := .tuple #[.agg #[.int .i64 0, .int .i64 0], .int .i64 1]) (by simp [results, Tryz.results46, go_sem, r0, r1]) rfl ⟨?_, ?_⟩
      · rw [HQ.out]; rfl
      · exact (HB2.out.setCell (by simp; omega) _).setCell (by simp; omega) _
    | true =>
      obtain ⟨u1, u2, u3, u4, _⟩ := (valid_iff c d).1 hv2
      have HQ : Hid (divQ a b c d = mk (a * d) (b * c)) := by show divQ a b c d = _; unfold divQ; rw [HV.out, hv2]; rfl
      clear hv2
      have p1 := prod_bnd v3 v4 (show -2147483647 ≤ d by omega) u2
      have p2 := prod_bnd u3 u4 (show -2147483647 ≤ b by omega) v2
      have p3 := prod_bnd (show -2147483647 ≤ b by omega) v2 (show -2147483647 ≤ d by omega) u2
      have p4 := prod_bnd v3 v4 u3 u4
      have p5 := prod_bnd (show -2147483647 ≤ b by omega) v2 u3 u4
      by_cases hc0 : c = 0
      · have HQ0 : Hid (divQ a b c d = ⟨0, 0, 10⟩) := HQ.out.trans (by rw [hc0, Int.mul_zero]; rfl)
        have hc0' : (c == 0) = true := by simpa using hc0
        clear hc0 HQ
        go_wp2
        refine bodyPost_ret (v := .tuple #[.agg #[.int .i64 0, .int .i64 0], .int .i64 10]) (by simp [results, Tryz.results46, go_sem, r0, r1]) rfl ⟨?_, ?_⟩
        · rw [HQ0.out]; rfl
        · exact (HB2.out.setCell (by simp; omega) _).setCell (by simp; omega) _
      have hc0' : (c == 0) = false := by simpa using hc0
      clear hc0
      go_wp2_with fail
      refine (make_any _ _ _ (by omega) (by omega) (by omega) (by omega)).mono ?_
      rw [← HQ.out]
      rintro e w3 ⟨rfl, hb3⟩
      obtain ⟨s0, s1, sf, slt⟩ := HR2.out.below hb3
      have HB3 := Lib.hid (HB2.out.trans (hb3.mono hs2))
      have hs3 := HB3.out.size
      clear hb3 r0 r1 rf rlt x0 x1 z0 z1 p1 p2 p3 p4 p5
      obtain ⟨r, hr⟩ : ∃ r, r = divQ a b c d := ⟨_, rfl⟩
      rw [← hr]
      have HRm := Lib.hid hr
      clear hr
      obtain ⟨rn, rd, re⟩ := r
      simp only [Res.val]
      go_wp2
      refine bodyPost_ret (v := .tuple #[.agg #[.int .i64 rn, .int .i64 rd], .int .i64 re]) (by simp [results, Tryz.results46, go_sem, s0, s1]) rfl ⟨?_, ?_⟩
      · rw [← HRm.out]; rfl
      · exact (HB3.out.setCell (by simp; omega) _).setCell (by simp; omega) _
end Go.Proofs.YtknpigdpepmimaaGreatDoor.Q

namespace Go.Proofs.YtknpigdpepmimaaGreatDoor.Q
open Go.RowKit
/-- the least number of at least 0 whose square is at least n, up to 2^16 -/
@[irreducible] def sqr (n : Int) : Int := (((List.range 65536).find? fun m : Nat => decide (n ≤ (m : Int) * m)).map (fun m => (m : Int))).getD 65536
theorem sq_mono {i j : Int} (h0 : 0 ≤ i) (h : i ≤ j) : i * i ≤ j * j := Int.mul_le_mul h h h0 (by omega)
theorem sqr_eq (n : Int) (m : Nat) (hm : m ≤ 65536) (h1 : ∀ k : Nat, k < m → (k : Int) * k < n) (h2 : m = 65536 ∨ n ≤ (m : Int) * m) : sqr n = m := by
  unfold sqr
  rcases h2 with h2 | h2
  · subst h2
    rw [List.find?_eq_none.2 (fun x hx => by have := h1 x (List.mem_range.1 hx); simp; omega)]
    rfl
  · by_cases hlt : m < 65536
    · have : (List.range 65536).find? (fun m : Nat => decide (n ≤ (m : Int) * m)) = some m := by
        rw [List.find?_range_eq_some]
        refine ⟨by simpa using h2, List.mem_range.2 hlt, fun k hk => ?_⟩
        have := h1 k hk
        simp; omega
      rw [this]; rfl
    · have : m = 65536 := by omega
      subst this
      rw [List.find?_eq_none.2 (fun x hx => by have := h1 x (List.mem_range.1 hx); simp; omega)]
      rfl
theorem sqr_bnd (n : Int) : 0 ≤ sqr n ∧ sqr n ≤ 65536 := by
  unfold sqr
  cases h : (List.range 65536).find? (fun m : Nat => decide (n ≤ (m : Int) * m)) with
  | none => simp
  | some m => have := List.mem_range.1 (List.mem_of_find?_eq_some h); simp; omega
def rootQ (a b : Int) : Res := if validQ a b then (if sqr a * sqr a = a ∧ sqr b * sqr b = b then ⟨sqr a, sqr b, 0⟩ else ⟨0, 0, 2⟩) else ⟨0, 0, 1⟩
set_option maxHeartbeats 1000000 in
theorem square_any (n : Int) (w : World) (_hn : -9223372036854775808 ≤ n) (_hN : n ≤ 9223372036854775807) :
    Calls Tryz.prog 164 #[.int .i64 n] w fun e w' => e = .returned (.tuple #[.int .i64 (sqr n), .bool (sqr n * sqr n == n)]) ∧ w = w' := by
  go_enter Tryz.func164, Tryz.ntmps164
  go_wp2
  go_loop [4, 5] (fun s4 s5 => ∃ l h : Nat, l ≤ h ∧ h ≤ 65536 ∧ s4 = .int .i64 l ∧ s5 = .int .i64 h ∧ Aside (∀ k : Nat, k < l → (k : Int) * k < n) ∧ Aside (h = 65536 ∨ n ≤ (h : Int) * h)) (fun s4 s5 => (intOf s5).toNat - (intOf s4).toNat)
  case atStart => exact ⟨0, 65536, by omega, Nat.le_refl _, rfl, rfl, fun k hk => absurd hk (Nat.not_lt_zero _), .inl rfl⟩
  case round =>
    obtain ⟨l, h, hlh, hh, rfl, rfl, HL, HH⟩ := hrel
    by_cases hlt : l < h
    · have hltz : (l : Int) < (h : Int) := by omega
      obtain ⟨m, hm⟩ : ∃ m : Nat, m = (l + h) / 2 := ⟨_, rfl⟩
      have hml : l ≤ m := by omega
      have hmh : m < h := by omega
      have hmz : ((l : Int) + (h : Int)) / 2 = (m : Int) := by omega
      have hmb : (m : Int) ≤ 65536 := by omega
      have hsq := prod_bnd (a := (m : Int)) (b := (m : Int)) (by omega) (by omega) (by omega) (by omega)
      by_cases hc : (m : Int) * m < n
      · clear hm
        go_wp2
        go_round
        case rel =>
          refine ⟨m + 1, h, by omega, hh, by go_num, rfl, (show Aside _ from fun k hk => ?_), HH.out⟩
          have := sq_mono (i := (k : Int)) (j := (m : Int)) (by omega) (by omega)
          omega
        case measure => simp [intOf]; omega
      · clear hm
        go_wp2
        go_round
        case rel => exact ⟨l, m, by omega, by omega, rfl, by go_num, HL.out, .inr (by omega)⟩
        case measure => simp [intOf]; omega
    · have hltz : ¬ (l : Int) < (h : Int) := by omega
      obtain rfl : l = h := by omega
      have HS := Lib.hid (sqr_eq n l hh HL.out HH.out)
      have hsq := prod_bnd (a := (l : Int)) (b := (l : Int)) (by omega) (by omega) (by omega) (by omega)
      clear HL HH
      go_wp2
      go_ret2
      rw [HS.out]
      exact ⟨rfl, rfl⟩
set_option maxHeartbeats 1000000 in
theorem whole_any (n : Int) (w : World) (_hn : -9223372036854775808 ≤ n) (_hN : n ≤ 9223372036854775807) :
    Calls Tryz.prog 184 #[.int .i64 n] w fun e w' => e = .returned (.tuple #[.int .i64 (sqr n), .bool (sqr n * sqr n == n)]) ∧ w = w' := by
  go_enter Tryz.func184, Tryz.ntmps184
  go_wp2
  go_loop [4, 5] (fun s4 s5 => ∃ l h : Nat, l ≤ h ∧ h ≤ 65536 ∧ s4 = .int .i64 l ∧ s5 = .int .i64 h ∧ Aside (∀ k : Nat, k < l → (k : Int) * k < n) ∧ Aside (h = 65536 ∨ n ≤ (h : Int) * h)) (fun s4 s5 => (intOf s5).toNat - (intOf s4).toNat)
  case atStart => exact ⟨0, 65536, by omega, Nat.le_refl _, rfl, rfl, fun k hk => absurd hk (Nat.not_lt_zero _), .inl rfl⟩
  case round =>
    obtain ⟨l, h, hlh, hh, rfl, rfl, HL, HH⟩ := hrel
    by_cases hlt : l < h
    · have hltz : (l : Int) < (h : Int) := by omega
      obtain ⟨m, hm⟩ : ∃ m : Nat, m = (l + h) / 2 := ⟨_, rfl⟩
      have hml : l ≤ m := by omega
      have hmh : m < h := by omega
      have hmz : ((l : Int) + (h : Int)) / 2 = (m : Int) := by omega
      have hmb : (m : Int) ≤ 65536 := by omega
      have hsq := prod_bnd (a := (m : Int)) (b := (m : Int)) (by omega) (by omega) (by omega) (by omega)
      by_cases hc : (m : Int) * m < n
      · clear hm
        go_wp2
        go_round
        case rel =>
          refine ⟨m + 1, h, by omega, hh, by go_num, rfl, (show Aside _ from fun k hk => ?_), HH.out⟩
          have := sq_mono (i := (k : Int)) (j := (m : Int)) (by omega) (by omega)
          omega
        case measure => simp [intOf]; omega
      · clear hm
        go_wp2
        go_round
        case rel => exact ⟨l, m, by omega, by omega, rfl, by go_num, HL.out, .inr (by omega)⟩
        case measure => simp [intOf]; omega
    · have hltz : ¬ (l : Int) < (h : Int) := by omega
      obtain rfl : l = h := by omega
      have HS := Lib.hid (sqr_eq n l hh HL.out HH.out)
      have hsq := prod_bnd (a := (l : Int)) (b := (l : Int)) (by omega) (by omega) (by omega) (by omega)
      clear HL HH
      go_wp2
      go_ret2
      rw [HS.out]
      exact ⟨rfl, rfl⟩
set_option maxHeartbeats 2000000 in
theorem root_any (a b : Int) (w : World) (ha : -9223372036854775808 ≤ a) (hA : a ≤ 9223372036854775807) (hb : -9223372036854775808 ≤ b) (hB : b ≤ 9223372036854775807) :
    Calls Tryz.prog 124 #[.agg #[.int .i64 a, .int .i64 b]] w fun e w' => e = .returned (rootQ a b).val ∧ Below w.heap.size w w' := by
  have hX := ((Two.new w (.int .i64 a) (.int .i64 b) 57).alloc (.cells #[.int .i64 0, .int .i64 0] 57))
  have hR := (Two.new1 w (.cells #[.int .i64 a, .int .i64 b] 57) (.int .i64 0) (.int .i64 0) 57)
  have h3 : Below w.heap.size w ((w.alloc (.cells #[.int .i64 a, .int .i64 b] 57)).alloc (.cells #[.int .i64 0, .int .i64 0] 57)) := ((Below.refl _ _).alloc (Nat.le_refl _) _).alloc (by simp) _
  have H := Lib.hid (And.intro hX (And.intro hR h3))
  clear hX hR h3
  cases hv : validQ a b with
  | false =>
    have HQ : Hid (rootQ a b = ⟨0, 0, 1⟩) := by show rootQ a b = _; unfold rootQ; rw [hv]; first | rw [if_pos rfl] | rw [if_neg (by simp)]
    have HV := Lib.hid hv
    clear hv
    go_enter Tryz.func124, Tryz.ntmps124
    go_wp2_with fail
    refine (valid_any a b _ ha hA hb hB).mono ?_
    rw [HV.out]
    rintro e w1 ⟨rfl, hb1⟩
    obtain ⟨hX, hR, h3⟩ := H.out
    obtain ⟨r0, r1, rf, rlt⟩ := hR.below hb1
    have HB1 := Lib.hid (h3.trans (hb1.mono h3.size))
    clear hX hR h3 hb1
    go_wp2
    refine bodyPost_ret (v := .tuple #[.agg #[.int .i64 0, .int .i64 0], .int .i64 1]) (by simp [results, Tryz.results124, go_sem, r0, r1]) rfl ⟨?_, ?_⟩
    · rw [HQ.out]; rfl
    · exact (HB1.out.setCell (by simp) _).setCell (by simp) _
  | true =>
    obtain ⟨v1, v2, v3, v4, _⟩ := (valid_iff a b).1 hv
    have HQ : Hid (rootQ a b = if sqr a * sqr a = a ∧ sqr b * sqr b = b then ⟨sqr a, sqr b, 0⟩ else ⟨0, 0, 2⟩) := by show rootQ a b = _; unfold rootQ; rw [hv]; first | rw [if_pos rfl] | rw [if_neg (by simp)]
    have HV := Lib.hid hv
    have hsa := sqr_bnd a
    have hsb := sqr_bnd b
    have hneg : Hid (a < 0 → (sqr a * sqr a == a) = false) := fun h => by have := Int.mul_nonneg hsa.1 hsa.1; simp; omega
    clear hv
    go_enter Tryz.func124, Tryz.ntmps124
    go_wp2_with fail
    refine (valid_any a b _ ha hA hb hB).mono ?_
    rw [HV.out]
    rintro e w1 ⟨rfl, hb1⟩
    obtain ⟨hX, hR, h3⟩ := H.out
    obtain ⟨r0, r1, rf, rlt⟩ := hR.below hb1
    obtain ⟨x0, x1, _, _⟩ := hX.below hb1
    have HB1 := Lib.hid (h3.trans (hb1.mono h3.size))
    clear hX hR h3 hb1
    go_wp2_with fail
    refine (square_any a _ ha hA).mono ?_
    rintro e w' ⟨rfl, rfl⟩
    generalize hga : sqr a = sa at *
    have HGA := Lib.hid hga
    clear hga
    by_cases h1 : sa * sa = a
    · have h1' : (sa * sa == a) = true := by simpa using h1
      rw [h1']
      clear h1'
      have H1 := Lib.hid h1
      clear h1
      go_wp2_with fail
      refine (square_any b _ hb hB).mono ?_
      rintro e w' ⟨rfl, rfl⟩
      generalize hgb : sqr b = sb at *
      clear hgb
      by_cases h2 : sb * sb = b
      · have h2' : (sb * sb == b) = true := by simpa using h2
        rw [h2']
        have HQ' := Lib.hid (HQ.out.trans (if_pos ⟨H1.out, h2⟩))
        clear h2' h2 HQ
        go_wp2
        refine bodyPost_ret (v := .tuple #[.agg #[.int .i64 sa, .int .i64 sb], .int .i64 0]) (by simp [results, Tryz.results124, go_sem, r0, r1]) rfl ⟨?_, ?_⟩
        · rw [HQ'.out]; rfl
        · exact (HB1.out.setCell (by simp) _).setCell (by simp) _
      · have h2' : (sb * sb == b) = false := by simpa using h2
        rw [h2']
        have HQ' := Lib.hid (HQ.out.trans (if_neg (fun h => h2 h.2)))
        clear h2' h2 HQ
        go_wp2
        refine bodyPost_ret (v := .tuple #[.agg #[.int .i64 0, .int .i64 0], .int .i64 2]) (by simp [results, Tryz.results124, go_sem, r0, r1]) rfl ⟨?_, ?_⟩
        · rw [HQ'.out]; rfl
        · exact (HB1.out.setCell (by simp) _).setCell (by simp) _
    · have h1' : (sa * sa == a) = false := by simpa using h1
      rw [h1']
      have HQ' := Lib.hid (HQ.out.trans (if_neg (fun h => h1 h.1)))
      clear h1' h1 HQ
      go_wp2
      refine bodyPost_ret (v := .tuple #[.agg #[.int .i64 0, .int .i64 0], .int .i64 2]) (by simp [results, Tryz.results124, go_sem, r0, r1]) rfl ⟨?_, ?_⟩
      · rw [HQ'.out]; rfl
      · exact (HB1.out.setCell (by simp) _).setCell (by simp) _
end Go.Proofs.YtknpigdpepmimaaGreatDoor.Q
