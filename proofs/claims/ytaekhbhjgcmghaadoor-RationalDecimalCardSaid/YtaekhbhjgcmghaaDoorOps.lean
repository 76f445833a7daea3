/- Contracts of Add, Sub, Mul, Div, Neg and of their references. -/
import Derived.Test.YtaekhbhjgcmghaaDoorBox
namespace Go.Proofs.YtaekhbhjgcmghaaDoor
open Go.RowKit

set_option maxHeartbeats 1000000 in
theorem add_any (a b c d : Int) (w : World) (ha : -9223372036854775808 ≤ a) (hA : a ≤ 9223372036854775807) (hb : -9223372036854775808 ≤ b) (hB : b ≤ 9223372036854775807) (hc : -9223372036854775808 ≤ c) (hC : c ≤ 9223372036854775807) (hd : -9223372036854775808 ≤ d) (hD : d ≤ 9223372036854775807) :
    Calls Tryd.prog 23 #[.agg #[.int .i64 a, .int .i64 b], .agg #[.int .i64 c, .int .i64 d]] w fun e w' => e = .returned (addQ a b c d).val ∧ Below w.heap.size w w' := by
  have hX := (((Two.new w (.int .i64 a) (.int .i64 b) 24).alloc (.cells #[.int .i64 c, .int .i64 d] 24)).alloc (.cells #[.int .i64 0, .int .i64 0] 24))
  have hY := ((Two.new1 w (.cells #[.int .i64 a, .int .i64 b] 24) (.int .i64 c) (.int .i64 d) 24).alloc (.cells #[.int .i64 0, .int .i64 0] 24))
  have hR := Two.new2 w (.cells #[.int .i64 a, .int .i64 b] 24) (.cells #[.int .i64 c, .int .i64 d] 24) (.int .i64 0) (.int .i64 0) 24
  have h3 := Below.three w (.cells #[.int .i64 a, .int .i64 b] 24) (.cells #[.int .i64 c, .int .i64 d] 24) (.cells #[.int .i64 0, .int .i64 0] 24)
  cases hv : validQ a b with
  | false =>
    have HQ : Hid (addQ a b c d = ⟨0, 0, 1⟩) := by show addQ a b c d = _; unfold addQ; rw [hv]; rfl
    have HV := Lib.hid hv
    have H := Lib.hid (And.intro hX (And.intro hY (And.intro hR h3)))
    clear hv hX hY hR h3
    go_enter Tryd.func23, Tryd.ntmps23
    go_wp2_with fail
    refine (valid_any a b _ ha hA hb hB).mono ?_
    rw [HV.out]
    rintro e w1 ⟨rfl, hb1⟩
    obtain ⟨hX, hY, hR, h3⟩ := H.out
    obtain ⟨r0, r1, rf, rlt⟩ := hR.below hb1
    have hB1 := h3.trans (hb1.mono h3.size)
    have HB1 := Lib.hid hB1
    clear hX hY hR h3 hb1 hB1
    go_wp2
    refine bodyPost_ret (v := .tuple #[.agg #[.int .i64 0, .int .i64 0], .int .i64 1]) (by simp [results, Tryd.results23, go_sem, r0, r1]) rfl ⟨?_, ?_⟩
    · rw [HQ.out]; rfl
    · exact (HB1.out.setCell (by simp; omega) _).setCell (by simp; omega) _
  | true =>
    have HV := Lib.hid hv
    obtain ⟨v1, v2, v3, v4, _⟩ := (valid_iff a b).1 hv
    have H := Lib.hid (And.intro hX (And.intro hY (And.intro hR h3)))
    go_enter Tryd.func23, Tryd.ntmps23
    clear hX hY hR h3 hv
    go_wp2_with fail
    refine (valid_any a b _ ha hA hb hB).mono ?_
    rw [HV.out]
    rintro e w1 ⟨rfl, hb1⟩
    obtain ⟨hX, hY, hR, h3⟩ := H.out
    have hX1 := hX.below hb1
    have hY1 := hY.below hb1
    have hR1 := hR.below hb1
    have hB1 := h3.trans (hb1.mono h3.size)
    have H1 := Lib.hid (And.intro hX1 (And.intro hY1 (And.intro hR1 hB1)))
    obtain ⟨y0, y1, _, _⟩ := hY1
    clear hX hY hR h3 hb1 hX1 hR1 hB1 H
    go_wp2_with fail
    refine (valid_any c d _ hc hC hd hD).mono ?_
    rintro e w2 ⟨rfl, hb2⟩
    obtain ⟨hX, hY, hR, h3⟩ := H1.out
    obtain ⟨x0, x1, _, _⟩ := hX.below hb2
    obtain ⟨z0, z1, _, _⟩ := hY.below hb2
    have hR2 := hR.below hb2
    obtain ⟨r0, r1, rf, rlt⟩ := hR2
    have HR2 := Lib.hid (hR.below hb2)
    have HB2 := Lib.hid (h3.trans (hb2.mono h3.size))
    have hs2 := HB2.out.size
    clear hX hY hR h3 hb2 H1 y0 y1
    cases hv2 : validQ c d with
    | false =>
      have HQ : Hid (addQ a b c d = ⟨0, 0, 1⟩) := by show addQ a b c d = _; unfold addQ; rw [HV.out, hv2]; rfl
      clear hv2
      go_wp2
      refine bodyPost_ret (v := .tuple #[.agg #[.int .i64 0, .int .i64 0], .int .i64 1]) (by simp [results, Tryd.results23, go_sem, r0, r1]) rfl ⟨?_, ?_⟩
      · rw [HQ.out]; rfl
      · exact (HB2.out.setCell (by simp; omega) _).setCell (by simp; omega) _
    | true =>
      obtain ⟨u1, u2, u3, u4, _⟩ := (valid_iff c d).1 hv2
      have HQ : Hid (addQ a b c d = mk (a * d + c * b) (b * d)) := by show addQ a b c d = _; unfold addQ; rw [HV.out, hv2]; rfl
      clear hv2
      have p1 := prod_bnd v3 v4 (show -2147483647 ≤ d by omega) u2
      have p2 := prod_bnd u3 u4 (show -2147483647 ≤ b by omega) v2
      have p3 := prod_bnd (show -2147483647 ≤ b by omega) v2 (show -2147483647 ≤ d by omega) u2
      have p4 := prod_bnd v3 v4 u3 u4
      have p5 := prod_bnd (show -2147483647 ≤ b by omega) v2 u3 u4
      go_wp2_with fail
      refine (make_any _ _ _ (by omega) (by omega) (by omega) (by omega)).mono ?_
      rw [← HQ.out]
      rintro e w3 ⟨rfl, hb3⟩
      obtain ⟨s0, s1, sf, slt⟩ := HR2.out.below hb3
      have HB3 := Lib.hid (HB2.out.trans (hb3.mono hs2))
      have hs3 := HB3.out.size
      clear hb3 r0 r1 rf rlt x0 x1 z0 z1 p1 p2 p3 p4 p5
      obtain ⟨r, hr⟩ : ∃ r, r = addQ a b c d := ⟨_, rfl⟩
      rw [← hr]
      have HRm := Lib.hid hr
      clear hr
      obtain ⟨rn, rd, re⟩ := r
      simp only [Res.val]
      go_wp2
      refine bodyPost_ret (v := .tuple #[.agg #[.int .i64 rn, .int .i64 rd], .int .i64 re]) (by simp [results, Tryd.results23, go_sem, s0, s1]) rfl ⟨?_, ?_⟩
      · rw [← HRm.out]; rfl
      · exact (HB3.out.setCell (by simp; omega) _).setCell (by simp; omega) _

set_option maxHeartbeats 1000000 in
theorem refAdd_any (a b c d : Int) (w : World) (ha : -9223372036854775808 ≤ a) (hA : a ≤ 9223372036854775807) (hb : -9223372036854775808 ≤ b) (hB : b ≤ 9223372036854775807) (hc : -9223372036854775808 ≤ c) (hC : c ≤ 9223372036854775807) (hd : -9223372036854775808 ≤ d) (hD : d ≤ 9223372036854775807) :
    Calls Tryd.prog 27 #[.agg #[.int .i64 a, .int .i64 b], .agg #[.int .i64 c, .int .i64 d]] w fun e w' => e = .returned (addQ a b c d).val ∧ Below w.heap.size w w' := by
  have hX := (((Two.new w (.int .i64 a) (.int .i64 b) 28).alloc (.cells #[.int .i64 c, .int .i64 d] 28)).alloc (.cells #[.int .i64 0, .int .i64 0] 28))
  have hY := ((Two.new1 w (.cells #[.int .i64 a, .int .i64 b] 28) (.int .i64 c) (.int .i64 d) 28).alloc (.cells #[.int .i64 0, .int .i64 0] 28))
  have hR := Two.new2 w (.cells #[.int .i64 a, .int .i64 b] 28) (.cells #[.int .i64 c, .int .i64 d] 28) (.int .i64 0) (.int .i64 0) 28
  have h3 := Below.three w (.cells #[.int .i64 a, .int .i64 b] 28) (.cells #[.int .i64 c, .int .i64 d] 28) (.cells #[.int .i64 0, .int .i64 0] 28)
  cases hv : validQ a b with
  | false =>
    have HQ : Hid (addQ a b c d = ⟨0, 0, 1⟩) := by show addQ a b c d = _; unfold addQ; rw [hv]; rfl
    have HV := Lib.hid hv
    have H := Lib.hid (And.intro hX (And.intro hY (And.intro hR h3)))
    clear hv hX hY hR h3
    go_enter Tryd.func27, Tryd.ntmps27
    go_wp2_with fail
    refine (refValid_any a b _ ha hA hb hB).mono ?_
    rw [HV.out]
    rintro e w1 ⟨rfl, hb1⟩
    obtain ⟨hX, hY, hR, h3⟩ := H.out
    obtain ⟨r0, r1, rf, rlt⟩ := hR.below hb1
    have hB1 := h3.trans (hb1.mono h3.size)
    have HB1 := Lib.hid hB1
    clear hX hY hR h3 hb1 hB1
    go_wp2
    refine bodyPost_ret (v := .tuple #[.agg #[.int .i64 0, .int .i64 0], .int .i64 1]) (by simp [results, Tryd.results27, go_sem, r0, r1]) rfl ⟨?_, ?_⟩
    · rw [HQ.out]; rfl
    · exact (HB1.out.setCell (by simp; omega) _).setCell (by simp; omega) _
  | true =>
    have HV := Lib.hid hv
    obtain ⟨v1, v2, v3, v4, _⟩ := (valid_iff a b).1 hv
    have H := Lib.hid (And.intro hX (And.intro hY (And.intro hR h3)))
    go_enter Tryd.func27, Tryd.ntmps27
    clear hX hY hR h3 hv
    go_wp2_with fail
    refine (refValid_any a b _ ha hA hb hB).mono ?_
    rw [HV.out]
    rintro e w1 ⟨rfl, hb1⟩
    obtain ⟨hX, hY, hR, h3⟩ := H.out
    have hX1 := hX.below hb1
    have hY1 := hY.below hb1
    have hR1 := hR.below hb1
    have hB1 := h3.trans (hb1.mono h3.size)
    have H1 := Lib.hid (And.intro hX1 (And.intro hY1 (And.intro hR1 hB1)))
    obtain ⟨y0, y1, _, _⟩ := hY1
    clear hX hY hR h3 hb1 hX1 hR1 hB1 H
    go_wp2_with fail
    refine (refValid_any c d _ hc hC hd hD).mono ?_
    rintro e w2 ⟨rfl, hb2⟩
    obtain ⟨hX, hY, hR, h3⟩ := H1.out
    obtain ⟨x0, x1, _, _⟩ := hX.below hb2
    obtain ⟨z0, z1, _, _⟩ := hY.below hb2
    have hR2 := hR.below hb2
    obtain ⟨r0, r1, rf, rlt⟩ := hR2
    have HR2 := Lib.hid (hR.below hb2)
    have HB2 := Lib.hid (h3.trans (hb2.mono h3.size))
    have hs2 := HB2.out.size
    clear hX hY hR h3 hb2 H1 y0 y1
    cases hv2 : validQ c d with
    | false =>
      have HQ : Hid (addQ a b c d = ⟨0, 0, 1⟩) := by show addQ a b c d = _; unfold addQ; rw [HV.out, hv2]; rfl
      clear hv2
      go_wp2
      refine bodyPost_ret (v := .tuple #[.agg #[.int .i64 0, .int .i64 0], .int .i64 1]) (by simp [results, Tryd.results27, go_sem, r0, r1]) rfl ⟨?_, ?_⟩
      · rw [HQ.out]; rfl
      · exact (HB2.out.setCell (by simp; omega) _).setCell (by simp; omega) _
    | true =>
      obtain ⟨u1, u2, u3, u4, _⟩ := (valid_iff c d).1 hv2
      have HQ : Hid (addQ a b c d = mk (a * d + c * b) (b * d)) := by show addQ a b c d = _; unfold addQ; rw [HV.out, hv2]; rfl
      clear hv2
      have p1 := prod_bnd v3 v4 (show -2147483647 ≤ d by omega) u2
      have p2 := prod_bnd u3 u4 (show -2147483647 ≤ b by omega) v2
      have p3 := prod_bnd (show -2147483647 ≤ b by omega) v2 (show -2147483647 ≤ d by omega) u2
      have p4 := prod_bnd v3 v4 u3 u4
      have p5 := prod_bnd (show -2147483647 ≤ b by omega) v2 u3 u4
      go_wp2_with fail
      refine (refMake_any _ _ _ (by omega) (by omega) (by omega) (by omega)).mono ?_
      rw [← HQ.out]
      rintro e w3 ⟨rfl, hb3⟩
      obtain ⟨s0, s1, sf, slt⟩ := HR2.out.below hb3
      have HB3 := Lib.hid (HB2.out.trans (hb3.mono hs2))
      have hs3 := HB3.out.size
      clear hb3 r0 r1 rf rlt x0 x1 z0 z1 p1 p2 p3 p4 p5
      obtain ⟨r, hr⟩ : ∃ r, r = addQ a b c d := ⟨_, rfl⟩
      rw [← hr]
      have HRm := Lib.hid hr
      clear hr
      obtain ⟨rn, rd, re⟩ := r
      simp only [Res.val]
      go_wp2
      refine bodyPost_ret (v := .tuple #[.agg #[.int .i64 rn, .int .i64 rd], .int .i64 re]) (by simp [results, Tryd.results27, go_sem, s0, s1]) rfl ⟨?_, ?_⟩
      · rw [← HRm.out]; rfl
      · exact (HB3.out.setCell (by simp; omega) _).setCell (by simp; omega) _

set_option maxHeartbeats 1000000 in
theorem sub_any (a b c d : Int) (w : World) (ha : -9223372036854775808 ≤ a) (hA : a ≤ 9223372036854775807) (hb : -9223372036854775808 ≤ b) (hB : b ≤ 9223372036854775807) (hc : -9223372036854775808 ≤ c) (hC : c ≤ 9223372036854775807) (hd : -9223372036854775808 ≤ d) (hD : d ≤ 9223372036854775807) :
    Calls Tryd.prog 25 #[.agg #[.int .i64 a, .int .i64 b], .agg #[.int .i64 c, .int .i64 d]] w fun e w' => e = .returned (subQ a b c d).val ∧ Below w.heap.size w w' := by
  have hX := (((Two.new w (.int .i64 a) (.int .i64 b) 24).alloc (.cells #[.int .i64 c, .int .i64 d] 24)).alloc (.cells #[.int .i64 0, .int .i64 0] 24))
  have hY := ((Two.new1 w (.cells #[.int .i64 a, .int .i64 b] 24) (.int .i64 c) (.int .i64 d) 24).alloc (.cells #[.int .i64 0, .int .i64 0] 24))
  have hR := Two.new2 w (.cells #[.int .i64 a, .int .i64 b] 24) (.cells #[.int .i64 c, .int .i64 d] 24) (.int .i64 0) (.int .i64 0) 24
  have h3 := Below.three w (.cells #[.int .i64 a, .int .i64 b] 24) (.cells #[.int .i64 c, .int .i64 d] 24) (.cells #[.int .i64 0, .int .i64 0] 24)
  cases hv : validQ a b with
  | false =>
    have HQ : Hid (subQ a b c d = ⟨0, 0, 1⟩) := by show subQ a b c d = _; unfold subQ; rw [hv]; rfl
    have HV := Lib.hid hv
    have H := Lib.hid (And.intro hX (And.intro hY (And.intro hR h3)))
    clear hv hX hY hR h3
    go_enter Tryd.func25, Tryd.ntmps25
    go_wp2_with fail
    refine (valid_any a b _ ha hA hb hB).mono ?_
    rw [HV.out]
    rintro e w1 ⟨rfl, hb1⟩
    obtain ⟨hX, hY, hR, h3⟩ := H.out
    obtain ⟨r0, r1, rf, rlt⟩ := hR.below hb1
    have hB1 := h3.trans (hb1.mono h3.size)
    have HB1 := Lib.hid hB1
    clear hX hY hR h3 hb1 hB1
    go_wp2
    refine bodyPost_ret (v := .tuple #[.agg #[.int .i64 0, .int .i64 0], .int .i64 1]) (by simp [results, Tryd.results25, go_sem, r0, r1]) rfl ⟨?_, ?_⟩
    · rw [HQ.out]; rfl
    · exact (HB1.out.setCell (by simp; omega) _).setCell (by simp; omega) _
  | true =>
    have HV := Lib.hid hv
    obtain ⟨v1, v2, v3, v4, _⟩ := (valid_iff a b).1 hv
    have H := Lib.hid (And.intro hX (And.intro hY (And.intro hR h3)))
    go_enter Tryd.func25, Tryd.ntmps25
    clear hX hY hR h3 hv
    go_wp2_with fail
    refine (valid_any a b _ ha hA hb hB).mono ?_
    rw [HV.out]
    rintro e w1 ⟨rfl, hb1⟩
    obtain ⟨hX, hY, hR, h3⟩ := H.out
    have hX1 := hX.below hb1
    have hY1 := hY.below hb1
    have hR1 := hR.below hb1
    have hB1 := h3.trans (hb1.mono h3.size)
    have H1 := Lib.hid (And.intro hX1 (And.intro hY1 (And.intro hR1 hB1)))
    obtain ⟨y0, y1, _, _⟩ := hY1
    clear hX hY hR h3 hb1 hX1 hR1 hB1 H
    go_wp2_with fail
    refine (valid_any c d _ hc hC hd hD).mono ?_
    rintro e w2 ⟨rfl, hb2⟩
    obtain ⟨hX, hY, hR, h3⟩ := H1.out
    obtain ⟨x0, x1, _, _⟩ := hX.below hb2
    obtain ⟨z0, z1, _, _⟩ := hY.below hb2
    have hR2 := hR.below hb2
    obtain ⟨r0, r1, rf, rlt⟩ := hR2
    have HR2 := Lib.hid (hR.below hb2)
    have HB2 := Lib.hid (h3.trans (hb2.mono h3.size))
    have hs2 := HB2.out.size
    clear hX hY hR h3 hb2 H1 y0 y1
    cases hv2 : validQ c d with
    | false =>
      have HQ : Hid (subQ a b c d = ⟨0, 0, 1⟩) := by show subQ a b c d = _; unfold subQ; rw [HV.out, hv2]; rfl
      clear hv2
      go_wp2
      refine bodyPost_ret (v := .tuple #[.agg #[.int .i64 0, .int .i64 0], .int .i64 1]) (by simp [results, Tryd.results25, go_sem, r0, r1]) rfl ⟨?_, ?_⟩
      · rw [HQ.out]; rfl
      · exact (HB2.out.setCell (by simp; omega) _).setCell (by simp; omega) _
    | true =>
      obtain ⟨u1, u2, u3, u4, _⟩ := (valid_iff c d).1 hv2
      have HQ : Hid (subQ a b c d = mk (a * d - c * b) (b * d)) := by show subQ a b c d = _; unfold subQ; rw [HV.out, hv2]; rfl
      clear hv2
      have p1 := prod_bnd v3 v4 (show -2147483647 ≤ d by omega) u2
      have p2 := prod_bnd u3 u4 (show -2147483647 ≤ b by omega) v2
      have p3 := prod_bnd (show -2147483647 ≤ b by omega) v2 (show -2147483647 ≤ d by omega) u2
      have p4 := prod_bnd v3 v4 u3 u4
      have p5 := prod_bnd (show -2147483647 ≤ b by omega) v2 u3 u4
      go_wp2_with fail
      refine (make_any _ _ _ (by omega) (by omega) (by omega) (by omega)).mono ?_
      rw [← HQ.out]
      rintro e w3 ⟨rfl, hb3⟩
      obtain ⟨s0, s1, sf, slt⟩ := HR2.out.below hb3
      have HB3 := Lib.hid (HB2.out.trans (hb3.mono hs2))
      have hs3 := HB3.out.size
      clear hb3 r0 r1 rf rlt x0 x1 z0 z1 p1 p2 p3 p4 p5
      obtain ⟨r, hr⟩ : ∃ r, r = subQ a b c d := ⟨_, rfl⟩
      rw [← hr]
      have HRm := Lib.hid hr
      clear hr
      obtain ⟨rn, rd, re⟩ := r
      simp only [Res.val]
      go_wp2
      refine bodyPost_ret (v := .tuple #[.agg #[.int .i64 rn, .int .i64 rd], .int .i64 re]) (by simp [results, Tryd.results25, go_sem, s0, s1]) rfl ⟨?_, ?_⟩
      · rw [← HRm.out]; rfl
      · exact (HB3.out.setCell (by simp; omega) _).setCell (by simp; omega) _

set_option maxHeartbeats 1000000 in
theorem mul_any (a b c d : Int) (w : World) (ha : -9223372036854775808 ≤ a) (hA : a ≤ 9223372036854775807) (hb : -9223372036854775808 ≤ b) (hB : b ≤ 9223372036854775807) (hc : -9223372036854775808 ≤ c) (hC : c ≤ 9223372036854775807) (hd : -9223372036854775808 ≤ d) (hD : d ≤ 9223372036854775807) :
    Calls Tryd.prog 24 #[.agg #[.int .i64 a, .int .i64 b], .agg #[.int .i64 c, .int .i64 d]] w fun e w' => e = .returned (mulQ a b c d).val ∧ Below w.heap.size w w' := by
  have hX := (((Two.new w (.int .i64 a) (.int .i64 b) 24).alloc (.cells #[.int .i64 c, .int .i64 d] 24)).alloc (.cells #[.int .i64 0, .int .i64 0] 24))
  have hY := ((Two.new1 w (.cells #[.int .i64 a, .int .i64 b] 24) (.int .i64 c) (.int .i64 d) 24).alloc (.cells #[.int .i64 0, .int .i64 0] 24))
  have hR := Two.new2 w (.cells #[.int .i64 a, .int .i64 b] 24) (.cells #[.int .i64 c, .int .i64 d] 24) (.int .i64 0) (.int .i64 0) 24
  have h3 := Below.three w (.cells #[.int .i64 a, .int .i64 b] 24) (.cells #[.int .i64 c, .int .i64 d] 24) (.cells #[.int .i64 0, .int .i64 0] 24)
  cases hv : validQ a b with
  | false =>
    have HQ : Hid (mulQ a b c d = ⟨0, 0, 1⟩) := by show mulQ a b c d = _; unfold mulQ; rw [hv]; rfl
    have HV := Lib.hid hv
    have H := Lib.hid (And.intro hX (And.intro hY (And.intro hR h3)))
    clear hv hX hY hR h3
    go_enter Tryd.func24, Tryd.ntmps24
    go_wp2_with fail
    refine (valid_any a b _ ha hA hb hB).mono ?_
    rw [HV.out]
    rintro e w1 ⟨rfl, hb1⟩
    obtain ⟨hX, hY, hR, h3⟩ := H.out
    obtain ⟨r0, r1, rf, rlt⟩ := hR.below hb1
    have hB1 := h3.trans (hb1.mono h3.size)
    have HB1 := Lib.hid hB1
    clear hX hY hR h3 hb1 hB1
    go_wp2
    refine bodyPost_ret (v := .tuple #[.agg #[.int .i64 0, .int .i64 0], .int .i64 1]) (by simp [results, Tryd.results24, go_sem, r0, r1]) rfl ⟨?_, ?_⟩
    · rw [HQ.out]; rfl
    · exact (HB1.out.setCell (by simp; omega) _).setCell (by simp; omega) _
  | true =>
    have HV := Lib.hid hv
    obtain ⟨v1, v2, v3, v4, _⟩ := (valid_iff a b).1 hv
    have H := Lib.hid (And.intro hX (And.intro hY (And.intro hR h3)))
    go_enter Tryd.func24, Tryd.ntmps24
    clear hX hY hR h3 hv
    go_wp2_with fail
    refine (valid_any a b _ ha hA hb hB).mono ?_
    rw [HV.out]
    rintro e w1 ⟨rfl, hb1⟩
    obtain ⟨hX, hY, hR, h3⟩ := H.out
    have hX1 := hX.below hb1
    have hY1 := hY.below hb1
    have hR1 := hR.below hb1
    have hB1 := h3.trans (hb1.mono h3.size)
    have H1 := Lib.hid (And.intro hX1 (And.intro hY1 (And.intro hR1 hB1)))
    obtain ⟨y0, y1, _, _⟩ := hY1
    clear hX hY hR h3 hb1 hX1 hR1 hB1 H
    go_wp2_with fail
    refine (valid_any c d _ hc hC hd hD).mono ?_
    rintro e w2 ⟨rfl, hb2⟩
    obtain ⟨hX, hY, hR, h3⟩ := H1.out
    obtain ⟨x0, x1, _, _⟩ := hX.below hb2
    obtain ⟨z0, z1, _, _⟩ := hY.below hb2
    have hR2 := hR.below hb2
    obtain ⟨r0, r1, rf, rlt⟩ := hR2
    have HR2 := Lib.hid (hR.below hb2)
    have HB2 := Lib.hid (h3.trans (hb2.mono h3.size))
    have hs2 := HB2.out.size
    clear hX hY hR h3 hb2 H1 y0 y1
    cases hv2 : validQ c d with
    | false =>
      have HQ : Hid (mulQ a b c d = ⟨0, 0, 1⟩) := by show mulQ a b c d = _; unfold mulQ; rw [HV.out, hv2]; rfl
      clear hv2
      go_wp2
      refine bodyPost_ret (v := .tuple #[.agg #[.int .i64 0, .int .i64 0], .int .i64 1]) (by simp [results, Tryd.results24, go_sem, r0, r1]) rfl ⟨?_, ?_⟩
      · rw [HQ.out]; rfl
      · exact (HB2.out.setCell (by simp; omega) _).setCell (by simp; omega) _
    | true =>
      obtain ⟨u1, u2, u3, u4, _⟩ := (valid_iff c d).1 hv2
      have HQ : Hid (mulQ a b c d = mk (a * c) (b * d)) := by show mulQ a b c d = _; unfold mulQ; rw [HV.out, hv2]; rfl
      clear hv2
      have p1 := prod_bnd v3 v4 (show -2147483647 ≤ d by omega) u2
      have p2 := prod_bnd u3 u4 (show -2147483647 ≤ b by omega) v2
      have p3 := prod_bnd (show -2147483647 ≤ b by omega) v2 (show -2147483647 ≤ d by omega) u2
      have p4 := prod_bnd v3 v4 u3 u4
      have p5 := prod_bnd (show -2147483647 ≤ b by omega) v2 u3 u4
      go_wp2_with fail
      refine (make_any _ _ _ (by omega) (by omega) (by omega) (by omega)).mono ?_
      rw [← HQ.out]
      rintro e w3 ⟨rfl, hb3⟩
      obtain ⟨s0, s1, sf, slt⟩ := HR2.out.below hb3
      have HB3 := Lib.hid (HB2.out.trans (hb3.mono hs2))
      have hs3 := HB3.out.size
      clear hb3 r0 r1 rf rlt x0 x1 z0 z1 p1 p2 p3 p4 p5
      obtain ⟨r, hr⟩ : ∃ r, r = mulQ a b c d := ⟨_, rfl⟩
      rw [← hr]
      have HRm := Lib.hid hr
      clear hr
      obtain ⟨rn, rd, re⟩ := r
      simp only [Res.val]
      go_wp2
      refine bodyPost_ret (v := .tuple #[.agg #[.int .i64 rn, .int .i64 rd], .int .i64 re]) (by simp [results, Tryd.results24, go_sem, s0, s1]) rfl ⟨?_, ?_⟩
      · rw [← HRm.out]; rfl
      · exact (HB3.out.setCell (by simp; omega) _).setCell (by simp; omega) _

set_option maxHeartbeats 1000000 in
theorem refMul_any (a b c d : Int) (w : World) (ha : -9223372036854775808 ≤ a) (hA : a ≤ 9223372036854775807) (hb : -9223372036854775808 ≤ b) (hB : b ≤ 9223372036854775807) (hc : -9223372036854775808 ≤ c) (hC : c ≤ 9223372036854775807) (hd : -9223372036854775808 ≤ d) (hD : d ≤ 9223372036854775807) :
    Calls Tryd.prog 35 #[.agg #[.int .i64 a, .int .i64 b], .agg #[.int .i64 c, .int .i64 d]] w fun e w' => e = .returned (mulQ a b c d).val ∧ Below w.heap.size w w' := by
  have hX := (((Two.new w (.int .i64 a) (.int .i64 b) 28).alloc (.cells #[.int .i64 c, .int .i64 d] 28)).alloc (.cells #[.int .i64 0, .int .i64 0] 28))
  have hY := ((Two.new1 w (.cells #[.int .i64 a, .int .i64 b] 28) (.int .i64 c) (.int .i64 d) 28).alloc (.cells #[.int .i64 0, .int .i64 0] 28))
  have hR := Two.new2 w (.cells #[.int .i64 a, .int .i64 b] 28) (.cells #[.int .i64 c, .int .i64 d] 28) (.int .i64 0) (.int .i64 0) 28
  have h3 := Below.three w (.cells #[.int .i64 a, .int .i64 b] 28) (.cells #[.int .i64 c, .int .i64 d] 28) (.cells #[.int .i64 0, .int .i64 0] 28)
  cases hv : validQ a b with
  | false =>
    have HQ : Hid (mulQ a b c d = ⟨0, 0, 1⟩) := by show mulQ a b c d = _; unfold mulQ; rw [hv]; rfl
    have HV := Lib.hid hv
    have H := Lib.hid (And.intro hX (And.intro hY (And.intro hR h3)))
    clear hv hX hY hR h3
    go_enter Tryd.func35, Tryd.ntmps35
    go_wp2_with fail
    refine (refValid_any a b _ ha hA hb hB).mono ?_
    rw [HV.out]
    rintro e w1 ⟨rfl, hb1⟩
    obtain ⟨hX, hY, hR, h3⟩ := H.out
    obtain ⟨r0, r1, rf, rlt⟩ := hR.below hb1
    have hB1 := h3.trans (hb1.mono h3.size)
    have HB1 := Lib.hid hB1
    clear hX hY hR h3 hb1 hB1
    go_wp2
    refine bodyPost_ret (v := .tuple #[.agg #[.int .i64 0, .int .i64 0], .int .i64 1]) (by simp [results, Tryd.results35, go_sem, r0, r1]) rfl ⟨?_, ?_⟩
    · rw [HQ.out]; rfl
    · exact (HB1.out.setCell (by simp; omega) _).setCell (by simp; omega) _
  | true =>
    have HV := Lib.hid hv
    obtain ⟨v1, v2, v3, v4, _⟩ := (valid_iff a b).1 hv
    have H := Lib.hid (And.intro hX (And.intro hY (And.intro hR h3)))
    go_enter Tryd.func35, Tryd.ntmps35
    clear hX hY hR h3 hv
    go_wp2_with fail
    refine (refValid_any a b _ ha hA hb hB).mono ?_
    rw [HV.out]
    rintro e w1 ⟨rfl, hb1⟩
    obtain ⟨hX, hY, hR, h3⟩ := H.out
    have hX1 := hX.below hb1
    have hY1 := hY.below hb1
    have hR1 := hR.below hb1
    have hB1 := h3.trans (hb1.mono h3.size)
    have H1 := Lib.hid (And.intro hX1 (And.intro hY1 (And.intro hR1 hB1)))
    obtain ⟨y0, y1, _, _⟩ := hY1
    clear hX hY hR h3 hb1 hX1 hR1 hB1 H
    go_wp2_with fail
    refine (refValid_any c d _ hc hC hd hD).mono ?_
    rintro e w2 ⟨rfl, hb2⟩
    obtain ⟨hX, hY, hR, h3⟩ := H1.out
    obtain ⟨x0, x1, _, _⟩ := hX.below hb2
    obtain ⟨z0, z1, _, _⟩ := hY.below hb2
    have hR2 := hR.below hb2
    obtain ⟨r0, r1, rf, rlt⟩ := hR2
    have HR2 := Lib.hid (hR.below hb2)
    have HB2 := Lib.hid (h3.trans (hb2.mono h3.size))
    have hs2 := HB2.out.size
    clear hX hY hR h3 hb2 H1 y0 y1
    cases hv2 : validQ c d with
    | false =>
      have HQ : Hid (mulQ a b c d = ⟨0, 0, 1⟩) := by show mulQ a b c d = _; unfold mulQ; rw [HV.out, hv2]; rfl
      clear hv2
      go_wp2
      refine bodyPost_ret (v := .tuple #[.agg #[.int .i64 0, .int .i64 0], .int .i64 1]) (by simp [results, Tryd.results35, go_sem, r0, r1]) rfl ⟨?_, ?_⟩
      · rw [HQ.out]; rfl
      · exact (HB2.out.setCell (by simp; omega) _).setCell (by simp; omega) _
    | true =>
      obtain ⟨u1, u2, u3, u4, _⟩ := (valid_iff c d).1 hv2
      have HQ : Hid (mulQ a b c d = mk (a * c) (b * d)) := by show mulQ a b c d = _; unfold mulQ; rw [HV.out, hv2]; rfl
      clear hv2
      have p1 := prod_bnd v3 v4 (show -2147483647 ≤ d by omega) u2
      have p2 := prod_bnd u3 u4 (show -2147483647 ≤ b by omega) v2
      have p3 := prod_bnd (show -2147483647 ≤ b by omega) v2 (show -2147483647 ≤ d by omega) u2
      have p4 := prod_bnd v3 v4 u3 u4
      have p5 := prod_bnd (show -2147483647 ≤ b by omega) v2 u3 u4
      go_wp2_with fail
      refine (refMake_any _ _ _ (by omega) (by omega) (by omega) (by omega)).mono ?_
      rw [← HQ.out]
      rintro e w3 ⟨rfl, hb3⟩
      obtain ⟨s0, s1, sf, slt⟩ := HR2.out.below hb3
      have HB3 := Lib.hid (HB2.out.trans (hb3.mono hs2))
      have hs3 := HB3.out.size
      clear hb3 r0 r1 rf rlt x0 x1 z0 z1 p1 p2 p3 p4 p5
      obtain ⟨r, hr⟩ : ∃ r, r = mulQ a b c d := ⟨_, rfl⟩
      rw [← hr]
      have HRm := Lib.hid hr
      clear hr
      obtain ⟨rn, rd, re⟩ := r
      simp only [Res.val]
      go_wp2
      refine bodyPost_ret (v := .tuple #[.agg #[.int .i64 rn, .int .i64 rd], .int .i64 re]) (by simp [results, Tryd.results35, go_sem, s0, s1]) rfl ⟨?_, ?_⟩
      · rw [← HRm.out]; rfl
      · exact (HB3.out.setCell (by simp; omega) _).setCell (by simp; omega) _

set_option maxHeartbeats 1000000 in
theorem div_any (a b c d : Int) (w : World) (ha : -9223372036854775808 ≤ a) (hA : a ≤ 9223372036854775807) (hb : -9223372036854775808 ≤ b) (hB : b ≤ 9223372036854775807) (hc : -9223372036854775808 ≤ c) (hC : c ≤ 9223372036854775807) (hd : -9223372036854775808 ≤ d) (hD : d ≤ 9223372036854775807) :
    Calls Tryd.prog 26 #[.agg #[.int .i64 a, .int .i64 b], .agg #[.int .i64 c, .int .i64 d]] w fun e w' => e = .returned (divQ a b c d).val ∧ Below w.heap.size w w' := by
  have hX := (((Two.new w (.int .i64 a) (.int .i64 b) 24).alloc (.cells #[.int .i64 c, .int .i64 d] 24)).alloc (.cells #[.int .i64 0, .int .i64 0] 24))
  have hY := ((Two.new1 w (.cells #[.int .i64 a, .int .i64 b] 24) (.int .i64 c) (.int .i64 d) 24).alloc (.cells #[.int .i64 0, .int .i64 0] 24))
  have hR := Two.new2 w (.cells #[.int .i64 a, .int .i64 b] 24) (.cells #[.int .i64 c, .int .i64 d] 24) (.int .i64 0) (.int .i64 0) 24
  have h3 := Below.three w (.cells #[.int .i64 a, .int .i64 b] 24) (.cells #[.int .i64 c, .int .i64 d] 24) (.cells #[.int .i64 0, .int .i64 0] 24)
  cases hv : validQ a b with
  | false =>
    have HQ : Hid (divQ a b c d = ⟨0, 0, 1⟩) := by show divQ a b c d = _; unfold divQ; rw [hv]; rfl
    have HV := Lib.hid hv
    have H := Lib.hid (And.intro hX (And.intro hY (And.intro hR h3)))
    clear hv hX hY hR h3
    go_enter Tryd.func26, Tryd.ntmps26
    go_wp2_with fail
    refine (valid_any a b _ ha hA hb hB).mono ?_
    rw [HV.out]
    rintro e w1 ⟨rfl, hb1⟩
    obtain ⟨hX, hY, hR, h3⟩ := H.out
    obtain ⟨r0, r1, rf, rlt⟩ := hR.below hb1
    have hB1 := h3.trans (hb1.mono h3.size)
    have HB1 := Lib.hid hB1
    clear hX hY hR h3 hb1 hB1
    go_wp2
    refine bodyPost_ret (v := .tuple #[.agg #[.int .i64 0, .int .i64 0], .int .i64 1]) (by simp [results, Tryd.results26, go_sem, r0, r1]) rfl ⟨?_, ?_⟩
    · rw [HQ.out]; rfl
    · exact (HB1.out.setCell (by simp; omega) _).setCell (by simp; omega) _
  | true =>
    have HV := Lib.hid hv
    obtain ⟨v1, v2, v3, v4, _⟩ := (valid_iff a b).1 hv
    have H := Lib.hid (And.intro hX (And.intro hY (And.intro hR h3)))
    go_enter Tryd.func26, Tryd.ntmps26
    clear hX hY hR h3 hv
    go_wp2_with fail
    refine (valid_any a b _ ha hA hb hB).mono ?_
    rw [HV.out]
    rintro e w1 ⟨rfl, hb1⟩
    obtain ⟨hX, hY, hR, h3⟩ := H.out
    have hX1 := hX.below hb1
    have hY1 := hY.below hb1
    have hR1 := hR.below hb1
    have hB1 := h3.trans (hb1.mono h3.size)
    have H1 := Lib.hid (And.intro hX1 (And.intro hY1 (And.intro hR1 hB1)))
    obtain ⟨y0, y1, _, _⟩ := hY1
    clear hX hY hR h3 hb1 hX1 hR1 hB1 H
    go_wp2_with fail
    refine (valid_any c d _ hc hC hd hD).mono ?_
    rintro e w2 ⟨rfl, hb2⟩
    obtain ⟨hX, hY, hR, h3⟩ := H1.out
    obtain ⟨x0, x1, _, _⟩ := hX.below hb2
    obtain ⟨z0, z1, _, _⟩ := hY.below hb2
    have hR2 := hR.below hb2
    obtain ⟨r0, r1, rf, rlt⟩ := hR2
    have HR2 := Lib.hid (hR.below hb2)
    have HB2 := Lib.hid (h3.trans (hb2.mono h3.size))
    have hs2 := HB2.out.size
    clear hX hY hR h3 hb2 H1 y0 y1
    cases hv2 : validQ c d with
    | false =>
      have HQ : Hid (divQ a b c d = ⟨0, 0, 1⟩) := by show divQ a b c d = _; unfold divQ; rw [HV.out, hv2]; rfl
      clear hv2
      go_wp2
      refine bodyPost_ret (v := .tuple #[.agg #[.int .i64 0, .int .i64 0], .int .i64 1]) (by simp [results, Tryd.results26, go_sem, r0, r1]) rfl ⟨?_, ?_⟩
      · rw [HQ.out]; rfl
      · exact (HB2.out.setCell (by simp; omega) _).setCell (by simp; omega) _
    | true =>
      obtain ⟨u1, u2, u3, u4, _⟩ := (valid_iff c d).1 hv2
      have HQ : Hid (divQ a b c d = mk (a * d) (b * c)) := by show divQ a b c d = _; unfold divQ; rw [HV.out, hv2]; rfl
      clear hv2
      have p1 := prod_bnd v3 v4 (show -2147483647 ≤ d by omega) u2
      have p2 := prod_bnd u3 u4 (show -2147483647 ≤ b by omega) v2
      have p3 := prod_bnd (show -2147483647 ≤ b by omega) v2 (show -2147483647 ≤ d by omega) u2
      have p4 := prod_bnd v3 v4 u3 u4
      have p5 := prod_bnd (show -2147483647 ≤ b by omega) v2 u3 u4
      by_cases hc0 : c = 0
      · have HQ0 : Hid (divQ a b c d = ⟨0, 0, 10⟩) := HQ.out.trans (by rw [hc0, Int.mul_zero]; rfl)
        have hc0' : (c == 0) = true := by simpa using hc0
        clear hc0 HQ
        go_wp2
        refine bodyPost_ret (v := .tuple #[.agg #[.int .i64 0, .int .i64 0], .int .i64 10]) (by simp [results, Tryd.results26, go_sem, r0, r1]) rfl ⟨?_, ?_⟩
        · rw [HQ0.out]; rfl
        · exact (HB2.out.setCell (by simp; omega) _).setCell (by simp; omega) _
      have hc0' : (c == 0) = false := by simpa using hc0
      clear hc0
      go_wp2_with fail
      refine (make_any _ _ _ (by omega) (by omega) (by omega) (by omega)).mono ?_
      rw [← HQ.out]
      rintro e w3 ⟨rfl, hb3⟩
      obtain ⟨s0, s1, sf, slt⟩ := HR2.out.below hb3
      have HB3 := Lib.hid (HB2.out.trans (hb3.mono hs2))
      have hs3 := HB3.out.size
      clear hb3 r0 r1 rf rlt x0 x1 z0 z1 p1 p2 p3 p4 p5
      obtain ⟨r, hr⟩ : ∃ r, r = divQ a b c d := ⟨_, rfl⟩
      rw [← hr]
      have HRm := Lib.hid hr
      clear hr
      obtain ⟨rn, rd, re⟩ := r
      simp only [Res.val]
      go_wp2
      refine bodyPost_ret (v := .tuple #[.agg #[.int .i64 rn, .int .i64 rd], .int .i64 re]) (by simp [results, Tryd.results26, go_sem, s0, s1]) rfl ⟨?_, ?_⟩
      · rw [← HRm.out]; rfl
      · exact (HB3.out.setCell (by simp; omega) _).setCell (by simp; omega) _

set_option maxHeartbeats 1000000 in
theorem refDiv_any (a b c d : Int) (w : World) (ha : -9223372036854775808 ≤ a) (hA : a ≤ 9223372036854775807) (hb : -9223372036854775808 ≤ b) (hB : b ≤ 9223372036854775807) (hc : -9223372036854775808 ≤ c) (hC : c ≤ 9223372036854775807) (hd : -9223372036854775808 ≤ d) (hD : d ≤ 9223372036854775807) :
    Calls Tryd.prog 36 #[.agg #[.int .i64 a, .int .i64 b], .agg #[.int .i64 c, .int .i64 d]] w fun e w' => e = .returned (divQ a b c d).val ∧ Below w.heap.size w w' := by
  have hX := (((Two.new w (.int .i64 a) (.int .i64 b) 28).alloc (.cells #[.int .i64 c, .int .i64 d] 28)).alloc (.cells #[.int .i64 0, .int .i64 0] 28))
  have hY := ((Two.new1 w (.cells #[.int .i64 a, .int .i64 b] 28) (.int .i64 c) (.int .i64 d) 28).alloc (.cells #[.int .i64 0, .int .i64 0] 28))
  have hR := Two.new2 w (.cells #[.int .i64 a, .int .i64 b] 28) (.cells #[.int .i64 c, .int .i64 d] 28) (.int .i64 0) (.int .i64 0) 28
  have h3 := Below.three w (.cells #[.int .i64 a, .int .i64 b] 28) (.cells #[.int .i64 c, .int .i64 d] 28) (.cells #[.int .i64 0, .int .i64 0] 28)
  cases hv : validQ a b with
  | false =>
    have HQ : Hid (divQ a b c d = ⟨0, 0, 1⟩) := by show divQ a b c d = _; unfold divQ; rw [hv]; rfl
    have HV := Lib.hid hv
    have H := Lib.hid (And.intro hX (And.intro hY (And.intro hR h3)))
    clear hv hX hY hR h3
    go_enter Tryd.func36, Tryd.ntmps36
    go_wp2_with fail
    refine (refValid_any a b _ ha hA hb hB).mono ?_
    rw [HV.out]
    rintro e w1 ⟨rfl, hb1⟩
    obtain ⟨hX, hY, hR, h3⟩ := H.out
    obtain ⟨r0, r1, rf, rlt⟩ := hR.below hb1
    have hB1 := h3.trans (hb1.mono h3.size)
    have HB1 := Lib.hid hB1
    clear hX hY hR h3 hb1 hB1
    go_wp2
    refine bodyPost_ret (v := .tuple #[.agg #[.int .i64 0, .int .i64 0], .int .i64 1]) (by simp [results, Tryd.results36, go_sem, r0, r1]) rfl ⟨?_, ?_⟩
    · rw [HQ.out]; rfl
    · exact (HB1.out.setCell (by simp; omega) _).setCell (by simp; omega) _
  | true =>
    have HV := Lib.hid hv
    obtain ⟨v1, v2, v3, v4, _⟩ := (valid_iff a b).1 hv
    have H := Lib.hid (And.intro hX (And.intro hY (And.intro hR h3)))
    go_enter Tryd.func36, Tryd.ntmps36
    clear hX hY hR h3 hv
    go_wp2_with fail
    refine (refValid_any a b _ ha hA hb hB).mono ?_
    rw [HV.out]
    rintro e w1 ⟨rfl, hb1⟩
    obtain ⟨hX, hY, hR, h3⟩ := H.out
    have hX1 := hX.below hb1
    have hY1 := hY.below hb1
    have hR1 := hR.below hb1
    have hB1 := h3.trans (hb1.mono h3.size)
    have H1 := Lib.hid (And.intro hX1 (And.intro hY1 (And.intro hR1 hB1)))
    obtain ⟨y0, y1, _, _⟩ := hY1
    clear hX hY hR h3 hb1 hX1 hR1 hB1 H
    go_wp2_with fail
    refine (refValid_any c d _ hc hC hd hD).mono ?_
    rintro e w2 ⟨rfl, hb2⟩
    obtain ⟨hX, hY, hR, h3⟩ := H1.out
    obtain ⟨x0, x1, _, _⟩ := hX.below hb2
    obtain ⟨z0, z1, _, _⟩ := hY.below hb2
    have hR2 := hR.below hb2
    obtain ⟨r0, r1, rf, rlt⟩ := hR2
    have HR2 := Lib.hid (hR.below hb2)
    have HB2 := Lib.hid (h3.trans (hb2.mono h3.size))
    have hs2 := HB2.out.size
    clear hX hY hR h3 hb2 H1 y0 y1
    cases hv2 : validQ c d with
    | false =>
      have HQ : Hid (divQ a b c d = ⟨0, 0, 1⟩) := by show divQ a b c d = _; unfold divQ; rw [HV.out, hv2]; rfl
      clear hv2
      go_wp2
      refine bodyPost_ret (v := .tuple #[.agg #[.int .i64 0, .int .i64 0], .int .i64 1]) (by simp [results, Tryd.results36, go_sem, r0, r1]) rfl ⟨?_, ?_⟩
      · rw [HQ.out]; rfl
      · exact (HB2.out.setCell (by simp; omega) _).setCell (by simp; omega) _
    | true =>
      obtain ⟨u1, u2, u3, u4, _⟩ := (valid_iff c d).1 hv2
      have HQ : Hid (divQ a b c d = mk (a * d) (b * c)) := by show divQ a b c d = _; unfold divQ; rw [HV.out, hv2]; rfl
      clear hv2
      have p1 := prod_bnd v3 v4 (show -2147483647 ≤ d by omega) u2
      have p2 := prod_bnd u3 u4 (show -2147483647 ≤ b by omega) v2
      have p3 := prod_bnd (show -2147483647 ≤ b by omega) v2 (show -2147483647 ≤ d by omega) u2
      have p4 := prod_bnd v3 v4 u3 u4
      have p5 := prod_bnd (show -2147483647 ≤ b by omega) v2 u3 u4
      go_wp2_with fail
      refine (refMake_any _ _ _ (by omega) (by omega) (by omega) (by omega)).mono ?_
      rw [← HQ.out]
      rintro e w3 ⟨rfl, hb3⟩
      obtain ⟨s0, s1, sf, slt⟩ := HR2.out.below hb3
      have HB3 := Lib.hid (HB2.out.trans (hb3.mono hs2))
      have hs3 := HB3.out.size
      clear hb3 r0 r1 rf rlt x0 x1 z0 z1 p1 p2 p3 p4 p5
      obtain ⟨r, hr⟩ : ∃ r, r = divQ a b c d := ⟨_, rfl⟩
      rw [← hr]
      have HRm := Lib.hid hr
      clear hr
      obtain ⟨rn, rd, re⟩ := r
      simp only [Res.val]
      go_wp2
      refine bodyPost_ret (v := .tuple #[.agg #[.int .i64 rn, .int .i64 rd], .int .i64 re]) (by simp [results, Tryd.results36, go_sem, s0, s1]) rfl ⟨?_, ?_⟩
      · rw [← HRm.out]; rfl
      · exact (HB3.out.setCell (by simp; omega) _).setCell (by simp; omega) _
end Go.Proofs.YtaekhbhjgcmghaaDoor
