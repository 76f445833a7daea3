/- Contracts of Neg, Cmp, of their references, and of the reference's Sub. -/
import Derived.Test.YtaekhbhjgcmghaaDoorOps
namespace Go.Proofs.YtaekhbhjgcmghaaDoor
open Go.RowKit

def cmpQ (a b c d : Int) : Int × Int := if validQ a b && validQ c d then (if a * d < c * b then -1 else if c * b < a * d then 1 else 0, 0) else (0, 1)

set_option maxHeartbeats 1000000 in
theorem neg_any (a b : Int) (w : World) (ha : -9223372036854775808 ≤ a) (hA : a ≤ 9223372036854775807) (hb : -9223372036854775808 ≤ b) (hB : b ≤ 9223372036854775807) :
    Calls Tryd.prog 29 #[.agg #[.int .i64 a, .int .i64 b]] w fun e w' => e = .returned (negQ a b).val ∧ Below w.heap.size w w' := by
  have hX := ((Two.new w (.int .i64 a) (.int .i64 b) 24).alloc (.cells #[.int .i64 0, .int .i64 0] 24))
  have hR := (Two.new1 w (.cells #[.int .i64 a, .int .i64 b] 24) (.int .i64 0) (.int .i64 0) 24)
  have h3 : Below w.heap.size w ((w.alloc (.cells #[.int .i64 a, .int .i64 b] 24)).alloc (.cells #[.int .i64 0, .int .i64 0] 24)) := ((Below.refl _ _).alloc (Nat.le_refl _) _).alloc (by simp) _
  have H := Lib.hid (And.intro hX (And.intro hR h3))
  clear hX hR h3
  cases hv : validQ a b with
  | false =>
    have HQ : Hid (negQ a b = ⟨0, 0, 1⟩) := by show negQ a b = _; unfold negQ; rw [hv]; rfl
    have HV := Lib.hid hv
    clear hv
    go_enter Tryd.func29, Tryd.ntmps29
    go_wp2_with fail
    refine (valid_any a b _ ha hA hb hB).mono ?_
    rw [HV.out]
    rintro e w1 ⟨rfl, hb1⟩
    obtain ⟨hX, hR, h3⟩ := H.out
    obtain ⟨r0, r1, rf, rlt⟩ := hR.below hb1
    have HB1 := Lib.hid (h3.trans (hb1.mono h3.size))
    clear hX hR h3 hb1
    go_wp2
    refine bodyPost_ret (v := .tuple #[.agg #[.int .i64 0, .int .i64 0], .int .i64 1]) (by simp [results, Tryd.results29, go_sem, r0, r1]) rfl ⟨?_, ?_⟩
    · rw [HQ.out]; rfl
    · exact (HB1.out.setCell (by simp) _).setCell (by simp) _
  | true =>
    obtain ⟨v1, v2, v3, v4, _⟩ := (valid_iff a b).1 hv
    have HQ : Hid (negQ a b = ⟨-a, b, 0⟩) := by show negQ a b = _; unfold negQ; rw [hv]; rfl
    have HV := Lib.hid hv
    clear hv
    go_enter Tryd.func29, Tryd.ntmps29
    go_wp2_with fail
    refine (valid_any a b _ ha hA hb hB).mono ?_
    rw [HV.out]
    rintro e w1 ⟨rfl, hb1⟩
    obtain ⟨hX, hR, h3⟩ := H.out
    obtain ⟨r0, r1, rf, rlt⟩ := hR.below hb1
    obtain ⟨x0, x1, _, _⟩ := hX.below hb1
    have HB1 := Lib.hid (h3.trans (hb1.mono h3.size))
    clear hX hR h3 hb1
    go_wp2
    refine bodyPost_ret (v := .tuple #[.agg #[.int .i64 (-a), .int .i64 b], .int .i64 0]) (by simp [results, Tryd.results29, go_sem, r0, r1]) rfl ⟨?_, ?_⟩
    · rw [HQ.out]; rfl
    · exact (HB1.out.setCell (by simp) _).setCell (by simp) _

set_option maxHeartbeats 1000000 in
theorem refNeg_any (a b : Int) (w : World) (ha : -9223372036854775808 ≤ a) (hA : a ≤ 9223372036854775807) (hb : -9223372036854775808 ≤ b) (hB : b ≤ 9223372036854775807) :
    Calls Tryd.prog 30 #[.agg #[.int .i64 a, .int .i64 b]] w fun e w' => e = .returned (negQ a b).val ∧ Below w.heap.size w w' := by
  have hX := ((Two.new w (.int .i64 a) (.int .i64 b) 28).alloc (.cells #[.int .i64 0, .int .i64 0] 28))
  have hR := (Two.new1 w (.cells #[.int .i64 a, .int .i64 b] 28) (.int .i64 0) (.int .i64 0) 28)
  have h3 : Below w.heap.size w ((w.alloc (.cells #[.int .i64 a, .int .i64 b] 28)).alloc (.cells #[.int .i64 0, .int .i64 0] 28)) := ((Below.refl _ _).alloc (Nat.le_refl _) _).alloc (by simp) _
  have H := Lib.hid (And.intro hX (And.intro hR h3))
  clear hX hR h3
  cases hv : validQ a b with
  | false =>
    have HQ : Hid (negQ a b = ⟨0, 0, 1⟩) := by show negQ a b = _; unfold negQ; rw [hv]; rfl
    have HV := Lib.hid hv
    clear hv
    go_enter Tryd.func30, Tryd.ntmps30
    go_wp2_with fail
    refine (refValid_any a b _ ha hA hb hB).mono ?_
    rw [HV.out]
    rintro e w1 ⟨rfl, hb1⟩
    obtain ⟨hX, hR, h3⟩ := H.out
    obtain ⟨r0, r1, rf, rlt⟩ := hR.below hb1
    have HB1 := Lib.hid (h3.trans (hb1.mono h3.size))
    clear hX hR h3 hb1
    go_wp2
    refine bodyPost_ret (v := .tuple #[.agg #[.int .i64 0, .int .i64 0], .int .i64 1]) (by simp [results, Tryd.results30, go_sem, r0, r1]) rfl ⟨?_, ?_⟩
    · rw [HQ.out]; rfl
    · exact (HB1.out.setCell (by simp) _).setCell (by simp) _
  | true =>
    obtain ⟨v1, v2, v3, v4, _⟩ := (valid_iff a b).1 hv
    have HQ : Hid (negQ a b = ⟨-a, b, 0⟩) := by show negQ a b = _; unfold negQ; rw [hv]; rfl
    have HV := Lib.hid hv
    clear hv
    go_enter Tryd.func30, Tryd.ntmps30
    go_wp2_with fail
    refine (refValid_any a b _ ha hA hb hB).mono ?_
    rw [HV.out]
    rintro e w1 ⟨rfl, hb1⟩
    obtain ⟨hX, hR, h3⟩ := H.out
    obtain ⟨r0, r1, rf, rlt⟩ := hR.below hb1
    obtain ⟨x0, x1, _, _⟩ := hX.below hb1
    have HB1 := Lib.hid (h3.trans (hb1.mono h3.size))
    clear hX hR h3 hb1
    go_wp2
    refine bodyPost_ret (v := .tuple #[.agg #[.int .i64 (-a), .int .i64 b], .int .i64 0]) (by simp [results, Tryd.results30, go_sem, r0, r1]) rfl ⟨?_, ?_⟩
    · rw [HQ.out]; rfl
    · exact (HB1.out.setCell (by simp) _).setCell (by simp) _

theorem wrap_neg (c : Int) (hc : -9223372036854775808 ≤ c) (hC : c ≤ 9223372036854775807) : -9223372036854775808 ≤ wrap64 (-c) ∧ wrap64 (-c) ≤ 9223372036854775807 ∧ ∀ d, validQ (wrap64 (-c)) d = validQ c d ∧ (validQ c d = true → wrap64 (-c) = -c) := by
  by_cases h : c = -9223372036854775808
  · subst h
    have e : wrap64 (- -9223372036854775808) = -9223372036854775808 := by unfold wrap64; omega
    rw [e]
    refine ⟨by omega, by omega, fun d => ⟨rfl, fun hv => ?_⟩⟩
    rw [valid_iff] at hv; omega
  · have e : wrap64 (-c) = -c := by unfold wrap64; omega
    rw [e]
    exact ⟨by omega, by omega, fun d => ⟨valid_neg c d, fun _ => rfl⟩⟩
theorem sub_wrap (a b c d : Int) (hc : -9223372036854775808 ≤ c) (hC : c ≤ 9223372036854775807) : addQ a b (wrap64 (-c)) d = subQ a b c d := by
  rw [subQ_addQ]
  obtain ⟨_, _, h⟩ := wrap_neg c hc hC
  obtain ⟨h1, h2⟩ := h d
  cases hv : validQ c d with
  | true => rw [h2 hv]
  | false =>
    unfold addQ
    rw [h1, valid_neg, hv, Bool.and_false, if_neg (by simp), if_neg (by simp)]

set_option maxHeartbeats 1000000 in
theorem refSub_any (a b c d : Int) (w : World) (ha : -9223372036854775808 ≤ a) (hA : a ≤ 9223372036854775807) (hb : -9223372036854775808 ≤ b) (hB : b ≤ 9223372036854775807) (hc : -9223372036854775808 ≤ c) (hC : c ≤ 9223372036854775807) (hd : -9223372036854775808 ≤ d) (hD : d ≤ 9223372036854775807) :
    Calls Tryd.prog 28 #[.agg #[.int .i64 a, .int .i64 b], .agg #[.int .i64 c, .int .i64 d]] w fun e w' => e = .returned (subQ a b c d).val ∧ Below w.heap.size w w' := by
  have HS := Lib.hid (sub_wrap a b c d hc hC)
  obtain ⟨k1, k2, _⟩ := wrap_neg c hc hC
  go_enter Tryd.func28, Tryd.ntmps28
  go_wp2_with fail
  refine (refAdd_any a b _ d _ ha hA hb hB k1 k2 hd hD).mono ?_
  rw [HS.out]
  rintro e w1 ⟨rfl, hb1⟩
  have hR := (Two.new2 w (.cells #[.int .i64 a, .int .i64 b] 28) (.cells #[.int .i64 (wrap64 (-c)), .int .i64 d] 28) (.int .i64 0) (.int .i64 0) 28).below hb1
  have h3 := (Below.three w (.cells #[.int .i64 a, .int .i64 b] 28) (.cells #[.int .i64 (wrap64 (-c)), .int .i64 d] 28) (.cells #[.int .i64 0, .int .i64 0] 28))
  have HB := Lib.hid (h3.trans (hb1.mono h3.size))
  obtain ⟨r0, r1, rf, rlt⟩ := hR
  clear h3 hb1 HS k1 k2
  obtain ⟨r, hr⟩ : ∃ r, r = subQ a b c d := ⟨_, rfl⟩
  rw [← hr]
  have HRm := Lib.hid hr
  clear hr
  obtain ⟨rn, rd, re⟩ := r
  simp only [Res.val]
  go_wp2
  refine bodyPost_ret (v := .tuple #[.agg #[.int .i64 rn, .int .i64 rd], .int .i64 re]) (by simp [results, Tryd.results28, go_sem, r0, r1]) rfl ⟨?_, ?_⟩
  · rw [← HRm.out]; rfl
  · exact (HB.out.setCell (by simp; omega) _).setCell (by simp; omega) _

set_option maxHeartbeats 1000000 in
theorem cmp_any (a b c d : Int) (w : World) (ha : -9223372036854775808 ≤ a) (hA : a ≤ 9223372036854775807) (hb : -9223372036854775808 ≤ b) (hB : b ≤ 9223372036854775807) (hc : -9223372036854775808 ≤ c) (hC : c ≤ 9223372036854775807) (hd : -9223372036854775808 ≤ d) (hD : d ≤ 9223372036854775807) :
    Calls Tryd.prog 31 #[.agg #[.int .i64 a, .int .i64 b], .agg #[.int .i64 c, .int .i64 d]] w fun e w' => e = .returned (.tuple #[.int .i64 (cmpQ a b c d).1, .int .i64 (cmpQ a b c d).2]) ∧ Below w.heap.size w w' := by
  have hX := ((Two.new w (.int .i64 a) (.int .i64 b) 24).alloc (.cells #[.int .i64 c, .int .i64 d] 24))
  have hY := (Two.new1 w (.cells #[.int .i64 a, .int .i64 b] 24) (.int .i64 c) (.int .i64 d) 24)
  have h3 : Below w.heap.size w ((w.alloc (.cells #[.int .i64 a, .int .i64 b] 24)).alloc (.cells #[.int .i64 c, .int .i64 d] 24)) := ((Below.refl _ _).alloc (Nat.le_refl _) _).alloc (by simp) _
  have H := Lib.hid (And.intro hX (And.intro hY h3))
  clear hX hY h3
  cases hv : validQ a b with
  | false =>
    have HQ : Hid (cmpQ a b c d = (0, 1)) := by show cmpQ a b c d = _; unfold cmpQ; rw [hv]; rfl
    have HV := Lib.hid hv
    clear hv
    go_enter Tryd.func31, Tryd.ntmps31
    go_wp2_with fail
    refine (valid_any a b _ ha hA hb hB).mono ?_
    rw [HV.out]
    rintro e w1 ⟨rfl, hb1⟩
    obtain ⟨hX, hY, h3⟩ := H.out
    have HB1 := Lib.hid (h3.trans (hb1.mono h3.size))
    clear hX hY h3 hb1
    go_wp2
    go_ret2
    rw [HQ.out]
    exact ⟨rfl, HB1.out⟩
  | true =>
    obtain ⟨v1, v2, v3, v4, _⟩ := (valid_iff a b).1 hv
    have HV := Lib.hid hv
    clear hv
    go_enter Tryd.func31, Tryd.ntmps31
    go_wp2_with fail
    refine (valid_any a b _ ha hA hb hB).mono ?_
    rw [HV.out]
    rintro e w1 ⟨rfl, hb1⟩
    obtain ⟨hX, hY, h3⟩ := H.out
    have hX1 := hX.below hb1
    have hY1 := hY.below hb1
    have hB1 := h3.trans (hb1.mono h3.size)
    have H1 := Lib.hid (And.intro hX1 (And.intro hY1 hB1))
    obtain ⟨y0, y1, _, _⟩ := hY1
    clear hX hY h3 hb1 hX1 hB1 H
    go_wp2_with fail
    refine (valid_any c d _ hc hC hd hD).mono ?_
    rintro e w2 ⟨rfl, hb2⟩
    obtain ⟨hX, hY, h3⟩ := H1.out
    obtain ⟨x0, x1, _, _⟩ := hX.below hb2
    obtain ⟨z0, z1, _, _⟩ := hY.below hb2
    have HB2 := Lib.hid (h3.trans (hb2.mono h3.size))
    clear hX hY h3 hb2 H1 y0 y1
    cases hv2 : validQ c d with
    | false =>
      have HQ : Hid (cmpQ a b c d = (0, 1)) := by show cmpQ a b c d = _; unfold cmpQ; rw [HV.out, hv2]; rfl
      clear hv2
      go_wp2
      go_ret2
      rw [HQ.out]
      exact ⟨rfl, HB2.out⟩
    | true =>
      obtain ⟨u1, u2, u3, u4, _⟩ := (valid_iff c d).1 hv2
      have HQ : Hid (cmpQ a b c d = (if a * d < c * b then -1 else if c * b < a * d then 1 else 0, 0)) := by show cmpQ a b c d = _; unfold cmpQ; rw [HV.out, hv2]; rfl
      clear hv2
      have p1 := prod_bnd v3 v4 (show -2147483647 ≤ d by omega) u2
      have p2 := prod_bnd u3 u4 (show -2147483647 ≤ b by omega) v2
      have e1 : IntKind.i64.wrap (a * d) = a * d := IntWalk.i64_in _ (by omega)
      have e2 : IntKind.i64.wrap (c * b) = c * b := IntWalk.i64_in _ (by omega)
      go_wp2
      go_quiet (fail)
      clear e1 e2
      rcases Int.lt_trichotomy (a * d) (c * b) with h | h | h
      · have h' : ¬ c * b < a * d := by omega
        rw [if_pos h] at HQ
        generalize a * d = p at *
        generalize c * b = q at *
        go_wp2
        go_ret2
        rw [HQ.out]
        exact ⟨rfl, belowN HB2.out _⟩
      · have h1 : ¬ a * d < c * b := by omega
        have h2 : ¬ c * b < a * d := by omega
        rw [if_neg h1, if_neg h2] at HQ
        generalize a * d = p at *
        generalize c * b = q at *
        subst h
        go_wp2
        go_ret2
        rw [HQ.out]
        exact ⟨rfl, belowN HB2.out _⟩
      · have h' : ¬ a * d < c * b := by omega
        rw [if_neg h', if_pos h] at HQ
        generalize a * d = p at *
        generalize c * b = q at *
        go_wp2
        go_ret2
        rw [HQ.out]
        exact ⟨rfl, belowN HB2.out _⟩

set_option maxHeartbeats 1000000 in
theorem refCmp_any (a b c d : Int) (w : World) (ha : -9223372036854775808 ≤ a) (hA : a ≤ 9223372036854775807) (hb : -9223372036854775808 ≤ b) (hB : b ≤ 9223372036854775807) (hc : -9223372036854775808 ≤ c) (hC : c ≤ 9223372036854775807) (hd : -9223372036854775808 ≤ d) (hD : d ≤ 9223372036854775807) :
    Calls Tryd.prog 32 #[.agg #[.int .i64 a, .int .i64 b], .agg #[.int .i64 c, .int .i64 d]] w fun e w' => e = .returned (.tuple #[.int .i64 (cmpQ a b c d).1, .int .i64 (cmpQ a b c d).2]) ∧ Below w.heap.size w w' := by
  have hX := ((Two.new w (.int .i64 a) (.int .i64 b) 28).alloc (.cells #[.int .i64 c, .int .i64 d] 28))
  have hY := (Two.new1 w (.cells #[.int .i64 a, .int .i64 b] 28) (.int .i64 c) (.int .i64 d) 28)
  have h3 : Below w.heap.size w ((w.alloc (.cells #[.int .i64 a, .int .i64 b] 28)).alloc (.cells #[.int .i64 c, .int .i64 d] 28)) := ((Below.refl _ _).alloc (Nat.le_refl _) _).alloc (by simp) _
  have H := Lib.hid (And.intro hX (And.intro hY h3))
  clear hX hY h3
  cases hv : validQ a b with
  | false =>
    have HQ : Hid (cmpQ a b c d = (0, 1)) := by show cmpQ a b c d = _; unfold cmpQ; rw [hv]; rfl
    have HV := Lib.hid hv
    clear hv
    go_enter Tryd.func32, Tryd.ntmps32
    go_wp2_with fail
    refine (refValid_any a b _ ha hA hb hB).mono ?_
    rw [HV.out]
    rintro e w1 ⟨rfl, hb1⟩
    obtain ⟨hX, hY, h3⟩ := H.out
    have HB1 := Lib.hid (h3.trans (hb1.mono h3.size))
    clear hX hY h3 hb1
    go_wp2
    go_ret2
    rw [HQ.out]
    exact ⟨rfl, HB1.out⟩
  | true =>
    obtain ⟨v1, v2, v3, v4, _⟩ := (valid_iff a b).1 hv
    have HV := Lib.hid hv
    clear hv
    go_enter Tryd.func32, Tryd.ntmps32
    go_wp2_with fail
    refine (refValid_any a b _ ha hA hb hB).mono ?_
    rw [HV.out]
    rintro e w1 ⟨rfl, hb1⟩
    obtain ⟨hX, hY, h3⟩ := H.out
    have hX1 := hX.below hb1
    have hY1 := hY.below hb1
    have hB1 := h3.trans (hb1.mono h3.size)
    have H1 := Lib.hid (And.intro hX1 (And.intro hY1 hB1))
    obtain ⟨y0, y1, _, _⟩ := hY1
    clear hX hY h3 hb1 hX1 hB1 H
    go_wp2_with fail
    refine (refValid_any c d _ hc hC hd hD).mono ?_
    rintro e w2 ⟨rfl, hb2⟩
    obtain ⟨hX, hY, h3⟩ := H1.out
    obtain ⟨x0, x1, _, _⟩ := hX.below hb2
    obtain ⟨z0, z1, _, _⟩ := hY.below hb2
    have HB2 := Lib.hid (h3.trans (hb2.mono h3.size))
    clear hX hY h3 hb2 H1 y0 y1
    cases hv2 : validQ c d with
    | false =>
      have HQ : Hid (cmpQ a b c d = (0, 1)) := by show cmpQ a b c d = _; unfold cmpQ; rw [HV.out, hv2]; rfl
      clear hv2
      go_wp2
      go_ret2
      rw [HQ.out]
      exact ⟨rfl, HB2.out⟩
    | true =>
      obtain ⟨u1, u2, u3, u4, _⟩ := (valid_iff c d).1 hv2
      have HQ : Hid (cmpQ a b c d = (if a * d < c * b then -1 else if c * b < a * d then 1 else 0, 0)) := by show cmpQ a b c d = _; unfold cmpQ; rw [HV.out, hv2]; rfl
      clear hv2
      have p1 := prod_bnd v3 v4 (show -2147483647 ≤ d by omega) u2
      have p2 := prod_bnd u3 u4 (show -2147483647 ≤ b by omega) v2
      have e1 : IntKind.i64.wrap (a * d) = a * d := IntWalk.i64_in _ (by omega)
      have e2 : IntKind.i64.wrap (c * b) = c * b := IntWalk.i64_in _ (by omega)
      go_wp2
      go_quiet (fail)
      clear e1 e2
      rcases Int.lt_trichotomy (a * d) (c * b) with h | h | h
      · have h' : ¬ c * b < a * d := by omega
        rw [if_pos h] at HQ
        generalize a * d = p at *
        generalize c * b = q at *
        go_wp2
        go_ret2
        rw [HQ.out]
        exact ⟨rfl, belowN HB2.out _⟩
      · have h1 : ¬ a * d < c * b := by omega
        have h2 : ¬ c * b < a * d := by omega
        rw [if_neg h1, if_neg h2] at HQ
        generalize a * d = p at *
        generalize c * b = q at *
        subst h
        go_wp2
        go_ret2
        rw [HQ.out]
        exact ⟨rfl, belowN HB2.out _⟩
      · have h' : ¬ a * d < c * b := by omega
        rw [if_neg h', if_pos h] at HQ
        generalize a * d = p at *
        generalize c * b = q at *
        go_wp2
        go_ret2
        rw [HQ.out]
        exact ⟨rfl, belowN HB2.out _⟩
end Go.Proofs.YtaekhbhjgcmghaaDoor
