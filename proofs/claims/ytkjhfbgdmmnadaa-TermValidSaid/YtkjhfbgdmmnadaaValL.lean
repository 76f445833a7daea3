/- The walk of TermValid. -/
import Derived.Test.YtkjhfbgdmmnadaaLawK
import Derived.Test.YtkjhfbgdmmnadaaEq17
namespace Go.Proofs.Ytkjhfbgdmmnadaa
open Go.RowKit

set_option maxRecDepth 100000 in
set_option maxHeartbeats 4000000 in
theorem valid_walk (t : T) (A : Option Addr) (c : Nat) (u : T) (A' : Option Addr) (c' : Nat) (w : World) (hv : TV w w.heap.size t A c) (hv' : TV w w.heap.size u A' c') (hm : Max w) :
    Calls Try.prog 3 #[.agg (tv t A c), .agg (tv u A' c')] w fun e w' => e = .returned (.bool true) ∧ Below w.heap.size w w' := by
  have hb1 : Below w.heap.size w (w.alloc (.cells (tv t A c) 24)) := (Below.refl _ _).alloc (Nat.le_refl _) _
  have hb0 : Below w.heap.size w ((w.alloc (.cells (tv t A c) 24)).alloc (.cells (tv u A' c') 24)) := hb1.alloc (by simp) _
  have HB0 := Lib.hid hb0
  have HV := Lib.hid fun w' (hb : Below w.heap.size w w') => hv.reach hb
  have HV' := Lib.hid fun w' (hb : Below w.heap.size w w') => hv'.reach hb
  have HM := Lib.hid fun w' (hb : Below w.heap.size w w') => hm.reach hb
  have hs1 : (w.alloc (.cells (tv t A c) 24)).heap.size = w.heap.size + 1 := by simp
  have hbx' := bxd_new (w.alloc (.cells (tv t A c) 24)) u A' c'
  rw [hs1] at hbx'
  have HBX := Lib.hid (And.intro ((bxd_new w t A c).below ((Below.refl (w.alloc (.cells (tv t A c) 24)).heap.size _).alloc (Nat.le_refl _) (.cells (tv u A' c') 24)) (by simp)) hbx')
  have hls : w.heap.size + 1 < ((w.alloc (.cells (tv t A c) 24)).alloc (.cells (tv u A' c') 24)).heap.size := by simp
  have HS1 := Lib.hid hs1
  have HTV : Hid (tv t A c = #[.int .i64 t.kind, .string ⟨t.name.toArray⟩, .string ⟨t.var.toArray⟩, .slice A t.args.length c, .string ⟨t.form.toArray⟩]) := rfl
  have HTV' : Hid (tv u A' c' = #[.int .i64 u.kind, .string ⟨u.name.toArray⟩, .string ⟨u.var.toArray⟩, .slice A' u.args.length c', .string ⟨u.form.toArray⟩]) := rfl
  clear hb0 hb1 hv hv' hm hbx' hs1
  go_enter Try.func3, Try.ntmps3
  go_wp2_with fail
  obtain ⟨w0, hw0⟩ : ∃ w0, w0 = (w.alloc (.cells (tv t A c) 24)).alloc (.cells (tv u A' c') 24) := ⟨_, rfl⟩
  rw [← hw0] at HB0 HBX hls ⊢
  clear hw0
  refine (awake11_any _ (HM.out _ HB0.out)).mono ?_
  rintro e w1 ⟨rfl, hb1⟩
  have HB1 := Lib.hid (HB0.out.trans (hb1.mono HB0.out.size))
  have HBX1 := Lib.hid (And.intro (HBX.out.1.below hb1 (by omega)) (HBX.out.2.below hb1 hls))
  have hls1 : w.heap.size + 1 < w1.heap.size := by have := hb1.size; omega
  have HF1 := Lib.hid (few_any t A c w1 (HV.out _ HB1.out))
  clear hb1 HB0 HBX hls
  unfold tv at HF1
  obtain ⟨⟨k0, k1, k2, k3, k4⟩, ⟨j0, j1, j2, j3, j4⟩⟩ := HBX1.out
  go_wp2_with fail
  refine HF1.out.mono ?_
  rintro e w2 ⟨rfl, hb2⟩
  have HB2 := Lib.hid (HB1.out.trans (hb2.mono HB1.out.size))
  have HBX2 := Lib.hid (And.intro (HBX1.out.1.below hb2 (by omega)) (HBX1.out.2.below hb2 hls1))
  have hls2 : w.heap.size + 1 < w2.heap.size := by have := hb2.size; omega
  have HF2 := Lib.hid (few_any u A' c' w2 (HV'.out _ HB2.out))
  clear hb2 HB1 HBX1 hls1 HF1 k0 k1 k2 k3 k4 j0 j1 j2 j3 j4
  unfold tv at HF2
  obtain ⟨⟨k0, k1, k2, k3, k4⟩, ⟨j0, j1, j2, j3, j4⟩⟩ := HBX2.out
  cases hfe : fewB t with
  | false =>
    clear hfe
    go_wp2_with fail
    go_ret
    exact ⟨rfl, HB2.out⟩
  | true =>
    have HFT := Lib.hid hfe
    clear hfe
    go_wp2_with fail
    refine HF2.out.mono ?_
    rintro e w3 ⟨rfl, hb3⟩
    have HB3 := Lib.hid (HB2.out.trans (hb3.mono HB2.out.size))
    have HBX3 := Lib.hid (And.intro (HBX2.out.1.below hb3 (by omega)) (HBX2.out.2.below hb3 hls2))
    have hls3 : w.heap.size + 1 < w3.heap.size := by have := hb3.size; omega
    clear hb3 HB2 HBX2 hls2 HF2 k0 k1 k2 k3 k4 j0 j1 j2 j3 j4
    cases hfe : fewB u with
    | false =>
      clear hfe
      go_wp2_with fail
      go_ret
      exact ⟨rfl, HB3.out⟩
    | true =>
      have HST := Lib.hid (few_SA' HFT.out)
      have HSU := Lib.hid (few_SA' hfe)
      have hzt : t.size ≤ 100000 := by have := few_size HFT.out; omega
      have hzu : u.size ≤ 100000 := by have := few_size hfe; omega
      clear hfe
      have HR := Lib.hid fun d os => HB3.out.trans ((below_regrown w3 d os).mono HB3.out.size)
      have c13 := Lib.hid fun d os => Calls.regrown_of (validT_any t A c (Sort.grow (redrawn w3 d) os) (HV.out _ (HR.out d os)) HST.out (HM.out _ (HR.out d os)))
      have c14 := Lib.hid fun d os => Calls.regrown_of (rvalid_any t A c (Sort.grow (redrawn w3 d) os) (HV.out _ (HR.out d os)) HST.out)
      have c15 := Lib.hid fun d os => Calls.regrown_of (count_any t A c (Sort.grow (redrawn w3 d) os) (HV.out _ (HR.out d os)) HST.out (HM.out _ (HR.out d os)))
      have c16 := Lib.hid fun d os => Calls.regrown_of (rcount_any t A c (Sort.grow (redrawn w3 d) os) (HV.out _ (HR.out d os)) HST.out)
      have c17 := Lib.hid fun d os => Calls.regrown_of (eq17_any t u A c A' c' (Sort.grow (redrawn w3 d) os) (HV.out _ (HR.out d os)) (HV'.out _ (HR.out d os)) hzt)
      have c18 := Lib.hid fun d os => Calls.regrown_of (eq18_any t u A c A' c' (Sort.grow (redrawn w3 d) os) (HV.out _ (HR.out d os)) (HV'.out _ (HR.out d os)))
      have c19 := Lib.hid fun d os => Calls.regrown_of (eq17_any t t A c A c (Sort.grow (redrawn w3 d) os) (HV.out _ (HR.out d os)) (HV.out _ (HR.out d os)) hzt)
      have hself : eqT t t = true := (eqT_iff t t).2 rfl
      simp only [hself] at c19
      unfold tv at c13 c14 c15 c16 c17 c18 c19
      clear hself
      generalize validB t = vb at *
      generalize cntT t = ct at *
      generalize eqT t u = eb at *
      obtain ⟨⟨k0, k1, k2, k3, k4⟩, ⟨j0, j1, j2, j3, j4⟩⟩ := HBX3.out
      have e0 := fun d os => cell_regrown k0 d os
      have e1 := fun d os => cell_regrown k1 d os
      have e2 := fun d os => cell_regrown k2 d os
      have e3 := fun d os => cell_regrown k3 d os
      have e4 := fun d os => cell_regrown k4 d os
      have g0 := fun d os => cell_regrown j0 d os
      have g1 := fun d os => cell_regrown j1 d os
      have g2 := fun d os => cell_regrown j2 d os
      have g3 := fun d os => cell_regrown j3 d os
      have g4 := fun d os => cell_regrown j4 d os
      go_wp2_with fail
      refine wp_region_quiet_below (by kernel_rfl) (by kernel_rfl) ?_
      repeat (first
        | go_big_quiet_step (first | with_reducible exact c13.out _ _ | with_reducible exact c14.out _ _ | with_reducible exact c15.out _ _ | with_reducible exact c16.out _ _ | with_reducible exact c17.out _ _ | with_reducible exact c18.out _ _ | with_reducible exact c19.out _ _)
        | quiet_step (first | with_reducible exact c13.out _ _ | with_reducible exact c14.out _ _ | with_reducible exact c15.out _ _ | with_reducible exact c16.out _ _ | with_reducible exact c17.out _ _ | with_reducible exact c18.out _ _ | with_reducible exact c19.out _ _))
      refine wpQuiet_nil ?_
      intro _ hw'
      obtain ⟨⟨dq, osq⟩, hw''⟩ := hw'
      subst hw''
      have HB4 := Lib.hid (HR.out dq osq)
      clear e0 e1 e2 e3 e4 g0 g1 g2 g3 g4 k0 k1 k2 k3 k4 j0 j1 j2 j3 j4
      generalize Sort.grow (redrawn w3 dq) osq = w4 at *
      go_wp2_with fail
      go_ret
      exact ⟨rfl, HB4.out⟩
end Go.Proofs.Ytkjhfbgdmmnadaa
