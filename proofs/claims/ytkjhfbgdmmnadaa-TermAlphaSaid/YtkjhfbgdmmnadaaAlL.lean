/- Contract of the reference's Alpha 31. The walk of TermAlpha. -/
import Derived.Test.YtkjhfbgdmmnadaaAlF
import Derived.Test.YtkjhfbgdmmnadaaLawK
namespace Go.Proofs.Ytkjhfbgdmmnadaa
open Go.RowKit

set_option maxRecDepth 100000 in
set_option maxHeartbeats 2000000 in
theorem alpha31_any (t u : T) (A : Option Addr) (c : Nat) (A' : Option Addr) (c' : Nat) (w : World) (hv : TV w w.heap.size t A c) (hv' : TV w w.heap.size u A' c') (hs : SA t) (hs' : SA u) :
    Calls Try.prog 31 #[.agg (tv t A c), .agg (tv u A' c')] w fun e w' => e = .returned (.bool (alpB t u)) ∧ Below w.heap.size w w' := by
  have hb1 : Below w.heap.size w (w.alloc (.cells (tv t A c) 24)) := (Below.refl _ _).alloc (Nat.le_refl _) _
  have hb0 : Below w.heap.size w ((w.alloc (.cells (tv t A c) 24)).alloc (.cells (tv u A' c') 24)) := hb1.alloc (by simp) _
  have HB0 := Lib.hid hb0
  have HV := Lib.hid fun w' (hb : Below w.heap.size w w') => hv.reach hb
  have HV' := Lib.hid fun w' (hb : Below w.heap.size w w') => hv'.reach hb
  have hs1 : (w.alloc (.cells (tv t A c) 24)).heap.size = w.heap.size + 1 := by simp
  have hbx' := bxd_new (w.alloc (.cells (tv t A c) 24)) u A' c'
  rw [hs1] at hbx'
  have HBX := Lib.hid (And.intro ((bxd_new w t A c).below ((Below.refl (w.alloc (.cells (tv t A c) 24)).heap.size _).alloc (Nat.le_refl _) (.cells (tv u A' c') 24)) (by simp)) hbx')
  have hls : w.heap.size + 1 < ((w.alloc (.cells (tv t A c) 24)).alloc (.cells (tv u A' c') 24)).heap.size := by simp
  have HTV : Hid (tv t A c = #[.int .i64 t.kind, .string ⟨t.name.toArray⟩, .string ⟨t.var.toArray⟩, .slice A t.args.length c, .string ⟨t.form.toArray⟩]) := rfl
  have HE : Hid (alpB t u = (validB t && validB u && alp [] [] t u)) := rfl
  have HS := Lib.hid hs
  have HS' := Lib.hid hs'
  have HZ1 : Hid (validB t = true → t.size ≤ 1000) := fun h => ((valid_iff t).1 h).2
  clear hb0 hb1 hv hv' hbx' hs1 hs hs'
  go_enter Try.func31, Try.ntmps31
  go_upto_region 1 with (fail)
  obtain ⟨w0, hw0⟩ : ∃ w0, w0 = (w.alloc (.cells (tv t A c) 24)).alloc (.cells (tv u A' c') 24) := ⟨_, rfl⟩
  rw [← hw0] at HB0 HBX hls ⊢
  clear hw0
  have HF1 := Lib.hid (rvalid_any t A c w0 (HV.out _ HB0.out) HS.out)
  unfold tv at HF1
  obtain ⟨⟨k0, k1, k2, k3, k4⟩, ⟨j0, j1, j2, j3, j4⟩⟩ := HBX.out
  go_wp2_with fail
  refine HF1.out.mono ?_
  rintro e w2 ⟨rfl, hb2⟩
  have HB2 := Lib.hid (HB0.out.trans (hb2.mono HB0.out.size))
  have HBX2 := Lib.hid (And.intro (HBX.out.1.below hb2 (by omega)) (HBX.out.2.below hb2 hls))
  have hls2 : w.heap.size + 1 < w2.heap.size := by have := hb2.size; omega
  have HF2 := Lib.hid (rvalid_any u A' c' w2 (HV'.out _ HB2.out) HS'.out)
  clear hb2 HB0 HBX hls HF1 k0 k1 k2 k3 k4 j0 j1 j2 j3 j4
  unfold tv at HF2
  obtain ⟨⟨k0, k1, k2, k3, k4⟩, ⟨j0, j1, j2, j3, j4⟩⟩ := HBX2.out
  cases h1 : validB t with
  | false =>
    have HZ : Hid (alpB t u = false) := HE.out.trans (by rw [h1]; rfl)
    clear h1 HE HZ1
    go_wp2_with fail
    go_ret
    rw [HZ.out]
    exact ⟨rfl, HB2.out⟩
  | true =>
    have HE2 : Hid (alpB t u = (validB u && alp [] [] t u)) := HE.out.trans (by rw [h1]; rfl)
    have hz := HZ1.out h1
    clear h1 HE HZ1
    go_wp2_with fail
    refine HF2.out.mono ?_
    rintro e w3 ⟨rfl, hb3⟩
    have HB3 := Lib.hid (HB2.out.trans (hb3.mono HB2.out.size))
    have HBX3 := Lib.hid (And.intro (HBX2.out.1.below hb3 (by omega)) (HBX2.out.2.below hb3 hls2))
    have hls3 : w.heap.size + 1 < w3.heap.size := by have := hb3.size; omega
    have HF3 := Lib.hid (alike_aux t.size t u (Nat.le_refl _) [] [] (.slice none 0 0) (.slice none 0 0) A c A' c' w3 (HV.out _ HB3.out) (HV'.out _ HB3.out) (bn_nil _) (bn_nil _) rfl (by simp; omega))
    clear hb3 HB2 HBX2 hls2 HF2 k0 k1 k2 k3 k4 j0 j1 j2 j3 j4
    unfold tv at HF3
    obtain ⟨⟨k0, k1, k2, k3, k4⟩, ⟨j0, j1, j2, j3, j4⟩⟩ := HBX3.out
    cases h2 : validB u with
    | false =>
      have HZ : Hid (alpB t u = false) := HE2.out.trans (by rw [h2]; rfl)
      clear h2 HE2
      go_wp2_with fail
      go_ret
      rw [HZ.out]
      exact ⟨rfl, HB3.out⟩
    | true =>
      have HZ : Hid (alpB t u = alp [] [] t u) := HE2.out.trans (by rw [h2]; rfl)
      clear h2 HE2
      go_wp2_with fail
      refine HF3.out.mono ?_
      rintro e w4 ⟨rfl, hb4⟩
      have HB4 := Lib.hid (HB3.out.trans (hb4.mono HB3.out.size))
      clear hb4 k0 k1 k2 k3 k4 j0 j1 j2 j3 j4
      go_wp2_with fail
      go_ret
      rw [HZ.out]
      exact ⟨rfl, HB4.out⟩

set_option maxRecDepth 100000 in
set_option maxHeartbeats 4000000 in
theorem alpha_walk (t : T) (A : Option Addr) (c : Nat) (u : T) (A' : Option Addr) (c' : Nat) (w : World) (hv : TV w w.heap.size t A c) (hv' : TV w w.heap.size u A' c') (hm : Max w) :
    Calls Try.prog 7 #[.agg (tv t A c), .agg (tv u A' c')] w fun e w' => e = .returned (.bool true) ∧ Below w.heap.size w w' := by
  have hb1 : Below w.heap.size w (w.alloc (.cells (tv t A c) 24)) := (Below.refl _ _).alloc (Nat.le_refl _) _
  have hb0 : Below w.heap.size w ((w.alloc (.cells (tv t A c) 24)).alloc (.cells (tv u A' c') 24)) := hb1.alloc (by simp) _
  have HB0 := Lib.hid hb0
  have HV := Lib.hid fun w' (hb : Below w.heap.size w w') => hv.reach hb
  have HV' := Lib.hid fun w' (hb : Below w.heap.size w w') => hv'.reach hb
  have HM := Lib.hid fun w' (hb : Below w.heap.size w w') => hm.reach hb
  have hs1 : (w.alloc (.cells (tv t A c) 24)).heap.size = w.heap.size + 1 := by simp
  have hbx' := bxd_new (w.alloc (.cells (tv t A c) 24)) u A' c'
  rw [hs1] at hbx'
  have HBX := Lib.hid (And.intro ((bxd_new w t A c).below ((Below.refl (w.alloc (.cells (tv t A c) 24)).heap.size _).alloc (Nat.le_refl _) (.cells (tv u A' c') 24)) (by simp)) hbx')
  have hls : w.heap.size + 1 < ((w.alloc (.cells (tv t A c) 24)).alloc (.cells (tv u A' c') 24)).heap.size := by simp
  have HS1 := Lib.hid hs1
  have HTV : Hid (tv t A c = #[.int .i64 t.kind, .string ⟨t.name.toArray⟩, .string ⟨t.var.toArray⟩, .slice A t.args.length c, .string ⟨t.form.toArray⟩]) := rfl
  have HTV' : Hid (tv u A' c' = #[.int .i64 u.kind, .string ⟨u.name.toArray⟩, .string ⟨u.var.toArray⟩, .slice A' u.args.length c', .string ⟨u.form.toArray⟩]) := rfl
  clear hb0 hb1 hv hv' hm hbx' hs1
  go_enter Try.func7, Try.ntmps7
  go_wp2_with fail
  obtain ⟨w0, hw0⟩ : ∃ w0, w0 = (w.alloc (.cells (tv t A c) 24)).alloc (.cells (tv u A' c') 24) := ⟨_, rfl⟩
  rw [← hw0] at HB0 HBX hls ⊢
  clear hw0
  refine (awake11_any _ (HM.out _ HB0.out)).mono ?_
  rintro e w1 ⟨rfl, hb1⟩
  have HB1 := Lib.hid (HB0.out.trans (hb1.mono HB0.out.size))
  have HBX1 := Lib.hid (And.intro (HBX.out.1.below hb1 (by omega)) (HBX.out.2.below hb1 hls))
  have hls1 : w.heap.size + 1 < w1.heap.size := by have := hb1.size; omega
  have HF1 := Lib.hid (few_any t A c w1 (HV.out _ HB1.out))
  clear hb1 HB0 HBX hls
  unfold tv at HF1
  obtain ⟨⟨k0, k1, k2, k3, k4⟩, ⟨j0, j1, j2, j3, j4⟩⟩ := HBX1.out
  go_wp2_with fail
  refine HF1.out.mono ?_
  rintro e w2 ⟨rfl, hb2⟩
  have HB2 := Lib.hid (HB1.out.trans (hb2.mono HB1.out.size))
  have HBX2 := Lib.hid (And.intro (HBX1.out.1.below hb2 (by omega)) (HBX1.out.2.below hb2 hls1))
  have hls2 : w.heap.size + 1 < w2.heap.size := by have := hb2.size; omega
  have HF2 := Lib.hid (few_any u A' c' w2 (HV'.out _ HB2.out))
  clear hb2 HB1 HBX1 hls1 HF1 k0 k1 k2 k3 k4 j0 j1 j2 j3 j4
  unfold tv at HF2
  obtain ⟨⟨k0, k1, k2, k3, k4⟩, ⟨j0, j1, j2, j3, j4⟩⟩ := HBX2.out
  cases hfe : fewB t with
  | false =>
    clear hfe
    go_wp2_with fail
    go_ret
    exact ⟨rfl, HB2.out⟩
  | true =>
    have HFT := Lib.hid hfe
    clear hfe
    go_wp2_with fail
    refine HF2.out.mono ?_
    rintro e w3 ⟨rfl, hb3⟩
    have HB3 := Lib.hid (HB2.out.trans (hb3.mono HB2.out.size))
    have HBX3 := Lib.hid (And.intro (HBX2.out.1.below hb3 (by omega)) (HBX2.out.2.below hb3 hls2))
    have hls3 : w.heap.size + 1 < w3.heap.size := by have := hb3.size; omega
    clear hb3 HB2 HBX2 hls2 HF2 k0 k1 k2 k3 k4 j0 j1 j2 j3 j4
    cases hfe : fewB u with
    | false =>
      clear hfe
      go_wp2_with fail
      go_ret
      exact ⟨rfl, HB3.out⟩
    | true =>
      have HST := Lib.hid (few_SA' HFT.out)
      have HSU := Lib.hid (few_SA' hfe)
      clear hfe
      have HR := Lib.hid fun d os => HB3.out.trans ((below_regrown w3 d os).mono HB3.out.size)
      have c1 := Lib.hid fun d os => Calls.regrown_of (alpha30_any t u A c A' c' (Sort.grow (redrawn w3 d) os) (HV.out _ (HR.out d os)) (HV'.out _ (HR.out d os)) HST.out HSU.out (HM.out _ (HR.out d os)))
      have c2 := Lib.hid fun d os => Calls.regrown_of (alpha31_any t u A c A' c' (Sort.grow (redrawn w3 d) os) (HV.out _ (HR.out d os)) (HV'.out _ (HR.out d os)) HST.out HSU.out)
      have c3 := Lib.hid fun d os => Calls.regrown_of (alpha30_any u t A' c' A c (Sort.grow (redrawn w3 d) os) (HV'.out _ (HR.out d os)) (HV.out _ (HR.out d os)) HSU.out HST.out (HM.out _ (HR.out d os)))
      have c4 := Lib.hid fun d os => Calls.regrown_of (alpha30_any t t A c A c (Sort.grow (redrawn w3 d) os) (HV.out _ (HR.out d os)) (HV.out _ (HR.out d os)) HST.out HST.out (HM.out _ (HR.out d os)))
      have c5 := Lib.hid fun d os => Calls.regrown_of (rvalid_any t A c (Sort.grow (redrawn w3 d) os) (HV.out _ (HR.out d os)) HST.out)
      have hself := alpB_self t
      have hsymm := alpB_symm u t
      simp only [hself, hsymm] at c3 c4
      unfold tv at c1 c2 c3 c4 c5
      clear hself hsymm
      generalize validB t = vb at *
      generalize alpB t u = eb at *
      obtain ⟨⟨k0, k1, k2, k3, k4⟩, ⟨j0, j1, j2, j3, j4⟩⟩ := HBX3.out
      have e0 := fun d os => cell_regrown k0 d os
      have e1 := fun d os => cell_regrown k1 d os
      have e2 := fun d os => cell_regrown k2 d os
      have e3 := fun d os => cell_regrown k3 d os
      have e4 := fun d os => cell_regrown k4 d os
      have g0 := fun d os => cell_regrown j0 d os
      have g1 := fun d os => cell_regrown j1 d os
      have g2 := fun d os => cell_regrown j2 d os
      have g3 := fun d os => cell_regrown j3 d os
      have g4 := fun d os => cell_regrown j4 d os
      go_wp2_with fail
      refine wp_region_quiet_below (by kernel_rfl) (by kernel_rfl) ?_
      repeat (first
        | go_big_quiet_step (first | with_reducible exact c1.out _ _ | with_reducible exact c2.out _ _ | with_reducible exact c3.out _ _ | with_reducible exact c4.out _ _ | with_reducible exact c5.out _ _)
        | quiet_step (first | with_reducible exact c1.out _ _ | with_reducible exact c2.out _ _ | with_reducible exact c3.out _ _ | with_reducible exact c4.out _ _ | with_reducible exact c5.out _ _))
      refine wpQuiet_nil ?_
      intro _ hw'
      obtain ⟨⟨dq, osq⟩, hw''⟩ := hw'
      subst hw''
      have HB4 := Lib.hid (HR.out dq osq)
      clear e0 e1 e2 e3 e4 g0 g1 g2 g3 g4 k0 k1 k2 k3 k4 j0 j1 j2 j3 j4
      generalize Sort.grow (redrawn w3 dq) osq = w4 at *
      go_wp2_with fail
      go_ret
      exact ⟨rfl, HB4.out⟩
end Go.Proofs.Ytkjhfbgdmmnadaa
