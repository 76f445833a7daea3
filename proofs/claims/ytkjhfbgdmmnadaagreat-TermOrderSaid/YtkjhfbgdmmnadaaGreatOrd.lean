/- The walk of TermOrder. -/
import Derived.Test.YtkjhfbgdmmnadaaGreatRsp
import Derived.Test.YtkjhfbgdmmnadaaGreatOpz
import Derived.Lib.QuietBelow
import Derived.BigQuiet
namespace Go.Proofs.YtkjhfbgdmmnadaaGreat
open Go.RowKit

theorem sb_ok {t b : T} {x : W8} (h : (sbT t x b).2 = 0) : validB t = true ∧ validB b = true ∧ validB (subT t x b) = true ∧ (sbT t x b).1 = subT t x b := by
  unfold sbT at h ⊢
  by_cases ho : okSub t x b = true
  · rw [if_pos ho] at h ⊢
    by_cases hv : validB (subT t x b) = true
    · rw [if_pos hv]
      unfold okSub at ho
      simp only [Bool.and_eq_true] at ho
      exact ⟨ho.1.1, ho.1.2, hv, rfl⟩
    · rw [if_neg hv] at h; exact absurd h (by decide)
  · rw [if_neg ho] at h; exact absurd h (by decide)
/-- the two orders of two substitutions -/
theorem order_eq {t a b : T} {x y : W8} (hxy : x ≠ y) (hx : hasB (freeL b) x = false) (h1 : (sbT t x a).2 = 0) (h2 : (sbT (sbT t x a).1 y b).2 = 0) (h3 : (sbT t y b).2 = 0) (h4 : (sbT a y b).2 = 0)
    (h5 : (sbT (sbT t y b).1 x (sbT a y b).1).2 = 0) : alpB (sbT (sbT t x a).1 y b).1 (sbT (sbT t y b).1 x (sbT a y b).1).1 = true := by
  obtain ⟨ht, ha, e1, q1⟩ := sb_ok h1
  obtain ⟨_, hb, e3, q3⟩ := sb_ok h3
  obtain ⟨_, _, e4, q4⟩ := sb_ok h4
  rw [q1] at h2 ⊢
  rw [q3, q4] at h5 ⊢
  obtain ⟨_, _, e2, q2⟩ := sb_ok h2
  obtain ⟨_, _, e5, q5⟩ := sb_ok h5
  rw [q2, q5]
  refine alpB_of e2 e5 (order_sem t a b x y hxy (fun hm => ?_) ht ha hb e1 e3 e4)
  have e : freeL b = frL b := if_pos hb
  rw [e] at hx
  unfold hasB at hx
  simp [hm] at hx
def TwC (w' : World) (k : Nat) (a : T) (A : Option Addr) (c : Nat) (b : T) (A' : Option Addr) (c' : Nat) (x y : W8) : Prop := w'.cell? ⟨k, 0, none⟩ = some (.int .i64 a.kind) ∧ w'.cell? ⟨k, 1, none⟩ = some (.string ⟨a.name.toArray⟩) ∧ w'.cell? ⟨k, 2, none⟩ = some (.string ⟨a.var.toArray⟩) ∧ w'.cell? ⟨k, 3, none⟩ = some (.slice A a.args.length c) ∧ w'.cell? ⟨k, 4, none⟩ = some (.string ⟨a.form.toArray⟩) ∧ w'.cell? ⟨k, 5, none⟩ = some (.int .i64 b.kind) ∧ w'.cell? ⟨k, 6, none⟩ = some (.string ⟨b.name.toArray⟩) ∧ w'.cell? ⟨k, 7, none⟩ = some (.string ⟨b.var.toArray⟩) ∧ w'.cell? ⟨k, 8, none⟩ = some (.slice A' b.args.length c') ∧ w'.cell? ⟨k, 9, none⟩ = some (.string ⟨b.form.toArray⟩) ∧ w'.cell? ⟨k, 10, none⟩ = some (.string ⟨x.toArray⟩) ∧ w'.cell? ⟨k, 11, none⟩ = some (.string ⟨y.toArray⟩)
theorem twc_of {w : World} {k : Nat} {a : T} {A : Option Addr} {c : Nat} {b : T} {A' : Option Addr} {c' : Nat} {x y : W8} (h : w.heap[k]? = some (.cells (tw a A c b A' c' x y) 39 (0, 0))) : TwC w k a A c b A' c' x y := by
  refine ⟨?_, ?_, ?_, ?_, ?_, ?_, ?_, ?_, ?_, ?_, ?_, ?_⟩ <;> simp [World.cell?, h, tw]

set_option maxRecDepth 100000 in
set_option maxHeartbeats 1500000 in
theorem ord_walk (t : T) (A0 : Option Addr) (c0 : Nat) (a : T) (A : Option Addr) (c : Nat) (b : T) (A' : Option Addr) (c' : Nat) (x y : W8) (w : World) (hv : TV w w.heap.size t A0 c0) (hva : TV w w.heap.size a A c) (hvb : TV w w.heap.size b A' c') (hm : Max w) :
    Calls Tryz.prog 4 #[.agg (tv t A0 c0), .agg (tw a A c b A' c' x y)] w fun e w' => e = .returned (.bool true) ∧ Below w.heap.size w w' := by
  have hb1 : Below w.heap.size w (w.alloc (.cells (tv t A0 c0) 24)) := (Below.refl _ _).alloc (Nat.le_refl _) _
  have hb0 : Below w.heap.size w ((w.alloc (.cells (tv t A0 c0) 24)).alloc (.cells (tw a A c b A' c' x y) 39)) := hb1.alloc (by simp) _
  have hk0 := (Bk.new' w t A0 c0).reach ((Below.refl _ _).alloc (Nat.le_refl _) (.cells (tw a A c b A' c' x y) 39))
  have hq0 := blk_new (w.alloc (.cells (tv t A0 c0) 24)) (.cells (tw a A c b A' c' x y) 39)
  rw [World.size_alloc] at hq0
  have hz0 : w.heap.size + 1 < ((w.alloc (.cells (tv t A0 c0) 24)).alloc (.cells (tw a A c b A' c' x y) 39)).heap.size := by simp
  have HB0 := Lib.hid hb0
  have HK0 := Lib.hid hk0
  have HQ0 := Lib.hid hq0
  have HZ0 := Lib.hid hz0
  have HV := Lib.hid fun w' (hb : Below w.heap.size w w') => hv.reach hb
  have HVA := Lib.hid fun w' (hb : Below w.heap.size w w') => hva.reach hb
  have HVB := Lib.hid fun w' (hb : Below w.heap.size w w') => hvb.reach hb
  have HM := Lib.hid fun w' (hb : Below w.heap.size w w') => hm.reach hb
  clear hb1 hb0 hk0 hq0 hz0 hv hva hvb hm
  go_enter Tryz.func4, Tryz.ntmps4
  go_wp2_with fail
  obtain ⟨w0, hw0⟩ : ∃ w0, w0 = (w.alloc (.cells (tv t A0 c0) 24)).alloc (.cells (tw a A c b A' c' x y) 39) := ⟨_, rfl⟩
  rw [← hw0] at HB0 HK0 HQ0 HZ0 ⊢
  clear hw0
  refine (awake11_any _ (HM.out _ HB0.out)).mono ?_
  rintro e w1 ⟨rfl, hb1⟩
  have HB01 := Lib.hid hb1
  have HB1 := Lib.hid (HB0.out.trans (hb1.mono HB0.out.size))
  have HK := Lib.hid fun w' (hb : Below w1.heap.size w1 w') => (HK0.out.reach (HB01.out.trans (hb.mono HB01.out.size))).cells.1
  have HQ : Hid (∀ w', Below w1.heap.size w1 w' → TwC w' (w.heap.size + 1) a A c b A' c' x y) := fun w' (hb : Below w1.heap.size w1 w') => twc_of (((HB01.out.trans (hb.mono HB01.out.size)).block _ HZ0.out).trans HQ0.out)
  have HKP := Lib.hid fun w' (hb : Below w1.heap.size w1 w') => And.intro (HK.out w' hb) (HQ.out w' hb)
  clear hb1 HB0 HK0 HQ0 HZ0 HB01
  have HBW := Lib.hid fun w' (hb : Below w1.heap.size w1 w') => HB1.out.trans (hb.mono HB1.out.size)
  have HF1 := Lib.hid fun w' (hb : Below w1.heap.size w1 w') => few_any t A0 c0 w' (HV.out _ (HBW.out _ hb))
  have HF2 := Lib.hid fun w' (hb : Below w1.heap.size w1 w') => few_any a A c w' (HVA.out _ (HBW.out _ hb))
  have HF3 := Lib.hid fun w' (hb : Below w1.heap.size w1 w') => few_any b A' c' w' (HVB.out _ (HBW.out _ hb))
  have HF4 := Lib.hid fun w' (hb : Below w1.heap.size w1 w') (hs : SA b) => free21_any b A' c' w' (HVB.out _ (HBW.out _ hb)) hs
  unfold tv at HF1 HF2 HF3 HF4
  have HLF : Hid ((fewB t = true → SA t) ∧ (fewB a = true → SA a) ∧ (fewB b = true → SA b)) := ⟨few_SA', few_SA', few_SA'⟩
  unfold TwC at HKP HQ
  go_upto_region 3 with (fail)
  go_cut [58] (fun s58 wx => s58 = .bool (!fewB t || (!fewB a || (!fewB b || (decide (100 < x.length) || (decide (100 < y.length) || (decide (x = y) || hasB (freeL b) x)))))) ∧ Aside (Below w1.heap.size w1 wx))
  case first =>
    obtain ⟨⟨k0, k1, k2, k3, k4⟩, m0, m1, m2, m3, m4, n0, n1, n2, n3, n4, s1, s2⟩ := HKP.out w1 (Below.refl _ _)
    have y0 := fun d os => cell_regrown k0 d os
    have y1 := fun d os => cell_regrown k1 d os
    have y2 := fun d os => cell_regrown k2 d os
    have y3 := fun d os => cell_regrown k3 d os
    have y4 := fun d os => cell_regrown k4 d os
    have y5 := fun d os => cell_regrown m0 d os
    have y6 := fun d os => cell_regrown m1 d os
    have y7 := fun d os => cell_regrown m2 d os
    have y8 := fun d os => cell_regrown m3 d os
    have y9 := fun d os => cell_regrown m4 d os
    have y10 := fun d os => cell_regrown n0 d os
    have y11 := fun d os => cell_regrown n1 d os
    have y12 := fun d os => cell_regrown n2 d os
    have y13 := fun d os => cell_regrown n3 d os
    have y14 := fun d os => cell_regrown n4 d os
    have y15 := fun d os => cell_regrown s1 d os
    have y16 := fun d os => cell_regrown s2 d os
    clear k0 k1 k2 k3 k4 m0 m1 m2 m3 m4 n0 n1 n2 n3 n4 s1 s2
    have C1 := Lib.hid fun d os => Calls.regrown_of (HF1.out (Sort.grow (redrawn w1 d) os) (below_regrown w1 d os))
    have C2 := Lib.hid fun d os => Calls.regrown_of (HF2.out (Sort.grow (redrawn w1 d) os) (below_regrown w1 d os))
    have C3 := Lib.hid fun d os => Calls.regrown_of (HF3.out (Sort.grow (redrawn w1 d) os) (below_regrown w1 d os))
    cases h1 : fewB t with
    | false =>
      have HP := Lib.hid h1
      rw [h1] at HF1 C1
      clear h1 HLF
      refine wp_region_quiet_below (by kernel_rfl) (by kernel_rfl) ?_
      repeat (first | go_big_quiet_step (first | (with_reducible exact C1.out _ _) | (with_reducible exact C2.out _ _) | (with_reducible exact C3.out _ _)) | quiet_step (first | (with_reducible exact C1.out _ _) | (with_reducible exact C2.out _ _) | (with_reducible exact C3.out _ _)))
      refine wpQuiet_nil ?_
      intro _ hw'
      obtain ⟨⟨dq, osq⟩, hw''⟩ := hw'
      subst hw''
      have HBq : Hid (Below w1.heap.size w1 (Sort.grow (redrawn w1 dq) osq)) := below_regrown w1 dq osq
      clear y0 y1 y2 y3 y4 y5 y6 y7 y8 y9 y10 y11 y12 y13 y14 y15 y16
      generalize Sort.grow (redrawn w1 dq) osq = wq at *
      go_wp2_with fail
      go_meet
      case rel => exact ⟨by simp [HP.out], HBq.out⟩
    | true =>
      rw [h1] at HF1 C1
      cases h2 : fewB a with
      | false =>
        have HP := Lib.hid h2
        rw [h2] at HF2 C2
        clear h1 h2 HLF
        refine wp_region_quiet_below (by kernel_rfl) (by kernel_rfl) ?_
        repeat (first | go_big_quiet_step (first | (with_reducible exact C1.out _ _) | (with_reducible exact C2.out _ _) | (with_reducible exact C3.out _ _)) | quiet_step (first | (with_reducible exact C1.out _ _) | (with_reducible exact C2.out _ _) | (with_reducible exact C3.out _ _)))
        refine wpQuiet_nil ?_
        intro _ hw'
        obtain ⟨⟨dq, osq⟩, hw''⟩ := hw'
        subst hw''
        have HBq : Hid (Below w1.heap.size w1 (Sort.grow (redrawn w1 dq) osq)) := below_regrown w1 dq osq
        clear y0 y1 y2 y3 y4 y5 y6 y7 y8 y9 y10 y11 y12 y13 y14 y15 y16
        generalize Sort.grow (redrawn w1 dq) osq = wq at *
        go_wp2_with fail
        go_meet
        case rel => exact ⟨by simp [HP.out], HBq.out⟩
      | true =>
        rw [h2] at HF2 C2
        cases h3 : fewB b with
        | false =>
          have HP := Lib.hid h3
          rw [h3] at HF3 C3
          clear h1 h2 h3 HLF
          refine wp_region_quiet_below (by kernel_rfl) (by kernel_rfl) ?_
          repeat (first | go_big_quiet_step (first | (with_reducible exact C1.out _ _) | (with_reducible exact C2.out _ _) | (with_reducible exact C3.out _ _)) | quiet_step (first | (with_reducible exact C1.out _ _) | (with_reducible exact C2.out _ _) | (with_reducible exact C3.out _ _)))
          refine wpQuiet_nil ?_
          intro _ hw'
          obtain ⟨⟨dq, osq⟩, hw''⟩ := hw'
          subst hw''
          have HBq : Hid (Below w1.heap.size w1 (Sort.grow (redrawn w1 dq) osq)) := below_regrown w1 dq osq
          clear y0 y1 y2 y3 y4 y5 y6 y7 y8 y9 y10 y11 y12 y13 y14 y15 y16
          generalize Sort.grow (redrawn w1 dq) osq = wq at *
          go_wp2_with fail
          go_meet
          case rel => exact ⟨by simp [HP.out], HBq.out⟩
        | true =>
          rw [h3] at HF3 C3
          have HLF := Lib.hid (HLF.out.2.2 h3)
          have HTR := Lib.hid (And.intro h1 (And.intro h2 h3))
          clear h1 h2 h3
          by_cases h4 : 100 < x.length
          · have h4z : (100 : Int) < (x.length : Int) := by omega
            have HP : Hid (decide (100 < x.length) = true) := decide_eq_true h4
            clear h4
            refine wp_region_quiet_below (by kernel_rfl) (by kernel_rfl) ?_
            repeat (first | go_big_quiet_step (first | (with_reducible exact C1.out _ _) | (with_reducible exact C2.out _ _) | (with_reducible exact C3.out _ _)) | quiet_step (first | (with_reducible exact C1.out _ _) | (with_reducible exact C2.out _ _) | (with_reducible exact C3.out _ _)))
            refine wpQuiet_nil ?_
            intro _ hw'
            obtain ⟨⟨dq, osq⟩, hw''⟩ := hw'
            subst hw''
            have HBq : Hid (Below w1.heap.size w1 (Sort.grow (redrawn w1 dq) osq)) := below_regrown w1 dq osq
            clear y0 y1 y2 y3 y4 y5 y6 y7 y8 y9 y10 y11 y12 y13 y14 y15 y16
            generalize Sort.grow (redrawn w1 dq) osq = wq at *
            go_wp2_with fail
            go_meet
            case rel => exact ⟨by rw [HP.out]; simp, HBq.out⟩
          · have h4z : ¬ (100 : Int) < (x.length : Int) := by omega
            have HP4 : Hid (decide (100 < x.length) = false) := decide_eq_false h4
            clear h4
            by_cases h5 : 100 < y.length
            · have h5z : (100 : Int) < (y.length : Int) := by omega
              have HP : Hid (decide (100 < y.length) = true) := decide_eq_true h5
              clear h5
              refine wp_region_quiet_below (by kernel_rfl) (by kernel_rfl) ?_
              repeat (first | go_big_quiet_step (first | (with_reducible exact C1.out _ _) | (with_reducible exact C2.out _ _) | (with_reducible exact C3.out _ _)) | quiet_step (first | (with_reducible exact C1.out _ _) | (with_reducible exact C2.out _ _) | (with_reducible exact C3.out _ _)))
              refine wpQuiet_nil ?_
              intro _ hw'
              obtain ⟨⟨dq, osq⟩, hw''⟩ := hw'
              subst hw''
              have HBq : Hid (Below w1.heap.size w1 (Sort.grow (redrawn w1 dq) osq)) := below_regrown w1 dq osq
              clear y0 y1 y2 y3 y4 y5 y6 y7 y8 y9 y10 y11 y12 y13 y14 y15 y16
              generalize Sort.grow (redrawn w1 dq) osq = wq at *
              go_wp2_with fail
              go_meet
              case rel => exact ⟨by rw [HP.out]; simp, HBq.out⟩
            · have h5z : ¬ (100 : Int) < (y.length : Int) := by omega
              have HP5 : Hid (decide (100 < y.length) = false) := decide_eq_false h5
              clear h5
              by_cases h6 : x = y
              · have h6z : (x == y) = true := by simpa using h6
                have HP : Hid (decide (x = y) = true) := decide_eq_true h6
                clear h6
                refine wp_region_quiet_below (by kernel_rfl) (by kernel_rfl) ?_
                repeat (first | go_big_quiet_step (first | (with_reducible exact C1.out _ _) | (with_reducible exact C2.out _ _) | (with_reducible exact C3.out _ _)) | quiet_step (first | (with_reducible exact C1.out _ _) | (with_reducible exact C2.out _ _) | (with_reducible exact C3.out _ _)))
                refine wpQuiet_nil ?_
                intro _ hw'
                obtain ⟨⟨dq, osq⟩, hw''⟩ := hw'
                subst hw''
                have HBq : Hid (Below w1.heap.size w1 (Sort.grow (redrawn w1 dq) osq)) := below_regrown w1 dq osq
                clear y0 y1 y2 y3 y4 y5 y6 y7 y8 y9 y10 y11 y12 y13 y14 y15 y16
                generalize Sort.grow (redrawn w1 dq) osq = wq at *
                go_wp2_with fail
                go_meet
                case rel => exact ⟨by rw [HP.out]; simp, HBq.out⟩
              · have h6z : (x == y) = false := by simpa using h6
                have HP6 : Hid (decide (x = y) = false) := decide_eq_false h6
                clear h6
                have hd4 : decide ((100 : Int) < (x.length : Int)) = false := decide_eq_false h4z
                have hd5 : decide ((100 : Int) < (y.length : Int)) = false := decide_eq_false h5z
                clear C1 C2 C3 y0 y1 y2 y3 y4 y5 y6 y7 y8 y9 y10 y11 y12 y13 y14 y15 y16
                refine wp_region_noPanic ?_
                go_region_held_law (fun w' => (w'.cell? ⟨w.heap.size, 0, none⟩ = some (.int .i64 t.kind) ∧ w'.cell? ⟨w.heap.size, 1, none⟩ = some (.string ⟨t.name.toArray⟩) ∧ w'.cell? ⟨w.heap.size, 2, none⟩ = some (.string ⟨t.var.toArray⟩) ∧ w'.cell? ⟨w.heap.size, 3, none⟩ = some (.slice A0 t.args.length c0) ∧ w'.cell? ⟨w.heap.size, 4, none⟩ = some (.string ⟨t.form.toArray⟩)) ∧ (w'.cell? ⟨w.heap.size + 1, 0, none⟩ = some (.int .i64 a.kind) ∧ w'.cell? ⟨w.heap.size + 1, 1, none⟩ = some (.string ⟨a.name.toArray⟩) ∧ w'.cell? ⟨w.heap.size + 1, 2, none⟩ = some (.string ⟨a.var.toArray⟩) ∧ w'.cell? ⟨w.heap.size + 1, 3, none⟩ = some (.slice A a.args.length c) ∧ w'.cell? ⟨w.heap.size + 1, 4, none⟩ = some (.string ⟨a.form.toArray⟩) ∧ w'.cell? ⟨w.heap.size + 1, 5, none⟩ = some (.int .i64 b.kind) ∧ w'.cell? ⟨w.heap.size + 1, 6, none⟩ = some (.string ⟨b.name.toArray⟩) ∧ w'.cell? ⟨w.heap.size + 1, 7, none⟩ = some (.string ⟨b.var.toArray⟩) ∧ w'.cell? ⟨w.heap.size + 1, 8, none⟩ = some (.slice A' b.args.length c') ∧ w'.cell? ⟨w.heap.size + 1, 9, none⟩ = some (.string ⟨b.form.toArray⟩) ∧ w'.cell? ⟨w.heap.size + 1, 10, none⟩ = some (.string ⟨x.toArray⟩) ∧ w'.cell? ⟨w.heap.size + 1, 11, none⟩ = some (.string ⟨y.toArray⟩))) (first | exact HKP.out _ (below_dr (Below.refl w1.heap.size w1)) | exact HKP.out _ HBf4.out | exact HKP.out _ HBa3.out | exact HKP.out _ HBa2.out | exact HKP.out _ HBa1.out) (first | (go_at_call 6; first | ((with_reducible refine (HF1.out _ (below_dr (Below.refl w1.heap.size w1))).mono ?_); rintro e wa1 ⟨rfl, hba⟩; have HBa1 := Lib.hid (((below_dr (Below.refl w1.heap.size w1))).trans (hba.mono ((below_dr (Below.refl w1.heap.size w1))).size)); clear hba) | ((with_reducible refine (HF2.out _ (HBa1.out)).mono ?_); rintro e wa2 ⟨rfl, hba⟩; have HBa2 := Lib.hid (((HBa1.out)).trans (hba.mono ((HBa1.out)).size)); clear hba) | ((with_reducible refine (HF3.out _ (HBa2.out)).mono ?_); rintro e wa3 ⟨rfl, hba⟩; have HBa3 := Lib.hid (((HBa2.out)).trans (hba.mono ((HBa2.out)).size)); clear hba)) | (go_at_call 13; (with_reducible refine (HF4.out _ HBa3.out HLF.out).mono ?_); rintro e wa4 ⟨va4, rfl, hsa, hba⟩; have HSa4 := Lib.hid hsa; have HBf4 := Lib.hid (HBa3.out.trans (hba.mono HBa3.out.size)); clear hsa hba) | (go_at_call 12; (with_reducible refine (has35_any _ va4 (freeL b) x _ HSa4.out).mono ?_); rintro e wa5 ⟨rfl, rfl⟩))
                all_goals
                  refine NoPanic.normal ?_
                  go_wp2_with fail
                  go_meet
                  case rel => exact ⟨by simp [HTR.out.1, HTR.out.2.1, HTR.out.2.2, HP4.out, HP5.out, HP6.out], HBf4.out⟩
  case rest =>
    obtain ⟨rfl, HB0⟩ := hcut
    clear HF1 HF2 HF3 HF4
    cases hsk : (!fewB t || (!fewB a || (!fewB b || (decide (100 < x.length) || (decide (100 < y.length) || (decide (x = y) || hasB (freeL b) x)))))) with
    | true =>
      clear hsk
      go_wp2_with fail
      go_ret
      exact ⟨rfl, HBW.out _ HB0.out⟩
    | false =>
      simp only [Bool.or_eq_false_iff, Bool.not_eq_false', decide_eq_false_iff_not] at hsk
      obtain ⟨q1, q2, q3, q4, q5, q6, q7⟩ := hsk
      have HSt := Lib.hid (few_SA' q1)
      have HSa := Lib.hid (few_SA' q2)
      have HSb := Lib.hid (few_SA' q3)
      have hxl : x.length ≤ 1000 := by omega
      have hyl : y.length ≤ 1000 := by omega
      have HXY := Lib.hid (And.intro q6 q7)
      clear q1 q2 q3 q4 q5 q6 q7 HLF
      obtain ⟨⟨k0, k1, k2, k3, k4⟩, m0, m1, m2, m3, m4, n0, n1, n2, n3, n4, s1, s2⟩ := HKP.out wc HB0.out
      have HCn := Lib.hid (subst33_any t a x A0 c0 A c wc (HV.out _ (HBW.out _ HB0.out)) (HVA.out _ (HBW.out _ HB0.out)) HSt.out HSa.out hxl (HM.out _ (HBW.out _ HB0.out)))
      have HS1 := Lib.hid (sbT_SA t x a)
      unfold tv at HCn
      obtain ⟨r1, hr1⟩ : ∃ r, r = (sbT t x a).1 := ⟨_, rfl⟩
      obtain ⟨e1, he1⟩ : ∃ e, e = (sbT t x a).2 := ⟨_, rfl⟩
      rw [← hr1] at HCn HS1
      rw [← he1] at HCn
      have HE1 := Lib.hid (And.intro hr1 he1)
      clear hr1 he1
      go_wp2_with fail
      refine HCn.out.mono ?_
      rintro e w1a ⟨A1, c1, rfl, hv, hb⟩
      have hv := hv.tv (fun _ hk => hk.2)
      have hba : Below w1a.heap.size w1a (w1a.alloc (.cells #[.int .i64 r1.kind, .string ⟨r1.name.toArray⟩, .string ⟨r1.var.toArray⟩, .slice A1 r1.args.length c1, .string ⟨r1.form.toArray⟩] 24)) := (Below.refl _ _).alloc (Nat.le_refl _) _
      have HT1a := Lib.hid (hv.reach hba)
      have HB01 := Lib.hid (hb.trans (hba.mono hb.size))
      have HB1 := Lib.hid (HB0.out.trans (HB01.out.mono HB0.out.size))
      have hk := Bk.new' w1a r1 A1 c1
      unfold tv at hk
      have HK1a := Lib.hid hk
      clear hv hb hba hk HCn k0 k1 k2 k3 k4 m0 m1 m2 m3 m4 n0 n1 n2 n3 n4 s1 s2
      go_upto_region 6 with (fail)
      obtain ⟨b1, hbi⟩ : ∃ b, b = w1a.heap.size := ⟨_, rfl⟩
      rw [← hbi] at HK1a ⊢
      clear hbi
      generalize w1a.alloc (.cells #[.int .i64 r1.kind, .string ⟨r1.name.toArray⟩, .string ⟨r1.var.toArray⟩, .slice A1 r1.args.length c1, .string ⟨r1.form.toArray⟩] 24) = w1b at *
      have HT1 := Lib.hid fun w' (hb : Below w1b.heap.size w1b w') => HT1a.out.reach hb
      have HK1 := Lib.hid fun w' (hb : Below w1b.heap.size w1b w') => (HK1a.out.reach hb).cells.1
      clear HT1a HK1a
      obtain ⟨⟨k0, k1, k2, k3, k4⟩, m0, m1, m2, m3, m4, n0, n1, n2, n3, n4, s1, s2⟩ := HKP.out w1b HB1.out
      obtain ⟨f0, f1, f2, f3, f4⟩ := HK1.out w1b (Below.refl _ _)
      have HCn := Lib.hid (subst33_any r1 b y A1 c1 A' c' w1b (HT1.out _ (Below.refl _ _)) (HVB.out _ (HBW.out _ HB1.out)) HS1.out HSb.out hyl (HM.out _ (HBW.out _ HB1.out)))
      have HS2 := Lib.hid (sbT_SA r1 y b)
      unfold tv at HCn
      obtain ⟨r2, hr2⟩ : ∃ r, r = (sbT r1 y b).1 := ⟨_, rfl⟩
      obtain ⟨e2, he2⟩ : ∃ e, e = (sbT r1 y b).2 := ⟨_, rfl⟩
      rw [← hr2] at HCn HS2
      rw [← he2] at HCn
      have HE2 := Lib.hid (And.intro hr2 he2)
      clear hr2 he2
      go_wp2_with fail
      refine HCn.out.mono ?_
      rintro e w2a ⟨A2, c2, rfl, hv, hb⟩
      have hv := hv.tv (fun _ hk => hk.2)
      have hba : Below w2a.heap.size w2a (w2a.alloc (.cells #[.int .i64 r2.kind, .string ⟨r2.name.toArray⟩, .string ⟨r2.var.toArray⟩, .slice A2 r2.args.length c2, .string ⟨r2.form.toArray⟩] 24)) := (Below.refl _ _).alloc (Nat.le_refl _) _
      have HT2a := Lib.hid (hv.reach hba)
      have HB12 := Lib.hid (hb.trans (hba.mono hb.size))
      have HB2 := Lib.hid (HB1.out.trans (HB12.out.mono HB1.out.size))
      have hk := Bk.new' w2a r2 A2 c2
      unfold tv at hk
      have HK2a := Lib.hid hk
      clear hv hb hba hk HCn k0 k1 k2 k3 k4 m0 m1 m2 m3 m4 n0 n1 n2 n3 n4 s1 s2 f0 f1 f2 f3 f4
      go_upto_region 7 with (fail)
      obtain ⟨b2, hbi⟩ : ∃ b, b = w2a.heap.size := ⟨_, rfl⟩
      rw [← hbi] at HK2a ⊢
      clear hbi
      generalize w2a.alloc (.cells #[.int .i64 r2.kind, .string ⟨r2.name.toArray⟩, .string ⟨r2.var.toArray⟩, .slice A2 r2.args.length c2, .string ⟨r2.form.toArray⟩] 24) = w2b at *
      have HT2 := Lib.hid fun w' (hb : Below w2b.heap.size w2b w') => HT2a.out.reach hb
      have HK2 := Lib.hid fun w' (hb : Below w2b.heap.size w2b w') => (HK2a.out.reach hb).cells.1
      clear HT2a HK2a
      obtain ⟨⟨k0, k1, k2, k3, k4⟩, m0, m1, m2, m3, m4, n0, n1, n2, n3, n4, s1, s2⟩ := HKP.out w2b HB2.out
      have HCn := Lib.hid (subst33_any t b y A0 c0 A' c' w2b (HV.out _ (HBW.out _ HB2.out)) (HVB.out _ (HBW.out _ HB2.out)) HSt.out HSb.out hyl (HM.out _ (HBW.out _ HB2.out)))
      have HS3 := Lib.hid (sbT_SA t y b)
      unfold tv at HCn
      obtain ⟨r3, hr3⟩ : ∃ r, r = (sbT t y b).1 := ⟨_, rfl⟩
      obtain ⟨e3, he3⟩ : ∃ e, e = (sbT t y b).2 := ⟨_, rfl⟩
      rw [← hr3] at HCn HS3
      rw [← he3] at HCn
      have HE3 := Lib.hid (And.intro hr3 he3)
      clear hr3 he3
      go_wp2_with fail
      refine HCn.out.mono ?_
      rintro e w3a ⟨A3, c3, rfl, hv, hb⟩
      have hv := hv.tv (fun _ hk => hk.2)
      have hba : Below w3a.heap.size w3a (w3a.alloc (.cells #[.int .i64 r3.kind, .string ⟨r3.name.toArray⟩, .string ⟨r3.var.toArray⟩, .slice A3 r3.args.length c3, .string ⟨r3.form.toArray⟩] 24)) := (Below.refl _ _).alloc (Nat.le_refl _) _
      have HT3a := Lib.hid (hv.reach hba)
      have HB23 := Lib.hid (hb.trans (hba.mono hb.size))
      have HB3 := Lib.hid (HB2.out.trans (HB23.out.mono HB2.out.size))
      have HB13 := Lib.hid (HB12.out.trans (HB23.out.mono HB12.out.size))
      have hk := Bk.new' w3a r3 A3 c3
      unfold tv at hk
      have HK3a := Lib.hid hk
      clear hv hb hba hk HCn k0 k1 k2 k3 k4 m0 m1 m2 m3 m4 n0 n1 n2 n3 n4 s1 s2
      go_upto_region 8 with (fail)
      obtain ⟨b3, hbi⟩ : ∃ b, b = w3a.heap.size := ⟨_, rfl⟩
      rw [← hbi] at HK3a ⊢
      clear hbi
      generalize w3a.alloc (.cells #[.int .i64 r3.kind, .string ⟨r3.name.toArray⟩, .string ⟨r3.var.toArray⟩, .slice A3 r3.args.length c3, .string ⟨r3.form.toArray⟩] 24) = w3b at *
      have HT3 := Lib.hid fun w' (hb : Below w3b.heap.size w3b w') => HT3a.out.reach hb
      have HK3 := Lib.hid fun w' (hb : Below w3b.heap.size w3b w') => (HK3a.out.reach hb).cells.1
      clear HT3a HK3a
      obtain ⟨⟨k0, k1, k2, k3, k4⟩, m0, m1, m2, m3, m4, n0, n1, n2, n3, n4, s1, s2⟩ := HKP.out w3b HB3.out
      have HCn := Lib.hid (subst33_any a b y A c A' c' w3b (HVA.out _ (HBW.out _ HB3.out)) (HVB.out _ (HBW.out _ HB3.out)) HSa.out HSb.out hyl (HM.out _ (HBW.out _ HB3.out)))
      have HS4 := Lib.hid (sbT_SA a y b)
      unfold tv at HCn
      obtain ⟨r4, hr4⟩ : ∃ r, r = (sbT a y b).1 := ⟨_, rfl⟩
      obtain ⟨e4, he4⟩ : ∃ e, e = (sbT a y b).2 := ⟨_, rfl⟩
      rw [← hr4] at HCn HS4
      rw [← he4] at HCn
      have HE4 := Lib.hid (And.intro hr4 he4)
      clear hr4 he4
      go_wp2_with fail
      refine HCn.out.mono ?_
      rintro e w4a ⟨A4, c4, rfl, hv, hb⟩
      have hv := hv.tv (fun _ hk => hk.2)
      have hba : Below w4a.heap.size w4a (w4a.alloc (.cells #[.int .i64 r4.kind, .string ⟨r4.name.toArray⟩, .string ⟨r4.var.toArray⟩, .slice A4 r4.args.length c4, .string ⟨r4.form.toArray⟩] 24)) := (Below.refl _ _).alloc (Nat.le_refl _) _
      have HT4a := Lib.hid (hv.reach hba)
      have HB34 := Lib.hid (hb.trans (hba.mono hb.size))
      have HB4 := Lib.hid (HB3.out.trans (HB34.out.mono HB3.out.size))
      have HB14 := Lib.hid (HB13.out.trans (HB34.out.mono HB13.out.size))
      have HB24 := Lib.hid (HB23.out.trans (HB34.out.mono HB23.out.size))
      have hk := Bk.new' w4a r4 A4 c4
      unfold tv at hk
      have HK4a := Lib.hid hk
      clear hv hb hba hk HCn k0 k1 k2 k3 k4 m0 m1 m2 m3 m4 n0 n1 n2 n3 n4 s1 s2
      go_upto_region 9 with (fail)
      obtain ⟨b4, hbi⟩ : ∃ b, b = w4a.heap.size := ⟨_, rfl⟩
      rw [← hbi] at HK4a ⊢
      clear hbi
      generalize w4a.alloc (.cells #[.int .i64 r4.kind, .string ⟨r4.name.toArray⟩, .string ⟨r4.var.toArray⟩, .slice A4 r4.args.length c4, .string ⟨r4.form.toArray⟩] 24) = w4b at *
      have HT4 := Lib.hid fun w' (hb : Below w4b.heap.size w4b w') => HT4a.out.reach hb
      have HK4 := Lib.hid fun w' (hb : Below w4b.heap.size w4b w') => (HK4a.out.reach hb).cells.1
      clear HT4a HK4a
      obtain ⟨⟨k0, k1, k2, k3, k4⟩, m0, m1, m2, m3, m4, n0, n1, n2, n3, n4, s1, s2⟩ := HKP.out w4b HB4.out
      obtain ⟨f0, f1, f2, f3, f4⟩ := HK3.out w4b HB34.out
      obtain ⟨g0, g1, g2, g3, g4⟩ := HK4.out w4b (Below.refl _ _)
      have HCn := Lib.hid (subst33_any r3 r4 x A3 c3 A4 c4 w4b (HT3.out _ HB34.out) (HT4.out _ (Below.refl _ _)) HS3.out HS4.out hxl (HM.out _ (HBW.out _ HB4.out)))
      have HS5 := Lib.hid (sbT_SA r3 x r4)
      unfold tv at HCn
      obtain ⟨r5, hr5⟩ : ∃ r, r = (sbT r3 x r4).1 := ⟨_, rfl⟩
      obtain ⟨e5, he5⟩ : ∃ e, e = (sbT r3 x r4).2 := ⟨_, rfl⟩
      rw [← hr5] at HCn HS5
      rw [← he5] at HCn
      have HE5 := Lib.hid (And.intro hr5 he5)
      clear hr5 he5
      go_wp2_with fail
      refine HCn.out.mono ?_
      rintro e w5a ⟨A5, c5, rfl, hv, hb⟩
      have hv := hv.tv (fun _ hk => hk.2)
      have hba : Below w5a.heap.size w5a (w5a.alloc (.cells #[.int .i64 r5.kind, .string ⟨r5.name.toArray⟩, .string ⟨r5.var.toArray⟩, .slice A5 r5.args.length c5, .string ⟨r5.form.toArray⟩] 24)) := (Below.refl _ _).alloc (Nat.le_refl _) _
      have HT5a := Lib.hid (hv.reach hba)
      have HB45 := Lib.hid (hb.trans (hba.mono hb.size))
      have HB5 := Lib.hid (HB4.out.trans (HB45.out.mono HB4.out.size))
      have HB15 := Lib.hid (HB14.out.trans (HB45.out.mono HB14.out.size))
      have HB25 := Lib.hid (HB24.out.trans (HB45.out.mono HB24.out.size))
      have HB35 := Lib.hid (HB34.out.trans (HB45.out.mono HB34.out.size))
      have hk := Bk.new' w5a r5 A5 c5
      unfold tv at hk
      have HK5a := Lib.hid hk
      clear hv hb hba hk HCn k0 k1 k2 k3 k4 m0 m1 m2 m3 m4 n0 n1 n2 n3 n4 s1 s2 f0 f1 f2 f3 f4 g0 g1 g2 g3 g4
      go_upto_region 10 with (fail)
      obtain ⟨b5, hbi⟩ : ∃ b, b = w5a.heap.size := ⟨_, rfl⟩
      rw [← hbi] at HK5a ⊢
      clear hbi
      generalize w5a.alloc (.cells #[.int .i64 r5.kind, .string ⟨r5.name.toArray⟩, .string ⟨r5.var.toArray⟩, .slice A5 r5.args.length c5, .string ⟨r5.form.toArray⟩] 24) = w5b at *
      have HT5 := Lib.hid fun w' (hb : Below w5b.heap.size w5b w') => HT5a.out.reach hb
      have HK5 := Lib.hid fun w' (hb : Below w5b.heap.size w5b w') => (HK5a.out.reach hb).cells.1
      clear HT5a HK5a
      obtain ⟨⟨k0, k1, k2, k3, k4⟩, m0, m1, m2, m3, m4, n0, n1, n2, n3, n4, s1, s2⟩ := HKP.out w5b HB5.out
      clear k0 k1 k2 k3 k4 m0 m1 m2 m3 m4 n0 n1 n2 n3 n4 s1 s2
      have HBF := Lib.hid (HBW.out _ HB5.out)
      obtain ⟨f0, f1, f2, f3, f4⟩ := HK2.out w5b HB25.out
      obtain ⟨g0, g1, g2, g3, g4⟩ := HK5.out w5b (Below.refl _ _)
      have HCA := Lib.hid (alpha30_any r2 r5 A2 c2 A5 c5 w5b (HT2.out _ HB25.out) (HT5.out _ (Below.refl _ _)) HS2.out HS5.out (HM.out _ HBF.out))
      unfold tv at HCA
      have HFIN : Hid (e1 = 0 → e2 = 0 → e3 = 0 → e4 = 0 → e5 = 0 → alpB r2 r5 = true) := fun z1 z2 z3 z4 z5 => by
        have y1 := HE1.out.2.symm.trans z1
        have y2 := HE2.out.2.symm.trans z2
        have y3 := HE3.out.2.symm.trans z3
        have y4 := HE4.out.2.symm.trans z4
        have y5 := HE5.out.2.symm.trans z5
        rw [HE1.out.1] at y2
        rw [HE3.out.1, HE4.out.1] at y5
        rw [HE2.out.1, HE5.out.1, HE1.out.1, HE3.out.1, HE4.out.1]
        exact order_eq HXY.out.1 HXY.out.2 y1 y2 y3 y4 y5
      clear HE1 HE2 HE3 HE4 HE5
      by_cases z1 : e1 = 0
      · subst z1
        by_cases z2 : e2 = 0
        · subst z2
          by_cases z3 : e3 = 0
          · subst z3
            by_cases z4 : e4 = 0
            · subst z4
              by_cases z5 : e5 = 0
              · subst z5
                rw [HFIN.out rfl rfl rfl rfl rfl] at HCA
                go_wp2_with fail
                refine HCA.out.mono ?_
                rintro e w9 ⟨rfl, hb9⟩
                have HBG := Lib.hid (HBF.out.trans (hb9.mono HBF.out.size))
                clear hb9 f0 f1 f2 f3 f4 g0 g1 g2 g3 g4
                go_wp2_with fail
                go_ret
                exact ⟨rfl, HBG.out⟩
              · have zb : (e5 != 0) = true := by simpa using z5
                have zc : (e5 == 0) = false := by simpa using z5
                clear HCA HFIN
                go_wp2_with fail
                go_ret
                exact ⟨by simp, HBF.out⟩
            · have zb : (e4 != 0) = true := by simpa using z4
              have zc : (e4 == 0) = false := by simpa using z4
              clear HCA HFIN
              go_wp2_with fail
              go_ret
              exact ⟨by simp, HBF.out⟩
          · have zb : (e3 != 0) = true := by simpa using z3
            have zc : (e3 == 0) = false := by simpa using z3
            clear HCA HFIN
            go_wp2_with fail
            go_ret
            exact ⟨by simp, HBF.out⟩
        · have zb : (e2 != 0) = true := by simpa using z2
          have zc : (e2 == 0) = false := by simpa using z2
          clear HCA HFIN
          go_wp2_with fail
          go_ret
          exact ⟨by simp, HBF.out⟩
      · have zb : (e1 != 0) = true := by simpa using z1
        have zc : (e1 == 0) = false := by simpa using z1
        clear HCA HFIN
        go_wp2_with fail
        go_ret
        exact ⟨by simp, HBF.out⟩
end Go.Proofs.YtkjhfbgdmmnadaaGreat
