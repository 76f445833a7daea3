/- Contract of texts 21. -/
import Derived.Test.YtknpigdpepmimaaGreatDoorM42
import Derived.Test.YtknpigdpepmimaaGreatDoorM38
namespace Go.Proofs.YtknpigdpepmimaaGreatDoor
open Go.RowKit Go.Maps

set_option maxRecDepth 100000 in
set_option maxHeartbeats 4000000 in
theorem texts_aux (N : Nat) : ∀ (t : T), t.size ≤ N → ∀ (A : Option Addr) (c : Nat) (w : World), TV w w.heap.size t A c →
    Calls Tryz.prog 21 #[.agg (tv t A c)] w fun e w' => e = .returned (.bool (txB t)) ∧ Below w.heap.size w w' := by
  induction N with
  | zero => intro t ht; exact absurd ht (by cases t; rw [T.size]; omega)
  | succ N ih =>
    intro t ht A c w hv
    have IH := Lib.hid ih
    clear ih
    have HE := Lib.hid (txB_eq t)
    have hb0 : Below w.heap.size w (w.alloc (.cells (tv t A c) 24)) := (Below.refl _ _).alloc (Nat.le_refl _) _
    have HB0 := Lib.hid hb0
    have HTA : Hid (TA (w.alloc (.cells (tv t A c) 24)) w.heap.size A t.args) := hv.ar.below hb0
    have HSZ : Hid (∀ u ∈ t.args, u.size ≤ N) := fun u hu => by have := size_arg hu; omega
    obtain ⟨hcp1, hcp2⟩ := hv.cap
    have k0 : (w.alloc (.cells (tv t A c) 24)).cell? ⟨w.heap.size, 0, none⟩ = some (.int .i64 t.kind) := by simp [tv]
    have k3 : (w.alloc (.cells (tv t A c) 24)).cell? ⟨w.heap.size, 3, none⟩ = some (.slice A t.args.length c) := by simp [tv]
    generalize tv t A c = cs at *
    generalize t.kind = kd at *
    obtain ⟨ys, hys⟩ : ∃ ys, ys = t.args := ⟨_, rfl⟩
    rw [← hys] at HE HTA HSZ k3 hcp1
    clear hys hv hb0
    have hyl : ys.length ≤ 9223372036854775807 := by omega
    go_enter Tryz.func21, Tryz.ntmps21
    go_upto_region 2 with (fail)
    obtain ⟨w1, hw1⟩ : ∃ w1, w1 = w.alloc (.cells cs 24) := ⟨_, rfl⟩
    have hFl : w.heap.size < w1.heap.size := by rw [hw1]; simp
    rw [← hw1] at HB0 HTA k0 k3 ⊢
    clear hw1
    go_wp2_with fail
    go_loopg [3] ys.length (fun gg s3 wr => ∃ (i : Nat), i ≤ ys.length ∧ ys.length - i ≤ gg ∧ s3 = .int .i64 i ∧ Aside (txBs ys = txBs (ys.drop i)) ∧ Aside (Below w1.heap.size w1 wr))
    case atStart => exact ⟨0, Nat.zero_le _, by omega, rfl, rfl, Below.refl _ _⟩
    case round =>
      obtain ⟨i, hi, hgg, rfl, HQ, HB⟩ := hrel
      have HBw := Lib.hid (HB0.out.trans (HB.out.mono HB0.out.size))
      have k3r : wr.cell? ⟨w.heap.size, 3, none⟩ = some (.slice A ys.length c) := (HB.out.cell (p := ⟨w.heap.size, 3, none⟩) hFl).trans k3
      have k0r : wr.cell? ⟨w.heap.size, 0, none⟩ = some (.int .i64 kd) := (HB.out.cell (p := ⟨w.heap.size, 0, none⟩) hFl).trans k0
      by_cases hlt : i < ys.length
      · obtain ⟨b', o', rfl, hRi⟩ := (HTA.out.below (HB.out.mono HB0.out.size)).at_ hlt
        obtain ⟨_, d0, d1, d2, d4, A2, c2, d3, hcp3, hTA2⟩ := hRi.parts
        have HTV : Hid (TV wr wr.heap.size ys[i] A2 c2) := ⟨hcp3, hTA2.more HBw.out.size⟩
        have HD : Hid (txBs (ys.drop i) = (txB ys[i] || txBs (ys.drop (i + 1)))) := by
          show txBs (ys.drop i) = _
          rw [List.drop_eq_getElem_cons hlt, txBs]
        have HCall := Lib.hid (IH.out ys[i] (HSZ.out _ (List.getElem_mem hlt)) A2 c2 wr HTV.out)
        clear hRi hcp3 hTA2 HTV
        unfold tv at HCall
        generalize txB ys[i] = r at *
        generalize ys[i] = u at *
        have hltz : (i : Int) < (ys.length : Int) := by omega
        go_wp2_with fail
        refine HCall.out.mono ?_
        rintro e w2 ⟨rfl, hb2⟩
        have HB2 := Lib.hid (HB.out.trans (hb2.mono HB.out.size))
        have HB2w := Lib.hid (HB0.out.trans (HB2.out.mono HB0.out.size))
        clear hb2 HCall d0 d1 d2 d3 d4
        cases r with
        | true =>
          have HR : Hid (txB t = true) := HE.out.trans (by rw [HQ.out, HD.out]; rfl)
          go_wp2_with fail
          go_ret
          rw [HR.out]
          exact ⟨rfl, HB2w.out⟩
        | false =>
          have HQ2 : Hid (txBs ys = txBs (ys.drop (i + 1))) := HQ.out.trans (HD.out.trans (Bool.false_or _))
          go_wp2_with fail
          go_roundg (ys.length - (i + 1))
          case measure => omega
          case rel => exact ⟨i + 1, by omega, by omega, by go_num, HQ2.out, HB2.out⟩
      · have hltz : ¬ (i : Int) < (ys.length : Int) := by omega
        have HR : Hid (txB t = decide (kd = 3)) := HE.out.trans (by rw [HQ.out, List.drop_eq_nil_of_le (by omega), txBs, Bool.false_or])
        by_cases hk : kd = 3
        · have hkb : (kd == 3) = true := by simp [hk]
          have HR2 : Hid (txB t = true) := HR.out.trans (decide_eq_true hk)
          clear hk
          go_wp2_with fail
          go_ret
          rw [HR2.out]
          exact ⟨rfl, HBw.out⟩
        · have hkb : (kd == 3) = false := by simpa using hk
          have HR2 : Hid (txB t = false) := HR.out.trans (decide_eq_false hk)
          clear hk
          go_wp2_with fail
          go_ret
          rw [HR2.out]
          exact ⟨rfl, HBw.out⟩
theorem texts_any (t : T) (A : Option Addr) (c : Nat) (w : World) (hv : TV w w.heap.size t A c) : Calls Tryz.prog 21 #[.agg (tv t A c)] w fun e w' => e = .returned (.bool (txB t)) ∧ Below w.heap.size w w' :=
  texts_aux t.size t (Nat.le_refl _) A c w hv
end Go.Proofs.YtknpigdpepmimaaGreatDoor
