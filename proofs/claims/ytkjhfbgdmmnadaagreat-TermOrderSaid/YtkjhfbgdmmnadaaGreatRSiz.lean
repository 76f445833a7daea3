/- Contracts of the reference's size, Valid, Count. -/
import Derived.Test.YtkjhfbgdmmnadaaGreatRVal
import Derived.Test.YtkjhfbgdmmnadaaGreatFew
import Derived.Test.YtkjhfbgdmmnadaaGreatPlB
namespace Go.Proofs.YtkjhfbgdmmnadaaGreat
open Go.RowKit

theorem sizR_lo (t : T) : -1 ≤ sizR t ∧ sizR t ≤ 1000 := by
  rcases sizR_val t with ⟨h, _⟩ | ⟨h, _, h2⟩ <;> omega

set_option maxRecDepth 100000 in
set_option maxHeartbeats 4000000 in
theorem size_aux (N : Nat) : ∀ (t : T), t.size ≤ N → ∀ (A : Option Addr) (c : Nat) (w : World), TV w w.heap.size t A c → SA t →
    Calls Tryz.prog 17 #[.agg (tv t A c)] w fun e w' => e = .returned (.int .i64 (sizR t)) ∧ Below w.heap.size w w' := by
  induction N with
  | zero => intro t ht; exact absurd ht (by cases t; rw [T.size]; omega)
  | succ N ih =>
    intro t ht A c w hv hs
    have IH := Lib.hid ih
    clear ih
    have HE := Lib.hid (sizR_eq t)
    obtain ⟨hsh, hsa⟩ := hs.parts
    have HSA := Lib.hid hsa
    have hb0 : Below w.heap.size w (w.alloc (.cells (tv t A c) 24)) := (Below.refl _ _).alloc (Nat.le_refl _) _
    have HB0 := Lib.hid hb0
    have HTA : Hid (TA (w.alloc (.cells (tv t A c) 24)) w.heap.size A t.args) := hv.ar.below hb0
    have HSZ : Hid (∀ u ∈ t.args, u.size ≤ N) := fun u hu => by have := size_arg hu; omega
    have HPR := Lib.hid (proper_any t A c (w.alloc (.cells (tv t A c) 24)) hsh hv.cap)
    obtain ⟨hcp1, hcp2⟩ := hv.cap
    have k3 : (w.alloc (.cells (tv t A c) 24)).cell? ⟨w.heap.size, 3, none⟩ = some (.slice A t.args.length c) := by simp [tv]
    have HI := Lib.hid (tv_info t A c)
    generalize tv t A c = cs at *
    obtain ⟨ys, hys⟩ : ∃ ys, ys = t.args := ⟨_, rfl⟩
    rw [← hys] at HE HTA HSZ HSA k3 hcp1
    clear hys hv hb0 hsa hs hsh
    have hyl : ys.length ≤ 9223372036854775807 := by omega
    have HF : Hid ((w.alloc (.cells cs 24)).heap[w.heap.size]? = some (.cells cs 24)) := blk_new _ _
    have hls : w.heap.size < (w.alloc (.cells cs 24)).heap.size := by simp
    generalize ownB t = ow at *
    go_enter Tryz.func17, Tryz.ntmps17
    go_wp2_with (with_reducible refine wpList_load_row rfl 24 (.tmp 1) rfl w.heap.size rfl 24 cs (0, 0) _ HF.out Tryz.underlying24 rfl HI.out ?_)
    refine HPR.out.mono ?_
    rintro e w1 ⟨rfl, hb1⟩
    have HB1 := Lib.hid (HB0.out.trans (hb1.mono HB0.out.size))
    have HTA1 := Lib.hid (HTA.out.below (hb1.mono HB0.out.size))
    have d3 := (hb1.cell (p := ⟨w.heap.size, 3, none⟩) hls).trans k3
    have hls1 : w.heap.size < w1.heap.size := by have := hb1.size; omega
    clear hb1 HB0 HTA k3 HF hls
    generalize w.alloc (.cells cs 24) = w0 at *
    cases ow with
    | false =>
      have HX : Hid (sizR t = -1) := HE.out.trans (if_pos (.inl rfl))
      go_wp2_with fail
      go_ret
      rw [HX.out]
      exact ⟨rfl, HB1.out⟩
    | true =>
      by_cases hbig : 1000 < ys.length
      · have HX : Hid (sizR t = -1) := HE.out.trans (if_pos (.inr hbig))
        have hbz : (1000 : Int) < (ys.length : Int) := by omega
        clear hbig
        go_wp2_with fail
        go_ret
        rw [HX.out]
        exact ⟨rfl, HB1.out⟩
      · have HX : Hid (sizR t = sizRs ys 1) := HE.out.trans (if_neg (fun h => h.elim (fun h => by cases h) hbig))
        have hbz : ¬ (1000 : Int) < (ys.length : Int) := by omega
        clear hbig HE
        go_wp2_with fail
        go_loopg [3, 4] ys.length (fun gg s3 s4 wr => ∃ (i : Nat) (mi : Int), i ≤ ys.length ∧ ys.length - i ≤ gg ∧ s4 = .int .i64 i ∧ s3 = .int .i64 mi ∧ 0 ≤ mi ∧ mi ≤ 1000 ∧ Aside (sizRs ys 1 = sizRs (ys.drop i) mi) ∧ Aside (Below w1.heap.size w1 wr))
        case atStart => exact ⟨0, 1, Nat.zero_le _, by omega, rfl, rfl, by omega, by omega, rfl, Below.refl _ _⟩
        case round =>
          obtain ⟨i, mi, hi, hgg, rfl, rfl, hmi1, hmi2, HQ, HB⟩ := hrel
          have HBw := Lib.hid (HB1.out.trans (HB.out.mono HB1.out.size))
          have k3r : wr.cell? ⟨w.heap.size, 3, none⟩ = some (.slice A ys.length c) := (HB.out.cell (p := ⟨w.heap.size, 3, none⟩) hls1).trans d3
          by_cases hlt : i < ys.length
          · have hltz : (i : Int) < (ys.length : Int) := by omega
            obtain ⟨b', o', rfl, hRi⟩ := (HTA1.out.below (HB.out.mono HB1.out.size)).at_ hlt
            obtain ⟨_, d0, d1, d2, d4, A2, c2, d3', hcp3, hTA2⟩ := hRi.parts
            have HTV : Hid (TV wr wr.heap.size ys[i] A2 c2) := ⟨hcp3, hTA2.more HBw.out.size⟩
            have HD : Hid (sizRs (ys.drop i) mi = if sizR ys[i] < 0 ∨ 1000 < mi + sizR ys[i] then -1 else sizRs (ys.drop (i + 1)) (mi + sizR ys[i])) := by
              show sizRs (ys.drop i) mi = _
              rw [List.drop_eq_getElem_cons hlt, sizRs]
            have HCall := Lib.hid (IH.out ys[i] (HSZ.out _ (List.getElem_mem hlt)) A2 c2 wr HTV.out (HSA.out.mem (List.getElem_mem hlt)))
            obtain ⟨hlo1, hlo2⟩ := sizR_lo ys[i]
            clear hRi hcp3 hTA2 HTV
            unfold tv at HCall
            generalize sizR ys[i] = r at *
            generalize ys[i] = u at *
            go_wp2_with fail
            refine HCall.out.mono ?_
            rintro e w2 ⟨rfl, hb2⟩
            have HB2 := Lib.hid (HB.out.trans (hb2.mono HB.out.size))
            have HBw2 := Lib.hid (HBw.out.trans (hb2.mono HBw.out.size))
            clear hb2 HCall d0 d1 d2 d3' d4
            by_cases hneg : r < 0
            · have HY : Hid (sizR t = -1) := HX.out.trans (HQ.out.trans (HD.out.trans (if_pos (.inl hneg))))
              go_wp2_with fail
              go_ret
              rw [HY.out]
              exact ⟨rfl, HBw2.out⟩
            · by_cases hov : 1000 < mi + r
              · have HY : Hid (sizR t = -1) := HX.out.trans (HQ.out.trans (HD.out.trans (if_pos (.inr hov))))
                go_wp2_with fail
                go_ret
                rw [HY.out]
                exact ⟨rfl, HBw2.out⟩
              · have HY : Hid (sizRs ys 1 = sizRs (ys.drop (i + 1)) (mi + r)) := HQ.out.trans (HD.out.trans (if_neg (fun h => h.elim hneg hov)))
                go_wp2_with fail
                go_roundg (ys.length - (i + 1))
                case measure => omega
                case rel => exact ⟨i + 1, mi + r, by omega, by omega, by go_num, rfl, by omega, by omega, HY.out, HB2.out⟩
          · have hltz : ¬ (i : Int) < (ys.length : Int) := by omega
            have HY : Hid (sizR t = mi) := by
              show sizR t = mi
              rw [HX.out, HQ.out, List.drop_eq_nil_of_le (by omega), sizRs]
            go_wp2_with fail
            go_ret
            rw [HY.out]
            exact ⟨rfl, HBw.out⟩
theorem size38_any (t : T) (A : Option Addr) (c : Nat) (w : World) (hv : TV w w.heap.size t A c) (hs : SA t) :
    Calls Tryz.prog 17 #[.agg (tv t A c)] w fun e w' => e = .returned (.int .i64 (sizR t)) ∧ Below w.heap.size w w' := size_aux t.size t (Nat.le_refl _) A c w hv hs

set_option maxHeartbeats 1000000 in
theorem rvalid_any (t : T) (A : Option Addr) (c : Nat) (w : World) (hv : TV w w.heap.size t A c) (hs : SA t) :
    Calls Tryz.prog 7 #[.agg (tv t A c)] w fun e w' => e = .returned (.bool (validB t)) ∧ Below w.heap.size w w' := by
  have hb0 : Below w.heap.size w (w.alloc (.cells (tv t A c) 24)) := (Below.refl _ _).alloc (Nat.le_refl _) _
  have HB0 := Lib.hid hb0
  have HC := Lib.hid (size38_any t A c _ ((hv.below hb0).more hb0.size) hs)
  have HP := Lib.hid (sizR_valid t)
  have hpos := size_pos t
  have HI := Lib.hid (tv_info t A c)
  clear hv hs hb0
  generalize tv t A c = cs at *
  generalize sizR t = n at *
  generalize t.size = m at *
  have HF : Hid ((w.alloc (.cells cs 24)).heap[w.heap.size]? = some (.cells cs 24)) := blk_new _ _
  cases hvb : validB t with
  | true =>
    rw [hvb] at HP
    have hn : 0 < n := by have := HP.out; rw [if_pos rfl] at this; omega
    clear hvb HP
    go_enter Tryz.func7, Tryz.ntmps7
    go_wp2_with (with_reducible refine wpList_load_row rfl 24 (.tmp 1) rfl w.heap.size rfl 24 cs (0, 0) _ HF.out Tryz.underlying24 rfl HI.out ?_)
    refine HC.out.mono ?_
    rintro e w1 ⟨rfl, hb1⟩
    have HB1 := Lib.hid (HB0.out.trans (hb1.mono HB0.out.size))
    clear hb1
    go_wp2_with fail
    go_ret
    exact ⟨by first | rfl | simp [hn], HB1.out⟩
  | false =>
    rw [hvb] at HP
    have hn : ¬ 0 < n := by have := HP.out; rw [if_neg (by decide)] at this; omega
    clear hvb HP
    go_enter Tryz.func7, Tryz.ntmps7
    go_wp2_with (with_reducible refine wpList_load_row rfl 24 (.tmp 1) rfl w.heap.size rfl 24 cs (0, 0) _ HF.out Tryz.underlying24 rfl HI.out ?_)
    refine HC.out.mono ?_
    rintro e w1 ⟨rfl, hb1⟩
    have HB1 := Lib.hid (HB0.out.trans (hb1.mono HB0.out.size))
    clear hb1
    go_wp2_with fail
    go_ret
    exact ⟨by first | rfl | simp [hn], HB1.out⟩
end Go.Proofs.YtkjhfbgdmmnadaaGreat
