/- The walk of TermAt. -/
import Derived.Test.YtkjhfbgdmmnadaaAtK
namespace Go.Proofs.Ytkjhfbgdmmnadaa
open Go.RowKit

set_option maxRecDepth 100000 in
set_option maxHeartbeats 4000000 in
theorem at_walk (t : T) (A : Option Addr) (c : Nat) (PA : Option Addr) (p : List Int) (pc : Nat) (w : World) (hv : TV w w.heap.size t A c) (hp : PX w PA pc p) (hpn : PA = none → pc = 0) (hm : Max w) :
    Calls Try.prog 5 #[.agg (tv t A c), .slice PA p.length pc] w fun e w' => e = .returned (.bool true) ∧ Below w.heap.size w w' := by
  have hb0 : Below w.heap.size w (w.alloc (.cells (tv t A c) 24)) := (Below.refl _ _).alloc (Nat.le_refl _) _
  have HB0 := Lib.hid hb0
  have HV := Lib.hid fun w' (hb : Below w.heap.size w w') => hv.reach hb
  have HM := Lib.hid fun w' (hb : Below w.heap.size w w') => hm.reach hb
  have HPI := Lib.hid fun w' (hb : Below w.heap.size w w') => (PI.below hp hb).more hb.size
  have HBX := Lib.hid (bxd_new w t A c)
  have HI := Lib.hid (tv_info t A c)
  have HF := Lib.hid (blk_new w (.cells (tv t A c) 24))
  have hls : w.heap.size < (w.alloc (.cells (tv t A c) 24)).heap.size := by simp
  have hpl : p.length ≤ 9223372036854775807 := by obtain ⟨_, _, h1, h2, _⟩ := hp; injection h1 with _ h1 h3; omega
  clear hb0 hv hm
  go_enter Try.func5, Try.ntmps5
  go_wp2_with fail
  refine (awake11_any _ (HM.out _ HB0.out)).mono ?_
  rintro e w1 ⟨rfl, hb1⟩
  have HB1 := Lib.hid (HB0.out.trans (hb1.mono HB0.out.size))
  have HF1 : Hid (w1.heap[w.heap.size]? = some (.cells (tv t A c) 24)) := (hb1.block _ hls).trans HF.out
  have HBX1 := Lib.hid (HBX.out.below hb1 hls)
  have hls1 : w.heap.size < w1.heap.size := by have := hb1.size; omega
  clear hb1 HB0 HBX HF hls
  have HFW := Lib.hid (few_any t A c w1 (HV.out _ HB1.out))
  generalize hcs : tv t A c = cs at *
  go_wp2_with (with_reducible refine wpList_load_row rfl 24 (.tmp 2) rfl w.heap.size rfl 24 cs (0, 0) _ HF1.out Try.underlying24 rfl HI.out ?_)
  refine HFW.out.mono ?_
  rintro e w2 ⟨rfl, hb2⟩
  have HB2 := Lib.hid (HB1.out.trans (hb2.mono HB1.out.size))
  have HBX2 := Lib.hid (HBX1.out.below hb2 hls1)
  have hls2 : w.heap.size < w2.heap.size := by have := hb2.size; omega
  clear hb2 HB1 HBX1 HF1 hls1 HFW
  cases hfe : fewB t with
  | false =>
    clear hfe
    go_wp2_with fail
    go_ret
    exact ⟨rfl, HB2.out⟩
  | true =>
    have HS := Lib.hid (few_SA' hfe)
    clear hfe
    by_cases h20 : 20 < p.length
    · have h20z : (20 : Int) < (p.length : Int) := by omega
      go_wp2_with fail
      go_ret
      exact ⟨rfl, HB2.out⟩
    · have h20z : ¬ (20 : Int) < (p.length : Int) := by omega
      subst hcs
      have HC24 := Lib.hid fun w' v' (hb : Below w2.heap.size w2 w') (hp' : PI w' w'.heap.size v' p) => at24_any t A c v' p w' (HV.out _ (HB2.out.trans (hb.mono HB2.out.size))) hp' HS.out (HM.out _ (HB2.out.trans (hb.mono HB2.out.size)))
      have HC25 := Lib.hid fun w' (hb : Below w2.heap.size w2 w') => at25_any t A c (.slice PA p.length pc) p w' (HV.out _ (HB2.out.trans (hb.mono HB2.out.size))) (HPI.out _ (HB2.out.trans (hb.mono HB2.out.size))) HS.out
      generalize hrt : (atT t p).1 = rt at *
      generalize hre : (atT t p).2 = re at *
      obtain ⟨k0, k1, k2, k3, k4⟩ := HBX2.out
      unfold tv at HC24 HC25
      have HBXX := Lib.hid HBX2.out
      have HP2 := Lib.hid (HPI.out _ HB2.out)
      clear HBX2 HI HPI hp hrt hre
      have HCL : Hid (∀ w', Below w2.heap.size w2 w' → ∀ ad, PA = some ad → ∀ j (h : j < p.length), w'.cell? (ad.add j) = some (.int .i64 p[j])) := fun w' hb ad hPA j hj => by
        obtain ⟨A1, c1, h1, _, h3⟩ := HP2.out
        injection h1 with h1
        obtain ⟨b, o, h4, h5, h6⟩ := h3 (by intro e; rw [e] at hj; simp at hj)
        rw [← h1, hPA] at h4
        injection h4 with h4
        rw [h4, addr_add]
        exact (hb.cell (p := ⟨b, o + j, none⟩) h5).trans (h6 j hj)
      have HPN : Hid (PA = none → p = [] ∧ pc = 0) := fun hPA => by
        refine ⟨?_, hpn hPA⟩
        obtain ⟨A1, c1, h1, _, h3⟩ := HP2.out
        injection h1 with h1
        refine Classical.byContradiction fun hne => ?_
        obtain ⟨b, o, h4, _⟩ := h3 hne
        rw [← h1, hPA] at h4
        cases h4
      clear hpn
      have hp20 : p.length ≤ 20 := by omega
      have L0 := Lib.hid (below_dr (Below.refl w2.heap.size w2))
      have L1 := Lib.hid (L0.out.alloc L0.out.size (.cells #[] 3))
      have LZ := Lib.hid (L0.out.alloc L0.out.size (.cells #[.int .i64 0, .string ⟨#[]⟩, .string ⟨#[]⟩, .slice none 0 0, .string ⟨#[]⟩] 24))
      have L2 := Lib.hid (LZ.out.alloc LZ.out.size (.cells #[] 3))
      have L3 := Lib.hid (L1.out.alloc L1.out.size (.cells #[.int .i64 0, .string ⟨#[]⟩, .string ⟨#[]⟩, .slice none 0 0, .string ⟨#[]⟩] 24))
      have R1 : Hid ((w2.drew.alloc (.cells #[] 3)).ownsRow w2.heap.size 3 1 (.slice (some ⟨w2.heap.size, 0, none⟩) 0 0) 0 []) := World.ownsRow_lit w2.drew #[] 0 (Nat.le_refl _) (by unfold maxLen; omega) rfl
      have R2 : Hid (((w2.drew.alloc (.cells #[.int .i64 0, .string ⟨#[]⟩, .string ⟨#[]⟩, .slice none 0 0, .string ⟨#[]⟩] 24)).alloc (.cells #[] 3)).ownsRow w2.heap.size 3 1 (.slice (some ⟨w2.heap.size + 1, 0, none⟩) 0 0) 0 []) := by
        have := World.ownsRow_lit (base := w2.heap.size) (e := 3) (size := 1) (w2.drew.alloc (.cells #[.int .i64 0, .string ⟨#[]⟩, .string ⟨#[]⟩, .slice none 0 0, .string ⟨#[]⟩] 24)) #[] 0 (by simp) (by unfold maxLen; omega) rfl
        rw [show (w2.drew.alloc (.cells #[.int .i64 0, .string ⟨#[]⟩, .string ⟨#[]⟩, .slice none 0 0, .string ⟨#[]⟩] 24)).heap.size = w2.heap.size + 1 by simp] at this
        exact this
      have R3 : Hid (((w2.drew.alloc (.cells #[] 3)).alloc (.cells #[.int .i64 0, .string ⟨#[]⟩, .string ⟨#[]⟩, .slice none 0 0, .string ⟨#[]⟩] 24)).ownsRow w2.heap.size 3 1 (.slice (some ⟨w2.heap.size, 0, none⟩) 0 0) 0 []) := World.ownsRow.alloc R1.out _
      have Z2 : Hid (Bk ((w2.drew.alloc (.cells #[.int .i64 0, .string ⟨#[]⟩, .string ⟨#[]⟩, .slice none 0 0, .string ⟨#[]⟩] 24)).alloc (.cells #[] 3)) w2.heap.size (.int .i64 0) (.string ⟨#[]⟩) (.string ⟨#[]⟩) (.slice none 0 0) (.string ⟨#[]⟩)) := (Bk.new w2.drew _ _ _ _ _).reach ((Below.refl _ _).alloc (Nat.le_refl _) _)
      have Z3 : Hid (Bk ((w2.drew.alloc (.cells #[] 3)).alloc (.cells #[.int .i64 0, .string ⟨#[]⟩, .string ⟨#[]⟩, .slice none 0 0, .string ⟨#[]⟩] 24)) (w2.heap.size + 1) (.int .i64 0) (.string ⟨#[]⟩) (.string ⟨#[]⟩) (.slice none 0 0) (.string ⟨#[]⟩)) := by
        have := Bk.new (w2.drew.alloc (.cells #[] 3)) (.int .i64 0) (.string ⟨#[]⟩) (.string ⟨#[]⟩) (.slice none 0 0) (.string ⟨#[]⟩)
        rw [show (w2.drew.alloc (.cells #[] 3)).heap.size = w2.heap.size + 1 by simp] at this
        exact this
      have KD := Lib.hid (keep5 HBXX.out hls2 L0.out)
      have hne2 : w.heap.size ≠ w2.heap.size := by omega
      have hne3 : w.heap.size ≠ w2.heap.size + 1 := by omega
      go_upto_region 5 with (fail)
      go_cut [5, 6] (fun s5 s6 wx => ∃ bz A8 c8, s5 = .pointer (some ⟨bz, 0, none⟩) ∧ s6 = .int .i64 re ∧ Aside (Post5 w2 wx bz rt A8 c8))
      case first =>
        refine wp_region_noPanic ?_
        go_region_held_law (fun w' => w'.cell? ⟨w.heap.size, 0, none⟩ = some (.int .i64 t.kind) ∧ w'.cell? ⟨w.heap.size, 1, none⟩ = some (.string ⟨t.name.toArray⟩) ∧ w'.cell? ⟨w.heap.size, 2, none⟩ = some (.string ⟨t.var.toArray⟩) ∧ w'.cell? ⟨w.heap.size, 3, none⟩ = some (.slice A t.args.length c) ∧ w'.cell? ⟨w.heap.size, 4, none⟩ = some (.string ⟨t.form.toArray⟩))
          (first | with_reducible exact KD.out | with_reducible exact HKS8.out | with_reducible exact HKS7.out | with_reducible exact keep5 HBXX.out hls2 (HB8.out.alloc HB8.out.size _) | with_reducible exact keep5 HBXX.out hls2 (HB7.out.alloc HB7.out.size _) | with_reducible exact keep5 HBXX.out hls2 L1.out | with_reducible exact keep5 HBXX.out hls2 LZ.out | with_reducible exact keep5 HBXX.out hls2 L2.out | with_reducible exact keep5 HBXX.out hls2 L3.out | with_reducible exact keep5 HBXX.out hls2 (below5 (HB8.out.alloc HB8.out.size _) HB8.out.size _ _ _ _ _) | with_reducible exact keep5 HBXX.out hls2 (below5 HB8.out (Nat.le_refl _) _ _ _ _ _) | with_reducible exact keep5 HBXX.out hls2 (below5 HB8.out (Nat.le_succ _) _ _ _ _ _) | with_reducible exact keep5 HBXX.out hls2 (below5 HB8.out HB7.out.size _ _ _ _ _) | go_keep)
          (first
            | (go_at_call 24; first
                | ((with_reducible refine (HC24.out _ _ HB7.out HP7.out).mono ?_); rintro e w8 ⟨A8, c8, rfl, hv8, hb8⟩; have HV8 := Lib.hid hv8; have HB8 := Lib.hid (HB7.out.trans (hb8.mono HB7.out.size)); have HKS8 := Lib.hid (keep5 HBXX.out hls2 HB8.out); have hne8 : w.heap.size ≠ w8.heap.size := (by have := HB8.out.size; omega); (first | (have HZ8 := Lib.hid (HZ7.out.reach hb8); obtain ⟨⟨q0, q1, q2, q3, q4⟩, qf, ql⟩ := HZ8.out.cells; have HP9 := Lib.hid (post5 HZ8.out HV8.out (fun k hk => ⟨HNE.out k hk.1, hk.2⟩) HB8.out HLE.out)) | (have HP9 := Lib.hid (post5_new (HV8.out.tv (fun _ hk => hk.2)) HB8.out))); clear hv8 hb8)
                | ((with_reducible refine (HC24.out _ _ (HB7.out.alloc HB7.out.size _) HPA.out).mono ?_); rintro e w8 ⟨A8, c8, rfl, hv8, hb8⟩; have HV8 := Lib.hid hv8; have HB8 := Lib.hid ((HB7.out.alloc HB7.out.size _).trans (hb8.mono (HB7.out.alloc HB7.out.size _).size)); have HKS8 := Lib.hid (keep5 HBXX.out hls2 HB8.out); have hne8 : w.heap.size ≠ w8.heap.size := (by have := HB8.out.size; omega); have HZ8 := Lib.hid ((Bk.new w7 (.int .i64 0) (.string ⟨#[]⟩) (.string ⟨#[]⟩) (.slice none 0 0) (.string ⟨#[]⟩)).reach hb8); have HP9 := Lib.hid (post5 HZ8.out HV8.out (fun k hk => ⟨HNA.out k hk.1, hk.2⟩) HB8.out HB7.out.size); obtain ⟨⟨q0, q1, q2, q3, q4⟩, qf, ql⟩ := HZ8.out.cells; clear hv8 hb8))
            | (refine app32 _ ?_ (.tmp 21) (.tmp 22) ?_ w2.heap.size _ R1.out ?_ PA pc p ?_ HPN.out (HCL.out _ L1.out) hp20 ?_ ?_; exact rfl; exact rfl; exact rfl; exact rfl; exact L1.out.size; intro v7 w7 hp7 hb7 hk7; have HP7 := Lib.hid hp7; have HB7 := Lib.hid (L1.out.trans hb7); have HKS7 := Lib.hid (keep5 HBXX.out hls2 HB7.out); have HNA : Hid (∀ k, (w7.alloc (.cells #[.int .i64 0, .string ⟨#[]⟩, .string ⟨#[]⟩, .slice none 0 0, .string ⟨#[]⟩] 24)).heap.size ≤ k → k ≠ w7.heap.size) := fun k hk => (by simp at hk; omega); have HPA : Hid (PI (w7.alloc (.cells #[.int .i64 0, .string ⟨#[]⟩, .string ⟨#[]⟩, .slice none 0 0, .string ⟨#[]⟩] 24)) (w7.alloc (.cells #[.int .i64 0, .string ⟨#[]⟩, .string ⟨#[]⟩, .slice none 0 0, .string ⟨#[]⟩] 24)).heap.size v7 p) := (PI.below hp7 ((Below.refl _ _).alloc (Nat.le_refl _) _)).more (by simp); have hne7 : w.heap.size ≠ w7.heap.size := (by have := HB7.out.size; omega); clear hp7 hb7 hk7)
            | (refine app32 _ ?_ (.tmp 21) (.tmp 22) ?_ w2.heap.size _ R2.out ?_ PA pc p ?_ HPN.out (HCL.out _ L2.out) hp20 ?_ ?_; exact rfl; exact rfl; exact rfl; exact rfl; exact L2.out.size; intro v7 w7 hp7 hb7 hk7; have HP7 := Lib.hid hp7; have HB7 := Lib.hid (L2.out.trans hb7); have HKS7 := Lib.hid (keep5 HBXX.out hls2 HB7.out); have HNA : Hid (∀ k, (w7.alloc (.cells #[.int .i64 0, .string ⟨#[]⟩, .string ⟨#[]⟩, .slice none 0 0, .string ⟨#[]⟩] 24)).heap.size ≤ k → k ≠ w7.heap.size) := fun k hk => (by simp at hk; omega); have HPA : Hid (PI (w7.alloc (.cells #[.int .i64 0, .string ⟨#[]⟩, .string ⟨#[]⟩, .slice none 0 0, .string ⟨#[]⟩] 24)) (w7.alloc (.cells #[.int .i64 0, .string ⟨#[]⟩, .string ⟨#[]⟩, .slice none 0 0, .string ⟨#[]⟩] 24)).heap.size v7 p) := (PI.below hp7 ((Below.refl _ _).alloc (Nat.le_refl _) _)).more (by simp); have hne7 : w.heap.size ≠ w7.heap.size := (by have := HB7.out.size; omega); have HNE : Hid (∀ k, w7.heap.size ≤ k → k ≠ w2.heap.size) := fun k hk => (by have h0 := hb7.size; simp at h0; omega); have HLE : Hid (w2.heap.size ≤ w2.heap.size) := Nat.le_refl _; have HZ7 : Hid (Bk w7 w2.heap.size (.int .i64 0) (.string ⟨#[]⟩) (.string ⟨#[]⟩) (.slice none 0 0) (.string ⟨#[]⟩)) := (hk7 w2.heap.size (by simp; omega) (by omega)).trans Z2.out; clear hp7 hb7 hk7)
            | (refine app32 _ ?_ (.tmp 21) (.tmp 22) ?_ w2.heap.size _ R3.out ?_ PA pc p ?_ HPN.out (HCL.out _ L3.out) hp20 ?_ ?_; exact rfl; exact rfl; exact rfl; exact rfl; exact L3.out.size; intro v7 w7 hp7 hb7 hk7; have HP7 := Lib.hid hp7; have HB7 := Lib.hid (L3.out.trans hb7); have HKS7 := Lib.hid (keep5 HBXX.out hls2 HB7.out); have HNA : Hid (∀ k, (w7.alloc (.cells #[.int .i64 0, .string ⟨#[]⟩, .string ⟨#[]⟩, .slice none 0 0, .string ⟨#[]⟩] 24)).heap.size ≤ k → k ≠ w7.heap.size) := fun k hk => (by simp at hk; omega); have HPA : Hid (PI (w7.alloc (.cells #[.int .i64 0, .string ⟨#[]⟩, .string ⟨#[]⟩, .slice none 0 0, .string ⟨#[]⟩] 24)) (w7.alloc (.cells #[.int .i64 0, .string ⟨#[]⟩, .string ⟨#[]⟩, .slice none 0 0, .string ⟨#[]⟩] 24)).heap.size v7 p) := (PI.below hp7 ((Below.refl _ _).alloc (Nat.le_refl _) _)).more (by simp); have hne7 : w.heap.size ≠ w7.heap.size := (by have := HB7.out.size; omega); have HNE : Hid (∀ k, w7.heap.size ≤ k → k ≠ w2.heap.size + 1) := fun k hk => (by have h0 := hb7.size; simp at h0; omega); have HLE : Hid (w2.heap.size ≤ w2.heap.size + 1) := Nat.le_succ _; have HZ7 : Hid (Bk w7 (w2.heap.size + 1) (.int .i64 0) (.string ⟨#[]⟩) (.string ⟨#[]⟩) (.slice none 0 0) (.string ⟨#[]⟩)) := (hk7 (w2.heap.size + 1) (by simp) (by omega)).trans Z3.out; clear hp7 hb7 hk7))
        all_goals
          refine NoPanic.normal ?_
          go_wp2_with fail
          go_meet
          case rel => exact ⟨_, A8, c8, rfl, rfl, HP9.out⟩
      case rest =>
        obtain ⟨bz, A8, c8, rfl, rfl, HP5⟩ := hcut
        obtain ⟨hbk, htv, hbl, hle⟩ := HP5.out
        obtain ⟨d0, d1, d2, d3, d4⟩ := keep5 HBXX.out hls2 hbl
        have HBK := Lib.hid hbk
        have HTV := Lib.hid htv
        have HB3 := Lib.hid hbl
        have HC := Lib.hid (HC25.out _ hbl)
        clear hbk htv hbl hle HP5 k0 k1 k2 k3 k4
        go_wp2_with fail
        refine HC.out.mono ?_
        rintro e w4 ⟨A9, c9, rfl, hv9, hb9⟩
        have HB4 := Lib.hid (HB3.out.trans (hb9.mono HB3.out.size))
        have hba : Below w4.heap.size w4 (w4.alloc (.cells #[.int .i64 rt.kind, .string ⟨rt.name.toArray⟩, .string ⟨rt.var.toArray⟩, .slice A9 rt.args.length c9, .string ⟨rt.form.toArray⟩] 24)) := (Below.refl _ _).alloc (Nat.le_refl _) _
        have HB5 := Lib.hid (HB4.out.trans (hba.mono HB4.out.size))
        have HBK5 := Lib.hid ((HBK.out.reach hb9).reach hba)
        have HT5 := Lib.hid ((HTV.out.reach hb9).reach hba)
        have HV5 := Lib.hid (hv9.reach hba)
        have HE := Lib.hid (eq18_any rt rt A8 c8 A9 c9 _ HT5.out HV5.out)
        have HSELF : Hid (eqT rt rt = true) := (eqT_iff rt rt).2 rfl
        rw [HSELF.out] at HE
        unfold tv at HE
        obtain ⟨⟨f0, f1, f2, f3, f4⟩, ff, fl⟩ := HBK5.out.cells
        clear hv9 hb9 hba d0 d1 d2 d3 d4 HC
        unfold tv
        go_wp2_with fail
        refine HE.out.mono ?_
        rintro e w6 ⟨rfl, hb6⟩
        have HB6 := Lib.hid (HB5.out.trans (hb6.mono HB5.out.size))
        clear hb6
        go_wp2_with fail
        go_ret
        exact ⟨by simp, HB2.out.trans (HB6.out.mono HB2.out.size)⟩
end Go.Proofs.Ytkjhfbgdmmnadaa
