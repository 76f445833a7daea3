/- Contract of the reference's Fresh 27. -/
import Derived.Test.YtkjhfbgdmmnadaaGreatFrs
import Derived.Test.YtkjhfbgdmmnadaaGreatRVal
import Derived.Test.YtkjhfbgdmmnadaaGreatRLw
namespace Go.Proofs.YtkjhfbgdmmnadaaGreat
open Go.RowKit

theorem word1 (w : World) : SL (w.alloc (.cells #[.string ⟨#[]⟩] 9)) (w.alloc (.cells #[.string ⟨#[]⟩] 9)).heap.size (.slice (some ⟨w.heap.size, 0, none⟩) 1 1) (wds 0 1) := by
  rw [wds_zero]
  refine ⟨some ⟨w.heap.size, 0, none⟩, 1, rfl, ⟨Nat.le_refl _, by omega⟩, fun _ => ⟨_, 0, rfl, by simp, fun j hj => ?_⟩⟩
  have hj0 : j = 0 := by simp at hj; exact hj
  subst hj0
  simp

theorem lets_ext_all : (List.range 52).all (fun k => ((ByteArray.mk lets.toArray).extract k (k + 1)).data.toList == [lets.getD k 0]) = true := by decide +kernel
theorem lets_ext (k : Nat) (h : k < 52) : ∃ c, (ByteArray.mk lets.toArray).extract k (k + 1) = ⟨#[c]⟩ ∧ isL c = true ∧ rk c = k := by
  have h1 := List.all_eq_true.1 lets_ext_all k (List.mem_range.2 h)
  obtain ⟨c, h2, h3, h4⟩ := lets_at k h
  have h5 : lets.getD k 0 = c := by rw [List.getD_eq_getElem?_getD, h2]; rfl
  rw [h5] at h1
  refine ⟨c, ?_, h3, h4⟩
  have h6 := eq_of_beq h1
  apply ByteArray.ext
  rw [← Array.toList_inj, h6]
theorem app1 (l : W8) (c : UInt8) : (⟨l.toArray⟩ : ByteArray) ++ ⟨#[c]⟩ = ⟨(l ++ [c]).toArray⟩ := by
  apply ByteArray.ext; simp

set_option maxRecDepth 100000 in
set_option maxHeartbeats 2000000 in
theorem fresh27_any (v : Value) (l : List W8) (w : World) (hv : SL w w.heap.size v l) (hl : l.length ≤ 2755) :
    Calls Tryz.prog 21 #[v] w fun e w' => e = .returned (.string ⟨(freshL l).toArray⟩) ∧ Below w.heap.size w w' := by
  have HV := Lib.hid hv
  have HM : Hid (1 ≤ freshN l ∧ freshN l ≤ 2756) := fresh_max hl
  clear hv
  go_enter Tryz.func21, Tryz.ntmps21
  go_wp2_with fail
  go_loopg [3, 4, 5, 6, 7] 2757 (fun gg s3 s4 s5 s6 s7 wr => ∃ a m : Nat, 52 * a + 1 ≤ freshN l ∧ Aside (m = 51 * a + 1) ∧ freshN l - a ≤ gg ∧ Aside (SL wr wr.heap.size s3 (wds a m)) ∧ Aside (Below w.heap.size w wr))
  case atStart => exact ⟨0, 1, HM.out.1, rfl, by have := HM.out.2; omega, word1 w, (Below.refl _ _).alloc (Nat.le_refl _) _⟩
  case round =>
    obtain ⟨a, m, ha, hm, hgg, HWD, HB⟩ := hrel
    rename World => wL
    have hfm := HM.out.2
    obtain ⟨A0, c0, hv0, ⟨hc1, hc2⟩, hcell⟩ := HWD.out
    rw [wds_len] at hv0 hc1
    subst hv0
    have HCELL := Lib.hid hcell
    clear hcell
    go_wp2_with fail
    go_loopg [4, 5, 6, 7] m (fun gg s4 s5 s6 s7 wx => ∃ i : Nat, i ≤ m ∧ m - i ≤ gg ∧ s5 = .int .i64 i ∧ 52 * a + 1 + 52 * i ≤ freshN l ∧ Aside (RL wx wL.heap.size s4 (wds (52 * a + 1) (52 * i))) ∧ Aside (Below wL.heap.size wL wx))
    case atStart => exact ⟨0, Nat.zero_le _, by omega, rfl, by omega, World.ownsRow_nil _ _ _ _, Below.refl _ _⟩
    case round =>
      obtain ⟨i, hi, hgg2, rfl, hN, HR, HB2⟩ := hrel
      by_cases hlt : i < m
      · have hltz : (i : Int) < (m : Int) := by omega
        have hil : i < (wds a m).length := by rw [wds_len]; exact hlt
        obtain ⟨b, o, rfl, hb, hx⟩ := HCELL.out (by intro e; rw [e] at hil; simp at hil)
        have hx1 := hx i hil
        rw [wds_at] at hx1
        have HX1 := Lib.hid hx1
        clear hx hx1
        go_wp2_with fail
        go_loopg [4, 6, 7] 52 (fun gg s4 s6 s7 wy => ∃ k : Nat, k ≤ 52 ∧ 52 - k ≤ gg ∧ s6 = .int .i64 k ∧ 52 * a + 1 + (52 * i + k) ≤ freshN l ∧ Aside (RL wy wL.heap.size s4 (wds (52 * a + 1) (52 * i + k))) ∧ Aside (Below wL.heap.size wL wy))
        case atStart => exact ⟨0, by omega, by omega, rfl, by omega, HR, HB2⟩
        case round =>
          obtain ⟨k, hk, hgg3, rfl, hN2, HR2, HB3⟩ := hrel
          by_cases hkl : k < 52
          · have hkz : (k : Int) < 52 := by omega
            have hck : wr.cell? ⟨b, o + i, none⟩ = some (.string ⟨(wd (a + i)).toArray⟩) := (HB3.out.cell (p := ⟨b, o + i, none⟩) hb).trans HX1.out
            obtain ⟨c, hex, hcl, hck2⟩ := lets_ext k hkl
            unfold lets at hex
            have HNX := Lib.hid (wd_next a i k c hcl hck2)
            have hwl : 1 ≤ 52 * a + 1 + (52 * i + k) := by omega
            have hw2 := (wd_len hwl (by omega)).2
            have hwa : (wd (a + i)).length ≤ 2 := by
              rw [← HNX.out, List.length_append] at hw2; omega
            have hnl : ¬ 9223372036854775807 < (wd (a + i)).length + 1 := by omega
            go_upto_region 9 with (fail)
            go_big_quiet (fail)
            rw [app1, HNX.out]
            have HRn := Lib.hid (HR2.out.bel (below_drewNB (Below.refl _ _) nq))
            have HBn := Lib.hid (below_drewNB HB3.out nq)
            generalize wr.drewN nq = wn at *
            have HSZ := Lib.hid HBn.out.size
            have HWn := Lib.hid (HB.out.trans (HBn.out.mono HB.out.size))
            have hN1 : 1 ≤ 52 * a + 1 + (52 * i + k) := hwl
            have HG : Hid (good l (wd (52 * a + 1 + (52 * i + k))) = (identB (wd (52 * a + 1 + (52 * i + k))) && !l.contains (wd (52 * a + 1 + (52 * i + k))))) := rfl
            have HI := Lib.hid (fun ww => ident29L (wd (52 * a + 1 + (52 * i + k))) ww (by omega))
            have HST := Lib.hid (fun h => fresh_stop hl hN1 hN2 h)
            have HGO := Lib.hid (fun h => fresh_go hl hN2 h)
            have HSN : Hid (wds (52 * a + 1) (52 * i + (k + 1)) = wds (52 * a + 1) (52 * i + k) ++ [wd (52 * a + 1 + (52 * i + k))]) := wds_snoc _ _
            have HLN := Lib.hid (wds_len (52 * a + 1) (52 * i + k))
            generalize hy : wd (52 * a + 1 + (52 * i + k)) = y at *
            generalize hws : wds (52 * a + 1) (52 * i + k) = ws at *
            clear hck HR2 HB3 HNX hw2 hwa hnl hex hcl hck2 hwl hy hws
            cases hid : identB y with
            | false =>
              rw [hid] at HI HG
              have HX := Lib.hid (HGO.out (by rw [HG.out]; rfl))
              clear hid HST HGO HG
              go_wp2_with fail
              refine (HI.out _).mono ?_
              rintro e w4 ⟨rfl, hb4⟩
              have HR4 := Lib.hid (HRn.out.bel hb4)
              have HB4 := Lib.hid (HBn.out.trans (hb4.mono HSZ.out))
              have HSZ4 := Lib.hid HB4.out.size
              clear hb4
              go_wp2_with (at_builtin; refine app30 w4 rfl _ _ rfl wL.heap.size _ ws y HR4.out rfl rfl (by have := HLN.out; omega) HSZ4.out ?_)
              intro v7 w7 hr7 hb7
              have HR7 : Hid (RL w7 wL.heap.size v7 (wds (52 * a + 1) (52 * i + (k + 1)))) := by rw [HSN.out]; exact hr7
              have HB7 := Lib.hid (HB4.out.trans hb7)
              clear hr7 hb7
              go_wp2_with fail
              go_roundg (52 - (k + 1))
              case measure => omega
              case rel => exact ⟨k + 1, by omega, by omega, by go_num, by have := HX.out; omega, HR7.out, HB7.out⟩
            | true =>
              rw [hid] at HI HG
              have HH := Lib.hid (fun w4 (hb : Below w.heap.size w w4) => has35_any _ v l y w4 ((HV.out.below hb)))
              have HHE : Hid (hasB l y = l.contains y) := rfl
              clear hid
              cases hc : l.contains y with
              | true =>
                rw [hc] at HG HHE
                rw [HHE.out] at HH
                have HX := Lib.hid (HGO.out (by rw [HG.out]; rfl))
                clear hc HST HGO HG HHE
                go_wp2_with fail
                refine (HI.out _).mono ?_
                rintro e w4 ⟨rfl, hb4⟩
                have HR4 := Lib.hid (HRn.out.bel hb4)
                have HB4 := Lib.hid (HBn.out.trans (hb4.mono HSZ.out))
                have HSZ4 := Lib.hid HB4.out.size
                have HC4 := Lib.hid (HH.out _ (HWn.out.trans (hb4.mono HWn.out.size)))
                clear hb4
                go_wp2_with fail
                refine HC4.out.mono ?_
                rintro e w5 ⟨rfl, rfl⟩
                go_wp2_with (at_builtin; refine app30 w4 rfl _ _ rfl wL.heap.size _ ws y HR4.out rfl rfl (by have := HLN.out; omega) HSZ4.out ?_)
                intro v7 w7 hr7 hb7
                have HR7 : Hid (RL w7 wL.heap.size v7 (wds (52 * a + 1) (52 * i + (k + 1)))) := by rw [HSN.out]; exact hr7
                have HB7 := Lib.hid (HB4.out.trans hb7)
                clear hr7 hb7
                go_wp2_with fail
                go_roundg (52 - (k + 1))
                case measure => omega
                case rel => exact ⟨k + 1, by omega, by omega, by go_num, by have := HX.out; omega, HR7.out, HB7.out⟩
              | false =>
                rw [hc] at HG HHE
                rw [HHE.out] at HH
                have HX := Lib.hid (HST.out (by rw [HG.out]; rfl))
                clear hc HST HGO HG HHE
                go_wp2_with fail
                refine (HI.out _).mono ?_
                rintro e w4 ⟨rfl, hb4⟩
                have HB4 := Lib.hid (HWn.out.trans (hb4.mono HWn.out.size))
                have HC4 := Lib.hid (HH.out _ HB4.out)
                clear hb4
                go_wp2_with fail
                refine HC4.out.mono ?_
                rintro e w5 ⟨rfl, rfl⟩
                go_wp2_with fail
                go_ret
                rw [HX.out]
                exact ⟨rfl, HB4.out⟩
          · have hkz : ¬ (k : Int) < 52 := by omega
            obtain rfl : k = 52 := by omega
            have hr3 := HR2.out
            rw [show 52 * i + 52 = 52 * (i + 1) from by omega] at hr3
            have HR3 := Lib.hid hr3
            clear hr3
            go_wp2_with fail
            go_roundg (m - (i + 1))
            case measure => omega
            case rel => exact ⟨i + 1, by omega, by omega, by go_num, by omega, HR3.out, HB3.out⟩
      · have hltz : ¬ (i : Int) < (m : Int) := by omega
        obtain rfl : i = m := by omega
        have HS := Lib.hid HR.out.sl
        have HBx := Lib.hid (HB.out.trans (HB2.out.mono HB.out.size))
        go_wp2_with fail
        go_roundg (freshN l - (52 * a + 1))
        case measure => omega
        case rel => exact ⟨52 * a + 1, 52 * i, by have := hm.out; omega, by have := hm.out; show _ = _; omega, by omega, HS.out, HBx.out⟩
end Go.Proofs.YtkjhfbgdmmnadaaGreat
