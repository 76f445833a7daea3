/- The walk of the law RationalProducts. -/
import Derived.Test.YtaekhbhjgcmghaaDoorMakeLaw
import Derived.Test.YtaekhbhjgcmghaaDoorRoot
import Derived.Deep.DeepCutAuto
import Derived.RegionTactic
import Derived.BigRegion
namespace Go.Proofs.YtaekhbhjgcmghaaDoor
open Go.RowKit

set_option maxRecDepth 100000 in
set_option maxHeartbeats 4000000 in
theorem products_walk (a b c d : Int) (w : World) (ha : -9223372036854775808 ≤ a) (hA : a ≤ 9223372036854775807) (hb : -9223372036854775808 ≤ b) (hB : b ≤ 9223372036854775807) (hc : -9223372036854775808 ≤ c) (hC : c ≤ 9223372036854775807) (hd : -9223372036854775808 ≤ d) (hD : d ≤ 9223372036854775807) (ht : Tab w) :
    Calls Tryd.prog 8 #[.agg #[.int .i64 a, .int .i64 b], .agg #[.int .i64 c, .int .i64 d]] w fun e w' => e = .returned (.bool true) ∧ Below w.heap.size w w' := by
  have HTW := Lib.hid ht
  have hX := ((Two.new w (.int .i64 a) (.int .i64 b) 28).alloc (.cells #[.int .i64 c, .int .i64 d] 28))
  have hY := (Two.new1 w (.cells #[.int .i64 a, .int .i64 b] 28) (.int .i64 c) (.int .i64 d) 28)
  have h3 : Below w.heap.size w ((w.alloc (.cells #[.int .i64 a, .int .i64 b] 28)).alloc (.cells #[.int .i64 c, .int .i64 d] 28)) := ((Below.refl _ _).alloc (Nat.le_refl _) _).alloc (by simp) _
  have H := Lib.hid (And.intro hX (And.intro hY h3))
  clear hX hY h3 ht
  go_enter Tryd.func8, Tryd.ntmps8
  go_wp2_with fail
  refine (awake_any _ (HTW.out.below H.out.2.2)).mono ?_
  rintro e w1 ⟨rfl, hb1⟩
  obtain ⟨hX, hY, h3⟩ := H.out
  have hX1 := hX.below hb1
  have hY1 := hY.below hb1
  have HB1 := Lib.hid (h3.trans (hb1.mono h3.size))
  have H1 := Lib.hid (And.intro hX1 hY1)
  obtain ⟨x0, x1, xf, xl⟩ := hX1
  obtain ⟨y0, y1, yf, yl⟩ := hY1
  clear hX hY h3 hb1 H
  go_upto_region 3 with (fail)
  go_cut [5, 6] (fun s5 s6 wx => ∃ b5 b6 : Nat, s5 = .pointer (some ⟨b5, 0, none⟩) ∧ s6 = .pointer (some ⟨b6, 0, none⟩) ∧ Aside (Two wx b5 (.int .i64 a) (.int .i64 b)) ∧ Aside (Two wx b6 (.int .i64 c) (.int .i64 d)) ∧ Aside (Below w1.heap.size w1 wx))
  case first =>
    go_region
    · go_wp2_with fail
      go_meet
      exact ⟨w1.heap.size, w1.heap.size + 1, rfl, rfl, Two.drew ((Two.new _ _ _ _).alloc _), Two.drew (Two.new1 _ _ _ _ _), (((Below.refl _ _).alloc (Nat.le_refl _) _).alloc (by simp) _).drew⟩
    · go_wp2_with fail
      go_meet
      exact ⟨w1.heap.size + 1, w1.heap.size, rfl, rfl, Two.drew (Two.new1 _ _ _ _ _), Two.drew ((Two.new _ _ _ _).alloc _), (((Below.refl _ _).alloc (Nat.le_refl _) _).alloc (by simp) _).drew⟩
  case rest =>
    obtain ⟨b5, b6, rfl, rfl, T5, T6, BX⟩ := hcut
    have hpx := H1.out.1.below BX.out
    have hqx := H1.out.2.below BX.out
    have HB2 := Lib.hid (HB1.out.trans (BX.out.mono HB1.out.size))
    have hsx := HB2.out.size
    clear x0 x1 xf xl y0 y1 yf yl
    obtain ⟨w2, hw2⟩ : ∃ w2 : World, w2 = wc := ⟨_, rfl⟩
    rw [← hw2] at T5 T6 hpx hqx HB2 hsx
    rw [← hw2]
    clear hw2 BX H1 HB1
    have hx5 := T5.out
    have hx6 := T6.out
    clear T5 T6
    have HA2 := Lib.hid (And.intro hsx HB2)
    have xz := hx5
    obtain ⟨x0, x1, xf, xl⟩ := xz
    have yz := hx6
    obtain ⟨y0, y1, yf, yl⟩ := yz
    go_wp2_with fail
    refine (mul_any a b c d _ ha hA hb hB hc hC hd hD).mono ?_
    rintro e w3 ⟨rfl, hbn⟩
    clear x0 x1 xf xl
    clear y0 y1 yf yl
    have hpx_ := hpx.below hbn
    have hqx_ := hqx.below hbn
    have hx5_ := hx5.below hbn
    have hx6_ := hx6.below hbn
    have HBn := Lib.hid (HB2.out.trans (hbn.mono hsx))
    have hsn := HBn.out.size
    clear hpx hqx hx5 hx6 hbn HB2 hsx HA2
    have hpx := hpx_
    clear hpx_
    have hqx := hqx_
    clear hqx_
    have hx5 := hx5_
    clear hx5_
    have hx6 := hx6_
    clear hx6_
    have HB2 := HBn
    have hsx := hsn
    clear HBn hsn
    obtain ⟨rs, hrs⟩ : ∃ r, r = mulQ a b c d := ⟨_, rfl⟩
    rw [← hrs]
    have HRs := Lib.hid hrs
    clear hrs
    obtain ⟨ns, ds, es⟩ := rs
    simp only [Res.val]
    have HA3 := Lib.hid (And.intro hsx HB2)
    have pz := hpx
    obtain ⟨p0, p1, pf, pl⟩ := pz
    have qz := hqx
    obtain ⟨q0, q1, qf, ql⟩ := qz
    go_wp2_with fail
    refine (refMul_any a b c d _ ha hA hb hB hc hC hd hD).mono ?_
    rintro e w4 ⟨rfl, hbn⟩
    clear p0 p1 pf pl
    clear q0 q1 qf ql
    have hpx_ := (hpx.alloc _).below hbn
    have hqx_ := (hqx.alloc _).below hbn
    have hx5_ := (hx5.alloc _).below hbn
    have hx6_ := (hx6.alloc _).below hbn
    have h_sa := (Two.new w3 (.int .i64 ns) (.int .i64 ds) 24).below hbn
    have HBn := Lib.hid ((HB2.out.alloc hsx _).trans (hbn.mono (by simp; omega)))
    have hsn := HBn.out.size
    clear hpx hqx hx5 hx6 hbn HB2 hsx HA3
    have hpx := hpx_
    clear hpx_
    have hqx := hqx_
    clear hqx_
    have hx5 := hx5_
    clear hx5_
    have hx6 := hx6_
    clear hx6_
    have HB2 := HBn
    have hsx := hsn
    clear HBn hsn
    rw [← HRs.out]
    simp only [Res.val]
    have HA4 := Lib.hid (And.intro hsx HB2)
    have xz := hx5
    obtain ⟨x0, x1, xf, xl⟩ := xz
    have yz := hx6
    obtain ⟨y0, y1, yf, yl⟩ := yz
    go_wp2_with fail
    refine (div_any a b c d _ ha hA hb hB hc hC hd hD).mono ?_
    rintro e w5 ⟨rfl, hbn⟩
    clear x0 x1 xf xl
    clear y0 y1 yf yl
    have hpx_ := (hpx.alloc _).below hbn
    have hqx_ := (hqx.alloc _).below hbn
    have hx5_ := (hx5.alloc _).below hbn
    have hx6_ := (hx6.alloc _).below hbn
    have h_sa_ := (h_sa.alloc _).below hbn
    have h_sb := (Two.new w4 (.int .i64 ns) (.int .i64 ds) 28).below hbn
    have HBn := Lib.hid ((HB2.out.alloc hsx _).trans (hbn.mono (by simp; omega)))
    have hsn := HBn.out.size
    clear hpx hqx hx5 hx6 h_sa hbn HB2 hsx HA4
    have hpx := hpx_
    clear hpx_
    have hqx := hqx_
    clear hqx_
    have hx5 := hx5_
    clear hx5_
    have hx6 := hx6_
    clear hx6_
    have h_sa := h_sa_
    clear h_sa_
    have HB2 := HBn
    have hsx := hsn
    clear HBn hsn
    obtain ⟨rt, hrt⟩ : ∃ r, r = divQ a b c d := ⟨_, rfl⟩
    rw [← hrt]
    have HRt := Lib.hid hrt
    clear hrt
    obtain ⟨nt, dt, et⟩ := rt
    simp only [Res.val]
    have HA5 := Lib.hid (And.intro hsx HB2)
    have pz := hpx
    obtain ⟨p0, p1, pf, pl⟩ := pz
    have qz := hqx
    obtain ⟨q0, q1, qf, ql⟩ := qz
    go_wp2_with fail
    refine (refDiv_any a b c d _ ha hA hb hB hc hC hd hD).mono ?_
    rintro e w6 ⟨rfl, hbn⟩
    clear p0 p1 pf pl
    clear q0 q1 qf ql
    have hpx_ := (hpx.alloc _).below hbn
    have hqx_ := (hqx.alloc _).below hbn
    have hx5_ := (hx5.alloc _).below hbn
    have hx6_ := (hx6.alloc _).below hbn
    have h_sa_ := (h_sa.alloc _).below hbn
    have h_sb_ := (h_sb.alloc _).below hbn
    have h_ta := (Two.new w5 (.int .i64 nt) (.int .i64 dt) 24).below hbn
    have HBn := Lib.hid ((HB2.out.alloc hsx _).trans (hbn.mono (by simp; omega)))
    have hsn := HBn.out.size
    clear hpx hqx hx5 hx6 h_sa h_sb hbn HB2 hsx HA5
    have hpx := hpx_
    clear hpx_
    have hqx := hqx_
    clear hqx_
    have hx5 := hx5_
    clear hx5_
    have hx6 := hx6_
    clear hx6_
    have h_sa := h_sa_
    clear h_sa_
    have h_sb := h_sb_
    clear h_sb_
    have HB2 := HBn
    have hsx := hsn
    clear HBn hsn
    rw [← HRt.out]
    simp only [Res.val]
    have HA6 := Lib.hid (And.intro hsx HB2)
    have xz := hx5
    obtain ⟨x0, x1, xf, xl⟩ := xz
    go_wp2_with fail
    refine (root_any a b _ ha hA hb hB).mono ?_
    rintro e w7 ⟨rfl, hbn⟩
    clear x0 x1 xf xl
    have hpx_ := (hpx.alloc _).below hbn
    have hqx_ := (hqx.alloc _).below hbn
    have hx5_ := (hx5.alloc _).below hbn
    have hx6_ := (hx6.alloc _).below hbn
    have h_sa_ := (h_sa.alloc _).below hbn
    have h_sb_ := (h_sb.alloc _).below hbn
    have h_ta_ := (h_ta.alloc _).below hbn
    have h_tb := (Two.new w6 (.int .i64 nt) (.int .i64 dt) 28).below hbn
    have HBn := Lib.hid ((HB2.out.alloc hsx _).trans (hbn.mono (by simp; omega)))
    have hsn := HBn.out.size
    clear hpx hqx hx5 hx6 h_sa h_sb h_ta hbn HB2 hsx HA6
    have hpx := hpx_
    clear hpx_
    have hqx := hqx_
    clear hqx_
    have hx5 := hx5_
    clear hx5_
    have hx6 := hx6_
    clear hx6_
    have h_sa := h_sa_
    clear h_sa_
    have h_sb := h_sb_
    clear h_sb_
    have h_ta := h_ta_
    clear h_ta_
    have HB2 := HBn
    have hsx := hsn
    clear HBn hsn
    obtain ⟨ru, hru⟩ : ∃ r, r = rootQ a b := ⟨_, rfl⟩
    rw [← hru]
    have HRu := Lib.hid hru
    clear hru
    obtain ⟨nu, du, eu⟩ := ru
    simp only [Res.val]
    have HA7 := Lib.hid (And.intro hsx HB2)
    have pz := hpx
    obtain ⟨p0, p1, pf, pl⟩ := pz
    go_wp2_with fail
    refine (refRoot_any a b _ ha hA hb hB).mono ?_
    rintro e w8 ⟨rfl, hbn⟩
    clear p0 p1 pf pl
    have hpx_ := (hpx.alloc _).below hbn
    have hqx_ := (hqx.alloc _).below hbn
    have hx5_ := (hx5.alloc _).below hbn
    have hx6_ := (hx6.alloc _).below hbn
    have h_sa_ := (h_sa.alloc _).below hbn
    have h_sb_ := (h_sb.alloc _).below hbn
    have h_ta_ := (h_ta.alloc _).below hbn
    have h_tb_ := (h_tb.alloc _).below hbn
    have h_ua := (Two.new w7 (.int .i64 nu) (.int .i64 du) 24).below hbn
    have HBn := Lib.hid ((HB2.out.alloc hsx _).trans (hbn.mono (by simp; omega)))
    have hsn := HBn.out.size
    clear hpx hqx hx5 hx6 h_sa h_sb h_ta h_tb hbn HB2 hsx HA7
    have hpx := hpx_
    clear hpx_
    have hqx := hqx_
    clear hqx_
    have hx5 := hx5_
    clear hx5_
    have hx6 := hx6_
    clear hx6_
    have h_sa := h_sa_
    clear h_sa_
    have h_sb := h_sb_
    clear h_sb_
    have h_ta := h_ta_
    clear h_ta_
    have h_tb := h_tb_
    clear h_tb_
    have HB2 := HBn
    have hsx := hsn
    clear HBn hsn
    rw [← HRu.out]
    simp only [Res.val]
    have HA8 := Lib.hid (And.intro hsx HB2)
    have saz := h_sa
    obtain ⟨sa0, sa1, saf, sal⟩ := saz
    have sbz := h_sb
    obtain ⟨sb0, sb1, sbf, sbl⟩ := sbz
    go_wp2_with fail
    refine (is_same ns ds es _).mono ?_
    rintro e w9 ⟨rfl, hbn⟩
    clear sa0 sa1 saf sal
    clear sb0 sb1 sbf sbl
    have hpx_ := (hpx.alloc _).below hbn
    have hqx_ := (hqx.alloc _).below hbn
    have hx5_ := (hx5.alloc _).below hbn
    have hx6_ := (hx6.alloc _).below hbn
    have h_sa_ := (h_sa.alloc _).below hbn
    have h_sb_ := (h_sb.alloc _).below hbn
    have h_ta_ := (h_ta.alloc _).below hbn
    have h_tb_ := (h_tb.alloc _).below hbn
    have h_ua_ := (h_ua.alloc _).below hbn
    have h_ub := (Two.new w8 (.int .i64 nu) (.int .i64 du) 28).below hbn
    have HBn := Lib.hid ((HB2.out.alloc hsx _).trans (hbn.mono (by simp; omega)))
    have hsn := HBn.out.size
    clear hpx hqx hx5 hx6 h_sa h_sb h_ta h_tb h_ua hbn HB2 hsx HA8
    have hpx := hpx_
    clear hpx_
    have hqx := hqx_
    clear hqx_
    have hx5 := hx5_
    clear hx5_
    have hx6 := hx6_
    clear hx6_
    have h_sa := h_sa_
    clear h_sa_
    have h_sb := h_sb_
    clear h_sb_
    have h_ta := h_ta_
    clear h_ta_
    have h_tb := h_tb_
    clear h_tb_
    have h_ua := h_ua_
    clear h_ua_
    have HB2 := HBn
    have hsx := hsn
    clear HBn hsn
    have HA9 := Lib.hid (And.intro hsx HB2)
    have taz := h_ta
    obtain ⟨ta0, ta1, taf, tal⟩ := taz
    have tbz := h_tb
    obtain ⟨tb0, tb1, tbf, tbl⟩ := tbz
    go_wp2_with fail
    refine (is_same nt dt et _).mono ?_
    rintro e w10 ⟨rfl, hbn⟩
    clear ta0 ta1 taf tal
    clear tb0 tb1 tbf tbl
    have hpx_ := hpx.below hbn
    have hqx_ := hqx.below hbn
    have hx5_ := hx5.below hbn
    have hx6_ := hx6.below hbn
    have h_sa_ := h_sa.below hbn
    have h_sb_ := h_sb.below hbn
    have h_ta_ := h_ta.below hbn
    have h_tb_ := h_tb.below hbn
    have h_ua_ := h_ua.below hbn
    have h_ub_ := h_ub.below hbn
    have HBn := Lib.hid (HB2.out.trans (hbn.mono hsx))
    have hsn := HBn.out.size
    clear hpx hqx hx5 hx6 h_sa h_sb h_ta h_tb h_ua h_ub hbn HB2 hsx HA9
    have hpx := hpx_
    clear hpx_
    have hqx := hqx_
    clear hqx_
    have hx5 := hx5_
    clear hx5_
    have hx6 := hx6_
    clear hx6_
    have h_sa := h_sa_
    clear h_sa_
    have h_sb := h_sb_
    clear h_sb_
    have h_ta := h_ta_
    clear h_ta_
    have h_tb := h_tb_
    clear h_tb_
    have h_ua := h_ua_
    clear h_ua_
    have h_ub := h_ub_
    clear h_ub_
    have HB2 := HBn
    have hsx := hsn
    clear HBn hsn
    have HA10 := Lib.hid (And.intro hsx HB2)
    have uaz := h_ua
    obtain ⟨ua0, ua1, uaf, ual⟩ := uaz
    have ubz := h_ub
    obtain ⟨ub0, ub1, ubf, ubl⟩ := ubz
    go_wp2_with fail
    refine (is_same nu du eu _).mono ?_
    rintro e w11 ⟨rfl, hbn⟩
    clear ua0 ua1 uaf ual
    clear ub0 ub1 ubf ubl
    have hpx_ := hpx.below hbn
    have hqx_ := hqx.below hbn
    have hx5_ := hx5.below hbn
    have hx6_ := hx6.below hbn
    have h_sa_ := h_sa.below hbn
    have h_sb_ := h_sb.below hbn
    have h_ta_ := h_ta.below hbn
    have h_tb_ := h_tb.below hbn
    have h_ua_ := h_ua.below hbn
    have h_ub_ := h_ub.below hbn
    have HBn := Lib.hid (HB2.out.trans (hbn.mono hsx))
    have hsn := HBn.out.size
    clear hpx hqx hx5 hx6 h_sa h_sb h_ta h_tb h_ua h_ub hbn HB2 hsx HA10
    have hpx := hpx_
    clear hpx_
    have hqx := hqx_
    clear hqx_
    have hx5 := hx5_
    clear hx5_
    have hx6 := hx6_
    clear hx6_
    have h_sa := h_sa_
    clear h_sa_
    have h_sb := h_sb_
    clear h_sb_
    have h_ta := h_ta_
    clear h_ta_
    have h_tb := h_tb_
    clear h_tb_
    have h_ua := h_ua_
    clear h_ua_
    have h_ub := h_ub_
    clear h_ub_
    have HB2 := HBn
    have hsx := hsn
    clear HBn hsn
    go_wp2
    go_ret
    exact ⟨ret_bool (by simp), HB2.out⟩
end Go.Proofs.YtaekhbhjgcmghaaDoor
