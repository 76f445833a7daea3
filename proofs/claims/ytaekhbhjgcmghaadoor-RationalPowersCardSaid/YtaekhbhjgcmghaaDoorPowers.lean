/- Walk of RationalPowers. -/
import Derived.Test.YtaekhbhjgcmghaaDoorPowL
import Derived.Test.YtaekhbhjgcmghaaDoorPow
import Derived.Test.YtaekhbhjgcmghaaDoorOps2
namespace Go.Proofs.YtaekhbhjgcmghaaDoor
open Go.RowKit

theorem den1_if (d : Int) : den1 d = if d = 0 then 1 else d := rfl
set_option maxRecDepth 100000 in
set_option maxHeartbeats 8000000 in
theorem powers_walk (q0 q1 m n : Int) (w0 : World) (h0 : -128 ≤ q0 ∧ q0 ≤ 127) (h1 : -128 ≤ q1 ∧ q1 ≤ 127) (hm : -128 ≤ m ∧ m ≤ 127) (hn : -128 ≤ n ∧ n ≤ 127) (ht : Tab w0) :
    Calls Tryd.prog 9 #[.agg #[.int .i8 q0, .int .i8 q1], .int .i8 m, .int .i8 n] w0 fun e w' => e = .returned (.bool true) ∧ Below w0.heap.size w0 w' := by
  obtain ⟨w, hw⟩ : ∃ w, w = w0 := ⟨_, rfl⟩
  have HT := Lib.hid ht
  clear ht
  obtain ⟨ox, vx⟩ := num3_ok q0 q1 (by omega) (by omega)
  obtain ⟨s1, s2⟩ := num3_small q0 q1 h0 h1
  have hmk : num3 q0 q1 = mk q0 (den1 q1) := rfl
  obtain ⟨rx, hrx⟩ : ∃ r, r = num3 q0 q1 := ⟨_, rfl⟩
  rw [← hrx] at ox vx s1 s2 hmk
  obtain ⟨xn, xd, xe⟩ := rx
  simp only at ox vx s1 s2
  subst ox
  clear hrx
  have VX := Lib.hid vx
  obtain ⟨bx1, bx2, bx3, bx4, _⟩ := (valid_iff _ _).1 vx
  have HL := Lib.hid (pow_law (m := m) (n := n) vx)
  have HSQ := Lib.hid (square_root vx (by omega) (by omega))
  have HNG : Hid (negQ xn xd = ⟨-xn, xd, 0⟩) := by show negQ xn xd = _; unfold negQ; rw [vx]; rfl
  have hsq := prod_bnd (a := xn) (b := xn) (by omega) (by omega) (by omega) (by omega)
  have hsq2 := prod_bnd (a := xd) (b := xd) (by omega) (by omega) (by omega) (by omega)
  obtain ⟨pa, hpa⟩ : ∃ r, r = powQ xn xd m := ⟨_, rfl⟩
  obtain ⟨pb, hpb⟩ : ∃ r, r = powQ xn xd n := ⟨_, rfl⟩
  obtain ⟨pc, hpc⟩ : ∃ r, r = powQ xn xd (m + n) := ⟨_, rfl⟩
  have ba := powQ_bnd (n := m) vx
  have bb := powQ_bnd (n := n) vx
  have bc := powQ_bnd (n := m + n) vx
  rw [← hpa] at ba HL
  rw [← hpb] at bb HL
  rw [← hpc] at bc HL
  have HPA := Lib.hid hpa
  have HPB := Lib.hid hpb
  have HPC := Lib.hid hpc
  clear hpa hpb hpc vx
  obtain ⟨an, ad, ae⟩ := pa
  obtain ⟨bn, bd, be⟩ := pb
  obtain ⟨cn, cd, ce⟩ := pc
  simp only at ba bb bc
  obtain ⟨po, hpo⟩ : ∃ r, r = op2 ⟨an, ad, ae⟩ ⟨bn, bd, be⟩ := ⟨_, rfl⟩
  rw [← hpo] at HL
  have HPO := Lib.hid hpo
  clear hpo
  obtain ⟨pn, pd, pe⟩ := po
  have HX := Lib.hid (Two.new w0 (.int .i8 q0) (.int .i8 q1) 58)
  have HB : Hid (Below w0.heap.size w0 (w0.alloc (.cells #[.int .i8 q0, .int .i8 q1] 58))) := Lib.hid ((Below.refl _ _).alloc (Nat.le_refl _) _)
  have hs := HB.out.size
  rw [den1_if] at hmk
  have hc : (q1 = 0 ∧ (⟨xn, xd, 0⟩ : Res) = mk q0 1) ∨ ((q1 == 0) = false ∧ (⟨xn, xd, 0⟩ : Res) = mk q0 q1) := by
    by_cases hz : q1 = 0
    · exact .inl ⟨hz, by rw [if_pos hz] at hmk; exact hmk⟩
    · exact .inr ⟨by simpa using hz, by rw [if_neg hz] at hmk; exact hmk⟩
  clear hmk hw
  rcases hc with ⟨rfl, hmk⟩ | ⟨hz, hmk⟩
  all_goals
    have HMK := Lib.hid hmk
    clear hmk
    go_enter Tryd.func9, Tryd.ntmps9
    obtain ⟨X0, X1, Xf, Xl⟩ := HX.out
    go_wp2_with fail
    refine (awake_any _ (HT.out.below HB.out)).mono ?_
    rintro e w1 ⟨rfl, hb⟩
    have GX := Lib.hid (HX.out.below hb)
    have GB := Lib.hid (HB.out.trans (hb.mono hs))
    clear hb hs HB X0 X1 Xf Xl HX
    have HX := GX
    have HB := GB
    have hs := HB.out.size
    clear GB GX
    obtain ⟨X0, X1, Xf, Xl⟩ := HX.out
    go_wp2_with fail
    refine (make_any _ _ _ (by omega) (by omega) (by omega) (by omega)).mono ?_
    rw [← HMK.out]
    simp only [Res.val]
    rintro e w2 ⟨rfl, hb⟩
    have GX := Lib.hid (HX.out.below hb)
    have GB := Lib.hid (HB.out.trans (hb.mono hs))
    clear hb hs HB X0 X1 Xf Xl HX
    have HX := GX
    have HB := GB
    have hs := HB.out.size
    clear GB GX
    go_wp2_with fail
    refine (pow_any xn xd m _ (by omega) (by omega) (by omega) (by omega) (by omega) (by omega)).mono ?_
    rw [← HPA.out]
    simp only [Res.val]
    rintro e w3 ⟨rfl, hb⟩
    have GX := Lib.hid ((HX.out.alloc (.cells #[.int .i64 xn, .int .i64 xd] 24)).below hb)
    have GY := Lib.hid ((Two.new w2 (.int .i64 xn) (.int .i64 xd) 24).below hb)
    have GB := Lib.hid ((HB.out.alloc hs (.cells #[.int .i64 xn, .int .i64 xd] 24)).trans (hb.mono (by simp; omega)))
    clear hb hs HB  HX
    have HX := GX
    have HY := GY
    have HB := GB
    have hs := HB.out.size
    clear GB GX GY
    obtain ⟨Y0, Y1, Yf, Yl⟩ := HY.out
    go_wp2_with fail
    refine (pow_any xn xd n _ (by omega) (by omega) (by omega) (by omega) (by omega) (by omega)).mono ?_
    rw [← HPB.out]
    simp only [Res.val]
    rintro e w4 ⟨rfl, hb⟩
    have GX := Lib.hid ((HX.out.alloc (.cells #[.int .i64 an, .int .i64 ad] 24)).below hb)
    have GY := Lib.hid ((HY.out.alloc (.cells #[.int .i64 an, .int .i64 ad] 24)).below hb)
    have GA := Lib.hid ((Two.new w3 (.int .i64 an) (.int .i64 ad) 24).below hb)
    have GB := Lib.hid ((HB.out.alloc hs (.cells #[.int .i64 an, .int .i64 ad] 24)).trans (hb.mono (by simp; omega)))
    clear hb hs HB Y0 Y1 Yf Yl HX HY
    have HX := GX
    have HY := GY
    have HA := GA
    have HB := GB
    have hs := HB.out.size
    clear GB GX GY GA
    obtain ⟨Y0, Y1, Yf, Yl⟩ := HY.out
    go_wp2_with fail
    refine (pow_any xn xd (m + n) _ (by omega) (by omega) (by omega) (by omega) (by omega) (by omega)).mono ?_
    rw [← HPC.out]
    simp only [Res.val]
    rintro e w5 ⟨rfl, hb⟩
    have GX := Lib.hid ((HX.out.alloc (.cells #[.int .i64 bn, .int .i64 bd] 24)).below hb)
    have GY := Lib.hid ((HY.out.alloc (.cells #[.int .i64 bn, .int .i64 bd] 24)).below hb)
    have GA := Lib.hid ((HA.out.alloc (.cells #[.int .i64 bn, .int .i64 bd] 24)).below hb)
    have GBb := Lib.hid ((Two.new w4 (.int .i64 bn) (.int .i64 bd) 24).below hb)
    have GB := Lib.hid ((HB.out.alloc hs (.cells #[.int .i64 bn, .int .i64 bd] 24)).trans (hb.mono (by simp; omega)))
    clear hb hs HB Y0 Y1 Yf Yl HX HY HA
    have HX := GX
    have HY := GY
    have HA := GA
    have HBb := GBb
    have HB := GB
    have hs := HB.out.size
    clear GB GX GY GA GBb
    obtain ⟨A0, A1, Af, Al⟩ := HA.out
    obtain ⟨Bb0, Bb1, Bbf, Bbl⟩ := HBb.out
    go_wp2_with fail
    refine (op2_any an ad ae bn bd be _ (by omega) (by omega) (by omega) (by omega) (by omega) (by omega) (by omega) (by omega)).mono ?_
    rw [← HPO.out]
    simp only [Res.val]
    rintro e w6 ⟨rfl, hb⟩
    have GX := Lib.hid ((HX.out.alloc (.cells #[.int .i64 cn, .int .i64 cd] 24)).below hb)
    have GY := Lib.hid ((HY.out.alloc (.cells #[.int .i64 cn, .int .i64 cd] 24)).below hb)
    have GA := Lib.hid ((HA.out.alloc (.cells #[.int .i64 cn, .int .i64 cd] 24)).below hb)
    have GBb := Lib.hid ((HBb.out.alloc (.cells #[.int .i64 cn, .int .i64 cd] 24)).below hb)
    have GC := Lib.hid ((Two.new w5 (.int .i64 cn) (.int .i64 cd) 24).below hb)
    have GB := Lib.hid ((HB.out.alloc hs (.cells #[.int .i64 cn, .int .i64 cd] 24)).trans (hb.mono (by simp; omega)))
    clear hb hs HB A0 A1 Af Al Bb0 Bb1 Bbf Bbl HX HY HA HBb
    have HX := GX
    have HY := GY
    have HA := GA
    have HBb := GBb
    have HC := GC
    have HB := GB
    have hs := HB.out.size
    clear GB GX GY GA GBb GC
    obtain ⟨C0, C1, Cf, Cl⟩ := HC.out
    go_wp2_with fail
    refine (agree_any pn pd pe cn cd ce _ HL.out).mono ?_
    rintro e w7 ⟨rfl, hb⟩
    have GX := Lib.hid ((HX.out.alloc (.cells #[.int .i64 pn, .int .i64 pd] 24)).below hb)
    have GY := Lib.hid ((HY.out.alloc (.cells #[.int .i64 pn, .int .i64 pd] 24)).below hb)
    have GA := Lib.hid ((HA.out.alloc (.cells #[.int .i64 pn, .int .i64 pd] 24)).below hb)
    have GBb := Lib.hid ((HBb.out.alloc (.cells #[.int .i64 pn, .int .i64 pd] 24)).below hb)
    have GC := Lib.hid ((HC.out.alloc (.cells #[.int .i64 pn, .int .i64 pd] 24)).below hb)
    have GP := Lib.hid ((Two.new w6 (.int .i64 pn) (.int .i64 pd) 24).below hb)
    have GB := Lib.hid ((HB.out.alloc hs (.cells #[.int .i64 pn, .int .i64 pd] 24)).trans (hb.mono (by simp; omega)))
    clear hb hs HB C0 C1 Cf Cl HX HY HA HBb HC
    have HX := GX
    have HY := GY
    have HA := GA
    have HBb := GBb
    have HC := GC
    have HP := GP
    have HB := GB
    have hs := HB.out.size
    clear GB GX GY GA GBb GC GP
    obtain ⟨Y0, Y1, Yf, Yl⟩ := HY.out
    go_wp2_with fail
    refine (mul_any xn xd xn xd _ (by omega) (by omega) (by omega) (by omega) (by omega) (by omega) (by omega) (by omega)).mono ?_
    rw [HSQ.out.1]
    simp only [Res.val]
    rintro e w8 ⟨rfl, hb⟩
    have GX := Lib.hid (HX.out.below hb)
    have GY := Lib.hid (HY.out.below hb)
    have GA := Lib.hid (HA.out.below hb)
    have GBb := Lib.hid (HBb.out.below hb)
    have GC := Lib.hid (HC.out.below hb)
    have GP := Lib.hid (HP.out.below hb)
    have GB := Lib.hid (HB.out.trans (hb.mono hs))
    clear hb hs HB Y0 Y1 Yf Yl HX HY HA HBb HC HP
    have HX := GX
    have HY := GY
    have HA := GA
    have HBb := GBb
    have HC := GC
    have HP := GP
    have HB := GB
    have hs := HB.out.size
    clear GB GX GY GA GBb GC GP
    go_wp2_with fail
    refine (root_any (xn * xn) (xd * xd) _ (by omega) (by omega) (by omega) (by omega)).mono ?_
    rw [HSQ.out.2]
    simp only [Res.val]
    rintro e w9 ⟨rfl, hb⟩
    have GX := Lib.hid ((HX.out.alloc (.cells #[.int .i64 (xn * xn), .int .i64 (xd * xd)] 24)).below hb)
    have GY := Lib.hid ((HY.out.alloc (.cells #[.int .i64 (xn * xn), .int .i64 (xd * xd)] 24)).below hb)
    have GA := Lib.hid ((HA.out.alloc (.cells #[.int .i64 (xn * xn), .int .i64 (xd * xd)] 24)).below hb)
    have GBb := Lib.hid ((HBb.out.alloc (.cells #[.int .i64 (xn * xn), .int .i64 (xd * xd)] 24)).below hb)
    have GC := Lib.hid ((HC.out.alloc (.cells #[.int .i64 (xn * xn), .int .i64 (xd * xd)] 24)).below hb)
    have GP := Lib.hid ((HP.out.alloc (.cells #[.int .i64 (xn * xn), .int .i64 (xd * xd)] 24)).below hb)
    have GS := Lib.hid ((Two.new w8 (.int .i64 (xn * xn)) (.int .i64 (xd * xd)) 24).below hb)
    have GB := Lib.hid ((HB.out.alloc hs (.cells #[.int .i64 (xn * xn), .int .i64 (xd * xd)] 24)).trans (hb.mono (by simp; omega)))
    clear hb hs HB  HX HY HA HBb HC HP
    have HX := GX
    have HY := GY
    have HA := GA
    have HBb := GBb
    have HC := GC
    have HP := GP
    have HS := GS
    have HB := GB
    have hs := HB.out.size
    clear GB GX GY GA GBb GC GP GS
    obtain ⟨Y0, Y1, Yf, Yl⟩ := HY.out
    by_cases hx : xn < 0
    · have hab : (xn.natAbs : Int) = -xn := by omega
      rw [hab]
      clear hab
      go_wp2_with fail
      refine (neg_any xn xd _ (by omega) (by omega) (by omega) (by omega)).mono ?_
      rw [HNG.out]
      simp only [Res.val]
      rintro e w10 ⟨rfl, hb⟩
      obtain ⟨r0, r1, rf, rl⟩ := ((Two.new w9 (.int .i64 (-xn)) (.int .i64 xd) 24).alloc (.cells #[.int .i64 xn, .int .i64 xd] 24)).below hb
      obtain ⟨z0, z1, zf, zl⟩ := (Two.new1 w9 (.cells #[.int .i64 (-xn), .int .i64 xd] 24) (.int .i64 xn) (.int .i64 xd) 24).below hb
      have GB := Lib.hid (((HB.out.alloc hs (.cells #[.int .i64 (-xn), .int .i64 xd] 24)).alloc (by simp; omega) (.cells #[.int .i64 xn, .int .i64 xd] 24)).trans (hb.mono (by simp; omega)))
      clear hb Y0 Y1 Yf Yl
      go_wp2
      go_ret
      exact ⟨rfl, (GB.out.setCell (by simp; omega) _).setCell (by simp; omega) _⟩
    · have hab : (xn.natAbs : Int) = xn := by omega
      rw [hab]
      clear hab
      go_wp2
      go_ret
      exact ⟨rfl, (HB.out.alloc hs _).alloc (by simp; omega) _⟩
end Go.Proofs.YtaekhbhjgcmghaaDoor
