/- Walk of RationalUndo. -/
import Derived.Test.YtaekhbhjgcmghaaDoorField
import Derived.Deep.DeepCutAuto
import Derived.RegionTactic
import Derived.BigRegion
namespace Go.Proofs.YtaekhbhjgcmghaaDoor
open Go.RowKit

theorem addQ_bnd (a b c d : Int) : -2147483647 ≤ (addQ a b c d).num ∧ (addQ a b c d).num ≤ 2147483647 ∧ 0 ≤ (addQ a b c d).den ∧ (addQ a b c d).den ≤ 2147483647 := by
  unfold addQ
  split
  · exact mk_bnd _ _
  · simp
theorem mulQ_bnd (a b c d : Int) : -2147483647 ≤ (mulQ a b c d).num ∧ (mulQ a b c d).num ≤ 2147483647 ∧ 0 ≤ (mulQ a b c d).den ∧ (mulQ a b c d).den ≤ 2147483647 := by
  unfold mulQ
  split
  · exact mk_bnd _ _
  · simp

set_option maxRecDepth 100000 in
set_option maxHeartbeats 4000000 in
theorem undo_walk (a0 a1 a2 a3 a4 a5 : Int) (w : World) (h0 : -32768 ≤ a0 ∧ a0 ≤ 32767) (h1 : -32768 ≤ a1 ∧ a1 ≤ 32767) (h2 : -32768 ≤ a2 ∧ a2 ≤ 32767) (h3 : -32768 ≤ a3 ∧ a3 ≤ 32767) (h4 : -32768 ≤ a4 ∧ a4 ≤ 32767) (h5 : -32768 ≤ a5 ∧ a5 ≤ 32767) (ht : Tab w) :
    Calls Tryd.prog 5 #[.agg #[.int .i16 a0, .int .i16 a1, .int .i16 a2, .int .i16 a3, .int .i16 a4, .int .i16 a5]] w fun e w' => e = .returned (.bool true) ∧ Below w.heap.size w w' := by
  have HT := Lib.hid ht
  clear ht
  obtain ⟨ox, vx⟩ := num3_ok a0 a1 h0 h1
  obtain ⟨oy, vy⟩ := num3_ok a2 a3 h2 h3
  obtain ⟨rx, hrx⟩ : ∃ r, r = num3 a0 a1 := ⟨_, rfl⟩
  obtain ⟨ry, hry⟩ : ∃ r, r = num3 a2 a3 := ⟨_, rfl⟩
  obtain ⟨rz, hrz⟩ : ∃ r, r = num3 a4 a5 := ⟨_, rfl⟩
  rw [← hrx] at ox vx
  rw [← hry] at oy vy
  have HRX := Lib.hid hrx
  have HRY := Lib.hid hry
  have HRZ := Lib.hid hrz
  clear hrx hry hrz
  obtain ⟨xn, xd, xe⟩ := rx
  obtain ⟨yn, yd, ye⟩ := ry
  obtain ⟨zn, zd, ze⟩ := rz
  simp only at ox vx oy vy
  have VX := Lib.hid vx
  have VY := Lib.hid vy
  obtain ⟨bx1, bx2, bx3, bx4, _⟩ := (valid_iff _ _).1 vx
  obtain ⟨by1, by2, by3, by4, _⟩ := (valid_iff _ _).1 vy
  clear vx vy ox oy
  have HS0 := Lib.hid (Six.new w (.int .i16 a0) (.int .i16 a1) (.int .i16 a2) (.int .i16 a3) (.int .i16 a4) (.int .i16 a5) 40)
  have HB0 : Hid (Below w.heap.size w (w.alloc (.cells #[.int .i16 a0, .int .i16 a1, .int .i16 a2, .int .i16 a3, .int .i16 a4, .int .i16 a5] 40))) := Lib.hid ((Below.refl _ _).alloc (Nat.le_refl _) _)
  go_enter Tryd.func5, Tryd.ntmps5
  go_wp2_with fail
  refine (awake_any _ (HT.out.below HB0.out)).mono ?_
  rintro e w1 ⟨rfl, hb1⟩
  have HB1 := Lib.hid (HB0.out.trans (hb1.mono HB0.out.size))
  obtain ⟨x0, x1, x2, x3, x4, x5, xf, xl⟩ := HS0.out.below hb1
  clear hb1 HS0 HB0
  go_wp2_with fail
  refine (numbers_any a0 a1 a2 a3 a4 a5 _ h0 h1 h2 h3 h4 h5).mono ?_
  rw [← HRX.out, ← HRY.out, ← HRZ.out]
  simp only
  rintro e w2 ⟨rfl, hb2⟩
  have HB2 := Lib.hid (HB1.out.trans (hb2.mono HB1.out.size))
  have hs2 := HB2.out.size
  clear hb2 x0 x1 x2 x3 x4 x5 xf xl
  go_upto_region 4 with (fail)
  have HS3 := Lib.hid (Six.new w2 (.int .i64 xn) (.int .i64 xd) (.int .i64 yn) (.int .i64 yd) (.int .i64 zn) (.int .i64 zd) 41)
  have HB3 := Lib.hid (HB2.out.alloc hs2 (.cells #[.int .i64 xn, .int .i64 xd, .int .i64 yn, .int .i64 yd, .int .i64 zn, .int .i64 zd] 41))
  obtain ⟨B3, hB3⟩ : ∃ B3, B3 = w2.heap.size := ⟨_, rfl⟩
  rw [← hB3] at HS3
  rw [← hB3]
  clear hB3
  generalize w2.alloc (.cells #[.int .i64 xn, .int .i64 xd, .int .i64 yn, .int .i64 yd, .int .i64 zn, .int .i64 zd] 41) = w3 at *
  obtain ⟨x0, x1, x2, x3, x4, x5, xf, xl⟩ := HS3.out
  go_cut [4, 5] (fun s4 s5 wx => ∃ b4 b5 : Nat, s4 = .pointer (some ⟨b4, 0, none⟩) ∧ s5 = .pointer (some ⟨b5, 0, none⟩) ∧ Aside (Two wx b4 (.int .i64 xn) (.int .i64 xd)) ∧ Aside (Two wx b5 (.int .i64 yn) (.int .i64 yd)) ∧ Aside (Below w3.heap.size w3 wx))
  case first =>
    go_region
    · go_wp2_with fail
      go_meet
      exact ⟨w3.heap.size, w3.heap.size + 1, rfl, rfl, Two.drew ((Two.new _ _ _ _).alloc _), Two.drew (Two.new1 _ _ _ _ _), (((Below.refl _ _).alloc (Nat.le_refl _) _).alloc (by simp) _).drew⟩
    · go_wp2_with fail
      go_meet
      exact ⟨w3.heap.size + 1, w3.heap.size, rfl, rfl, Two.drew (Two.new1 _ _ _ _ _), Two.drew ((Two.new _ _ _ _).alloc _), (((Below.refl _ _).alloc (Nat.le_refl _) _).alloc (by simp) _).drew⟩
  case rest =>
    obtain ⟨b4, b5, rfl, rfl, T4, T5, BX⟩ := hcut
    have HB4 := Lib.hid (HB3.out.trans (BX.out.mono HB3.out.size))
    clear x0 x1 x2 x3 x4 x5 xf xl
    obtain ⟨w4, hw4⟩ : ∃ w4 : World, w4 = wc := ⟨_, rfl⟩
    rw [← hw4] at T4 T5 HB4
    rw [← hw4]
    clear hw4 BX HB3
    have U4 := Lib.hid T4.out
    have U5 := Lib.hid T5.out
    clear T4 T5
    obtain ⟨p0, p1, _, _⟩ := U4.out
    obtain ⟨q0, q1, _, _⟩ := U5.out
    go_wp2_with fail
    refine (add_any xn xd yn yd _ (by omega) (by omega) (by omega) (by omega) (by omega) (by omega) (by omega) (by omega)).mono ?_
    have hun := fun h => undo_add (a := xn) (b := xd) (c := yn) (d := yd) h
    have hsb := addQ_bnd xn xd yn yd
    obtain ⟨r, hr⟩ : ∃ r, r = addQ xn xd yn yd := ⟨_, rfl⟩
    rw [← hr] at hun hsb
    rw [← hr]
    clear hr
    obtain ⟨sn, sd, se⟩ := r
    simp only at hun hsb
    simp only [Res.val]
    rintro e w5 ⟨rfl, hb5⟩
    have U4' := Lib.hid (U4.out.below hb5)
    have U5' := Lib.hid (U5.out.below hb5)
    have HB5 := Lib.hid (HB4.out.trans (hb5.mono HB4.out.size))
    clear hb5 U4 U5 p0 p1 q0 q1
    have HU := Lib.hid hun
    clear hun
    by_cases hse : se = 0
    · have HU2 := Lib.hid (HU.out hse)
      subst hse
      obtain ⟨p0, p1, _, _⟩ := U4'.out.alloc (.cells #[.int .i64 sn, .int .i64 sd] 24)
      obtain ⟨q0, q1, _, _⟩ := U5'.out.alloc (.cells #[.int .i64 sn, .int .i64 sd] 24)
      have hs5 := HB5.out.size
      go_wp2_with fail
      refine (sub_any sn sd yn yd _ (by omega) (by omega) (by omega) (by omega) (by omega) (by omega) (by omega) (by omega)).mono ?_
      rw [HU2.out]
      simp only [Res.val]
      rintro e w6 ⟨rfl, hb6⟩
      have V4 := Lib.hid ((U4'.out.alloc _).below hb6)
      have V5 := Lib.hid ((U5'.out.alloc _).below hb6)
      have HB6 := Lib.hid ((HB5.out.alloc hs5 _).trans (hb6.mono (by simp; omega)))
      clear hb6 p0 p1 q0 q1 U4' U5'
      obtain ⟨p0, p1, _, _⟩ := V4.out
      obtain ⟨q0, q1, _, _⟩ := V5.out
      have hs6 := HB6.out.size
      have W4 := Lib.hid (V4.out.alloc (.cells #[.int .i64 xn, .int .i64 xd] 24))
      have W5 := Lib.hid (V5.out.alloc (.cells #[.int .i64 xn, .int .i64 xd] 24))
      have HB7 := Lib.hid (HB6.out.alloc hs6 (.cells #[.int .i64 xn, .int .i64 xd] 24))
      obtain ⟨p0, p1, _, _⟩ := W4.out
      obtain ⟨q0, q1, _, _⟩ := W5.out
      go_wp2_with fail
      refine (mul_any xn xd yn yd _ (by omega) (by omega) (by omega) (by omega) (by omega) (by omega) (by omega) (by omega)).mono ?_
      have hum := fun h (hc : yn ≠ 0) => undo_mul (a := xn) (b := xd) (c := yn) (d := yd) h hc
      have hmb := mulQ_bnd xn xd yn yd
      obtain ⟨r, hr⟩ : ∃ r, r = mulQ xn xd yn yd := ⟨_, rfl⟩
      rw [← hr] at hum hmb
      rw [← hr]
      clear hr
      obtain ⟨mn, md, me⟩ := r
      simp only at hum hmb
      simp only [Res.val]
      rintro e w8 ⟨rfl, hb8⟩
      have X4 := Lib.hid (W4.out.below hb8)
      have X5 := Lib.hid (W5.out.below hb8)
      have HB8 := Lib.hid (HB7.out.trans (hb8.mono HB7.out.size))
      have hs8 := HB8.out.size
      clear hb8 p0 p1 q0 q1 W4 W5
      have HUM := Lib.hid hum
      clear hum
      by_cases hme : me = 0
      · by_cases hyn : yn = 0
        · subst hme
          have hyn' : (yn == 0) = true := by simpa using hyn
          obtain ⟨q0, q1, _, _⟩ := X5.out.alloc (.cells #[.int .i64 mn, .int .i64 md] 24)
          clear hyn
          go_wp2
          go_ret
          exact ⟨rfl, HB8.out.alloc hs8 _⟩
        · have HUM2 := Lib.hid (HUM.out hme hyn)
          have hyn' : (yn == 0) = false := by simpa using hyn
          subst hme
          obtain ⟨p0, p1, _, _⟩ := X4.out.alloc (.cells #[.int .i64 mn, .int .i64 md] 24)
          obtain ⟨q0, q1, _, _⟩ := X5.out.alloc (.cells #[.int .i64 mn, .int .i64 md] 24)
          clear hyn
          go_wp2_with fail
          refine (div_any mn md yn yd _ (by omega) (by omega) (by omega) (by omega) (by omega) (by omega) (by omega) (by omega)).mono ?_
          rw [HUM2.out]
          simp only [Res.val]
          rintro e w9 ⟨rfl, hb9⟩
          obtain ⟨p0, p1, _, _⟩ := ((X4.out.alloc _).below hb9).alloc (.cells #[.int .i64 xn, .int .i64 xd] 24)
          have HB9 := Lib.hid ((HB8.out.alloc hs8 _).trans (hb9.mono (by simp; omega)))
          have hs9 := HB9.out.size
          clear hb9
          go_wp2
          go_ret
          exact ⟨rfl, HB9.out.alloc hs9 _⟩
      · have hme' : (me == 0) = false := by simpa using hme
        clear hme
        go_wp2
        go_ret
        exact ⟨rfl, HB8.out.alloc hs8 _⟩
    · have hse' : (se == 0) = false := by simpa using hse
      have hs5 := HB5.out.size
      obtain ⟨p0, p1, _, _⟩ := U4'.out.alloc (.cells #[.int .i64 sn, .int .i64 sd] 24)
      obtain ⟨q0, q1, _, _⟩ := U5'.out.alloc (.cells #[.int .i64 sn, .int .i64 sd] 24)
      have HB6 := HB5
      have V4 := U4'
      have V5 := U5'
      have hs6 := hs5
      clear hse
      have W4 := Lib.hid (V4.out.alloc (.cells #[.int .i64 sn, .int .i64 sd] 24))
      have W5 := Lib.hid (V5.out.alloc (.cells #[.int .i64 sn, .int .i64 sd] 24))
      have HB7 := Lib.hid (HB6.out.alloc hs6 (.cells #[.int .i64 sn, .int .i64 sd] 24))
      obtain ⟨p0, p1, _, _⟩ := W4.out
      obtain ⟨q0, q1, _, _⟩ := W5.out
      go_wp2_with fail
      refine (mul_any xn xd yn yd _ (by omega) (by omega) (by omega) (by omega) (by omega) (by omega) (by omega) (by omega)).mono ?_
      have hum := fun h (hc : yn ≠ 0) => undo_mul (a := xn) (b := xd) (c := yn) (d := yd) h hc
      have hmb := mulQ_bnd xn xd yn yd
      obtain ⟨r, hr⟩ : ∃ r, r = mulQ xn xd yn yd := ⟨_, rfl⟩
      rw [← hr] at hum hmb
      rw [← hr]
      clear hr
      obtain ⟨mn, md, me⟩ := r
      simp only at hum hmb
      simp only [Res.val]
      rintro e w8 ⟨rfl, hb8⟩
      have X4 := Lib.hid (W4.out.below hb8)
      have X5 := Lib.hid (W5.out.below hb8)
      have HB8 := Lib.hid (HB7.out.trans (hb8.mono HB7.out.size))
      have hs8 := HB8.out.size
      clear hb8 p0 p1 q0 q1 W4 W5
      have HUM := Lib.hid hum
      clear hum
      by_cases hme : me = 0
      · by_cases hyn : yn = 0
        · subst hme
          have hyn' : (yn == 0) = true := by simpa using hyn
          obtain ⟨q0, q1, _, _⟩ := X5.out.alloc (.cells #[.int .i64 mn, .int .i64 md] 24)
          clear hyn
          go_wp2
          go_ret
          exact ⟨rfl, HB8.out.alloc hs8 _⟩
        · have HUM2 := Lib.hid (HUM.out hme hyn)
          have hyn' : (yn == 0) = false := by simpa using hyn
          subst hme
          obtain ⟨p0, p1, _, _⟩ := X4.out.alloc (.cells #[.int .i64 mn, .int .i64 md] 24)
          obtain ⟨q0, q1, _, _⟩ := X5.out.alloc (.cells #[.int .i64 mn, .int .i64 md] 24)
          clear hyn
          go_wp2_with fail
          refine (div_any mn md yn yd _ (by omega) (by omega) (by omega) (by omega) (by omega) (by omega) (by omega) (by omega)).mono ?_
          rw [HUM2.out]
          simp only [Res.val]
          rintro e w9 ⟨rfl, hb9⟩
          obtain ⟨p0, p1, _, _⟩ := ((X4.out.alloc _).below hb9).alloc (.cells #[.int .i64 xn, .int .i64 xd] 24)
          have HB9 := Lib.hid ((HB8.out.alloc hs8 _).trans (hb9.mono (by simp; omega)))
          have hs9 := HB9.out.size
          clear hb9
          go_wp2
          go_ret
          exact ⟨rfl, HB9.out.alloc hs9 _⟩
      · have hme' : (me == 0) = false := by simpa using hme
        clear hme
        go_wp2
        go_ret
        exact ⟨rfl, HB8.out.alloc hs8 _⟩
end Go.Proofs.YtaekhbhjgcmghaaDoor
