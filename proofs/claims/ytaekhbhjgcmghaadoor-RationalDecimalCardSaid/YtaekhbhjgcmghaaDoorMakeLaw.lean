/- The walks of awake and of the law RationalMake. -/
import Derived.Test.YtaekhbhjgcmghaaDoorText
namespace Go.Proofs.YtaekhbhjgcmghaaDoor
open Go.RowKit

theorem mk_awake : mk 6 (-4) = ⟨-3, 2, 0⟩ := mk_eq (by decide) (by decide) (by decide)
theorem txt_awake : txt (-3) 2 = [45, 51, 47, 50] := by
  have h : validQ (-3) 2 = true := by decide
  unfold txt
  rw [h, if_pos rfl, if_neg (by decide), show ((-3 : Int)) = -((3 : Nat) : Int) from rfl, Lib.itoa_neg 3 (by decide), show (2 : Int) = ((2 : Nat) : Int) from rfl, Lib.itoa_nonneg, Lib.decDigits_one (by decide), Lib.decDigits_one (by decide)]
  rfl

set_option maxHeartbeats 400000 in
theorem awake_any (w : World) (ht : Tab w) : Calls Tryd.prog 12 #[] w fun e w' => e = .returned (.bool true) ∧ Below w.heap.size w w' := by
  have HTW := Lib.hid ht
  clear ht
  go_enter Tryd.func12, Tryd.ntmps12
  go_wp2_with fail
  refine (make_any 6 (-4) _ (by omega) (by omega) (by omega) (by omega)).mono ?_
  rw [mk_awake]
  rintro e w1 ⟨rfl, hb1⟩
  have HB1 := Lib.hid hb1
  have hs1 := hb1.size
  clear hb1
  simp only [Res.val]
  go_wp2_with fail
  refine (text_any (-3) 2 _ (by omega) (by omega) (by omega) (by omega) ((HTW.out.below HB1.out).below ((Below.refl _ _).alloc (Nat.le_refl _) _))).mono ?_
  rw [txt_awake]
  rintro e w2 ⟨rfl, hb2⟩
  have hB2 := (HB1.out.alloc hs1 _).trans (hb2.mono (by simp; omega))
  clear hb2
  go_wp2
  go_ret
  exact ⟨ret_bool (by decide), hB2⟩

theorem cell_new0 (W : World) (a b : Value) (t : TypeId) : (W.alloc (.cells #[a, b] t)).cell? ⟨W.heap.size, 0, none⟩ = some a := by simp
theorem cell_new1 (W : World) (a b : Value) (t : TypeId) : (W.alloc (.cells #[a, b] t)).cell? ⟨W.heap.size, 1, none⟩ = some b := by simp
theorem mk_bnd (n d : Int) : -2147483647 ≤ (mk n d).num ∧ (mk n d).num ≤ 2147483647 ∧ 0 ≤ (mk n d).den ∧ (mk n d).den ≤ 2147483647 := by
  by_cases h : (mk n d).err = 0
  · have := (valid_iff _ _).1 (mk_ok n d h).2.1
    omega
  · have := mk_bad n d h
    omega

set_option maxRecDepth 100000 in
set_option maxHeartbeats 2000000 in
theorem makeLaw_walk (n d : Int) (w : World) (hn : -9223372036854775808 ≤ n) (hN : n ≤ 9223372036854775807) (hd : -9223372036854775808 ≤ d) (hD : d ≤ 9223372036854775807) (ht : Tab w) :
    Calls Tryd.prog 3 #[.int .i64 n, .int .i64 d] w fun e w' => e = .returned (.bool true) ∧ Below w.heap.size w w' := by
  have HTW := Lib.hid ht
  have hmb := mk_bnd n d
  clear ht
  go_enter Tryd.func3, Tryd.ntmps3
  go_wp2_with fail
  refine (awake_any _ HTW.out).mono ?_
  rintro e w1 ⟨rfl, hb1⟩
  have HB1 := Lib.hid hb1
  have hs1 := hb1.size
  clear hb1
  go_wp2_with fail
  refine (make_any n d _ hn hN hd hD).mono ?_
  rintro e w2 ⟨rfl, hb2⟩
  have HB2 := Lib.hid (HB1.out.trans (hb2.mono hs1))
  have hs2 := HB2.out.size
  clear hb2
  generalize hmk : mk n d = r at *
  have HMK := Lib.hid hmk
  clear hmk
  obtain ⟨rn, rd, re⟩ := r
  simp only at hmb
  obtain ⟨m1, m2, m3, m4⟩ := hmb
  simp only [Res.val]
  go_wp2_with fail
  refine (refMake_any n d _ hn hN hd hD).mono ?_
  rw [HMK.out]
  rintro e w3 ⟨rfl, hb3⟩
  obtain ⟨⟨a0, a1⟩, af, asz, hB23⟩ := res2 hb3
  have HB3 := Lib.hid (HB2.out.trans (hB23.mono hs2))
  have hs3 := HB3.out.size
  clear hb3 hB23
  simp only [Res.val]
  go_wp2
  obtain ⟨wz, hwz⟩ : ∃ wz : World, wz = (w3.alloc (.cells #[.int .i64 rn, .int .i64 rd] 28)).alloc (.cells #[.int .i64 n, .int .i64 d] 24) := ⟨_, rfl⟩
  have hw31 : w3.heap.size + 1 = (w3.alloc (.cells #[.int .i64 rn, .int .i64 rd] 28)).heap.size := by simp
  have z0 : wz.cell? ⟨w2.heap.size, 0, none⟩ = some (.int .i64 rn) := by rw [hwz, World.cell?_alloc_lt _ _ _ (by simp; omega), World.cell?_alloc_lt _ _ _ asz]; exact a0
  have z1 : wz.cell? ⟨w2.heap.size, 1, none⟩ = some (.int .i64 rd) := by rw [hwz, World.cell?_alloc_lt _ _ _ (by simp; omega), World.cell?_alloc_lt _ _ _ asz]; exact a1
  have z2 : wz.cell? ⟨w3.heap.size, 0, none⟩ = some (.int .i64 rn) := by rw [hwz, World.cell?_alloc_lt _ _ _ (by simp)]; exact cell_new0 _ _ _ _
  have z3 : wz.cell? ⟨w3.heap.size, 1, none⟩ = some (.int .i64 rd) := by rw [hwz, World.cell?_alloc_lt _ _ _ (by simp)]; exact cell_new1 _ _ _ _
  have z4 : wz.cell? ⟨w3.heap.size + 1, 0, none⟩ = some (.int .i64 n) := by rw [hwz, hw31]; exact cell_new0 _ _ _ _
  have z5 : wz.cell? ⟨w3.heap.size + 1, 1, none⟩ = some (.int .i64 d) := by rw [hwz, hw31]; exact cell_new1 _ _ _ _
  have HBZ : Hid (Below w.heap.size w wz) := by rw [hwz]; exact (HB3.out.alloc hs3 _).alloc (by simp; omega) _
  have hsz := HBZ.out.size
  have HTZ := Lib.hid (HTW.out.below HBZ.out)
  rw [← hwz]
  clear hwz hw31 a0 a1 af asz
  have k0 := fun d os => cell_regrown z0 d os
  have k1 := fun d os => cell_regrown z1 d os
  have k2 := fun d os => cell_regrown z2 d os
  have k3 := fun d os => cell_regrown z3 d os
  have k4 := fun d os => cell_regrown z4 d os
  have k5 := fun d os => cell_regrown z5 d os
  have cI := Lib.hid fun dd os => Calls.regrown_of (is_same rn rd re (Sort.grow (redrawn wz dd) os))
  have cT := Lib.hid fun (x y : Int) dd os (h1 : -9223372036854775808 ≤ x) (h2 : x ≤ 9223372036854775807) (h3 : -9223372036854775808 ≤ y) (h4 : y ≤ 9223372036854775807) => Calls.regrown_of (text_any x y (Sort.grow (redrawn wz dd) os) h1 h2 h3 h4 (HTZ.out.below (below_regrown wz dd os)))
  have cU := Lib.hid fun (x y : Int) dd os (h1 : -9223372036854775808 ≤ x) (h2 : x ≤ 9223372036854775807) (h3 : -9223372036854775808 ≤ y) (h4 : y ≤ 9223372036854775807) => Calls.regrown_of (refText_any x y (Sort.grow (redrawn wz dd) os) h1 h2 h3 h4)
  have cV := Lib.hid fun dd os => Calls.regrown_of (valid_any n d (Sort.grow (redrawn wz dd) os) hn hN hd hD)
  have cW := Lib.hid fun dd os => Calls.regrown_of (refValid_any n d (Sort.grow (redrawn wz dd) os) hn hN hd hD)
  refine wp_region_quiet_below (by kernel_rfl) (by kernel_rfl) ?_
  repeat (first | go_big_quiet_step (first | (go_at_call 15; exact cI.out _ _) | (go_at_call 16; exact cT.out _ _ _ _ (by omega) (by omega) (by omega) (by omega)) | (go_at_call 17; exact cU.out _ _ _ _ (by omega) (by omega) (by omega) (by omega)) | (go_at_call 18; exact cV.out _ _) | (go_at_call 19; exact cW.out _ _)) | quiet_step (first | (go_at_call 15; exact cI.out _ _) | (go_at_call 16; exact cT.out _ _ _ _ (by omega) (by omega) (by omega) (by omega)) | (go_at_call 17; exact cU.out _ _ _ _ (by omega) (by omega) (by omega) (by omega)) | (go_at_call 18; exact cV.out _ _) | (go_at_call 19; exact cW.out _ _)))
  refine wpQuiet_nil ?_
  intro _ hw'
  obtain ⟨⟨dq, osq⟩, hw''⟩ := hw'
  subst hw''
  have hB2 := HBZ.out.trans ((below_regrown wz dq osq).mono hsz)
  clear cI cT cU cV cW k0 k1 k2 k3 k4 k5
  go_wp2
  go_ret
  exact ⟨ret_bool (by simp), hB2⟩
end Go.Proofs.YtaekhbhjgcmghaaDoor
