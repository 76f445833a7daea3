/- Contracts of numbers, op and agree. -/
import Derived.Test.YtaekhbhjgcmghaaDoorBox
import Derived.Test.YtaekhbhjgcmghaaDoorMakeLaw
import Derived.Test.YtaekhbhjgcmghaaDoorOps
namespace Go.Proofs.YtaekhbhjgcmghaaDoor
open Go.RowKit

/-- block b holds six cells and may be written -/
structure Six (w : World) (b : Nat) (v0 v1 v2 v3 v4 v5 : Value) : Prop where
  c0 : w.cell? ⟨b, 0, none⟩ = some v0
  c1 : w.cell? ⟨b, 1, none⟩ = some v1
  c2 : w.cell? ⟨b, 2, none⟩ = some v2
  c3 : w.cell? ⟨b, 3, none⟩ = some v3
  c4 : w.cell? ⟨b, 4, none⟩ = some v4
  c5 : w.cell? ⟨b, 5, none⟩ = some v5
  fr : ∀ i, w.frozen? ⟨b, i, none⟩ = false
  lt : b < w.heap.size
section
variable {w w' : World} {b : Nat} {v0 v1 v2 v3 v4 v5 : Value}
theorem Six.below (h : Six w b v0 v1 v2 v3 v4 v5) (hb : Below w.heap.size w w') : Six w' b v0 v1 v2 v3 v4 v5 :=
  ⟨(hb.cell (p := ⟨b, 0, none⟩) h.lt).trans h.c0, (hb.cell (p := ⟨b, 1, none⟩) h.lt).trans h.c1, (hb.cell (p := ⟨b, 2, none⟩) h.lt).trans h.c2, (hb.cell (p := ⟨b, 3, none⟩) h.lt).trans h.c3, (hb.cell (p := ⟨b, 4, none⟩) h.lt).trans h.c4, (hb.cell (p := ⟨b, 5, none⟩) h.lt).trans h.c5,
    fun i => (hb.frozen (p := ⟨b, i, none⟩) h.lt).trans (h.fr i), Nat.lt_of_lt_of_le h.lt hb.size⟩
theorem Six.new (w : World) (v0 v1 v2 v3 v4 v5 : Value) (t : TypeId) : Six (w.alloc (.cells #[v0, v1, v2, v3, v4, v5] t)) w.heap.size v0 v1 v2 v3 v4 v5 := ⟨by simp, by simp, by simp, by simp, by simp, by simp, fun i => by simp, by simp⟩
theorem Six.alloc (h : Six w b v0 v1 v2 v3 v4 v5) (o : Obj) : Six (w.alloc o) b v0 v1 v2 v3 v4 v5 := h.below ((Below.refl _ _).alloc (Nat.le_refl _) _)
theorem Six.other (h : Six w b v0 v1 v2 v3 v4 v5) (c i : Nat) (u : Value) (_hne : b ≠ c) : Six (w.setCell ⟨c, i, none⟩ u) b v0 v1 v2 v3 v4 v5 := by
  exact ⟨by simp [go_sem, h.c0], by simp [go_sem, h.c1], by simp [go_sem, h.c2], by simp [go_sem, h.c3], by simp [go_sem, h.c4], by simp [go_sem, h.c5], fun j => by simp [h.fr], by simpa using h.lt⟩
theorem Six.set0 (h : Six w b v0 v1 v2 v3 v4 v5) (x y : Value) : Six ((w.setCell ⟨b, 0, none⟩ x).setCell ⟨b, 1, none⟩ y) b x y v2 v3 v4 v5 :=
  ⟨by simp [go_sem, h.c0], by simp [go_sem, h.c1], by simp [go_sem, h.c2], by simp [go_sem, h.c3], by simp [go_sem, h.c4], by simp [go_sem, h.c5], fun j => by simp [h.fr], by simpa using h.lt⟩
theorem Six.set1 (h : Six w b v0 v1 v2 v3 v4 v5) (x y : Value) : Six ((w.setCell ⟨b, 2, none⟩ x).setCell ⟨b, 3, none⟩ y) b v0 v1 x y v4 v5 :=
  ⟨by simp [go_sem, h.c0], by simp [go_sem, h.c1], by simp [go_sem, h.c2], by simp [go_sem, h.c3], by simp [go_sem, h.c4], by simp [go_sem, h.c5], fun j => by simp [h.fr], by simpa using h.lt⟩
theorem Six.set2 (h : Six w b v0 v1 v2 v3 v4 v5) (x y : Value) : Six ((w.setCell ⟨b, 4, none⟩ x).setCell ⟨b, 5, none⟩ y) b v0 v1 v2 v3 x y :=
  ⟨by simp [go_sem, h.c0], by simp [go_sem, h.c1], by simp [go_sem, h.c2], by simp [go_sem, h.c3], by simp [go_sem, h.c4], by simp [go_sem, h.c5], fun j => by simp [h.fr], by simpa using h.lt⟩
end
def den1 (d : Int) : Int := if d = 0 then 1 else d
/-- one of three fractions -/
def num3 (a d : Int) : Res := mk a (den1 d)
theorem den1_bnd (d : Int) (h : -32768 ≤ d) (h' : d ≤ 32767) : -32768 ≤ den1 d ∧ den1 d ≤ 32767 := by unfold den1; split <;> omega

set_option maxRecDepth 20000 in
set_option maxHeartbeats 4000000 in
theorem numbers_any (a0 a1 a2 a3 a4 a5 : Int) (w : World) (h0 : -32768 ≤ a0 ∧ a0 ≤ 32767) (h1 : -32768 ≤ a1 ∧ a1 ≤ 32767) (h2 : -32768 ≤ a2 ∧ a2 ≤ 32767) (h3 : -32768 ≤ a3 ∧ a3 ≤ 32767) (h4 : -32768 ≤ a4 ∧ a4 ≤ 32767) (h5 : -32768 ≤ a5 ∧ a5 ≤ 32767) :
    Calls Tryd.prog 20 #[.agg #[.int .i16 a0, .int .i16 a1, .int .i16 a2, .int .i16 a3, .int .i16 a4, .int .i16 a5]] w fun e w' => e = .returned (.agg #[.int .i64 (num3 a0 a1).num, .int .i64 (num3 a0 a1).den, .int .i64 (num3 a2 a3).num, .int .i64 (num3 a2 a3).den, .int .i64 (num3 a4 a5).num, .int .i64 (num3 a4 a5).den]) ∧ Below w.heap.size w w' := by
  obtain ⟨r0, hr0⟩ : ∃ r, r = num3 a0 a1 := ⟨_, rfl⟩
  obtain ⟨r1, hr1⟩ : ∃ r, r = num3 a2 a3 := ⟨_, rfl⟩
  obtain ⟨r2, hr2⟩ : ∃ r, r = num3 a4 a5 := ⟨_, rfl⟩
  rw [← hr0, ← hr1, ← hr2]
  have HR0 := Lib.hid hr0
  have HR1 := Lib.hid hr1
  have HR2 := Lib.hid hr2
  clear hr0 hr1 hr2
  obtain ⟨n0, d0, e0⟩ := r0
  obtain ⟨n1, d1, e1⟩ := r1
  obtain ⟨n2, d2, e2⟩ := r2
  go_enter Tryd.func20, Tryd.ntmps20
  go_wp2
  go_loopg [4, 5] 3 (fun gg s4 _ wr => ∃ kk : Nat, kk ≤ 3 ∧ 3 - kk ≤ gg ∧ s4 = .int .i64 kk ∧ Aside (Six wr w.heap.size (.int .i16 a0) (.int .i16 a1) (.int .i16 a2) (.int .i16 a3) (.int .i16 a4) (.int .i16 a5)) ∧ Aside (Six wr (w.heap.size + 1) (.int .i64 0) (.int .i64 0) (.int .i64 0) (.int .i64 0) (.int .i64 0) (.int .i64 0)) ∧ Aside (Six wr (w.heap.size + 1 + 1) (.int .i64 (if 0 < kk then n0 else 0)) (.int .i64 (if 0 < kk then d0 else 0)) (.int .i64 (if 1 < kk then n1 else 0)) (.int .i64 (if 1 < kk then d1 else 0)) (.int .i64 (if 2 < kk then n2 else 0)) (.int .i64 (if 2 < kk then d2 else 0))) ∧ Aside (Below w.heap.size w wr))
  case atStart =>
    refine ⟨0, Nat.zero_le _, Nat.le_refl _, rfl, ?_, ?_, ?_, ?_⟩
    · exact ((Six.new w _ _ _ _ _ _ 40).alloc _).alloc _
    · have := (Six.new (w.alloc (.cells #[.int .i16 a0, .int .i16 a1, .int .i16 a2, .int .i16 a3, .int .i16 a4, .int .i16 a5] 40)) (.int .i64 0) (.int .i64 0) (.int .i64 0) (.int .i64 0) (.int .i64 0) (.int .i64 0) 41)
      rw [World.size_alloc] at this
      exact this.alloc _
    · have := Six.new ((w.alloc (.cells #[.int .i16 a0, .int .i16 a1, .int .i16 a2, .int .i16 a3, .int .i16 a4, .int .i16 a5] 40)).alloc (.cells #[.int .i64 0, .int .i64 0, .int .i64 0, .int .i64 0, .int .i64 0, .int .i64 0] 41)) (.int .i64 0) (.int .i64 0) (.int .i64 0) (.int .i64 0) (.int .i64 0) (.int .i64 0) 41
      rw [World.size_alloc, World.size_alloc] at this
      exact this
    · exact Below.three _ _ _ _
  case round =>
    obtain ⟨kk, hkk, hg, rfl, SA, SB, SC, BW⟩ := hrel
    obtain rfl | rfl | rfl | rfl : kk = 0 ∨ kk = 1 ∨ kk = 2 ∨ kk = 3 := by omega
    · obtain ⟨x0, x1, x2, x3, x4, x5, xf, xl⟩ := SA.out
      by_cases hz : a1 = 0
      · have hz' : (a1 == 0) = true := by simpa using hz
        have HM : Hid (mk a0 1 = ⟨n0, d0, e0⟩) := by show mk a0 1 = _; rw [HR0.out]; unfold num3 den1; rw [if_pos hz]
        clear hz
        go_wp2_with fail
        refine (make_any a0 1 _ (by omega) (by omega) (by omega) (by omega)).mono ?_
        rw [HM.out]
        simp only [Res.val]
        rintro e w1 ⟨rfl, hb1⟩
        have T1 := Lib.hid (SC.out.below hb1)
        have TA := Lib.hid (SA.out.below hb1)
        have TB := Lib.hid (SB.out.below hb1)
        have HB1 := Lib.hid (BW.out.trans (hb1.mono BW.out.size))
        have HL := hb1.size
        clear hb1 x0 x1 x2 x3 x4 x5 xf xl
        obtain ⟨y0, y1, y2, y3, y4, y5, yf, yl⟩ := T1.out
        go_wp2
        go_roundg (3 - (0 + 1))
        case measure => omega
        case rel =>
          refine ⟨0 + 1, by omega, by omega, by go_num, ?_, ?_, ?_, ?_⟩
          · exact (TA.out.other _ _ _ (by omega)).other _ _ _ (by omega)
          · exact (TB.out.other _ _ _ (by omega)).other _ _ _ (by omega)
          · exact T1.out.set0 _ _
          · exact (HB1.out.setCell (by first | omega | (simp; done) | (simp; omega)) _).setCell (by first | omega | (simp; done) | (simp; omega)) _
      · have hz' : (a1 == 0) = false := by simpa using hz
        have HM : Hid (mk a0 a1 = ⟨n0, d0, e0⟩) := by show mk a0 a1 = _; rw [HR0.out]; unfold num3 den1; rw [if_neg hz]
        clear hz
        go_wp2_with fail
        refine (make_any a0 a1 _ (by omega) (by omega) (by omega) (by omega)).mono ?_
        rw [HM.out]
        simp only [Res.val]
        rintro e w1 ⟨rfl, hb1⟩
        have T1 := Lib.hid (SC.out.below hb1)
        have TA := Lib.hid (SA.out.below hb1)
        have TB := Lib.hid (SB.out.below hb1)
        have HB1 := Lib.hid (BW.out.trans (hb1.mono BW.out.size))
        have HL := hb1.size
        clear hb1 x0 x1 x2 x3 x4 x5 xf xl
        obtain ⟨y0, y1, y2, y3, y4, y5, yf, yl⟩ := T1.out
        go_wp2
        go_roundg (3 - (0 + 1))
        case measure => omega
        case rel =>
          refine ⟨0 + 1, by omega, by omega, by go_num, ?_, ?_, ?_, ?_⟩
          · exact (TA.out.other _ _ _ (by omega)).other _ _ _ (by omega)
          · exact (TB.out.other _ _ _ (by omega)).other _ _ _ (by omega)
          · exact T1.out.set0 _ _
          · exact (HB1.out.setCell (by first | omega | (simp; done) | (simp; omega)) _).setCell (by first | omega | (simp; done) | (simp; omega)) _
    · obtain ⟨x0, x1, x2, x3, x4, x5, xf, xl⟩ := SA.out
      by_cases hz : a3 = 0
      · have hz' : (a3 == 0) = true := by simpa using hz
        have HM : Hid (mk a2 1 = ⟨n1, d1, e1⟩) := by show mk a2 1 = _; rw [HR1.out]; unfold num3 den1; rw [if_pos hz]
        clear hz
        go_wp2_with fail
        refine (make_any a2 1 _ (by omega) (by omega) (by omega) (by omega)).mono ?_
        rw [HM.out]
        simp only [Res.val]
        rintro e w1 ⟨rfl, hb1⟩
        have T1 := Lib.hid (SC.out.below hb1)
        have TA := Lib.hid (SA.out.below hb1)
        have TB := Lib.hid (SB.out.below hb1)
        have HB1 := Lib.hid (BW.out.trans (hb1.mono BW.out.size))
        have HL := hb1.size
        clear hb1 x0 x1 x2 x3 x4 x5 xf xl
        obtain ⟨y0, y1, y2, y3, y4, y5, yf, yl⟩ := T1.out
        go_wp2
        go_roundg (3 - (1 + 1))
        case measure => omega
        case rel =>
          refine ⟨1 + 1, by omega, by omega, by go_num, ?_, ?_, ?_, ?_⟩
          · exact (TA.out.other _ _ _ (by omega)).other _ _ _ (by omega)
          · exact (TB.out.other _ _ _ (by omega)).other _ _ _ (by omega)
          · exact T1.out.set1 _ _
          · exact (HB1.out.setCell (by first | omega | (simp; done) | (simp; omega)) _).setCell (by first | omega | (simp; done) | (simp; omega)) _
      · have hz' : (a3 == 0) = false := by simpa using hz
        have HM : Hid (mk a2 a3 = ⟨n1, d1, e1⟩) := by show mk a2 a3 = _; rw [HR1.out]; unfold num3 den1; rw [if_neg hz]
        clear hz
        go_wp2_with fail
        refine (make_any a2 a3 _ (by omega) (by omega) (by omega) (by omega)).mono ?_
        rw [HM.out]
        simp only [Res.val]
        rintro e w1 ⟨rfl, hb1⟩
        have T1 := Lib.hid (SC.out.below hb1)
        have TA := Lib.hid (SA.out.below hb1)
        have TB := Lib.hid (SB.out.below hb1)
        have HB1 := Lib.hid (BW.out.trans (hb1.mono BW.out.size))
        have HL := hb1.size
        clear hb1 x0 x1 x2 x3 x4 x5 xf xl
        obtain ⟨y0, y1, y2, y3, y4, y5, yf, yl⟩ := T1.out
        go_wp2
        go_roundg (3 - (1 + 1))
        case measure => omega
        case rel =>
          refine ⟨1 + 1, by omega, by omega, by go_num, ?_, ?_, ?_, ?_⟩
          · exact (TA.out.other _ _ _ (by omega)).other _ _ _ (by omega)
          · exact (TB.out.other _ _ _ (by omega)).other _ _ _ (by omega)
          · exact T1.out.set1 _ _
          · exact (HB1.out.setCell (by first | omega | (simp; done) | (simp; omega)) _).setCell (by first | omega | (simp; done) | (simp; omega)) _
    · obtain ⟨x0, x1, x2, x3, x4, x5, xf, xl⟩ := SA.out
      by_cases hz : a5 = 0
      · have hz' : (a5 == 0) = true := by simpa using hz
        have HM : Hid (mk a4 1 = ⟨n2, d2, e2⟩) := by show mk a4 1 = _; rw [HR2.out]; unfold num3 den1; rw [if_pos hz]
        clear hz
        go_wp2_with fail
        refine (make_any a4 1 _ (by omega) (by omega) (by omega) (by omega)).mono ?_
        rw [HM.out]
        simp only [Res.val]
        rintro e w1 ⟨rfl, hb1⟩
        have T1 := Lib.hid (SC.out.below hb1)
        have TA := Lib.hid (SA.out.below hb1)
        have TB := Lib.hid (SB.out.below hb1)
        have HB1 := Lib.hid (BW.out.trans (hb1.mono BW.out.size))
        have HL := hb1.size
        clear hb1 x0 x1 x2 x3 x4 x5 xf xl
        obtain ⟨y0, y1, y2, y3, y4, y5, yf, yl⟩ := T1.out
        go_wp2
        go_roundg (3 - (2 + 1))
        case measure => omega
        case rel =>
          refine ⟨2 + 1, by omega, by omega, by go_num, ?_, ?_, ?_, ?_⟩
          · exact (TA.out.other _ _ _ (by omega)).other _ _ _ (by omega)
          · exact (TB.out.other _ _ _ (by omega)).other _ _ _ (by omega)
          · exact T1.out.set2 _ _
          · exact (HB1.out.setCell (by first | omega | (simp; done) | (simp; omega)) _).setCell (by first | omega | (simp; done) | (simp; omega)) _
      · have hz' : (a5 == 0) = false := by simpa using hz
        have HM : Hid (mk a4 a5 = ⟨n2, d2, e2⟩) := by show mk a4 a5 = _; rw [HR2.out]; unfold num3 den1; rw [if_neg hz]
        clear hz
        go_wp2_with fail
        refine (make_any a4 a5 _ (by omega) (by omega) (by omega) (by omega)).mono ?_
        rw [HM.out]
        simp only [Res.val]
        rintro e w1 ⟨rfl, hb1⟩
        have T1 := Lib.hid (SC.out.below hb1)
        have TA := Lib.hid (SA.out.below hb1)
        have TB := Lib.hid (SB.out.below hb1)
        have HB1 := Lib.hid (BW.out.trans (hb1.mono BW.out.size))
        have HL := hb1.size
        clear hb1 x0 x1 x2 x3 x4 x5 xf xl
        obtain ⟨y0, y1, y2, y3, y4, y5, yf, yl⟩ := T1.out
        go_wp2
        go_roundg (3 - (2 + 1))
        case measure => omega
        case rel =>
          refine ⟨2 + 1, by omega, by omega, by go_num, ?_, ?_, ?_, ?_⟩
          · exact (TA.out.other _ _ _ (by omega)).other _ _ _ (by omega)
          · exact (TB.out.other _ _ _ (by omega)).other _ _ _ (by omega)
          · exact T1.out.set2 _ _
          · exact (HB1.out.setCell (by first | omega | (simp; done) | (simp; omega)) _).setCell (by first | omega | (simp; done) | (simp; omega)) _
    · obtain ⟨x0, x1, x2, x3, x4, x5, xf, xl⟩ := SC.out
      obtain ⟨y0, y1, y2, y3, y4, y5, yf, yl⟩ := SB.out
      go_wp2
      refine bodyPost_ret (v := .agg #[.int .i64 n0, .int .i64 d0, .int .i64 n1, .int .i64 d1, .int .i64 n2, .int .i64 d2]) (by simp [results, Tryd.results20, go_sem, y0, y1, y2, y3, y4, y5]) rfl ⟨rfl, ?_⟩
      exact (((((BW.out.setCell (by first | omega | (simp; done) | (simp; omega)) _).setCell (by first | omega | (simp; done) | (simp; omega)) _).setCell (by first | omega | (simp; done) | (simp; omega)) _).setCell (by first | omega | (simp; done) | (simp; omega)) _).setCell (by first | omega | (simp; done) | (simp; omega)) _).setCell (by first | omega | (simp; done) | (simp; omega)) _

def op0 (x y : Res) : Res := if x.err = 0 ∧ y.err = 0 then addQ x.num x.den y.num y.den else ⟨0, 0, 2⟩
def op2 (x y : Res) : Res := if x.err = 0 ∧ y.err = 0 then mulQ x.num x.den y.num y.den else ⟨0, 0, 2⟩
def agreeQ (x y : Res) : Bool := !(x.err == 0) || !(y.err == 0) || (x.num == y.num && x.den == y.den)

set_option maxHeartbeats 2000000 in
theorem op0_any (a b e c d f : Int) (w : World) (ha : -9223372036854775808 ≤ a) (hA : a ≤ 9223372036854775807) (hb : -9223372036854775808 ≤ b) (hB : b ≤ 9223372036854775807) (hc : -9223372036854775808 ≤ c) (hC : c ≤ 9223372036854775807) (hd : -9223372036854775808 ≤ d) (hD : d ≤ 9223372036854775807) :
    Calls Tryd.prog 21 #[.int .i64 0, .agg #[.int .i64 a, .int .i64 b], .int .i64 e, .agg #[.int .i64 c, .int .i64 d], .int .i64 f] w fun r w' => r = .returned (op0 ⟨a, b, e⟩ ⟨c, d, f⟩).val ∧ Below w.heap.size w w' := by
  have HX := Lib.hid (((Two.new w (.int .i64 a) (.int .i64 b) 24).alloc (.cells #[.int .i64 c, .int .i64 d] 24)).alloc (.cells #[.int .i64 0, .int .i64 0] 24))
  have HY := Lib.hid ((Two.new1 w (.cells #[.int .i64 a, .int .i64 b] 24) (.int .i64 c) (.int .i64 d) 24).alloc (.cells #[.int .i64 0, .int .i64 0] 24))
  have HZ := Lib.hid (Two.new2 w (.cells #[.int .i64 a, .int .i64 b] 24) (.cells #[.int .i64 c, .int .i64 d] 24) (.int .i64 0) (.int .i64 0) 24)
  have H3 := Lib.hid (Below.three w (.cells #[.int .i64 a, .int .i64 b] 24) (.cells #[.int .i64 c, .int .i64 d] 24) (.cells #[.int .i64 0, .int .i64 0] 24))
  by_cases h : e = 0 ∧ f = 0
  · obtain ⟨rfl, rfl⟩ := h
    have HR : Hid (op0 ⟨a, b, 0⟩ ⟨c, d, 0⟩ = addQ a b c d) := by show op0 ⟨a, b, 0⟩ ⟨c, d, 0⟩ = _; unfold op0; rw [if_pos ⟨rfl, rfl⟩]
    go_enter Tryd.func21, Tryd.ntmps21
    go_wp2_with fail
    refine (add_any a b c d _ ha hA hb hB hc hC hd hD).mono ?_
    rw [← HR.out]
    obtain ⟨r, hr⟩ : ∃ r, r = op0 ⟨a, b, 0⟩ ⟨c, d, 0⟩ := ⟨_, rfl⟩
    rw [← hr]
    have HRR := Lib.hid hr
    clear hr
    obtain ⟨p, q, z⟩ := r
    simp only [Res.val]
    rintro e w1 ⟨rfl, hb1⟩
    obtain ⟨q0, q1, qf, ql⟩ := HZ.out.below hb1
    have HB1 := Lib.hid (H3.out.trans (hb1.mono H3.out.size))
    clear hb1
    go_wp2
    refine bodyPost_ret (v := .tuple #[.agg #[.int .i64 p, .int .i64 q], .int .i64 z]) (by simp [results, Tryd.results21, go_sem, q0, q1]) rfl ⟨?_, ?_⟩
    · rw [← HRR.out]; rfl
    · exact (HB1.out.setCell (by first | omega | (simp; done) | (simp; omega)) _).setCell (by first | omega | (simp; done) | (simp; omega)) _
  · have HR : Hid (op0 ⟨a, b, e⟩ ⟨c, d, f⟩ = ⟨0, 0, 2⟩) := by show op0 ⟨a, b, e⟩ ⟨c, d, f⟩ = _; unfold op0; rw [if_neg h]
    by_cases he : e = 0
    · have hf' : (f == 0) = false := by simp; omega
      subst he
      clear h
      go_enter Tryd.func21, Tryd.ntmps21
      go_wp2
      refine bodyPost_ret (v := .tuple #[.agg #[.int .i64 0, .int .i64 0], .int .i64 2]) (by simp [results, Tryd.results21, go_sem]) rfl ⟨?_, ?_⟩
      · rw [HR.out]; rfl
      · exact H3.out
    · have he' : (e == 0) = false := by simpa using he
      clear h he
      go_enter Tryd.func21, Tryd.ntmps21
      go_wp2
      refine bodyPost_ret (v := .tuple #[.agg #[.int .i64 0, .int .i64 0], .int .i64 2]) (by simp [results, Tryd.results21, go_sem]) rfl ⟨?_, ?_⟩
      · rw [HR.out]; rfl
      · exact H3.out

set_option maxHeartbeats 2000000 in
theorem op2_any (a b e c d f : Int) (w : World) (ha : -9223372036854775808 ≤ a) (hA : a ≤ 9223372036854775807) (hb : -9223372036854775808 ≤ b) (hB : b ≤ 9223372036854775807) (hc : -9223372036854775808 ≤ c) (hC : c ≤ 9223372036854775807) (hd : -9223372036854775808 ≤ d) (hD : d ≤ 9223372036854775807) :
    Calls Tryd.prog 21 #[.int .i64 2, .agg #[.int .i64 a, .int .i64 b], .int .i64 e, .agg #[.int .i64 c, .int .i64 d], .int .i64 f] w fun r w' => r = .returned (op2 ⟨a, b, e⟩ ⟨c, d, f⟩).val ∧ Below w.heap.size w w' := by
  have HX := Lib.hid (((Two.new w (.int .i64 a) (.int .i64 b) 24).alloc (.cells #[.int .i64 c, .int .i64 d] 24)).alloc (.cells #[.int .i64 0, .int .i64 0] 24))
  have HY := Lib.hid ((Two.new1 w (.cells #[.int .i64 a, .int .i64 b] 24) (.int .i64 c) (.int .i64 d) 24).alloc (.cells #[.int .i64 0, .int .i64 0] 24))
  have HZ := Lib.hid (Two.new2 w (.cells #[.int .i64 a, .int .i64 b] 24) (.cells #[.int .i64 c, .int .i64 d] 24) (.int .i64 0) (.int .i64 0) 24)
  have H3 := Lib.hid (Below.three w (.cells #[.int .i64 a, .int .i64 b] 24) (.cells #[.int .i64 c, .int .i64 d] 24) (.cells #[.int .i64 0, .int .i64 0] 24))
  by_cases h : e = 0 ∧ f = 0
  · obtain ⟨rfl, rfl⟩ := h
    have HR : Hid (op2 ⟨a, b, 0⟩ ⟨c, d, 0⟩ = mulQ a b c d) := by show op2 ⟨a, b, 0⟩ ⟨c, d, 0⟩ = _; unfold op2; rw [if_pos ⟨rfl, rfl⟩]
    go_enter Tryd.func21, Tryd.ntmps21
    go_wp2_with fail
    refine (mul_any a b c d _ ha hA hb hB hc hC hd hD).mono ?_
    rw [← HR.out]
    obtain ⟨r, hr⟩ : ∃ r, r = op2 ⟨a, b, 0⟩ ⟨c, d, 0⟩ := ⟨_, rfl⟩
    rw [← hr]
    have HRR := Lib.hid hr
    clear hr
    obtain ⟨p, q, z⟩ := r
    simp only [Res.val]
    rintro e w1 ⟨rfl, hb1⟩
    obtain ⟨q0, q1, qf, ql⟩ := HZ.out.below hb1
    have HB1 := Lib.hid (H3.out.trans (hb1.mono H3.out.size))
    clear hb1
    go_wp2
    refine bodyPost_ret (v := .tuple #[.agg #[.int .i64 p, .int .i64 q], .int .i64 z]) (by simp [results, Tryd.results21, go_sem, q0, q1]) rfl ⟨?_, ?_⟩
    · rw [← HRR.out]; rfl
    · exact (HB1.out.setCell (by first | omega | (simp; done) | (simp; omega)) _).setCell (by first | omega | (simp; done) | (simp; omega)) _
  · have HR : Hid (op2 ⟨a, b, e⟩ ⟨c, d, f⟩ = ⟨0, 0, 2⟩) := by show op2 ⟨a, b, e⟩ ⟨c, d, f⟩ = _; unfold op2; rw [if_neg h]
    by_cases he : e = 0
    · have hf' : (f == 0) = false := by simp; omega
      subst he
      clear h
      go_enter Tryd.func21, Tryd.ntmps21
      go_wp2
      refine bodyPost_ret (v := .tuple #[.agg #[.int .i64 0, .int .i64 0], .int .i64 2]) (by simp [results, Tryd.results21, go_sem]) rfl ⟨?_, ?_⟩
      · rw [HR.out]; rfl
      · exact H3.out
    · have he' : (e == 0) = false := by simpa using he
      clear h he
      go_enter Tryd.func21, Tryd.ntmps21
      go_wp2
      refine bodyPost_ret (v := .tuple #[.agg #[.int .i64 0, .int .i64 0], .int .i64 2]) (by simp [results, Tryd.results21, go_sem]) rfl ⟨?_, ?_⟩
      · rw [HR.out]; rfl
      · exact H3.out

set_option maxHeartbeats 2000000 in
theorem agree_any (a b e c d f : Int) (w : World) (h : agreeQ ⟨a, b, e⟩ ⟨c, d, f⟩ = true) :
    Calls Tryd.prog 22 #[.agg #[.int .i64 a, .int .i64 b], .int .i64 e, .agg #[.int .i64 c, .int .i64 d], .int .i64 f] w fun r w' => r = .returned (.bool true) ∧ Below w.heap.size w w' := by
  have H3 : Hid (Below w.heap.size w ((w.alloc (.cells #[.int .i64 a, .int .i64 b] 24)).alloc (.cells #[.int .i64 c, .int .i64 d] 24))) := Lib.hid (((Below.refl _ _).alloc (Nat.le_refl _) _).alloc (by simp) _)
  by_cases he : e = 0
  · subst he
    by_cases hf : f = 0
    · subst hf
      simp [agreeQ] at h
      obtain ⟨rfl, rfl⟩ := h
      go_enter Tryd.func22, Tryd.ntmps22
      go_wp2
      go_ret
      exact ⟨rfl, H3.out⟩
    · have hf' : (f == 0) = false := by simpa using hf
      clear h
      go_enter Tryd.func22, Tryd.ntmps22
      go_wp2
      go_ret
      exact ⟨rfl, H3.out⟩
  · have he' : (e == 0) = false := by simpa using he
    clear h
    go_enter Tryd.func22, Tryd.ntmps22
    go_wp2
    go_ret
    exact ⟨rfl, H3.out⟩
end Go.Proofs.YtaekhbhjgcmghaaDoor
