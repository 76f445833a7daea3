/- Contracts of large, assembled, and of the maker's sizes. -/
import Derived.Test.YthgkdeaapjdadaaDoorWidth
namespace Go.Proofs.YthgkdeaapjdadaaDoor
open Go.RowKit

def largeN : List (List UInt8) := [[40], [41], [91], [93], [123], [125], [124], [47], [60], [62], [114, 111, 111, 116], [115, 117, 109], [112, 114, 111, 100], [105, 110, 116]]
def asmN : List (List UInt8) := [[40], [41], [91], [93], [123], [125], [124], [114, 111, 111, 116]]
def opsL : List Gl := [glOf [99, 100, 111, 116] 778 583 83 0, glOf [116, 105, 109, 101, 115] 778 583 83 0, glOf [112, 109] 778 583 83 0, glOf [99, 117, 112] 778 583 83 0, glOf [99, 97, 112] 778 583 83 0, glOf [108, 101] 778 583 83 0, glOf [103, 101] 778 583 83 0, glOf [110, 101] 778 583 83 0, glOf [116, 111] 778 583 83 0, glOf [105, 110] 778 583 83 0, glOf [115, 117, 98, 115, 101, 116] 778 583 83 0, glOf [105, 110, 102, 116, 121] 778 583 83 0, glOf [100, 111, 116, 115] 778 583 83 0]
def bigL : List Gl := [glOf [115, 117, 109] 1056 750 250 0, glOf [112, 114, 111, 100] 1056 750 250 0, glOf [105, 110, 116] 556 750 250 194]
def accL : List Gl := [glOf [104, 97, 116] 500 694 (-560) 0, glOf [98, 97, 114] 500 694 (-560) 0, glOf [118, 101, 99] 500 694 (-560) 0, glOf [100, 111, 116] 500 694 (-560) 0, glOf [116, 105, 108, 100, 101] 500 694 (-560) 0, glOf [99, 104, 101, 99, 107] 500 694 (-560) 0]
def rootG : Gl := glOf [114, 111, 111, 116] 833 790 210 0
def charL : List Gl := (List.range 94).map fun i => chr (33 + i)
/-- the glyphs of the rules 1 to 6 -/
def F0 : List Gl := charL ++ greekL ++ opsL ++ bigL ++ accL ++ [rootG]
def hdOf (n : List UInt8) : Int × Int := if n == [114, 111, 111, 116] then (790, 210) else (750, 250)
def grow (n : List UInt8) (W I h d : Int) (k : Nat) : Gl := glOf (n ++ [UInt8.ofNat (48 + k)]) (W + 80 * (k : Int)) (h + 300 * (k : Int)) (d + 300 * (k : Int)) I
def three (n : List UInt8) (W I h d : Int) (k : Nat) : List Gl := (List.range k).map fun j => grow n W I h d (j + 1)
def stepS (l : List Gl) (n : List UInt8) : List Gl := l ++ three n (widthL l n).1 (widthL l n).2 (hdOf n).1 (hdOf n).2 3
def GS (i : Nat) : List Gl := (largeN.take i).foldl stepS F0
def partsG (n : List UInt8) (W : Int) : List Gl := [glOf (n ++ [98, 111, 116]) W 900 0 0, glOf (n ++ [101, 120, 116]) W 300 0 0, glOf (n ++ [116, 111, 112]) W 900 0 0]
def stepP (l : List Gl) (n : List UInt8) : List Gl := l ++ partsG n (widthL l (n ++ [51])).1
def GP (j : Nat) : List Gl := (asmN.take j).foldl stepP (GS 14)
/-- all glyphs -/
def GF : List Gl := GP 8

theorem GS_succ (i : Nat) (h : i < largeN.length) : GS (i + 1) = stepS (GS i) largeN[i] := by
  unfold GS
  rw [List.take_succ_eq_append_getElem h, List.foldl_append]; rfl
theorem GP_succ (i : Nat) (h : i < asmN.length) : GP (i + 1) = stepP (GP i) asmN[i] := by
  unfold GP
  rw [List.take_succ_eq_append_getElem h, List.foldl_append]; rfl
theorem gs_ok : (List.range 14).all (fun i => decide (0 ≤ (widthL (GS i) (largeN.getD i [])).1) && decide ((widthL (GS i) (largeN.getD i [])).1 ≤ 10000) && decide ((GS i).length ≤ 900) && decide ((largeN.getD i []).length ≤ 10)) = true := by decide +kernel
theorem gp_ok : (List.range 8).all (fun i => decide (0 ≤ (widthL (GP i) (asmN.getD i [] ++ [51])).1) && decide ((widthL (GP i) (asmN.getD i [] ++ [51])).1 ≤ 10000) && decide ((GP i).length ≤ 900) && decide ((asmN.getD i []).length ≤ 10)) = true := by decide +kernel
theorem getD_at (l : List (List UInt8)) (i : Nat) (h : i < l.length) : l.getD i [] = l[i] := by simp [List.getD, h]
theorem gs_bnd (i : Nat) (h : i < largeN.length) : 0 ≤ (widthL (GS i) largeN[i]).1 ∧ (widthL (GS i) largeN[i]).1 ≤ 10000 ∧ (GS i).length ≤ 900 ∧ largeN[i].length ≤ 10 := by
  have h14 : i < 14 := h
  have := List.all_eq_true.1 gs_ok i (List.mem_range.2 h14)
  rw [getD_at _ i h] at this
  simp only [Bool.and_eq_true, decide_eq_true_eq] at this
  exact ⟨this.1.1.1, this.1.1.2, this.1.2, this.2⟩
theorem gp_bnd (i : Nat) (h : i < asmN.length) : 0 ≤ (widthL (GP i) (asmN[i] ++ [51])).1 ∧ (widthL (GP i) (asmN[i] ++ [51])).1 ≤ 10000 ∧ (GP i).length ≤ 900 ∧ asmN[i].length ≤ 10 := by
  have h8 : i < 8 := h
  have := List.all_eq_true.1 gp_ok i (List.mem_range.2 h8)
  rw [getD_at _ i h] at this
  simp only [Bool.and_eq_true, decide_eq_true_eq] at this
  exact ⟨this.1.1.1, this.1.1.2, this.1.2, this.2⟩

theorem cat (a b : List UInt8) : (⟨a.toArray⟩ : ByteArray) ++ ⟨b.toArray⟩ = ⟨(a ++ b).toArray⟩ := by
  apply ByteArray.ext
  rw [ByteArray.data_append]
  simp
def strC (l : List (List UInt8)) : Array Value := (l.map fun n => Value.string ⟨n.toArray⟩).toArray
theorem strC_at (l : List (List UInt8)) (i : Nat) (h : i < l.length) : (strC l)[i]? = some (.string ⟨l[i].toArray⟩) := by
  unfold strC; simp [h]
set_option maxRecDepth 100000 in
theorem large_any (w : World) : Calls Tryd.prog 42 #[] w fun e w' => e = .returned (.slice (some ⟨w.heap.size, 0, none⟩) 14 14) ∧ w.alloc (.cells (strC largeN) 9) = w' := by
  go_enter Tryd.func42, Tryd.ntmps42
  go_wp2
  go_ret
  exact ⟨rfl, rfl⟩
set_option maxRecDepth 100000 in
theorem asm_any (w : World) : Calls Tryd.prog 52 #[] w fun e w' => e = .returned (.slice (some ⟨w.heap.size, 0, none⟩) 8 8) ∧ w.alloc (.cells (strC asmN) 9) = w' := by
  go_enter Tryd.func52, Tryd.ntmps52
  go_wp2
  go_ret
  exact ⟨rfl, rfl⟩
theorem itoa1 (k : Nat) (h : k < 10) (w : World) : Calls Tryd.prog 51 #[.int .i64 k] w fun e w' => e = .returned (.string ⟨[UInt8.ofNat (48 + k)].toArray⟩) ∧ w = w' :=
  (Tryd.strconv_Itoa_small k (by omega) w).mono fun _ _ ⟨he, hw⟩ => ⟨by rw [Lib.decDigits_one h] at he; exact he, hw.symm⟩
theorem three_succ (n : List UInt8) (W I h d : Int) (k : Nat) : three n W I h d (k + 1) = three n W I h d k ++ [grow n W I h d (k + 1)] := by
  unfold three; rw [List.range_succ, List.map_append]; rfl

set_option maxRecDepth 100000 in
set_option maxHeartbeats 8000000 in
theorem sizes_any (b B : Nat) (w : World) (hm : Mk w b F0) (hB : B ≤ b) :
    Calls Tryd.prog 40 #[.pointer (some ⟨b, 0, none⟩)] w (RetMk w b B GF) := by
  have hlt := hm.lt
  have nb : w.heap.size ≠ b := by omega
  have HM := Lib.hid (hm.alloc (.cells (strC largeN) 9))
  have HK := Lib.hid ((Keep.refl b w).alloc (.cells (strC largeN) 9))
  have HBl := Lib.hid (blk_new w (.cells (strC largeN) 9))
  have HB : Hid (Below B w (w.alloc (.cells (strC largeN) 9))) := Lib.hid ((Below.refl _ _).alloc (by omega) _)
  clear hm
  go_enter Tryd.func40, Tryd.ntmps40
  go_wp2_with fail
  refine (large_any _).mono ?_
  rintro e w1 ⟨rfl, hw1⟩
  rw [hw1] at HM HK HBl HB
  clear hw1
  go_wp2_with fail
  go_loopg [15, 3, 4, 5, 6, 7, 8] 14 (fun gg s15 _ _ _ _ _ _ wr => ∃ i : Nat, i ≤ 14 ∧ 14 - i ≤ gg ∧ s15 = .int .i64 i ∧ Aside (Mk wr b (GS i)) ∧ Aside (Below B w wr) ∧ Aside (Keep b w wr) ∧ Aside (wr.heap[w.heap.size]? = some (.cells (strC largeN) 9)))
  case atStart => exact ⟨0, by omega, by omega, rfl, HM.out, HB.out, HK.out, HBl.out⟩
  case round =>
    obtain ⟨i, hi, hgg, rfl, HMr, HBr, HKr, HNr⟩ := hrel
    clear HM HK HBl HB
    by_cases hil : i < 14
    · have hiz : (i : Int) < 14 := by omega
      have hil' : i < largeN.length := hil
      obtain ⟨q1, q2, q3, q4⟩ := gs_bnd i hil'
      have HS := Lib.hid (GS_succ i hil')
      have hc := (cell_blk HNr.out i).trans (strC_at largeN i hil')
      obtain ⟨n, hn⟩ : ∃ n, n = largeN[i] := ⟨_, rfl⟩
      obtain ⟨wi, hwi⟩ : ∃ x, x = widthL (GS i) n := ⟨_, rfl⟩
      rw [← hn] at q1 q2 q4 HS hc
      rw [← hwi] at q1 q2
      unfold stepS at HS
      rw [← hwi] at HS
      have HWI := Lib.hid hwi
      clear hwi hn
      obtain ⟨W, I⟩ := wi
      simp only at q1 q2 HS
      go_wp2_with fail
      refine (width_any n (GS i) b _ HMr.out (by omega)).mono ?_
      rw [← HWI.out]
      rintro e w2 ⟨rfl, hb2⟩
      have HM2 := Lib.hid (HMr.out.below hb2)
      have HB2 := Lib.hid (HBr.out.trans (hb2.mono (Nat.le_trans hB (Nat.le_of_lt HMr.out.lt))))
      have HK2 := Lib.hid (HKr.out.trans (Keep.of_below hb2))
      have HN2 : Hid (w2.heap[w.heap.size]? = some (.cells (strC largeN) 9)) := (Keep.of_below (b := b) hb2).blk HNr.out nb (by decide)
      clear hb2 hc HMr HBr HKr HNr
      cases hr : (n == [114, 111, 111, 116])
      case false =>
        unfold hdOf at HS
        rw [hr] at HS
        simp only [Bool.false_eq_true, if_false] at HS
        go_wp2_with fail
        go_loopg [8] 4 (fun gg s8 wr => ∃ k : Nat, k ≤ 3 ∧ 3 - k ≤ gg ∧ s8 = .int .i64 ((k : Int) + 1) ∧ Aside (Mk wr b (GS i ++ three n W I 750 250 k)) ∧ Aside (Below B w wr) ∧ Aside (Keep b w wr) ∧ Aside (wr.heap[w.heap.size]? = some (.cells (strC largeN) 9)))
        case atStart => exact ⟨0, by omega, by omega, rfl, (by show Mk _ b (GS i ++ []); rw [List.append_nil]; exact HM2.out), HB2.out, HK2.out, HN2.out⟩
        case round =>
          obtain ⟨k, hk3, hg3, rfl, HM3, HB3, HK3, HN3⟩ := hrel
          clear HM2 HB2 HK2 HN2
          by_cases hkl : k < 3
          · have hkz : (k : Int) + 1 ≤ 3 := by omega
            have HT : Hid (three n W I 750 250 (k + 1) = three n W I 750 250 k ++ [glOf (n ++ [UInt8.ofNat (48 + (k + 1))]) (W + 80 * ((k : Int) + 1)) (750 + 300 * ((k : Int) + 1)) (250 + 300 * ((k : Int) + 1)) I]) := three_succ n W I 750 250 k
            obtain ⟨dg, hdg⟩ : ∃ dg, dg = UInt8.ofNat (48 + (k + 1)) := ⟨_, rfl⟩
            rw [← hdg] at HT
            have HDG := Lib.hid hdg
            clear hdg
            have HC := Lib.hid (cat n [dg])
            go_wp2_with fail
            rw [show ((k : Int) + 1) = ((k + 1 : Nat) : Int) from by simp]
            refine (itoa1 (k + 1) (by omega) _).mono ?_
            rw [← HDG.out]
            rintro e w' ⟨rfl, rfl⟩
            go_wp2_with fail
            rw [HC.out]
            refine (add_any (n ++ [dg]) (W + 80 * ((k : Int) + 1)) (750 + 300 * ((k : Int) + 1)) (250 + 300 * ((k : Int) + 1)) I _ b B _ (by omega) (by omega) HM3.out (by rw [List.length_append]; unfold three; simp; omega) hB).mono ?_
            rintro e w4 ⟨rfl, hM4, hb4, hk4⟩
            have HR := Lib.hid (And.intro hM4 (And.intro hb4 hk4))
            clear hM4 hb4 hk4
            go_wp2_with fail
            go_roundg (3 - (k + 1))
            case measure => omega
            case rel => exact ⟨k + 1, by omega, by omega, by go_num, (by have := HR.out.1; rw [List.append_assoc, ← HT.out] at this; exact this), HB3.out.trans HR.out.2.1, HK3.out.trans HR.out.2.2, HR.out.2.2.blk HN3.out nb (by decide)⟩
          · have hkz : ¬ (k : Int) + 1 ≤ 3 := by omega
            obtain rfl : k = 3 := by omega
            go_wp2_with fail
            go_roundg (14 - (i + 1))
            case measure => omega
            case rel => exact ⟨i + 1, by omega, by omega, by go_num, (by rw [HS.out]; exact HM3.out), HB3.out, HK3.out, HN3.out⟩
      case true =>
        unfold hdOf at HS
        rw [hr] at HS
        simp only [if_true] at HS
        go_wp2_with fail
        go_loopg [8] 4 (fun gg s8 wr => ∃ k : Nat, k ≤ 3 ∧ 3 - k ≤ gg ∧ s8 = .int .i64 ((k : Int) + 1) ∧ Aside (Mk wr b (GS i ++ three n W I 790 210 k)) ∧ Aside (Below B w wr) ∧ Aside (Keep b w wr) ∧ Aside (wr.heap[w.heap.size]? = some (.cells (strC largeN) 9)))
        case atStart => exact ⟨0, by omega, by omega, rfl, (by show Mk _ b (GS i ++ []); rw [List.append_nil]; exact HM2.out), HB2.out, HK2.out, HN2.out⟩
        case round =>
          obtain ⟨k, hk3, hg3, rfl, HM3, HB3, HK3, HN3⟩ := hrel
          clear HM2 HB2 HK2 HN2
          by_cases hkl : k < 3
          · have hkz : (k : Int) + 1 ≤ 3 := by omega
            have HT : Hid (three n W I 790 210 (k + 1) = three n W I 790 210 k ++ [glOf (n ++ [UInt8.ofNat (48 + (k + 1))]) (W + 80 * ((k : Int) + 1)) (790 + 300 * ((k : Int) + 1)) (210 + 300 * ((k : Int) + 1)) I]) := three_succ n W I 790 210 k
            obtain ⟨dg, hdg⟩ : ∃ dg, dg = UInt8.ofNat (48 + (k + 1)) := ⟨_, rfl⟩
            rw [← hdg] at HT
            have HDG := Lib.hid hdg
            clear hdg
            have HC := Lib.hid (cat n [dg])
            go_wp2_with fail
            rw [show ((k : Int) + 1) = ((k + 1 : Nat) : Int) from by simp]
            refine (itoa1 (k + 1) (by omega) _).mono ?_
            rw [← HDG.out]
            rintro e w' ⟨rfl, rfl⟩
            go_wp2_with fail
            rw [HC.out]
            refine (add_any (n ++ [dg]) (W + 80 * ((k : Int) + 1)) (790 + 300 * ((k : Int) + 1)) (210 + 300 * ((k : Int) + 1)) I _ b B _ (by omega) (by omega) HM3.out (by rw [List.length_append]; unfold three; simp; omega) hB).mono ?_
            rintro e w4 ⟨rfl, hM4, hb4, hk4⟩
            have HR := Lib.hid (And.intro hM4 (And.intro hb4 hk4))
            clear hM4 hb4 hk4
            go_wp2_with fail
            go_roundg (3 - (k + 1))
            case measure => omega
            case rel => exact ⟨k + 1, by omega, by omega, by go_num, (by have := HR.out.1; rw [List.append_assoc, ← HT.out] at this; exact this), HB3.out.trans HR.out.2.1, HK3.out.trans HR.out.2.2, HR.out.2.2.blk HN3.out nb (by decide)⟩
          · have hkz : ¬ (k : Int) + 1 ≤ 3 := by omega
            obtain rfl : k = 3 := by omega
            go_wp2_with fail
            go_roundg (14 - (i + 1))
            case measure => omega
            case rel => exact ⟨i + 1, by omega, by omega, by go_num, (by rw [HS.out]; exact HM3.out), HB3.out, HK3.out, HN3.out⟩
    · have hiz : ¬ (i : Int) < 14 := by omega
      obtain rfl : i = 14 := by omega
      have hwl := HMr.out.lt
      have nb2 : wr.heap.size ≠ b := by omega
      obtain ⟨wo, hwo⟩ : ∃ wo : World, wo = wr := ⟨_, rfl⟩
      rw [← hwo] at HMr HBr HKr hwl nb2 ⊢
      clear hwo
      have HM := Lib.hid (HMr.out.alloc (.cells (strC asmN) 9))
      have HK := Lib.hid (HKr.out.alloc (.cells (strC asmN) 9))
      have HBl := Lib.hid (blk_new wo (.cells (strC asmN) 9))
      have HB : Hid (Below B w (wo.alloc (.cells (strC asmN) 9))) := Lib.hid (HBr.out.alloc (by omega) _)
      go_wp2_with fail
      refine (asm_any _).mono ?_
      rintro e w5 ⟨rfl, hw5⟩
      rw [hw5] at HM HK HBl HB
      clear hw5
      go_wp2_with fail
      go_loopg [53, 10, 11, 12] 8 (fun gg s53 _ _ _ wq => ∃ i : Nat, i ≤ 8 ∧ 8 - i ≤ gg ∧ s53 = .int .i64 i ∧ Aside (Mk wq b (GP i)) ∧ Aside (Below B w wq) ∧ Aside (Keep b w wq) ∧ Aside (wq.heap[wo.heap.size]? = some (.cells (strC asmN) 9)))
      case atStart => exact ⟨0, by omega, by omega, rfl, HM.out, HB.out, HK.out, HBl.out⟩
      case round =>
        obtain ⟨i, hi, hgg, rfl, HMr, HBr, HKr, HNr⟩ := hrel
        clear HM HK HBl HB
        by_cases hil : i < 8
        · have hiz : (i : Int) < 8 := by omega
          have hil' : i < asmN.length := hil
          obtain ⟨q1, q2, q3, q4⟩ := gp_bnd i hil'
          have HS := Lib.hid (GP_succ i hil')
          have hc := (cell_blk HNr.out i).trans (strC_at asmN i hil')
          obtain ⟨n, hn⟩ : ∃ n, n = asmN[i] := ⟨_, rfl⟩
          obtain ⟨wi, hwi⟩ : ∃ x, x = widthL (GP i) (n ++ [51]) := ⟨_, rfl⟩
          rw [← hn] at q1 q2 q4 HS hc
          rw [← hwi] at q1 q2
          unfold stepP at HS
          rw [← hwi] at HS
          have HWI := Lib.hid hwi
          clear hwi hn
          obtain ⟨W, I⟩ := wi
          simp only at q1 q2 HS
          have HC3 := Lib.hid (cat n [51])
          have HCb := Lib.hid (cat n [98, 111, 116])
          have HCe := Lib.hid (cat n [101, 120, 116])
          have HCt := Lib.hid (cat n [116, 111, 112])
          go_wp2_with fail
          rw [show (⟨n.toArray⟩ : ByteArray) ++ ⟨#[51]⟩ = ⟨(n ++ [51]).toArray⟩ from HC3.out]
          refine (width_any (n ++ [51]) (GP i) b _ HMr.out (by omega)).mono ?_
          rw [← HWI.out]
          rintro e w2 ⟨rfl, hb2⟩
          have HM2 := Lib.hid (HMr.out.below hb2)
          have HB2 := Lib.hid (HBr.out.trans (hb2.mono (Nat.le_trans hB (Nat.le_of_lt HMr.out.lt))))
          have HK2 := Lib.hid (HKr.out.trans (Keep.of_below hb2))
          have HN2 : Hid (w2.heap[wo.heap.size]? = some (.cells (strC asmN) 9)) := (Keep.of_below (b := b) hb2).blk HNr.out nb2 (by decide)
          clear hb2 hc HMr HBr HKr HNr
          go_wp2_with fail
          rw [show (⟨n.toArray⟩ : ByteArray) ++ ⟨#[98, 111, 116]⟩ = ⟨(n ++ [98, 111, 116]).toArray⟩ from HCb.out]
          refine (add_any (n ++ [98, 111, 116]) W 900 0 0 _ b B _ (by omega) (by omega) HM2.out (by first | omega | (simp; omega)) hB).mono ?_
          rintro e w7 ⟨rfl, hM, hb, hk⟩
          have HM3 := Lib.hid hM
          have HB3 := Lib.hid (HB2.out.trans hb)
          have HK3 := Lib.hid (HK2.out.trans hk)
          have HN3 : Hid (w7.heap[wo.heap.size]? = some (.cells (strC asmN) 9)) := hk.blk HN2.out nb2 (by decide)
          clear hM hb hk HM2 HB2 HK2 HN2
          go_wp2_with fail
          rw [show (⟨n.toArray⟩ : ByteArray) ++ ⟨#[101, 120, 116]⟩ = ⟨(n ++ [101, 120, 116]).toArray⟩ from HCe.out]
          refine (add_any (n ++ [101, 120, 116]) W 300 0 0 _ b B _ (by omega) (by omega) HM3.out (by first | omega | (simp; omega)) hB).mono ?_
          rintro e w8 ⟨rfl, hM, hb, hk⟩
          have HM4 := Lib.hid hM
          have HB4 := Lib.hid (HB3.out.trans hb)
          have HK4 := Lib.hid (HK3.out.trans hk)
          have HN4 : Hid (w8.heap[wo.heap.size]? = some (.cells (strC asmN) 9)) := hk.blk HN3.out nb2 (by decide)
          clear hM hb hk HM3 HB3 HK3 HN3
          go_wp2_with fail
          rw [show (⟨n.toArray⟩ : ByteArray) ++ ⟨#[116, 111, 112]⟩ = ⟨(n ++ [116, 111, 112]).toArray⟩ from HCt.out]
          refine (add_any (n ++ [116, 111, 112]) W 900 0 0 _ b B _ (by omega) (by omega) HM4.out (by first | omega | (simp; omega)) hB).mono ?_
          rintro e w9 ⟨rfl, hM, hb, hk⟩
          have HM5 := Lib.hid hM
          have HB5 := Lib.hid (HB4.out.trans hb)
          have HK5 := Lib.hid (HK4.out.trans hk)
          have HN5 : Hid (w9.heap[wo.heap.size]? = some (.cells (strC asmN) 9)) := hk.blk HN4.out nb2 (by decide)
          clear hM hb hk HM4 HB4 HK4 HN4
          go_wp2_with fail
          go_roundg (8 - (i + 1))
          case measure => omega
          case rel => exact ⟨i + 1, by omega, by omega, by go_num, (by rw [HS.out]; have := HM5.out; rw [List.append_assoc, List.append_assoc] at this; exact this), HB5.out, HK5.out, HN5.out⟩
        · have hiz : ¬ (i : Int) < 8 := by omega
          obtain rfl : i = 8 := by omega
          go_wp2_with fail
          go_end0
          exact ⟨rfl, HMr.out, HBr.out, HKr.out⟩

end Go.Proofs.YthgkdeaapjdadaaDoor
