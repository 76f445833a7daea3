/- Contract of glyphs. -/
import Derived.Test.YthgkdeaapjdadaaDoorSizes
namespace Go.Proofs.YthgkdeaapjdadaaDoor
open Go.RowKit

def opsN : List (List UInt8) := [[99, 100, 111, 116], [116, 105, 109, 101, 115], [112, 109], [99, 117, 112], [99, 97, 112], [108, 101], [103, 101], [110, 101], [116, 111], [105, 110], [115, 117, 98, 115, 101, 116], [105, 110, 102, 116, 121], [100, 111, 116, 115]]
def accN : List (List UInt8) := [[104, 97, 116], [98, 97, 114], [118, 101, 99], [100, 111, 116], [116, 105, 108, 100, 101], [99, 104, 101, 99, 107]]
def opG (n : List UInt8) : Gl := glOf n 778 583 83 0
def accG (n : List UInt8) : Gl := glOf n 500 694 (-560) 0
theorem ops_eq : opsN.map opG = opsL := rfl
theorem acc_eq : accN.map accG = accL := rfl
theorem char_succ (k : Nat) : ((List.range (k + 1)).map fun i => chr (33 + i)) = ((List.range k).map fun i => chr (33 + i)) ++ [chr (33 + k)] := by
  rw [List.range_succ, List.map_append]; rfl
theorem map_succ (f : List UInt8 → Gl) (l : List (List UInt8)) (k : Nat) (h : k < l.length) : (l.take (k + 1)).map f = (l.take k).map f ++ [f l[k]] := by
  rw [List.take_succ_eq_append_getElem h, List.map_append]; rfl
/-- a call that returned a row of its own with the glyphs l -/
def RetGl (w : World) (l : List Gl) (e : Ending) (w' : World) : Prop := ∃ v, e = .returned v ∧ w'.ownsRow w.heap.size 32 6 v l.length (gcells l) ∧ Below w.heap.size w w'
theorem own_mono {w : World} {base base' : Nat} {e : TypeId} {size n : Nat} {v : Value} {xs : List Value} (h : w.ownsRow base e size v n xs) (hb : base' ≤ base) : w.ownsRow base' e size v n xs := by
  refine ⟨h.1, ?_⟩
  rcases h.2 with h' | ⟨g, cap, cur, h1, h2, h3⟩
  · exact .inl h'
  · exact .inr ⟨g, cap, cur, h1, Nat.le_trans hb h2, h3⟩
theorem mk_start (w : World) : Mk (w.alloc (.cells #[.slice none 0 0] 81)) w.heap.size [] := by
  refine ⟨⟨.slice none 0 0, by simp, World.ownsRow_nil _ _ _ _⟩, by simp, by simp⟩


set_option maxRecDepth 100000 in
set_option maxHeartbeats 8000000 in
theorem glyphs_any (w : World) : Calls Tryd.prog 22 #[] w (RetGl w GF) := by
  have HM0 := Lib.hid (mk_start w)
  have HB0 : Hid (Below w.heap.size w (w.alloc (.cells #[.slice none 0 0] 81))) := Lib.hid ((Below.refl _ _).alloc (Nat.le_refl _) _)
  go_enter Tryd.func22, Tryd.ntmps22
  go_wp2_with fail
  go_loopg [2] 94 (fun gg s2 wr => ∃ k : Nat, k ≤ 94 ∧ 94 - k ≤ gg ∧ s2 = .int .i32 ((33 + k : Nat) : Int) ∧ Aside (Mk wr w.heap.size ((List.range k).map fun i => chr (33 + i))) ∧ Aside (Below w.heap.size w wr))
  case atStart => exact ⟨0, by omega, by omega, rfl, HM0.out, HB0.out⟩
  case round =>
    obtain ⟨k, hk, hgg, rfl, HMr, HBr⟩ := hrel
    clear HM0 HB0
    by_cases hkl : k < 94
    · have hkz : ((33 + k : Nat) : Int) ≤ 126 := by omega
      have HS := Lib.hid (char_succ k)
      obtain ⟨c, hc⟩ : ∃ c, c = 33 + k := ⟨_, rfl⟩
      rw [← hc] at hkz ⊢
      have HC := Lib.hid hc
      have hc1 : 33 ≤ c := by omega
      have hc2 : c ≤ 126 := by omega
      clear hc
      go_wp2_with fail
      refine (chr_any c _ w.heap.size w.heap.size _ hc1 hc2 HMr.out (by simp; omega) (Nat.le_refl _)).mono ?_
      rintro e w1 ⟨rfl, hM, hb, _⟩
      have HR := Lib.hid (And.intro hM hb)
      clear hM hb
      go_wp2_with fail
      go_roundg (94 - (k + 1))
      case measure => omega
      case rel => exact ⟨k + 1, by omega, by omega, (by rw [HC.out]; go_num), (by rw [HS.out, ← HC.out]; exact HR.out.1), HBr.out.trans HR.out.2⟩
    have hkz : ¬ ((33 + k : Nat) : Int) ≤ 126 := by omega
    obtain rfl : k = 94 := by omega
    obtain ⟨w0, hw0⟩ : ∃ w0 : World, w0 = wr := ⟨_, rfl⟩
    rw [← hw0] at HMr HBr ⊢
    clear hw0
    go_wp2_with fail
    refine (greek_any _ w.heap.size w.heap.size _ HMr.out (by simp) (Nat.le_refl _)).mono ?_
    rintro e w1 ⟨rfl, hM, hb, _⟩
    have HM1 : Hid (Mk w1 w.heap.size (charL ++ greekL)) := hM
    have HB1 := Lib.hid (HBr.out.trans hb)
    have hs1 := HM1.out.lt
    have nb1 : w1.heap.size ≠ w.heap.size := by omega
    clear hM hb HMr HBr
    have HM2 := Lib.hid (HM1.out.alloc (.cells (strC opsN) 9))
    have HBl := Lib.hid (blk_new w1 (.cells (strC opsN) 9))
    have HB2 : Hid (Below w.heap.size w (w1.alloc (.cells (strC opsN) 9))) := Lib.hid (HB1.out.alloc (by omega) _)
    go_wp2_with fail
    go_loopg [20, 4] 13 (fun gg s20 _ wq => ∃ i : Nat, i ≤ 13 ∧ 13 - i ≤ gg ∧ s20 = .int .i64 i ∧ Aside (Mk wq w.heap.size (charL ++ greekL ++ (opsN.take i).map opG)) ∧ Aside (Below w.heap.size w wq) ∧ Aside (wq.heap[w1.heap.size]? = some (.cells (strC opsN) 9)))
    case atStart => exact ⟨0, by omega, by omega, rfl, (by show Mk _ _ (charL ++ greekL ++ []); rw [List.append_nil]; exact HM2.out), HB2.out, HBl.out⟩
    case round =>
      obtain ⟨i, hi, hgg, rfl, HMr, HBr, HNr⟩ := hrel
      clear HM2 HBl HB2 HM1 HB1
      by_cases hil : i < 13
      · have hiz : (i : Int) < 13 := by omega
        have hil' : i < opsN.length := hil
        have HS := Lib.hid (map_succ opG opsN i hil')
        have hc := (cell_blk HNr.out i).trans (strC_at opsN i hil')
        obtain ⟨n, hn⟩ : ∃ n, n = opsN[i] := ⟨_, rfl⟩
        rw [← hn] at HS hc
        clear hn
        go_wp2_with fail
        refine (add_any n 778 583 83 0 _ w.heap.size w.heap.size _ (by omega) (by omega) HMr.out (by simp [charL, greekL]; omega) (Nat.le_refl _)).mono ?_
        rintro e w2 ⟨rfl, hM, hb, hk⟩
        have HR := Lib.hid (And.intro hM (And.intro hb hk))
        clear hM hb hk
        go_wp2_with fail
        go_roundg (13 - (i + 1))
        case measure => omega
        case rel => exact ⟨i + 1, by omega, by omega, by go_num, (by have := HR.out.1; rw [List.append_assoc] at this; rw [HS.out]; exact this), HBr.out.trans HR.out.2.1, HR.out.2.2.blk HNr.out nb1 (by decide)⟩
      have hiz : ¬ (i : Int) < 13 := by omega
      obtain rfl : i = 13 := by omega
      obtain ⟨w2, hw2⟩ : ∃ w2 : World, w2 = wr := ⟨_, rfl⟩
      rw [← hw2] at HMr HBr ⊢
      clear hw2 HNr
      have HM2 : Hid (Mk w2 w.heap.size (charL ++ greekL ++ opsL)) := HMr.out
      have HB2 := Lib.hid HBr.out
      clear HMr HBr
      go_wp2_with fail
      refine (add_any [115, 117, 109] 1056 750 250 0 _ w.heap.size w.heap.size _ (by omega) (by omega) HM2.out (by simp [charL, greekL, opsL]) (Nat.le_refl _)).mono ?_
      rintro e w3 ⟨rfl, hM, hb, _⟩
      have HM3 := Lib.hid hM
      have HB3 := Lib.hid (HB2.out.trans hb)
      clear hM hb HM2 HB2
      go_wp2_with fail
      refine (add_any [112, 114, 111, 100] 1056 750 250 0 _ w.heap.size w.heap.size _ (by omega) (by omega) HM3.out (by simp [charL, greekL, opsL]) (Nat.le_refl _)).mono ?_
      rintro e w4 ⟨rfl, hM, hb, _⟩
      have HM4 := Lib.hid hM
      have HB4 := Lib.hid (HB3.out.trans hb)
      clear hM hb HM3 HB3
      go_wp2_with fail
      refine (add_any [105, 110, 116] 556 750 250 194 _ w.heap.size w.heap.size _ (by omega) (by omega) HM4.out (by simp [charL, greekL, opsL]) (Nat.le_refl _)).mono ?_
      rintro e w5 ⟨rfl, hM, hb, _⟩
      have HM5 : Hid (Mk w5 w.heap.size (charL ++ greekL ++ opsL ++ bigL)) := by
        have := hM
        rw [List.append_assoc (_ ++ _), List.append_assoc (_ ++ _)] at this
        exact this
      have HB5 := Lib.hid (HB4.out.trans hb)
      have hs5 := HM5.out.lt
      have nb5 : w5.heap.size ≠ w.heap.size := by omega
      clear hM hb HM4 HB4
      have HM6 := Lib.hid (HM5.out.alloc (.cells (strC accN) 9))
      have HBl := Lib.hid (blk_new w5 (.cells (strC accN) 9))
      have HB6 : Hid (Below w.heap.size w (w5.alloc (.cells (strC accN) 9))) := Lib.hid (HB5.out.alloc (by omega) _)
      go_wp2_with fail
      go_loopg [36, 6] 6 (fun gg s36 _ wq => ∃ i : Nat, i ≤ 6 ∧ 6 - i ≤ gg ∧ s36 = .int .i64 i ∧ Aside (Mk wq w.heap.size (charL ++ greekL ++ opsL ++ bigL ++ (accN.take i).map accG)) ∧ Aside (Below w.heap.size w wq) ∧ Aside (wq.heap[w5.heap.size]? = some (.cells (strC accN) 9)))
      case atStart => exact ⟨0, by omega, by omega, rfl, (by show Mk _ _ (charL ++ greekL ++ opsL ++ bigL ++ []); rw [List.append_nil]; exact HM6.out), HB6.out, HBl.out⟩
      case round =>
        obtain ⟨i, hi, hgg, rfl, HMr, HBr, HNr⟩ := hrel
        clear HM6 HBl HB6 HM5 HB5
        by_cases hil : i < 6
        · have hiz : (i : Int) < 6 := by omega
          have hil' : i < accN.length := hil
          have HS := Lib.hid (map_succ accG accN i hil')
          have hc := (cell_blk HNr.out i).trans (strC_at accN i hil')
          obtain ⟨n, hn⟩ : ∃ n, n = accN[i] := ⟨_, rfl⟩
          rw [← hn] at HS hc
          clear hn
          go_wp2_with fail
          refine (add_any n 500 694 (-560) 0 _ w.heap.size w.heap.size _ (by omega) (by omega) HMr.out (by simp [charL, greekL, opsL, bigL]; omega) (Nat.le_refl _)).mono ?_
          rintro e w6 ⟨rfl, hM, hb, hk⟩
          have HR := Lib.hid (And.intro hM (And.intro hb hk))
          clear hM hb hk
          go_wp2_with fail
          go_roundg (6 - (i + 1))
          case measure => omega
          case rel => exact ⟨i + 1, by omega, by omega, by go_num, (by have := HR.out.1; rw [List.append_assoc] at this; rw [HS.out]; exact this), HBr.out.trans HR.out.2.1, HR.out.2.2.blk HNr.out nb5 (by decide)⟩
        have hiz : ¬ (i : Int) < 6 := by omega
        obtain rfl : i = 6 := by omega
        obtain ⟨w6, hw6⟩ : ∃ w6 : World, w6 = wr := ⟨_, rfl⟩
        rw [← hw6] at HMr HBr ⊢
        clear hw6 HNr
        go_wp2_with fail
        refine (add_any [114, 111, 111, 116] 833 790 210 0 _ w.heap.size w.heap.size _ (by omega) (by omega) HMr.out (by simp [charL, greekL, opsL, bigL, accN]) (Nat.le_refl _)).mono ?_
        rintro e w7 ⟨rfl, hM, hb, _⟩
        have HM7 : Hid (Mk w7 w.heap.size F0) := hM
        have HB7 := Lib.hid (HBr.out.trans hb)
        clear hM hb HMr HBr
        go_wp2_with fail
        refine (sizes_any w.heap.size w.heap.size _ HM7.out (Nat.le_refl _)).mono ?_
        rintro e w8 ⟨rfl, hM, hb, _⟩
        have HB8 := Lib.hid (HB7.out.trans hb)
        obtain ⟨v, hc, ho⟩ := hM.ex
        have HO := Lib.hid (own_mono ho (base' := w.heap.size) (by omega))
        clear hM hb HM7 HB7 ho
        go_wp2_with fail
        go_ret
        exact ⟨_, rfl, HO.out, HB8.out⟩
end Go.Proofs.YthgkdeaapjdadaaDoor
