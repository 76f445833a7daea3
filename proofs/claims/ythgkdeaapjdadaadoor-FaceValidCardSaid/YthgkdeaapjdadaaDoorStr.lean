/- Contracts of parts and stretches. -/
import Derived.Test.YthgkdeaapjdadaaDoorFind
namespace Go.Proofs.YthgkdeaapjdadaaDoor
open Go.RowKit

def brace (n : List UInt8) : Bool := n == [123] || n == [125]
def pk (n : List UInt8) : Nat := if brace n then 5 else 3
def bot (n : List UInt8) : List Value := [.string (⟨n.toArray⟩ ++ ⟨#[98, 111, 116]⟩), .bool false]
def ext (n : List UInt8) : List Value := [.string (⟨n.toArray⟩ ++ ⟨#[101, 120, 116]⟩), .bool true]
def top (n : List UInt8) : List Value := [.string (⟨n.toArray⟩ ++ ⟨#[116, 111, 112]⟩), .bool false]
def partC (n : List UInt8) : Array Value := (if brace n then bot n ++ ext n ++ bot n ++ ext n ++ top n else bot n ++ ext n ++ top n).toArray
def pv (n : List UInt8) (pb : Nat) : Value := if asmN.contains n then .slice (some ⟨pb, 0, none⟩) (pk n) (pk n) else .slice none 0 0
/-- what parts returns -/
def RetPart (w : World) (n : List UInt8) (e : Ending) (w' : World) : Prop := ∃ pb, e = .returned (pv n pb) ∧ (asmN.contains n = true → w'.heap[pb]? = some (.cells (partC n) 63)) ∧ Below w.heap.size w w'
theorem two_below {w w' : World} {b : Nat} {v0 v1 : Value} {t : TypeId} (h : w.heap[b]? = some (.cells #[v0, v1] t)) (hb : Below w.heap.size w w') (hlt : b < w.heap.size) :
    w'.cell? ⟨b, 0, none⟩ = some v0 ∧ w'.cell? ⟨b, 1, none⟩ = some v1 := by
  have h' : w'.heap[b]? = some (.cells #[v0, v1] t) := (hb.block b hlt).trans h
  exact ⟨cell_blk h' 0, cell_blk h' 1⟩
theorem heap_old {w : World} {b : Nat} {o : Obj} (h : w.heap[b]? = some o) (hlt : b < w.heap.size) (o' : Obj) : (w.alloc o').heap[b]? = some o := (Below.heap_alloc w o' b hlt).trans h

set_option maxRecDepth 100000 in
set_option maxHeartbeats 4000000 in
theorem parts_any (n : List UInt8) (w : World) (hn : n.length ≤ 10) : Calls Tryd.prog 43 #[.string ⟨n.toArray⟩] w (RetPart w n) := by
  obtain ⟨sb, hsb⟩ : ∃ sb : ByteArray, sb = ⟨n.toArray⟩ ++ ⟨#[98, 111, 116]⟩ := ⟨_, rfl⟩
  obtain ⟨se, hse⟩ : ∃ se : ByteArray, se = ⟨n.toArray⟩ ++ ⟨#[101, 120, 116]⟩ := ⟨_, rfl⟩
  obtain ⟨st, hst⟩ : ∃ st : ByteArray, st = ⟨n.toArray⟩ ++ ⟨#[116, 111, 112]⟩ := ⟨_, rfl⟩
  have k0 : ((((w.alloc (.cells #[.string sb, .bool false] 63)).alloc (.cells #[.string se, .bool true] 63)).alloc (.cells #[.string st, .bool false] 63))).heap[w.heap.size]? = some (.cells #[.string sb, .bool false] 63) := heap_old (heap_old (blk_new _ _) (by simp) _) (by simp; omega) _
  have k1 : ((((w.alloc (.cells #[.string sb, .bool false] 63)).alloc (.cells #[.string se, .bool true] 63)).alloc (.cells #[.string st, .bool false] 63))).heap[w.heap.size + 1]? = some (.cells #[.string se, .bool true] 63) := by
    have := blk_new (w.alloc (.cells #[.string sb, .bool false] 63)) (.cells #[.string se, .bool true] 63)
    rw [World.size_alloc] at this
    exact heap_old this (by simp) _
  have k2 : ((((w.alloc (.cells #[.string sb, .bool false] 63)).alloc (.cells #[.string se, .bool true] 63)).alloc (.cells #[.string st, .bool false] 63))).heap[w.heap.size + 1 + 1]? = some (.cells #[.string st, .bool false] 63) := by
    have := blk_new ((w.alloc (.cells #[.string sb, .bool false] 63)).alloc (.cells #[.string se, .bool true] 63)) (.cells #[.string st, .bool false] 63)
    rw [World.size_alloc, World.size_alloc] at this
    exact this
  have kb : Below w.heap.size w ((((w.alloc (.cells #[.string sb, .bool false] 63)).alloc (.cells #[.string se, .bool true] 63)).alloc (.cells #[.string st, .bool false] 63))) := (((Below.refl _ _).alloc (Nat.le_refl _) _).alloc (by simp) _).alloc (by simp; omega) _
  have ks : (((w.alloc (.cells #[.string sb, .bool false] 63)).alloc (.cells #[.string se, .bool true] 63)).alloc (.cells #[.string st, .bool false] 63)).heap.size = w.heap.size + 3 := by simp
  rw [hsb, hse, hst] at k0 k1 k2 kb ks
  have HC := Lib.hid (And.intro hsb (And.intro hse hst))
  go_enter Tryd.func43, Tryd.ntmps43
  clear hsb hse hst
  have K := Lib.hid (And.intro k0 (And.intro k1 (And.intro k2 (And.intro kb ks))))
  clear k0 k1 k2 kb ks
  go_wp2_with fail
  refine (asm_any _).mono ?_
  obtain ⟨w3, hw3⟩ : ∃ w3, w3 = ((w.alloc (.cells #[.string (⟨n.toArray⟩ ++ ⟨#[98, 111, 116]⟩), .bool false] 63)).alloc (.cells #[.string (⟨n.toArray⟩ ++ ⟨#[101, 120, 116]⟩), .bool true] 63)).alloc (.cells #[.string (⟨n.toArray⟩ ++ ⟨#[116, 111, 112]⟩), .bool false] 63) := ⟨_, rfl⟩
  rw [← hw3] at K ⊢
  clear hw3
  rintro e w1 ⟨rfl, hw1⟩
  have hs3 := K.out.2.2.2.2
  have HN : Hid (w1.heap[w3.heap.size]? = some (.cells (strC asmN) 9)) := by rw [← hw1]; exact blk_new _ _
  have hb1 : Below w3.heap.size w3 w1 := by rw [← hw1]; exact (Below.refl _ _).alloc (Nat.le_refl _) _
  obtain ⟨c0, c1⟩ := two_below K.out.1 hb1 (by omega)
  obtain ⟨c2, c3⟩ := two_below K.out.2.1 hb1 (by omega)
  obtain ⟨c4, c5⟩ := two_below K.out.2.2.1 hb1 (by omega)
  have HB1 := Lib.hid (K.out.2.2.2.1.trans (hb1.mono (by omega)))
  have hs1 := HB1.out.size
  rw [hs3] at HN
  clear hb1 hw1 K
  go_wp2_with fail
  go_loopg [19, 7] 8 (fun gg s19 _ wr => ∃ i : Nat, i ≤ 8 ∧ 8 - i ≤ gg ∧ s19 = .int .i64 i ∧ wr = w1 ∧ Aside (∀ (j : Nat) (hj : j < asmN.length), j < i → asmN[j] ≠ n))
  case atStart => exact ⟨0, by omega, by omega, rfl, rfl, fun j _ hj => absurd hj (Nat.not_lt_zero _)⟩
  case round =>
    obtain ⟨i, hi, hgg, rfl, rfl, HA⟩ := hrel
    by_cases hil : i < 8
    · have hiz : (i : Int) < 8 := by omega
      have hil' : i < asmN.length := hil
      have hc := (cell_blk HN.out i).trans (strC_at asmN i hil')
      by_cases hh : asmN[i] = n
      · have hcon : asmN.contains n = true := by rw [← hh]; simp
        have e1 : (asmN[i] == n) = true := by simpa using hh
        have e2 : (asmN[i] != n) = false := by simpa using hh
        have HCON := Lib.hid hcon
        clear hh hcon
        cases b1 : (n == [123])
        case true =>
          have HP : Hid (brace n = true) := by show brace n = true; unfold brace; rw [b1]; rfl
          go_wp2_with fail
          go_ret
          refine ⟨wr.heap.size, ?_, fun _ => ?_, HB1.out.alloc (by omega) _⟩
          · unfold pv pk; rw [HCON.out, HP.out]; rfl
          · rw [blk_new]; unfold partC; rw [HP.out]; rfl
        case false =>
          cases b2 : (n == [125])
          case true =>
            have HP : Hid (brace n = true) := by show brace n = true; unfold brace; rw [b2, Bool.or_true]
            go_wp2_with fail
            go_ret
            refine ⟨wr.heap.size, ?_, fun _ => ?_, HB1.out.alloc (by omega) _⟩
            · unfold pv pk; rw [HCON.out, HP.out]; rfl
            · rw [blk_new]; unfold partC; rw [HP.out]; rfl
          case false =>
            have HP : Hid (brace n = false) := by show brace n = false; unfold brace; rw [b1, b2]; rfl
            go_wp2_with fail
            go_ret
            refine ⟨wr.heap.size, ?_, fun _ => ?_, HB1.out.alloc (by omega) _⟩
            · unfold pv pk; rw [HCON.out, HP.out]; rfl
            · rw [blk_new]; unfold partC; rw [HP.out]; rfl
      · have e1 : (asmN[i] == n) = false := by simpa using hh
        have e2 : (asmN[i] != n) = true := by simpa using hh
        have HH := Lib.hid hh
        clear hh
        go_wp2_with fail
        go_roundg (8 - (i + 1))
        case measure => omega
        case rel =>
          refine ⟨i + 1, by omega, by omega, by go_num, rfl, (show Aside _ from fun j hj hji => ?_)⟩
          by_cases ee : j = i
          · subst ee; exact HH.out
          · exact HA.out j hj (by omega)
    · have hiz : ¬ (i : Int) < 8 := by omega
      obtain rfl : i = 8 := by omega
      have HCON : Hid (asmN.contains n = false) := by
        show asmN.contains n = false
        rw [Bool.eq_false_iff]
        intro h
        have hm : n ∈ asmN := by simpa using h
        obtain ⟨j, hj, e⟩ := List.mem_iff_getElem.1 hm
        exact HA.out j hj hj e
      go_wp2_with fail
      go_ret
      refine ⟨0, ?_, fun h => ?_, HB1.out⟩
      · unfold pv; rw [HCON.out]; rfl
      · rw [HCON.out] at h; cases h
end Go.Proofs.YthgkdeaapjdadaaDoor
