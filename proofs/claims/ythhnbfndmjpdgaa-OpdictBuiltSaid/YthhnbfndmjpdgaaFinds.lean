/- Contracts of index, Find, Of and their references, and of awake. -/
import Derived.Test.YthhnbfndmjpdgaaRows
import Derived.Test.YthhnbfndmjpdgaaEnt
import Derived.WalkLawsBesides
import Derived.Lib.Hide
import Derived.Deep.LoopGhost
namespace Go.Proofs.Ythhnbfndmjpdgaa
open Go.RowKit

set_option maxHeartbeats 400000 in
theorem clo (t : ByteArray) (c : Int) (l s : Bool) (x : ByteArray) (a : Addr) (w : World) (ha : a.block < w.heap.size) (hc : w.cell? a = some (.string x)) :
    Calls Try.prog 24 #[.agg #[.string t, .int .i64 c, .bool l, .bool s], .pointer (some a)] w fun e w' => e = .returned (.bool (eqT t x)) ∧ Below w.heap.size w w' := by
  go_enter Try.func24, Try.ntmps24
  go_wp2
  go_ret
  exact ⟨rfl, (Below.refl _ _).alloc (Nat.le_refl _) _⟩

set_option maxHeartbeats 400000 in
theorem indexFunc_any (A : Option Addr) (l : List Ent) (c : Nat) (x : ByteArray) (a : Addr) (w : World) (hl : ER w w.heap.size A l) (hn : l.length ≤ 250) (ha : a.block < w.heap.size) (hc : w.cell? a = some (.string x)) :
    Calls Try.prog 23 #[.slice A l.length c, .func (.func 24) #[] #[.pointer (some a)]] w fun e w' => e = .returned (.int .i64 (fIdx l x)) ∧ Below w.heap.size w w' := by
  have hlH := Lib.hid hl
  clear hl
  go_enter Try.func23, Try.ntmps23
  go_wp2
  go_loopg [5, 8] l.length (fun gg _ s8 wr => ∃ kk : Nat, kk ≤ l.length ∧ l.length - kk ≤ gg ∧ s8 = .int .i64 kk ∧ Aside (Below w.heap.size w wr) ∧ Aside (∀ j e, j < kk → l[j]? = some e → eqT e.text x = false))
  case atStart => exact ⟨0, Nat.zero_le _, by omega, rfl, Below.refl _ w, fun j e hj => absurd hj (Nat.not_lt_zero _)⟩
  case round =>
    obtain ⟨kk, hkk, hg, rfl, BW, HA⟩ := hrel
    by_cases hlt : kk < l.length
    · have hltz : (kk : Int) < (l.length : Int) := by omega
      obtain ⟨b, off, rfl, hb, he⟩ := (hlH.out.below BW.out).at_ hlt
      obtain ⟨h0, h1, h2, h3⟩ := he
      have hca : wr.cell? a = some (.string x) := (BW.out.cell ha).trans hc
      have haw : a.block < wr.heap.size := Nat.lt_of_lt_of_le ha BW.out.size
      clear hc
      cases hq : eqT l[kk].text x with
      | true =>
        have Hq := Lib.hid hq
        clear hq
        go_wp2_with fail
        refine (clo _ _ _ _ x a _ haw hca).mono ?_
        rintro e w' ⟨rfl, hb'⟩
        rw [Hq.out]
        go_wp2
        go_ret
        refine ⟨?_, BW.out.trans (hb'.mono BW.out.size)⟩
        simp only [fIdx, fIdx_hit l x kk hlt Hq.out HA.out]
        rfl
      | false =>
        have Hq := Lib.hid hq
        clear hq
        go_wp2_with fail
        refine (clo _ _ _ _ x a _ haw hca).mono ?_
        rintro e w' ⟨rfl, hb'⟩
        rw [Hq.out]
        go_wp2
        go_roundg (l.length - (kk + 1))
        case measure => omega
        case rel =>
          refine ⟨kk + 1, by omega, by omega, by go_num, BW.out.trans (hb'.mono BW.out.size), (show Aside _ from fun j e hj he => ?_)⟩
          by_cases ee : j = kk
          · subst ee
            rw [List.getElem?_eq_getElem hlt] at he
            cases he
            exact Hq.out
          · exact HA.out j e (by omega) he
    · have hltz : ¬ (kk : Int) < (l.length : Int) := by omega
      obtain rfl : kk = l.length := by omega
      go_wp2
      go_ret
      refine ⟨?_, BW.out⟩
      simp only [fIdx, fIdx_miss l x HA.out]
      rfl

set_option maxHeartbeats 400000 in
theorem index_any (A : Option Addr) (l : List Ent) (c : Nat) (x : ByteArray) (w : World) (hl : ER w w.heap.size A l) (hn : l.length ≤ 250) :
    Calls Try.prog 19 #[.slice A l.length c, .string x] w fun e w' => e = .returned (.int .i64 (fIdx l x)) ∧ Below w.heap.size w w' := by
  go_enter Try.func19, Try.ntmps19
  go_wp2_with fail
  refine (indexFunc_any A l c x _ _ ?_ hn ?_ ?_).mono ?_
  · exact (hl.below ((Below.refl _ _).alloc (Nat.le_refl _) _)).more (by simp)
  · simp
  · simp
  rintro e w' ⟨rfl, hb'⟩
  go_wp2
  go_ret
  exact ⟨rfl, ((Below.refl _ _).alloc (Nat.le_refl _) _).trans (hb'.mono (by simp))⟩

theorem index_some (A : Option Addr) (l : List Ent) (c : Nat) (x : ByteArray) (w : World) (hl : ER w w.heap.size A l) (hn : l.length ≤ 250) (i : Nat) (h : fIdx? l x = some i) :
    Calls Try.prog 19 #[.slice A l.length c, .string x] w fun e w' => e = .returned (.int .i64 (i : Int)) ∧ Below w.heap.size w w' := by
  have := index_any A l c x w hl hn
  simpa only [fIdx, h] using this
theorem index_none (A : Option Addr) (l : List Ent) (c : Nat) (x : ByteArray) (w : World) (hl : ER w w.heap.size A l) (hn : l.length ≤ 250) (h : fIdx? l x = none) :
    Calls Try.prog 19 #[.slice A l.length c, .string x] w fun e w' => e = .returned (.int .i64 (-1)) ∧ Below w.heap.size w w' := by
  have := index_any A l c x w hl hn
  simpa only [fIdx, h] using this

/-- the cells of a block that was laid before a call that keeps what is below -/
theorem res4 {w w1 : World} {v0 v1 v2 v3 : Value} {t : TypeId} (hb : Below (w.alloc (.cells #[v0, v1, v2, v3] t)).heap.size (w.alloc (.cells #[v0, v1, v2, v3] t)) w1) :
    (w1.cell? ⟨w.heap.size, 0, none⟩ = some v0 ∧ w1.cell? ⟨w.heap.size, 1, none⟩ = some v1 ∧ w1.cell? ⟨w.heap.size, 2, none⟩ = some v2 ∧ w1.cell? ⟨w.heap.size, 3, none⟩ = some v3) ∧ (∀ i, w1.frozen? ⟨w.heap.size, i, none⟩ = false) ∧ w.heap.size < w1.heap.size := by
  have hlt : w.heap.size < (w.alloc (.cells #[v0, v1, v2, v3] t)).heap.size := by simp
  refine ⟨⟨?_, ?_, ?_, ?_⟩, fun i => ?_, ?_⟩
  · rw [hb.cell (p := ⟨w.heap.size, 0, none⟩) hlt]; simp
  · rw [hb.cell (p := ⟨w.heap.size, 1, none⟩) hlt]; simp
  · rw [hb.cell (p := ⟨w.heap.size, 2, none⟩) hlt]; simp
  · rw [hb.cell (p := ⟨w.heap.size, 3, none⟩) hlt]; simp
  · rw [hb.frozen (p := ⟨w.heap.size, i, none⟩) hlt]; simp
  · exact Nat.lt_of_lt_of_le hlt hb.size

set_option maxHeartbeats 400000 in
theorem find_any (A : Option Addr) (l : List Ent) (c : Nat) (x : ByteArray) (w : World) (hl : ER w w.heap.size A l) (hn : l.length ≤ 250) :
    Calls Try.prog 12 #[.slice A l.length c, .string x] w fun e w' => e = .returned (find l x).val ∧ Below w.heap.size w w' := by
  have hlH := Lib.hid hl
  clear hl
  cases hi : fIdx? l x with
  | none =>
    have hf := Lib.hid (find_miss l x hi)
    have Hi := Lib.hid hi
    clear hi
    go_enter Try.func12, Try.ntmps12
    go_wp2_with fail
    refine (index_none A l c x _ ((hlH.out.below ((Below.refl _ _).alloc (Nat.le_refl _) _)).more (by simp)) hn Hi.out).mono ?_
    rintro e w' ⟨rfl, hb'⟩
    have hb : Below w.heap.size w w' := ((Below.refl _ _).alloc (Nat.le_refl _) _).trans (hb'.mono (by simp))
    obtain ⟨⟨q0, q1, q2, q3⟩, qf, qs⟩ := res4 hb'
    go_wp2
    refine bodyPost_ret (v := .agg #[.string x, .int .i64 0, .bool false, .bool false]) (by simp [results, Try.results12, go_sem, q0, q1, q2, q3]) rfl ⟨?_, ?_⟩
    · rw [hf.out]; rfl
    · exact (((hb.setCell (Nat.le_refl _) _).setCell (Nat.le_refl _) _).setCell (Nat.le_refl _) _).setCell (Nat.le_refl _) _
  | some i =>
    obtain ⟨hi', hf', _⟩ := find_hit l x i hi
    have hf := Lib.hid hf'
    have Hi := Lib.hid hi
    clear hi hf'
    go_enter Try.func12, Try.ntmps12
    go_wp2_with fail
    refine (index_some A l c x _ ((hlH.out.below ((Below.refl _ _).alloc (Nat.le_refl _) _)).more (by simp)) hn i Hi.out).mono ?_
    rintro e w' ⟨rfl, hb'⟩
    have hb : Below w.heap.size w w' := ((Below.refl _ _).alloc (Nat.le_refl _) _).trans (hb'.mono (by simp))
    obtain ⟨⟨q0, q1, q2, q3⟩, qf, qs⟩ := res4 hb'
    obtain ⟨b, off, rfl, hbl, he⟩ := (hlH.out.below hb).at_ hi'
    obtain ⟨h0, h1, h2, h3⟩ := he
    have hne : ¬ b = w.heap.size := by omega
    go_wp2
    refine bodyPost_ret (v := l[i].val) (by simp [results, Try.results12, go_sem, q0, q1, q2, q3]; rfl) rfl ⟨?_, ?_⟩
    · rw [hf.out]
    · exact (((hb.setCell (Nat.le_refl _) _).setCell (Nat.le_refl _) _).setCell (Nat.le_refl _) _).setCell (Nat.le_refl _) _
end Go.Proofs.Ythhnbfndmjpdgaa
