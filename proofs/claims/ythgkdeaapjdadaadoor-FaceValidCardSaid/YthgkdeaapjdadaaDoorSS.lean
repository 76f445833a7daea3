/- Contract of the reference's SameStretch at two stretches with equal contents. -/
import Derived.Test.YthgkdeaapjdadaaDoorFN
namespace Go.Proofs.YthgkdeaapjdadaaDoor
open Go.RowKit

/-- m parts at block p -/
def PAt (w : World) (b p m : Nat) (pn : Nat → ByteArray) (pb : Nat → Bool) : Prop := p < b ∧ ∀ k, k < m → w.cell? ⟨p, k * 2, none⟩ = some (.string (pn k)) ∧ w.cell? ⟨p, k * 2 + 1, none⟩ = some (.bool (pb k))
theorem PAt.below {w w' : World} {b p m : Nat} {pn : Nat → ByteArray} {pb : Nat → Bool} (h : PAt w b p m pn pb) (hb : Below b w w') : PAt w' b p m pn pb :=
  ⟨h.1, fun k hk => ⟨(hb.cell (p := ⟨p, k * 2, none⟩) h.1).trans (h.2 k hk).1, (hb.cell (p := ⟨p, k * 2 + 1, none⟩) h.1).trans (h.2 k hk).2⟩⟩
def SAt (w : World) (b s : Nat) (n : List UInt8) : Prop := s < b ∧ ∀ k, k < 4 → w.cell? ⟨s, k, none⟩ = some (.string ⟨(sizeN n k).toArray⟩)
theorem SAt.below {w w' : World} {b s : Nat} {n : List UInt8} (h : SAt w b s n) (hb : Below b w w') : SAt w' b s n :=
  ⟨h.1, fun k hk => (hb.cell (p := ⟨s, k, none⟩) h.1).trans (h.2 k hk)⟩

set_option maxRecDepth 100000 in
set_option maxHeartbeats 4000000 in
theorem same_any (n : List UInt8) (s1 s2 : Nat) (A1 A2 : Option Addr) (m c1 c2 : Nat) (o : Int) (pn : Nat → ByteArray) (pb : Nat → Bool) (w : World) (hm : m ≤ 5)
    (hS1 : SAt w w.heap.size s1 n) (hS2 : SAt w w.heap.size s2 n) (hP : 0 < m → ∃ p1 p2, A1 = some ⟨p1, 0, none⟩ ∧ A2 = some ⟨p2, 0, none⟩ ∧ PAt w w.heap.size p1 m pn pb ∧ PAt w w.heap.size p2 m pn pb) :
    Calls Tryd.prog 15 #[.agg #[.string ⟨n.toArray⟩, .slice (some ⟨s1, 0, none⟩) 4 4, .slice A1 m c1, .int .i64 o], .agg #[.string ⟨n.toArray⟩, .slice (some ⟨s2, 0, none⟩) 4 4, .slice A2 m c2, .int .i64 o]] w fun e w' => e = .returned (.bool true) ∧ Below w.heap.size w w' := by
  have HS1 := Lib.hid hS1
  have HS2 := Lib.hid hS2
  have HP := Lib.hid hP
  clear hS1 hS2 hP
  have HB2 : Hid (Below w.heap.size w ((w.alloc (.cells #[.string ⟨n.toArray⟩, .slice (some ⟨s1, 0, none⟩) 4 4, .slice A1 m c1, .int .i64 o] 43)).alloc (.cells #[.string ⟨n.toArray⟩, .slice (some ⟨s2, 0, none⟩) 4 4, .slice A2 m c2, .int .i64 o] 43))) := ((Below.refl _ _).alloc (Nat.le_refl _) _).alloc (by simp) _
  have HK1 : Hid (((w.alloc (.cells #[.string ⟨n.toArray⟩, .slice (some ⟨s1, 0, none⟩) 4 4, .slice A1 m c1, .int .i64 o] 43)).alloc (.cells #[.string ⟨n.toArray⟩, .slice (some ⟨s2, 0, none⟩) 4 4, .slice A2 m c2, .int .i64 o] 43)).heap[w.heap.size]? = some (.cells #[.string ⟨n.toArray⟩, .slice (some ⟨s1, 0, none⟩) 4 4, .slice A1 m c1, .int .i64 o] 43)) := heap_old (blk_new _ _) (by simp) _
  have HK2 : Hid (((w.alloc (.cells #[.string ⟨n.toArray⟩, .slice (some ⟨s1, 0, none⟩) 4 4, .slice A1 m c1, .int .i64 o] 43)).alloc (.cells #[.string ⟨n.toArray⟩, .slice (some ⟨s2, 0, none⟩) 4 4, .slice A2 m c2, .int .i64 o] 43)).heap[w.heap.size + 1]? = some (.cells #[.string ⟨n.toArray⟩, .slice (some ⟨s2, 0, none⟩) 4 4, .slice A2 m c2, .int .i64 o] 43)) := by
    have := blk_new (w.alloc (.cells #[.string ⟨n.toArray⟩, .slice (some ⟨s1, 0, none⟩) 4 4, .slice A1 m c1, .int .i64 o] 43)) (.cells #[.string ⟨n.toArray⟩, .slice (some ⟨s2, 0, none⟩) 4 4, .slice A2 m c2, .int .i64 o] 43)
    rw [World.size_alloc] at this
    exact this
  go_enter Tryd.func15, Tryd.ntmps15
  go_wp2_with fail
  obtain ⟨w2, hw2⟩ : ∃ w2, w2 = (w.alloc (.cells #[.string ⟨n.toArray⟩, .slice (some ⟨s1, 0, none⟩) 4 4, .slice A1 m c1, .int .i64 o] 43)).alloc (.cells #[.string ⟨n.toArray⟩, .slice (some ⟨s2, 0, none⟩) 4 4, .slice A2 m c2, .int .i64 o] 43) := ⟨_, rfl⟩
  rw [← hw2] at HB2 HK1 HK2 ⊢
  clear hw2
  go_loopg [5] 4 (fun gg s5 wr => ∃ k : Nat, k ≤ 4 ∧ 4 - k ≤ gg ∧ s5 = .int .i64 k ∧ Aside (Below w2.heap.size w2 wr))
  case atStart => exact ⟨0, by omega, by omega, rfl, Below.refl _ _⟩
  case round =>
    obtain ⟨k, hk, hgg, rfl, HBr⟩ := hrel
    have HBw := Lib.hid (HB2.out.trans (HBr.out.mono HB2.out.size))
    have e1 : wr.cell? ⟨w.heap.size, 1, none⟩ = some (.slice (some ⟨s1, 0, none⟩) 4 4) := cell_blk ((HBr.out.block _ (blk_lt HK1.out)).trans HK1.out) 1
    have e2 : wr.cell? ⟨w.heap.size + 1, 1, none⟩ = some (.slice (some ⟨s2, 0, none⟩) 4 4) := cell_blk ((HBr.out.block _ (blk_lt HK2.out)).trans HK2.out) 1
    by_cases hkl : k < 4
    · have hkz : (k : Int) < 4 := by omega
      have f1 := (HS1.out.below HBw.out).2 k hkl
      have f2 := (HS2.out.below HBw.out).2 k hkl
      obtain ⟨z, hz⟩ : ∃ z : ByteArray, z = ⟨(sizeN n k).toArray⟩ := ⟨_, rfl⟩
      rw [← hz] at f1 f2
      clear hz
      go_wp2_with fail
      go_quiet (fail)
      have HBz : Hid (Below w2.heap.size w2 (wr.drewN nq)) := HBr.out.trans ⟨rfl, rfl, rfl, Nat.le_refl _, fun _ _ => rfl⟩
      generalize wr.drewN nq = wz at *
      go_wp2_with fail
      go_roundg (4 - (k + 1))
      case measure => omega
      case rel => exact ⟨k + 1, by omega, by omega, by go_num, HBz.out⟩
    · have hkz : ¬ (k : Int) < 4 := by omega
      obtain rfl : k = 4 := by omega
      obtain ⟨w3, hw⟩ : ∃ w3 : World, w3 = wr := ⟨_, rfl⟩
      rw [← hw] at HBr HBw e1 e2 ⊢
      clear hw
      go_wp2_with fail
      clear e1 e2
      go_loopg [6] m (fun gg s6 wr => ∃ k : Nat, k ≤ m ∧ m - k ≤ gg ∧ s6 = .int .i64 k ∧ Aside (Below w3.heap.size w3 wr))
      case atStart => exact ⟨0, by omega, by omega, rfl, Below.refl _ _⟩
      case round =>
        obtain ⟨k, hk, hgg, rfl, HBq⟩ := hrel
        have hs3 := HBr.out.size
        have HB3 := Lib.hid (HBr.out.trans (HBq.out.mono hs3))
        have HB4 := Lib.hid (HB2.out.trans (HB3.out.mono HB2.out.size))
        have e1 : wr.cell? ⟨w.heap.size, 2, none⟩ = some (.slice A1 m c1) := cell_blk ((HB3.out.block _ (blk_lt HK1.out)).trans HK1.out) 2
        have e2 : wr.cell? ⟨w.heap.size + 1, 2, none⟩ = some (.slice A2 m c2) := cell_blk ((HB3.out.block _ (blk_lt HK2.out)).trans HK2.out) 2
        by_cases hkl : k < m
        · have hkz : (k : Int) < (m : Int) := by omega
          obtain ⟨p1, p2, rfl, rfl, hp1, hp2⟩ := HP.out (by omega)
          obtain ⟨f1, f2⟩ := (hp1.below HB4.out).2 k hkl
          obtain ⟨f3, f4⟩ := (hp2.below HB4.out).2 k hkl
          clear hp1 hp2
          generalize pn k = z at *
          generalize pb k = y at *
          go_wp2_with fail
          go_quiet (fail)
          have HBz : Hid (Below w3.heap.size w3 (wr.drewN nq)) := HBq.out.trans ⟨rfl, rfl, rfl, Nat.le_refl _, fun _ _ => rfl⟩
          generalize wr.drewN nq = wz at *
          go_wp2_with fail
          go_roundg (m - (k + 1))
          case measure => omega
          case rel => exact ⟨k + 1, by omega, by omega, by go_num, HBz.out⟩
        · have hkz : ¬ (k : Int) < (m : Int) := by omega
          obtain rfl : k = m := by omega
          go_wp2_with fail
          go_ret
          exact ⟨rfl, HB4.out⟩
end Go.Proofs.YthgkdeaapjdadaaDoor

