/- Contract of font.validStretch at a stretch that is in order. -/
import Derived.Test.YthgkdeaapjdadaaDoorV7
namespace Go.Proofs.YthgkdeaapjdadaaDoor
open Go.RowKit Go.Maps

theorem HMap.below {w w' : World} {B k : Nat} (h : HMap w B k) (hb : Below w.heap.size w w') : HMap w' B k := by
  have hlt := h.lt
  obtain ⟨es, clock, hbk, F, hs, hD⟩ := h
  exact ⟨es, clock, (hb.block B hlt).trans hbk, F, hs, hD⟩
/-- what a stretch must be, with the heights of the built-in font -/
structure SOk (n : List UInt8) (m : Nat) (o : Int) (pn : Nat → List UInt8) (pb : Nat → Bool) : Prop where
  nm : nameOk n = true
  sz : ∀ k, k < 4 → (findG GF (sizeN n k)).isSome = true ∧ hv GF (sizeN n k) = 1000 + 600 * (k : Int) ∧ (sizeN n k).length ≤ 1000
  m5 : m ≤ 5
  pt : ∀ k, k < m → (findG GF (pn k)).isSome = true ∧ 51 ≤ hv GF (pn k) ∧ hv GF (pn k) ≤ 20000 ∧ (pn k).length ≤ 1000
  ov : (m = 0 ∧ o = 0) ∨ (3 ≤ m ∧ o = 50 ∧ pb 0 = false ∧ pb 1 = true)

set_option maxRecDepth 100000 in
set_option maxHeartbeats 4000000 in
theorem vst_any (n : List UInt8) (s1 : Nat) (A : Option Addr) (m c : Nat) (o : Int) (pn : Nat → List UInt8) (pb : Nat → Bool) (b B : Nat) (w : World) (ok : SOk n m o pn pb)
    (hS : SAt w w.heap.size s1 n) (hP : 0 < m → ∃ p, A = some ⟨p, 0, none⟩ ∧ PAt w w.heap.size p m (fun k => ⟨(pn k).toArray⟩) pb) (hlt : b < w.heap.size) (hc : w.cell? ⟨b, 0, none⟩ = some (.map (some B))) (hm : HMap w B GF.length) :
    Calls Tryd.prog 34 #[.agg #[.string ⟨n.toArray⟩, .slice (some ⟨s1, 0, none⟩) 4 4, .slice A m c, .int .i64 o], .func (.func 33) #[] #[.pointer (some ⟨b, 0, none⟩)]] w fun e w' => e = .returned (.bool true) ∧ Below w.heap.size w w' := by
  have OK := Lib.hid ok
  have HS := Lib.hid hS
  have HP := Lib.hid hP
  have HC := Lib.hid hc
  have HM := Lib.hid hm
  have hm5 := ok.m5
  clear ok hS hP hc hm
  have HB1 : Hid (Below w.heap.size w ((w.alloc (.cells #[.string ⟨n.toArray⟩, .slice (some ⟨s1, 0, none⟩) 4 4, .slice A m c, .int .i64 o] 43)).alloc (.cells #[.int .i64 4] 3))) := ((Below.refl _ _).alloc (Nat.le_refl _) _).alloc (by simp) _
  have HK1 : Hid (((w.alloc (.cells #[.string ⟨n.toArray⟩, .slice (some ⟨s1, 0, none⟩) 4 4, .slice A m c, .int .i64 o] 43)).alloc (.cells #[.int .i64 4] 3)).heap[w.heap.size]? = some (.cells #[.string ⟨n.toArray⟩, .slice (some ⟨s1, 0, none⟩) 4 4, .slice A m c, .int .i64 o] 43)) := heap_old (blk_new _ _) (by simp) _
  have HK2 : Hid (((w.alloc (.cells #[.string ⟨n.toArray⟩, .slice (some ⟨s1, 0, none⟩) 4 4, .slice A m c, .int .i64 o] 43)).alloc (.cells #[.int .i64 4] 3)).heap[w.heap.size + 1]? = some (.cells (([4] : List Int).map (Value.int .i64)).toArray 3)) := by
    have := blk_new (w.alloc (.cells #[.string ⟨n.toArray⟩, .slice (some ⟨s1, 0, none⟩) 4 4, .slice A m c, .int .i64 o] 43)) (.cells #[.int .i64 4] 3)
    rw [World.size_alloc] at this
    exact this
  have hm8 : ¬ (8 : Int) < (m : Int) := by omega
  go_enter Tryd.func34, Tryd.ntmps34
  go_wp2_with fail
  refine (named_any n _ OK.out.nm).mono ?_
  rintro e w' ⟨rfl, rfl⟩
  go_wp2_with fail
  refine (within_any 1 16 (w.heap.size + 1) [4] _ HK2.out (by decide) (by decide)).mono ?_
  obtain ⟨w1, hw1⟩ : ∃ w1, w1 = (w.alloc (.cells #[.string ⟨n.toArray⟩, .slice (some ⟨s1, 0, none⟩) 4 4, .slice A m c, .int .i64 o] 43)).alloc (.cells #[.int .i64 4] 3) := ⟨_, rfl⟩
  rw [← hw1] at HB1 HK1 HK2 ⊢
  clear hw1
  rintro e w' ⟨rfl, rfl⟩
  have e0 := cell_blk HK1.out 0
  have e1 := cell_blk HK1.out 1
  have e2 := cell_blk HK1.out 2
  have e3 := cell_blk HK1.out 3
  simp at e0 e1 e2 e3
  go_wp2_with fail
  go_loopg [5, 37] 4 (fun gg s5 s37 wr => ∃ k : Nat, k ≤ 4 ∧ 4 - k ≤ gg ∧ s37 = .int .i64 k ∧ (∃ x : Int, s5 = .int .i64 x ∧ x < 1000 + 600 * (k : Int)) ∧ w1 = wr)
  case atStart => exact ⟨0, by omega, by omega, rfl, ⟨-60000, rfl, by decide⟩, rfl⟩
  case round =>
    obtain ⟨k, hk, hgg, rfl, ⟨x, rfl, hx⟩, rfl⟩ := hrel
    have HMb := Lib.hid (HM.out.below HB1.out)
    have hcb : w1.cell? ⟨b, 0, none⟩ = some (.map (some B)) := (HB1.out.cell (p := ⟨b, 0, none⟩) hlt).trans HC.out
    by_cases hk4 : k < 4
    · have hkz : (k : Int) < 4 := by omega
      obtain ⟨g1, g2, g3⟩ := OK.out.sz k hk4
      have hcell : w1.cell? ⟨s1, k, none⟩ = some (.string ⟨(sizeN n k).toArray⟩) := (HS.out.below HB1.out).2 k hk4
      have HG := Lib.hid (And.intro g1 g2)
      have HL := Lib.hid g3
      clear g1 g2 g3
      generalize sizeN n k = nm at *
      go_wp2_with fail
      refine (height_any nm b B _ HL.out hcb HMb.out).mono ?_
      rw [HG.out.1, HG.out.2]
      rintro e w' ⟨rfl, rfl⟩
      have hz : ¬ 1000 + 600 * (k : Int) ≤ x := by omega
      go_wp2_with fail
      go_roundg (4 - (k + 1))
      case measure => omega
      case rel => exact ⟨k + 1, by omega, by omega, by go_num, ⟨_, rfl, by omega⟩, rfl⟩
    · have hkz : ¬ (k : Int) < 4 := by omega
      obtain rfl : k = 4 := by omega
      rcases OK.out.ov with ⟨rfl, rfl⟩ | ⟨hm3, rfl, hp0, hp1⟩
      · go_wp2_with fail
        go_ret
        exact ⟨rfl, HB1.out⟩
      · have hmz : ((m : Int) == 0) = false := by rw [beq_eq_false_iff_ne]; omega
        obtain ⟨p, rfl, hpp⟩ := HP.out (by omega)
        have HPP := Lib.hid hpp
        have HPB := Lib.hid (And.intro hp0 hp1)
        clear hpp hp0 hp1
        go_wp2_with fail
        go_loopg [10, 11, 66] m (fun gg s10 s11 s66 wr => ∃ k : Nat, k ≤ m ∧ m - k ≤ gg ∧ s66 = .int .i64 k ∧ (∃ x : Int, s10 = .int .i64 x ∧ 51 ≤ x ∧ x ≤ 60000) ∧ s11 = .bool (decide (2 ≤ k)) ∧ Aside (Below w1.heap.size w1 wr))
        case atStart => exact ⟨0, by omega, by omega, rfl, ⟨60000, rfl, by decide, by decide⟩, rfl, Below.refl _ _⟩
        case round =>
          obtain ⟨k, hk2, hgg2, rfl, ⟨y, rfl, hy1, hy2⟩, rfl, HBr⟩ := hrel
          have HBw := Lib.hid (HB1.out.trans (HBr.out.mono HB1.out.size))
          have hsr := HBr.out.size
          by_cases hkm : k < m
          · have hkz2 : (k : Int) < (m : Int) := by omega
            obtain ⟨g1, g2, g3, g4⟩ := OK.out.pt k hkm
            obtain ⟨c0', c1⟩ := (HPP.out.below HBw.out).2 k hkm
            have c0 : wr.cell? ⟨p, k * 2, none⟩ = some (.string ⟨(pn k).toArray⟩) := c0'
            clear c0'
            have HG := Lib.hid (And.intro g1 g4)
            have HMc := Lib.hid ((HMb.out.below HBr.out).below ((Below.refl _ _).alloc (Nat.le_refl _) (.cells #[.string ⟨(pn k).toArray⟩, .bool (pb k)] 63)))
            have hcc : (wr.alloc (.cells #[.string ⟨(pn k).toArray⟩, .bool (pb k)] 63)).cell? ⟨b, 0, none⟩ = some (.map (some B)) := by
              have hl1 : b < wr.heap.size := by have := HBw.out.size; omega
              rw [World.cell?_alloc_lt _ _ _ hl1]
              exact (HBw.out.cell (p := ⟨b, 0, none⟩) hlt).trans HC.out
            have HBn := Lib.hid (HBr.out.alloc hsr (.cells #[.string ⟨(pn k).toArray⟩, .bool (pb k)] 63))
            have HPK : Hid (k = 0 → pb k = false) := fun e => by rw [e]; exact HPB.out.1
            have HPK1 : Hid (k = 1 → pb k = true) := fun e => by rw [e]; exact HPB.out.2
            clear g1 g4
            obtain ⟨nm, hnm⟩ : ∃ nm, nm = pn k := ⟨_, rfl⟩
            obtain ⟨pf, hpf⟩ : ∃ pf, pf = pb k := ⟨_, rfl⟩
            obtain ⟨hh, hhh⟩ : ∃ hh, hh = hv GF nm := ⟨_, rfl⟩
            rw [← hnm] at c0 HG HMc hcc HBn g2 g3
            rw [← hpf] at c1 HMc hcc HBn HPK HPK1
            rw [← hhh] at g2 g3
            have HHH := Lib.hid hhh
            clear hnm hpf hhh
            go_wp2_with fail
            refine (height_any nm b B _ HG.out.2 hcc HMc.out).mono ?_
            rw [HG.out.1, ← HHH.out]
            rintro e w' ⟨rfl, rfl⟩
            have q1 : (wr.alloc (.cells #[.string ⟨nm.toArray⟩, .bool pf] 63)).cell? ⟨wr.heap.size, 1, none⟩ = some (.bool pf) := by simp
            by_cases hk0 : 2 ≤ k
            · have h2k : decide (2 ≤ k) = true := decide_eq_true hk0
              rw [h2k]
              go_wp2_with fail
              go_roundg (m - (k + 1))
              case measure => omega
              case rel =>
                exact ⟨k + 1, by omega, by omega, by go_num, ⟨_, rfl, by omega, by omega⟩, by rw [decide_eq_true (by omega)], HBn.out⟩
            · have h2k : decide (2 ≤ k) = false := decide_eq_false hk0
              rw [h2k]
              have hk01 : k = 0 ∨ k = 1 := by omega
              rcases hk01 with rfl | rfl
              · have hpf := HPK.out rfl
                subst hpf
                go_wp2_with fail
                go_roundg (m - (0 + 1))
                case measure => omega
                case rel => exact ⟨0 + 1, by omega, by omega, by go_num, ⟨_, rfl, by omega, by omega⟩, rfl, HBn.out⟩
              · have hpf := HPK1.out rfl
                subst hpf
                go_wp2_with fail
                go_roundg (m - (1 + 1))
                case measure => omega
                case rel => exact ⟨1 + 1, by omega, by omega, by go_num, ⟨_, rfl, by omega, by omega⟩, rfl, HBn.out⟩
          · have hkz2 : ¬ (k : Int) < (m : Int) := by omega
            obtain rfl : k = m := by omega
            have h2k : decide (2 ≤ k) = true := decide_eq_true (by omega)
            rw [h2k]
            have f3 : wr.cell? ⟨w.heap.size, 3, none⟩ = some (.int .i64 50) := by
              rw [cell_blk ((HBr.out.block _ (blk_lt HK1.out)).trans HK1.out) 3]; rfl
            have HN3 : Hid ((wr.alloc (.cells #[.int .i64 50] 3)).heap[wr.heap.size]? = some (.cells (([50] : List Int).map (Value.int .i64)).toArray 3)) := blk_new _ _
            have HBn := Lib.hid (HBw.out.alloc HBw.out.size (.cells #[.int .i64 50] 3))
            go_wp2_with fail
            refine (within_any 0 (y - 1) wr.heap.size [50] _ HN3.out (by simp; omega) (by decide)).mono ?_
            rintro e w' ⟨rfl, rfl⟩
            go_wp2_with fail
            go_ret
            exact ⟨rfl, HBn.out⟩
end Go.Proofs.YthgkdeaapjdadaaDoor
