/- Contracts of font.Find and of Glyph. -/
import Derived.Test.YthgkdeaapjdadaaDoorGlyphs
namespace Go.Proofs.YthgkdeaapjdadaaDoor
open Go.RowKit

def gl0 : Gl := ⟨[], 0, 0, 0, 0, 0⟩
def findV (l : List Gl) (n : List UInt8) : Gl := (findG l n).getD gl0
theorem six_below {w w' : World} {b : Nat} {v0 v1 v2 v3 v4 v5 : Value} {t : TypeId} (h : w.heap[b]? = some (.cells #[v0, v1, v2, v3, v4, v5] t)) (hb : Below w.heap.size w w') (hlt : b < w.heap.size) :
    (w'.cell? ⟨b, 0, none⟩ = some v0 ∧ w'.cell? ⟨b, 1, none⟩ = some v1 ∧ w'.cell? ⟨b, 2, none⟩ = some v2 ∧ w'.cell? ⟨b, 3, none⟩ = some v3 ∧ w'.cell? ⟨b, 4, none⟩ = some v4 ∧ w'.cell? ⟨b, 5, none⟩ = some v5) ∧ (∀ i, w'.frozen? ⟨b, i, none⟩ = false) ∧ b < w'.heap.size := by
  have h' : w'.heap[b]? = some (.cells #[v0, v1, v2, v3, v4, v5] t) := (hb.block b hlt).trans h
  refine ⟨⟨cell_blk h' 0, cell_blk h' 1, cell_blk h' 2, cell_blk h' 3, cell_blk h' 4, cell_blk h' 5⟩, fun i => ?_, Nat.lt_of_lt_of_le hlt hb.size⟩
  simp [World.frozen?, h']

set_option maxRecDepth 100000 in
set_option maxHeartbeats 4000000 in
theorem fontFind_any (A : Option Addr) (l : List Gl) (c : Nat) (SA : Option Addr) (sn sc : Nat) (p0 p1 p2 p3 p4 p5 p6 p7 p8 p9 p10 p11 p12 p13 p14 p15 p16 p17 p18 p19 : Int) (n : List UInt8) (w : World) (hg : GR w w.heap.size A l) (hl : l.length ≤ 1000) :
    Calls Tryd.prog 27 #[.agg #[.slice A l.length c, .slice SA sn sc, .int .i64 p0, .int .i64 p1, .int .i64 p2, .int .i64 p3, .int .i64 p4, .int .i64 p5, .int .i64 p6, .int .i64 p7, .int .i64 p8, .int .i64 p9, .int .i64 p10, .int .i64 p11, .int .i64 p12, .int .i64 p13, .int .i64 p14, .int .i64 p15, .int .i64 p16, .int .i64 p17, .int .i64 p18, .int .i64 p19], .string ⟨n.toArray⟩] w fun e w' => e = .returned (.tuple #[(findV l n).val, .bool (findG l n).isSome]) ∧ Below w.heap.size w w' := by
  have HG := Lib.hid hg
  clear hg
  go_enter Tryd.func27, Tryd.ntmps27
  go_wp2_with fail
  go_loopg [10, 6] l.length (fun gg s10 _ wr => ∃ k : Nat, k ≤ l.length ∧ l.length - k ≤ gg ∧ s10 = .int .i64 k ∧ wr = (w.alloc (.cells #[.slice A l.length c, .slice SA sn sc, .int .i64 p0, .int .i64 p1, .int .i64 p2, .int .i64 p3, .int .i64 p4, .int .i64 p5, .int .i64 p6, .int .i64 p7, .int .i64 p8, .int .i64 p9, .int .i64 p10, .int .i64 p11, .int .i64 p12, .int .i64 p13, .int .i64 p14, .int .i64 p15, .int .i64 p16, .int .i64 p17, .int .i64 p18, .int .i64 p19] 29)).alloc (.cells #[.string ⟨#[]⟩, .int .i64 0, .int .i64 0, .int .i64 0, .int .i64 0, .int .i64 0] 32) ∧ Aside (∀ j e, j < k → l[j]? = some e → e.name ≠ n))
  case atStart => exact ⟨0, Nat.zero_le _, by omega, rfl, rfl, fun j e hj => absurd hj (Nat.not_lt_zero _)⟩
  case round =>
    obtain ⟨k, hk, hgg, rfl, rfl, HA⟩ := hrel
    by_cases hkl : k < l.length
    · have hltz : (k : Int) < (l.length : Int) := by omega
      obtain ⟨bb, off, rfl, hbb, he⟩ := HG.out.at_ hkl
      obtain ⟨h0, h1, h2, h3, h4, h5⟩ := he
      by_cases hn : l[k].name = n
      · have HF := Lib.hid (find_hit l n k hkl hn HA.out)
        have hn' : (l[k].name == n) = true := by simpa using hn
        clear hn
        go_wp2_with fail
        refine bodyPost_ret (v := .tuple #[l[k].val, .bool true]) (by simp [results, Tryd.results27, go_sem]; rfl) rfl ⟨?_, ?_⟩
        · rw [show findV l n = l[k] from by unfold findV; rw [HF.out]; rfl, HF.out]; rfl
        · exact ((Below.refl _ _).alloc (Nat.le_refl _) _).alloc (by simp) _
      · have hn' : (l[k].name == n) = false := by simpa using hn
        have HN := Lib.hid hn
        clear hn
        go_wp2_with fail
        go_roundg (l.length - (k + 1))
        case measure => omega
        case rel =>
          refine ⟨k + 1, by omega, by omega, by go_num, rfl, (show Aside _ from fun j e hj he => ?_)⟩
          by_cases ee : j = k
          · subst ee
            rw [List.getElem?_eq_getElem hkl] at he
            cases he
            exact HN.out
          · exact HA.out j e (by omega) he
    · have hltz : ¬ (k : Int) < (l.length : Int) := by omega
      obtain rfl : k = l.length := by omega
      have HF := Lib.hid (find_miss l n HA.out)
      go_wp2_with fail
      refine bodyPost_ret (v := .tuple #[gl0.val, .bool false]) (by simp [results, Tryd.results27, go_sem]; rfl) rfl ⟨?_, ?_⟩
      · rw [show findV l n = gl0 from by unfold findV; rw [HF.out]; rfl, HF.out]; rfl
      · exact ((Below.refl _ _).alloc (Nat.le_refl _) _).alloc (by simp) _

theorem gf_len : GF.length ≤ 1000 := by decide +kernel
set_option maxRecDepth 100000 in
set_option maxHeartbeats 4000000 in
theorem glyph_any (n : List UInt8) (w : World) :
    Calls Tryd.prog 12 #[.string ⟨n.toArray⟩] w fun e w' => e = .returned (.tuple #[(findV GF n).val, .bool (findG GF n).isSome]) ∧ Below w.heap.size w w' := by
  have HB0 : Hid (Below w.heap.size w (w.alloc (.cells #[.string ⟨#[]⟩, .int .i64 0, .int .i64 0, .int .i64 0, .int .i64 0, .int .i64 0] 32))) := Lib.hid ((Below.refl _ _).alloc (Nat.le_refl _) _)
  have HZ := Lib.hid (blk_new w (.cells #[.string ⟨#[]⟩, .int .i64 0, .int .i64 0, .int .i64 0, .int .i64 0, .int .i64 0] 32))
  go_enter Tryd.func12, Tryd.ntmps12
  go_wp2_with fail
  refine (glyphs_any _).mono ?_
  rintro e w1 ⟨v, rfl, ho, hb1⟩
  obtain ⟨A, c, rfl, hg, _⟩ := GR.of_own ho
  have HG := Lib.hid hg
  have HB1 := Lib.hid (HB0.out.trans (hb1.mono HB0.out.size))
  have Hb1 := Lib.hid hb1
  clear ho hg hb1
  go_wp2_with fail
  refine (fontFind_any A GF c none 0 0 0 0 0 0 0 0 0 0 0 0 0 0 0 0 0 0 0 0 0 0 n _ HG.out gf_len).mono ?_
  rintro e w2 ⟨rfl, hb2⟩
  have HB2 := Lib.hid (HB1.out.trans (hb2.mono HB1.out.size))
  obtain ⟨⟨r0, r1, r2, r3, r4, r5⟩, rf, rl⟩ := six_below HZ.out (Hb1.out.trans (hb2.mono Hb1.out.size)) (by simp)
  clear hb2
  obtain ⟨g, hg⟩ : ∃ g, g = findV GF n := ⟨_, rfl⟩
  rw [← hg]
  have HGG := Lib.hid hg
  clear hg
  obtain ⟨gn, ga, gb, gc, gd, ge⟩ := g
  simp only [Gl.val]
  go_wp2_with fail
  refine bodyPost_ret (v := .tuple #[(Gl.mk gn ga gb gc gd ge).val, .bool (findG GF n).isSome]) (by simp [results, Tryd.results12, go_sem, r0, r1, r2, r3, r4, r5]; rfl) rfl ⟨?_, ?_⟩
  · rw [HGG.out]
  · exact (((((HB2.out.setCell (Nat.le_refl _) _).setCell (Nat.le_refl _) _).setCell (Nat.le_refl _) _).setCell (Nat.le_refl _) _).setCell (Nat.le_refl _) _).setCell (Nat.le_refl _) _
end Go.Proofs.YthgkdeaapjdadaaDoor
