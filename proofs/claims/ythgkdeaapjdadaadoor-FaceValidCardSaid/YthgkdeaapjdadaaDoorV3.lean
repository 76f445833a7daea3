/- Contract of font.Pick over the built-in font. -/
import Derived.Test.YthgkdeaapjdadaaDoorV2
import Derived.Great.Ranges
namespace Go.Proofs.YthgkdeaapjdadaaDoor
open Go.RowKit

/-- font.Find at the font's own cells -/
theorem findF_any (A : Option Addr) (c : Nat) (SA : Option Addr) (sc : Nat) (n : List UInt8) (w : World) (hg : GR w w.heap.size A GF) :
    Calls Tryd.prog 27 #[.agg (rfC (.slice A GF.length c) (.slice SA 14 sc)), .string ⟨n.toArray⟩] w fun e w' => e = .returned (.tuple #[(findV GF n).val, .bool (findG GF n).isSome]) ∧ Below w.heap.size w w' :=
  fontFind_any A GF c SA 14 sc 1000 431 250 40 677 394 686 345 413 363 289 150 247 386 50 70 50 90 500 431 n w hg gf_len
def six (g : Gl) (w : World) (r : Nat) : World := (((((w.setCell ⟨r, 0, none⟩ (.string ⟨g.name.toArray⟩)).setCell ⟨r, 1, none⟩ (.int .i64 g.w)).setCell ⟨r, 2, none⟩ (.int .i64 g.h)).setCell ⟨r, 3, none⟩ (.int .i64 g.d)).setCell ⟨r, 4, none⟩ (.int .i64 g.it)).setCell ⟨r, 5, none⟩ (.int .i64 g.at_)
theorem six_all (g : Gl) : setAll #[.string ⟨#[]⟩, .int .i64 0, .int .i64 0, .int .i64 0, .int .i64 0, .int .i64 0] 0 g.cells = g.cells.toArray := by kernel_rfl
theorem six_blk (g : Gl) {w : World} {r : Nat} (h : w.heap[r]? = some (.cells #[.string ⟨#[]⟩, .int .i64 0, .int .i64 0, .int .i64 0, .int .i64 0, .int .i64 0] 32)) : (six g w r).heap[r]? = some (.cells g.cells.toArray 32) := by
  have h1 := heap_setCells r 32 g.cells 0 w _ h
  rw [six_all] at h1
  exact h1
theorem six_bel (g : Gl) {B : Nat} {w0 w : World} {r : Nat} (hb : Below B w0 w) (hr : B ≤ r) (hs : B ≤ w.heap.size) : Below B w0 (six g w r) :=
  hb.grown (setCells_grown r g.cells 0 w) hs (fun k hk => by cases hk; exact hr)
def pickV (n : List UInt8) : Gl := if (findG GF n).isSome then findV GF n else findV GF [63]
theorem has_q : (findG GF [63]).isSome = true := by decide +kernel

set_option maxRecDepth 100000 in
set_option maxHeartbeats 2000000 in
theorem pick_any (A : Option Addr) (c : Nat) (SA : Option Addr) (sc : Nat) (n : List UInt8) (w : World) (hg : GR w w.heap.size A GF) :
    Calls Tryd.prog 17 #[.agg (rfC (.slice A GF.length c) (.slice SA 14 sc)), .string ⟨n.toArray⟩] w fun e w' => e = .returned (pickV n).val ∧ Below w.heap.size w w' := by
  have HF := Lib.hid (fun n w (hg : GR w w.heap.size A GF) => findF_any A c SA sc n w hg)
  have HI := Lib.hid (rfC_info (.slice A GF.length c) (.slice SA 14 sc))
  generalize rfC (.slice A GF.length c) (.slice SA 14 sc) = cs at *
  have HB1 : Hid (Below w.heap.size w ((w.alloc (.cells cs 29)).alloc (.cells #[.string ⟨#[]⟩, .int .i64 0, .int .i64 0, .int .i64 0, .int .i64 0, .int .i64 0] 32))) := ((Below.refl _ _).alloc (Nat.le_refl _) _).alloc (by simp) _
  have HC1 : Hid (((w.alloc (.cells cs 29)).alloc (.cells #[.string ⟨#[]⟩, .int .i64 0, .int .i64 0, .int .i64 0, .int .i64 0, .int .i64 0] 32)).heap[w.heap.size]? = some (.cells cs 29)) := heap_old (blk_new _ _) (by simp) _
  have HR1 : Hid (((w.alloc (.cells cs 29)).alloc (.cells #[.string ⟨#[]⟩, .int .i64 0, .int .i64 0, .int .i64 0, .int .i64 0, .int .i64 0] 32)).heap[w.heap.size + 1]? = some (.cells #[.string ⟨#[]⟩, .int .i64 0, .int .i64 0, .int .i64 0, .int .i64 0, .int .i64 0] 32)) := by
    have := blk_new (w.alloc (.cells cs 29)) (.cells #[.string ⟨#[]⟩, .int .i64 0, .int .i64 0, .int .i64 0, .int .i64 0, .int .i64 0] 32)
    rw [World.size_alloc] at this
    exact this
  have HG1 := Lib.hid ((hg.below HB1.out).more HB1.out.size)
  clear hg
  go_enter Tryd.func17, Tryd.ntmps17
  go_wp2_with (first | (with_reducible refine Great.wpList_boxTo rfl 29 (.tmp 0) rfl (some 2) rfl w.heap.size rfl cs rfl ?_) | (with_reducible refine wpList_load_row rfl 29 (.tmp 2) rfl w.heap.size rfl 29 cs (0, 0) _ HC1.out Tryd.underlying29 rfl HI.out ?_))
  obtain ⟨w1, hw1⟩ : ∃ w1, w1 = (w.alloc (.cells cs 29)).alloc (.cells #[.string ⟨#[]⟩, .int .i64 0, .int .i64 0, .int .i64 0, .int .i64 0, .int .i64 0] 32) := ⟨_, rfl⟩
  rw [← hw1] at HB1 HC1 HR1 HG1 ⊢
  clear hw1
  refine (HF.out n _ HG1.out).mono ?_
  rintro e w2 ⟨rfl, hb2⟩
  have hs1 := HB1.out.size
  have HB2 := Lib.hid (HB1.out.trans (hb2.mono hs1))
  have HC2 := Lib.hid ((hb2.block _ (blk_lt HC1.out)).trans HC1.out)
  have HR2 := Lib.hid ((hb2.block _ (blk_lt HR1.out)).trans HR1.out)
  have HG2 := Lib.hid ((HG1.out.below hb2).more hb2.size)
  clear hb2 HB1 HC1 HR1 HG1
  have hs2 := HB2.out.size
  have c0 := cell_blk HR2.out 0
  have c1 := cell_blk HR2.out 1
  have c2 := cell_blk HR2.out 2
  have c3 := cell_blk HR2.out 3
  have c4 := cell_blk HR2.out 4
  have c5 := cell_blk HR2.out 5
  simp at c0 c1 c2 c3 c4 c5
  have f0 := frz_blk HR2.out 0
  have f1 := frz_blk HR2.out 1
  have f2 := frz_blk HR2.out 2
  have f3 := frz_blk HR2.out 3
  have f4 := frz_blk HR2.out 4
  have f5 := frz_blk HR2.out 5
  have hl2 : w.heap.size + 1 < w2.heap.size := blk_lt HR2.out
  cases hf : (findG GF n).isSome
  case true =>
    obtain ⟨g, hgv⟩ : ∃ g, g = findV GF n := ⟨_, rfl⟩
    have HP : Hid (pickV n = g) := by show pickV n = _; unfold pickV; rw [hf, hgv]; rfl
    rw [← hgv]
    clear hgv
    obtain ⟨gn, ga, gb, gc, gd, ge⟩ := g
    simp only [Gl.val]
    go_wp2_with fail
    have hfin := six_blk ⟨gn, ga, gb, gc, gd, ge⟩ HR2.out
    have hbel := six_bel ⟨gn, ga, gb, gc, gd, ge⟩ HB2.out (r := w.heap.size + 1) (by omega) hs2
    have hsz := hbel.size
    refine bodyPost_ret (results_cell_row Tryd.results17 _ _ (w.heap.size + 1) 32 #[.string ⟨gn.toArray⟩, .int .i64 ga, .int .i64 gb, .int .i64 gc, .int .i64 gd, .int .i64 ge] (0, 0) _ rfl (heap_old hfin (blk_lt hfin) _) Tryd.underlying32 rfl (by kernel_rfl)) rfl ⟨by rw [HP.out]; rfl, hbel.alloc hsz _⟩
  case false =>
    have HP : Hid (pickV n = findV GF [63]) := by show pickV n = _; unfold pickV; rw [hf]; rfl
    clear c0 c1 c2 c3 c4 c5 f0 f1 f2 f3 f4 f5
    generalize findV GF n = g at *
    obtain ⟨gn, ga, gb, gc, gd, ge⟩ := g
    simp only [Gl.val]
    have hbx : Below w2.heap.size w2 (w2.alloc (.cells #[.string ⟨gn.toArray⟩, .int .i64 ga, .int .i64 gb, .int .i64 gc, .int .i64 gd, .int .i64 ge] 32)) := (Below.refl _ _).alloc (Nat.le_refl _) _
    have HB3 := Lib.hid (HB2.out.trans (hbx.mono hs2))
    have HC3 := Lib.hid ((hbx.block _ (blk_lt HC2.out)).trans HC2.out)
    have HR3 := Lib.hid ((hbx.block _ (blk_lt HR2.out)).trans HR2.out)
    have HG3 := Lib.hid ((HG2.out.below hbx).more hbx.size)
    clear hbx HB2 HC2 HR2 HG2
    go_wp2_with (with_reducible refine wpList_load_row rfl 29 (.tmp 2) rfl w.heap.size rfl 29 cs (0, 0) _ HC3.out Tryd.underlying29 rfl HI.out ?_)
    refine (HF.out [63] _ HG3.out).mono ?_
    rw [has_q]
    rintro e w4 ⟨rfl, hb4⟩
    have HB4 := Lib.hid (HB3.out.trans (hb4.mono HB3.out.size))
    have HR4 := Lib.hid ((hb4.block _ (blk_lt HR3.out)).trans HR3.out)
    clear hb4 HB3 HC3 HR3 HG3
    have hs4 := HB4.out.size
    have c0 := cell_blk HR4.out 0
    have c1 := cell_blk HR4.out 1
    have c2 := cell_blk HR4.out 2
    have c3 := cell_blk HR4.out 3
    have c4 := cell_blk HR4.out 4
    have c5 := cell_blk HR4.out 5
    simp at c0 c1 c2 c3 c4 c5
    have f0 := frz_blk HR4.out 0
    have f1 := frz_blk HR4.out 1
    have f2 := frz_blk HR4.out 2
    have f3 := frz_blk HR4.out 3
    have f4 := frz_blk HR4.out 4
    have f5 := frz_blk HR4.out 5
    have hl4 : w.heap.size + 1 < w4.heap.size := blk_lt HR4.out
    generalize findV GF [63] = q at *
    obtain ⟨qn, qa, qb, qc, qd, qe⟩ := q
    simp only [Gl.val]
    go_wp2_with fail
    have hfin := six_blk ⟨qn, qa, qb, qc, qd, qe⟩ HR4.out
    have hbel := six_bel ⟨qn, qa, qb, qc, qd, qe⟩ HB4.out (r := w.heap.size + 1) (by omega) hs4
    have hsz := hbel.size
    refine bodyPost_ret (results_cell_row Tryd.results17 _ _ (w.heap.size + 1) 32 #[.string ⟨qn.toArray⟩, .int .i64 qa, .int .i64 qb, .int .i64 qc, .int .i64 qd, .int .i64 qe] (0, 0) _ rfl (heap_old hfin (blk_lt hfin) _) Tryd.underlying32 rfl (by kernel_rfl)) rfl ⟨by rw [HP.out]; rfl, hbel.alloc hsz _⟩
end Go.Proofs.YthgkdeaapjdadaaDoor
