/- Contract of font.Scaled at a glyph whose metrics are in reach. -/
import Derived.Test.YthgkdeaapjdadaaDoorQT
import Derived.Laws.ResultCell
namespace Go.Proofs.YthgkdeaapjdadaaDoor
open Go.RowKit

set_option maxHeartbeats 1000000 in
theorem scl_any (n p : Int) (b : Nat) (w : World) (hc : w.cell? ⟨b, 0, none⟩ = some (.int .i64 p)) (h1 : 1 ≤ p) (h2 : p ≤ 1000) :
    Calls Tryd.prog 44 #[.int .i64 n, .pointer (some ⟨b, 0, none⟩)] w fun e w' => e = .returned (.int .i64 (scaleL n p)) ∧ Below w.heap.size w w' := by
  go_enter Tryd.func44, Tryd.ntmps44
  go_wp2_with fail
  refine (scale_any n p _ (by omega) (by omega)).mono ?_
  rintro e w' ⟨rfl, hb⟩
  go_wp2
  go_ret
  exact ⟨rfl, hb⟩
theorem results_row_tmp {P : Program} {fn : Func} {p u : Tmp} {ty : TypeId} (h : fn.results = #[.cell p ty, .tmp u]) (tmps : Array Value) (w : World) (g : Nat) (t : TypeId) (cs : Array Value) (fr : Nat × Nat) (d : TypeDesc)
    (hp : tmps.getD p undef = .pointer (some ⟨g, 0, none⟩)) (hg : w.heap[g]? = some (.cells cs t fr))
    (hu : P.underlying ty = some d) (hd : (match d with | .struct _ | .array _ _ => true | _ => false) = true) (hi : (P.info? ty).map (·.size) = some cs.size) :
    (results fn tmps).run P w = .ok (.tuple #[.agg cs, tmps.getD u undef]) w := by
  have hp' : tmps[p]?.getD undef = .pointer (some ⟨g, 0, none⟩) := by simpa using hp
  rw [results_cell_tmp h]
  simp [hp', asAddr, run_loadVar_row w g t ty cs fr d hg hu hd hi]
def scG (g : Gl) (p : Int) : Gl := ⟨g.name, scaleL g.w p, scaleL g.h p, scaleL g.d p, scaleL g.it p, scaleL g.at_ p⟩
def inR (x : Int) : Prop := -20000 ≤ x ∧ x ≤ 20000

set_option maxRecDepth 100000 in
set_option maxHeartbeats 3000000 in
theorem scaled_any (gn : List UInt8) (ga gb gc gd ge p : Int) (w : World) (h1 : 1 ≤ p) (h2 : p ≤ 1000) (ra : inR ga) (rb : inR gb) (rc : inR gc) (rd : inR gd) (re : inR ge) :
    Calls Tryd.prog 29 #[.agg #[.string ⟨gn.toArray⟩, .int .i64 ga, .int .i64 gb, .int .i64 gc, .int .i64 gd, .int .i64 ge], .int .i64 p] w fun e w' => e = .returned (.tuple #[(scG ⟨gn, ga, gb, gc, gd, ge⟩ p).val, .int .i64 0]) ∧ Below w.heap.size w w' := by
  have hB : Below w.heap.size w (((((w.alloc (.cells #[.string ⟨gn.toArray⟩, .int .i64 ga, .int .i64 gb, .int .i64 gc, .int .i64 gd, .int .i64 ge] 32)).alloc (.cells #[.int .i64 p] 3)).alloc (.cells #[.string ⟨#[]⟩, .int .i64 0, .int .i64 0, .int .i64 0, .int .i64 0, .int .i64 0] 32)).alloc (.cells #[.int .i64 p] 3)).alloc (.cells #[.int .i64 ga, .int .i64 gb, .int .i64 gc, .int .i64 gd, .int .i64 ge] 3)) := (((((Below.refl _ _).alloc (Nat.le_refl _) _).alloc (by simp) _).alloc (by simp; omega) _).alloc (by simp; omega) _).alloc (by simp; omega) _
  have k0 : (((((w.alloc (.cells #[.string ⟨gn.toArray⟩, .int .i64 ga, .int .i64 gb, .int .i64 gc, .int .i64 gd, .int .i64 ge] 32)).alloc (.cells #[.int .i64 p] 3)).alloc (.cells #[.string ⟨#[]⟩, .int .i64 0, .int .i64 0, .int .i64 0, .int .i64 0, .int .i64 0] 32)).alloc (.cells #[.int .i64 p] 3)).alloc (.cells #[.int .i64 ga, .int .i64 gb, .int .i64 gc, .int .i64 gd, .int .i64 ge] 3)).heap[w.heap.size]? = some (.cells #[.string ⟨gn.toArray⟩, .int .i64 ga, .int .i64 gb, .int .i64 gc, .int .i64 gd, .int .i64 ge] 32) := heap_old (heap_old (heap_old (heap_old (blk_new _ _) (by simp) _) (by simp; omega) _) (by simp; omega) _) (by simp; omega) _
  have k1 : (((((w.alloc (.cells #[.string ⟨gn.toArray⟩, .int .i64 ga, .int .i64 gb, .int .i64 gc, .int .i64 gd, .int .i64 ge] 32)).alloc (.cells #[.int .i64 p] 3)).alloc (.cells #[.string ⟨#[]⟩, .int .i64 0, .int .i64 0, .int .i64 0, .int .i64 0, .int .i64 0] 32)).alloc (.cells #[.int .i64 p] 3)).alloc (.cells #[.int .i64 ga, .int .i64 gb, .int .i64 gc, .int .i64 gd, .int .i64 ge] 3)).heap[w.heap.size + 1]? = some (.cells #[.int .i64 p] 3) := by
    have := blk_new (w.alloc (.cells #[.string ⟨gn.toArray⟩, .int .i64 ga, .int .i64 gb, .int .i64 gc, .int .i64 gd, .int .i64 ge] 32)) (.cells #[.int .i64 p] 3)
    rw [World.size_alloc] at this
    exact heap_old (heap_old (heap_old this (by simp) _) (by simp) _) (by first | (simp; done) | (simp; omega)) _
  have k2 : (((((w.alloc (.cells #[.string ⟨gn.toArray⟩, .int .i64 ga, .int .i64 gb, .int .i64 gc, .int .i64 gd, .int .i64 ge] 32)).alloc (.cells #[.int .i64 p] 3)).alloc (.cells #[.string ⟨#[]⟩, .int .i64 0, .int .i64 0, .int .i64 0, .int .i64 0, .int .i64 0] 32)).alloc (.cells #[.int .i64 p] 3)).alloc (.cells #[.int .i64 ga, .int .i64 gb, .int .i64 gc, .int .i64 gd, .int .i64 ge] 3)).heap[w.heap.size + 2]? = some (.cells #[.string ⟨#[]⟩, .int .i64 0, .int .i64 0, .int .i64 0, .int .i64 0, .int .i64 0] 32) := by
    have := blk_new ((w.alloc (.cells #[.string ⟨gn.toArray⟩, .int .i64 ga, .int .i64 gb, .int .i64 gc, .int .i64 gd, .int .i64 ge] 32)).alloc (.cells #[.int .i64 p] 3)) (.cells #[.string ⟨#[]⟩, .int .i64 0, .int .i64 0, .int .i64 0, .int .i64 0, .int .i64 0] 32)
    rw [World.size_alloc, World.size_alloc] at this
    exact heap_old (heap_old this (by simp) _) (by simp) _
  have k3 : ((((w.alloc (.cells #[.string ⟨gn.toArray⟩, .int .i64 ga, .int .i64 gb, .int .i64 gc, .int .i64 gd, .int .i64 ge] 32)).alloc (.cells #[.int .i64 p] 3)).alloc (.cells #[.string ⟨#[]⟩, .int .i64 0, .int .i64 0, .int .i64 0, .int .i64 0, .int .i64 0] 32)).alloc (.cells #[.int .i64 p] 3)).heap[w.heap.size + 1 + 1 + 1]? = some (.cells (([p] : List Int).map (Value.int .i64)).toArray 3) := by
    have := blk_new (((w.alloc (.cells #[.string ⟨gn.toArray⟩, .int .i64 ga, .int .i64 gb, .int .i64 gc, .int .i64 gd, .int .i64 ge] 32)).alloc (.cells #[.int .i64 p] 3)).alloc (.cells #[.string ⟨#[]⟩, .int .i64 0, .int .i64 0, .int .i64 0, .int .i64 0, .int .i64 0] 32)) (.cells #[.int .i64 p] 3)
    rw [World.size_alloc, World.size_alloc, World.size_alloc] at this
    exact this
  have k4 : (((((w.alloc (.cells #[.string ⟨gn.toArray⟩, .int .i64 ga, .int .i64 gb, .int .i64 gc, .int .i64 gd, .int .i64 ge] 32)).alloc (.cells #[.int .i64 p] 3)).alloc (.cells #[.string ⟨#[]⟩, .int .i64 0, .int .i64 0, .int .i64 0, .int .i64 0, .int .i64 0] 32)).alloc (.cells #[.int .i64 p] 3)).alloc (.cells #[.int .i64 ga, .int .i64 gb, .int .i64 gc, .int .i64 gd, .int .i64 ge] 3)).heap[w.heap.size + 1 + 1 + 1 + 1]? = some (.cells (([ga, gb, gc, gd, ge] : List Int).map (Value.int .i64)).toArray 3) := by
    have := blk_new ((((w.alloc (.cells #[.string ⟨gn.toArray⟩, .int .i64 ga, .int .i64 gb, .int .i64 gc, .int .i64 gd, .int .i64 ge] 32)).alloc (.cells #[.int .i64 p] 3)).alloc (.cells #[.string ⟨#[]⟩, .int .i64 0, .int .i64 0, .int .i64 0, .int .i64 0, .int .i64 0] 32)).alloc (.cells #[.int .i64 p] 3)) (.cells #[.int .i64 ga, .int .i64 gb, .int .i64 gc, .int .i64 gd, .int .i64 ge] 3)
    rw [World.size_alloc, World.size_alloc, World.size_alloc, World.size_alloc] at this
    exact this
  have K := Lib.hid (And.intro hB (And.intro k0 (And.intro k1 (And.intro k2 (And.intro k3 k4)))))
  clear hB k0 k1 k2 k3 k4
  go_enter Tryd.func29, Tryd.ntmps29
  go_wp2_with fail
  refine (within_any 1 1000 (w.heap.size + 1 + 1 + 1) [p] _ K.out.2.2.2.2.1 (by simp; omega) (by simp)).mono ?_
  rintro e w1 ⟨rfl, rfl⟩
  go_wp2_with fail
  refine (within_any (-20000) 20000 (w.heap.size + 1 + 1 + 1 + 1) [ga, gb, gc, gd, ge] _ K.out.2.2.2.2.2 (by simp; exact ⟨ra, rb, rc, rd, re⟩) (by simp)).mono ?_
  obtain ⟨w2, hw2⟩ : ∃ w2, w2 = (((((w.alloc (.cells #[.string ⟨gn.toArray⟩, .int .i64 ga, .int .i64 gb, .int .i64 gc, .int .i64 gd, .int .i64 ge] 32)).alloc (.cells #[.int .i64 p] 3)).alloc (.cells #[.string ⟨#[]⟩, .int .i64 0, .int .i64 0, .int .i64 0, .int .i64 0, .int .i64 0] 32)).alloc (.cells #[.int .i64 p] 3)).alloc (.cells #[.int .i64 ga, .int .i64 gb, .int .i64 gc, .int .i64 gd, .int .i64 ge] 3)) := ⟨_, rfl⟩
  obtain ⟨hB, k0, k1, k2, _, _⟩ := K.out
  rw [← hw2] at hB k0 k1 k2 ⊢
  rintro e w1 ⟨rfl, rfl⟩
  clear hw2 K
  go_wp2_with fail
  have q0 := cell_blk k0 0
  have q1 := cell_blk k0 1
  have q2 := cell_blk k0 2
  have q3 := cell_blk k0 3
  have q4 := cell_blk k0 4
  have q5 := cell_blk k0 5
  simp at q0 q1 q2 q3 q4 q5
  have qp : w2.cell? ⟨w.heap.size + 1, 0, none⟩ = some (.int .i64 p) := cell_blk k1 0
  have cS := Lib.hid fun n d os => Calls.regrown_of (scl_any n p (w.heap.size + 1) (Sort.grow (redrawn w2 d) os) (cell_regrown qp d os) h1 h2)
  have r0 := fun d os => cell_regrown q0 d os
  have r1 := fun d os => cell_regrown q1 d os
  have r2 := fun d os => cell_regrown q2 d os
  have r3 := fun d os => cell_regrown q3 d os
  have r4 := fun d os => cell_regrown q4 d os
  have r5 := fun d os => cell_regrown q5 d os
  refine wp_region_quiet_tail (C := fun w' => ∃ p : Regrown, w' = Sort.grow (redrawn w2 p.d) p.os) 22 (by kernel_rfl) (by kernel_rfl) ⟨⟨w2.drawn + 1, #[]⟩, by rw [Sort.grow_empty]; rfl⟩ ?_
  simp only [List.take_succ_cons, List.take_zero, List.drop_succ_cons, List.drop_zero]
  repeat (first | go_big_quiet_step (exact cS.out _ _ _) | quiet_step (exact cS.out _ _ _))
  refine wpQuiet_nil ?_
  intro w' hw'
  obtain ⟨⟨dq, osq⟩, hw''⟩ := hw'
  subst hw''
  have hb := below_regrown w2 dq osq
  obtain ⟨w3, hw3⟩ : ∃ w3 : World, w3 = Sort.grow (redrawn w2 dq) osq := ⟨_, rfl⟩
  rw [← hw3] at hb ⊢
  have HB3 := Lib.hid (hB.trans (hb.mono hB.size))
  have HR3 : Hid (w3.heap[w.heap.size + 1 + 1]? = some (.cells #[.string ⟨#[]⟩, .int .i64 0, .int .i64 0, .int .i64 0, .int .i64 0, .int .i64 0] 32)) := (hb.block _ (blk_lt k2)).trans k2
  clear hw3 hb cS r0 r1 r2 r3 r4 r5 q0 q1 q2 q3 q4 q5 qp k0 k1 k2 hB
  have c0 := cell_blk HR3.out 0
  have c1 := cell_blk HR3.out 1
  have c2 := cell_blk HR3.out 2
  have c3 := cell_blk HR3.out 3
  have c4 := cell_blk HR3.out 4
  have c5 := cell_blk HR3.out 5
  simp at c0 c1 c2 c3 c4 c5
  have f0 := frz_blk HR3.out 0
  have f1 := frz_blk HR3.out 1
  have f2 := frz_blk HR3.out 2
  have f3 := frz_blk HR3.out 3
  have f4 := frz_blk HR3.out 4
  have f5 := frz_blk HR3.out 5
  go_wp2_with fail
  have hfin := six_blk (scG ⟨gn, ga, gb, gc, gd, ge⟩ p) HR3.out
  have hbel := six_bel (scG ⟨gn, ga, gb, gc, gd, ge⟩ p) HB3.out (r := w.heap.size + 1 + 1) (by omega) HB3.out.size
  exact bodyPost_ret (results_row_tmp Tryd.results29 _ _ (w.heap.size + 1 + 1) 32 #[.string ⟨gn.toArray⟩, .int .i64 (scaleL ga p), .int .i64 (scaleL gb p), .int .i64 (scaleL gc p), .int .i64 (scaleL gd p), .int .i64 (scaleL ge p)] (0, 0) _ rfl hfin Tryd.underlying32 rfl (by kernel_rfl)) rfl ⟨rfl, hbel⟩
end Go.Proofs.YthgkdeaapjdadaaDoor
