/- Contract of font.validParams at the font's parameters. -/
import Derived.Test.YthgkdeaapjdadaaDoorV1
namespace Go.Proofs.YthgkdeaapjdadaaDoor
open Go.RowKit

set_option maxRecDepth 100000 in
set_option maxHeartbeats 2000000 in
theorem validParams_any (w : World) : Calls Tryd.prog 30 #[.agg #[.int .i64 1000, .int .i64 431, .int .i64 250, .int .i64 40, .int .i64 677, .int .i64 394, .int .i64 686, .int .i64 345, .int .i64 413, .int .i64 363, .int .i64 289, .int .i64 150, .int .i64 247, .int .i64 386, .int .i64 50, .int .i64 70, .int .i64 50, .int .i64 90, .int .i64 500, .int .i64 431]] w fun r w' => r = .returned (.bool true) ∧ Below w.heap.size w w' := by
  have HB : Hid (Below w.heap.size w (((w.alloc (.cells #[.int .i64 1000, .int .i64 431, .int .i64 250, .int .i64 40, .int .i64 677, .int .i64 394, .int .i64 686, .int .i64 345, .int .i64 413, .int .i64 363, .int .i64 289, .int .i64 150, .int .i64 247, .int .i64 386, .int .i64 50, .int .i64 70, .int .i64 50, .int .i64 90, .int .i64 500, .int .i64 431] 27)).alloc (.cells #[.int .i64 70, .int .i64 50, .int .i64 90] 3)).alloc (.cells #[.int .i64 1000, .int .i64 431, .int .i64 250, .int .i64 40, .int .i64 677, .int .i64 394, .int .i64 686, .int .i64 345, .int .i64 413, .int .i64 363, .int .i64 289, .int .i64 150, .int .i64 247, .int .i64 386, .int .i64 50, .int .i64 500, .int .i64 431] 3))) := (((Below.refl _ _).alloc (Nat.le_refl _) _).alloc (by simp) _).alloc (by simp; omega) _
  have H1 : Hid (((w.alloc (.cells #[.int .i64 1000, .int .i64 431, .int .i64 250, .int .i64 40, .int .i64 677, .int .i64 394, .int .i64 686, .int .i64 345, .int .i64 413, .int .i64 363, .int .i64 289, .int .i64 150, .int .i64 247, .int .i64 386, .int .i64 50, .int .i64 70, .int .i64 50, .int .i64 90, .int .i64 500, .int .i64 431] 27)).alloc (.cells #[.int .i64 70, .int .i64 50, .int .i64 90] 3)).heap[w.heap.size + 1]? = some (.cells (([70, 50, 90] : List Int).map (Value.int .i64)).toArray 3)) := by
    have := blk_new (w.alloc (.cells #[.int .i64 1000, .int .i64 431, .int .i64 250, .int .i64 40, .int .i64 677, .int .i64 394, .int .i64 686, .int .i64 345, .int .i64 413, .int .i64 363, .int .i64 289, .int .i64 150, .int .i64 247, .int .i64 386, .int .i64 50, .int .i64 70, .int .i64 50, .int .i64 90, .int .i64 500, .int .i64 431] 27)) (.cells #[.int .i64 70, .int .i64 50, .int .i64 90] 3)
    rw [World.size_alloc] at this
    exact this
  have H2 : Hid ((((w.alloc (.cells #[.int .i64 1000, .int .i64 431, .int .i64 250, .int .i64 40, .int .i64 677, .int .i64 394, .int .i64 686, .int .i64 345, .int .i64 413, .int .i64 363, .int .i64 289, .int .i64 150, .int .i64 247, .int .i64 386, .int .i64 50, .int .i64 70, .int .i64 50, .int .i64 90, .int .i64 500, .int .i64 431] 27)).alloc (.cells #[.int .i64 70, .int .i64 50, .int .i64 90] 3)).alloc (.cells #[.int .i64 1000, .int .i64 431, .int .i64 250, .int .i64 40, .int .i64 677, .int .i64 394, .int .i64 686, .int .i64 345, .int .i64 413, .int .i64 363, .int .i64 289, .int .i64 150, .int .i64 247, .int .i64 386, .int .i64 50, .int .i64 500, .int .i64 431] 3)).heap[w.heap.size + 1 + 1]? = some (.cells (([1000, 431, 250, 40, 677, 394, 686, 345, 413, 363, 289, 150, 247, 386, 50, 500, 431] : List Int).map (Value.int .i64)).toArray 3)) := by
    have := blk_new ((w.alloc (.cells #[.int .i64 1000, .int .i64 431, .int .i64 250, .int .i64 40, .int .i64 677, .int .i64 394, .int .i64 686, .int .i64 345, .int .i64 413, .int .i64 363, .int .i64 289, .int .i64 150, .int .i64 247, .int .i64 386, .int .i64 50, .int .i64 70, .int .i64 50, .int .i64 90, .int .i64 500, .int .i64 431] 27)).alloc (.cells #[.int .i64 70, .int .i64 50, .int .i64 90] 3)) (.cells #[.int .i64 1000, .int .i64 431, .int .i64 250, .int .i64 40, .int .i64 677, .int .i64 394, .int .i64 686, .int .i64 345, .int .i64 413, .int .i64 363, .int .i64 289, .int .i64 150, .int .i64 247, .int .i64 386, .int .i64 50, .int .i64 500, .int .i64 431] 3)
    rw [World.size_alloc, World.size_alloc] at this
    exact this
  go_enter Tryd.func30, Tryd.ntmps30
  go_wp2_with fail
  refine (within_any 1 100 (w.heap.size + 1) [70, 50, 90] _ H1.out (by decide) (by decide)).mono ?_
  rintro e w1 ⟨rfl, rfl⟩
  go_wp2_with fail
  refine (within_any 0 20000 (w.heap.size + 1 + 1) [1000, 431, 250, 40, 677, 394, 686, 345, 413, 363, 289, 150, 247, 386, 50, 500, 431] _ H2.out (by decide) (by decide)).mono ?_
  rintro e w1 ⟨rfl, rfl⟩
  go_wp2_with fail
  go_ret
  exact ⟨rfl, HB.out⟩
end Go.Proofs.YthgkdeaapjdadaaDoor
