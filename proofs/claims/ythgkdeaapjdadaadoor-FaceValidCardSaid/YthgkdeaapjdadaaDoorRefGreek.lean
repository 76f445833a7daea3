/- Contract of the reference's greek. -/
import Derived.Test.YthgkdeaapjdadaaDoorRefChr
namespace Go.Proofs.YthgkdeaapjdadaaDoor
open Go.RowKit

def gr1 : List (List UInt8) := [[98, 101, 116, 97], [100, 101, 108, 116, 97], [116, 104, 101, 116, 97], [108, 97, 109, 98, 100, 97]]
def gr2 : List (List UInt8) := [[98, 101, 116, 97], [103, 97, 109, 109, 97], [109, 117], [114, 104, 111], [112, 104, 105]]
def rgreek (n : List UInt8) (i : Nat) : Gl := ⟨n, 480 + 15 * (i : Int), if amg gr1 n then 694 else 431, if amg gr2 n then 194 else 0, 20, 0⟩
set_option maxRecDepth 100000 in
set_option maxHeartbeats 2000000 in
theorem rgreek_any (n : List UInt8) (i : Nat) (w : World) (hi : i ≤ 100) :
    Calls Tryd.prog 54 #[.string ⟨n.toArray⟩, .int .i64 (i : Int)] w fun e w' => e = .returned (rgreek n i).val ∧ Below w.heap.size w w' := by
  have HC : Hid (rgreek n i = ⟨n, 480 + 15 * (i : Int), if amg gr1 n then 694 else 431, if amg gr2 n then 194 else 0, 20, 0⟩) := rfl
  have k1 := blk_new ((w.alloc (.cells #[.string ⟨#[]⟩, .int .i64 0, .int .i64 0, .int .i64 0, .int .i64 0, .int .i64 0] 32)).alloc (.cells #[.string ⟨n.toArray⟩, .int .i64 (480 + 15 * (i : Int)), .int .i64 431, .int .i64 0, .int .i64 20, .int .i64 0] 32)) (.cells (strC gr1) 9)
  rw [World.size_alloc, World.size_alloc] at k1
  have HK1 := Lib.hid k1
  clear k1
  go_enter Tryd.func54, Tryd.ntmps54
  go_wp2_with fail
  refine (among_any n gr1 (w.heap.size + 1 + 1) _ HK1.out (by decide)).mono ?_
  rintro e w' ⟨rfl, rfl⟩
  cases e1 : amg gr1 n
  case false =>
    rw [e1] at HC
    clear e1
    have k2 := blk_new (((w.alloc (.cells #[.string ⟨#[]⟩, .int .i64 0, .int .i64 0, .int .i64 0, .int .i64 0, .int .i64 0] 32)).alloc (.cells #[.string ⟨n.toArray⟩, .int .i64 (480 + 15 * (i : Int)), .int .i64 431, .int .i64 0, .int .i64 20, .int .i64 0] 32)).alloc (.cells (strC gr1) 9)) (.cells (strC gr2) 9)
    rw [World.size_alloc, World.size_alloc, World.size_alloc] at k2
    have HK2 := Lib.hid k2
    clear k2
    go_wp2_with fail
    refine (among_any n gr2 (w.heap.size + 1 + 1 + 1) _ HK2.out (by decide)).mono ?_
    rintro e w' ⟨rfl, rfl⟩
    cases e2 : amg gr2 n
    case false =>
      rw [e2] at HC
      clear e2
      go_wp2_with fail
      refine bodyPost_ret (v := (Gl.mk n (480 + 15 * (i : Int)) 431 0 20 0).val) (by simp [results, Tryd.results54, go_sem]; rfl) rfl ⟨?_, ?_⟩
      · rw [HC.out] <;> rfl
      · exact ((((Below.refl _ _).alloc (Nat.le_refl _) _).alloc (by simp) _).alloc (by simp; omega) _).alloc (by simp; omega) _
    case true =>
      rw [e2] at HC
      clear e2
      go_wp2_with fail
      refine bodyPost_ret (v := (Gl.mk n (480 + 15 * (i : Int)) 431 194 20 0).val) (by simp [results, Tryd.results54, go_sem]; rfl) rfl ⟨?_, ?_⟩
      · rw [HC.out] <;> rfl
      · exact ((((Below.refl _ _).alloc (Nat.le_refl _) _).alloc (by simp) _).alloc (by simp; omega) _).alloc (by simp; omega) _
  case true =>
    rw [e1] at HC
    clear e1
    have k2 := blk_new (((w.alloc (.cells #[.string ⟨#[]⟩, .int .i64 0, .int .i64 0, .int .i64 0, .int .i64 0, .int .i64 0] 32)).alloc (.cells #[.string ⟨n.toArray⟩, .int .i64 (480 + 15 * (i : Int)), .int .i64 694, .int .i64 0, .int .i64 20, .int .i64 0] 32)).alloc (.cells (strC gr1) 9)) (.cells (strC gr2) 9)
    rw [World.size_alloc, World.size_alloc, World.size_alloc] at k2
    have HK2 := Lib.hid k2
    clear k2
    go_wp2_with fail
    refine (among_any n gr2 (w.heap.size + 1 + 1 + 1) _ HK2.out (by decide)).mono ?_
    rintro e w' ⟨rfl, rfl⟩
    cases e2 : amg gr2 n
    case false =>
      rw [e2] at HC
      clear e2
      go_wp2_with fail
      refine bodyPost_ret (v := (Gl.mk n (480 + 15 * (i : Int)) 694 0 20 0).val) (by simp [results, Tryd.results54, go_sem]; rfl) rfl ⟨?_, ?_⟩
      · rw [HC.out] <;> rfl
      · exact ((((Below.refl _ _).alloc (Nat.le_refl _) _).alloc (by simp) _).alloc (by simp; omega) _).alloc (by simp; omega) _
    case true =>
      rw [e2] at HC
      clear e2
      go_wp2_with fail
      refine bodyPost_ret (v := (Gl.mk n (480 + 15 * (i : Int)) 694 194 20 0).val) (by simp [results, Tryd.results54, go_sem]; rfl) rfl ⟨?_, ?_⟩
      · rw [HC.out] <;> rfl
      · exact ((((Below.refl _ _).alloc (Nat.le_refl _) _).alloc (by simp) _).alloc (by simp; omega) _).alloc (by simp; omega) _
end Go.Proofs.YthgkdeaapjdadaaDoor
