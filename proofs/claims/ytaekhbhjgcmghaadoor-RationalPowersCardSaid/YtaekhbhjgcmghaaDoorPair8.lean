/- A pair of small integers as an argument. -/
import Derived.Test.YtaekhbhjgcmghaaDoorThree
namespace Go.Proofs.YtaekhbhjgcmghaaDoor
open Go.ChangeShapes Go.WideShapes Go.ChangeAt Go.RowKit

theorem wf_8 {n : Int} (h : (Lit.int .i8 n).wf = true) : -128 ≤ n ∧ n ≤ 127 := by
  simp [Lit.wf, IntKind.min, IntKind.max, IntKind.signed, IntKind.bits] at h
  exact h
set_option maxRecDepth 100000 in
theorem open_pair58 {H : Type} {enc : TypeId × Value → H} {w : World} {base : Nat} {spare : Nat → Bool} {held : Bool} {r : Reach} {b0 : Nat} {v : Value} {d : DataW H} {p : List MemPlace}
    (hv : Value.okWide Tryd.prog w r b0 58 v) (h : DataW.Trod enc Tryd.prog w base spare held 58 v d p) :
    ∃ a b : Int, v = .agg #[.int .i8 a, .int .i8 b] ∧ (-128 ≤ a ∧ a ≤ 127) ∧ (-128 ≤ b ∧ b ≤ 127) := by
  simp only [Value.okWide, Tryd.underlying58] at hv
  obtain ⟨cs, rfl, _, _⟩ := hv
  obtain ⟨fuel, hf⟩ := h
  obtain ⟨xs, m, _, _, hcl, hl, hf⟩ := DataW.trod_array Tryd.underlying58 hf
  have c58 : Tryd.prog.cellsOf 58 = 2 := by kernel_rfl
  have c57 : Tryd.prog.cellsOf 57 = 1 := by kernel_rfl
  rw [c58] at hcl
  obtain ⟨v0, v1, hcs⟩ := two hcl
  obtain ⟨y0, y1, rfl⟩ := two hl
  have f0 := hf 0 (by omega)
  have f1 := hf 1 (by omega)
  rw [hcs] at f0 f1
  obtain ⟨k0, h0, _, w0⟩ := DataW.trod_int Tryd.underlying57 f0
  obtain ⟨k1, h1, _, w1⟩ := DataW.trod_int Tryd.underlying57 f1
  simp [c57] at h0 h1
  subst h0 h1
  refine ⟨k0, k1, ?_, wf_8 w0, wf_8 w1⟩
  rw [show cs = #[.int .i8 k0, .int .i8 k1] from Array.ext' (by simpa [Value.cells] using hcs)]
end Go.Proofs.YtaekhbhjgcmghaaDoor
