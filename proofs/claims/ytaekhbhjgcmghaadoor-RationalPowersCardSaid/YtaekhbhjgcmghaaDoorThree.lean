/- Three fractions as an argument. -/
import Derived.Test.YtaekhbhjgcmghaaDoorLaid
import Derived.OpenShut
namespace Go.Proofs.YtaekhbhjgcmghaaDoor
open Go.ChangeShapes Go.WideShapes Go.ChangeAt Go.RowKit

theorem six {α : Type} {l : List α} (h : l.length = 6) : ∃ a b c d e f, l = [a, b, c, d, e, f] := by
  match l, h with
  | [a, b, c, d, e, f], _ => exact ⟨a, b, c, d, e, f, rfl⟩
theorem wf_16 {n : Int} (h : (Lit.int .i16 n).wf = true) : -32768 ≤ n ∧ n ≤ 32767 := by
  simp [Lit.wf, IntKind.min, IntKind.max, IntKind.signed, IntKind.bits] at h
  exact h
section
variable {H : Type} {enc : TypeId × Value → H} {w : World} {base : Nat} {spare : Nat → Bool} {held : Bool}
theorem open_pair38 {fuel : Nat} {u v : Value} {x : DataW H × List MemPlace} (h : DataW.trod enc Tryd.prog w base spare held fuel 38 [u, v] = some x) :
    ∃ a b : Int, u = .int .i16 a ∧ v = .int .i16 b ∧ (-32768 ≤ a ∧ a ≤ 32767) ∧ (-32768 ≤ b ∧ b ≤ 32767) := by
  obtain ⟨xs, m, _, _, _, hl, hf⟩ := DataW.trod_array Tryd.underlying38 h
  have c37 : Tryd.prog.cellsOf 37 = 1 := by kernel_rfl
  obtain ⟨y0, y1, rfl⟩ := two hl
  have f0 := hf 0 (by omega)
  have f1 := hf 1 (by omega)
  obtain ⟨k0, h0, _, w0⟩ := DataW.trod_int Tryd.underlying37 f0
  obtain ⟨k1, h1, _, w1⟩ := DataW.trod_int Tryd.underlying37 f1
  simp [c37] at h0 h1
  exact ⟨k0, k1, h0, h1, wf_16 w0, wf_16 w1⟩

set_option maxRecDepth 100000 in
theorem open_three40 {r : Reach} {b0 : Nat} {v : Value} {d : DataW H} {p : List MemPlace}
    (hv : Value.okWide Tryd.prog w r b0 40 v) (h : DataW.Trod enc Tryd.prog w base spare held 40 v d p) :
    ∃ a0 a1 a2 a3 a4 a5 : Int, v = .agg #[.int .i16 a0, .int .i16 a1, .int .i16 a2, .int .i16 a3, .int .i16 a4, .int .i16 a5] ∧ (-32768 ≤ a0 ∧ a0 ≤ 32767) ∧ (-32768 ≤ a1 ∧ a1 ≤ 32767) ∧ (-32768 ≤ a2 ∧ a2 ≤ 32767) ∧ (-32768 ≤ a3 ∧ a3 ≤ 32767) ∧ (-32768 ≤ a4 ∧ a4 ≤ 32767) ∧ (-32768 ≤ a5 ∧ a5 ≤ 32767) := by
  simp only [Value.okWide, Tryd.underlying40] at hv
  obtain ⟨cs, rfl, _, _⟩ := hv
  obtain ⟨fuel, hf⟩ := h
  obtain ⟨xs, m, _, _, hcl, hl, hf⟩ := DataW.trod_array Tryd.underlying40 hf
  have c40 : Tryd.prog.cellsOf 40 = 6 := by kernel_rfl
  have c38 : Tryd.prog.cellsOf 38 = 2 := by kernel_rfl
  rw [c40] at hcl
  obtain ⟨v0, v1, v2, v3, v4, v5, hcs⟩ := six hcl
  have f0 := hf 0 (by omega)
  have f1 := hf 1 (by omega)
  have f2 := hf 2 (by omega)
  rw [hcs, c38] at f0 f1 f2
  have g0 : ∃ x, xs[0]? = some x := ⟨_, List.getElem?_eq_getElem (by omega)⟩
  have g1 : ∃ x, xs[1]? = some x := ⟨_, List.getElem?_eq_getElem (by omega)⟩
  have g2 : ∃ x, xs[2]? = some x := ⟨_, List.getElem?_eq_getElem (by omega)⟩
  obtain ⟨z0, g0⟩ := g0
  obtain ⟨z1, g1⟩ := g1
  obtain ⟨z2, g2⟩ := g2
  rw [g0] at f0
  rw [g1] at f1
  rw [g2] at f2
  obtain ⟨a0, a1, rfl, rfl, e0, e1⟩ := open_pair38 f0
  obtain ⟨a2, a3, rfl, rfl, e2, e3⟩ := open_pair38 f1
  obtain ⟨a4, a5, rfl, rfl, e4, e5⟩ := open_pair38 f2
  refine ⟨a0, a1, a2, a3, a4, a5, ?_, e0, e1, e2, e3, e4, e5⟩
  rw [show cs = #[.int .i16 a0, .int .i16 a1, .int .i16 a2, .int .i16 a3, .int .i16 a4, .int .i16 a5] from Array.ext' (by simpa [Value.cells] using hcs)]
end
end Go.Proofs.YtaekhbhjgcmghaaDoor
