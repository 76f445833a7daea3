/- A pair of integers as an argument. -/
import Derived.Test.YtbaljopgkelcfaaDoorLaid
import Derived.WideKeyPair
namespace Go.Proofs.YtbaljopgkelcfaaDoor
open Go.ChangeShapes Go.WideShapes Go.ChangeAt Go.RowKit

theorem open_rat31 {H : Type} {enc : TypeId × Value → H} {w : World} {base : Nat} {spare : Nat → Bool} {held : Bool} {r : Reach} {b0 : Nat} {v : Value} {d : DataW H} {p : List MemPlace}
    (hv : Value.okWide Tryd.prog w r b0 31 v) (h : DataW.Trod enc Tryd.prog w base spare held 31 v d p) :
    ∃ n m : Int, v = .agg #[.int .i64 n, .int .i64 m] ∧ -9223372036854775808 ≤ n ∧ n ≤ 9223372036854775807 ∧ -9223372036854775808 ≤ m ∧ m ≤ 9223372036854775807 := by
  obtain ⟨n, m, rfl, _, _, h1, h2⟩ := Go.WideMaps.open_pair (e := 3) (q := .i64) ⟨Tryd.underlying31, by kernel_rfl, by kernel_rfl, by kernel_rfl⟩ Tryd.underlying3 hv h
  obtain ⟨a1, a2⟩ := wf_bnd h1
  obtain ⟨b1, b2⟩ := wf_bnd h2
  exact ⟨n, m, rfl, a1, a2, b1, b2⟩
end Go.Proofs.YtbaljopgkelcfaaDoor
