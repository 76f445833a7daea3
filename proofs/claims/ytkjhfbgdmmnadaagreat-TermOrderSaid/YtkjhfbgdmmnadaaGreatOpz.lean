/- Arguments of the types Site and Two opened. -/
import Derived.Test.YtkjhfbgdmmnadaaGreatRenL
import Derived.Test.YtkjhfbgdmmnadaaGreatOpn
namespace Go.Proofs.YtkjhfbgdmmnadaaGreat
open Go.RowKit Go.ChangeShapes Go.WideShapes Go.ChangeAt Go.Deep

/-- the cells of an argument of type Two -/
def tw (a : T) (A : Option Addr) (c : Nat) (b : T) (A' : Option Addr) (c' : Nat) (x y : W8) : Array Value := #[.int .i64 a.kind, .string ⟨a.name.toArray⟩, .string ⟨a.var.toArray⟩, .slice A a.args.length c, .string ⟨a.form.toArray⟩, .int .i64 b.kind, .string ⟨b.name.toArray⟩, .string ⟨b.var.toArray⟩, .slice A' b.args.length c', .string ⟨b.form.toArray⟩, .string ⟨x.toArray⟩, .string ⟨y.toArray⟩]
theorem tw_eq (a : T) (A : Option Addr) (c : Nat) (b : T) (A' : Option Addr) (c' : Nat) (x y : W8) : tv a A c ++ tv b A' c' ++ #[.string ⟨x.toArray⟩, .string ⟨y.toArray⟩] = tw a A c b A' c' x y := rfl
theorem cells27 : Tryz.prog.cellsOf 27 = 2 := by kernel_rfl
theorem cells39 : Tryz.prog.cellsOf 39 = 12 := by kernel_rfl
section
variable {H : Type} {enc : TypeId × Value → H} {w : World} {base : Nat} {spare : Nat → Bool} {held : Bool}
set_option maxRecDepth 100000 in
theorem open_siteVal {r : Reach} {b0 : Nat} {v : Value} {d : DataW H} {q : List MemPlace} (hv : Value.okWide Tryz.prog w r b0 27 v) (h : DataW.Trod enc Tryz.prog w base spare held 27 v d q) :
    ∃ (v1 : Value) (p1 : Nat) (l1 : List Int), v = .agg #[v1, .int .u8 p1] ∧ PI w w.heap.size v1 l1 ∧ p1 ≤ 255 := by
  obtain ⟨cs, rfl, hsz⟩ := okWide_struct Tryz.underlying27 hv
  obtain ⟨fuel, hf⟩ := h
  have hf' : DataW.trod enc Tryz.prog w base spare held fuel 27 cs.toList = some (d, q) := hf
  obtain ⟨xs, m, hm, hx, hcl, hxl, hfd⟩ := DataW.trod_struct Tryz.underlying27 hf'
  rw [cells27] at hcl
  obtain ⟨v1, x1, hcs⟩ := two hcl
  rw [hcs] at hf'
  obtain ⟨l1, p1, rfl, hp1, hl1⟩ := open_site hf'
  refine ⟨v1, p1, l1, ?_, hl1, hp1⟩
  have : cs.toList = (#[v1, .int .u8 p1] : Array Value).toList := by simpa using hcs
  rw [Array.ext' this]
theorem twelve {α : Type} {l : List α} (h : l.length = 12) : ∃ a b c d e f g i j k m n, l = [a, b, c, d, e, f, g, i, j, k, m, n] := by
  match l, h with
  | [a, b, c, d, e, f, g, i, j, k, m, n], _ => exact ⟨a, b, c, d, e, f, g, i, j, k, m, n, rfl⟩
set_option maxRecDepth 100000 in
theorem open_twoVal {r : Reach} {b0 : Nat} {v : Value} {d : DataW H} {q : List MemPlace} (hv : Value.okWide Tryz.prog w r b0 39 v) (h : DataW.Trod enc Tryz.prog w base spare held 39 v d q) :
    ∃ (t : T) (A : Option Addr) (c : Nat) (u : T) (A' : Option Addr) (c' : Nat) (x y : W8), v = .agg (tw t A c u A' c' x y) ∧ TV w w.heap.size t A c ∧ TV w w.heap.size u A' c' := by
  obtain ⟨cs, rfl, hsz⟩ := okWide_struct Tryz.underlying39 hv
  obtain ⟨fuel, hf⟩ := h
  have hf' : DataW.trod enc Tryz.prog w base spare held fuel 39 cs.toList = some (d, q) := hf
  obtain ⟨xs, m, hm, hx, hcl, hxl, hfd⟩ := DataW.trod_struct Tryz.underlying39 hf'
  rw [cells39] at hcl
  obtain ⟨a0, a1, a2, a3, a4, b0, b1, b2, b3, b4, s1, s2, hcs⟩ := twelve hcl
  rw [hcs] at hfd
  obtain ⟨y0, y1, y2, y3, rfl⟩ := four hxl
  have f0 := hfd 0 _ rfl
  have f1 := hfd 1 _ rfl
  have f2 := hfd 2 _ rfl
  have f3 := hfd 3 _ rfl
  have f0' : DataW.trod enc Tryz.prog w base spare held m 24 [a0, a1, a2, a3, a4] = some y0 := by simpa [cells24] using f0
  have f1' : DataW.trod enc Tryz.prog w base spare held m 24 [b0, b1, b2, b3, b4] = some y1 := by simpa [cells24] using f1
  obtain ⟨t, A, c, h1, g1⟩ := open_term m m (Nat.le_refl _) _ _ f0'
  obtain ⟨u, A', c', h2, g2⟩ := open_term m m (Nat.le_refl _) _ _ f1'
  obtain ⟨x, h3, _, _⟩ := DataW.trod_string Tryz.underlying9 f2
  obtain ⟨y, h4, _, _⟩ := DataW.trod_string Tryz.underlying9 f3
  simp [cells9] at h3 h4
  refine ⟨t, A, c, u, A', c', x.data.toList, y.data.toList, ?_, g1, g2⟩
  have : cs.toList = (tv t A c ++ tv u A' c' ++ #[.string ⟨x.data.toList.toArray⟩, .string ⟨y.data.toList.toArray⟩] : Array Value).toList := by
    rw [Array.toList_append, Array.toList_append, ← h1, ← h2, hcs, mk_data, mk_data, h3, h4]; rfl
  rw [Array.ext' this, tw_eq]
end
end Go.Proofs.YtkjhfbgdmmnadaaGreat
