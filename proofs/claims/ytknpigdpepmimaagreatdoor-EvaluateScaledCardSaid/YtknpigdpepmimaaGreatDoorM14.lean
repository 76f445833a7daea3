/- Lemmas for regions in which a block is laid at any time beside calls. Contract of following 47. Plain: the walk through the words, in the program and in the reference. Contracts of the reference's leaf functions: letter, Letter, Letters, In, Has, has, Keywords, Accents, Character, Symbol, Identifier, Digit, printable. -/
import Derived.Deep.RegionHeldLaw
import Derived.Deep.CutBlock
import Derived.Deep.DeepCutAuto
import Derived.Test.YtknpigdpepmimaaGreatDoorM13
import Derived.Laws.IdiomStrings
import Derived.Test.YtknpigdpepmimaaGreatDoorM05
import Derived.Test.YtknpigdpepmimaaGreatDoorM01
namespace Go.Proofs.YtknpigdpepmimaaGreatDoor
open Go.RowKit
theorem bl_al {w0 w : World} (h : Below w0.heap.size w0 w) (o : Obj) : Below w0.heap.size w0 (w.alloc o) := h.alloc h.size _
theorem bl_dr {w0 w : World} (h : Below w0.heap.size w0 w) : Below w0.heap.size w0 w.drew := bel_dr h
theorem bl_tr {w0 w w' : World} (h : Below w0.heap.size w0 w) (h2 : Below w.heap.size w w') : Below w0.heap.size w0 w' := h.trans (h2.mono h.size)
theorem bl_st {w0 w : World} (h : Below w0.heap.size w0 w) {p i : Nat} (hp : w0.heap.size ≤ p) (v : Value) : Below w0.heap.size w0 (w.setCell ⟨p, i, none⟩ v) := h.setCell (p := ⟨p, i, none⟩) hp v
/-- a block of the call's own that holds a rational number -/
def P2 (w0 w : World) (p : Nat) (x y : Int) : Prop := K2 w p x y ∧ w0.heap.size ≤ p
theorem P2.new {w0 w : World} (h : Below w0.heap.size w0 w) (x y : Int) : P2 w0 (w.alloc (.cells #[.int .i64 x, .int .i64 y] 57)) w.heap.size x y := ⟨K2.new w x y, h.size⟩
theorem P2.reach {w0 w w' : World} {p : Nat} {x y : Int} (h : P2 w0 w p x y) (hb : Below w.heap.size w w') : P2 w0 w' p x y := ⟨h.1.reach hb, h.2⟩
theorem P2.dr {w0 w : World} {p : Nat} {x y : Int} (h : P2 w0 w p x y) : P2 w0 w.drew p x y := h
theorem P2.set {w0 w : World} {p : Nat} {x y : Int} (h : P2 w0 w p x y) (n d : Int) : P2 w0 ((w.setCell ⟨p, 0, none⟩ (.int .i64 n)).setCell ⟨p, 1, none⟩ (.int .i64 d)) p n d := by
  refine ⟨?_, h.2⟩
  have h1 := h.1
  unfold K2 at h1 ⊢
  have e1 : (w.setCell ⟨p, 0, none⟩ (.int .i64 n)).heap[p]? = some (.cells #[.int .i64 n, .int .i64 y] 57 (0, 0)) := by
    show (w.heap.modify p _)[p]? = _
    rw [Array.getElem?_modify, if_pos rfl, h1]
    rfl
  show ((w.setCell ⟨p, 0, none⟩ (.int .i64 n)).heap.modify p _)[p]? = _
  rw [Array.getElem?_modify, if_pos rfl, e1]
  rfl
/-- a block of the call's own that holds a dimension -/
def P7 (w0 w : World) (p : Nat) (x : Dm) : Prop := K7 w p x ∧ w0.heap.size ≤ p
theorem P7.new {w0 w : World} (h : Below w0.heap.size w0 w) (x : Dm) : P7 w0 (w.alloc (.cells #[.int .i64 x.a, .int .i64 x.b, .int .i64 x.c, .int .i64 x.d, .int .i64 x.e, .int .i64 x.f, .int .i64 x.g] 42)) w.heap.size x := ⟨K7.new w x, h.size⟩
theorem P7.reach {w0 w w' : World} {p : Nat} {x : Dm} (h : P7 w0 w p x) (hb : Below w.heap.size w w') : P7 w0 w' p x := ⟨h.1.reach hb, h.2⟩
theorem P7.dr {w0 w : World} {p : Nat} {x : Dm} (h : P7 w0 w p x) : P7 w0 w.drew p x := h
theorem P7.set {w0 w : World} {p : Nat} {x : Dm} (h : P7 w0 w p x) (y : Dm) : P7 w0 (set7 w p y) p y :=
  ⟨((((((h.1.set0 y.a).set1 y.b).set2 y.c).set3 y.d).set4 y.e).set5 y.f).set6 y.g, h.2⟩
/-- a block of the call's own that holds a value -/
def P9 (w0 w : World) (p : Nat) (x : V) : Prop := K9 w p x ∧ w0.heap.size ≤ p
theorem P9.new {w0 w : World} (h : Below w0.heap.size w0 w) (x : V) : P9 w0 (w.alloc (.cells #[.int .i64 x.num, .int .i64 x.den, .int .i64 x.dim.a, .int .i64 x.dim.b, .int .i64 x.dim.c, .int .i64 x.dim.d, .int .i64 x.dim.e, .int .i64 x.dim.f, .int .i64 x.dim.g] 44)) w.heap.size x := ⟨K9.new w x, h.size⟩
theorem P9.reach {w0 w w' : World} {p : Nat} {x : V} (h : P9 w0 w p x) (hb : Below w.heap.size w w') : P9 w0 w' p x := ⟨h.1.reach hb, h.2⟩
theorem P9.dr {w0 w : World} {p : Nat} {x : V} (h : P9 w0 w p x) : P9 w0 w.drew p x := h
theorem P9.set {w0 w : World} {p : Nat} {x : V} (h : P9 w0 w p x) (y : V) : P9 w0 (set9 w p y) p y := ⟨set9_K9 h.1 y, h.2⟩
theorem P7.sets {w0 w : World} {p : Nat} {x : Dm} (h : P7 w0 w p x) (y : Dm) : P7 w0 (((((((w.setCell ⟨p, 0, none⟩ (.int .i64 y.a)).setCell ⟨p, 1, none⟩ (.int .i64 y.b)).setCell ⟨p, 2, none⟩ (.int .i64 y.c)).setCell ⟨p, 3, none⟩ (.int .i64 y.d)).setCell ⟨p, 4, none⟩ (.int .i64 y.e)).setCell ⟨p, 5, none⟩ (.int .i64 y.f)).setCell ⟨p, 6, none⟩ (.int .i64 y.g)) p y := P7.set h y
theorem P9.sets {w0 w : World} {p : Nat} {x : V} (h : P9 w0 w p x) (y : V) : P9 w0 (((((((((w.setCell ⟨p, 0, none⟩ (.int .i64 y.num)).setCell ⟨p, 1, none⟩ (.int .i64 y.den)).setCell ⟨p, 2, none⟩ (.int .i64 y.dim.a)).setCell ⟨p, 3, none⟩ (.int .i64 y.dim.b)).setCell ⟨p, 4, none⟩ (.int .i64 y.dim.c)).setCell ⟨p, 5, none⟩ (.int .i64 y.dim.d)).setCell ⟨p, 6, none⟩ (.int .i64 y.dim.e)).setCell ⟨p, 7, none⟩ (.int .i64 y.dim.f)).setCell ⟨p, 8, none⟩ (.int .i64 y.dim.g)) p y := P9.set h y
/-- the cells of two values that lie one behind the other -/
theorem S18 {w w' : World} {b o : Nat} {x y : V} (h1 : C9 w b o x) (h2 : C9 w b (o + 9) y) (hb : Below w.heap.size w w') : (w'.cell? ⟨b, o, none⟩ = some (.int .i64 x.num) ∧ w'.cell? ⟨b, o + 1, none⟩ = some (.int .i64 x.den) ∧ w'.cell? ⟨b, o + 2, none⟩ = some (.int .i64 x.dim.a) ∧ w'.cell? ⟨b, o + 3, none⟩ = some (.int .i64 x.dim.b) ∧ w'.cell? ⟨b, o + 4, none⟩ = some (.int .i64 x.dim.c) ∧ w'.cell? ⟨b, o + 5, none⟩ = some (.int .i64 x.dim.d) ∧ w'.cell? ⟨b, o + 6, none⟩ = some (.int .i64 x.dim.e) ∧ w'.cell? ⟨b, o + 7, none⟩ = some (.int .i64 x.dim.f) ∧ w'.cell? ⟨b, o + 8, none⟩ = some (.int .i64 x.dim.g)) ∧ (w'.cell? ⟨b, o + 9, none⟩ = some (.int .i64 y.num) ∧ w'.cell? ⟨b, o + 9 + 1, none⟩ = some (.int .i64 y.den) ∧ w'.cell? ⟨b, o + 9 + 2, none⟩ = some (.int .i64 y.dim.a) ∧ w'.cell? ⟨b, o + 9 + 3, none⟩ = some (.int .i64 y.dim.b) ∧ w'.cell? ⟨b, o + 9 + 4, none⟩ = some (.int .i64 y.dim.c) ∧ w'.cell? ⟨b, o + 9 + 5, none⟩ = some (.int .i64 y.dim.d) ∧ w'.cell? ⟨b, o + 9 + 6, none⟩ = some (.int .i64 y.dim.e) ∧ w'.cell? ⟨b, o + 9 + 7, none⟩ = some (.int .i64 y.dim.f) ∧ w'.cell? ⟨b, o + 9 + 8, none⟩ = some (.int .i64 y.dim.g)) := by
  have e1 := h1.reach hb
  have e2 := h2.reach hb
  exact ⟨⟨e1.1.1, e1.1.2, e1.2⟩, e2.1.1, e2.1.2, e2.2⟩
/-- the cells of two values in two blocks -/
theorem T18 {w w' : World} {p q : Nat} {x y : V} (h1 : K9 w p x) (h2 : K9 w q y) (hb : Below w.heap.size w w') : (w'.cell? ⟨p, 0, none⟩ = some (.int .i64 x.num) ∧ w'.cell? ⟨p, 0 + 1, none⟩ = some (.int .i64 x.den) ∧ w'.cell? ⟨p, 0 + 2, none⟩ = some (.int .i64 x.dim.a) ∧ w'.cell? ⟨p, 0 + 3, none⟩ = some (.int .i64 x.dim.b) ∧ w'.cell? ⟨p, 0 + 4, none⟩ = some (.int .i64 x.dim.c) ∧ w'.cell? ⟨p, 0 + 5, none⟩ = some (.int .i64 x.dim.d) ∧ w'.cell? ⟨p, 0 + 6, none⟩ = some (.int .i64 x.dim.e) ∧ w'.cell? ⟨p, 0 + 7, none⟩ = some (.int .i64 x.dim.f) ∧ w'.cell? ⟨p, 0 + 8, none⟩ = some (.int .i64 x.dim.g)) ∧ (w'.cell? ⟨q, 0, none⟩ = some (.int .i64 y.num) ∧ w'.cell? ⟨q, 0 + 1, none⟩ = some (.int .i64 y.den) ∧ w'.cell? ⟨q, 0 + 2, none⟩ = some (.int .i64 y.dim.a) ∧ w'.cell? ⟨q, 0 + 3, none⟩ = some (.int .i64 y.dim.b) ∧ w'.cell? ⟨q, 0 + 4, none⟩ = some (.int .i64 y.dim.c) ∧ w'.cell? ⟨q, 0 + 5, none⟩ = some (.int .i64 y.dim.d) ∧ w'.cell? ⟨q, 0 + 6, none⟩ = some (.int .i64 y.dim.e) ∧ w'.cell? ⟨q, 0 + 7, none⟩ = some (.int .i64 y.dim.f) ∧ w'.cell? ⟨q, 0 + 8, none⟩ = some (.int .i64 y.dim.g)) := by
  have e1 := (h1.reach hb).cells.1
  have e2 := (h2.reach hb).cells.1
  exact ⟨⟨e1.1.1, e1.1.2, e1.2⟩, e2.1.1, e2.1.2, e2.2⟩
theorem S27 {w w' : World} {m b o : Nat} {n d : Int} {x : V} (h1 : K2 w m n d) (h2 : C9 w b o x) (hb : Below w.heap.size w w') : (w'.cell? ⟨m, 0, none⟩ = some (.int .i64 n) ∧ w'.cell? ⟨m, 1, none⟩ = some (.int .i64 d)) ∧ (w'.cell? ⟨b, o + 2, none⟩ = some (.int .i64 x.dim.a) ∧ w'.cell? ⟨b, o + 3, none⟩ = some (.int .i64 x.dim.b) ∧ w'.cell? ⟨b, o + 4, none⟩ = some (.int .i64 x.dim.c) ∧ w'.cell? ⟨b, o + 5, none⟩ = some (.int .i64 x.dim.d) ∧ w'.cell? ⟨b, o + 6, none⟩ = some (.int .i64 x.dim.e) ∧ w'.cell? ⟨b, o + 7, none⟩ = some (.int .i64 x.dim.f) ∧ w'.cell? ⟨b, o + 8, none⟩ = some (.int .i64 x.dim.g)) :=
  ⟨(h1.reach hb).cells.1, (h2.reach hb).2⟩
theorem wrap64_small {n : Int} (h : -9223372036854775808 ≤ n) (h2 : n ≤ 9223372036854775807) : IntKind.i64.wrap n = n := IntWalk.i64_in _ (by omega)
theorem set9_other (w : World) (p : Nat) (y : V) (k : Nat) (h : k ≠ p) : (set9 w p y).heap[k]? = w.heap[k]? := by
  unfold set9
  rw [Below.heap_setCell _ ⟨p, 8, none⟩ _ k h, Below.heap_setCell _ ⟨p, 7, none⟩ _ k h, Below.heap_setCell _ ⟨p, 6, none⟩ _ k h, Below.heap_setCell _ ⟨p, 5, none⟩ _ k h, Below.heap_setCell _ ⟨p, 4, none⟩ _ k h, Below.heap_setCell _ ⟨p, 3, none⟩ _ k h, Below.heap_setCell _ ⟨p, 2, none⟩ _ k h, Below.heap_setCell _ ⟨p, 1, none⟩ _ k h, Below.heap_setCell _ ⟨p, 0, none⟩ _ k h]
theorem S27s {w w' : World} {m b o p : Nat} {n d : Int} {x y : V} (h1 : K2 w m n d) (h2 : C9 w b o x) (hb : Below w.heap.size w w') (hm : m ≠ p) (hp : b ≠ p) : ((((((((((w'.setCell ⟨p, 0, none⟩ (.int .i64 y.num)).setCell ⟨p, 1, none⟩ (.int .i64 y.den)).setCell ⟨p, 2, none⟩ (.int .i64 y.dim.a)).setCell ⟨p, 3, none⟩ (.int .i64 y.dim.b)).setCell ⟨p, 4, none⟩ (.int .i64 y.dim.c)).setCell ⟨p, 5, none⟩ (.int .i64 y.dim.d)).setCell ⟨p, 6, none⟩ (.int .i64 y.dim.e)).setCell ⟨p, 7, none⟩ (.int .i64 y.dim.f)).setCell ⟨p, 8, none⟩ (.int .i64 y.dim.g)).cell? ⟨m, 0, none⟩ = some (.int .i64 n) ∧ (((((((((w'.setCell ⟨p, 0, none⟩ (.int .i64 y.num)).setCell ⟨p, 1, none⟩ (.int .i64 y.den)).setCell ⟨p, 2, none⟩ (.int .i64 y.dim.a)).setCell ⟨p, 3, none⟩ (.int .i64 y.dim.b)).setCell ⟨p, 4, none⟩ (.int .i64 y.dim.c)).setCell ⟨p, 5, none⟩ (.int .i64 y.dim.d)).setCell ⟨p, 6, none⟩ (.int .i64 y.dim.e)).setCell ⟨p, 7, none⟩ (.int .i64 y.dim.f)).setCell ⟨p, 8, none⟩ (.int .i64 y.dim.g)).cell? ⟨m, 1, none⟩ = some (.int .i64 d)) ∧ ((((((((((w'.setCell ⟨p, 0, none⟩ (.int .i64 y.num)).setCell ⟨p, 1, none⟩ (.int .i64 y.den)).setCell ⟨p, 2, none⟩ (.int .i64 y.dim.a)).setCell ⟨p, 3, none⟩ (.int .i64 y.dim.b)).setCell ⟨p, 4, none⟩ (.int .i64 y.dim.c)).setCell ⟨p, 5, none⟩ (.int .i64 y.dim.d)).setCell ⟨p, 6, none⟩ (.int .i64 y.dim.e)).setCell ⟨p, 7, none⟩ (.int .i64 y.dim.f)).setCell ⟨p, 8, none⟩ (.int .i64 y.dim.g)).cell? ⟨b, o + 2, none⟩ = some (.int .i64 x.dim.a) ∧ (((((((((w'.setCell ⟨p, 0, none⟩ (.int .i64 y.num)).setCell ⟨p, 1, none⟩ (.int .i64 y.den)).setCell ⟨p, 2, none⟩ (.int .i64 y.dim.a)).setCell ⟨p, 3, none⟩ (.int .i64 y.dim.b)).setCell ⟨p, 4, none⟩ (.int .i64 y.dim.c)).setCell ⟨p, 5, none⟩ (.int .i64 y.dim.d)).setCell ⟨p, 6, none⟩ (.int .i64 y.dim.e)).setCell ⟨p, 7, none⟩ (.int .i64 y.dim.f)).setCell ⟨p, 8, none⟩ (.int .i64 y.dim.g)).cell? ⟨b, o + 3, none⟩ = some (.int .i64 x.dim.b) ∧ (((((((((w'.setCell ⟨p, 0, none⟩ (.int .i64 y.num)).setCell ⟨p, 1, none⟩ (.int .i64 y.den)).setCell ⟨p, 2, none⟩ (.int .i64 y.dim.a)).setCell ⟨p, 3, none⟩ (.int .i64 y.dim.b)).setCell ⟨p, 4, none⟩ (.int .i64 y.dim.c)).setCell ⟨p, 5, none⟩ (.int .i64 y.dim.d)).setCell ⟨p, 6, none⟩ (.int .i64 y.dim.e)).setCell ⟨p, 7, none⟩ (.int .i64 y.dim.f)).setCell ⟨p, 8, none⟩ (.int .i64 y.dim.g)).cell? ⟨b, o + 4, none⟩ = some (.int .i64 x.dim.c) ∧ (((((((((w'.setCell ⟨p, 0, none⟩ (.int .i64 y.num)).setCell ⟨p, 1, none⟩ (.int .i64 y.den)).setCell ⟨p, 2, none⟩ (.int .i64 y.dim.a)).setCell ⟨p, 3, none⟩ (.int .i64 y.dim.b)).setCell ⟨p, 4, none⟩ (.int .i64 y.dim.c)).setCell ⟨p, 5, none⟩ (.int .i64 y.dim.d)).setCell ⟨p, 6, none⟩ (.int .i64 y.dim.e)).setCell ⟨p, 7, none⟩ (.int .i64 y.dim.f)).setCell ⟨p, 8, none⟩ (.int .i64 y.dim.g)).cell? ⟨b, o + 5, none⟩ = some (.int .i64 x.dim.d) ∧ (((((((((w'.setCell ⟨p, 0, none⟩ (.int .i64 y.num)).setCell ⟨p, 1, none⟩ (.int .i64 y.den)).setCell ⟨p, 2, none⟩ (.int .i64 y.dim.a)).setCell ⟨p, 3, none⟩ (.int .i64 y.dim.b)).setCell ⟨p, 4, none⟩ (.int .i64 y.dim.c)).setCell ⟨p, 5, none⟩ (.int .i64 y.dim.d)).setCell ⟨p, 6, none⟩ (.int .i64 y.dim.e)).setCell ⟨p, 7, none⟩ (.int .i64 y.dim.f)).setCell ⟨p, 8, none⟩ (.int .i64 y.dim.g)).cell? ⟨b, o + 6, none⟩ = some (.int .i64 x.dim.e) ∧ (((((((((w'.setCell ⟨p, 0, none⟩ (.int .i64 y.num)).setCell ⟨p, 1, none⟩ (.int .i64 y.den)).setCell ⟨p, 2, none⟩ (.int .i64 y.dim.a)).setCell ⟨p, 3, none⟩ (.int .i64 y.dim.b)).setCell ⟨p, 4, none⟩ (.int .i64 y.dim.c)).setCell ⟨p, 5, none⟩ (.int .i64 y.dim.d)).setCell ⟨p, 6, none⟩ (.int .i64 y.dim.e)).setCell ⟨p, 7, none⟩ (.int .i64 y.dim.f)).setCell ⟨p, 8, none⟩ (.int .i64 y.dim.g)).cell? ⟨b, o + 7, none⟩ = some (.int .i64 x.dim.f) ∧ (((((((((w'.setCell ⟨p, 0, none⟩ (.int .i64 y.num)).setCell ⟨p, 1, none⟩ (.int .i64 y.den)).setCell ⟨p, 2, none⟩ (.int .i64 y.dim.a)).setCell ⟨p, 3, none⟩ (.int .i64 y.dim.b)).setCell ⟨p, 4, none⟩ (.int .i64 y.dim.c)).setCell ⟨p, 5, none⟩ (.int .i64 y.dim.d)).setCell ⟨p, 6, none⟩ (.int .i64 y.dim.e)).setCell ⟨p, 7, none⟩ (.int .i64 y.dim.f)).setCell ⟨p, 8, none⟩ (.int .i64 y.dim.g)).cell? ⟨b, o + 8, none⟩ = some (.int .i64 x.dim.g)) :=
  ⟨(show K2 (set9 w' p y) m n d from (set9_other w' p y m hm).trans (h1.reach hb)).cells.1, ((h2.reach hb).block (set9_other w' p y b hp)).2⟩
theorem V.ok.bnd {v : V} (h : v.ok) : -9223372036854775808 ≤ v.num ∧ v.num ≤ 9223372036854775807 ∧ -9223372036854775808 ≤ v.den ∧ v.den ≤ 9223372036854775807 := by
  have := (Q.valid_iff _ _).1 h.1
  omega
end Go.Proofs.YtknpigdpepmimaaGreatDoor

namespace Go.Proofs.YtknpigdpepmimaaGreatDoor
open Go.RowKit
/-- a block of bytes of the call's own -/
def BY (w : World) (b : Nat) (l : List UInt8) : Prop := (∀ j (h : j < l.length), w.cell? ⟨b, j, none⟩ = some (.int .u8 (l[j].toNat : Int))) ∧ ∀ j, j < l.length → w.frozen? ⟨b, j, none⟩ = false
theorem BY.set {w : World} {b : Nat} {l : List UInt8} (h : BY w b l) (i : Nat) (c : UInt8) (hi : i < l.length) : BY (w.setCell ⟨b, i, none⟩ (.int .u8 (c.toNat : Int))) b (l.set i c) := by
  refine ⟨fun j hj => ?_, fun j hj => ?_⟩
  · by_cases e : i = j
    · subst e
      rw [World.cell?_setCell_same _ _ _ (h.1 i hi)]
      simp
    · rw [World.cell?_setCell_other _ _ _ _ (by intro h'; injection h' with _ h2; exact e h2), h.1 j (by rw [List.length_set] at hj; exact hj)]
      simp [List.getElem_set_ne e]
  · rw [List.length_set] at hj
    rw [World.frozen?_setCell]; exact h.2 j hj
theorem folR_z (m : Nat) (r : List UInt8) : folR (List.replicate m 90 ++ r) = List.replicate m 97 ++ folR r := by
  induction m with
  | zero => rfl
  | succ m ih => rw [List.replicate_succ, List.cons_append, folR, if_pos (by decide), ih]; rfl
theorem follow_z (x : List UInt8) (m : Nat) : follow (x ++ List.replicate m 90) = follow x ++ List.replicate m 97 := by
  unfold follow
  rw [List.reverse_append, List.reverse_replicate, folR_z, List.reverse_append, List.reverse_replicate]
theorem follow_c (x : List UInt8) (c : UInt8) (h : c.toNat ≠ 90) : follow (x ++ [c]) = x ++ [if c.toNat = 122 then 65 else c + 1] := by
  unfold follow
  rw [List.reverse_append, List.reverse_singleton, List.singleton_append, folR, if_neg h]
  split <;> simp
theorem by_new (w : World) (s : List UInt8) (cap e : Nat) : BY (w.alloc (.cells (bytesRow ⟨s.toArray⟩ cap) e ((bytesRow ⟨s.toArray⟩ cap).size, (bytesRow ⟨s.toArray⟩ cap).size + 1))) w.heap.size s := by
  refine ⟨fun j hj => ?_, fun j hj => ?_⟩
  · rw [World.cell?_alloc_mark, bytesRow_at _ _ _ (by simpa using hj)]; simp
  · rw [World.frozen?_alloc_mark]
    have : s.length ≤ (bytesRow ⟨s.toArray⟩ cap).size := by unfold bytesRow; simp
    simp; omega
/-- the bytes when the last n - p ones were Z -/
def zat (s : List UInt8) (p : Nat) : List UInt8 := s.take p ++ List.replicate (s.length - p) 97
theorem zat_len (s : List UInt8) (p : Nat) (h : p ≤ s.length) : (zat s p).length = s.length := by unfold zat; simp; omega
theorem zat_at (s : List UInt8) (p : Nat) (h : p < s.length) (h2 : p < (zat s (p + 1)).length) : (zat s (p + 1))[p] = s[p] := by
  have : (zat s (p + 1))[p]? = some s[p] := by
    unfold zat
    rw [List.getElem?_append_left (by simp; omega)]
    simp [h]
  rw [List.getElem?_eq_getElem h2] at this
  exact Option.some.inj this
theorem zat_all (s : List UInt8) : zat s s.length = s := by unfold zat; simp
theorem zat_set (s : List UInt8) (p : Nat) (h : p < s.length) (c : UInt8) : (zat s (p + 1)).set p c = s.take p ++ [c] ++ List.replicate (s.length - (p + 1)) 97 := by
  unfold zat
  have e : s.take (p + 1) = s.take p ++ [s[p]] := List.take_succ_eq_append_getElem h
  rw [e, List.append_assoc, List.append_assoc, List.set_append_right _ _ (by simp; omega)]
  congr 1
  simp [Nat.min_eq_left (Nat.le_of_lt h)]
theorem zat_z (s : List UInt8) (p : Nat) (h : p < s.length) : (zat s (p + 1)).set p 97 = zat s p := by
  rw [zat_set s p h]
  unfold zat
  rw [show s.length - p = (s.length - (p + 1)) + 1 from by omega, List.replicate_succ, List.append_assoc]; rfl
/-- what is known of s: from p on there are only Zs -/
def Zs (s : List UInt8) (p : Nat) : Prop := s = s.take p ++ List.replicate (s.length - p) 90
theorem Zs.next {s : List UInt8} {p : Nat} (h : Zs s (p + 1)) (hp : p < s.length) (hc : s[p].toNat = 90) : Zs s p := by
  have e : s.take (p + 1) = s.take p ++ [s[p]] := List.take_succ_eq_append_getElem hp
  have hc' : s[p] = 90 := UInt8.toNat_inj.1 hc
  unfold Zs at h ⊢
  rw [e, hc', List.append_assoc] at h
  rw [show s.length - p = (s.length - (p + 1)) + 1 from by omega, List.replicate_succ]
  exact h
theorem follow_at {s : List UInt8} {p : Nat} (h : Zs s (p + 1)) (hp : p < s.length) (hc : s[p].toNat ≠ 90) : follow s = (zat s (p + 1)).set p (if s[p].toNat = 122 then 65 else s[p] + 1) := by
  have e : s.take (p + 1) = s.take p ++ [s[p]] := List.take_succ_eq_append_getElem hp
  unfold Zs at h
  conv => lhs; rw [h]
  rw [follow_z, e, follow_c _ _ hc, zat_set s p hp]
theorem follow_end {s : List UInt8} (h : Zs s 0) : follow s = 97 :: zat s 0 := by
  unfold Zs at h
  conv => lhs; rw [h]
  rw [follow_z]
  unfold zat
  simp [follow, folR]
theorem push_a (l : List UInt8) : (⟨#[97]⟩ : ByteArray) ++ ⟨l.toArray⟩ = ⟨(97 :: l).toArray⟩ := by
  apply ByteArray.ext; simp
theorem below_drF {B : Nat} {w0 w : World} (h : Below B w0 w) : Below B w0 w.drew := ⟨h.os, h.tape, h.output, h.size, h.block⟩
theorem addr_addF (b o i : Nat) : (⟨b, o, none⟩ : Addr).add i = ⟨b, o + i, none⟩ := by
  unfold Addr.add; split
  · simp [*]
  · rfl
theorem u8_succ (c : UInt8) : (c + 1).toNat = (c.toNat + 1) % 256 := by rw [UInt8.toNat_add]; rfl
set_option maxRecDepth 100000 in
set_option maxHeartbeats 2000000 in
theorem following_any (s : List UInt8) (w : World) (hl : s.length ≤ 1000) :
    Calls Tryz.prog 190 #[.string ⟨s.toArray⟩] w fun e w' => e = .returned (.string ⟨(follow s).toArray⟩) ∧ Below w.heap.size w w' := by
  have hconv := run_bytes_of_string (P := Tryz.prog) w 9 183 5 ⟨s.toArray⟩ Tryz.underlying9 Tryz.underlying183 Tryz.underlying5
  have hB := by_new w.drew s (grownCap w (⟨s.toArray⟩ : ByteArray).size 0 5) 5
  have hsz : (⟨s.toArray⟩ : ByteArray).size = s.length := by simp [ByteArray.size]
  rw [hsz] at hconv hB
  generalize hC : bytesRow ⟨s.toArray⟩ (grownCap w s.length 0 5) = C at hconv hB
  generalize grownCap w s.length 0 5 = cap at *
  have HB := Lib.hid hB
  clear hB hC hsz
  go_enter Tryz.func190, Tryz.ntmps190
  go_wp2_with fail
  go_loopg [4] s.length (fun gg s4 wr => ∃ (p : Nat), p ≤ s.length ∧ p ≤ gg ∧ s4 = .int .i64 ((p : Int) - 1) ∧ Aside (Zs s p) ∧ Aside (BY wr w.heap.size (zat s p)) ∧ Aside (Below w.heap.size w wr))
  case atStart => exact ⟨s.length, Nat.le_refl _, Nat.le_refl _, rfl, by show Zs s s.length; unfold Zs; simp, by show BY _ _ (zat s s.length); rw [zat_all]; exact HB.out, (below_drF (Below.refl _ _)).alloc (Nat.le_refl _) _⟩
  case round =>
    obtain ⟨p, hp, hgg, rfl, HZ, HBY, HW⟩ := hrel
    rcases p with _ | p
    · have hn : ¬ (0 : Int) ≤ ((0 : Nat) : Int) - 1 := by omega
      have HY := Lib.hid (follow_end HZ.out)
      have hback := run_convert_bytes_back (P := Tryz.prog) wr 183 9 5 ⟨w.heap.size, 0, none⟩ cap (zat s 0) Tryz.underlying183 Tryz.underlying5 Tryz.underlying9 (fun j hj => by rw [addr_addF, Nat.zero_add]; exact HBY.out.1 j hj)
      rw [zat_len s 0 (Nat.zero_le _)] at hback
      have hnl : ¬ 9223372036854775807 < 1 + (zat s 0).length := by rw [zat_len s 0 (Nat.zero_le _)]; omega
      go_wp2_with fail
      go_ret
      rw [HY.out, ← push_a]
      exact ⟨rfl, HW.out⟩
    · have hpz : ((p + 1 : Nat) : Int) - 1 = (p : Int) := by omega
      rw [hpz]
      have h0 : (0 : Int) ≤ (p : Int) := by omega
      have hlt : (p : Int) < (s.length : Int) := by omega
      have hps : p < s.length := by omega
      have hzl := zat_len s (p + 1) hp
      have hck := HBY.out.1 p (by rw [hzl]; exact hps)
      have hfr := HBY.out.2 p (by rw [hzl]; exact hps)
      rw [zat_at s p hps] at hck
      by_cases h90 : s[p].toNat = 90
      · have hb1 : ((s[p].toNat : Int) == 90) = true := by rw [beq_iff_eq]; omega
        have HZ2 := Lib.hid (HZ.out.next hps h90)
        have HB2 := HBY.out.set p 97 (by rw [hzl]; exact hps)
        rw [zat_z s p hps] at HB2
        have HB2 := Lib.hid HB2
        have HW2 := Lib.hid (HW.out.setCell (p := ⟨w.heap.size, p, none⟩) (Nat.le_refl _) (.int .u8 ((97 : UInt8).toNat : Int)))
        clear h90
        generalize s[p].toNat = c at *
        go_wp2_with fail
        go_roundg p
        case measure => omega
        case rel => exact ⟨p, by omega, Nat.le_refl _, rfl, HZ2.out, HB2.out, HW2.out⟩
      · have hb1 : ((s[p].toNat : Int) == 90) = false := by rw [beq_eq_false_iff_ne]; omega
        have HY := Lib.hid (follow_at HZ.out hps h90)
        have hps2 : p < (zat s (p + 1)).length := by rw [hzl]; exact hps
        by_cases h122 : s[p].toNat = 122
        · have hb2 : ((s[p].toNat : Int) == 122) = true := by rw [beq_iff_eq]; omega
          have HX : Hid (follow s = (zat s (p + 1)).set p 65) := by show follow s = _; rw [HY.out, if_pos h122]
          have HB2 := HBY.out.set p 65 hps2
          have hback := run_convert_bytes_back (P := Tryz.prog) (wr.setCell ⟨w.heap.size, p, none⟩ (.int .u8 65)) 183 9 5 ⟨w.heap.size, 0, none⟩ cap ((zat s (p + 1)).set p 65) Tryz.underlying183 Tryz.underlying5 Tryz.underlying9 (fun j hj => by rw [addr_addF, Nat.zero_add]; exact HB2.1 j hj)
          rw [List.length_set, hzl, ← HX.out] at hback
          have HW2 := Lib.hid (HW.out.setCell (p := ⟨w.heap.size, p, none⟩) (Nat.le_refl _) (.int .u8 ((65 : UInt8).toNat : Int)))
          clear h90 h122 HB2 HBY HX HY
          generalize s[p].toNat = c at *
          go_wp2_with fail
          go_ret
          exact ⟨rfl, HW2.out⟩
        · have hb2 : ((s[p].toNat : Int) == 122) = false := by rw [beq_eq_false_iff_ne]; omega
          have HX : Hid (follow s = (zat s (p + 1)).set p (s[p] + 1)) := by show follow s = _; rw [HY.out, if_neg h122]
          have HB2 := HBY.out.set p (s[p] + 1) hps2
          have hback := run_convert_bytes_back (P := Tryz.prog) (wr.setCell ⟨w.heap.size, p, none⟩ (.int .u8 ((s[p] + 1).toNat : Int))) 183 9 5 ⟨w.heap.size, 0, none⟩ cap ((zat s (p + 1)).set p (s[p] + 1)) Tryz.underlying183 Tryz.underlying5 Tryz.underlying9 (fun j hj => by rw [addr_addF, Nat.zero_add]; exact HB2.1 j hj)
          rw [List.length_set, hzl, ← HX.out] at hback
          have HW2 := Lib.hid (HW.out.setCell (p := ⟨w.heap.size, p, none⟩) (Nat.le_refl _) (.int .u8 ((s[p] + 1).toNat : Int)))
          have hu : (((s[p] + 1).toNat : Nat) : Int) = ((s[p].toNat : Int) + 1) % 256 := by rw [u8_succ]; omega
          have hlt2 := s[p].toNat_lt
          rw [hu] at hback HW2
          clear h90 h122 HB2 HBY HX HY hu
          generalize s[p].toNat = c at *
          go_wp2_with fail
          go_ret
          exact ⟨rfl, HW2.out⟩
end Go.Proofs.YtknpigdpepmimaaGreatDoor

namespace Go.Proofs.YtknpigdpepmimaaGreatDoor
theorem wd_one : wd 1 = [97] := by decide
theorem fresh_stop {l : List W8} (hl : l.length ≤ 2755) {n : Nat} (h1 : 1 ≤ n) (h : n ≤ freshN l) (hg : good l (wd n) = true) : freshL l = wd n := by
  obtain ⟨_, _, _, h4⟩ := fresh_spec l hl
  rcases Nat.lt_or_eq_of_le h with hlt | rfl
  · rw [h4 n h1 hlt] at hg; cases hg
  · rfl
theorem fresh_go {l : List W8} (hl : l.length ≤ 2755) {n : Nat} (h : n ≤ freshN l) (hg : good l (wd n) = false) : n + 1 ≤ freshN l := by
  obtain ⟨h1, _, _, _⟩ := fresh_spec l hl
  rcases Nat.lt_or_eq_of_le h with hlt | rfl
  · exact hlt
  · have e : freshL l = wd (freshN l) := rfl
    rw [e, hg] at h1; cases h1
theorem fresh_max {l : List W8} (hl : l.length ≤ 2755) : 1 ≤ freshN l ∧ freshN l ≤ 2756 := ⟨(fresh_spec l hl).2.1, (fresh_spec l hl).2.2.1⟩
/-- m words from number a on -/
def wds (a m : Nat) : List W8 := (List.range m).map fun j => wd (a + j)
theorem wds_len (a m : Nat) : (wds a m).length = m := by unfold wds; simp
theorem wds_snoc (a m : Nat) : wds a (m + 1) = wds a m ++ [wd (a + m)] := by unfold wds; rw [List.range_succ, List.map_append]; rfl
theorem wds_at (a m i : Nat) (h : i < (wds a m).length) : (wds a m)[i] = wd (a + i) := by
  have : (wds a m)[i]? = some (wd (a + i)) := by
    have hm : i < m := by rwa [wds_len] at h
    unfold wds
    rw [List.getElem?_map, List.getElem?_range hm]; rfl
  rw [List.getElem?_eq_getElem h] at this
  exact Option.some.inj this
theorem wds_zero : wds 0 1 = [[]] := by decide
/-- the letters in their order -/
def lets : List UInt8 := [97, 98, 99, 100, 101, 102, 103, 104, 105, 106, 107, 108, 109, 110, 111, 112, 113, 114, 115, 116, 117, 118, 119, 120, 121, 122, 65, 66, 67, 68, 69, 70, 71, 72, 73, 74, 75, 76, 77, 78, 79, 80, 81, 82, 83, 84, 85, 86, 87, 88, 89, 90]
theorem lets_all : (List.range 52).all (fun k => match lets[k]? with | some c => isL c && decide (rk c = k) | none => false) = true := by decide +kernel
theorem lets_at (k : Nat) (h : k < 52) : ∃ c, lets[k]? = some c ∧ isL c = true ∧ rk c = k := by
  have := List.all_eq_true.1 lets_all k (List.mem_range.2 h)
  cases hc : lets[k]? with
  | none => rw [hc] at this; cases this
  | some c =>
    rw [hc] at this
    simp only [Bool.and_eq_true, decide_eq_true_eq] at this
    exact ⟨c, rfl, this.1, this.2⟩
theorem wd_next (a i k : Nat) (c : UInt8) (hc : isL c = true) (hk : rk c = k) : wd (a + i) ++ [c] = wd (52 * a + 1 + (52 * i + k)) := by
  rw [wd_snoc _ _ hc, hk]
  congr 1; omega
end Go.Proofs.YtknpigdpepmimaaGreatDoor

namespace Go.Proofs.YtknpigdpepmimaaGreatDoor
open Go.RowKit
/-- a slice of strings, its block below B -/
def SL (w : World) (B : Nat) (v : Value) (l : List (List UInt8)) : Prop :=
  ∃ A c, v = .slice A l.length c ∧ (l.length ≤ c ∧ c ≤ 9223372036854775807) ∧ (l ≠ [] → ∃ b o, A = some ⟨b, o, none⟩ ∧ b < B ∧ ∀ j (h : j < l.length), w.cell? ⟨b, o + j, none⟩ = some (.string ⟨(l[j]).toArray⟩))
theorem SL.below {w w' : World} {B : Nat} {v : Value} {l : List (List UInt8)} (h : SL w B v l) (hb : Below B w w') : SL w' B v l := by
  obtain ⟨A, c, h1, h2, h3⟩ := h
  refine ⟨A, c, h1, h2, fun hne => ?_⟩
  obtain ⟨b, o, h4, h5, h6⟩ := h3 hne
  exact ⟨b, o, h4, h5, fun j hj => (hb.cell (p := ⟨b, _, none⟩) h5).trans (h6 j hj)⟩
theorem SL.more {w : World} {B B' : Nat} {v : Value} {l : List (List UInt8)} (h : SL w B v l) (hB : B ≤ B') : SL w B' v l := by
  obtain ⟨A, c, h1, h2, h3⟩ := h
  refine ⟨A, c, h1, h2, fun hne => ?_⟩
  obtain ⟨b, o, h4, h5, h6⟩ := h3 hne
  exact ⟨b, o, h4, by omega, h6⟩
def isLn (c : Nat) : Bool := (decide (97 ≤ c) && decide (c ≤ 122)) || (decide (65 ≤ c) && decide (c ≤ 90))
/-- the place of a letter, or -1 -/
def ltrN (c : Nat) : Int := if 97 ≤ c ∧ c ≤ 122 then (c : Int) - 97 else if 65 ≤ c ∧ c ≤ 90 then (c : Int) - 39 else -1
set_option maxHeartbeats 1000000 in
theorem letter72_nat (c : Nat) (w : World) (hc : c < 256) : Calls Tryz.prog 112 #[.int .u8 c] w fun e w' => e = .returned (.bool (isLn c)) ∧ w = w' := by
  have HI : Hid (isLn c = ((decide (97 ≤ c) && decide (c ≤ 122)) || (decide (65 ≤ c) && decide (c ≤ 90)))) := rfl
  by_cases h1 : (97 : Int) ≤ (c : Int) <;> by_cases h2 : (c : Int) ≤ 122 <;> by_cases h3 : (65 : Int) ≤ (c : Int) <;> by_cases h4 : (c : Int) ≤ 90 <;>
  (go_enter Tryz.func112, Tryz.ntmps112
   go_wp2
   go_ret
   refine ⟨ret_bool ?_, rfl⟩
   rw [HI.out, Bool.eq_iff_iff]
   simp
   omega)
set_option maxHeartbeats 1000000 in
theorem letter70_nat (c : Nat) (w : World) (hc : c < 256) : Calls Tryz.prog 110 #[.int .u8 c] w fun e w' => e = .returned (.int .i64 (ltrN c)) ∧ w = w' := by
  have HI : Hid (ltrN c = if 97 ≤ c ∧ c ≤ 122 then (c : Int) - 97 else if 65 ≤ c ∧ c ≤ 90 then (c : Int) - 39 else -1) := rfl
  by_cases h1 : (97 : Int) ≤ (c : Int) <;> by_cases h2 : (c : Int) ≤ 122 <;> by_cases h3 : (65 : Int) ≤ (c : Int) <;> by_cases h4 : (c : Int) ≤ 90 <;>
  (go_enter Tryz.func110, Tryz.ntmps110
   go_wp2
   go_ret
   refine ⟨?_, rfl⟩
   rw [HI.out]
   refine congrArg Ending.returned (congrArg (Value.int .i64) ?_)
   (try simp only [intWrap])
   split <;> (try split) <;> omega)
set_option maxHeartbeats 1000000 in
theorem digit95_nat (c : Nat) (w : World) (hc : c < 256) : Calls Tryz.prog 160 #[.int .u8 c] w fun e w' => e = .returned (.bool (decide (48 ≤ c) && decide (c ≤ 57))) ∧ w = w' := by
  have HI : Hid ((decide (48 ≤ c) && decide (c ≤ 57)) = (decide (48 ≤ (c : Int)) && decide ((c : Int) ≤ 57))) := by show _ = _; rw [Bool.eq_iff_iff]; simp; omega
  by_cases h1 : (48 : Int) ≤ (c : Int) <;> by_cases h2 : (c : Int) ≤ 57 <;>
  (go_enter Tryz.func160, Tryz.ntmps160
   go_wp2
   go_ret
   refine ⟨ret_bool ?_, rfl⟩
   rw [HI.out, Bool.eq_iff_iff]
   simp
   omega)
end Go.Proofs.YtknpigdpepmimaaGreatDoor
