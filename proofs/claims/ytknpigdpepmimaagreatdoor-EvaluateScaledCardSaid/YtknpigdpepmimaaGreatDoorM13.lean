/- Values in memory; contracts of number 49, pure 50, whole 125. Contracts of evaluate.join 79, unit.ValidValue 42. The operations' values are valid. No program. -/
import Derived.Test.YtknpigdpepmimaaGreatDoorM12
namespace Go.Proofs.YtknpigdpepmimaaGreatDoor
open Go.RowKit
def V.cells (v : V) : Array Value := #[.int .i64 v.num, .int .i64 v.den, .int .i64 v.dim.a, .int .i64 v.dim.b, .int .i64 v.dim.c, .int .i64 v.dim.d, .int .i64 v.dim.e, .int .i64 v.dim.f, .int .i64 v.dim.g]
/-- a block that holds a value -/
def K9 (w : World) (b : Nat) (v : V) : Prop := w.heap[b]? = some (.cells v.cells 44 (0, 0))
/-- the cells of a value from (b, o) on -/
def C9 (w : World) (b o : Nat) (v : V) : Prop := (w.cell? ⟨b, o, none⟩ = some (.int .i64 v.num) ∧ w.cell? ⟨b, o + 1, none⟩ = some (.int .i64 v.den)) ∧ (w.cell? ⟨b, o + 2, none⟩ = some (.int .i64 v.dim.a) ∧ w.cell? ⟨b, o + 3, none⟩ = some (.int .i64 v.dim.b) ∧ w.cell? ⟨b, o + 4, none⟩ = some (.int .i64 v.dim.c) ∧ w.cell? ⟨b, o + 5, none⟩ = some (.int .i64 v.dim.d) ∧ w.cell? ⟨b, o + 6, none⟩ = some (.int .i64 v.dim.e) ∧ w.cell? ⟨b, o + 7, none⟩ = some (.int .i64 v.dim.f) ∧ w.cell? ⟨b, o + 8, none⟩ = some (.int .i64 v.dim.g))
theorem K9.cells {w : World} {b : Nat} {v : V} (h : K9 w b v) : C9 w b 0 v ∧ (∀ i, w.frozen? ⟨b, i, none⟩ = false) ∧ b < w.heap.size := by
  unfold K9 V.cells at h
  refine ⟨⟨⟨?_, ?_⟩, ?_, ?_, ?_, ?_, ?_, ?_, ?_⟩, fun i => ?_, (Array.getElem?_eq_some_iff.1 h).1⟩ <;> simp [World.cell?, World.frozen?, h]
theorem C9.block {w w' : World} {b o : Nat} {v : V} (h : C9 w b o v) (hb : w'.heap[b]? = w.heap[b]?) : C9 w' b o v := by
  have e : ∀ i, w'.cell? ⟨b, i, none⟩ = w.cell? ⟨b, i, none⟩ := fun i => by simp [World.cell?, hb]
  unfold C9
  rw [e, e, e, e, e, e, e, e, e]
  exact h
theorem C9.lt {w : World} {b o : Nat} {v : V} (h : C9 w b o v) : b < w.heap.size := block_lt_of_cell (a := ⟨b, o, none⟩) h.1.1
theorem C9.below {w w' : World} {b o B : Nat} {v : V} (h : C9 w b o v) (hb : Below B w w') (hB : b < B) : C9 w' b o v := h.block (hb.block b hB)
theorem C9.reach {w w' : World} {b o : Nat} {v : V} (h : C9 w b o v) (hb : Below w.heap.size w w') : C9 w' b o v := h.below hb h.lt
theorem K9.below {w w' : World} {B b : Nat} {v : V} (h : K9 w b v) (hb : Below B w w') (hlt : b < B) : K9 w' b v := (hb.block b hlt).trans h
theorem K9.reach {w w' : World} {b : Nat} {v : V} (h : K9 w b v) (hb : Below w.heap.size w w') : K9 w' b v := h.below hb h.cells.2.2
theorem K9.new (w : World) (v : V) : K9 (w.alloc (.cells v.cells 44)) w.heap.size v := heap_alloc_new w _
theorem K9.other {w : World} {b b' o : Nat} {v : V} (h : K9 w b v) (u : Value) (hne : b ≠ b') : K9 (w.setCell ⟨b', o, none⟩ u) b v := (Below.heap_setCell w ⟨b', o, none⟩ u b (fun e => hne e)).trans h
theorem zV_cells : zV.cells = #[.int .i64 0, .int .i64 0, .int .i64 0, .int .i64 0, .int .i64 0, .int .i64 0, .int .i64 0, .int .i64 0, .int .i64 0] := rfl
theorem b1 (w : World) (o : Obj) : Below w.heap.size w (w.alloc o) := (Below.refl _ _).alloc (Nat.le_refl _) _
theorem b2 (w : World) (o p : Obj) : Below w.heap.size w ((w.alloc o).alloc p) := (b1 w o).alloc (by simp) _
theorem b3 (w : World) (o p q : Obj) : Below w.heap.size w (((w.alloc o).alloc p).alloc q) := (b2 w o p).alloc (by simp; omega) _
/-- nine stores into one block -/
def set9 (w : World) (b : Nat) (v : V) : World := ((((((((w.setCell ⟨b, 0, none⟩ (.int .i64 v.num)).setCell ⟨b, 1, none⟩ (.int .i64 v.den)).setCell ⟨b, 2, none⟩ (.int .i64 v.dim.a)).setCell ⟨b, 3, none⟩ (.int .i64 v.dim.b)).setCell ⟨b, 4, none⟩ (.int .i64 v.dim.c)).setCell ⟨b, 5, none⟩ (.int .i64 v.dim.d)).setCell ⟨b, 6, none⟩ (.int .i64 v.dim.e)).setCell ⟨b, 7, none⟩ (.int .i64 v.dim.f)).setCell ⟨b, 8, none⟩ (.int .i64 v.dim.g)
theorem below9 {B b : Nat} {a w : World} (h : Below B a w) (hb : B ≤ b) (v : V) : Below B a (set9 w b v) := ((((((((h.setCell (p := ⟨b, 0, none⟩) hb _).setCell (p := ⟨b, 1, none⟩) hb _).setCell (p := ⟨b, 2, none⟩) hb _).setCell (p := ⟨b, 3, none⟩) hb _).setCell (p := ⟨b, 4, none⟩) hb _).setCell (p := ⟨b, 5, none⟩) hb _).setCell (p := ⟨b, 6, none⟩) hb _).setCell (p := ⟨b, 7, none⟩) hb _).setCell (p := ⟨b, 8, none⟩) hb _
theorem st9_0 {w : World} {b : Nat} {t : TypeId} {x0 x1 x2 x3 x4 x5 x6 x7 x8 : Value} (h : w.heap[b]? = some (.cells #[x0, x1, x2, x3, x4, x5, x6, x7, x8] t (0, 0))) (u : Value) : (w.setCell ⟨b, 0, none⟩ u).heap[b]? = some (.cells #[u, x1, x2, x3, x4, x5, x6, x7, x8] t (0, 0)) := by
  show (w.heap.modify b _)[b]? = _
  rw [Array.getElem?_modify, if_pos rfl, h]
  rfl
theorem st9_1 {w : World} {b : Nat} {t : TypeId} {x0 x1 x2 x3 x4 x5 x6 x7 x8 : Value} (h : w.heap[b]? = some (.cells #[x0, x1, x2, x3, x4, x5, x6, x7, x8] t (0, 0))) (u : Value) : (w.setCell ⟨b, 1, none⟩ u).heap[b]? = some (.cells #[x0, u, x2, x3, x4, x5, x6, x7, x8] t (0, 0)) := by
  show (w.heap.modify b _)[b]? = _
  rw [Array.getElem?_modify, if_pos rfl, h]
  rfl
theorem st9_2 {w : World} {b : Nat} {t : TypeId} {x0 x1 x2 x3 x4 x5 x6 x7 x8 : Value} (h : w.heap[b]? = some (.cells #[x0, x1, x2, x3, x4, x5, x6, x7, x8] t (0, 0))) (u : Value) : (w.setCell ⟨b, 2, none⟩ u).heap[b]? = some (.cells #[x0, x1, u, x3, x4, x5, x6, x7, x8] t (0, 0)) := by
  show (w.heap.modify b _)[b]? = _
  rw [Array.getElem?_modify, if_pos rfl, h]
  rfl
theorem st9_3 {w : World} {b : Nat} {t : TypeId} {x0 x1 x2 x3 x4 x5 x6 x7 x8 : Value} (h : w.heap[b]? = some (.cells #[x0, x1, x2, x3, x4, x5, x6, x7, x8] t (0, 0))) (u : Value) : (w.setCell ⟨b, 3, none⟩ u).heap[b]? = some (.cells #[x0, x1, x2, u, x4, x5, x6, x7, x8] t (0, 0)) := by
  show (w.heap.modify b _)[b]? = _
  rw [Array.getElem?_modify, if_pos rfl, h]
  rfl
theorem st9_4 {w : World} {b : Nat} {t : TypeId} {x0 x1 x2 x3 x4 x5 x6 x7 x8 : Value} (h : w.heap[b]? = some (.cells #[x0, x1, x2, x3, x4, x5, x6, x7, x8] t (0, 0))) (u : Value) : (w.setCell ⟨b, 4, none⟩ u).heap[b]? = some (.cells #[x0, x1, x2, x3, u, x5, x6, x7, x8] t (0, 0)) := by
  show (w.heap.modify b _)[b]? = _
  rw [Array.getElem?_modify, if_pos rfl, h]
  rfl
theorem st9_5 {w : World} {b : Nat} {t : TypeId} {x0 x1 x2 x3 x4 x5 x6 x7 x8 : Value} (h : w.heap[b]? = some (.cells #[x0, x1, x2, x3, x4, x5, x6, x7, x8] t (0, 0))) (u : Value) : (w.setCell ⟨b, 5, none⟩ u).heap[b]? = some (.cells #[x0, x1, x2, x3, x4, u, x6, x7, x8] t (0, 0)) := by
  show (w.heap.modify b _)[b]? = _
  rw [Array.getElem?_modify, if_pos rfl, h]
  rfl
theorem st9_6 {w : World} {b : Nat} {t : TypeId} {x0 x1 x2 x3 x4 x5 x6 x7 x8 : Value} (h : w.heap[b]? = some (.cells #[x0, x1, x2, x3, x4, x5, x6, x7, x8] t (0, 0))) (u : Value) : (w.setCell ⟨b, 6, none⟩ u).heap[b]? = some (.cells #[x0, x1, x2, x3, x4, x5, u, x7, x8] t (0, 0)) := by
  show (w.heap.modify b _)[b]? = _
  rw [Array.getElem?_modify, if_pos rfl, h]
  rfl
theorem st9_7 {w : World} {b : Nat} {t : TypeId} {x0 x1 x2 x3 x4 x5 x6 x7 x8 : Value} (h : w.heap[b]? = some (.cells #[x0, x1, x2, x3, x4, x5, x6, x7, x8] t (0, 0))) (u : Value) : (w.setCell ⟨b, 7, none⟩ u).heap[b]? = some (.cells #[x0, x1, x2, x3, x4, x5, x6, u, x8] t (0, 0)) := by
  show (w.heap.modify b _)[b]? = _
  rw [Array.getElem?_modify, if_pos rfl, h]
  rfl
theorem st9_8 {w : World} {b : Nat} {t : TypeId} {x0 x1 x2 x3 x4 x5 x6 x7 x8 : Value} (h : w.heap[b]? = some (.cells #[x0, x1, x2, x3, x4, x5, x6, x7, x8] t (0, 0))) (u : Value) : (w.setCell ⟨b, 8, none⟩ u).heap[b]? = some (.cells #[x0, x1, x2, x3, x4, x5, x6, x7, u] t (0, 0)) := by
  show (w.heap.modify b _)[b]? = _
  rw [Array.getElem?_modify, if_pos rfl, h]
  rfl
theorem set9_K9 {w : World} {b : Nat} {u : V} (h : K9 w b u) (v : V) : K9 (set9 w b v) b v :=
  st9_8 (st9_7 (st9_6 (st9_5 (st9_4 (st9_3 (st9_2 (st9_1 (st9_0 h _) _) _) _) _) _) _) _) _
set_option maxRecDepth 100000 in
set_option maxHeartbeats 1000000 in
theorem number_val (v : V) (w : World) : Calls Tryz.prog 49 #[.agg v.cells] w fun e w' => e = .returned (.agg #[.int .i64 v.num, .int .i64 v.den]) ∧ Below w.heap.size w w' := by
  obtain ⟨n, d, ⟨a, b, c, d4, e, f, g⟩⟩ := v
  unfold V.cells
  go_enter Tryz.func49, Tryz.ntmps49
  go_wp2_with fail
  refine bodyPost_ret (v := .agg #[.int .i64 n, .int .i64 d]) (by simp [results, Tryz.results49, go_sem]) rfl ⟨rfl, ?_⟩
  exact b2 w _ _
set_option maxRecDepth 100000 in
set_option maxHeartbeats 1000000 in
theorem whole_any (n : Int) (w : World) : Calls Tryz.prog 125 #[.int .i64 n] w fun e w' => e = .returned (.agg (whV n).cells) ∧ Below w.heap.size w w' := by
  have HB := Lib.hid (b1 w (.cells #[.int .i64 0, .int .i64 0, .int .i64 0, .int .i64 0, .int .i64 0, .int .i64 0, .int .i64 0, .int .i64 0, .int .i64 0] 44))
  have HK : Hid (K9 (w.alloc (.cells #[.int .i64 0, .int .i64 0, .int .i64 0, .int .i64 0, .int .i64 0, .int .i64 0, .int .i64 0, .int .i64 0, .int .i64 0] 44)) w.heap.size zV) := K9.new w zV
  go_enter Tryz.func125, Tryz.ntmps125
  go_upto_region 1 with (fail)
  generalize w.alloc (.cells #[.int .i64 0, .int .i64 0, .int .i64 0, .int .i64 0, .int .i64 0, .int .i64 0, .int .i64 0, .int .i64 0, .int .i64 0] 44) = w1 at *
  obtain ⟨⟨⟨z0, z1⟩, z2, z3, z4, z5, z6, z7, z8⟩, zf, _⟩ := HK.out.cells
  go_wp2_with fail
  refine bodyPost_ret (v := .agg (whV n).cells) (by simp [results, Tryz.results125, go_sem, V.cells, whV, zD, z0, z1, z2, z3, z4, z5, z6, z7, z8]) rfl ⟨rfl, ?_⟩
  exact below9 HB.out (b := w.heap.size) (Nat.le_refl _) (whV n)
set_option maxRecDepth 100000 in
set_option maxHeartbeats 1000000 in
theorem pure_any (v : V) (w : World) : Calls Tryz.prog 50 #[.agg v.cells] w fun e w' => e = .returned (.bool (decide (v.dim = zD))) ∧ Below w.heap.size w w' := by
  have hE := fun w' => eq42 v.dim zD w'
  rw [show (zD.a : Int) = 0 from rfl, show (zD.b : Int) = 0 from rfl, show (zD.c : Int) = 0 from rfl, show (zD.d : Int) = 0 from rfl, show (zD.e : Int) = 0 from rfl, show (zD.f : Int) = 0 from rfl, show (zD.g : Int) = 0 from rfl] at hE
  obtain ⟨t, ht⟩ : ∃ t, t = decide (v.dim = zD) := ⟨_, rfl⟩
  rw [← ht] at hE ⊢
  clear ht
  have HK := Lib.hid (K9.new w v)
  unfold V.cells at HK ⊢
  have HB := Lib.hid (b1 w (.cells #[.int .i64 v.num, .int .i64 v.den, .int .i64 v.dim.a, .int .i64 v.dim.b, .int .i64 v.dim.c, .int .i64 v.dim.d, .int .i64 v.dim.e, .int .i64 v.dim.f, .int .i64 v.dim.g] 44))
  go_enter Tryz.func50, Tryz.ntmps50
  go_upto_region 1 with (fail)
  generalize w.alloc (.cells #[.int .i64 v.num, .int .i64 v.den, .int .i64 v.dim.a, .int .i64 v.dim.b, .int .i64 v.dim.c, .int .i64 v.dim.d, .int .i64 v.dim.e, .int .i64 v.dim.f, .int .i64 v.dim.g] 44) = w1 at *
  obtain ⟨⟨⟨z0, z1⟩, z2, z3, z4, z5, z6, z7, z8⟩, zf, _⟩ := HK.out.cells
  go_wp2_with fail
  go_ret
  exact ⟨rfl, HB.out⟩
end Go.Proofs.YtknpigdpepmimaaGreatDoor

namespace Go.Proofs.YtknpigdpepmimaaGreatDoor
open Go.RowKit
/-- a block that holds a rational number -/
def K2 (w : World) (b : Nat) (x y : Int) : Prop := w.heap[b]? = some (.cells #[.int .i64 x, .int .i64 y] 57 (0, 0))
theorem K2.cells {w : World} {b : Nat} {x y : Int} (h : K2 w b x y) : (w.cell? ⟨b, 0, none⟩ = some (.int .i64 x) ∧ w.cell? ⟨b, 1, none⟩ = some (.int .i64 y)) ∧ (∀ i, w.frozen? ⟨b, i, none⟩ = false) ∧ b < w.heap.size := by
  unfold K2 at h
  refine ⟨⟨?_, ?_⟩, fun i => ?_, (Array.getElem?_eq_some_iff.1 h).1⟩ <;> simp [World.cell?, World.frozen?, h]
theorem K2.below {w w' : World} {B b : Nat} {x y : Int} (h : K2 w b x y) (hb : Below B w w') (hlt : b < B) : K2 w' b x y := (hb.block b hlt).trans h
theorem K2.reach {w w' : World} {b : Nat} {x y : Int} (h : K2 w b x y) (hb : Below w.heap.size w w') : K2 w' b x y := h.below hb h.cells.2.2
theorem K2.new (w : World) (x y : Int) : K2 (w.alloc (.cells #[.int .i64 x, .int .i64 y] 57)) w.heap.size x y := heap_alloc_new w _
set_option maxRecDepth 100000 in
set_option maxHeartbeats 2000000 in
theorem join_any (n d e : Int) (x : Dm) (f : Int) (w : World) : Calls Tryz.prog 79 #[.agg #[.int .i64 n, .int .i64 d], .int .i64 e, .agg x.cells, .int .i64 f] w fun r w' => r = .returned (.tuple #[.agg (joinQ ⟨n, d, e⟩ x f).1.cells, .int .i64 (joinQ ⟨n, d, e⟩ x f).2]) ∧ Below w.heap.size w w' := by
  have HE : Hid (joinQ ⟨n, d, e⟩ x f = if e = 0 ∧ f = 0 then (⟨n, d, x⟩, 0) else (zV, 17)) := rfl
  obtain ⟨r, hr⟩ : ∃ r, r = joinQ ⟨n, d, e⟩ x f := ⟨_, rfl⟩
  rw [← hr] at HE ⊢
  clear hr
  have HB := Lib.hid (b3 w (.cells #[.int .i64 n, .int .i64 d] 57) (.cells #[.int .i64 x.a, .int .i64 x.b, .int .i64 x.c, .int .i64 x.d, .int .i64 x.e, .int .i64 x.f, .int .i64 x.g] 42) (.cells #[.int .i64 0, .int .i64 0, .int .i64 0, .int .i64 0, .int .i64 0, .int .i64 0, .int .i64 0, .int .i64 0, .int .i64 0] 44))
  have hk1 := ((K2.new w n d).reach (b1 _ (.cells #[.int .i64 x.a, .int .i64 x.b, .int .i64 x.c, .int .i64 x.d, .int .i64 x.e, .int .i64 x.f, .int .i64 x.g] 42))).reach (b1 _ (.cells #[.int .i64 0, .int .i64 0, .int .i64 0, .int .i64 0, .int .i64 0, .int .i64 0, .int .i64 0, .int .i64 0, .int .i64 0] 44))
  have hk2 := (K7.new (w.alloc (.cells #[.int .i64 n, .int .i64 d] 57)) x).reach (b1 _ (.cells #[.int .i64 0, .int .i64 0, .int .i64 0, .int .i64 0, .int .i64 0, .int .i64 0, .int .i64 0, .int .i64 0, .int .i64 0] 44))
  have hk3 : K9 (((w.alloc (.cells #[.int .i64 n, .int .i64 d] 57)).alloc (.cells #[.int .i64 x.a, .int .i64 x.b, .int .i64 x.c, .int .i64 x.d, .int .i64 x.e, .int .i64 x.f, .int .i64 x.g] 42)).alloc (.cells #[.int .i64 0, .int .i64 0, .int .i64 0, .int .i64 0, .int .i64 0, .int .i64 0, .int .i64 0, .int .i64 0, .int .i64 0] 44)) (w.heap.size + 1 + 1) zV := by
    have := K9.new ((w.alloc (.cells #[.int .i64 n, .int .i64 d] 57)).alloc (.cells #[.int .i64 x.a, .int .i64 x.b, .int .i64 x.c, .int .i64 x.d, .int .i64 x.e, .int .i64 x.f, .int .i64 x.g] 42)) zV
    rw [World.size_alloc, World.size_alloc] at this
    exact this
  rw [World.size_alloc] at hk2
  have HK1 := Lib.hid hk1
  have HK2 := Lib.hid hk2
  have HK3 := Lib.hid hk3
  clear hk1 hk2 hk3
  unfold Dm.cells
  go_enter Tryz.func79, Tryz.ntmps79
  go_upto_region 1 with (fail)
  generalize ((w.alloc (.cells #[.int .i64 n, .int .i64 d] 57)).alloc (.cells #[.int .i64 x.a, .int .i64 x.b, .int .i64 x.c, .int .i64 x.d, .int .i64 x.e, .int .i64 x.f, .int .i64 x.g] 42)).alloc (.cells #[.int .i64 0, .int .i64 0, .int .i64 0, .int .i64 0, .int .i64 0, .int .i64 0, .int .i64 0, .int .i64 0, .int .i64 0] 44) = w1 at *
  obtain ⟨⟨k0, k1⟩, _, _⟩ := HK1.out.cells
  obtain ⟨⟨p0, p1, p2, p3, p4, p5, p6⟩, _, _⟩ := HK2.out.cells
  obtain ⟨⟨⟨z0, z1⟩, z2, z3, z4, z5, z6, z7, z8⟩, zf, _⟩ := HK3.out.cells
  by_cases he : e = 0
  · by_cases hf : f = 0
    · have HR : Hid (r = (⟨n, d, x⟩, 0)) := HE.out.trans (if_pos ⟨he, hf⟩)
      subst he hf
      go_wp2_with fail
      rw [HR.out]
      refine bodyPost_ret (v := .tuple #[.agg (V.cells ⟨n, d, x⟩), .int .i64 0]) (by simp [results, Tryz.results79, go_sem, V.cells, z0, z1, z2, z3, z4, z5, z6, z7, z8]) rfl ⟨rfl, ?_⟩
      exact below9 HB.out (b := w.heap.size + 1 + 1) (by omega) ⟨n, d, x⟩
    · have HR : Hid (r = (zV, 17)) := HE.out.trans (if_neg fun h => hf h.2)
      subst he
      go_wp2_with fail
      rw [HR.out]
      refine bodyPost_ret (v := .tuple #[.agg zV.cells, .int .i64 17]) (by simp [results, Tryz.results79, go_sem, V.cells, zV, zD, z0, z1, z2, z3, z4, z5, z6, z7, z8]) rfl ⟨rfl, ?_⟩
      exact below9 HB.out (b := w.heap.size + 1 + 1) (by omega) zV
  · have HR : Hid (r = (zV, 17)) := HE.out.trans (if_neg fun h => he h.1)
    go_wp2_with fail
    rw [HR.out]
    refine bodyPost_ret (v := .tuple #[.agg zV.cells, .int .i64 17]) (by simp [results, Tryz.results79, go_sem, V.cells, zV, zD, z0, z1, z2, z3, z4, z5, z6, z7, z8]) rfl ⟨rfl, ?_⟩
    exact below9 HB.out (b := w.heap.size + 1 + 1) (by omega) zV
set_option maxRecDepth 100000 in
set_option maxHeartbeats 2000000 in
theorem validvalue_any (v : V) (w : World) (hn : -9223372036854775808 ≤ v.num) (hN : v.num ≤ 9223372036854775807) (hd : -9223372036854775808 ≤ v.den) (hD : v.den ≤ 9223372036854775807) : Calls Tryz.prog 42 #[.agg v.cells] w fun r w' => r = .returned (.bool (Q.validQ v.num v.den && v.dim.ok)) ∧ Below w.heap.size w w' := by
  have HV := Lib.hid fun w => Q.valid_any v.num v.den w hn hN hd hD
  have HU := Lib.hid fun w => uvalid_any v.dim w
  have HK := Lib.hid (K9.new w v)
  have HB := Lib.hid (b1 w (.cells v.cells 44))
  unfold V.cells at HK HB ⊢
  unfold Dm.cells at HU
  go_enter Tryz.func42, Tryz.ntmps42
  go_upto_region 1 with (fail)
  generalize w.alloc (.cells #[.int .i64 v.num, .int .i64 v.den, .int .i64 v.dim.a, .int .i64 v.dim.b, .int .i64 v.dim.c, .int .i64 v.dim.d, .int .i64 v.dim.e, .int .i64 v.dim.f, .int .i64 v.dim.g] 44) = w1 at *
  obtain ⟨⟨⟨z0, z1⟩, z2, z3, z4, z5, z6, z7, z8⟩, zf, _⟩ := HK.out.cells
  go_wp2_with fail
  refine (HV.out w1).mono ?_
  rintro r w2 ⟨rfl, hb2⟩
  have HB2 := Lib.hid (HB.out.trans (hb2.mono HB.out.size))
  have HK2 := Lib.hid (HK.out.reach hb2)
  clear hb2 z0 z1 z2 z3 z4 z5 z6 z7 z8
  obtain ⟨⟨⟨z0, z1⟩, z2, z3, z4, z5, z6, z7, z8⟩, zf, _⟩ := HK2.out.cells
  cases h1 : Q.validQ v.num v.den with
  | false =>
    go_wp2_with fail
    go_ret
    exact ⟨by rw [h1]; rfl, HB2.out⟩
  | true =>
    go_wp2_with fail
    refine (HU.out w2).mono ?_
    rintro r w3 ⟨rfl, hb3⟩
    go_wp2_with fail
    go_ret
    exact ⟨by rw [h1]; rfl, HB2.out.trans (hb3.mono HB2.out.size)⟩
end Go.Proofs.YtknpigdpepmimaaGreatDoor

namespace Go.Proofs.YtknpigdpepmimaaGreatDoor
def V.ok (v : V) : Prop := Q.validQ v.num v.den = true ∧ v.dim.ok = true
theorem mk_spec {n d : Int} (h : (Q.mk n d).err = 0) : d ≠ 0 ∧ Q.validQ (Q.mk n d).num (Q.mk n d).den = true ∧ n * (Q.mk n d).den = (Q.mk n d).num * d := by
  by_cases hd : d = 0
  · subst hd; simp [Q.mk] at h
  refine ⟨hd, ?_⟩
  have hg : 0 < Nat.gcd n.natAbs d.natAbs := Nat.gcd_pos_of_pos_right _ (by omega)
  have h1 := Nat.div_mul_cancel (Nat.gcd_dvd_left n.natAbs d.natAbs)
  have h2 := Nat.div_mul_cancel (Nat.gcd_dvd_right n.natAbs d.natAbs)
  have h3 := Nat.gcd_div_gcd_div_gcd_of_pos_right (n := n.natAbs) (m := d.natAbs) (by omega)
  unfold Q.mk at h ⊢
  rw [if_neg hd] at h ⊢
  unfold Q.red at h ⊢
  generalize Nat.gcd n.natAbs d.natAbs = g at *
  generalize n.natAbs / g = a at *
  generalize d.natAbs / g = b at *
  have hb : 0 < b := by
    rcases Nat.eq_zero_or_pos b with h0 | h0
    · subst h0; omega
    · exact h0
  by_cases hc : a ≤ 2147483647 ∧ b ≤ 2147483647
  · rw [if_pos hc] at h ⊢
    have e1 : (n.natAbs : Int) = (a : Int) * g := by rw [← h1]; simp
    have e2 : (d.natAbs : Int) = (b : Int) * g := by rw [← h2]; simp
    rcases Int.lt_or_le n 0 with hn | hn <;> rcases Int.lt_or_le d 0 with hd0 | hd0
    · have hb1 : (decide (n < 0) != decide (d < 0)) = false := by simp [hn, hd0]
      rw [hb1]
      have en : n = -((a : Int) * g) := by omega
      have ed : d = -((b : Int) * g) := by omega
      refine ⟨(Q.valid_iff _ _).2 ⟨by show (1 : Int) ≤ (b : Int); omega, by show (b : Int) ≤ _; omega, by show _ ≤ (a : Int); omega, by show (a : Int) ≤ _; omega, by simpa using h3⟩, ?_⟩
      rw [en, ed]; show -((a : Int) * g) * b = (a : Int) * -((b : Int) * g); grind
    · have hb1 : (decide (n < 0) != decide (d < 0)) = true := by simp [hn]; omega
      rw [hb1]
      have en : n = -((a : Int) * g) := by omega
      have ed : d = (b : Int) * g := by omega
      refine ⟨(Q.valid_iff _ _).2 ⟨by show (1 : Int) ≤ (b : Int); omega, by show (b : Int) ≤ _; omega, by show _ ≤ -(a : Int); omega, by show -(a : Int) ≤ _; omega, by simpa using h3⟩, ?_⟩
      rw [en, ed]; show -((a : Int) * g) * b = -(a : Int) * ((b : Int) * g); grind
    · have hb1 : (decide (n < 0) != decide (d < 0)) = true := by simp [hd0]; omega
      rw [hb1]
      have en : n = (a : Int) * g := by omega
      have ed : d = -((b : Int) * g) := by omega
      refine ⟨(Q.valid_iff _ _).2 ⟨by show (1 : Int) ≤ (b : Int); omega, by show (b : Int) ≤ _; omega, by show _ ≤ -(a : Int); omega, by show -(a : Int) ≤ _; omega, by simpa using h3⟩, ?_⟩
      rw [en, ed]; show ((a : Int) * g) * b = -(a : Int) * -((b : Int) * g); grind
    · have hb1 : (decide (n < 0) != decide (d < 0)) = false := by
        rw [decide_eq_false (by omega), decide_eq_false (by omega)]; rfl
      rw [hb1]
      have en : n = (a : Int) * g := by omega
      have ed : d = (b : Int) * g := by omega
      refine ⟨(Q.valid_iff _ _).2 ⟨by show (1 : Int) ≤ (b : Int); omega, by show (b : Int) ≤ _; omega, by show _ ≤ (a : Int); omega, by show (a : Int) ≤ _; omega, by simpa using h3⟩, ?_⟩
      rw [en, ed]; show ((a : Int) * g) * b = (a : Int) * ((b : Int) * g); grind
  · rw [if_neg hc] at h; simp at h
theorem valid_int {n : Int} (h : -2147483647 ≤ n ∧ n ≤ 2147483647) : Q.validQ n 1 = true := (Q.valid_iff _ _).2 ⟨by omega, by omega, h.1, h.2, by simp⟩
theorem wh_ok {n : Int} (h : -2147483647 ≤ n ∧ n ≤ 2147483647) : (whV n).ok := ⟨valid_int h, rfl⟩
theorem V.ok.num {v : V} (h : v.ok) : -2147483647 ≤ v.num ∧ v.num ≤ 2147483647 := by have := (Q.valid_iff _ _).1 h.1; omega
theorem join_ok {x : Q.Res} {d : Dm} {f : Int} (hx : x.err = 0 → Q.validQ x.num x.den = true) (hd : f = 0 → d.ok = true) (h : (joinQ x d f).2 = 0) : (joinQ x d f).1.ok := by
  unfold joinQ at h ⊢
  by_cases hc : x.err = 0 ∧ f = 0
  · rw [if_pos hc]; exact ⟨hx hc.1, hd hc.2⟩
  · rw [if_neg hc] at h; simp at h
theorem add_valid {a b c d : Int} (h : (Q.addQ a b c d).err = 0) : Q.validQ (Q.addQ a b c d).num (Q.addQ a b c d).den = true := by
  unfold Q.addQ at h ⊢; split at h <;> rename_i hc
  · rw [if_pos hc]; exact (mk_spec h).2.1
  · simp at h
theorem sub_valid {a b c d : Int} (h : (Q.subQ a b c d).err = 0) : Q.validQ (Q.subQ a b c d).num (Q.subQ a b c d).den = true := by
  unfold Q.subQ at h ⊢; split at h <;> rename_i hc
  · rw [if_pos hc]; exact (mk_spec h).2.1
  · simp at h
theorem mul_valid {a b c d : Int} (h : (Q.mulQ a b c d).err = 0) : Q.validQ (Q.mulQ a b c d).num (Q.mulQ a b c d).den = true := by
  unfold Q.mulQ at h ⊢; split at h <;> rename_i hc
  · rw [if_pos hc]; exact (mk_spec h).2.1
  · simp at h
theorem div_valid {a b c d : Int} (h : (Q.divQ a b c d).err = 0) : Q.validQ (Q.divQ a b c d).num (Q.divQ a b c d).den = true := by
  unfold Q.divQ at h ⊢; split at h <;> rename_i hc
  · rw [if_pos hc]; exact (mk_spec h).2.1
  · simp at h
theorem neg_valid {a b : Int} (h : (Q.negQ a b).err = 0) : Q.validQ (Q.negQ a b).num (Q.negQ a b).den = true := by
  unfold Q.negQ at h ⊢; split at h <;> rename_i hc
  · rw [if_pos hc]
    have := (Q.valid_iff _ _).1 hc
    exact (Q.valid_iff _ _).2 ⟨this.1, this.2.1, by show _ ≤ -a; omega, by show -a ≤ _; omega, by show Nat.gcd (-a).natAbs _ = 1; rw [Int.natAbs_neg]; exact this.2.2.2.2⟩
  · simp at h
theorem powN_valid {a b : Int} {k : Nat} (hv : Q.validQ a b = true) (h : (Q.powN a b k).err = 0) : Q.validQ (Q.powN a b k).num (Q.powN a b k).den = true := by
  unfold Q.powN at h ⊢; split at h <;> rename_i hc
  · rw [if_pos hc]; exact Q.valid_pow hv hc
  · simp at h
theorem pow_valid {a b n : Int} (h : (Q.powQ a b n).err = 0) : Q.validQ (Q.powQ a b n).num (Q.powQ a b n).den = true := by
  unfold Q.powQ at h ⊢; split at h <;> rename_i hc
  · rw [if_pos hc]
    split at h <;> rename_i h0
    · simp at h
    · rw [if_neg h0]
      split at h <;> rename_i h1
      · rw [if_pos h1]; exact powN_valid (Q.inv_valid hc (fun e => h0 ⟨e, h1⟩)) h
      · rw [if_neg h1]; exact powN_valid hc h
  · simp at h
theorem root_valid {a b : Int} (h : (Q.rootQ a b).err = 0) : Q.validQ (Q.rootQ a b).num (Q.rootQ a b).den = true := by
  unfold Q.rootQ at h ⊢; split at h <;> rename_i hc
  · rw [if_pos hc]
    split at h <;> rename_i h0
    · rw [if_pos h0]
      have hv := (Q.valid_iff _ _).1 hc
      have b1 := Q.sqr_bnd a
      have b2 := Q.sqr_bnd b
      show Q.validQ (Q.sqr a) (Q.sqr b) = true
      generalize Q.sqr a = x at *
      generalize Q.sqr b = y at *
      have hy : y ≠ 0 := fun e => by subst e; simp at h0; omega
      refine (Q.valid_iff _ _).2 ⟨by omega, by omega, by omega, by omega, ?_⟩
      have hg := hv.2.2.2.2
      rw [← h0.1, ← h0.2, Int.natAbs_mul, Int.natAbs_mul] at hg
      exact Nat.Coprime.coprime_mul_left (Nat.Coprime.coprime_mul_left_right hg)
    · simp at h
  · simp at h
theorem parse_valid {l : List UInt8} (h : (Q.parseQ l).err = 0) : Q.validQ (Q.parseQ l).num (Q.parseQ l).den = true := by
  unfold Q.parseQ at h ⊢; split at h <;> rename_i hc
  · simp at h
  · rw [if_neg hc]; unfold Q.decQ at h ⊢; exact (mk_spec h).2.1
theorem comb_ok {x y : Dm} {s : Int} (h : (combQ x y s).2 = 0) : (combQ x y s).1.ok = true := by
  unfold combQ at h ⊢
  split at h <;> rename_i hc
  · rw [if_pos hc]
    split at h <;> rename_i h1
    · rw [if_pos h1]; exact h1
    · simp at h
  · simp at h
theorem dpow_ok {x : Dm} {n : Int} (h : (dpowQ x n).2 = 0) : (dpowQ x n).1.ok = true := by
  unfold dpowQ at h ⊢
  split at h <;> rename_i hc
  · rw [if_pos hc]
    split at h <;> rename_i h1
    · rw [if_pos h1]; rfl
    · rw [if_neg h1]
      split at h <;> rename_i h2
      · simp at h
      · rw [if_neg h2]
        split at h <;> rename_i h3
        · rw [if_pos h3]; exact h3
        · simp at h
  · simp at h
theorem okE_iff (n : Int) : okE n = true ↔ -100 ≤ n ∧ n ≤ 100 := by unfold okE; simp
theorem half_bnd {y : Int} (h : -100 ≤ y ∧ y ≤ 100) : -100 ≤ Int.tdiv y 2 ∧ Int.tdiv y 2 ≤ 100 := by
  rcases Int.le_total 0 y with h0 | h0
  · rw [Int.tdiv_eq_ediv_of_nonneg h0]; omega
  · have e : Int.tdiv y 2 = -(Int.tdiv (-y) 2) := by rw [Int.neg_tdiv]; omega
    rw [e, Int.tdiv_eq_ediv_of_nonneg (show 0 ≤ -y by omega)]; omega
theorem half_ok {x : Dm} (h : x.ok = true) : x.half.ok = true := by
  have hx := Dm.ok_all h
  unfold Dm.ok Dm.half
  simp only [(okE_iff _).2 (half_bnd hx.1), (okE_iff _).2 (half_bnd hx.2.1), (okE_iff _).2 (half_bnd hx.2.2.1), (okE_iff _).2 (half_bnd hx.2.2.2.1), (okE_iff _).2 (half_bnd hx.2.2.2.2.1), (okE_iff _).2 (half_bnd hx.2.2.2.2.2.1), (okE_iff _).2 (half_bnd hx.2.2.2.2.2.2), Bool.and_self]
theorem droot_ok {x : Dm} (h : (drootQ x).2 = 0) : (drootQ x).1.ok = true := by
  unfold drootQ at h ⊢
  split at h <;> rename_i hc
  · rw [if_pos hc]
    split at h <;> rename_i h1
    · rw [if_pos h1]; exact half_ok hc
    · simp at h
  · simp at h
theorem sumV_ok {a b : V} (ha : a.ok) (h : (sumV a b).2 = 0) : (sumV a b).1.ok := by
  unfold sumV at h ⊢; split at h <;> rename_i hc
  · rw [if_pos hc]; exact join_ok add_valid (fun _ => ha.2) h
  · simp at h
theorem difV_ok {a b : V} (ha : a.ok) (h : (difV a b).2 = 0) : (difV a b).1.ok := by
  unfold difV at h ⊢; split at h <;> rename_i hc
  · rw [if_pos hc]; exact join_ok sub_valid (fun _ => ha.2) h
  · simp at h
theorem negV_ok {a : V} (ha : a.ok) (h : (negV a).2 = 0) : (negV a).1.ok := join_ok neg_valid (fun _ => ha.2) h
theorem proV_ok {a b : V} (h : (proV a b).2 = 0) : (proV a b).1.ok := join_ok mul_valid comb_ok h
theorem quoV_ok {a b : V} (h : (quoV a b).2 = 0) : (quoV a b).1.ok := by
  unfold quoV at h ⊢; split at h <;> rename_i hc
  · simp at h
  · rw [if_neg hc]; exact join_ok div_valid comb_ok h
theorem powV_ok {a b : V} (h : (powV a b).2 = 0) : (powV a b).1.ok := by
  unfold powV at h ⊢
  split at h <;> rename_i hc
  · rw [if_pos hc]
    split at h <;> rename_i h1
    · rw [if_pos h1]
      split at h <;> rename_i h2
      · simp at h
      · rw [if_neg h2]; exact join_ok pow_valid dpow_ok h
    · simp at h
  · simp at h
theorem rooV_ok {a : V} (h : (rooV a).2 = 0) : (rooV a).1.ok := by
  unfold rooV at h ⊢
  split at h <;> rename_i hc
  · rw [if_pos hc]; exact join_ok root_valid (fun _ => droot_ok hc) h
  · simp at h
theorem absV_ok {a : V} (ha : a.ok) : (absV a).1.ok := by
  have hv := (Q.valid_iff _ _).1 ha.1
  refine ⟨(Q.valid_iff _ _).2 ⟨hv.1, hv.2.1, by show _ ≤ max a.num (-a.num); omega, by show max a.num (-a.num) ≤ _; omega, ?_⟩, ha.2⟩
  show Nat.gcd (max a.num (-a.num)).natAbs a.den.natAbs = 1
  have : (max a.num (-a.num)).natAbs = a.num.natAbs := by omega
  rw [this]; exact hv.2.2.2.2
theorem fac_small : ∀ n : Nat, n ≤ 12 → 1 ≤ facN n ∧ facN n ≤ 479001600 := by decide
theorem facV_ok {a : V} (h : (facV a).2 = 0) : (facV a).1.ok := by
  unfold facV at h ⊢
  split at h <;> rename_i hc
  · rw [if_pos hc]
    split at h <;> rename_i h1
    · rw [if_pos h1]
      have := fac_small a.num.toNat (by omega)
      exact wh_ok (by omega)
    · simp at h
  · simp at h
theorem opK_ok (k : Nat) (l : List V) (hl : ∀ x ∈ l, x.ok) (h : (opK k l).2 = 0) : (opK k l).1.ok := by
  unfold opK at h ⊢
  split at h
  · exact sumV_ok (hl _ List.mem_cons_self) h
  · exact difV_ok (hl _ List.mem_cons_self) h
  · exact negV_ok (hl _ List.mem_cons_self) h
  · exact hl _ List.mem_cons_self
  · exact proV_ok h
  · exact quoV_ok h
  · exact powV_ok h
  · exact rooV_ok h
  · exact absV_ok (hl _ List.mem_cons_self)
  · exact facV_ok h
  · simp at h
theorem join_err {x : Q.Res} {d : Dm} {f : Int} (h : (joinQ x d f).2 ≠ 0) : joinQ x d f = (zV, 17) := by
  unfold joinQ at h ⊢
  split at h <;> rename_i hc
  · exact absurd rfl h
  · rw [if_neg hc]
end Go.Proofs.YtknpigdpepmimaaGreatDoor
