/- Contract of limits 132, out of term's for smaller terms. -/
import Derived.Laws.Rows
import Derived.Test.YtknpigdpepmimaaGreatDoorV16
namespace Go.Proofs.YtknpigdpepmimaaGreatDoor
open Go.Lib(hid)
open Go.RowKit Go.Maps
def K18 (w:World) (b:Nat)(x y:V):Prop:=w.heap[b]?=some (.cells #[.int .i64 x.num,.int .i64 x.den,.int .i64 x.dim.a,.int .i64 x.dim.b,.int .i64 x.dim.c,.int .i64 x.dim.d,.int .i64 x.dim.e,.int .i64 x.dim.f,.int .i64 x.dim.g,.int .i64 y.num,.int .i64 y.den,.int .i64 y.dim.a,.int .i64 y.dim.b,.int .i64 y.dim.c,.int .i64 y.dim.d,.int .i64 y.dim.e,.int .i64 y.dim.f,.int .i64 y.dim.g] 210 (0,0))
def O18 (x y:V):Obj:=.cells #[.int .i64 x.num,.int .i64 x.den,.int .i64 x.dim.a,.int .i64 x.dim.b,.int .i64 x.dim.c,.int .i64 x.dim.d,.int .i64 x.dim.e,.int .i64 x.dim.f,.int .i64 x.dim.g,.int .i64 y.num,.int .i64 y.den,.int .i64 y.dim.a,.int .i64 y.dim.b,.int .i64 y.dim.c,.int .i64 y.dim.d,.int .i64 y.dim.e,.int .i64 y.dim.f,.int .i64 y.dim.g] 210 (0,0)
theorem K18.cells {w:World}{b:Nat}{x y:V}(h:K18 w b x y):(w.cell? ⟨b,0,none⟩=some (.int .i64 x.num)∧w.cell? ⟨b,1,none⟩=some (.int .i64 x.den)∧w.cell? ⟨b,2,none⟩=some (.int .i64 x.dim.a)∧w.cell? ⟨b,3,none⟩=some (.int .i64 x.dim.b)∧w.cell? ⟨b,4,none⟩=some (.int .i64 x.dim.c)∧w.cell? ⟨b,5,none⟩=some (.int .i64 x.dim.d)∧w.cell? ⟨b,6,none⟩=some (.int .i64 x.dim.e)∧w.cell? ⟨b,7,none⟩=some (.int .i64 x.dim.f)∧w.cell? ⟨b,8,none⟩=some (.int .i64 x.dim.g)∧w.cell? ⟨b,9,none⟩=some (.int .i64 y.num)∧w.cell? ⟨b,10,none⟩=some (.int .i64 y.den)∧w.cell? ⟨b,11,none⟩=some (.int .i64 y.dim.a)∧w.cell? ⟨b,12,none⟩=some (.int .i64 y.dim.b)∧w.cell? ⟨b,13,none⟩=some (.int .i64 y.dim.c)∧w.cell? ⟨b,14,none⟩=some (.int .i64 y.dim.d)∧w.cell? ⟨b,15,none⟩=some (.int .i64 y.dim.e)∧w.cell? ⟨b,16,none⟩=some (.int .i64 y.dim.f)∧w.cell? ⟨b,17,none⟩=some (.int .i64 y.dim.g))∧(∀ i,w.frozen? ⟨b,i,none⟩=false)∧b<w.heap.size:=by
 unfold K18 at h;refine ⟨⟨?_,?_,?_,?_,?_,?_,?_,?_,?_,?_,?_,?_,?_,?_,?_,?_,?_,?_⟩,fun i=>?_,(Array.getElem?_eq_some_iff.1 h).1⟩<;>simp [World.cell?,World.frozen?,h]
theorem st18_0 {w:World}{b:Nat}{t:TypeId}{x0 x1 x2 x3 x4 x5 x6 x7 x8 x9 x10 x11 x12 x13 x14 x15 x16 x17:Value}(h:w.heap[b]?=some (.cells #[x0,x1,x2,x3,x4,x5,x6,x7,x8,x9,x10,x11,x12,x13,x14,x15,x16,x17] t (0,0))) (u:Value):(w.setCell ⟨b,0,none⟩ u).heap[b]?=some (.cells #[u,x1,x2,x3,x4,x5,x6,x7,x8,x9,x10,x11,x12,x13,x14,x15,x16,x17] t (0,0)):=by
 show (w.heap.modify b _)[b]?=_
 rw [Array.getElem?_modify,if_pos rfl,h];rfl
theorem st18_1 {w:World}{b:Nat}{t:TypeId}{x0 x1 x2 x3 x4 x5 x6 x7 x8 x9 x10 x11 x12 x13 x14 x15 x16 x17:Value}(h:w.heap[b]?=some (.cells #[x0,x1,x2,x3,x4,x5,x6,x7,x8,x9,x10,x11,x12,x13,x14,x15,x16,x17] t (0,0))) (u:Value):(w.setCell ⟨b,1,none⟩ u).heap[b]?=some (.cells #[x0,u,x2,x3,x4,x5,x6,x7,x8,x9,x10,x11,x12,x13,x14,x15,x16,x17] t (0,0)):=by
 show (w.heap.modify b _)[b]?=_
 rw [Array.getElem?_modify,if_pos rfl,h];rfl
theorem st18_2 {w:World}{b:Nat}{t:TypeId}{x0 x1 x2 x3 x4 x5 x6 x7 x8 x9 x10 x11 x12 x13 x14 x15 x16 x17:Value}(h:w.heap[b]?=some (.cells #[x0,x1,x2,x3,x4,x5,x6,x7,x8,x9,x10,x11,x12,x13,x14,x15,x16,x17] t (0,0))) (u:Value):(w.setCell ⟨b,2,none⟩ u).heap[b]?=some (.cells #[x0,x1,u,x3,x4,x5,x6,x7,x8,x9,x10,x11,x12,x13,x14,x15,x16,x17] t (0,0)):=by
 show (w.heap.modify b _)[b]?=_
 rw [Array.getElem?_modify,if_pos rfl,h];rfl
theorem st18_3 {w:World}{b:Nat}{t:TypeId}{x0 x1 x2 x3 x4 x5 x6 x7 x8 x9 x10 x11 x12 x13 x14 x15 x16 x17:Value}(h:w.heap[b]?=some (.cells #[x0,x1,x2,x3,x4,x5,x6,x7,x8,x9,x10,x11,x12,x13,x14,x15,x16,x17] t (0,0))) (u:Value):(w.setCell ⟨b,3,none⟩ u).heap[b]?=some (.cells #[x0,x1,x2,u,x4,x5,x6,x7,x8,x9,x10,x11,x12,x13,x14,x15,x16,x17] t (0,0)):=by
 show (w.heap.modify b _)[b]?=_
 rw [Array.getElem?_modify,if_pos rfl,h];rfl
theorem st18_4 {w:World}{b:Nat}{t:TypeId}{x0 x1 x2 x3 x4 x5 x6 x7 x8 x9 x10 x11 x12 x13 x14 x15 x16 x17:Value}(h:w.heap[b]?=some (.cells #[x0,x1,x2,x3,x4,x5,x6,x7,x8,x9,x10,x11,x12,x13,x14,x15,x16,x17] t (0,0))) (u:Value):(w.setCell ⟨b,4,none⟩ u).heap[b]?=some (.cells #[x0,x1,x2,x3,u,x5,x6,x7,x8,x9,x10,x11,x12,x13,x14,x15,x16,x17] t (0,0)):=by
 show (w.heap.modify b _)[b]?=_
 rw [Array.getElem?_modify,if_pos rfl,h];rfl
theorem st18_5 {w:World}{b:Nat}{t:TypeId}{x0 x1 x2 x3 x4 x5 x6 x7 x8 x9 x10 x11 x12 x13 x14 x15 x16 x17:Value}(h:w.heap[b]?=some (.cells #[x0,x1,x2,x3,x4,x5,x6,x7,x8,x9,x10,x11,x12,x13,x14,x15,x16,x17] t (0,0))) (u:Value):(w.setCell ⟨b,5,none⟩ u).heap[b]?=some (.cells #[x0,x1,x2,x3,x4,u,x6,x7,x8,x9,x10,x11,x12,x13,x14,x15,x16,x17] t (0,0)):=by
 show (w.heap.modify b _)[b]?=_
 rw [Array.getElem?_modify,if_pos rfl,h];rfl
theorem st18_6 {w:World}{b:Nat}{t:TypeId}{x0 x1 x2 x3 x4 x5 x6 x7 x8 x9 x10 x11 x12 x13 x14 x15 x16 x17:Value}(h:w.heap[b]?=some (.cells #[x0,x1,x2,x3,x4,x5,x6,x7,x8,x9,x10,x11,x12,x13,x14,x15,x16,x17] t (0,0))) (u:Value):(w.setCell ⟨b,6,none⟩ u).heap[b]?=some (.cells #[x0,x1,x2,x3,x4,x5,u,x7,x8,x9,x10,x11,x12,x13,x14,x15,x16,x17] t (0,0)):=by
 show (w.heap.modify b _)[b]?=_
 rw [Array.getElem?_modify,if_pos rfl,h];rfl
theorem st18_7 {w:World}{b:Nat}{t:TypeId}{x0 x1 x2 x3 x4 x5 x6 x7 x8 x9 x10 x11 x12 x13 x14 x15 x16 x17:Value}(h:w.heap[b]?=some (.cells #[x0,x1,x2,x3,x4,x5,x6,x7,x8,x9,x10,x11,x12,x13,x14,x15,x16,x17] t (0,0))) (u:Value):(w.setCell ⟨b,7,none⟩ u).heap[b]?=some (.cells #[x0,x1,x2,x3,x4,x5,x6,u,x8,x9,x10,x11,x12,x13,x14,x15,x16,x17] t (0,0)):=by
 show (w.heap.modify b _)[b]?=_
 rw [Array.getElem?_modify,if_pos rfl,h];rfl
theorem st18_8 {w:World}{b:Nat}{t:TypeId}{x0 x1 x2 x3 x4 x5 x6 x7 x8 x9 x10 x11 x12 x13 x14 x15 x16 x17:Value}(h:w.heap[b]?=some (.cells #[x0,x1,x2,x3,x4,x5,x6,x7,x8,x9,x10,x11,x12,x13,x14,x15,x16,x17] t (0,0))) (u:Value):(w.setCell ⟨b,8,none⟩ u).heap[b]?=some (.cells #[x0,x1,x2,x3,x4,x5,x6,x7,u,x9,x10,x11,x12,x13,x14,x15,x16,x17] t (0,0)):=by
 show (w.heap.modify b _)[b]?=_
 rw [Array.getElem?_modify,if_pos rfl,h];rfl
theorem st18_9 {w:World}{b:Nat}{t:TypeId}{x0 x1 x2 x3 x4 x5 x6 x7 x8 x9 x10 x11 x12 x13 x14 x15 x16 x17:Value}(h:w.heap[b]?=some (.cells #[x0,x1,x2,x3,x4,x5,x6,x7,x8,x9,x10,x11,x12,x13,x14,x15,x16,x17] t (0,0))) (u:Value):(w.setCell ⟨b,9,none⟩ u).heap[b]?=some (.cells #[x0,x1,x2,x3,x4,x5,x6,x7,x8,u,x10,x11,x12,x13,x14,x15,x16,x17] t (0,0)):=by
 show (w.heap.modify b _)[b]?=_
 rw [Array.getElem?_modify,if_pos rfl,h];rfl
theorem st18_10 {w:World}{b:Nat}{t:TypeId}{x0 x1 x2 x3 x4 x5 x6 x7 x8 x9 x10 x11 x12 x13 x14 x15 x16 x17:Value}(h:w.heap[b]?=some (.cells #[x0,x1,x2,x3,x4,x5,x6,x7,x8,x9,x10,x11,x12,x13,x14,x15,x16,x17] t (0,0))) (u:Value):(w.setCell ⟨b,10,none⟩ u).heap[b]?=some (.cells #[x0,x1,x2,x3,x4,x5,x6,x7,x8,x9,u,x11,x12,x13,x14,x15,x16,x17] t (0,0)):=by
 show (w.heap.modify b _)[b]?=_
 rw [Array.getElem?_modify,if_pos rfl,h];rfl
theorem st18_11 {w:World}{b:Nat}{t:TypeId}{x0 x1 x2 x3 x4 x5 x6 x7 x8 x9 x10 x11 x12 x13 x14 x15 x16 x17:Value}(h:w.heap[b]?=some (.cells #[x0,x1,x2,x3,x4,x5,x6,x7,x8,x9,x10,x11,x12,x13,x14,x15,x16,x17] t (0,0))) (u:Value):(w.setCell ⟨b,11,none⟩ u).heap[b]?=some (.cells #[x0,x1,x2,x3,x4,x5,x6,x7,x8,x9,x10,u,x12,x13,x14,x15,x16,x17] t (0,0)):=by
 show (w.heap.modify b _)[b]?=_
 rw [Array.getElem?_modify,if_pos rfl,h];rfl
theorem st18_12 {w:World}{b:Nat}{t:TypeId}{x0 x1 x2 x3 x4 x5 x6 x7 x8 x9 x10 x11 x12 x13 x14 x15 x16 x17:Value}(h:w.heap[b]?=some (.cells #[x0,x1,x2,x3,x4,x5,x6,x7,x8,x9,x10,x11,x12,x13,x14,x15,x16,x17] t (0,0))) (u:Value):(w.setCell ⟨b,12,none⟩ u).heap[b]?=some (.cells #[x0,x1,x2,x3,x4,x5,x6,x7,x8,x9,x10,x11,u,x13,x14,x15,x16,x17] t (0,0)):=by
 show (w.heap.modify b _)[b]?=_
 rw [Array.getElem?_modify,if_pos rfl,h];rfl
theorem st18_13 {w:World}{b:Nat}{t:TypeId}{x0 x1 x2 x3 x4 x5 x6 x7 x8 x9 x10 x11 x12 x13 x14 x15 x16 x17:Value}(h:w.heap[b]?=some (.cells #[x0,x1,x2,x3,x4,x5,x6,x7,x8,x9,x10,x11,x12,x13,x14,x15,x16,x17] t (0,0))) (u:Value):(w.setCell ⟨b,13,none⟩ u).heap[b]?=some (.cells #[x0,x1,x2,x3,x4,x5,x6,x7,x8,x9,x10,x11,x12,u,x14,x15,x16,x17] t (0,0)):=by
 show (w.heap.modify b _)[b]?=_
 rw [Array.getElem?_modify,if_pos rfl,h];rfl
theorem st18_14 {w:World}{b:Nat}{t:TypeId}{x0 x1 x2 x3 x4 x5 x6 x7 x8 x9 x10 x11 x12 x13 x14 x15 x16 x17:Value}(h:w.heap[b]?=some (.cells #[x0,x1,x2,x3,x4,x5,x6,x7,x8,x9,x10,x11,x12,x13,x14,x15,x16,x17] t (0,0))) (u:Value):(w.setCell ⟨b,14,none⟩ u).heap[b]?=some (.cells #[x0,x1,x2,x3,x4,x5,x6,x7,x8,x9,x10,x11,x12,x13,u,x15,x16,x17] t (0,0)):=by
 show (w.heap.modify b _)[b]?=_
 rw [Array.getElem?_modify,if_pos rfl,h];rfl
theorem st18_15 {w:World}{b:Nat}{t:TypeId}{x0 x1 x2 x3 x4 x5 x6 x7 x8 x9 x10 x11 x12 x13 x14 x15 x16 x17:Value}(h:w.heap[b]?=some (.cells #[x0,x1,x2,x3,x4,x5,x6,x7,x8,x9,x10,x11,x12,x13,x14,x15,x16,x17] t (0,0))) (u:Value):(w.setCell ⟨b,15,none⟩ u).heap[b]?=some (.cells #[x0,x1,x2,x3,x4,x5,x6,x7,x8,x9,x10,x11,x12,x13,x14,u,x16,x17] t (0,0)):=by
 show (w.heap.modify b _)[b]?=_
 rw [Array.getElem?_modify,if_pos rfl,h];rfl
theorem st18_16 {w:World}{b:Nat}{t:TypeId}{x0 x1 x2 x3 x4 x5 x6 x7 x8 x9 x10 x11 x12 x13 x14 x15 x16 x17:Value}(h:w.heap[b]?=some (.cells #[x0,x1,x2,x3,x4,x5,x6,x7,x8,x9,x10,x11,x12,x13,x14,x15,x16,x17] t (0,0))) (u:Value):(w.setCell ⟨b,16,none⟩ u).heap[b]?=some (.cells #[x0,x1,x2,x3,x4,x5,x6,x7,x8,x9,x10,x11,x12,x13,x14,x15,u,x17] t (0,0)):=by
 show (w.heap.modify b _)[b]?=_
 rw [Array.getElem?_modify,if_pos rfl,h];rfl
theorem st18_17 {w:World}{b:Nat}{t:TypeId}{x0 x1 x2 x3 x4 x5 x6 x7 x8 x9 x10 x11 x12 x13 x14 x15 x16 x17:Value}(h:w.heap[b]?=some (.cells #[x0,x1,x2,x3,x4,x5,x6,x7,x8,x9,x10,x11,x12,x13,x14,x15,x16,x17] t (0,0))) (u:Value):(w.setCell ⟨b,17,none⟩ u).heap[b]?=some (.cells #[x0,x1,x2,x3,x4,x5,x6,x7,x8,x9,x10,x11,x12,x13,x14,x15,x16,u] t (0,0)):=by
 show (w.heap.modify b _)[b]?=_
 rw [Array.getElem?_modify,if_pos rfl,h];rfl
def set9a (w:World) (b:Nat)(v:V):World:=(((((((((w.setCell ⟨b,0,none⟩ (.int .i64 v.num)).setCell ⟨b,1,none⟩ (.int .i64 v.den)).setCell ⟨b,2,none⟩ (.int .i64 v.dim.a)).setCell ⟨b,3,none⟩ (.int .i64 v.dim.b)).setCell ⟨b,4,none⟩ (.int .i64 v.dim.c)).setCell ⟨b,5,none⟩ (.int .i64 v.dim.d)).setCell ⟨b,6,none⟩ (.int .i64 v.dim.e)).setCell ⟨b,7,none⟩ (.int .i64 v.dim.f)).setCell ⟨b,8,none⟩ (.int .i64 v.dim.g))
def set9b (w:World) (b:Nat)(v:V):World:=(((((((((w.setCell ⟨b,9,none⟩ (.int .i64 v.num)).setCell ⟨b,10,none⟩ (.int .i64 v.den)).setCell ⟨b,11,none⟩ (.int .i64 v.dim.a)).setCell ⟨b,12,none⟩ (.int .i64 v.dim.b)).setCell ⟨b,13,none⟩ (.int .i64 v.dim.c)).setCell ⟨b,14,none⟩ (.int .i64 v.dim.d)).setCell ⟨b,15,none⟩ (.int .i64 v.dim.e)).setCell ⟨b,16,none⟩ (.int .i64 v.dim.f)).setCell ⟨b,17,none⟩ (.int .i64 v.dim.g))
theorem K18.fst {w:World}{b:Nat}{x y:V}(h:K18 w b x y)(v:V):K18 (set9a w b v) b v y:=(st18_8 (st18_7 (st18_6 (st18_5 (st18_4 (st18_3 (st18_2 (st18_1 (st18_0 h _) _) _) _) _) _) _) _) _)
theorem K18.snd {w:World}{b:Nat}{x y:V}(h:K18 w b x y)(v:V):K18 (set9b w b v) b x v:=(st18_17 (st18_16 (st18_15 (st18_14 (st18_13 (st18_12 (st18_11 (st18_10 (st18_9 h _) _) _) _) _) _) _) _) _)
theorem set9a_other (w:World) (b:Nat)(v:V) (k:Nat)(h:k≠b):(set9a w b v).heap[k]?=w.heap[k]?:=by
 unfold set9a;rw [Below.heap_setCell _ ⟨b,8,none⟩ _ k h,Below.heap_setCell _ ⟨b,7,none⟩ _ k h,Below.heap_setCell _ ⟨b,6,none⟩ _ k h,Below.heap_setCell _ ⟨b,5,none⟩ _ k h,Below.heap_setCell _ ⟨b,4,none⟩ _ k h,Below.heap_setCell _ ⟨b,3,none⟩ _ k h,Below.heap_setCell _ ⟨b,2,none⟩ _ k h,Below.heap_setCell _ ⟨b,1,none⟩ _ k h,Below.heap_setCell _ ⟨b,0,none⟩ _ k h]
theorem set9b_other (w:World) (b:Nat)(v:V) (k:Nat)(h:k≠b):(set9b w b v).heap[k]?=w.heap[k]?:=by
 unfold set9b;rw [Below.heap_setCell _ ⟨b,17,none⟩ _ k h,Below.heap_setCell _ ⟨b,16,none⟩ _ k h,Below.heap_setCell _ ⟨b,15,none⟩ _ k h,Below.heap_setCell _ ⟨b,14,none⟩ _ k h,Below.heap_setCell _ ⟨b,13,none⟩ _ k h,Below.heap_setCell _ ⟨b,12,none⟩ _ k h,Below.heap_setCell _ ⟨b,11,none⟩ _ k h,Below.heap_setCell _ ⟨b,10,none⟩ _ k h,Below.heap_setCell _ ⟨b,9,none⟩ _ k h]
theorem set9a_below (w:World) (b:Nat)(v:V):Below 0 w (set9a w b v):=((((((((((Below.refl 0 w).setCell (p:=⟨b,0,none⟩) (Nat.zero_le _) _).setCell (p:=⟨b,1,none⟩) (Nat.zero_le _) _).setCell (p:=⟨b,2,none⟩) (Nat.zero_le _) _).setCell (p:=⟨b,3,none⟩) (Nat.zero_le _) _).setCell (p:=⟨b,4,none⟩) (Nat.zero_le _) _).setCell (p:=⟨b,5,none⟩) (Nat.zero_le _) _).setCell (p:=⟨b,6,none⟩) (Nat.zero_le _) _).setCell (p:=⟨b,7,none⟩) (Nat.zero_le _) _).setCell (p:=⟨b,8,none⟩) (Nat.zero_le _) _)
theorem set9b_below (w:World) (b:Nat)(v:V):Below 0 w (set9b w b v):=((((((((((Below.refl 0 w).setCell (p:=⟨b,9,none⟩) (Nat.zero_le _) _).setCell (p:=⟨b,10,none⟩) (Nat.zero_le _) _).setCell (p:=⟨b,11,none⟩) (Nat.zero_le _) _).setCell (p:=⟨b,12,none⟩) (Nat.zero_le _) _).setCell (p:=⟨b,13,none⟩) (Nat.zero_le _) _).setCell (p:=⟨b,14,none⟩) (Nat.zero_le _) _).setCell (p:=⟨b,15,none⟩) (Nat.zero_le _) _).setCell (p:=⟨b,16,none⟩) (Nat.zero_le _) _).setCell (p:=⟨b,17,none⟩) (Nat.zero_le _) _)
def limsG (a:(R × List V) × Nat):Int × Int × R:=
 if a.1.1.e=0 then
  (match a.1.2 with
   | [x,y]=>if (limE x y).e=0 then (x.num,y.num,zR)else (0,0,limE x y)
   | _=>(0,0,erR 1))
 else (0,0,a.1.1)
theorem limsG_two (x y:V) (c:Nat):limsG ((okR zV,[x,y]),c)=if (limE x y).e=0 then (x.num,y.num,zR)else (0,0,limE x y):=rfl
theorem gr_dr {w w1:World}{r:Option Nat}(h:w.grownBy w1 r):w.grownBy w1.drew r:=⟨h.os,h.tape,h.output,h.size,h.block⟩
theorem EB.dr {w:World}{xb nb ob c:Nat}(h:EB w xb nb ob c):EB w.drew xb nb ob c:=h
theorem BO.dr {w:World}{B:Nat}{v:Value}{l:List Int}(h:BO w B v l):BO w.drew B v l:=h
structure LJ (w wr:World)(xb nb ob B0 B1:Nat)(E s:Sc) (p:Value)(b o m12:Nat)(O:Obj)(A:Option Addr) (ca:Nat)(ys:List T) (c:Nat):Prop where
 cx:Cx wr xb nb ob B0 E c
 sc:SCP wr (SS w xb) s p
 k6:K11 wr w.heap.size zR (.slice none 0 0)
 ko:wr.heap[m12]?=some O
 d3:wr.cell? ⟨b,o+3,none⟩=some (.slice A ys.length ca)
 ta:TA wr B0 A ys
 gr:w.grownBy wr (some xb)
 nm:m12≠xb
 nb':b≠xb
 lo:nb<w.heap.size∧ob<w.heap.size∧xb<w.heap.size∧b<w.heap.size∧m12<B1∧w.heap.size<B1∧B1≤wr.heap.size
theorem LJ.scw {w wr:World}{xb nb ob B0 B1:Nat}{E s:Sc}{p:Value}{b o m12:Nat}{O:Obj}{A:Option Addr}{ca:Nat}{ys:List T}{c:Nat}(h:LJ w wr xb nb ob B0 B1 E s p b o m12 O A ca ys c):SCP wr (SS wr xb) s p:=
 h.sc.keep fun _ hk=>⟨⟨hk.1,Nat.lt_of_lt_of_le hk.2 h.gr.size⟩,rfl⟩
theorem LJ.blocks {w wr w':World}{xb nb ob B0 B1:Nat}{E s:Sc}{p:Value}{b o m12:Nat}{O:Obj}{A:Option Addr}{ca:Nat}{ys:List T}{c c':Nat}(h:LJ w wr xb nb ob B0 B1 E s p b o m12 O A ca ys c)(h1:w'.os=wr.os)(h2:w'.tape=wr.tape)(h3:w'.output=wr.output)(h4:wr.heap.size≤w'.heap.size)(hk:∀ k,k<B1→k≠xb→w'.heap[k]?=wr.heap[k]?)(he:EB w' xb nb ob c'):LJ w w' xb nb ob B0 B1 E s p b o m12 O A ca ys c' where
 cx:=⟨he,h.cx.env.block (hk nb (by have:=h.lo; omega) h.cx.hn),own_block h.cx.opm (hk ob (by have:=h.lo; omega) h.cx.ho),h.cx.hB,h.cx.hn,h.cx.ho,by
  obtain ⟨m,hm⟩:=h.cx.mx.cell
  have e1:=h.cx.hB
  have e2:=h.cx.h0
  have e3:=h.lo
  exact ⟨m,(cell_of_block (hk 0 (by omega) (by omega)) 0).trans hm⟩,h.cx.h0⟩
 sc:=h.sc.keep fun k hk2=>⟨hk2,hk k (by have:=h.lo; have:=hk2.2; omega) hk2.1⟩
 k6:=(hk _ (by have:=h.lo; omega) (by have:=h.lo; omega)).trans h.k6
 ko:=(hk _ (by have:=h.lo; omega) h.nm).trans h.ko
 d3:=(cell_of_block (hk _ (by have:=h.lo; omega) h.nb') _).trans h.d3
 ta:=fun hne=>by
  obtain ⟨b',o',e,h5⟩:=h.ta hne
  refine ⟨b',o',e,h5.below ⟨h1,h2,h3,h4,fun k hkk=>hk k ?_ ?_⟩⟩
  ·have:=h.lo; have:=h.cx.hB; omega
  ·have:=h.cx.hB; omega
 gr:=⟨h1.trans h.gr.os,h2.trans h.gr.tape,h3.trans h.gr.output,Nat.le_trans h.gr.size h4,fun k hkk hne=>(hk k (by have:=h.lo; omega) (fun e=>hne (by rw [e]))).trans (h.gr.block k hkk hne)⟩
 nm:=h.nm
 nb':=h.nb'
 lo:=⟨h.lo.1,h.lo.2.1,h.lo.2.2.1,h.lo.2.2.2.1,h.lo.2.2.2.2.1,h.lo.2.2.2.2.2.1,Nat.le_trans h.lo.2.2.2.2.2.2 h4⟩
theorem LJ.step {w wr w':World}{xb nb ob B0 B1:Nat}{E s:Sc}{p:Value}{b o m12:Nat}{O:Obj}{A:Option Addr}{ca:Nat}{ys:List T}{c c':Nat}(h:LJ w wr xb nb ob B0 B1 E s p b o m12 O A ca ys c)(hg:wr.grownBy w' (some xb))(he:EB w' xb nb ob c'):LJ w w' xb nb ob B0 B1 E s p b o m12 O A ca ys c':=
 h.blocks hg.os hg.tape hg.output hg.size (fun k hk hne=>hg.block k (by have:=h.lo; omega) (fun e=>hne (Option.some.inj e))) he
theorem LJ.reach {w wr w':World}{xb nb ob B0 B1:Nat}{E s:Sc}{p:Value}{b o m12:Nat}{O:Obj}{A:Option Addr}{ca:Nat}{ys:List T}{c:Nat}(h:LJ w wr xb nb ob B0 B1 E s p b o m12 O A ca ys c)(hb:Below wr.heap.size wr w'):LJ w w' xb nb ob B0 B1 E s p b o m12 O A ca ys c:=
 h.step (grown_of_below hb _) ((hb.block xb h.cx.xlt).trans h.cx.eb)
theorem LJ.put {w wr w':World}{xb nb ob B0 B1:Nat}{E s:Sc}{p:Value}{b o m12:Nat}{O O':Obj}{A:Option Addr}{ca:Nat}{ys:List T}{c:Nat}(h:LJ w wr xb nb ob B0 B1 E s p b o m12 O A ca ys c)(hm:w.heap.size<m12)(hb:Below 0 wr w')(ho:∀ k,k≠m12→w'.heap[k]?=wr.heap[k]?)(hO:w'.heap[m12]?=some O'):LJ w w' xb nb ob B0 B1 E s p b o m12 O' A ca ys c:=
 ⟨⟨(ho xb h.nm.symm).trans h.cx.eb,h.cx.env.block (ho nb (by have:=h.lo; omega)),own_block h.cx.opm (ho ob (by have:=h.lo; omega)),h.cx.hB,h.cx.hn,h.cx.ho,(by
  obtain ⟨m,hmm⟩:=h.cx.mx.cell
  exact ⟨m,(cell_of_block (ho 0 (by omega)) 0).trans hmm⟩),h.cx.h0⟩,h.sc.keep (fun k hk2=>⟨hk2,ho k (by have:=hk2.2; omega)⟩),(ho _ (by omega)).trans h.k6,hO,(cell_of_block (ho _ (by have:=h.lo; omega)) _).trans h.d3,(fun hne=>by
  obtain ⟨b',o',e,h5⟩:=h.ta hne
  refine ⟨b',o',e,h5.below ⟨hb.os,hb.tape,hb.output,hb.size,fun k hkk=>ho k ?_⟩⟩
  have:=h.lo; have:=h.cx.hB; omega),⟨hb.os.trans h.gr.os,hb.tape.trans h.gr.tape,hb.output.trans h.gr.output,Nat.le_trans h.gr.size hb.size,fun k hkk hne=>(ho k (by omega)).trans (h.gr.block k hkk hne)⟩,h.nm,h.nb',⟨h.lo.1,h.lo.2.1,h.lo.2.2.1,h.lo.2.2.2.1,h.lo.2.2.2.2.1,h.lo.2.2.2.2.2.1,Nat.le_trans h.lo.2.2.2.2.2.2 hb.size⟩⟩
set_option maxRecDepth 100000 in
set_option maxHeartbeats 8000000 in
theorem limits_any {xb nb ob B0:Nat}{E:Sc}{N:Nat}(IH:TermC xb nb ob B0 E N)(t:T)(hz:t.size≤N+1)(hw:WF t)(ta tb tc:T)(hk:t.args=[ta,tb,tc])(hN:N≤2000)(s:Sc) (p:Value)(c b o:Nat)(w:World)(hc:c≤2000)(hok:(s++E).ok)(ht:TR w B0 b o t)(hx:Cx w xb nb ob B0 E c)(hs:SCP w (SS w xb) s p):
  Calls Tryz.prog 132 #[.pointer (some ⟨xb,0,none⟩),.pointer (some ⟨b,o,none⟩),p] w fun e w'=>∃ q,e=.returned (.tuple #[.int .i64 (limsG (argsG 0 [ev ta (s++E),ev tb (s++E)] c [])).1,.int .i64 (limsG (argsG 0 [ev ta (s++E),ev tb (s++E)] c [])).2.1,.agg ((limsG (argsG 0 [ev ta (s++E),ev tb (s++E)] c [])).2.2.cells q)])∧
   BO w' w.heap.size q (limsG (argsG 0 [ev ta (s++E),ev tb (s++E)] c [])).2.2.path∧w.grownBy w' (some xb)∧EB w' xb nb ob (argsG 0 [ev ta (s++E),ev tb (s++E)] c []).2:=by
 obtain ⟨hb,d0,d1,d2,d4,A,ca,d3,hca,hta⟩:=ht.parts
 have hbx:b≠xb:=by have:=hx.hB; omega
 have hbw:b<w.heap.size:=by have:=hx.hB; have:=hx.xlt; omega
 have hb2:=b2 w (.cells #[.int .i64 0,.int .i64 0,.int .i64 0,.int .i64 0,.int .i64 0,.int .i64 0,.int .i64 0,.int .i64 0,.int .i64 0,.slice none 0 0,.int .i64 0] 86) (.cells #[.int .i64 0,.int .i64 0,.int .i64 0,.int .i64 0,.int .i64 0,.int .i64 0,.int .i64 0,.int .i64 0,.int .i64 0,.int .i64 0,.int .i64 0,.int .i64 0,.int .i64 0,.int .i64 0,.int .i64 0,.int .i64 0,.int .i64 0,.int .i64 0] 210)
 have HB:=hid hb2
 have hk6:K11 ((w.alloc (.cells #[.int .i64 0,.int .i64 0,.int .i64 0,.int .i64 0,.int .i64 0,.int .i64 0,.int .i64 0,.int .i64 0,.int .i64 0,.slice none 0 0,.int .i64 0] 86)).alloc (.cells #[.int .i64 0,.int .i64 0,.int .i64 0,.int .i64 0,.int .i64 0,.int .i64 0,.int .i64 0,.int .i64 0,.int .i64 0,.int .i64 0,.int .i64 0,.int .i64 0,.int .i64 0,.int .i64 0,.int .i64 0,.int .i64 0,.int .i64 0,.int .i64 0] 210)) w.heap.size zR (.slice none 0 0):=(K11.zero w).reach (b1 _ _)
 have hk18:K18 ((w.alloc (.cells #[.int .i64 0,.int .i64 0,.int .i64 0,.int .i64 0,.int .i64 0,.int .i64 0,.int .i64 0,.int .i64 0,.int .i64 0,.slice none 0 0,.int .i64 0] 86)).alloc (.cells #[.int .i64 0,.int .i64 0,.int .i64 0,.int .i64 0,.int .i64 0,.int .i64 0,.int .i64 0,.int .i64 0,.int .i64 0,.int .i64 0,.int .i64 0,.int .i64 0,.int .i64 0,.int .i64 0,.int .i64 0,.int .i64 0,.int .i64 0,.int .i64 0] 210)) (w.heap.size+1) zV zV:=by
  have:((w.alloc (.cells #[.int .i64 0,.int .i64 0,.int .i64 0,.int .i64 0,.int .i64 0,.int .i64 0,.int .i64 0,.int .i64 0,.int .i64 0,.slice none 0 0,.int .i64 0] 86)).alloc (.cells #[.int .i64 0,.int .i64 0,.int .i64 0,.int .i64 0,.int .i64 0,.int .i64 0,.int .i64 0,.int .i64 0,.int .i64 0,.int .i64 0,.int .i64 0,.int .i64 0,.int .i64 0,.int .i64 0,.int .i64 0,.int .i64 0,.int .i64 0,.int .i64 0] 210)).heap[(w.alloc (.cells #[.int .i64 0,.int .i64 0,.int .i64 0,.int .i64 0,.int .i64 0,.int .i64 0,.int .i64 0,.int .i64 0,.int .i64 0,.slice none 0 0,.int .i64 0] 86)).heap.size]?=_:=heap_alloc_new _ _
  rw [World.size_alloc]at this
  exact this
 have hsz:((w.alloc (.cells #[.int .i64 0,.int .i64 0,.int .i64 0,.int .i64 0,.int .i64 0,.int .i64 0,.int .i64 0,.int .i64 0,.int .i64 0,.slice none 0 0,.int .i64 0] 86)).alloc (.cells #[.int .i64 0,.int .i64 0,.int .i64 0,.int .i64 0,.int .i64 0,.int .i64 0,.int .i64 0,.int .i64 0,.int .i64 0,.int .i64 0,.int .i64 0,.int .i64 0,.int .i64 0,.int .i64 0,.int .i64 0,.int .i64 0,.int .i64 0,.int .i64 0] 210)).heap.size=w.heap.size+2:=by simp
 have hli:LJ w ((w.alloc (.cells #[.int .i64 0,.int .i64 0,.int .i64 0,.int .i64 0,.int .i64 0,.int .i64 0,.int .i64 0,.int .i64 0,.int .i64 0,.slice none 0 0,.int .i64 0] 86)).alloc (.cells #[.int .i64 0,.int .i64 0,.int .i64 0,.int .i64 0,.int .i64 0,.int .i64 0,.int .i64 0,.int .i64 0,.int .i64 0,.int .i64 0,.int .i64 0,.int .i64 0,.int .i64 0,.int .i64 0,.int .i64 0,.int .i64 0,.int .i64 0,.int .i64 0] 210)) xb nb ob B0 (w.heap.size+2) E s p b o (w.heap.size+1) (O18 zV zV) A ca t.args c:=
  ⟨hx.reach hb2,hs.keep (fun k hk=>⟨hk,hb2.block k hk.2⟩),hk6,hk18,(hb2.cell (p:=⟨b,o+3,none⟩) hbw).trans d3,(fun hne=>by
   obtain ⟨b',o',e,h⟩:=hta hne
   exact ⟨b',o',e,h.below (hx.term (grown_of_below hb2 _))⟩),grown_of_below hb2 _,by have:=hx.xlt; omega,hbx,⟨hx.nlt,hx.olt,hx.xlt,hbw,by omega,by omega,by rw [hsz]; exact Nat.le_refl _⟩⟩
 have HLJ:=hid hli
 have HIH:Hid (∀ u∈t.args,u.size≤N∧WF u):=fun u hu=>⟨size_list hz hu,hw.parts.2.mem hu⟩
 have HIO:=hid IH
 have HOK:=hid hok
 have HCC:=hid hc
 have HX0:=hid hx.xlt
 rw [hk]at HLJ HIH
 clear d0 d1 d2 d4 d3 hta hx hs ht hb hbw IH hok hc hw hz hb2 hk6 hk18 hsz hli hca hbx hk;generalize hA:argsG 0 [ev ta (s++E),ev tb (s++E)] c []=a at*;have HA:=hid hA
 clear hA;go_enter Tryz.func132,Tryz.ntmps132;go_upto_region 3 with (fail);generalize (w.alloc (.cells #[.int .i64 0,.int .i64 0,.int .i64 0,.int .i64 0,.int .i64 0,.int .i64 0,.int .i64 0,.int .i64 0,.int .i64 0,.slice none 0 0,.int .i64 0] 86)).alloc (.cells #[.int .i64 0,.int .i64 0,.int .i64 0,.int .i64 0,.int .i64 0,.int .i64 0,.int .i64 0,.int .i64 0,.int .i64 0,.int .i64 0,.int .i64 0,.int .i64 0,.int .i64 0,.int .i64 0,.int .i64 0,.int .i64 0,.int .i64 0,.int .i64 0] 210)=w1 at*
 go_loopg [10,11,16] 3 (fun gg s10 s11 s16 wr=>∃ (i:Nat)(out:List V) (ci:Nat),i≤2∧2-i<gg∧s16=.int .i64 (i:Int)∧Aside (argsG 0 [ev ta (s++E),ev tb (s++E)] c []=argsG i ([ev ta (s++E),ev tb (s++E)].drop i) ci out)∧Aside (out.length=i)∧Aside (∀ x∈out,x.ok)∧Aside (ci≤2000)∧Aside (LJ w wr xb nb ob B0 (w.heap.size+2) E s p b o (w.heap.size+1) (O18 (out.getD 0 zV) (out.getD 1 zV)) A ca [ta,tb,tc] ci))
 case atStart=>exact ⟨0,[],c,Nat.zero_le _,by omega,rfl,rfl,rfl,(fun x hx=>by cases hx),HCC.out,HLJ.out⟩
 case round=>
  obtain ⟨i,out,ci,hi,hgg,rfl,HAR,HOL,HOO,HCI,HLR⟩:=hrel
  by_cases hlt:i<2
  ·have hltz:(i:Int)<2:=by omega
   obtain ⟨b1',o1',rfl,hts⟩:=HLR.out.ta (by simp)
   rcases (show i=0∨i=1 by omega)with rfl|rfl
   ·obtain rfl:out=[]:=List.eq_nil_of_length_eq_zero HOL.out
    have htr:TR wr B0 b1' (o1') ta:=by
     have h1:=hts.at_ 0 ta rfl
     simpa using h1
    have HT:=hid (HIO.out ta (HIH.out ta (by simp)).1 (HIH.out ta (by simp)).2 s p ci b1' (o1') wr HCI.out HOK.out htr HLR.out.cx HLR.out.scw)
    have HPL:=hid (ev_path N ta (HIH.out ta (by simp)).1 (s++E) ci)
    have HVO:=hid (ev_ok N ta (HIH.out ta (by simp)).1 (s++E) HOK.out ci)
    have HCM:=hid ((ev_mon N ta (HIH.out ta (by simp)).1 (s++E) ci).2 HCI.out)
    have HST:Hid (argsG 0 (ev ta (s++E)::[ev tb (s++E)]) ci []=if (ev ta (s++E) ci).1.e=0 then argsG (0+1) [ev tb (s++E)] (ev ta (s++E) ci).2 ([]++[(ev ta (s++E) ci).1.v])else (((ev ta (s++E) ci).1.under 0,[]),(ev ta (s++E) ci).2)):=by show _=_; rw [argsG]; rfl
    generalize ev ta (s++E) ci=gi at HT HPL HVO HCM HST;obtain ⟨r,c2⟩:=gi
    have d3:=HLR.out.d3
    clear htr hts;go_wp2_with fail;refine HT.out.mono ?_
    rintro e w4 ⟨q,rfl,hq,hg4,he4⟩
    have hu:=under_lit r q 0 w4 wr.heap.size hq hg4.size (by have h1:r.path.length≤N:=HPL.out; omega)
    have HU:=hid hu
    have HL4:=hid (HLR.out.step hg4 he4)
    have HS4:=hid hg4.size
    clear hu hq hg4 he4 d3 HT;go_wp2_with fail;refine HU.out.mono ?_
    rintro e w5 ⟨A5,c5,rfl,hq5,hb5⟩
    have HUE:=hid (under_e r 0)
    have HUV:=hid (under_v r 0)
    generalize r.under 0=ru at*;have hb6:=bl_tr hb5 (b1 w5 (.cells #[.int .i64 ru.v.num,.int .i64 ru.v.den,.int .i64 ru.v.dim.a,.int .i64 ru.v.dim.b,.int .i64 ru.v.dim.c,.int .i64 ru.v.dim.d,.int .i64 ru.v.dim.e,.int .i64 ru.v.dim.f,.int .i64 ru.v.dim.g,.slice A5 ru.path.length c5,.int .i64 ru.e] 86))
    have HL6:=hid (HL4.out.reach hb6)
    have HQ6:=hid (hq5.reach (b1 w5 (.cells #[.int .i64 ru.v.num,.int .i64 ru.v.den,.int .i64 ru.v.dim.a,.int .i64 ru.v.dim.b,.int .i64 ru.v.dim.c,.int .i64 ru.v.dim.d,.int .i64 ru.v.dim.e,.int .i64 ru.v.dim.f,.int .i64 ru.v.dim.g,.slice A5 ru.path.length c5,.int .i64 ru.e] 86)))
    have HSW6:Hid (w.heap.size+2≤wr.heap.size):=HLR.out.lo.2.2.2.2.2.2
    have HM6:Hid (K11 (w5.alloc (.cells #[.int .i64 ru.v.num,.int .i64 ru.v.den,.int .i64 ru.v.dim.a,.int .i64 ru.v.dim.b,.int .i64 ru.v.dim.c,.int .i64 ru.v.dim.d,.int .i64 ru.v.dim.e,.int .i64 ru.v.dim.f,.int .i64 ru.v.dim.g,.slice A5 ru.path.length c5,.int .i64 ru.e] 86)) w5.heap.size ru (.slice A5 ru.path.length c5)):=K11.new w5 ru (.slice A5 ru.path.length c5)
    have HN5:Hid (wr.heap.size≤w5.heap.size):=Nat.le_trans HS4.out hb5.size
    clear hb5 hb6 hq5 HU;go_upto_region 6 with (fail);generalize w5.alloc (.cells #[.int .i64 ru.v.num,.int .i64 ru.v.den,.int .i64 ru.v.dim.a,.int .i64 ru.v.dim.b,.int .i64 ru.v.dim.c,.int .i64 ru.v.dim.d,.int .i64 ru.v.dim.e,.int .i64 ru.v.dim.f,.int .i64 ru.v.dim.g,.slice A5 ru.path.length c5,.int .i64 ru.e] 86)=w6 at*;generalize w5.heap.size=m16 at*;obtain ⟨⟨m0,m1,m2,m3,m4,m5,m6,m7,m8,m9,m10⟩,_,_⟩:=HM6.out.cells
    by_cases hre:ru.e=0
    ·have heb:(ru.e != 0)=false:=by simpa using hre
     have hre2:r.e=0:=HUE.out.symm.trans hre
     have HST2:Hid (a=argsG 1 [ev tb (s++E)] c2 [ru.v]):=by
      show _=_
      rw [← HA.out];exact HAR.out.trans (HST.out.trans (by rw [if_pos hre2,HUV.out]; rfl))
     have HRO:Hid (ru.v.ok):=by show V.ok _; rw [HUV.out]; exact HVO.out hre2
     clear hre hre2 HST;have HKL:Hid (K18 w6 (w.heap.size+1) zV zV):=HL6.out.ko
     have hl7:=HL6.out.put (O':=O18 ru.v zV) (w':=set9a w6 (w.heap.size+1) ru.v) (Nat.lt_succ_self _) (set9a_below w6 (w.heap.size+1) ru.v) (set9a_other w6 (w.heap.size+1) ru.v) (HKL.out.fst ru.v)
     have HL7:=hid hl7
     clear hl7;obtain ⟨⟨l0,l1,l2,l3,l4,l5,l6,l7,l8,l9,l10,l11,l12,l13,l14,l15,l16,l17⟩,lf,_⟩:=HKL.out.cells
     go_wp2_with fail;go_roundg 2
     case measure=>omega
     case rel=>exact ⟨1,[ru.v],c2,by omega,by omega,rfl,HA.out.trans HST2.out,rfl,(fun y hy=>by rw [List.mem_singleton]at hy; subst hy; exact HRO.out),HCM.out,HL7.out⟩
    ·have heb:(ru.e != 0)=true:=by simpa using hre
     have hre2:¬ r.e=0:=fun h=>hre (HUE.out.trans h)
     have HG3:Hid (a=((ru,[]),c2)):=by
      show _=_
      rw [← HA.out];exact HAR.out.trans (HST.out.trans (by rw [if_neg hre2]))
     have HRE:=hid hre
     clear hre2 hre;obtain ⟨⟨z0,z1,z2,z3,z4,z5,z6,z7,z8,z9,z10⟩,zf,_⟩:=HL6.out.k6.cells
     have hne6:m16≠w.heap.size:=by have:=HN5.out; have:=HSW6.out; omega
     have HLG:Hid (limsG a=(0,0,ru)):=by show _=_; rw [HG3.out]; unfold limsG; rw [if_neg HRE.out]
     have HLC:Hid (a.2=c2):=by show _=_; rw [HG3.out]
     go_wp2_with fail;go_region
     all_goals
      go_wp2_with fail;rw [HLG.out,HLC.out];refine bodyPost_ret (v:=.tuple #[.int .i64 0,.int .i64 0,.agg (R.cells ru (.slice A5 ru.path.length c5))]) (by simp [results,Tryz.results132,go_sem,R.cells,z0,z1,z2,z3,z4,z5,z6,z7,z8,z9,z10]) rfl ⟨_,rfl,BO.dr (((show BO w6 (w.heap.size+1) (.slice A5 ru.path.length c5) ru.path from HQ6.out.less (Nat.le_of_succ_le HSW6.out)).set11 (Nat.lt_succ_self _) ru (.slice A5 ru.path.length c5)).less (Nat.le_succ _)),gr_dr (grown11 HL6.out.gr ru (.slice A5 ru.path.length c5)),EB.dr (eb11 ⟨HL6.out.cx.eb,HX0.out⟩ ru (.slice A5 ru.path.length c5))⟩
   ·obtain ⟨x,rfl⟩:=len1 HOL.out
    have htr:TR wr B0 b1' (o1'+5) tb:=by
     have h1:=hts.at_ 1 tb rfl
     simpa using h1
    have HT:=hid (HIO.out tb (HIH.out tb (by simp)).1 (HIH.out tb (by simp)).2 s p ci b1' (o1'+5) wr HCI.out HOK.out htr HLR.out.cx HLR.out.scw)
    have HPL:=hid (ev_path N tb (HIH.out tb (by simp)).1 (s++E) ci)
    have HVO:=hid (ev_ok N tb (HIH.out tb (by simp)).1 (s++E) HOK.out ci)
    have HCM:=hid ((ev_mon N tb (HIH.out tb (by simp)).1 (s++E) ci).2 HCI.out)
    have HST:Hid (argsG 1 (ev tb (s++E)::[]) ci [x]=if (ev tb (s++E) ci).1.e=0 then argsG (1+1) [] (ev tb (s++E) ci).2 ([x]++[(ev tb (s++E) ci).1.v])else (((ev tb (s++E) ci).1.under 1,[]),(ev tb (s++E) ci).2)):=by show _=_; rw [argsG]; rfl
    generalize ev tb (s++E) ci=gi at HT HPL HVO HCM HST;obtain ⟨r,c2⟩:=gi
    have d3:=HLR.out.d3
    clear htr hts;go_wp2_with fail;refine HT.out.mono ?_
    rintro e w4 ⟨q,rfl,hq,hg4,he4⟩
    have hu:=under_lit r q 1 w4 wr.heap.size hq hg4.size (by have h1:r.path.length≤N:=HPL.out; omega)
    have HU:=hid hu
    have HL4:=hid (HLR.out.step hg4 he4)
    have HS4:=hid hg4.size
    clear hu hq hg4 he4 d3 HT;go_wp2_with fail;refine HU.out.mono ?_
    rintro e w5 ⟨A5,c5,rfl,hq5,hb5⟩
    have HUE:=hid (under_e r 1)
    have HUV:=hid (under_v r 1)
    generalize r.under 1=ru at*;have hb6:=bl_tr hb5 (b1 w5 (.cells #[.int .i64 ru.v.num,.int .i64 ru.v.den,.int .i64 ru.v.dim.a,.int .i64 ru.v.dim.b,.int .i64 ru.v.dim.c,.int .i64 ru.v.dim.d,.int .i64 ru.v.dim.e,.int .i64 ru.v.dim.f,.int .i64 ru.v.dim.g,.slice A5 ru.path.length c5,.int .i64 ru.e] 86))
    have HL6:=hid (HL4.out.reach hb6)
    have HQ6:=hid (hq5.reach (b1 w5 (.cells #[.int .i64 ru.v.num,.int .i64 ru.v.den,.int .i64 ru.v.dim.a,.int .i64 ru.v.dim.b,.int .i64 ru.v.dim.c,.int .i64 ru.v.dim.d,.int .i64 ru.v.dim.e,.int .i64 ru.v.dim.f,.int .i64 ru.v.dim.g,.slice A5 ru.path.length c5,.int .i64 ru.e] 86)))
    have HSW6:Hid (w.heap.size+2≤wr.heap.size):=HLR.out.lo.2.2.2.2.2.2
    have HM6:Hid (K11 (w5.alloc (.cells #[.int .i64 ru.v.num,.int .i64 ru.v.den,.int .i64 ru.v.dim.a,.int .i64 ru.v.dim.b,.int .i64 ru.v.dim.c,.int .i64 ru.v.dim.d,.int .i64 ru.v.dim.e,.int .i64 ru.v.dim.f,.int .i64 ru.v.dim.g,.slice A5 ru.path.length c5,.int .i64 ru.e] 86)) w5.heap.size ru (.slice A5 ru.path.length c5)):=K11.new w5 ru (.slice A5 ru.path.length c5)
    have HN5:Hid (wr.heap.size≤w5.heap.size):=Nat.le_trans HS4.out hb5.size
    clear hb5 hb6 hq5 HU;go_upto_region 6 with (fail);generalize w5.alloc (.cells #[.int .i64 ru.v.num,.int .i64 ru.v.den,.int .i64 ru.v.dim.a,.int .i64 ru.v.dim.b,.int .i64 ru.v.dim.c,.int .i64 ru.v.dim.d,.int .i64 ru.v.dim.e,.int .i64 ru.v.dim.f,.int .i64 ru.v.dim.g,.slice A5 ru.path.length c5,.int .i64 ru.e] 86)=w6 at*;generalize w5.heap.size=m16 at*;obtain ⟨⟨m0,m1,m2,m3,m4,m5,m6,m7,m8,m9,m10⟩,_,_⟩:=HM6.out.cells
    by_cases hre:ru.e=0
    ·have heb:(ru.e != 0)=false:=by simpa using hre
     have hre2:r.e=0:=HUE.out.symm.trans hre
     have HST2:Hid (a=argsG 2 [] c2 [x,ru.v]):=by
      show _=_
      rw [← HA.out];exact HAR.out.trans (HST.out.trans (by rw [if_pos hre2,HUV.out]; rfl))
     have HRO:Hid (ru.v.ok):=by show V.ok _; rw [HUV.out]; exact HVO.out hre2
     clear hre hre2 HST;have HKL:Hid (K18 w6 (w.heap.size+1) x zV):=HL6.out.ko
     have hl7:=HL6.out.put (O':=O18 x ru.v) (w':=set9b w6 (w.heap.size+1) ru.v) (Nat.lt_succ_self _) (set9b_below w6 (w.heap.size+1) ru.v) (set9b_other w6 (w.heap.size+1) ru.v) (HKL.out.snd ru.v)
     have HL7:=hid hl7
     clear hl7;obtain ⟨⟨l0,l1,l2,l3,l4,l5,l6,l7,l8,l9,l10,l11,l12,l13,l14,l15,l16,l17⟩,lf,_⟩:=HKL.out.cells
     go_wp2_with fail;go_roundg 1
     case measure=>omega
     case rel=>exact ⟨2,[x,ru.v],c2,by omega,by omega,rfl,HA.out.trans HST2.out,rfl,(fun y hy=>by
      rcases List.mem_cons.1 hy with rfl|hy
      ·exact HOO.out _ List.mem_cons_self
      ·rw [List.mem_singleton]at hy; subst hy; exact HRO.out),HCM.out,HL7.out⟩
    ·have heb:(ru.e != 0)=true:=by simpa using hre
     have hre2:¬ r.e=0:=fun h=>hre (HUE.out.trans h)
     have HG3:Hid (a=((ru,[]),c2)):=by
      show _=_
      rw [← HA.out];exact HAR.out.trans (HST.out.trans (by rw [if_neg hre2]))
     have HRE:=hid hre
     clear hre2 hre;obtain ⟨⟨z0,z1,z2,z3,z4,z5,z6,z7,z8,z9,z10⟩,zf,_⟩:=HL6.out.k6.cells
     have hne6:m16≠w.heap.size:=by have:=HN5.out; have:=HSW6.out; omega
     have HLG:Hid (limsG a=(0,0,ru)):=by show _=_; rw [HG3.out]; unfold limsG; rw [if_neg HRE.out]
     have HLC:Hid (a.2=c2):=by show _=_; rw [HG3.out]
     go_wp2_with fail;go_region
     all_goals
      go_wp2_with fail;rw [HLG.out,HLC.out];refine bodyPost_ret (v:=.tuple #[.int .i64 0,.int .i64 0,.agg (R.cells ru (.slice A5 ru.path.length c5))]) (by simp [results,Tryz.results132,go_sem,R.cells,z0,z1,z2,z3,z4,z5,z6,z7,z8,z9,z10]) rfl ⟨_,rfl,BO.dr (((show BO w6 (w.heap.size+1) (.slice A5 ru.path.length c5) ru.path from HQ6.out.less (Nat.le_of_succ_le HSW6.out)).set11 (Nat.lt_succ_self _) ru (.slice A5 ru.path.length c5)).less (Nat.le_succ _)),gr_dr (grown11 HL6.out.gr ru (.slice A5 ru.path.length c5)),EB.dr (eb11 ⟨HL6.out.cx.eb,HX0.out⟩ ru (.slice A5 ru.path.length c5))⟩
  ·have hltz:¬ (i:Int)<2:=by omega
   obtain rfl:i=2:=by omega
   obtain ⟨x,y,rfl⟩:=len2 HOL.out
   have HG3:Hid (a=((okR zV,[x,y]),ci)):=by
    show _=_
    rw [← HA.out];exact HAR.out
   have HSW:Hid (w.heap.size+1≤w.heap.size+2):=Nat.le_succ _
   have HKL:Hid (K18 wr (w.heap.size+1) x y):=HLR.out.ko
   have x0:∀ w:World,(Instr.index 210 (.agg #[.int .i64 x.num,.int .i64 x.den,.int .i64 x.dim.a,.int .i64 x.dim.b,.int .i64 x.dim.c,.int .i64 x.dim.d,.int .i64 x.dim.e,.int .i64 x.dim.f,.int .i64 x.dim.g,.int .i64 y.num,.int .i64 y.den,.int .i64 y.dim.a,.int .i64 y.dim.b,.int .i64 y.dim.c,.int .i64 y.dim.d,.int .i64 y.dim.e,.int .i64 y.dim.f,.int .i64 y.dim.g]) (.int .i64 0)).run Tryz.prog w=.ok (.agg #[.int .i64 x.num,.int .i64 x.den,.int .i64 x.dim.a,.int .i64 x.dim.b,.int .i64 x.dim.c,.int .i64 x.dim.d,.int .i64 x.dim.e,.int .i64 x.dim.f,.int .i64 x.dim.g]) w:=fun _=>by kernel_rfl
   have x1:∀ w:World,(Instr.index 210 (.agg #[.int .i64 x.num,.int .i64 x.den,.int .i64 x.dim.a,.int .i64 x.dim.b,.int .i64 x.dim.c,.int .i64 x.dim.d,.int .i64 x.dim.e,.int .i64 x.dim.f,.int .i64 x.dim.g,.int .i64 y.num,.int .i64 y.den,.int .i64 y.dim.a,.int .i64 y.dim.b,.int .i64 y.dim.c,.int .i64 y.dim.d,.int .i64 y.dim.e,.int .i64 y.dim.f,.int .i64 y.dim.g]) (.int .i64 1)).run Tryz.prog w=.ok (.agg #[.int .i64 y.num,.int .i64 y.den,.int .i64 y.dim.a,.int .i64 y.dim.b,.int .i64 y.dim.c,.int .i64 y.dim.d,.int .i64 y.dim.e,.int .i64 y.dim.f,.int .i64 y.dim.g]) w:=fun _=>by kernel_rfl
   have HI18:Hid ((Tryz.prog.info? 210).map (·.size)=some (#[.int .i64 x.num,.int .i64 x.den,.int .i64 x.dim.a,.int .i64 x.dim.b,.int .i64 x.dim.c,.int .i64 x.dim.d,.int .i64 x.dim.e,.int .i64 x.dim.f,.int .i64 x.dim.g,.int .i64 y.num,.int .i64 y.den,.int .i64 y.dim.a,.int .i64 y.dim.b,.int .i64 y.dim.c,.int .i64 y.dim.d,.int .i64 y.dim.e,.int .i64 y.dim.f,.int .i64 y.dim.g]:Array Value).size):=by show _=_; kernel_rfl
   obtain ⟨cs,hcs⟩:∃ cs:Array Value,cs=#[.int .i64 x.num,.int .i64 x.den,.int .i64 x.dim.a,.int .i64 x.dim.b,.int .i64 x.dim.c,.int .i64 x.dim.d,.int .i64 x.dim.e,.int .i64 x.dim.f,.int .i64 x.dim.g,.int .i64 y.num,.int .i64 y.den,.int .i64 y.dim.a,.int .i64 y.dim.b,.int .i64 y.dim.c,.int .i64 y.dim.d,.int .i64 y.dim.e,.int .i64 y.dim.f,.int .i64 y.dim.g]:=⟨_,rfl⟩
   rw [← hcs]at x0 x1 HI18
   have HKF:Hid (∀ w',K18 w' (w.heap.size+1) x y→w'.heap[w.heap.size+1]?=some (.cells cs 210 (0,0))):=fun w' h=>by rw [hcs]; exact h
   have HKR:=hid (HKF.out wr HKL.out)
   clear hcs;go_wp2_with (with_reducible refine wpList_load_row rfl 210 (.tmp 9) rfl (w.heap.size+1) rfl 210 cs (0,0) _ HKR.out Tryz.underlying210 rfl HI18.out ?_)
   go_loopg [12,13,40] 3 (fun gg s12 s13 s40 wx=>∃ i:Nat,i≤2∧2-i<gg∧s40=.int .i64 (i:Int)∧Aside (1≤i→x.dim=zD)∧Aside (2≤i→y.dim=zD)∧Aside (LJ w wx xb nb ob B0 (w.heap.size+2) E s p b o (w.heap.size+1) (O18 x y) A ca [ta,tb,tc] ci))
   case atStart=>exact ⟨0,by omega,by omega,rfl,(fun h=>absurd h (by decide)),(fun h=>absurd h (by decide)),HLR.out⟩
   case round=>
    rename World=>wx
    obtain ⟨i,hi,hgg,rfl,HDX,HDY,HLX⟩:=hrel
    by_cases hlt:i<2
    ·have hltz:(i:Int)<2:=by omega
     rcases (show i=0∨i=1 by omega)with rfl|rfl
     ·have hba:=b1 wx (.cells #[.int .i64 x.num,.int .i64 x.den,.int .i64 x.dim.a,.int .i64 x.dim.b,.int .i64 x.dim.c,.int .i64 x.dim.d,.int .i64 x.dim.e,.int .i64 x.dim.f,.int .i64 x.dim.g] 44)
      have HL2:=hid (HLX.out.reach hba)
      have HM9:Hid (K9 (wx.alloc (.cells #[.int .i64 x.num,.int .i64 x.den,.int .i64 x.dim.a,.int .i64 x.dim.b,.int .i64 x.dim.c,.int .i64 x.dim.d,.int .i64 x.dim.e,.int .i64 x.dim.f,.int .i64 x.dim.g] 44)) wx.heap.size x):=K9.new wx x
      clear hba;go_upto_region 13 with (fail);generalize wx.alloc (.cells #[.int .i64 x.num,.int .i64 x.den,.int .i64 x.dim.a,.int .i64 x.dim.b,.int .i64 x.dim.c,.int .i64 x.dim.d,.int .i64 x.dim.e,.int .i64 x.dim.f,.int .i64 x.dim.g] 44)=w2 at*;obtain ⟨⟨⟨n0,n1⟩,n2,n3,n4,n5,n6,n7,n8⟩,_,_⟩:=HM9.out.cells
      have HPU:=hid (pure_any x w2)
      unfold V.cells at HPU;go_wp2_with fail;refine HPU.out.mono ?_
      rintro e w3 ⟨rfl,hb3⟩
      have HL3:=hid (HL2.out.reach hb3)
      clear hb3 HPU n0 n1 n2 n3 n4 n5 n6 n7 n8;by_cases hd:x.dim=zD
      ·rw [decide_eq_true hd]
       have HD2:=hid hd
       clear hd;go_wp2_with fail;go_roundg 2
       case measure=>omega
       case rel=>exact ⟨1,by omega,by omega,rfl,(fun _=>HD2.out),(fun h=>absurd h (by decide)),HL3.out⟩
      ·rw [decide_eq_false hd]
       have HLE:Hid (limE x y=⟨zV,[0],16⟩):=by show _=_; unfold limE; rw [if_neg hd]
       have HU:=hid (under_lit (erR 16) (.slice none 0 0) 0 w3 w3.heap.size (BO.nil _ _) (Nat.le_refl _) (by decide))
       have HRU:Hid ((erR 16).under 0=limE x y):=HLE.out.symm
       generalize (erR 16).under 0=ru at*;have HLG:Hid (limsG a=(0,0,ru)):=by show _=_; rw [HG3.out,limsG_two,if_neg (by rw [HLE.out]; decide),HRU.out]
       unfold R.cells erR zV zD at HU;dsimp only at HU
       have HLC:Hid (a.2=ci):=by show _=_; rw [HG3.out]
       clear hd;go_wp2_with fail;refine HU.out.mono ?_
       rintro e w5 ⟨A5,c5,rfl,hq5,hb5⟩
       have HL6:=hid (HL3.out.reach hb5)
       have HQ6:=hid hq5
       have HSW6:=hid (Nat.le_trans HSW.out HL3.out.lo.2.2.2.2.2.2)
       clear hq5 hb5;obtain ⟨⟨z0,z1,z2,z3,z4,z5,z6,z7,z8,z9,z10⟩,zf,_⟩:=HL6.out.k6.cells
       go_wp2_with fail;rw [HLG.out,HLC.out];refine bodyPost_ret (v:=.tuple #[.int .i64 0,.int .i64 0,.agg (R.cells ru (.slice A5 ru.path.length c5))]) (by simp [results,Tryz.results132,go_sem,R.cells,z0,z1,z2,z3,z4,z5,z6,z7,z8,z9,z10]) rfl ⟨_,rfl,((show BO w5 (w.heap.size+1) (.slice A5 ru.path.length c5) ru.path from HQ6.out.less HSW6.out).set11 (Nat.lt_succ_self _) ru (.slice A5 ru.path.length c5)).less (Nat.le_succ _),grown11 HL6.out.gr ru (.slice A5 ru.path.length c5),eb11 ⟨HL6.out.cx.eb,HX0.out⟩ ru (.slice A5 ru.path.length c5)⟩
     ·have hba:=b1 wx (.cells #[.int .i64 y.num,.int .i64 y.den,.int .i64 y.dim.a,.int .i64 y.dim.b,.int .i64 y.dim.c,.int .i64 y.dim.d,.int .i64 y.dim.e,.int .i64 y.dim.f,.int .i64 y.dim.g] 44)
      have HL2:=hid (HLX.out.reach hba)
      have HM9:Hid (K9 (wx.alloc (.cells #[.int .i64 y.num,.int .i64 y.den,.int .i64 y.dim.a,.int .i64 y.dim.b,.int .i64 y.dim.c,.int .i64 y.dim.d,.int .i64 y.dim.e,.int .i64 y.dim.f,.int .i64 y.dim.g] 44)) wx.heap.size y):=K9.new wx y
      clear hba;go_upto_region 13 with (fail);generalize wx.alloc (.cells #[.int .i64 y.num,.int .i64 y.den,.int .i64 y.dim.a,.int .i64 y.dim.b,.int .i64 y.dim.c,.int .i64 y.dim.d,.int .i64 y.dim.e,.int .i64 y.dim.f,.int .i64 y.dim.g] 44)=w2 at*;obtain ⟨⟨⟨n0,n1⟩,n2,n3,n4,n5,n6,n7,n8⟩,_,_⟩:=HM9.out.cells
      have HPU:=hid (pure_any y w2)
      unfold V.cells at HPU;go_wp2_with fail;refine HPU.out.mono ?_
      rintro e w3 ⟨rfl,hb3⟩
      have HL3:=hid (HL2.out.reach hb3)
      clear hb3 HPU n0 n1 n2 n3 n4 n5 n6 n7 n8;by_cases hd:y.dim=zD
      ·rw [decide_eq_true hd]
       have HD2:=hid hd
       clear hd;go_wp2_with fail;go_roundg 1
       case measure=>omega
       case rel=>exact ⟨2,by omega,by omega,rfl,(fun _=>HDX.out (by decide)),(fun _=>HD2.out),HL3.out⟩
      ·rw [decide_eq_false hd]
       have HLE:Hid (limE x y=⟨zV,[1],16⟩):=by show _=_; unfold limE; rw [if_pos (HDX.out (by decide)),if_neg hd]
       have HU:=hid (under_lit (erR 16) (.slice none 0 0) 1 w3 w3.heap.size (BO.nil _ _) (Nat.le_refl _) (by decide))
       have HRU:Hid ((erR 16).under 1=limE x y):=HLE.out.symm
       generalize (erR 16).under 1=ru at*;have HLG:Hid (limsG a=(0,0,ru)):=by show _=_; rw [HG3.out,limsG_two,if_neg (by rw [HLE.out]; decide),HRU.out]
       unfold R.cells erR zV zD at HU;dsimp only at HU
       have HLC:Hid (a.2=ci):=by show _=_; rw [HG3.out]
       clear hd;go_wp2_with fail;refine HU.out.mono ?_
       rintro e w5 ⟨A5,c5,rfl,hq5,hb5⟩
       have HL6:=hid (HL3.out.reach hb5)
       have HQ6:=hid hq5
       have HSW6:=hid (Nat.le_trans HSW.out HL3.out.lo.2.2.2.2.2.2)
       clear hq5 hb5;obtain ⟨⟨z0,z1,z2,z3,z4,z5,z6,z7,z8,z9,z10⟩,zf,_⟩:=HL6.out.k6.cells
       go_wp2_with fail;rw [HLG.out,HLC.out];refine bodyPost_ret (v:=.tuple #[.int .i64 0,.int .i64 0,.agg (R.cells ru (.slice A5 ru.path.length c5))]) (by simp [results,Tryz.results132,go_sem,R.cells,z0,z1,z2,z3,z4,z5,z6,z7,z8,z9,z10]) rfl ⟨_,rfl,((show BO w5 (w.heap.size+1) (.slice A5 ru.path.length c5) ru.path from HQ6.out.less HSW6.out).set11 (Nat.lt_succ_self _) ru (.slice A5 ru.path.length c5)).less (Nat.le_succ _),grown11 HL6.out.gr ru (.slice A5 ru.path.length c5),eb11 ⟨HL6.out.cx.eb,HX0.out⟩ ru (.slice A5 ru.path.length c5)⟩
    ·have hltz:¬ (i:Int)<2:=by omega
     obtain rfl:i=2:=by omega
     have HDD:Hid (x.dim=zD∧y.dim=zD):=⟨HDX.out (by decide),HDY.out (by decide)⟩
     have HLQ:=HLX
     have HKY:Hid (K18 wx (w.heap.size+1) x y):=HLX.out.ko
     have HKR2:=hid (HKF.out wx HKY.out)
     clear HDX HDY HLX;go_wp2_with (with_reducible refine wpList_load_row rfl 210 (.tmp 9) rfl (w.heap.size+1) rfl 210 cs (0,0) _ HKR2.out Tryz.underlying210 rfl HI18.out ?_)
     go_loopg [14,15,52] 3 (fun gg s14 s15 s52 wx=>∃ i:Nat,i≤2∧2-i<gg∧s52=.int .i64 (i:Int)∧Aside (1≤i→x.den=1)∧Aside (2≤i→y.den=1)∧Aside (LJ w wx xb nb ob B0 (w.heap.size+2) E s p b o (w.heap.size+1) (O18 x y) A ca [ta,tb,tc] ci))
     case atStart=>exact ⟨0,by omega,by omega,rfl,(fun h=>absurd h (by decide)),(fun h=>absurd h (by decide)),HLQ.out⟩
     case round=>
      rename World=>wx
      obtain ⟨i,hi,hgg,rfl,HDX,HDY,HLX⟩:=hrel
      by_cases hlt:i<2
      ·have hltz:(i:Int)<2:=by omega
       rcases (show i=0∨i=1 by omega)with rfl|rfl
       ·have hba:=b1 wx (.cells #[.int .i64 x.num,.int .i64 x.den,.int .i64 x.dim.a,.int .i64 x.dim.b,.int .i64 x.dim.c,.int .i64 x.dim.d,.int .i64 x.dim.e,.int .i64 x.dim.f,.int .i64 x.dim.g] 44)
        have HL2:=hid (HLX.out.reach hba)
        have HM9:Hid (K9 (wx.alloc (.cells #[.int .i64 x.num,.int .i64 x.den,.int .i64 x.dim.a,.int .i64 x.dim.b,.int .i64 x.dim.c,.int .i64 x.dim.d,.int .i64 x.dim.e,.int .i64 x.dim.f,.int .i64 x.dim.g] 44)) wx.heap.size x):=K9.new wx x
        clear hba;go_upto_region 19 with (fail);generalize wx.alloc (.cells #[.int .i64 x.num,.int .i64 x.den,.int .i64 x.dim.a,.int .i64 x.dim.b,.int .i64 x.dim.c,.int .i64 x.dim.d,.int .i64 x.dim.e,.int .i64 x.dim.f,.int .i64 x.dim.g] 44)=w2 at*;obtain ⟨⟨⟨n0,n1⟩,n2,n3,n4,n5,n6,n7,n8⟩,_,_⟩:=HM9.out.cells
        have HL3:=HL2
        by_cases hd:x.den=1
        ·have hdb:(x.den != 1)=false:=by simpa using hd
         have HD2:=hid hd
         rw [hd]at n1
         clear hd hdb;go_wp2_with fail;go_roundg 2
         case measure=>omega
         case rel=>exact ⟨1,by omega,by omega,rfl,(fun _=>HD2.out),(fun h=>absurd h (by decide)),HL3.out⟩
        ·have hdb:(x.den != 1)=true:=by simpa using hd
         have HLE:Hid (limE x y=⟨zV,[0],17⟩):=by show _=_; unfold limE; rw [if_pos HDD.out.1,if_pos HDD.out.2,if_neg hd]
         have HU:=hid (under_lit (erR 17) (.slice none 0 0) 0 w2 w2.heap.size (BO.nil _ _) (Nat.le_refl _) (by decide))
         have HRU:Hid ((erR 17).under 0=limE x y):=HLE.out.symm
         generalize (erR 17).under 0=ru at*;have HLG:Hid (limsG a=(0,0,ru)):=by show _=_; rw [HG3.out,limsG_two,if_neg (by rw [HLE.out]; decide),HRU.out]
         unfold R.cells erR zV zD at HU;dsimp only at HU
         have HLC:Hid (a.2=ci):=by show _=_; rw [HG3.out]
         clear hd;go_wp2_with fail;refine HU.out.mono ?_
         rintro e w5 ⟨A5,c5,rfl,hq5,hb5⟩
         have HL6:=hid (HL3.out.reach hb5)
         have HQ6:=hid hq5
         have HSW6:=hid (Nat.le_trans HSW.out HL3.out.lo.2.2.2.2.2.2)
         clear hq5 hb5;obtain ⟨⟨z0,z1,z2,z3,z4,z5,z6,z7,z8,z9,z10⟩,zf,_⟩:=HL6.out.k6.cells
         go_wp2_with fail;rw [HLG.out,HLC.out];refine bodyPost_ret (v:=.tuple #[.int .i64 0,.int .i64 0,.agg (R.cells ru (.slice A5 ru.path.length c5))]) (by simp [results,Tryz.results132,go_sem,R.cells,z0,z1,z2,z3,z4,z5,z6,z7,z8,z9,z10]) rfl ⟨_,rfl,((show BO w5 (w.heap.size+1) (.slice A5 ru.path.length c5) ru.path from HQ6.out.less HSW6.out).set11 (Nat.lt_succ_self _) ru (.slice A5 ru.path.length c5)).less (Nat.le_succ _),grown11 HL6.out.gr ru (.slice A5 ru.path.length c5),eb11 ⟨HL6.out.cx.eb,HX0.out⟩ ru (.slice A5 ru.path.length c5)⟩
       ·have hba:=b1 wx (.cells #[.int .i64 y.num,.int .i64 y.den,.int .i64 y.dim.a,.int .i64 y.dim.b,.int .i64 y.dim.c,.int .i64 y.dim.d,.int .i64 y.dim.e,.int .i64 y.dim.f,.int .i64 y.dim.g] 44)
        have HL2:=hid (HLX.out.reach hba)
        have HM9:Hid (K9 (wx.alloc (.cells #[.int .i64 y.num,.int .i64 y.den,.int .i64 y.dim.a,.int .i64 y.dim.b,.int .i64 y.dim.c,.int .i64 y.dim.d,.int .i64 y.dim.e,.int .i64 y.dim.f,.int .i64 y.dim.g] 44)) wx.heap.size y):=K9.new wx y
        clear hba;go_upto_region 19 with (fail);generalize wx.alloc (.cells #[.int .i64 y.num,.int .i64 y.den,.int .i64 y.dim.a,.int .i64 y.dim.b,.int .i64 y.dim.c,.int .i64 y.dim.d,.int .i64 y.dim.e,.int .i64 y.dim.f,.int .i64 y.dim.g] 44)=w2 at*;obtain ⟨⟨⟨n0,n1⟩,n2,n3,n4,n5,n6,n7,n8⟩,_,_⟩:=HM9.out.cells
        have HL3:=HL2
        by_cases hd:y.den=1
        ·have hdb:(y.den != 1)=false:=by simpa using hd
         have HD2:=hid hd
         rw [hd]at n1
         clear hd hdb;go_wp2_with fail;go_roundg 1
         case measure=>omega
         case rel=>exact ⟨2,by omega,by omega,rfl,(fun _=>HDX.out (by decide)),(fun _=>HD2.out),HL3.out⟩
        ·have hdb:(y.den != 1)=true:=by simpa using hd
         have HLE:Hid (limE x y=⟨zV,[1],17⟩):=by show _=_; unfold limE; rw [if_pos HDD.out.1,if_pos HDD.out.2,if_pos (HDX.out (by decide)),if_neg hd]
         have HU:=hid (under_lit (erR 17) (.slice none 0 0) 1 w2 w2.heap.size (BO.nil _ _) (Nat.le_refl _) (by decide))
         have HRU:Hid ((erR 17).under 1=limE x y):=HLE.out.symm
         generalize (erR 17).under 1=ru at*;have HLG:Hid (limsG a=(0,0,ru)):=by show _=_; rw [HG3.out,limsG_two,if_neg (by rw [HLE.out]; decide),HRU.out]
         unfold R.cells erR zV zD at HU;dsimp only at HU
         have HLC:Hid (a.2=ci):=by show _=_; rw [HG3.out]
         clear hd;go_wp2_with fail;refine HU.out.mono ?_
         rintro e w5 ⟨A5,c5,rfl,hq5,hb5⟩
         have HL6:=hid (HL3.out.reach hb5)
         have HQ6:=hid hq5
         have HSW6:=hid (Nat.le_trans HSW.out HL3.out.lo.2.2.2.2.2.2)
         clear hq5 hb5;obtain ⟨⟨z0,z1,z2,z3,z4,z5,z6,z7,z8,z9,z10⟩,zf,_⟩:=HL6.out.k6.cells
         go_wp2_with fail;rw [HLG.out,HLC.out];refine bodyPost_ret (v:=.tuple #[.int .i64 0,.int .i64 0,.agg (R.cells ru (.slice A5 ru.path.length c5))]) (by simp [results,Tryz.results132,go_sem,R.cells,z0,z1,z2,z3,z4,z5,z6,z7,z8,z9,z10]) rfl ⟨_,rfl,((show BO w5 (w.heap.size+1) (.slice A5 ru.path.length c5) ru.path from HQ6.out.less HSW6.out).set11 (Nat.lt_succ_self _) ru (.slice A5 ru.path.length c5)).less (Nat.le_succ _),grown11 HL6.out.gr ru (.slice A5 ru.path.length c5),eb11 ⟨HL6.out.cx.eb,HX0.out⟩ ru (.slice A5 ru.path.length c5)⟩
      ·have hltz:¬ (i:Int)<2:=by omega
       obtain rfl:i=2:=by omega
       have HLG:Hid (limsG a=(x.num,y.num,zR)):=by
        show _=_
        have e:(limE x y).e=0:=by unfold limE; rw [if_pos HDD.out.1,if_pos HDD.out.2,if_pos (HDX.out (by decide)),if_pos (HDY.out (by decide))]; rfl
        rw [HG3.out,limsG_two,if_pos e]
       have HLC:Hid (a.2=ci):=by show _=_; rw [HG3.out]
       have HKZ:Hid (K18 wx (w.heap.size+1) x y):=HLX.out.ko
       obtain ⟨⟨l0,l1,l2,l3,l4,l5,l6,l7,l8,l9,l10,l11,l12,l13,l14,l15,l16,l17⟩,_,_⟩:=HKZ.out.cells
       obtain ⟨⟨z0,z1,z2,z3,z4,z5,z6,z7,z8,z9,z10⟩,zf,_⟩:=HLX.out.k6.cells
       have hne6:w.heap.size+1≠w.heap.size:=by omega
       go_wp2_with fail;go_region
       all_goals
        go_wp2_with fail;rw [HLG.out,HLC.out];refine bodyPost_ret (v:=.tuple #[.int .i64 x.num,.int .i64 y.num,.agg (R.cells zR (.slice none 0 0))]) (by simp [results,Tryz.results132,go_sem,R.cells,zR,zV,zD,z0,z1,z2,z3,z4,z5,z6,z7,z8,z9,z10]) rfl ⟨_,rfl,BO.dr (((show BO wx (w.heap.size+1) (.slice none 0 0) zR.path from BO.nil wx (w.heap.size+1)).set11 (Nat.lt_succ_self _) zR (.slice none 0 0)).less (Nat.le_succ _)),gr_dr (grown11 HLX.out.gr zR (.slice none 0 0)),EB.dr (eb11 ⟨HLX.out.cx.eb,HX0.out⟩ zR (.slice none 0 0))⟩
end Go.Proofs.YtknpigdpepmimaaGreatDoor
