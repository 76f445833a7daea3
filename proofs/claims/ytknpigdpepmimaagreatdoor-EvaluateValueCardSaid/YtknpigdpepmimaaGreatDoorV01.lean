/- Dimensions as seven exponents; contract of unit.Valid 84. -/
import Derived.Test.YtknpigdpepmimaaGreatDoorRows
import Derived.WalkKit
import Derived.WalkSpells
import Derived.WalkLawsBesides
import Derived.Lib.Hide
import Derived.Deep.LoopGhost
import Derived.Below
import Derived.OrdersHeld
import Derived.BigQuiet
import Derived.Deep.CutBlock
import Derived.Deep.DeepCutAuto
import Derived.Laws.Cover2
import Derived.KernelRfl
namespace Go.Proofs.YtknpigdpepmimaaGreatDoor
open Go.Lib(hid)
open Go.RowKit
structure Dm where
 a:Int
 b:Int
 c:Int
 d:Int
 e:Int
 f:Int
 g:Int
 deriving DecidableEq
def Dm.cells (d:Dm):Array Value:=#[.int .i64 d.a,.int .i64 d.b,.int .i64 d.c,.int .i64 d.d,.int .i64 d.e,.int .i64 d.f,.int .i64 d.g]
def okE (n:Int):Bool:=decide (-100≤n)&&decide (n≤100)
def Dm.ok (d:Dm):Bool:=okE d.a&&okE d.b&&okE d.c&&okE d.d&&okE d.e&&okE d.f&&okE d.g
def Dm.okTo (d:Dm) (i:Nat):Bool:=(decide (i≤0)||okE d.a)&&(decide (i≤1)||okE d.b)&&(decide (i≤2)||okE d.c)&&(decide (i≤3)||okE d.d)&&(decide (i≤4)||okE d.e)&&(decide (i≤5)||okE d.f)&&(decide (i≤6)||okE d.g)
theorem Dm.okTo_all (d:Dm):d.okTo 7=d.ok:=by simp [Dm.okTo,Dm.ok]
set_option maxRecDepth 100000 in
set_option maxHeartbeats 4000000 in
theorem uvalid_any (d:Dm)(w:World):Calls Tryz.prog 84 #[.agg d.cells] w fun e w'=>e=.returned (.bool d.ok)∧Below w.heap.size w w':=by
 obtain ⟨a,b,c,d,e,f,g⟩:=d
 unfold Dm.cells;have x0:∀ w:World,(Instr.index 42 (.agg #[.int .i64 a,.int .i64 b,.int .i64 c,.int .i64 d,.int .i64 e,.int .i64 f,.int .i64 g]) (.int .i64 0)).run Tryz.prog w=.ok (.int .i64 a) w:=fun _=>by kernel_rfl
 have x1:∀ w:World,(Instr.index 42 (.agg #[.int .i64 a,.int .i64 b,.int .i64 c,.int .i64 d,.int .i64 e,.int .i64 f,.int .i64 g]) (.int .i64 1)).run Tryz.prog w=.ok (.int .i64 b) w:=fun _=>by kernel_rfl
 have x2:∀ w:World,(Instr.index 42 (.agg #[.int .i64 a,.int .i64 b,.int .i64 c,.int .i64 d,.int .i64 e,.int .i64 f,.int .i64 g]) (.int .i64 2)).run Tryz.prog w=.ok (.int .i64 c) w:=fun _=>by kernel_rfl
 have x3:∀ w:World,(Instr.index 42 (.agg #[.int .i64 a,.int .i64 b,.int .i64 c,.int .i64 d,.int .i64 e,.int .i64 f,.int .i64 g]) (.int .i64 3)).run Tryz.prog w=.ok (.int .i64 d) w:=fun _=>by kernel_rfl
 have x4:∀ w:World,(Instr.index 42 (.agg #[.int .i64 a,.int .i64 b,.int .i64 c,.int .i64 d,.int .i64 e,.int .i64 f,.int .i64 g]) (.int .i64 4)).run Tryz.prog w=.ok (.int .i64 e) w:=fun _=>by kernel_rfl
 have x5:∀ w:World,(Instr.index 42 (.agg #[.int .i64 a,.int .i64 b,.int .i64 c,.int .i64 d,.int .i64 e,.int .i64 f,.int .i64 g]) (.int .i64 5)).run Tryz.prog w=.ok (.int .i64 f) w:=fun _=>by kernel_rfl
 have x6:∀ w:World,(Instr.index 42 (.agg #[.int .i64 a,.int .i64 b,.int .i64 c,.int .i64 d,.int .i64 e,.int .i64 f,.int .i64 g]) (.int .i64 6)).run Tryz.prog w=.ok (.int .i64 g) w:=fun _=>by kernel_rfl
 have HB:Hid (Below w.heap.size w (w.alloc (.cells #[.int .i64 a,.int .i64 b,.int .i64 c,.int .i64 d,.int .i64 e,.int .i64 f,.int .i64 g] 42))):=(Below.refl _ _).alloc (Nat.le_refl _) _
 have HOK:=hid (Dm.okTo_all ⟨a,b,c,d,e,f,g⟩)
 go_enter Tryz.func84,Tryz.ntmps84;go_wp2_with fail;generalize w.alloc (.cells #[.int .i64 a,.int .i64 b,.int .i64 c,.int .i64 d,.int .i64 e,.int .i64 f,.int .i64 g] 42)=w1 at*;go_loopg [4,6] 7 (fun gg s4 s6 wr=>∃ i:Nat,i≤7∧7-i≤gg∧s6=.int .i64 i∧Aside ((Dm.mk a b c d e f g).okTo i=true)∧wr=w1)
 case atStart=>exact ⟨0,by omega,by omega,rfl,(by show Dm.okTo _ 0=true; simp [Dm.okTo]),rfl⟩
 case round=>
  obtain ⟨i,hi,hgg,rfl,HT,rfl⟩:=hrel
  by_cases hlt:i<7
  ·have hltz:(i:Int)<7:=by omega
   rcases (show i=0∨i=1∨i=2∨i=3∨i=4∨i=5∨i=6 by omega)with rfl|rfl|rfl|rfl|rfl|rfl|rfl
   ·by_cases h1:a < -100
    ·have HZ:Hid (Dm.ok ⟨a,b,c,d,e,f,g⟩=false):=by
      have e1:okE a=false:=by unfold okE; rw [decide_eq_false (by omega)]; rfl
      show Dm.ok _=false
      simp [Dm.ok,e1]
     go_wp2_with fail;go_ret;rw [HZ.out];exact ⟨rfl,HB.out⟩
    ·by_cases h2:100<a
     ·have HZ:Hid (Dm.ok ⟨a,b,c,d,e,f,g⟩=false):=by
       have e1:okE a=false:=by unfold okE; rw [decide_eq_false (show ¬ a≤100 by omega)]; simp
       show Dm.ok _=false
       simp [Dm.ok,e1]
      go_wp2_with fail;go_ret;rw [HZ.out];exact ⟨rfl,HB.out⟩
     ·have HT2:Hid ((Dm.mk a b c d e f g).okTo 1=true):=by
       have e1:okE a=true:=by unfold okE; rw [decide_eq_true (by omega),decide_eq_true (by omega)]; rfl
       have e0:=HT.out
       show Dm.okTo _ _=true
       simp [Dm.okTo,e1]at e0 ⊢
       try simp [e0]
      go_wp2_with fail;go_roundg 6
      case measure=>omega
      case rel=>exact ⟨1,by omega,by omega,by go_num,HT2.out,rfl⟩
   ·by_cases h1:b < -100
    ·have HZ:Hid (Dm.ok ⟨a,b,c,d,e,f,g⟩=false):=by
      have e1:okE b=false:=by unfold okE; rw [decide_eq_false (by omega)]; rfl
      show Dm.ok _=false
      simp [Dm.ok,e1]
     go_wp2_with fail;go_ret;rw [HZ.out];exact ⟨rfl,HB.out⟩
    ·by_cases h2:100<b
     ·have HZ:Hid (Dm.ok ⟨a,b,c,d,e,f,g⟩=false):=by
       have e1:okE b=false:=by unfold okE; rw [decide_eq_false (show ¬ b≤100 by omega)]; simp
       show Dm.ok _=false
       simp [Dm.ok,e1]
      go_wp2_with fail;go_ret;rw [HZ.out];exact ⟨rfl,HB.out⟩
     ·have HT2:Hid ((Dm.mk a b c d e f g).okTo 2=true):=by
       have e1:okE b=true:=by unfold okE; rw [decide_eq_true (by omega),decide_eq_true (by omega)]; rfl
       have e0:=HT.out
       show Dm.okTo _ _=true
       simp [Dm.okTo,e1]at e0 ⊢
       try simp [e0]
      go_wp2_with fail;go_roundg 5
      case measure=>omega
      case rel=>exact ⟨2,by omega,by omega,by go_num,HT2.out,rfl⟩
   ·by_cases h1:c < -100
    ·have HZ:Hid (Dm.ok ⟨a,b,c,d,e,f,g⟩=false):=by
      have e1:okE c=false:=by unfold okE; rw [decide_eq_false (by omega)]; rfl
      show Dm.ok _=false
      simp [Dm.ok,e1]
     go_wp2_with fail;go_ret;rw [HZ.out];exact ⟨rfl,HB.out⟩
    ·by_cases h2:100<c
     ·have HZ:Hid (Dm.ok ⟨a,b,c,d,e,f,g⟩=false):=by
       have e1:okE c=false:=by unfold okE; rw [decide_eq_false (show ¬ c≤100 by omega)]; simp
       show Dm.ok _=false
       simp [Dm.ok,e1]
      go_wp2_with fail;go_ret;rw [HZ.out];exact ⟨rfl,HB.out⟩
     ·have HT2:Hid ((Dm.mk a b c d e f g).okTo 3=true):=by
       have e1:okE c=true:=by unfold okE; rw [decide_eq_true (by omega),decide_eq_true (by omega)]; rfl
       have e0:=HT.out
       show Dm.okTo _ _=true
       simp [Dm.okTo,e1]at e0 ⊢
       try simp [e0]
      go_wp2_with fail;go_roundg 4
      case measure=>omega
      case rel=>exact ⟨3,by omega,by omega,by go_num,HT2.out,rfl⟩
   ·by_cases h1:d < -100
    ·have HZ:Hid (Dm.ok ⟨a,b,c,d,e,f,g⟩=false):=by
      have e1:okE d=false:=by unfold okE; rw [decide_eq_false (by omega)]; rfl
      show Dm.ok _=false
      simp [Dm.ok,e1]
     go_wp2_with fail;go_ret;rw [HZ.out];exact ⟨rfl,HB.out⟩
    ·by_cases h2:100<d
     ·have HZ:Hid (Dm.ok ⟨a,b,c,d,e,f,g⟩=false):=by
       have e1:okE d=false:=by unfold okE; rw [decide_eq_false (show ¬ d≤100 by omega)]; simp
       show Dm.ok _=false
       simp [Dm.ok,e1]
      go_wp2_with fail;go_ret;rw [HZ.out];exact ⟨rfl,HB.out⟩
     ·have HT2:Hid ((Dm.mk a b c d e f g).okTo 4=true):=by
       have e1:okE d=true:=by unfold okE; rw [decide_eq_true (by omega),decide_eq_true (by omega)]; rfl
       have e0:=HT.out
       show Dm.okTo _ _=true
       simp [Dm.okTo,e1]at e0 ⊢
       try simp [e0]
      go_wp2_with fail;go_roundg 3
      case measure=>omega
      case rel=>exact ⟨4,by omega,by omega,by go_num,HT2.out,rfl⟩
   ·by_cases h1:e < -100
    ·have HZ:Hid (Dm.ok ⟨a,b,c,d,e,f,g⟩=false):=by
      have e1:okE e=false:=by unfold okE; rw [decide_eq_false (by omega)]; rfl
      show Dm.ok _=false
      simp [Dm.ok,e1]
     go_wp2_with fail;go_ret;rw [HZ.out];exact ⟨rfl,HB.out⟩
    ·by_cases h2:100<e
     ·have HZ:Hid (Dm.ok ⟨a,b,c,d,e,f,g⟩=false):=by
       have e1:okE e=false:=by unfold okE; rw [decide_eq_false (show ¬ e≤100 by omega)]; simp
       show Dm.ok _=false
       simp [Dm.ok,e1]
      go_wp2_with fail;go_ret;rw [HZ.out];exact ⟨rfl,HB.out⟩
     ·have HT2:Hid ((Dm.mk a b c d e f g).okTo 5=true):=by
       have e1:okE e=true:=by unfold okE; rw [decide_eq_true (by omega),decide_eq_true (by omega)]; rfl
       have e0:=HT.out
       show Dm.okTo _ _=true
       simp [Dm.okTo,e1]at e0 ⊢
       try simp [e0]
      go_wp2_with fail;go_roundg 2
      case measure=>omega
      case rel=>exact ⟨5,by omega,by omega,by go_num,HT2.out,rfl⟩
   ·by_cases h1:f < -100
    ·have HZ:Hid (Dm.ok ⟨a,b,c,d,e,f,g⟩=false):=by
      have e1:okE f=false:=by unfold okE; rw [decide_eq_false (by omega)]; rfl
      show Dm.ok _=false
      simp [Dm.ok,e1]
     go_wp2_with fail;go_ret;rw [HZ.out];exact ⟨rfl,HB.out⟩
    ·by_cases h2:100<f
     ·have HZ:Hid (Dm.ok ⟨a,b,c,d,e,f,g⟩=false):=by
       have e1:okE f=false:=by unfold okE; rw [decide_eq_false (show ¬ f≤100 by omega)]; simp
       show Dm.ok _=false
       simp [Dm.ok,e1]
      go_wp2_with fail;go_ret;rw [HZ.out];exact ⟨rfl,HB.out⟩
     ·have HT2:Hid ((Dm.mk a b c d e f g).okTo 6=true):=by
       have e1:okE f=true:=by unfold okE; rw [decide_eq_true (by omega),decide_eq_true (by omega)]; rfl
       have e0:=HT.out
       show Dm.okTo _ _=true
       simp [Dm.okTo,e1]at e0 ⊢
       try simp [e0]
      go_wp2_with fail;go_roundg 1
      case measure=>omega
      case rel=>exact ⟨6,by omega,by omega,by go_num,HT2.out,rfl⟩
   ·by_cases h1:g < -100
    ·have HZ:Hid (Dm.ok ⟨a,b,c,d,e,f,g⟩=false):=by
      have e1:okE g=false:=by unfold okE; rw [decide_eq_false (by omega)]; rfl
      show Dm.ok _=false
      simp [Dm.ok,e1]
     go_wp2_with fail;go_ret;rw [HZ.out];exact ⟨rfl,HB.out⟩
    ·by_cases h2:100<g
     ·have HZ:Hid (Dm.ok ⟨a,b,c,d,e,f,g⟩=false):=by
       have e1:okE g=false:=by unfold okE; rw [decide_eq_false (show ¬ g≤100 by omega)]; simp
       show Dm.ok _=false
       simp [Dm.ok,e1]
      go_wp2_with fail;go_ret;rw [HZ.out];exact ⟨rfl,HB.out⟩
     ·have HT2:Hid ((Dm.mk a b c d e f g).okTo 7=true):=by
       have e1:okE g=true:=by unfold okE; rw [decide_eq_true (by omega),decide_eq_true (by omega)]; rfl
       have e0:=HT.out
       show Dm.okTo _ _=true
       simp [Dm.okTo,e1]at e0 ⊢
       try simp [e0]
      go_wp2_with fail;go_roundg 0
      case measure=>omega
      case rel=>exact ⟨7,by omega,by omega,by go_num,HT2.out,rfl⟩
  ·have hltz:¬ (i:Int)<7:=by omega
   have e7:i=7:=by omega
   subst e7;have HZ:=hid (HOK.out.symm.trans HT.out)
   go_wp2_with fail;go_ret;rw [HZ.out];exact ⟨rfl,HB.out⟩
def K7 (w:World) (b:Nat)(d:Dm):Prop:=w.heap[b]?=some (.cells #[.int .i64 d.a,.int .i64 d.b,.int .i64 d.c,.int .i64 d.d,.int .i64 d.e,.int .i64 d.f,.int .i64 d.g] 42 (0,0))
theorem K7.cells {w:World}{b:Nat}{d:Dm}(h:K7 w b d):(w.cell? ⟨b,0,none⟩=some (.int .i64 d.a)∧w.cell? ⟨b,1,none⟩=some (.int .i64 d.b)∧w.cell? ⟨b,2,none⟩=some (.int .i64 d.c)∧w.cell? ⟨b,3,none⟩=some (.int .i64 d.d)∧w.cell? ⟨b,4,none⟩=some (.int .i64 d.e)∧w.cell? ⟨b,5,none⟩=some (.int .i64 d.f)∧w.cell? ⟨b,6,none⟩=some (.int .i64 d.g))∧(∀ i,w.frozen? ⟨b,i,none⟩=false)∧b<w.heap.size:=by
 unfold K7 at h;refine ⟨⟨?_,?_,?_,?_,?_,?_,?_⟩,fun i=>?_,(Array.getElem?_eq_some_iff.1 h).1⟩<;>simp [World.cell?,World.frozen?,h]
theorem K7.below {w w':World}{B b:Nat}{d:Dm}(h:K7 w b d)(hb:Below B w w')(hlt:b<B):K7 w' b d:=(hb.block b hlt).trans h
theorem K7.reach {w w':World}{b:Nat}{d:Dm}(h:K7 w b d)(hb:Below w.heap.size w w'):K7 w' b d:=h.below hb h.cells.2.2
theorem K7.new (w:World)(d:Dm):K7 (w.alloc (.cells #[.int .i64 d.a,.int .i64 d.b,.int .i64 d.c,.int .i64 d.d,.int .i64 d.e,.int .i64 d.f,.int .i64 d.g] 42)) w.heap.size d:=heap_alloc_new w _
theorem K7.other {w:World}{b b' o:Nat}{d:Dm}(h:K7 w b d) (u:Value)(hne:b≠b'):K7 (w.setCell ⟨b',o,none⟩ u) b d:=(Below.heap_setCell w ⟨b',o,none⟩ u b (fun e=>hne e)).trans h
theorem K7.set0 {w:World}{b:Nat}{d:Dm}(h:K7 w b d) (u:Int):K7 (w.setCell ⟨b,0,none⟩ (.int .i64 u)) b { d with a:=u }:=by
 unfold K7 at h ⊢;show (w.heap.modify b _)[b]?=_
 rw [Array.getElem?_modify,if_pos rfl,h];rfl
theorem K7.set1 {w:World}{b:Nat}{d:Dm}(h:K7 w b d) (u:Int):K7 (w.setCell ⟨b,1,none⟩ (.int .i64 u)) b { d with b:=u }:=by
 unfold K7 at h ⊢;show (w.heap.modify b _)[b]?=_
 rw [Array.getElem?_modify,if_pos rfl,h];rfl
theorem K7.set2 {w:World}{b:Nat}{d:Dm}(h:K7 w b d) (u:Int):K7 (w.setCell ⟨b,2,none⟩ (.int .i64 u)) b { d with c:=u }:=by
 unfold K7 at h ⊢;show (w.heap.modify b _)[b]?=_
 rw [Array.getElem?_modify,if_pos rfl,h];rfl
theorem K7.set3 {w:World}{b:Nat}{d:Dm}(h:K7 w b d) (u:Int):K7 (w.setCell ⟨b,3,none⟩ (.int .i64 u)) b { d with d:=u }:=by
 unfold K7 at h ⊢;show (w.heap.modify b _)[b]?=_
 rw [Array.getElem?_modify,if_pos rfl,h];rfl
theorem K7.set4 {w:World}{b:Nat}{d:Dm}(h:K7 w b d) (u:Int):K7 (w.setCell ⟨b,4,none⟩ (.int .i64 u)) b { d with e:=u }:=by
 unfold K7 at h ⊢;show (w.heap.modify b _)[b]?=_
 rw [Array.getElem?_modify,if_pos rfl,h];rfl
theorem K7.set5 {w:World}{b:Nat}{d:Dm}(h:K7 w b d) (u:Int):K7 (w.setCell ⟨b,5,none⟩ (.int .i64 u)) b { d with f:=u }:=by
 unfold K7 at h ⊢;show (w.heap.modify b _)[b]?=_
 rw [Array.getElem?_modify,if_pos rfl,h];rfl
theorem K7.set6 {w:World}{b:Nat}{d:Dm}(h:K7 w b d) (u:Int):K7 (w.setCell ⟨b,6,none⟩ (.int .i64 u)) b { d with g:=u }:=by
 unfold K7 at h ⊢;show (w.heap.modify b _)[b]?=_
 rw [Array.getElem?_modify,if_pos rfl,h];rfl
def zD:Dm:=⟨0,0,0,0,0,0,0⟩
def set7 (w:World) (b:Nat)(d:Dm):World:=((((((w.setCell ⟨b,0,none⟩ (.int .i64 d.a)).setCell ⟨b,1,none⟩ (.int .i64 d.b)).setCell ⟨b,2,none⟩ (.int .i64 d.c)).setCell ⟨b,3,none⟩ (.int .i64 d.d)).setCell ⟨b,4,none⟩ (.int .i64 d.e)).setCell ⟨b,5,none⟩ (.int .i64 d.f)).setCell ⟨b,6,none⟩ (.int .i64 d.g)
theorem below7 {B b:Nat}{a w:World}(h:Below B a w)(hb:B≤b)(d:Dm):Below B a (set7 w b d):=((((((h.setCell (p:=⟨b,0,none⟩) hb _).setCell (p:=⟨b,1,none⟩) hb _).setCell (p:=⟨b,2,none⟩) hb _).setCell (p:=⟨b,3,none⟩) hb _).setCell (p:=⟨b,4,none⟩) hb _).setCell (p:=⟨b,5,none⟩) hb _).setCell (p:=⟨b,6,none⟩) hb _
def Dm.plus (s:Int)(x y:Dm):Dm:=⟨x.a+s*y.a,x.b+s*y.b,x.c+s*y.c,x.d+s*y.d,x.e+s*y.e,x.f+s*y.f,x.g+s*y.g⟩
theorem bel_dr {B:Nat}{w w':World}(h:Below B w w'):Below B w w'.drew:=⟨h.os,h.tape,h.output,h.size,h.block⟩
def mixD (x y:Dm) (s:Int) (i:Nat):Dm:=match i with
 | 0=>⟨x.a,x.b,x.c,x.d,x.e,x.f,x.g⟩
 | 1=>⟨x.a+s*y.a,x.b,x.c,x.d,x.e,x.f,x.g⟩
 | 2=>⟨x.a+s*y.a,x.b+s*y.b,x.c,x.d,x.e,x.f,x.g⟩
 | 3=>⟨x.a+s*y.a,x.b+s*y.b,x.c+s*y.c,x.d,x.e,x.f,x.g⟩
 | 4=>⟨x.a+s*y.a,x.b+s*y.b,x.c+s*y.c,x.d+s*y.d,x.e,x.f,x.g⟩
 | 5=>⟨x.a+s*y.a,x.b+s*y.b,x.c+s*y.c,x.d+s*y.d,x.e+s*y.e,x.f,x.g⟩
 | 6=>⟨x.a+s*y.a,x.b+s*y.b,x.c+s*y.c,x.d+s*y.d,x.e+s*y.e,x.f+s*y.f,x.g⟩
 | _=>⟨x.a+s*y.a,x.b+s*y.b,x.c+s*y.c,x.d+s*y.d,x.e+s*y.e,x.f+s*y.f,x.g+s*y.g⟩
def combQ (x y:Dm) (s:Int):Dm × Int:=if x.ok=true∧y.ok=true then (if (x.plus s y).ok=true then (x.plus s y,0)else (zD,2))else (zD,1)
theorem Dm.ok_all {d:Dm}(h:d.ok=true):(-100≤d.a∧d.a≤100)∧(-100≤d.b∧d.b≤100)∧(-100≤d.c∧d.c≤100)∧(-100≤d.d∧d.d≤100)∧(-100≤d.e∧d.e≤100)∧(-100≤d.f∧d.f≤100)∧(-100≤d.g∧d.g≤100):=by
 unfold Dm.ok okE at h;simp only [Bool.and_eq_true,decide_eq_true_eq]at h
 obtain ⟨⟨⟨⟨⟨⟨h1,h2⟩,h3⟩,h4⟩,h5⟩,h6⟩,h7⟩:=h
 exact ⟨h1,h2,h3,h4,h5,h6,h7⟩
theorem small_mul {s y:Int}(hs:s=1∨s=-1)(hy:-100≤y∧y≤100):-100≤s*y∧s*y≤100:=by
 rcases hs with rfl|rfl<;>omega
theorem wrap_small {n:Int}(h:-1000000≤n∧n≤1000000):IntKind.i64.wrap n=n:=by
 exact IntWalk.i64_in _ (by omega)
set_option maxRecDepth 100000 in
set_option maxHeartbeats 4000000 in
theorem combine_any (x y:Dm) (s:Int)(hs:s=1∨s=-1)(w:World):Calls Tryz.prog 163 #[.agg x.cells,.agg y.cells,.int .i64 s] w fun e w'=>e=.returned (.tuple #[.agg (combQ x y s).1.cells,.int .i64 (combQ x y s).2])∧Below w.heap.size w w':=by
 have HE:Hid (combQ x y s=if x.ok=true∧y.ok=true then (if (x.plus s y).ok=true then (x.plus s y,0)else (zD,2))else (zD,1)):=rfl
 have HV1:=hid (uvalid_any x)
 have HV2:=hid (uvalid_any y)
 have HV3:=hid (uvalid_any (x.plus s y))
 have HBX:=hid fun (h:x.ok=true)=>Dm.ok_all h
 have HBY:=hid fun (h:y.ok=true)=>Dm.ok_all h
 have HS:=hid hs
 clear hs;have HZ:Hid (zD=⟨0,0,0,0,0,0,0⟩):=rfl
 unfold Dm.cells at HV1 HV2 HV3 ⊢;unfold Dm.plus at HE HV3;have hb1:Below w.heap.size w (w.alloc (.cells #[.int .i64 x.a,.int .i64 x.b,.int .i64 x.c,.int .i64 x.d,.int .i64 x.e,.int .i64 x.f,.int .i64 x.g] 42)):=(Below.refl _ _).alloc (Nat.le_refl _) _
 have hb2:Below w.heap.size w ((w.alloc (.cells #[.int .i64 x.a,.int .i64 x.b,.int .i64 x.c,.int .i64 x.d,.int .i64 x.e,.int .i64 x.f,.int .i64 x.g] 42)).alloc (.cells #[.int .i64 y.a,.int .i64 y.b,.int .i64 y.c,.int .i64 y.d,.int .i64 y.e,.int .i64 y.f,.int .i64 y.g] 42)):=hb1.alloc (by simp) _
 have hb3:Below w.heap.size w (((w.alloc (.cells #[.int .i64 x.a,.int .i64 x.b,.int .i64 x.c,.int .i64 x.d,.int .i64 x.e,.int .i64 x.f,.int .i64 x.g] 42)).alloc (.cells #[.int .i64 y.a,.int .i64 y.b,.int .i64 y.c,.int .i64 y.d,.int .i64 y.e,.int .i64 y.f,.int .i64 y.g] 42)).alloc (.cells #[.int .i64 0,.int .i64 0,.int .i64 0,.int .i64 0,.int .i64 0,.int .i64 0,.int .i64 0] 42)):=hb2.alloc (by simp; omega) _
 have hk1:K7 (((w.alloc (.cells #[.int .i64 x.a,.int .i64 x.b,.int .i64 x.c,.int .i64 x.d,.int .i64 x.e,.int .i64 x.f,.int .i64 x.g] 42)).alloc (.cells #[.int .i64 y.a,.int .i64 y.b,.int .i64 y.c,.int .i64 y.d,.int .i64 y.e,.int .i64 y.f,.int .i64 y.g] 42)).alloc (.cells #[.int .i64 0,.int .i64 0,.int .i64 0,.int .i64 0,.int .i64 0,.int .i64 0,.int .i64 0] 42)) w.heap.size x:=((K7.new w x).reach ((Below.refl _ _).alloc (Nat.le_refl _) _)).reach ((Below.refl _ _).alloc (Nat.le_refl _) _)
 have hk2:=(K7.new (w.alloc (.cells #[.int .i64 x.a,.int .i64 x.b,.int .i64 x.c,.int .i64 x.d,.int .i64 x.e,.int .i64 x.f,.int .i64 x.g] 42)) y).reach ((Below.refl _ _).alloc (Nat.le_refl _) (.cells #[.int .i64 0,.int .i64 0,.int .i64 0,.int .i64 0,.int .i64 0,.int .i64 0,.int .i64 0] 42))
 have hk3:=K7.new ((w.alloc (.cells #[.int .i64 x.a,.int .i64 x.b,.int .i64 x.c,.int .i64 x.d,.int .i64 x.e,.int .i64 x.f,.int .i64 x.g] 42)).alloc (.cells #[.int .i64 y.a,.int .i64 y.b,.int .i64 y.c,.int .i64 y.d,.int .i64 y.e,.int .i64 y.f,.int .i64 y.g] 42)) ⟨0,0,0,0,0,0,0⟩
 rw [World.size_alloc]at hk2
 rw [World.size_alloc,World.size_alloc]at hk3
 have hsz:(((w.alloc (.cells #[.int .i64 x.a,.int .i64 x.b,.int .i64 x.c,.int .i64 x.d,.int .i64 x.e,.int .i64 x.f,.int .i64 x.g] 42)).alloc (.cells #[.int .i64 y.a,.int .i64 y.b,.int .i64 y.c,.int .i64 y.d,.int .i64 y.e,.int .i64 y.f,.int .i64 y.g] 42)).alloc (.cells #[.int .i64 0,.int .i64 0,.int .i64 0,.int .i64 0,.int .i64 0,.int .i64 0,.int .i64 0] 42)).heap.size=w.heap.size+3:=by simp
 have HK1:=hid hk1
 have HK2:Hid (K7 (((w.alloc (.cells #[.int .i64 x.a,.int .i64 x.b,.int .i64 x.c,.int .i64 x.d,.int .i64 x.e,.int .i64 x.f,.int .i64 x.g] 42)).alloc (.cells #[.int .i64 y.a,.int .i64 y.b,.int .i64 y.c,.int .i64 y.d,.int .i64 y.e,.int .i64 y.f,.int .i64 y.g] 42)).alloc (.cells #[.int .i64 0,.int .i64 0,.int .i64 0,.int .i64 0,.int .i64 0,.int .i64 0,.int .i64 0] 42)) (w.heap.size+1) y):=hk2
 have HK3:Hid (K7 (((w.alloc (.cells #[.int .i64 x.a,.int .i64 x.b,.int .i64 x.c,.int .i64 x.d,.int .i64 x.e,.int .i64 x.f,.int .i64 x.g] 42)).alloc (.cells #[.int .i64 y.a,.int .i64 y.b,.int .i64 y.c,.int .i64 y.d,.int .i64 y.e,.int .i64 y.f,.int .i64 y.g] 42)).alloc (.cells #[.int .i64 0,.int .i64 0,.int .i64 0,.int .i64 0,.int .i64 0,.int .i64 0,.int .i64 0] 42)) (w.heap.size+1+1) ⟨0,0,0,0,0,0,0⟩):=hk3
 have HB3:=hid hb3
 clear hb1 hb2 hb3 hk1 hk2 hk3;go_enter Tryz.func163,Tryz.ntmps163;go_upto_region 1 with (fail);generalize ((w.alloc (.cells #[.int .i64 x.a,.int .i64 x.b,.int .i64 x.c,.int .i64 x.d,.int .i64 x.e,.int .i64 x.f,.int .i64 x.g] 42)).alloc (.cells #[.int .i64 y.a,.int .i64 y.b,.int .i64 y.c,.int .i64 y.d,.int .i64 y.e,.int .i64 y.f,.int .i64 y.g] 42)).alloc (.cells #[.int .i64 0,.int .i64 0,.int .i64 0,.int .i64 0,.int .i64 0,.int .i64 0,.int .i64 0] 42)=w1 at*
 obtain ⟨⟨p0,p1,p2,p3,p4,p5,p6⟩,_,_⟩:=HK1.out.cells
 go_wp2_with fail;refine (HV1.out w1).mono ?_
 rintro e w2 ⟨rfl,hb2⟩
 have HB2:=hid hb2
 clear hb2 p0 p1 p2 p3 p4 p5 p6;obtain ⟨⟨q0,q1,q2,q3,q4,q5,q6⟩,_,_⟩:=(HK2.out.reach HB2.out).cells
 obtain ⟨⟨z0,z1,z2,z3,z4,z5,z6⟩,zf,_⟩:=(HK3.out.reach HB2.out).cells
 cases h1:x.ok with
 | false=>
  have HR:Hid (combQ x y s=(zD,1)):=HE.out.trans (by rw [h1]; simp)
  clear h1;go_wp2_with fail;rw [HR.out];refine bodyPost_ret (v:=.tuple #[.agg zD.cells,.int .i64 1]) (by simp [results,Tryz.results163,go_sem,Dm.cells,zD,z0,z1,z2,z3,z4,z5,z6]) rfl ⟨rfl,?_⟩
  exact below7 (B:=w.heap.size) (HB3.out.trans (HB2.out.mono (by omega))) (b:=w.heap.size+1+1) (by omega) zD
 | true=>
  have HE1:Hid (combQ x y s=if y.ok=true then (if (⟨x.a+s*y.a,x.b+s*y.b,x.c+s*y.c,x.d+s*y.d,x.e+s*y.e,x.f+s*y.f,x.g+s*y.g⟩:Dm).ok=true then (⟨x.a+s*y.a,x.b+s*y.b,x.c+s*y.c,x.d+s*y.d,x.e+s*y.e,x.f+s*y.f,x.g+s*y.g⟩,0)else (zD,2))else (zD,1)):=HE.out.trans (by rw [h1]; simp)
  have HX:=hid (HBX.out h1)
  clear h1 HE HBX;go_wp2_with fail;refine (HV2.out w2).mono ?_
  rintro e w3 ⟨rfl,hb3⟩
  have HB13:=hid (HB2.out.trans (hb3.mono HB2.out.size))
  clear hb3 HB2 q0 q1 q2 q3 q4 q5 q6 z0 z1 z2 z3 z4 z5 z6 zf;have hs13:=HB13.out.size
  have HBw:=hid (HB3.out.trans (HB13.out.mono (by omega)))
  have HL1:=hid (HK1.out.reach HB13.out)
  have HL2:=hid (HK2.out.reach HB13.out)
  have HL3:=hid (HK3.out.reach HB13.out)
  obtain ⟨⟨z0,z1,z2,z3,z4,z5,z6⟩,zf,_⟩:=HL3.out.cells
  cases h2:y.ok with
  | false=>
   have HR:Hid (combQ x y s=(zD,1)):=HE1.out.trans (by rw [h2]; simp)
   clear h2;go_wp2_with fail;rw [HR.out];refine bodyPost_ret (v:=.tuple #[.agg zD.cells,.int .i64 1]) (by simp [results,Tryz.results163,go_sem,Dm.cells,zD,z0,z1,z2,z3,z4,z5,z6]) rfl ⟨rfl,?_⟩
   exact below7 (B:=w.heap.size) HBw.out (b:=w.heap.size+1+1) (by omega) zD
  | true=>
   have HE2:Hid (combQ x y s=if (⟨x.a+s*y.a,x.b+s*y.b,x.c+s*y.c,x.d+s*y.d,x.e+s*y.e,x.f+s*y.f,x.g+s*y.g⟩:Dm).ok=true then (⟨x.a+s*y.a,x.b+s*y.b,x.c+s*y.c,x.d+s*y.d,x.e+s*y.e,x.f+s*y.f,x.g+s*y.g⟩,0)else (zD,2)):=HE1.out.trans (by rw [h2]; simp)
   have HY:=hid (HBY.out h2)
   clear h2 HE1 HBY zf z0 z1 z2 z3 z4 z5 z6;have HM:=hid fun (n:Int)(h:-100≤n∧n≤100)=>small_mul HS.out h
   go_upto_region 3 with (fail);go_wp2_with fail;go_loopg [8,18] 7 (fun gg s8 s18 wr=>∃ i:Nat,i≤7∧7-i≤gg∧s18=.int .i64 i∧Aside (K7 wr w.heap.size (mixD x y s i))∧Aside (K7 wr (w.heap.size+1) y)∧Aside (K7 wr (w.heap.size+1+1) ⟨0,0,0,0,0,0,0⟩)∧Aside (Below w.heap.size w wr)∧Aside (w.heap.size+3≤wr.heap.size))
   case atStart=>exact ⟨0,by omega,by omega,rfl,HL1.out,HL2.out,HL3.out,HBw.out,by show _≤_; omega⟩
   case round=>
    obtain ⟨i,hi,hgg,rfl,HC1,HC2,HC3,HB,HSZ⟩:=hrel
    by_cases hlt:i<7
    ·have hltz:(i:Int)<7:=by omega
     rcases (show i=0∨i=1∨i=2∨i=3∨i=4∨i=5∨i=6 by omega)with rfl|rfl|rfl|rfl|rfl|rfl|rfl
     ·have c1:=HC1.out.cells.1.1
      have cf:=HC1.out.cells.2.1 0
      have c2:=HC2.out.cells.1.1
      have c1':wr.cell? ⟨w.heap.size,0,none⟩=some (.int .i64 x.a):=c1
      have e1:IntKind.i64.wrap (s*y.a)=s*y.a:=by have:=HM.out y.a HY.out.1; exact wrap_small (by omega)
      have e2:IntKind.i64.wrap (x.a+s*y.a)=x.a+s*y.a:=by have:=HM.out y.a HY.out.1; have:=HX.out.1; exact wrap_small (by omega)
      clear c1;have HN1:=hid (HC1.out.set0 (x.a+s*y.a))
      have HN2:=hid (HC2.out.other (b':=w.heap.size) (o:=0) (.int .i64 (x.a+s*y.a)) (by omega))
      have HN3:=hid (HC3.out.other (b':=w.heap.size) (o:=0) (.int .i64 (x.a+s*y.a)) (by omega))
      have HNB:=hid (HB.out.setCell (p:=⟨w.heap.size,0,none⟩) (Nat.le_refl _) (.int .i64 (x.a+s*y.a)))
      have HNS:Hid (w.heap.size+3≤(wr.setCell ⟨w.heap.size,0,none⟩ (.int .i64 (x.a+s*y.a))).heap.size):=by show _≤_; rw [World.size_setCell]; exact HSZ.out
      go_wp2_with fail;go_region
      all_goals
       go_wp2_with fail;go_roundg 6
       case measure=>omega
       case rel=>exact ⟨1,by omega,by omega,by go_num,HN1.out,HN2.out,HN3.out,bel_dr HNB.out,HNS.out⟩
     ·have c1:=HC1.out.cells.1.2.1
      have cf:=HC1.out.cells.2.1 1
      have c2:=HC2.out.cells.1.2.1
      have c1':wr.cell? ⟨w.heap.size,1,none⟩=some (.int .i64 x.b):=c1
      have e1:IntKind.i64.wrap (s*y.b)=s*y.b:=by have:=HM.out y.b HY.out.2.1; exact wrap_small (by omega)
      have e2:IntKind.i64.wrap (x.b+s*y.b)=x.b+s*y.b:=by have:=HM.out y.b HY.out.2.1; have:=HX.out.2.1; exact wrap_small (by omega)
      clear c1;have HN1:=hid (HC1.out.set1 (x.b+s*y.b))
      have HN2:=hid (HC2.out.other (b':=w.heap.size) (o:=1) (.int .i64 (x.b+s*y.b)) (by omega))
      have HN3:=hid (HC3.out.other (b':=w.heap.size) (o:=1) (.int .i64 (x.b+s*y.b)) (by omega))
      have HNB:=hid (HB.out.setCell (p:=⟨w.heap.size,1,none⟩) (Nat.le_refl _) (.int .i64 (x.b+s*y.b)))
      have HNS:Hid (w.heap.size+3≤(wr.setCell ⟨w.heap.size,1,none⟩ (.int .i64 (x.b+s*y.b))).heap.size):=by show _≤_; rw [World.size_setCell]; exact HSZ.out
      go_wp2_with fail;go_region
      all_goals
       go_wp2_with fail;go_roundg 5
       case measure=>omega
       case rel=>exact ⟨2,by omega,by omega,by go_num,HN1.out,HN2.out,HN3.out,bel_dr HNB.out,HNS.out⟩
     ·have c1:=HC1.out.cells.1.2.2.1
      have cf:=HC1.out.cells.2.1 2
      have c2:=HC2.out.cells.1.2.2.1
      have c1':wr.cell? ⟨w.heap.size,2,none⟩=some (.int .i64 x.c):=c1
      have e1:IntKind.i64.wrap (s*y.c)=s*y.c:=by have:=HM.out y.c HY.out.2.2.1; exact wrap_small (by omega)
      have e2:IntKind.i64.wrap (x.c+s*y.c)=x.c+s*y.c:=by have:=HM.out y.c HY.out.2.2.1; have:=HX.out.2.2.1; exact wrap_small (by omega)
      clear c1;have HN1:=hid (HC1.out.set2 (x.c+s*y.c))
      have HN2:=hid (HC2.out.other (b':=w.heap.size) (o:=2) (.int .i64 (x.c+s*y.c)) (by omega))
      have HN3:=hid (HC3.out.other (b':=w.heap.size) (o:=2) (.int .i64 (x.c+s*y.c)) (by omega))
      have HNB:=hid (HB.out.setCell (p:=⟨w.heap.size,2,none⟩) (Nat.le_refl _) (.int .i64 (x.c+s*y.c)))
      have HNS:Hid (w.heap.size+3≤(wr.setCell ⟨w.heap.size,2,none⟩ (.int .i64 (x.c+s*y.c))).heap.size):=by show _≤_; rw [World.size_setCell]; exact HSZ.out
      go_wp2_with fail;go_region
      all_goals
       go_wp2_with fail;go_roundg 4
       case measure=>omega
       case rel=>exact ⟨3,by omega,by omega,by go_num,HN1.out,HN2.out,HN3.out,bel_dr HNB.out,HNS.out⟩
     ·have c1:=HC1.out.cells.1.2.2.2.1
      have cf:=HC1.out.cells.2.1 3
      have c2:=HC2.out.cells.1.2.2.2.1
      have c1':wr.cell? ⟨w.heap.size,3,none⟩=some (.int .i64 x.d):=c1
      have e1:IntKind.i64.wrap (s*y.d)=s*y.d:=by have:=HM.out y.d HY.out.2.2.2.1; exact wrap_small (by omega)
      have e2:IntKind.i64.wrap (x.d+s*y.d)=x.d+s*y.d:=by have:=HM.out y.d HY.out.2.2.2.1; have:=HX.out.2.2.2.1; exact wrap_small (by omega)
      clear c1;have HN1:=hid (HC1.out.set3 (x.d+s*y.d))
      have HN2:=hid (HC2.out.other (b':=w.heap.size) (o:=3) (.int .i64 (x.d+s*y.d)) (by omega))
      have HN3:=hid (HC3.out.other (b':=w.heap.size) (o:=3) (.int .i64 (x.d+s*y.d)) (by omega))
      have HNB:=hid (HB.out.setCell (p:=⟨w.heap.size,3,none⟩) (Nat.le_refl _) (.int .i64 (x.d+s*y.d)))
      have HNS:Hid (w.heap.size+3≤(wr.setCell ⟨w.heap.size,3,none⟩ (.int .i64 (x.d+s*y.d))).heap.size):=by show _≤_; rw [World.size_setCell]; exact HSZ.out
      go_wp2_with fail;go_region
      all_goals
       go_wp2_with fail;go_roundg 3
       case measure=>omega
       case rel=>exact ⟨4,by omega,by omega,by go_num,HN1.out,HN2.out,HN3.out,bel_dr HNB.out,HNS.out⟩
     ·have c1:=HC1.out.cells.1.2.2.2.2.1
      have cf:=HC1.out.cells.2.1 4
      have c2:=HC2.out.cells.1.2.2.2.2.1
      have c1':wr.cell? ⟨w.heap.size,4,none⟩=some (.int .i64 x.e):=c1
      have e1:IntKind.i64.wrap (s*y.e)=s*y.e:=by have:=HM.out y.e HY.out.2.2.2.2.1; exact wrap_small (by omega)
      have e2:IntKind.i64.wrap (x.e+s*y.e)=x.e+s*y.e:=by have:=HM.out y.e HY.out.2.2.2.2.1; have:=HX.out.2.2.2.2.1; exact wrap_small (by omega)
      clear c1;have HN1:=hid (HC1.out.set4 (x.e+s*y.e))
      have HN2:=hid (HC2.out.other (b':=w.heap.size) (o:=4) (.int .i64 (x.e+s*y.e)) (by omega))
      have HN3:=hid (HC3.out.other (b':=w.heap.size) (o:=4) (.int .i64 (x.e+s*y.e)) (by omega))
      have HNB:=hid (HB.out.setCell (p:=⟨w.heap.size,4,none⟩) (Nat.le_refl _) (.int .i64 (x.e+s*y.e)))
      have HNS:Hid (w.heap.size+3≤(wr.setCell ⟨w.heap.size,4,none⟩ (.int .i64 (x.e+s*y.e))).heap.size):=by show _≤_; rw [World.size_setCell]; exact HSZ.out
      go_wp2_with fail;go_region
      all_goals
       go_wp2_with fail;go_roundg 2
       case measure=>omega
       case rel=>exact ⟨5,by omega,by omega,by go_num,HN1.out,HN2.out,HN3.out,bel_dr HNB.out,HNS.out⟩
     ·have c1:=HC1.out.cells.1.2.2.2.2.2.1
      have cf:=HC1.out.cells.2.1 5
      have c2:=HC2.out.cells.1.2.2.2.2.2.1
      have c1':wr.cell? ⟨w.heap.size,5,none⟩=some (.int .i64 x.f):=c1
      have e1:IntKind.i64.wrap (s*y.f)=s*y.f:=by have:=HM.out y.f HY.out.2.2.2.2.2.1; exact wrap_small (by omega)
      have e2:IntKind.i64.wrap (x.f+s*y.f)=x.f+s*y.f:=by have:=HM.out y.f HY.out.2.2.2.2.2.1; have:=HX.out.2.2.2.2.2.1; exact wrap_small (by omega)
      clear c1;have HN1:=hid (HC1.out.set5 (x.f+s*y.f))
      have HN2:=hid (HC2.out.other (b':=w.heap.size) (o:=5) (.int .i64 (x.f+s*y.f)) (by omega))
      have HN3:=hid (HC3.out.other (b':=w.heap.size) (o:=5) (.int .i64 (x.f+s*y.f)) (by omega))
      have HNB:=hid (HB.out.setCell (p:=⟨w.heap.size,5,none⟩) (Nat.le_refl _) (.int .i64 (x.f+s*y.f)))
      have HNS:Hid (w.heap.size+3≤(wr.setCell ⟨w.heap.size,5,none⟩ (.int .i64 (x.f+s*y.f))).heap.size):=by show _≤_; rw [World.size_setCell]; exact HSZ.out
      go_wp2_with fail;go_region
      all_goals
       go_wp2_with fail;go_roundg 1
       case measure=>omega
       case rel=>exact ⟨6,by omega,by omega,by go_num,HN1.out,HN2.out,HN3.out,bel_dr HNB.out,HNS.out⟩
     ·have c1:=HC1.out.cells.1.2.2.2.2.2.2
      have cf:=HC1.out.cells.2.1 6
      have c2:=HC2.out.cells.1.2.2.2.2.2.2
      have c1':wr.cell? ⟨w.heap.size,6,none⟩=some (.int .i64 x.g):=c1
      have e1:IntKind.i64.wrap (s*y.g)=s*y.g:=by have:=HM.out y.g HY.out.2.2.2.2.2.2; exact wrap_small (by omega)
      have e2:IntKind.i64.wrap (x.g+s*y.g)=x.g+s*y.g:=by have:=HM.out y.g HY.out.2.2.2.2.2.2; have:=HX.out.2.2.2.2.2.2; exact wrap_small (by omega)
      clear c1;have HN1:=hid (HC1.out.set6 (x.g+s*y.g))
      have HN2:=hid (HC2.out.other (b':=w.heap.size) (o:=6) (.int .i64 (x.g+s*y.g)) (by omega))
      have HN3:=hid (HC3.out.other (b':=w.heap.size) (o:=6) (.int .i64 (x.g+s*y.g)) (by omega))
      have HNB:=hid (HB.out.setCell (p:=⟨w.heap.size,6,none⟩) (Nat.le_refl _) (.int .i64 (x.g+s*y.g)))
      have HNS:Hid (w.heap.size+3≤(wr.setCell ⟨w.heap.size,6,none⟩ (.int .i64 (x.g+s*y.g))).heap.size):=by show _≤_; rw [World.size_setCell]; exact HSZ.out
      go_wp2_with fail;go_region
      all_goals
       go_wp2_with fail;go_roundg 0
       case measure=>omega
       case rel=>exact ⟨7,by omega,by omega,by go_num,HN1.out,HN2.out,HN3.out,bel_dr HNB.out,HNS.out⟩
    ·have hltz:¬ (i:Int)<7:=by omega
     have e7:i=7:=by omega
     subst e7;have hc1:K7 wr w.heap.size ⟨x.a+s*y.a,x.b+s*y.b,x.c+s*y.c,x.d+s*y.d,x.e+s*y.e,x.f+s*y.f,x.g+s*y.g⟩:=HC1.out
     obtain ⟨⟨p0,p1,p2,p3,p4,p5,p6⟩,_,_⟩:=hc1.cells
     have HK:=hid hc1
     clear hc1;go_wp2_with fail;refine (HV3.out wr).mono ?_
     rintro e w5 ⟨rfl,hb5⟩
     have HB5:=hid (HB.out.trans (hb5.mono HB.out.size))
     obtain ⟨⟨z0,z1,z2,z3,z4,z5,z6⟩,zf,_⟩:=(HC3.out.reach hb5).cells
     have HK5:=hid (HK.out.reach hb5)
     clear hb5 p0 p1 p2 p3 p4 p5 p6;cases h3:(⟨x.a+s*y.a,x.b+s*y.b,x.c+s*y.c,x.d+s*y.d,x.e+s*y.e,x.f+s*y.f,x.g+s*y.g⟩:Dm).ok with
     | false=>
      have HR:Hid (combQ x y s=(zD,2)):=HE2.out.trans (by rw [h3]; simp)
      clear h3;go_wp2_with fail;rw [HR.out];refine bodyPost_ret (v:=.tuple #[.agg zD.cells,.int .i64 2]) (by simp [results,Tryz.results163,go_sem,Dm.cells,zD,z0,z1,z2,z3,z4,z5,z6]) rfl ⟨rfl,?_⟩
      exact below7 (B:=w.heap.size) HB5.out (b:=w.heap.size+1+1) (by omega) zD
     | true=>
      have HR:Hid (combQ x y s=(⟨x.a+s*y.a,x.b+s*y.b,x.c+s*y.c,x.d+s*y.d,x.e+s*y.e,x.f+s*y.f,x.g+s*y.g⟩,0)):=HE2.out.trans (by rw [h3]; simp)
      obtain ⟨⟨p0,p1,p2,p3,p4,p5,p6⟩,_,_⟩:=HK5.out.cells
      clear h3;go_wp2_with fail;rw [HR.out];refine bodyPost_ret (v:=.tuple #[.agg (Dm.cells ⟨x.a+s*y.a,x.b+s*y.b,x.c+s*y.c,x.d+s*y.d,x.e+s*y.e,x.f+s*y.f,x.g+s*y.g⟩),.int .i64 0]) (by simp [results,Tryz.results163,go_sem,Dm.cells,z0,z1,z2,z3,z4,z5,z6]) rfl ⟨rfl,?_⟩
      exact below7 (B:=w.heap.size) HB5.out (b:=w.heap.size+1+1) (by omega) ⟨x.a+s*y.a,x.b+s*y.b,x.c+s*y.c,x.d+s*y.d,x.e+s*y.e,x.f+s*y.f,x.g+s*y.g⟩
set_option maxRecDepth 100000 in
set_option maxHeartbeats 2000000 in
theorem eq42 (x y:Dm)(w:World):(Op.equalIn 10000 42 (.agg #[.int .i64 x.a,.int .i64 x.b,.int .i64 x.c,.int .i64 x.d,.int .i64 x.e,.int .i64 x.f,.int .i64 x.g]) (.agg #[.int .i64 y.a,.int .i64 y.b,.int .i64 y.c,.int .i64 y.d,.int .i64 y.e,.int .i64 y.f,.int .i64 y.g])).run Tryz.prog w=.ok (decide (x=y)) w:=by
 have u3:=Tryz.underlying3
 have a3:=Tryz.isAgg3
 have z3:=Tryz.sizeOf3
 have hxy:decide (x=y)=(decide (x.a=y.a)&&(decide (x.b=y.b)&&(decide (x.c=y.c)&&(decide (x.d=y.d)&&(decide (x.e=y.e)&&(decide (x.f=y.f)&&decide (x.g=y.g))))))):=by
  cases x; cases y
  simp
 rw [hxy];clear hxy;generalize x.a=xa;generalize x.b=xb;generalize x.c=xc;generalize x.d=xd;generalize x.e=xe;generalize x.f=xf;generalize x.g=xg;generalize y.a=ya;generalize y.b=yb;generalize y.c=yc;generalize y.d=yd;generalize y.e=ye;generalize y.f=yf;generalize y.g=yg;rw [show (10000:Nat)=9999+1 from rfl,Op.equalIn]
 simp only [Sem.run_bind,run_underlying Tryz.underlying42,Result.andThen_ok];simp only [Std.Legacy.Range.forIn_eq_forIn_range',Std.Legacy.Range.size,Nat.sub_zero,Nat.add_sub_cancel,Nat.div_one,List.range'_succ,List.range'_zero,List.forIn_cons,List.forIn_nil];go_simp
 by_cases h0:xa=ya
 ·by_cases h1:xb=yb
  ·by_cases h2:xc=yc
   ·by_cases h3:xd=yd
    ·by_cases h4:xe=ye
     ·by_cases h5:xf=yf
      ·by_cases h6:xg=yg
       ·simp [h0,h1,h2,h3,h4,h5,h6]
       ·simp [h0,h1,h2,h3,h4,h5,h6]
      ·simp [h0,h1,h2,h3,h4,h5]
     ·simp [h0,h1,h2,h3,h4]
    ·simp [h0,h1,h2,h3]
   ·simp [h0,h1,h2]
  ·simp [h0,h1]
 ·simp [h0]
end Go.Proofs.YtknpigdpepmimaaGreatDoor
