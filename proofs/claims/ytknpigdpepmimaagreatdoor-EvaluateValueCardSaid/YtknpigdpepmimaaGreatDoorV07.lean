/- Lemmas for regions in which a block is laid at any time beside calls. -/
import Derived.Deep.RegionHeldLaw
import Derived.Deep.CutBlock
import Derived.Deep.DeepCutAuto
import Derived.Laws.IdiomStrings
import Derived.Test.YtknpigdpepmimaaGreatDoorV04
import Derived.Test.YtknpigdpepmimaaGreatDoorV05
import Derived.Test.YtknpigdpepmimaaGreatDoorV06
import Derived.RangeFuncBound
import Derived.Deep.Onto
import Derived.Maps.Own
import Derived.Maps.Keyed
import Derived.Deep.RegionLawGrows
import Derived.Maps.AppendAt
import Derived.Deep.RegionHeld3
import Derived.Maps.OwnSet
import Derived.Carry
import Derived.Deep.AppendLies
import Derived.BigQuiet
namespace Go.Proofs.YtknpigdpepmimaaGreatDoor
open Go.Lib(hid)
open Go.RowKit
theorem bl_al {w0 w:World}(h:Below w0.heap.size w0 w)(o:Obj):Below w0.heap.size w0 (w.alloc o):=h.alloc h.size _
theorem bl_dr {w0 w:World}(h:Below w0.heap.size w0 w):Below w0.heap.size w0 w.drew:=bel_dr h
theorem bl_tr {w0 w w':World}(h:Below w0.heap.size w0 w)(h2:Below w.heap.size w w'):Below w0.heap.size w0 w':=h.trans (h2.mono h.size)
theorem bl_st {w0 w:World}(h:Below w0.heap.size w0 w){p i:Nat}(hp:w0.heap.size≤p) (v:Value):Below w0.heap.size w0 (w.setCell ⟨p,i,none⟩ v):=h.setCell (p:=⟨p,i,none⟩) hp v
def P2 (w0 w:World) (p:Nat)(x y:Int):Prop:=K2 w p x y∧w0.heap.size≤p
theorem P2.new {w0 w:World}(h:Below w0.heap.size w0 w)(x y:Int):P2 w0 (w.alloc (.cells #[.int .i64 x,.int .i64 y] 57)) w.heap.size x y:=⟨K2.new w x y,h.size⟩
theorem P2.reach {w0 w w':World}{p:Nat}{x y:Int}(h:P2 w0 w p x y)(hb:Below w.heap.size w w'):P2 w0 w' p x y:=⟨h.1.reach hb,h.2⟩
theorem P2.dr {w0 w:World}{p:Nat}{x y:Int}(h:P2 w0 w p x y):P2 w0 w.drew p x y:=h
theorem P2.set {w0 w:World}{p:Nat}{x y:Int}(h:P2 w0 w p x y)(n d:Int):P2 w0 ((w.setCell ⟨p,0,none⟩ (.int .i64 n)).setCell ⟨p,1,none⟩ (.int .i64 d)) p n d:=by
 refine ⟨?_,h.2⟩
 have h1:=h.1
 unfold K2 at h1 ⊢
 have e1:(w.setCell ⟨p,0,none⟩ (.int .i64 n)).heap[p]?=some (.cells #[.int .i64 n,.int .i64 y] 57 (0,0)):=by
  show (w.heap.modify p _)[p]?=_
  rw [Array.getElem?_modify,if_pos rfl,h1];rfl
 show ((w.setCell ⟨p,0,none⟩ (.int .i64 n)).heap.modify p _)[p]?=_
 rw [Array.getElem?_modify,if_pos rfl,e1];rfl
def P7 (w0 w:World) (p:Nat)(x:Dm):Prop:=K7 w p x∧w0.heap.size≤p
theorem P7.new {w0 w:World}(h:Below w0.heap.size w0 w)(x:Dm):P7 w0 (w.alloc (.cells #[.int .i64 x.a,.int .i64 x.b,.int .i64 x.c,.int .i64 x.d,.int .i64 x.e,.int .i64 x.f,.int .i64 x.g] 42)) w.heap.size x:=⟨K7.new w x,h.size⟩
theorem P7.reach {w0 w w':World}{p:Nat}{x:Dm}(h:P7 w0 w p x)(hb:Below w.heap.size w w'):P7 w0 w' p x:=⟨h.1.reach hb,h.2⟩
theorem P7.dr {w0 w:World}{p:Nat}{x:Dm}(h:P7 w0 w p x):P7 w0 w.drew p x:=h
theorem P7.set {w0 w:World}{p:Nat}{x:Dm}(h:P7 w0 w p x)(y:Dm):P7 w0 (set7 w p y) p y:=
 ⟨((((((h.1.set0 y.a).set1 y.b).set2 y.c).set3 y.d).set4 y.e).set5 y.f).set6 y.g,h.2⟩
def P9 (w0 w:World) (p:Nat)(x:V):Prop:=K9 w p x∧w0.heap.size≤p
theorem P9.new {w0 w:World}(h:Below w0.heap.size w0 w)(x:V):P9 w0 (w.alloc (.cells #[.int .i64 x.num,.int .i64 x.den,.int .i64 x.dim.a,.int .i64 x.dim.b,.int .i64 x.dim.c,.int .i64 x.dim.d,.int .i64 x.dim.e,.int .i64 x.dim.f,.int .i64 x.dim.g] 44)) w.heap.size x:=⟨K9.new w x,h.size⟩
theorem P9.reach {w0 w w':World}{p:Nat}{x:V}(h:P9 w0 w p x)(hb:Below w.heap.size w w'):P9 w0 w' p x:=⟨h.1.reach hb,h.2⟩
theorem P9.dr {w0 w:World}{p:Nat}{x:V}(h:P9 w0 w p x):P9 w0 w.drew p x:=h
theorem P7.sets {w0 w:World}{p:Nat}{x:Dm}(h:P7 w0 w p x)(y:Dm):P7 w0 (((((((w.setCell ⟨p,0,none⟩ (.int .i64 y.a)).setCell ⟨p,1,none⟩ (.int .i64 y.b)).setCell ⟨p,2,none⟩ (.int .i64 y.c)).setCell ⟨p,3,none⟩ (.int .i64 y.d)).setCell ⟨p,4,none⟩ (.int .i64 y.e)).setCell ⟨p,5,none⟩ (.int .i64 y.f)).setCell ⟨p,6,none⟩ (.int .i64 y.g)) p y:=P7.set h y
theorem S18 {w w':World}{b o:Nat}{x y:V}(h1:C9 w b o x)(h2:C9 w b (o+9) y)(hb:Below w.heap.size w w'):(w'.cell? ⟨b,o,none⟩=some (.int .i64 x.num)∧w'.cell? ⟨b,o+1,none⟩=some (.int .i64 x.den)∧w'.cell? ⟨b,o+2,none⟩=some (.int .i64 x.dim.a)∧w'.cell? ⟨b,o+3,none⟩=some (.int .i64 x.dim.b)∧w'.cell? ⟨b,o+4,none⟩=some (.int .i64 x.dim.c)∧w'.cell? ⟨b,o+5,none⟩=some (.int .i64 x.dim.d)∧w'.cell? ⟨b,o+6,none⟩=some (.int .i64 x.dim.e)∧w'.cell? ⟨b,o+7,none⟩=some (.int .i64 x.dim.f)∧w'.cell? ⟨b,o+8,none⟩=some (.int .i64 x.dim.g))∧(w'.cell? ⟨b,o+9,none⟩=some (.int .i64 y.num)∧w'.cell? ⟨b,o+9+1,none⟩=some (.int .i64 y.den)∧w'.cell? ⟨b,o+9+2,none⟩=some (.int .i64 y.dim.a)∧w'.cell? ⟨b,o+9+3,none⟩=some (.int .i64 y.dim.b)∧w'.cell? ⟨b,o+9+4,none⟩=some (.int .i64 y.dim.c)∧w'.cell? ⟨b,o+9+5,none⟩=some (.int .i64 y.dim.d)∧w'.cell? ⟨b,o+9+6,none⟩=some (.int .i64 y.dim.e)∧w'.cell? ⟨b,o+9+7,none⟩=some (.int .i64 y.dim.f)∧w'.cell? ⟨b,o+9+8,none⟩=some (.int .i64 y.dim.g)):=by
 have e1:=h1.reach hb
 have e2:=h2.reach hb
 exact ⟨⟨e1.1.1,e1.1.2,e1.2⟩,e2.1.1,e2.1.2,e2.2⟩
theorem T18 {w w':World}{p q:Nat}{x y:V}(h1:K9 w p x)(h2:K9 w q y)(hb:Below w.heap.size w w'):(w'.cell? ⟨p,0,none⟩=some (.int .i64 x.num)∧w'.cell? ⟨p,0+1,none⟩=some (.int .i64 x.den)∧w'.cell? ⟨p,0+2,none⟩=some (.int .i64 x.dim.a)∧w'.cell? ⟨p,0+3,none⟩=some (.int .i64 x.dim.b)∧w'.cell? ⟨p,0+4,none⟩=some (.int .i64 x.dim.c)∧w'.cell? ⟨p,0+5,none⟩=some (.int .i64 x.dim.d)∧w'.cell? ⟨p,0+6,none⟩=some (.int .i64 x.dim.e)∧w'.cell? ⟨p,0+7,none⟩=some (.int .i64 x.dim.f)∧w'.cell? ⟨p,0+8,none⟩=some (.int .i64 x.dim.g))∧(w'.cell? ⟨q,0,none⟩=some (.int .i64 y.num)∧w'.cell? ⟨q,0+1,none⟩=some (.int .i64 y.den)∧w'.cell? ⟨q,0+2,none⟩=some (.int .i64 y.dim.a)∧w'.cell? ⟨q,0+3,none⟩=some (.int .i64 y.dim.b)∧w'.cell? ⟨q,0+4,none⟩=some (.int .i64 y.dim.c)∧w'.cell? ⟨q,0+5,none⟩=some (.int .i64 y.dim.d)∧w'.cell? ⟨q,0+6,none⟩=some (.int .i64 y.dim.e)∧w'.cell? ⟨q,0+7,none⟩=some (.int .i64 y.dim.f)∧w'.cell? ⟨q,0+8,none⟩=some (.int .i64 y.dim.g)):=by
 have e1:=(h1.reach hb).cells.1
 have e2:=(h2.reach hb).cells.1
 exact ⟨⟨e1.1.1,e1.1.2,e1.2⟩,e2.1.1,e2.1.2,e2.2⟩
theorem S27 {w w':World}{m b o:Nat}{n d:Int}{x:V}(h1:K2 w m n d)(h2:C9 w b o x)(hb:Below w.heap.size w w'):(w'.cell? ⟨m,0,none⟩=some (.int .i64 n)∧w'.cell? ⟨m,1,none⟩=some (.int .i64 d))∧(w'.cell? ⟨b,o+2,none⟩=some (.int .i64 x.dim.a)∧w'.cell? ⟨b,o+3,none⟩=some (.int .i64 x.dim.b)∧w'.cell? ⟨b,o+4,none⟩=some (.int .i64 x.dim.c)∧w'.cell? ⟨b,o+5,none⟩=some (.int .i64 x.dim.d)∧w'.cell? ⟨b,o+6,none⟩=some (.int .i64 x.dim.e)∧w'.cell? ⟨b,o+7,none⟩=some (.int .i64 x.dim.f)∧w'.cell? ⟨b,o+8,none⟩=some (.int .i64 x.dim.g)):=
 ⟨(h1.reach hb).cells.1,(h2.reach hb).2⟩
theorem wrap64_small {n:Int}(h:-9223372036854775808≤n)(h2:n≤9223372036854775807):IntKind.i64.wrap n=n:=IntWalk.i64_in _ (by omega)
theorem set9_other (w:World) (p:Nat)(y:V) (k:Nat)(h:k≠p):(set9 w p y).heap[k]?=w.heap[k]?:=by
 unfold set9;rw [Below.heap_setCell _ ⟨p,8,none⟩ _ k h,Below.heap_setCell _ ⟨p,7,none⟩ _ k h,Below.heap_setCell _ ⟨p,6,none⟩ _ k h,Below.heap_setCell _ ⟨p,5,none⟩ _ k h,Below.heap_setCell _ ⟨p,4,none⟩ _ k h,Below.heap_setCell _ ⟨p,3,none⟩ _ k h,Below.heap_setCell _ ⟨p,2,none⟩ _ k h,Below.heap_setCell _ ⟨p,1,none⟩ _ k h,Below.heap_setCell _ ⟨p,0,none⟩ _ k h]
theorem S27s {w w':World}{m b o p:Nat}{n d:Int}{x y:V}(h1:K2 w m n d)(h2:C9 w b o x)(hb:Below w.heap.size w w')(hm:m≠p)(hp:b≠p):((((((((((w'.setCell ⟨p,0,none⟩ (.int .i64 y.num)).setCell ⟨p,1,none⟩ (.int .i64 y.den)).setCell ⟨p,2,none⟩ (.int .i64 y.dim.a)).setCell ⟨p,3,none⟩ (.int .i64 y.dim.b)).setCell ⟨p,4,none⟩ (.int .i64 y.dim.c)).setCell ⟨p,5,none⟩ (.int .i64 y.dim.d)).setCell ⟨p,6,none⟩ (.int .i64 y.dim.e)).setCell ⟨p,7,none⟩ (.int .i64 y.dim.f)).setCell ⟨p,8,none⟩ (.int .i64 y.dim.g)).cell? ⟨m,0,none⟩=some (.int .i64 n)∧(((((((((w'.setCell ⟨p,0,none⟩ (.int .i64 y.num)).setCell ⟨p,1,none⟩ (.int .i64 y.den)).setCell ⟨p,2,none⟩ (.int .i64 y.dim.a)).setCell ⟨p,3,none⟩ (.int .i64 y.dim.b)).setCell ⟨p,4,none⟩ (.int .i64 y.dim.c)).setCell ⟨p,5,none⟩ (.int .i64 y.dim.d)).setCell ⟨p,6,none⟩ (.int .i64 y.dim.e)).setCell ⟨p,7,none⟩ (.int .i64 y.dim.f)).setCell ⟨p,8,none⟩ (.int .i64 y.dim.g)).cell? ⟨m,1,none⟩=some (.int .i64 d))∧((((((((((w'.setCell ⟨p,0,none⟩ (.int .i64 y.num)).setCell ⟨p,1,none⟩ (.int .i64 y.den)).setCell ⟨p,2,none⟩ (.int .i64 y.dim.a)).setCell ⟨p,3,none⟩ (.int .i64 y.dim.b)).setCell ⟨p,4,none⟩ (.int .i64 y.dim.c)).setCell ⟨p,5,none⟩ (.int .i64 y.dim.d)).setCell ⟨p,6,none⟩ (.int .i64 y.dim.e)).setCell ⟨p,7,none⟩ (.int .i64 y.dim.f)).setCell ⟨p,8,none⟩ (.int .i64 y.dim.g)).cell? ⟨b,o+2,none⟩=some (.int .i64 x.dim.a)∧(((((((((w'.setCell ⟨p,0,none⟩ (.int .i64 y.num)).setCell ⟨p,1,none⟩ (.int .i64 y.den)).setCell ⟨p,2,none⟩ (.int .i64 y.dim.a)).setCell ⟨p,3,none⟩ (.int .i64 y.dim.b)).setCell ⟨p,4,none⟩ (.int .i64 y.dim.c)).setCell ⟨p,5,none⟩ (.int .i64 y.dim.d)).setCell ⟨p,6,none⟩ (.int .i64 y.dim.e)).setCell ⟨p,7,none⟩ (.int .i64 y.dim.f)).setCell ⟨p,8,none⟩ (.int .i64 y.dim.g)).cell? ⟨b,o+3,none⟩=some (.int .i64 x.dim.b)∧(((((((((w'.setCell ⟨p,0,none⟩ (.int .i64 y.num)).setCell ⟨p,1,none⟩ (.int .i64 y.den)).setCell ⟨p,2,none⟩ (.int .i64 y.dim.a)).setCell ⟨p,3,none⟩ (.int .i64 y.dim.b)).setCell ⟨p,4,none⟩ (.int .i64 y.dim.c)).setCell ⟨p,5,none⟩ (.int .i64 y.dim.d)).setCell ⟨p,6,none⟩ (.int .i64 y.dim.e)).setCell ⟨p,7,none⟩ (.int .i64 y.dim.f)).setCell ⟨p,8,none⟩ (.int .i64 y.dim.g)).cell? ⟨b,o+4,none⟩=some (.int .i64 x.dim.c)∧(((((((((w'.setCell ⟨p,0,none⟩ (.int .i64 y.num)).setCell ⟨p,1,none⟩ (.int .i64 y.den)).setCell ⟨p,2,none⟩ (.int .i64 y.dim.a)).setCell ⟨p,3,none⟩ (.int .i64 y.dim.b)).setCell ⟨p,4,none⟩ (.int .i64 y.dim.c)).setCell ⟨p,5,none⟩ (.int .i64 y.dim.d)).setCell ⟨p,6,none⟩ (.int .i64 y.dim.e)).setCell ⟨p,7,none⟩ (.int .i64 y.dim.f)).setCell ⟨p,8,none⟩ (.int .i64 y.dim.g)).cell? ⟨b,o+5,none⟩=some (.int .i64 x.dim.d)∧(((((((((w'.setCell ⟨p,0,none⟩ (.int .i64 y.num)).setCell ⟨p,1,none⟩ (.int .i64 y.den)).setCell ⟨p,2,none⟩ (.int .i64 y.dim.a)).setCell ⟨p,3,none⟩ (.int .i64 y.dim.b)).setCell ⟨p,4,none⟩ (.int .i64 y.dim.c)).setCell ⟨p,5,none⟩ (.int .i64 y.dim.d)).setCell ⟨p,6,none⟩ (.int .i64 y.dim.e)).setCell ⟨p,7,none⟩ (.int .i64 y.dim.f)).setCell ⟨p,8,none⟩ (.int .i64 y.dim.g)).cell? ⟨b,o+6,none⟩=some (.int .i64 x.dim.e)∧(((((((((w'.setCell ⟨p,0,none⟩ (.int .i64 y.num)).setCell ⟨p,1,none⟩ (.int .i64 y.den)).setCell ⟨p,2,none⟩ (.int .i64 y.dim.a)).setCell ⟨p,3,none⟩ (.int .i64 y.dim.b)).setCell ⟨p,4,none⟩ (.int .i64 y.dim.c)).setCell ⟨p,5,none⟩ (.int .i64 y.dim.d)).setCell ⟨p,6,none⟩ (.int .i64 y.dim.e)).setCell ⟨p,7,none⟩ (.int .i64 y.dim.f)).setCell ⟨p,8,none⟩ (.int .i64 y.dim.g)).cell? ⟨b,o+7,none⟩=some (.int .i64 x.dim.f)∧(((((((((w'.setCell ⟨p,0,none⟩ (.int .i64 y.num)).setCell ⟨p,1,none⟩ (.int .i64 y.den)).setCell ⟨p,2,none⟩ (.int .i64 y.dim.a)).setCell ⟨p,3,none⟩ (.int .i64 y.dim.b)).setCell ⟨p,4,none⟩ (.int .i64 y.dim.c)).setCell ⟨p,5,none⟩ (.int .i64 y.dim.d)).setCell ⟨p,6,none⟩ (.int .i64 y.dim.e)).setCell ⟨p,7,none⟩ (.int .i64 y.dim.f)).setCell ⟨p,8,none⟩ (.int .i64 y.dim.g)).cell? ⟨b,o+8,none⟩=some (.int .i64 x.dim.g)):=
 ⟨(show K2 (set9 w' p y) m n d from (set9_other w' p y m hm).trans (h1.reach hb)).cells.1,((h2.reach hb).block (set9_other w' p y b hp)).2⟩
theorem V.ok.bnd {v:V}(h:v.ok):-9223372036854775808≤v.num∧v.num≤9223372036854775807∧-9223372036854775808≤v.den∧v.den≤9223372036854775807:=by
 have:=(Q.valid_iff _ _).1 h.1
 omega
theorem below_drF {B:Nat}{w0 w:World}(h:Below B w0 w):Below B w0 w.drew:=⟨h.os,h.tape,h.output,h.size,h.block⟩
theorem addr_addF (b o i:Nat):(⟨b,o,none⟩:Addr).add i=⟨b,o+i,none⟩:=by
 unfold Addr.add; split
 ·simp [*]
 ·rfl
end Go.Proofs.YtknpigdpepmimaaGreatDoor
namespace Go.Proofs.YtknpigdpepmimaaGreatDoor
open Go.Lib(hid)
end Go.Proofs.YtknpigdpepmimaaGreatDoor
namespace Go.Proofs.YtknpigdpepmimaaGreatDoor
open Go.Lib(hid)
open Go.RowKit
def SL (w:World) (B:Nat) (v:Value)(l:List (List UInt8)):Prop:=
 ∃ A c,v=.slice A l.length c∧(l.length≤c∧c≤9223372036854775807)∧(l≠[]→∃ b o,A=some ⟨b,o,none⟩∧b<B∧∀ j (h:j<l.length),w.cell? ⟨b,o+j,none⟩=some (.string ⟨(l[j]).toArray⟩))
theorem SL.below {w w':World}{B:Nat}{v:Value}{l:List (List UInt8)}(h:SL w B v l)(hb:Below B w w'):SL w' B v l:=by
 obtain ⟨A,c,h1,h2,h3⟩:=h
 refine ⟨A,c,h1,h2,fun hne=>?_⟩
 obtain ⟨b,o,h4,h5,h6⟩:=h3 hne
 exact ⟨b,o,h4,h5,fun j hj=>(hb.cell (p:=⟨b,_,none⟩) h5).trans (h6 j hj)⟩
theorem SL.more {w:World}{B B':Nat}{v:Value}{l:List (List UInt8)}(h:SL w B v l)(hB:B≤B'):SL w B' v l:=by
 obtain ⟨A,c,h1,h2,h3⟩:=h
 refine ⟨A,c,h1,h2,fun hne=>?_⟩
 obtain ⟨b,o,h4,h5,h6⟩:=h3 hne
 exact ⟨b,o,h4,by omega,h6⟩
def isLn (c:Nat):Bool:=(decide (97≤c)&&decide (c≤122))||(decide (65≤c)&&decide (c≤90))
def ltrN (c:Nat):Int:=if 97≤c∧c≤122 then (c:Int)-97 else if 65≤c∧c≤90 then (c:Int)-39 else -1
set_option maxHeartbeats 1000000 in
theorem letter72_nat (c:Nat)(w:World)(hc:c<256):Calls Tryz.prog 112 #[.int .u8 c] w fun e w'=>e=.returned (.bool (isLn c))∧w=w':=by
 have HI:Hid (isLn c=((decide (97≤c)&&decide (c≤122))||(decide (65≤c)&&decide (c≤90)))):=rfl
 by_cases h1:(97:Int)≤(c:Int)<;>by_cases h2:(c:Int)≤122<;>by_cases h3:(65:Int)≤(c:Int)<;>by_cases h4:(c:Int)≤90<;>
 (go_enter Tryz.func112,Tryz.ntmps112
  go_wp2
  go_ret;refine ⟨ret_bool ?_,rfl⟩
  rw [HI.out,Bool.eq_iff_iff];simp
  omega)
set_option maxHeartbeats 1000000 in
theorem letter70_nat (c:Nat)(w:World)(hc:c<256):Calls Tryz.prog 110 #[.int .u8 c] w fun e w'=>e=.returned (.int .i64 (ltrN c))∧w=w':=by
 have HI:Hid (ltrN c=if 97≤c∧c≤122 then (c:Int)-97 else if 65≤c∧c≤90 then (c:Int)-39 else -1):=rfl
 by_cases h1:(97:Int)≤(c:Int)<;>by_cases h2:(c:Int)≤122<;>by_cases h3:(65:Int)≤(c:Int)<;>by_cases h4:(c:Int)≤90<;>
 (go_enter Tryz.func110,Tryz.ntmps110
  go_wp2
  go_ret;refine ⟨?_,rfl⟩
  rw [HI.out];refine congrArg Ending.returned (congrArg (Value.int .i64) ?_)
  (try simp only [intWrap])
  split<;>(try split)<;>omega)
set_option maxHeartbeats 1000000 in
theorem digit95_nat (c:Nat)(w:World)(hc:c<256):Calls Tryz.prog 160 #[.int .u8 c] w fun e w'=>e=.returned (.bool (decide (48≤c)&&decide (c≤57)))∧w=w':=by
 have HI:Hid ((decide (48≤c)&&decide (c≤57))=(decide (48≤(c:Int))&&decide ((c:Int)≤57))):=by show _=_; rw [Bool.eq_iff_iff]; simp; omega
 by_cases h1:(48:Int)≤(c:Int)<;>by_cases h2:(c:Int)≤57<;>
 (go_enter Tryz.func160,Tryz.ntmps160
  go_wp2
  go_ret;refine ⟨ret_bool ?_,rfl⟩
  rw [HI.out,Bool.eq_iff_iff];simp
  omega)
theorem ltrN_isL (c:UInt8):(isL c=true→0≤ltrN c.toNat)∧(isL c=false→ltrN c.toNat<0):=by
 unfold isL ltrN;by_cases h1:97≤c.toNat∧c.toNat≤122
 ·rw [if_pos h1]; simp; omega
 ·rw [if_neg h1]
  by_cases h2:65≤c.toNat∧c.toNat≤90
  ·rw [if_pos h2]; simp; omega
  ·rw [if_neg h2]; simp; omega
set_option maxHeartbeats 1000000 in
theorem letters50_any (s:ByteArray)(w:World)(hs:s.size≤1000):
  Calls Tryz.prog 64 #[.string s] w fun r w'=>r=.returned (.bool (wordB s.data.toList))∧w=w':=by
 go_enter Tryz.func64,Tryz.ntmps64;go_wp2_with fail;go_loop [3] (fun s3=>∃ kk:Nat,kk≤s.size∧s3=.int .i64 kk∧Aside (∀ (j:Nat)(hj:j<s.size),j<kk→isL s[j]=true)) (fun s3=>s.size-(intOf s3).toNat)
 case atStart=>exact ⟨0,Nat.zero_le _,rfl,fun j _ hj=>absurd hj (Nat.not_lt_zero _)⟩
 case round=>
  obtain ⟨kk,hkk,rfl,HA⟩:=hrel
  by_cases hlt:kk<s.size
  ·have hltz:(kk:Int)<(s.size:Int):=by omega
   have HZ:=hid (ltrN_isL s[kk])
   have HC:=hid (letter70_nat s[kk].toNat)
   generalize ltrN s[kk].toNat=x at*;cases hl:isL s[kk] with
   | false=>
    have HL:=hid hl
    have HP:Hid (wordB s.data.toList=false):=by show wordB s.data.toList=false; unfold wordB; rw [all_no isL s kk hlt hl]; rfl
    have hx:=HZ.out.2 hl
    clear hl;go_wp2_with fail;refine (HC.out _ s[kk].toNat_lt).mono ?_
    rintro e w' ⟨rfl,rfl⟩
    go_wp2_with fail;go_ret;rw [HP.out];exact ⟨rfl,rfl⟩
   | true=>
    have HL:=hid hl
    have hx:=HZ.out.1 hl
    have hxn:¬ x<0:=by omega
    clear hl;go_wp2_with fail;refine (HC.out _ s[kk].toNat_lt).mono ?_
    rintro e w' ⟨rfl,rfl⟩
    go_wp2_with fail;go_round
    case rel=>
     refine ⟨kk+1,by omega,by go_num,(show Aside _ from fun j hj hjk=>?_)⟩
     by_cases ee:j=kk
     ·subst ee; exact HL.out
     ·exact HA.out j hj (by omega)
    case measure=>simp [intOf]; omega
  ·have hltz:¬ (kk:Int)<(s.size:Int):=by omega
   obtain rfl:kk=s.size:=by omega
   have HP:Hid (wordB s.data.toList=(decide (1≤s.size)&&decide (s.size≤16))):=by
    show wordB s.data.toList=_
    unfold wordB;rw [all_yes isL s (fun j hj=>HA.out j hj hj),len_list,Bool.true_and]
   clear hlt HA;by_cases h1:1≤s.size
   ·have h1z:(1:Int)≤(s.size:Int):=by omega
    by_cases h2:s.size≤16
    ·have h2z:(s.size:Int)≤16:=by omega
     have HX:Hid (wordB s.data.toList=true):=by show wordB s.data.toList=true; rw [HP.out,decide_eq_true h1,decide_eq_true h2]; rfl
     clear HP;go_wp2_with fail;go_ret;rw [HX.out];exact ⟨rfl,rfl⟩
    ·have h2z:¬ (s.size:Int)≤16:=by omega
     have HX:Hid (wordB s.data.toList=false):=by show wordB s.data.toList=false; rw [HP.out,decide_eq_false h2,Bool.and_false]
     clear HP;go_wp2_with fail;go_ret;rw [HX.out];exact ⟨rfl,rfl⟩
   ·have h1z:¬ (1:Int)≤(s.size:Int):=by omega
    have HX:Hid (wordB s.data.toList=false):=by show wordB s.data.toList=false; rw [HP.out,decide_eq_false h1]; rfl
    clear HP;go_wp2_with fail;go_ret;rw [HX.out];exact ⟨rfl,rfl⟩
set_option maxHeartbeats 1000000 in
theorem printable_any (s:ByteArray)(lo most:Nat)(w:World)(hs:s.size≤1000):
  Calls Tryz.prog 109 #[.string s,.int .u8 lo,.int .i64 most] w fun r w'=>r=.returned (.bool (okS lo s.data.toList&&decide (s.size≤most)))∧w=w':=by
 go_enter Tryz.func109,Tryz.ntmps109;go_wp2_with fail;go_loop [7] (fun s3=>∃ kk:Nat,kk≤s.size∧s3=.int .i64 kk∧Aside (∀ (j:Nat)(hj:j<s.size),j<kk→lo≤s[j].toNat∧s[j].toNat≤126)) (fun s3=>s.size-(intOf s3).toNat)
 case atStart=>exact ⟨0,Nat.zero_le _,rfl,fun j _ hj=>absurd hj (Nat.not_lt_zero _)⟩
 case round=>
  obtain ⟨kk,hkk,rfl,HA⟩:=hrel
  by_cases hlt:kk<s.size
  ·have hltz:(kk:Int)<(s.size:Int):=by omega
   by_cases h1:s[kk].toNat<lo
   ·have h1':(s[kk].toNat:Int)<(lo:Int):=by omega
    have HP:Hid (okS lo s.data.toList=false):=all_no _ s kk hlt (by simp; omega)
    go_wp2_with fail;go_ret;rw [HP.out];exact ⟨rfl,rfl⟩
   ·have h1':¬ (s[kk].toNat:Int)<(lo:Int):=by omega
    by_cases h2:126<s[kk].toNat
    ·have h2':(126:Int)<(s[kk].toNat:Int):=by omega
     have HP:Hid (okS lo s.data.toList=false):=all_no _ s kk hlt (by simp; omega)
     go_wp2_with fail;go_ret;rw [HP.out];exact ⟨rfl,rfl⟩
    ·have h2':¬ (126:Int)<(s[kk].toNat:Int):=by omega
     have hok:Hid (lo≤s[kk].toNat∧s[kk].toNat≤126):=⟨by omega,by omega⟩
     go_wp2_with fail;go_round
     case rel=>
      refine ⟨kk+1,by omega,by go_num,(show Aside _ from fun j hj hjk=>?_)⟩
      by_cases ee:j=kk
      ·subst ee; exact hok.out
      ·exact HA.out j hj (by omega)
     case measure=>simp [intOf]; omega
  ·have hltz:¬ (kk:Int)<(s.size:Int):=by omega
   obtain rfl:kk=s.size:=by omega
   have HP:Hid (okS lo s.data.toList=true):=all_yes _ s (fun j hj=>by have:=HA.out j hj hj; simp; exact this)
   clear hlt HA;have hdec:decide (s.size≤most)=decide ((s.size:Int)≤(most:Int)):=by rw [decide_eq_decide]; omega
   have HDEC:=hid hdec
   clear hdec;go_wp2_with fail;go_ret;rw [HP.out,HDEC.out];exact ⟨by rw [Bool.true_and]; rfl,rfl⟩
def hasB (l:List (List UInt8))(s:List UInt8):Bool:=l.contains s
theorem contains_no (l:List (List UInt8))(s:List UInt8)(h:∀ j (hj:j<l.length),l[j]≠s):hasB l s=false:=by
 show l.contains s=false
 cases hc:l.contains s with
 | false=>rfl
 | true=>
  have hm:s∈l:=by simpa using hc
  obtain ⟨j,hj,e⟩:=List.mem_iff_getElem.1 hm
  exact absurd e (h j hj)
theorem contains_yes (l:List (List UInt8))(s:List UInt8) (j:Nat)(hj:j<l.length)(h:l[j]=s):hasB l s=true:=by
 have:s∈l:=h▸List.getElem_mem hj
 show l.contains s=true
 simpa using this
set_option maxHeartbeats 1000000 in
theorem in73_any (B:Nat) (v:Value)(l:List (List UInt8))(s:List UInt8)(w:World)(hv:SL w B v l):
  Calls Tryz.prog 113 #[v,.string ⟨s.toArray⟩] w fun r w'=>r=.returned (.bool (hasB l s))∧w=w':=by
 obtain ⟨A,c,rfl,⟨hc1,hc2⟩,hcell⟩:=hv
 have HCELL:=hid hcell
 clear hcell;have hyl:l.length≤9223372036854775807:=by omega
 go_enter Tryz.func113,Tryz.ntmps113;go_wp2_with fail;go_loop [5] (fun s3=>∃ kk:Nat,kk≤l.length∧s3=.int .i64 kk∧Aside (∀ (j:Nat)(hj:j<l.length),j<kk→l[j]≠s)) (fun s3=>l.length-(intOf s3).toNat)
 case atStart=>exact ⟨0,Nat.zero_le _,rfl,fun j _ hj=>absurd hj (Nat.not_lt_zero _)⟩
 case round=>
  obtain ⟨kk,hkk,rfl,HA⟩:=hrel
  by_cases hlt:kk<l.length
  ·have hltz:(kk:Int)<(l.length:Int):=by omega
   obtain ⟨b,o,rfl,hb,hx⟩:=HCELL.out (by intro e; rw [e]at hlt; simp at hlt)
   have hck:=hx kk hlt
   clear hx;by_cases he:l[kk]=s
   ·have HP:Hid (hasB l s=true):=contains_yes l s kk hlt he
    rw [he]at hck
    clear he;go_wp2_with fail;go_ret;rw [HP.out];exact ⟨rfl,rfl⟩
   ·have hb1:(l[kk] == s)=false:=by simpa using he
    have HE:=hid he
    clear he;go_wp2_with fail;go_round
    case rel=>
     refine ⟨kk+1,by omega,by go_num,(show Aside _ from fun j hj hjk=>?_)⟩
     by_cases ee:j=kk
     ·subst ee; exact HE.out
     ·exact HA.out j hj (by omega)
    case measure=>simp [intOf]; omega
  ·have hltz:¬ (kk:Int)<(l.length:Int):=by omega
   have HP:Hid (hasB l s=false):=contains_no l s (fun j hj=>HA.out j hj (by omega))
   go_wp2_with fail;go_ret;rw [HP.out];exact ⟨rfl,rfl⟩
set_option maxHeartbeats 1000000 in
theorem kw74_any (w:World):Calls Tryz.prog 114 #[] w fun e w'=>∃ v,e=.returned v∧SL w' (w.heap.size+1) v kwds∧Below w.heap.size w w':=by
 go_enter Tryz.func114,Tryz.ntmps114;go_wp2_with fail;go_ret;refine ⟨_,rfl,⟨some ⟨w.heap.size,0,none⟩,4,rfl,⟨by decide,by decide⟩,fun _=>⟨w.heap.size,0,rfl,by omega,fun j hj=>?_⟩⟩,(Below.refl _ _).alloc (Nat.le_refl _) _⟩
 have hj4:j<4:=hj
 rcases j with _|_|_|_|j<;>first|(simp [kwds]; done)|omega
set_option maxHeartbeats 1000000 in
theorem ac75_any (w:World):Calls Tryz.prog 115 #[] w fun e w'=>∃ v,e=.returned v∧SL w' (w.heap.size+1) v accs∧Below w.heap.size w w':=by
 go_enter Tryz.func115,Tryz.ntmps115;go_wp2_with fail;go_ret;refine ⟨_,rfl,⟨some ⟨w.heap.size,0,none⟩,6,rfl,⟨by decide,by decide⟩,fun _=>⟨w.heap.size,0,rfl,by omega,fun j hj=>?_⟩⟩,(Below.refl _ _).alloc (Nat.le_refl _) _⟩
 have hj4:j<6:=hj
 rcases j with _|_|_|_|_|_|j<;>first|(simp [accs]; done)|omega
end Go.Proofs.YtknpigdpepmimaaGreatDoor
namespace Go.Proofs.YtknpigdpepmimaaGreatDoor
open Go.Lib(hid)
open Go.RowKit Go.Maps Go.Sort Go.Shelf
theorem law9:Keyed Tryz.prog 9:=string_keyed Tryz.underlying9
theorem cell_of_block {w w':World}{b:Nat}(h:w'.heap[b]?=w.heap[b]?) (o:Nat):w'.cell? ⟨b,o,none⟩=w.cell? ⟨b,o,none⟩:=by
 simp only [World.cell?,h]
theorem str_info:(Tryz.prog.info? 9).map (fun i=>(i.zero,i.size,i.bytes))=some (some (.string ⟨#[]⟩),1,16):=by kernel_rfl
def encS (x:W8):Value:=.string ⟨x.toArray⟩
def RL (w:World) (B:Nat) (v:Value)(l:List W8):Prop:=w.ownsRow B 9 1 v l.length (l.map encS)
theorem RL.sl {w:World}{B:Nat}{v:Value}{l:List W8}(h:RL w B v l):SL w w.heap.size v l:=by
 rcases h.2 with ⟨rfl,hz⟩|⟨g,cap,cur,rfl,h1,h2,h3,h4,h5,h6⟩
 ·have e:l=[]:=List.eq_nil_of_length_eq_zero hz
  subst e;exact ⟨none,0,rfl,⟨by simp,by omega⟩,fun hne=>absurd rfl hne⟩
 ·refine ⟨some ⟨g,0,none⟩,cap,rfl,⟨h3,by unfold maxLen at h4; omega⟩,fun _=>⟨g,0,rfl,(Array.getElem?_eq_some_iff.1 h2).1,fun j hj=>?_⟩⟩
  have e1:(cur.toList.take (l.length*1))[j]?=(l.map encS)[j]?:=by rw [h6]
  rw [List.getElem?_take_of_lt (by omega)]at e1
  simp only [World.cell?,h2,Option.isSome_none,Bool.false_eq_true,if_false,Nat.zero_add];rw [← Array.getElem?_toList,e1];simp [hj,encS]
end Go.Proofs.YtknpigdpepmimaaGreatDoor
namespace Go.Proofs.YtknpigdpepmimaaGreatDoor
open Go.Lib(hid)
open Go.RowKit
set_option maxHeartbeats 1000000 in
theorem has35_any (B:Nat) (v:Value)(l:List W8)(s:W8)(w:World)(hv:SL w B v l):
  Calls Tryz.prog 16 #[v,.string ⟨s.toArray⟩] w fun r w'=>r=.returned (.bool (hasB l s))∧w=w':=by
 obtain ⟨A,c,rfl,⟨hc1,hc2⟩,hcell⟩:=hv
 have HCELL:=hid hcell
 clear hcell;have hyl:l.length≤9223372036854775807:=by omega
 go_enter Tryz.func16,Tryz.ntmps16;go_wp2_with fail;go_loop [5] (fun s3=>∃ kk:Nat,kk≤l.length∧s3=.int .i64 kk∧Aside (∀ (j:Nat)(hj:j<l.length),j<kk→l[j]≠s)) (fun s3=>l.length-(intOf s3).toNat)
 case atStart=>exact ⟨0,Nat.zero_le _,rfl,fun j _ hj=>absurd hj (Nat.not_lt_zero _)⟩
 case round=>
  obtain ⟨kk,hkk,rfl,HA⟩:=hrel
  by_cases hlt:kk<l.length
  ·have hltz:(kk:Int)<(l.length:Int):=by omega
   obtain ⟨b,o,rfl,hb,hx⟩:=HCELL.out (by intro e; rw [e]at hlt; simp at hlt)
   have hck:=hx kk hlt
   clear hx;by_cases he:l[kk]=s
   ·have HP:Hid (hasB l s=true):=contains_yes l s kk hlt he
    rw [he]at hck
    clear he;go_wp2_with fail;go_ret;rw [HP.out];exact ⟨rfl,rfl⟩
   ·have hb1:(l[kk] == s)=false:=by simpa using he
    have HE:=hid he
    clear he;go_wp2_with fail;go_round
    case rel=>
     refine ⟨kk+1,by omega,by go_num,(show Aside _ from fun j hj hjk=>?_)⟩
     by_cases ee:j=kk
     ·subst ee; exact HE.out
     ·exact HA.out j hj (by omega)
    case measure=>simp [intOf]; omega
  ·have hltz:¬ (kk:Int)<(l.length:Int):=by omega
   have HP:Hid (hasB l s=false):=contains_no l s (fun j hj=>HA.out j hj (by omega))
   go_wp2_with fail;go_ret;rw [HP.out];exact ⟨rfl,rfl⟩
end Go.Proofs.YtknpigdpepmimaaGreatDoor
namespace Go.Proofs.YtknpigdpepmimaaGreatDoor
open Go.Lib(hid)
open Go.RowKit Go.Maps
section
variable {H:Type}
end
theorem run_makeMap_hint {P:Program}(t k e:TypeId)(kd:IntKind) (n:Int)(ht:P.underlying t=some (.map k e))(w:World):
  (Instr.makeMap t (some (.int kd n))).run P w=.ok (.map (some w.heap.size)) (w.alloc (.map #[] 0)):=by
 simp [Instr.makeMap,run_underlying ht]; rfl
end Go.Proofs.YtknpigdpepmimaaGreatDoor
namespace Go.Proofs.YtknpigdpepmimaaGreatDoor
open Go.Lib(hid)
open Go.RowKit
theorem idx_no:∀ l:List UInt8,(46:UInt8)∉l→Lib.index l [46]=-1
 | [],_=>rfl
 | b::l,h=>by
  simp only [List.mem_cons,not_or]at h
  unfold Lib.index;rw [idx_no l h.2,if_neg (by simp [List.isPrefixOf,h.1])]
  rfl
theorem idx_yes (b:List UInt8):∀ a:List UInt8,(46:UInt8)∉a→Lib.index (a++46::b) [46]=a.length
 | [],_=>by
  show Lib.index (46::b) [46]=_
  unfold Lib.index;rw [if_pos (by simp [List.isPrefixOf])]
  rfl
 | c::a,h=>by
  simp only [List.mem_cons,not_or]at h
  show Lib.index (c::(a++46::b)) [46]=_
  unfold Lib.index;rw [idx_yes b a h.2,if_neg (by simp [List.isPrefixOf,h.1])]
  have:((a.length:Int) == -1)=false:=by rw [beq_eq_false_iff_ne]; omega
  rw [this];simp
theorem cut_no (l:List UInt8)(h:(46:UInt8)∉l):Lib.cut l [46]=(l,[],false):=by
 unfold Lib.cut;rw [idx_no l h,if_neg (by decide)]
theorem cut_yes (a b:List UInt8)(h:(46:UInt8)∉a):Lib.cut (a++46::b) [46]=(a,b,true):=by
 unfold Lib.cut;rw [idx_yes b a h,if_pos (by omega)]
 simp
theorem split46:∀ l:List UInt8,(46:UInt8)∉l∨∃ a b,l=a++46::b∧(46:UInt8)∉a
 | []=>.inl (by simp)
 | c::l=>by
  by_cases hc:c=46
  ·exact .inr ⟨[],l,by rw [hc]; rfl,by simp⟩
  ·rcases split46 l with h|⟨a,b,rfl,h⟩
   ·exact .inl (by simp only [List.mem_cons,not_or]; exact ⟨fun e=>hc e.symm,h⟩)
   ·exact .inr ⟨c::a,b,rfl,by simp only [List.mem_cons,not_or]; exact ⟨fun e=>hc e.symm,h⟩⟩
def dots (l:List UInt8):Nat:=l.count 46
def okN (l:List UInt8) (j:Nat)(h:j<l.length):Prop:=isD l[j]=true∨(l[j]=46∧0<j∧j+1<l.length)
theorem isD46:isD 46=false:=by decide
theorem all_of (p:UInt8→Bool)(l:List UInt8)(h:∀ j (hj:j<l.length),p l[j]=true):l.all p=true:=by
 rw [List.all_eq_true];intro x hx;obtain ⟨j,hj,rfl⟩:=List.mem_iff_getElem.1 hx
 exact h j hj
theorem all_not (p:UInt8→Bool)(l:List UInt8) (j:Nat)(hj:j<l.length)(h:p l[j]=false):l.all p=false:=by
 rw [List.all_eq_false];exact ⟨l[j],List.getElem_mem hj,by simp [h]⟩
theorem numB_all (l:List UInt8)(h:∀ j (hj:j<l.length),okN l j hj):numB l=(decide (0<l.length)&&decide (l.length≤20)&&decide (dots l≤1)):=by
 unfold numB dots;rcases split46 l with hn|⟨a,b,rfl,hn⟩
 ·rw [cut_no l hn]
  have h1:l.all isD=true:=all_of _ l (fun j hj=>by
   rcases h j hj with h'|h'
   ·exact h'
   ·exact absurd (h'.1▸List.getElem_mem hj) hn)
  have h2:l.count 46=0:=List.count_eq_zero.2 hn
  rw [h2];unfold digs;rw [h1];cases l with
  | nil=>rfl
  | cons c l=>simp
 ·rw [cut_yes a b hn]
  have hlen:(a++46::b).length=a.length+1+b.length:=by simp; omega
  have ha:a.all isD=true:=all_of _ a (fun j hj=>by
   have hj':j<(a++46::b).length:=by omega
   have e:(a++46::b)[j]=a[j]:=List.getElem_append_left hj
   rcases h j hj' with h'|h'
   ·rw [e]at h'; exact h'
   ·rw [e]at h'; exact absurd (h'.1▸List.getElem_mem hj) hn)
  have hm:0<a.length∧a.length+1<(a++46::b).length:=by
   have hj':a.length<(a++46::b).length:=by omega
   have e:(a++46::b)[a.length]=46:=by simp
   rcases h a.length hj' with h'|h'
   ·rw [e,isD46]at h'; cases h'
   ·exact h'.2
  have hc:(a++46::b).count 46=1+b.count 46:=by
   rw [List.count_append,List.count_cons_self,List.count_eq_zero.2 hn]; omega
  have hd:digs a=true:=by
   unfold digs;rw [ha];cases a with
   | nil=>simp at hm
   | cons c a=>rfl
  rw [hc,hd];by_cases hb:(46:UInt8)∈b
  ·have h1:digs b=false:=by
    obtain ⟨j,hj,e⟩:=List.mem_iff_getElem.1 hb
    unfold digs;rw [all_not isD b j hj (by rw [e]; exact isD46)]; rfl
   have h2:0<b.count 46:=List.count_pos_iff.2 hb
   rw [h1,decide_eq_false (show ¬ 1+b.count 46≤1 by omega)]
   simp
  ·have h1:digs b=true:=by
    unfold digs
    have:b.all isD=true:=all_of _ b (fun j hj=>by
     have hj':a.length+1+j<(a++46::b).length:=by omega
     have e:(a++46::b)[a.length+1+j]=b[j]:=by
      rw [List.getElem_append_right (by omega)]
      simp only [show a.length+1+j-a.length=j+1 from by omega,List.getElem_cons_succ]
     rcases h _ hj' with h'|h'
     ·rw [e]at h'; exact h'
     ·rw [e]at h'; exact absurd (h'.1▸List.getElem_mem hj) hb)
    rw [this];cases b with
    | nil=>simp at hm
    | cons c b=>rfl
   rw [h1,List.count_eq_zero.2 hb,decide_eq_true (show 0<(a++46::b).length by omega)]
   simp
theorem numB_not (l:List UInt8) (j:Nat)(hj:j<l.length)(h:¬ okN l j hj):numB l=false:=by
 have h1:isD l[j]=false:=by cases hd:isD l[j] with
  | false=>rfl
  | true=>exact absurd (.inl hd) h
 unfold numB;rcases split46 l with hn|⟨a,b,rfl,hn⟩
 ·rw [cut_no l hn]
  unfold digs;rw [all_not isD l j hj h1]; simp
 ·rw [cut_yes a b hn]
  have hlen:(a++46::b).length=a.length+1+b.length:=by simp; omega
  unfold digs;rcases Nat.lt_trichotomy j a.length with hl|hl|hl
  ·have e:(a++46::b)[j]=a[j]:=List.getElem_append_left hl
   rw [e]at h1
   rw [all_not isD a j hl h1]; simp
  ·have e:(a++46::b)[j]=46:=by subst hl; simp
   have hab:a=[]∨b=[]:=by
    cases a with
    | nil=>exact .inl rfl
    | cons c a=>cases b with
     | nil=>exact .inr rfl
     | cons d b=>exact absurd (.inr ⟨e,by rw [hl]; simp,by rw [hl,hlen]; simp⟩) h
   rcases hab with rfl|rfl<;>simp
  ·obtain ⟨i,rfl⟩:∃ i,j=a.length+1+i:=⟨j-a.length-1,by omega⟩
   have hjb:i<b.length:=by omega
   have e:(a++46::b)[a.length+1+i]=b[i]:=by
    rw [List.getElem_append_right (by omega)]
    simp only [show a.length+1+i-a.length=i+1 from by omega,List.getElem_cons_succ]
   rw [e]at h1
   rw [all_not isD b _ hjb h1]; simp
theorem dots_snoc (s:ByteArray) (k:Nat)(hk:k<s.size):dots (s.data.toList.take (k+1))=dots (s.data.toList.take k)+if s[k]=46 then 1 else 0:=by
 unfold dots;rw [List.take_succ_eq_append_getElem (by simpa using hk),List.count_append]
 congr 1
 show List.count 46 [s[k]]=_
 rw [List.count_cons];simp
set_option maxHeartbeats 2000000 in
theorem number79_any (s:ByteArray)(w:World)(hs:s.size≤1000):
  Calls Tryz.prog 108 #[.string s] w fun r w'=>r=.returned (.bool (numB s.data.toList))∧w=w':=by
 go_enter Tryz.func108,Tryz.ntmps108;go_wp2_with fail;go_loop [3,4] (fun s3 s4=>∃ kk pp:Nat,kk≤s.size∧pp≤kk∧s4=.int .i64 kk∧s3=.int .i64 pp∧Aside (pp=dots (s.data.toList.take kk))∧Aside (∀ (j:Nat)(hj:j<s.data.toList.length),j<kk→okN s.data.toList j hj)) (fun _ s4=>s.size-(intOf s4).toNat)
 case atStart=>exact ⟨0,0,Nat.zero_le _,Nat.le_refl _,rfl,rfl,rfl,fun j _ hj=>absurd hj (Nat.not_lt_zero _)⟩
 case round=>
  obtain ⟨kk,pp,hkk,hpk,rfl,rfl,HP,HA⟩:=hrel
  by_cases hlt:kk<s.size
  ·have hltz:(kk:Int)<(s.size:Int):=by omega
   have hll:kk<s.data.toList.length:=by rw [len_list]; exact hlt
   have HS:=hid (dots_snoc s kk hlt)
   have HG:Hid (s.data.toList[kk]=s[kk]):=rfl
   have HLL:=hid (len_list s)
   by_cases hin:s[kk].toNat=46∧0<kk∧kk+1<s.size
   ·obtain ⟨h1,h2,h3⟩:=hin
    have hc46:s[kk]=46:=UInt8.toNat_inj.1 h1
    have h1z:((s[kk].toNat:Int) == 46)=true:=by simp [h1]
    have h2z:(0:Int)<(kk:Int):=by omega
    have h3z:(kk:Int)<(s.size:Int)-1:=by omega
    have HO:Hid (okN s.data.toList kk hll):=.inr ⟨HG.out.trans hc46,h2,by rw [HLL.out]; exact h3⟩
    have HPP:Hid (pp+1=dots (s.data.toList.take (kk+1))):=by show _=_; rw [HS.out,if_pos hc46,← HP.out]
    clear h1 hc46 HS;go_wp2_with fail;go_round
    case rel=>
     refine ⟨kk+1,pp+1,by omega,by omega,by go_num,by go_num,HPP.out,(show Aside _ from fun j hj hjk=>?_)⟩
     by_cases ee:j=kk
     ·subst ee; exact HO.out
     ·exact HA.out j hj (by omega)
    case measure=>simp [intOf]; omega
   ·have HPS:Hid (isD s[kk]=true→pp=dots (s.data.toList.take (kk+1))):=fun hd=>by
     rw [HS.out,if_neg (fun e=>by rw [e,isD46]at hd; cases hd),Nat.add_zero]; exact HP.out
    have HO:Hid (isD s[kk]=true→okN s.data.toList kk hll):=fun hd=>.inl (by rw [HG.out]; exact hd)
    have HN:Hid (isD s[kk]=false→numB s.data.toList=false):=fun hd=>numB_not _ kk hll (fun h'=>by
     rcases h' with h'|h'
     ·rw [HG.out,hd]at h'; cases h'
     ·exact hin ⟨by have:=h'.1; rw [HG.out]at this; rw [this]; rfl,h'.2.1,by have:=h'.2.2; rw [HLL.out]at this; exact this⟩)
    have HI:=hid hin
    have HDG:Hid (isD s[kk]=(decide (48≤s[kk].toNat)&&decide (s[kk].toNat≤57))):=rfl
    have HC:=hid (digit95_nat s[kk].toNat)
    clear hin HS;go_upto_region 5 with (fail);go_cut [25,4,3] (fun s25 s4 s3 wx=>s25=.bool false∧s4=.int .i64 kk∧s3=.int .i64 pp∧w=wx)
    case first=>
     by_cases h1:s[kk].toNat=46
     ·have h1z:((s[kk].toNat:Int) == 46)=true:=by simp [h1]
      by_cases h2:0<kk
      ·have h2z:(0:Int)<(kk:Int):=by omega
       have h3z:¬ (kk:Int)<(s.size:Int)-1:=by have:=HI.out; omega
       clear h1;go_wp2_with fail;go_meet
       case rel=>exact ⟨rfl,rfl,rfl,rfl⟩
      ·obtain rfl:kk=0:=by omega
       clear h1;go_wp2_with fail;go_meet
       case rel=>exact ⟨rfl,rfl,rfl,rfl⟩
     ·have h1z:((s[kk].toNat:Int) == 46)=false:=by simp; omega
      go_wp2_with fail;go_meet
      case rel=>exact ⟨rfl,rfl,rfl,rfl⟩
    case rest=>
     obtain ⟨rfl,rfl,rfl,rfl⟩:=hcut
     cases hd:isD s[kk] with
     | false=>
      have HNN:=hid (HN.out hd)
      have HD:=hid (HDG.out.symm.trans hd)
      clear hd;go_wp2_with fail;refine (HC.out _ s[kk].toNat_lt).mono ?_
      rw [HD.out];rintro e w' ⟨rfl,rfl⟩
      go_wp2_with fail;go_ret;rw [HNN.out];exact ⟨rfl,rfl⟩
     | true=>
      have HPN:=hid (HPS.out hd)
      have HON:=hid (HO.out hd)
      have HD:=hid (HDG.out.symm.trans hd)
      clear hd;go_wp2_with fail;refine (HC.out _ s[kk].toNat_lt).mono ?_
      rw [HD.out];rintro e w' ⟨rfl,rfl⟩
      go_wp2_with fail;go_round
      case rel=>
       refine ⟨kk+1,pp,by omega,by omega,by go_num,rfl,HPN.out,(show Aside _ from fun j hj hjk=>?_)⟩
       by_cases ee:j=kk
       ·subst ee; exact HON.out
       ·exact HA.out j hj (by omega)
      case measure=>simp [intOf]; omega
  ·have hltz:¬ (kk:Int)<(s.size:Int):=by omega
   obtain rfl:kk=s.size:=by omega
   have HX:Hid (numB s.data.toList=(decide (0<s.size)&&decide (s.size≤20)&&decide (pp≤1))):=by
    show numB s.data.toList=_
    rw [numB_all _ (fun j hj=>HA.out j hj (by rw [len_list]at hj; exact hj)),len_list,HP.out,List.take_of_length_le (by rw [len_list]; omega)]
   clear hlt HA HP;by_cases h1:0<s.size
   ·have h1z:(0:Int)<(s.size:Int):=by omega
    by_cases h2:s.size≤20
    ·have h2z:(s.size:Int)≤20:=by omega
     by_cases h3:pp≤1
     ·have h3z:(pp:Int)≤1:=by omega
      have HY:Hid (numB s.data.toList=true):=by show numB s.data.toList=true; rw [HX.out,decide_eq_true h1,decide_eq_true h2,decide_eq_true h3]; rfl
      clear HX;go_wp2_with fail;go_ret;rw [HY.out];exact ⟨rfl,rfl⟩
     ·have h3z:¬ (pp:Int)≤1:=by omega
      have HY:Hid (numB s.data.toList=false):=by show numB s.data.toList=false; rw [HX.out,decide_eq_false h3,Bool.and_false]
      clear HX;go_wp2_with fail;go_ret;rw [HY.out];exact ⟨rfl,rfl⟩
    ·have h2z:¬ (s.size:Int)≤20:=by omega
     have HY:Hid (numB s.data.toList=false):=by show numB s.data.toList=false; rw [HX.out,decide_eq_false h2,Bool.and_false]; rfl
     clear HX;go_wp2_with fail;go_ret;rw [HY.out];exact ⟨rfl,rfl⟩
   ·have h1z:¬ (0:Int)<(s.size:Int):=by omega
    have HY:Hid (numB s.data.toList=false):=by show numB s.data.toList=false; rw [HX.out,decide_eq_false h1]; rfl
    clear HX;go_wp2_with fail;go_ret;rw [HY.out];exact ⟨rfl,rfl⟩
end Go.Proofs.YtknpigdpepmimaaGreatDoor
