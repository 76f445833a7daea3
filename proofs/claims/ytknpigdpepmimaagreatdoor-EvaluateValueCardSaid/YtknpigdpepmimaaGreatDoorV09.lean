/- What the laws' walks share: a boxed term, read behind further calls. -/
import Derived.Lib.QuietBelow
import Derived.BigQuiet
import Derived.Deep.RegionLawGrows
import Derived.RangeFuncBox
import Derived.RangeFuncLeaves
import Derived.Shelf.Abstract
import Derived.WalkKit
import Derived.OwnWalkIn
import Derived.TacticsInMore
import Derived.LoopNIn
import Derived.LoopIn
import Derived.Laws.OwnMore
import Derived.Tactics
import Derived.Deep.RegionLaw
import Derived.Laws.AppendOwn
import Derived.Laws.AppendOwnNone
import Derived.Lib.AppendZerosOnto
import Derived.Lib.Walk
import Derived.Test.YtknpigdpepmimaaGreatDoorV05
import Derived.Test.YtknpigdpepmimaaGreatDoorV06
import Derived.Test.YtknpigdpepmimaaGreatDoorV07
import Derived.Test.YtknpigdpepmimaaGreatDoorV08
namespace Go.Proofs.YtknpigdpepmimaaGreatDoor
open Go.Lib(hid)
open Go.RowKit
structure Bxd (w:World) (b:Nat)(t:T)(A:Option Addr) (c:Nat):Prop where
 c0:w.cell? ⟨b,0,none⟩=some (.int .i64 t.kind)
 c1:w.cell? ⟨b,1,none⟩=some (.string ⟨t.name.toArray⟩)
 c2:w.cell? ⟨b,2,none⟩=some (.string ⟨t.var.toArray⟩)
 c3:w.cell? ⟨b,3,none⟩=some (.slice A t.args.length c)
 c4:w.cell? ⟨b,4,none⟩=some (.string ⟨t.form.toArray⟩)
theorem Bxd.below {w w':World}{B b:Nat}{t:T}{A:Option Addr}{c:Nat}(h:Bxd w b t A c)(hb:Below B w w')(hlt:b<B):Bxd w' b t A c:=
 ⟨(hb.cell (p:=⟨b,0,none⟩) hlt).trans h.c0,(hb.cell (p:=⟨b,1,none⟩) hlt).trans h.c1,(hb.cell (p:=⟨b,2,none⟩) hlt).trans h.c2,(hb.cell (p:=⟨b,3,none⟩) hlt).trans h.c3,(hb.cell (p:=⟨b,4,none⟩) hlt).trans h.c4⟩
theorem bxd_new (w:World)(t:T)(A:Option Addr) (c:Nat):Bxd (w.alloc (.cells (tv t A c) 24)) w.heap.size t A c:=⟨by simp [tv],by simp [tv],by simp [tv],by simp [tv],by simp [tv]⟩
theorem TV.reach {w w':World}{t:T}{A:Option Addr}{c:Nat}(h:TV w w.heap.size t A c)(hb:Below w.heap.size w w'):TV w' w'.heap.size t A c:=(h.below hb).more hb.size
theorem Max.reach {w w':World}(h:Max w)(hb:Below w.heap.size w w'):Max w':=h.below hb
def encI (i:Int):Value:=.int .i64 i
theorem int_info3:(Tryz.prog.info? 3).map (fun i=>(i.zero,i.size,i.bytes))=some (some (.int .i64 0),1,8):=by kernel_rfl
def BI (w:World) (v:Value)(l:List Int):Prop:=(∃ A c,v=.slice A l.length c∧(l.length≤c∧c≤9223372036854775807)∧(l≠[]→∃ b o,A=some ⟨b,o,none⟩∧b<w.heap.size∧∀ i (h:i<l.length),w.cell? ⟨b,o+i,none⟩=some (.int .i64 l[i])))∧∀ n c,v=.slice none n c→l=[]∧c=0
def RI (w:World) (B:Nat) (v:Value)(l:List Int):Prop:=w.ownsRow B 3 1 v l.length (l.map encI)
theorem BI.reach {w w':World}{v:Value}{l:List Int}(h:BI w v l)(hb:Below w.heap.size w w'):BI w' v l:=by
 obtain ⟨⟨A,c,rfl,hc,hcell⟩,hn⟩:=h
 refine ⟨⟨A,c,rfl,hc,fun hne=>?_⟩,hn⟩
 obtain ⟨b,o,hA,hlt,hs⟩:=hcell hne
 exact ⟨b,o,hA,Nat.lt_of_lt_of_le hlt hb.size,fun i hi=>(hb.cell (p:=⟨b,o+i,none⟩) hlt).trans (hs i hi)⟩
theorem BI.nil (w:World):BI w (.slice none 0 0) []:=⟨⟨none,0,rfl,⟨Nat.le_refl _,by omega⟩,fun h=>absurd rfl h⟩,fun n c e=>by injection e with _ e1 e2; exact ⟨rfl,e2.symm⟩⟩
theorem RI.bi {w:World}{B:Nat}{v:Value}{l:List Int}(h:RI w B v l):BI w v l:=by
 rcases h.2 with ⟨rfl,hz⟩|⟨g,cap,cur,rfl,h2,h3,h4,h5,h6,h7⟩
 ·have e:l=[]:=List.eq_nil_of_length_eq_zero hz
  subst e;exact BI.nil w
 ·refine ⟨⟨some ⟨g,0,none⟩,cap,rfl,⟨h4,by unfold maxLen at h5; omega⟩,fun _=>⟨g,0,rfl,(Array.getElem?_eq_some_iff.1 h3).1,fun i hi=>?_⟩⟩,fun n c e=>by injection e with e1; cases e1⟩
  rw [Nat.zero_add];have:=World.ownsRow.cells (g:=g) h rfl i (.int .i64 l[i]) (by simp [encI,hi])
  rw [addr_addF,Nat.zero_add]at this
  exact this
theorem appIl {ops:Array Oper}{rest:List Oper}{o:Oper}{a:Act}{Q:Exit→Act→World→Prop}(w:World)(hgd:o.guard=none)(s x:Operand)
  (ho:o.op=.call { callee:=.builtin .append,args:=#[s,x],argTypes:=#[29,29] }) (B:Nat)(v v2:Value)(l l2:List Int)(hown:RI w B v l)(hs:a.eval s=v)
  (hx:a.eval x=v2)(hv2:BI w v2 l2)(hl:l.length+l2.length≤1000000)(hB:B≤w.heap.size)
  (h:∀ v' w',RI w' B v' (l++l2)→Below B w w'→wpList Tryz.prog ops Q rest (a.put o.dst v') w'):wpList Tryz.prog ops Q (o::rest) a w:=by
 obtain ⟨i0,hi0,hz0,hz1,hz2⟩:=info_parts int_info3
 obtain ⟨⟨A,c,rfl,⟨hc1,hc2⟩,hcell⟩,hnil⟩:=hv2
 cases A with
 | none=>
  obtain ⟨rfl,rfl⟩:=hnil _ _ rfl
  refine wpList_append_own_none hgd s x 29 ho B 3 i0 1 Tryz.underlying29 hi0 v l.length _ hs hown hx (h v w ?_ (Below.refl _ _))
  rw [List.append_nil]; exact hown
 | some ad=>
  refine wpList_append_own _ hgd s x 29 ho B 3 i0 _ 1 8 Tryz.underlying29 hi0 hz0 hz1 hz2 rfl (by decide) v l.length _ hs hown ad l2.length c (l2.map encI) hx (by simp) (fun j u hu=>?_) (fun u hu=>?_) (by unfold maxLen; omega) (by omega) hB (fun v' w' h1 h2 _=>?_)
  ·obtain ⟨hj,hu'⟩:=List.getElem?_eq_some_iff.1 hu
   have hj':j<l2.length:=by simpa using hj
   rw [List.getElem_map]at hu'
   subst hu';obtain ⟨b,o,e1,_,e2⟩:=hcell (by intro e; rw [e]at hj'; simp at hj')
   have e3:ad=⟨b,o,none⟩:=Option.some.inj e1
   rw [e3,addr_addF]; exact e2 j hj'
  ·obtain ⟨y,_,rfl⟩:=List.mem_map.1 hu
   rfl
  ·refine h v' w' ?_ ((Below.refl B w).grown h2 hB (fun k hk=>(hown.lt k hk).1))
   unfold RI;rw [List.length_append,List.map_append]; exact h1
set_option maxRecDepth 100000 in
set_option maxHeartbeats 2000000 in
theorem grow176_any (n:Nat)(w:World)(h1:1≤n)(h2:n≤1000000):
  Calls Tryz.prog 176 #[.slice none 0 0,.int .i64 n] w fun e w'=>∃ v,e=.returned v∧RI w' w.heap.size v []∧Below w.heap.size w w':=by
 obtain ⟨i0,hi0,hz0,hz1,hz2⟩:=info_parts int_info3
 have hn0:¬ (n:Int)<0:=by omega
 have hn1:(0:Int)<(n:Int):=by omega
 have hold:(Builtin.firstCells i0.size 0 (.slice none 0 0)).run Tryz.prog w.drew=.ok #[] w.drew:=run_firstCells_none w.drew i0.size 0 0 0
 have hrz:∀ ty,(Builtin.append_ #[29,3] ty #[.slice none 0 0,.int .i64 (n:Int)]).run Tryz.prog w=
   .ok (.slice (some ⟨w.heap.size,0,none⟩) n (grownCap w n 0 3)) (w.drew.alloc (.cells (#[]++Builtin.zeroCells (Value.int .i64 0).cells n++Builtin.zeroCells (Value.int .i64 0).cells (grownCap w n 0 3-n)) 3)):=fun ty=>by
  have h:=Lib.run_append_grow_zeros w 29 3 ty 3 i0 (.int .i64 0) .i64 .i64 Tryz.underlying29 Tryz.underlying3 hi0 hz0 none 0 0 [] hold n (by omega) (by omega) (by omega) (by omega) (by rw [hz2]; omega)
   (by rw [Nat.zero_add]; exact growslice_fits (by omega) (by rw [hz2]; omega))
  rw [Nat.zero_add]at h
  exact h
 have hGn:n≤grownCap w n 0 3:=grownCap_ge w _ _ _
 have hGm:grownCap w n 0 3≤maxLen:=grownCap_le_maxLen w n 0 3 (by unfold maxLen; omega)
 generalize grownCap w n 0 3=G at*;have hG63:G≤9223372036854775807:=by unfold maxLen at hGm; omega
 clear hold;go_enter Tryz.func176,Tryz.ntmps176;go_wp2_with (at_builtin; refine Lib.wpList_append_run _ rfl _ _ _ _ rfl _ _ rfl rfl _ _ (hrz _) ?_)
 all_goals
  go_ret;refine ⟨_,rfl,⟨by simp,.inr ⟨w.heap.size,G,_,rfl,Nat.le_refl _,blk_new _ _,Nat.zero_le _,hGm,?_,rfl⟩⟩,(below_drF (Below.refl _ _)).alloc (Nat.le_refl _) _⟩
  simp [Builtin.zeroCells];omega
theorem flatI_snoc (LL:List (List Int)) (i:Nat)(h:i<LL.length):(LL.take (i+1)).flatten=(LL.take i).flatten++LL[i]:=by
 rw [List.take_succ_eq_append_getElem h,List.flatten_append]; simp
theorem flatI_len (LL:List (List Int)) (i:Nat):(LL.take i).flatten.length≤LL.flatten.length:=by
 conv=>rhs; rw [← List.take_append_drop i LL]
 rw [List.flatten_append,List.length_append]; omega
set_option maxRecDepth 100000 in
set_option maxHeartbeats 2000000 in
theorem concat133_any (bb c:Nat)(vs:List Value)(LL:List (List Int))(w:World)(hn:vs.length=LL.length)(hb:bb<w.heap.size)(hc:∀ j (h:j<vs.length),w.cell? ⟨bb,j,none⟩=some vs[j])
  (hbn:∀ j (h:j<vs.length)(h':j<LL.length),BI w vs[j] LL[j])(hl:1≤LL.flatten.length∧LL.flatten.length≤900000)(hk:LL.length≤1000):
  Calls Tryz.prog 133 #[.slice (some ⟨bb,0,none⟩) vs.length c] w fun e w'=>∃ v,e=.returned v∧RI w' w.heap.size v LL.flatten∧Below w.heap.size w w':=by
 have HC:=hid hc
 have HBI:=hid hbn
 have hkz:vs.length≤1000:=by omega
 have HNL:=hid hn
 clear hc hbn hn hk;go_enter Tryz.func133,Tryz.ntmps133;go_wp2_with fail;go_loopg [3,5,11] vs.length (fun gg s3 s5 s11 wr=>∃ i:Nat,i≤vs.length∧vs.length-i≤gg∧s11=.int .i64 i∧s3=.int .i64 ((LL.take i).flatten.length:Nat)∧w=wr)
 case atStart=>exact ⟨0,Nat.zero_le _,by omega,rfl,rfl,rfl⟩
 case round=>
  obtain ⟨i,hi,hgg,rfl,rfl,rfl⟩:=hrel
  by_cases hlt:i<vs.length
  ·have hltz:(i:Int)<(vs.length:Int):=by omega
   have hck:=HC.out i hlt
   have hF:=hid (congrArg List.length (flatI_snoc LL i (by have:=HNL.out; omega)))
   have hfl:=flatI_len LL (i+1)
   obtain ⟨A,q,hv⟩:∃ A q,vs[i]=.slice A (LL[i]'(by have:=HNL.out; omega)).length q:=by
    obtain ⟨⟨A,q,hv,_⟩,_⟩:=HBI.out i hlt (by have:=HNL.out; omega)
    exact ⟨A,q,hv⟩
   rw [hv]at hck
   have hF2:=hF.out
   rw [List.length_append]at hF2
   have hfin:(LL.take i).flatten.length+(LL[i]'(by have:=HNL.out; omega)).length≤900000:=by omega
   have hng:¬ ((LL.take i).flatten.length:Int)+((LL[i]'(by have:=HNL.out; omega)).length:Int)<0:=by omega
   have HF3:=hid hF2
   clear hF2 hfl hv hF;generalize (LL.take i).flatten.length=p at*;generalize (LL[i]'(by have:=HNL.out; omega)).length=q2 at*
   go_wp2_with fail;go_roundg (vs.length-(i+1))
   case measure=>omega
   case rel=>exact ⟨i+1,by omega,by omega,by go_num,by rw [HF3.out]; go_num,rfl⟩
  ·have hltz:¬ (i:Int)<(vs.length:Int):=by omega
   have e:LL.take i=LL:=List.take_of_length_le (by have:=HNL.out; omega)
   rw [e];have hg:=grow176_any LL.flatten.length w hl.1 (by omega)
   have HG:=hid hg
   have hfz:LL.flatten.length≤900000:=hl.2
   clear hg e;obtain ⟨N,hN⟩:∃ N,N=LL.flatten.length:=⟨_,rfl⟩
   rw [← hN]at HG hfz ⊢
   have HN:=hid hN
   clear hN;go_wp2_with fail;refine HG.out.mono ?_
   rintro e w2 ⟨v6,rfl,hr6,hb6⟩
   have HR6:=hid hr6
   have HB6:=hid hb6
   clear hr6 hb6 HG;go_wp2_with fail;go_loopg [6,8,27] vs.length (fun gg s6 s8 s27 wr=>∃ i:Nat,i≤vs.length∧vs.length-i≤gg∧s27=.int .i64 i∧Aside (RI wr w.heap.size s6 (LL.take i).flatten)∧Aside (Below w.heap.size w wr))
   case atStart=>exact ⟨0,Nat.zero_le _,by omega,rfl,HR6,HB6⟩
   case round=>
    obtain ⟨i,hi2,hgg2,rfl,HR,HB⟩:=hrel
    by_cases hlt2:i<vs.length
    ·have hltz2:(i:Int)<(vs.length:Int):=by omega
     have hck:=(HB.out.cell (p:=⟨bb,i,none⟩) hb).trans (HC.out i hlt2)
     have HF:=hid (flatI_snoc LL i (by have:=HNL.out; omega))
     have HFL:=hid (flatI_len LL (i+1))
     have HV:=hid ((HBI.out i hlt2 (by have:=HNL.out; omega)).reach HB.out)
     have HSZ:=hid HB.out.size
     go_wp2_with (at_builtin; refine appIl wr rfl _ _ rfl w.heap.size _ _ _ _ HR.out rfl rfl HV.out (by have:=HFL.out; rw [HF.out,List.length_append]at this; have:=hl.2; omega) HSZ.out ?_)
     intro v7 w7 hr7 hb7;rw [← HF.out]at hr7
     have HR7:=hid hr7
     have HB7:=hid (HB.out.trans hb7)
     clear hr7 hb7 hck;go_wp2_with fail;go_roundg (vs.length-(i+1))
     case measure=>omega
     case rel=>exact ⟨i+1,by omega,by omega,by go_num,HR7.out,HB7.out⟩
    ·have hltz2:¬ (i:Int)<(vs.length:Int):=by omega
     have e2:LL.take i=LL:=List.take_of_length_le (by have:=HNL.out; omega)
     have HR8:=HR.out
     rw [e2]at HR8
     have HR9:=hid HR8
     clear HR8 e2;go_wp2_with fail;go_ret;exact ⟨_,rfl,HR9.out,HB.out⟩
def R.cells (r:R) (p:Value):Array Value:=#[.int .i64 r.v.num,.int .i64 r.v.den,.int .i64 r.v.dim.a,.int .i64 r.v.dim.b,.int .i64 r.v.dim.c,.int .i64 r.v.dim.d,.int .i64 r.v.dim.e,.int .i64 r.v.dim.f,.int .i64 r.v.dim.g,p,.int .i64 r.e]
def K11 (w:World) (b:Nat)(r:R) (p:Value):Prop:=w.heap[b]?=some (.cells (r.cells p) 86 (0,0))
theorem K11.cells {w:World}{b:Nat}{r:R}{p:Value}(h:K11 w b r p):(w.cell? ⟨b,0,none⟩=some (.int .i64 r.v.num)∧w.cell? ⟨b,1,none⟩=some (.int .i64 r.v.den)∧w.cell? ⟨b,2,none⟩=some (.int .i64 r.v.dim.a)∧w.cell? ⟨b,3,none⟩=some (.int .i64 r.v.dim.b)∧w.cell? ⟨b,4,none⟩=some (.int .i64 r.v.dim.c)∧w.cell? ⟨b,5,none⟩=some (.int .i64 r.v.dim.d)∧w.cell? ⟨b,6,none⟩=some (.int .i64 r.v.dim.e)∧w.cell? ⟨b,7,none⟩=some (.int .i64 r.v.dim.f)∧w.cell? ⟨b,8,none⟩=some (.int .i64 r.v.dim.g)∧w.cell? ⟨b,9,none⟩=some (p)∧w.cell? ⟨b,10,none⟩=some (.int .i64 r.e))∧(∀ i,w.frozen? ⟨b,i,none⟩=false)∧b<w.heap.size:=by
 unfold K11 R.cells at h;refine ⟨⟨?_,?_,?_,?_,?_,?_,?_,?_,?_,?_,?_⟩,fun i=>?_,(Array.getElem?_eq_some_iff.1 h).1⟩<;>simp [World.cell?,World.frozen?,h]
theorem K11.below {w w':World}{B b:Nat}{r:R}{p:Value}(h:K11 w b r p)(hb:Below B w w')(hlt:b<B):K11 w' b r p:=(hb.block b hlt).trans h
theorem K11.reach {w w':World}{b:Nat}{r:R}{p:Value}(h:K11 w b r p)(hb:Below w.heap.size w w'):K11 w' b r p:=h.below hb h.cells.2.2
theorem K11.new (w:World)(r:R) (p:Value):K11 (w.alloc (.cells (r.cells p) 86)) w.heap.size r p:=heap_alloc_new w _
theorem st11_0 {w:World}{b:Nat}{t:TypeId}{x0 x1 x2 x3 x4 x5 x6 x7 x8 x9 x10:Value}(h:w.heap[b]?=some (.cells #[x0,x1,x2,x3,x4,x5,x6,x7,x8,x9,x10] t (0,0))) (u:Value):(w.setCell ⟨b,0,none⟩ u).heap[b]?=some (.cells #[u,x1,x2,x3,x4,x5,x6,x7,x8,x9,x10] t (0,0)):=by
 show (w.heap.modify b _)[b]?=_
 rw [Array.getElem?_modify,if_pos rfl,h];rfl
theorem st11_1 {w:World}{b:Nat}{t:TypeId}{x0 x1 x2 x3 x4 x5 x6 x7 x8 x9 x10:Value}(h:w.heap[b]?=some (.cells #[x0,x1,x2,x3,x4,x5,x6,x7,x8,x9,x10] t (0,0))) (u:Value):(w.setCell ⟨b,1,none⟩ u).heap[b]?=some (.cells #[x0,u,x2,x3,x4,x5,x6,x7,x8,x9,x10] t (0,0)):=by
 show (w.heap.modify b _)[b]?=_
 rw [Array.getElem?_modify,if_pos rfl,h];rfl
theorem st11_2 {w:World}{b:Nat}{t:TypeId}{x0 x1 x2 x3 x4 x5 x6 x7 x8 x9 x10:Value}(h:w.heap[b]?=some (.cells #[x0,x1,x2,x3,x4,x5,x6,x7,x8,x9,x10] t (0,0))) (u:Value):(w.setCell ⟨b,2,none⟩ u).heap[b]?=some (.cells #[x0,x1,u,x3,x4,x5,x6,x7,x8,x9,x10] t (0,0)):=by
 show (w.heap.modify b _)[b]?=_
 rw [Array.getElem?_modify,if_pos rfl,h];rfl
theorem st11_3 {w:World}{b:Nat}{t:TypeId}{x0 x1 x2 x3 x4 x5 x6 x7 x8 x9 x10:Value}(h:w.heap[b]?=some (.cells #[x0,x1,x2,x3,x4,x5,x6,x7,x8,x9,x10] t (0,0))) (u:Value):(w.setCell ⟨b,3,none⟩ u).heap[b]?=some (.cells #[x0,x1,x2,u,x4,x5,x6,x7,x8,x9,x10] t (0,0)):=by
 show (w.heap.modify b _)[b]?=_
 rw [Array.getElem?_modify,if_pos rfl,h];rfl
theorem st11_4 {w:World}{b:Nat}{t:TypeId}{x0 x1 x2 x3 x4 x5 x6 x7 x8 x9 x10:Value}(h:w.heap[b]?=some (.cells #[x0,x1,x2,x3,x4,x5,x6,x7,x8,x9,x10] t (0,0))) (u:Value):(w.setCell ⟨b,4,none⟩ u).heap[b]?=some (.cells #[x0,x1,x2,x3,u,x5,x6,x7,x8,x9,x10] t (0,0)):=by
 show (w.heap.modify b _)[b]?=_
 rw [Array.getElem?_modify,if_pos rfl,h];rfl
theorem st11_5 {w:World}{b:Nat}{t:TypeId}{x0 x1 x2 x3 x4 x5 x6 x7 x8 x9 x10:Value}(h:w.heap[b]?=some (.cells #[x0,x1,x2,x3,x4,x5,x6,x7,x8,x9,x10] t (0,0))) (u:Value):(w.setCell ⟨b,5,none⟩ u).heap[b]?=some (.cells #[x0,x1,x2,x3,x4,u,x6,x7,x8,x9,x10] t (0,0)):=by
 show (w.heap.modify b _)[b]?=_
 rw [Array.getElem?_modify,if_pos rfl,h];rfl
theorem st11_6 {w:World}{b:Nat}{t:TypeId}{x0 x1 x2 x3 x4 x5 x6 x7 x8 x9 x10:Value}(h:w.heap[b]?=some (.cells #[x0,x1,x2,x3,x4,x5,x6,x7,x8,x9,x10] t (0,0))) (u:Value):(w.setCell ⟨b,6,none⟩ u).heap[b]?=some (.cells #[x0,x1,x2,x3,x4,x5,u,x7,x8,x9,x10] t (0,0)):=by
 show (w.heap.modify b _)[b]?=_
 rw [Array.getElem?_modify,if_pos rfl,h];rfl
theorem st11_7 {w:World}{b:Nat}{t:TypeId}{x0 x1 x2 x3 x4 x5 x6 x7 x8 x9 x10:Value}(h:w.heap[b]?=some (.cells #[x0,x1,x2,x3,x4,x5,x6,x7,x8,x9,x10] t (0,0))) (u:Value):(w.setCell ⟨b,7,none⟩ u).heap[b]?=some (.cells #[x0,x1,x2,x3,x4,x5,x6,u,x8,x9,x10] t (0,0)):=by
 show (w.heap.modify b _)[b]?=_
 rw [Array.getElem?_modify,if_pos rfl,h];rfl
theorem st11_8 {w:World}{b:Nat}{t:TypeId}{x0 x1 x2 x3 x4 x5 x6 x7 x8 x9 x10:Value}(h:w.heap[b]?=some (.cells #[x0,x1,x2,x3,x4,x5,x6,x7,x8,x9,x10] t (0,0))) (u:Value):(w.setCell ⟨b,8,none⟩ u).heap[b]?=some (.cells #[x0,x1,x2,x3,x4,x5,x6,x7,u,x9,x10] t (0,0)):=by
 show (w.heap.modify b _)[b]?=_
 rw [Array.getElem?_modify,if_pos rfl,h];rfl
theorem st11_9 {w:World}{b:Nat}{t:TypeId}{x0 x1 x2 x3 x4 x5 x6 x7 x8 x9 x10:Value}(h:w.heap[b]?=some (.cells #[x0,x1,x2,x3,x4,x5,x6,x7,x8,x9,x10] t (0,0))) (u:Value):(w.setCell ⟨b,9,none⟩ u).heap[b]?=some (.cells #[x0,x1,x2,x3,x4,x5,x6,x7,x8,u,x10] t (0,0)):=by
 show (w.heap.modify b _)[b]?=_
 rw [Array.getElem?_modify,if_pos rfl,h];rfl
theorem st11_10 {w:World}{b:Nat}{t:TypeId}{x0 x1 x2 x3 x4 x5 x6 x7 x8 x9 x10:Value}(h:w.heap[b]?=some (.cells #[x0,x1,x2,x3,x4,x5,x6,x7,x8,x9,x10] t (0,0))) (u:Value):(w.setCell ⟨b,10,none⟩ u).heap[b]?=some (.cells #[x0,x1,x2,x3,x4,x5,x6,x7,x8,x9,u] t (0,0)):=by
 show (w.heap.modify b _)[b]?=_
 rw [Array.getElem?_modify,if_pos rfl,h];rfl
def set11 (w:World) (b:Nat)(r:R) (p:Value):World:=(((((((((((w.setCell ⟨b,0,none⟩ (.int .i64 r.v.num)).setCell ⟨b,1,none⟩ (.int .i64 r.v.den)).setCell ⟨b,2,none⟩ (.int .i64 r.v.dim.a)).setCell ⟨b,3,none⟩ (.int .i64 r.v.dim.b)).setCell ⟨b,4,none⟩ (.int .i64 r.v.dim.c)).setCell ⟨b,5,none⟩ (.int .i64 r.v.dim.d)).setCell ⟨b,6,none⟩ (.int .i64 r.v.dim.e)).setCell ⟨b,7,none⟩ (.int .i64 r.v.dim.f)).setCell ⟨b,8,none⟩ (.int .i64 r.v.dim.g)).setCell ⟨b,9,none⟩ (p)).setCell ⟨b,10,none⟩ (.int .i64 r.e))
theorem set11_K11 {w:World}{b:Nat}{q:R}{p0:Value}(h:K11 w b q p0)(r:R) (p:Value):K11 (set11 w b r p) b r p:=(st11_10 (st11_9 (st11_8 (st11_7 (st11_6 (st11_5 (st11_4 (st11_3 (st11_2 (st11_1 (st11_0 h _) _) _) _) _) _) _) _) _) _) _)
theorem below11 {B b:Nat}{a w:World}(h:Below B a w)(hb:B≤b)(r:R) (p:Value):Below B a (set11 w b r p):=(((((((((((h.setCell (p:=⟨b,0,none⟩) hb _).setCell (p:=⟨b,1,none⟩) hb _).setCell (p:=⟨b,2,none⟩) hb _).setCell (p:=⟨b,3,none⟩) hb _).setCell (p:=⟨b,4,none⟩) hb _).setCell (p:=⟨b,5,none⟩) hb _).setCell (p:=⟨b,6,none⟩) hb _).setCell (p:=⟨b,7,none⟩) hb _).setCell (p:=⟨b,8,none⟩) hb _).setCell (p:=⟨b,9,none⟩) hb _).setCell (p:=⟨b,10,none⟩) hb _)
theorem set11_other (w:World) (b:Nat)(r:R) (p:Value) (k:Nat)(h:k≠b):(set11 w b r p).heap[k]?=w.heap[k]?:=by
 unfold set11;rw [Below.heap_setCell _ ⟨b,10,none⟩ _ k h,Below.heap_setCell _ ⟨b,9,none⟩ _ k h,Below.heap_setCell _ ⟨b,8,none⟩ _ k h,Below.heap_setCell _ ⟨b,7,none⟩ _ k h,Below.heap_setCell _ ⟨b,6,none⟩ _ k h,Below.heap_setCell _ ⟨b,5,none⟩ _ k h,Below.heap_setCell _ ⟨b,4,none⟩ _ k h,Below.heap_setCell _ ⟨b,3,none⟩ _ k h,Below.heap_setCell _ ⟨b,2,none⟩ _ k h,Below.heap_setCell _ ⟨b,1,none⟩ _ k h,Below.heap_setCell _ ⟨b,0,none⟩ _ k h]
theorem set11_size (w:World) (b:Nat)(r:R) (p:Value):(set11 w b r p).heap.size=w.heap.size:=by
 unfold set11;simp
def zR:R:=⟨zV,[],0⟩
theorem K11.zero (w:World):K11 (w.alloc (.cells #[.int .i64 0,.int .i64 0,.int .i64 0,.int .i64 0,.int .i64 0,.int .i64 0,.int .i64 0,.int .i64 0,.int .i64 0,.slice none 0 0,.int .i64 0] 86)) w.heap.size zR (.slice none 0 0):=K11.new w zR (.slice none 0 0)
theorem BI.keep {w w':World}{v:Value}{l:List Int}(h:BI w v l)(hk:∀ b o n c,v=.slice (some ⟨b,o,none⟩) n c→b<w.heap.size→b<w'.heap.size∧w'.heap[b]?=w.heap[b]?):BI w' v l:=by
 obtain ⟨⟨A,c,rfl,hc,hcell⟩,hn⟩:=h
 refine ⟨⟨A,c,rfl,hc,fun hne=>?_⟩,hn⟩
 obtain ⟨b,o,rfl,hlt,hs⟩:=hcell hne
 obtain ⟨h1,h2⟩:=hk b o _ _ rfl hlt
 exact ⟨b,o,rfl,h1,fun i hi=>(cell_of_block h2 _).trans (hs i hi)⟩
theorem RI.block {w:World}{B:Nat}{v:Value}{l:List Int}(h:RI w B v l){b o n c:Nat}(e:v=.slice (some ⟨b,o,none⟩) n c):B≤b∧b<w.heap.size:=by
 subst e;exact World.ownsRow.lt h b rfl
set_option maxRecDepth 100000 in
set_option maxHeartbeats 4000000 in
theorem under_any (r:R) (p:Value) (i:Int)(w:World)(h:BI w p r.path)(hl:r.path.length≤800000):Calls Tryz.prog 83 #[.agg (r.cells p),.int .i64 i] w fun e w'=>∃ q,e=.returned (.agg ((r.under i).cells q))∧BI w' q (r.under i).path∧(q=p∨∀ b o n c,q=.slice (some ⟨b,o,none⟩) n c→w.heap.size≤b)∧Below w.heap.size w w':=by
 obtain ⟨A,c,rfl⟩:∃ A c,p=.slice A r.path.length c:=by obtain ⟨⟨A,c,h1,_⟩,_⟩:=h; exact ⟨A,c,h1⟩
 have HP0:=hid h
 have HE:Hid (r.under i=if r.e=0 then r else ⟨r.v,i::r.path,r.e⟩):=rfl
 generalize r.under i=Ru at*;have HB:=hid (b2 w (.cells #[.int .i64 r.v.num,.int .i64 r.v.den,.int .i64 r.v.dim.a,.int .i64 r.v.dim.b,.int .i64 r.v.dim.c,.int .i64 r.v.dim.d,.int .i64 r.v.dim.e,.int .i64 r.v.dim.f,.int .i64 r.v.dim.g,.slice A r.path.length c,.int .i64 r.e] 86) (.cells #[.int .i64 0,.int .i64 0,.int .i64 0,.int .i64 0,.int .i64 0,.int .i64 0,.int .i64 0,.int .i64 0,.int .i64 0,.slice none 0 0,.int .i64 0] 86))
 have HP:=hid (h.reach HB.out)
 have hk1:K11 ((w.alloc (.cells #[.int .i64 r.v.num,.int .i64 r.v.den,.int .i64 r.v.dim.a,.int .i64 r.v.dim.b,.int .i64 r.v.dim.c,.int .i64 r.v.dim.d,.int .i64 r.v.dim.e,.int .i64 r.v.dim.f,.int .i64 r.v.dim.g,.slice A r.path.length c,.int .i64 r.e] 86)).alloc (.cells #[.int .i64 0,.int .i64 0,.int .i64 0,.int .i64 0,.int .i64 0,.int .i64 0,.int .i64 0,.int .i64 0,.int .i64 0,.slice none 0 0,.int .i64 0] 86)) w.heap.size r (.slice A r.path.length c):=(K11.new w r (.slice A r.path.length c)).reach (b1 _ _)
 have hk2:K11 ((w.alloc (.cells #[.int .i64 r.v.num,.int .i64 r.v.den,.int .i64 r.v.dim.a,.int .i64 r.v.dim.b,.int .i64 r.v.dim.c,.int .i64 r.v.dim.d,.int .i64 r.v.dim.e,.int .i64 r.v.dim.f,.int .i64 r.v.dim.g,.slice A r.path.length c,.int .i64 r.e] 86)).alloc (.cells #[.int .i64 0,.int .i64 0,.int .i64 0,.int .i64 0,.int .i64 0,.int .i64 0,.int .i64 0,.int .i64 0,.int .i64 0,.slice none 0 0,.int .i64 0] 86)) (w.heap.size+1) zR (.slice none 0 0):=by
  have:=K11.zero (w.alloc (.cells #[.int .i64 r.v.num,.int .i64 r.v.den,.int .i64 r.v.dim.a,.int .i64 r.v.dim.b,.int .i64 r.v.dim.c,.int .i64 r.v.dim.d,.int .i64 r.v.dim.e,.int .i64 r.v.dim.f,.int .i64 r.v.dim.g,.slice A r.path.length c,.int .i64 r.e] 86))
  rw [World.size_alloc]at this
  exact this
 have HK1:=hid hk1
 have HK2:=hid hk2
 have HSZ:Hid (((w.alloc (.cells #[.int .i64 r.v.num,.int .i64 r.v.den,.int .i64 r.v.dim.a,.int .i64 r.v.dim.b,.int .i64 r.v.dim.c,.int .i64 r.v.dim.d,.int .i64 r.v.dim.e,.int .i64 r.v.dim.f,.int .i64 r.v.dim.g,.slice A r.path.length c,.int .i64 r.e] 86)).alloc (.cells #[.int .i64 0,.int .i64 0,.int .i64 0,.int .i64 0,.int .i64 0,.int .i64 0,.int .i64 0,.int .i64 0,.int .i64 0,.slice none 0 0,.int .i64 0] 86)).heap.size=w.heap.size+2):=by show _=_; simp
 clear h hk1 hk2;unfold R.cells;go_enter Tryz.func83,Tryz.ntmps83;go_upto_region 1 with (fail);generalize (w.alloc (.cells #[.int .i64 r.v.num,.int .i64 r.v.den,.int .i64 r.v.dim.a,.int .i64 r.v.dim.b,.int .i64 r.v.dim.c,.int .i64 r.v.dim.d,.int .i64 r.v.dim.e,.int .i64 r.v.dim.f,.int .i64 r.v.dim.g,.slice A r.path.length c,.int .i64 r.e] 86)).alloc (.cells #[.int .i64 0,.int .i64 0,.int .i64 0,.int .i64 0,.int .i64 0,.int .i64 0,.int .i64 0,.int .i64 0,.int .i64 0,.slice none 0 0,.int .i64 0] 86)=w1 at*
 obtain ⟨⟨p0,p1,p2,p3,p4,p5,p6,p7,p8,p9,p10⟩,pf,_⟩:=HK1.out.cells
 obtain ⟨⟨z0,z1,z2,z3,z4,z5,z6,z7,z8,z9,z10⟩,zf,_⟩:=HK2.out.cells
 by_cases he:r.e=0
 ·have HR:Hid (Ru=r):=HE.out.trans (if_pos he)
  have hB:=below11 HB.out (b:=w.heap.size+1) (by omega) r (.slice A r.path.length c)
  have HF:=hid hB
  have HQ:=hid (HP0.out.reach hB)
  clear hB;go_wp2_with fail;rw [HR.out];refine bodyPost_ret (v:=.agg (r.cells (.slice A r.path.length c))) (by simp [results,Tryz.results83,go_sem,R.cells,he,z0,z1,z2,z3,z4,z5,z6,z7,z8,z9,z10]) rfl ⟨_,rfl,?_,.inl rfl,?_⟩
  ·have:=HQ.out; unfold set11 at this; rw [he]at this; exact this
  ·have:=HF.out; unfold set11 at this; rw [he]at this; exact this
 ·have HR:Hid (Ru=⟨r.v,i::r.path,r.e⟩):=HE.out.trans (if_neg he)
  have hm:BI ((w1.alloc (.cells #[.int .i64 i] 3)).alloc (.cells #[.slice (some ⟨w1.heap.size,0,none⟩) 1 1,.slice A r.path.length c] 29)) (.slice (some ⟨w1.heap.size,0,none⟩) 1 1) [i]:=by
   refine ⟨⟨_,1,rfl,⟨Nat.le_refl _,by omega⟩,fun _=>⟨w1.heap.size,0,rfl,by simp only [World.size_alloc]; omega,fun j hj=>?_⟩⟩,fun n c e=>by injection e with e1; cases e1⟩
   obtain rfl:j=0:=by simpa using hj
   simp
  have hcat:=concat133_any (w1.heap.size+1) 2 [.slice (some ⟨w1.heap.size,0,none⟩) 1 1,.slice A r.path.length c] [[i],r.path] ((w1.alloc (.cells #[.int .i64 i] 3)).alloc (.cells #[.slice (some ⟨w1.heap.size,0,none⟩) 1 1,.slice A r.path.length c] 29)) rfl (by simp)
   (fun j hj=>by
    rcases j with _|_|j
    ·simp
    ·simp
    ·simp at hj; omega)
   (fun j hj hj'=>by
    rcases j with _|_|j
    ·exact hm
    ·exact HP.out.reach (b2 _ _ _)
    ·simp at hj; omega) ⟨by simp,by simp; omega⟩ (by simp)
  have HC:=hid hcat
  clear hcat hm;go_wp2_with fail;refine HC.out.mono ?_
  rintro e w4 ⟨q,rfl,hr,hb⟩
  rw [show [[i],r.path].flatten=i::r.path from by simp]at hr
  have hq:=hr.bi
  obtain ⟨A2,c2,rfl⟩:∃ A c,q=.slice A (r.path.length+1) c:=by obtain ⟨⟨A,c,h1,_⟩,_⟩:=hq; exact ⟨A,c,h1⟩
  have HB4:=hid (bl_tr (b2 w1 _ _) hb)
  have hs4:=HB4.out.size
  have hne:w.heap.size+1≠w.heap.size:=by omega
  have HG:=hid fun b o n c (e:Value.slice A2 (r.path.length+1) c2=.slice (some ⟨b,o,none⟩) n c)=>hr.block e
  have HQ:=hid hq
  have HK14:=hid (HK1.out.reach HB4.out)
  have HK24:=hid (HK2.out.reach HB4.out)
  have HBw:=hid (HB.out.trans (HB4.out.mono HB.out.size))
  clear hr hb hq HC z0 z1 z2 z3 z4 z5 z6 z7 z8 z9 z10 p0 p1 p2 p3 p4 p5 p6 p7 p8 p9 p10 zf pf;have hkA:K11 (w4.setCell ⟨w.heap.size,9,none⟩ (.slice A2 (r.path.length+1) c2)) w.heap.size ⟨r.v,i::r.path,r.e⟩ (.slice A2 (r.path.length+1) c2):=st11_9 HK14.out _
  have hkB:K11 (w4.setCell ⟨w.heap.size,9,none⟩ (.slice A2 (r.path.length+1) c2)) (w.heap.size+1) zR (.slice none 0 0):=(Below.heap_setCell w4 ⟨w.heap.size,9,none⟩ _ (w.heap.size+1) hne).trans HK24.out
  have hBB:Below w.heap.size w (w4.setCell ⟨w.heap.size,9,none⟩ (.slice A2 (r.path.length+1) c2)):=HBw.out.setCell (p:=⟨w.heap.size,9,none⟩) (Nat.le_refl _) _
  have HKA:=hid hkA
  have HKB:=hid hkB
  have HF:=hid (below11 hBB (b:=w.heap.size+1) (Nat.le_succ _) ⟨r.v,i::r.path,r.e⟩ (.slice A2 (r.path.length+1) c2))
  have hN:(w1.alloc (.cells #[.int .i64 i] 3)).alloc (.cells #[.slice (some ⟨w1.heap.size,0,none⟩) 1 1,.slice A r.path.length c] 29)=(w1.alloc (.cells #[.int .i64 i] 3)).alloc (.cells #[.slice (some ⟨w1.heap.size,0,none⟩) 1 1,.slice A r.path.length c] 29):=rfl
  have HQF:Hid (BI (set11 (w4.setCell ⟨w.heap.size,9,none⟩ (.slice A2 (r.path.length+1) c2)) (w.heap.size+1) ⟨r.v,i::r.path,r.e⟩ (.slice A2 (r.path.length+1) c2)) (.slice A2 (r.path.length+1) c2) (i::r.path)):=by
   refine HQ.out.keep fun b o n c e hlt=>?_
   obtain ⟨h1,h2⟩:=HG.out b o n c e
   rw [World.size_alloc,World.size_alloc]at h1
   have:=HSZ.out
   refine ⟨by rw [set11_size,World.size_setCell]; exact hlt,?_⟩
   rw [set11_other _ _ _ _ _ (by omega)]
   exact Below.heap_setCell w4 ⟨w.heap.size,9,none⟩ _ b (by show b≠w.heap.size; omega)
  have pf:=HK14.out.cells.2.1 9
  have p9:=HK14.out.cells.1.2.2.2.2.2.2.2.2.2.1
  clear hkA hkB hBB hN;go_upto_region 3 with (fail);clear pf p9;obtain ⟨⟨p0,p1,p2,p3,p4,p5,p6,p7,p8,p9,p10⟩,_,_⟩:=HKA.out.cells
  obtain ⟨⟨z0,z1,z2,z3,z4,z5,z6,z7,z8,z9,z10⟩,zf,_⟩:=HKB.out.cells
  generalize w4.setCell ⟨w.heap.size,9,none⟩ (.slice A2 (r.path.length+1) c2)=w5 at*;go_wp2_with fail;rw [HR.out];refine bodyPost_ret (v:=.agg (R.cells ⟨r.v,i::r.path,r.e⟩ (.slice A2 (r.path.length+1) c2))) (by simp [results,Tryz.results83,go_sem,R.cells,z0,z1,z2,z3,z4,z5,z6,z7,z8,z9,z10]) rfl ⟨_,rfl,HQF.out,.inr (fun b o n c e=>by have h1:=(HG.out b o n c e).1; rw [World.size_alloc,World.size_alloc]at h1; have:=HB.out.size; omega),HF.out⟩
def BO (w:World) (B:Nat) (v:Value)(l:List Int):Prop:=BI w v l∧∀ b o n c,v=.slice (some ⟨b,o,none⟩) n c→B≤b
theorem BO.nil (w:World) (B:Nat):BO w B (.slice none 0 0) []:=⟨BI.nil w,fun b o n c e=>by injection e with e; cases e⟩
theorem BO.reach {w w':World}{B:Nat}{v:Value}{l:List Int}(h:BO w B v l)(hb:Below w.heap.size w w'):BO w' B v l:=⟨h.1.reach hb,h.2⟩
theorem BO.less {w:World}{B B':Nat}{v:Value}{l:List Int}(h:BO w B v l)(hB:B'≤B):BO w B' v l:=⟨h.1,fun b o n c e=>Nat.le_trans hB (h.2 b o n c e)⟩
theorem BO.set11 {w:World}{B:Nat}{v:Value}{l:List Int}(h:BO w B v l){b:Nat}(hb:b<B)(r:R) (p:Value):BO (set11 w b r p) B v l:=
 ⟨h.1.keep fun b' o n c e hlt=>⟨by rw [set11_size]; exact hlt,set11_other _ _ _ _ _ (by have:=h.2 b' o n c e; omega)⟩,h.2⟩
theorem under_own (r:R) (p:Value) (i:Int)(w:World) (B:Nat)(h:BO w B p r.path)(hB:B≤w.heap.size)(hl:r.path.length≤800000):Calls Tryz.prog 83 #[.agg (r.cells p),.int .i64 i] w fun e w'=>∃ q,e=.returned (.agg ((r.under i).cells q))∧BO w' B q (r.under i).path∧Below w.heap.size w w':=
 (under_any r p i w h.1 hl).mono fun e w' ⟨q,h1,h2,h3,h4⟩=>⟨q,h1,⟨h2,by
  rcases h3 with rfl|h3
  ·exact h.2
  ·exact fun b o n c e=>Nat.le_trans hB (h3 b o n c e)⟩,h4⟩
end Go.Proofs.YtknpigdpepmimaaGreatDoor
