/- Contract of term 41 at an application, out of its own for smaller terms. -/
import Derived.Deep.RegionHeldLaw
import Derived.OrdersHeld
import Derived.Deep.QuietTactic
import Derived.BigQuiet
import Derived.OwnWalk
import Derived.Test.YtknpigdpepmimaaGreatDoorV15
namespace Go.Proofs.YtknpigdpepmimaaGreatDoor
open Go.Lib(hid)
open Go.RowKit Go.Maps
def KO (w:World)(b ar f:Nat):Prop:=w.heap[b]?=some (.cells #[.int .i64 (ar:Nat),.func (.func f) #[] #[]] 115 (0,0))
theorem KO.cells {w:World}{b ar f:Nat}(h:KO w b ar f):(w.cell? ⟨b,0,none⟩=some (.int .i64 (ar:Nat))∧w.cell? ⟨b,1,none⟩=some (.func (.func f) #[] #[]))∧b<w.heap.size:=by
 unfold KO at h;refine ⟨⟨?_,?_⟩,(Array.getElem?_eq_some_iff.1 h).1⟩<;>simp [World.cell?,h]
theorem keep2 {w w':World}{a b:Addr}{u v:Value}(h1:w.cell? a=some u)(h2:w.cell? b=some v)(hb:Below w.heap.size w w'):w'.cell? a=some u∧w'.cell? b=some v:=
 ⟨(hb.cell (block_lt_of_cell h1)).trans h1,(hb.cell (block_lt_of_cell h2)).trans h2⟩
theorem enter68 (v:Value)(w:World):(callFunc 68 #[v]).run Tryz.prog w=.ok (.enter 68 #[v]) w:=by kernel_rfl
theorem enter69 (v:Value)(w:World):(callFunc 69 #[v]).run Tryz.prog w=.ok (.enter 69 #[v]) w:=by kernel_rfl
theorem enter70 (v:Value)(w:World):(callFunc 70 #[v]).run Tryz.prog w=.ok (.enter 70 #[v]) w:=by kernel_rfl
theorem enter71 (v:Value)(w:World):(callFunc 71 #[v]).run Tryz.prog w=.ok (.enter 71 #[v]) w:=by kernel_rfl
theorem enter72 (v:Value)(w:World):(callFunc 72 #[v]).run Tryz.prog w=.ok (.enter 72 #[v]) w:=by kernel_rfl
theorem enter73 (v:Value)(w:World):(callFunc 73 #[v]).run Tryz.prog w=.ok (.enter 73 #[v]) w:=by kernel_rfl
theorem enter74 (v:Value)(w:World):(callFunc 74 #[v]).run Tryz.prog w=.ok (.enter 74 #[v]) w:=by kernel_rfl
theorem enter75 (v:Value)(w:World):(callFunc 75 #[v]).run Tryz.prog w=.ok (.enter 75 #[v]) w:=by kernel_rfl
theorem enter76 (v:Value)(w:World):(callFunc 76 #[v]).run Tryz.prog w=.ok (.enter 76 #[v]) w:=by kernel_rfl
theorem enter77 (v:Value)(w:World):(callFunc 77 #[v]).run Tryz.prog w=.ok (.enter 77 #[v]) w:=by kernel_rfl
theorem enter_op {n:W8}{ar k:Nat}(h:opOf n=some (ar,k)) (v:Value)(w:World):(callFunc (68+k) #[v]).run Tryz.prog w=.ok (.enter (68+k) #[v]) w:=by
 rcases opOf_mem h with h|h|h|h|h|h|h|h|h|h<;>have hk:=congrArg Prod.snd h<;>dsimp only at hk<;>rw [hk]
 ·exact enter68 v w
 ·exact enter69 v w
 ·exact enter70 v w
 ·exact enter71 v w
 ·exact enter72 v w
 ·exact enter73 v w
 ·exact enter74 v w
 ·exact enter75 v w
 ·exact enter76 v w
 ·exact enter77 v w
structure LI (w wr:World)(xb nb ob B0 B1:Nat)(E s:Sc) (p:Value)(b o m12 ar f:Nat)(A:Option Addr) (ca:Nat)(ys:List T) (c:Nat):Prop where
 cx:Cx wr xb nb ob B0 E c
 sc:SCP wr (SS w xb) s p
 k6:K11 wr w.heap.size zR (.slice none 0 0)
 ko:KO wr m12 ar f
 d3:wr.cell? ⟨b,o+3,none⟩=some (.slice A ys.length ca)
 ta:TA wr B0 A ys
 gr:w.grownBy wr (some xb)
 nm:m12≠xb
 nb':b≠xb
 lo:nb<w.heap.size∧ob<w.heap.size∧xb<w.heap.size∧b<w.heap.size∧m12<B1∧w.heap.size<B1∧B1≤wr.heap.size
theorem LI.scw {w wr:World}{xb nb ob B0 B1:Nat}{E s:Sc}{p:Value}{b o m12 ar f:Nat}{A:Option Addr}{ca:Nat}{ys:List T}{c:Nat}(h:LI w wr xb nb ob B0 B1 E s p b o m12 ar f A ca ys c):SCP wr (SS wr xb) s p:=
 h.sc.keep fun _ hk=>⟨⟨hk.1,Nat.lt_of_lt_of_le hk.2 h.gr.size⟩,rfl⟩
theorem LI.blocks {w wr w':World}{xb nb ob B0 B1:Nat}{E s:Sc}{p:Value}{b o m12 ar f:Nat}{A:Option Addr}{ca:Nat}{ys:List T}{c c':Nat}(h:LI w wr xb nb ob B0 B1 E s p b o m12 ar f A ca ys c)(h1:w'.os=wr.os)(h2:w'.tape=wr.tape)(h3:w'.output=wr.output)(h4:wr.heap.size≤w'.heap.size)(hk:∀ k,k<B1→k≠xb→w'.heap[k]?=wr.heap[k]?)(he:EB w' xb nb ob c'):LI w w' xb nb ob B0 B1 E s p b o m12 ar f A ca ys c' where
 cx:=⟨he,h.cx.env.block (hk nb (by have:=h.lo; omega) h.cx.hn),own_block h.cx.opm (hk ob (by have:=h.lo; omega) h.cx.ho),h.cx.hB,h.cx.hn,h.cx.ho,by
  obtain ⟨m,hm⟩:=h.cx.mx.cell
  have e1:=h.cx.hB
  have e2:=h.cx.h0
  have e3:=h.lo
  exact ⟨m,(cell_of_block (hk 0 (by omega) (by omega)) 0).trans hm⟩,h.cx.h0⟩
 sc:=h.sc.keep fun k hk2=>⟨hk2,hk k (by have:=h.lo; have:=hk2.2; omega) hk2.1⟩
 k6:=(hk _ (by have:=h.lo; omega) (by have:=h.lo; omega)).trans h.k6
 ko:=(hk _ (by have:=h.lo; omega) h.nm).trans h.ko
 d3:=(cell_of_block (hk _ (by have:=h.lo; omega) h.nb') _).trans h.d3
 ta:=fun hne=>by
  obtain ⟨b',o',e,h5⟩:=h.ta hne
  refine ⟨b',o',e,h5.below ⟨h1,h2,h3,h4,fun k hkk=>hk k ?_ ?_⟩⟩
  ·have:=h.lo; have:=h.cx.hB; omega
  ·have:=h.cx.hB; omega
 gr:=⟨h1.trans h.gr.os,h2.trans h.gr.tape,h3.trans h.gr.output,Nat.le_trans h.gr.size h4,fun k hkk hne=>(hk k (by have:=h.lo; omega) (fun e=>hne (by rw [e]))).trans (h.gr.block k hkk hne)⟩
 nm:=h.nm
 nb':=h.nb'
 lo:=⟨h.lo.1,h.lo.2.1,h.lo.2.2.1,h.lo.2.2.2.1,h.lo.2.2.2.2.1,h.lo.2.2.2.2.2.1,Nat.le_trans h.lo.2.2.2.2.2.2 h4⟩
theorem LI.step {w wr w':World}{xb nb ob B0 B1:Nat}{E s:Sc}{p:Value}{b o m12 ar f:Nat}{A:Option Addr}{ca:Nat}{ys:List T}{c c':Nat}(h:LI w wr xb nb ob B0 B1 E s p b o m12 ar f A ca ys c)(hg:wr.grownBy w' (some xb))(he:EB w' xb nb ob c'):LI w w' xb nb ob B0 B1 E s p b o m12 ar f A ca ys c':=
 h.blocks hg.os hg.tape hg.output hg.size (fun k hk hne=>hg.block k (by have:=h.lo; omega) (fun e=>hne (Option.some.inj e))) he
theorem LI.reach {w wr w':World}{xb nb ob B0 B1:Nat}{E s:Sc}{p:Value}{b o m12 ar f:Nat}{A:Option Addr}{ca:Nat}{ys:List T}{c:Nat}(h:LI w wr xb nb ob B0 B1 E s p b o m12 ar f A ca ys c)(hb:Below wr.heap.size wr w'):LI w w' xb nb ob B0 B1 E s p b o m12 ar f A ca ys c:=
 h.step (grown_of_below hb _) ((hb.block xb h.cx.xlt).trans h.cx.eb)
theorem LI.row {w wr w':World}{xb nb ob B0 B1:Nat}{E s:Sc}{p:Value}{b o m12 ar f:Nat}{A:Option Addr}{ca:Nat}{ys:List T}{c:Nat}(h:LI w wr xb nb ob B0 B1 E s p b o m12 ar f A ca ys c){row:Option Nat}(hg:wr.grownBy w' row)(hr:∀ k,row=some k→B1≤k):LI w w' xb nb ob B0 B1 E s p b o m12 ar f A ca ys c:=
 h.blocks hg.os hg.tape hg.output hg.size (fun k hk hne=>hg.block k (by have:=h.lo; omega) (fun e=>by have:=hr k e.symm; omega)) ((hg.block xb h.cx.xlt (fun e=>by have:=hr xb e.symm; have:=h.lo; omega)).trans h.cx.eb)
theorem OV.keep {w w':World}{B xb:Nat}{v:Value}{l:List V}(h:OV w B v l)(hg:w.grownBy w' (some xb))(hx:xb<B):OV w' B v l:=
 World.ownsRow.kept h hg (.inr fun e=>by have:=(World.ownsRow.lt h xb e).1; omega)
theorem under_lit (r:R) (p:Value) (i:Int)(w:World) (B:Nat)(h:BO w B p r.path)(hB:B≤w.heap.size)(hl:r.path.length≤800000):Calls Tryz.prog 83 #[.agg (r.cells p),.int .i64 i] w fun e w'=>∃ A c,e=.returned (.agg #[.int .i64 (r.under i).v.num,.int .i64 (r.under i).v.den,.int .i64 (r.under i).v.dim.a,.int .i64 (r.under i).v.dim.b,.int .i64 (r.under i).v.dim.c,.int .i64 (r.under i).v.dim.d,.int .i64 (r.under i).v.dim.e,.int .i64 (r.under i).v.dim.f,.int .i64 (r.under i).v.dim.g,.slice A (r.under i).path.length c,.int .i64 (r.under i).e])∧BO w' B (.slice A (r.under i).path.length c) (r.under i).path∧Below w.heap.size w w':=
 (under_own r p i w B h hB hl).mono fun e w' ⟨q,h1,h2,h3⟩=>by
  obtain ⟨⟨A,c,rfl,_⟩,_⟩:=h2.1
  exact ⟨A,c,h1,h2,h3⟩
set_option maxRecDepth 100000 in
set_option maxHeartbeats 8000000 in
theorem term_apply {xb nb ob B0:Nat}{E:Sc}{N:Nat}(IH:TermC xb nb ob B0 E N)(t:T)(hz:t.size≤N+1)(hw:WF t)(hk:t.kind=4)(hN:N≤2000)(s:Sc) (p:Value)(c b o:Nat)(w:World)(hc:c≤2000)(hok:(s++E).ok)(ht:TR w B0 b o t)(hx:Cx w xb nb ob B0 E c)(hs:SCP w (SS w xb) s p):
  Calls Tryz.prog 41 #[.pointer (some ⟨xb,0,none⟩),.pointer (some ⟨b,o,none⟩),p] w fun e w'=>Left w w' xb nb ob (ev t (s++E) c) e:=by
 have HO:=hid (own_short' hw.parts.1)
 obtain ⟨hb,d0,d1,d2,d4,A,ca,d3,hca,hta⟩:=ht.parts
 have hbx:b≠xb:=by have:=hx.hB; omega
 have hbw:b<w.heap.size:=by have:=hx.hB; have:=hx.xlt; omega
 have HB:=hid (b1 w (.cells #[.int .i64 0,.int .i64 0,.int .i64 0,.int .i64 0,.int .i64 0,.int .i64 0,.int .i64 0,.int .i64 0,.int .i64 0,.slice none 0 0,.int .i64 0] 86))
 have HK:=hid (K11.zero w)
 have HX:=hid (hx.reach HB.out)
 have HX0:=hid hx.xlt
 have HS:Hid (SCP (w.alloc (.cells #[.int .i64 0,.int .i64 0,.int .i64 0,.int .i64 0,.int .i64 0,.int .i64 0,.int .i64 0,.int .i64 0,.int .i64 0,.slice none 0 0,.int .i64 0] 86)) (SS w xb) s p):=hs.keep fun k hk=>⟨hk,HB.out.block k hk.2⟩
 have HLO:Hid (nb<w.heap.size∧ob<w.heap.size∧b<w.heap.size):=⟨hx.nlt,hx.olt,hbw⟩
 have HG:Hid (ev t (s++E) c=applyG t.name (evs t.args (s++E)) c):=by show _=_; rw [ev_eq,hk]; rfl
 have HD0:=hid ((HB.out.cell (p:=⟨b,o,none⟩) hbw).trans d0)
 have HD1:=hid ((HB.out.cell (p:=⟨b,o+1,none⟩) hbw).trans d1)
 have HD3:=hid ((HB.out.cell (p:=⟨b,o+3,none⟩) hbw).trans d3)
 have HTA:Hid (TA (w.alloc (.cells #[.int .i64 0,.int .i64 0,.int .i64 0,.int .i64 0,.int .i64 0,.int .i64 0,.int .i64 0,.int .i64 0,.int .i64 0,.slice none 0 0,.int .i64 0] 86)) B0 A t.args):=fun hne=>by
  obtain ⟨b',o',e,h⟩:=hta hne
  exact ⟨b',o',e,h.below (hx.term (grown_of_below HB.out _))⟩
 have HIH:Hid (∀ (i:Nat)(h:i<t.args.length),t.args[i].size≤N∧WF t.args[i]):=fun i h=>⟨size_list hz (List.getElem_mem h),hw.parts.2.mem (List.getElem_mem h)⟩
 have HIO:=hid IH
 have HOK:=hid hok
 have HCC:=hid hc
 have HBX:=hid hbx
 have HL:Hid (t.args.length≤N):=by
  show _≤_
  have:=len_sizes t.args
  have:=size_eq t
  omega
 clear d0 d1 d2 d4 d3 hta hx hs ht hb hbw IH hok hc hw hz;have hd0:=HD0.out
 rw [hk]at hd0
 generalize t.name=n at*;generalize t.args=ys at*;generalize ev t (s++E) c=g at*;clear hk;unfold Left;go_enter Tryz.func41,Tryz.ntmps41;go_upto_region 15 with (fail);have HSZ:Hid ((w.alloc (.cells #[.int .i64 0,.int .i64 0,.int .i64 0,.int .i64 0,.int .i64 0,.int .i64 0,.int .i64 0,.int .i64 0,.int .i64 0,.slice none 0 0,.int .i64 0] 86)).heap.size=w.heap.size+1):=by show _=_; simp
 generalize w.alloc (.cells #[.int .i64 0,.int .i64 0,.int .i64 0,.int .i64 0,.int .i64 0,.int .i64 0,.int .i64 0,.int .i64 0,.int .i64 0,.slice none 0 0,.int .i64 0] 86)=w1 at*;have hlk:=(HX.out.reach (bl_dr (Below.refl w1.heap.size w1))).look n (by have:=HO.out.1; omega)
 have hlk2:=(HX.out.reach (bl_dr (b1 w1 (.cells #[.int .i64 0,.nilFunc] 115)))).look n (by have:=HO.out.1; omega)
 obtain ⟨⟨e0,e1,e2⟩,_,_⟩:=HX.out.eb.cells
 have hd1:=HD1.out
 have HE1:=hid e1
 clear e0 e2;unfold applyG at HG;generalize hOL:opOf n=ol at hlk hlk2 HG;have HON:=hid hOL
 clear hOL;cases ol with
 | none=>
  dsimp only [Option.isSome_none]at hlk hlk2
  have HG2:Hid (g=(erR 15,c)):=HG.out
  go_cut [12,13] (fun s12 s13 wx=>s13=.bool false∧Aside (Below w1.heap.size w1 wx))
  case first=>
   go_region_held_law (fun w'=>w'.cell? ⟨xb,1,none⟩=some (.map (some ob))∧w'.cell? ⟨b,o+1,none⟩=some (.string ⟨n.toArray⟩)) ((refine keep2 HE1.out HD1.out ?_; repeat (first|with_reducible exact Below.refl _ _|with_reducible apply bl_dr|with_reducible apply bl_al))) (fail)
   all_goals
    go_wp2_with fail;go_meet
    case rel=>exact ⟨rfl,(by show Below _ _ _; repeat (first|with_reducible exact Below.refl _ _|with_reducible apply bl_dr|with_reducible apply bl_al))⟩
  case rest=>
   obtain ⟨rfl,HB2⟩:=hcut
   rename World=>w2
   have HK2:=hid (HK.out.reach HB2.out)
   have HX2:=hid (HX.out.reach HB2.out)
   have HBw:=hid (bl_tr HB.out HB2.out)
   clear hlk hlk2 hd0 hd1 e1;obtain ⟨⟨z0,z1,z2,z3,z4,z5,z6,z7,z8,z9,z10⟩,zf,_⟩:=HK2.out.cells
   go_wp2_with fail;rw [HG2.out];refine bodyPost_ret (v:=.agg (R.cells (erR 15) (.slice none 0 0))) (by simp [results,Tryz.results41,go_sem,R.cells,erR,zV,zD,z0,z1,z2,z3,z4,z5,z6,z7,z8,z9,z10]) rfl ⟨_,rfl,((BO.nil w2 (w.heap.size+1)).set11 (Nat.lt_succ_self _) (erR 15) (.slice none 0 0)).less (Nat.le_succ _),grown11 (grown_of_below HBw.out _) (erR 15) (.slice none 0 0),eb11 ⟨HX2.out.eb,HX0.out⟩ (erR 15) (.slice none 0 0)⟩
 | some ok=>
  obtain ⟨ar,kk⟩:=ok
  dsimp only [Option.isSome_some]at hlk hlk2
  generalize hf:68+kk=f at hlk hlk2;have HFK:=hid hf
  clear hf;go_cut [12,13] (fun s12 s13 wx=>s12=.pointer (some ⟨w1.heap.size,0,none⟩)∧s13=.bool true∧wx=(w1.alloc (.cells #[.int .i64 (ar:Nat),.func (.func f) #[] #[]] 115)).drew)
  case first=>
   go_region_held_law (fun w'=>w'.cell? ⟨xb,1,none⟩=some (.map (some ob))∧w'.cell? ⟨b,o+1,none⟩=some (.string ⟨n.toArray⟩)) ((refine keep2 HE1.out HD1.out ?_; repeat (first|with_reducible exact Below.refl _ _|with_reducible apply bl_dr|with_reducible apply bl_al))) (fail)
   all_goals
    go_wp2_with fail;go_meet
    case rel=>exact ⟨rfl,rfl,rfl⟩
  case rest=>
   obtain ⟨rfl,rfl,rfl⟩:=hcut
   have HKO:Hid (KO (w1.alloc (.cells #[.int .i64 (ar:Nat),.func (.func f) #[] #[]] 115)).drew w1.heap.size ar f):=heap_alloc_new w1 _
   have hb2:=bl_dr (b1 w1 (.cells #[.int .i64 (ar:Nat),.func (.func f) #[] #[]] 115))
   have HK2:=hid (HK.out.reach hb2)
   have HX2:=hid (HX.out.reach hb2)
   have HB2:=hid (bl_tr HB.out hb2)
   have HS2:Hid (SCP (w1.alloc (.cells #[.int .i64 (ar:Nat),.func (.func f) #[] #[]] 115)).drew (SS w xb) s p):=HS.out.keep fun k hk=>⟨hk,hb2.block k (by have:=hk.2; have:=HSZ.out; omega)⟩
   have hlt1:b<w1.heap.size:=block_lt_of_cell HD3.out
   have HD2:=hid ((hb2.cell (p:=⟨b,o+3,none⟩) hlt1).trans HD3.out)
   have HTA2:Hid (TA (w1.alloc (.cells #[.int .i64 (ar:Nat),.func (.func f) #[] #[]] 115)).drew B0 A ys):=fun hne=>by
    obtain ⟨b',o',e,h⟩:=HTA.out hne
    exact ⟨b',o',e,h.below (HX.out.term (grown_of_below hb2 _))⟩
   clear hlk hlk2 hd0 hd1 e1 hb2 hlt1;have HM12:Hid (w.heap.size<w1.heap.size):=by show _ < _; have:=HSZ.out; omega
   have HM12b:Hid (xb<w1.heap.size):=HX.out.xlt
   generalize w1.heap.size=m12 at*;generalize (w1.alloc (.cells #[.int .i64 (ar:Nat),.func (.func f) #[] #[]] 115)).drew=w2 at*;have d3:=HD2.out
   obtain ⟨⟨o0,o1⟩,_⟩:=HKO.out.cells
   go_upto_region 18 with (fail);go_cut [95] (fun s95 wx=>s95=.bool (!decide (ys.length=ar))∧Aside (Below w2.heap.size w2 wx))
   case first=>
    go_quiet (fail)
    go_wp2_with fail;go_meet
    case rel=>exact ⟨by by_cases h:ys.length=ar<;>simp [h]<;>omega,Q.below_drewN w2 nq⟩
   case rest=>
    obtain ⟨rfl,HB3⟩:=hcut
    rename World=>w3
    have hb23:=HB3.out
    have hli:LI w w3 xb nb ob B0 w2.heap.size E s p b o m12 ar f A ca ys c:=by
     have h1:LI w w2 xb nb ob B0 w2.heap.size E s p b o m12 ar f A ca ys c:=⟨HX2.out,HS2.out,HK2.out,HKO.out,HD2.out,HTA2.out,grown_of_below HB2.out _,by have:=HM12b.out; omega,HBX.out,⟨HLO.out.1,HLO.out.2.1,HX0.out,HLO.out.2.2,HKO.out.cells.2,Nat.lt_trans HM12.out HKO.out.cells.2,Nat.le_refl _⟩⟩
     exact h1.reach hb23
    have HLI:=hid hli
    have HXB:Hid (xb<w2.heap.size):=HX2.out.xlt
    clear hb23 hli d3 o0 o1;clear HK2 HX2 HB2 HS2 HD2 HTA2 HKO HB3 HB HK HX HS HD0 HD1 HD3 HTA HE1;by_cases hl:ys.length=ar
    ·rw [decide_eq_true hl]
     have HGL:Hid ((evs ys (s++E)).length=ys.length):=by show _=_; rw [evs_map,List.length_map]
     have HG2:Hid (g=if (argsG 0 (evs ys (s++E)) c []).1.1.e=0 then (⟨(opK kk (argsG 0 (evs ys (s++E)) c []).1.2).1,[],(opK kk (argsG 0 (evs ys (s++E)) c []).1.2).2⟩,(argsG 0 (evs ys (s++E)) c []).2)else ((argsG 0 (evs ys (s++E)) c []).1.1,(argsG 0 (evs ys (s++E)) c []).2)):=by
      have h:=HG.out
      dsimp only at h
      rw [if_pos (HGL.out.trans hl)]at h
      exact h
     have hyl:ys.length≤2000:=by have:=HL.out; omega
     have hylz:(ys.length:Int)≤2000:=by omega
     have d3:=HLI.out.d3
     rw [show (!true)=false from rfl]
     go_wp2_with fail;clear d3;go_loopg [14,15,16,102] 2001 (fun gg s14 s15 s16 s102 wr=>∃ (i:Nat)(out:List V) (ci:Nat),i≤ys.length∧ys.length-i<gg∧s102=.int .i64 (i:Int)∧Aside (argsG 0 (evs ys (s++E)) c []=argsG i ((evs ys (s++E)).drop i) ci out)∧Aside (out.length=i)∧Aside (∀ x∈out,x.ok)∧Aside (ci≤2000)∧Aside (OV wr w2.heap.size s14 out)∧Aside (LI w wr xb nb ob B0 w2.heap.size E s p b o m12 ar f A ca ys ci))
     case atStart=>exact ⟨0,[],c,Nat.zero_le _,by omega,rfl,rfl,rfl,(fun x hx=>by cases hx),HCC.out,ov_nil _ _,HLI.out⟩
     case round=>
      obtain ⟨i,out,ci,hi,hgg,rfl,HAR,HOL,HOO,HCI,HOV,HLR⟩:=hrel
      by_cases hlt:i<ys.length
      ·have hltz:(i:Int)<(ys.length:Int):=by omega
       obtain ⟨b1',o1',rfl,hts⟩:=HLR.out.ta (by intro e; rw [e]at hlt; simp at hlt)
       have htr:=hts.at_ i ys[i] (List.getElem?_eq_getElem hlt)
       have HT:=hid (HIO.out ys[i] (HIH.out i hlt).1 (HIH.out i hlt).2 s p ci b1' (o1'+i*5) wr HCI.out HOK.out htr HLR.out.cx HLR.out.scw)
       have HPL:=hid (ev_path N ys[i] (HIH.out i hlt).1 (s++E) ci)
       have HVO:=hid (ev_ok N ys[i] (HIH.out i hlt).1 (s++E) HOK.out ci)
       have HCM:=hid ((ev_mon N ys[i] (HIH.out i hlt).1 (s++E) ci).2 HCI.out)
       have HDR:Hid ((evs ys (s++E)).drop i=ev ys[i] (s++E)::(evs ys (s++E)).drop (i+1)):=by
        show _=_
        rw [List.drop_eq_getElem_cons (by rw [HGL.out]; exact hlt)]
        congr 1
        simp [evs_map]
       have HST:Hid (argsG i ((evs ys (s++E)).drop i) ci out=if (ev ys[i] (s++E) ci).1.e=0 then argsG (i+1) ((evs ys (s++E)).drop (i+1)) (ev ys[i] (s++E) ci).2 (out++[(ev ys[i] (s++E) ci).1.v])else (((ev ys[i] (s++E) ci).1.under i,[]),(ev ys[i] (s++E) ci).2)):=by show _=_; rw [HDR.out,argsG]
       generalize ev ys[i] (s++E) ci=gi at*;obtain ⟨r,c2⟩:=gi
       have d3:=HLR.out.d3
       clear htr hts;go_wp2_with fail;refine HT.out.mono ?_
       rintro e w4 ⟨q,rfl,hq,hg4,he4⟩
       have hu:=under_lit r q i w4 wr.heap.size hq hg4.size (by have h1:r.path.length≤N:=HPL.out; omega)
       have HU:=hid hu
       have HL4:=hid (HLR.out.step hg4 he4)
       have HOV4:=hid (HOV.out.keep hg4 HXB.out)
       have HS4:=hid hg4.size
       clear hu hq hg4 he4 d3 HT;go_wp2_with fail;refine HU.out.mono ?_
       rintro e w5 ⟨A5,c5,rfl,hq5,hb5⟩
       have HUE:=hid (under_e r i)
       have HUV:=hid (under_v r i)
       generalize r.under i=ru at*;have hb6:=bl_tr hb5 (b1 w5 (.cells #[.int .i64 ru.v.num,.int .i64 ru.v.den,.int .i64 ru.v.dim.a,.int .i64 ru.v.dim.b,.int .i64 ru.v.dim.c,.int .i64 ru.v.dim.d,.int .i64 ru.v.dim.e,.int .i64 ru.v.dim.f,.int .i64 ru.v.dim.g,.slice A5 ru.path.length c5,.int .i64 ru.e] 86))
       have HL6:=hid (HL4.out.reach hb6)
       have HOV6:=hid (HOV4.out.keep (grown_of_below hb6 (some xb)) HXB.out)
       have HS6:=hid (Nat.le_trans HS4.out hb6.size)
       have HQ6:=hid (hq5.reach (b1 w5 (.cells #[.int .i64 ru.v.num,.int .i64 ru.v.den,.int .i64 ru.v.dim.a,.int .i64 ru.v.dim.b,.int .i64 ru.v.dim.c,.int .i64 ru.v.dim.d,.int .i64 ru.v.dim.e,.int .i64 ru.v.dim.f,.int .i64 ru.v.dim.g,.slice A5 ru.path.length c5,.int .i64 ru.e] 86)))
       have HSW6:Hid (w.heap.size+1≤wr.heap.size):=HLR.out.k6.cells.2.2
       have HM6:Hid (K11 (w5.alloc (.cells #[.int .i64 ru.v.num,.int .i64 ru.v.den,.int .i64 ru.v.dim.a,.int .i64 ru.v.dim.b,.int .i64 ru.v.dim.c,.int .i64 ru.v.dim.d,.int .i64 ru.v.dim.e,.int .i64 ru.v.dim.f,.int .i64 ru.v.dim.g,.slice A5 ru.path.length c5,.int .i64 ru.e] 86)) w5.heap.size ru (.slice A5 ru.path.length c5)):=K11.new w5 ru (.slice A5 ru.path.length c5)
       clear hb5 hb6 hq5 HU;go_upto_region 25 with (fail);generalize w5.alloc (.cells #[.int .i64 ru.v.num,.int .i64 ru.v.den,.int .i64 ru.v.dim.a,.int .i64 ru.v.dim.b,.int .i64 ru.v.dim.c,.int .i64 ru.v.dim.d,.int .i64 ru.v.dim.e,.int .i64 ru.v.dim.f,.int .i64 ru.v.dim.g,.slice A5 ru.path.length c5,.int .i64 ru.e] 86)=w6 at*;generalize w5.heap.size=m16 at*;obtain ⟨⟨m0,m1,m2,m3,m4,m5,m6,m7,m8,m9,m10⟩,_,_⟩:=HM6.out.cells
       by_cases hre:ru.e=0
       ·have heb:(ru.e != 0)=false:=by simpa using hre
        have hre2:r.e=0:=HUE.out.symm.trans hre
        have HST2:Hid (argsG 0 (evs ys (s++E)) c []=argsG (i+1) ((evs ys (s++E)).drop (i+1)) c2 (out++[ru.v])):=by
         show _=_
         rw [HAR.out,HST.out,if_pos hre2,HUV.out]
        have HRO:Hid (ru.v.ok):=by show V.ok _; rw [HUV.out]; exact HVO.out hre2
        clear hre hre2 HST;go_upto_region 27 with (fail);have hba:=b1 w6 (.cells #[.int .i64 ru.v.num,.int .i64 ru.v.den,.int .i64 ru.v.dim.a,.int .i64 ru.v.dim.b,.int .i64 ru.v.dim.c,.int .i64 ru.v.dim.d,.int .i64 ru.v.dim.e,.int .i64 ru.v.dim.f,.int .i64 ru.v.dim.g] 44)
        have HL7:=hid (HL6.out.reach hba)
        have HOV7:=hid (HOV6.out.keep (grown_of_below hba (some xb)) HXB.out)
        have HC7:Hid (C9 (w6.alloc (.cells #[.int .i64 ru.v.num,.int .i64 ru.v.den,.int .i64 ru.v.dim.a,.int .i64 ru.v.dim.b,.int .i64 ru.v.dim.c,.int .i64 ru.v.dim.d,.int .i64 ru.v.dim.e,.int .i64 ru.v.dim.f,.int .i64 ru.v.dim.g] 44)) w6.heap.size 0 ru.v):=(K9.new w6 ru.v).cells.1
        have HS7:=hid (Nat.le_trans HS6.out hba.size)
        have HSW:Hid (w2.heap.size≤(w6.alloc (.cells #[.int .i64 ru.v.num,.int .i64 ru.v.den,.int .i64 ru.v.dim.a,.int .i64 ru.v.dim.b,.int .i64 ru.v.dim.c,.int .i64 ru.v.dim.d,.int .i64 ru.v.dim.e,.int .i64 ru.v.dim.f,.int .i64 ru.v.dim.g] 44)).heap.size):=HL7.out.lo.2.2.2.2.2.2
        clear hba;have hol:out.length≤10000:=by have:=HOL.out; have:=HL.out; omega
        go_wp2_with (at_builtin; refine app26 _ rfl _ _ rfl w2.heap.size _ out ru.v w6.heap.size HOV7.out rfl rfl HC7.out hol HSW.out ?_)
        intro v8 w8 hov8 hgr8;have HL8:=hid (HL7.out.row hgr8 (fun k e=>(World.ownsRow.lt HOV7.out k e).1))
        have HOV8:=hid hov8
        clear hov8 hgr8 hol;go_wp2_with fail;go_roundg (ys.length-i)
        case measure=>omega
        case rel=>exact ⟨i+1,out++[ru.v],c2,by omega,by omega,by go_num,HST2.out,(by show (out++[ru.v]).length=i+1; rw [List.length_append,HOL.out]; rfl),(fun x hx=>by
         rcases List.mem_append.1 hx with hx|hx
         ·exact HOO.out x hx
         ·rw [List.mem_singleton]at hx; subst hx; exact HRO.out),HCM.out,HOV8.out,HL8.out⟩
       ·have heb:(ru.e != 0)=true:=by simpa using hre
        have hre2:¬ r.e=0:=fun h=>hre (HUE.out.trans h)
        have HG3:Hid (g=(ru,c2)):=by
         show _=_
         have h:=HG2.out
         rw [HAR.out,HST.out,if_neg hre2,if_neg (show ¬ ru.e=0 from hre)]at h
         exact h
        clear hre hre2;obtain ⟨⟨z0,z1,z2,z3,z4,z5,z6,z7,z8,z9,z10⟩,zf,_⟩:=HL6.out.k6.cells
        go_wp2_with fail;rw [HG3.out];refine bodyPost_ret (v:=.agg (R.cells ru (.slice A5 ru.path.length c5))) (by simp [results,Tryz.results41,go_sem,R.cells,z0,z1,z2,z3,z4,z5,z6,z7,z8,z9,z10]) rfl ⟨_,rfl,(((show BO w6 (w.heap.size+1) (.slice A5 ru.path.length c5) ru.path from HQ6.out.less HSW6.out)).set11 (Nat.lt_succ_self _) ru (.slice A5 ru.path.length c5)).less (Nat.le_succ _),grown11 HL6.out.gr ru (.slice A5 ru.path.length c5),eb11 ⟨HL6.out.cx.eb,HX0.out⟩ ru (.slice A5 ru.path.length c5)⟩
      ·have hltz:¬ (i:Int)<(ys.length:Int):=by omega
       have HG3:Hid (g=(⟨(opK kk out).1,[],(opK kk out).2⟩,ci)):=by
        show _=_
        have h:=HG2.out
        rw [HAR.out,List.drop_eq_nil_of_le (by rw [HGL.out]; omega),argsG]at h
        exact h
       have hop:=opc_any HON.out out (by have:=HOL.out; omega) HOO.out _ wr HOV.out.sv
       rw [HFK.out]at hop
       have hcf:=fun v=>enter_op HON.out v wr
       rw [HFK.out]at hcf
       have HOP:=hid hop
       clear hop;generalize opK kk out=j at*;obtain ⟨jv,je⟩:=j
       unfold V.cells at HOP;obtain ⟨⟨o0,o1⟩,_⟩:=HLR.out.ko.cells
       go_wp2_with fail;refine HOP.out.mono ?_
       rintro e w4 ⟨rfl,hb4⟩
       have HB5:=hid (bl_tr hb4 (b1 w4 (.cells #[.int .i64 jv.num,.int .i64 jv.den,.int .i64 jv.dim.a,.int .i64 jv.dim.b,.int .i64 jv.dim.c,.int .i64 jv.dim.d,.int .i64 jv.dim.e,.int .i64 jv.dim.f,.int .i64 jv.dim.g] 44)))
       have HM9:Hid (K9 (w4.alloc (.cells #[.int .i64 jv.num,.int .i64 jv.den,.int .i64 jv.dim.a,.int .i64 jv.dim.b,.int .i64 jv.dim.c,.int .i64 jv.dim.d,.int .i64 jv.dim.e,.int .i64 jv.dim.f,.int .i64 jv.dim.g] 44)) w4.heap.size jv):=K9.new w4 jv
       go_upto_region 30 with (fail);generalize w4.alloc (.cells #[.int .i64 jv.num,.int .i64 jv.den,.int .i64 jv.dim.a,.int .i64 jv.dim.b,.int .i64 jv.dim.c,.int .i64 jv.dim.d,.int .i64 jv.dim.e,.int .i64 jv.dim.f,.int .i64 jv.dim.g] 44)=w5 at*;have HL5:=hid (HLR.out.reach HB5.out)
       clear hb4 o0 o1;obtain ⟨⟨⟨m0,m1⟩,m2,m3,m4,m5,m6,m7,m8⟩,_,_⟩:=HM9.out.cells
       obtain ⟨⟨z0,z1,z2,z3,z4,z5,z6,z7,z8,z9,z10⟩,zf,_⟩:=HL5.out.k6.cells
       go_wp2_with fail;rw [HG3.out];refine bodyPost_ret (v:=.agg (R.cells (R.mk jv [] je) (.slice none 0 0))) (by simp [results,Tryz.results41,go_sem,R.cells,z0,z1,z2,z3,z4,z5,z6,z7,z8,z9,z10]) rfl ⟨_,rfl,((BO.nil w5 (w.heap.size+1)).set11 (Nat.lt_succ_self _) (R.mk jv [] je) (.slice none 0 0)).less (Nat.le_succ _),grown11 HL5.out.gr (R.mk jv [] je) (.slice none 0 0),eb11 ⟨HL5.out.cx.eb,HX0.out⟩ (R.mk jv [] je) (.slice none 0 0)⟩
    ·rw [decide_eq_false hl]
     have HG2:Hid (g=(erR 13,c)):=by
      have h:=HG.out
      dsimp only at h
      rw [if_neg (fun e=>hl (by rw [evs_map,List.length_map]at e; exact e))]at h
      exact h
     have d3:=HLI.out.d3
     obtain ⟨⟨z0,z1,z2,z3,z4,z5,z6,z7,z8,z9,z10⟩,zf,_⟩:=HLI.out.k6.cells
     rw [show (!false)=true from rfl]
     go_wp2_with fail;rw [HG2.out];refine bodyPost_ret (v:=.agg (R.cells (erR 13) (.slice none 0 0))) (by simp [results,Tryz.results41,go_sem,R.cells,erR,zV,zD,z0,z1,z2,z3,z4,z5,z6,z7,z8,z9,z10]) rfl ⟨_,rfl,((BO.nil w3 (w.heap.size+1)).set11 (Nat.lt_succ_self _) (erR 13) (.slice none 0 0)).less (Nat.le_succ _),grown11 HLI.out.gr (erR 13) (.slice none 0 0),eb11 ⟨HLI.out.cx.eb,HX0.out⟩ (erR 13) (.slice none 0 0)⟩
end Go.Proofs.YtknpigdpepmimaaGreatDoor
