/- Contracts of the reference's inside 139, list 95. -/
import Derived.Deep.AppendLies
import Derived.Test.YtknpigdpepmimaaGreatDoorV22
import Derived.BigQuiet
import Derived.Deep.CutBlock
import Derived.Deep.DeepCutAuto
import Derived.Deep.LoopGhost
import Derived.Deep.QuietTactic
import Derived.IntWalk
import Derived.Laws.BytesString
import Derived.Laws.IdiomStrings
import Derived.Lib.BitFns
import Derived.Lib.ConvBytes
import Derived.Lib.Hide
import Derived.Lib.IndexMore
import Derived.Lib.ItoaLen
import Derived.Lib.ItoaMem
import Derived.Lib.QuietBelow
import Derived.Lib.Strings
import Derived.OwnWalk
import Derived.WalkKit
import Derived.WalkLawsBesides
import Derived.WalkSmall
import Derived.WalkSpells
import Derived.Test.YtknpigdpepmimaaGreatDoorV15
namespace Go.Proofs.YtknpigdpepmimaaGreatDoor
open Go.Lib(hid)
open Go.RowKit Go.Maps
theorem app29s {ops:Array Oper}{o:Oper}{a:Act}{K:Act→World→Prop}{Q:Exit→Act→World→Prop}{E:Prop}(w:World)(hgd:o.guard=none)(s x:Operand)
  (ho:o.op=.call { callee:=.builtin .append,args:=#[s,x],argTypes:=#[29,29] })(B g:Nat) (i:Int)(hown:RI w B (.slice (some ⟨g,0,none⟩) 1 1) [i])(hs:a.eval s=.slice (some ⟨g,0,none⟩) 1 1)
  (v:Value)(l:List Int)(hx:a.eval x=v)(hv:BI w v l)(hl:l.length≤800000)(hB:B≤w.heap.size)
  (h:∀ v7 w7,RI w7 B v7 (i::l)→w.grownBy w7 (some g)→K (a.put o.dst v7) w7):if Region.wanted o (yielded ops a.tmps)=true then Oper.wp Tryz.prog o a w K Q else E:=by
 obtain ⟨i0,hi0,hz0,hz1,hz2⟩:=info_parts int_info3
 obtain ⟨⟨A,c,rfl,⟨hc1,hc2⟩,hcell⟩,hnil⟩:=hv
 have hrefl:w.grownBy w (some g):=⟨rfl,rfl,rfl,Nat.le_refl _,fun _ _ _=>rfl⟩
 have hw:Region.wanted o (yielded ops a.tmps)=true:=by simp [Region.wanted,hgd]
 by_cases hp:l=[]
 ·subst hp
  cases A with
  | none=>
   obtain ⟨_,rfl⟩:=hnil _ _ rfl
   rw [if_pos hw];have hrun:=run_append_owned_none (P:=Tryz.prog) (w:=w) B 29 o.type 3 i0 1 Tryz.underlying29 hi0 (.slice (some ⟨g,0,none⟩) 1 1) 1 _ hown
   have hx':a.eval x=.slice none 0 0:=hx
   unfold Oper.wp;simp [execOp,ho,resolve,invoke,builtin,hs,hx',hrun,Result.andThen];exact h _ w hown hrefl
  | some ad=>
   refine step_append_room hgd s x 29 ho 3 i0 1 Tryz.underlying29 hi0 hz1 g 0 1 1 hs ad 0 c [] hx rfl (fun j u hu=>by simp at hu) (by simp) (Nat.le_refl _) (fun j hj=>by simp at hj) ?_
   have e:w.setCells g (0+1*1) []=w:=by simp [World.setCells]
   rw [e];exact h _ w hown hrefl
 ·obtain ⟨b,q,rfl,_,hcells⟩:=hcell hp
  have hpos:0<l.length:=List.length_pos_iff.2 hp
  refine step_append_lies _ hgd s x 29 ho B 3 i0 _ 1 8 Tryz.underlying29 hi0 hz0 hz1 hz2 rfl (by decide) _ 1 _ hs hown ⟨b,q,none⟩ l.length c (l.map encI) hx (by simp) (fun j u hu=>?_) (fun u hu=>?_) hpos (by unfold maxLen; omega) (by omega) hB _ rfl ?_
  ·obtain ⟨hj,hu'⟩:=List.getElem?_eq_some_iff.1 hu
   have hj':j<l.length:=by simpa using hj
   rw [List.getElem_map]at hu'
   subst hu';rw [addr_addF];exact hcells j hj'
  ·obtain ⟨y,_,rfl⟩:=List.mem_map.1 hu
   rfl
  ·intro g7 cap7 w7 hown7 hgrow7 _ _
   refine h _ w7 ?_ hgrow7
   unfold RI;rw [show (i::l).length=1+l.length from Nat.add_comm _ _]
   exact hown7
theorem ri_form {w:World}{B:Nat}{v:Value}{l:List Int}(h:RI w B v l):∃ A c,v=.slice A l.length c:=by
 obtain ⟨⟨A,c,h1,_⟩,_⟩:=h.bi
 exact ⟨A,c,h1⟩
theorem app26f {ops:Array Oper}{rest:List Oper}{o:Oper}{a:Act}{Q:Exit→Act→World→Prop}(w:World)(hgd:o.guard=none)(s x:Operand)
  (ho:o.op=.call { callee:=.builtin .append,args:=#[s,x],argTypes:=#[26,26] }) (B:Nat) (v:Value)(l:List V)(u:V) (pb:Nat)(hown:OV w B v l)(hs:a.eval s=v)
  (hx:a.eval x=.slice (some ⟨pb,0,none⟩) 1 1)(hc:C9 w pb 0 u)(hl:l.length≤10000)(hB:B≤w.heap.size)
  (h:∀ g k w',OV w' B (.slice (some ⟨g,0,none⟩) (l.length+1) k) (l++[u])→w.grownBy w' v.ownBlock→(v.ownBlock=some g∨g=w.heap.size)→wpList Tryz.prog ops Q rest (a.put o.dst (.slice (some ⟨g,0,none⟩) (l.length+1) k)) w'):wpList Tryz.prog ops Q (o::rest) a w:=by
 obtain ⟨i0,hi0,hz0,hz1,hz2⟩:=info_parts val_info
 refine wpList_append_lies _ hgd s x 26 ho B 44 i0 _ 9 72 Tryz.underlying26 hi0 hz0 hz1 hz2 rfl (by decide) v l.length _ hs hown ⟨pb,0,none⟩ 1 1 u.cells.toList hx rfl (fun j y hy=>?_) (val_one u) (by decide) (by unfold maxLen; omega) (by omega) hB _ rfl (fun g k w' h1 h2 h3 _=>h g k w' (own_one h1) h2 h3)
 rw [addr_addF];exact hc.at_ (List.getElem?_eq_some_iff.1 hy).1 hy
set_option maxRecDepth 100000 in
set_option maxHeartbeats 4000000 in
theorem inside_any (i:Int) (fb:Nat)(S:Nat→Prop) (e:Int)(l:List Int)(w:World)(h:FB w fb S e l)(hl:l.length≤700000):Calls Tryz.prog 139 #[.int .i64 i,.pointer (some ⟨fb,0,none⟩)] w fun r w'=>∃ g,r=.returned (.pointer (some ⟨g,0,none⟩))∧FB w' g (fun k=>w.heap.size≤k) e (i::l)∧Below w.heap.size w w':=by
 obtain ⟨⟨q,hh,hq,_⟩,_⟩:=h
 have hlt:fb<w.heap.size:=(Array.getElem?_eq_some_iff.1 hh).1
 have HC:=hid fun (wz:World)(hb:Below w.heap.size w wz)=>And.intro (show wz.cell? ⟨fb,0,none⟩=some (.int .i64 e) by simp [World.cell?,(hb.block fb hlt).trans hh]) (show wz.cell? ⟨fb,1,none⟩=some q by simp [World.cell?,(hb.block fb hlt).trans hh])
 have HQ:=hid hq
 have c0:=(HC.out w (Below.refl _ _)).1
 have c1:=(HC.out w (Below.refl _ _)).2
 have HR1:Hid (RI (w.drew.alloc (.cells #[.int .i64 i] 3)) w.heap.size (.slice (some ⟨w.heap.size,0,none⟩) 1 1) [i]):=World.ownsRow_lit w.drew #[.int .i64 i] 1 (Nat.le_refl _) (by unfold maxLen; omega) rfl
 have HB1:Hid (Below w.heap.size w (w.drew.alloc (.cells #[.int .i64 i] 3))):=bl_al (bl_dr (Below.refl _ _)) _
 have HS1:Hid (w.heap.size≤(w.drew.alloc (.cells #[.int .i64 i] 3)).heap.size):=HB1.out.size
 have HQ1:=hid (HQ.out.reach HB1.out)
 clear hh hq hlt;go_enter Tryz.func139,Tryz.ntmps139;go_upto_region 1 with (fail);go_region_held_law (fun w'=>w'.cell? ⟨fb,0,none⟩=some (.int .i64 e)∧w'.cell? ⟨fb,1,none⟩=some q) ((refine HC.out _ ?_; first|with_reducible exact HB1.out|with_reducible exact HB7.out|(repeat (first|with_reducible exact Below.refl _ _|with_reducible exact HB7.out|with_reducible apply bl_dr|with_reducible apply bl_al)))) (first|(refine app29s _ rfl (.tmp 10) (.tmp 14) rfl w.heap.size w.heap.size i HR1.out rfl q l rfl HQ1.out (by omega) HS1.out ?_; intro v7 w7 hr7 hg7; obtain ⟨A7,c7,rfl⟩:=ri_form hr7; have HR7:=hid hr7; have HB7:Hid (Below w.heap.size w w7):=HB1.out.trans ⟨hg7.os,hg7.tape,hg7.output,hg7.size,fun k hk=>hg7.block k (Nat.lt_of_lt_of_le hk HS1.out) (fun e=>Nat.lt_irrefl _ (Option.some.inj e▸hk))⟩; clear hr7 hg7))
 all_goals
  go_wp2_with fail;go_ret;refine ⟨_,rfl,⟨⟨_,heap_alloc_new _ _,(HR7.out.bi).reach (b1 _ _),fun b o n c hb _=>?_⟩,HB7.out.size⟩,HB7.out.alloc HB7.out.size _⟩
  exact (World.ownsRow.lt HR7.out b ((congrArg Value.ownBlock hb).trans rfl)).1
def Fw (n mb:Nat)(vn vv:Value) (k:Nat):Prop:=Aw mb vn vv k∧n≤k
def VOut2 (w w':World)(mb B:Nat)(s:Sc)(vn vv:Value)(g:R × Nat)(e:Ending):Prop:=
 ∃ q vn' vv',e=.returned (.tuple #[.agg g.1.v.cells,.pointer q])∧FP w' q (Fw w.heap.size mb vn' vv') g.1∧MS w' mb B s g.2 vn' vv'∧Gm w w' mb vn vv vn' vv'
def RTermC (mb B N:Nat):Prop:=∀ t:T,t.size≤N→WF t→∀ (s:Sc)(A:Option Addr)(ca c:Nat)(w:World)(vn vv:Value),c≤2000→s.ok→s.length+t.size≤5000→TV w B t A ca→MS w mb B s c vn vv→
  Calls Tryz.prog 47 #[.pointer (some ⟨mb,0,none⟩),.agg (tv t A ca)] w fun e w'=>VOut2 w w' mb B s vn vv (ev t s c) e
def LOut (w w':World)(mb B:Nat)(s:Sc)(vn vv:Value)(g:(R × List V) × Nat)(e:Ending):Prop:=
 ∃ q vl vn' vv',e=.returned (.tuple #[vl,.pointer q])∧FP w' q (Fw w.heap.size mb vn' vv') g.1.1∧(g.1.1.e=0→OA w' w.heap.size mb vn' vv' vl g.1.2)∧MS w' mb B s g.2 vn' vv'∧Gm w w' mb vn vv vn' vv'
theorem LOut.mk' {w w':World}{mb B:Nat}{s:Sc}{vn vv vn' vv' vl:Value}{q:Option Addr}{g:(R × List V) × Nat}(h1:FP w' q (Fw w.heap.size mb vn' vv') g.1.1)(h2:g.1.1.e=0→OA w' w.heap.size mb vn' vv' vl g.1.2)(h3:MS w' mb B s g.2 vn' vv')(h4:Gm w w' mb vn vv vn' vv'):LOut w w' mb B s vn vv g (.returned (.tuple #[vl,.pointer q])):=⟨q,vl,vn',vv',rfl,h1,h2,h3,h4⟩
theorem TR.load {w:World}{B b o:Nat}{t:T}(h:TR w B b o t):∃ A ca,TV w B t A ca∧(w.cell? ⟨b,o,none⟩=some (.int .i64 t.kind)∧w.cell? ⟨b,o+1,none⟩=some (.string ⟨t.name.toArray⟩)∧w.cell? ⟨b,o+2,none⟩=some (.string ⟨t.var.toArray⟩)∧w.cell? ⟨b,o+3,none⟩=some (.slice A t.args.length ca)∧w.cell? ⟨b,o+4,none⟩=some (.string ⟨t.form.toArray⟩)):=by
 obtain ⟨_,d0,d1,d2,d4,A,ca,d3,hca,hta⟩:=h.parts
 exact ⟨A,ca,⟨hca,hta⟩,d0,d1,d2,d3,d4⟩
set_option maxRecDepth 100000 in
set_option maxHeartbeats 4000000 in
theorem list_any {mb B N:Nat}(IH:RTermC mb B N)(ts:List T)(hz:∀ u∈ts,u.size≤N∧WF u)(hlen:ts.length≤2000)(s:Sc)(A:Option Addr)(ca c:Nat)(w:World)(vn vv:Value)(hc:c≤2000)(hok:s.ok)(hsz:s.length+N≤5000)(hta:TA w B A ts)(hm:MS w mb B s c vn vv):
  Calls Tryz.prog 95 #[.pointer (some ⟨mb,0,none⟩),.slice A ts.length ca] w fun e w'=>LOut w w' mb B s vn vv (argsG 0 (evs ts s) c []) e:=by
 have HIH:=hid IH
 have HZ:=hid hz
 have HOK:=hid hok
 have HTA:=hid hta
 have HM:=hid hm
 have HC:=hid hc
 have HGL:Hid ((evs ts s).length=ts.length):=by show _=_; rw [evs_map,List.length_map]
 generalize hG:argsG 0 (evs ts s) c []=G at*;have HG:=hid hG
 clear IH hz hok hta hm hc hG;go_enter Tryz.func95,Tryz.ntmps95;go_wp2_with fail;go_loopg [6,7,8,9] 2001 (fun gg s6 s7 s8 s9 wr=>∃ (i:Nat)(out:List V) (ci:Nat)(un uv:Value),i≤ts.length∧ts.length-i<gg∧s7=.int .i64 (i:Int)∧Aside (G=argsG i ((evs ts s).drop i) ci out)∧Aside (out.length=i)∧Aside (ci≤2000)∧Aside (OA wr w.heap.size mb un uv s6 out)∧Aside (MS wr mb B s ci un uv)∧Aside (Gm w wr mb vn vv un uv))
 case atStart=>exact ⟨0,[],c,vn,vv,Nat.zero_le _,by omega,rfl,HG.out.symm,rfl,HC.out,⟨ov_nil _ _,fun k hk=>by cases hk⟩,HM.out,Gm.bel (Below.refl _ _)⟩
 case round=>
  obtain ⟨i,out,ci,un,uv,hi,hgg,rfl,HAR,HOL,HCI,HOV,HMr,HGr⟩:=hrel
  have hBl:=HM.out.bLe
  by_cases hlt:i<ts.length
  ·have hltz:(i:Int)<(ts.length:Int):=by omega
   have HTAr:Hid (TA wr B A ts):=fun hne=>by
    obtain ⟨b',o',e,h⟩:=HTA.out hne
    exact ⟨b',o',e,h.below (HGr.out.below HM.out hBl)⟩
   obtain ⟨b',o',rfl,hts⟩:=HTAr.out (by intro e; rw [e]at hlt; simp at hlt)
   obtain ⟨A1,c1,htv,d0,d1,d2,d3,d4⟩:=(hts.at_ i ts[i] (List.getElem?_eq_getElem hlt)).load
   have hzi:=HZ.out ts[i] (List.getElem_mem hlt)
   have HT:=hid (HIH.out ts[i] hzi.1 hzi.2 s A1 c1 ci wr un uv HCI.out HOK.out (by have:=hzi.1; omega) htv HMr.out)
   have HPL:=hid (ev_path N ts[i] hzi.1 s ci)
   have HCM:=hid ((ev_mon N ts[i] hzi.1 s ci).2 HCI.out)
   have HDR:Hid ((evs ts s).drop i=ev ts[i] s::(evs ts s).drop (i+1)):=by
    show _=_
    rw [List.drop_eq_getElem_cons (by rw [HGL.out]; exact hlt)]
    congr 1
    simp [evs_map]
   have HST:Hid (argsG i ((evs ts s).drop i) ci out=if (ev ts[i] s ci).1.e=0 then argsG (i+1) ((evs ts s).drop (i+1)) (ev ts[i] s ci).2 (out++[(ev ts[i] s ci).1.v])else (((ev ts[i] s ci).1.under i,[]),(ev ts[i] s ci).2)):=by show _=_; rw [HDR.out,argsG]
   unfold tv VOut2 at HT;generalize ev ts[i] s ci=gi at*;obtain ⟨r,c2⟩:=gi
   dsimp only at HT HPL HCM HST
   unfold V.cells at HT;clear hts htv hzi;go_wp2_with fail;refine HT.out.mono ?_
   rintro e w2 ⟨q,wn,wv,rfl,hfp,hms2,hgm2⟩
   have hb3:=b1 w2 (.cells #[.int .i64 r.v.num,.int .i64 r.v.den,.int .i64 r.v.dim.a,.int .i64 r.v.dim.b,.int .i64 r.v.dim.c,.int .i64 r.v.dim.d,.int .i64 r.v.dim.e,.int .i64 r.v.dim.f,.int .i64 r.v.dim.g] 44)
   have HM3:=hid (hms2.reach hb3)
   have HG3:=hid ((HGr.out.tr hgm2).tr (Gm.bel (vn:=wn) (vv:=wv) (mb:=mb) hb3))
   have HO3:=hid ((HOV.out.gm hgm2).reach hb3)
   have HK3:Hid (K9 (w2.alloc (.cells #[.int .i64 r.v.num,.int .i64 r.v.den,.int .i64 r.v.dim.a,.int .i64 r.v.dim.b,.int .i64 r.v.dim.c,.int .i64 r.v.dim.d,.int .i64 r.v.dim.e,.int .i64 r.v.dim.f,.int .i64 r.v.dim.g] 44)) w2.heap.size r.v):=K9.new w2 r.v
   have HSZ3:Hid (w.heap.size≤(w2.alloc (.cells #[.int .i64 r.v.num,.int .i64 r.v.den,.int .i64 r.v.dim.a,.int .i64 r.v.dim.b,.int .i64 r.v.dim.c,.int .i64 r.v.dim.d,.int .i64 r.v.dim.e,.int .i64 r.v.dim.f,.int .i64 r.v.dim.g] 44)).heap.size):=HG3.out.size
   have HF3:Hid (FP (w2.alloc (.cells #[.int .i64 r.v.num,.int .i64 r.v.den,.int .i64 r.v.dim.a,.int .i64 r.v.dim.b,.int .i64 r.v.dim.c,.int .i64 r.v.dim.d,.int .i64 r.v.dim.e,.int .i64 r.v.dim.f,.int .i64 r.v.dim.g] 44)) q (Fw wr.heap.size mb wn wv) r):=by
    rcases hfp with h|⟨h1,fb,h2,h3⟩
    ·exact .inl h
    ·exact .inr ⟨h1,fb,h2,h3.reach hb3⟩
   clear hfp hms2 hgm2 hb3 d0 d1 d2 d3 d4 HT;go_upto_region 6 with (fail);generalize w2.alloc (.cells #[.int .i64 r.v.num,.int .i64 r.v.den,.int .i64 r.v.dim.a,.int .i64 r.v.dim.b,.int .i64 r.v.dim.c,.int .i64 r.v.dim.d,.int .i64 r.v.dim.e,.int .i64 r.v.dim.f,.int .i64 r.v.dim.g] 44)=w3 at*;generalize w2.heap.size=m3 at*;rcases HF3.out with ⟨he,rfl⟩|⟨he,fb,rfl,hfb⟩
   ·have HST2:Hid (G=argsG (i+1) ((evs ts s).drop (i+1)) c2 (out++[r.v])):=by show _=_; rw [HAR.out,HST.out,if_pos he]
    clear he HST HF3;obtain ⟨⟨⟨k0,k1⟩,k2,k3,k4,k5,k6,k7,k8⟩,kf,_⟩:=HK3.out.cells
    go_upto_region 8 with (fail);have hb4:=b1 w3 (.cells #[.int .i64 r.v.num,.int .i64 r.v.den,.int .i64 r.v.dim.a,.int .i64 r.v.dim.b,.int .i64 r.v.dim.c,.int .i64 r.v.dim.d,.int .i64 r.v.dim.e,.int .i64 r.v.dim.f,.int .i64 r.v.dim.g] 44)
    have HM4:=hid (HM3.out.reach hb4)
    have HG4:=hid (HG3.out.tr (Gm.bel (vn:=wn) (vv:=wv) (mb:=mb) hb4))
    have HO4:=hid (HO3.out.reach hb4)
    have HC4:Hid (C9 (w3.alloc (.cells #[.int .i64 r.v.num,.int .i64 r.v.den,.int .i64 r.v.dim.a,.int .i64 r.v.dim.b,.int .i64 r.v.dim.c,.int .i64 r.v.dim.d,.int .i64 r.v.dim.e,.int .i64 r.v.dim.f,.int .i64 r.v.dim.g] 44)) w3.heap.size 0 r.v):=(K9.new w3 r.v).cells.1
    have hS4:w.heap.size≤(w3.alloc (.cells #[.int .i64 r.v.num,.int .i64 r.v.den,.int .i64 r.v.dim.a,.int .i64 r.v.dim.b,.int .i64 r.v.dim.c,.int .i64 r.v.dim.d,.int .i64 r.v.dim.e,.int .i64 r.v.dim.f,.int .i64 r.v.dim.g] 44)).heap.size:=HG4.out.size
    have hol:out.length≤10000:=by have:=HOL.out; omega
    go_wp2_with (at_builtin; refine app26f _ rfl _ _ rfl w.heap.size _ out r.v w3.heap.size HO4.out.1 rfl rfl HC4.out hol hS4 ?_)
    intro g8 k8 w8 hov8 hgr8 hat8;have HM8:=hid (HM4.out.row hgr8 (fun k hk=>HO4.out.2 k hk))
    have HG8:=hid (HG4.out.row hgr8 (fun k hk=>(HO4.out.1.lt k hk).1))
    have HO8:Hid (OA w8 w.heap.size mb wn wv (.slice (some ⟨g8,0,none⟩) (out.length+1) k8) (out++[r.v])):=⟨hov8,fun k hk=>by
     have:=own_ofg hk
     subst this;rcases hat8 with e|e
     ·exact HO4.out.2 _ e
     ·exact HM4.out.fresh (by rw [World.size_alloc]; omega)⟩
    clear hov8 hgr8 hat8 hb4 hol;go_wp2_with fail;go_roundg (ts.length-i)
    case measure=>omega
    case rel=>exact ⟨i+1,out++[r.v],c2,wn,wv,by omega,by omega,by go_num,HST2.out,(by show (out++[r.v]).length=i+1; rw [List.length_append,HOL.out]; rfl),HCM.out,HO8.out,HM8.out,HG8.out⟩
   ·have HST2:Hid (G=((r.under i,[]),c2)):=by show _=_; rw [HAR.out,HST.out,if_neg he]
    have HIN:=hid (inside_any i fb (Fw wr.heap.size mb wn wv) r.e r.path w3 hfb (by have:=HPL.out; omega))
    have HE:=hid he
    clear he hfb HST HF3;go_wp2_with fail;refine HIN.out.mono ?_
    rintro e w4 ⟨g4,rfl,hf4,hb4⟩
    have HM4:=hid (HM3.out.reach hb4)
    have HG4:=hid (HG3.out.tr (Gm.bel (vn:=wn) (vv:=wv) (mb:=mb) hb4))
    have HF4:Hid (FB w4 g4 (Fw w.heap.size mb wn wv) r.e ((i:Int)::r.path)):=hf4.mono fun k hk=>⟨HM3.out.fresh hk,Nat.le_trans HSZ3.out hk⟩
    clear hf4 hb4;go_wp2_with fail;go_ret2;rw [HST2.out];have hu:r.under i=⟨r.v,(i:Int)::r.path,r.e⟩:=by unfold R.under; rw [if_neg HE.out]
    rw [hu];exact LOut.mk' (.inr ⟨HE.out,g4,rfl,HF4.out⟩) (fun h=>absurd h HE.out) HM4.out HG4.out
  ·have hltz:¬ (i:Int)<(ts.length:Int):=by omega
   have HR:Hid (G=((okR zV,out),ci)):=by
    show _=_
    rw [HAR.out,List.drop_eq_nil_of_le (by rw [HGL.out]; omega),argsG]
   go_wp2_with fail;go_ret2;rw [HR.out];exact LOut.mk' (.inl ⟨rfl,rfl⟩) (fun _=>HOV.out) HMr.out HGr.out
end Go.Proofs.YtknpigdpepmimaaGreatDoor
namespace Go.Proofs.YtknpigdpepmimaaGreatDoor.Q
open Go.Lib(hid)
open Go.RowKit
set_option maxHeartbeats 1000000 in
theorem quotient_any (neg:Bool)(a b:Nat)(w:World)(ha:a≤9223372036854775808)(hb:b≤9223372036854775808)(hb0:0<b):
  Calls Tryz.prog 206 #[.bool neg,.int .u64 a,.int .u64 b] w fun e w'=>e=.returned (red neg a b).val∧Below w.heap.size w w':=by
 obtain ⟨g,hg⟩:∃ g,g=Nat.gcd a b:=⟨_,rfl⟩
 have HG:=hid hg
 have hgp:1≤g:=by rw [hg]; exact Nat.gcd_pos_of_pos_right _ hb0
 have hgz:(1:Int)≤(g:Int):=by omega
 have hgz':((g:Int) == 0)=false:=by simp; omega
 have hgz'':¬ (g:Int)=0:=by omega
 clear hg;go_enter Tryz.func206,Tryz.ntmps206;go_wp2_with fail;refine (common_any a b _ ha hb).mono ?_
 rw [← HG.out];rintro e w1 ⟨rfl,hb1⟩
 obtain ⟨⟨q0,q1⟩,qf,qs,hB1⟩:=res2 hb1
 have HB1:=hid hB1
 clear hb1 hB1;go_wp2
 go_quiet (fail)
 have hA:a / g≤a:=Nat.div_le_self _ _
 have hBd:b / g≤b:=Nat.div_le_self _ _
 rw [show ((a:Int) / (g:Int))=((a / g:Nat):Int)from by simp,show ((b:Int) / (g:Int))=((b / g:Nat):Int)from by simp]
 have hr:Hid (red neg a b=if a / g≤2147483647∧b / g≤2147483647 then ⟨if neg then -((a / g:Nat):Int)else ((a / g:Nat):Int),((b / g:Nat):Int),0⟩else ⟨0,0,2⟩):=by show red neg a b=_; unfold red; rw [← HG.out]
 generalize a / g=x at*;generalize b / g=y at*;by_cases h1:2147483647<x
 ·have h1':(2147483647:Int)<(x:Int):=by omega
  have HR:=hid (hr.out.trans (if_neg (by omega)))
  clear hr;go_wp2
  refine bodyPost_ret (v:=.tuple #[.agg #[.int .i64 0,.int .i64 0],.int .i64 2]) (by simp [results,Tryz.results206,go_sem,q0,q1]) rfl ⟨?_,?_⟩
  ·rw [HR.out]; rfl
  ·exact ((belowN HB1.out _).setCell (Nat.le_refl _) _).setCell (Nat.le_refl _) _
 ·have h1':¬ (2147483647:Int)<(x:Int):=by omega
  by_cases h2:2147483647<y
  ·have h2':(2147483647:Int)<(y:Int):=by omega
   have HR:=hid (hr.out.trans (if_neg (by omega)))
   clear hr;go_wp2
   refine bodyPost_ret (v:=.tuple #[.agg #[.int .i64 0,.int .i64 0],.int .i64 2]) (by simp [results,Tryz.results206,go_sem,q0,q1]) rfl ⟨?_,?_⟩
   ·rw [HR.out]; rfl
   ·exact ((belowN HB1.out _).setCell (Nat.le_refl _) _).setCell (Nat.le_refl _) _
  ·have h2':¬ (2147483647:Int)<(y:Int):=by omega
   have HR:=hid (hr.out.trans (if_pos ⟨by omega,by omega⟩))
   clear hr;cases neg with
   | true=>
    go_wp2
    refine bodyPost_ret (v:=.tuple #[.agg #[.int .i64 (-(x:Int)),.int .i64 (y:Int)],.int .i64 0]) (by simp [results,Tryz.results206,go_sem,q0,q1]) rfl ⟨?_,?_⟩
    ·rw [HR.out]; rfl
    ·exact ((belowN HB1.out _).setCell (Nat.le_refl _) _).setCell (Nat.le_refl _) _
   | false=>
    go_wp2
    refine bodyPost_ret (v:=.tuple #[.agg #[.int .i64 (x:Int),.int .i64 (y:Int)],.int .i64 0]) (by simp [results,Tryz.results206,go_sem,q0,q1]) rfl ⟨?_,?_⟩
    ·rw [HR.out]; rfl
    ·exact ((belowN HB1.out _).setCell (Nat.le_refl _) _).setCell (Nat.le_refl _) _
set_option maxHeartbeats 1000000 in
theorem refMake_any (n d:Int)(w:World)(hn:-9223372036854775808≤n)(hN:n≤9223372036854775807)(hd:-9223372036854775808≤d)(hD:d≤9223372036854775807):
  Calls Tryz.prog 179 #[.int .i64 n,.int .i64 d] w fun e w'=>e=.returned (mk n d).val∧Below w.heap.size w w':=by
 by_cases h0:d=0
 ·subst h0
  go_enter Tryz.func179,Tryz.ntmps179;go_wp2
  refine bodyPost_ret (v:=.tuple #[.agg #[.int .i64 0,.int .i64 0],.int .i64 10]) (by simp [results,Tryz.results179,go_sem]) rfl ⟨rfl,?_⟩
  exact (Below.refl _ _).alloc (Nat.le_refl _) _
 ·have h0':(d == 0)=false:=by simpa using h0
  have HM:Hid (mk n d=red (!(decide (n<0) == decide (d<0))) n.natAbs d.natAbs):=by show mk n d=_; unfold mk; rw [if_neg h0]; rfl
  have hdp:0<d.natAbs:=by omega
  go_enter Tryz.func179,Tryz.ntmps179;go_wp2_with fail;refine (size_any n _ hn hN).mono ?_
  rintro e w' ⟨rfl,rfl⟩
  go_wp2_with fail;refine (size_any d _ hd hD).mono ?_
  rintro e w' ⟨rfl,rfl⟩
  go_wp2_with fail;refine (quotient_any _ n.natAbs d.natAbs _ (by omega) (by omega) hdp).mono ?_
  rw [← HM.out];rintro e w1 ⟨rfl,hb1⟩
  obtain ⟨⟨q0,q1⟩,qf,qs,hB1⟩:=res2 hb1
  have HB1:=hid hB1
  clear hb1 hB1;obtain ⟨r,hr⟩:∃ r,r=mk n d:=⟨_,rfl⟩
  rw [← hr];have HRm:=hid hr
  clear hr;obtain ⟨rn,rd,re⟩:=r
  simp only [Res.val];go_wp2
  refine bodyPost_ret (v:=.tuple #[.agg #[.int .i64 rn,.int .i64 rd],.int .i64 re]) (by simp [results,Tryz.results179,go_sem,q0,q1]) rfl ⟨by rw [← HRm.out]; rfl,?_⟩
  exact ((HB1.out).setCell (Nat.le_refl _) _).setCell (Nat.le_refl _) _
set_option maxHeartbeats 1000000 in
theorem refAdd_any (a b c d:Int)(w:World)(ha:-9223372036854775808≤a)(hA:a≤9223372036854775807)(hb:-9223372036854775808≤b)(hB:b≤9223372036854775807)(hc:-9223372036854775808≤c)(hC:c≤9223372036854775807)(hd:-9223372036854775808≤d)(hD:d≤9223372036854775807):
  Calls Tryz.prog 181 #[.agg #[.int .i64 a,.int .i64 b],.agg #[.int .i64 c,.int .i64 d]] w fun e w'=>e=.returned (addQ a b c d).val∧Below w.heap.size w w':=by
 have hX:=(((Two.new w (.int .i64 a) (.int .i64 b) 64).alloc (.cells #[.int .i64 c,.int .i64 d] 64)).alloc (.cells #[.int .i64 0,.int .i64 0] 64))
 have hY:=((Two.new1 w (.cells #[.int .i64 a,.int .i64 b] 64) (.int .i64 c) (.int .i64 d) 64).alloc (.cells #[.int .i64 0,.int .i64 0] 64))
 have hR:=Two.new2 w (.cells #[.int .i64 a,.int .i64 b] 64) (.cells #[.int .i64 c,.int .i64 d] 64) (.int .i64 0) (.int .i64 0) 64
 have h3:=Below.three w (.cells #[.int .i64 a,.int .i64 b] 64) (.cells #[.int .i64 c,.int .i64 d] 64) (.cells #[.int .i64 0,.int .i64 0] 64)
 cases hv:validQ a b with
 | false=>
  have HQ:Hid (addQ a b c d=⟨0,0,1⟩):=by show addQ a b c d=_; unfold addQ; rw [hv]; rfl
  have HV:=hid hv
  have H:=hid (And.intro hX (And.intro hY (And.intro hR h3)))
  clear hv hX hY hR h3;go_enter Tryz.func181,Tryz.ntmps181;go_wp2_with fail;refine (refValid_any a b _ ha hA hb hB).mono ?_
  rw [HV.out];rintro e w1 ⟨rfl,hb1⟩
  obtain ⟨hX,hY,hR,h3⟩:=H.out
  obtain ⟨r0,r1,rf,rlt⟩:=hR.below hb1
  have hB1:=h3.trans (hb1.mono h3.size)
  have HB1:=hid hB1
  clear hX hY hR h3 hb1 hB1;go_wp2
  refine bodyPost_ret (v:=.tuple #[.agg #[.int .i64 0,.int .i64 0],.int .i64 1]) (by simp [results,Tryz.results181,go_sem,r0,r1]) rfl ⟨?_,?_⟩
  ·rw [HQ.out]; rfl
  ·exact (HB1.out.setCell (by simp; omega) _).setCell (by simp; omega) _
 | true=>
  have HV:=hid hv
  obtain ⟨v1,v2,v3,v4,_⟩:=(valid_iff a b).1 hv
  have H:=hid (And.intro hX (And.intro hY (And.intro hR h3)))
  go_enter Tryz.func181,Tryz.ntmps181;clear hX hY hR h3 hv;go_wp2_with fail;refine (refValid_any a b _ ha hA hb hB).mono ?_
  rw [HV.out];rintro e w1 ⟨rfl,hb1⟩
  obtain ⟨hX,hY,hR,h3⟩:=H.out
  have hX1:=hX.below hb1
  have hY1:=hY.below hb1
  have hR1:=hR.below hb1
  have hB1:=h3.trans (hb1.mono h3.size)
  have H1:=hid (And.intro hX1 (And.intro hY1 (And.intro hR1 hB1)))
  obtain ⟨y0,y1,_,_⟩:=hY1
  clear hX hY hR h3 hb1 hX1 hR1 hB1 H;go_wp2_with fail;refine (refValid_any c d _ hc hC hd hD).mono ?_
  rintro e w2 ⟨rfl,hb2⟩
  obtain ⟨hX,hY,hR,h3⟩:=H1.out
  obtain ⟨x0,x1,_,_⟩:=hX.below hb2
  obtain ⟨z0,z1,_,_⟩:=hY.below hb2
  have hR2:=hR.below hb2
  obtain ⟨r0,r1,rf,rlt⟩:=hR2
  have HR2:=hid (hR.below hb2)
  have HB2:=hid (h3.trans (hb2.mono h3.size))
  have hs2:=HB2.out.size
  clear hX hY hR h3 hb2 H1 y0 y1;cases hv2:validQ c d with
  | false=>
   have HQ:Hid (addQ a b c d=⟨0,0,1⟩):=by show addQ a b c d=_; unfold addQ; rw [HV.out,hv2]; rfl
   clear hv2;go_wp2
   refine bodyPost_ret (v:=.tuple #[.agg #[.int .i64 0,.int .i64 0],.int .i64 1]) (by simp [results,Tryz.results181,go_sem,r0,r1]) rfl ⟨?_,?_⟩
   ·rw [HQ.out]; rfl
   ·exact (HB2.out.setCell (by simp; omega) _).setCell (by simp; omega) _
  | true=>
   obtain ⟨u1,u2,u3,u4,_⟩:=(valid_iff c d).1 hv2
   have HQ:Hid (addQ a b c d=mk (a*d+c*b) (b*d)):=by show addQ a b c d=_; unfold addQ; rw [HV.out,hv2]; rfl
   clear hv2;have p1:=prod_bnd v3 v4 (show -2147483647≤d by omega) u2
   have p2:=prod_bnd u3 u4 (show -2147483647≤b by omega) v2
   have p3:=prod_bnd (show -2147483647≤b by omega) v2 (show -2147483647≤d by omega) u2
   have p4:=prod_bnd v3 v4 u3 u4
   have p5:=prod_bnd (show -2147483647≤b by omega) v2 u3 u4
   go_wp2_with fail;refine (refMake_any _ _ _ (by omega) (by omega) (by omega) (by omega)).mono ?_
   rw [← HQ.out];rintro e w3 ⟨rfl,hb3⟩
   obtain ⟨s0,s1,sf,slt⟩:=HR2.out.below hb3
   have HB3:=hid (HB2.out.trans (hb3.mono hs2))
   have hs3:=HB3.out.size
   clear hb3 r0 r1 rf rlt x0 x1 z0 z1 p1 p2 p3 p4 p5;obtain ⟨r,hr⟩:∃ r,r=addQ a b c d:=⟨_,rfl⟩
   rw [← hr];have HRm:=hid hr
   clear hr;obtain ⟨rn,rd,re⟩:=r
   simp only [Res.val];go_wp2
   refine bodyPost_ret (v:=.tuple #[.agg #[.int .i64 rn,.int .i64 rd],.int .i64 re]) (by simp [results,Tryz.results181,go_sem,s0,s1]) rfl ⟨?_,?_⟩
   ·rw [← HRm.out]; rfl
   ·exact (HB3.out.setCell (by simp; omega) _).setCell (by simp; omega) _
set_option maxHeartbeats 1000000 in
theorem refMul_any (a b c d:Int)(w:World)(ha:-9223372036854775808≤a)(hA:a≤9223372036854775807)(hb:-9223372036854775808≤b)(hB:b≤9223372036854775807)(hc:-9223372036854775808≤c)(hC:c≤9223372036854775807)(hd:-9223372036854775808≤d)(hD:d≤9223372036854775807):
  Calls Tryz.prog 182 #[.agg #[.int .i64 a,.int .i64 b],.agg #[.int .i64 c,.int .i64 d]] w fun e w'=>e=.returned (mulQ a b c d).val∧Below w.heap.size w w':=by
 have hX:=(((Two.new w (.int .i64 a) (.int .i64 b) 64).alloc (.cells #[.int .i64 c,.int .i64 d] 64)).alloc (.cells #[.int .i64 0,.int .i64 0] 64))
 have hY:=((Two.new1 w (.cells #[.int .i64 a,.int .i64 b] 64) (.int .i64 c) (.int .i64 d) 64).alloc (.cells #[.int .i64 0,.int .i64 0] 64))
 have hR:=Two.new2 w (.cells #[.int .i64 a,.int .i64 b] 64) (.cells #[.int .i64 c,.int .i64 d] 64) (.int .i64 0) (.int .i64 0) 64
 have h3:=Below.three w (.cells #[.int .i64 a,.int .i64 b] 64) (.cells #[.int .i64 c,.int .i64 d] 64) (.cells #[.int .i64 0,.int .i64 0] 64)
 cases hv:validQ a b with
 | false=>
  have HQ:Hid (mulQ a b c d=⟨0,0,1⟩):=by show mulQ a b c d=_; unfold mulQ; rw [hv]; rfl
  have HV:=hid hv
  have H:=hid (And.intro hX (And.intro hY (And.intro hR h3)))
  clear hv hX hY hR h3;go_enter Tryz.func182,Tryz.ntmps182;go_wp2_with fail;refine (refValid_any a b _ ha hA hb hB).mono ?_
  rw [HV.out];rintro e w1 ⟨rfl,hb1⟩
  obtain ⟨hX,hY,hR,h3⟩:=H.out
  obtain ⟨r0,r1,rf,rlt⟩:=hR.below hb1
  have hB1:=h3.trans (hb1.mono h3.size)
  have HB1:=hid hB1
  clear hX hY hR h3 hb1 hB1;go_wp2
  refine bodyPost_ret (v:=.tuple #[.agg #[.int .i64 0,.int .i64 0],.int .i64 1]) (by simp [results,Tryz.results182,go_sem,r0,r1]) rfl ⟨?_,?_⟩
  ·rw [HQ.out]; rfl
  ·exact (HB1.out.setCell (by simp; omega) _).setCell (by simp; omega) _
 | true=>
  have HV:=hid hv
  obtain ⟨v1,v2,v3,v4,_⟩:=(valid_iff a b).1 hv
  have H:=hid (And.intro hX (And.intro hY (And.intro hR h3)))
  go_enter Tryz.func182,Tryz.ntmps182;clear hX hY hR h3 hv;go_wp2_with fail;refine (refValid_any a b _ ha hA hb hB).mono ?_
  rw [HV.out];rintro e w1 ⟨rfl,hb1⟩
  obtain ⟨hX,hY,hR,h3⟩:=H.out
  have hX1:=hX.below hb1
  have hY1:=hY.below hb1
  have hR1:=hR.below hb1
  have hB1:=h3.trans (hb1.mono h3.size)
  have H1:=hid (And.intro hX1 (And.intro hY1 (And.intro hR1 hB1)))
  obtain ⟨y0,y1,_,_⟩:=hY1
  clear hX hY hR h3 hb1 hX1 hR1 hB1 H;go_wp2_with fail;refine (refValid_any c d _ hc hC hd hD).mono ?_
  rintro e w2 ⟨rfl,hb2⟩
  obtain ⟨hX,hY,hR,h3⟩:=H1.out
  obtain ⟨x0,x1,_,_⟩:=hX.below hb2
  obtain ⟨z0,z1,_,_⟩:=hY.below hb2
  have hR2:=hR.below hb2
  obtain ⟨r0,r1,rf,rlt⟩:=hR2
  have HR2:=hid (hR.below hb2)
  have HB2:=hid (h3.trans (hb2.mono h3.size))
  have hs2:=HB2.out.size
  clear hX hY hR h3 hb2 H1 y0 y1;cases hv2:validQ c d with
  | false=>
   have HQ:Hid (mulQ a b c d=⟨0,0,1⟩):=by show mulQ a b c d=_; unfold mulQ; rw [HV.out,hv2]; rfl
   clear hv2;go_wp2
   refine bodyPost_ret (v:=.tuple #[.agg #[.int .i64 0,.int .i64 0],.int .i64 1]) (by simp [results,Tryz.results182,go_sem,r0,r1]) rfl ⟨?_,?_⟩
   ·rw [HQ.out]; rfl
   ·exact (HB2.out.setCell (by simp; omega) _).setCell (by simp; omega) _
  | true=>
   obtain ⟨u1,u2,u3,u4,_⟩:=(valid_iff c d).1 hv2
   have HQ:Hid (mulQ a b c d=mk (a*c) (b*d)):=by show mulQ a b c d=_; unfold mulQ; rw [HV.out,hv2]; rfl
   clear hv2;have p1:=prod_bnd v3 v4 (show -2147483647≤d by omega) u2
   have p2:=prod_bnd u3 u4 (show -2147483647≤b by omega) v2
   have p3:=prod_bnd (show -2147483647≤b by omega) v2 (show -2147483647≤d by omega) u2
   have p4:=prod_bnd v3 v4 u3 u4
   have p5:=prod_bnd (show -2147483647≤b by omega) v2 u3 u4
   go_wp2_with fail;refine (refMake_any _ _ _ (by omega) (by omega) (by omega) (by omega)).mono ?_
   rw [← HQ.out];rintro e w3 ⟨rfl,hb3⟩
   obtain ⟨s0,s1,sf,slt⟩:=HR2.out.below hb3
   have HB3:=hid (HB2.out.trans (hb3.mono hs2))
   have hs3:=HB3.out.size
   clear hb3 r0 r1 rf rlt x0 x1 z0 z1 p1 p2 p3 p4 p5;obtain ⟨r,hr⟩:∃ r,r=mulQ a b c d:=⟨_,rfl⟩
   rw [← hr];have HRm:=hid hr
   clear hr;obtain ⟨rn,rd,re⟩:=r
   simp only [Res.val];go_wp2
   refine bodyPost_ret (v:=.tuple #[.agg #[.int .i64 rn,.int .i64 rd],.int .i64 re]) (by simp [results,Tryz.results182,go_sem,s0,s1]) rfl ⟨?_,?_⟩
   ·rw [← HRm.out]; rfl
   ·exact (HB3.out.setCell (by simp; omega) _).setCell (by simp; omega) _
set_option maxHeartbeats 1000000 in
theorem refDiv_any (a b c d:Int)(w:World)(ha:-9223372036854775808≤a)(hA:a≤9223372036854775807)(hb:-9223372036854775808≤b)(hB:b≤9223372036854775807)(hc:-9223372036854775808≤c)(hC:c≤9223372036854775807)(hd:-9223372036854775808≤d)(hD:d≤9223372036854775807):
  Calls Tryz.prog 144 #[.agg #[.int .i64 a,.int .i64 b],.agg #[.int .i64 c,.int .i64 d]] w fun e w'=>e=.returned (divQ a b c d).val∧Below w.heap.size w w':=by
 have hX:=(((Two.new w (.int .i64 a) (.int .i64 b) 64).alloc (.cells #[.int .i64 c,.int .i64 d] 64)).alloc (.cells #[.int .i64 0,.int .i64 0] 64))
 have hY:=((Two.new1 w (.cells #[.int .i64 a,.int .i64 b] 64) (.int .i64 c) (.int .i64 d) 64).alloc (.cells #[.int .i64 0,.int .i64 0] 64))
 have hR:=Two.new2 w (.cells #[.int .i64 a,.int .i64 b] 64) (.cells #[.int .i64 c,.int .i64 d] 64) (.int .i64 0) (.int .i64 0) 64
 have h3:=Below.three w (.cells #[.int .i64 a,.int .i64 b] 64) (.cells #[.int .i64 c,.int .i64 d] 64) (.cells #[.int .i64 0,.int .i64 0] 64)
 cases hv:validQ a b with
 | false=>
  have HQ:Hid (divQ a b c d=⟨0,0,1⟩):=by show divQ a b c d=_; unfold divQ; rw [hv]; rfl
  have HV:=hid hv
  have H:=hid (And.intro hX (And.intro hY (And.intro hR h3)))
  clear hv hX hY hR h3;go_enter Tryz.func144,Tryz.ntmps144;go_wp2_with fail;refine (refValid_any a b _ ha hA hb hB).mono ?_
  rw [HV.out];rintro e w1 ⟨rfl,hb1⟩
  obtain ⟨hX,hY,hR,h3⟩:=H.out
  obtain ⟨r0,r1,rf,rlt⟩:=hR.below hb1
  have hB1:=h3.trans (hb1.mono h3.size)
  have HB1:=hid hB1
  clear hX hY hR h3 hb1 hB1;go_wp2
  refine bodyPost_ret (v:=.tuple #[.agg #[.int .i64 0,.int .i64 0],.int .i64 1]) (by simp [results,Tryz.results144,go_sem,r0,r1]) rfl ⟨?_,?_⟩
  ·rw [HQ.out]; rfl
  ·exact (HB1.out.setCell (by simp; omega) _).setCell (by simp; omega) _
 | true=>
  have HV:=hid hv
  obtain ⟨v1,v2,v3,v4,_⟩:=(valid_iff a b).1 hv
  have H:=hid (And.intro hX (And.intro hY (And.intro hR h3)))
  go_enter Tryz.func144,Tryz.ntmps144;clear hX hY hR h3 hv;go_wp2_with fail;refine (refValid_any a b _ ha hA hb hB).mono ?_
  rw [HV.out];rintro e w1 ⟨rfl,hb1⟩
  obtain ⟨hX,hY,hR,h3⟩:=H.out
  have hX1:=hX.below hb1
  have hY1:=hY.below hb1
  have hR1:=hR.below hb1
  have hB1:=h3.trans (hb1.mono h3.size)
  have H1:=hid (And.intro hX1 (And.intro hY1 (And.intro hR1 hB1)))
  obtain ⟨y0,y1,_,_⟩:=hY1
  clear hX hY hR h3 hb1 hX1 hR1 hB1 H;go_wp2_with fail;refine (refValid_any c d _ hc hC hd hD).mono ?_
  rintro e w2 ⟨rfl,hb2⟩
  obtain ⟨hX,hY,hR,h3⟩:=H1.out
  obtain ⟨x0,x1,_,_⟩:=hX.below hb2
  obtain ⟨z0,z1,_,_⟩:=hY.below hb2
  have hR2:=hR.below hb2
  obtain ⟨r0,r1,rf,rlt⟩:=hR2
  have HR2:=hid (hR.below hb2)
  have HB2:=hid (h3.trans (hb2.mono h3.size))
  have hs2:=HB2.out.size
  clear hX hY hR h3 hb2 H1 y0 y1;cases hv2:validQ c d with
  | false=>
   have HQ:Hid (divQ a b c d=⟨0,0,1⟩):=by show divQ a b c d=_; unfold divQ; rw [HV.out,hv2]; rfl
   clear hv2;go_wp2
   refine bodyPost_ret (v:=.tuple #[.agg #[.int .i64 0,.int .i64 0],.int .i64 1]) (by simp [results,Tryz.results144,go_sem,r0,r1]) rfl ⟨?_,?_⟩
   ·rw [HQ.out]; rfl
   ·exact (HB2.out.setCell (by simp; omega) _).setCell (by simp; omega) _
  | true=>
   obtain ⟨u1,u2,u3,u4,_⟩:=(valid_iff c d).1 hv2
   have HQ:Hid (divQ a b c d=mk (a*d) (b*c)):=by show divQ a b c d=_; unfold divQ; rw [HV.out,hv2]; rfl
   clear hv2;have p1:=prod_bnd v3 v4 (show -2147483647≤d by omega) u2
   have p2:=prod_bnd u3 u4 (show -2147483647≤b by omega) v2
   have p3:=prod_bnd (show -2147483647≤b by omega) v2 (show -2147483647≤d by omega) u2
   have p4:=prod_bnd v3 v4 u3 u4
   have p5:=prod_bnd (show -2147483647≤b by omega) v2 u3 u4
   go_wp2_with fail;refine (refMake_any _ _ _ (by omega) (by omega) (by omega) (by omega)).mono ?_
   rw [← HQ.out];rintro e w3 ⟨rfl,hb3⟩
   obtain ⟨s0,s1,sf,slt⟩:=HR2.out.below hb3
   have HB3:=hid (HB2.out.trans (hb3.mono hs2))
   have hs3:=HB3.out.size
   clear hb3 r0 r1 rf rlt x0 x1 z0 z1 p1 p2 p3 p4 p5;obtain ⟨r,hr⟩:∃ r,r=divQ a b c d:=⟨_,rfl⟩
   rw [← hr];have HRm:=hid hr
   clear hr;obtain ⟨rn,rd,re⟩:=r
   simp only [Res.val];go_wp2
   refine bodyPost_ret (v:=.tuple #[.agg #[.int .i64 rn,.int .i64 rd],.int .i64 re]) (by simp [results,Tryz.results144,go_sem,s0,s1]) rfl ⟨?_,?_⟩
   ·rw [← HRm.out]; rfl
   ·exact (HB3.out.setCell (by simp; omega) _).setCell (by simp; omega) _
theorem mk_inv {a b:Int}(h:validQ a b=true)(ha:a≠0):mk b a=⟨a.sign*b,a.natAbs,0⟩:=by
 refine mk_eq (inv_valid h ha) ha ?_
 have:(a.natAbs:Int)=a.sign*a:=(Int.sign_mul_self a).symm
 rw [this];grind
theorem valid_zero {b:Int}(h:validQ 0 b=true):b=1:=by
 rw [valid_iff]at h
 have:=h.2.2.2.2
 simp at this
 omega
theorem powQ_nil {a b:Int}(h:validQ a b=true):powQ a b 0=⟨1,1,0⟩:=by
 rw [powQ_pos h (by omega)]
 unfold powN;rw [show (Int.natAbs 0)=0 from rfl,Int.pow_zero,Int.pow_zero,if_pos (by decide)]
theorem powQ_one (n:Int):powQ 1 1 n=⟨1,1,0⟩:=by
 by_cases hn:n<0
 ·rw [powQ_neg (by decide) hn (by omega)]
  unfold powN;rw [show (Int.sign 1*1:Int)=1 from rfl,show ((Int.natAbs 1:Nat):Int)=1 from rfl,Int.one_pow,if_pos (by decide)]
 ·rw [powQ_pos (by decide) hn]
  unfold powN;rw [Int.one_pow,if_pos (by decide)]
theorem powQ_null {n:Int}(hn:0<n):powQ 0 1 n=⟨0,1,0⟩:=by
 rw [powQ_pos (by decide) (by omega)]
 unfold powN;rw [Int.one_pow,Int.zero_pow (by omega),if_pos (by decide)]
theorem neg_one_pow (k:Nat):(-1:Int) ^ k=if k % 2=0 then 1 else -1:=by
 induction k with
 | zero=>rfl
 | succ k ih=>rw [Int.pow_succ,ih]; split<;>split<;>omega
theorem powQ_minus (n:Int):powQ (-1) 1 n=if n % 2=0 then ⟨1,1,0⟩else ⟨-1,1,0⟩:=by
 have key:powN (-1) 1 n.natAbs=if n % 2=0 then ⟨1,1,0⟩else ⟨-1,1,0⟩:=by
  unfold powN;rw [Int.one_pow,neg_one_pow];by_cases h:n % 2=0
  ·rw [if_pos h,if_pos (show n.natAbs % 2=0 by omega)]; rfl
  ·rw [if_neg h,if_neg (show ¬ n.natAbs % 2=0 by omega)]; rfl
 by_cases hn:n<0
 ·rw [powQ_neg (by decide) hn (by omega)]; exact key
 ·rw [powQ_pos (by decide) hn]; exact key
theorem powQ_over {a b n:Int}(h:validQ a b=true)(h0:a≠0)(h1:¬ (b=1∧(a=1∨a=-1)))(hn:31<n.natAbs):powQ a b n=⟨0,0,2⟩:=
 powQ_far h (fun e=>h0 e.1) (Nat.le_refl _) (pow_far h h0 h1 hn)
theorem powQ_flip {a b n:Int}(h:validQ a b=true)(h0:a≠0)(hn:n<0):powQ (a.sign*b) a.natAbs (-n)=powQ a b n:=by
 rw [powQ_pos (inv_valid h h0) (by omega),powQ_neg h hn h0,Int.natAbs_neg]
theorem decQ_zero (w f:List UInt8):decQ (48::w) f=decQ w f:=by
 unfold decQ; rw [List.cons_append,val_zero]
theorem decQ_far (w f:List UInt8)(h:10000000000≤valD w):decQ w f=⟨0,0,2⟩:=by
 unfold decQ;rw [← ansQ_mk];unfold ansQ;rw [if_neg];rintro ⟨h1,h2⟩
 obtain ⟨e1,e2,_⟩:=num2_spec (valD (w++f)) f.length
 generalize 2 ^ (f.length-twos (valD (w++f)) f.length)*5 ^ (f.length-fives (valD (w++f)) f.length)=g at*;generalize 2 ^ twos (valD (w++f)) f.length*5 ^ fives (valD (w++f)) f.length=d at*;generalize num2 (valD (w++f)) f.length=n at*;have hv:=val_app w f
 have hd:0<d:=by
  have:0<10 ^ f.length:=Nat.pow_pos (by decide)
  rcases Nat.eq_zero_or_pos d with h0|h0
  ·subst h0; omega
  ·exact h0
 have h3:10000000000*10 ^ f.length≤valD (w++f):=by
  rw [hv]; exact Nat.le_trans (Nat.mul_le_mul_right _ h) (Nat.le_add_right _ _)
 rw [e1,e2]at h3
 have h10:0<10 ^ f.length:=Nat.pow_pos (by decide)
 have hg:0<g:=by rcases Nat.eq_zero_or_pos g with h0|h0; (subst h0; omega); exact h0
 rw [← Nat.mul_assoc]at h3
 have h4:=Nat.le_of_mul_le_mul_right h3 hg
 omega
theorem last_mod (a:List UInt8)(c:UInt8):valD (a++[c]) % 10=(c.toNat-48) % 10:=by rw [val_snoc]; omega
theorem shN_none (p:Nat)(e v:Nat)(h:v % p≠0):shN p e v=(v,e):=by
 cases e with
 | zero=>rfl
 | succ e=>unfold shN; rw [if_neg h]
theorem decQ_long (w f:List UInt8)(hf:∀ c∈f,isD c=true)(hl:31<f.length)(h:∃ a c,f=a++[c]∧c≠48):decQ w f=⟨0,0,2⟩:=by
 obtain ⟨a,c,rfl,hc⟩:=h
 have hD:=hf c (by simp)
 rw [isD_iff]at hD
 have hc0:=ne48 hc
 unfold decQ;rw [← ansQ_mk];unfold ansQ;rw [if_neg];rintro ⟨_,h2⟩
 rw [← List.append_assoc]at h2
 have hm:=last_mod (w++a) c
 generalize valD (w++a++[c])=v at*;generalize hk:(a++[c]).length=k at*;have hpos:∀ p n:Nat,0<p→1≤p ^ n:=fun p n hp=>Nat.pow_pos hp
 by_cases hv:v % 2=0
 ·have h5:v % 5≠0:=by omega
  -- no five goes out
  obtain ⟨g1,g2,g3⟩:=shN_spec 2 (by decide) k v
  have h5':(shN 2 k v).1 % 5≠0:=fun e=>h5 (by rw [g2,Nat.mul_mod,e]; simp)
  have e5:fives v k=k:=by unfold fives; rw [shN_none 5 k _ h5']
  rw [e5]at h2
  have b1:2147483648≤5 ^ k:=Nat.le_trans (show 2147483648≤5 ^ 32 from Nat.le_of_ble_eq_true rfl) (Nat.pow_le_pow_right (show 0<5 by decide) (show 32≤k by omega))
  have b2:=hpos 2 (twos v k) (by decide)
  have b3:1*5 ^ k≤2 ^ twos v k*5 ^ k:=Nat.mul_le_mul_right _ b2
  generalize 5 ^ k=x at*;generalize 2 ^ twos v k*x=y at*;omega
 ·have e2:twos v k=k:=by unfold twos; rw [shN_none 2 k _ hv]
  rw [e2]at h2
  have b1:2147483648≤2 ^ k:=Nat.le_trans (show 2147483648≤2 ^ 32 from Nat.le_of_ble_eq_true rfl) (Nat.pow_le_pow_right (show 0<2 by decide) (show 32≤k by omega))
  have b2:=hpos 5 (fives v k) (by decide)
  have b3:2 ^ k*1≤2 ^ k*5 ^ fives v k:=Nat.mul_le_mul_left _ b2
  generalize 2 ^ k=x at*;generalize x*5 ^ fives v k=y at*;omega
theorem cut_unique {w r:List UInt8}(h:(46:UInt8)∉w):Lib.cut (w++46::r) [46]=(w,r,true):=by
 rcases cut_point (w++46::r)with ⟨w',r',e,e',h'⟩|⟨_,h'⟩
 ·rw [e]
  have:∀ (a b c d:List UInt8),(46:UInt8)∉a→(46:UInt8)∉c→a++46::b=c++46::d→a=c∧b=d:=by
   intro a;induction a with
   | nil=>
    intro b c d _ hc e;cases c with
    | nil=>simpa using e
    | cons x c=>simp at e; exact absurd (by simp [e.1]) hc
   | cons y a ih=>
    intro b c d ha hc e;cases c with
    | nil=>simp at e; exact absurd (by simp [e.1]) ha
    | cons x c=>
     simp at e
     obtain ⟨h1,h2⟩:=ih b c d (fun h=>ha (by simp [h])) (fun h=>hc (by simp [h])) e.2
     exact ⟨by rw [e.1,h1],h2⟩
  obtain ⟨rfl,rfl⟩:=this _ _ _ _ h h' e'
  rfl
 ·exact absurd (by simp) h'
theorem dec_pos (s:ByteArray):decide (0<s.size)=!s.data.toList.isEmpty:=by
 have hl:=len_list s
 cases h:s.data.toList with
 | nil=>rw [h]at hl; simp at hl; rw [← hl]; rfl
 | cons a l=>rw [h]at hl; simp at hl; rw [decide_eq_true (by omega)]; rfl
set_option maxHeartbeats 1000000 in
theorem rdigs_any (s:ByteArray)(w:World)(hs:s.size≤1000):
  Calls Tryz.prog 177 #[.string s] w fun r w'=>r=.returned (.bool (digs s.data.toList))∧w=w':=by
 go_enter Tryz.func177,Tryz.ntmps177;go_wp2
 go_loop [3] (fun s3=>∃ kk:Nat,kk≤s.size∧s3=.int .i64 kk∧Aside (∀ (j:Nat)(hj:j<s.size),j<kk→isD s[j]=true)) (fun s3=>s.size-(intOf s3).toNat)
 case atStart=>exact ⟨0,Nat.zero_le _,rfl,fun j _ hj=>absurd hj (Nat.not_lt_zero _)⟩
 case round=>
  obtain ⟨kk,hkk,rfl,HA⟩:=hrel
  by_cases hlt:kk<s.size
  ·have hltz:(kk:Int)<(s.size:Int):=by omega
   by_cases h1:s[kk].toNat<48
   ·have h1':(s[kk].toNat:Int)<48:=by omega
    have hp:Hid (digs s.data.toList=false):=digs_no s kk hlt (by simp [isD]; omega)
    go_wp2
    go_ret;refine ⟨?_,rfl⟩
    rw [hp.out]; rfl
   ·have h1':¬ (s[kk].toNat:Int)<48:=by omega
    by_cases h2:57<s[kk].toNat
    ·have h2':(57:Int)<(s[kk].toNat:Int):=by omega
     have hp:Hid (digs s.data.toList=false):=digs_no s kk hlt (by simp [isD]; omega)
     go_wp2
     go_ret;refine ⟨?_,rfl⟩
     rw [hp.out]; rfl
    ·have h2':¬ (57:Int)<(s[kk].toNat:Int):=by omega
     have hok:Hid (isD s[kk]=true):=by show isD s[kk]=true; simp [isD]; omega
     go_wp2
     go_round
     case rel=>
      refine ⟨kk+1,by omega,by go_num,(show Aside _ from fun j hj hjk=>?_)⟩
      by_cases ee:j=kk
      ·subst ee; exact hok.out
      ·exact HA.out j hj (by omega)
     case measure=>simp [intOf]; omega
  ·have hltz:¬ (kk:Int)<(s.size:Int):=by omega
   obtain rfl:kk=s.size:=by omega
   have hp:Hid (digs s.data.toList=!s.data.toList.isEmpty):=digs_yes s (fun j hj=>HA.out j hj hj)
   clear hlt HA;go_wp2
   go_ret;refine ⟨ret_bool' ?_,rfl⟩
   rw [hp.out];exact dec_pos s
set_option maxHeartbeats 2000000 in
theorem refRoot_any (a b:Int)(w:World)(ha:-9223372036854775808≤a)(hA:a≤9223372036854775807)(hb:-9223372036854775808≤b)(hB:b≤9223372036854775807):
  Calls Tryz.prog 143 #[.agg #[.int .i64 a,.int .i64 b]] w fun e w'=>e=.returned (rootQ a b).val∧Below w.heap.size w w':=by
 have hX:=((Two.new w (.int .i64 a) (.int .i64 b) 64).alloc (.cells #[.int .i64 0,.int .i64 0] 64))
 have hR:=(Two.new1 w (.cells #[.int .i64 a,.int .i64 b] 64) (.int .i64 0) (.int .i64 0) 64)
 have h3:Below w.heap.size w ((w.alloc (.cells #[.int .i64 a,.int .i64 b] 64)).alloc (.cells #[.int .i64 0,.int .i64 0] 64)):=((Below.refl _ _).alloc (Nat.le_refl _) _).alloc (by simp) _
 have H:=hid (And.intro hX (And.intro hR h3))
 clear hX hR h3;cases hv:validQ a b with
 | false=>
  have HQ:Hid (rootQ a b=⟨0,0,1⟩):=by show rootQ a b=_; unfold rootQ; rw [hv]; first|rw [if_pos rfl]|rw [if_neg (by simp)]
  have HV:=hid hv
  clear hv;go_enter Tryz.func143,Tryz.ntmps143;go_wp2_with fail;refine (refValid_any a b _ ha hA hb hB).mono ?_
  rw [HV.out];rintro e w1 ⟨rfl,hb1⟩
  obtain ⟨hX,hR,h3⟩:=H.out
  obtain ⟨r0,r1,rf,rlt⟩:=hR.below hb1
  have HB1:=hid (h3.trans (hb1.mono h3.size))
  clear hX hR h3 hb1;go_wp2
  refine bodyPost_ret (v:=.tuple #[.agg #[.int .i64 0,.int .i64 0],.int .i64 1]) (by simp [results,Tryz.results143,go_sem,r0,r1]) rfl ⟨?_,?_⟩
  ·rw [HQ.out]; rfl
  ·exact (HB1.out.setCell (by simp) _).setCell (by simp) _
 | true=>
  obtain ⟨v1,v2,v3,v4,_⟩:=(valid_iff a b).1 hv
  have HQ:Hid (rootQ a b=if sqr a*sqr a=a∧sqr b*sqr b=b then ⟨sqr a,sqr b,0⟩else ⟨0,0,2⟩):=by show rootQ a b=_; unfold rootQ; rw [hv]; first|rw [if_pos rfl]|rw [if_neg (by simp)]
  have HV:=hid hv
  have hsa:=sqr_bnd a
  have hsb:=sqr_bnd b
  have hneg:Hid (a<0→(sqr a*sqr a == a)=false):=fun h=>by have:=Int.mul_nonneg hsa.1 hsa.1; simp; omega
  clear hv;go_enter Tryz.func143,Tryz.ntmps143;go_wp2_with fail;refine (refValid_any a b _ ha hA hb hB).mono ?_
  rw [HV.out];rintro e w1 ⟨rfl,hb1⟩
  obtain ⟨hX,hR,h3⟩:=H.out
  obtain ⟨r0,r1,rf,rlt⟩:=hR.below hb1
  obtain ⟨x0,x1,_,_⟩:=hX.below hb1
  have HB1:=hid (h3.trans (hb1.mono h3.size))
  clear hX hR h3 hb1;go_wp2_with fail;refine (whole_any a _ ha hA).mono ?_
  rintro e w' ⟨rfl,rfl⟩
  generalize hga:sqr a=sa at*;have HGA:=hid hga
  clear hga;go_wp2_with fail;refine (whole_any b _ hb hB).mono ?_
  rintro e w' ⟨rfl,rfl⟩
  generalize hgb:sqr b=sb at*;clear hgb;by_cases h1:sa*sa=a
  ·have h1':(sa*sa == a)=true:=by simpa using h1
   have h0:¬ a<0:=fun h=>by have:=hneg.out h; rw [h1']at this; cases this
   rw [h1'];clear h1';by_cases h2:sb*sb=b
   ·have h2':(sb*sb == b)=true:=by simpa using h2
    rw [h2'];have HQ':=hid (HQ.out.trans (if_pos ⟨h1,h2⟩))
    clear h2' h2 HQ h1;go_wp2
    refine bodyPost_ret (v:=.tuple #[.agg #[.int .i64 sa,.int .i64 sb],.int .i64 0]) (by simp [results,Tryz.results143,go_sem,r0,r1]) rfl ⟨?_,?_⟩
    ·rw [HQ'.out]; rfl
    ·exact (HB1.out.setCell (by simp) _).setCell (by simp) _
   ·have h2':(sb*sb == b)=false:=by simpa using h2
    rw [h2'];have HQ':=hid (HQ.out.trans (if_neg (fun h=>h2 h.2)))
    clear h2' h2 HQ h1;go_wp2
    refine bodyPost_ret (v:=.tuple #[.agg #[.int .i64 0,.int .i64 0],.int .i64 2]) (by simp [results,Tryz.results143,go_sem,r0,r1]) rfl ⟨?_,?_⟩
    ·rw [HQ'.out]; rfl
    ·exact (HB1.out.setCell (by simp) _).setCell (by simp) _
  ·have h1':(sa*sa == a)=false:=by simpa using h1
   rw [h1'];have HQ':=hid (HQ.out.trans (if_neg (fun h=>h1 h.1)))
   clear h1' h1 HQ;generalize (sb*sb == b)=bb;by_cases h0:a<0
   ·go_wp2
    refine bodyPost_ret (v:=.tuple #[.agg #[.int .i64 0,.int .i64 0],.int .i64 2]) (by simp [results,Tryz.results143,go_sem,r0,r1]) rfl ⟨?_,?_⟩
    ·rw [HQ'.out]; rfl
    ·exact (HB1.out.setCell (by simp) _).setCell (by simp) _
   ·go_wp2
    refine bodyPost_ret (v:=.tuple #[.agg #[.int .i64 0,.int .i64 0],.int .i64 2]) (by simp [results,Tryz.results143,go_sem,r0,r1]) rfl ⟨?_,?_⟩
    ·rw [HQ'.out]; rfl
    ·exact (HB1.out.setCell (by simp) _).setCell (by simp) _
end Go.Proofs.YtknpigdpepmimaaGreatDoor.Q
