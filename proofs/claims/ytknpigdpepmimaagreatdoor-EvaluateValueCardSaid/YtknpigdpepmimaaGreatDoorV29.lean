/- The reference's bind 93. -/
import Derived.Test.YtknpigdpepmimaaGreatDoorV25
import Derived.Test.YtknpigdpepmimaaGreatDoorV26
import Derived.Test.YtknpigdpepmimaaGreatDoorV28
namespace Go.Proofs.YtknpigdpepmimaaGreatDoor
open Go.Lib(hid)
open Go.RowKit Go.Maps
structure LB (w wr:World)(mb B:Nat)(s:Sc)(vn vv:Value)(rb xb tk lb lo:Nat)(t:T)(A:Option Addr) (ca:Nat)(x y v:V) (ci:Nat)(un uv:Value):Prop where
 ms:MS wr mb B s ci un uv
 gm:Gm w wr mb vn vv un uv
 kr:K9 wr rb zV
 kt:K9 wr tk v
 bx:Bxd wr xb t A ca
 lx:C9 wr lb lo x
 ly:C9 wr lb (lo+9) y
 ar:Aw mb un uv rb
 at_:Aw mb un uv tk
 ax:Aw mb un uv xb
 al:Aw mb un uv lb
 ds:rb≠xb∧rb≠tk∧rb≠lb∧tk≠xb∧tk≠lb
 hi:w.heap.size≤rb∧w.heap.size≤tk
variable {w wr w':World}{mb B:Nat}{s:Sc}{vn vv un uv un' uv':Value}{rb xb tk lb lo:Nat}{t:T}{A:Option Addr}{ca:Nat}{x y v:V}{ci:Nat}
theorem bxd_block {w w':World}{b:Nat}{t:T}{A:Option Addr}{c:Nat}(h:Bxd w b t A c)(hb:w'.heap[b]?=w.heap[b]?):Bxd w' b t A c:=
 ⟨(cell_of_block hb _).trans h.c0,(cell_of_block hb _).trans h.c1,(cell_of_block hb _).trans h.c2,(cell_of_block hb _).trans h.c3,(cell_of_block hb _).trans h.c4⟩
theorem LB.step {s':Sc}{ci':Nat}(h:LB w wr mb B s vn vv rb xb tk lb lo t A ca x y v ci un uv)(hg:Gm wr w' mb un uv un' uv')(hm:MS w' mb B s' ci' un' uv'):LB w w' mb B s' vn vv rb xb tk lb lo t A ca x y v ci' un' uv':=by
 have e1:=hg.block rb h.kr.cells.2.2 h.ar
 have e2:=hg.block tk h.kt.cells.2.2 h.at_
 have e3:=hg.block xb (block_lt_of_cell h.bx.c0) h.ax
 have e4:=hg.block lb h.lx.lt h.al
 exact ⟨hm,h.gm.tr hg,e1.1.trans h.kr,e2.1.trans h.kt,bxd_block h.bx e3.1,h.lx.block e4.1,h.ly.block e4.1,e1.2,e2.2,e3.2,e4.2,h.ds,h.hi⟩
theorem LB.reach (h:LB w wr mb B s vn vv rb xb tk lb lo t A ca x y v ci un uv)(hb:Below wr.heap.size wr w'):LB w w' mb B s vn vv rb xb tk lb lo t A ca x y v ci un uv:=h.step (Gm.bel hb) (h.ms.reach hb)
theorem LB.put (h:LB w wr mb B s vn vv rb xb tk lb lo t A ca x y v ci un uv)(u:V):LB w (set9 wr tk u) mb B s vn vv rb xb tk lb lo t A ca x y u ci un uv:=by
 have hg:=set9_gb wr tk u
 have e:∀ k,k≠tk→(set9 wr tk u).heap[k]?=wr.heap[k]?:=fun k hk=>set9_other wr tk u k hk
 have hd:=h.ds
 exact ⟨h.ms.row hg (fun k hk=>by obtain rfl:=Option.some.inj hk; exact h.at_),h.gm.row hg (fun k hk=>by obtain rfl:=Option.some.inj hk; exact h.hi.2),(e rb hd.2.1).trans h.kr,set9_K9 h.kt u,bxd_block h.bx (e xb (Ne.symm hd.2.2.2.1)),h.lx.block (e lb (Ne.symm hd.2.2.2.2)),h.ly.block (e lb (Ne.symm hd.2.2.2.2)),h.ar,h.at_,h.ax,h.al,h.ds,h.hi⟩
theorem VOut.fin2 {q:Option Addr}{g:R × Nat}(h:LB w wr mb B s vn vv rb xb tk lb lo t A ca x y v g.2 un uv)(hfp:FP wr q (fun k=>Aw mb un uv k∧rb<k) g.1):
  VOut2 w (set9 wr rb g.1.v) mb B s vn vv g (.returned (.tuple #[.agg g.1.v.cells,.pointer q])):=VOut.fin h.hi.1 h.ms h.gm h.ar hfp
theorem LB.num (h:LB w wr mb B s vn vv rb xb tk lb lo t A ca x y v ci un uv) (n:Int):LB w (wr.setCell ⟨tk,0,none⟩ (.int .i64 n)) mb B s vn vv rb xb tk lb lo t A ca x y ⟨n,v.den,v.dim⟩ ci un uv:=by
 have hg:wr.grownBy (wr.setCell ⟨tk,0,none⟩ (.int .i64 n)) (some tk):=⟨rfl,rfl,rfl,by rw [World.size_setCell]; exact Nat.le_refl _,fun k _ hk=>Below.heap_setCell _ ⟨tk,0,none⟩ _ k (fun e=>hk (by rw [e]))⟩
 have e:∀ k,k≠tk→(wr.setCell ⟨tk,0,none⟩ (.int .i64 n)).heap[k]?=wr.heap[k]?:=fun k hk=>Below.heap_setCell _ ⟨tk,0,none⟩ _ k (fun e=>hk (by rw [e]))
 have hd:=h.ds
 have hk:K9 (wr.setCell ⟨tk,0,none⟩ (.int .i64 n)) tk ⟨n,v.den,v.dim⟩:=by
  have h1:=h.kt
  unfold K9 at h1 ⊢;show (wr.heap.modify tk _)[tk]?=_
  rw [Array.getElem?_modify,if_pos rfl,h1];rfl
 exact ⟨h.ms.row hg (fun k hk=>by obtain rfl:=Option.some.inj hk; exact h.at_),h.gm.row hg (fun k hk=>by obtain rfl:=Option.some.inj hk; exact h.hi.2),(e rb hd.2.1).trans h.kr,hk,bxd_block h.bx (e xb (Ne.symm hd.2.2.2.1)),h.lx.block (e lb (Ne.symm hd.2.2.2.2)),h.ly.block (e lb (Ne.symm hd.2.2.2.2)),h.ar,h.at_,h.ax,h.al,h.ds,h.hi⟩
theorem FP.gm {q:Option Addr}{n:Nat}{r:R}(h:FP w q (Fw n mb vn vv) r)(hg:Gm w w' mb vn vv un uv):FP w' q (Fw n mb un uv) r:=by
 rcases h with h|⟨h1,fb,h2,h3⟩
 ·exact .inl h
 ·exact .inr ⟨h1,fb,h2,h3.keep fun k hk hs=>⟨Nat.lt_of_lt_of_le hk hg.size,(hg.block k hk hs.1).1,(hg.block k hk hs.1).2,hs.2⟩⟩
theorem tr_two {w:World}{B b o:Nat}{a b' c:T}(h:TRs w B b o [a,b',c]):TRs w B b o [a,b']:=by
 unfold TRs at h ⊢;refine ⟨h.1,?_⟩
 have h2:=h.2
 unfold TRs at h2 ⊢;exact ⟨h2.1,by unfold TRs; trivial⟩
theorem lim_ok {x y:V}(h1:x.dim=zD)(h2:y.dim=zD)(h3:x.den=1)(h4:y.den=1):limE x y=okR zV:=by unfold limE; rw [if_pos h1,if_pos h2,if_pos h3,if_pos h4]
set_option maxRecDepth 100000 in
set_option maxHeartbeats 80000000 in
theorem bind93_any {mb B N:Nat}(IH:RTermC mb B N)(t:T)(hz:t.size≤N+1)(hw:WF t)(hk:t.kind=5)(hN:N≤2000)(s:Sc)(A:Option Addr)(ca c:Nat)(w:World)(vn vv:Value)(hc:c≤2000)(hok:s.ok)(hsz:s.length+(N+1)≤5000)(ht:TV w B t A ca)(hm:MS w mb B s c vn vv):
  Calls Tryz.prog 93 #[.pointer (some ⟨mb,0,none⟩),.agg (tv t A ca)] w fun e w'=>VOut2 w w' mb B s vn vv (ev t s c) e:=by
 have HO:=hid (own_short' hw.parts.1)
 have HB:=hid (b2 w (.cells (tv t A ca) 24) (.cells #[.int .i64 0,.int .i64 0,.int .i64 0,.int .i64 0,.int .i64 0,.int .i64 0,.int .i64 0,.int .i64 0,.int .i64 0] 44))
 have HX:Hid (Bxd ((w.alloc (.cells (tv t A ca) 24)).alloc (.cells #[.int .i64 0,.int .i64 0,.int .i64 0,.int .i64 0,.int .i64 0,.int .i64 0,.int .i64 0,.int .i64 0,.int .i64 0] 44)) w.heap.size t A ca):=(bxd_new w t A ca).below (b1 _ (.cells #[.int .i64 0,.int .i64 0,.int .i64 0,.int .i64 0,.int .i64 0,.int .i64 0,.int .i64 0,.int .i64 0,.int .i64 0] 44)) (by simp)
 have HK:Hid (K9 ((w.alloc (.cells (tv t A ca) 24)).alloc (.cells #[.int .i64 0,.int .i64 0,.int .i64 0,.int .i64 0,.int .i64 0,.int .i64 0,.int .i64 0,.int .i64 0,.int .i64 0] 44)) (w.heap.size+1) zV):=by
  have h:=K9.new (w.alloc (.cells (tv t A ca) 24)) zV
  rw [World.size_alloc]at h
  exact h
 have HM:Hid (MS ((w.alloc (.cells (tv t A ca) 24)).alloc (.cells #[.int .i64 0,.int .i64 0,.int .i64 0,.int .i64 0,.int .i64 0,.int .i64 0,.int .i64 0,.int .i64 0,.int .i64 0] 44)) mb B s c vn vv):=hm.reach HB.out
 have HG:Hid (Gm w ((w.alloc (.cells (tv t A ca) 24)).alloc (.cells #[.int .i64 0,.int .i64 0,.int .i64 0,.int .i64 0,.int .i64 0,.int .i64 0,.int .i64 0,.int .i64 0,.int .i64 0] 44)) mb vn vv vn vv):=Gm.bel HB.out
 have HAB:Hid (Aw mb vn vv (w.heap.size+1)):=hm.fresh (Nat.le_succ _)
 have HAX:Hid (Aw mb vn vv w.heap.size):=hm.fresh (Nat.le_refl _)
 have HSZ:Hid (((w.alloc (.cells (tv t A ca) 24)).alloc (.cells #[.int .i64 0,.int .i64 0,.int .i64 0,.int .i64 0,.int .i64 0,.int .i64 0,.int .i64 0,.int .i64 0,.int .i64 0] 44)).heap.size=w.heap.size+2):=by show _=_; simp
 have HBL:Hid (B≤w.heap.size):=hm.bLe
 have HTA:=hid ht.ar
 have HCAP:=hid ht.cap
 have HEV:Hid (ev t s c=bindG t.name (evs t.args s) (evh t.args t.var s) c):=by show _=_; rw [ev_eq,hk]; rfl
 have HIH:=hid IH
 have HOK:=hid hok
 have HCC:=hid hc
 have HSS:=hid hsz
 have HZZ:Hid (∀ u∈t.args,u.size≤N∧WF u):=fun u hu=>⟨size_list hz hu,hw.parts.2.mem hu⟩
 have HLEN:Hid (t.args.length≤N):=by
  show _≤_
  have:=len_sizes t.args
  have:=size_eq t
  omega
 have HVS:=hid (var_short hw.parts.1)
 clear ht hm IH hok hc hz hw hsz;go_enter Tryz.func93,Tryz.ntmps93;go_upto_region 1 with (fail);generalize (w.alloc (.cells (tv t A ca) 24)).alloc (.cells #[.int .i64 0,.int .i64 0,.int .i64 0,.int .i64 0,.int .i64 0,.int .i64 0,.int .i64 0,.int .i64 0,.int .i64 0] 44)=w1 at*;obtain ⟨k0,k1,k2,k3,k4⟩:=HX.out
 clear k0 k4;by_cases hnm:t.name=sumW∨t.name=prodW
 ·skip
  go_upto_region 1 with (fail);go_cut [14] (fun s14 wx=>s14=.bool false∧w1=wx)
  case first=>
   rcases hnm with h|h
   ·rw [h]at k1
    unfold sumW at k1;go_wp2_with fail;go_meet
    case rel=>exact ⟨rfl,rfl⟩
   ·rw [h]at k1
    unfold prodW at k1;go_wp2_with fail;go_meet
    case rel=>exact ⟨rfl,rfl⟩
  case rest=>
   obtain ⟨rfl,rfl⟩:=hcut
   have hyl:t.args.length≤2000:=by have:=HLEN.out; omega
   by_cases h3:t.args.length=3
   ·obtain ⟨ta,tb,tc,hargs⟩:=three h3
    have HGB:Hid (ev t s c=limG t.name (fun k=>ev tc ((t.var,whV k)::s)) (argsG 0 [ev ta s,ev tb s] c [])):=by
     show _=_
     rw [HEV.out,hargs,evs,evs,evs,evs,evh,evh,evh,evh,bindG_three,if_pos hnm]
    obtain ⟨b',o',rfl,hts⟩:=HTA.out (by rw [hargs]; simp)
    rw [hargs]at hts
    have HTS:=hid hts
    have HTA2:Hid (TA w1 B (some ⟨b',o',none⟩) [ta,tb]):=fun _=>⟨b',o',rfl,tr_two (TRs.below hts (HB.out.mono HBL.out))⟩
    have HZ3:Hid (∀ u∈[ta,tb,tc],u.size≤N∧WF u):=by have h:=HZZ.out; rw [hargs]at h; exact h
    have hca:=HCAP.out
    rw [h3]at hca
    have hca2:(2:Int)≤(ca:Int):=by omega
    have hcam:(ca:Int)≤9223372036854775807:=by omega
    have HL:=hid (list_any HIH.out [ta,tb] (fun u hu=>HZ3.out u (by simp at hu ⊢; rcases hu with h|h<;>simp [h])) (by show 2≤2000; decide) s (some ⟨b',o',none⟩) ca c w1 vn vv HCC.out HOK.out (by have:=HSS.out; omega) HTA2.out HM.out)
    unfold LOut evs evs evs at HL
    have HLA:Hid ((argsG 0 [ev ta s,ev tb s] c []).1.1.e=0→(∀ x∈(argsG 0 [ev ta s,ev tb s] c []).1.2,x.ok)∧(argsG 0 [ev ta s,ev tb s] c []).1.2.length=2):=fun h0=>by
     have h:=argsG_ok [ev ta s,ev tb s] 0 c [] (fun g hg=>by
      simp at hg
      rcases hg with rfl|rfl
      ·exact ev_ok N ta (HZ3.out ta (by simp)).1 s HOK.out
      ·exact ev_ok N tb (HZ3.out tb (by simp)).1 s HOK.out) (fun x hx=>by cases hx) h0
     exact ⟨h.1,h.2⟩
    have HTD:Hid (Tidy (argsG 0 [ev ta s,ev tb s] c []).1.1):=args_tidy _ _ _ _ (fun g hg c=>by
     simp at hg
     rcases hg with rfl|rfl
     ·exact ev_tidy N ta (HZ3.out ta (by simp)).1 s c
     ·exact ev_tidy N tb (HZ3.out tb (by simp)).1 s c)
    have HMN:Hid ((argsG 0 [ev ta s,ev tb s] c []).2≤2000):=(argsG_mon _ _ _ _ (fun g hg=>by
     simp at hg
     rcases hg with rfl|rfl
     ·exact ev_mon N ta (HZ3.out ta (by simp)).1 s
     ·exact ev_mon N tb (HZ3.out tb (by simp)).1 s)).2 HCC.out
    generalize argsG 0 [ev ta s,ev tb s] c []=a at*;obtain ⟨⟨ra,la⟩,c2⟩:=a
    dsimp only at HL HGB HLA HTD HMN
    have HNM:=hid hnm
    rw [h3]at k3
    clear hts hca hnm;go_upto_region 5 with (fail);go_wp2_with fail;refine HL.out.mono ?_
    rintro e w4 ⟨q,vl,un,uv,rfl,hfp,hoa,hms4,hgm4⟩
    have HM4:=hid hms4
    have HG4:=hid (HG.out.tr hgm4)
    have HAB4:Hid (Aw mb un uv (w.heap.size+1)):=(hgm4.block _ HK.out.cells.2.2 HAB.out).2
    have HAX4:Hid (Aw mb un uv w.heap.size):=(hgm4.block _ (by have:=HSZ.out; omega) HAX.out).2
    have HK4:Hid (K9 w4 (w.heap.size+1) zV):=(hgm4.block _ HK.out.cells.2.2 HAB.out).1.trans HK.out
    have HX4:Hid (Bxd w4 w.heap.size t (some ⟨b',o',none⟩) ca):=bxd_block HX.out (hgm4.block _ (by have:=HSZ.out; omega) HAX.out).1
    have HS4:Hid (w.heap.size+2≤w4.heap.size):=by have h1:=HSZ.out; have h2:=hgm4.size; show _≤_; omega
    have HFP:=hid hfp
    have HOA:=hid hoa
    clear hfp hoa hms4 hgm4 k1 k2 k3 HL;rcases HFP.out with ⟨he,rfl⟩|⟨he,fb,rfl,hfb⟩
    ·obtain ⟨hlo,hll⟩:=HLA.out he
     obtain ⟨x,y,rfl⟩:∃ x y,la=[x,y]:=by
      rcases la with _|⟨x,_|⟨y,_|⟨z,l⟩⟩⟩<;>simp at hll
      exact ⟨x,y,rfl⟩
     have HGC:Hid (ev t s c=if (limE x y).e=0 then loopB (fun k=>ev tc ((t.var,whV k)::s)) (addOf t.name) x.num y.num 2001 x.num (zeroOf t.name) c2 else (limE x y,c2)):=by
      show _=_
      rw [HGB.out];unfold limG;rw [if_pos he]
     have HXO:Hid (x.ok∧y.ok):=⟨hlo x (by simp),hlo y (by simp)⟩
     have hoa2:=HOA.out he
     obtain ⟨Al,cll,rfl,_,hcl⟩:=hoa2.1.sv
     obtain ⟨lb,lo,rfl,hce⟩:=hcl (by simp)
     have HC0:Hid (C9 w4 lb lo x):=by have h:=hce 0 (by simp); rw [Nat.zero_mul,Nat.add_zero]at h; exact h
     have HC1:Hid (C9 w4 lb (lo+9) y):=by have h:=hce 1 (by simp); rw [Nat.one_mul]at h; exact h
     have HCI:=hid fun (i:Nat)(h:i<2)=>hce i h
     have HAL:Hid (Aw mb un uv lb):=hoa2.2 lb rfl
     have HLO:Hid (w1.heap.size≤lb):=(World.ownsRow.lt hoa2.1 lb rfl).1
     have HZI:Hid (∀ (i:Nat)(h:i<2),(i=0∧[x,y][i]=x)∨(i=1∧[x,y][i]=y)):=fun i h=>by
      rcases (show i=0∨i=1 by omega)with rfl|rfl
      ·exact .inl ⟨rfl,rfl⟩
      ·exact .inr ⟨rfl,rfl⟩
     clear hlo hll hoa2 hcl hce he HFP HOA HLA HGB HTD;go_upto_region 8 with (fail);go_wp2_with fail;go_loopg [8] 3 (fun gg s8 wr=>∃ i:Nat,i≤2∧2-i<gg∧s8=.int .i64 i∧Aside (0<i→x.dim=zD)∧Aside (1<i→y.dim=zD)∧Aside (Below w4.heap.size w4 wr))
     case atStart=>exact ⟨0,by omega,by omega,rfl,(fun h=>absurd h (by decide)),(fun h=>absurd h (by decide)),Below.refl _ _⟩
     case round=>
      obtain ⟨i,hi,hgg,rfl,HD0,HD1,HBr⟩:=hrel
      by_cases hlt:i<2
      ·have hltz:(i:Int)<2:=by omega
       have hcz:=(HCI.out i hlt).reach HBr.out
       have HZ:=hid (HZI.out i hlt)
       generalize [x,y][i]=z at*;obtain ⟨⟨q0,q1⟩,q2,q3,q4,q5,q6,q7,q8⟩:=hcz
       have HPL:=hid fun wz=>rplain_any z wz
       unfold V.cells at HPL;go_wp2_with fail;refine (HPL.out wr).mono ?_
       rintro r w5 ⟨rfl,hb5⟩
       have HB5:=hid (bl_tr HBr.out hb5)
       clear hb5 q0 q1 q2 q3 q4 q5 q6 q7 q8;by_cases hd:z.dim=zD
       ·rw [decide_eq_true hd]
        have HN0:Hid (0<i+1→x.dim=zD):=fun _=>by
         rcases HZ.out with ⟨h1,h2⟩|⟨h1,h2⟩
         ·rw [← h2]; exact hd
         ·exact HD0.out (by omega)
        have HN1:Hid (1<i+1→y.dim=zD):=fun h=>by
         rcases HZ.out with ⟨h1,h2⟩|⟨h1,h2⟩
         ·omega
         ·rw [← h2]; exact hd
        go_wp2_with fail;go_roundg (2-i)
        case measure=>omega
        case rel=>exact ⟨i+1,by omega,by omega,by go_num,HN0.out,HN1.out,HB5.out⟩
       ·rw [decide_eq_false hd]
        have HEQ2:Hid (ev t s c=(⟨zV,[(i:Int)],16⟩,c2)):=by
         show _=_
         rw [HGC.out];rcases HZ.out with ⟨h1,h2⟩|⟨h1,h2⟩
         ·have:limE x y=⟨zV,[0],16⟩:=by unfold limE; rw [if_neg (by rw [← h2]; exact hd)]
          rw [this,if_neg (show ¬ (16:Int)=0 by decide),h1]; rfl
         ·have:limE x y=⟨zV,[1],16⟩:=by unfold limE; rw [if_pos (HD0.out (by omega)),if_neg (by rw [← h2]; exact hd)]
          rw [this,if_neg (show ¬ (16:Int)=0 by decide),h1]; rfl
        have HM5:=hid (HM4.out.reach HB5.out)
        have HG5:=hid (HG4.out.tr (Gm.bel HB5.out))
        have HK5:=hid (HK4.out.reach HB5.out)
        have hb29:=b1 w5 (.cells #[.int .i64 (i:Int)] 3)
        have hb100:=bl_tr hb29 (b1 _ (.cells #[.int .i64 16,.slice (some ⟨w5.heap.size,0,none⟩) 1 1] 100))
        have HN29:Hid (BI (w5.alloc (.cells #[.int .i64 (i:Int)] 3)) (.slice (some ⟨w5.heap.size,0,none⟩) 1 1) [(i:Int)]):=RI.bi (B:=w5.heap.size) (World.ownsRow_lit w5 #[.int .i64 (i:Int)] 1 (Nat.le_refl _) (by unfold maxLen; omega) rfl)
        have HN100:Hid (FB ((w5.alloc (.cells #[.int .i64 (i:Int)] 3)).alloc (.cells #[.int .i64 16,.slice (some ⟨w5.heap.size,0,none⟩) 1 1] 100)) (w5.heap.size+1) (fun k=>w5.heap.size≤k) 16 [(i:Int)]):=by
         have hh:=heap_alloc_new (w5.alloc (.cells #[.int .i64 (i:Int)] 3)) (.cells #[.int .i64 16,.slice (some ⟨w5.heap.size,0,none⟩) 1 1] 100)
         rw [World.size_alloc]at hh
         refine ⟨⟨_,hh,HN29.out.reach (b1 _ _),fun b o n c hq _=>?_⟩,Nat.le_succ _⟩
         have:=(Value.slice.inj hq).1
         have:=congrArg Addr.block (Option.some.inj this)
         exact Nat.le_of_eq this
        have HM9:=hid (HM5.out.reach hb100)
        have HG9:=hid (HG5.out.tr (Gm.bel hb100))
        have HK9':=hid (HK5.out.reach hb100)
        have HFR:=hid fun (k:Nat)(h:w5.heap.size≤k)=>HM5.out.fresh h
        have HLT:Hid ((w.heap.size+1)<w5.heap.size):=HK5.out.cells.2.2
        clear hb29 hb100;obtain ⟨⟨⟨z0,z1⟩,z2,z3,z4,z5,z6,z7,z8⟩,zf,_⟩:=HK9'.out.cells
        go_wp2_with fail;rw [HEQ2.out];refine bodyPost_ret (v:=.tuple #[.agg zV.cells,.pointer (some ⟨w5.heap.size+1,0,none⟩)]) (by simp [results,Tryz.results93,go_sem,V.cells,zV,zD,z0,z1,z2,z3,z4,z5,z6,z7,z8]) rfl ?_
        exact VOut.fin (g:=(⟨zV,[(i:Int)],16⟩,_)) (Nat.le_succ _) HM9.out HG9.out HAB4.out (.inr ⟨(by show (16:Int)≠0; decide),_,rfl,HN100.out.mono fun k hk=>⟨HFR.out k hk,by have:=HLT.out; omega⟩⟩)
      ·have hltz:¬ (i:Int)<2:=by omega
       have HDX:Hid (x.dim=zD∧y.dim=zD):=⟨HD0.out (by omega),HD1.out (by omega)⟩
       clear HD0 HD1 hlt;rename World=>w5
       have HM5:=hid (HM4.out.reach HBr.out)
       have HG5:=hid (HG4.out.tr (Gm.bel HBr.out))
       have HK5:=hid (HK4.out.reach HBr.out)
       go_upto_region 13 with (fail);go_wp2_with fail;go_loopg [9] 3 (fun gg s9 wr=>∃ i:Nat,i≤2∧2-i<gg∧s9=.int .i64 i∧Aside (0<i→x.den=1)∧Aside (1<i→y.den=1)∧wr=w5)
       case atStart=>exact ⟨0,by omega,by omega,rfl,(fun h=>absurd h (by decide)),(fun h=>absurd h (by decide)),rfl⟩
       case round=>
        obtain ⟨i,hi,hgg,rfl,HD0,HD1,rfl⟩:=hrel
        by_cases hlt:i<2
        ·have hltz:(i:Int)<2:=by omega
         have hcz:=(HCI.out i hlt).reach HBr.out
         have HZ:=hid (HZI.out i hlt)
         generalize [x,y][i]=z at*;obtain ⟨⟨q0,q1⟩,q2,q3,q4,q5,q6,q7,q8⟩:=hcz
         by_cases hd:z.den=1
         ·have hdb:(z.den != 1)=false:=by simp [hd]
          have HN0:Hid (0<i+1→x.den=1):=fun _=>by
           rcases HZ.out with ⟨h1,h2⟩|⟨h1,h2⟩
           ·rw [← h2]; exact hd
           ·exact HD0.out (by omega)
          have HN1:Hid (1<i+1→y.den=1):=fun h=>by
           rcases HZ.out with ⟨h1,h2⟩|⟨h1,h2⟩
           ·omega
           ·rw [← h2]; exact hd
          go_wp2_with fail;go_roundg (2-i)
          case measure=>omega
          case rel=>exact ⟨i+1,by omega,by omega,by go_num,HN0.out,HN1.out,rfl⟩
         ·have hdb:(z.den != 1)=true:=by simpa using hd
          have HEQ2:Hid (ev t s c=(⟨zV,[(i:Int)],17⟩,c2)):=by
           show _=_
           rw [HGC.out];rcases HZ.out with ⟨h1,h2⟩|⟨h1,h2⟩
           ·have:limE x y=⟨zV,[0],17⟩:=by unfold limE; rw [if_pos HDX.out.1,if_pos HDX.out.2,if_neg (by rw [← h2]; exact hd)]
            rw [this,if_neg (show ¬ (17:Int)=0 by decide),h1]; rfl
           ·have:limE x y=⟨zV,[1],17⟩:=by unfold limE; rw [if_pos HDX.out.1,if_pos HDX.out.2,if_pos (HD0.out (by omega)),if_neg (by rw [← h2]; exact hd)]
            rw [this,if_neg (show ¬ (17:Int)=0 by decide),h1]; rfl
          have hb29:=b1 wr (.cells #[.int .i64 (i:Int)] 3)
          have hb100:=bl_tr hb29 (b1 _ (.cells #[.int .i64 17,.slice (some ⟨wr.heap.size,0,none⟩) 1 1] 100))
          have HN29:Hid (BI (wr.alloc (.cells #[.int .i64 (i:Int)] 3)) (.slice (some ⟨wr.heap.size,0,none⟩) 1 1) [(i:Int)]):=RI.bi (B:=wr.heap.size) (World.ownsRow_lit wr #[.int .i64 (i:Int)] 1 (Nat.le_refl _) (by unfold maxLen; omega) rfl)
          have HN100:Hid (FB ((wr.alloc (.cells #[.int .i64 (i:Int)] 3)).alloc (.cells #[.int .i64 17,.slice (some ⟨wr.heap.size,0,none⟩) 1 1] 100)) (wr.heap.size+1) (fun k=>wr.heap.size≤k) 17 [(i:Int)]):=by
           have hh:=heap_alloc_new (wr.alloc (.cells #[.int .i64 (i:Int)] 3)) (.cells #[.int .i64 17,.slice (some ⟨wr.heap.size,0,none⟩) 1 1] 100)
           rw [World.size_alloc]at hh
           refine ⟨⟨_,hh,HN29.out.reach (b1 _ _),fun b o n c hq _=>?_⟩,Nat.le_succ _⟩
           have:=(Value.slice.inj hq).1
           have:=congrArg Addr.block (Option.some.inj this)
           exact Nat.le_of_eq this
          have HM9:=hid (HM5.out.reach hb100)
          have HG9:=hid (HG5.out.tr (Gm.bel hb100))
          have HK9':=hid (HK5.out.reach hb100)
          have HFR:=hid fun (k:Nat)(h:wr.heap.size≤k)=>HM5.out.fresh h
          have HLT:Hid ((w.heap.size+1)<wr.heap.size):=HK5.out.cells.2.2
          clear hb29 hb100;obtain ⟨⟨⟨z0,z1⟩,z2,z3,z4,z5,z6,z7,z8⟩,zf,_⟩:=HK9'.out.cells
          go_wp2_with fail;rw [HEQ2.out];refine bodyPost_ret (v:=.tuple #[.agg zV.cells,.pointer (some ⟨wr.heap.size+1,0,none⟩)]) (by simp [results,Tryz.results93,go_sem,V.cells,zV,zD,z0,z1,z2,z3,z4,z5,z6,z7,z8]) rfl ?_
          exact VOut.fin (g:=(⟨zV,[(i:Int)],17⟩,_)) (Nat.le_succ _) HM9.out HG9.out HAB4.out (.inr ⟨(by show (17:Int)≠0; decide),_,rfl,HN100.out.mono fun k hk=>⟨HFR.out k hk,by have:=HLT.out; omega⟩⟩)
        ·have hltz:¬ (i:Int)<2:=by omega
         have HEQ:Hid (ev t s c=loopB (fun k=>ev tc ((t.var,whV k)::s)) (addOf t.name) x.num y.num 2001 x.num (zeroOf t.name) c2):=by
          show _=_
          rw [HGC.out,lim_ok HDX.out.1 HDX.out.2 (HD0.out (by omega)) (HD1.out (by omega)),if_pos (show (okR zV).e=0 from rfl)]
         clear HD0 HD1 hlt HGC HDX;rename World=>w5
         have HBX:=hid (bl_tr HBr.out (b1 w5 (.cells #[.int .i64 0,.int .i64 1,.int .i64 0,.int .i64 0,.int .i64 0,.int .i64 0,.int .i64 0,.int .i64 0,.int .i64 0] 44)))
         have HLB0:Hid (LB w (w5.alloc (.cells #[.int .i64 0,.int .i64 1,.int .i64 0,.int .i64 0,.int .i64 0,.int .i64 0,.int .i64 0,.int .i64 0,.int .i64 0] 44)) mb B s vn vv (w.heap.size+1) w.heap.size w5.heap.size lb lo t (some ⟨b',o',none⟩) ca x y (whV 0) c2 un uv):=by
          have hb5:=b1 w5 (.cells #[.int .i64 0,.int .i64 1,.int .i64 0,.int .i64 0,.int .i64 0,.int .i64 0,.int .i64 0,.int .i64 0,.int .i64 0] 44)
          have h1:=HLO.out
          have h2:=HSZ.out
          have h3':=HC0.out.lt
          have h4:=HBr.out.size
          have h5:=HS4.out
          refine ⟨HM5.out.reach hb5,HG5.out.tr (Gm.bel hb5),HK5.out.reach hb5,K9.new w5 (whV 0),bxd_block HX4.out (HBX.out.block _ (block_lt_of_cell HX4.out.c0)),HC0.out.reach HBX.out,HC1.out.reach HBX.out,HAB4.out,HM5.out.fresh (Nat.le_refl _),HAX4.out,HAL.out,⟨?_,?_,?_,?_,?_⟩,?_,?_⟩<;>omega
         have HTK:Hid (w.heap.size+2≤w5.heap.size):=by have h4:=HBr.out.size; have h5:=HS4.out; show _≤_; omega
         have HXN:=hid HXO.out.1.num
         have HYN:=hid HXO.out.2.num
         have e1:=HLB0.out.bx.c1
         go_upto_if 79 with (fail)
         generalize w5.alloc (.cells #[.int .i64 0,.int .i64 1,.int .i64 0,.int .i64 0,.int .i64 0,.int .i64 0,.int .i64 0,.int .i64 0,.int .i64 0] 44)=w6 at*;clear HBX;generalize w5.heap.size=tk at*;go_cut [80] (fun _ wx=>Aside (LB w wx mb B s vn vv (w.heap.size+1) w.heap.size tk lb lo t (some ⟨b',o',none⟩) ca x y (zeroOf t.name) c2 un uv))
         case first=>
          obtain ⟨⟨⟨z0,z1⟩,_⟩,zf,_⟩:=HLB0.out.kt.cells
          have zf0:=zf 0
          go_wp2_with fail
          ·rename_i h
           go_meet
           case rel=>
            have hn:t.name=prodW:=by simpa [prodW]using h
            have e:zeroOf t.name=whV 1:=by rw [hn]; rfl
            show LB _ _ _ _ _ _ _ _ _ _ _ _ _ _ _ _ _ _ _ _ _; rw [e]; exact HLB0.out.num 1
          ·rename_i h
           go_meet
           case rel=>
            have hn:t.name=sumW:=by
             rcases HNM.out with h'|h'
             ·exact h'
             ·exact absurd h' (by simpa [prodW]using h)
            have e:zeroOf t.name=whV 0:=by rw [hn]; rfl
            show LB _ _ _ _ _ _ _ _ _ _ _ _ _ _ _ _ _ _ _ _ _; rw [e]; exact HLB0.out
         case rest=>
          have HL0:=hid hcut
          clear hcut HLB0 e1;rename World=>w7
          obtain ⟨⟨q0,_⟩,_⟩:=HL0.out.lx
          go_upto_region 21 with (fail);go_wp2_with fail;clear q0;go_loopg [11,12,13] 2002 (fun gg s11 _ _ wr=>∃ (k:Int)(v:V)(ci f:Nat)(un uv:Value),f≤gg∧s11=.int .i64 k∧Aside (ev t s c=loopB (fun k=>ev tc ((t.var,whV k)::s)) (addOf t.name) x.num y.num f k v ci)∧Aside (2001≤f+ci)∧Aside (ci≤2000)∧Aside (x.num≤k∧k≤2147483648)∧Aside (v.ok)∧Aside (LB w wr mb B s vn vv (w.heap.size+1) w.heap.size tk lb lo t (some ⟨b',o',none⟩) ca x y v ci un uv))
          case atStart=>exact ⟨x.num,zeroOf t.name,c2,2001,un,uv,by omega,rfl,HEQ.out,Nat.le_add_right _ _,HMN.out,⟨Int.le_refl _,by have:=HXN.out; omega⟩,zeroOf_ok t.name,HL0.out⟩
          case round=>
           clear HL0 HEQ HM5 HG5 HK5 HX4 HC0 HC1 HAL HAX4 HAB4 HM4 HG4 HK4;obtain ⟨k,v,ci,f,un,uv,hf,rfl,HEQ,HFC,HCI,HKB,HVO,HLR⟩:=hrel
           obtain ⟨f,rfl⟩:∃ f',f=f'+1:=⟨f-1,by have:=HFC.out; have:=HCI.out; omega⟩
           obtain ⟨⟨q0,_⟩,_⟩:=HLR.out.ly
           by_cases hkt:k≤y.num
           ·obtain ⟨_,_,e2,ef,_⟩:=HLR.out.ms.cells
            have ef2:=ef 2
            by_cases hcl:ci=2000
            ·have HEQ2:Hid (ev t s c=(erR 6,ci)):=HEQ.out.trans (loopB_full _ _ _ _ _ _ _ _ hkt (by omega))
             have hczb:(2000-(ci:Int) == 0)=true:=by rw [beq_iff_eq]; omega
             clear hcl;go_wp2_with fail;refine (fail_any 6 wr).mono ?_
             rintro r' wf ⟨fb,rfl,hfb,hbf⟩
             have HLF:=hid (HLR.out.reach hbf)
             have HF2:=hid hfb
             have HLT:Hid ((w.heap.size+1)<wr.heap.size):=HLR.out.kr.cells.2.2
             have HFR:=hid fun (k:Nat)(h:wr.heap.size≤k)=>HLR.out.ms.fresh h
             obtain ⟨⟨⟨y0,y1⟩,y2,y3,y4,y5,y6,y7,y8⟩,yf,_⟩:=HLF.out.kr.cells
             clear hfb hbf;go_wp2_with fail;rw [HEQ2.out];refine bodyPost_ret (v:=.tuple #[.agg (erR 6).v.cells,.pointer (some ⟨fb,0,none⟩)]) (by simp [results,Tryz.results93,go_sem,erR,V.cells,zV,zD,y0,y1,y2,y3,y4,y5,y6,y7,y8]) rfl ?_
             exact VOut.fin2 (g:=(erR 6,_)) HLF.out (HF2.out.fp (by decide) HFR.out HLT.out)
            ·have hci:ci<2000:=by have:=HCI.out; omega
             have hczb:(2000-(ci:Int) == 0)=false:=by rw [beq_eq_false_iff_ne]; omega
             have hwr:IntKind.i64.wrap (2000-(ci:Int)-1)=2000-((ci:Int)+1):=by rw [wrap64_small (by omega) (by omega)]; omega
             obtain ⟨g,hg⟩:∃ g,ev tc ((t.var,whV k)::s) (ci+1)=g:=⟨_,rfl⟩
             obtain ⟨r2,c3⟩:=g
             have HRE:=hid (HEQ.out.trans (loopB_succ _ _ _ _ _ _ _ _ hkt (by omega) r2 c3 hg))
             have HFC0:=hid HFC.out
             have HKQ:Hid (-2147483647≤k∧k≤2147483647):=by
              have h1:=HXN.out
              have h2:=HYN.out
              have h3:=HKB.out
              show _∧_
              omega
             have HSO:Hid (Sc.ok ((t.var,whV k)::s)):=fun q hq=>by
              rcases List.mem_cons.1 hq with rfl|hq
              ·exact wh_ok HKQ.out
              ·exact HOK.out q hq
             have HTC:=HZ3.out tc (by simp)
             have HRO:Hid (r2.e=0→r2.v.ok):=fun h0=>by
              have:=ev_ok N tc HTC.1 _ HSO.out (ci+1)
              rw [hg]at this
              exact this h0
             have HC3:Hid (ci+1≤c3∧c3≤2000):=by
              have:=ev_mon N tc HTC.1 ((t.var,whV k)::s) (ci+1)
              rw [hg]at this
              exact ⟨this.1,this.2 hci⟩
             have HPL:Hid (r2.path.length≤2000):=by
              have:=ev_path N tc HTC.1 ((t.var,whV k)::s) (ci+1)
              rw [hg]at this
              exact Nat.le_trans this hN
             have HTY:Hid (Tidy r2):=by
              have:=ev_tidy N tc HTC.1 ((t.var,whV k)::s) (ci+1)
              rw [hg]at this
              exact this
             have HIV:Hid (∀ (wz:World)(un uv:Value)(A1:Option Addr) (c1:Nat),TV wz B tc A1 c1→MS wz mb B ((t.var,whV k)::s) (ci+1) un uv→Calls Tryz.prog 47 #[.pointer (some ⟨mb,0,none⟩),.agg (tv tc A1 c1)] wz fun e w'=>VOut2 wz w' mb B ((t.var,whV k)::s) un uv (r2,c3) e):=fun wz un uv A1 c1 h1 h2=>by
              have h:=HIH.out tc HTC.1 HTC.2 ((t.var,whV k)::s) A1 c1 (ci+1) wz un uv hci HSO.out (by have h1:=HSS.out; have h2:=HTC.1; rw [List.length_cons]; omega) h1 h2
              rw [hg]at h
              exact h
             have HLA:Hid (LB w (wr.setCell ⟨mb,2,none⟩ (.int .i64 (2000-((ci:Int)+1)))) mb B s vn vv (w.heap.size+1) w.heap.size tk lb lo t (some ⟨b',o',none⟩) ca x y v (ci+1) un uv):=by
              have h:=HLR.out.step (Gm.store mb 2 _) (HLR.out.ms.count (ci+1))
              have e:((ci+1:Nat):Int)=(ci:Int)+1:=by omega
              rw [e]at h
              exact h
             clear hg HSO HTC HEQ;go_upto_region 27 with (fail);clear e2 ef ef2 hczb hcl q0 HLR;generalize wr.setCell ⟨mb,2,none⟩ (.int .i64 (2000-((ci:Int)+1)))=wA at*;go_cut [108,109,110,111,112,113,114,115,116,117,118,119,120,121,122,123,124,125,126,127,128,129] (fun _ _ _ _ _ _ _ _ _ _ _ _ _ _ _ _ _ _ _ _ _ _ wx=>∃ un' uv',Aside (LB w wx mb B ((t.var,whV k)::s) vn vv (w.heap.size+1) w.heap.size tk lb lo t (some ⟨b',o',none⟩) ca x y v (ci+1) un' uv'))
             case first=>
              obtain ⟨i0,hi0,hz0,hz1,hz2⟩:=info_parts str_info
              obtain ⟨i1,hi1,hy0,hy1,hy2⟩:=info_parts val_info
              obtain ⟨ln,hln⟩:∃ ln,ln=(s.map (·.1)).reverse:=⟨_,rfl⟩
              obtain ⟨lv,hlv⟩:∃ lv,lv=(s.map (·.2)).reverse:=⟨_,rfl⟩
              have HG0:Hid (MQ wA wA.drew mb B un uv un uv un uv ln lv (ci+1)):=by rw [hln,hlv]; exact (MS.start HLA.out.ms).drew
              have HLN:Hid (ln.length≤5000∧lv.length≤5000):=by
               have h1:=HSS.out
               refine ⟨?_,?_⟩
               ·rw [hln,List.length_reverse,List.length_map]; omega
               ·rw [hlv,List.length_reverse,List.length_map]; omega
              have HE1:Hid (ln++[t.var]=(List.map (·.1) ((t.var,whV k)::s)).reverse):=by show _=_; rw [hln,List.map_cons,List.reverse_cons]
              have HE2:Hid (lv++[whV k]=(List.map (·.2) ((t.var,whV k)::s)).reverse):=by show _=_; rw [hlv,List.map_cons,List.reverse_cons]
              have HSK:Hid (∀ (wz:World)(a0 a1:Value)(l1:List W8)(l2:List V),MQ wA wz mb B un uv un uv a0 a1 l1 l2 (ci+1)→(fun w'=>w'.cell? ⟨mb,0,none⟩=some un∧w'.cell? ⟨mb,1,none⟩=some uv∧w'.cell? ⟨w.heap.size,2,none⟩=some (.string ⟨t.var.toArray⟩)) wz):=fun wz a0 a1 l1 l2 h=>⟨h.cells.1,h.cells.2.1,h.g.cell HLA.out.bx.c2 HLA.out.ax⟩
              have hS0:=HSK.out _ _ _ _ _ HG0.out
              clear hln hlv;refine wp_region_noPanic ?_
              refine region_abs fun a0 ha0=>?_
              have hsz0:a0.tmps.size=201:=by rw [ha0]; rfl
              have hs0:a0.tmps[0]'(by rw [hsz0]; decide)=.pointer (some ⟨mb,0,none⟩):=by subst ha0; rfl
              have hs3:a0.tmps[3]'(by rw [hsz0]; decide)=.pointer (some ⟨w.heap.size,0,none⟩):=by subst ha0; rfl
              have hs11:a0.tmps[11]'(by rw [hsz0]; decide)=.int .i64 k:=by subst ha0; rfl
              have HA0:=hid ha0
              clear ha0;refine wp_region_J 20 (fun w'=>w'.cell? ⟨mb,0,none⟩=some un∧w'.cell? ⟨mb,1,none⟩=some uv∧w'.cell? ⟨w.heap.size,2,none⟩=some (.string ⟨t.var.toArray⟩)) (by kernel_rfl) ?_
              simp only [List.size_toArray,List.length_cons,List.length_nil,Nat.zero_add,Nat.reduceAdd];refine wpAnyJ_free (i:=0) (v:=?vf0) rfl (by kernel_rfl) (by kernel_rfl) (by kernel_rfl) (by kernel_rfl) (fun _ _ _ h=>h) (Or.inl ⟨by rfl,?hf0⟩) hS0 ?rf0
              case hf0=>(intro w' _; go_simp; all_goals with_reducible rfl)
              try dsimp only [Act.put]
              refine wpAnyJ_free (i:=1) (v:=?vf1) rfl (by kernel_rfl) (by kernel_rfl) (by kernel_rfl) (by kernel_rfl) (fun _ _ _ h=>h) (Or.inl ⟨by rfl,?hf1⟩) hS0 ?rf1
              case hf1=>(intro w' _; go_simp; all_goals with_reducible rfl)
              try dsimp only [Act.put]
              refine wpAnyJ_free (i:=2) (v:=?vf2) rfl (by kernel_rfl) (by kernel_rfl) (by kernel_rfl) (by kernel_rfl) (fun _ _ _ h=>h) (Or.inl ⟨by rfl,?hf2⟩) hS0 ?rf2
              case hf2=>(intro w' _; go_simp; all_goals with_reducible rfl)
              try dsimp only [Act.put]
              refine wpAnyJ_free (i:=3) (v:=?vf3) rfl (by kernel_rfl) (by kernel_rfl) (by kernel_rfl) (by kernel_rfl) (fun _ _ _ h=>h) (Or.inl ⟨by rfl,?hf3⟩) hS0 ?rf3
              case hf3=>(intro w' _; go_simp; all_goals with_reducible rfl)
              try dsimp only [Act.put]
              refine wpAnyJ_free (i:=4) (v:=?vf4) rfl (by kernel_rfl) (by kernel_rfl) (by kernel_rfl) (by kernel_rfl) (fun _ _ _ h=>h) (Or.inl ⟨by rfl,?hf4⟩) hS0 ?rf4
              case hf4=>(intro w' _; go_simp; all_goals with_reducible rfl)
              try dsimp only [Act.put]
              refine wpAnyJ_take (i:=5) (v:=?vf5) [20] rfl (by kernel_rfl) (by kernel_rfl) (by kernel_rfl) (by kernel_rfl) (by kernel_rfl) (by kernel_rfl) (by kernel_rfl) (fun _ _ _ h=>h) (Or.inl ⟨by rfl,?hf5⟩) hS0 ?rf5
              case hf5=>(intro w' hSw; (try dsimp only at hSw); go_simp; all_goals with_reducible rfl)
              try dsimp only [Act.put]
              refine wpAnyJ_free (i:=6) (v:=?vf6) rfl (by kernel_rfl) (by kernel_rfl) (by kernel_rfl) (by kernel_rfl) (fun _ _ _ h=>h) (Or.inl ⟨by rfl,?hf6⟩) hS0 ?rf6
              case hf6=>(intro w' _; go_simp; all_goals with_reducible rfl)
              try dsimp only [Act.put]
              refine wpAnyJ_take (i:=7) (v:=?vf7) [20] rfl (by kernel_rfl) (by kernel_rfl) (by kernel_rfl) (by kernel_rfl) (by kernel_rfl) (by kernel_rfl) (by kernel_rfl) (fun _ _ _ h=>h) (Or.inl ⟨by rfl,?hf7⟩) hS0 ?rf7
              case hf7=>(intro w' hSw; (try dsimp only at hSw); go_simp; all_goals with_reducible rfl)
              try dsimp only [Act.put]
              refine wpAnyJ_free (i:=10) (v:=?vf10) rfl (by kernel_rfl) (by kernel_rfl) (by kernel_rfl) (by kernel_rfl) (fun _ _ _ h=>h) (Or.inl ⟨by rfl,?hf10⟩) hS0 ?rf10
              case hf10=>(intro w' _; go_simp; all_goals with_reducible rfl)
              try dsimp only [Act.put]
              refine wpAnyJ_free (i:=11) (v:=?vf11) rfl (by kernel_rfl) (by kernel_rfl) (by kernel_rfl) (by kernel_rfl) (fun _ _ _ h=>h) (Or.inl ⟨by rfl,?hf11⟩) hS0 ?rf11
              case hf11=>(intro w' _; go_simp; all_goals with_reducible rfl)
              try dsimp only [Act.put]
              refine wpAnyJ_free (i:=12) (v:=?vf12) rfl (by kernel_rfl) (by kernel_rfl) (by kernel_rfl) (by kernel_rfl) (fun _ _ _ h=>h) (Or.inl ⟨by rfl,?hf12⟩) hS0 ?rf12
              case hf12=>(intro w' _; go_simp; all_goals with_reducible rfl)
              try dsimp only [Act.put]
              refine wpAnyJ_take (i:=13) (v:=?vf13) [20] rfl (by kernel_rfl) (by kernel_rfl) (by kernel_rfl) (by kernel_rfl) (by kernel_rfl) (by kernel_rfl) (by kernel_rfl) (fun _ _ _ h=>h) (Or.inl ⟨by rfl,?hf13⟩) hS0 ?rf13
              case hf13=>(intro w' hSw; (try dsimp only at hSw); go_simp; all_goals with_reducible rfl)
              try dsimp only [Act.put]
              refine wpAnyJ_free (i:=14) (v:=?vf14) rfl (by kernel_rfl) (by kernel_rfl) (by kernel_rfl) (by kernel_rfl) (fun _ _ _ h=>h) (Or.inl ⟨by rfl,?hf14⟩) hS0 ?rf14
              case hf14=>(intro w' _; go_simp; all_goals with_reducible rfl)
              try dsimp only [Act.put]
              refine wpAnyJ_free (i:=15) (v:=?vf15) rfl (by kernel_rfl) (by kernel_rfl) (by kernel_rfl) (by kernel_rfl) (fun _ _ _ h=>h) (Or.inl ⟨by rfl,?hf15⟩) hS0 ?rf15
              case hf15=>(intro w' _; go_simp; all_goals with_reducible rfl)
              try dsimp only [Act.put]
              clear hS0;refine wpAnyJ_two (i:=8) (j:=16) (by kernel_rfl) rfl rfl ?_ ?_
              ·skip
               intro K hK;go_simp
               have HG1:=hid (HG0.out.alloc (.cells #[.string ⟨t.var.toArray⟩] 9))
               have hpn:=HG0.out.pd #[.string ⟨t.var.toArray⟩] 9
               have HP8:=hid hpn
               clear hpn;refine hK.out _ _ (fun _=>HSK.out _ _ _ _ _ HG1.out) ?_
               clear hK K;refine wpAnyJ_two (i:=9) (j:=16) (by kernel_rfl) rfl rfl ?_ ?_
               ·skip
                intro K hK;refine step_append_lies _ rfl _ _ 25 rfl B 9 i0 _ 1 16 Tryz.underlying25 hi0 hz0 hz1 hz2 rfl (by decide) un ln.length (ln.map encS) (by simp [Act.eval,hsz0]) HG1.out.hn ⟨wA.heap.size,0,none⟩ 1 1 [.string ⟨t.var.toArray⟩] (by simp [Act.eval,hsz0]) rfl HP8.out.news (fun u hu=>by simp at hu; subst hu; rfl) (by decide) (by have:=HLN.out.1; unfold maxLen; omega) (by have:=HLN.out.1; omega) HG1.out.bLe _ rfl ?_
                intro g7 cap7 wa hrow hgr hat hlt;have HG2:=hid (HG1.out.names (rl_row hrow) hgr hat)
                refine hK.out _ _ (fun _=>HSK.out _ _ _ _ _ HG2.out) ?_
                clear hK K hrow hgr hat hlt;refine wpAnyJ_one (i:=16) (by kernel_rfl) rfl ?_
                intro K hK;go_simp
                have HG3:=hid (HG2.out.alloc (.cells (whV k).cells 44))
                have hpn:=HG2.out.pd (whV k).cells 44
                have HP16:=hid hpn
                clear hpn;refine hK.out _ _ (fun _=>HSK.out _ _ _ _ _ HG3.out) ?_
                clear hK K;refine wpAnyJ_one (i:=17) (by kernel_rfl) rfl ?_
                intro K hK;refine step_append_lies _ rfl _ _ 26 rfl B 44 i1 _ 9 72 Tryz.underlying26 hi1 hy0 hy1 hy2 rfl (by decide) uv lv.length (valC lv) (by simp [Act.eval,hsz0]) HG3.out.hv ⟨wa.heap.size,0,none⟩ 1 1 (whV k).cells.toList (by simp [Act.eval,hsz0]) rfl HP16.out.newv (val_one (whV k)) (by decide) (by have:=HLN.out.2; unfold maxLen; omega) (by have:=HLN.out.2; omega) HG3.out.bLe _ rfl ?_
                intro g8 cap8 wb hrow hgr hat hlt;have HG4:=hid (HG3.out.values (ov_row hrow) hgr hat)
                refine hK.out _ _ (fun _=>HSK.out _ _ _ _ _ HG4.out) ?_
                clear hK K hrow hgr hat hlt HP8 HP16;refine wpAnyJ_one (i:=18) (by kernel_rfl) rfl ?_
                intro K hK;go_simp
                refine hK.out _ _ (fun _=>HSK.out _ _ _ _ _ HG4.out) ?_
                clear hK K;refine wpAnyJ_one (i:=19) (by kernel_rfl) rfl ?_
                intro K hK;go_simp
                refine hK.out _ _ (fun _=>HSK.out _ _ _ _ _ HG4.out) ?_
                clear hK K;refine wpAnyJ_one (i:=20) (by kernel_rfl) rfl ?_
                intro K hK;have hc:=HG4.out.cells
                have e0:=hc.1
                have e1:=hc.2.1
                have ef0:=hc.2.2 0
                have ef1:=hc.2.2 1
                go_simp
                have HH2:=hid (HG4.out.set0 (.slice (some ⟨g7,0,none⟩) (ln.length+1) cap7))
                refine hK.out _ _ (fun h=>absurd h (by decide)) ?_
                clear hK K e0 e1 hc ef0 ef1;refine wpAnyJ_one (i:=21) (by kernel_rfl) rfl ?_
                intro K hK;go_simp
                refine hK.out _ _ (fun h=>absurd h (by decide)) ?_
                clear hK K;refine wpAnyJ_one (i:=22) (by kernel_rfl) rfl ?_
                intro K hK;go_simp
                refine hK.out _ _ (fun h=>absurd h (by decide)) ?_
                clear hK K;refine wpAnyJ_one (i:=23) (by kernel_rfl) rfl ?_
                intro K hK;have hc:=HH2.out.cells
                have e0:=hc.1
                have e1:=hc.2.1
                have ef0:=hc.2.2 0
                have ef1:=hc.2.2 1
                go_simp
                have HH3:=hid (HH2.out.set1 (.slice (some ⟨g8,0,none⟩) (lv.length+1) cap8))
                refine hK.out _ _ (fun h=>absurd h (by decide)) ?_
                clear hK K e0 e1 hc ef0 ef1;refine wpAnyJ_done (by kernel_rfl) ?_
                refine NoPanic.normal ?_
                obtain rfl:=HA0.out
                clear HA0 hsz0 hs0 hs3 hs11;simp only [List.setIfInBounds_toArray,List.set_cons_succ,List.set_cons_zero];go_wp2_with fail;go_meet
                case rel=>exact ⟨_,_,HLA.out.step HH3.out.g (HH3.out.ms HE1.out HE2.out)⟩
               ·skip
                intro K hK;go_simp
                have HG2:=hid (HG1.out.alloc (.cells (whV k).cells 44))
                have hpn:=HG1.out.pd (whV k).cells 44
                rw [World.size_alloc]at hpn
                have HP16:=hid hpn
                clear hpn;have HP8:=hid (HP8.out.alloc (.cells (whV k).cells 44))
                refine hK.out _ _ (fun _=>HSK.out _ _ _ _ _ HG2.out) ?_
                clear hK K;refine wpAnyJ_one (i:=9) (by kernel_rfl) rfl ?_
                intro K hK;refine step_append_lies _ rfl _ _ 25 rfl B 9 i0 _ 1 16 Tryz.underlying25 hi0 hz0 hz1 hz2 rfl (by decide) un ln.length (ln.map encS) (by simp [Act.eval,hsz0]) HG2.out.hn ⟨wA.heap.size,0,none⟩ 1 1 [.string ⟨t.var.toArray⟩] (by simp [Act.eval,hsz0]) rfl HP8.out.news (fun u hu=>by simp at hu; subst hu; rfl) (by decide) (by have:=HLN.out.1; unfold maxLen; omega) (by have:=HLN.out.1; omega) HG2.out.bLe _ rfl ?_
                intro g7 cap7 wa hrow hgr hat hlt;have HG3:=hid (HG2.out.names (rl_row hrow) hgr hat)
                have HP16:=hid (HP16.out.names (n:=ln.length+1) (c:=cap7) hgr hat)
                refine hK.out _ _ (fun _=>HSK.out _ _ _ _ _ HG3.out) ?_
                clear hK K hrow hgr hat hlt;refine wpAnyJ_one (i:=17) (by kernel_rfl) rfl ?_
                intro K hK;refine step_append_lies _ rfl _ _ 26 rfl B 44 i1 _ 9 72 Tryz.underlying26 hi1 hy0 hy1 hy2 rfl (by decide) uv lv.length (valC lv) (by simp [Act.eval,Act.put,hsz0]) HG3.out.hv ⟨wA.heap.size+1,0,none⟩ 1 1 (whV k).cells.toList (by simp [Act.eval,Act.put,hsz0]) rfl HP16.out.newv (val_one (whV k)) (by decide) (by have:=HLN.out.2; unfold maxLen; omega) (by have:=HLN.out.2; omega) HG3.out.bLe _ rfl ?_
                intro g8 cap8 wb hrow hgr hat hlt;have HG4:=hid (HG3.out.values (ov_row hrow) hgr hat)
                refine hK.out _ _ (fun _=>HSK.out _ _ _ _ _ HG4.out) ?_
                clear hK K hrow hgr hat hlt HP8 HP16;refine wpAnyJ_one (i:=18) (by kernel_rfl) rfl ?_
                intro K hK;go_simp
                refine hK.out _ _ (fun _=>HSK.out _ _ _ _ _ HG4.out) ?_
                clear hK K;refine wpAnyJ_one (i:=19) (by kernel_rfl) rfl ?_
                intro K hK;go_simp
                refine hK.out _ _ (fun _=>HSK.out _ _ _ _ _ HG4.out) ?_
                clear hK K;refine wpAnyJ_one (i:=20) (by kernel_rfl) rfl ?_
                intro K hK;have hc:=HG4.out.cells
                have e0:=hc.1
                have e1:=hc.2.1
                have ef0:=hc.2.2 0
                have ef1:=hc.2.2 1
                go_simp
                have HH2:=hid (HG4.out.set0 (.slice (some ⟨g7,0,none⟩) (ln.length+1) cap7))
                refine hK.out _ _ (fun h=>absurd h (by decide)) ?_
                clear hK K e0 e1 hc ef0 ef1;refine wpAnyJ_one (i:=21) (by kernel_rfl) rfl ?_
                intro K hK;go_simp
                refine hK.out _ _ (fun h=>absurd h (by decide)) ?_
                clear hK K;refine wpAnyJ_one (i:=22) (by kernel_rfl) rfl ?_
                intro K hK;go_simp
                refine hK.out _ _ (fun h=>absurd h (by decide)) ?_
                clear hK K;refine wpAnyJ_one (i:=23) (by kernel_rfl) rfl ?_
                intro K hK;have hc:=HH2.out.cells
                have e0:=hc.1
                have e1:=hc.2.1
                have ef0:=hc.2.2 0
                have ef1:=hc.2.2 1
                go_simp
                have HH3:=hid (HH2.out.set1 (.slice (some ⟨g8,0,none⟩) (lv.length+1) cap8))
                refine hK.out _ _ (fun h=>absurd h (by decide)) ?_
                clear hK K e0 e1 hc ef0 ef1;refine wpAnyJ_done (by kernel_rfl) ?_
                refine NoPanic.normal ?_
                obtain rfl:=HA0.out
                clear HA0 hsz0 hs0 hs3 hs11;simp only [List.setIfInBounds_toArray,List.set_cons_succ,List.set_cons_zero];go_wp2_with fail;go_meet
                case rel=>exact ⟨_,_,HLA.out.step HH3.out.g (HH3.out.ms HE1.out HE2.out)⟩
              ·skip
               intro K hK;go_simp
               have HG1:=hid (HG0.out.alloc (.cells (whV k).cells 44))
               have hpn:=HG0.out.pd (whV k).cells 44
               have HP16:=hid hpn
               clear hpn;refine hK.out _ _ (fun _=>HSK.out _ _ _ _ _ HG1.out) ?_
               clear hK K;refine wpAnyJ_one (i:=8) (by kernel_rfl) rfl ?_
               intro K hK;go_simp
               have HG2:=hid (HG1.out.alloc (.cells #[.string ⟨t.var.toArray⟩] 9))
               have hpn:=HG1.out.pd #[.string ⟨t.var.toArray⟩] 9
               rw [World.size_alloc]at hpn
               have HP8:=hid hpn
               clear hpn;have HP16:=hid (HP16.out.alloc (.cells #[.string ⟨t.var.toArray⟩] 9))
               refine hK.out _ _ (fun _=>HSK.out _ _ _ _ _ HG2.out) ?_
               clear hK K;refine wpAnyJ_one (i:=9) (by kernel_rfl) rfl ?_
               intro K hK;refine step_append_lies _ rfl _ _ 25 rfl B 9 i0 _ 1 16 Tryz.underlying25 hi0 hz0 hz1 hz2 rfl (by decide) un ln.length (ln.map encS) (by simp [Act.eval,hsz0]) HG2.out.hn ⟨wA.heap.size+1,0,none⟩ 1 1 [.string ⟨t.var.toArray⟩] (by simp [Act.eval,hsz0]) rfl HP8.out.news (fun u hu=>by simp at hu; subst hu; rfl) (by decide) (by have:=HLN.out.1; unfold maxLen; omega) (by have:=HLN.out.1; omega) HG2.out.bLe _ rfl ?_
               intro g7 cap7 wa hrow hgr hat hlt;have HG3:=hid (HG2.out.names (rl_row hrow) hgr hat)
               have HP16:=hid (HP16.out.names (n:=ln.length+1) (c:=cap7) hgr hat)
               refine hK.out _ _ (fun _=>HSK.out _ _ _ _ _ HG3.out) ?_
               clear hK K hrow hgr hat hlt;refine wpAnyJ_one (i:=17) (by kernel_rfl) rfl ?_
               intro K hK;refine step_append_lies _ rfl _ _ 26 rfl B 44 i1 _ 9 72 Tryz.underlying26 hi1 hy0 hy1 hy2 rfl (by decide) uv lv.length (valC lv) (by simp [Act.eval,Act.put,hsz0]) HG3.out.hv ⟨wA.heap.size,0,none⟩ 1 1 (whV k).cells.toList (by simp [Act.eval,Act.put,hsz0]) rfl HP16.out.newv (val_one (whV k)) (by decide) (by have:=HLN.out.2; unfold maxLen; omega) (by have:=HLN.out.2; omega) HG3.out.bLe _ rfl ?_
               intro g8 cap8 wb hrow hgr hat hlt;have HG4:=hid (HG3.out.values (ov_row hrow) hgr hat)
               refine hK.out _ _ (fun _=>HSK.out _ _ _ _ _ HG4.out) ?_
               clear hK K hrow hgr hat hlt HP8 HP16;refine wpAnyJ_one (i:=18) (by kernel_rfl) rfl ?_
               intro K hK;go_simp
               refine hK.out _ _ (fun _=>HSK.out _ _ _ _ _ HG4.out) ?_
               clear hK K;refine wpAnyJ_one (i:=19) (by kernel_rfl) rfl ?_
               intro K hK;go_simp
               refine hK.out _ _ (fun _=>HSK.out _ _ _ _ _ HG4.out) ?_
               clear hK K;refine wpAnyJ_one (i:=20) (by kernel_rfl) rfl ?_
               intro K hK;have hc:=HG4.out.cells
               have e0:=hc.1
               have e1:=hc.2.1
               have ef0:=hc.2.2 0
               have ef1:=hc.2.2 1
               go_simp
               have HH2:=hid (HG4.out.set0 (.slice (some ⟨g7,0,none⟩) (ln.length+1) cap7))
               refine hK.out _ _ (fun h=>absurd h (by decide)) ?_
               clear hK K e0 e1 hc ef0 ef1;refine wpAnyJ_one (i:=21) (by kernel_rfl) rfl ?_
               intro K hK;go_simp
               refine hK.out _ _ (fun h=>absurd h (by decide)) ?_
               clear hK K;refine wpAnyJ_one (i:=22) (by kernel_rfl) rfl ?_
               intro K hK;go_simp
               refine hK.out _ _ (fun h=>absurd h (by decide)) ?_
               clear hK K;refine wpAnyJ_one (i:=23) (by kernel_rfl) rfl ?_
               intro K hK;have hc:=HH2.out.cells
               have e0:=hc.1
               have e1:=hc.2.1
               have ef0:=hc.2.2 0
               have ef1:=hc.2.2 1
               go_simp
               have HH3:=hid (HH2.out.set1 (.slice (some ⟨g8,0,none⟩) (lv.length+1) cap8))
               refine hK.out _ _ (fun h=>absurd h (by decide)) ?_
               clear hK K e0 e1 hc ef0 ef1;refine wpAnyJ_done (by kernel_rfl) ?_
               refine NoPanic.normal ?_
               obtain rfl:=HA0.out
               clear HA0 hsz0 hs0 hs3 hs11;simp only [List.setIfInBounds_toArray,List.set_cons_succ,List.set_cons_zero];go_wp2_with fail;go_meet
               case rel=>exact ⟨_,_,HLA.out.step HH3.out.g (HH3.out.ms HE1.out HE2.out)⟩
             case rest=>
              obtain ⟨un',uv',HLC⟩:=hcut
              rename World=>wB
              clear HLA;have HBB:Hid (Below B w wB):=⟨HLC.out.gm.os,HLC.out.gm.tape,HLC.out.gm.output,HLC.out.gm.size,fun k hk=>(HLC.out.gm.block k (Nat.lt_of_lt_of_le hk HBL.out) (HM.out.low hk)).1⟩
              have htr:TR wB B b' (o'+10) tc:=by
               have h1:=(TRs.below HTS.out HBB.out).at_ 2 tc rfl
               simpa using h1
              obtain ⟨A1,c1,htv,d0,d1,d2,d3,d4⟩:=htr.load
              have HT:=hid (HIV.out wB un' uv' A1 c1 htv HLC.out.ms)
              unfold tv VOut2 at HT;unfold V.cells at HT
              (try dsimp only at HT)
              have k3:=HLC.out.bx.c3
              rw [h3]at k3
              clear htr htv;go_wp2_with fail;refine HT.out.mono ?_
              rintro e w8 ⟨q,un2,uv2,rfl,hfp,hms8,hgm8⟩
              (try dsimp only at hfp hms8)
              have hb9:=b1 w8 (.cells #[.int .i64 r2.v.num,.int .i64 r2.v.den,.int .i64 r2.v.dim.a,.int .i64 r2.v.dim.b,.int .i64 r2.v.dim.c,.int .i64 r2.v.dim.d,.int .i64 r2.v.dim.e,.int .i64 r2.v.dim.f,.int .i64 r2.v.dim.g] 44)
              have HLD:=hid (HLC.out.step (hgm8.tr (Gm.bel hb9)) (hms8.reach hb9))
              have HK12:Hid (K9 (w8.alloc (.cells #[.int .i64 r2.v.num,.int .i64 r2.v.den,.int .i64 r2.v.dim.a,.int .i64 r2.v.dim.b,.int .i64 r2.v.dim.c,.int .i64 r2.v.dim.d,.int .i64 r2.v.dim.e,.int .i64 r2.v.dim.f,.int .i64 r2.v.dim.g] 44)) w8.heap.size r2.v):=K9.new w8 r2.v
              have HA12:Hid (Aw mb un2 uv2 w8.heap.size):=hms8.fresh (Nat.le_refl _)
              have HFP:=hid (FP.reach hfp hb9)
              have HTB:Hid (tk<w8.heap.size):=Nat.lt_of_lt_of_le HLC.out.kt.cells.2.2 hgm8.size
              have HTC:Hid ((w.heap.size+1)<wB.heap.size):=HLC.out.kr.cells.2.2
              clear hfp hms8 hgm8 hb9 d0 d1 d2 d3 d4 k3 HT HIV HLC;go_upto_region 29 with (fail);generalize w8.alloc (.cells #[.int .i64 r2.v.num,.int .i64 r2.v.den,.int .i64 r2.v.dim.a,.int .i64 r2.v.dim.b,.int .i64 r2.v.dim.c,.int .i64 r2.v.dim.d,.int .i64 r2.v.dim.e,.int .i64 r2.v.dim.f,.int .i64 r2.v.dim.g] 44)=w9 at*;generalize w8.heap.size=m9 at*;obtain ⟨An,cn,hvn,⟨hn1,hn2⟩,_⟩:=HLD.out.ms.hn.sl
              obtain ⟨Av,cv,hvv,⟨hv1,hv2⟩,_⟩:=HLD.out.ms.hv.sv
              rw [List.length_reverse,List.length_map,List.length_cons]at hvn hn1 hvv hv1
              obtain ⟨n1,hnn⟩:∃ n1:Nat,n1=s.length+1:=⟨_,rfl⟩
              rw [← hnn]at hvn hn1 hvv hv1
              subst hvn;subst hvv;obtain ⟨ln,hln⟩:∃ ln,ln=(s.map (·.1)).reverse:=⟨_,rfl⟩
              obtain ⟨lv,hlv⟩:∃ lv,lv=(s.map (·.2)).reverse:=⟨_,rfl⟩
              have HG1:Hid (MQ w9 w9.drew mb B (.slice An n1 cn) (.slice Av n1 cv) (.slice An n1 cn) (.slice Av n1 cv) (.slice An s.length cn) (.slice Av s.length cv) ln lv c3):=by
               have h:=(MS.start HLD.out.ms).drew
               rw [List.map_cons,List.reverse_cons,List.map_cons,List.reverse_cons,← hln,← hlv]at h
               subst hnn;exact (MQ.less0 (x:=t.var) h (by rw [hln]; simp)).less1 (x:=whV k) (by rw [hlv]; simp)
              have HE1:Hid (ln=(s.map (·.1)).reverse):=hln
              have HE2:Hid (lv=(s.map (·.2)).reverse):=hlv
              have hs5:s.length≤5000:=by have:=HSS.out; omega
              have hwn:IntKind.i64.wrap ((n1:Int)-1)=(s.length:Int):=by rw [wrap64_small (by omega) (by omega)]; omega
              have hsz0:(0:Int)≤(s.length:Int):=Int.natCast_nonneg _
              have hsn:(s.length:Int)≤(cn:Int):=by omega
              have hsv:(s.length:Int)≤(cv:Int):=by omega
              have hcn:(cn:Int)≤9223372036854775807:=by omega
              have hcv:(cv:Int)≤9223372036854775807:=by omega
              clear hln hlv hnn hn1 hn2 hv1 hv2;have hS0:(fun w'=>w'.cell? ⟨mb,0,none⟩=some (.slice An n1 cn)∧w'.cell? ⟨mb,1,none⟩=some (.slice Av n1 cv)) w9.drew:=⟨HG1.out.cells.1,HG1.out.cells.2.1⟩
              refine wp_region_noPanic ?_
              refine region_abs fun a0 ha0=>?_
              have hsz0:a0.tmps.size=201:=by rw [ha0]; rfl
              have hs0:a0.tmps[0]'(by rw [hsz0]; decide)=.pointer (some ⟨mb,0,none⟩):=by subst ha0; rfl
              have HA0:=hid ha0
              clear ha0;refine wp_region_J 26 (fun w'=>w'.cell? ⟨mb,0,none⟩=some (.slice An n1 cn)∧w'.cell? ⟨mb,1,none⟩=some (.slice Av n1 cv)) (by kernel_rfl) ?_
              generalize w9.drew=wd at*;simp only [List.size_toArray,List.length_cons,List.length_nil,Nat.zero_add,Nat.reduceAdd];refine wpAnyJ_free (i:=0) (v:=?vp0) rfl (by kernel_rfl) (by kernel_rfl) (by kernel_rfl) (by kernel_rfl) (fun _ _ _ h=>h) (Or.inl ⟨by rfl,?hp0⟩) hS0 ?rp0
              case hp0=>(intro w' _; go_simp; all_goals with_reducible rfl)
              try dsimp only [Act.put]
              refine wpAnyJ_free (i:=1) (v:=?vp1) rfl (by kernel_rfl) (by kernel_rfl) (by kernel_rfl) (by kernel_rfl) (fun _ _ _ h=>h) (Or.inl ⟨by rfl,?hp1⟩) hS0 ?rp1
              case hp1=>(intro w' _; go_simp; all_goals with_reducible rfl)
              try dsimp only [Act.put]
              refine wpAnyJ_free (i:=2) (v:=?vp2) rfl (by kernel_rfl) (by kernel_rfl) (by kernel_rfl) (by kernel_rfl) (fun _ _ _ h=>h) (Or.inl ⟨by rfl,?hp2⟩) hS0 ?rp2
              case hp2=>(intro w' _; go_simp; all_goals with_reducible rfl)
              try dsimp only [Act.put]
              refine wpAnyJ_free (i:=3) (v:=?vp3) rfl (by kernel_rfl) (by kernel_rfl) (by kernel_rfl) (by kernel_rfl) (fun _ _ _ h=>h) (Or.inl ⟨by rfl,?hp3⟩) hS0 ?rp3
              case hp3=>(intro w' _; go_simp; all_goals with_reducible rfl)
              try dsimp only [Act.put]
              refine wpAnyJ_free (i:=4) (v:=?vp4) rfl (by kernel_rfl) (by kernel_rfl) (by kernel_rfl) (by kernel_rfl) (fun _ _ _ h=>h) (Or.inl ⟨by rfl,?hp4⟩) hS0 ?rp4
              case hp4=>(intro w' _; go_simp; all_goals with_reducible rfl)
              try dsimp only [Act.put]
              refine wpAnyJ_take (i:=5) (v:=?vp5) [26] rfl (by kernel_rfl) (by kernel_rfl) (by kernel_rfl) (by kernel_rfl) (by kernel_rfl) (by kernel_rfl) (by kernel_rfl) (fun _ _ _ h=>h) (Or.inl ⟨by rfl,?hp5⟩) hS0 ?rp5
              case hp5=>(intro w' hSw; (try dsimp only at hSw); go_simp; all_goals with_reducible rfl)
              try dsimp only [Act.put]
              refine wpAnyJ_free (i:=6) (v:=?vp6) rfl (by kernel_rfl) (by kernel_rfl) (by kernel_rfl) (by kernel_rfl) (fun _ _ _ h=>h) (Or.inl ⟨by rfl,?hp6⟩) hS0 ?rp6
              case hp6=>(intro w' _; go_simp; all_goals with_reducible rfl)
              try dsimp only [Act.put]
              refine wpAnyJ_free (i:=7) (v:=?vp7) rfl (by kernel_rfl) (by kernel_rfl) (by kernel_rfl) (by kernel_rfl) (fun _ _ _ h=>h) (Or.inl ⟨by rfl,?hp7⟩) hS0 ?rp7
              case hp7=>(intro w' _; go_simp; all_goals with_reducible rfl)
              try dsimp only [Act.put]
              refine wpAnyJ_free (i:=8) (v:=?vp8) rfl (by kernel_rfl) (by kernel_rfl) (by kernel_rfl) (by kernel_rfl) (fun _ _ _ h=>h) (Or.inl ⟨by rfl,?hp8⟩) hS0 ?rp8
              case hp8=>(intro w' _; go_simp; all_goals with_reducible rfl)
              try dsimp only [Act.put]
              refine wpAnyJ_take (i:=9) (v:=?vp9) [26] rfl (by kernel_rfl) (by kernel_rfl) (by kernel_rfl) (by kernel_rfl) (by kernel_rfl) (by kernel_rfl) (by kernel_rfl) (fun _ _ _ h=>h) (Or.inl ⟨by rfl,?hp9⟩) hS0 ?rp9
              case hp9=>(intro w' hSw; (try dsimp only at hSw); go_simp; all_goals with_reducible rfl)
              try dsimp only [Act.put]
              refine wpAnyJ_free (i:=10) (v:=?vp10) rfl (by kernel_rfl) (by kernel_rfl) (by kernel_rfl) (by kernel_rfl) (fun _ _ _ h=>h) (Or.inl ⟨by rfl,?hp10⟩) hS0 ?rp10
              case hp10=>(intro w' _; go_simp; all_goals with_reducible rfl)
              try dsimp only [Act.put]
              refine wpAnyJ_free (i:=11) (v:=?vp11) rfl (by kernel_rfl) (by kernel_rfl) (by kernel_rfl) (by kernel_rfl) (fun _ _ _ h=>h) (Or.inl ⟨by rfl,?hp11⟩) hS0 ?rp11
              case hp11=>(intro w' _; go_simp; all_goals with_reducible rfl)
              try dsimp only [Act.put]
              refine wpAnyJ_free (i:=12) (v:=?vp12) rfl (by kernel_rfl) (by kernel_rfl) (by kernel_rfl) (by kernel_rfl) (fun _ _ _ h=>h) (Or.inl ⟨by rfl,?hp12⟩) hS0 ?rp12
              case hp12=>(intro w' _; go_simp; all_goals with_reducible rfl)
              try dsimp only [Act.put]
              refine wpAnyJ_free (i:=13) (v:=?vp13) rfl (by kernel_rfl) (by kernel_rfl) (by kernel_rfl) (by kernel_rfl) (fun _ _ _ h=>h) (Or.inl ⟨by rfl,?hp13⟩) hS0 ?rp13
              case hp13=>(intro w' _; go_simp; all_goals with_reducible rfl)
              try dsimp only [Act.put]
              refine wpAnyJ_free (i:=14) (v:=?vp14) rfl (by kernel_rfl) (by kernel_rfl) (by kernel_rfl) (by kernel_rfl) (fun _ _ _ h=>h) (Or.inl ⟨by rfl,?hp14⟩) hS0 ?rp14
              case hp14=>(intro w' _; go_simp; all_goals with_reducible rfl)
              try dsimp only [Act.put]
              refine wpAnyJ_free (i:=15) (v:=?vp15) rfl (by kernel_rfl) (by kernel_rfl) (by kernel_rfl) (by kernel_rfl) (fun _ _ _ h=>h) (Or.inl ⟨by rfl,?hp15⟩) hS0 ?rp15
              case hp15=>(intro w' _; go_simp; all_goals with_reducible rfl)
              try dsimp only [Act.put]
              refine wpAnyJ_take (i:=16) (v:=?vp16) [26] rfl (by kernel_rfl) (by kernel_rfl) (by kernel_rfl) (by kernel_rfl) (by kernel_rfl) (by kernel_rfl) (by kernel_rfl) (fun _ _ _ h=>h) (Or.inl ⟨by rfl,?hp16⟩) hS0 ?rp16
              case hp16=>(intro w' hSw; (try dsimp only at hSw); go_simp; all_goals with_reducible rfl)
              try dsimp only [Act.put]
              refine wpAnyJ_free (i:=17) (v:=?vp17) rfl (by kernel_rfl) (by kernel_rfl) (by kernel_rfl) (by kernel_rfl) (fun _ _ _ h=>h) (Or.inl ⟨by rfl,?hp17⟩) hS0 ?rp17
              case hp17=>(intro w' _; go_simp; all_goals with_reducible rfl)
              try dsimp only [Act.put]
              refine wpAnyJ_free (i:=18) (v:=?vp18) rfl (by kernel_rfl) (by kernel_rfl) (by kernel_rfl) (by kernel_rfl) (fun _ _ _ h=>h) (Or.inl ⟨by rfl,?hp18⟩) hS0 ?rp18
              case hp18=>(intro w' _; go_simp; all_goals with_reducible rfl)
              try dsimp only [Act.put]
              refine wpAnyJ_free (i:=19) (v:=?vp19) rfl (by kernel_rfl) (by kernel_rfl) (by kernel_rfl) (by kernel_rfl) (fun _ _ _ h=>h) (Or.inl ⟨by rfl,?hp19⟩) hS0 ?rp19
              case hp19=>(intro w' _; go_simp; all_goals with_reducible rfl)
              try dsimp only [Act.put]
              refine wpAnyJ_take (i:=20) (v:=?vp20) [26] rfl (by kernel_rfl) (by kernel_rfl) (by kernel_rfl) (by kernel_rfl) (by kernel_rfl) (by kernel_rfl) (by kernel_rfl) (fun _ _ _ h=>h) (Or.inl ⟨by rfl,?hp20⟩) hS0 ?rp20
              case hp20=>(intro w' hSw; (try dsimp only at hSw); go_simp; all_goals with_reducible rfl)
              try dsimp only [Act.put]
              refine wpAnyJ_free (i:=21) (v:=?vp21) rfl (by kernel_rfl) (by kernel_rfl) (by kernel_rfl) (by kernel_rfl) (fun _ _ _ h=>h) (Or.inl ⟨by rfl,?hp21⟩) hS0 ?rp21
              case hp21=>(intro w' _; go_simp; all_goals with_reducible rfl)
              try dsimp only [Act.put]
              refine wpAnyJ_free (i:=22) (v:=?vp22) rfl (by kernel_rfl) (by kernel_rfl) (by kernel_rfl) (by kernel_rfl) (fun _ _ _ h=>h) (Or.inl ⟨by rfl,?hp22⟩) hS0 ?rp22
              case hp22=>(intro w' _; go_simp; all_goals with_reducible rfl)
              try dsimp only [Act.put]
              refine wpAnyJ_free (i:=23) (v:=?vp23) rfl (by kernel_rfl) (by kernel_rfl) (by kernel_rfl) (by kernel_rfl) (fun _ _ _ h=>h) (Or.inl ⟨by rfl,?hp23⟩) hS0 ?rp23
              case hp23=>(intro w' _; go_simp; all_goals with_reducible rfl)
              try dsimp only [Act.put]
              refine wpAnyJ_one (i:=24) (by kernel_rfl) rfl ?_
              intro K hK;go_simp
              refine hK.out _ _ (fun _=>hS0) ?_
              clear hK K;refine wpAnyJ_one (i:=25) (by kernel_rfl) rfl ?_
              intro K hK;go_simp
              refine hK.out _ _ (fun _=>hS0) ?_
              clear hK K;refine wpAnyJ_one (i:=26) (by kernel_rfl) rfl ?_
              intro K hK;have hc:=HG1.out.cells
              have e0:=hc.1
              have e1:=hc.2.1
              have ef0:=hc.2.2 0
              have ef1:=hc.2.2 1
              go_simp
              have HH2:=hid (HG1.out.set0 (.slice An s.length cn))
              refine hK.out _ _ (fun h=>absurd h (by decide)) ?_
              clear hK K e0 e1 hc ef0 ef1;refine wpAnyJ_one (i:=27) (by kernel_rfl) rfl ?_
              intro K hK;go_simp
              refine hK.out _ _ (fun h=>absurd h (by decide)) ?_
              clear hK K;refine wpAnyJ_one (i:=28) (by kernel_rfl) rfl ?_
              intro K hK;go_simp
              refine hK.out _ _ (fun h=>absurd h (by decide)) ?_
              clear hK K;refine wpAnyJ_one (i:=29) (by kernel_rfl) rfl ?_
              intro K hK;have hc:=HH2.out.cells
              have e0:=hc.1
              have e1:=hc.2.1
              have ef0:=hc.2.2 0
              have ef1:=hc.2.2 1
              go_simp
              have HH3:=hid (HH2.out.set1 (.slice Av s.length cv))
              refine hK.out _ _ (fun h=>absurd h (by decide)) ?_
              clear hK K e0 e1 hc ef0 ef1;refine wpAnyJ_done (by kernel_rfl) ?_
              refine NoPanic.normal ?_
              obtain rfl:=HA0.out
              clear HA0 hsz0 hs0;simp only [List.setIfInBounds_toArray,List.set_cons_succ,List.set_cons_zero];have HLE:=hid (HLD.out.step HH3.out.g (HH3.out.ms HE1.out HE2.out))
              have HKC:Hid (K9 _ m9 r2.v):=(HH3.out.g.block m9 HK12.out.cells.2.2 HA12.out).1.trans HK12.out
              have HFC:=hid (HFP.out.gm HH3.out.g)
              clear HG1 HH2 HH3 hS0 HLD HK12 HFP hwn hsn hsv hcn hcv;generalize (wd.setCell ⟨mb,0,none⟩ (.slice An s.length cn)).setCell ⟨mb,1,none⟩ (.slice Av s.length cv)=wC at*;have HRB:Hid ((w.heap.size+1)<wC.heap.size):=HLE.out.kr.cells.2.2
              have HKB2:=hid HKB.out
              rcases HFC.out with ⟨he,rfl⟩|⟨he,fb,rfl,hfb⟩
              ·have HRE2:=hid (HRE.out.trans (if_pos he))
               have HR:=hid (HRO.out he)
               clear he HFC;obtain ⟨⟨⟨z0,z1⟩,z2,z3,z4,z5,z6,z7,z8⟩,zf,_⟩:=HKC.out.cells
               obtain ⟨⟨q0,_⟩,_⟩:=HLE.out.lx
               have hk1:-2147483647≤k:=HKQ.out.1
               have hk2:k≤2147483647:=HKQ.out.2
               have hwk:IntKind.i64.wrap (k+1)=k+1:=wrap64_small (by omega) (by omega)
               have HKB3:Hid (x.num≤k+1∧k+1≤2147483648):=⟨by have:=HKB2.out; omega,by omega⟩
               have HFC3:Hid (2001≤f+c3):=by have h1:=HFC0.out; have h2:=HC3.out; show _≤_; omega
               by_cases hkf:k=x.num
               ·have hkb:(k == x.num)=true:=by rw [beq_iff_eq]; exact hkf
                have HRE3:=hid (HRE2.out.trans (if_pos hkf))
                obtain ⟨⟨⟨y0,y1⟩,y2,y3,y4,y5,y6,y7,y8⟩,yf,_⟩:=HLE.out.kt.cells
                clear hkf;go_wp2_with fail;go_roundg f
                case measure=>omega
                case rel=>exact ⟨k+1,r2.v,c3,f,_,_,Nat.le_refl _,rfl,HRE3.out,HFC3.out,HC3.out.2,HKB3.out,HR.out,HLE.out.put r2.v⟩
               ·have hkb:(k == x.num)=false:=by rw [beq_eq_false_iff_ne]; exact hkf
                have HRE3:=hid (HRE2.out.trans (if_neg hkf))
                obtain ⟨⟨y0,y1⟩,y2,y3,y4,y5,y6,y7,y8⟩:=HLE.out.kt.cells.1
                have e1:=HLE.out.bx.c1
                clear hkf;have HJO:=hid (addOf_ok t.name v r2.v HVO.out)
                go_wp2_with fail
                ·have hn:t.name=sumW:=by
                  have h:(t.name == [115,117,109])=true:=by assumption
                  simpa [sumW]using h
                 have HAD:Hid (∀ wz,Calls Tryz.prog 140 #[.agg v.cells,.agg r2.v.cells,.bool false] wz fun r w'=>∃ q,r=.returned (.tuple #[.agg (addOf t.name v r2.v).1.cells,.pointer q])∧FO w' wz.heap.size q (addOf t.name v r2.v)∧Below wz.heap.size wz w'):=fun wz=>by
                  have e:addOf t.name=sumV:=by rw [hn]; exact addOf_sum
                  rw [e]; exact radd_any v r2.v false HVO.out HR.out wz
                 clear hn;generalize addOf t.name v r2.v=j at*;obtain ⟨jv,je⟩:=j
                 (try dsimp only at HAD HRE3 HJO)
                 unfold V.cells at HAD;refine (HAD.out wC).mono ?_
                 rintro r wD ⟨q2,rfl,hfo,hbd⟩
                 have HLF:=hid (HLE.out.reach hbd)
                 have HFO:Hid (FP wD q2 (fun k=>wC.heap.size≤k) ⟨jv,[],je⟩):=hfo
                 have HFR:=hid fun (k:Nat)(h:wC.heap.size≤k)=>HLE.out.ms.fresh h
                 have HTW:Hid (tk<wC.heap.size):=HLE.out.kt.cells.2.2
                 clear hfo hbd y0 y1 y2 y3 y4 y5 y6 y7 y8 e1 q0 z0 z1 z2 z3 z4 z5 z6 z7 z8 zf HKC HLE;obtain ⟨⟨⟨y0,y1⟩,y2,y3,y4,y5,y6,y7,y8⟩,yf,_⟩:=HLF.out.kt.cells
                 rcases HFO.out with ⟨he,rfl⟩|⟨he,fb,rfl,hfb⟩
                 ·have HRE4:=hid (HRE3.out.trans (if_pos he))
                  have HJ:=hid (HJO.out he)
                  clear he;go_wp2_with fail;go_roundg f
                  case measure=>omega
                  case rel=>exact ⟨k+1,jv,c3,f,_,_,Nat.le_refl _,rfl,HRE4.out,HFC3.out,HC3.out.2,HKB3.out,HJ.out,HLF.out.put jv⟩
                 ·have HEQ2:=hid (HRE3.out.trans (if_neg he))
                  have HE:=hid he
                  have HFK:Hid (FB (set9 wD tk jv) fb (fun k=>wC.heap.size≤k) je []):=hfb.keep fun k hk hs=>⟨by rw [set9_size]; exact hk,set9_other _ _ _ _ (by have:=HTW.out; omega),hs⟩
                  have HLP:=hid (HLF.out.put jv)
                  clear he hfb;go_upto_region 37 with (fail);clear y0 y1 y2 y3 y4 y5 y6 y7 y8 yf HLF;obtain ⟨wE,hwE⟩:∃ wE,set9 wD tk jv=wE:=⟨_,rfl⟩
                  rw [hwE]at HLP HFK
                  unfold set9 at hwE;rw [hwE];clear hwE;obtain ⟨⟨⟨y0,y1⟩,y2,y3,y4,y5,y6,y7,y8⟩,yf,_⟩:=HLP.out.kr.cells
                  go_wp2_with fail;rw [HEQ2.out];refine bodyPost_ret (v:=.tuple #[.agg zV.cells,.pointer (some ⟨fb,0,none⟩)]) (by simp [results,Tryz.results93,go_sem,V.cells,zV,zD,y0,y1,y2,y3,y4,y5,y6,y7,y8]) rfl ?_
                  exact VOut.fin2 (g:=(erR je,c3)) HLP.out (.inr ⟨HE.out,fb,rfl,HFK.out.mono fun k hk=>⟨HFR.out k hk,by have:=HRB.out; omega⟩⟩)
                ·have hn:t.name=prodW:=by
                  have h:(t.name == [115,117,109])=false:=by assumption
                  rcases HNM.out with h'|h'
                  ·exact absurd h' (by simpa [sumW]using h)
                  ·exact h'
                 have HAD:Hid (∀ wz,Calls Tryz.prog 141 #[.agg v.cells,.agg r2.v.cells] wz fun r w'=>∃ q,r=.returned (.tuple #[.agg (addOf t.name v r2.v).1.cells,.pointer q])∧FO w' wz.heap.size q (addOf t.name v r2.v)∧Below wz.heap.size wz w'):=fun wz=>by
                  have e:addOf t.name=proV:=by rw [hn]; exact addOf_prod
                  rw [e]; exact rmul_any v r2.v HVO.out HR.out wz
                 clear hn;generalize addOf t.name v r2.v=j at*;obtain ⟨jv,je⟩:=j
                 (try dsimp only at HAD HRE3 HJO)
                 unfold V.cells at HAD;refine (HAD.out wC).mono ?_
                 rintro r wD ⟨q2,rfl,hfo,hbd⟩
                 have HLF:=hid (HLE.out.reach hbd)
                 have HFO:Hid (FP wD q2 (fun k=>wC.heap.size≤k) ⟨jv,[],je⟩):=hfo
                 have HFR:=hid fun (k:Nat)(h:wC.heap.size≤k)=>HLE.out.ms.fresh h
                 have HTW:Hid (tk<wC.heap.size):=HLE.out.kt.cells.2.2
                 clear hfo hbd y0 y1 y2 y3 y4 y5 y6 y7 y8 e1 q0 z0 z1 z2 z3 z4 z5 z6 z7 z8 zf HKC HLE;obtain ⟨⟨⟨y0,y1⟩,y2,y3,y4,y5,y6,y7,y8⟩,yf,_⟩:=HLF.out.kt.cells
                 rcases HFO.out with ⟨he,rfl⟩|⟨he,fb,rfl,hfb⟩
                 ·have HRE4:=hid (HRE3.out.trans (if_pos he))
                  have HJ:=hid (HJO.out he)
                  clear he;go_wp2_with fail;go_roundg f
                  case measure=>omega
                  case rel=>exact ⟨k+1,jv,c3,f,_,_,Nat.le_refl _,rfl,HRE4.out,HFC3.out,HC3.out.2,HKB3.out,HJ.out,HLF.out.put jv⟩
                 ·have HEQ2:=hid (HRE3.out.trans (if_neg he))
                  have HE:=hid he
                  have HFK:Hid (FB (set9 wD tk jv) fb (fun k=>wC.heap.size≤k) je []):=hfb.keep fun k hk hs=>⟨by rw [set9_size]; exact hk,set9_other _ _ _ _ (by have:=HTW.out; omega),hs⟩
                  have HLP:=hid (HLF.out.put jv)
                  clear he hfb;go_upto_region 37 with (fail);clear y0 y1 y2 y3 y4 y5 y6 y7 y8 yf HLF;obtain ⟨wE,hwE⟩:∃ wE,set9 wD tk jv=wE:=⟨_,rfl⟩
                  rw [hwE]at HLP HFK
                  unfold set9 at hwE;rw [hwE];clear hwE;obtain ⟨⟨⟨y0,y1⟩,y2,y3,y4,y5,y6,y7,y8⟩,yf,_⟩:=HLP.out.kr.cells
                  go_wp2_with fail;rw [HEQ2.out];refine bodyPost_ret (v:=.tuple #[.agg zV.cells,.pointer (some ⟨fb,0,none⟩)]) (by simp [results,Tryz.results93,go_sem,V.cells,zV,zD,y0,y1,y2,y3,y4,y5,y6,y7,y8]) rfl ?_
                  exact VOut.fin2 (g:=(erR je,c3)) HLP.out (.inr ⟨HE.out,fb,rfl,HFK.out.mono fun k hk=>⟨HFR.out k hk,by have:=HRB.out; omega⟩⟩)
              ·have HEQ2:=hid (HRE.out.trans (if_neg he))
               obtain ⟨rv,rp,re⟩:=r2
               obtain rfl:rv=zV:=HTY.out.2 he
               have hu:R.under ⟨zV,rp,re⟩ 2=⟨zV,2::rp,re⟩:=by unfold R.under; rw [if_neg he]
               rw [hu]at HEQ2
               have HIN:=hid (inside_any 2 fb (Fw wB.heap.size mb _ _) re rp wC hfb (by have h:rp.length≤2000:=HPL.out; omega))
               have HE:=hid he
               clear he hfb HFC hu HRE HRO HTY HPL;go_wp2_with fail;refine HIN.out.mono ?_
               rintro e wD ⟨g4,rfl,hf4,hbd⟩
               have HLF:=hid (HLE.out.reach hbd)
               have HF4:=hid hf4
               have HFR:=hid fun (k:Nat)(h:wC.heap.size≤k)=>HLE.out.ms.fresh h
               clear hf4 hbd;obtain ⟨⟨⟨y0,y1⟩,y2,y3,y4,y5,y6,y7,y8⟩,yf,_⟩:=HLF.out.kr.cells
               go_wp2_with fail;rw [HEQ2.out];refine bodyPost_ret (v:=.tuple #[.agg zV.cells,.pointer (some ⟨g4,0,none⟩)]) (by simp [results,Tryz.results93,go_sem,V.cells,zV,zD,y0,y1,y2,y3,y4,y5,y6,y7,y8]) rfl ?_
               exact VOut.fin2 (g:=(⟨zV,2::rp,re⟩,c3)) HLF.out (.inr ⟨HE.out,g4,rfl,HF4.out.mono fun k hk=>⟨HFR.out k hk,by have:=HRB.out; omega⟩⟩)
           ·have HEQ2:=hid (HEQ.out.trans (loopB_end _ _ _ _ _ _ _ _ hkt))
            obtain ⟨⟨⟨y0,y1⟩,y2,y3,y4,y5,y6,y7,y8⟩,yf,_⟩:=HLR.out.kr.cells
            obtain ⟨⟨⟨z0,z1⟩,z2,z3,z4,z5,z6,z7,z8⟩,_,_⟩:=HLR.out.kt.cells
            go_wp2_with fail;rw [HEQ2.out];refine bodyPost_ret (v:=.tuple #[.agg v.cells,.pointer none]) (by simp [results,Tryz.results93,go_sem,V.cells,y0,y1,y2,y3,y4,y5,y6,y7,y8]) rfl ?_
            exact VOut.fin2 (g:=(okR v,_)) HLR.out (.inl ⟨rfl,rfl⟩)
    ·have HEQ2:Hid (ev t s c=(ra,c2)):=by
      show _=_
      rw [HGB.out];unfold limG;rw [if_neg he]
     have hra:ra.v=zV:=HTD.out.2 he
     obtain ⟨⟨⟨z0,z1⟩,z2,z3,z4,z5,z6,z7,z8⟩,zf,_⟩:=HK4.out.cells
     have HFBK:Hid (FP w4 (some ⟨fb,0,none⟩) (fun k=>Aw mb un uv k∧(w.heap.size+1)<k) ra):=.inr ⟨he,fb,rfl,hfb.mono fun k hk=>⟨hk.1,by have:=hk.2; have:=HK.out.cells.2.2; omega⟩⟩
     go_wp2_with fail;rw [HEQ2.out];refine bodyPost_ret (v:=.tuple #[.agg ra.v.cells,.pointer (some ⟨fb,0,none⟩)]) (by rw [hra]; simp [results,Tryz.results93,go_sem,V.cells,zV,zD,z0,z1,z2,z3,z4,z5,z6,z7,z8]) rfl ?_
     have h:=VOut.fin (g:=(ra,c2)) (vn:=vn) (vv:=vv) (s:=s) (B:=B) (Nat.le_succ w.heap.size) HM4.out HG4.out HAB4.out HFBK.out
     rw [hra]at h ⊢
     exact h
   ·have hzb:((t.args.length:Int) != 3)=true:=by rw [bne_iff_ne]; omega
    have HEQ2:Hid (ev t s c=(erR 13,c)):=by
     show _=_
     rw [HEV.out,bindG_len (by rw [evs_map,List.length_map]; exact h3),if_pos hnm]
    go_wp2_with fail;refine (fail_any 13 w1).mono ?_
    rintro r' wf ⟨fb,rfl,hfb,hbf⟩
    have HMf:=hid (HM.out.reach hbf)
    have HGf:=hid (HG.out.tr (Gm.bel hbf))
    have HF2:=hid hfb
    have HLT:Hid ((w.heap.size+1)<w1.heap.size):=HK.out.cells.2.2
    have HFR:=hid fun (k:Nat)(h:w1.heap.size≤k)=>HM.out.fresh h
    obtain ⟨⟨⟨y0,y1⟩,y2,y3,y4,y5,y6,y7,y8⟩,yf,_⟩:=(HK.out.reach hbf).cells
    clear hfb hbf;go_wp2_with fail;rw [HEQ2.out];refine bodyPost_ret (v:=.tuple #[.agg (erR 13).v.cells,.pointer (some ⟨fb,0,none⟩)]) (by simp [results,Tryz.results93,go_sem,erR,V.cells,zV,zD,y0,y1,y2,y3,y4,y5,y6,y7,y8]) rfl ?_
    exact VOut.fin (g:=(erR 13,_)) (Nat.le_succ _) HMf.out HGf.out HAB.out (HF2.out.fp (by decide) HFR.out HLT.out)
 ·have h1:¬ t.name=sumW:=fun h=>hnm (.inl h)
  have h2:¬ t.name=prodW:=fun h=>hnm (.inr h)
  have HEQ2:Hid (ev t s c=(erR 15,c)):=by show _=_; rw [HEV.out]; unfold bindG; rw [if_neg hnm]
  have hb1:(t.name == [115,117,109])=false:=by simpa [sumW]using h1
  have hb2:(t.name == [112,114,111,100])=false:=by simpa [prodW]using h2
  have hb3:(t.name != [115,117,109])=true:=by simpa [sumW]using h1
  have hb4:(t.name != [112,114,111,100])=true:=by simpa [prodW]using h2
  clear hnm h1 h2;go_wp2_with fail;refine (fail_any 15 w1).mono ?_
  rintro r' wf ⟨fb,rfl,hfb,hbf⟩
  have HMf:=hid (HM.out.reach hbf)
  have HGf:=hid (HG.out.tr (Gm.bel hbf))
  have HF2:=hid hfb
  have HLT:Hid ((w.heap.size+1)<w1.heap.size):=HK.out.cells.2.2
  have HFR:=hid fun (k:Nat)(h:w1.heap.size≤k)=>HM.out.fresh h
  obtain ⟨⟨⟨y0,y1⟩,y2,y3,y4,y5,y6,y7,y8⟩,yf,_⟩:=(HK.out.reach hbf).cells
  clear hfb hbf;go_wp2_with fail;rw [HEQ2.out];refine bodyPost_ret (v:=.tuple #[.agg (erR 15).v.cells,.pointer (some ⟨fb,0,none⟩)]) (by simp [results,Tryz.results93,go_sem,erR,V.cells,zV,zD,y0,y1,y2,y3,y4,y5,y6,y7,y8]) rfl ?_
  exact VOut.fin (g:=(erR 15,_)) (Nat.le_succ _) HMf.out HGf.out HAB.out (HF2.out.fp (by decide) HFR.out HLT.out)
end Go.Proofs.YtknpigdpepmimaaGreatDoor
