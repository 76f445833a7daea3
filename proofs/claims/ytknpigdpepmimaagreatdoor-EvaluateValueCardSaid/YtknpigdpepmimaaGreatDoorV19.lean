/- Contract of bind 82 for products, out of term's for smaller terms. -/
import Derived.Test.YtknpigdpepmimaaGreatDoorV18
namespace Go.Proofs.YtknpigdpepmimaaGreatDoor
open Go.Lib(hid)
open Go.RowKit Go.Maps
set_option maxRecDepth 100000 in
set_option maxHeartbeats 16000000 in
theorem bind_prod {xb nb ob B0:Nat}{E:Sc}{N:Nat}(IH:TermC xb nb ob B0 E N)(t:T)(hz:t.size≤N+1)(hw:WF t)(hk:t.kind=5)(hN:N≤2000)(hn:t.name=prodW)(s:Sc) (p:Value)(c b o:Nat)(w:World)(hc:c≤2000)(hok:(s++E).ok)(ht:TR w B0 b o t)(hx:Cx w xb nb ob B0 E c)(hs:SCP w (SS w xb) s p):
  Calls Tryz.prog 82 #[.pointer (some ⟨xb,0,none⟩),.pointer (some ⟨b,o,none⟩),p] w fun e w'=>Left w w' xb nb ob (ev t (s++E) c) e:=by
 obtain ⟨p,rfl⟩:∃ q,p=.pointer q:=by
  cases s with
  | nil=>exact ⟨none,hs⟩
  | cons x s=>obtain ⟨b,q,e,_⟩:=hs; exact ⟨_,e⟩
 have HO:=hid (own_short' hw.parts.1)
 obtain ⟨hb,d0,d1,d2,d4,A,ca,d3,hca,hta⟩:=ht.parts
 have hbx:b≠xb:=by have:=hx.hB; omega
 have hbw:b<w.heap.size:=by have:=hx.hB; have:=hx.xlt; omega
 have HB:=hid (b1 w (.cells #[.int .i64 0,.int .i64 0,.int .i64 0,.int .i64 0,.int .i64 0,.int .i64 0,.int .i64 0,.int .i64 0,.int .i64 0,.slice none 0 0,.int .i64 0] 86))
 have HK:=hid (K11.zero w)
 have HX:=hid (hx.reach HB.out)
 have HX0:=hid hx.xlt
 have HIH:=hid IH
 have HOKs:=hid hok
 have HWH:=hid fun n w=>whole_any n w
 unfold V.cells whV zD at HWH;have HG:Hid (ev t (s++E) c=bindG prodW (evs t.args (s++E)) (evh t.args t.var (s++E)) c):=by show _=_; rw [ev_eq,hk,hn]; rfl
 unfold Left;go_enter Tryz.func82,Tryz.ntmps82;go_upto_region 1 with (fail);generalize w.alloc (.cells #[.int .i64 0,.int .i64 0,.int .i64 0,.int .i64 0,.int .i64 0,.int .i64 0,.int .i64 0,.int .i64 0,.int .i64 0,.slice none 0 0,.int .i64 0] 86)=w1 at*;go_wp2_with fail;refine (HWH.out 0 _).mono ?_
 rintro e w2 ⟨rfl,hb2⟩
 go_upto_region 2 with (fail);have hb3:=bl_tr hb2 (b1 w2 (.cells #[.int .i64 0,.int .i64 1,.int .i64 0,.int .i64 0,.int .i64 0,.int .i64 0,.int .i64 0,.int .i64 0,.int .i64 0] 44))
 have hb03:=bl_tr HB.out hb3
 have hk8:(w2.alloc (.cells #[.int .i64 0,.int .i64 1,.int .i64 0,.int .i64 0,.int .i64 0,.int .i64 0,.int .i64 0,.int .i64 0,.int .i64 0] 44)).heap[w2.heap.size]?=some (.cells (whV 0).cells 44 (0,0)):=heap_alloc_new w2 _
 have hs1:w.heap.size<w1.heap.size:=HK.out.cells.2.2
 have hs2:=hb2.size
 have hli:LJ w (w2.alloc (.cells #[.int .i64 0,.int .i64 1,.int .i64 0,.int .i64 0,.int .i64 0,.int .i64 0,.int .i64 0,.int .i64 0,.int .i64 0] 44)) xb nb ob B0 (w2.alloc (.cells #[.int .i64 0,.int .i64 1,.int .i64 0,.int .i64 0,.int .i64 0,.int .i64 0,.int .i64 0,.int .i64 0,.int .i64 0] 44)).heap.size E s (.pointer p) b o w2.heap.size (.cells (whV 0).cells 44 (0,0)) A ca t.args c:=
  ⟨hx.reach hb03,hs.keep (fun k hk=>⟨hk,hb03.block k hk.2⟩),HK.out.reach hb3,hk8,(hb03.cell (p:=⟨b,o+3,none⟩) hbw).trans d3,(fun hne=>by
   obtain ⟨b',o',e,h⟩:=hta hne
   exact ⟨b',o',e,h.below (hx.term (grown_of_below hb03 _))⟩),grown_of_below hb03 _,by have:=hx.xlt; omega,hbx,⟨hx.nlt,hx.olt,hx.xlt,hbw,by simp,by simp; omega,Nat.le_refl _⟩⟩
 have HTR:=hid (ht.below (hx.term (grown_of_below hb03 _)))
 have HLJ:=hid hli
 have HM8:Hid (w.heap.size<w2.heap.size):=Nat.lt_of_lt_of_le hs1 hs2
 have HD1:=hid ((hb03.cell (p:=⟨b,o+1,none⟩) hbw).trans d1)
 have HD2:=hid ((hb03.cell (p:=⟨b,o+2,none⟩) hbw).trans d2)
 have HVL:=hid (var_short hw.parts.1)
 have HBW:=hid hbw
 clear hb2 hb3 hb03 hk8 hs1 hs2 hli d0 d1 d2 d3 d4 hta hx hs ht hb hok IH hbw;generalize w2.heap.size=mb at*;generalize w2.alloc (.cells #[.int .i64 0,.int .i64 1,.int .i64 0,.int .i64 0,.int .i64 0,.int .i64 0,.int .i64 0,.int .i64 0,.int .i64 0] 44)=w3 at*;rw [hn]at HD1
 have hd1:=HD1.out
 unfold prodW at hd1;obtain ⟨B1,hB1⟩:∃ B1,w3.heap.size=B1:=⟨_,rfl⟩
 rw [hB1]at HLJ
 clear hB1;go_upto_region 6 with (fail);go_wp2_with fail;refine (HWH.out 1 _).mono ?_
 rintro e w3b ⟨rfl,hbb⟩
 have HLJb:=hid (HLJ.out.reach hbb)
 have hk9:K9 w3b mb (whV 0):=HLJb.out.ko
 have HLJc:Hid (LJ w (((((((((w3b.setCell ⟨mb,0,none⟩ (.int .i64 1)).setCell ⟨mb,1,none⟩ (.int .i64 1)).setCell ⟨mb,2,none⟩ (.int .i64 0)).setCell ⟨mb,3,none⟩ (.int .i64 0)).setCell ⟨mb,4,none⟩ (.int .i64 0)).setCell ⟨mb,5,none⟩ (.int .i64 0)).setCell ⟨mb,6,none⟩ (.int .i64 0)).setCell ⟨mb,7,none⟩ (.int .i64 0)).setCell ⟨mb,8,none⟩ (.int .i64 0)) xb nb ob B0 B1 E s (.pointer p) b o mb (.cells (whV 1).cells 44 (0,0)) A ca t.args c):=HLJb.out.put (w':=set9 w3b mb (whV 1)) HM8.out (below9 (Below.refl 0 w3b) (Nat.zero_le _) (whV 1)) (set9_other w3b mb (whV 1)) (set9_K9 hk9 (whV 1))
 have HTRc:Hid (TR (((((((((w3b.setCell ⟨mb,0,none⟩ (.int .i64 1)).setCell ⟨mb,1,none⟩ (.int .i64 1)).setCell ⟨mb,2,none⟩ (.int .i64 0)).setCell ⟨mb,3,none⟩ (.int .i64 0)).setCell ⟨mb,4,none⟩ (.int .i64 0)).setCell ⟨mb,5,none⟩ (.int .i64 0)).setCell ⟨mb,6,none⟩ (.int .i64 0)).setCell ⟨mb,7,none⟩ (.int .i64 0)).setCell ⟨mb,8,none⟩ (.int .i64 0)) B0 b o t):=HTR.out.below (by
  have h0:=HLJ.out.cx.hB
  have h1:=HLJ.out.lo
  have h2:=HLJ.out.cx.xlt
  have h3:Below B0 w3b (set9 w3b mb (whV 1)):=below9 (Below.refl _ _) (by have:=HM8.out; omega) (whV 1)
  exact (hbb.mono (by omega)).trans h3)
 have HD2c:Hid ((((((((((w3b.setCell ⟨mb,0,none⟩ (.int .i64 1)).setCell ⟨mb,1,none⟩ (.int .i64 1)).setCell ⟨mb,2,none⟩ (.int .i64 0)).setCell ⟨mb,3,none⟩ (.int .i64 0)).setCell ⟨mb,4,none⟩ (.int .i64 0)).setCell ⟨mb,5,none⟩ (.int .i64 0)).setCell ⟨mb,6,none⟩ (.int .i64 0)).setCell ⟨mb,7,none⟩ (.int .i64 0)).setCell ⟨mb,8,none⟩ (.int .i64 0)).cell? ⟨b,o+2,none⟩=some (.string ⟨t.var.toArray⟩)):=(cell_of_block (set9_other w3b mb (whV 1) b (by have:=HM8.out; have:=HBW.out; omega)) _).trans ((hbb.cell (block_lt_of_cell HD2.out)).trans HD2.out)
 obtain ⟨⟨⟨y0,y1⟩,y2,y3,y4,y5,y6,y7,y8⟩,yf,_⟩:=hk9.cells
 clear hbb hk9 HLJ HLJb HTR HD2 hd1 HD1;have hd1:(((((((((w3b.setCell ⟨mb,0,none⟩ (.int .i64 1)).setCell ⟨mb,1,none⟩ (.int .i64 1)).setCell ⟨mb,2,none⟩ (.int .i64 0)).setCell ⟨mb,3,none⟩ (.int .i64 0)).setCell ⟨mb,4,none⟩ (.int .i64 0)).setCell ⟨mb,5,none⟩ (.int .i64 0)).setCell ⟨mb,6,none⟩ (.int .i64 0)).setCell ⟨mb,7,none⟩ (.int .i64 0)).setCell ⟨mb,8,none⟩ (.int .i64 0)).cell? ⟨b,o+1,none⟩=(((((((((w3b.setCell ⟨mb,0,none⟩ (.int .i64 1)).setCell ⟨mb,1,none⟩ (.int .i64 1)).setCell ⟨mb,2,none⟩ (.int .i64 0)).setCell ⟨mb,3,none⟩ (.int .i64 0)).setCell ⟨mb,4,none⟩ (.int .i64 0)).setCell ⟨mb,5,none⟩ (.int .i64 0)).setCell ⟨mb,6,none⟩ (.int .i64 0)).setCell ⟨mb,7,none⟩ (.int .i64 0)).setCell ⟨mb,8,none⟩ (.int .i64 0)).cell? ⟨b,o+1,none⟩:=rfl
 clear hd1;have d3:=HLJc.out.d3
 go_upto_region 7 with (fail);clear y0 y1 y2 y3 y4 y5 y6 y7 y8 yf d3;generalize (((((((((w3b.setCell ⟨mb,0,none⟩ (.int .i64 1)).setCell ⟨mb,1,none⟩ (.int .i64 1)).setCell ⟨mb,2,none⟩ (.int .i64 0)).setCell ⟨mb,3,none⟩ (.int .i64 0)).setCell ⟨mb,4,none⟩ (.int .i64 0)).setCell ⟨mb,5,none⟩ (.int .i64 0)).setCell ⟨mb,6,none⟩ (.int .i64 0)).setCell ⟨mb,7,none⟩ (.int .i64 0)).setCell ⟨mb,8,none⟩ (.int .i64 0))=w3c at*
 have HLN:Hid (t.args.length≤N):=by
  show _≤_
  have:=len_sizes t.args
  have:=size_eq t
  omega
 have hyl:t.args.length≤2000:=by have:=HLN.out; omega
 have d3:=HLJc.out.d3
 by_cases h3:t.args.length=3
 ·obtain ⟨ta,tb,tc,hargs⟩:=three h3
  have HLM:=hid fun (w':World)(hli:LJ w w' xb nb ob B0 B1 E s (.pointer p) b o mb (.cells (whV 1).cells 44 (0,0)) A ca t.args c)(htr:TR w' B0 b o t)=>limits_any HIH.out t hz hw ta tb tc hargs hN s (.pointer p) c b o w' hc HOKs.out htr hli.cx hli.scw
  rw [h3]at d3
  go_upto_region 9 with (fail);have hlm:=HLM.out w3c HLJc.out HTRc.out
  generalize hA:argsG 0 [ev ta (s++E),ev tb (s++E)] c []=a at hlm;have HA:=hid hA
  clear hA;generalize hL:limsG a=lim at hlm;have HL:=hid hL
  clear hL;obtain ⟨fr,top,r⟩:=lim
  have HLMw:=hid hlm
  clear hlm HLM;go_wp2_with fail;refine HLMw.out.mono ?_
  rintro e w4 ⟨q,rfl,hq,hg4,he4⟩
  obtain ⟨A5,c5,rfl⟩:∃ A c,q=.slice A r.path.length c:=by obtain ⟨⟨⟨A,c,h1,_⟩,_⟩,_⟩:=hq; exact ⟨A,c,h1⟩
  have HL4:=hid (HLJc.out.step hg4 he4)
  have HQ4:=hid hq
  have HS4:=hid hg4.size
  have HD24:Hid (w4.cell? ⟨b,o+2,none⟩=some (.string ⟨t.var.toArray⟩)):=(keepG HD2c.out HD2c.out hbx hbx hg4).1
  clear hq hg4 he4 d3;unfold R.cells;have hb5:=b1 w4 (.cells #[.int .i64 r.v.num,.int .i64 r.v.den,.int .i64 r.v.dim.a,.int .i64 r.v.dim.b,.int .i64 r.v.dim.c,.int .i64 r.v.dim.d,.int .i64 r.v.dim.e,.int .i64 r.v.dim.f,.int .i64 r.v.dim.g,.slice A5 r.path.length c5,.int .i64 r.e] 86)
  have HL5:=hid (HL4.out.reach hb5)
  have HQ5:=hid (HQ4.out.reach hb5)
  have HD25:=hid ((hb5.cell (block_lt_of_cell HD24.out)).trans HD24.out)
  have HM5:Hid (K11 (w4.alloc (.cells #[.int .i64 r.v.num,.int .i64 r.v.den,.int .i64 r.v.dim.a,.int .i64 r.v.dim.b,.int .i64 r.v.dim.c,.int .i64 r.v.dim.d,.int .i64 r.v.dim.e,.int .i64 r.v.dim.f,.int .i64 r.v.dim.g,.slice A5 r.path.length c5,.int .i64 r.e] 86)) w4.heap.size r (.slice A5 r.path.length c5)):=K11.new w4 r _
  clear hb5;go_upto_region 10 with (fail);generalize w4.alloc (.cells #[.int .i64 r.v.num,.int .i64 r.v.den,.int .i64 r.v.dim.a,.int .i64 r.v.dim.b,.int .i64 r.v.dim.c,.int .i64 r.v.dim.d,.int .i64 r.v.dim.e,.int .i64 r.v.dim.f,.int .i64 r.v.dim.g,.slice A5 r.path.length c5,.int .i64 r.e] 86)=w5 at*;obtain ⟨⟨m0,m1,m2,m3,m4,m5,m6,m7,m8,m9,m10⟩,_,_⟩:=HM5.out.cells
  have HG4:Hid (ev t (s++E) c=if r.e=0 then loopB (fun k=>ev tc ((t.var,whV k)::(s++E))) (addOf prodW) fr top 2001 fr (zeroOf prodW) a.2 else (r,a.2)):=by
   show _=_
   rw [HG.out,hargs,evs,evs,evs,evs,evh,evh,evh,evh,bindG_three,if_pos (by first|exact .inl rfl|exact .inr rfl),HA.out,limG_lims,HL.out]
  by_cases hre:r.e=0
  ·have heb:(r.e != 0)=false:=by simpa using hre
   have hszs:∀ u∈[ta,tb,tc],u.size≤N∧WF u:=fun u hu=>⟨size_list hz (by rw [hargs]; exact hu),hw.parts.2.mem (by rw [hargs]; exact hu)⟩
   have HSZS:=hid hszs
   have HQQ:Hid (inQ fr∧inQ top):=by
    have h1:=limsG_ok (a:=a) (fun h0=>by
     rw [← HA.out]at h0 ⊢
     exact (argsG_ok _ _ _ _ (fun g hg=>by
      rcases List.mem_cons.1 hg with rfl|hg
      ·exact ev_ok N ta (hszs ta (by simp)).1 _ HOKs.out
      ·rw [List.mem_singleton]at hg; subst hg; exact ev_ok N tb (hszs tb (by simp)).1 _ HOKs.out) (fun x hx=>by cases hx) h0).1) (by rw [HL.out]; exact hre)
    rw [HL.out]at h1; exact h1
   have HA2:Hid (a.2≤2000):=by
    show _≤_
    rw [← HA.out]
    exact (argsG_mon _ _ _ _ (fun g hg=>by
     rcases List.mem_cons.1 hg with rfl|hg
     ·exact ev_mon N ta (hszs ta (by simp)).1 _
     ·rw [List.mem_singleton]at hg; subst hg; exact ev_mon N tb (hszs tb (by simp)).1 _)).2 hc
   have HG5:Hid (ev t (s++E) c=loopB (fun k=>ev tc ((t.var,whV k)::(s++E))) (addOf prodW) fr top 2001 fr (zeroOf prodW) a.2):=HG4.out.trans (if_pos hre)
   clear hszs hre;go_upto_region 12 with (fail)
   have HL5b:Hid (LJ w w5 xb nb ob B0 B1 E s (.pointer p) b o mb (.cells (zeroOf prodW).cells 44 (0,0)) A ca t.args a.2):=by
    exact HL5.out
   clear m0 m1 m2 m3 m4 m5 m6 m7 m8 m9 m10 heb;go_wp2_with fail;go_loopg [12] 2002 (fun gg s12 wr=>∃ (k:Int)(v:V)(ci f:Nat),f≤gg∧s12=.int .i64 k∧Aside (ev t (s++E) c=loopB (fun k=>ev tc ((t.var,whV k)::(s++E))) (addOf prodW) fr top f k v ci)∧Aside (2001≤f+ci)∧Aside (ci≤2000)∧Aside (fr≤k∧k≤2147483648)∧Aside (v.ok)∧Aside (LJ w wr xb nb ob B0 B1 E s (.pointer p) b o mb (.cells v.cells 44 (0,0)) A ca t.args ci)∧Aside (wr.cell? ⟨b,o+2,none⟩=some (.string ⟨t.var.toArray⟩)))
   case atStart=>exact ⟨fr,zeroOf prodW,a.2,2001,by omega,rfl,HG5.out,Nat.le_add_right _ _,HA2.out,⟨Int.le_refl _,by have h1:inQ fr:=HQQ.out.1; unfold inQ at h1; omega⟩,zeroOf_ok prodW,HL5b.out,HD25.out⟩
   case round=>
    obtain ⟨k,v,ci,f,hf,rfl,HEQ,HFC,HCI,HKB,HVO,HLR,HDV⟩:=hrel
    obtain ⟨f,rfl⟩:∃ f',f=f'+1:=⟨f-1,by have:=HFC.out; have:=HCI.out; omega⟩
    by_cases hkt:k≤top
    ·obtain ⟨⟨e0,e1,e2⟩,ef,_⟩:=HLR.out.cx.eb.cells
     by_cases hcl:ci=2000
     ·have hczb:((ci:Int) == 2000)=true:=by rw [beq_iff_eq]; omega
      have HRE:Hid (ev t (s++E) c=(erR 6,ci)):=HEQ.out.trans (loopB_full _ _ _ _ _ _ _ _ hkt (by omega))
      obtain ⟨⟨z0,z1,z2,z3,z4,z5,z6,z7,z8,z9,z10⟩,zf,_⟩:=HLR.out.k6.cells
      go_wp2_with fail;rw [HRE.out];refine bodyPost_ret (v:=.agg (R.cells (erR 6) (.slice none 0 0))) (by simp [results,Tryz.results82,go_sem,R.cells,erR,zV,zD,z0,z1,z2,z3,z4,z5,z6,z7,z8,z9,z10]) rfl ⟨_,rfl,((BO.nil wr (w.heap.size+1)).set11 (Nat.lt_succ_self _) (erR 6) (.slice none 0 0)).less (Nat.le_succ _),grown11 HLR.out.gr (erR 6) (.slice none 0 0),eb11 ⟨HLR.out.cx.eb,HX0.out⟩ (erR 6) (.slice none 0 0)⟩
     ·have hci:ci<2000:=by have:=HCI.out; omega
      have hczb:((ci:Int) == 2000)=false:=by rw [beq_eq_false_iff_ne]; omega
      have hciz:(ci:Int)<2000:=by omega
      have hci0:(0:Int)≤(ci:Int):=Int.natCast_nonneg ci
      obtain ⟨g,hg⟩:∃ g,ev tc ((t.var,whV k)::(s++E)) (ci+1)=g:=⟨_,rfl⟩
      obtain ⟨r2,c2⟩:=g
      have HRE:=hid (HEQ.out.trans (loopB_succ _ _ _ _ _ _ _ _ hkt (by omega) r2 c2 hg))
      rw [addOf_prod]at HRE
      have HKQ:Hid (inQ k):=by
       show inQ k
       have h1:inQ fr:=HQQ.out.1
       have h2:inQ top:=HQQ.out.2
       have h3:=HKB.out
       unfold inQ at*
       omega
      have HRO:Hid (r2.e=0→r2.v.ok):=fun h0=>by
       have:=ev_ok N tc (HSZS.out tc (by simp)).1 ((t.var,whV k)::(s++E)) (fun q hq=>by
        rcases List.mem_cons.1 hq with rfl|hq
        ·exact wh_ok HKQ.out
        ·exact HOKs.out q hq) (ci+1)
       rw [hg]at this
       exact this h0
      have HC2:Hid (ci+1≤c2∧c2≤2000):=by
       have:=ev_mon N tc (HSZS.out tc (by simp)).1 ((t.var,whV k)::(s++E)) (ci+1)
       rw [hg]at this
       exact ⟨this.1,this.2 hci⟩
      have HPL:Hid (r2.path.length≤2000):=by
       have:=ev_path N tc (HSZS.out tc (by simp)).1 ((t.var,whV k)::(s++E)) (ci+1)
       rw [hg]at this
       exact Nat.le_trans this hN
      have hla:=HLR.out.step (gr_up (w:=wr) (xb:=xb) (.int .i64 ((ci:Int)+1))) HLR.out.cx.eb.up
      have HLA:=hid hla
      have HDA:Hid ((wr.setCell ⟨xb,2,none⟩ (.int .i64 ((ci:Int)+1))).cell? ⟨b,o+2,none⟩=some (.string ⟨t.var.toArray⟩)):=(keepG HDV.out HDV.out hbx hbx (gr_up _)).1
      clear hla;go_upto_region 18 with (fail);clear e0 e1 e2 ef hczb hcl hkt hciz hci0;generalize wr.setCell ⟨xb,2,none⟩ (.int .i64 ((ci:Int)+1))=wA at*;obtain ⟨b1',o1',rfl,hts⟩:=HLA.out.ta (by rw [hargs]; simp)
      rw [hargs]at hts
      have htr:TR wA B0 b1' (o1'+10) tc:=by
       have h1:=hts.at_ 2 tc rfl
       simpa using h1
      have HXA:=hid HLA.out.cx.xlt
      have HSC:Hid (∀ (wz:World) (sb:Nat),Below wA.heap.size wA wz→KS wz sb t.var (whV k) (.pointer p)→wA.heap.size≤sb→Calls Tryz.prog 41 #[.pointer (some ⟨xb,0,none⟩),.pointer (some ⟨b1',o1'+10,none⟩),.pointer (some ⟨sb,0,none⟩)] wz fun e w'=>∃ q,e=.returned (.agg (r2.cells q))∧BO w' wz.heap.size q r2.path∧wz.grownBy w' (some xb)∧EB w' xb nb ob c2):=fun wz sb h1 h2 h3=>by
       have:=scope_call HIH.out tc (HSZS.out tc (by simp)).1 (HSZS.out tc (by simp)).2 s (.pointer p) t.var (whV k) HVL.out (ci+1) b1' (o1'+10) wA wz sb hci (wh_ok HKQ.out) HOKs.out htr HLA.out.cx HLA.out.scw h1 h2 h3
       rw [hg]at this
       exact this
      have HUN:Hid (∀ (q:Value)(wz:World),BI wz q r2.path→Calls Tryz.prog 83 #[.agg (r2.cells q),.int .i64 2] wz fun e w'=>∃ A c,e=.returned (.agg #[.int .i64 (r2.under 2).v.num,.int .i64 (r2.under 2).v.den,.int .i64 (r2.under 2).v.dim.a,.int .i64 (r2.under 2).v.dim.b,.int .i64 (r2.under 2).v.dim.c,.int .i64 (r2.under 2).v.dim.d,.int .i64 (r2.under 2).v.dim.e,.int .i64 (r2.under 2).v.dim.f,.int .i64 (r2.under 2).v.dim.g,.slice A (r2.under 2).path.length c,.int .i64 (r2.under 2).e])∧BI w' (.slice A (r2.under 2).path.length c) (r2.under 2).path∧(.slice A (r2.under 2).path.length c=q∨∀ b o n c',Value.slice A (r2.under 2).path.length c=.slice (some ⟨b,o,none⟩) n c'→wz.heap.size≤b)∧Below wz.heap.size wz w'):=fun q wz h=>under_lit2 r2 q 2 wz h (by have:=HPL.out; omega)
      have HUE:=hid (under_e r2 2)
      have HUV:=hid (under_v r2 2)
      have hd3:=HLA.out.d3
      rw [h3]at hd3
      have hd2:=HDA.out
      clear hts htr hg;have HRUE:Hid (r2.under 2=r2.under 2):=rfl
      obtain ⟨ru,hru⟩:∃ ru,r2.under 2=ru:=⟨_,rfl⟩
      rw [hru]at HUN HUE HUV
      replace HRUE:Hid (r2.under 2=ru):=hru
      clear hru;go_cut [13] (fun s13 wx=>∃ (m:Nat)(A5:Option Addr) (c5:Nat),s13=.pointer (some ⟨m,0,none⟩)∧Aside (RZ wA wx xb nb ob c2 m ru (.slice A5 ru.path.length c5)))
      case first=>
       go_region_held_law (fun w'=>w'.cell? ⟨b,o+3,none⟩=some (.slice (some ⟨b1',o1',none⟩) 3 ca)∧w'.cell? ⟨b,o+2,none⟩=some (.string ⟨t.var.toArray⟩)) ((refine keepG hd3 hd2 hbx hbx ?_; repeat (first|with_reducible exact gx_refl|with_reducible apply gx_dr|with_reducible apply gx_al|with_reducible refine gx_st ?_ hk2 _|with_reducible refine gx_bl ?_ (by assumption)|with_reducible refine gx_gr ?_ (by assumption)))) (first|(go_at_call 125; (with_reducible refine (HWH.out k _).mono ?_); rintro e wz ⟨rfl,hbz⟩; (first|(have hk:=P11.reach (by assumption) hbz; (try simp only [World.size_alloc]at hk); obtain ⟨⟨k0,k1,k2,k3,k4,k5,k6,k7,k8,k9,k10⟩,kf,_⟩:=hk.1.cells; have hk2:=hk.2)|(have hk:=P11.reach (P11.al (P11.zero (w0:=wA) (xb:=xb) (by show Gx _ _ _; repeat (first|with_reducible exact gx_refl|with_reducible apply gx_dr|with_reducible apply gx_al|with_reducible refine gx_st ?_ hk2 _|with_reducible refine gx_bl ?_ (by assumption)|with_reducible refine gx_gr ?_ (by assumption)))) _) hbz; (try simp only [World.size_alloc]at hk); obtain ⟨⟨k0,k1,k2,k3,k4,k5,k6,k7,k8,k9,k10⟩,kf,_⟩:=hk.1.cells; have hk2:=hk.2)|(have hk:=P11.reach (P11.al (P11.dr (P11.zero (w0:=wA) (xb:=xb) (by show Gx _ _ _; repeat (first|with_reducible exact gx_refl|with_reducible apply gx_dr|with_reducible apply gx_al|with_reducible refine gx_st ?_ hk2 _|with_reducible refine gx_bl ?_ (by assumption)|with_reducible refine gx_gr ?_ (by assumption))))) _) hbz; (try simp only [World.size_alloc]at hk); obtain ⟨⟨k0,k1,k2,k3,k4,k5,k6,k7,k8,k9,k10⟩,kf,_⟩:=hk.1.cells; have hk2:=hk.2)|(have hk:=P11.reach (P11.al (P11.al (by assumption) _) _) hbz; (try simp only [World.size_alloc]at hk); obtain ⟨⟨k0,k1,k2,k3,k4,k5,k6,k7,k8,k9,k10⟩,kf,_⟩:=hk.1.cells; have hk2:=hk.2)|(have hk:=P11.reach (P11.al (by assumption) _) hbz; (try simp only [World.size_alloc]at hk); obtain ⟨⟨k0,k1,k2,k3,k4,k5,k6,k7,k8,k9,k10⟩,kf,_⟩:=hk.1.cells; have hk2:=hk.2)|(have hk:=P11.reach (P11.zero (w0:=wA) (xb:=xb) (by show Gx _ _ _; repeat (first|with_reducible exact gx_refl|with_reducible apply gx_dr|with_reducible apply gx_al|with_reducible refine gx_st ?_ hk2 _|with_reducible refine gx_bl ?_ (by assumption)|with_reducible refine gx_gr ?_ (by assumption)))) hbz; (try simp only [World.size_alloc]at hk); obtain ⟨⟨k0,k1,k2,k3,k4,k5,k6,k7,k8,k9,k10⟩,kf,_⟩:=hk.1.cells; have hk2:=hk.2)|(have hk:=P11.reach (P11.dr (P11.zero (w0:=wA) (xb:=xb) (by show Gx _ _ _; repeat (first|with_reducible exact gx_refl|with_reducible apply gx_dr|with_reducible apply gx_al|with_reducible refine gx_st ?_ hk2 _|with_reducible refine gx_bl ?_ (by assumption)|with_reducible refine gx_gr ?_ (by assumption))))) hbz; (try simp only [World.size_alloc]at hk); obtain ⟨⟨k0,k1,k2,k3,k4,k5,k6,k7,k8,k9,k10⟩,kf,_⟩:=hk.1.cells; have hk2:=hk.2)|skip))|(go_at_call 41; (with_reducible refine (HSC.out _ _ (by show Below _ _ _; repeat (first|with_reducible exact Below.refl _ _|with_reducible apply bl_dr|with_reducible apply bl_al|with_reducible refine bl_tr ?_ (by assumption))) (by first|exact KS.whole _ _ _ _|exact KS.whole1 _ _ _ _ _|exact (KS.whole _ _ _ _).al _) (by have hq:wA.heap.size≤wz.heap.size:=Below.size (by show Below _ _ _; repeat (first|with_reducible exact Below.refl _ _|with_reducible apply bl_dr|with_reducible apply bl_al|with_reducible refine bl_tr ?_ (by assumption))); first|exact hq|exact Nat.le_succ_of_le hq)).mono ?_); rintro e wy ⟨q0,rfl,hq0,hgy,hey⟩; (first|(have hk:=P11.grow (by assumption) HXA.out hgy; (try simp only [World.size_alloc]at hk); obtain ⟨⟨k0,k1,k2,k3,k4,k5,k6,k7,k8,k9,k10⟩,kf,_⟩:=hk.1.cells; have hk2:=hk.2)|(have hk:=P11.grow (P11.al (P11.zero (w0:=wA) (xb:=xb) (by show Gx _ _ _; repeat (first|with_reducible exact gx_refl|with_reducible apply gx_dr|with_reducible apply gx_al|with_reducible refine gx_st ?_ hk2 _|with_reducible refine gx_bl ?_ (by assumption)|with_reducible refine gx_gr ?_ (by assumption)))) _) HXA.out hgy; (try simp only [World.size_alloc]at hk); obtain ⟨⟨k0,k1,k2,k3,k4,k5,k6,k7,k8,k9,k10⟩,kf,_⟩:=hk.1.cells; have hk2:=hk.2)|(have hk:=P11.grow (P11.al (P11.dr (P11.zero (w0:=wA) (xb:=xb) (by show Gx _ _ _; repeat (first|with_reducible exact gx_refl|with_reducible apply gx_dr|with_reducible apply gx_al|with_reducible refine gx_st ?_ hk2 _|with_reducible refine gx_bl ?_ (by assumption)|with_reducible refine gx_gr ?_ (by assumption))))) _) HXA.out hgy; (try simp only [World.size_alloc]at hk); obtain ⟨⟨k0,k1,k2,k3,k4,k5,k6,k7,k8,k9,k10⟩,kf,_⟩:=hk.1.cells; have hk2:=hk.2)|(have hk:=P11.grow (P11.al (P11.al (by assumption) _) _) HXA.out hgy; (try simp only [World.size_alloc]at hk); obtain ⟨⟨k0,k1,k2,k3,k4,k5,k6,k7,k8,k9,k10⟩,kf,_⟩:=hk.1.cells; have hk2:=hk.2)|(have hk:=P11.grow (P11.al (by assumption) _) HXA.out hgy; (try simp only [World.size_alloc]at hk); obtain ⟨⟨k0,k1,k2,k3,k4,k5,k6,k7,k8,k9,k10⟩,kf,_⟩:=hk.1.cells; have hk2:=hk.2)|(have hk:=P11.grow (P11.zero (w0:=wA) (xb:=xb) (by show Gx _ _ _; repeat (first|with_reducible exact gx_refl|with_reducible apply gx_dr|with_reducible apply gx_al|with_reducible refine gx_st ?_ hk2 _|with_reducible refine gx_bl ?_ (by assumption)|with_reducible refine gx_gr ?_ (by assumption)))) HXA.out hgy; (try simp only [World.size_alloc]at hk); obtain ⟨⟨k0,k1,k2,k3,k4,k5,k6,k7,k8,k9,k10⟩,kf,_⟩:=hk.1.cells; have hk2:=hk.2)|(have hk:=P11.grow (P11.dr (P11.zero (w0:=wA) (xb:=xb) (by show Gx _ _ _; repeat (first|with_reducible exact gx_refl|with_reducible apply gx_dr|with_reducible apply gx_al|with_reducible refine gx_st ?_ hk2 _|with_reducible refine gx_bl ?_ (by assumption)|with_reducible refine gx_gr ?_ (by assumption))))) HXA.out hgy; (try simp only [World.size_alloc]at hk); obtain ⟨⟨k0,k1,k2,k3,k4,k5,k6,k7,k8,k9,k10⟩,kf,_⟩:=hk.1.cells; have hk2:=hk.2)|skip))|(go_at_call 83; (with_reducible refine (HUN.out _ _ (by first|exact BO.bi hq0|exact BI.reach (BO.bi hq0) (b1 _ _))).mono ?_); rintro e wx ⟨A5,c5,rfl,hq5,hq5b,hbx5⟩; (first|(have hk:=P11.reach (by assumption) hbx5; (try simp only [World.size_alloc]at hk); obtain ⟨⟨k0,k1,k2,k3,k4,k5,k6,k7,k8,k9,k10⟩,kf,_⟩:=hk.1.cells; have hk2:=hk.2)|(have hk:=P11.reach (P11.al (P11.zero (w0:=wA) (xb:=xb) (by show Gx _ _ _; repeat (first|with_reducible exact gx_refl|with_reducible apply gx_dr|with_reducible apply gx_al|with_reducible refine gx_st ?_ hk2 _|with_reducible refine gx_bl ?_ (by assumption)|with_reducible refine gx_gr ?_ (by assumption)))) _) hbx5; (try simp only [World.size_alloc]at hk); obtain ⟨⟨k0,k1,k2,k3,k4,k5,k6,k7,k8,k9,k10⟩,kf,_⟩:=hk.1.cells; have hk2:=hk.2)|(have hk:=P11.reach (P11.al (P11.dr (P11.zero (w0:=wA) (xb:=xb) (by show Gx _ _ _; repeat (first|with_reducible exact gx_refl|with_reducible apply gx_dr|with_reducible apply gx_al|with_reducible refine gx_st ?_ hk2 _|with_reducible refine gx_bl ?_ (by assumption)|with_reducible refine gx_gr ?_ (by assumption))))) _) hbx5; (try simp only [World.size_alloc]at hk); obtain ⟨⟨k0,k1,k2,k3,k4,k5,k6,k7,k8,k9,k10⟩,kf,_⟩:=hk.1.cells; have hk2:=hk.2)|(have hk:=P11.reach (P11.al (P11.al (by assumption) _) _) hbx5; (try simp only [World.size_alloc]at hk); obtain ⟨⟨k0,k1,k2,k3,k4,k5,k6,k7,k8,k9,k10⟩,kf,_⟩:=hk.1.cells; have hk2:=hk.2)|(have hk:=P11.reach (P11.al (by assumption) _) hbx5; (try simp only [World.size_alloc]at hk); obtain ⟨⟨k0,k1,k2,k3,k4,k5,k6,k7,k8,k9,k10⟩,kf,_⟩:=hk.1.cells; have hk2:=hk.2)|(have hk:=P11.reach (P11.zero (w0:=wA) (xb:=xb) (by show Gx _ _ _; repeat (first|with_reducible exact gx_refl|with_reducible apply gx_dr|with_reducible apply gx_al|with_reducible refine gx_st ?_ hk2 _|with_reducible refine gx_bl ?_ (by assumption)|with_reducible refine gx_gr ?_ (by assumption)))) hbx5; (try simp only [World.size_alloc]at hk); obtain ⟨⟨k0,k1,k2,k3,k4,k5,k6,k7,k8,k9,k10⟩,kf,_⟩:=hk.1.cells; have hk2:=hk.2)|(have hk:=P11.reach (P11.dr (P11.zero (w0:=wA) (xb:=xb) (by show Gx _ _ _; repeat (first|with_reducible exact gx_refl|with_reducible apply gx_dr|with_reducible apply gx_al|with_reducible refine gx_st ?_ hk2 _|with_reducible refine gx_bl ?_ (by assumption)|with_reducible refine gx_gr ?_ (by assumption))))) hbx5; (try simp only [World.size_alloc]at hk); obtain ⟨⟨k0,k1,k2,k3,k4,k5,k6,k7,k8,k9,k10⟩,kf,_⟩:=hk.1.cells; have hk2:=hk.2)|skip)))
       all_goals
        go_wp2_with fail;go_meet
        case rel=>exact ⟨_,_,_,rfl,by show RZ _ _ _ _ _ _ _ _ _; first|with_reducible exact RZ.new (by show Gx _ _ _; repeat (first|with_reducible exact gx_refl|with_reducible apply gx_dr|with_reducible apply gx_al|with_reducible refine gx_st ?_ hk2 _|with_reducible refine gx_bl ?_ (by assumption)|with_reducible refine gx_gr ?_ (by assumption))) hgy hq0 hey hbx5 hq5 hq5b|with_reducible exact RZ.set2 HXA.out hk (by show Gx _ _ _; repeat (first|with_reducible exact gx_refl|with_reducible apply gx_dr|with_reducible apply gx_al|with_reducible refine gx_st ?_ hk2 _|with_reducible refine gx_bl ?_ (by assumption)|with_reducible refine gx_gr ?_ (by assumption))) hgy hq0 hey (Below.refl _ _) hbx5 hq5 hq5b ⟨_,_,rfl⟩ (.inl (by have h1:=hbz.size; simp only [World.size_alloc,World.size_drew]at h1 ⊢; omega))|with_reducible exact RZ.set2 HXA.out hk (by show Gx _ _ _; repeat (first|with_reducible exact gx_refl|with_reducible apply gx_dr|with_reducible apply gx_al|with_reducible refine gx_st ?_ hk2 _|with_reducible refine gx_bl ?_ (by assumption)|with_reducible refine gx_gr ?_ (by assumption))) hgy hq0 hey (b1 _ _) hbx5 hq5 hq5b ⟨_,_,rfl⟩ (.inr ⟨rfl,by simp only [World.size_alloc]; omega⟩)⟩
      case rest=>
       obtain ⟨m,A6,c6,rfl,HRZ⟩:=hcut
       rename World=>wB
       have HLB:=hid (HLA.out.step HRZ.out.gx HRZ.out.eb)
       have HDB:Hid (wB.cell? ⟨b,o+2,none⟩=some (.string ⟨t.var.toArray⟩)):=(keepG HDA.out HDA.out hbx hbx HRZ.out.gx).1
       have HSA:Hid (w.heap.size+1≤wA.heap.size):=by have h1:=HLA.out.lo; show _≤_; omega
       obtain ⟨⟨m0,m1,m2,m3,m4,m5,m6,m7,m8,m9,m10⟩,mf,_⟩:=HRZ.out.k.1.cells
       clear hd2 hd3;have hkq:-2147483647≤k∧k≤2147483647:=HKQ.out
       by_cases hre:ru.e=0
       ·have heb:(ru.e != 0)=false:=by simpa using hre
        have hre2:r2.e=0:=HUE.out.symm.trans hre
        have HRE2:=hid (HRE.out.trans (if_pos hre2))
        rw [← HUV.out]at HRE2
        have HRO2:Hid (ru.v.ok):=by show V.ok _; rw [HUV.out]; exact HRO.out hre2
        clear hre hre2;by_cases hkf:k=fr
        ·have hkfb:(k == fr)=true:=by simpa using hkf
         have HRE3:=hid (HRE2.out.trans (if_pos hkf))
         clear hkf;have hk9:K9 wB mb v:=HLB.out.ko
         have HLC:Hid (LJ w (((((((((wB.setCell ⟨mb,0,none⟩ (.int .i64 ru.v.num)).setCell ⟨mb,1,none⟩ (.int .i64 ru.v.den)).setCell ⟨mb,2,none⟩ (.int .i64 ru.v.dim.a)).setCell ⟨mb,3,none⟩ (.int .i64 ru.v.dim.b)).setCell ⟨mb,4,none⟩ (.int .i64 ru.v.dim.c)).setCell ⟨mb,5,none⟩ (.int .i64 ru.v.dim.d)).setCell ⟨mb,6,none⟩ (.int .i64 ru.v.dim.e)).setCell ⟨mb,7,none⟩ (.int .i64 ru.v.dim.f)).setCell ⟨mb,8,none⟩ (.int .i64 ru.v.dim.g)) xb nb ob B0 B1 E s (.pointer p) b o mb (.cells ru.v.cells 44 (0,0)) (some ⟨b1',o1',none⟩) ca t.args c2):=HLB.out.put (w':=set9 wB mb ru.v) HM8.out (below9 (Below.refl 0 wB) (Nat.zero_le _) ru.v) (set9_other wB mb ru.v) (set9_K9 hk9 ru.v)
         have HDC:Hid ((((((((((wB.setCell ⟨mb,0,none⟩ (.int .i64 ru.v.num)).setCell ⟨mb,1,none⟩ (.int .i64 ru.v.den)).setCell ⟨mb,2,none⟩ (.int .i64 ru.v.dim.a)).setCell ⟨mb,3,none⟩ (.int .i64 ru.v.dim.b)).setCell ⟨mb,4,none⟩ (.int .i64 ru.v.dim.c)).setCell ⟨mb,5,none⟩ (.int .i64 ru.v.dim.d)).setCell ⟨mb,6,none⟩ (.int .i64 ru.v.dim.e)).setCell ⟨mb,7,none⟩ (.int .i64 ru.v.dim.f)).setCell ⟨mb,8,none⟩ (.int .i64 ru.v.dim.g)).cell? ⟨b,o+2,none⟩=some (.string ⟨t.var.toArray⟩)):=(cell_of_block (set9_other wB mb ru.v b (by have:=HM8.out; have:=HBW.out; omega)) _).trans HDB.out
         obtain ⟨⟨⟨y0,y1⟩,y2,y3,y4,y5,y6,y7,y8⟩,yf,_⟩:=hk9.cells
         clear hk9;go_wp2_with fail;go_roundg f
         case measure=>omega
         case rel=>exact ⟨k+1,ru.v,c2,f,Nat.le_refl _,rfl,HRE3.out,by have h1:=HFC.out; have h2:=HC2.out; show _≤_; omega,HC2.out.2,⟨by have h1:=HKB.out; omega,by omega⟩,HRO2.out,HLC.out,HDC.out⟩
        ·have hkfb:(k == fr)=false:=by simpa using hkf
         have HRE3:=hid (HRE2.out.trans (if_neg hkf))
         clear hkf;have hk9:K9 wB mb v:=HLB.out.ko
         obtain ⟨⟨⟨y0,y1⟩,y2,y3,y4,y5,y6,y7,y8⟩,yf,_⟩:=hk9.cells
         have HADD:Hid (∀ (wz:World) (pb:Nat),C9 wz pb 0 v→C9 wz pb (0+9) ru.v→Calls Tryz.prog 72 #[.slice (some ⟨pb,0,none⟩) 2 2] wz fun r w'=>r=.returned (.tuple #[.agg (proV v ru.v).1.cells,.int .i64 (proV v ru.v).2])∧Below wz.heap.size wz w'):=fun wz pb h1 h2=>pro_any v ru.v HVO.out HRO2.out pb 0 2 wz h1 h2
         have HAO:Hid ((proV v ru.v).2=0→(proV v ru.v).1.ok):=fun h=>proV_ok h
         generalize proV v ru.v=jj at*;obtain ⟨jv,je⟩:=jj
         dsimp only at HADD HAO HRE3
         have HC:=hid (two9 (heap_alloc_new wB (.cells #[.int .i64 v.num,.int .i64 v.den,.int .i64 v.dim.a,.int .i64 v.dim.b,.int .i64 v.dim.c,.int .i64 v.dim.d,.int .i64 v.dim.e,.int .i64 v.dim.f,.int .i64 v.dim.g,.int .i64 ru.v.num,.int .i64 ru.v.den,.int .i64 ru.v.dim.a,.int .i64 ru.v.dim.b,.int .i64 ru.v.dim.c,.int .i64 ru.v.dim.d,.int .i64 ru.v.dim.e,.int .i64 ru.v.dim.f,.int .i64 ru.v.dim.g] 44)))
         go_wp2_with fail;refine (HADD.out _ _ HC.out.1 HC.out.2).mono ?_
         rintro e wC ⟨rfl,hbC⟩
         have hb18:=bl_tr (b1 wB (.cells #[.int .i64 v.num,.int .i64 v.den,.int .i64 v.dim.a,.int .i64 v.dim.b,.int .i64 v.dim.c,.int .i64 v.dim.d,.int .i64 v.dim.e,.int .i64 v.dim.f,.int .i64 v.dim.g,.int .i64 ru.v.num,.int .i64 ru.v.den,.int .i64 ru.v.dim.a,.int .i64 ru.v.dim.b,.int .i64 ru.v.dim.c,.int .i64 ru.v.dim.d,.int .i64 ru.v.dim.e,.int .i64 ru.v.dim.f,.int .i64 ru.v.dim.g] 44)) hbC
         have HLC:=hid (HLB.out.reach hb18)
         have HDC:=hid ((hb18.cell (block_lt_of_cell HDB.out)).trans HDB.out)
         clear hbC hb18 HC y0 y1 y2 y3 y4 y5 y6 y7 y8 yf hk9;have hk9:K9 wC mb v:=HLC.out.ko
         have HLD:Hid (LJ w (((((((((wC.setCell ⟨mb,0,none⟩ (.int .i64 jv.num)).setCell ⟨mb,1,none⟩ (.int .i64 jv.den)).setCell ⟨mb,2,none⟩ (.int .i64 jv.dim.a)).setCell ⟨mb,3,none⟩ (.int .i64 jv.dim.b)).setCell ⟨mb,4,none⟩ (.int .i64 jv.dim.c)).setCell ⟨mb,5,none⟩ (.int .i64 jv.dim.d)).setCell ⟨mb,6,none⟩ (.int .i64 jv.dim.e)).setCell ⟨mb,7,none⟩ (.int .i64 jv.dim.f)).setCell ⟨mb,8,none⟩ (.int .i64 jv.dim.g)) xb nb ob B0 B1 E s (.pointer p) b o mb (.cells jv.cells 44 (0,0)) (some ⟨b1',o1',none⟩) ca t.args c2):=HLC.out.put (w':=set9 wC mb jv) HM8.out (below9 (Below.refl 0 wC) (Nat.zero_le _) jv) (set9_other wC mb jv) (set9_K9 hk9 jv)
         have HDD:Hid ((((((((((wC.setCell ⟨mb,0,none⟩ (.int .i64 jv.num)).setCell ⟨mb,1,none⟩ (.int .i64 jv.den)).setCell ⟨mb,2,none⟩ (.int .i64 jv.dim.a)).setCell ⟨mb,3,none⟩ (.int .i64 jv.dim.b)).setCell ⟨mb,4,none⟩ (.int .i64 jv.dim.c)).setCell ⟨mb,5,none⟩ (.int .i64 jv.dim.d)).setCell ⟨mb,6,none⟩ (.int .i64 jv.dim.e)).setCell ⟨mb,7,none⟩ (.int .i64 jv.dim.f)).setCell ⟨mb,8,none⟩ (.int .i64 jv.dim.g)).cell? ⟨b,o+2,none⟩=some (.string ⟨t.var.toArray⟩)):=(cell_of_block (set9_other wC mb jv b (by have:=HM8.out; have:=HBW.out; omega)) _).trans HDC.out
         obtain ⟨⟨⟨y0,y1⟩,y2,y3,y4,y5,y6,y7,y8⟩,yf,_⟩:=hk9.cells
         clear hk9 m0 m1 m2 m3 m4 m5 m6 m7 m8 m9 m10 mf;unfold V.cells;go_upto_region 25 with (fail);clear y0 y1 y2 y3 y4 y5 y6 y7 y8 yf;generalize (((((((((wC.setCell ⟨mb,0,none⟩ (.int .i64 jv.num)).setCell ⟨mb,1,none⟩ (.int .i64 jv.den)).setCell ⟨mb,2,none⟩ (.int .i64 jv.dim.a)).setCell ⟨mb,3,none⟩ (.int .i64 jv.dim.b)).setCell ⟨mb,4,none⟩ (.int .i64 jv.dim.c)).setCell ⟨mb,5,none⟩ (.int .i64 jv.dim.d)).setCell ⟨mb,6,none⟩ (.int .i64 jv.dim.e)).setCell ⟨mb,7,none⟩ (.int .i64 jv.dim.f)).setCell ⟨mb,8,none⟩ (.int .i64 jv.dim.g))=wD at*
         by_cases hje:je=0
         ·have hjeb:(je != 0)=false:=by simpa using hje
          have HRE4:=hid (HRE3.out.trans (if_pos hje))
          have HAO2:Hid (jv.ok):=HAO.out hje
          clear hje;go_wp2_with fail;go_roundg f
          case measure=>omega
          case rel=>exact ⟨k+1,jv,c2,f,Nat.le_refl _,rfl,HRE4.out,by have h1:=HFC.out; have h2:=HC2.out; show _≤_; omega,HC2.out.2,⟨by have h1:=HKB.out; omega,by omega⟩,HAO2.out,HLD.out,HDD.out⟩
         ·have hjeb:(je != 0)=true:=by simpa using hje
          have HRE4:=hid (HRE3.out.trans (if_neg hje))
          clear hje;obtain ⟨⟨z0,z1,z2,z3,z4,z5,z6,z7,z8,z9,z10⟩,zf,_⟩:=HLD.out.k6.cells
          go_wp2_with fail;rw [HRE4.out];refine bodyPost_ret (v:=.agg (R.cells (erR je) (.slice none 0 0))) (by simp [results,Tryz.results82,go_sem,R.cells,erR,zV,zD,z0,z1,z2,z3,z4,z5,z6,z7,z8,z9,z10]) rfl ⟨_,rfl,((BO.nil wD (w.heap.size+1)).set11 (Nat.lt_succ_self _) (erR je) (.slice none 0 0)).less (Nat.le_succ _),grown11 HLD.out.gr (erR je) (.slice none 0 0),eb11 ⟨HLD.out.cx.eb,HX0.out⟩ (erR je) (.slice none 0 0)⟩
       ·have heb:(ru.e != 0)=true:=by simpa using hre
        have hre2:¬ r2.e=0:=fun h=>hre (HUE.out.trans h)
        have HRE2:=hid (HRE.out.trans (if_neg hre2))
        have HRU:Hid (r2.under 2=ru):=HRUE.out
        rw [HRU.out]at HRE2
        clear hre hre2;obtain ⟨⟨z0,z1,z2,z3,z4,z5,z6,z7,z8,z9,z10⟩,zf,_⟩:=HLB.out.k6.cells
        have hne6:m≠w.heap.size:=by have h1:=HRZ.out.k.2; have h2:=HSA.out; omega
        go_wp2_with fail;rw [HRE2.out];refine bodyPost_ret (v:=.agg (R.cells ru (.slice A6 ru.path.length c6))) (by simp [results,Tryz.results82,go_sem,R.cells,z0,z1,z2,z3,z4,z5,z6,z7,z8,z9,z10]) rfl ⟨_,rfl,(((show BO wB (w.heap.size+1) (.slice A6 ru.path.length c6) ru.path from ⟨HRZ.out.bi,fun b o n c e=>Nat.le_trans HSA.out (HRZ.out.far b o n c e)⟩)).set11 (Nat.lt_succ_self _) ru (.slice A6 ru.path.length c6)).less (Nat.le_succ _),grown11 HLB.out.gr ru (.slice A6 ru.path.length c6),eb11 ⟨HLB.out.cx.eb,HX0.out⟩ ru (.slice A6 ru.path.length c6)⟩
    ·have HRE:=hid (HEQ.out.trans (loopB_end _ _ _ _ _ _ _ _ hkt))
     have hk9:K9 wr mb v:=HLR.out.ko
     obtain ⟨⟨⟨y0,y1⟩,y2,y3,y4,y5,y6,y7,y8⟩,yf,_⟩:=hk9.cells
     obtain ⟨⟨z0,z1,z2,z3,z4,z5,z6,z7,z8,z9,z10⟩,zf,_⟩:=HLR.out.k6.cells
     clear hk9;go_wp2_with fail;rw [HRE.out];refine bodyPost_ret (v:=.agg (R.cells (okR v) (.slice none 0 0))) (by simp [results,Tryz.results82,go_sem,R.cells,okR,z0,z1,z2,z3,z4,z5,z6,z7,z8,z9,z10]) rfl ⟨_,rfl,((BO.nil wr (w.heap.size+1)).set11 (Nat.lt_succ_self _) (okR v) (.slice none 0 0)).less (Nat.le_succ _),grown11 HLR.out.gr (okR v) (.slice none 0 0),eb11 ⟨HLR.out.cx.eb,HX0.out⟩ (okR v) (.slice none 0 0)⟩
  ·have heb:(r.e != 0)=true:=by simpa using hre
   have HG5:Hid (ev t (s++E) c=(r,a.2)):=HG4.out.trans (if_neg hre)
   have HSW5:Hid (w.heap.size+1≤w3c.heap.size):=HLJc.out.k6.cells.2.2
   clear hre;obtain ⟨⟨z0,z1,z2,z3,z4,z5,z6,z7,z8,z9,z10⟩,zf,_⟩:=HL5.out.k6.cells
   go_wp2_with fail;rw [HG5.out];refine bodyPost_ret (v:=.agg (R.cells r (.slice A5 r.path.length c5))) (by simp [results,Tryz.results82,go_sem,R.cells,z0,z1,z2,z3,z4,z5,z6,z7,z8,z9,z10]) rfl ⟨_,rfl,(((show BO w5 (w.heap.size+1) (.slice A5 r.path.length c5) r.path from HQ5.out.less HSW5.out)).set11 (Nat.lt_succ_self _) r (.slice A5 r.path.length c5)).less (Nat.le_succ _),grown11 HL5.out.gr r (.slice A5 r.path.length c5),eb11 ⟨HL5.out.cx.eb,HX0.out⟩ r (.slice A5 r.path.length c5)⟩
 ·have hzb:((t.args.length:Int) != 3)=true:=by rw [bne_iff_ne]; omega
  have HG2:Hid (ev t (s++E) c=(erR 13,c)):=by
   show _=_
   rw [HG.out,bindG_len (by rw [evs_map,List.length_map]; exact h3)]; simp [sumW,prodW]
  obtain ⟨⟨z0,z1,z2,z3,z4,z5,z6,z7,z8,z9,z10⟩,zf,_⟩:=HLJc.out.k6.cells
  go_wp2_with fail;rw [HG2.out];refine bodyPost_ret (v:=.agg (R.cells (erR 13) (.slice none 0 0))) (by simp [results,Tryz.results82,go_sem,R.cells,erR,zV,zD,z0,z1,z2,z3,z4,z5,z6,z7,z8,z9,z10]) rfl ⟨_,rfl,((BO.nil w3c (w.heap.size+1)).set11 (Nat.lt_succ_self _) (erR 13) (.slice none 0 0)).less (Nat.le_succ _),grown11 HLJc.out.gr (erR 13) (.slice none 0 0),eb11 ⟨HLJc.out.cx.eb,HX0.out⟩ (erR 13) (.slice none 0 0)⟩
end Go.Proofs.YtknpigdpepmimaaGreatDoor
