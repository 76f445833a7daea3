/- Contracts of the reference's one 96. -/
import Derived.OrdersHeld
import Derived.Test.YtknpigdpepmimaaGreatDoorV22
import Derived.Test.YtknpigdpepmimaaGreatDoorV23
import Derived.Test.YtknpigdpepmimaaGreatDoorV27
import Derived.Test.YtknpigdpepmimaaGreatDoorV25
import Derived.Test.YtknpigdpepmimaaGreatDoorV31
import Derived.Test.YtknpigdpepmimaaGreatDoorV29
import Derived.Lib.Join
import Derived.Lib.ItoaMem
namespace Go.Proofs.YtknpigdpepmimaaGreatDoor
open Go.Lib(hid)
open Go.RowKit Go.Maps
set_option maxRecDepth 100000 in
set_option maxHeartbeats 4000000 in
theorem one_any (n:W8)(x:V)(hx:x.ok)(w:World):Calls Tryz.prog 96 #[.string ⟨n.toArray⟩,.agg x.cells] w fun r w'=>∃ q,r=.returned (.tuple #[.agg (oneV n x).1.cells,.pointer q])∧FO w' w.heap.size q (oneV n x)∧Below w.heap.size w w':=by
 have HE:Hid (oneV n x=if n=[110,101,103]then negV x else if n=[97,98,115]then absV x else if n=[115,113,114,116]then rooV x else if n=[102,97,99,116,111,114,105,97,108]then facV x else (x,0)):=rfl
 generalize oneV n x=R at*;have HX:=hid hx.bnd
 have HXN:=hid hx.num
 have HNG:=hid (neg_ref hx)
 clear hx;have HB:=hid (b2 w (.cells #[.int .i64 x.num,.int .i64 x.den,.int .i64 x.dim.a,.int .i64 x.dim.b,.int .i64 x.dim.c,.int .i64 x.dim.d,.int .i64 x.dim.e,.int .i64 x.dim.f,.int .i64 x.dim.g] 44) (.cells #[.int .i64 0,.int .i64 0,.int .i64 0,.int .i64 0,.int .i64 0,.int .i64 0,.int .i64 0,.int .i64 0,.int .i64 0] 44))
 have HP:Hid (K9 ((w.alloc (.cells #[.int .i64 x.num,.int .i64 x.den,.int .i64 x.dim.a,.int .i64 x.dim.b,.int .i64 x.dim.c,.int .i64 x.dim.d,.int .i64 x.dim.e,.int .i64 x.dim.f,.int .i64 x.dim.g] 44)).alloc (.cells #[.int .i64 0,.int .i64 0,.int .i64 0,.int .i64 0,.int .i64 0,.int .i64 0,.int .i64 0,.int .i64 0,.int .i64 0] 44)) w.heap.size x):=(K9.new w x).reach (b1 _ (.cells #[.int .i64 0,.int .i64 0,.int .i64 0,.int .i64 0,.int .i64 0,.int .i64 0,.int .i64 0,.int .i64 0,.int .i64 0] 44))
 have HK:Hid (K9 ((w.alloc (.cells #[.int .i64 x.num,.int .i64 x.den,.int .i64 x.dim.a,.int .i64 x.dim.b,.int .i64 x.dim.c,.int .i64 x.dim.d,.int .i64 x.dim.e,.int .i64 x.dim.f,.int .i64 x.dim.g] 44)).alloc (.cells #[.int .i64 0,.int .i64 0,.int .i64 0,.int .i64 0,.int .i64 0,.int .i64 0,.int .i64 0,.int .i64 0,.int .i64 0] 44)) (w.heap.size+1) zV):=by
  have h:=K9.new (w.alloc (.cells #[.int .i64 x.num,.int .i64 x.den,.int .i64 x.dim.a,.int .i64 x.dim.b,.int .i64 x.dim.c,.int .i64 x.dim.d,.int .i64 x.dim.e,.int .i64 x.dim.f,.int .i64 x.dim.g] 44)) zV
  rw [World.size_alloc]at h
  exact h
 have hw:IntKind.i64.wrap (-x.num)=-x.num:=wrap64_small (by have:=HXN.out; omega) (by have:=HXN.out; omega)
 unfold V.cells;go_enter Tryz.func96,Tryz.ntmps96;go_upto_region 1 with (fail);generalize (w.alloc (.cells #[.int .i64 x.num,.int .i64 x.den,.int .i64 x.dim.a,.int .i64 x.dim.b,.int .i64 x.dim.c,.int .i64 x.dim.d,.int .i64 x.dim.e,.int .i64 x.dim.f,.int .i64 x.dim.g] 44)).alloc (.cells #[.int .i64 0,.int .i64 0,.int .i64 0,.int .i64 0,.int .i64 0,.int .i64 0,.int .i64 0,.int .i64 0,.int .i64 0] 44)=w1 at*
 have HN (k:Int):Hid (K9 (w1.setCell ⟨w.heap.size,0,none⟩ (.int .i64 k)) w.heap.size ⟨k,x.den,x.dim⟩):=cell_mod HP.out 0 (.int .i64 k)
 have HNK (k:Int):Hid (K9 (w1.setCell ⟨w.heap.size,0,none⟩ (.int .i64 k)) (w.heap.size+1) zV):=HK.out.other (b':=w.heap.size) (o:=0) (.int .i64 k) (by omega)
 have HNB (k:Int):Hid (Below w.heap.size w (w1.setCell ⟨w.heap.size,0,none⟩ (.int .i64 k))):=HB.out.setCell (p:=⟨w.heap.size,0,none⟩) (Nat.le_refl _) (.int .i64 k)
 obtain ⟨⟨⟨p0,p1⟩,p2,p3,p4,p5,p6,p7,p8⟩,pf,_⟩:=HP.out.cells
 by_cases h1:n=[110,101,103]
 ·have HR:Hid (R=(⟨-x.num,x.den,x.dim⟩,0)):=by show _=_; rw [HE.out,if_pos h1,HNG.out]
  subst h1;go_upto_region 23 with (fail);have HN1:=HN (-x.num)
  have HK1:=HNK (-x.num)
  have HB1:=HNB (-x.num)
  clear p0 p1 p2 p3 p4 p5 p6 p7 p8 pf HN HNK HNB;generalize w1.setCell ⟨w.heap.size,0,none⟩ (.int .i64 (-x.num))=w9 at*;obtain ⟨⟨⟨p0,p1⟩,p2,p3,p4,p5,p6,p7,p8⟩,pf,_⟩:=HN1.out.cells
  obtain ⟨⟨⟨z0,z1⟩,z2,z3,z4,z5,z6,z7,z8⟩,zf,_⟩:=HK1.out.cells
  go_wp2_with fail;rw [HR.out];refine bodyPost_ret (v:=.tuple #[.agg (V.mk (-x.num) x.den x.dim).cells,.pointer none]) (by simp [results,Tryz.results96,go_sem,V.cells,z0,z1,z2,z3,z4,z5,z6,z7,z8]) rfl ⟨none,rfl,FO.ok _ _ _,?_⟩
  exact below9 HB1.out (b:=w.heap.size+1) (by omega) (V.mk (-x.num) x.den x.dim)
 ·have n1:(n == [110,101,103])=false:=by simpa using h1
  have HE1:=hid (HE.out.trans (if_neg h1))
  clear h1 HE HNG;by_cases h2:n=[97,98,115]
  ·have HR:Hid (R=(⟨max x.num (-x.num),x.den,x.dim⟩,0)):=by show _=_; rw [HE1.out,if_pos h2]; rfl
   subst h2;clear HE1;obtain ⟨⟨⟨z0,z1⟩,z2,z3,z4,z5,z6,z7,z8⟩,zf,_⟩:=HK.out.cells
   have hne:w.heap.size≠w.heap.size+1:=by omega
   have HNM:=HNB (max x.num (-x.num))
   go_wp2_with fail;rw [HR.out];refine bodyPost_ret (v:=.tuple #[.agg (V.mk (max x.num (-x.num)) x.den x.dim).cells,.pointer none]) (by simp [results,Tryz.results96,go_sem,V.cells,z0,z1,z2,z3,z4,z5,z6,z7,z8]) rfl ⟨none,rfl,FO.ok _ _ _,?_⟩
   exact below9 HNM.out (b:=w.heap.size+1) (by omega) (V.mk (max x.num (-x.num)) x.den x.dim)
  ·have n2:(n == [97,98,115])=false:=by simpa using h2
   have HE2:=hid (HE1.out.trans (if_neg h2))
   clear h2 HE1;by_cases h3:n=[115,113,114,116]
   ·have HE3:Hid (R=if (drootQ x.dim).2=0 then joinQ (Q.rootQ x.num x.den) (drootQ x.dim).1 0 else (zV,16)):=HE2.out.trans (if_pos h3)
    subst h3;clear HE2 HN HNK HNB;have HNX:=hid fun w=>rnum_any x w
    have HAD:=hid fun w=>Q.refRoot_any x.num x.den w HX.out.1 HX.out.2.1 HX.out.2.2.1 HX.out.2.2.2
    have HDM:=hid fun w=>rdroot_any x.dim w
    unfold Q.Res.val at HAD;generalize Q.rootQ x.num x.den=j at*;obtain ⟨qn,qd,qe⟩:=j
    generalize drootQ x.dim=g at*;obtain ⟨gd,ge⟩:=g
    have HJ:=hid fun w=>made_any qn qd qe gd 0 w
    unfold V.cells at HNX;unfold Dm.cells at HJ HDM;go_wp2_with fail;refine (HDM.out _).mono ?_
    rintro r w2 ⟨rfl,hb2⟩
    have HB2:=hid (bl_tr hb2 (b1 w2 (.cells #[.int .i64 gd.a,.int .i64 gd.b,.int .i64 gd.c,.int .i64 gd.d,.int .i64 gd.e,.int .i64 gd.f,.int .i64 gd.g] 42)))
    have HM7:=hid (P7.new (Below.refl w2.heap.size w2) gd)
    go_upto_region 8 with (fail);generalize w2.alloc (.cells #[.int .i64 gd.a,.int .i64 gd.b,.int .i64 gd.c,.int .i64 gd.d,.int .i64 gd.e,.int .i64 gd.f,.int .i64 gd.g] 42)=w3 at*;have HP3:=hid (HP.out.reach HB2.out)
    have HK3:=hid (HK.out.reach HB2.out)
    have HBw3:=hid (bl_tr HB.out HB2.out)
    clear p0 p1 p2 p3 p4 p5 p6 p7 p8 pf hb2;obtain ⟨⟨⟨z0,z1⟩,z2,z3,z4,z5,z6,z7,z8⟩,zf,_⟩:=HK3.out.cells
    by_cases hg:ge=0
    ·have HR:Hid (R=joinQ ⟨qn,qd,qe⟩ gd 0):=HE3.out.trans (if_pos hg)
     rw [← HR.out]at HJ
     subst hg;clear HE3 HR z0 z1 z2 z3 z4 z5 z6 z7 z8 zf;obtain ⟨jv,je⟩:=R
     obtain ⟨⟨⟨p0,p1⟩,p2,p3,p4,p5,p6,p7,p8⟩,pf,_⟩:=HP3.out.cells
     unfold V.cells at HJ;go_wp2_with fail;refine (HNX.out _).mono ?_
     rintro r w4 ⟨rfl,hb4⟩
     go_wp2_with fail;refine (HAD.out _).mono ?_
     rintro r w5 ⟨rfl,hb5⟩
     have HBx:=hid (bl_tr hb4 hb5)
     have HM:=hid (Pr2.new (Below.refl w5.heap.size w5) qn qd)
     have HB6:=hid (bl_tr HBx.out (b1 w5 (.cells #[.int .i64 qn,.int .i64 qd] 64)))
     go_upto_region 11 with (fail);generalize w5.alloc (.cells #[.int .i64 qn,.int .i64 qd] 64)=w6 at*;have HK6:=hid (HK3.out.reach HB6.out)
     have HBw6:=hid (bl_tr HBw3.out HB6.out)
     have HM6:=hid (HM7.out.reach HB6.out)
     clear p0 p1 p2 p3 p4 p5 p6 p7 p8 pf hb4 hb5;obtain ⟨⟨m0,m1⟩,_,_⟩:=HM.out.1.cells
     obtain ⟨⟨g0,g1,g2,g3,g4,g5,g6⟩,_,_⟩:=HM6.out.1.cells
     go_wp2_with fail;refine (HJ.out _).mono ?_
     rintro r w7 ⟨q',rfl,hfo,hb7⟩
     have HFO:=hid hfo
     have HLT:Hid (w.heap.size+1<w6.heap.size):=HK6.out.cells.2.2
     have HK7:=hid (HK6.out.reach hb7)
     have HBw7:=hid (bl_tr HBw6.out hb7)
     clear hfo hb7 m0 m1 g0 g1 g2 g3 g4 g5 g6;obtain ⟨⟨⟨z0,z1⟩,z2,z3,z4,z5,z6,z7,z8⟩,zf,_⟩:=HK7.out.cells
     go_wp2_with fail;refine bodyPost_ret (v:=.tuple #[.agg jv.cells,.pointer q']) (by simp [results,Tryz.results96,go_sem,V.cells,z0,z1,z2,z3,z4,z5,z6,z7,z8]) rfl ⟨_,rfl,?_,?_⟩
     ·exact (HFO.out.set9 HLT.out jv).less (by have:=HBw6.out.size; omega)
     ·exact below9 HBw7.out (b:=w.heap.size+1) (by omega) jv
    ·have HR:Hid (R=(zV,16)):=HE3.out.trans (if_neg hg)
     have hgb:(ge != 0)=true:=by simpa using hg
     go_wp2_with fail;refine (fail_any 16 w3).mono ?_
     rintro r' wf ⟨fb,rfl,hfb,hb2⟩
     have HB2:=hid (bl_tr HBw3.out hb2)
     have HF2:=hid hfb
     have HLT:Hid (w.heap.size+1<w3.heap.size):=HK3.out.cells.2.2
     obtain ⟨⟨⟨y0,y1⟩,y2,y3,y4,y5,y6,y7,y8⟩,yf,_⟩:=(HK3.out.reach hb2).cells
     clear hfb hb2 z0 z1 z2 z3 z4 z5 z6 z7 z8 zf;go_wp2_with fail;rw [HR.out];refine bodyPost_ret (v:=.tuple #[.agg zV.cells,.pointer (some ⟨fb,0,none⟩)]) (by simp [results,Tryz.results96,go_sem,V.cells,zV,zD,y0,y1,y2,y3,y4,y5,y6,y7,y8]) rfl ⟨_,rfl,?_,?_⟩
     ·exact ((FO.no (by decide) HF2.out).set9 HLT.out zV).less (by have:=HBw3.out.size; omega)
     ·exact below9 HB2.out (b:=w.heap.size+1) (by omega) zV
   ·have n3:(n == [115,113,114,116])=false:=by simpa using h3
    have HE3:=hid (HE2.out.trans (if_neg h3))
    clear h3 HE2;by_cases h4:n=[102,97,99,116,111,114,105,97,108]
    ·have HE4:Hid (R=if x.dim=zD then (if x.den=1∧0≤x.num∧x.num≤12 then (whV (facN x.num.toNat),0)else (zV,17))else (zV,16)):=HE3.out.trans (if_pos h4)
     subst h4;clear HE3 HN HNK HNB;have HPU:=hid fun w=>rplain_any x w
     unfold V.cells at HPU;go_wp2_with fail;refine (HPU.out _).mono ?_
     rintro r w3 ⟨rfl,hb3⟩
     have HP3:=hid (HP.out.reach hb3)
     have HK3:=hid (HK.out.reach hb3)
     have HB3:=hid (bl_tr HB.out hb3)
     clear hb3 p0 p1 p2 p3 p4 p5 p6 p7 p8 pf HB HP HK;obtain ⟨⟨⟨p0,p1⟩,p2,p3,p4,p5,p6,p7,p8⟩,pf,_⟩:=HP3.out.cells
     obtain ⟨⟨⟨z0,z1⟩,z2,z3,z4,z5,z6,z7,z8⟩,zf,_⟩:=HK3.out.cells
     by_cases hd:x.dim=zD
     ·have HE5:=hid (HE4.out.trans (if_pos hd))
      have HDZ:=hid hd
      rw [decide_eq_true hd];clear hd HE4;go_upto_region 15 with (fail);go_cut [73] (fun s73 wx=>s73=.bool (!decide (x.den=1∧0≤x.num∧x.num≤12))∧w3=wx)
      case first=>
       by_cases hn:x.den=1
       ·have hnb:(x.den != 1)=false:=by simpa using hn
        have HNN:=hid hn
        clear hn;by_cases ha:x.num<0
        ·go_wp2_with fail
         go_meet
         case rel=>exact ⟨by rw [decide_eq_false (fun h=>by omega)]; rfl,rfl⟩
        ·by_cases hb:12<x.num
         ·go_wp2_with fail
          go_meet
          case rel=>exact ⟨by rw [decide_eq_false (fun h=>by omega)]; rfl,rfl⟩
         ·go_wp2_with fail
          go_meet
          case rel=>exact ⟨by rw [decide_eq_true ⟨HNN.out,by omega,by omega⟩]; rfl,rfl⟩
       ·have hnb:(x.den != 1)=true:=by simpa using hn
        go_wp2_with fail;go_meet
        case rel=>exact ⟨by rw [decide_eq_false (fun h=>hn h.1)]; rfl,rfl⟩
      case rest=>
       obtain ⟨rfl,rfl⟩:=hcut
       by_cases hc:x.den=1∧0≤x.num∧x.num≤12
       ·have HE6:=hid (HE5.out.trans (if_pos hc))
        rw [decide_eq_true hc];rw [show (!true)=false from rfl]
        obtain ⟨k,hk⟩:∃ k:Nat,x.num=k:=⟨x.num.toNat,by omega⟩
        have HK12:Hid (k≤12):=by show _≤_; omega
        have HR:Hid (R=(⟨facN k,x.den,x.dim⟩,0)):=by
         show _=_
         rw [HE6.out,hk,Int.toNat_natCast,hc.1,HDZ.out]; rfl
        have HN:Hid (K9 (w3.setCell ⟨w.heap.size,0,none⟩ (.int .i64 (facN k))) w.heap.size ⟨facN k,x.den,x.dim⟩):=cell_mod HP3.out 0 (.int .i64 (facN k))
        have HNK:Hid (K9 (w3.setCell ⟨w.heap.size,0,none⟩ (.int .i64 (facN k))) (w.heap.size+1) zV):=HK3.out.other (b':=w.heap.size) (o:=0) (.int .i64 (facN k)) (by omega)
        have HNB:Hid (Below w.heap.size w (w3.setCell ⟨w.heap.size,0,none⟩ (.int .i64 (facN k)))):=HB3.out.setCell (p:=⟨w.heap.size,0,none⟩) (Nat.le_refl _) (.int .i64 (facN k))
        rw [hk]at p0
        clear hc hk z0 z1 z2 z3 z4 z5 z6 z7 z8 zf HE6 HE5;go_wp2_with fail;go_loopg [10,11] 13 (fun gg s10 s11 wr=>∃ i:Nat,Aside (2≤i)∧Aside (i≤k+1∨i=2)∧13-i≤gg∧s10=.int .i64 (facN (i-1))∧s11=.int .i64 (i:Int)∧wr=w3)
        case atStart=>exact ⟨2,Nat.le_refl _,.inr rfl,by omega,rfl,rfl,rfl⟩
        case round=>
         obtain ⟨i,HI2,HIK,hgg,rfl,rfl,rfl⟩:=hrel
         by_cases hle:i≤k
         ·have hlez:(i:Int)≤k:=by omega
          have hf:=fac_succ i (by have:=HI2.out; omega)
          have hfs:=fac_small i (by have:=HK12.out; omega)
          have hw:IntKind.i64.wrap (facN (i-1)*(i:Int))=facN i:=by rw [hf]; exact wrap64_small (by omega) (by omega)
          clear hf hfs;go_wp2_with fail;go_roundg (12-i)
          case measure=>have:=HK12.out; omega
          case rel=>exact ⟨i+1,by show 2≤i+1; have:=HI2.out; omega,.inl (by omega),by omega,by rw [Nat.add_sub_cancel],by have h12:k≤12:=HK12.out; exact congrArg (Value.int .i64) ((IntWalk.wrap64_in _ (by omega)).trans (by omega)),rfl⟩
         ·have hlez:¬ (i:Int)≤k:=by omega
          have hfk:facN (i-1)=facN k:=by
           have h2:=HI2.out
           rcases HIK.out with h|h
           ·rw [show i-1=k from by omega]
           ·subst h
            have:k=0∨k=1:=by omega
            rcases this with rfl|rfl<;>rfl
          rw [hfk];go_upto_region 23 with (fail);clear p0 p1 p2 p3 p4 p5 p6 p7 p8 pf hfk;generalize wr.setCell ⟨w.heap.size,0,none⟩ (.int .i64 (facN k))=w9 at*;obtain ⟨⟨⟨p0,p1⟩,p2,p3,p4,p5,p6,p7,p8⟩,pf,_⟩:=HN.out.cells
          obtain ⟨⟨⟨z0,z1⟩,z2,z3,z4,z5,z6,z7,z8⟩,zf,_⟩:=HNK.out.cells
          go_wp2_with fail;rw [HR.out];refine bodyPost_ret (v:=.tuple #[.agg (V.mk (facN k) x.den x.dim).cells,.pointer none]) (by simp [results,Tryz.results96,go_sem,V.cells,z0,z1,z2,z3,z4,z5,z6,z7,z8]) rfl ⟨none,rfl,FO.ok _ _ _,?_⟩
          exact below9 HNB.out (b:=w.heap.size+1) (by omega) (V.mk (facN k) x.den x.dim)
       ·have HR:Hid (R=(zV,17)):=HE5.out.trans (if_neg hc)
        rw [decide_eq_false hc];rw [show (!false)=true from rfl]
        go_wp2_with fail;refine (fail_any 17 w3).mono ?_
        rintro r' w2 ⟨fb,rfl,hfb,hb2⟩
        have HB2:=hid (bl_tr HB3.out hb2)
        have HF2:=hid hfb
        have HLT:Hid (w.heap.size+1<w3.heap.size):=HK3.out.cells.2.2
        obtain ⟨⟨⟨y0,y1⟩,y2,y3,y4,y5,y6,y7,y8⟩,yf,_⟩:=(HK3.out.reach hb2).cells
        clear hfb hb2 z0 z1 z2 z3 z4 z5 z6 z7 z8 zf;go_wp2_with fail;rw [HR.out];refine bodyPost_ret (v:=.tuple #[.agg zV.cells,.pointer (some ⟨fb,0,none⟩)]) (by simp [results,Tryz.results96,go_sem,V.cells,zV,zD,y0,y1,y2,y3,y4,y5,y6,y7,y8]) rfl ⟨_,rfl,?_,?_⟩
        ·exact ((FO.no (by decide) HF2.out).set9 HLT.out zV).less (by have:=HB3.out.size; omega)
        ·exact below9 HB2.out (b:=w.heap.size+1) (by omega) zV
     ·have HR:Hid (R=(zV,16)):=HE4.out.trans (if_neg hd)
      rw [decide_eq_false hd];go_wp2_with fail;refine (fail_any 16 w3).mono ?_
      rintro r' w2 ⟨fb,rfl,hfb,hb2⟩
      have HB2:=hid (bl_tr HB3.out hb2)
      have HF2:=hid hfb
      have HLT:Hid (w.heap.size+1<w3.heap.size):=HK3.out.cells.2.2
      obtain ⟨⟨⟨y0,y1⟩,y2,y3,y4,y5,y6,y7,y8⟩,yf,_⟩:=(HK3.out.reach hb2).cells
      clear hfb hb2 z0 z1 z2 z3 z4 z5 z6 z7 z8 zf;go_wp2_with fail;rw [HR.out];refine bodyPost_ret (v:=.tuple #[.agg zV.cells,.pointer (some ⟨fb,0,none⟩)]) (by simp [results,Tryz.results96,go_sem,V.cells,zV,zD,y0,y1,y2,y3,y4,y5,y6,y7,y8]) rfl ⟨_,rfl,?_,?_⟩
      ·exact ((FO.no (by decide) HF2.out).set9 HLT.out zV).less (by have:=HB3.out.size; omega)
      ·exact below9 HB2.out (b:=w.heap.size+1) (by omega) zV
    ·have n4:(n == [102,97,99,116,111,114,105,97,108])=false:=by simpa using h4
     have HR:Hid (R=(x,0)):=HE3.out.trans (if_neg h4)
     clear h4 HE3 HN HNK HNB p0 p1 p2 p3 p4 p5 p6 p7 p8 pf;obtain ⟨⟨⟨p0,p1⟩,p2,p3,p4,p5,p6,p7,p8⟩,pf,_⟩:=HP.out.cells
     obtain ⟨⟨⟨z0,z1⟩,z2,z3,z4,z5,z6,z7,z8⟩,zf,_⟩:=HK.out.cells
     go_wp2_with fail;rw [HR.out];refine bodyPost_ret (v:=.tuple #[.agg x.cells,.pointer none]) (by simp [results,Tryz.results96,go_sem,V.cells,z0,z1,z2,z3,z4,z5,z6,z7,z8]) rfl ⟨none,rfl,FO.ok _ _ _,?_⟩
     exact below9 HB.out (b:=w.heap.size+1) (by omega) x
theorem two_sl (w:World):SL (w.alloc (.cells #[.string ⟨#[112,108,117,115]⟩,.string ⟨#[109,105,110,117,115]⟩,.string ⟨#[116,105,109,101,115]⟩,.string ⟨#[99,100,111,116]⟩,.string ⟨#[99,114,111,115,115]⟩,.string ⟨#[112,114,111,100,117,99,116]⟩,.string ⟨#[111,118,101,114]⟩,.string ⟨#[100,105,118,105,100,101]⟩,.string ⟨#[112,111,119,101,114]⟩] 9)) (w.alloc (.cells #[.string ⟨#[112,108,117,115]⟩,.string ⟨#[109,105,110,117,115]⟩,.string ⟨#[116,105,109,101,115]⟩,.string ⟨#[99,100,111,116]⟩,.string ⟨#[99,114,111,115,115]⟩,.string ⟨#[112,114,111,100,117,99,116]⟩,.string ⟨#[111,118,101,114]⟩,.string ⟨#[100,105,118,105,100,101]⟩,.string ⟨#[112,111,119,101,114]⟩] 9)).heap.size (.slice (some ⟨w.heap.size,0,none⟩) 9 9) twoL:=
 ⟨_,9,rfl,⟨Nat.le_refl _,by decide⟩,fun _=>⟨w.heap.size,0,rfl,by rw [World.size_alloc]; omega,fun j h=>by
  have hj:j<9:=h
  rw [Nat.zero_add,cell_of_row _ w.heap.size j _ 9 (0,0) (heap_alloc_new w _)];rcases (show j=0∨j=1∨j=2∨j=3∨j=4∨j=5∨j=6∨j=7∨j=8 by omega)with rfl|rfl|rfl|rfl|rfl|rfl|rfl|rfl|rfl<;>rfl⟩⟩
theorem one_sl (w:World):SL (w.alloc (.cells #[.string ⟨#[110,101,103]⟩,.string ⟨#[112,111,115]⟩,.string ⟨#[103,114,111,117,112]⟩,.string ⟨#[115,113,114,116]⟩,.string ⟨#[97,98,115]⟩,.string ⟨#[102,97,99,116,111,114,105,97,108]⟩] 9)) (w.alloc (.cells #[.string ⟨#[110,101,103]⟩,.string ⟨#[112,111,115]⟩,.string ⟨#[103,114,111,117,112]⟩,.string ⟨#[115,113,114,116]⟩,.string ⟨#[97,98,115]⟩,.string ⟨#[102,97,99,116,111,114,105,97,108]⟩] 9)).heap.size (.slice (some ⟨w.heap.size,0,none⟩) 6 6) oneL:=
 ⟨_,6,rfl,⟨Nat.le_refl _,by decide⟩,fun _=>⟨w.heap.size,0,rfl,by rw [World.size_alloc]; omega,fun j h=>by
  have hj:j<6:=h
  rw [Nat.zero_add,cell_of_row _ w.heap.size j _ 9 (0,0) (heap_alloc_new w _)];rcases (show j=0∨j=1∨j=2∨j=3∨j=4∨j=5 by omega)with rfl|rfl|rfl|rfl|rfl|rfl<;>rfl⟩⟩
set_option maxRecDepth 100000 in
set_option maxHeartbeats 4000000 in
theorem arity_any (n:W8)(w:World):Calls Tryz.prog 94 #[.string ⟨n.toArray⟩] w fun r w'=>r=.returned (.int .i64 (arN n:Nat))∧Below w.heap.size w w':=by
 have HH1:=hid (has35_any _ _ twoL n _ (two_sl w))
 have HH2:=hid fun (wz:World)=>has35_any _ _ oneL n _ (one_sl wz)
 have HB1:=hid (b1 w (.cells #[.string ⟨#[112,108,117,115]⟩,.string ⟨#[109,105,110,117,115]⟩,.string ⟨#[116,105,109,101,115]⟩,.string ⟨#[99,100,111,116]⟩,.string ⟨#[99,114,111,115,115]⟩,.string ⟨#[112,114,111,100,117,99,116]⟩,.string ⟨#[111,118,101,114]⟩,.string ⟨#[100,105,118,105,100,101]⟩,.string ⟨#[112,111,119,101,114]⟩] 9))
 have HB2:=hid fun (wz:World)=>b1 wz (.cells #[.string ⟨#[110,101,103]⟩,.string ⟨#[112,111,115]⟩,.string ⟨#[103,114,111,117,112]⟩,.string ⟨#[115,113,114,116]⟩,.string ⟨#[97,98,115]⟩,.string ⟨#[102,97,99,116,111,114,105,97,108]⟩] 9)
 have HA:Hid (arN n=if hasB twoL n=true then 2 else if hasB oneL n=true then 1 else 0):=by
  show _=_
  unfold arN;simp [hasB]
 go_enter Tryz.func94,Tryz.ntmps94;go_wp2_with fail;refine HH1.out.mono ?_
 rintro e w1 ⟨rfl,hw1⟩
 rw [hw1]at HB1
 clear hw1;cases h1:hasB twoL n with
 | true=>
  have HR:Hid (arN n=2):=by show _=_; rw [HA.out,if_pos h1]
  clear h1;go_wp2_with fail;go_ret;rw [HR.out];exact ⟨rfl,HB1.out⟩
 | false=>
  have HR1:Hid (arN n=if hasB oneL n=true then 1 else 0):=by show _=_; rw [HA.out,if_neg (by rw [h1]; decide)]
  clear h1;go_wp2_with fail;refine (HH2.out w1).mono ?_
  rintro e w2 ⟨rfl,hw2⟩
  have HB:Hid (Below w.heap.size w w2):=by
   have h:=HB2.out w1
   rw [hw2]at h
   exact bl_tr HB1.out h
  clear hw2;cases h2:hasB oneL n with
  | true=>
   have HR:Hid (arN n=1):=by show _=_; rw [HR1.out,if_pos h2]
   clear h2;go_wp2_with fail;go_ret;rw [HR.out];exact ⟨rfl,HB.out⟩
  | false=>
   have HR:Hid (arN n=0):=by show _=_; rw [HR1.out,if_neg (by rw [h2]; decide)]
   clear h2;go_wp2_with fail;go_ret;rw [HR.out];exact ⟨rfl,HB.out⟩
variable {mb B:Nat}
set_option maxRecDepth 100000 in
set_option maxHeartbeats 4000000 in
theorem value_apply {N:Nat}(IH:RTermC mb B N)(t:T)(hw:WF t)(hk:t.kind=4)(hz:t.size≤N+1)(hN:N≤2000)(s:Sc)(hok:s.ok)(hsz:s.length+N≤5000)(A:Option Addr)(ca c:Nat)(w:World)(vn vv:Value)(hc:c≤2000)(ht:TV w B t A ca)(hm:MS w mb B s c vn vv):
  Calls Tryz.prog 47 #[.pointer (some ⟨mb,0,none⟩),.agg (tv t A ca)] w fun e w'=>VOut2 w w' mb B s vn vv (ev t s c) e:=by
 have HO:=hid (own_short' hw.parts.1)
 have HB:=hid (b2 w (.cells (tv t A ca) 24) (.cells #[.int .i64 0,.int .i64 0,.int .i64 0,.int .i64 0,.int .i64 0,.int .i64 0,.int .i64 0,.int .i64 0,.int .i64 0] 44))
 have HX:Hid (Bxd ((w.alloc (.cells (tv t A ca) 24)).alloc (.cells #[.int .i64 0,.int .i64 0,.int .i64 0,.int .i64 0,.int .i64 0,.int .i64 0,.int .i64 0,.int .i64 0,.int .i64 0] 44)) w.heap.size t A ca):=(bxd_new w t A ca).below (b1 _ (.cells #[.int .i64 0,.int .i64 0,.int .i64 0,.int .i64 0,.int .i64 0,.int .i64 0,.int .i64 0,.int .i64 0,.int .i64 0] 44)) (by simp)
 have HK:Hid (K9 ((w.alloc (.cells (tv t A ca) 24)).alloc (.cells #[.int .i64 0,.int .i64 0,.int .i64 0,.int .i64 0,.int .i64 0,.int .i64 0,.int .i64 0,.int .i64 0,.int .i64 0] 44)) (w.heap.size+1) zV):=by
  have h:=K9.new (w.alloc (.cells (tv t A ca) 24)) zV
  rw [World.size_alloc]at h
  exact h
 have HM:Hid (MS ((w.alloc (.cells (tv t A ca) 24)).alloc (.cells #[.int .i64 0,.int .i64 0,.int .i64 0,.int .i64 0,.int .i64 0,.int .i64 0,.int .i64 0,.int .i64 0,.int .i64 0] 44)) mb B s c vn vv):=hm.reach HB.out
 have HG:Hid (Gm w ((w.alloc (.cells (tv t A ca) 24)).alloc (.cells #[.int .i64 0,.int .i64 0,.int .i64 0,.int .i64 0,.int .i64 0,.int .i64 0,.int .i64 0,.int .i64 0,.int .i64 0] 44)) mb vn vv vn vv):=Gm.bel HB.out
 have HAB:Hid (Aw mb vn vv (w.heap.size+1)):=hm.fresh (Nat.le_succ _)
 have HAX:Hid (Aw mb vn vv w.heap.size):=hm.fresh (Nat.le_refl _)
 have HSZ:Hid (((w.alloc (.cells (tv t A ca) 24)).alloc (.cells #[.int .i64 0,.int .i64 0,.int .i64 0,.int .i64 0,.int .i64 0,.int .i64 0,.int .i64 0,.int .i64 0,.int .i64 0] 44)).heap.size=w.heap.size+2):=by show _=_; simp
 have HBL:Hid (B≤w.heap.size):=hm.bLe
 have HEV:Hid (ev t s c=applyG t.name (evs t.args s) c):=by show _=_; rw [ev_eq,hk]; rfl
 have HLEN:Hid (t.args.length≤N):=by
  show _≤_
  have:=len_sizes t.args
  have:=size_eq t
  omega
 have HLS:=hid fun (wz:World)(hta:TA wz B A t.args)(hms:MS wz mb B s c vn vv)=>list_any IH t.args (fun u hu=>⟨size_list hz hu,hw.parts.2.mem hu⟩) (by have:=HLEN.out; omega) s A ca c wz vn vv hc hok hsz hta hms
 have HTA:=hid ht.ar
 have HOKA:Hid ((argsG 0 (evs t.args s) c []).1.1.e=0→(∀ x∈(argsG 0 (evs t.args s) c []).1.2,x.ok)∧(argsG 0 (evs t.args s) c []).1.2.length=t.args.length):=fun h0=>by
  have h:=argsG_ok (evs t.args s) 0 c [] (fun g hg=>by
   rw [evs_map]at hg
   obtain ⟨u,hu,rfl⟩:=List.mem_map.1 hg
   exact ev_ok N u (size_list hz hu) s hok) (fun x hx=>by cases hx) h0
  refine ⟨h.1,?_⟩
  rw [h.2,evs_map,List.length_map]; simp
 have HTD:Hid (Tidy (argsG 0 (evs t.args s) c []).1.1):=args_tidy _ _ _ _ (fun g hg c=>by
  rw [evs_map]at hg
  obtain ⟨u,hu,rfl⟩:=List.mem_map.1 hg
  exact ev_tidy N u (size_list hz hu) s c)
 have HGL:Hid ((evs t.args s).length=t.args.length):=by show _=_; rw [evs_map,List.length_map]
 have HAR:=hid fun wz=>arity_any t.name wz
 have HONE:=hid fun (x:V)(hx:x.ok) wz=>one_any t.name x hx wz
 have HTWO:=hid fun (x y:V)(hx:x.ok)(hy:y.ok) wz=>two_any t.name x y hx hy wz
 have HARN:Hid (arN t.name=0∨arN t.name=1∨arN t.name=2):=by show _∨_; unfold arN; split; exact .inr (.inr rfl); split; exact .inr (.inl rfl); exact .inl rfl
 rw [applyG_ref,HGL.out]at HEV
 generalize argsG 0 (evs t.args s) c []=a at*;obtain ⟨⟨ra,la⟩,c2⟩:=a
 dsimp only at HEV HOKA HTD
 unfold LOut at HLS;unfold V.cells at HONE HTWO;clear hz hw hok hc ht hm IH HO;go_enter Tryz.func47,Tryz.ntmps47;go_upto_region 1 with (fail);generalize (w.alloc (.cells (tv t A ca) 24)).alloc (.cells #[.int .i64 0,.int .i64 0,.int .i64 0,.int .i64 0,.int .i64 0,.int .i64 0,.int .i64 0,.int .i64 0,.int .i64 0] 44)=w1 at*;have hww:w.heap.size<w1.heap.size:=by have:=HB.out.size; have:=HSZ.out; omega
 obtain ⟨k0,k1,k2,k3,k4⟩:=HX.out
 rw [hk]at k0
 clear HX;go_wp2_with fail;refine (HAR.out w1).mono ?_
 rintro r w2 ⟨rfl,hb2⟩
 have HM2:=hid (HM.out.reach hb2)
 have HG2:=hid (HG.out.tr (Gm.bel hb2))
 have HK2:=hid (HK.out.reach hb2)
 have HX2:=hid fun (wz:World)(un uv:Value)(h:Gm w2 wz mb vn vv un uv)=>And.intro (h.cell ((hb2.cell (p:=⟨w.heap.size,1,none⟩) hww).trans k1) HAX.out) (h.cell ((hb2.cell (p:=⟨w.heap.size,3,none⟩) hww).trans k3) HAX.out)
 clear hb2 k0 k1 k2 k3 k4;obtain ⟨k1,k3⟩:=HX2.out w2 vn vv (Gm.bel (Below.refl _ _))
 have HAB':=HAB
 generalize hn:arN t.name=ar at*;have HARE:=hid hn
 clear hn;by_cases har:ar=0
 ·subst har
  have HE2:Hid (ev t s c=(erR 15,c)):=HEV.out.trans (if_pos rfl)
  go_wp2_with fail;refine (fail_any 15 w2).mono ?_
  rintro r' wf ⟨fb,rfl,hfb,hbf⟩
  have HMf:=hid (HM2.out.reach hbf)
  have HGf:=hid (HG2.out.tr (Gm.bel hbf))
  have HF2:=hid hfb
  have HLT:Hid ((w.heap.size+1)<w2.heap.size):=HK2.out.cells.2.2
  have HFR:=hid fun (k:Nat)(h:w2.heap.size≤k)=>HM2.out.fresh h
  obtain ⟨⟨⟨y0,y1⟩,y2,y3,y4,y5,y6,y7,y8⟩,yf,_⟩:=(HK2.out.reach hbf).cells
  clear hfb hbf;go_wp2_with fail;rw [HE2.out];refine bodyPost_ret (v:=.tuple #[.agg (erR 15).v.cells,.pointer (some ⟨fb,0,none⟩)]) (by simp [results,Tryz.results47,go_sem,erR,V.cells,zV,zD,y0,y1,y2,y3,y4,y5,y6,y7,y8]) rfl ?_
  exact VOut.fin (g:=(erR 15,_)) (Nat.le_succ _) HMf.out HGf.out (HAB'.out) (HF2.out.fp (by decide) HFR.out HLT.out)
 ·have HEV2:=hid (HEV.out.trans (if_neg har))
  have harb:((ar:Int) == 0)=false:=by rw [beq_eq_false_iff_ne]; omega
  by_cases hl:t.args.length=ar
  ·have hlb:((t.args.length:Int) != (ar:Int))=false:=by rw [hl]; simp
   have HEV3:=hid (HEV2.out.trans (if_pos hl))
   have HLE:=hid hl
   clear hl
   have HTA2:Hid (TA w2 B A t.args):=fun hne=>by
    obtain ⟨b',o',e,h⟩:=HTA.out hne
    exact ⟨b',o',e,h.below ⟨HG2.out.os,HG2.out.tape,HG2.out.output,HG2.out.size,fun k hk=>(HG2.out.block k (Nat.lt_of_lt_of_le hk HBL.out) (HM.out.low hk)).1⟩⟩
   have HL2:=hid (HLS.out w2 HTA2.out HM2.out)
   clear HLS;go_wp2_with fail;refine HL2.out.mono ?_
   rintro e w3 ⟨q,vl,un,uv,rfl,hfp,hoa,hms3,hgm3⟩
   (try dsimp only at hfp hoa hms3)
   have HM3:=hid hms3
   have HG3:=hid (HG2.out.tr hgm3)
   have HAB3:Hid (Aw mb un uv (w.heap.size+1)):=(hgm3.block _ HK2.out.cells.2.2 HAB.out).2
   have HK3:Hid (K9 w3 (w.heap.size+1) zV):=(hgm3.block _ HK2.out.cells.2.2 HAB.out).1.trans HK2.out
   have HLT3:Hid ((w.heap.size+1)<w3.heap.size):=HK3.out.cells.2.2
   have HLT2:Hid ((w.heap.size+1)<w2.heap.size):=HK2.out.cells.2.2
   have HFR3:=hid fun (k:Nat)(h:w3.heap.size≤k)=>HM3.out.fresh h
   have HX3:=hid (HX2.out w3 un uv hgm3).1
   have HOA:=hid hoa
   have HFP:=hid hfp
   clear hfp hoa hms3 hgm3 k1 k3 HL2;obtain ⟨⟨⟨z0,z1⟩,z2,z3,z4,z5,z6,z7,z8⟩,zf,_⟩:=HK3.out.cells
   rcases HFP.out with ⟨he,rfl⟩|⟨he,fb,rfl,hfb⟩
   ·have HEV4:=hid (HEV3.out.trans (if_pos he))
    obtain ⟨hlo,hll⟩:=HOKA.out he
    have HOV:=hid (HOA.out he)
    clear he HFP HOA HOKA HTD;rcases HARN.out with h|h|h
    ·exact absurd h har
    ·subst h
     rw [HLE.out]at hll
     obtain ⟨x,rfl⟩:∃ x,la=[x]:=by
      rcases la with _|⟨x,_|⟨y,l⟩⟩<;>simp at hll
      exact ⟨x,rfl⟩
     obtain ⟨Al,cll,rfl,_,hcl⟩:=HOV.out.1.sv
     obtain ⟨lb,lo,rfl,hce⟩:=hcl (by simp)
     have hc0:=hce 0 (by simp)
     rw [Nat.zero_mul,Nat.add_zero]at hc0
     have HSK:Hid (∀ wz,Below w3.heap.size w3 wz→(fun w'=>w'.cell? ⟨w.heap.size,1,none⟩=some (.string ⟨t.name.toArray⟩)∧((w'.cell? ⟨lb,lo,none⟩=some (.int .i64 x.num)∧w'.cell? ⟨lb,lo+1,none⟩=some (.int .i64 x.den))∧w'.cell? ⟨lb,lo+2,none⟩=some (.int .i64 x.dim.a)∧w'.cell? ⟨lb,lo+3,none⟩=some (.int .i64 x.dim.b)∧w'.cell? ⟨lb,lo+4,none⟩=some (.int .i64 x.dim.c)∧w'.cell? ⟨lb,lo+5,none⟩=some (.int .i64 x.dim.d)∧w'.cell? ⟨lb,lo+6,none⟩=some (.int .i64 x.dim.e)∧w'.cell? ⟨lb,lo+7,none⟩=some (.int .i64 x.dim.f)∧w'.cell? ⟨lb,lo+8,none⟩=some (.int .i64 x.dim.g))) wz):=fun wz h=>⟨(h.cell (block_lt_of_cell HX3.out)).trans HX3.out,hc0.reach h⟩
     have hS0:=HSK.out _ (bl_dr (Below.refl w3.heap.size w3))
     have HON:=hid (HONE.out x (hlo x (by simp)))
     have HEQ:Hid (ev t s c=(⟨(oneV t.name x).1,[],(oneV t.name x).2⟩,c2)):=HEV4.out
     generalize oneV t.name x=R at*;obtain ⟨jv,je⟩:=R
     dsimp only at HON HEQ
     clear hlo hll hce hcl hc0 HONE HTWO;go_upto_region 28 with (fail);clear z0 z1 z2 z3 z4 z5 z6 z7 z8 zf;refine wp_region_noPanic ?_
     refine wp_region_J 8 (fun w'=>w'.cell? ⟨w.heap.size,1,none⟩=some (.string ⟨t.name.toArray⟩)∧((w'.cell? ⟨lb,lo,none⟩=some (.int .i64 x.num)∧w'.cell? ⟨lb,lo+1,none⟩=some (.int .i64 x.den))∧w'.cell? ⟨lb,lo+2,none⟩=some (.int .i64 x.dim.a)∧w'.cell? ⟨lb,lo+3,none⟩=some (.int .i64 x.dim.b)∧w'.cell? ⟨lb,lo+4,none⟩=some (.int .i64 x.dim.c)∧w'.cell? ⟨lb,lo+5,none⟩=some (.int .i64 x.dim.d)∧w'.cell? ⟨lb,lo+6,none⟩=some (.int .i64 x.dim.e)∧w'.cell? ⟨lb,lo+7,none⟩=some (.int .i64 x.dim.f)∧w'.cell? ⟨lb,lo+8,none⟩=some (.int .i64 x.dim.g))) (by kernel_rfl) ?_
     simp only [List.size_toArray,List.length_cons,List.length_nil,Nat.zero_add,Nat.reduceAdd];refine wpAnyJ_take (i:=0) (v:=?va0) [8] rfl (by kernel_rfl) (by kernel_rfl) (by kernel_rfl) (by kernel_rfl) (by kernel_rfl) (by kernel_rfl) (by kernel_rfl) (fun _ _ _ h=>h) (Or.inl ⟨by rfl,?ha0⟩) hS0 ?ra0
     case ha0=>(intro w' hSw; (try dsimp only at hSw); go_simp; all_goals with_reducible rfl)
     try dsimp only [Act.put]
     refine wpAnyJ_take (i:=1) (v:=?va1) [8] rfl (by kernel_rfl) (by kernel_rfl) (by kernel_rfl) (by kernel_rfl) (by kernel_rfl) (by kernel_rfl) (by kernel_rfl) (fun _ _ _ h=>h) (Or.inl ⟨by rfl,?ha1⟩) hS0 ?ra1
     case ha1=>(intro w' hSw; (try dsimp only at hSw); go_simp; all_goals with_reducible rfl)
     try dsimp only [Act.put]
     refine wpAnyJ_take (i:=2) (v:=?va2) [8] rfl (by kernel_rfl) (by kernel_rfl) (by kernel_rfl) (by kernel_rfl) (by kernel_rfl) (by kernel_rfl) (by kernel_rfl) (fun _ _ _ h=>h) (Or.inl ⟨by rfl,?ha2⟩) hS0 ?ra2
     case ha2=>(intro w' hSw; (try dsimp only at hSw); go_simp; all_goals with_reducible rfl)
     try dsimp only [Act.put]
     refine wpAnyJ_take (i:=3) (v:=?va3) [8] rfl (by kernel_rfl) (by kernel_rfl) (by kernel_rfl) (by kernel_rfl) (by kernel_rfl) (by kernel_rfl) (by kernel_rfl) (fun _ _ _ h=>h) (Or.inl ⟨by rfl,?ha3⟩) hS0 ?ra3
     case ha3=>(intro w' hSw; (try dsimp only at hSw); go_simp; all_goals with_reducible rfl)
     try dsimp only [Act.put]
     refine wpAnyJ_take (i:=4) (v:=?va4) [8] rfl (by kernel_rfl) (by kernel_rfl) (by kernel_rfl) (by kernel_rfl) (by kernel_rfl) (by kernel_rfl) (by kernel_rfl) (fun _ _ _ h=>h) (Or.inl ⟨by rfl,?ha4⟩) hS0 ?ra4
     case ha4=>(intro w' hSw; (try dsimp only at hSw); go_simp; all_goals with_reducible rfl)
     try dsimp only [Act.put]
     clear hS0;refine wpAnyJ_one (i:=5) (by kernel_rfl) rfl ?_
     intro K hK;go_simp
     go_wp2_with (go_at_call 96; (refine (HON.out _).mono ?_); rintro r wz ⟨q',rfl,hfo,hbz⟩)
     have HFO:=hid hfo
     have HBZ:=hid (bl_tr (bl_dr (Below.refl w3.heap.size w3)) hbz)
     clear hfo hbz;have hS1:=HSK.out _ HBZ.out
     refine hK.out _ _ (fun _=>hS1) ?_
     clear hK K;refine wpAnyJ_take (i:=6) (v:=?va6) [8] rfl (by kernel_rfl) (by kernel_rfl) (by kernel_rfl) (by kernel_rfl) (by kernel_rfl) (by kernel_rfl) (by kernel_rfl) (fun _ _ _ h=>h) (Or.inl ⟨by rfl,?ha6⟩) hS1 ?ra6
     case ha6=>(intro w' hSw; (try dsimp only at hSw); go_simp; all_goals with_reducible rfl)
     try dsimp only [Act.put]
     refine wpAnyJ_take (i:=7) (v:=?va7) [8] rfl (by kernel_rfl) (by kernel_rfl) (by kernel_rfl) (by kernel_rfl) (by kernel_rfl) (by kernel_rfl) (by kernel_rfl) (fun _ _ _ h=>h) (Or.inl ⟨by rfl,?ha7⟩) hS1 ?ra7
     case ha7=>(intro w' hSw; (try dsimp only at hSw); go_simp; all_goals with_reducible rfl)
     try dsimp only [Act.put]
     clear hS1;refine wpAnyJ_one (i:=8) (by kernel_rfl) rfl ?_
     intro K hK;obtain ⟨⟨⟨z0,z1⟩,z2,z3,z4,z5,z6,z7,z8⟩,zf,_⟩:=(HK3.out.reach HBZ.out).cells
     go_simp
     refine hK.out _ _ (fun h=>absurd h (by decide)) ?_
     clear hK K z0 z1 z2 z3 z4 z5 z6 z7 z8 zf;refine wpAnyJ_one (i:=9) (by kernel_rfl) rfl ?_
     intro K hK;go_simp
     refine hK.out _ _ (fun h=>absurd h (by decide)) ?_
     clear hK K;refine wpAnyJ_done (by kernel_rfl) ?_
     refine NoPanic.normal ?_
     obtain ⟨⟨⟨z0,z1⟩,z2,z3,z4,z5,z6,z7,z8⟩,zf,_⟩:=(HK3.out.reach HBZ.out).cells
     have HMZ:=hid (HM3.out.reach HBZ.out)
     have HGZ:=hid (HG3.out.tr (Gm.bel HBZ.out))
     go_wp2_with fail;rw [HEQ.out];refine bodyPost_ret (v:=.tuple #[.agg jv.cells,.pointer q']) (by simp [results,Tryz.results47,go_sem,V.cells,z0,z1,z2,z3,z4,z5,z6,z7,z8]) rfl ?_
     exact VOut.fin (g:=(⟨jv,[],je⟩,c2)) (Nat.le_succ _) HMZ.out HGZ.out HAB3.out (HFO.out.fp HFR3.out HLT3.out)
    ·subst h
     rw [HLE.out]at hll
     obtain ⟨x,y,rfl⟩:∃ x y,la=[x,y]:=by
      rcases la with _|⟨x,_|⟨y,_|⟨z,l⟩⟩⟩<;>simp at hll
      exact ⟨x,y,rfl⟩
     obtain ⟨Al,cll,rfl,_,hcl⟩:=HOV.out.1.sv
     obtain ⟨lb,lo,rfl,hce⟩:=hcl (by simp)
     have hc0:=hce 0 (by simp)
     rw [Nat.zero_mul,Nat.add_zero]at hc0
     have hc1:=hce 1 (by simp)
     rw [Nat.one_mul]at hc1
     have HSK:Hid (∀ wz,Below w3.heap.size w3 wz→(fun w'=>w'.cell? ⟨w.heap.size,1,none⟩=some (.string ⟨t.name.toArray⟩)∧((w'.cell? ⟨lb,lo,none⟩=some (.int .i64 x.num)∧w'.cell? ⟨lb,lo+1,none⟩=some (.int .i64 x.den))∧w'.cell? ⟨lb,lo+2,none⟩=some (.int .i64 x.dim.a)∧w'.cell? ⟨lb,lo+3,none⟩=some (.int .i64 x.dim.b)∧w'.cell? ⟨lb,lo+4,none⟩=some (.int .i64 x.dim.c)∧w'.cell? ⟨lb,lo+5,none⟩=some (.int .i64 x.dim.d)∧w'.cell? ⟨lb,lo+6,none⟩=some (.int .i64 x.dim.e)∧w'.cell? ⟨lb,lo+7,none⟩=some (.int .i64 x.dim.f)∧w'.cell? ⟨lb,lo+8,none⟩=some (.int .i64 x.dim.g))∧((w'.cell? ⟨lb,(lo+9),none⟩=some (.int .i64 y.num)∧w'.cell? ⟨lb,(lo+9)+1,none⟩=some (.int .i64 y.den))∧w'.cell? ⟨lb,(lo+9)+2,none⟩=some (.int .i64 y.dim.a)∧w'.cell? ⟨lb,(lo+9)+3,none⟩=some (.int .i64 y.dim.b)∧w'.cell? ⟨lb,(lo+9)+4,none⟩=some (.int .i64 y.dim.c)∧w'.cell? ⟨lb,(lo+9)+5,none⟩=some (.int .i64 y.dim.d)∧w'.cell? ⟨lb,(lo+9)+6,none⟩=some (.int .i64 y.dim.e)∧w'.cell? ⟨lb,(lo+9)+7,none⟩=some (.int .i64 y.dim.f)∧w'.cell? ⟨lb,(lo+9)+8,none⟩=some (.int .i64 y.dim.g))) wz):=fun wz h=>⟨(h.cell (block_lt_of_cell HX3.out)).trans HX3.out,hc0.reach h,hc1.reach h⟩
     have hS0:=HSK.out _ (bl_dr (Below.refl w3.heap.size w3))
     have HTW:=hid (HTWO.out x y (hlo x (by simp)) (hlo y (by simp)))
     have HEQ:Hid (ev t s c=(⟨(twoV t.name x y).1,[],(twoV t.name x y).2⟩,c2)):=HEV4.out
     generalize twoV t.name x y=R at*;obtain ⟨jv,je⟩:=R
     dsimp only at HTW HEQ
     clear hlo hll hce hcl hc0 hc1 HONE HTWO;go_upto_region 29 with (fail);clear z0 z1 z2 z3 z4 z5 z6 z7 z8 zf;refine wp_region_noPanic ?_
     refine wp_region_J 11 (fun w'=>w'.cell? ⟨w.heap.size,1,none⟩=some (.string ⟨t.name.toArray⟩)∧((w'.cell? ⟨lb,lo,none⟩=some (.int .i64 x.num)∧w'.cell? ⟨lb,lo+1,none⟩=some (.int .i64 x.den))∧w'.cell? ⟨lb,lo+2,none⟩=some (.int .i64 x.dim.a)∧w'.cell? ⟨lb,lo+3,none⟩=some (.int .i64 x.dim.b)∧w'.cell? ⟨lb,lo+4,none⟩=some (.int .i64 x.dim.c)∧w'.cell? ⟨lb,lo+5,none⟩=some (.int .i64 x.dim.d)∧w'.cell? ⟨lb,lo+6,none⟩=some (.int .i64 x.dim.e)∧w'.cell? ⟨lb,lo+7,none⟩=some (.int .i64 x.dim.f)∧w'.cell? ⟨lb,lo+8,none⟩=some (.int .i64 x.dim.g))∧((w'.cell? ⟨lb,(lo+9),none⟩=some (.int .i64 y.num)∧w'.cell? ⟨lb,(lo+9)+1,none⟩=some (.int .i64 y.den))∧w'.cell? ⟨lb,(lo+9)+2,none⟩=some (.int .i64 y.dim.a)∧w'.cell? ⟨lb,(lo+9)+3,none⟩=some (.int .i64 y.dim.b)∧w'.cell? ⟨lb,(lo+9)+4,none⟩=some (.int .i64 y.dim.c)∧w'.cell? ⟨lb,(lo+9)+5,none⟩=some (.int .i64 y.dim.d)∧w'.cell? ⟨lb,(lo+9)+6,none⟩=some (.int .i64 y.dim.e)∧w'.cell? ⟨lb,(lo+9)+7,none⟩=some (.int .i64 y.dim.f)∧w'.cell? ⟨lb,(lo+9)+8,none⟩=some (.int .i64 y.dim.g))) (by kernel_rfl) ?_
     simp only [List.size_toArray,List.length_cons,List.length_nil,Nat.zero_add,Nat.reduceAdd];refine wpAnyJ_take (i:=0) (v:=?vb0) [11] rfl (by kernel_rfl) (by kernel_rfl) (by kernel_rfl) (by kernel_rfl) (by kernel_rfl) (by kernel_rfl) (by kernel_rfl) (fun _ _ _ h=>h) (Or.inl ⟨by rfl,?hb0⟩) hS0 ?rb0
     case hb0=>(intro w' hSw; (try dsimp only at hSw); go_simp; all_goals with_reducible rfl)
     try dsimp only [Act.put]
     refine wpAnyJ_take (i:=1) (v:=?vb1) [11] rfl (by kernel_rfl) (by kernel_rfl) (by kernel_rfl) (by kernel_rfl) (by kernel_rfl) (by kernel_rfl) (by kernel_rfl) (fun _ _ _ h=>h) (Or.inl ⟨by rfl,?hb1⟩) hS0 ?rb1
     case hb1=>(intro w' hSw; (try dsimp only at hSw); go_simp; all_goals with_reducible rfl)
     try dsimp only [Act.put]
     refine wpAnyJ_take (i:=2) (v:=?vb2) [11] rfl (by kernel_rfl) (by kernel_rfl) (by kernel_rfl) (by kernel_rfl) (by kernel_rfl) (by kernel_rfl) (by kernel_rfl) (fun _ _ _ h=>h) (Or.inl ⟨by rfl,?hb2⟩) hS0 ?rb2
     case hb2=>(intro w' hSw; (try dsimp only at hSw); go_simp; all_goals with_reducible rfl)
     try dsimp only [Act.put]
     refine wpAnyJ_take (i:=3) (v:=?vb3) [11] rfl (by kernel_rfl) (by kernel_rfl) (by kernel_rfl) (by kernel_rfl) (by kernel_rfl) (by kernel_rfl) (by kernel_rfl) (fun _ _ _ h=>h) (Or.inl ⟨by rfl,?hb3⟩) hS0 ?rb3
     case hb3=>(intro w' hSw; (try dsimp only at hSw); go_simp; all_goals with_reducible rfl)
     try dsimp only [Act.put]
     refine wpAnyJ_take (i:=4) (v:=?vb4) [11] rfl (by kernel_rfl) (by kernel_rfl) (by kernel_rfl) (by kernel_rfl) (by kernel_rfl) (by kernel_rfl) (by kernel_rfl) (fun _ _ _ h=>h) (Or.inl ⟨by rfl,?hb4⟩) hS0 ?rb4
     case hb4=>(intro w' hSw; (try dsimp only at hSw); go_simp; all_goals with_reducible rfl)
     try dsimp only [Act.put]
     refine wpAnyJ_take (i:=5) (v:=?vb5) [11] rfl (by kernel_rfl) (by kernel_rfl) (by kernel_rfl) (by kernel_rfl) (by kernel_rfl) (by kernel_rfl) (by kernel_rfl) (fun _ _ _ h=>h) (Or.inl ⟨by rfl,?hb5⟩) hS0 ?rb5
     case hb5=>(intro w' hSw; (try dsimp only at hSw); go_simp; all_goals with_reducible rfl)
     try dsimp only [Act.put]
     refine wpAnyJ_take (i:=6) (v:=?vb6) [11] rfl (by kernel_rfl) (by kernel_rfl) (by kernel_rfl) (by kernel_rfl) (by kernel_rfl) (by kernel_rfl) (by kernel_rfl) (fun _ _ _ h=>h) (Or.inl ⟨by rfl,?hb6⟩) hS0 ?rb6
     case hb6=>(intro w' hSw; (try dsimp only at hSw); go_simp; all_goals with_reducible rfl)
     try dsimp only [Act.put]
     refine wpAnyJ_take (i:=7) (v:=?vb7) [11] rfl (by kernel_rfl) (by kernel_rfl) (by kernel_rfl) (by kernel_rfl) (by kernel_rfl) (by kernel_rfl) (by kernel_rfl) (fun _ _ _ h=>h) (Or.inl ⟨by rfl,?hb7⟩) hS0 ?rb7
     case hb7=>(intro w' hSw; (try dsimp only at hSw); go_simp; all_goals with_reducible rfl)
     try dsimp only [Act.put]
     clear hS0;refine wpAnyJ_one (i:=8) (by kernel_rfl) rfl ?_
     intro K hK;go_simp
     go_wp2_with (go_at_call 97; (refine (HTW.out _).mono ?_); rintro r wz ⟨q',rfl,hfo,hbz⟩)
     have HFO:=hid hfo
     have HBZ:=hid (bl_tr (bl_dr (Below.refl w3.heap.size w3)) hbz)
     clear hfo hbz;have hS1:=HSK.out _ HBZ.out
     refine hK.out _ _ (fun _=>hS1) ?_
     clear hK K;refine wpAnyJ_take (i:=9) (v:=?vb9) [11] rfl (by kernel_rfl) (by kernel_rfl) (by kernel_rfl) (by kernel_rfl) (by kernel_rfl) (by kernel_rfl) (by kernel_rfl) (fun _ _ _ h=>h) (Or.inl ⟨by rfl,?hb9⟩) hS1 ?rb9
     case hb9=>(intro w' hSw; (try dsimp only at hSw); go_simp; all_goals with_reducible rfl)
     try dsimp only [Act.put]
     refine wpAnyJ_take (i:=10) (v:=?vb10) [11] rfl (by kernel_rfl) (by kernel_rfl) (by kernel_rfl) (by kernel_rfl) (by kernel_rfl) (by kernel_rfl) (by kernel_rfl) (fun _ _ _ h=>h) (Or.inl ⟨by rfl,?hb10⟩) hS1 ?rb10
     case hb10=>(intro w' hSw; (try dsimp only at hSw); go_simp; all_goals with_reducible rfl)
     try dsimp only [Act.put]
     clear hS1;refine wpAnyJ_one (i:=11) (by kernel_rfl) rfl ?_
     intro K hK;obtain ⟨⟨⟨z0,z1⟩,z2,z3,z4,z5,z6,z7,z8⟩,zf,_⟩:=(HK3.out.reach HBZ.out).cells
     go_simp
     refine hK.out _ _ (fun h=>absurd h (by decide)) ?_
     clear hK K z0 z1 z2 z3 z4 z5 z6 z7 z8 zf;refine wpAnyJ_one (i:=12) (by kernel_rfl) rfl ?_
     intro K hK;go_simp
     refine hK.out _ _ (fun h=>absurd h (by decide)) ?_
     clear hK K;refine wpAnyJ_done (by kernel_rfl) ?_
     refine NoPanic.normal ?_
     obtain ⟨⟨⟨z0,z1⟩,z2,z3,z4,z5,z6,z7,z8⟩,zf,_⟩:=(HK3.out.reach HBZ.out).cells
     have HMZ:=hid (HM3.out.reach HBZ.out)
     have HGZ:=hid (HG3.out.tr (Gm.bel HBZ.out))
     go_wp2_with fail;rw [HEQ.out];refine bodyPost_ret (v:=.tuple #[.agg jv.cells,.pointer q']) (by simp [results,Tryz.results47,go_sem,V.cells,z0,z1,z2,z3,z4,z5,z6,z7,z8]) rfl ?_
     exact VOut.fin (g:=(⟨jv,[],je⟩,c2)) (Nat.le_succ _) HMZ.out HGZ.out HAB3.out (HFO.out.fp HFR3.out HLT3.out)
   ·have HEQ:=hid (HEV3.out.trans (if_neg he))
    obtain ⟨rv,rp,re⟩:=ra
    obtain rfl:rv=zV:=HTD.out.2 he
    have HFF:Hid (FP w3 (some ⟨fb,0,none⟩) (fun k=>Aw mb un uv k∧(w.heap.size+1)<k) ⟨zV,rp,re⟩):=.inr ⟨he,fb,rfl,hfb.mono fun k hk=>⟨hk.1,by have:=hk.2; have:=HLT2.out; omega⟩⟩
    clear he hfb HFP HOA HOKA HTD HEV3 HEV2 HEV;go_wp2_with fail;rw [HEQ.out];refine bodyPost_ret (v:=.tuple #[.agg (zV).cells,.pointer (some ⟨fb,0,none⟩)]) (by simp [results,Tryz.results47,go_sem,V.cells,zV,zD,z0,z1,z2,z3,z4,z5,z6,z7,z8]) rfl ?_
    exact VOut.fin (g:=(⟨zV,rp,re⟩,c2)) (Nat.le_succ _) HM3.out HG3.out HAB3.out HFF.out
  ·have hlb:((t.args.length:Int) != (ar:Int))=true:=by rw [bne_iff_ne]; omega
   have HE2:Hid (ev t s c=(erR 13,c)):=HEV2.out.trans (if_neg hl)
   clear hl;go_wp2_with fail;refine (fail_any 13 w2).mono ?_
   rintro r' wf ⟨fb,rfl,hfb,hbf⟩
   have HMf:=hid (HM2.out.reach hbf)
   have HGf:=hid (HG2.out.tr (Gm.bel hbf))
   have HF2:=hid hfb
   have HLT:Hid ((w.heap.size+1)<w2.heap.size):=HK2.out.cells.2.2
   have HFR:=hid fun (k:Nat)(h:w2.heap.size≤k)=>HM2.out.fresh h
   obtain ⟨⟨⟨y0,y1⟩,y2,y3,y4,y5,y6,y7,y8⟩,yf,_⟩:=(HK2.out.reach hbf).cells
   clear hfb hbf;go_wp2_with fail;rw [HE2.out];refine bodyPost_ret (v:=.tuple #[.agg (erR 13).v.cells,.pointer (some ⟨fb,0,none⟩)]) (by simp [results,Tryz.results47,go_sem,erR,V.cells,zV,zD,y0,y1,y2,y3,y4,y5,y6,y7,y8]) rfl ?_
   exact VOut.fin (g:=(erR 13,_)) (Nat.le_succ _) HMf.out HGf.out (HAB'.out) (HF2.out.fp (by decide) HFR.out HLT.out)
variable {mb B:Nat}
set_option maxRecDepth 100000 in
set_option maxHeartbeats 4000000 in
theorem value_bind {N:Nat}(IH:RTermC mb B N)(t:T)(hw:WF t)(hk:t.kind=5)(hz:t.size≤N+1)(hN:N≤2000)(s:Sc)(hok:s.ok)(hsz:s.length+(N+1)≤5000)(A:Option Addr)(ca c:Nat)(w:World)(vn vv:Value)(hc:c≤2000)(ht:TV w B t A ca)(hm:MS w mb B s c vn vv):
  Calls Tryz.prog 47 #[.pointer (some ⟨mb,0,none⟩),.agg (tv t A ca)] w fun e w'=>VOut2 w w' mb B s vn vv (ev t s c) e:=by
 have HO:=hid (own_short' hw.parts.1)
 have HB:=hid (b2 w (.cells (tv t A ca) 24) (.cells #[.int .i64 0,.int .i64 0,.int .i64 0,.int .i64 0,.int .i64 0,.int .i64 0,.int .i64 0,.int .i64 0,.int .i64 0] 44))
 have HX:Hid (Bxd ((w.alloc (.cells (tv t A ca) 24)).alloc (.cells #[.int .i64 0,.int .i64 0,.int .i64 0,.int .i64 0,.int .i64 0,.int .i64 0,.int .i64 0,.int .i64 0,.int .i64 0] 44)) w.heap.size t A ca):=(bxd_new w t A ca).below (b1 _ (.cells #[.int .i64 0,.int .i64 0,.int .i64 0,.int .i64 0,.int .i64 0,.int .i64 0,.int .i64 0,.int .i64 0,.int .i64 0] 44)) (by simp)
 have HK:Hid (K9 ((w.alloc (.cells (tv t A ca) 24)).alloc (.cells #[.int .i64 0,.int .i64 0,.int .i64 0,.int .i64 0,.int .i64 0,.int .i64 0,.int .i64 0,.int .i64 0,.int .i64 0] 44)) (w.heap.size+1) zV):=by
  have h:=K9.new (w.alloc (.cells (tv t A ca) 24)) zV
  rw [World.size_alloc]at h
  exact h
 have HM:Hid (MS ((w.alloc (.cells (tv t A ca) 24)).alloc (.cells #[.int .i64 0,.int .i64 0,.int .i64 0,.int .i64 0,.int .i64 0,.int .i64 0,.int .i64 0,.int .i64 0,.int .i64 0] 44)) mb B s c vn vv):=hm.reach HB.out
 have HG:Hid (Gm w ((w.alloc (.cells (tv t A ca) 24)).alloc (.cells #[.int .i64 0,.int .i64 0,.int .i64 0,.int .i64 0,.int .i64 0,.int .i64 0,.int .i64 0,.int .i64 0,.int .i64 0] 44)) mb vn vv vn vv):=Gm.bel HB.out
 have HAB:Hid (Aw mb vn vv (w.heap.size+1)):=hm.fresh (Nat.le_succ _)
 have HAX:Hid (Aw mb vn vv w.heap.size):=hm.fresh (Nat.le_refl _)
 have HSZ:Hid (((w.alloc (.cells (tv t A ca) 24)).alloc (.cells #[.int .i64 0,.int .i64 0,.int .i64 0,.int .i64 0,.int .i64 0,.int .i64 0,.int .i64 0,.int .i64 0,.int .i64 0] 44)).heap.size=w.heap.size+2):=by show _=_; simp
 have HBL:Hid (B≤w.heap.size):=hm.bLe
 have HTV:Hid (∀ wz,Below w.heap.size w wz→MS wz mb B s c vn vv→Calls Tryz.prog 93 #[.pointer (some ⟨mb,0,none⟩),.agg (tv t A ca)] wz fun e w'=>VOut2 wz w' mb B s vn vv (ev t s c) e):=fun wz hb h=>bind93_any IH t hz hw hk hN s A ca c wz vn vv hc hok hsz (ht.below (hb.mono hm.bLe)) h
 unfold VOut2 at HTV;generalize hg:ev t s c=g at*;obtain ⟨r,c2⟩:=g
 clear hz hw hok hc ht hm IH HO hg;dsimp only at HTV
 unfold V.cells tv at HTV;go_enter Tryz.func47,Tryz.ntmps47;go_upto_region 1 with (fail);generalize (w.alloc (.cells (tv t A ca) 24)).alloc (.cells #[.int .i64 0,.int .i64 0,.int .i64 0,.int .i64 0,.int .i64 0,.int .i64 0,.int .i64 0,.int .i64 0,.int .i64 0] 44)=w1 at*;have hww:w.heap.size<w1.heap.size:=by have:=HB.out.size; have:=HSZ.out; omega
 obtain ⟨k0,k1,k2,k3,k4⟩:=HX.out
 rw [hk]at k0
 rw [hk]at HTV
 have HTW:=hid (HTV.out w1 HB.out HM.out)
 clear HTV;go_wp2_with fail;refine HTW.out.mono ?_
 rintro e w3 ⟨q,un,uv,rfl,hfp,hms3,hgm3⟩
 have HM3:=hid hms3
 have HG3:=hid (HG.out.tr hgm3)
 have HAB3:Hid (Aw mb un uv (w.heap.size+1)):=(hgm3.block _ HK.out.cells.2.2 HAB.out).2
 have HK3:Hid (K9 w3 (w.heap.size+1) zV):=(hgm3.block _ HK.out.cells.2.2 HAB.out).1.trans HK.out
 have HLT:Hid ((w.heap.size+1)<w1.heap.size):=HK.out.cells.2.2
 have HFP:Hid (FP w3 q (fun k=>Aw mb un uv k∧(w.heap.size+1)<k) r):=FP.mono hfp fun k hk=>⟨hk.1,by have h1:=hk.2; have h2:=HLT.out; omega⟩
 clear hfp hms3 hgm3 k0 k1 k2 k3 k4 HTW;obtain ⟨⟨⟨z0,z1⟩,z2,z3,z4,z5,z6,z7,z8⟩,zf,_⟩:=HK3.out.cells
 go_wp2_with fail;refine bodyPost_ret (v:=.tuple #[.agg r.v.cells,.pointer q]) (by simp [results,Tryz.results47,go_sem,V.cells,z0,z1,z2,z3,z4,z5,z6,z7,z8]) rfl ?_
 exact VOut.fin (g:=(r,c2)) (Nat.le_succ _) HM3.out HG3.out HAB3.out HFP.out
theorem rterm_less {N N':Nat}(h:RTermC mb B N)(hn:N'≤N):RTermC mb B N':=fun t hz=>h t (Nat.le_trans hz hn)
theorem rterm_all (HF:RFindC):∀ N:Nat,N≤2000→RTermC mb B N
 | 0,_=>fun t hz=>by have:=size_pos t; omega
 | N+1,hN=>fun t hz hw s A ca c w vn vv hc hok hsz ht hm=>by
  have hp:=size_pos t
  have IH:RTermC mb B (t.size-1):=rterm_less (rterm_all HF N (by omega)) (by omega)
  rcases kind_cases hw.parts.1 with h|h|h|h|h
  ·exact value_num t hw h s A ca c w vn vv hm
  ·exact value_var t hw h s (by omega) A ca c w vn vv hm
  ·exact value_text HF t hw h s A ca c w vn vv hm
  ·exact value_apply IH t hw h (by omega) (by omega) s hok (by omega) A ca c w vn vv hc ht hm
  ·exact value_bind IH t hw h (by omega) (by omega) s hok (by omega) A ca c w vn vv hc ht hm
end Go.Proofs.YtknpigdpepmimaaGreatDoor
namespace Go.Proofs.YtknpigdpepmimaaGreatDoor
open Go.Lib(hid)
def baseL:List W8:=[[109],[107,103],[115],[65],[75],[109,111,108],[99,100]]
def Dm.l (d:Dm):List Int:=[d.a,d.b,d.c,d.d,d.e,d.f,d.g]
def pieceL (n:W8) (e:Int):W8:=if e=1 then n else n++94::Lib.itoa e
def pieces:List (W8 × Int)→List W8
 | []=>[]
 | p::l=>if p.2=0 then pieces l else pieceL p.1 p.2::pieces l
def Dm.pc (d:Dm) (i:Nat):List W8:=pieces ((baseL.zip d.l).take i)
def spcL (l:List W8):W8:=Lib.join l [32]
def dtxt (d:Dm):W8:=if d.ok then (if d.pc 7=[]then [49]else spcL (d.pc 7))else []
def vtxt (v:V):W8:=if Q.validQ v.num v.den&&v.dim.ok then (if v.dim=zD then Q.txt v.num v.den else Q.txt v.num v.den++32::dtxt v.dim)else []
theorem pieces_app (l m:List (W8 × Int)):pieces (l++m)=pieces l++pieces m:=by
 induction l with
 | nil=>rw [pieces]; rfl
 | cons p l ih=>
  rw [List.cons_append,pieces,pieces];split
  ·exact ih
  ·rw [ih]; rfl
theorem Dm.pc_succ (d:Dm) (i:Nat)(h:i<7):d.pc (i+1)=d.pc i++(if d.l[i]'h=0 then []else [pieceL (baseL[i]'h) (d.l[i]'h)]):=by
 have hz:i<(baseL.zip d.l).length:=h
 unfold Dm.pc;rw [List.take_succ_eq_append_getElem hz,pieces_app,List.getElem_zip,pieces,pieces];rfl
theorem spc_snoc (l:List W8)(p:W8):spcL (l++[p])=if l=[]then p else spcL l++32::p:=by
 cases l with
 | nil=>exact Lib.join_one _ _
 | cons x r=>
  rw [if_neg (by simp)]
  unfold spcL;rw [List.cons_append,Lib.join_cons,Lib.join_cons];simp [Lib.joinTail]
theorem base_all:∀ x∈baseL,x≠[]∧x.length≤3:=by decide
theorem base_ne (i:Nat)(h:i<7):baseL[i]'h≠[]:=(base_all _ (List.getElem_mem h)).1
theorem base_len (i:Nat)(h:i<7):(baseL[i]'h).length≤3:=(base_all _ (List.getElem_mem h)).2
theorem piece_ne (i:Nat)(h:i<7) (e:Int):pieceL (baseL[i]'h) e≠[]:=by
 unfold pieceL;split
 ·exact base_ne i h
 ·intro h0; exact base_ne i h (List.append_eq_nil_iff.1 h0).1
theorem pc_ne (d:Dm):∀ i,i≤7→∀ p∈d.pc i,p≠[]
 | 0,_,p,hp=>by unfold Dm.pc at hp; rw [List.take_zero,pieces]at hp; cases hp
 | i+1,h,p,hp=>by
  rw [d.pc_succ i (by omega)]at hp
  rcases List.mem_append.1 hp with hp|hp
  ·exact pc_ne d i (by omega) p hp
  ·split at hp
   ·cases hp
   ·rw [List.mem_singleton]at hp; subst hp; exact piece_ne i (by omega) _
theorem spc_nil {l:List W8}(h:∀ p∈l,p≠[]):spcL l=[]↔l=[]:=by
 cases l with
 | nil=>exact ⟨fun _=>rfl,fun _=>rfl⟩
 | cons x r=>
  refine ⟨fun h0=>?_,fun h0=>by cases h0⟩
  unfold spcL at h0;rw [Lib.join_cons]at h0
  exact absurd (List.append_eq_nil_iff.1 h0).1 (h x List.mem_cons_self)
theorem Dm.pc_len (d:Dm):∀ i,i≤7→(d.pc i).length≤i
 | 0,_=>Nat.le_refl _
 | i+1,h=>by
  rw [d.pc_succ i (by omega),List.length_append]
  have:=Dm.pc_len d i (by omega)
  split<;>simp<;>omega
def wordsF (by_:UInt8):W8→W8→List W8
 | [],cur=>[cur]
 | c::l,cur=>if c=by_ then cur::wordsF by_ l []else wordsF by_ l (cur++[c])
def wordsL (by_:UInt8)(s:W8):List W8:=wordsF by_ s []
def expW (e:Int)(w:List W8):Prop:=(w.length<2∧e=1)∨(∃ h:1<w.length,w[1]=Lib.itoa e∧-100≤e∧e≤100)
end Go.Proofs.YtknpigdpepmimaaGreatDoor
