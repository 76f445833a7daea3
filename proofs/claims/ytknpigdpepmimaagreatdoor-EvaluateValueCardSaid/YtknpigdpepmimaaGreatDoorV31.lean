/- Contracts of the reference's two 97. -/
import Derived.OrdersHeld
import Derived.Test.YtknpigdpepmimaaGreatDoorV28
import Derived.Test.YtknpigdpepmimaaGreatDoorV30
namespace Go.Proofs.YtknpigdpepmimaaGreatDoor
open Go.Lib(hid)
open Go.RowKit Go.Maps
set_option maxRecDepth 100000 in
set_option maxHeartbeats 4000000 in
theorem two_any (n:W8)(x y:V)(hx:x.ok)(hy:y.ok)(w:World):Calls Tryz.prog 97 #[.string ⟨n.toArray⟩,.agg x.cells,.agg y.cells] w fun r w'=>∃ q,r=.returned (.tuple #[.agg (twoV n x y).1.cells,.pointer q])∧FO w' w.heap.size q (twoV n x y)∧Below w.heap.size w w':=by
 have HE:Hid (twoV n x y=if n=[112,108,117,115]then sumV x y else if n=[109,105,110,117,115]then difV x y else if n=[111,118,101,114]then quoV x y else if n=[100,105,118,105,100,101]then quoV x y else if n=[112,111,119,101,114]then powV x y else proV x y):=rfl
 generalize twoV n x y=R at*;have HX:=hid hx.bnd
 have HY:=hid hy.bnd
 have HOX:=hid hx
 have HOY:=hid hy
 clear hx hy;have HB:=hid (b3 w (.cells #[.int .i64 x.num,.int .i64 x.den,.int .i64 x.dim.a,.int .i64 x.dim.b,.int .i64 x.dim.c,.int .i64 x.dim.d,.int .i64 x.dim.e,.int .i64 x.dim.f,.int .i64 x.dim.g] 44) (.cells #[.int .i64 y.num,.int .i64 y.den,.int .i64 y.dim.a,.int .i64 y.dim.b,.int .i64 y.dim.c,.int .i64 y.dim.d,.int .i64 y.dim.e,.int .i64 y.dim.f,.int .i64 y.dim.g] 44) (.cells #[.int .i64 0,.int .i64 0,.int .i64 0,.int .i64 0,.int .i64 0,.int .i64 0,.int .i64 0,.int .i64 0,.int .i64 0] 44))
 have HP:Hid (K9 (((w.alloc (.cells #[.int .i64 x.num,.int .i64 x.den,.int .i64 x.dim.a,.int .i64 x.dim.b,.int .i64 x.dim.c,.int .i64 x.dim.d,.int .i64 x.dim.e,.int .i64 x.dim.f,.int .i64 x.dim.g] 44)).alloc (.cells #[.int .i64 y.num,.int .i64 y.den,.int .i64 y.dim.a,.int .i64 y.dim.b,.int .i64 y.dim.c,.int .i64 y.dim.d,.int .i64 y.dim.e,.int .i64 y.dim.f,.int .i64 y.dim.g] 44)).alloc (.cells #[.int .i64 0,.int .i64 0,.int .i64 0,.int .i64 0,.int .i64 0,.int .i64 0,.int .i64 0,.int .i64 0,.int .i64 0] 44)) w.heap.size x):=((K9.new w x).reach (b1 _ (.cells #[.int .i64 y.num,.int .i64 y.den,.int .i64 y.dim.a,.int .i64 y.dim.b,.int .i64 y.dim.c,.int .i64 y.dim.d,.int .i64 y.dim.e,.int .i64 y.dim.f,.int .i64 y.dim.g] 44))).reach (b1 _ (.cells #[.int .i64 0,.int .i64 0,.int .i64 0,.int .i64 0,.int .i64 0,.int .i64 0,.int .i64 0,.int .i64 0,.int .i64 0] 44))
 have HQ:Hid (K9 (((w.alloc (.cells #[.int .i64 x.num,.int .i64 x.den,.int .i64 x.dim.a,.int .i64 x.dim.b,.int .i64 x.dim.c,.int .i64 x.dim.d,.int .i64 x.dim.e,.int .i64 x.dim.f,.int .i64 x.dim.g] 44)).alloc (.cells #[.int .i64 y.num,.int .i64 y.den,.int .i64 y.dim.a,.int .i64 y.dim.b,.int .i64 y.dim.c,.int .i64 y.dim.d,.int .i64 y.dim.e,.int .i64 y.dim.f,.int .i64 y.dim.g] 44)).alloc (.cells #[.int .i64 0,.int .i64 0,.int .i64 0,.int .i64 0,.int .i64 0,.int .i64 0,.int .i64 0,.int .i64 0,.int .i64 0] 44)) (w.heap.size+1) y):=by
  have h:=(K9.new (w.alloc (.cells #[.int .i64 x.num,.int .i64 x.den,.int .i64 x.dim.a,.int .i64 x.dim.b,.int .i64 x.dim.c,.int .i64 x.dim.d,.int .i64 x.dim.e,.int .i64 x.dim.f,.int .i64 x.dim.g] 44)) y).reach (b1 _ (.cells #[.int .i64 0,.int .i64 0,.int .i64 0,.int .i64 0,.int .i64 0,.int .i64 0,.int .i64 0,.int .i64 0,.int .i64 0] 44))
  rw [World.size_alloc]at h
  exact h
 have HK:Hid (K9 (((w.alloc (.cells #[.int .i64 x.num,.int .i64 x.den,.int .i64 x.dim.a,.int .i64 x.dim.b,.int .i64 x.dim.c,.int .i64 x.dim.d,.int .i64 x.dim.e,.int .i64 x.dim.f,.int .i64 x.dim.g] 44)).alloc (.cells #[.int .i64 y.num,.int .i64 y.den,.int .i64 y.dim.a,.int .i64 y.dim.b,.int .i64 y.dim.c,.int .i64 y.dim.d,.int .i64 y.dim.e,.int .i64 y.dim.f,.int .i64 y.dim.g] 44)).alloc (.cells #[.int .i64 0,.int .i64 0,.int .i64 0,.int .i64 0,.int .i64 0,.int .i64 0,.int .i64 0,.int .i64 0,.int .i64 0] 44)) (w.heap.size+1+1) zV):=by
  have h:=K9.new ((w.alloc (.cells #[.int .i64 x.num,.int .i64 x.den,.int .i64 x.dim.a,.int .i64 x.dim.b,.int .i64 x.dim.c,.int .i64 x.dim.d,.int .i64 x.dim.e,.int .i64 x.dim.f,.int .i64 x.dim.g] 44)).alloc (.cells #[.int .i64 y.num,.int .i64 y.den,.int .i64 y.dim.a,.int .i64 y.dim.b,.int .i64 y.dim.c,.int .i64 y.dim.d,.int .i64 y.dim.e,.int .i64 y.dim.f,.int .i64 y.dim.g] 44)) zV
  rw [World.size_alloc,World.size_alloc]at h
  exact h
 unfold V.cells;go_enter Tryz.func97,Tryz.ntmps97;go_upto_region 1 with (fail);generalize ((w.alloc (.cells #[.int .i64 x.num,.int .i64 x.den,.int .i64 x.dim.a,.int .i64 x.dim.b,.int .i64 x.dim.c,.int .i64 x.dim.d,.int .i64 x.dim.e,.int .i64 x.dim.f,.int .i64 x.dim.g] 44)).alloc (.cells #[.int .i64 y.num,.int .i64 y.den,.int .i64 y.dim.a,.int .i64 y.dim.b,.int .i64 y.dim.c,.int .i64 y.dim.d,.int .i64 y.dim.e,.int .i64 y.dim.f,.int .i64 y.dim.g] 44)).alloc (.cells #[.int .i64 0,.int .i64 0,.int .i64 0,.int .i64 0,.int .i64 0,.int .i64 0,.int .i64 0,.int .i64 0,.int .i64 0] 44)=w1 at*
 obtain ⟨⟨⟨p0,p1⟩,p2,p3,p4,p5,p6,p7,p8⟩,pf,_⟩:=HP.out.cells
 by_cases h1:n=[112,108,117,115]
 ·have HE9:Hid (R=addR x y false):=HE.out.trans (if_pos h1)
  subst h1;clear HE;have HCO:=hid fun wz=>radd_any x y false HOX.out HOY.out wz
  unfold V.cells at HCO;obtain ⟨⟨⟨q0,q1⟩,q2,q3,q4,q5,q6,q7,q8⟩,qf,_⟩:=HQ.out.cells
  rw [← HE9.out]at HCO
  obtain ⟨jv,je⟩:=R
  dsimp only at HCO
  go_wp2_with fail;refine (HCO.out w1).mono ?_
  rintro r w2 ⟨q',rfl,hfo,hb2⟩
  have HB2:=hid (bl_tr HB.out hb2)
  have HFO:=hid hfo
  have HLT:Hid (w.heap.size+1+1<w1.heap.size):=HK.out.cells.2.2
  obtain ⟨⟨⟨z0,z1⟩,z2,z3,z4,z5,z6,z7,z8⟩,zf,_⟩:=(HK.out.reach hb2).cells
  clear hfo hb2 p0 p1 p2 p3 p4 p5 p6 p7 p8 pf q0 q1 q2 q3 q4 q5 q6 q7 q8 qf;go_wp2_with fail;refine bodyPost_ret (v:=.tuple #[.agg jv.cells,.pointer q']) (by simp [results,Tryz.results97,go_sem,V.cells,z0,z1,z2,z3,z4,z5,z6,z7,z8]) rfl ⟨_,rfl,?_,?_⟩
  ·exact (HFO.out.set9 HLT.out jv).less (by have:=HB.out.size; omega)
  ·exact below9 HB2.out (b:=w.heap.size+1+1) (by omega) jv
 ·have n1:(n == [112,108,117,115])=false:=by simpa using h1
  have HE1:=hid (HE.out.trans (if_neg h1))
  clear h1 HE;by_cases h2:n=[109,105,110,117,115]
  ·have HE9:Hid (R=addR x y true):=by show _=_; rw [addR_dif]; exact HE1.out.trans (if_pos h2)
   subst h2;clear HE1;have HCO:=hid fun wz=>radd_any x y true HOX.out HOY.out wz
   unfold V.cells at HCO;obtain ⟨⟨⟨q0,q1⟩,q2,q3,q4,q5,q6,q7,q8⟩,qf,_⟩:=HQ.out.cells
   rw [← HE9.out]at HCO
   obtain ⟨jv,je⟩:=R
   dsimp only at HCO
   go_wp2_with fail;refine (HCO.out w1).mono ?_
   rintro r w2 ⟨q',rfl,hfo,hb2⟩
   have HB2:=hid (bl_tr HB.out hb2)
   have HFO:=hid hfo
   have HLT:Hid (w.heap.size+1+1<w1.heap.size):=HK.out.cells.2.2
   obtain ⟨⟨⟨z0,z1⟩,z2,z3,z4,z5,z6,z7,z8⟩,zf,_⟩:=(HK.out.reach hb2).cells
   clear hfo hb2 p0 p1 p2 p3 p4 p5 p6 p7 p8 pf q0 q1 q2 q3 q4 q5 q6 q7 q8 qf;go_wp2_with fail;refine bodyPost_ret (v:=.tuple #[.agg jv.cells,.pointer q']) (by simp [results,Tryz.results97,go_sem,V.cells,z0,z1,z2,z3,z4,z5,z6,z7,z8]) rfl ⟨_,rfl,?_,?_⟩
   ·exact (HFO.out.set9 HLT.out jv).less (by have:=HB.out.size; omega)
   ·exact below9 HB2.out (b:=w.heap.size+1+1) (by omega) jv
  ·have n2:(n == [109,105,110,117,115])=false:=by simpa using h2
   have HE2:=hid (HE1.out.trans (if_neg h2))
   clear h2 HE1;by_cases h3:n=[111,118,101,114]
   ·have HE9:=hid (HE2.out.trans (if_pos h3))
    subst h3;clear HE2;have HE8:Hid (R=if y.num=0 then (zV,10)else joinQ (Q.divQ x.num x.den y.num y.den) (combQ x.dim y.dim (-1)).1 (combQ x.dim y.dim (-1)).2):=HE9.out
    clear HE9;obtain ⟨⟨⟨q0,q1⟩,q2,q3,q4,q5,q6,q7,q8⟩,qf,_⟩:=HQ.out.cells
    by_cases hy0:y.num=0
    ·have HR:Hid (R=(zV,10)):=HE8.out.trans (if_pos hy0)
     rw [hy0]at q0
     obtain ⟨⟨⟨z0,z1⟩,z2,z3,z4,z5,z6,z7,z8⟩,zf,_⟩:=HK.out.cells
     go_wp2_with fail;refine (fail_any 10 w1).mono ?_
     rintro r' w2 ⟨fb,rfl,hfb,hb2⟩
     have HB2:=hid (bl_tr HB.out hb2)
     have HF2:=hid hfb
     have HLT:Hid (w.heap.size+1+1<w1.heap.size):=HK.out.cells.2.2
     obtain ⟨⟨⟨y0,y1⟩,y2,y3,y4,y5,y6,y7,y8⟩,yf,_⟩:=(HK.out.reach hb2).cells
     clear hfb hb2 z0 z1 z2 z3 z4 z5 z6 z7 z8 zf;go_wp2_with fail;rw [HR.out];refine bodyPost_ret (v:=.tuple #[.agg zV.cells,.pointer (some ⟨fb,0,none⟩)]) (by simp [results,Tryz.results97,go_sem,V.cells,zV,zD,y0,y1,y2,y3,y4,y5,y6,y7,y8]) rfl ⟨_,rfl,?_,?_⟩
     ·exact ((FO.no (by decide) HF2.out).set9 HLT.out zV).less (by have:=HB.out.size; omega)
     ·exact below9 HB2.out (b:=w.heap.size+1+1) (by omega) zV
    ·have HE:Hid (R=joinQ (Q.divQ x.num x.den y.num y.den) (combQ x.dim y.dim (-1)).1 (combQ x.dim y.dim (-1)).2):=HE8.out.trans (if_neg hy0)
     have hyb:(y.num == 0)=false:=by simpa using hy0
     have HNX:=hid fun w=>rnum_any x w
     have HNY:=hid fun w=>rnum_any y w
     have HAD:=hid fun w=>Q.refDiv_any x.num x.den y.num y.den w HX.out.1 HX.out.2.1 HX.out.2.2.1 HX.out.2.2.2 HY.out.1 HY.out.2.1 HY.out.2.2.1 HY.out.2.2.2
     have HDM:=hid fun w=>rddiv_any x.dim y.dim w
     unfold Q.Res.val at HAD;generalize Q.divQ x.num x.den y.num y.den=j at*;obtain ⟨qn,qd,qe⟩:=j
     generalize combQ x.dim y.dim (-1)=g at*;obtain ⟨gd,ge⟩:=g
     have HJ:=hid fun w=>made_any qn qd qe gd ge w
     unfold V.cells at HNX HNY;unfold Dm.cells at HJ HDM;go_upto_region 10 with (fail);clear p0 p1 p2 p3 p4 p5 p6 p7 p8 pf q0 q1 q2 q3 q4 q5 q6 q7 q8 qf hy0 hyb HE8;go_cut [8,9] (fun s8 s9 wx=>∃ m:Nat,s8=.pointer (some ⟨m,0,none⟩)∧s9=.int .i64 qe∧Aside (Pr2 w1 wx m qn qd)∧Aside (Below w1.heap.size w1 wx))
     case first=>
      go_region_held_law (fun w'=>(w'.cell? ⟨w.heap.size,0,none⟩=some (.int .i64 x.num)∧w'.cell? ⟨w.heap.size,0+1,none⟩=some (.int .i64 x.den)∧w'.cell? ⟨w.heap.size,0+2,none⟩=some (.int .i64 x.dim.a)∧w'.cell? ⟨w.heap.size,0+3,none⟩=some (.int .i64 x.dim.b)∧w'.cell? ⟨w.heap.size,0+4,none⟩=some (.int .i64 x.dim.c)∧w'.cell? ⟨w.heap.size,0+5,none⟩=some (.int .i64 x.dim.d)∧w'.cell? ⟨w.heap.size,0+6,none⟩=some (.int .i64 x.dim.e)∧w'.cell? ⟨w.heap.size,0+7,none⟩=some (.int .i64 x.dim.f)∧w'.cell? ⟨w.heap.size,0+8,none⟩=some (.int .i64 x.dim.g))∧(w'.cell? ⟨w.heap.size+1,0,none⟩=some (.int .i64 y.num)∧w'.cell? ⟨w.heap.size+1,0+1,none⟩=some (.int .i64 y.den)∧w'.cell? ⟨w.heap.size+1,0+2,none⟩=some (.int .i64 y.dim.a)∧w'.cell? ⟨w.heap.size+1,0+3,none⟩=some (.int .i64 y.dim.b)∧w'.cell? ⟨w.heap.size+1,0+4,none⟩=some (.int .i64 y.dim.c)∧w'.cell? ⟨w.heap.size+1,0+5,none⟩=some (.int .i64 y.dim.d)∧w'.cell? ⟨w.heap.size+1,0+6,none⟩=some (.int .i64 y.dim.e)∧w'.cell? ⟨w.heap.size+1,0+7,none⟩=some (.int .i64 y.dim.f)∧w'.cell? ⟨w.heap.size+1,0+8,none⟩=some (.int .i64 y.dim.g))) ((refine T18 HP.out HQ.out ?_; repeat (first|with_reducible exact Below.refl _ _|with_reducible apply bl_dr|with_reducible apply bl_al|with_reducible refine bl_st ?_ hk2 _|with_reducible refine bl_tr ?_ (by assumption)))) (first|(go_at_call 52; (with_reducible refine (HNX.out _).mono ?_); rintro r wz ⟨rfl,hbz⟩; (first|(have hk:=Pr2.reach (Pr2.new (w0:=w1) (by show Below _ _ _; repeat (first|with_reducible exact Below.refl _ _|with_reducible apply bl_dr|with_reducible apply bl_al|with_reducible refine bl_st ?_ hk2 _|with_reducible refine bl_tr ?_ (by assumption))) 0 0) hbz; obtain ⟨⟨k0,k1⟩,kf,_⟩:=hk.1.cells; have hk2:=hk.2)|(have hk:=Pr2.reach (Pr2.dr (Pr2.new (w0:=w1) (by show Below _ _ _; repeat (first|with_reducible exact Below.refl _ _|with_reducible apply bl_dr|with_reducible apply bl_al|with_reducible refine bl_st ?_ hk2 _|with_reducible refine bl_tr ?_ (by assumption))) 0 0)) hbz; obtain ⟨⟨k0,k1⟩,kf,_⟩:=hk.1.cells; have hk2:=hk.2)|(have hk:=Pr2.reach (by assumption) hbz; obtain ⟨⟨k0,k1⟩,kf,_⟩:=hk.1.cells; have hk2:=hk.2)|skip))|(go_at_call 52; (with_reducible refine (HNY.out _).mono ?_); rintro r wz ⟨rfl,hbz⟩; (first|(have hk:=Pr2.reach (Pr2.new (w0:=w1) (by show Below _ _ _; repeat (first|with_reducible exact Below.refl _ _|with_reducible apply bl_dr|with_reducible apply bl_al|with_reducible refine bl_st ?_ hk2 _|with_reducible refine bl_tr ?_ (by assumption))) 0 0) hbz; obtain ⟨⟨k0,k1⟩,kf,_⟩:=hk.1.cells; have hk2:=hk.2)|(have hk:=Pr2.reach (Pr2.dr (Pr2.new (w0:=w1) (by show Below _ _ _; repeat (first|with_reducible exact Below.refl _ _|with_reducible apply bl_dr|with_reducible apply bl_al|with_reducible refine bl_st ?_ hk2 _|with_reducible refine bl_tr ?_ (by assumption))) 0 0)) hbz; obtain ⟨⟨k0,k1⟩,kf,_⟩:=hk.1.cells; have hk2:=hk.2)|(have hk:=Pr2.reach (by assumption) hbz; obtain ⟨⟨k0,k1⟩,kf,_⟩:=hk.1.cells; have hk2:=hk.2)|skip))|(go_at_call 144; (with_reducible refine (HAD.out _).mono ?_); rintro r wz ⟨rfl,hbz⟩; (first|(have hk:=Pr2.reach (Pr2.new (w0:=w1) (by show Below _ _ _; repeat (first|with_reducible exact Below.refl _ _|with_reducible apply bl_dr|with_reducible apply bl_al|with_reducible refine bl_st ?_ hk2 _|with_reducible refine bl_tr ?_ (by assumption))) 0 0) hbz; obtain ⟨⟨k0,k1⟩,kf,_⟩:=hk.1.cells; have hk2:=hk.2)|(have hk:=Pr2.reach (Pr2.dr (Pr2.new (w0:=w1) (by show Below _ _ _; repeat (first|with_reducible exact Below.refl _ _|with_reducible apply bl_dr|with_reducible apply bl_al|with_reducible refine bl_st ?_ hk2 _|with_reducible refine bl_tr ?_ (by assumption))) 0 0)) hbz; obtain ⟨⟨k0,k1⟩,kf,_⟩:=hk.1.cells; have hk2:=hk.2)|(have hk:=Pr2.reach (by assumption) hbz; obtain ⟨⟨k0,k1⟩,kf,_⟩:=hk.1.cells; have hk2:=hk.2)|skip)))
      all_goals
       go_wp2_with fail;go_meet
       case rel=>exact ⟨_,rfl,rfl,(by show Pr2 _ _ _ _ _; first|with_reducible exact Pr2.set hk _ _|with_reducible exact Pr2.new (by show Below _ _ _; repeat (first|with_reducible exact Below.refl _ _|with_reducible apply bl_dr|with_reducible apply bl_al|with_reducible refine bl_st ?_ hk2 _|with_reducible refine bl_tr ?_ (by assumption))) _ _|with_reducible exact Pr2.dr (Pr2.new (by show Below _ _ _; repeat (first|with_reducible exact Below.refl _ _|with_reducible apply bl_dr|with_reducible apply bl_al|with_reducible refine bl_st ?_ hk2 _|with_reducible refine bl_tr ?_ (by assumption))) _ _)),(by show Below _ _ _; repeat (first|with_reducible exact Below.refl _ _|with_reducible apply bl_dr|with_reducible apply bl_al|with_reducible refine bl_st ?_ hk2 _|with_reducible refine bl_tr ?_ (by assumption)))⟩
     case rest=>
      obtain ⟨m,rfl,rfl,HM,HBc⟩:=hcut
      rename World=>wd
      have HPd:=hid (HP.out.reach HBc.out)
      have HQd:=hid (HQ.out.reach HBc.out)
      go_upto_region 11 with (fail);obtain ⟨⟨⟨p0,p1⟩,p2,p3,p4,p5,p6,p7,p8⟩,pf,_⟩:=HPd.out.cells
      obtain ⟨⟨⟨q0,q1⟩,q2,q3,q4,q5,q6,q7,q8⟩,qf,_⟩:=HQd.out.cells
      go_wp2_with fail;refine (HDM.out wd).mono ?_
      rintro r w4 ⟨rfl,hb4⟩
      have HBe:=hid (bl_tr hb4 (b1 w4 (.cells #[.int .i64 gd.a,.int .i64 gd.b,.int .i64 gd.c,.int .i64 gd.d,.int .i64 gd.e,.int .i64 gd.f,.int .i64 gd.g] 42)))
      have HM2:=hid (P7.new (Below.refl w4.heap.size w4) gd)
      go_upto_region 12 with (fail);clear hb4 p0 p1 p2 p3 p4 p5 p6 p7 p8 pf q0 q1 q2 q3 q4 q5 q6 q7 q8 qf;generalize w4.alloc (.cells #[.int .i64 gd.a,.int .i64 gd.b,.int .i64 gd.c,.int .i64 gd.d,.int .i64 gd.e,.int .i64 gd.f,.int .i64 gd.g] 42)=we at*;generalize w4.heap.size=m2 at*;have HK2:=hid ((HK.out.reach HBc.out).reach HBe.out)
      have HBw:=hid (bl_tr (bl_tr HB.out HBc.out) HBe.out)
      obtain ⟨⟨m0,m1⟩,_,_⟩:=(HM.out.reach HBe.out).1.cells
      obtain ⟨⟨p0,p1,p2,p3,p4,p5,p6⟩,_,_⟩:=HM2.out.1.cells
      rw [← HE.out]at HJ
      go_wp2_with fail;refine (HJ.out _).mono ?_
      rintro r' wf ⟨q',rfl,hfo,hbf⟩
      have HK3:=hid (HK2.out.reach hbf)
      have HBw3:=hid (bl_tr HBw.out hbf)
      have HFO:=hid hfo
      have HLT:Hid (w.heap.size+1+1<we.heap.size):=HK2.out.cells.2.2
      clear hbf hfo m0 m1 p0 p1 p2 p3 p4 p5 p6;obtain ⟨⟨⟨z0,z1⟩,z2,z3,z4,z5,z6,z7,z8⟩,zf,_⟩:=HK3.out.cells
      obtain ⟨jv,je⟩:=R
      unfold V.cells;go_wp2_with fail;refine bodyPost_ret (v:=.tuple #[.agg jv.cells,.pointer q']) (by simp [results,Tryz.results97,go_sem,V.cells,z0,z1,z2,z3,z4,z5,z6,z7,z8]) rfl ⟨_,rfl,?_,?_⟩
      ·exact (HFO.out.set9 HLT.out jv).less (by have:=HBw.out.size; omega)
      ·exact below9 HBw3.out (b:=w.heap.size+1+1) (by omega) jv
   ·have n3:(n == [111,118,101,114])=false:=by simpa using h3
    have HE3:=hid (HE2.out.trans (if_neg h3))
    clear h3 HE2;by_cases h4:n=[100,105,118,105,100,101]
    ·have HE9:=hid (HE3.out.trans (if_pos h4))
     subst h4;clear HE3;have HE8:Hid (R=if y.num=0 then (zV,10)else joinQ (Q.divQ x.num x.den y.num y.den) (combQ x.dim y.dim (-1)).1 (combQ x.dim y.dim (-1)).2):=HE9.out
     clear HE9;obtain ⟨⟨⟨q0,q1⟩,q2,q3,q4,q5,q6,q7,q8⟩,qf,_⟩:=HQ.out.cells
     by_cases hy0:y.num=0
     ·have HR:Hid (R=(zV,10)):=HE8.out.trans (if_pos hy0)
      rw [hy0]at q0
      obtain ⟨⟨⟨z0,z1⟩,z2,z3,z4,z5,z6,z7,z8⟩,zf,_⟩:=HK.out.cells
      go_wp2_with fail;refine (fail_any 10 w1).mono ?_
      rintro r' w2 ⟨fb,rfl,hfb,hb2⟩
      have HB2:=hid (bl_tr HB.out hb2)
      have HF2:=hid hfb
      have HLT:Hid (w.heap.size+1+1<w1.heap.size):=HK.out.cells.2.2
      obtain ⟨⟨⟨y0,y1⟩,y2,y3,y4,y5,y6,y7,y8⟩,yf,_⟩:=(HK.out.reach hb2).cells
      clear hfb hb2 z0 z1 z2 z3 z4 z5 z6 z7 z8 zf;go_wp2_with fail;rw [HR.out];refine bodyPost_ret (v:=.tuple #[.agg zV.cells,.pointer (some ⟨fb,0,none⟩)]) (by simp [results,Tryz.results97,go_sem,V.cells,zV,zD,y0,y1,y2,y3,y4,y5,y6,y7,y8]) rfl ⟨_,rfl,?_,?_⟩
      ·exact ((FO.no (by decide) HF2.out).set9 HLT.out zV).less (by have:=HB.out.size; omega)
      ·exact below9 HB2.out (b:=w.heap.size+1+1) (by omega) zV
     ·have HE:Hid (R=joinQ (Q.divQ x.num x.den y.num y.den) (combQ x.dim y.dim (-1)).1 (combQ x.dim y.dim (-1)).2):=HE8.out.trans (if_neg hy0)
      have hyb:(y.num == 0)=false:=by simpa using hy0
      have HNX:=hid fun w=>rnum_any x w
      have HNY:=hid fun w=>rnum_any y w
      have HAD:=hid fun w=>Q.refDiv_any x.num x.den y.num y.den w HX.out.1 HX.out.2.1 HX.out.2.2.1 HX.out.2.2.2 HY.out.1 HY.out.2.1 HY.out.2.2.1 HY.out.2.2.2
      have HDM:=hid fun w=>rddiv_any x.dim y.dim w
      unfold Q.Res.val at HAD;generalize Q.divQ x.num x.den y.num y.den=j at*;obtain ⟨qn,qd,qe⟩:=j
      generalize combQ x.dim y.dim (-1)=g at*;obtain ⟨gd,ge⟩:=g
      have HJ:=hid fun w=>made_any qn qd qe gd ge w
      unfold V.cells at HNX HNY;unfold Dm.cells at HJ HDM;go_upto_region 10 with (fail);clear p0 p1 p2 p3 p4 p5 p6 p7 p8 pf q0 q1 q2 q3 q4 q5 q6 q7 q8 qf hy0 hyb HE8;go_cut [8,9] (fun s8 s9 wx=>∃ m:Nat,s8=.pointer (some ⟨m,0,none⟩)∧s9=.int .i64 qe∧Aside (Pr2 w1 wx m qn qd)∧Aside (Below w1.heap.size w1 wx))
      case first=>
       go_region_held_law (fun w'=>(w'.cell? ⟨w.heap.size,0,none⟩=some (.int .i64 x.num)∧w'.cell? ⟨w.heap.size,0+1,none⟩=some (.int .i64 x.den)∧w'.cell? ⟨w.heap.size,0+2,none⟩=some (.int .i64 x.dim.a)∧w'.cell? ⟨w.heap.size,0+3,none⟩=some (.int .i64 x.dim.b)∧w'.cell? ⟨w.heap.size,0+4,none⟩=some (.int .i64 x.dim.c)∧w'.cell? ⟨w.heap.size,0+5,none⟩=some (.int .i64 x.dim.d)∧w'.cell? ⟨w.heap.size,0+6,none⟩=some (.int .i64 x.dim.e)∧w'.cell? ⟨w.heap.size,0+7,none⟩=some (.int .i64 x.dim.f)∧w'.cell? ⟨w.heap.size,0+8,none⟩=some (.int .i64 x.dim.g))∧(w'.cell? ⟨w.heap.size+1,0,none⟩=some (.int .i64 y.num)∧w'.cell? ⟨w.heap.size+1,0+1,none⟩=some (.int .i64 y.den)∧w'.cell? ⟨w.heap.size+1,0+2,none⟩=some (.int .i64 y.dim.a)∧w'.cell? ⟨w.heap.size+1,0+3,none⟩=some (.int .i64 y.dim.b)∧w'.cell? ⟨w.heap.size+1,0+4,none⟩=some (.int .i64 y.dim.c)∧w'.cell? ⟨w.heap.size+1,0+5,none⟩=some (.int .i64 y.dim.d)∧w'.cell? ⟨w.heap.size+1,0+6,none⟩=some (.int .i64 y.dim.e)∧w'.cell? ⟨w.heap.size+1,0+7,none⟩=some (.int .i64 y.dim.f)∧w'.cell? ⟨w.heap.size+1,0+8,none⟩=some (.int .i64 y.dim.g))) ((refine T18 HP.out HQ.out ?_; repeat (first|with_reducible exact Below.refl _ _|with_reducible apply bl_dr|with_reducible apply bl_al|with_reducible refine bl_st ?_ hk2 _|with_reducible refine bl_tr ?_ (by assumption)))) (first|(go_at_call 52; (with_reducible refine (HNX.out _).mono ?_); rintro r wz ⟨rfl,hbz⟩; (first|(have hk:=Pr2.reach (Pr2.new (w0:=w1) (by show Below _ _ _; repeat (first|with_reducible exact Below.refl _ _|with_reducible apply bl_dr|with_reducible apply bl_al|with_reducible refine bl_st ?_ hk2 _|with_reducible refine bl_tr ?_ (by assumption))) 0 0) hbz; obtain ⟨⟨k0,k1⟩,kf,_⟩:=hk.1.cells; have hk2:=hk.2)|(have hk:=Pr2.reach (Pr2.dr (Pr2.new (w0:=w1) (by show Below _ _ _; repeat (first|with_reducible exact Below.refl _ _|with_reducible apply bl_dr|with_reducible apply bl_al|with_reducible refine bl_st ?_ hk2 _|with_reducible refine bl_tr ?_ (by assumption))) 0 0)) hbz; obtain ⟨⟨k0,k1⟩,kf,_⟩:=hk.1.cells; have hk2:=hk.2)|(have hk:=Pr2.reach (by assumption) hbz; obtain ⟨⟨k0,k1⟩,kf,_⟩:=hk.1.cells; have hk2:=hk.2)|skip))|(go_at_call 52; (with_reducible refine (HNY.out _).mono ?_); rintro r wz ⟨rfl,hbz⟩; (first|(have hk:=Pr2.reach (Pr2.new (w0:=w1) (by show Below _ _ _; repeat (first|with_reducible exact Below.refl _ _|with_reducible apply bl_dr|with_reducible apply bl_al|with_reducible refine bl_st ?_ hk2 _|with_reducible refine bl_tr ?_ (by assumption))) 0 0) hbz; obtain ⟨⟨k0,k1⟩,kf,_⟩:=hk.1.cells; have hk2:=hk.2)|(have hk:=Pr2.reach (Pr2.dr (Pr2.new (w0:=w1) (by show Below _ _ _; repeat (first|with_reducible exact Below.refl _ _|with_reducible apply bl_dr|with_reducible apply bl_al|with_reducible refine bl_st ?_ hk2 _|with_reducible refine bl_tr ?_ (by assumption))) 0 0)) hbz; obtain ⟨⟨k0,k1⟩,kf,_⟩:=hk.1.cells; have hk2:=hk.2)|(have hk:=Pr2.reach (by assumption) hbz; obtain ⟨⟨k0,k1⟩,kf,_⟩:=hk.1.cells; have hk2:=hk.2)|skip))|(go_at_call 144; (with_reducible refine (HAD.out _).mono ?_); rintro r wz ⟨rfl,hbz⟩; (first|(have hk:=Pr2.reach (Pr2.new (w0:=w1) (by show Below _ _ _; repeat (first|with_reducible exact Below.refl _ _|with_reducible apply bl_dr|with_reducible apply bl_al|with_reducible refine bl_st ?_ hk2 _|with_reducible refine bl_tr ?_ (by assumption))) 0 0) hbz; obtain ⟨⟨k0,k1⟩,kf,_⟩:=hk.1.cells; have hk2:=hk.2)|(have hk:=Pr2.reach (Pr2.dr (Pr2.new (w0:=w1) (by show Below _ _ _; repeat (first|with_reducible exact Below.refl _ _|with_reducible apply bl_dr|with_reducible apply bl_al|with_reducible refine bl_st ?_ hk2 _|with_reducible refine bl_tr ?_ (by assumption))) 0 0)) hbz; obtain ⟨⟨k0,k1⟩,kf,_⟩:=hk.1.cells; have hk2:=hk.2)|(have hk:=Pr2.reach (by assumption) hbz; obtain ⟨⟨k0,k1⟩,kf,_⟩:=hk.1.cells; have hk2:=hk.2)|skip)))
       all_goals
        go_wp2_with fail;go_meet
        case rel=>exact ⟨_,rfl,rfl,(by show Pr2 _ _ _ _ _; first|with_reducible exact Pr2.set hk _ _|with_reducible exact Pr2.new (by show Below _ _ _; repeat (first|with_reducible exact Below.refl _ _|with_reducible apply bl_dr|with_reducible apply bl_al|with_reducible refine bl_st ?_ hk2 _|with_reducible refine bl_tr ?_ (by assumption))) _ _|with_reducible exact Pr2.dr (Pr2.new (by show Below _ _ _; repeat (first|with_reducible exact Below.refl _ _|with_reducible apply bl_dr|with_reducible apply bl_al|with_reducible refine bl_st ?_ hk2 _|with_reducible refine bl_tr ?_ (by assumption))) _ _)),(by show Below _ _ _; repeat (first|with_reducible exact Below.refl _ _|with_reducible apply bl_dr|with_reducible apply bl_al|with_reducible refine bl_st ?_ hk2 _|with_reducible refine bl_tr ?_ (by assumption)))⟩
      case rest=>
       obtain ⟨m,rfl,rfl,HM,HBc⟩:=hcut
       rename World=>wd
       have HPd:=hid (HP.out.reach HBc.out)
       have HQd:=hid (HQ.out.reach HBc.out)
       go_upto_region 11 with (fail);obtain ⟨⟨⟨p0,p1⟩,p2,p3,p4,p5,p6,p7,p8⟩,pf,_⟩:=HPd.out.cells
       obtain ⟨⟨⟨q0,q1⟩,q2,q3,q4,q5,q6,q7,q8⟩,qf,_⟩:=HQd.out.cells
       go_wp2_with fail;refine (HDM.out wd).mono ?_
       rintro r w4 ⟨rfl,hb4⟩
       have HBe:=hid (bl_tr hb4 (b1 w4 (.cells #[.int .i64 gd.a,.int .i64 gd.b,.int .i64 gd.c,.int .i64 gd.d,.int .i64 gd.e,.int .i64 gd.f,.int .i64 gd.g] 42)))
       have HM2:=hid (P7.new (Below.refl w4.heap.size w4) gd)
       go_upto_region 12 with (fail);clear hb4 p0 p1 p2 p3 p4 p5 p6 p7 p8 pf q0 q1 q2 q3 q4 q5 q6 q7 q8 qf;generalize w4.alloc (.cells #[.int .i64 gd.a,.int .i64 gd.b,.int .i64 gd.c,.int .i64 gd.d,.int .i64 gd.e,.int .i64 gd.f,.int .i64 gd.g] 42)=we at*;generalize w4.heap.size=m2 at*;have HK2:=hid ((HK.out.reach HBc.out).reach HBe.out)
       have HBw:=hid (bl_tr (bl_tr HB.out HBc.out) HBe.out)
       obtain ⟨⟨m0,m1⟩,_,_⟩:=(HM.out.reach HBe.out).1.cells
       obtain ⟨⟨p0,p1,p2,p3,p4,p5,p6⟩,_,_⟩:=HM2.out.1.cells
       rw [← HE.out]at HJ
       go_wp2_with fail;refine (HJ.out _).mono ?_
       rintro r' wf ⟨q',rfl,hfo,hbf⟩
       have HK3:=hid (HK2.out.reach hbf)
       have HBw3:=hid (bl_tr HBw.out hbf)
       have HFO:=hid hfo
       have HLT:Hid (w.heap.size+1+1<we.heap.size):=HK2.out.cells.2.2
       clear hbf hfo m0 m1 p0 p1 p2 p3 p4 p5 p6;obtain ⟨⟨⟨z0,z1⟩,z2,z3,z4,z5,z6,z7,z8⟩,zf,_⟩:=HK3.out.cells
       obtain ⟨jv,je⟩:=R
       unfold V.cells;go_wp2_with fail;refine bodyPost_ret (v:=.tuple #[.agg jv.cells,.pointer q']) (by simp [results,Tryz.results97,go_sem,V.cells,z0,z1,z2,z3,z4,z5,z6,z7,z8]) rfl ⟨_,rfl,?_,?_⟩
       ·exact (HFO.out.set9 HLT.out jv).less (by have:=HBw.out.size; omega)
       ·exact below9 HBw3.out (b:=w.heap.size+1+1) (by omega) jv
    ·have n4:(n == [100,105,118,105,100,101])=false:=by simpa using h4
     have HE4:=hid (HE3.out.trans (if_neg h4))
     clear h4 HE3;by_cases h5:n=[112,111,119,101,114]
     ·have HE9:=hid (HE4.out.trans (if_pos h5))
      subst h5;clear HE4;have HE8:Hid (R=if y.dim=zD then (if y.den=1 then (if x.num=0∧y.num<0 then (zV,10)else joinQ (Q.powQ x.num x.den y.num) (dpowQ x.dim y.num).1 (dpowQ x.dim y.num).2)else (zV,17))else (zV,16)):=HE9.out
      clear HE9;have HNX:=hid fun w=>rnum_any x w
      have HPU:=hid fun w=>rplain_any y w
      have HAD:=hid fun w=>Q.refPow_any x.num x.den y.num w HX.out.1 HX.out.2.1 HX.out.2.2.1 HX.out.2.2.2 HY.out.1 HY.out.2.1
      have HDM:=hid fun w=>rdpow_any x.dim y.num w HY.out.1 HY.out.2.1
      unfold Q.Res.val at HAD;generalize Q.powQ x.num x.den y.num=j at*;obtain ⟨qn,qd,qe⟩:=j
      generalize dpowQ x.dim y.num=g at*;obtain ⟨gd,ge⟩:=g
      have HJ:=hid fun w=>made_any qn qd qe gd ge w
      unfold V.cells at HNX HPU;unfold Dm.cells at HJ HDM;obtain ⟨⟨⟨q0,q1⟩,q2,q3,q4,q5,q6,q7,q8⟩,qf,_⟩:=HQ.out.cells
      go_wp2_with fail;refine (HPU.out w1).mono ?_
      rintro r w2 ⟨rfl,hb2⟩
      have HP2:=hid (HP.out.reach hb2)
      have HQ2:=hid (HQ.out.reach hb2)
      have HK2:=hid (HK.out.reach hb2)
      have HBw:=hid (bl_tr HB.out hb2)
      clear hb2 p0 p1 p2 p3 p4 p5 p6 p7 p8 pf q0 q1 q2 q3 q4 q5 q6 q7 q8 qf HB HP HQ HK;have HB:=HBw
      have HP:=HP2
      have HQ:=HQ2
      have HK:=HK2
      clear HBw HP2 HQ2 HK2;obtain ⟨⟨⟨p0,p1⟩,p2,p3,p4,p5,p6,p7,p8⟩,pf,_⟩:=HP.out.cells
      obtain ⟨⟨⟨q0,q1⟩,q2,q3,q4,q5,q6,q7,q8⟩,qf,_⟩:=HQ.out.cells
      by_cases hd:y.dim=zD
      ·have HE7:=hid (HE8.out.trans (if_pos hd))
       rw [decide_eq_true hd];clear hd HE8;by_cases hn:y.den=1
       ·have HE6:=hid (HE7.out.trans (if_pos hn))
        have hnb:(y.den != 1)=false:=by simpa using hn
        rw [hn]at q1
        clear hn HE7;by_cases h0:x.num=0∧y.num<0
        ·have HR:Hid (R=(zV,10)):=HE6.out.trans (if_pos h0)
         obtain ⟨h0a,h0b⟩:=h0
         rw [h0a]at p0
         obtain ⟨⟨⟨z0,z1⟩,z2,z3,z4,z5,z6,z7,z8⟩,zf,_⟩:=HK.out.cells
         go_wp2_with fail;refine (fail_any 10 w2).mono ?_
         rintro r' wf ⟨fb,rfl,hfb,hb2⟩
         have HB2:=hid (bl_tr HB.out hb2)
         have HF2:=hid hfb
         have HLT:Hid (w.heap.size+1+1<w2.heap.size):=HK.out.cells.2.2
         obtain ⟨⟨⟨y0,y1⟩,y2,y3,y4,y5,y6,y7,y8⟩,yf,_⟩:=(HK.out.reach hb2).cells
         clear hfb hb2 z0 z1 z2 z3 z4 z5 z6 z7 z8 zf;go_wp2_with fail;rw [HR.out];refine bodyPost_ret (v:=.tuple #[.agg zV.cells,.pointer (some ⟨fb,0,none⟩)]) (by simp [results,Tryz.results97,go_sem,V.cells,zV,zD,y0,y1,y2,y3,y4,y5,y6,y7,y8]) rfl ⟨_,rfl,?_,?_⟩
         ·exact ((FO.no (by decide) HF2.out).set9 HLT.out zV).less (by have:=HB.out.size; omega)
         ·exact below9 HB2.out (b:=w.heap.size+1+1) (by omega) zV
        ·have HE:Hid (R=joinQ ⟨qn,qd,qe⟩ gd ge):=HE6.out.trans (if_neg h0)
         go_upto_region 18 with (fail);go_cut [79] (fun s79 wx=>s79=.bool false∧w2=wx)
         case first=>
          by_cases hx0:x.num=0
          ·have hy0:¬ y.num<0:=fun h=>h0 ⟨hx0,h⟩
           rw [hx0]at p0
           clear hx0 h0;go_wp2_with fail;go_meet
           case rel=>exact ⟨rfl,rfl⟩
          ·have hx0b:(x.num == 0)=false:=by simpa using hx0
           clear h0;go_wp2_with fail;go_meet
           case rel=>exact ⟨rfl,rfl⟩
         case rest=>
          obtain ⟨rfl,rfl⟩:=hcut
          clear p0 p1 p2 p3 p4 p5 p6 p7 p8 pf q0 q1 q2 q3 q4 q5 q6 q7 q8 qf HE6 hnb;go_upto_region 20 with (fail);go_cut [12,13] (fun s12 s13 wx=>∃ m:Nat,s12=.pointer (some ⟨m,0,none⟩)∧s13=.int .i64 qe∧Aside (Pr2 w2 wx m qn qd)∧Aside (Below w2.heap.size w2 wx))
          case first=>
           go_region_held_law (fun w'=>(w'.cell? ⟨w.heap.size,0,none⟩=some (.int .i64 x.num)∧w'.cell? ⟨w.heap.size,0+1,none⟩=some (.int .i64 x.den)∧w'.cell? ⟨w.heap.size,0+2,none⟩=some (.int .i64 x.dim.a)∧w'.cell? ⟨w.heap.size,0+3,none⟩=some (.int .i64 x.dim.b)∧w'.cell? ⟨w.heap.size,0+4,none⟩=some (.int .i64 x.dim.c)∧w'.cell? ⟨w.heap.size,0+5,none⟩=some (.int .i64 x.dim.d)∧w'.cell? ⟨w.heap.size,0+6,none⟩=some (.int .i64 x.dim.e)∧w'.cell? ⟨w.heap.size,0+7,none⟩=some (.int .i64 x.dim.f)∧w'.cell? ⟨w.heap.size,0+8,none⟩=some (.int .i64 x.dim.g))∧(w'.cell? ⟨w.heap.size+1,0,none⟩=some (.int .i64 y.num)∧w'.cell? ⟨w.heap.size+1,0+1,none⟩=some (.int .i64 y.den)∧w'.cell? ⟨w.heap.size+1,0+2,none⟩=some (.int .i64 y.dim.a)∧w'.cell? ⟨w.heap.size+1,0+3,none⟩=some (.int .i64 y.dim.b)∧w'.cell? ⟨w.heap.size+1,0+4,none⟩=some (.int .i64 y.dim.c)∧w'.cell? ⟨w.heap.size+1,0+5,none⟩=some (.int .i64 y.dim.d)∧w'.cell? ⟨w.heap.size+1,0+6,none⟩=some (.int .i64 y.dim.e)∧w'.cell? ⟨w.heap.size+1,0+7,none⟩=some (.int .i64 y.dim.f)∧w'.cell? ⟨w.heap.size+1,0+8,none⟩=some (.int .i64 y.dim.g))) ((refine T18 HP.out HQ.out ?_; repeat (first|with_reducible exact Below.refl _ _|with_reducible apply bl_dr|with_reducible apply bl_al|with_reducible refine bl_st ?_ hk2 _|with_reducible refine bl_tr ?_ (by assumption)))) (first|(go_at_call 52; (with_reducible refine (HNX.out _).mono ?_); rintro r wz ⟨rfl,hbz⟩; (first|(have hk:=Pr2.reach (Pr2.new (w0:=w2) (by show Below _ _ _; repeat (first|with_reducible exact Below.refl _ _|with_reducible apply bl_dr|with_reducible apply bl_al|with_reducible refine bl_st ?_ hk2 _|with_reducible refine bl_tr ?_ (by assumption))) 0 0) hbz; obtain ⟨⟨k0,k1⟩,kf,_⟩:=hk.1.cells; have hk2:=hk.2)|(have hk:=Pr2.reach (Pr2.dr (Pr2.new (w0:=w2) (by show Below _ _ _; repeat (first|with_reducible exact Below.refl _ _|with_reducible apply bl_dr|with_reducible apply bl_al|with_reducible refine bl_st ?_ hk2 _|with_reducible refine bl_tr ?_ (by assumption))) 0 0)) hbz; obtain ⟨⟨k0,k1⟩,kf,_⟩:=hk.1.cells; have hk2:=hk.2)|(have hk:=Pr2.reach (by assumption) hbz; obtain ⟨⟨k0,k1⟩,kf,_⟩:=hk.1.cells; have hk2:=hk.2)|skip))|(go_at_call 146; (with_reducible refine (HAD.out _).mono ?_); rintro r wz ⟨rfl,hbz⟩; (first|(have hk:=Pr2.reach (Pr2.new (w0:=w2) (by show Below _ _ _; repeat (first|with_reducible exact Below.refl _ _|with_reducible apply bl_dr|with_reducible apply bl_al|with_reducible refine bl_st ?_ hk2 _|with_reducible refine bl_tr ?_ (by assumption))) 0 0) hbz; obtain ⟨⟨k0,k1⟩,kf,_⟩:=hk.1.cells; have hk2:=hk.2)|(have hk:=Pr2.reach (Pr2.dr (Pr2.new (w0:=w2) (by show Below _ _ _; repeat (first|with_reducible exact Below.refl _ _|with_reducible apply bl_dr|with_reducible apply bl_al|with_reducible refine bl_st ?_ hk2 _|with_reducible refine bl_tr ?_ (by assumption))) 0 0)) hbz; obtain ⟨⟨k0,k1⟩,kf,_⟩:=hk.1.cells; have hk2:=hk.2)|(have hk:=Pr2.reach (by assumption) hbz; obtain ⟨⟨k0,k1⟩,kf,_⟩:=hk.1.cells; have hk2:=hk.2)|skip)))
           all_goals
            go_wp2_with fail;go_meet
            case rel=>exact ⟨_,rfl,rfl,(by show Pr2 _ _ _ _ _; first|with_reducible exact Pr2.set hk _ _|with_reducible exact Pr2.new (by show Below _ _ _; repeat (first|with_reducible exact Below.refl _ _|with_reducible apply bl_dr|with_reducible apply bl_al|with_reducible refine bl_st ?_ hk2 _|with_reducible refine bl_tr ?_ (by assumption))) _ _|with_reducible exact Pr2.dr (Pr2.new (by show Below _ _ _; repeat (first|with_reducible exact Below.refl _ _|with_reducible apply bl_dr|with_reducible apply bl_al|with_reducible refine bl_st ?_ hk2 _|with_reducible refine bl_tr ?_ (by assumption))) _ _)),(by show Below _ _ _; repeat (first|with_reducible exact Below.refl _ _|with_reducible apply bl_dr|with_reducible apply bl_al|with_reducible refine bl_st ?_ hk2 _|with_reducible refine bl_tr ?_ (by assumption)))⟩
          case rest=>
           obtain ⟨m,rfl,rfl,HM,HBd⟩:=hcut
           rename World=>wd
           have HK3:=hid (HK.out.reach HBd.out)
           have HB3:=hid (bl_tr HB.out HBd.out)
           have HP3:=hid (HP.out.reach HBd.out)
           have HQ3:=hid (HQ.out.reach HBd.out)
           obtain ⟨⟨⟨p0,p1⟩,p2,p3,p4,p5,p6,p7,p8⟩,pf,_⟩:=HP3.out.cells
           obtain ⟨⟨⟨q0,q1⟩,q2,q3,q4,q5,q6,q7,q8⟩,qf,_⟩:=HQ3.out.cells
           go_wp2_with fail;refine (HDM.out _).mono ?_
           rintro r w4 ⟨rfl,hb4⟩
           have HB5:=hid (bl_tr hb4 (b1 w4 (.cells #[.int .i64 gd.a,.int .i64 gd.b,.int .i64 gd.c,.int .i64 gd.d,.int .i64 gd.e,.int .i64 gd.f,.int .i64 gd.g] 42)))
           have HM7:=hid (P7.new (Below.refl w4.heap.size w4) gd)
           go_upto_region 22 with (fail);generalize w4.alloc (.cells #[.int .i64 gd.a,.int .i64 gd.b,.int .i64 gd.c,.int .i64 gd.d,.int .i64 gd.e,.int .i64 gd.f,.int .i64 gd.g] 42)=w5 at*;have HK5:=hid (HK3.out.reach HB5.out)
           have HBw5:=hid (bl_tr HB3.out HB5.out)
           have HM5:=hid (HM.out.reach HB5.out)
           clear p0 p1 p2 p3 p4 p5 p6 p7 p8 pf q0 q1 q2 q3 q4 q5 q6 q7 q8 qf hb4;obtain ⟨⟨m0,m1⟩,_,_⟩:=HM5.out.1.cells
           obtain ⟨⟨g0,g1,g2,g3,g4,g5,g6⟩,_,_⟩:=HM7.out.1.cells
           rw [← HE.out]at HJ
           go_wp2_with fail;refine (HJ.out _).mono ?_
           rintro r' wf ⟨q',rfl,hfo,hbf⟩
           have HK7:=hid (HK5.out.reach hbf)
           have HBw7:=hid (bl_tr HBw5.out hbf)
           have HFO:=hid hfo
           have HLT:Hid (w.heap.size+1+1<w5.heap.size):=HK5.out.cells.2.2
           clear hfo hbf m0 m1 g0 g1 g2 g3 g4 g5 g6;obtain ⟨⟨⟨z0,z1⟩,z2,z3,z4,z5,z6,z7,z8⟩,zf,_⟩:=HK7.out.cells
           obtain ⟨jv,je⟩:=R
           unfold V.cells;go_wp2_with fail;refine bodyPost_ret (v:=.tuple #[.agg jv.cells,.pointer q']) (by simp [results,Tryz.results97,go_sem,V.cells,z0,z1,z2,z3,z4,z5,z6,z7,z8]) rfl ⟨_,rfl,?_,?_⟩
           ·exact (HFO.out.set9 HLT.out jv).less (by have:=HBw5.out.size; omega)
           ·exact below9 HBw7.out (b:=w.heap.size+1+1) (by omega) jv
       ·have HR:Hid (R=(zV,17)):=HE7.out.trans (if_neg hn)
        have hnb:(y.den != 1)=true:=by simpa using hn
        obtain ⟨⟨⟨z0,z1⟩,z2,z3,z4,z5,z6,z7,z8⟩,zf,_⟩:=HK.out.cells
        go_wp2_with fail;refine (fail_any 17 w2).mono ?_
        rintro r' wf ⟨fb,rfl,hfb,hb2⟩
        have HB2:=hid (bl_tr HB.out hb2)
        have HF2:=hid hfb
        have HLT:Hid (w.heap.size+1+1<w2.heap.size):=HK.out.cells.2.2
        obtain ⟨⟨⟨y0,y1⟩,y2,y3,y4,y5,y6,y7,y8⟩,yf,_⟩:=(HK.out.reach hb2).cells
        clear hfb hb2 z0 z1 z2 z3 z4 z5 z6 z7 z8 zf;go_wp2_with fail;rw [HR.out];refine bodyPost_ret (v:=.tuple #[.agg zV.cells,.pointer (some ⟨fb,0,none⟩)]) (by simp [results,Tryz.results97,go_sem,V.cells,zV,zD,y0,y1,y2,y3,y4,y5,y6,y7,y8]) rfl ⟨_,rfl,?_,?_⟩
        ·exact ((FO.no (by decide) HF2.out).set9 HLT.out zV).less (by have:=HB.out.size; omega)
        ·exact below9 HB2.out (b:=w.heap.size+1+1) (by omega) zV
      ·have HR:Hid (R=(zV,16)):=HE8.out.trans (if_neg hd)
       rw [decide_eq_false hd];obtain ⟨⟨⟨z0,z1⟩,z2,z3,z4,z5,z6,z7,z8⟩,zf,_⟩:=HK.out.cells
       go_wp2_with fail;refine (fail_any 16 w2).mono ?_
       rintro r' wf ⟨fb,rfl,hfb,hb2⟩
       have HB2:=hid (bl_tr HB.out hb2)
       have HF2:=hid hfb
       have HLT:Hid (w.heap.size+1+1<w2.heap.size):=HK.out.cells.2.2
       obtain ⟨⟨⟨y0,y1⟩,y2,y3,y4,y5,y6,y7,y8⟩,yf,_⟩:=(HK.out.reach hb2).cells
       clear hfb hb2 z0 z1 z2 z3 z4 z5 z6 z7 z8 zf;go_wp2_with fail;rw [HR.out];refine bodyPost_ret (v:=.tuple #[.agg zV.cells,.pointer (some ⟨fb,0,none⟩)]) (by simp [results,Tryz.results97,go_sem,V.cells,zV,zD,y0,y1,y2,y3,y4,y5,y6,y7,y8]) rfl ⟨_,rfl,?_,?_⟩
       ·exact ((FO.no (by decide) HF2.out).set9 HLT.out zV).less (by have:=HB.out.size; omega)
       ·exact below9 HB2.out (b:=w.heap.size+1+1) (by omega) zV
     ·have n5:(n == [112,111,119,101,114])=false:=by simpa using h5
      have HE9:Hid (R=proV x y):=HE4.out.trans (if_neg h5)
      clear h5 HE4;have HCO:=hid fun wz=>rmul_any x y HOX.out HOY.out wz
      unfold V.cells at HCO;obtain ⟨⟨⟨q0,q1⟩,q2,q3,q4,q5,q6,q7,q8⟩,qf,_⟩:=HQ.out.cells
      rw [← HE9.out]at HCO
      obtain ⟨jv,je⟩:=R
      dsimp only at HCO
      go_wp2_with fail;refine (HCO.out w1).mono ?_
      rintro r w2 ⟨q',rfl,hfo,hb2⟩
      have HB2:=hid (bl_tr HB.out hb2)
      have HFO:=hid hfo
      have HLT:Hid (w.heap.size+1+1<w1.heap.size):=HK.out.cells.2.2
      obtain ⟨⟨⟨z0,z1⟩,z2,z3,z4,z5,z6,z7,z8⟩,zf,_⟩:=(HK.out.reach hb2).cells
      clear hfo hb2 p0 p1 p2 p3 p4 p5 p6 p7 p8 pf q0 q1 q2 q3 q4 q5 q6 q7 q8 qf;go_wp2_with fail;refine bodyPost_ret (v:=.tuple #[.agg jv.cells,.pointer q']) (by simp [results,Tryz.results97,go_sem,V.cells,z0,z1,z2,z3,z4,z5,z6,z7,z8]) rfl ⟨_,rfl,?_,?_⟩
      ·exact (HFO.out.set9 HLT.out jv).less (by have:=HB.out.size; omega)
      ·exact below9 HB2.out (b:=w.heap.size+1+1) (by omega) jv
end Go.Proofs.YtknpigdpepmimaaGreatDoor
