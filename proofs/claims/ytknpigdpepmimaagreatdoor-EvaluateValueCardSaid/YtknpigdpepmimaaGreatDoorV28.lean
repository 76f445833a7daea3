/- Contracts of the reference's add 140, multiply 141. -/
import Derived.OrdersHeld
import Derived.Test.YtknpigdpepmimaaGreatDoorV22
import Derived.Test.YtknpigdpepmimaaGreatDoorV23
import Derived.Test.YtknpigdpepmimaaGreatDoorV27
namespace Go.Proofs.YtknpigdpepmimaaGreatDoor
open Go.Lib(hid)
open Go.RowKit Go.Maps
set_option maxRecDepth 100000 in
set_option maxHeartbeats 4000000 in
theorem radd_any (x y:V)(m:Bool)(hx:x.ok)(hy:y.ok)(w:World):Calls Tryz.prog 140 #[.agg x.cells,.agg y.cells,.bool m] w fun r w'=>∃ q,r=.returned (.tuple #[.agg (addR x y m).1.cells,.pointer q])∧FO w' w.heap.size q (addR x y m)∧Below w.heap.size w w':=by
 have HYB:=hid hy.num
 have HX:=hid hx.bnd
 have HY:=hid hy.bnd
 have HE:Hid (addR x y m=if x.dim=y.dim then joinQ (Q.addQ x.num x.den (if m then -y.num else y.num) y.den) x.dim 0 else (zV,16)):=rfl
 generalize addR x y m=R at*;clear hx hy;have HB:=hid (b3 w (.cells #[.int .i64 x.num,.int .i64 x.den,.int .i64 x.dim.a,.int .i64 x.dim.b,.int .i64 x.dim.c,.int .i64 x.dim.d,.int .i64 x.dim.e,.int .i64 x.dim.f,.int .i64 x.dim.g] 44) (.cells #[.int .i64 y.num,.int .i64 y.den,.int .i64 y.dim.a,.int .i64 y.dim.b,.int .i64 y.dim.c,.int .i64 y.dim.d,.int .i64 y.dim.e,.int .i64 y.dim.f,.int .i64 y.dim.g] 44) (.cells #[.int .i64 0,.int .i64 0,.int .i64 0,.int .i64 0,.int .i64 0,.int .i64 0,.int .i64 0,.int .i64 0,.int .i64 0] 44))
 have HP:Hid (K9 (((w.alloc (.cells #[.int .i64 x.num,.int .i64 x.den,.int .i64 x.dim.a,.int .i64 x.dim.b,.int .i64 x.dim.c,.int .i64 x.dim.d,.int .i64 x.dim.e,.int .i64 x.dim.f,.int .i64 x.dim.g] 44)).alloc (.cells #[.int .i64 y.num,.int .i64 y.den,.int .i64 y.dim.a,.int .i64 y.dim.b,.int .i64 y.dim.c,.int .i64 y.dim.d,.int .i64 y.dim.e,.int .i64 y.dim.f,.int .i64 y.dim.g] 44)).alloc (.cells #[.int .i64 0,.int .i64 0,.int .i64 0,.int .i64 0,.int .i64 0,.int .i64 0,.int .i64 0,.int .i64 0,.int .i64 0] 44)) w.heap.size x):=((K9.new w x).reach (b1 _ (.cells #[.int .i64 y.num,.int .i64 y.den,.int .i64 y.dim.a,.int .i64 y.dim.b,.int .i64 y.dim.c,.int .i64 y.dim.d,.int .i64 y.dim.e,.int .i64 y.dim.f,.int .i64 y.dim.g] 44))).reach (b1 _ (.cells #[.int .i64 0,.int .i64 0,.int .i64 0,.int .i64 0,.int .i64 0,.int .i64 0,.int .i64 0,.int .i64 0,.int .i64 0] 44))
 have HQ:Hid (K9 (((w.alloc (.cells #[.int .i64 x.num,.int .i64 x.den,.int .i64 x.dim.a,.int .i64 x.dim.b,.int .i64 x.dim.c,.int .i64 x.dim.d,.int .i64 x.dim.e,.int .i64 x.dim.f,.int .i64 x.dim.g] 44)).alloc (.cells #[.int .i64 y.num,.int .i64 y.den,.int .i64 y.dim.a,.int .i64 y.dim.b,.int .i64 y.dim.c,.int .i64 y.dim.d,.int .i64 y.dim.e,.int .i64 y.dim.f,.int .i64 y.dim.g] 44)).alloc (.cells #[.int .i64 0,.int .i64 0,.int .i64 0,.int .i64 0,.int .i64 0,.int .i64 0,.int .i64 0,.int .i64 0,.int .i64 0] 44)) (w.heap.size+1) y):=by
  have h:=(K9.new (w.alloc (.cells #[.int .i64 x.num,.int .i64 x.den,.int .i64 x.dim.a,.int .i64 x.dim.b,.int .i64 x.dim.c,.int .i64 x.dim.d,.int .i64 x.dim.e,.int .i64 x.dim.f,.int .i64 x.dim.g] 44)) y).reach (b1 _ (.cells #[.int .i64 0,.int .i64 0,.int .i64 0,.int .i64 0,.int .i64 0,.int .i64 0,.int .i64 0,.int .i64 0,.int .i64 0] 44))
  rw [World.size_alloc]at h
  exact h
 have HK:Hid (K9 (((w.alloc (.cells #[.int .i64 x.num,.int .i64 x.den,.int .i64 x.dim.a,.int .i64 x.dim.b,.int .i64 x.dim.c,.int .i64 x.dim.d,.int .i64 x.dim.e,.int .i64 x.dim.f,.int .i64 x.dim.g] 44)).alloc (.cells #[.int .i64 y.num,.int .i64 y.den,.int .i64 y.dim.a,.int .i64 y.dim.b,.int .i64 y.dim.c,.int .i64 y.dim.d,.int .i64 y.dim.e,.int .i64 y.dim.f,.int .i64 y.dim.g] 44)).alloc (.cells #[.int .i64 0,.int .i64 0,.int .i64 0,.int .i64 0,.int .i64 0,.int .i64 0,.int .i64 0,.int .i64 0,.int .i64 0] 44)) (w.heap.size+1+1) zV):=by
  have h:=K9.new ((w.alloc (.cells #[.int .i64 x.num,.int .i64 x.den,.int .i64 x.dim.a,.int .i64 x.dim.b,.int .i64 x.dim.c,.int .i64 x.dim.d,.int .i64 x.dim.e,.int .i64 x.dim.f,.int .i64 x.dim.g] 44)).alloc (.cells #[.int .i64 y.num,.int .i64 y.den,.int .i64 y.dim.a,.int .i64 y.dim.b,.int .i64 y.dim.c,.int .i64 y.dim.d,.int .i64 y.dim.e,.int .i64 y.dim.f,.int .i64 y.dim.g] 44)) zV
  rw [World.size_alloc,World.size_alloc]at h
  exact h
 unfold V.cells;go_enter Tryz.func140,Tryz.ntmps140;go_upto_region 1 with (fail);generalize ((w.alloc (.cells #[.int .i64 x.num,.int .i64 x.den,.int .i64 x.dim.a,.int .i64 x.dim.b,.int .i64 x.dim.c,.int .i64 x.dim.d,.int .i64 x.dim.e,.int .i64 x.dim.f,.int .i64 x.dim.g] 44)).alloc (.cells #[.int .i64 y.num,.int .i64 y.den,.int .i64 y.dim.a,.int .i64 y.dim.b,.int .i64 y.dim.c,.int .i64 y.dim.d,.int .i64 y.dim.e,.int .i64 y.dim.f,.int .i64 y.dim.g] 44)).alloc (.cells #[.int .i64 0,.int .i64 0,.int .i64 0,.int .i64 0,.int .i64 0,.int .i64 0,.int .i64 0,.int .i64 0,.int .i64 0] 44)=w1 at*
 obtain ⟨⟨⟨p0,p1⟩,p2,p3,p4,p5,p6,p7,p8⟩,pf,_⟩:=HP.out.cells
 obtain ⟨⟨⟨q0,q1⟩,q2,q3,q4,q5,q6,q7,q8⟩,qf,_⟩:=HQ.out.cells
 have hE:=fun w'=>eq42 x.dim y.dim w'
 by_cases hd:x.dim=y.dim
 ·have HE2:Hid (R=joinQ (Q.addQ x.num x.den (if m then -y.num else y.num) y.den) x.dim 0):=HE.out.trans (if_pos hd)
  rw [decide_eq_true hd]at hE
  clear hd HE;cases m with
  | false=>
   have HE:Hid (R=joinQ (Q.addQ x.num x.den y.num y.den) x.dim 0):=HE2.out
   clear HE2;have HNX:=hid fun w=>rnum_any x w
   have HNY:=hid fun w=>rnum_any y w
   have HAD:=hid fun w=>Q.refAdd_any x.num x.den y.num y.den w HX.out.1 HX.out.2.1 HX.out.2.2.1 HX.out.2.2.2 HY.out.1 HY.out.2.1 HY.out.2.2.1 HY.out.2.2.2
   unfold Q.Res.val at HAD;generalize Q.addQ x.num x.den y.num y.den=j at*;obtain ⟨qn,qd,qe⟩:=j
   have HJ:=hid fun w=>made_any qn qd qe x.dim 0 w
   unfold V.cells at HNX HNY;unfold Dm.cells at HJ;go_upto_region 5 with (fail);clear p0 p1 p2 p3 p4 p5 p6 p7 p8 pf q0 q1 q2 q3 q4 q5 q6 q7 q8 qf;go_cut [8,9] (fun s8 s9 wx=>∃ m:Nat,s8=.pointer (some ⟨m,0,none⟩)∧s9=.int .i64 qe∧Aside (Pr2 w1 wx m qn qd)∧Aside (Below w1.heap.size w1 wx))
   case first=>
    go_region_held_law (fun w'=>(w'.cell? ⟨w.heap.size,0,none⟩=some (.int .i64 x.num)∧w'.cell? ⟨w.heap.size,0+1,none⟩=some (.int .i64 x.den)∧w'.cell? ⟨w.heap.size,0+2,none⟩=some (.int .i64 x.dim.a)∧w'.cell? ⟨w.heap.size,0+3,none⟩=some (.int .i64 x.dim.b)∧w'.cell? ⟨w.heap.size,0+4,none⟩=some (.int .i64 x.dim.c)∧w'.cell? ⟨w.heap.size,0+5,none⟩=some (.int .i64 x.dim.d)∧w'.cell? ⟨w.heap.size,0+6,none⟩=some (.int .i64 x.dim.e)∧w'.cell? ⟨w.heap.size,0+7,none⟩=some (.int .i64 x.dim.f)∧w'.cell? ⟨w.heap.size,0+8,none⟩=some (.int .i64 x.dim.g))∧(w'.cell? ⟨w.heap.size+1,0,none⟩=some (.int .i64 y.num)∧w'.cell? ⟨w.heap.size+1,0+1,none⟩=some (.int .i64 y.den)∧w'.cell? ⟨w.heap.size+1,0+2,none⟩=some (.int .i64 y.dim.a)∧w'.cell? ⟨w.heap.size+1,0+3,none⟩=some (.int .i64 y.dim.b)∧w'.cell? ⟨w.heap.size+1,0+4,none⟩=some (.int .i64 y.dim.c)∧w'.cell? ⟨w.heap.size+1,0+5,none⟩=some (.int .i64 y.dim.d)∧w'.cell? ⟨w.heap.size+1,0+6,none⟩=some (.int .i64 y.dim.e)∧w'.cell? ⟨w.heap.size+1,0+7,none⟩=some (.int .i64 y.dim.f)∧w'.cell? ⟨w.heap.size+1,0+8,none⟩=some (.int .i64 y.dim.g))) ((refine T18 HP.out HQ.out ?_; repeat (first|with_reducible exact Below.refl _ _|with_reducible apply bl_dr|with_reducible apply bl_al|with_reducible refine bl_st ?_ hk2 _|with_reducible refine bl_tr ?_ (by assumption)))) (first|(go_at_call 52; (with_reducible refine (HNX.out _).mono ?_); rintro r wz ⟨rfl,hbz⟩; (first|(have hk:=Pr2.reach (Pr2.new (w0:=w1) (by show Below _ _ _; repeat (first|with_reducible exact Below.refl _ _|with_reducible apply bl_dr|with_reducible apply bl_al|with_reducible refine bl_st ?_ hk2 _|with_reducible refine bl_tr ?_ (by assumption))) 0 0) hbz; obtain ⟨⟨k0,k1⟩,kf,_⟩:=hk.1.cells; have hk2:=hk.2)|(have hk:=Pr2.reach (Pr2.dr (Pr2.new (w0:=w1) (by show Below _ _ _; repeat (first|with_reducible exact Below.refl _ _|with_reducible apply bl_dr|with_reducible apply bl_al|with_reducible refine bl_st ?_ hk2 _|with_reducible refine bl_tr ?_ (by assumption))) 0 0)) hbz; obtain ⟨⟨k0,k1⟩,kf,_⟩:=hk.1.cells; have hk2:=hk.2)|(have hk:=Pr2.reach (by assumption) hbz; obtain ⟨⟨k0,k1⟩,kf,_⟩:=hk.1.cells; have hk2:=hk.2)|skip))|(go_at_call 52; (with_reducible refine (HNY.out _).mono ?_); rintro r wz ⟨rfl,hbz⟩; (first|(have hk:=Pr2.reach (Pr2.new (w0:=w1) (by show Below _ _ _; repeat (first|with_reducible exact Below.refl _ _|with_reducible apply bl_dr|with_reducible apply bl_al|with_reducible refine bl_st ?_ hk2 _|with_reducible refine bl_tr ?_ (by assumption))) 0 0) hbz; obtain ⟨⟨k0,k1⟩,kf,_⟩:=hk.1.cells; have hk2:=hk.2)|(have hk:=Pr2.reach (Pr2.dr (Pr2.new (w0:=w1) (by show Below _ _ _; repeat (first|with_reducible exact Below.refl _ _|with_reducible apply bl_dr|with_reducible apply bl_al|with_reducible refine bl_st ?_ hk2 _|with_reducible refine bl_tr ?_ (by assumption))) 0 0)) hbz; obtain ⟨⟨k0,k1⟩,kf,_⟩:=hk.1.cells; have hk2:=hk.2)|(have hk:=Pr2.reach (by assumption) hbz; obtain ⟨⟨k0,k1⟩,kf,_⟩:=hk.1.cells; have hk2:=hk.2)|skip))|(go_at_call 181; (with_reducible refine (HAD.out _).mono ?_); rintro r wz ⟨rfl,hbz⟩; (first|(have hk:=Pr2.reach (Pr2.new (w0:=w1) (by show Below _ _ _; repeat (first|with_reducible exact Below.refl _ _|with_reducible apply bl_dr|with_reducible apply bl_al|with_reducible refine bl_st ?_ hk2 _|with_reducible refine bl_tr ?_ (by assumption))) 0 0) hbz; obtain ⟨⟨k0,k1⟩,kf,_⟩:=hk.1.cells; have hk2:=hk.2)|(have hk:=Pr2.reach (Pr2.dr (Pr2.new (w0:=w1) (by show Below _ _ _; repeat (first|with_reducible exact Below.refl _ _|with_reducible apply bl_dr|with_reducible apply bl_al|with_reducible refine bl_st ?_ hk2 _|with_reducible refine bl_tr ?_ (by assumption))) 0 0)) hbz; obtain ⟨⟨k0,k1⟩,kf,_⟩:=hk.1.cells; have hk2:=hk.2)|(have hk:=Pr2.reach (by assumption) hbz; obtain ⟨⟨k0,k1⟩,kf,_⟩:=hk.1.cells; have hk2:=hk.2)|skip)))
    all_goals
     go_wp2_with fail;go_meet
     case rel=>exact ⟨_,rfl,rfl,(by show Pr2 _ _ _ _ _; first|with_reducible exact Pr2.set hk _ _|with_reducible exact Pr2.new (by show Below _ _ _; repeat (first|with_reducible exact Below.refl _ _|with_reducible apply bl_dr|with_reducible apply bl_al|with_reducible refine bl_st ?_ hk2 _|with_reducible refine bl_tr ?_ (by assumption))) _ _|with_reducible exact Pr2.dr (Pr2.new (by show Below _ _ _; repeat (first|with_reducible exact Below.refl _ _|with_reducible apply bl_dr|with_reducible apply bl_al|with_reducible refine bl_st ?_ hk2 _|with_reducible refine bl_tr ?_ (by assumption))) _ _)),(by show Below _ _ _; repeat (first|with_reducible exact Below.refl _ _|with_reducible apply bl_dr|with_reducible apply bl_al|with_reducible refine bl_st ?_ hk2 _|with_reducible refine bl_tr ?_ (by assumption)))⟩
   case rest=>
    obtain ⟨m,rfl,rfl,HM,HBc⟩:=hcut
    rename World=>wd
    have HK2:=hid (HK.out.reach HBc.out)
    have HBw:=hid (bl_tr HB.out HBc.out)
    obtain ⟨⟨m0,m1⟩,_,_⟩:=(HM.out).1.cells
    obtain ⟨⟨⟨p0,p1⟩,p2,p3,p4,p5,p6,p7,p8⟩,pf,_⟩:=(HP.out.reach HBc.out).cells
    rw [← HE.out]at HJ
    go_wp2_with fail;refine (HJ.out _).mono ?_
    rintro r' wf ⟨q',rfl,hfo,hbf⟩
    have HK3:=hid (HK2.out.reach hbf)
    have HBw3:=hid (bl_tr HBw.out hbf)
    have HFO:=hid hfo
    have HLT:Hid (w.heap.size+1+1<wd.heap.size):=HK2.out.cells.2.2
    clear hbf hfo m0 m1 p0 p1 p2 p3 p4 p5 p6 p7 p8 pf;obtain ⟨⟨⟨z0,z1⟩,z2,z3,z4,z5,z6,z7,z8⟩,zf,_⟩:=HK3.out.cells
    obtain ⟨jv,je⟩:=R
    unfold V.cells;go_wp2_with fail;refine bodyPost_ret (v:=.tuple #[.agg jv.cells,.pointer q']) (by simp [results,Tryz.results140,go_sem,V.cells,z0,z1,z2,z3,z4,z5,z6,z7,z8]) rfl ⟨_,rfl,?_,?_⟩
    ·exact (HFO.out.set9 HLT.out jv).less (by have:=HBw.out.size; omega)
    ·exact below9 HBw3.out (b:=w.heap.size+1+1) (by omega) jv
  | true=>
   have hw:IntKind.i64.wrap (-y.num)=-y.num:=wrap64_small (by have:=HYB.out; omega) (by have:=HYB.out; omega)
   have HE:Hid (R=joinQ (Q.addQ x.num x.den (-y.num) y.den) x.dim 0):=HE2.out
   clear HE2;have HQ2:Hid (K9 (w1.setCell ⟨w.heap.size+1,0,none⟩ (.int .i64 (-y.num))) (w.heap.size+1) ⟨-y.num,y.den,y.dim⟩):=cell_mod HQ.out 0 (.int .i64 (-y.num))
   have HP2:=hid (HP.out.other (b':=w.heap.size+1) (o:=0) (.int .i64 (-y.num)) (by omega))
   have HK2:=hid (HK.out.other (b':=w.heap.size+1) (o:=0) (.int .i64 (-y.num)) (by omega))
   have HBB:=hid (HB.out.setCell (p:=⟨w.heap.size+1,0,none⟩) (Nat.le_succ _) (.int .i64 (-y.num)))
   go_upto_region 5 with (fail);clear p0 p1 p2 p3 p4 p5 p6 p7 p8 pf q0 q1 q2 q3 q4 q5 q6 q7 q8 qf;clear HB HP HQ HK;generalize w1.setCell ⟨w.heap.size+1,0,none⟩ (.int .i64 (-y.num))=w9 at*;have HB:=HBB
   have HK:=HK2
   have HP:=HP2
   have HQ:=HQ2
   clear HBB HK2 HP2 HQ2;have HY2:Hid (-9223372036854775808≤-y.num∧-y.num≤9223372036854775807):=by have:=HYB.out; show _∧_; omega
   obtain ⟨y2,hy2⟩:∃ y2,y2=V.mk (-y.num) y.den y.dim:=⟨_,rfl⟩
   have en:-y.num=y2.num:=by rw [hy2]
   have ed:y.den=y2.den:=by rw [hy2]
   rw [← hy2]at HQ
   rw [en,ed]at HE
   rw [en]at HY2
   rw [ed]at HY
   clear hw en ed hy2;have HNX:=hid fun w=>rnum_any x w
   have HNY:=hid fun w=>rnum_any y2 w
   have HAD:=hid fun w=>Q.refAdd_any x.num x.den y2.num y2.den w HX.out.1 HX.out.2.1 HX.out.2.2.1 HX.out.2.2.2 HY2.out.1 HY2.out.2 HY.out.2.2.1 HY.out.2.2.2
   unfold Q.Res.val at HAD;generalize Q.addQ x.num x.den y2.num y2.den=j at*;obtain ⟨qn,qd,qe⟩:=j
   have HJ:=hid fun w=>made_any qn qd qe x.dim 0 w
   unfold V.cells at HNX HNY;unfold Dm.cells at HJ;go_cut [8,9] (fun s8 s9 wx=>∃ m:Nat,s8=.pointer (some ⟨m,0,none⟩)∧s9=.int .i64 qe∧Aside (Pr2 w9 wx m qn qd)∧Aside (Below w9.heap.size w9 wx))
   case first=>
    go_region_held_law (fun w'=>(w'.cell? ⟨w.heap.size,0,none⟩=some (.int .i64 x.num)∧w'.cell? ⟨w.heap.size,0+1,none⟩=some (.int .i64 x.den)∧w'.cell? ⟨w.heap.size,0+2,none⟩=some (.int .i64 x.dim.a)∧w'.cell? ⟨w.heap.size,0+3,none⟩=some (.int .i64 x.dim.b)∧w'.cell? ⟨w.heap.size,0+4,none⟩=some (.int .i64 x.dim.c)∧w'.cell? ⟨w.heap.size,0+5,none⟩=some (.int .i64 x.dim.d)∧w'.cell? ⟨w.heap.size,0+6,none⟩=some (.int .i64 x.dim.e)∧w'.cell? ⟨w.heap.size,0+7,none⟩=some (.int .i64 x.dim.f)∧w'.cell? ⟨w.heap.size,0+8,none⟩=some (.int .i64 x.dim.g))∧(w'.cell? ⟨w.heap.size+1,0,none⟩=some (.int .i64 y2.num)∧w'.cell? ⟨w.heap.size+1,0+1,none⟩=some (.int .i64 y2.den)∧w'.cell? ⟨w.heap.size+1,0+2,none⟩=some (.int .i64 y2.dim.a)∧w'.cell? ⟨w.heap.size+1,0+3,none⟩=some (.int .i64 y2.dim.b)∧w'.cell? ⟨w.heap.size+1,0+4,none⟩=some (.int .i64 y2.dim.c)∧w'.cell? ⟨w.heap.size+1,0+5,none⟩=some (.int .i64 y2.dim.d)∧w'.cell? ⟨w.heap.size+1,0+6,none⟩=some (.int .i64 y2.dim.e)∧w'.cell? ⟨w.heap.size+1,0+7,none⟩=some (.int .i64 y2.dim.f)∧w'.cell? ⟨w.heap.size+1,0+8,none⟩=some (.int .i64 y2.dim.g))) ((refine T18 HP.out HQ.out ?_; repeat (first|with_reducible exact Below.refl _ _|with_reducible apply bl_dr|with_reducible apply bl_al|with_reducible refine bl_st ?_ hk2 _|with_reducible refine bl_tr ?_ (by assumption)))) (first|(go_at_call 52; (with_reducible refine (HNX.out _).mono ?_); rintro r wz ⟨rfl,hbz⟩; (first|(have hk:=Pr2.reach (Pr2.new (w0:=w9) (by show Below _ _ _; repeat (first|with_reducible exact Below.refl _ _|with_reducible apply bl_dr|with_reducible apply bl_al|with_reducible refine bl_st ?_ hk2 _|with_reducible refine bl_tr ?_ (by assumption))) 0 0) hbz; obtain ⟨⟨k0,k1⟩,kf,_⟩:=hk.1.cells; have hk2:=hk.2)|(have hk:=Pr2.reach (Pr2.dr (Pr2.new (w0:=w9) (by show Below _ _ _; repeat (first|with_reducible exact Below.refl _ _|with_reducible apply bl_dr|with_reducible apply bl_al|with_reducible refine bl_st ?_ hk2 _|with_reducible refine bl_tr ?_ (by assumption))) 0 0)) hbz; obtain ⟨⟨k0,k1⟩,kf,_⟩:=hk.1.cells; have hk2:=hk.2)|(have hk:=Pr2.reach (by assumption) hbz; obtain ⟨⟨k0,k1⟩,kf,_⟩:=hk.1.cells; have hk2:=hk.2)|skip))|(go_at_call 52; (with_reducible refine (HNY.out _).mono ?_); rintro r wz ⟨rfl,hbz⟩; (first|(have hk:=Pr2.reach (Pr2.new (w0:=w9) (by show Below _ _ _; repeat (first|with_reducible exact Below.refl _ _|with_reducible apply bl_dr|with_reducible apply bl_al|with_reducible refine bl_st ?_ hk2 _|with_reducible refine bl_tr ?_ (by assumption))) 0 0) hbz; obtain ⟨⟨k0,k1⟩,kf,_⟩:=hk.1.cells; have hk2:=hk.2)|(have hk:=Pr2.reach (Pr2.dr (Pr2.new (w0:=w9) (by show Below _ _ _; repeat (first|with_reducible exact Below.refl _ _|with_reducible apply bl_dr|with_reducible apply bl_al|with_reducible refine bl_st ?_ hk2 _|with_reducible refine bl_tr ?_ (by assumption))) 0 0)) hbz; obtain ⟨⟨k0,k1⟩,kf,_⟩:=hk.1.cells; have hk2:=hk.2)|(have hk:=Pr2.reach (by assumption) hbz; obtain ⟨⟨k0,k1⟩,kf,_⟩:=hk.1.cells; have hk2:=hk.2)|skip))|(go_at_call 181; (with_reducible refine (HAD.out _).mono ?_); rintro r wz ⟨rfl,hbz⟩; (first|(have hk:=Pr2.reach (Pr2.new (w0:=w9) (by show Below _ _ _; repeat (first|with_reducible exact Below.refl _ _|with_reducible apply bl_dr|with_reducible apply bl_al|with_reducible refine bl_st ?_ hk2 _|with_reducible refine bl_tr ?_ (by assumption))) 0 0) hbz; obtain ⟨⟨k0,k1⟩,kf,_⟩:=hk.1.cells; have hk2:=hk.2)|(have hk:=Pr2.reach (Pr2.dr (Pr2.new (w0:=w9) (by show Below _ _ _; repeat (first|with_reducible exact Below.refl _ _|with_reducible apply bl_dr|with_reducible apply bl_al|with_reducible refine bl_st ?_ hk2 _|with_reducible refine bl_tr ?_ (by assumption))) 0 0)) hbz; obtain ⟨⟨k0,k1⟩,kf,_⟩:=hk.1.cells; have hk2:=hk.2)|(have hk:=Pr2.reach (by assumption) hbz; obtain ⟨⟨k0,k1⟩,kf,_⟩:=hk.1.cells; have hk2:=hk.2)|skip)))
    all_goals
     go_wp2_with fail;go_meet
     case rel=>exact ⟨_,rfl,rfl,(by show Pr2 _ _ _ _ _; first|with_reducible exact Pr2.set hk _ _|with_reducible exact Pr2.new (by show Below _ _ _; repeat (first|with_reducible exact Below.refl _ _|with_reducible apply bl_dr|with_reducible apply bl_al|with_reducible refine bl_st ?_ hk2 _|with_reducible refine bl_tr ?_ (by assumption))) _ _|with_reducible exact Pr2.dr (Pr2.new (by show Below _ _ _; repeat (first|with_reducible exact Below.refl _ _|with_reducible apply bl_dr|with_reducible apply bl_al|with_reducible refine bl_st ?_ hk2 _|with_reducible refine bl_tr ?_ (by assumption))) _ _)),(by show Below _ _ _; repeat (first|with_reducible exact Below.refl _ _|with_reducible apply bl_dr|with_reducible apply bl_al|with_reducible refine bl_st ?_ hk2 _|with_reducible refine bl_tr ?_ (by assumption)))⟩
   case rest=>
    obtain ⟨m,rfl,rfl,HM,HBc⟩:=hcut
    rename World=>wd
    have HK2:=hid (HK.out.reach HBc.out)
    have HBw:=hid (bl_tr HB.out HBc.out)
    obtain ⟨⟨m0,m1⟩,_,_⟩:=(HM.out).1.cells
    obtain ⟨⟨⟨p0,p1⟩,p2,p3,p4,p5,p6,p7,p8⟩,pf,_⟩:=(HP.out.reach HBc.out).cells
    rw [← HE.out]at HJ
    go_wp2_with fail;refine (HJ.out _).mono ?_
    rintro r' wf ⟨q',rfl,hfo,hbf⟩
    have HK3:=hid (HK2.out.reach hbf)
    have HBw3:=hid (bl_tr HBw.out hbf)
    have HFO:=hid hfo
    have HLT:Hid (w.heap.size+1+1<wd.heap.size):=HK2.out.cells.2.2
    clear hbf hfo m0 m1 p0 p1 p2 p3 p4 p5 p6 p7 p8 pf;obtain ⟨⟨⟨z0,z1⟩,z2,z3,z4,z5,z6,z7,z8⟩,zf,_⟩:=HK3.out.cells
    obtain ⟨jv,je⟩:=R
    unfold V.cells;go_wp2_with fail;refine bodyPost_ret (v:=.tuple #[.agg jv.cells,.pointer q']) (by simp [results,Tryz.results140,go_sem,V.cells,z0,z1,z2,z3,z4,z5,z6,z7,z8]) rfl ⟨_,rfl,?_,?_⟩
    ·exact (HFO.out.set9 HLT.out jv).less (by have:=HBw.out.size; omega)
    ·exact below9 HBw3.out (b:=w.heap.size+1+1) (by omega) jv
 ·have HR:Hid (R=(zV,16)):=HE.out.trans (if_neg hd)
  rw [decide_eq_false hd]at hE
  clear hd;obtain ⟨⟨⟨z0,z1⟩,z2,z3,z4,z5,z6,z7,z8⟩,zf,_⟩:=HK.out.cells
  clear z0 z1 z2 z3 z4 z5 z6 z7 z8 zf;obtain ⟨⟨⟨z0,z1⟩,z2,z3,z4,z5,z6,z7,z8⟩,zf,_⟩:=HK.out.cells
  go_wp2_with fail;refine (fail_any 16 w1).mono ?_
  rintro r' w2 ⟨fb,rfl,hfb,hb2⟩
  have HB2:=hid (bl_tr HB.out hb2)
  have HF2:=hid hfb
  have HLT:Hid (w.heap.size+1+1<w1.heap.size):=HK.out.cells.2.2
  obtain ⟨⟨⟨y0,y1⟩,y2,y3,y4,y5,y6,y7,y8⟩,yf,_⟩:=(HK.out.reach hb2).cells
  clear hfb hb2 z0 z1 z2 z3 z4 z5 z6 z7 z8 zf;go_wp2_with fail;rw [HR.out];refine bodyPost_ret (v:=.tuple #[.agg zV.cells,.pointer (some ⟨fb,0,none⟩)]) (by simp [results,Tryz.results140,go_sem,V.cells,zV,zD,y0,y1,y2,y3,y4,y5,y6,y7,y8]) rfl ⟨_,rfl,?_,?_⟩
  ·exact ((FO.no (by decide) HF2.out).set9 HLT.out zV).less (by have:=HB.out.size; omega)
  ·exact below9 HB2.out (b:=w.heap.size+1+1) (by omega) zV
set_option maxRecDepth 100000 in
set_option maxHeartbeats 4000000 in
theorem rmul_any (x y:V)(hx:x.ok)(hy:y.ok)(w:World):Calls Tryz.prog 141 #[.agg x.cells,.agg y.cells] w fun r w'=>∃ q,r=.returned (.tuple #[.agg (proV x y).1.cells,.pointer q])∧FO w' w.heap.size q (proV x y)∧Below w.heap.size w w':=by
 have HX:=hid hx.bnd
 have HY:=hid hy.bnd
 have HNX:=hid fun w=>rnum_any x w
 have HNY:=hid fun w=>rnum_any y w
 have HAD:=hid fun w=>Q.refMul_any x.num x.den y.num y.den w HX.out.1 HX.out.2.1 HX.out.2.2.1 HX.out.2.2.2 HY.out.1 HY.out.2.1 HY.out.2.2.1 HY.out.2.2.2
 have HDM:=hid fun w=>rdmul_any x.dim y.dim w
 have HE:Hid (proV x y=joinQ (Q.mulQ x.num x.den y.num y.den) (combQ x.dim y.dim 1).1 (combQ x.dim y.dim 1).2):=rfl
 generalize proV x y=R at*;unfold Q.Res.val at HAD;generalize Q.mulQ x.num x.den y.num y.den=j at*;obtain ⟨qn,qd,qe⟩:=j
 generalize combQ x.dim y.dim 1=g at*;obtain ⟨gd,ge⟩:=g
 have HJ:=hid fun w=>made_any qn qd qe gd ge w
 clear hx hy HX HY;have HB:=hid (b3 w (.cells #[.int .i64 x.num,.int .i64 x.den,.int .i64 x.dim.a,.int .i64 x.dim.b,.int .i64 x.dim.c,.int .i64 x.dim.d,.int .i64 x.dim.e,.int .i64 x.dim.f,.int .i64 x.dim.g] 44) (.cells #[.int .i64 y.num,.int .i64 y.den,.int .i64 y.dim.a,.int .i64 y.dim.b,.int .i64 y.dim.c,.int .i64 y.dim.d,.int .i64 y.dim.e,.int .i64 y.dim.f,.int .i64 y.dim.g] 44) (.cells #[.int .i64 0,.int .i64 0,.int .i64 0,.int .i64 0,.int .i64 0,.int .i64 0,.int .i64 0,.int .i64 0,.int .i64 0] 44))
 have HP:Hid (K9 (((w.alloc (.cells #[.int .i64 x.num,.int .i64 x.den,.int .i64 x.dim.a,.int .i64 x.dim.b,.int .i64 x.dim.c,.int .i64 x.dim.d,.int .i64 x.dim.e,.int .i64 x.dim.f,.int .i64 x.dim.g] 44)).alloc (.cells #[.int .i64 y.num,.int .i64 y.den,.int .i64 y.dim.a,.int .i64 y.dim.b,.int .i64 y.dim.c,.int .i64 y.dim.d,.int .i64 y.dim.e,.int .i64 y.dim.f,.int .i64 y.dim.g] 44)).alloc (.cells #[.int .i64 0,.int .i64 0,.int .i64 0,.int .i64 0,.int .i64 0,.int .i64 0,.int .i64 0,.int .i64 0,.int .i64 0] 44)) w.heap.size x):=((K9.new w x).reach (b1 _ (.cells #[.int .i64 y.num,.int .i64 y.den,.int .i64 y.dim.a,.int .i64 y.dim.b,.int .i64 y.dim.c,.int .i64 y.dim.d,.int .i64 y.dim.e,.int .i64 y.dim.f,.int .i64 y.dim.g] 44))).reach (b1 _ (.cells #[.int .i64 0,.int .i64 0,.int .i64 0,.int .i64 0,.int .i64 0,.int .i64 0,.int .i64 0,.int .i64 0,.int .i64 0] 44))
 have HQ:Hid (K9 (((w.alloc (.cells #[.int .i64 x.num,.int .i64 x.den,.int .i64 x.dim.a,.int .i64 x.dim.b,.int .i64 x.dim.c,.int .i64 x.dim.d,.int .i64 x.dim.e,.int .i64 x.dim.f,.int .i64 x.dim.g] 44)).alloc (.cells #[.int .i64 y.num,.int .i64 y.den,.int .i64 y.dim.a,.int .i64 y.dim.b,.int .i64 y.dim.c,.int .i64 y.dim.d,.int .i64 y.dim.e,.int .i64 y.dim.f,.int .i64 y.dim.g] 44)).alloc (.cells #[.int .i64 0,.int .i64 0,.int .i64 0,.int .i64 0,.int .i64 0,.int .i64 0,.int .i64 0,.int .i64 0,.int .i64 0] 44)) (w.heap.size+1) y):=by
  have h:=(K9.new (w.alloc (.cells #[.int .i64 x.num,.int .i64 x.den,.int .i64 x.dim.a,.int .i64 x.dim.b,.int .i64 x.dim.c,.int .i64 x.dim.d,.int .i64 x.dim.e,.int .i64 x.dim.f,.int .i64 x.dim.g] 44)) y).reach (b1 _ (.cells #[.int .i64 0,.int .i64 0,.int .i64 0,.int .i64 0,.int .i64 0,.int .i64 0,.int .i64 0,.int .i64 0,.int .i64 0] 44))
  rw [World.size_alloc]at h
  exact h
 have HK:Hid (K9 (((w.alloc (.cells #[.int .i64 x.num,.int .i64 x.den,.int .i64 x.dim.a,.int .i64 x.dim.b,.int .i64 x.dim.c,.int .i64 x.dim.d,.int .i64 x.dim.e,.int .i64 x.dim.f,.int .i64 x.dim.g] 44)).alloc (.cells #[.int .i64 y.num,.int .i64 y.den,.int .i64 y.dim.a,.int .i64 y.dim.b,.int .i64 y.dim.c,.int .i64 y.dim.d,.int .i64 y.dim.e,.int .i64 y.dim.f,.int .i64 y.dim.g] 44)).alloc (.cells #[.int .i64 0,.int .i64 0,.int .i64 0,.int .i64 0,.int .i64 0,.int .i64 0,.int .i64 0,.int .i64 0,.int .i64 0] 44)) (w.heap.size+1+1) zV):=by
  have h:=K9.new ((w.alloc (.cells #[.int .i64 x.num,.int .i64 x.den,.int .i64 x.dim.a,.int .i64 x.dim.b,.int .i64 x.dim.c,.int .i64 x.dim.d,.int .i64 x.dim.e,.int .i64 x.dim.f,.int .i64 x.dim.g] 44)).alloc (.cells #[.int .i64 y.num,.int .i64 y.den,.int .i64 y.dim.a,.int .i64 y.dim.b,.int .i64 y.dim.c,.int .i64 y.dim.d,.int .i64 y.dim.e,.int .i64 y.dim.f,.int .i64 y.dim.g] 44)) zV
  rw [World.size_alloc,World.size_alloc]at h
  exact h
 unfold V.cells at HNX HNY ⊢;unfold Dm.cells at HJ HDM;go_enter Tryz.func141,Tryz.ntmps141;go_upto_region 1 with (fail);generalize ((w.alloc (.cells #[.int .i64 x.num,.int .i64 x.den,.int .i64 x.dim.a,.int .i64 x.dim.b,.int .i64 x.dim.c,.int .i64 x.dim.d,.int .i64 x.dim.e,.int .i64 x.dim.f,.int .i64 x.dim.g] 44)).alloc (.cells #[.int .i64 y.num,.int .i64 y.den,.int .i64 y.dim.a,.int .i64 y.dim.b,.int .i64 y.dim.c,.int .i64 y.dim.d,.int .i64 y.dim.e,.int .i64 y.dim.f,.int .i64 y.dim.g] 44)).alloc (.cells #[.int .i64 0,.int .i64 0,.int .i64 0,.int .i64 0,.int .i64 0,.int .i64 0,.int .i64 0,.int .i64 0,.int .i64 0] 44)=w1 at*
 go_cut [6,7] (fun s6 s7 wx=>∃ m:Nat,s6=.pointer (some ⟨m,0,none⟩)∧s7=.int .i64 qe∧Aside (Pr2 w1 wx m qn qd)∧Aside (Below w1.heap.size w1 wx))
 case first=>
  go_region_held_law (fun w'=>(w'.cell? ⟨w.heap.size,0,none⟩=some (.int .i64 x.num)∧w'.cell? ⟨w.heap.size,0+1,none⟩=some (.int .i64 x.den)∧w'.cell? ⟨w.heap.size,0+2,none⟩=some (.int .i64 x.dim.a)∧w'.cell? ⟨w.heap.size,0+3,none⟩=some (.int .i64 x.dim.b)∧w'.cell? ⟨w.heap.size,0+4,none⟩=some (.int .i64 x.dim.c)∧w'.cell? ⟨w.heap.size,0+5,none⟩=some (.int .i64 x.dim.d)∧w'.cell? ⟨w.heap.size,0+6,none⟩=some (.int .i64 x.dim.e)∧w'.cell? ⟨w.heap.size,0+7,none⟩=some (.int .i64 x.dim.f)∧w'.cell? ⟨w.heap.size,0+8,none⟩=some (.int .i64 x.dim.g))∧(w'.cell? ⟨w.heap.size+1,0,none⟩=some (.int .i64 y.num)∧w'.cell? ⟨w.heap.size+1,0+1,none⟩=some (.int .i64 y.den)∧w'.cell? ⟨w.heap.size+1,0+2,none⟩=some (.int .i64 y.dim.a)∧w'.cell? ⟨w.heap.size+1,0+3,none⟩=some (.int .i64 y.dim.b)∧w'.cell? ⟨w.heap.size+1,0+4,none⟩=some (.int .i64 y.dim.c)∧w'.cell? ⟨w.heap.size+1,0+5,none⟩=some (.int .i64 y.dim.d)∧w'.cell? ⟨w.heap.size+1,0+6,none⟩=some (.int .i64 y.dim.e)∧w'.cell? ⟨w.heap.size+1,0+7,none⟩=some (.int .i64 y.dim.f)∧w'.cell? ⟨w.heap.size+1,0+8,none⟩=some (.int .i64 y.dim.g))) ((refine T18 HP.out HQ.out ?_; repeat (first|with_reducible exact Below.refl _ _|with_reducible apply bl_dr|with_reducible apply bl_al|with_reducible refine bl_st ?_ hk2 _|with_reducible refine bl_tr ?_ (by assumption)))) (first|(go_at_call 52; (with_reducible refine (HNX.out _).mono ?_); rintro r wz ⟨rfl,hbz⟩; (first|(have hk:=Pr2.reach (Pr2.new (w0:=w1) (by show Below _ _ _; repeat (first|with_reducible exact Below.refl _ _|with_reducible apply bl_dr|with_reducible apply bl_al|with_reducible refine bl_st ?_ hk2 _|with_reducible refine bl_tr ?_ (by assumption))) 0 0) hbz; obtain ⟨⟨k0,k1⟩,kf,_⟩:=hk.1.cells; have hk2:=hk.2)|(have hk:=Pr2.reach (Pr2.dr (Pr2.new (w0:=w1) (by show Below _ _ _; repeat (first|with_reducible exact Below.refl _ _|with_reducible apply bl_dr|with_reducible apply bl_al|with_reducible refine bl_st ?_ hk2 _|with_reducible refine bl_tr ?_ (by assumption))) 0 0)) hbz; obtain ⟨⟨k0,k1⟩,kf,_⟩:=hk.1.cells; have hk2:=hk.2)|(have hk:=Pr2.reach (by assumption) hbz; obtain ⟨⟨k0,k1⟩,kf,_⟩:=hk.1.cells; have hk2:=hk.2)|skip))|(go_at_call 52; (with_reducible refine (HNY.out _).mono ?_); rintro r wz ⟨rfl,hbz⟩; (first|(have hk:=Pr2.reach (Pr2.new (w0:=w1) (by show Below _ _ _; repeat (first|with_reducible exact Below.refl _ _|with_reducible apply bl_dr|with_reducible apply bl_al|with_reducible refine bl_st ?_ hk2 _|with_reducible refine bl_tr ?_ (by assumption))) 0 0) hbz; obtain ⟨⟨k0,k1⟩,kf,_⟩:=hk.1.cells; have hk2:=hk.2)|(have hk:=Pr2.reach (Pr2.dr (Pr2.new (w0:=w1) (by show Below _ _ _; repeat (first|with_reducible exact Below.refl _ _|with_reducible apply bl_dr|with_reducible apply bl_al|with_reducible refine bl_st ?_ hk2 _|with_reducible refine bl_tr ?_ (by assumption))) 0 0)) hbz; obtain ⟨⟨k0,k1⟩,kf,_⟩:=hk.1.cells; have hk2:=hk.2)|(have hk:=Pr2.reach (by assumption) hbz; obtain ⟨⟨k0,k1⟩,kf,_⟩:=hk.1.cells; have hk2:=hk.2)|skip))|(go_at_call 182; (with_reducible refine (HAD.out _).mono ?_); rintro r wz ⟨rfl,hbz⟩; (first|(have hk:=Pr2.reach (Pr2.new (w0:=w1) (by show Below _ _ _; repeat (first|with_reducible exact Below.refl _ _|with_reducible apply bl_dr|with_reducible apply bl_al|with_reducible refine bl_st ?_ hk2 _|with_reducible refine bl_tr ?_ (by assumption))) 0 0) hbz; obtain ⟨⟨k0,k1⟩,kf,_⟩:=hk.1.cells; have hk2:=hk.2)|(have hk:=Pr2.reach (Pr2.dr (Pr2.new (w0:=w1) (by show Below _ _ _; repeat (first|with_reducible exact Below.refl _ _|with_reducible apply bl_dr|with_reducible apply bl_al|with_reducible refine bl_st ?_ hk2 _|with_reducible refine bl_tr ?_ (by assumption))) 0 0)) hbz; obtain ⟨⟨k0,k1⟩,kf,_⟩:=hk.1.cells; have hk2:=hk.2)|(have hk:=Pr2.reach (by assumption) hbz; obtain ⟨⟨k0,k1⟩,kf,_⟩:=hk.1.cells; have hk2:=hk.2)|skip)))
  all_goals
   go_wp2_with fail;go_meet
   case rel=>exact ⟨_,rfl,rfl,(by show Pr2 _ _ _ _ _; first|with_reducible exact Pr2.set hk _ _|with_reducible exact Pr2.new (by show Below _ _ _; repeat (first|with_reducible exact Below.refl _ _|with_reducible apply bl_dr|with_reducible apply bl_al|with_reducible refine bl_st ?_ hk2 _|with_reducible refine bl_tr ?_ (by assumption))) _ _|with_reducible exact Pr2.dr (Pr2.new (by show Below _ _ _; repeat (first|with_reducible exact Below.refl _ _|with_reducible apply bl_dr|with_reducible apply bl_al|with_reducible refine bl_st ?_ hk2 _|with_reducible refine bl_tr ?_ (by assumption))) _ _)),(by show Below _ _ _; repeat (first|with_reducible exact Below.refl _ _|with_reducible apply bl_dr|with_reducible apply bl_al|with_reducible refine bl_st ?_ hk2 _|with_reducible refine bl_tr ?_ (by assumption)))⟩
 case rest=>
  obtain ⟨m,rfl,rfl,HM,HBc⟩:=hcut
  rename World=>wd
  have HPd:=hid (HP.out.reach HBc.out)
  have HQd:=hid (HQ.out.reach HBc.out)
  go_upto_region 2 with (fail);obtain ⟨⟨⟨p0,p1⟩,p2,p3,p4,p5,p6,p7,p8⟩,pf,_⟩:=HPd.out.cells
  obtain ⟨⟨⟨q0,q1⟩,q2,q3,q4,q5,q6,q7,q8⟩,qf,_⟩:=HQd.out.cells
  go_wp2_with fail;refine (HDM.out wd).mono ?_
  rintro r w4 ⟨rfl,hb4⟩
  have HBe:=hid (bl_tr hb4 (b1 w4 (.cells #[.int .i64 gd.a,.int .i64 gd.b,.int .i64 gd.c,.int .i64 gd.d,.int .i64 gd.e,.int .i64 gd.f,.int .i64 gd.g] 42)))
  have HM2:=hid (P7.new (Below.refl w4.heap.size w4) gd)
  go_upto_region 3 with (fail);clear hb4 p0 p1 p2 p3 p4 p5 p6 p7 p8 pf q0 q1 q2 q3 q4 q5 q6 q7 q8 qf;generalize w4.alloc (.cells #[.int .i64 gd.a,.int .i64 gd.b,.int .i64 gd.c,.int .i64 gd.d,.int .i64 gd.e,.int .i64 gd.f,.int .i64 gd.g] 42)=we at*;generalize w4.heap.size=m2 at*;have HK2:=hid ((HK.out.reach HBc.out).reach HBe.out)
  have HBw:=hid (bl_tr (bl_tr HB.out HBc.out) HBe.out)
  obtain ⟨⟨m0,m1⟩,_,_⟩:=(HM.out.reach HBe.out).1.cells
  obtain ⟨⟨p0,p1,p2,p3,p4,p5,p6⟩,_,_⟩:=HM2.out.1.cells
  rw [← HE.out]at HJ
  go_wp2_with fail;refine (HJ.out _).mono ?_
  rintro r' wf ⟨q',rfl,hfo,hbf⟩
  have HK3:=hid (HK2.out.reach hbf)
  have HBw3:=hid (bl_tr HBw.out hbf)
  have HFO:=hid hfo
  have HLT:Hid (w.heap.size+1+1<we.heap.size):=HK2.out.cells.2.2
  clear hbf hfo m0 m1 p0 p1 p2 p3 p4 p5 p6;obtain ⟨⟨⟨z0,z1⟩,z2,z3,z4,z5,z6,z7,z8⟩,zf,_⟩:=HK3.out.cells
  obtain ⟨jv,je⟩:=R
  unfold V.cells;go_wp2_with fail;refine bodyPost_ret (v:=.tuple #[.agg jv.cells,.pointer q']) (by simp [results,Tryz.results141,go_sem,V.cells,z0,z1,z2,z3,z4,z5,z6,z7,z8]) rfl ⟨_,rfl,?_,?_⟩
  ·exact (HFO.out.set9 HLT.out jv).less (by have:=HBw.out.size; omega)
  ·exact below9 HBw3.out (b:=w.heap.size+1+1) (by omega) jv
end Go.Proofs.YtknpigdpepmimaaGreatDoor
