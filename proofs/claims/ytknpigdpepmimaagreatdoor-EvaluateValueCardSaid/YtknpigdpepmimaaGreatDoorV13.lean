/- Contract of evaluate.power 74. -/
import Derived.OrdersHeld
import Derived.Test.YtknpigdpepmimaaGreatDoorV03
import Derived.Test.YtknpigdpepmimaaGreatDoorV07
import Derived.Test.YtknpigdpepmimaaGreatDoorV12
import Derived.Deep.CutBlock
import Derived.Deep.DeepCutAuto
import Derived.Test.YtknpigdpepmimaaGreatDoorV06
import Derived.Test.YtknpigdpepmimaaGreatDoorV10
import Derived.Test.YtknpigdpepmimaaGreatDoorV11
namespace Go.Proofs.YtknpigdpepmimaaGreatDoor
open Go.Lib(hid)
open Go.RowKit
set_option maxRecDepth 100000 in
set_option maxHeartbeats 4000000 in
theorem pow_any' (x y:V)(hx:x.ok)(hy:y.ok)(b o c:Nat)(w:World)(h1:C9 w b o x)(h2:C9 w b (o+9) y):Calls Tryz.prog 74 #[.slice (some ⟨b,o,none⟩) 2 c] w fun r w'=>r=.returned (.tuple #[.agg (powV x y).1.cells,.int .i64 (powV x y).2])∧Below w.heap.size w w':=by
 have HX:=hid hx.bnd
 have HY:=hid hy.bnd
 have HNX:=hid fun w=>number_val x w
 have HPU:=hid fun w=>pure_any y w
 have HAD:=hid fun w=>Q.pow_any x.num x.den y.num w HX.out.1 HX.out.2.1 HX.out.2.2.1 HX.out.2.2.2 HY.out.1 HY.out.2.1
 have HDM:=hid fun w=>dpow_any x.dim y.num w
 have HE:Hid (powV x y=if y.dim=zD then (if y.den=1 then (if x.num=0∧y.num<0 then (zV,10)else joinQ (Q.powQ x.num x.den y.num) (dpowQ x.dim y.num).1 (dpowQ x.dim y.num).2)else (zV,17))else (zV,16)):=rfl
 generalize powV x y=R at*;unfold Q.Res.val at HAD;generalize Q.powQ x.num x.den y.num=q at*;obtain ⟨qn,qd,qe⟩:=q
 generalize dpowQ x.dim y.num=g at*;obtain ⟨gd,ge⟩:=g
 have HJ:=hid fun w=>join_any qn qd qe gd ge w
 have HB:=hid (b1 w (.cells #[.int .i64 0,.int .i64 0,.int .i64 0,.int .i64 0,.int .i64 0,.int .i64 0,.int .i64 0,.int .i64 0,.int .i64 0] 44))
 have HK:Hid (K9 (w.alloc (.cells #[.int .i64 0,.int .i64 0,.int .i64 0,.int .i64 0,.int .i64 0,.int .i64 0,.int .i64 0,.int .i64 0,.int .i64 0] 44)) w.heap.size zV):=K9.new w zV
 have H1:=hid (h1.reach HB.out)
 have H2:=hid (h2.reach HB.out)
 clear h1 h2 hx hy HX HY;unfold V.cells at HNX HPU;unfold Dm.cells at HJ HDM;go_enter Tryz.func74,Tryz.ntmps74;go_upto_region 1 with (fail);generalize w.alloc (.cells #[.int .i64 0,.int .i64 0,.int .i64 0,.int .i64 0,.int .i64 0,.int .i64 0,.int .i64 0,.int .i64 0,.int .i64 0] 44)=w1 at*;go_cut [4,5] (fun s4 s5 wx=>∃ p q:Nat,s4=.pointer (some ⟨p,0,none⟩)∧s5=.pointer (some ⟨q,0,none⟩)∧Aside (P9 w1 wx p x)∧Aside (P9 w1 wx q y)∧Aside (Below w1.heap.size w1 wx))
 case first=>
  go_region_held_law (fun w'=>(w'.cell? ⟨b,o,none⟩=some (.int .i64 x.num)∧w'.cell? ⟨b,o+1,none⟩=some (.int .i64 x.den)∧w'.cell? ⟨b,o+2,none⟩=some (.int .i64 x.dim.a)∧w'.cell? ⟨b,o+3,none⟩=some (.int .i64 x.dim.b)∧w'.cell? ⟨b,o+4,none⟩=some (.int .i64 x.dim.c)∧w'.cell? ⟨b,o+5,none⟩=some (.int .i64 x.dim.d)∧w'.cell? ⟨b,o+6,none⟩=some (.int .i64 x.dim.e)∧w'.cell? ⟨b,o+7,none⟩=some (.int .i64 x.dim.f)∧w'.cell? ⟨b,o+8,none⟩=some (.int .i64 x.dim.g))∧(w'.cell? ⟨b,o+9,none⟩=some (.int .i64 y.num)∧w'.cell? ⟨b,o+9+1,none⟩=some (.int .i64 y.den)∧w'.cell? ⟨b,o+9+2,none⟩=some (.int .i64 y.dim.a)∧w'.cell? ⟨b,o+9+3,none⟩=some (.int .i64 y.dim.b)∧w'.cell? ⟨b,o+9+4,none⟩=some (.int .i64 y.dim.c)∧w'.cell? ⟨b,o+9+5,none⟩=some (.int .i64 y.dim.d)∧w'.cell? ⟨b,o+9+6,none⟩=some (.int .i64 y.dim.e)∧w'.cell? ⟨b,o+9+7,none⟩=some (.int .i64 y.dim.f)∧w'.cell? ⟨b,o+9+8,none⟩=some (.int .i64 y.dim.g))) ((refine S18 H1.out H2.out ?_; repeat (first|with_reducible exact Below.refl _ _|with_reducible apply bl_dr|with_reducible apply bl_al|with_reducible refine bl_st ?_ hk2 _|with_reducible refine bl_tr ?_ (by assumption)))) (fail)
  ·go_wp2_with fail
   go_meet
   case rel=>exact ⟨_,_,rfl,rfl,P9.dr ((P9.new (Below.refl _ _) x).reach (b1 _ _)),by have:=P9.new (b1 w1 (.cells x.cells 44)) y; rw [World.size_alloc]at this; exact this,bl_dr (b2 _ _ _)⟩
  ·go_wp2_with fail
   go_meet
   case rel=>exact ⟨_,_,rfl,rfl,by have:=P9.new (b1 w1 (.cells y.cells 44)) x; rw [World.size_alloc]at this; exact this,P9.dr ((P9.new (Below.refl _ _) y).reach (b1 _ _)),bl_dr (b2 _ _ _)⟩
 case rest=>
  obtain ⟨p,q,rfl,rfl,HP,HQ,HBc⟩:=hcut
  rename World=>wc
  have HBw:=hid (bl_tr HB.out HBc.out)
  have HK1:=hid (HK.out.reach HBc.out)
  clear H1 H2;obtain ⟨⟨⟨q0,q1⟩,q2,q3,q4,q5,q6,q7,q8⟩,_,_⟩:=HQ.out.1.cells
  go_wp2_with fail;refine (HPU.out _).mono ?_
  rintro r w2 ⟨rfl,hb2⟩
  have HP2:=hid (HP.out.reach hb2)
  have HQ2:=hid (HQ.out.reach hb2)
  have HK2:=hid (HK1.out.reach hb2)
  have HB2:=hid (bl_tr HBw.out hb2)
  clear hb2 q0 q1 q2 q3 q4 q5 q6 q7 q8;obtain ⟨⟨⟨p0,p1⟩,p2,p3,p4,p5,p6,p7,p8⟩,_,_⟩:=HP2.out.1.cells
  obtain ⟨⟨⟨q0,q1⟩,q2,q3,q4,q5,q6,q7,q8⟩,_,_⟩:=HQ2.out.1.cells
  obtain ⟨⟨⟨z0,z1⟩,z2,z3,z4,z5,z6,z7,z8⟩,zf,_⟩:=HK2.out.cells
  by_cases hd:y.dim=zD
  ·replace HE:=hid (HE.out.trans (if_pos hd))
   rw [decide_eq_true hd];clear hd;by_cases hn:y.den=1
   ·replace HE:=hid (HE.out.trans (if_pos hn))
    have hnb:(y.den != 1)=false:=by simpa using hn
    rw [hn]at q1
    clear hn hnb;by_cases h0:x.num=0∧y.num<0
    ·have HR:Hid (R=(zV,10)):=HE.out.trans (if_pos h0)
     obtain ⟨h0a,h0b⟩:=h0
     rw [h0a]at p0
     go_wp2_with fail;rw [HR.out];refine bodyPost_ret (v:=.tuple #[.agg zV.cells,.int .i64 10]) (by simp [results,Tryz.results74,go_sem,V.cells,zV,zD,z0,z1,z2,z3,z4,z5,z6,z7,z8]) rfl ⟨rfl,?_⟩
     exact below9 HB2.out (b:=w.heap.size) (Nat.le_refl _) zV
    ·replace HE:=hid (HE.out.trans (if_neg h0))
     rw [← HE.out]at HJ
     clear HE;obtain ⟨jv,je⟩:=R
     unfold V.cells at HJ;go_upto_region 6 with (fail);go_cut [26] (fun s26 wx=>s26=.bool false∧w2=wx)
     case first=>
      by_cases hx0:x.num=0
      ·have hy0:¬ y.num<0:=fun h=>h0 ⟨hx0,h⟩
       rw [hx0]at p0
       go_wp2_with fail;go_meet
       case rel=>exact ⟨rfl,rfl⟩
      ·go_wp2_with fail
       go_meet
       case rel=>exact ⟨rfl,rfl⟩
     case rest=>
      obtain ⟨rfl,rfl⟩:=hcut
      clear z0 z1 z2 z3 z4 z5 z6 z7 z8 zf;go_upto_region 8 with (fail);go_cut [6,7] (fun s6 s7 wx=>∃ m:Nat,s6=.pointer (some ⟨m,0,none⟩)∧s7=.int .i64 qe∧Aside (P2 w2 wx m qn qd)∧Aside (Below w2.heap.size w2 wx))
      case first=>
       go_region_held_law (fun w'=>(w'.cell? ⟨p,0,none⟩=some (.int .i64 x.num)∧w'.cell? ⟨p,0+1,none⟩=some (.int .i64 x.den)∧w'.cell? ⟨p,0+2,none⟩=some (.int .i64 x.dim.a)∧w'.cell? ⟨p,0+3,none⟩=some (.int .i64 x.dim.b)∧w'.cell? ⟨p,0+4,none⟩=some (.int .i64 x.dim.c)∧w'.cell? ⟨p,0+5,none⟩=some (.int .i64 x.dim.d)∧w'.cell? ⟨p,0+6,none⟩=some (.int .i64 x.dim.e)∧w'.cell? ⟨p,0+7,none⟩=some (.int .i64 x.dim.f)∧w'.cell? ⟨p,0+8,none⟩=some (.int .i64 x.dim.g))∧(w'.cell? ⟨q,0,none⟩=some (.int .i64 y.num)∧w'.cell? ⟨q,0+1,none⟩=some (.int .i64 y.den)∧w'.cell? ⟨q,0+2,none⟩=some (.int .i64 y.dim.a)∧w'.cell? ⟨q,0+3,none⟩=some (.int .i64 y.dim.b)∧w'.cell? ⟨q,0+4,none⟩=some (.int .i64 y.dim.c)∧w'.cell? ⟨q,0+5,none⟩=some (.int .i64 y.dim.d)∧w'.cell? ⟨q,0+6,none⟩=some (.int .i64 y.dim.e)∧w'.cell? ⟨q,0+7,none⟩=some (.int .i64 y.dim.f)∧w'.cell? ⟨q,0+8,none⟩=some (.int .i64 y.dim.g))) ((refine T18 HP2.out.1 HQ2.out.1 ?_; repeat (first|with_reducible exact Below.refl _ _|with_reducible apply bl_dr|with_reducible apply bl_al|with_reducible refine bl_st ?_ hk2 _|with_reducible refine bl_tr ?_ (by assumption)))) (first|(go_at_call 49; (with_reducible refine (HNX.out _).mono ?_); rintro r wz ⟨rfl,hbz⟩; (first|(have hk:=P2.reach (P2.new (w0:=w2) (by show Below _ _ _; repeat (first|with_reducible exact Below.refl _ _|with_reducible apply bl_dr|with_reducible apply bl_al|with_reducible refine bl_st ?_ hk2 _|with_reducible refine bl_tr ?_ (by assumption))) 0 0) hbz; obtain ⟨⟨k0,k1⟩,kf,_⟩:=hk.1.cells; have hk2:=hk.2)|(have hk:=P2.reach (P2.dr (P2.new (w0:=w2) (by show Below _ _ _; repeat (first|with_reducible exact Below.refl _ _|with_reducible apply bl_dr|with_reducible apply bl_al|with_reducible refine bl_st ?_ hk2 _|with_reducible refine bl_tr ?_ (by assumption))) 0 0)) hbz; obtain ⟨⟨k0,k1⟩,kf,_⟩:=hk.1.cells; have hk2:=hk.2)|(have hk:=P2.reach (by assumption) hbz; obtain ⟨⟨k0,k1⟩,kf,_⟩:=hk.1.cells; have hk2:=hk.2)|skip))|(go_at_call 44; (with_reducible refine (HAD.out _).mono ?_); rintro r wz ⟨rfl,hbz⟩; (first|(have hk:=P2.reach (P2.new (w0:=w2) (by show Below _ _ _; repeat (first|with_reducible exact Below.refl _ _|with_reducible apply bl_dr|with_reducible apply bl_al|with_reducible refine bl_st ?_ hk2 _|with_reducible refine bl_tr ?_ (by assumption))) 0 0) hbz; obtain ⟨⟨k0,k1⟩,kf,_⟩:=hk.1.cells; have hk2:=hk.2)|(have hk:=P2.reach (P2.dr (P2.new (w0:=w2) (by show Below _ _ _; repeat (first|with_reducible exact Below.refl _ _|with_reducible apply bl_dr|with_reducible apply bl_al|with_reducible refine bl_st ?_ hk2 _|with_reducible refine bl_tr ?_ (by assumption))) 0 0)) hbz; obtain ⟨⟨k0,k1⟩,kf,_⟩:=hk.1.cells; have hk2:=hk.2)|(have hk:=P2.reach (by assumption) hbz; obtain ⟨⟨k0,k1⟩,kf,_⟩:=hk.1.cells; have hk2:=hk.2)|skip)))
       all_goals
        go_wp2_with fail;go_meet
        case rel=>exact ⟨_,rfl,rfl,(by show P2 _ _ _ _ _; first|with_reducible exact P2.set hk _ _|with_reducible exact P2.new (by show Below _ _ _; repeat (first|with_reducible exact Below.refl _ _|with_reducible apply bl_dr|with_reducible apply bl_al|with_reducible refine bl_st ?_ hk2 _|with_reducible refine bl_tr ?_ (by assumption))) _ _|with_reducible exact P2.dr (P2.new (by show Below _ _ _; repeat (first|with_reducible exact Below.refl _ _|with_reducible apply bl_dr|with_reducible apply bl_al|with_reducible refine bl_st ?_ hk2 _|with_reducible refine bl_tr ?_ (by assumption))) _ _)),(by show Below _ _ _; repeat (first|with_reducible exact Below.refl _ _|with_reducible apply bl_dr|with_reducible apply bl_al|with_reducible refine bl_st ?_ hk2 _|with_reducible refine bl_tr ?_ (by assumption)))⟩
      case rest=>
       obtain ⟨m,rfl,rfl,HM,HBd⟩:=hcut
       rename World=>wd
       have HK3:=hid (HK2.out.reach HBd.out)
       have HB3:=hid (bl_tr HB2.out HBd.out)
       have HP3:=hid (HP2.out.reach HBd.out)
       have HQ3:=hid (HQ2.out.reach HBd.out)
       clear p0 p1 p2 p3 p4 p5 p6 p7 p8 q0 q1 q2 q3 q4 q5 q6 q7 q8;obtain ⟨⟨⟨p0,p1⟩,p2,p3,p4,p5,p6,p7,p8⟩,_,_⟩:=HP3.out.1.cells
       obtain ⟨⟨⟨q0,q1⟩,q2,q3,q4,q5,q6,q7,q8⟩,_,_⟩:=HQ3.out.1.cells
       go_wp2_with fail;refine (HDM.out _).mono ?_
       rintro r w4 ⟨rfl,hb4⟩
       have HB5:=hid (bl_tr hb4 (b1 w4 (.cells #[.int .i64 gd.a,.int .i64 gd.b,.int .i64 gd.c,.int .i64 gd.d,.int .i64 gd.e,.int .i64 gd.f,.int .i64 gd.g] 42)))
       have HM7:=hid (P7.new (Below.refl w4.heap.size w4) gd)
       go_upto_region 10 with (fail);generalize w4.alloc (.cells #[.int .i64 gd.a,.int .i64 gd.b,.int .i64 gd.c,.int .i64 gd.d,.int .i64 gd.e,.int .i64 gd.f,.int .i64 gd.g] 42)=w5 at*;have HK5:=hid (HK3.out.reach HB5.out)
       have HBw5:=hid (bl_tr HB3.out HB5.out)
       have HM5:=hid (HM.out.reach HB5.out)
       clear p0 p1 p2 p3 p4 p5 p6 p7 p8 q0 q1 q2 q3 q4 q5 q6 q7 q8 hb4;obtain ⟨⟨m0,m1⟩,_,_⟩:=HM5.out.1.cells
       obtain ⟨⟨g0,g1,g2,g3,g4,g5,g6⟩,_,_⟩:=HM7.out.1.cells
       go_wp2_with fail;refine (HJ.out _).mono ?_
       rintro r w7 ⟨rfl,hb7⟩
       have HK7:=hid (HK5.out.reach hb7)
       have HBw7:=hid (bl_tr HBw5.out hb7)
       clear hb7 m0 m1 g0 g1 g2 g3 g4 g5 g6;obtain ⟨⟨⟨z0,z1⟩,z2,z3,z4,z5,z6,z7,z8⟩,zf,_⟩:=HK7.out.cells
       go_wp2_with fail;refine bodyPost_ret (v:=.tuple #[.agg jv.cells,.int .i64 je]) (by simp [results,Tryz.results74,go_sem,V.cells,z0,z1,z2,z3,z4,z5,z6,z7,z8]) rfl ⟨rfl,?_⟩
       exact below9 HBw7.out (b:=w.heap.size) (Nat.le_refl _) jv
   ·have HR:Hid (R=(zV,17)):=HE.out.trans (if_neg hn)
    have hnb:(y.den != 1)=true:=by simpa using hn
    go_wp2_with fail;rw [HR.out];refine bodyPost_ret (v:=.tuple #[.agg zV.cells,.int .i64 17]) (by simp [results,Tryz.results74,go_sem,V.cells,zV,zD,z0,z1,z2,z3,z4,z5,z6,z7,z8]) rfl ⟨rfl,?_⟩
    exact below9 HB2.out (b:=w.heap.size) (Nat.le_refl _) zV
  ·have HR:Hid (R=(zV,16)):=HE.out.trans (if_neg hd)
   rw [decide_eq_false hd];go_wp2_with fail;rw [HR.out];refine bodyPost_ret (v:=.tuple #[.agg zV.cells,.int .i64 16]) (by simp [results,Tryz.results74,go_sem,V.cells,zV,zD,z0,z1,z2,z3,z4,z5,z6,z7,z8]) rfl ⟨rfl,?_⟩
   exact below9 HB2.out (b:=w.heap.size) (Nat.le_refl _) zV
set_option maxRecDepth 100000 in
set_option maxHeartbeats 4000000 in
theorem roo_any (x:V)(hx:x.ok)(b o c:Nat)(w:World)(h1:C9 w b o x):Calls Tryz.prog 75 #[.slice (some ⟨b,o,none⟩) 1 c] w fun r w'=>r=.returned (.tuple #[.agg (rooV x).1.cells,.int .i64 (rooV x).2])∧Below w.heap.size w w':=by
 have HX:=hid hx.bnd
 have HNX:=hid fun w=>number_val x w
 have HAD:=hid fun w=>Q.root_any x.num x.den w HX.out.1 HX.out.2.1 HX.out.2.2.1 HX.out.2.2.2
 have HDM:=hid fun w=>droot_any x.dim w
 have HE:Hid (rooV x=if (drootQ x.dim).2=0 then joinQ (Q.rootQ x.num x.den) (drootQ x.dim).1 0 else (zV,16)):=rfl
 generalize rooV x=R at*;unfold Q.Res.val at HAD;generalize Q.rootQ x.num x.den=q at*;obtain ⟨qn,qd,qe⟩:=q
 generalize drootQ x.dim=g at*;obtain ⟨gd,ge⟩:=g
 have HJ:=hid fun w=>join_any qn qd qe gd 0 w
 have HB:=hid (b1 w (.cells #[.int .i64 0,.int .i64 0,.int .i64 0,.int .i64 0,.int .i64 0,.int .i64 0,.int .i64 0,.int .i64 0,.int .i64 0] 44))
 have HK:Hid (K9 (w.alloc (.cells #[.int .i64 0,.int .i64 0,.int .i64 0,.int .i64 0,.int .i64 0,.int .i64 0,.int .i64 0,.int .i64 0,.int .i64 0] 44)) w.heap.size zV):=K9.new w zV
 have H1:=hid (h1.reach HB.out)
 clear h1 hx HX;unfold V.cells at HNX;unfold Dm.cells at HJ HDM;go_enter Tryz.func75,Tryz.ntmps75;go_upto_region 1 with (fail);generalize w.alloc (.cells #[.int .i64 0,.int .i64 0,.int .i64 0,.int .i64 0,.int .i64 0,.int .i64 0,.int .i64 0,.int .i64 0,.int .i64 0] 44)=w1 at*;obtain ⟨⟨p0,p1⟩,p2,p3,p4,p5,p6,p7,p8⟩:=H1.out
 go_wp2_with fail;refine (HDM.out _).mono ?_
 rintro r w2 ⟨rfl,hb2⟩
 have HB2:=hid (bl_tr hb2 (b1 w2 (.cells #[.int .i64 gd.a,.int .i64 gd.b,.int .i64 gd.c,.int .i64 gd.d,.int .i64 gd.e,.int .i64 gd.f,.int .i64 gd.g] 42)))
 have HM7:=hid (P7.new (Below.refl w2.heap.size w2) gd)
 go_upto_region 2 with (fail);generalize w2.alloc (.cells #[.int .i64 gd.a,.int .i64 gd.b,.int .i64 gd.c,.int .i64 gd.d,.int .i64 gd.e,.int .i64 gd.f,.int .i64 gd.g] 42)=w3 at*;have H3:=hid (H1.out.reach HB2.out)
 have HK3:=hid (HK.out.reach HB2.out)
 have HBw3:=hid (bl_tr HB.out HB2.out)
 clear p0 p1 p2 p3 p4 p5 p6 p7 p8 hb2;obtain ⟨⟨⟨z0,z1⟩,z2,z3,z4,z5,z6,z7,z8⟩,zf,_⟩:=HK3.out.cells
 by_cases hg:ge=0
 ·have HR:Hid (R=joinQ ⟨qn,qd,qe⟩ gd 0):=HE.out.trans (if_pos hg)
  rw [← HR.out]at HJ
  subst hg;clear HE HR;obtain ⟨jv,je⟩:=R
  obtain ⟨⟨p0,p1⟩,p2,p3,p4,p5,p6,p7,p8⟩:=H3.out
  unfold V.cells at HJ;go_wp2_with fail;refine (HNX.out _).mono ?_
  rintro r w4 ⟨rfl,hb4⟩
  go_wp2_with fail;refine (HAD.out _).mono ?_
  rintro r w5 ⟨rfl,hb5⟩
  have HBx:=hid (bl_tr hb4 hb5)
  have HM:=hid (P2.new (Below.refl w5.heap.size w5) qn qd)
  have HB6:=hid (bl_tr HBx.out (b1 w5 (.cells #[.int .i64 qn,.int .i64 qd] 57)))
  go_upto_region 5 with (fail);generalize w5.alloc (.cells #[.int .i64 qn,.int .i64 qd] 57)=w6 at*;have HK6:=hid (HK3.out.reach HB6.out)
  have HBw6:=hid (bl_tr HBw3.out HB6.out)
  have HM6:=hid (HM7.out.reach HB6.out)
  clear p0 p1 p2 p3 p4 p5 p6 p7 p8 hb4 hb5 z0 z1 z2 z3 z4 z5 z6 z7 z8 zf;obtain ⟨⟨m0,m1⟩,_,_⟩:=HM.out.1.cells
  obtain ⟨⟨g0,g1,g2,g3,g4,g5,g6⟩,_,_⟩:=HM6.out.1.cells
  go_wp2_with fail;refine (HJ.out _).mono ?_
  rintro r w7 ⟨rfl,hb7⟩
  have HK7:=hid (HK6.out.reach hb7)
  have HBw7:=hid (bl_tr HBw6.out hb7)
  clear hb7 m0 m1 g0 g1 g2 g3 g4 g5 g6;obtain ⟨⟨⟨z0,z1⟩,z2,z3,z4,z5,z6,z7,z8⟩,zf,_⟩:=HK7.out.cells
  go_wp2_with fail;refine bodyPost_ret (v:=.tuple #[.agg jv.cells,.int .i64 je]) (by simp [results,Tryz.results75,go_sem,V.cells,z0,z1,z2,z3,z4,z5,z6,z7,z8]) rfl ⟨rfl,?_⟩
  exact below9 HBw7.out (b:=w.heap.size) (Nat.le_refl _) jv
 ·have HR:Hid (R=(zV,16)):=HE.out.trans (if_neg hg)
  have hgb:(ge != 0)=true:=by simpa using hg
  go_wp2_with fail;rw [HR.out];refine bodyPost_ret (v:=.tuple #[.agg zV.cells,.int .i64 16]) (by simp [results,Tryz.results75,go_sem,V.cells,zV,zD,z0,z1,z2,z3,z4,z5,z6,z7,z8]) rfl ⟨rfl,?_⟩
  exact below9 HBw3.out (b:=w.heap.size) (Nat.le_refl _) zV
end Go.Proofs.YtknpigdpepmimaaGreatDoor
namespace Go.Proofs.YtknpigdpepmimaaGreatDoor.Q
open Go.Lib(hid)
open Go.RowKit
set_option maxHeartbeats 1000000 in
theorem neg_any (a b:Int)(w:World)(ha:-9223372036854775808≤a)(hA:a≤9223372036854775807)(hb:-9223372036854775808≤b)(hB:b≤9223372036854775807):
  Calls Tryz.prog 119 #[.agg #[.int .i64 a,.int .i64 b]] w fun e w'=>e=.returned (negQ a b).val∧Below w.heap.size w w':=by
 have hX:=((Two.new w (.int .i64 a) (.int .i64 b) 57).alloc (.cells #[.int .i64 0,.int .i64 0] 57))
 have hR:=(Two.new1 w (.cells #[.int .i64 a,.int .i64 b] 57) (.int .i64 0) (.int .i64 0) 57)
 have h3:Below w.heap.size w ((w.alloc (.cells #[.int .i64 a,.int .i64 b] 57)).alloc (.cells #[.int .i64 0,.int .i64 0] 57)):=((Below.refl _ _).alloc (Nat.le_refl _) _).alloc (by simp) _
 have H:=hid (And.intro hX (And.intro hR h3))
 clear hX hR h3;cases hv:validQ a b with
 | false=>
  have HQ:Hid (negQ a b=⟨0,0,1⟩):=by show negQ a b=_; unfold negQ; rw [hv]; rfl
  have HV:=hid hv
  clear hv;go_enter Tryz.func119,Tryz.ntmps119;go_wp2_with fail;refine (valid_any a b _ ha hA hb hB).mono ?_
  rw [HV.out];rintro e w1 ⟨rfl,hb1⟩
  obtain ⟨hX,hR,h3⟩:=H.out
  obtain ⟨r0,r1,rf,rlt⟩:=hR.below hb1
  have HB1:=hid (h3.trans (hb1.mono h3.size))
  clear hX hR h3 hb1;go_wp2
  refine bodyPost_ret (v:=.tuple #[.agg #[.int .i64 0,.int .i64 0],.int .i64 1]) (by simp [results,Tryz.results119,go_sem,r0,r1]) rfl ⟨?_,?_⟩
  ·rw [HQ.out]; rfl
  ·exact (HB1.out.setCell (by simp) _).setCell (by simp) _
 | true=>
  obtain ⟨v1,v2,v3,v4,_⟩:=(valid_iff a b).1 hv
  have HQ:Hid (negQ a b=⟨-a,b,0⟩):=by show negQ a b=_; unfold negQ; rw [hv]; rfl
  have HV:=hid hv
  clear hv;go_enter Tryz.func119,Tryz.ntmps119;go_wp2_with fail;refine (valid_any a b _ ha hA hb hB).mono ?_
  rw [HV.out];rintro e w1 ⟨rfl,hb1⟩
  obtain ⟨hX,hR,h3⟩:=H.out
  obtain ⟨r0,r1,rf,rlt⟩:=hR.below hb1
  obtain ⟨x0,x1,_,_⟩:=hX.below hb1
  have HB1:=hid (h3.trans (hb1.mono h3.size))
  clear hX hR h3 hb1;go_wp2
  refine bodyPost_ret (v:=.tuple #[.agg #[.int .i64 (-a),.int .i64 b],.int .i64 0]) (by simp [results,Tryz.results119,go_sem,r0,r1]) rfl ⟨?_,?_⟩
  ·rw [HQ.out]; rfl
  ·exact (HB1.out.setCell (by simp) _).setCell (by simp) _
end Go.Proofs.YtknpigdpepmimaaGreatDoor.Q
namespace Go.Proofs.YtknpigdpepmimaaGreatDoor
open Go.Lib(hid)
open Go.RowKit
set_option maxRecDepth 100000 in
set_option maxHeartbeats 4000000 in
theorem neg_any (x:V)(hx:x.ok)(b o c:Nat)(w:World)(h1:C9 w b o x):Calls Tryz.prog 70 #[.slice (some ⟨b,o,none⟩) 1 c] w fun r w'=>r=.returned (.tuple #[.agg (negV x).1.cells,.int .i64 (negV x).2])∧Below w.heap.size w w':=by
 have HX:=hid hx.bnd
 have HNX:=hid fun w=>number_val x w
 have HAD:=hid fun w=>Q.neg_any x.num x.den w HX.out.1 HX.out.2.1 HX.out.2.2.1 HX.out.2.2.2
 have HE:Hid (negV x=joinQ (Q.negQ x.num x.den) x.dim 0):=rfl
 generalize negV x=R at*;unfold Q.Res.val at HAD;generalize Q.negQ x.num x.den=q at*;obtain ⟨qn,qd,qe⟩:=q
 have HJ:=hid fun w=>join_any qn qd qe x.dim 0 w
 rw [← HE.out]at HJ
 clear HE;obtain ⟨jv,je⟩:=R
 have HB:=hid (b1 w (.cells #[.int .i64 0,.int .i64 0,.int .i64 0,.int .i64 0,.int .i64 0,.int .i64 0,.int .i64 0,.int .i64 0,.int .i64 0] 44))
 have HK:Hid (K9 (w.alloc (.cells #[.int .i64 0,.int .i64 0,.int .i64 0,.int .i64 0,.int .i64 0,.int .i64 0,.int .i64 0,.int .i64 0,.int .i64 0] 44)) w.heap.size zV):=K9.new w zV
 have HL:=hid h1.lt
 have H1:=hid (h1.reach HB.out)
 clear h1 hx HX;unfold V.cells at HNX HJ;unfold Dm.cells at HJ;go_enter Tryz.func70,Tryz.ntmps70;go_upto_region 1 with (fail);generalize w.alloc (.cells #[.int .i64 0,.int .i64 0,.int .i64 0,.int .i64 0,.int .i64 0,.int .i64 0,.int .i64 0,.int .i64 0,.int .i64 0] 44)=w1 at*;obtain ⟨⟨p0,p1⟩,p2,p3,p4,p5,p6,p7,p8⟩:=H1.out
 go_wp2_with fail;refine (HNX.out _).mono ?_
 rintro r w2 ⟨rfl,hb2⟩
 go_wp2_with fail;refine (HAD.out _).mono ?_
 rintro r w3 ⟨rfl,hb3⟩
 have HBx:=hid (bl_tr hb2 hb3)
 go_upto_region 2 with (fail);have HM:=hid (P2.new (Below.refl w3.heap.size w3) qn qd)
 have HB4:=hid (bl_tr HBx.out (b1 w3 (.cells #[.int .i64 qn,.int .i64 qd] 57)))
 generalize w3.alloc (.cells #[.int .i64 qn,.int .i64 qd] 57)=w4 at*;have H4:=hid (H1.out.reach HB4.out)
 have HK4:=hid (HK.out.reach HB4.out)
 have HBw:=hid (bl_tr HB.out HB4.out)
 clear p0 p1 p2 p3 p4 p5 p6 p7 p8 hb2 hb3;have hneM:Hid (w3.heap.size≠w.heap.size):=by show _≠_; have:=HBx.out.size; have:=HK.out.cells.2.2; omega
 have hneB:Hid (b≠w.heap.size):=by show _≠_; have:=HL.out; omega
 have hne:w.heap.size≠w3.heap.size:=by have:=HBx.out.size; have:=HK.out.cells.2.2; omega
 obtain ⟨⟨p0,p1⟩,p2,p3,p4,p5,p6,p7,p8⟩:=H4.out
 obtain ⟨⟨m0,m1⟩,_,_⟩:=HM.out.1.cells
 obtain ⟨⟨⟨z0,z1⟩,z2,z3,z4,z5,z6,z7,z8⟩,zf,_⟩:=HK4.out.cells
 have HM1:=hid HM.out.1
 have HSd:=hid (S27 HM.out.1 H4.out (bl_dr (Below.refl w4.heap.size w4)))
 go_region_held_law (fun w'=>(w'.cell? ⟨w3.heap.size,0,none⟩=some (.int .i64 qn)∧w'.cell? ⟨w3.heap.size,1,none⟩=some (.int .i64 qd))∧(w'.cell? ⟨b,o+2,none⟩=some (.int .i64 x.dim.a)∧w'.cell? ⟨b,o+3,none⟩=some (.int .i64 x.dim.b)∧w'.cell? ⟨b,o+4,none⟩=some (.int .i64 x.dim.c)∧w'.cell? ⟨b,o+5,none⟩=some (.int .i64 x.dim.d)∧w'.cell? ⟨b,o+6,none⟩=some (.int .i64 x.dim.e)∧w'.cell? ⟨b,o+7,none⟩=some (.int .i64 x.dim.f)∧w'.cell? ⟨b,o+8,none⟩=some (.int .i64 x.dim.g))) (first|with_reducible exact HSd.out|with_reducible exact HSZ.out|with_reducible exact S27s HM1.out H4.out HB5s.out hneM.out hneB.out) (first|(go_at_call 79; (with_reducible refine (HJ.out _).mono ?_); rintro r w5 ⟨rfl,hb5⟩; have hb5':=bl_tr (bl_dr (Below.refl w4.heap.size w4)) hb5; have HB5s:=hid hb5'; have HB5:=hid (bl_tr HBw.out hb5'); have HK5:=hid (HK4.out.reach hb5'); clear z0 z1 z2 z3 z4 z5 z6 z7 z8 zf; obtain ⟨⟨⟨z0,z1⟩,z2,z3,z4,z5,z6,z7,z8⟩,zf,_⟩:=HK5.out.cells; have HSZ:=hid (S27 HM.out.1 H4.out hb5'); clear hb5 hb5'))
 go_wp2_with fail;refine bodyPost_ret (v:=.tuple #[.agg jv.cells,.int .i64 je]) (by simp [results,Tryz.results70,go_sem,V.cells,z0,z1,z2,z3,z4,z5,z6,z7,z8]) rfl ⟨rfl,?_⟩
 exact below9 HB5.out (b:=w.heap.size) (Nat.le_refl _) jv
set_option maxRecDepth 100000 in
set_option maxHeartbeats 4000000 in
theorem sam_any (x:V)  (b o c:Nat)(w:World)(h1:C9 w b o x):Calls Tryz.prog 71 #[.slice (some ⟨b,o,none⟩) 1 c] w fun r w'=>r=.returned (.tuple #[.agg x.cells,.int .i64 0])∧Below w.heap.size w w':=by
 have HB:=hid (b1 w (.cells #[.int .i64 0,.int .i64 0,.int .i64 0,.int .i64 0,.int .i64 0,.int .i64 0,.int .i64 0,.int .i64 0,.int .i64 0] 44))
 have HK:Hid (K9 (w.alloc (.cells #[.int .i64 0,.int .i64 0,.int .i64 0,.int .i64 0,.int .i64 0,.int .i64 0,.int .i64 0,.int .i64 0,.int .i64 0] 44)) w.heap.size zV):=K9.new w zV
 have H1:=hid (h1.reach HB.out)
 clear h1;go_enter Tryz.func71,Tryz.ntmps71;go_upto_region 1 with (fail);generalize w.alloc (.cells #[.int .i64 0,.int .i64 0,.int .i64 0,.int .i64 0,.int .i64 0,.int .i64 0,.int .i64 0,.int .i64 0,.int .i64 0] 44)=w1 at*;obtain ⟨⟨p0,p1⟩,p2,p3,p4,p5,p6,p7,p8⟩:=H1.out
 obtain ⟨⟨⟨z0,z1⟩,z2,z3,z4,z5,z6,z7,z8⟩,zf,_⟩:=HK.out.cells
 go_wp2_with fail;refine bodyPost_ret (v:=.tuple #[.agg x.cells,.int .i64 0]) (by simp [results,Tryz.results71,go_sem,V.cells,z0,z1,z2,z3,z4,z5,z6,z7,z8]) rfl ⟨rfl,?_⟩
 exact below9 HB.out (b:=w.heap.size) (Nat.le_refl _) x
set_option maxRecDepth 100000 in
set_option maxHeartbeats 4000000 in
theorem abs_any (x:V)(hx:x.ok)(b o c:Nat)(w:World)(h1:C9 w b o x):Calls Tryz.prog 76 #[.slice (some ⟨b,o,none⟩) 1 c] w fun r w'=>r=.returned (.tuple #[.agg (absV x).1.cells,.int .i64 (absV x).2])∧Below w.heap.size w w':=by
 have hx:=(Q.valid_iff _ _).1 hx.1
 have hw:IntKind.i64.wrap (-x.num)=-x.num:=wrap64_small (by omega) (by omega)
 have HB:=hid (b1 w (.cells #[.int .i64 0,.int .i64 0,.int .i64 0,.int .i64 0,.int .i64 0,.int .i64 0,.int .i64 0,.int .i64 0,.int .i64 0] 44))
 have HK:Hid (K9 (w.alloc (.cells #[.int .i64 0,.int .i64 0,.int .i64 0,.int .i64 0,.int .i64 0,.int .i64 0,.int .i64 0,.int .i64 0,.int .i64 0] 44)) w.heap.size zV):=K9.new w zV
 have H1:=hid (h1.reach HB.out)
 clear h1;go_enter Tryz.func76,Tryz.ntmps76;go_upto_region 1 with (fail);have HS:Hid ((w.alloc (.cells #[.int .i64 0,.int .i64 0,.int .i64 0,.int .i64 0,.int .i64 0,.int .i64 0,.int .i64 0,.int .i64 0,.int .i64 0] 44)).heap.size=w.heap.size+1):=by show _=_; simp
 generalize w.alloc (.cells #[.int .i64 0,.int .i64 0,.int .i64 0,.int .i64 0,.int .i64 0,.int .i64 0,.int .i64 0,.int .i64 0,.int .i64 0] 44)=w1 at*;obtain ⟨⟨p0,p1⟩,p2,p3,p4,p5,p6,p7,p8⟩:=H1.out
 go_upto_region 2 with (fail);have HM:=hid (P9.new (Below.refl w1.heap.size w1) x)
 have HB2:=hid (bl_tr HB.out (b1 w1 (.cells x.cells 44)))
 have HK2:=hid (HK.out.reach (b1 w1 (.cells x.cells 44)))
 unfold V.cells at HB2 HK2;generalize w1.alloc (.cells #[.int .i64 x.num,.int .i64 x.den,.int .i64 x.dim.a,.int .i64 x.dim.b,.int .i64 x.dim.c,.int .i64 x.dim.d,.int .i64 x.dim.e,.int .i64 x.dim.f,.int .i64 x.dim.g] 44)=w2 at*;clear p0 p1 p2 p3 p4 p5 p6 p7 p8;obtain ⟨⟨⟨p0,p1⟩,p2,p3,p4,p5,p6,p7,p8⟩,pf,_⟩:=HM.out.1.cells
 obtain ⟨⟨⟨z0,z1⟩,z2,z3,z4,z5,z6,z7,z8⟩,zf,_⟩:=HK2.out.cells
 have hne:w1.heap.size≠w.heap.size:=by have:=HS.out; omega
 have HB3:=hid (HB2.out.setCell (p:=⟨w1.heap.size,0,none⟩) HB.out.size (.int .i64 (-x.num)))
 have HB4:=hid (HB2.out.setCell (p:=⟨w1.heap.size,0,none⟩) HB.out.size (.int .i64 x.num))
 have HA1:Hid (x.num < -x.num→absV x=(⟨-x.num,x.den,x.dim⟩,0)):=fun h=>by unfold absV; rw [Int.max_eq_right (by omega)]
 have HA2:Hid (-x.num≤x.num→absV x=(⟨x.num,x.den,x.dim⟩,0)):=fun h=>by unfold absV; rw [Int.max_eq_left h]
 by_cases h:x.num < -x.num
 ·have HR:=hid (HA1.out h)
  have hmx:max x.num (-x.num)=-x.num:=Int.max_eq_right (by omega)
  go_wp2_with fail;rw [HR.out];refine bodyPost_ret (v:=.tuple #[.agg (V.mk (-x.num) x.den x.dim).cells,.int .i64 0]) (by simp [results,Tryz.results76,go_sem,V.cells,z0,z1,z2,z3,z4,z5,z6,z7,z8]) rfl ⟨rfl,?_⟩
  exact below9 HB3.out (b:=w.heap.size) (Nat.le_refl _) (V.mk (-x.num) x.den x.dim)
 ·have HR:=hid (HA2.out (by omega))
  have hmx:max x.num (-x.num)=x.num:=Int.max_eq_left (by omega)
  go_wp2_with fail;rw [HR.out];refine bodyPost_ret (v:=.tuple #[.agg (V.mk x.num x.den x.dim).cells,.int .i64 0]) (by simp [results,Tryz.results76,go_sem,V.cells,z0,z1,z2,z3,z4,z5,z6,z7,z8]) rfl ⟨rfl,?_⟩
  exact below9 HB4.out (b:=w.heap.size) (Nat.le_refl _) (V.mk x.num x.den x.dim)
theorem fac_succ (i:Nat)(h:1≤i):facN (i-1)*(i:Int)=facN i:=by
 obtain ⟨j,rfl⟩:∃ j,i=j+1:=⟨i-1,by omega⟩
 rw [Nat.add_sub_cancel,facN];push_cast
 rfl
set_option maxRecDepth 100000 in
set_option maxHeartbeats 4000000 in
theorem fac_any (x:V)(_hx:x.ok)(b o c:Nat)(w:World)(h1:C9 w b o x):Calls Tryz.prog 77 #[.slice (some ⟨b,o,none⟩) 1 c] w fun r w'=>r=.returned (.tuple #[.agg (facV x).1.cells,.int .i64 (facV x).2])∧Below w.heap.size w w':=by
 have HPU:=hid fun w=>pure_any x w
 have HWH:=hid fun n w=>whole_any n w
 have HE:Hid (facV x=if x.dim=zD then (if x.den=1∧0≤x.num∧x.num≤12 then (whV (facN x.num.toNat),0)else (zV,17))else (zV,16)):=rfl
 generalize facV x=R at*;have HB:=hid (b1 w (.cells #[.int .i64 0,.int .i64 0,.int .i64 0,.int .i64 0,.int .i64 0,.int .i64 0,.int .i64 0,.int .i64 0,.int .i64 0] 44))
 have HK:Hid (K9 (w.alloc (.cells #[.int .i64 0,.int .i64 0,.int .i64 0,.int .i64 0,.int .i64 0,.int .i64 0,.int .i64 0,.int .i64 0,.int .i64 0] 44)) w.heap.size zV):=K9.new w zV
 have H1:=hid (h1.reach HB.out)
 clear h1;unfold V.cells at HPU HWH;go_enter Tryz.func77,Tryz.ntmps77;go_upto_region 1 with (fail);have HS:Hid ((w.alloc (.cells #[.int .i64 0,.int .i64 0,.int .i64 0,.int .i64 0,.int .i64 0,.int .i64 0,.int .i64 0,.int .i64 0,.int .i64 0] 44)).heap.size=w.heap.size+1):=by show _=_; simp
 generalize w.alloc (.cells #[.int .i64 0,.int .i64 0,.int .i64 0,.int .i64 0,.int .i64 0,.int .i64 0,.int .i64 0,.int .i64 0,.int .i64 0] 44)=w1 at*;obtain ⟨⟨p0,p1⟩,p2,p3,p4,p5,p6,p7,p8⟩:=H1.out
 go_upto_region 2 with (fail);have HM:=hid (P9.new (Below.refl w1.heap.size w1) x)
 have HB2:=hid (bl_tr HB.out (b1 w1 (.cells #[.int .i64 x.num,.int .i64 x.den,.int .i64 x.dim.a,.int .i64 x.dim.b,.int .i64 x.dim.c,.int .i64 x.dim.d,.int .i64 x.dim.e,.int .i64 x.dim.f,.int .i64 x.dim.g] 44)))
 have HK2:=hid (HK.out.reach (b1 w1 (.cells #[.int .i64 x.num,.int .i64 x.den,.int .i64 x.dim.a,.int .i64 x.dim.b,.int .i64 x.dim.c,.int .i64 x.dim.d,.int .i64 x.dim.e,.int .i64 x.dim.f,.int .i64 x.dim.g] 44)))
 generalize w1.alloc (.cells #[.int .i64 x.num,.int .i64 x.den,.int .i64 x.dim.a,.int .i64 x.dim.b,.int .i64 x.dim.c,.int .i64 x.dim.d,.int .i64 x.dim.e,.int .i64 x.dim.f,.int .i64 x.dim.g] 44)=w2 at*;clear p0 p1 p2 p3 p4 p5 p6 p7 p8;obtain ⟨⟨⟨p0,p1⟩,p2,p3,p4,p5,p6,p7,p8⟩,_,_⟩:=HM.out.1.cells
 go_wp2_with fail;refine (HPU.out _).mono ?_
 rintro r w3 ⟨rfl,hb3⟩
 have HM3:=hid (HM.out.reach hb3)
 have HK3:=hid (HK2.out.reach hb3)
 have HB3:=hid (bl_tr HB2.out hb3)
 clear hb3 p0 p1 p2 p3 p4 p5 p6 p7 p8;obtain ⟨⟨⟨p0,p1⟩,p2,p3,p4,p5,p6,p7,p8⟩,_,_⟩:=HM3.out.1.cells
 obtain ⟨⟨⟨z0,z1⟩,z2,z3,z4,z5,z6,z7,z8⟩,zf,_⟩:=HK3.out.cells
 by_cases hd:x.dim=zD
 ·replace HE:=hid (HE.out.trans (if_pos hd))
  rw [decide_eq_true hd];clear hd;go_upto_region 4 with (fail);go_cut [26] (fun s26 wx=>s26=.bool (!decide (x.den=1∧0≤x.num∧x.num≤12))∧w3=wx)
  case first=>
   by_cases hn:x.den=1
   ·have hnb:(x.den != 1)=false:=by simpa using hn
    by_cases ha:x.num<0
    ·go_wp2_with fail
     go_meet
     case rel=>exact ⟨by rw [decide_eq_false (fun h=>by omega)]; rfl,rfl⟩
    ·by_cases hb:12<x.num
     ·go_wp2_with fail
      go_meet
      case rel=>exact ⟨by rw [decide_eq_false (fun h=>by omega)]; rfl,rfl⟩
     ·go_wp2_with fail
      go_meet
      case rel=>exact ⟨by rw [decide_eq_true ⟨hn,by omega,by omega⟩]; rfl,rfl⟩
   ·have hnb:(x.den != 1)=true:=by simpa using hn
    go_wp2_with fail;go_meet
    case rel=>exact ⟨by rw [decide_eq_false (fun h=>hn h.1)]; rfl,rfl⟩
  case rest=>
   obtain ⟨rfl,rfl⟩:=hcut
   by_cases hc:x.den=1∧0≤x.num∧x.num≤12
   ·replace HE:=hid (HE.out.trans (if_pos hc))
    rw [decide_eq_true hc];rw [show (!true)=false from rfl]
    obtain ⟨k,hk⟩:∃ k:Nat,x.num=k:=⟨x.num.toNat,by omega⟩
    have HK12:Hid (k≤12):=by show _≤_; omega
    rw [hk]at HE p0
    rw [Int.toNat_natCast]at HE
    clear hc hk HM HM3;go_wp2_with fail;go_loopg [5,6] 13 (fun gg s5 s6 wr=>∃ i:Nat,Aside (2≤i)∧Aside (i≤k+1∨i=2)∧13-i≤gg∧s5=.int .i64 (facN (i-1))∧s6=.int .i64 (i:Int)∧wr=w3)
    case atStart=>exact ⟨2,Nat.le_refl _,.inr rfl,by omega,rfl,rfl,rfl⟩
    case round=>
     obtain ⟨i,HI2,HIK,hgg,rfl,rfl,rfl⟩:=hrel
     by_cases hle:i≤k
     ·have hlez:(i:Int)≤k:=by omega
      have hf:=fac_succ i (by have:=HI2.out; omega)
      have hfs:=fac_small i (by have:=HK12.out; omega)
      have hw:IntKind.i64.wrap (facN (i-1)*(i:Int))=facN i:=by rw [hf]; exact wrap64_small (by omega) (by omega)
      clear hf hfs;go_wp2_with fail;go_roundg (12-i)
      case measure=>have:=HK12.out; omega
      case rel=>exact ⟨i+1,by show 2≤i+1; have:=HI2.out; omega,.inl (by omega),by omega,by rw [Nat.add_sub_cancel],by have h12:k≤12:=HK12.out; exact congrArg (Value.int .i64) ((IntWalk.wrap64_in _ (by omega)).trans (by omega)),rfl⟩
     ·have hlez:¬ (i:Int)≤k:=by omega
      have hfk:facN (i-1)=facN k:=by
       have h2:=HI2.out
       rcases HIK.out with h|h
       ·rw [show i-1=k from by omega]
       ·subst h
        rcases (show k=0∨k=1 by omega)with rfl|rfl<;>rfl
      rw [hfk];clear hfk;generalize facN k=F at*;go_wp2_with fail;refine (HWH.out _ _).mono ?_
      rintro r w4 ⟨rfl,hb4⟩
      have HK4:=hid (HK3.out.reach hb4)
      have HB4:=hid (bl_tr HB3.out hb4)
      clear hb4 z0 z1 z2 z3 z4 z5 z6 z7 z8 zf p0 p1 p2 p3 p4 p5 p6 p7 p8;obtain ⟨⟨⟨z0,z1⟩,z2,z3,z4,z5,z6,z7,z8⟩,zf,_⟩:=HK4.out.cells
      generalize whV F=u at*;go_wp2_with fail;rw [HE.out];refine bodyPost_ret (v:=.tuple #[.agg u.cells,.int .i64 0]) (by simp [results,Tryz.results77,go_sem,V.cells,z0,z1,z2,z3,z4,z5,z6,z7,z8]) rfl ⟨rfl,?_⟩
      exact below9 HB4.out (b:=w.heap.size) (Nat.le_refl _) u
   ·have HR:Hid (R=(zV,17)):=HE.out.trans (if_neg hc)
    rw [decide_eq_false hc];rw [show (!false)=true from rfl]
    go_wp2_with fail;rw [HR.out];refine bodyPost_ret (v:=.tuple #[.agg zV.cells,.int .i64 17]) (by simp [results,Tryz.results77,go_sem,V.cells,zV,zD,z0,z1,z2,z3,z4,z5,z6,z7,z8]) rfl ⟨rfl,?_⟩
    exact below9 HB3.out (b:=w.heap.size) (Nat.le_refl _) zV
 ·have HR:Hid (R=(zV,16)):=HE.out.trans (if_neg hd)
  rw [decide_eq_false hd];go_wp2_with fail;rw [HR.out];refine bodyPost_ret (v:=.tuple #[.agg zV.cells,.int .i64 16]) (by simp [results,Tryz.results77,go_sem,V.cells,zV,zD,z0,z1,z2,z3,z4,z5,z6,z7,z8]) rfl ⟨rfl,?_⟩
  exact below9 HB3.out (b:=w.heap.size) (Nat.le_refl _) zV
end Go.Proofs.YtknpigdpepmimaaGreatDoor
namespace Go.Proofs.YtknpigdpepmimaaGreatDoor
open Go.Lib(hid)
open Go.RowKit Go.Maps
theorem SV.two {w:World}{v:Value}{x y:V}(h:SV w v [x,y]):∃ b o c,v=.slice (some ⟨b,o,none⟩) 2 c∧C9 w b o x∧C9 w b (o+9) y:=by
 obtain ⟨A,c,h1,_,h3⟩:=h
 obtain ⟨b,o,rfl,hs⟩:=h3 (by simp)
 exact ⟨b,o,c,h1,by simpa using hs 0 (by simp),by simpa using hs 1 (by simp)⟩
theorem SV.one {w:World}{v:Value}{x:V}(h:SV w v [x]):∃ b o c,v=.slice (some ⟨b,o,none⟩) 1 c∧C9 w b o x:=by
 obtain ⟨A,c,h1,_,h3⟩:=h
 obtain ⟨b,o,rfl,hs⟩:=h3 (by simp)
 exact ⟨b,o,c,h1,by simpa using hs 0 (by simp)⟩
theorem len1 {l:List V}(h:l.length=1):∃ x,l=[x]:=by
 rcases l with _|⟨a,_|⟨b,l⟩⟩<;>simp at h
 exact ⟨a,rfl⟩
theorem len2 {l:List V}(h:l.length=2):∃ x y,l=[x,y]:=by
 rcases l with _|⟨a,_|⟨b,_|⟨d,l⟩⟩⟩<;>simp at h
 exact ⟨a,b,rfl⟩
theorem opOf_mem {n:W8}{ar k:Nat}(h:opOf n=some (ar,k)):(ar,k)=(2,0)∨(ar,k)=(2,1)∨(ar,k)=(1,2)∨(ar,k)=(1,3)∨(ar,k)=(2,4)∨(ar,k)=(2,5)∨(ar,k)=(2,6)∨(ar,k)=(1,7)∨(ar,k)=(1,8)∨(ar,k)=(1,9):=by
 have hm:∀ (L:List (W8 × Nat × Nat))(v:Nat × Nat),L.lookup n=some v→v∈L.map (·.2):=fun L v=>by
  induction L with
  | nil=>intro h; simp at h
  | cons q L ih=>
   intro h;rw [List.lookup_cons]at h
   cases hb:n == q.1 with
   | true=>rw [hb]at h; simp at h; simp [h]
   | false=>rw [hb]at h; simp [ih h]
 have:=hm opTab _ h
 simp only [opTab,List.map_cons,List.map_nil,List.mem_cons,List.not_mem_nil,or_false]at this
 rcases this with h|h|h|h|h|h|h|h|h|h|h|h|h|h|h<;>simp [h]
set_option maxHeartbeats 2000000 in
theorem opc_any {n:W8}{ar k:Nat}(h:opOf n=some (ar,k))(l:List V)(hl:l.length=ar)(hok:∀ x∈l,x.ok) (v:Value)(w:World)(hv:SV w v l):
  Calls Tryz.prog (68+k) #[v] w fun r w'=>r=.returned (.tuple #[.agg (opK k l).1.cells,.int .i64 (opK k l).2])∧Below w.heap.size w w':=by
 rcases opOf_mem h with h|h|h|h|h|h|h|h|h|h<;>(injection h with h1 h2; subst h1 h2)
 ·obtain ⟨x,y,rfl⟩:=len2 hl
  obtain ⟨b,o,c,rfl,c1,c2⟩:=hv.two
  exact sum_any x y (hok x (by simp)) (hok y (by simp)) b o c w c1 c2
 ·obtain ⟨x,y,rfl⟩:=len2 hl
  obtain ⟨b,o,c,rfl,c1,c2⟩:=hv.two
  exact dif_any x y (hok x (by simp)) (hok y (by simp)) b o c w c1 c2
 ·obtain ⟨x,rfl⟩:=len1 hl
  obtain ⟨b,o,c,rfl,c1⟩:=hv.one
  exact neg_any x (hok x (by simp)) b o c w c1
 ·obtain ⟨x,rfl⟩:=len1 hl
  obtain ⟨b,o,c,rfl,c1⟩:=hv.one
  exact sam_any x b o c w c1
 ·obtain ⟨x,y,rfl⟩:=len2 hl
  obtain ⟨b,o,c,rfl,c1,c2⟩:=hv.two
  exact pro_any x y (hok x (by simp)) (hok y (by simp)) b o c w c1 c2
 ·obtain ⟨x,y,rfl⟩:=len2 hl
  obtain ⟨b,o,c,rfl,c1,c2⟩:=hv.two
  exact quo_any x y (hok x (by simp)) (hok y (by simp)) b o c w c1 c2
 ·obtain ⟨x,y,rfl⟩:=len2 hl
  obtain ⟨b,o,c,rfl,c1,c2⟩:=hv.two
  exact pow_any' x y (hok x (by simp)) (hok y (by simp)) b o c w c1 c2
 ·obtain ⟨x,rfl⟩:=len1 hl
  obtain ⟨b,o,c,rfl,c1⟩:=hv.one
  exact roo_any x (hok x (by simp)) b o c w c1
 ·obtain ⟨x,rfl⟩:=len1 hl
  obtain ⟨b,o,c,rfl,c1⟩:=hv.one
  exact abs_any x (hok x (by simp)) b o c w c1
 ·obtain ⟨x,rfl⟩:=len1 hl
  obtain ⟨b,o,c,rfl,c1⟩:=hv.one
  exact fac_any x (hok x (by simp)) b o c w c1
end Go.Proofs.YtknpigdpepmimaaGreatDoor
namespace Go.Proofs.YtknpigdpepmimaaGreatDoor
open Go.Lib(hid)
theorem lk_cons (v:W8)(a:V)(s:Sc)(x:W8):lkR ((v,a)::s) x=if x=v then okR a else lkR s x:=by
 unfold lkR lookR;dsimp only
 rw [List.lookup_cons];by_cases h:x=v
 ·subst h; simp
 ·have:(x == v)=false:=by simpa using h
  rw [this,if_neg h]
theorem stepN_var (n:W8)(lk:R)(gs:List G)(hs:List (Int→G)) (c:Nat):stepN 2 n lk gs hs c=(lk,c):=rfl
theorem stepN_bind (n:W8)(lk:R)(gs:List G)(hs:List (Int→G)):stepN 5 n lk gs hs=bindG n gs hs:=rfl
theorem stepN_other {k:Int}(h2:k≠2)(h5:k≠5)(n:W8)(lk lk':R)(gs:List G)(hs hs':List (Int→G)):stepN k n lk gs hs=stepN k n lk' gs hs':=by
 funext c
 unfold stepN;rw [if_neg h2,if_neg h2,if_neg h5,if_neg h5]
theorem bindG_len {gs:List G}{hs:List (Int→G)}(h:gs.length≠3)(n:W8) (c:Nat):bindG n gs hs c=if n=sumW∨n=prodW then (erR 13,c)else (erR 15,c):=by
 unfold bindG;rcases gs with _|⟨a,_|⟨b,_|⟨d,_|⟨e,l⟩⟩⟩⟩
 ·rfl
 ·rfl
 ·rfl
 ·simp at h
 ·rfl
theorem bindG_three (n:W8)(a b d:G)(x y h:Int→G) (c:Nat):bindG n [a,b,d] [x,y,h] c=if n=sumW∨n=prodW then limG n h (argsG 0 [a,b] c [])else (erR 15,c):=rfl
theorem bindG_congr (n:W8)(a b d d':G)(x y h x' y':Int→G):bindG n [a,b,d] [x,y,h]=bindG n [a,b,d'] [x',y',h]:=by
 funext c; rw [bindG_three,bindG_three]
theorem three {α:Type}{l:List α}(h:l.length=3):∃ a b c,l=[a,b,c]:=by
 rcases l with _|⟨a,_|⟨b,_|⟨d,_|⟨e,l⟩⟩⟩⟩<;>simp at h
 exact ⟨a,b,d,rfl⟩
theorem bindG_far {gs gs':List G}{hs hs':List (Int→G)}(h:gs.length≠3)(h':gs'.length≠3)(n:W8):bindG n gs hs=bindG n gs' hs':=by
 funext c; rw [bindG_len h,bindG_len h']
theorem size_list {N:Nat}{t:T}(h:t.size≤N+1){u:T}(hu:u∈t.args):u.size≤N:=by have:=size_arg hu; omega
theorem ev_congr:∀ (N:Nat)(t:T),t.size≤N→∀ (s s':Sc),(∀ x∈frL t,lkR s x=lkR s' x)→ev t s=ev t s'
 | 0,t,h,_,_,_=>by have:=size_pos t; omega
 | N+1,t,h,s,s',hs=>by
  have ih:=fun (u:T)(hu:u∈t.args)=>ev_congr N u (size_list h hu)
  rw [ev_eq,ev_eq];by_cases h2:t.kind=2
  ·rw [h2]
   funext c
   rw [stepN_var,stepN_var,hs t.name ((mem_frL t).2 (.inl ⟨h2,rfl⟩))]
  ·have hs2:∀ x,inArgs t.kind t.var x t.args→lkR s x=lkR s' x:=fun x hx=>hs x ((mem_frL t).2 (.inr ⟨h2,hx⟩))
   by_cases h5:t.kind=5
   ·rw [h5,stepN_bind,stepN_bind]
    by_cases h3:t.args.length=3
    ·obtain ⟨a,b,e,hargs⟩:=three h3
     rw [hargs]at ih hs2 ⊢
     rw [h5]at hs2
     have hs3:∀ x,(x∈frL a∨x∈frL b∨(x∈frL e∧x≠t.var))→lkR s x=lkR s' x:=fun x hx=>hs2 x (by
      rw [inArgs,inArgs,inArgs];rcases hx with hx|hx|hx
      ·exact .inl ⟨hx,by simp⟩
      ·exact .inr (.inl ⟨hx,by simp⟩)
      ·exact .inr (.inr (.inl ⟨hx.1,fun h=>hx.2 h.2.2⟩)))
     rw [evs,evs,evs,evs,evh,evh,evh,evh,evs,evs,evs,evs,evh,evh,evh,evh];rw [ih a (by simp) s s' (fun x hx=>hs3 x (.inl hx)),ih b (by simp) s s' (fun x hx=>hs3 x (.inr (.inl hx)))]
     have hlast:(fun k=>ev e ((t.var,whV k)::s))=fun k=>ev e ((t.var,whV k)::s'):=by
      funext k
      refine ih e (by simp) _ _ (fun x hx=>?_)
      rw [lk_cons,lk_cons];by_cases hv:x=t.var
      ·rw [if_pos hv,if_pos hv]
      ·rw [if_neg hv,if_neg hv]; exact hs3 x (.inr (.inr ⟨hx,hv⟩))
     rw [hlast];exact bindG_congr _ _ _ _ _ _ _ _ _ _
    ·refine bindG_far ?_ ?_ _
     ·rw [evs_map,List.length_map]; exact h3
     ·rw [evs_map,List.length_map]; exact h3
   ·rw [stepN_other h2 h5 _ _ (lkR s' t.name) _ _ (evh t.args t.var s')]
    congr 1
    rw [evs_map,evs_map]
    have hin:∀ (ts:List T),(∀ u∈ts,u∈t.args)→(∀ x,inArgs t.kind t.var x ts→lkR s x=lkR s' x)→(ts.map fun t=>ev t s)=ts.map fun t=>ev t s':=by
     intro ts;induction ts with
     | nil=>intro _ _; rfl
     | cons u ts ih2=>
      intro hm hx;rw [List.map_cons,List.map_cons,ih2 (fun u hu=>hm u (List.mem_cons_of_mem _ hu)) (fun x h=>hx x (by rw [inArgs]; exact .inr h)),ih u (hm u List.mem_cons_self) s s' (fun x h=>hx x (by rw [inArgs]; exact .inl ⟨h,fun h=>h5 h.1⟩))]
    exact hin t.args (fun _ h=>h) hs2
theorem ownB_mk (k:Int)(n v:W8)(ys:List T)(f:W8):ownB (.mk k n v ys f)=(if k=1 then (v.isEmpty&&(f.isEmpty&&ys.isEmpty))&&numB n else if k=2 then (v.isEmpty&&(f.isEmpty&&ys.isEmpty))&&identB n else if k=3 then (v.isEmpty&&(f.isEmpty&&ys.isEmpty))&&(okS 32 n&&decide (n.length≤200))
  else if k=4 then (okS 33 f&&decide (f.length≤16))&&wordB n&&v.isEmpty else if k=5 then (okS 33 f&&decide (f.length≤16))&&wordB n&&identB v&&!ys.isEmpty else false):=rfl
end Go.Proofs.YtknpigdpepmimaaGreatDoor
namespace Go.Proofs.YtknpigdpepmimaaGreatDoor
open Go.Lib(hid)
open Go.RowKit Go.Maps
def KS (w:World) (b:Nat)(x:W8)(v:V) (q:Value):Prop:=w.heap[b]?=some (.cells #[.string ⟨x.toArray⟩,.int .i64 v.num,.int .i64 v.den,.int .i64 v.dim.a,.int .i64 v.dim.b,.int .i64 v.dim.c,.int .i64 v.dim.d,.int .i64 v.dim.e,.int .i64 v.dim.f,.int .i64 v.dim.g,q] 162 (0,0))
theorem KS.cells {w:World}{b:Nat}{x:W8}{v:V}{q:Value}(h:KS w b x v q):(w.cell? ⟨b,0,none⟩=some (.string ⟨x.toArray⟩)∧w.cell? ⟨b,10,none⟩=some q)∧C9 w b 1 v:=by
 unfold KS at h;refine ⟨⟨?_,?_⟩,⟨?_,?_⟩,?_,?_,?_,?_,?_,?_,?_⟩<;>simp [World.cell?,h]
def SCP (w:World)(S:Nat→Prop):Sc→Value→Prop
 | [],p=>p=.pointer none
 | (x,v)::s,p=>∃ b q,p=.pointer (some ⟨b,0,none⟩)∧S b∧x.length≤1000∧KS w b x v q∧SCP w S s q
theorem SCP.keep {w w':World}{S S':Nat→Prop}:∀ {s:Sc}{p:Value},SCP w S s p→(∀ k,S k→S' k∧w'.heap[k]?=w.heap[k]?)→SCP w' S' s p
 | [],_,h,_=>h
 | (_,_)::_,_,⟨b,q,h1,h2,h3,h4,h5⟩,hk=>⟨b,q,h1,(hk b h2).1,h3,(hk b h2).2.trans h4,h5.keep hk⟩
def EB (w:World)(xb nb ob:Nat) (c:Nat):Prop:=w.heap[xb]?=some (.cells #[.map (some nb),.map (some ob),.int .i64 (c:Nat)] 84 (0,0))
theorem EB.cells {w:World}{xb nb ob c:Nat}(h:EB w xb nb ob c):(w.cell? ⟨xb,0,none⟩=some (.map (some nb))∧w.cell? ⟨xb,1,none⟩=some (.map (some ob))∧w.cell? ⟨xb,2,none⟩=some (.int .i64 (c:Nat)))∧(∀ i,w.frozen? ⟨xb,i,none⟩=false)∧xb<w.heap.size:=by
 unfold EB at h;refine ⟨⟨?_,?_,?_⟩,fun i=>?_,(Array.getElem?_eq_some_iff.1 h).1⟩<;>simp [World.cell?,World.frozen?,h]
set_option maxRecDepth 100000 in
set_option maxHeartbeats 4000000 in
theorem variable_any (xb nb ob c:Nat)(E s:Sc)(S:Nat→Prop) (p:Value)(n:W8)(w:World)(he:EB w xb nb ob c)(hm:EnvM w nb E)(hs:SCP w S s p)(hS:∀ k,S k→k<w.heap.size)(hn:n.length≤1000)(hnb:nb<w.heap.size):
  Calls Tryz.prog 80 #[.pointer (some ⟨xb,0,none⟩),.string ⟨n.toArray⟩,p] w fun e w'=>e=.returned (.agg ((lkR (s++E) n).cells (.slice none 0 0)))∧Below w.heap.size w w':=by
 have HB:=hid (b1 w (.cells #[.int .i64 0,.int .i64 0,.int .i64 0,.int .i64 0,.int .i64 0,.int .i64 0,.int .i64 0,.int .i64 0,.int .i64 0,.slice none 0 0,.int .i64 0] 86))
 have HK:=hid (K11.zero w)
 have HSC:Hid (SCP (w.alloc (.cells #[.int .i64 0,.int .i64 0,.int .i64 0,.int .i64 0,.int .i64 0,.int .i64 0,.int .i64 0,.int .i64 0,.int .i64 0,.slice none 0 0,.int .i64 0] 86)) S s p):=hs.keep fun k hk=>⟨hk,HB.out.block k (hS k hk)⟩
 have HEB:Hid (EB (w.alloc (.cells #[.int .i64 0,.int .i64 0,.int .i64 0,.int .i64 0,.int .i64 0,.int .i64 0,.int .i64 0,.int .i64 0,.int .i64 0,.slice none 0 0,.int .i64 0] 86)) xb nb ob c):=(HB.out.block xb he.cells.2.2).trans he
 have HEM:Hid (EnvM (w.alloc (.cells #[.int .i64 0,.int .i64 0,.int .i64 0,.int .i64 0,.int .i64 0,.int .i64 0,.int .i64 0,.int .i64 0,.int .i64 0,.slice none 0 0,.int .i64 0] 86)) nb E):=hm.block (HB.out.block nb hnb)
 have HSZ:Hid ((w.alloc (.cells #[.int .i64 0,.int .i64 0,.int .i64 0,.int .i64 0,.int .i64 0,.int .i64 0,.int .i64 0,.int .i64 0,.int .i64 0,.slice none 0 0,.int .i64 0] 86)).heap.size=w.heap.size+1):=by show _=_; simp
 clear he hm hs hS hnb;generalize hR:lkR (s++E) n=Ru;have HR:=hid hR
 clear hR;go_enter Tryz.func80,Tryz.ntmps80;go_upto_region 1 with (fail);generalize w.alloc (.cells #[.int .i64 0,.int .i64 0,.int .i64 0,.int .i64 0,.int .i64 0,.int .i64 0,.int .i64 0,.int .i64 0,.int .i64 0,.slice none 0 0,.int .i64 0] 86)=w1 at*;go_loopg [2] (s.length+1) (fun gg s2 wr=>∃ (s':Sc) (p':Value),s'.length+1≤gg∧s2=p'∧Aside (SCP w1 S s' p')∧Aside (lkR (s'++E) n=Ru)∧wr=w1)
 case atStart=>exact ⟨s,p,Nat.le_refl _,rfl,HSC.out,HR.out,rfl⟩
 case round=>
  obtain ⟨s',p',hgg,rfl,HS,HL,rfl⟩:=hrel
  rcases s' with _|⟨⟨x,v⟩,s'⟩
  ·have hp:=HS.out
   change _=Value.pointer none at hp
   subst hp;go_upto_region 5 with (fail);have HLN:=hid (HEM.out.look n (by omega))
   obtain ⟨⟨e0,e1,e2⟩,_,_⟩:=HEB.out.cells
   have HRE:Hid (Ru=lkR E n):=HL.out.symm
   have hlook:=HLN.out
   unfold V.cells at hlook;unfold lkR lookR at HRE;dsimp only at HRE
   generalize E.lookup n=ol at*;cases ol with
   | none=>
    have HRE2:Hid (Ru=erR 11):=HRE.out
    dsimp only [Option.getD_none,Option.isSome_none]at hlook
    unfold zV zD at hlook;dsimp only at hlook
    have HBa:=hid (bl_tr HB.out (b1 wr (.cells #[.int .i64 0,.int .i64 0,.int .i64 0,.int .i64 0,.int .i64 0,.int .i64 0,.int .i64 0,.int .i64 0,.int .i64 0] 44)))
    have HK2:=hid (HK.out.reach (b1 wr (.cells #[.int .i64 0,.int .i64 0,.int .i64 0,.int .i64 0,.int .i64 0,.int .i64 0,.int .i64 0,.int .i64 0,.int .i64 0] 44)))
    have HKV:Hid (K9 (wr.alloc (.cells #[.int .i64 0,.int .i64 0,.int .i64 0,.int .i64 0,.int .i64 0,.int .i64 0,.int .i64 0,.int .i64 0,.int .i64 0] 44)) wr.heap.size zV):=K9.new wr zV
    go_upto_region 6 with (fail);generalize wr.alloc (.cells #[.int .i64 0,.int .i64 0,.int .i64 0,.int .i64 0,.int .i64 0,.int .i64 0,.int .i64 0,.int .i64 0,.int .i64 0] 44)=w2 at*;obtain ⟨⟨z0,z1,z2,z3,z4,z5,z6,z7,z8,z9,z10⟩,zf,_⟩:=HK2.out.cells
    obtain ⟨⟨⟨v0,v1⟩,v2,v3,v4,v5,v6,v7,v8⟩,_,_⟩:=HKV.out.cells
    go_wp2_with fail;rw [HRE2.out];refine bodyPost_ret (v:=.agg (R.cells (erR 11) (.slice none 0 0))) (by simp [results,Tryz.results80,go_sem,R.cells,erR,zV,zD,z0,z1,z2,z3,z4,z5,z6,z7,z8,z9,z10]) rfl ⟨rfl,below11 HBa.out (b:=w.heap.size) (Nat.le_refl _) (erR 11) (.slice none 0 0)⟩
   | some v=>
    have HRE2:Hid (Ru=okR v):=HRE.out
    dsimp only [Option.getD_some,Option.isSome_some]at hlook
    have HBa:=hid (bl_tr HB.out (b1 wr (.cells #[.int .i64 v.num,.int .i64 v.den,.int .i64 v.dim.a,.int .i64 v.dim.b,.int .i64 v.dim.c,.int .i64 v.dim.d,.int .i64 v.dim.e,.int .i64 v.dim.f,.int .i64 v.dim.g] 44)))
    have HK2:=hid (HK.out.reach (b1 wr (.cells #[.int .i64 v.num,.int .i64 v.den,.int .i64 v.dim.a,.int .i64 v.dim.b,.int .i64 v.dim.c,.int .i64 v.dim.d,.int .i64 v.dim.e,.int .i64 v.dim.f,.int .i64 v.dim.g] 44)))
    have HKV:Hid (K9 (wr.alloc (.cells #[.int .i64 v.num,.int .i64 v.den,.int .i64 v.dim.a,.int .i64 v.dim.b,.int .i64 v.dim.c,.int .i64 v.dim.d,.int .i64 v.dim.e,.int .i64 v.dim.f,.int .i64 v.dim.g] 44)) wr.heap.size v):=K9.new wr v
    go_upto_region 6 with (fail);generalize wr.alloc (.cells #[.int .i64 v.num,.int .i64 v.den,.int .i64 v.dim.a,.int .i64 v.dim.b,.int .i64 v.dim.c,.int .i64 v.dim.d,.int .i64 v.dim.e,.int .i64 v.dim.f,.int .i64 v.dim.g] 44)=w2 at*;obtain ⟨⟨z0,z1,z2,z3,z4,z5,z6,z7,z8,z9,z10⟩,zf,_⟩:=HK2.out.cells
    obtain ⟨⟨⟨v0,v1⟩,v2,v3,v4,v5,v6,v7,v8⟩,_,_⟩:=HKV.out.cells
    go_wp2_with fail;rw [HRE2.out];refine bodyPost_ret (v:=.agg (R.cells (okR v) (.slice none 0 0))) (by simp [results,Tryz.results80,go_sem,R.cells,okR,z0,z1,z2,z3,z4,z5,z6,z7,z8,z9,z10]) rfl ⟨rfl,below11 HBa.out (b:=w.heap.size) (Nat.le_refl _) (okR v) (.slice none 0 0)⟩
  ·obtain ⟨b,q,hp,_,hx,hks,hs⟩:=HS.out
   subst hp;have HSC2:=hid hs
   have HKS:=hid hks
   clear hs hks;obtain ⟨⟨k0,k10⟩,⟨c0,c1⟩,c2,c3,c4,c5,c6,c7,c8⟩:=HKS.out.cells
   have hle:=HL.out
   rw [List.cons_append,lk_cons]at hle
   by_cases hxn:n=x
   ·subst hxn
    rw [if_pos rfl]at hle
    have HRE:=hid hle
    obtain ⟨⟨z0,z1,z2,z3,z4,z5,z6,z7,z8,z9,z10⟩,zf,_⟩:=HK.out.cells
    clear hle;go_wp2_with fail;rw [← HRE.out];refine bodyPost_ret (v:=.agg (R.cells (okR v) (.slice none 0 0))) (by simp [results,Tryz.results80,go_sem,R.cells,okR,z0,z1,z2,z3,z4,z5,z6,z7,z8,z9,z10]) rfl ⟨rfl,below11 HB.out (b:=w.heap.size) (Nat.le_refl _) (okR v) (.slice none 0 0)⟩
   ·rw [if_neg hxn]at hle
    have HRE:=hid hle
    clear hle;have hb1:(x == n)=false:=by simpa using fun h=>hxn h.symm
    clear hxn;go_wp2_with fail;go_roundg (s'.length+1)
    case measure=>exact hgg
    case rel=>exact ⟨s',q,Nat.le_refl _,rfl,HSC2.out,HRE.out,rfl⟩
end Go.Proofs.YtknpigdpepmimaaGreatDoor
