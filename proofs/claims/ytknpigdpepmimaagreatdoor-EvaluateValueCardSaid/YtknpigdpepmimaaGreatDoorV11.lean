/- Contract of evaluate.difference 69. -/
import Derived.OrdersHeld
import Derived.Test.YtknpigdpepmimaaGreatDoorV01
import Derived.Test.YtknpigdpepmimaaGreatDoorV03
import Derived.Test.YtknpigdpepmimaaGreatDoorV07
namespace Go.Proofs.YtknpigdpepmimaaGreatDoor
open Go.Lib(hid)
open Go.RowKit
set_option maxRecDepth 100000 in
set_option maxHeartbeats 4000000 in
theorem dif_any (x y:V)(hx:x.ok)(hy:y.ok)(b o c:Nat)(w:World)(h1:C9 w b o x)(h2:C9 w b (o+9) y):Calls Tryz.prog 69 #[.slice (some ⟨b,o,none⟩) 2 c] w fun r w'=>r=.returned (.tuple #[.agg (difV x y).1.cells,.int .i64 (difV x y).2])∧Below w.heap.size w w':=by
 have HX:=hid hx.bnd
 have HY:=hid hy.bnd
 have HNX:=hid fun w=>number_val x w
 have HNY:=hid fun w=>number_val y w
 have HAD:=hid fun w=>Q.sub_any x.num x.den y.num y.den w HX.out.1 HX.out.2.1 HX.out.2.2.1 HX.out.2.2.2 HY.out.1 HY.out.2.1 HY.out.2.2.1 HY.out.2.2.2
 have HE:Hid (difV x y=if x.dim=y.dim then joinQ (Q.subQ x.num x.den y.num y.den) x.dim 0 else (zV,16)):=rfl
 generalize difV x y=R at*;unfold Q.Res.val at HAD;generalize Q.subQ x.num x.den y.num y.den=q at*;obtain ⟨qn,qd,qe⟩:=q
 have HJ:=hid fun w=>join_any qn qd qe x.dim 0 w
 clear hx hy HX HY;have HB:=hid (b1 w (.cells #[.int .i64 0,.int .i64 0,.int .i64 0,.int .i64 0,.int .i64 0,.int .i64 0,.int .i64 0,.int .i64 0,.int .i64 0] 44))
 have HK:Hid (K9 (w.alloc (.cells #[.int .i64 0,.int .i64 0,.int .i64 0,.int .i64 0,.int .i64 0,.int .i64 0,.int .i64 0,.int .i64 0,.int .i64 0] 44)) w.heap.size zV):=K9.new w zV
 have H1:=hid (h1.reach HB.out)
 have H2:=hid (h2.reach HB.out)
 have HL:=hid h1.lt
 clear h1 h2;unfold V.cells at HNX HNY;unfold Dm.cells at HJ;go_enter Tryz.func69,Tryz.ntmps69;go_upto_region 1 with (fail);have HS1:Hid ((w.alloc (.cells #[.int .i64 0,.int .i64 0,.int .i64 0,.int .i64 0,.int .i64 0,.int .i64 0,.int .i64 0,.int .i64 0,.int .i64 0] 44)).heap.size=w.heap.size+1):=by show _=_; simp
 generalize w.alloc (.cells #[.int .i64 0,.int .i64 0,.int .i64 0,.int .i64 0,.int .i64 0,.int .i64 0,.int .i64 0,.int .i64 0,.int .i64 0] 44)=w1 at*;go_cut [4,5] (fun s4 s5 wx=>∃ p q:Nat,s4=.pointer (some ⟨p,0,none⟩)∧s5=.pointer (some ⟨q,0,none⟩)∧Aside (P9 w1 wx p x)∧Aside (P9 w1 wx q y)∧Aside (Below w1.heap.size w1 wx))
 case first=>
  go_region_held_law (fun w'=>(w'.cell? ⟨b,o,none⟩=some (.int .i64 x.num)∧w'.cell? ⟨b,o+1,none⟩=some (.int .i64 x.den)∧w'.cell? ⟨b,o+2,none⟩=some (.int .i64 x.dim.a)∧w'.cell? ⟨b,o+3,none⟩=some (.int .i64 x.dim.b)∧w'.cell? ⟨b,o+4,none⟩=some (.int .i64 x.dim.c)∧w'.cell? ⟨b,o+5,none⟩=some (.int .i64 x.dim.d)∧w'.cell? ⟨b,o+6,none⟩=some (.int .i64 x.dim.e)∧w'.cell? ⟨b,o+7,none⟩=some (.int .i64 x.dim.f)∧w'.cell? ⟨b,o+8,none⟩=some (.int .i64 x.dim.g))∧(w'.cell? ⟨b,o+9,none⟩=some (.int .i64 y.num)∧w'.cell? ⟨b,o+9+1,none⟩=some (.int .i64 y.den)∧w'.cell? ⟨b,o+9+2,none⟩=some (.int .i64 y.dim.a)∧w'.cell? ⟨b,o+9+3,none⟩=some (.int .i64 y.dim.b)∧w'.cell? ⟨b,o+9+4,none⟩=some (.int .i64 y.dim.c)∧w'.cell? ⟨b,o+9+5,none⟩=some (.int .i64 y.dim.d)∧w'.cell? ⟨b,o+9+6,none⟩=some (.int .i64 y.dim.e)∧w'.cell? ⟨b,o+9+7,none⟩=some (.int .i64 y.dim.f)∧w'.cell? ⟨b,o+9+8,none⟩=some (.int .i64 y.dim.g))) ((refine S18 H1.out H2.out ?_; repeat (first|with_reducible exact Below.refl _ _|with_reducible apply bl_dr|with_reducible apply bl_al|with_reducible refine bl_st ?_ hk2 _|with_reducible refine bl_tr ?_ (by assumption)))) (fail)
  ·go_wp2_with fail
   go_meet
   case rel=>exact ⟨_,_,rfl,rfl,P9.dr ((P9.new (Below.refl _ _) x).reach (b1 _ _)),by have:=P9.new (b1 w1 (.cells x.cells 44)) y; rw [World.size_alloc]at this; exact this,bl_dr (b2 _ _ _)⟩
  ·go_wp2_with fail
   go_meet
   case rel=>exact ⟨_,_,rfl,rfl,by have:=P9.new (b1 w1 (.cells y.cells 44)) x; rw [World.size_alloc]at this; exact this,P9.dr ((P9.new (Below.refl _ _) y).reach (b1 _ _)),bl_dr (b2 _ _ _)⟩
 case rest=>
  obtain ⟨p,q,rfl,rfl,HP,HQ,HBc⟩:=hcut
  have HKc:=hid (HK.out.reach HBc.out)
  have HBw:=hid (HB.out.trans (HBc.out.mono HB.out.size))
  clear HB HK H1 H2;obtain ⟨⟨⟨p0,p1⟩,p2,p3,p4,p5,p6,p7,p8⟩,_,_⟩:=HP.out.1.cells
  obtain ⟨⟨⟨q0,q1⟩,q2,q3,q4,q5,q6,q7,q8⟩,_,_⟩:=HQ.out.1.cells
  obtain ⟨⟨⟨z0,z1⟩,z2,z3,z4,z5,z6,z7,z8⟩,zf,_⟩:=HKc.out.cells
  have hE:=fun w'=>eq42 x.dim y.dim w'
  by_cases hd:x.dim=y.dim
  ·have HR:Hid (R=joinQ ⟨qn,qd,qe⟩ x.dim 0):=HE.out.trans (if_pos hd)
   rw [decide_eq_true hd]at hE
   clear hd;go_upto_region 4 with (fail);clear z0 z1 z2 z3 z4 z5 z6 z7 z8 zf;go_cut [6,7] (fun s6 s7 wx=>∃ m:Nat,s6=.pointer (some ⟨m,0,none⟩)∧s7=.int .i64 qe∧Aside (P2 wc wx m qn qd)∧Aside (Below wc.heap.size wc wx))
   case first=>
    go_region_held_law (fun w'=>(w'.cell? ⟨p,0,none⟩=some (.int .i64 x.num)∧w'.cell? ⟨p,0+1,none⟩=some (.int .i64 x.den)∧w'.cell? ⟨p,0+2,none⟩=some (.int .i64 x.dim.a)∧w'.cell? ⟨p,0+3,none⟩=some (.int .i64 x.dim.b)∧w'.cell? ⟨p,0+4,none⟩=some (.int .i64 x.dim.c)∧w'.cell? ⟨p,0+5,none⟩=some (.int .i64 x.dim.d)∧w'.cell? ⟨p,0+6,none⟩=some (.int .i64 x.dim.e)∧w'.cell? ⟨p,0+7,none⟩=some (.int .i64 x.dim.f)∧w'.cell? ⟨p,0+8,none⟩=some (.int .i64 x.dim.g))∧(w'.cell? ⟨q,0,none⟩=some (.int .i64 y.num)∧w'.cell? ⟨q,0+1,none⟩=some (.int .i64 y.den)∧w'.cell? ⟨q,0+2,none⟩=some (.int .i64 y.dim.a)∧w'.cell? ⟨q,0+3,none⟩=some (.int .i64 y.dim.b)∧w'.cell? ⟨q,0+4,none⟩=some (.int .i64 y.dim.c)∧w'.cell? ⟨q,0+5,none⟩=some (.int .i64 y.dim.d)∧w'.cell? ⟨q,0+6,none⟩=some (.int .i64 y.dim.e)∧w'.cell? ⟨q,0+7,none⟩=some (.int .i64 y.dim.f)∧w'.cell? ⟨q,0+8,none⟩=some (.int .i64 y.dim.g))) ((refine T18 HP.out.1 HQ.out.1 ?_; repeat (first|with_reducible exact Below.refl _ _|with_reducible apply bl_dr|with_reducible apply bl_al|with_reducible refine bl_st ?_ hk2 _|with_reducible refine bl_tr ?_ (by assumption)))) (first|(go_at_call 49; (with_reducible refine (HNX.out _).mono ?_); rintro r wz ⟨rfl,hbz⟩; (first|(have hk:=P2.reach (P2.new (w0:=wc) (by show Below _ _ _; repeat (first|with_reducible exact Below.refl _ _|with_reducible apply bl_dr|with_reducible apply bl_al|with_reducible refine bl_st ?_ hk2 _|with_reducible refine bl_tr ?_ (by assumption))) 0 0) hbz; obtain ⟨⟨k0,k1⟩,kf,_⟩:=hk.1.cells; have hk2:=hk.2)|(have hk:=P2.reach (P2.dr (P2.new (w0:=wc) (by show Below _ _ _; repeat (first|with_reducible exact Below.refl _ _|with_reducible apply bl_dr|with_reducible apply bl_al|with_reducible refine bl_st ?_ hk2 _|with_reducible refine bl_tr ?_ (by assumption))) 0 0)) hbz; obtain ⟨⟨k0,k1⟩,kf,_⟩:=hk.1.cells; have hk2:=hk.2)|(have hk:=P2.reach (by assumption) hbz; obtain ⟨⟨k0,k1⟩,kf,_⟩:=hk.1.cells; have hk2:=hk.2)|skip))|(go_at_call 49; (with_reducible refine (HNY.out _).mono ?_); rintro r wz ⟨rfl,hbz⟩; (first|(have hk:=P2.reach (P2.new (w0:=wc) (by show Below _ _ _; repeat (first|with_reducible exact Below.refl _ _|with_reducible apply bl_dr|with_reducible apply bl_al|with_reducible refine bl_st ?_ hk2 _|with_reducible refine bl_tr ?_ (by assumption))) 0 0) hbz; obtain ⟨⟨k0,k1⟩,kf,_⟩:=hk.1.cells; have hk2:=hk.2)|(have hk:=P2.reach (P2.dr (P2.new (w0:=wc) (by show Below _ _ _; repeat (first|with_reducible exact Below.refl _ _|with_reducible apply bl_dr|with_reducible apply bl_al|with_reducible refine bl_st ?_ hk2 _|with_reducible refine bl_tr ?_ (by assumption))) 0 0)) hbz; obtain ⟨⟨k0,k1⟩,kf,_⟩:=hk.1.cells; have hk2:=hk.2)|(have hk:=P2.reach (by assumption) hbz; obtain ⟨⟨k0,k1⟩,kf,_⟩:=hk.1.cells; have hk2:=hk.2)|skip))|(go_at_call 118; (with_reducible refine (HAD.out _).mono ?_); rintro r wz ⟨rfl,hbz⟩; (first|(have hk:=P2.reach (P2.new (w0:=wc) (by show Below _ _ _; repeat (first|with_reducible exact Below.refl _ _|with_reducible apply bl_dr|with_reducible apply bl_al|with_reducible refine bl_st ?_ hk2 _|with_reducible refine bl_tr ?_ (by assumption))) 0 0) hbz; obtain ⟨⟨k0,k1⟩,kf,_⟩:=hk.1.cells; have hk2:=hk.2)|(have hk:=P2.reach (P2.dr (P2.new (w0:=wc) (by show Below _ _ _; repeat (first|with_reducible exact Below.refl _ _|with_reducible apply bl_dr|with_reducible apply bl_al|with_reducible refine bl_st ?_ hk2 _|with_reducible refine bl_tr ?_ (by assumption))) 0 0)) hbz; obtain ⟨⟨k0,k1⟩,kf,_⟩:=hk.1.cells; have hk2:=hk.2)|(have hk:=P2.reach (by assumption) hbz; obtain ⟨⟨k0,k1⟩,kf,_⟩:=hk.1.cells; have hk2:=hk.2)|skip)))
    all_goals
     go_wp2_with fail;go_meet
     case rel=>exact ⟨_,rfl,rfl,(by show P2 _ _ _ _ _; first|with_reducible exact P2.set hk _ _|with_reducible exact P2.new (by show Below _ _ _; repeat (first|with_reducible exact Below.refl _ _|with_reducible apply bl_dr|with_reducible apply bl_al|with_reducible refine bl_st ?_ hk2 _|with_reducible refine bl_tr ?_ (by assumption))) _ _|with_reducible exact P2.dr (P2.new (by show Below _ _ _; repeat (first|with_reducible exact Below.refl _ _|with_reducible apply bl_dr|with_reducible apply bl_al|with_reducible refine bl_st ?_ hk2 _|with_reducible refine bl_tr ?_ (by assumption))) _ _)),(by show Below _ _ _; repeat (first|with_reducible exact Below.refl _ _|with_reducible apply bl_dr|with_reducible apply bl_al|with_reducible refine bl_st ?_ hk2 _|with_reducible refine bl_tr ?_ (by assumption)))⟩
   case rest=>
    obtain ⟨m,rfl,rfl,HM,HBd⟩:=hcut
    rename World=>wd
    obtain ⟨⟨m0,m1⟩,_,_⟩:=HM.out.1.cells
    have HP2:=hid (HP.out.reach HBd.out)
    have HK2:=hid (HKc.out.reach HBd.out)
    have HBw2:=hid (HBw.out.trans (HBd.out.mono HBw.out.size))
    clear p0 p1 p2 p3 p4 p5 p6 p7 p8 q0 q1 q2 q3 q4 q5 q6 q7 q8;obtain ⟨⟨⟨p0,p1⟩,p2,p3,p4,p5,p6,p7,p8⟩,_,_⟩:=HP2.out.1.cells
    rw [← HR.out]at HJ
    go_wp2_with fail;refine (HJ.out _).mono ?_
    rintro r we ⟨rfl,hbe⟩
    have HK3:=hid (HK2.out.reach hbe)
    have HBw3:=hid (HBw2.out.trans (hbe.mono HBw2.out.size))
    clear hbe p0 p1 p2 p3 p4 p5 p6 p7 p8 m0 m1;obtain ⟨⟨⟨z0,z1⟩,z2,z3,z4,z5,z6,z7,z8⟩,zf,_⟩:=HK3.out.cells
    obtain ⟨jv,je⟩:=R
    unfold V.cells;go_wp2_with fail;refine bodyPost_ret (v:=.tuple #[.agg jv.cells,.int .i64 je]) (by simp [results,Tryz.results69,go_sem,V.cells,z0,z1,z2,z3,z4,z5,z6,z7,z8]) rfl ⟨rfl,?_⟩
    exact below9 HBw3.out (b:=w.heap.size) (Nat.le_refl _) jv
  ·have HR:Hid (R=(zV,16)):=HE.out.trans (if_neg hd)
   rw [decide_eq_false hd]at hE
   clear hd;go_wp2_with fail;rw [HR.out];refine bodyPost_ret (v:=.tuple #[.agg zV.cells,.int .i64 16]) (by simp [results,Tryz.results69,go_sem,V.cells,zV,zD,z0,z1,z2,z3,z4,z5,z6,z7,z8]) rfl ⟨rfl,?_⟩
   exact below9 HBw.out (b:=w.heap.size) (Nat.le_refl _) zV
set_option maxRecDepth 100000 in
set_option maxHeartbeats 4000000 in
theorem dmul_any (x y:Dm)(w:World):Calls Tryz.prog 120 #[.agg x.cells,.agg y.cells] w fun e w'=>e=.returned (.tuple #[.agg (combQ x y 1).1.cells,.int .i64 (combQ x y 1).2])∧Below w.heap.size w w':=by
 have HV:=hid (combine_any x y 1 (by omega))
 unfold Dm.cells at HV ⊢;obtain ⟨r,hr⟩:∃ r,r=(combQ x y 1).1:=⟨_,rfl⟩
 obtain ⟨e0,he⟩:∃ e,e=(combQ x y 1).2:=⟨_,rfl⟩
 rw [← hr,← he]at HV ⊢
 clear hr he;have hb1:Below w.heap.size w (w.alloc (.cells #[.int .i64 x.a,.int .i64 x.b,.int .i64 x.c,.int .i64 x.d,.int .i64 x.e,.int .i64 x.f,.int .i64 x.g] 42)):=(Below.refl _ _).alloc (Nat.le_refl _) _
 have hb2:Below w.heap.size w ((w.alloc (.cells #[.int .i64 x.a,.int .i64 x.b,.int .i64 x.c,.int .i64 x.d,.int .i64 x.e,.int .i64 x.f,.int .i64 x.g] 42)).alloc (.cells #[.int .i64 y.a,.int .i64 y.b,.int .i64 y.c,.int .i64 y.d,.int .i64 y.e,.int .i64 y.f,.int .i64 y.g] 42)):=hb1.alloc (by simp) _
 have hb3:Below w.heap.size w (((w.alloc (.cells #[.int .i64 x.a,.int .i64 x.b,.int .i64 x.c,.int .i64 x.d,.int .i64 x.e,.int .i64 x.f,.int .i64 x.g] 42)).alloc (.cells #[.int .i64 y.a,.int .i64 y.b,.int .i64 y.c,.int .i64 y.d,.int .i64 y.e,.int .i64 y.f,.int .i64 y.g] 42)).alloc (.cells #[.int .i64 0,.int .i64 0,.int .i64 0,.int .i64 0,.int .i64 0,.int .i64 0,.int .i64 0] 42)):=hb2.alloc (by simp; omega) _
 have hk1:K7 (((w.alloc (.cells #[.int .i64 x.a,.int .i64 x.b,.int .i64 x.c,.int .i64 x.d,.int .i64 x.e,.int .i64 x.f,.int .i64 x.g] 42)).alloc (.cells #[.int .i64 y.a,.int .i64 y.b,.int .i64 y.c,.int .i64 y.d,.int .i64 y.e,.int .i64 y.f,.int .i64 y.g] 42)).alloc (.cells #[.int .i64 0,.int .i64 0,.int .i64 0,.int .i64 0,.int .i64 0,.int .i64 0,.int .i64 0] 42)) w.heap.size x:=((K7.new w x).reach ((Below.refl _ _).alloc (Nat.le_refl _) _)).reach ((Below.refl _ _).alloc (Nat.le_refl _) _)
 have hk2:=(K7.new (w.alloc (.cells #[.int .i64 x.a,.int .i64 x.b,.int .i64 x.c,.int .i64 x.d,.int .i64 x.e,.int .i64 x.f,.int .i64 x.g] 42)) y).reach ((Below.refl _ _).alloc (Nat.le_refl _) (.cells #[.int .i64 0,.int .i64 0,.int .i64 0,.int .i64 0,.int .i64 0,.int .i64 0,.int .i64 0] 42))
 have hk3:=K7.new ((w.alloc (.cells #[.int .i64 x.a,.int .i64 x.b,.int .i64 x.c,.int .i64 x.d,.int .i64 x.e,.int .i64 x.f,.int .i64 x.g] 42)).alloc (.cells #[.int .i64 y.a,.int .i64 y.b,.int .i64 y.c,.int .i64 y.d,.int .i64 y.e,.int .i64 y.f,.int .i64 y.g] 42)) ⟨0,0,0,0,0,0,0⟩
 rw [World.size_alloc]at hk2
 rw [World.size_alloc,World.size_alloc]at hk3
 have hsz:(((w.alloc (.cells #[.int .i64 x.a,.int .i64 x.b,.int .i64 x.c,.int .i64 x.d,.int .i64 x.e,.int .i64 x.f,.int .i64 x.g] 42)).alloc (.cells #[.int .i64 y.a,.int .i64 y.b,.int .i64 y.c,.int .i64 y.d,.int .i64 y.e,.int .i64 y.f,.int .i64 y.g] 42)).alloc (.cells #[.int .i64 0,.int .i64 0,.int .i64 0,.int .i64 0,.int .i64 0,.int .i64 0,.int .i64 0] 42)).heap.size=w.heap.size+3:=by simp
 have HK1:=hid hk1
 have HK2:Hid (K7 (((w.alloc (.cells #[.int .i64 x.a,.int .i64 x.b,.int .i64 x.c,.int .i64 x.d,.int .i64 x.e,.int .i64 x.f,.int .i64 x.g] 42)).alloc (.cells #[.int .i64 y.a,.int .i64 y.b,.int .i64 y.c,.int .i64 y.d,.int .i64 y.e,.int .i64 y.f,.int .i64 y.g] 42)).alloc (.cells #[.int .i64 0,.int .i64 0,.int .i64 0,.int .i64 0,.int .i64 0,.int .i64 0,.int .i64 0] 42)) (w.heap.size+1) y):=hk2
 have HK3:Hid (K7 (((w.alloc (.cells #[.int .i64 x.a,.int .i64 x.b,.int .i64 x.c,.int .i64 x.d,.int .i64 x.e,.int .i64 x.f,.int .i64 x.g] 42)).alloc (.cells #[.int .i64 y.a,.int .i64 y.b,.int .i64 y.c,.int .i64 y.d,.int .i64 y.e,.int .i64 y.f,.int .i64 y.g] 42)).alloc (.cells #[.int .i64 0,.int .i64 0,.int .i64 0,.int .i64 0,.int .i64 0,.int .i64 0,.int .i64 0] 42)) (w.heap.size+1+1) ⟨0,0,0,0,0,0,0⟩):=hk3
 have HB3:=hid hb3
 clear hb1 hb2 hb3 hk1 hk2 hk3;go_enter Tryz.func120,Tryz.ntmps120;go_upto_region 1 with (fail);generalize ((w.alloc (.cells #[.int .i64 x.a,.int .i64 x.b,.int .i64 x.c,.int .i64 x.d,.int .i64 x.e,.int .i64 x.f,.int .i64 x.g] 42)).alloc (.cells #[.int .i64 y.a,.int .i64 y.b,.int .i64 y.c,.int .i64 y.d,.int .i64 y.e,.int .i64 y.f,.int .i64 y.g] 42)).alloc (.cells #[.int .i64 0,.int .i64 0,.int .i64 0,.int .i64 0,.int .i64 0,.int .i64 0,.int .i64 0] 42)=w1 at*
 obtain ⟨⟨p0,p1,p2,p3,p4,p5,p6⟩,_,_⟩:=HK1.out.cells
 obtain ⟨⟨q0,q1,q2,q3,q4,q5,q6⟩,_,_⟩:=HK2.out.cells
 go_wp2_with fail;refine (HV.out w1).mono ?_
 rintro e w2 ⟨rfl,hb2⟩
 have HB2:=hid hb2
 clear hb2 p0 p1 p2 p3 p4 p5 p6 q0 q1 q2 q3 q4 q5 q6;obtain ⟨⟨z0,z1,z2,z3,z4,z5,z6⟩,zf,_⟩:=(HK3.out.reach HB2.out).cells
 go_wp2_with fail;refine bodyPost_ret (v:=.tuple #[.agg (Dm.cells r),.int .i64 e0]) (by simp [results,Tryz.results120,go_sem,Dm.cells,z0,z1,z2,z3,z4,z5,z6]) rfl ⟨rfl,?_⟩
 exact below7 (B:=w.heap.size) (HB3.out.trans (HB2.out.mono (by omega))) (b:=w.heap.size+1+1) (by omega) r
set_option maxRecDepth 100000 in
set_option maxHeartbeats 4000000 in
theorem ddiv_any (x y:Dm)(w:World):Calls Tryz.prog 121 #[.agg x.cells,.agg y.cells] w fun e w'=>e=.returned (.tuple #[.agg (combQ x y (-1)).1.cells,.int .i64 (combQ x y (-1)).2])∧Below w.heap.size w w':=by
 have HV:=hid (combine_any x y (-1) (by omega))
 unfold Dm.cells at HV ⊢;obtain ⟨r,hr⟩:∃ r,r=(combQ x y (-1)).1:=⟨_,rfl⟩
 obtain ⟨e0,he⟩:∃ e,e=(combQ x y (-1)).2:=⟨_,rfl⟩
 rw [← hr,← he]at HV ⊢
 clear hr he;have hb1:Below w.heap.size w (w.alloc (.cells #[.int .i64 x.a,.int .i64 x.b,.int .i64 x.c,.int .i64 x.d,.int .i64 x.e,.int .i64 x.f,.int .i64 x.g] 42)):=(Below.refl _ _).alloc (Nat.le_refl _) _
 have hb2:Below w.heap.size w ((w.alloc (.cells #[.int .i64 x.a,.int .i64 x.b,.int .i64 x.c,.int .i64 x.d,.int .i64 x.e,.int .i64 x.f,.int .i64 x.g] 42)).alloc (.cells #[.int .i64 y.a,.int .i64 y.b,.int .i64 y.c,.int .i64 y.d,.int .i64 y.e,.int .i64 y.f,.int .i64 y.g] 42)):=hb1.alloc (by simp) _
 have hb3:Below w.heap.size w (((w.alloc (.cells #[.int .i64 x.a,.int .i64 x.b,.int .i64 x.c,.int .i64 x.d,.int .i64 x.e,.int .i64 x.f,.int .i64 x.g] 42)).alloc (.cells #[.int .i64 y.a,.int .i64 y.b,.int .i64 y.c,.int .i64 y.d,.int .i64 y.e,.int .i64 y.f,.int .i64 y.g] 42)).alloc (.cells #[.int .i64 0,.int .i64 0,.int .i64 0,.int .i64 0,.int .i64 0,.int .i64 0,.int .i64 0] 42)):=hb2.alloc (by simp; omega) _
 have hk1:K7 (((w.alloc (.cells #[.int .i64 x.a,.int .i64 x.b,.int .i64 x.c,.int .i64 x.d,.int .i64 x.e,.int .i64 x.f,.int .i64 x.g] 42)).alloc (.cells #[.int .i64 y.a,.int .i64 y.b,.int .i64 y.c,.int .i64 y.d,.int .i64 y.e,.int .i64 y.f,.int .i64 y.g] 42)).alloc (.cells #[.int .i64 0,.int .i64 0,.int .i64 0,.int .i64 0,.int .i64 0,.int .i64 0,.int .i64 0] 42)) w.heap.size x:=((K7.new w x).reach ((Below.refl _ _).alloc (Nat.le_refl _) _)).reach ((Below.refl _ _).alloc (Nat.le_refl _) _)
 have hk2:=(K7.new (w.alloc (.cells #[.int .i64 x.a,.int .i64 x.b,.int .i64 x.c,.int .i64 x.d,.int .i64 x.e,.int .i64 x.f,.int .i64 x.g] 42)) y).reach ((Below.refl _ _).alloc (Nat.le_refl _) (.cells #[.int .i64 0,.int .i64 0,.int .i64 0,.int .i64 0,.int .i64 0,.int .i64 0,.int .i64 0] 42))
 have hk3:=K7.new ((w.alloc (.cells #[.int .i64 x.a,.int .i64 x.b,.int .i64 x.c,.int .i64 x.d,.int .i64 x.e,.int .i64 x.f,.int .i64 x.g] 42)).alloc (.cells #[.int .i64 y.a,.int .i64 y.b,.int .i64 y.c,.int .i64 y.d,.int .i64 y.e,.int .i64 y.f,.int .i64 y.g] 42)) ⟨0,0,0,0,0,0,0⟩
 rw [World.size_alloc]at hk2
 rw [World.size_alloc,World.size_alloc]at hk3
 have hsz:(((w.alloc (.cells #[.int .i64 x.a,.int .i64 x.b,.int .i64 x.c,.int .i64 x.d,.int .i64 x.e,.int .i64 x.f,.int .i64 x.g] 42)).alloc (.cells #[.int .i64 y.a,.int .i64 y.b,.int .i64 y.c,.int .i64 y.d,.int .i64 y.e,.int .i64 y.f,.int .i64 y.g] 42)).alloc (.cells #[.int .i64 0,.int .i64 0,.int .i64 0,.int .i64 0,.int .i64 0,.int .i64 0,.int .i64 0] 42)).heap.size=w.heap.size+3:=by simp
 have HK1:=hid hk1
 have HK2:Hid (K7 (((w.alloc (.cells #[.int .i64 x.a,.int .i64 x.b,.int .i64 x.c,.int .i64 x.d,.int .i64 x.e,.int .i64 x.f,.int .i64 x.g] 42)).alloc (.cells #[.int .i64 y.a,.int .i64 y.b,.int .i64 y.c,.int .i64 y.d,.int .i64 y.e,.int .i64 y.f,.int .i64 y.g] 42)).alloc (.cells #[.int .i64 0,.int .i64 0,.int .i64 0,.int .i64 0,.int .i64 0,.int .i64 0,.int .i64 0] 42)) (w.heap.size+1) y):=hk2
 have HK3:Hid (K7 (((w.alloc (.cells #[.int .i64 x.a,.int .i64 x.b,.int .i64 x.c,.int .i64 x.d,.int .i64 x.e,.int .i64 x.f,.int .i64 x.g] 42)).alloc (.cells #[.int .i64 y.a,.int .i64 y.b,.int .i64 y.c,.int .i64 y.d,.int .i64 y.e,.int .i64 y.f,.int .i64 y.g] 42)).alloc (.cells #[.int .i64 0,.int .i64 0,.int .i64 0,.int .i64 0,.int .i64 0,.int .i64 0,.int .i64 0] 42)) (w.heap.size+1+1) ⟨0,0,0,0,0,0,0⟩):=hk3
 have HB3:=hid hb3
 clear hb1 hb2 hb3 hk1 hk2 hk3;go_enter Tryz.func121,Tryz.ntmps121;go_upto_region 1 with (fail);generalize ((w.alloc (.cells #[.int .i64 x.a,.int .i64 x.b,.int .i64 x.c,.int .i64 x.d,.int .i64 x.e,.int .i64 x.f,.int .i64 x.g] 42)).alloc (.cells #[.int .i64 y.a,.int .i64 y.b,.int .i64 y.c,.int .i64 y.d,.int .i64 y.e,.int .i64 y.f,.int .i64 y.g] 42)).alloc (.cells #[.int .i64 0,.int .i64 0,.int .i64 0,.int .i64 0,.int .i64 0,.int .i64 0,.int .i64 0] 42)=w1 at*
 obtain ⟨⟨p0,p1,p2,p3,p4,p5,p6⟩,_,_⟩:=HK1.out.cells
 obtain ⟨⟨q0,q1,q2,q3,q4,q5,q6⟩,_,_⟩:=HK2.out.cells
 go_wp2_with fail;refine (HV.out w1).mono ?_
 rintro e w2 ⟨rfl,hb2⟩
 have HB2:=hid hb2
 clear hb2 p0 p1 p2 p3 p4 p5 p6 q0 q1 q2 q3 q4 q5 q6;obtain ⟨⟨z0,z1,z2,z3,z4,z5,z6⟩,zf,_⟩:=(HK3.out.reach HB2.out).cells
 go_wp2_with fail;refine bodyPost_ret (v:=.tuple #[.agg (Dm.cells r),.int .i64 e0]) (by simp [results,Tryz.results121,go_sem,Dm.cells,z0,z1,z2,z3,z4,z5,z6]) rfl ⟨rfl,?_⟩
 exact below7 (B:=w.heap.size) (HB3.out.trans (HB2.out.mono (by omega))) (b:=w.heap.size+1+1) (by omega) r
set_option maxRecDepth 100000 in
set_option maxHeartbeats 4000000 in
theorem pro_any (x y:V)(hx:x.ok)(hy:y.ok)(b o c:Nat)(w:World)(h1:C9 w b o x)(h2:C9 w b (o+9) y):Calls Tryz.prog 72 #[.slice (some ⟨b,o,none⟩) 2 c] w fun r w'=>r=.returned (.tuple #[.agg (proV x y).1.cells,.int .i64 (proV x y).2])∧Below w.heap.size w w':=by
 have HX:=hid hx.bnd
 have HY:=hid hy.bnd
 have HNX:=hid fun w=>number_val x w
 have HNY:=hid fun w=>number_val y w
 have HAD:=hid fun w=>Q.mul_any x.num x.den y.num y.den w HX.out.1 HX.out.2.1 HX.out.2.2.1 HX.out.2.2.2 HY.out.1 HY.out.2.1 HY.out.2.2.1 HY.out.2.2.2
 have HDM:=hid fun w=>dmul_any x.dim y.dim w
 have HE:Hid (proV x y=joinQ (Q.mulQ x.num x.den y.num y.den) (combQ x.dim y.dim 1).1 (combQ x.dim y.dim 1).2):=rfl
 generalize proV x y=R at*;unfold Q.Res.val at HAD;generalize Q.mulQ x.num x.den y.num y.den=q at*;obtain ⟨qn,qd,qe⟩:=q
 generalize combQ x.dim y.dim 1=g at*;obtain ⟨gd,ge⟩:=g
 have HJ:=hid fun w=>join_any qn qd qe gd ge w
 clear hx hy HX HY;have HB:=hid (b1 w (.cells #[.int .i64 0,.int .i64 0,.int .i64 0,.int .i64 0,.int .i64 0,.int .i64 0,.int .i64 0,.int .i64 0,.int .i64 0] 44))
 have HK:Hid (K9 (w.alloc (.cells #[.int .i64 0,.int .i64 0,.int .i64 0,.int .i64 0,.int .i64 0,.int .i64 0,.int .i64 0,.int .i64 0,.int .i64 0] 44)) w.heap.size zV):=K9.new w zV
 have H1:=hid (h1.reach HB.out)
 have H2:=hid (h2.reach HB.out)
 clear h1 h2;unfold V.cells at HNX HNY;unfold Dm.cells at HJ HDM;go_enter Tryz.func72,Tryz.ntmps72;go_upto_region 1 with (fail);generalize w.alloc (.cells #[.int .i64 0,.int .i64 0,.int .i64 0,.int .i64 0,.int .i64 0,.int .i64 0,.int .i64 0,.int .i64 0,.int .i64 0] 44)=w1 at*;go_cut [4,5] (fun s4 s5 wx=>∃ m:Nat,s4=.pointer (some ⟨m,0,none⟩)∧s5=.int .i64 qe∧Aside (P2 w1 wx m qn qd)∧Aside (Below w1.heap.size w1 wx))
 case first=>
  go_region_held_law (fun w'=>(w'.cell? ⟨b,o,none⟩=some (.int .i64 x.num)∧w'.cell? ⟨b,o+1,none⟩=some (.int .i64 x.den)∧w'.cell? ⟨b,o+2,none⟩=some (.int .i64 x.dim.a)∧w'.cell? ⟨b,o+3,none⟩=some (.int .i64 x.dim.b)∧w'.cell? ⟨b,o+4,none⟩=some (.int .i64 x.dim.c)∧w'.cell? ⟨b,o+5,none⟩=some (.int .i64 x.dim.d)∧w'.cell? ⟨b,o+6,none⟩=some (.int .i64 x.dim.e)∧w'.cell? ⟨b,o+7,none⟩=some (.int .i64 x.dim.f)∧w'.cell? ⟨b,o+8,none⟩=some (.int .i64 x.dim.g))∧(w'.cell? ⟨b,o+9,none⟩=some (.int .i64 y.num)∧w'.cell? ⟨b,o+9+1,none⟩=some (.int .i64 y.den)∧w'.cell? ⟨b,o+9+2,none⟩=some (.int .i64 y.dim.a)∧w'.cell? ⟨b,o+9+3,none⟩=some (.int .i64 y.dim.b)∧w'.cell? ⟨b,o+9+4,none⟩=some (.int .i64 y.dim.c)∧w'.cell? ⟨b,o+9+5,none⟩=some (.int .i64 y.dim.d)∧w'.cell? ⟨b,o+9+6,none⟩=some (.int .i64 y.dim.e)∧w'.cell? ⟨b,o+9+7,none⟩=some (.int .i64 y.dim.f)∧w'.cell? ⟨b,o+9+8,none⟩=some (.int .i64 y.dim.g))) ((refine S18 H1.out H2.out ?_; repeat (first|with_reducible exact Below.refl _ _|with_reducible apply bl_dr|with_reducible apply bl_al|with_reducible refine bl_st ?_ hk2 _|with_reducible refine bl_tr ?_ (by assumption)))) (first|(go_at_call 49; (with_reducible refine (HNX.out _).mono ?_); rintro r wz ⟨rfl,hbz⟩; (first|(have hk:=P2.reach (P2.new (w0:=w1) (by show Below _ _ _; repeat (first|with_reducible exact Below.refl _ _|with_reducible apply bl_dr|with_reducible apply bl_al|with_reducible refine bl_st ?_ hk2 _|with_reducible refine bl_tr ?_ (by assumption))) 0 0) hbz; obtain ⟨⟨k0,k1⟩,kf,_⟩:=hk.1.cells; have hk2:=hk.2)|(have hk:=P2.reach (P2.dr (P2.new (w0:=w1) (by show Below _ _ _; repeat (first|with_reducible exact Below.refl _ _|with_reducible apply bl_dr|with_reducible apply bl_al|with_reducible refine bl_st ?_ hk2 _|with_reducible refine bl_tr ?_ (by assumption))) 0 0)) hbz; obtain ⟨⟨k0,k1⟩,kf,_⟩:=hk.1.cells; have hk2:=hk.2)|(have hk:=P2.reach (by assumption) hbz; obtain ⟨⟨k0,k1⟩,kf,_⟩:=hk.1.cells; have hk2:=hk.2)|skip))|(go_at_call 49; (with_reducible refine (HNY.out _).mono ?_); rintro r wz ⟨rfl,hbz⟩; (first|(have hk:=P2.reach (P2.new (w0:=w1) (by show Below _ _ _; repeat (first|with_reducible exact Below.refl _ _|with_reducible apply bl_dr|with_reducible apply bl_al|with_reducible refine bl_st ?_ hk2 _|with_reducible refine bl_tr ?_ (by assumption))) 0 0) hbz; obtain ⟨⟨k0,k1⟩,kf,_⟩:=hk.1.cells; have hk2:=hk.2)|(have hk:=P2.reach (P2.dr (P2.new (w0:=w1) (by show Below _ _ _; repeat (first|with_reducible exact Below.refl _ _|with_reducible apply bl_dr|with_reducible apply bl_al|with_reducible refine bl_st ?_ hk2 _|with_reducible refine bl_tr ?_ (by assumption))) 0 0)) hbz; obtain ⟨⟨k0,k1⟩,kf,_⟩:=hk.1.cells; have hk2:=hk.2)|(have hk:=P2.reach (by assumption) hbz; obtain ⟨⟨k0,k1⟩,kf,_⟩:=hk.1.cells; have hk2:=hk.2)|skip))|(go_at_call 45; (with_reducible refine (HAD.out _).mono ?_); rintro r wz ⟨rfl,hbz⟩; (first|(have hk:=P2.reach (P2.new (w0:=w1) (by show Below _ _ _; repeat (first|with_reducible exact Below.refl _ _|with_reducible apply bl_dr|with_reducible apply bl_al|with_reducible refine bl_st ?_ hk2 _|with_reducible refine bl_tr ?_ (by assumption))) 0 0) hbz; obtain ⟨⟨k0,k1⟩,kf,_⟩:=hk.1.cells; have hk2:=hk.2)|(have hk:=P2.reach (P2.dr (P2.new (w0:=w1) (by show Below _ _ _; repeat (first|with_reducible exact Below.refl _ _|with_reducible apply bl_dr|with_reducible apply bl_al|with_reducible refine bl_st ?_ hk2 _|with_reducible refine bl_tr ?_ (by assumption))) 0 0)) hbz; obtain ⟨⟨k0,k1⟩,kf,_⟩:=hk.1.cells; have hk2:=hk.2)|(have hk:=P2.reach (by assumption) hbz; obtain ⟨⟨k0,k1⟩,kf,_⟩:=hk.1.cells; have hk2:=hk.2)|skip)))
  all_goals
   go_wp2_with fail;go_meet
   case rel=>exact ⟨_,rfl,rfl,(by show P2 _ _ _ _ _; first|with_reducible exact P2.set hk _ _|with_reducible exact P2.new (by show Below _ _ _; repeat (first|with_reducible exact Below.refl _ _|with_reducible apply bl_dr|with_reducible apply bl_al|with_reducible refine bl_st ?_ hk2 _|with_reducible refine bl_tr ?_ (by assumption))) _ _|with_reducible exact P2.dr (P2.new (by show Below _ _ _; repeat (first|with_reducible exact Below.refl _ _|with_reducible apply bl_dr|with_reducible apply bl_al|with_reducible refine bl_st ?_ hk2 _|with_reducible refine bl_tr ?_ (by assumption))) _ _)),(by show Below _ _ _; repeat (first|with_reducible exact Below.refl _ _|with_reducible apply bl_dr|with_reducible apply bl_al|with_reducible refine bl_st ?_ hk2 _|with_reducible refine bl_tr ?_ (by assumption)))⟩
 case rest=>
  obtain ⟨m,rfl,rfl,HM,HBc⟩:=hcut
  rename World=>wd
  have H1d:=hid (H1.out.reach HBc.out)
  have H2d:=hid (H2.out.reach HBc.out)
  go_upto_region 2 with (fail);go_cut [6,7] (fun s6 s7 wx=>∃ m2:Nat,s6=.pointer (some ⟨m2,0,none⟩)∧s7=.int .i64 ge∧Aside (P7 wd wx m2 gd)∧Aside (Below wd.heap.size wd wx))
  case first=>
   go_region_held_law (fun w'=>(w'.cell? ⟨b,o,none⟩=some (.int .i64 x.num)∧w'.cell? ⟨b,o+1,none⟩=some (.int .i64 x.den)∧w'.cell? ⟨b,o+2,none⟩=some (.int .i64 x.dim.a)∧w'.cell? ⟨b,o+3,none⟩=some (.int .i64 x.dim.b)∧w'.cell? ⟨b,o+4,none⟩=some (.int .i64 x.dim.c)∧w'.cell? ⟨b,o+5,none⟩=some (.int .i64 x.dim.d)∧w'.cell? ⟨b,o+6,none⟩=some (.int .i64 x.dim.e)∧w'.cell? ⟨b,o+7,none⟩=some (.int .i64 x.dim.f)∧w'.cell? ⟨b,o+8,none⟩=some (.int .i64 x.dim.g))∧(w'.cell? ⟨b,o+9,none⟩=some (.int .i64 y.num)∧w'.cell? ⟨b,o+9+1,none⟩=some (.int .i64 y.den)∧w'.cell? ⟨b,o+9+2,none⟩=some (.int .i64 y.dim.a)∧w'.cell? ⟨b,o+9+3,none⟩=some (.int .i64 y.dim.b)∧w'.cell? ⟨b,o+9+4,none⟩=some (.int .i64 y.dim.c)∧w'.cell? ⟨b,o+9+5,none⟩=some (.int .i64 y.dim.d)∧w'.cell? ⟨b,o+9+6,none⟩=some (.int .i64 y.dim.e)∧w'.cell? ⟨b,o+9+7,none⟩=some (.int .i64 y.dim.f)∧w'.cell? ⟨b,o+9+8,none⟩=some (.int .i64 y.dim.g))) ((refine S18 H1d.out H2d.out ?_; repeat (first|with_reducible exact Below.refl _ _|with_reducible apply bl_dr|with_reducible apply bl_al|with_reducible refine bl_st ?_ hk2 _|with_reducible refine bl_tr ?_ (by assumption)))) (first|(go_at_call 120; (with_reducible refine (HDM.out _).mono ?_); rintro r wz ⟨rfl,hbz⟩; (first|(have hk:=P7.reach (P7.new (w0:=wd) (by show Below _ _ _; repeat (first|with_reducible exact Below.refl _ _|with_reducible apply bl_dr|with_reducible apply bl_al|with_reducible refine bl_st ?_ hk2 _|with_reducible refine bl_tr ?_ (by assumption))) zD) hbz; obtain ⟨⟨k0,k1,k2,k3,k4,k5,k6⟩,kf,_⟩:=hk.1.cells; have hk2:=hk.2)|(have hk:=P7.reach (P7.dr (P7.new (w0:=wd) (by show Below _ _ _; repeat (first|with_reducible exact Below.refl _ _|with_reducible apply bl_dr|with_reducible apply bl_al|with_reducible refine bl_st ?_ hk2 _|with_reducible refine bl_tr ?_ (by assumption))) zD)) hbz; obtain ⟨⟨k0,k1,k2,k3,k4,k5,k6⟩,kf,_⟩:=hk.1.cells; have hk2:=hk.2)|(have hk:=P7.reach (by assumption) hbz; obtain ⟨⟨k0,k1,k2,k3,k4,k5,k6⟩,kf,_⟩:=hk.1.cells; have hk2:=hk.2)|skip)))
   all_goals
    go_wp2_with fail;go_meet
    case rel=>exact ⟨_,rfl,rfl,(by show P7 _ _ _ _; first |  with_reducible exact P7.sets hk _|with_reducible exact P7.new (by show Below _ _ _; repeat (first|with_reducible exact Below.refl _ _|with_reducible apply bl_dr|with_reducible apply bl_al|with_reducible refine bl_st ?_ hk2 _|with_reducible refine bl_tr ?_ (by assumption))) _|with_reducible exact P7.dr (P7.new (by show Below _ _ _; repeat (first|with_reducible exact Below.refl _ _|with_reducible apply bl_dr|with_reducible apply bl_al|with_reducible refine bl_st ?_ hk2 _|with_reducible refine bl_tr ?_ (by assumption))) _)),(by show Below _ _ _; repeat (first|with_reducible exact Below.refl _ _|with_reducible apply bl_dr|with_reducible apply bl_al|with_reducible refine bl_st ?_ hk2 _|with_reducible refine bl_tr ?_ (by assumption)))⟩
  case rest=>
   obtain ⟨m2,rfl,rfl,HM2,HBe⟩:=hcut
   rename World=>we
   obtain ⟨⟨m0,m1⟩,_,_⟩:=(HM.out.reach HBe.out).1.cells
   obtain ⟨⟨p0,p1,p2,p3,p4,p5,p6⟩,_,_⟩:=HM2.out.1.cells
   have HK2:=hid ((HK.out.reach HBc.out).reach HBe.out)
   have HBw:=hid (bl_tr (bl_tr HB.out HBc.out) HBe.out)
   rw [← HE.out]at HJ
   go_wp2_with fail;refine (HJ.out _).mono ?_
   rintro r wf ⟨rfl,hbf⟩
   have HK3:=hid (HK2.out.reach hbf)
   have HBw3:=hid (bl_tr HBw.out hbf)
   clear hbf p0 p1 p2 p3 p4 p5 p6 m0 m1;obtain ⟨⟨⟨z0,z1⟩,z2,z3,z4,z5,z6,z7,z8⟩,zf,_⟩:=HK3.out.cells
   obtain ⟨jv,je⟩:=R
   unfold V.cells;go_wp2_with fail;refine bodyPost_ret (v:=.tuple #[.agg jv.cells,.int .i64 je]) (by simp [results,Tryz.results72,go_sem,V.cells,z0,z1,z2,z3,z4,z5,z6,z7,z8]) rfl ⟨rfl,?_⟩
   exact below9 HBw3.out (b:=w.heap.size) (Nat.le_refl _) jv
end Go.Proofs.YtknpigdpepmimaaGreatDoor
