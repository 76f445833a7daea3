/- Contract of evaluate.quotient 73. -/
import Derived.OrdersHeld
import Derived.Deep.LoopGhost
import Derived.Lib.BitFns
import Derived.WalkSmall
import Derived.Test.YtknpigdpepmimaaGreatDoorV02
import Derived.Test.YtknpigdpepmimaaGreatDoorV03
import Derived.Test.YtknpigdpepmimaaGreatDoorV04
import Derived.Test.YtknpigdpepmimaaGreatDoorV07
import Derived.Test.YtknpigdpepmimaaGreatDoorV11
namespace Go.Proofs.YtknpigdpepmimaaGreatDoor
open Go.Lib(hid)
open Go.RowKit
set_option maxRecDepth 100000 in
set_option maxHeartbeats 4000000 in
theorem quo_any (x y:V)(hx:x.ok)(hy:y.ok)(b o c:Nat)(w:World)(h1:C9 w b o x)(h2:C9 w b (o+9) y):Calls Tryz.prog 73 #[.slice (some ⟨b,o,none⟩) 2 c] w fun r w'=>r=.returned (.tuple #[.agg (quoV x y).1.cells,.int .i64 (quoV x y).2])∧Below w.heap.size w w':=by
 have HX:=hid hx.bnd
 have HY:=hid hy.bnd
 have HNX:=hid fun w=>number_val x w
 have HNY:=hid fun w=>number_val y w
 have HAD:=hid fun w=>Q.div_any x.num x.den y.num y.den w HX.out.1 HX.out.2.1 HX.out.2.2.1 HX.out.2.2.2 HY.out.1 HY.out.2.1 HY.out.2.2.1 HY.out.2.2.2
 have HDM:=hid fun w=>ddiv_any x.dim y.dim w
 have HE:Hid (quoV x y=if y.num=0 then (zV,10)else joinQ (Q.divQ x.num x.den y.num y.den) (combQ x.dim y.dim (-1)).1 (combQ x.dim y.dim (-1)).2):=rfl
 generalize quoV x y=R at*;unfold Q.Res.val at HAD;generalize Q.divQ x.num x.den y.num y.den=q at*;obtain ⟨qn,qd,qe⟩:=q
 generalize combQ x.dim y.dim (-1)=g at*;obtain ⟨gd,ge⟩:=g
 have HJ:=hid fun w=>join_any qn qd qe gd ge w
 clear hx hy HX HY;have HB:=hid (b1 w (.cells #[.int .i64 0,.int .i64 0,.int .i64 0,.int .i64 0,.int .i64 0,.int .i64 0,.int .i64 0,.int .i64 0,.int .i64 0] 44))
 have HK:Hid (K9 (w.alloc (.cells #[.int .i64 0,.int .i64 0,.int .i64 0,.int .i64 0,.int .i64 0,.int .i64 0,.int .i64 0,.int .i64 0,.int .i64 0] 44)) w.heap.size zV):=K9.new w zV
 have H1:=hid (h1.reach HB.out)
 have H2:=hid (h2.reach HB.out)
 clear h1 h2;unfold V.cells at HNX HNY;unfold Dm.cells at HJ HDM;go_enter Tryz.func73,Tryz.ntmps73;go_upto_region 1 with (fail);generalize w.alloc (.cells #[.int .i64 0,.int .i64 0,.int .i64 0,.int .i64 0,.int .i64 0,.int .i64 0,.int .i64 0,.int .i64 0,.int .i64 0] 44)=w1 at*;obtain ⟨⟨q0,q1⟩,q2,q3,q4,q5,q6,q7,q8⟩:=H2.out
 obtain ⟨⟨⟨z0,z1⟩,z2,z3,z4,z5,z6,z7,z8⟩,zf,_⟩:=HK.out.cells
 by_cases hz:y.num=0
 ·have HR:Hid (R=(zV,10)):=HE.out.trans (if_pos hz)
  rw [hz]at q0
  go_wp2_with fail;rw [HR.out];refine bodyPost_ret (v:=.tuple #[.agg zV.cells,.int .i64 10]) (by simp [results,Tryz.results73,go_sem,V.cells,zV,zD,z0,z1,z2,z3,z4,z5,z6,z7,z8]) rfl ⟨rfl,?_⟩
  exact below9 HB.out (b:=w.heap.size) (Nat.le_refl _) zV
 ·replace HE:Hid (R=joinQ ⟨qn,qd,qe⟩ gd ge):=HE.out.trans (if_neg hz)
  have hzb:(y.num == 0)=false:=by simpa using hz
  go_upto_region 3 with (fail);clear hz hzb q0 q1 q2 q3 q4 q5 q6 q7 q8 z0 z1 z2 z3 z4 z5 z6 z7 z8 zf;go_cut [4,5] (fun s4 s5 wx=>∃ m:Nat,s4=.pointer (some ⟨m,0,none⟩)∧s5=.int .i64 qe∧Aside (P2 w1 wx m qn qd)∧Aside (Below w1.heap.size w1 wx))
  case first=>
   go_region_held_law (fun w'=>(w'.cell? ⟨b,o,none⟩=some (.int .i64 x.num)∧w'.cell? ⟨b,o+1,none⟩=some (.int .i64 x.den)∧w'.cell? ⟨b,o+2,none⟩=some (.int .i64 x.dim.a)∧w'.cell? ⟨b,o+3,none⟩=some (.int .i64 x.dim.b)∧w'.cell? ⟨b,o+4,none⟩=some (.int .i64 x.dim.c)∧w'.cell? ⟨b,o+5,none⟩=some (.int .i64 x.dim.d)∧w'.cell? ⟨b,o+6,none⟩=some (.int .i64 x.dim.e)∧w'.cell? ⟨b,o+7,none⟩=some (.int .i64 x.dim.f)∧w'.cell? ⟨b,o+8,none⟩=some (.int .i64 x.dim.g))∧(w'.cell? ⟨b,o+9,none⟩=some (.int .i64 y.num)∧w'.cell? ⟨b,o+9+1,none⟩=some (.int .i64 y.den)∧w'.cell? ⟨b,o+9+2,none⟩=some (.int .i64 y.dim.a)∧w'.cell? ⟨b,o+9+3,none⟩=some (.int .i64 y.dim.b)∧w'.cell? ⟨b,o+9+4,none⟩=some (.int .i64 y.dim.c)∧w'.cell? ⟨b,o+9+5,none⟩=some (.int .i64 y.dim.d)∧w'.cell? ⟨b,o+9+6,none⟩=some (.int .i64 y.dim.e)∧w'.cell? ⟨b,o+9+7,none⟩=some (.int .i64 y.dim.f)∧w'.cell? ⟨b,o+9+8,none⟩=some (.int .i64 y.dim.g))) ((refine S18 H1.out H2.out ?_; repeat (first|with_reducible exact Below.refl _ _|with_reducible apply bl_dr|with_reducible apply bl_al|with_reducible refine bl_st ?_ hk2 _|with_reducible refine bl_tr ?_ (by assumption)))) (first|(go_at_call 49; (with_reducible refine (HNX.out _).mono ?_); rintro r wz ⟨rfl,hbz⟩; (first|(have hk:=P2.reach (P2.new (w0:=w1) (by show Below _ _ _; repeat (first|with_reducible exact Below.refl _ _|with_reducible apply bl_dr|with_reducible apply bl_al|with_reducible refine bl_st ?_ hk2 _|with_reducible refine bl_tr ?_ (by assumption))) 0 0) hbz; obtain ⟨⟨k0,k1⟩,kf,_⟩:=hk.1.cells; have hk2:=hk.2)|(have hk:=P2.reach (P2.dr (P2.new (w0:=w1) (by show Below _ _ _; repeat (first|with_reducible exact Below.refl _ _|with_reducible apply bl_dr|with_reducible apply bl_al|with_reducible refine bl_st ?_ hk2 _|with_reducible refine bl_tr ?_ (by assumption))) 0 0)) hbz; obtain ⟨⟨k0,k1⟩,kf,_⟩:=hk.1.cells; have hk2:=hk.2)|(have hk:=P2.reach (by assumption) hbz; obtain ⟨⟨k0,k1⟩,kf,_⟩:=hk.1.cells; have hk2:=hk.2)|skip))|(go_at_call 49; (with_reducible refine (HNY.out _).mono ?_); rintro r wz ⟨rfl,hbz⟩; (first|(have hk:=P2.reach (P2.new (w0:=w1) (by show Below _ _ _; repeat (first|with_reducible exact Below.refl _ _|with_reducible apply bl_dr|with_reducible apply bl_al|with_reducible refine bl_st ?_ hk2 _|with_reducible refine bl_tr ?_ (by assumption))) 0 0) hbz; obtain ⟨⟨k0,k1⟩,kf,_⟩:=hk.1.cells; have hk2:=hk.2)|(have hk:=P2.reach (P2.dr (P2.new (w0:=w1) (by show Below _ _ _; repeat (first|with_reducible exact Below.refl _ _|with_reducible apply bl_dr|with_reducible apply bl_al|with_reducible refine bl_st ?_ hk2 _|with_reducible refine bl_tr ?_ (by assumption))) 0 0)) hbz; obtain ⟨⟨k0,k1⟩,kf,_⟩:=hk.1.cells; have hk2:=hk.2)|(have hk:=P2.reach (by assumption) hbz; obtain ⟨⟨k0,k1⟩,kf,_⟩:=hk.1.cells; have hk2:=hk.2)|skip))|(go_at_call 46; (with_reducible refine (HAD.out _).mono ?_); rintro r wz ⟨rfl,hbz⟩; (first|(have hk:=P2.reach (P2.new (w0:=w1) (by show Below _ _ _; repeat (first|with_reducible exact Below.refl _ _|with_reducible apply bl_dr|with_reducible apply bl_al|with_reducible refine bl_st ?_ hk2 _|with_reducible refine bl_tr ?_ (by assumption))) 0 0) hbz; obtain ⟨⟨k0,k1⟩,kf,_⟩:=hk.1.cells; have hk2:=hk.2)|(have hk:=P2.reach (P2.dr (P2.new (w0:=w1) (by show Below _ _ _; repeat (first|with_reducible exact Below.refl _ _|with_reducible apply bl_dr|with_reducible apply bl_al|with_reducible refine bl_st ?_ hk2 _|with_reducible refine bl_tr ?_ (by assumption))) 0 0)) hbz; obtain ⟨⟨k0,k1⟩,kf,_⟩:=hk.1.cells; have hk2:=hk.2)|(have hk:=P2.reach (by assumption) hbz; obtain ⟨⟨k0,k1⟩,kf,_⟩:=hk.1.cells; have hk2:=hk.2)|skip)))
   all_goals
    go_wp2_with fail;go_meet
    case rel=>exact ⟨_,rfl,rfl,(by show P2 _ _ _ _ _; first|with_reducible exact P2.set hk _ _|with_reducible exact P2.new (by show Below _ _ _; repeat (first|with_reducible exact Below.refl _ _|with_reducible apply bl_dr|with_reducible apply bl_al|with_reducible refine bl_st ?_ hk2 _|with_reducible refine bl_tr ?_ (by assumption))) _ _|with_reducible exact P2.dr (P2.new (by show Below _ _ _; repeat (first|with_reducible exact Below.refl _ _|with_reducible apply bl_dr|with_reducible apply bl_al|with_reducible refine bl_st ?_ hk2 _|with_reducible refine bl_tr ?_ (by assumption))) _ _)),(by show Below _ _ _; repeat (first|with_reducible exact Below.refl _ _|with_reducible apply bl_dr|with_reducible apply bl_al|with_reducible refine bl_st ?_ hk2 _|with_reducible refine bl_tr ?_ (by assumption)))⟩
  case rest=>
   obtain ⟨m,rfl,rfl,HM,HBc⟩:=hcut
   rename World=>wd
   have H1d:=hid (H1.out.reach HBc.out)
   have H2d:=hid (H2.out.reach HBc.out)
   go_upto_region 4 with (fail);go_cut [6,7] (fun s6 s7 wx=>∃ m2:Nat,s6=.pointer (some ⟨m2,0,none⟩)∧s7=.int .i64 ge∧Aside (P7 wd wx m2 gd)∧Aside (Below wd.heap.size wd wx))
   case first=>
    go_region_held_law (fun w'=>(w'.cell? ⟨b,o,none⟩=some (.int .i64 x.num)∧w'.cell? ⟨b,o+1,none⟩=some (.int .i64 x.den)∧w'.cell? ⟨b,o+2,none⟩=some (.int .i64 x.dim.a)∧w'.cell? ⟨b,o+3,none⟩=some (.int .i64 x.dim.b)∧w'.cell? ⟨b,o+4,none⟩=some (.int .i64 x.dim.c)∧w'.cell? ⟨b,o+5,none⟩=some (.int .i64 x.dim.d)∧w'.cell? ⟨b,o+6,none⟩=some (.int .i64 x.dim.e)∧w'.cell? ⟨b,o+7,none⟩=some (.int .i64 x.dim.f)∧w'.cell? ⟨b,o+8,none⟩=some (.int .i64 x.dim.g))∧(w'.cell? ⟨b,o+9,none⟩=some (.int .i64 y.num)∧w'.cell? ⟨b,o+9+1,none⟩=some (.int .i64 y.den)∧w'.cell? ⟨b,o+9+2,none⟩=some (.int .i64 y.dim.a)∧w'.cell? ⟨b,o+9+3,none⟩=some (.int .i64 y.dim.b)∧w'.cell? ⟨b,o+9+4,none⟩=some (.int .i64 y.dim.c)∧w'.cell? ⟨b,o+9+5,none⟩=some (.int .i64 y.dim.d)∧w'.cell? ⟨b,o+9+6,none⟩=some (.int .i64 y.dim.e)∧w'.cell? ⟨b,o+9+7,none⟩=some (.int .i64 y.dim.f)∧w'.cell? ⟨b,o+9+8,none⟩=some (.int .i64 y.dim.g))) ((refine S18 H1d.out H2d.out ?_; repeat (first|with_reducible exact Below.refl _ _|with_reducible apply bl_dr|with_reducible apply bl_al|with_reducible refine bl_st ?_ hk2 _|with_reducible refine bl_tr ?_ (by assumption)))) (first|(go_at_call 121; (with_reducible refine (HDM.out _).mono ?_); rintro r wz ⟨rfl,hbz⟩; (first|(have hk:=P7.reach (P7.new (w0:=wd) (by show Below _ _ _; repeat (first|with_reducible exact Below.refl _ _|with_reducible apply bl_dr|with_reducible apply bl_al|with_reducible refine bl_st ?_ hk2 _|with_reducible refine bl_tr ?_ (by assumption))) zD) hbz; obtain ⟨⟨k0,k1,k2,k3,k4,k5,k6⟩,kf,_⟩:=hk.1.cells; have hk2:=hk.2)|(have hk:=P7.reach (P7.dr (P7.new (w0:=wd) (by show Below _ _ _; repeat (first|with_reducible exact Below.refl _ _|with_reducible apply bl_dr|with_reducible apply bl_al|with_reducible refine bl_st ?_ hk2 _|with_reducible refine bl_tr ?_ (by assumption))) zD)) hbz; obtain ⟨⟨k0,k1,k2,k3,k4,k5,k6⟩,kf,_⟩:=hk.1.cells; have hk2:=hk.2)|(have hk:=P7.reach (by assumption) hbz; obtain ⟨⟨k0,k1,k2,k3,k4,k5,k6⟩,kf,_⟩:=hk.1.cells; have hk2:=hk.2)|skip)))
    all_goals
     go_wp2_with fail;go_meet
     case rel=>exact ⟨_,rfl,rfl,(by show P7 _ _ _ _; first |  with_reducible exact P7.sets hk _|with_reducible exact P7.new (by show Below _ _ _; repeat (first|with_reducible exact Below.refl _ _|with_reducible apply bl_dr|with_reducible apply bl_al|with_reducible refine bl_st ?_ hk2 _|with_reducible refine bl_tr ?_ (by assumption))) _|with_reducible exact P7.dr (P7.new (by show Below _ _ _; repeat (first|with_reducible exact Below.refl _ _|with_reducible apply bl_dr|with_reducible apply bl_al|with_reducible refine bl_st ?_ hk2 _|with_reducible refine bl_tr ?_ (by assumption))) _)),(by show Below _ _ _; repeat (first|with_reducible exact Below.refl _ _|with_reducible apply bl_dr|with_reducible apply bl_al|with_reducible refine bl_st ?_ hk2 _|with_reducible refine bl_tr ?_ (by assumption)))⟩
   case rest=>
    obtain ⟨m2,rfl,rfl,HM2,HBe⟩:=hcut
    rename World=>we
    obtain ⟨⟨m0,m1⟩,_,_⟩:=(HM.out.reach HBe.out).1.cells
    obtain ⟨⟨p0,p1,p2,p3,p4,p5,p6⟩,_,_⟩:=HM2.out.1.cells
    have HK2:=hid ((HK.out.reach HBc.out).reach HBe.out)
    have HBw:=hid (bl_tr (bl_tr HB.out HBc.out) HBe.out)
    rw [← HE.out]at HJ
    go_wp2_with fail;refine (HJ.out _).mono ?_
    rintro r wf ⟨rfl,hbf⟩
    have HK3:=hid (HK2.out.reach hbf)
    have HBw3:=hid (bl_tr HBw.out hbf)
    clear hbf p0 p1 p2 p3 p4 p5 p6 m0 m1;obtain ⟨⟨⟨z0,z1⟩,z2,z3,z4,z5,z6,z7,z8⟩,zf,_⟩:=HK3.out.cells
    obtain ⟨jv,je⟩:=R
    unfold V.cells;go_wp2_with fail;refine bodyPost_ret (v:=.tuple #[.agg jv.cells,.int .i64 je]) (by simp [results,Tryz.results73,go_sem,V.cells,z0,z1,z2,z3,z4,z5,z6,z7,z8]) rfl ⟨rfl,?_⟩
    exact below9 HBw3.out (b:=w.heap.size) (Nat.le_refl _) jv
end Go.Proofs.YtknpigdpepmimaaGreatDoor
namespace Go.Proofs.YtknpigdpepmimaaGreatDoor.Q
open Go.Lib(hid)
open Go.RowKit
theorem bitLenAux_gt:∀ (f x:Nat),x<2 ^ f→x<2 ^ (Lib.bitLenAux f x)
 | 0,x,h=>by simpa [Lib.bitLenAux]using h
 | f+1,x,h=>by
  unfold Lib.bitLenAux;split
  ·rename_i h0; have:x=0:=by simpa using h0
   subst this; simp
  ·have:=bitLenAux_gt f (x / 2) (by rw [Nat.pow_succ]at h; omega)
   rw [Nat.pow_add,Nat.pow_one]; omega
theorem bitLen_gt (x:Nat)(h:x<2 ^ 64):x / 2 ^ (Lib.bitLen x)=0:=Nat.div_eq_of_lt (bitLenAux_gt 64 x h)
theorem bit_of (E m:Nat)(hE:E≤9223372036854775808):bits BinOp.and IntKind.u64 ((E:Int) / 2 ^ m) 1=(((E / 2 ^ m) % 2:Nat):Int):=by
 have e:((E:Int) / 2 ^ m)=((E / 2 ^ m:Nat):Int):=by simp
 have hl:E / 2 ^ m≤E:=Nat.div_le_self _ _
 rw [e];generalize E / 2 ^ m=q at hl ⊢;rw [and_one_u64 _ (by omega) (by omega)]
 omega
section
variable {w:World}{b:Nat}{v0 v1:Value}
theorem Two.other (h:Two w b v0 v1)(c i:Nat) (u:Value)(_hne:b≠c):Two (w.setCell ⟨c,i,none⟩ u) b v0 v1:=by
 exact ⟨by simp [go_sem,h.c0],by simp [go_sem,h.c1],fun j=>by simp [h.fr],by simpa using h.lt⟩
theorem Two.set (h:Two w b v0 v1)(x y:Value):Two ((w.setCell ⟨b,0,none⟩ x).setCell ⟨b,1,none⟩ y) b x y:=
 ⟨by simp [go_sem,h.c0],by simp [go_sem,h.c1],fun j=>by simp [h.fr],by simpa using h.lt⟩
theorem Two.others (h:Two w b v0 v1) (c:Nat)(x y:Value)(hne:b≠c):Two ((w.setCell ⟨c,0,none⟩ x).setCell ⟨c,1,none⟩ y) b v0 v1:=(h.other c 0 x hne).other c 1 y hne
end
set_option maxHeartbeats 1000000 in
theorem pow_early (a b n:Int)(w:World)(ha:-9223372036854775808≤a)(hA:a≤9223372036854775807)(hb:-9223372036854775808≤b)(hB:b≤9223372036854775807)(h:validQ a b=false):
  Calls Tryz.prog 44 #[.agg #[.int .i64 a,.int .i64 b],.int .i64 n] w fun e w'=>e=.returned (powQ a b n).val∧Below w.heap.size w w':=by
 have HQ:=hid (powQ_arg (n:=n) h)
 have HV:=hid h
 have HR:=hid (Two.new1 w (.cells #[.int .i64 a,.int .i64 b] 57) (.int .i64 0) (.int .i64 0) 57)
 have H3:Hid (Below w.heap.size w ((w.alloc (.cells #[.int .i64 a,.int .i64 b] 57)).alloc (.cells #[.int .i64 0,.int .i64 0] 57))):=hid (((Below.refl _ _).alloc (Nat.le_refl _) _).alloc (by simp) _)
 clear h;go_enter Tryz.func44,Tryz.ntmps44;go_wp2_with fail;refine (valid_any a b _ ha hA hb hB).mono ?_
 rw [HV.out];rintro e w1 ⟨rfl,hb1⟩
 obtain ⟨r0,r1,rf,rlt⟩:=HR.out.below hb1
 have HB1:=hid (H3.out.trans (hb1.mono H3.out.size))
 clear hb1;go_wp2
 refine bodyPost_ret (v:=.tuple #[.agg #[.int .i64 0,.int .i64 0],.int .i64 1]) (by simp [results,Tryz.results44,go_sem,r0,r1]) rfl ⟨?_,?_⟩
 ·rw [HQ.out]; rfl
 ·exact (HB1.out.setCell (by simp) _).setCell (by simp) _
set_option maxHeartbeats 1000000 in
theorem pow_zero_neg (b n:Int)(w:World)(hb:-9223372036854775808≤b)(hB:b≤9223372036854775807)(h:validQ 0 b=true)(hn:n<0):
  Calls Tryz.prog 44 #[.agg #[.int .i64 0,.int .i64 b],.int .i64 n] w fun e w'=>e=.returned (powQ 0 b n).val∧Below w.heap.size w w':=by
 have HQ:=hid (powQ_zero h hn)
 have HV:=hid h
 have HX:=hid ((Two.new w (.int .i64 0) (.int .i64 b) 57).alloc (.cells #[.int .i64 0,.int .i64 0] 57))
 have HR:=hid (Two.new1 w (.cells #[.int .i64 0,.int .i64 b] 57) (.int .i64 0) (.int .i64 0) 57)
 have H3:Hid (Below w.heap.size w ((w.alloc (.cells #[.int .i64 0,.int .i64 b] 57)).alloc (.cells #[.int .i64 0,.int .i64 0] 57))):=hid (((Below.refl _ _).alloc (Nat.le_refl _) _).alloc (by simp) _)
 clear h;go_enter Tryz.func44,Tryz.ntmps44;go_wp2_with fail;refine (valid_any 0 b _ (by omega) (by omega) hb hB).mono ?_
 rw [HV.out];rintro e w1 ⟨rfl,hb1⟩
 obtain ⟨r0,r1,rf,rlt⟩:=HR.out.below hb1
 obtain ⟨x0,x1,_,_⟩:=HX.out.below hb1
 have HB1:=hid (H3.out.trans (hb1.mono H3.out.size))
 clear hb1;go_wp2
 refine bodyPost_ret (v:=.tuple #[.agg #[.int .i64 0,.int .i64 0],.int .i64 10]) (by simp [results,Tryz.results44,go_sem,r0,r1]) rfl ⟨?_,?_⟩
 ·rw [HQ.out]; rfl
 ·exact (HB1.out.setCell (by simp) _).setCell (by simp) _
set_option maxRecDepth 100000 in
set_option maxHeartbeats 2000000 in
theorem pow_loop (a b n:Int)(w:World)(hn:-9223372036854775808≤n)(hN:n≤9223372036854775807)(h:validQ a b=true)(h0:¬ (a=0∧n<0)):
  Calls Tryz.prog 44 #[.agg #[.int .i64 a,.int .i64 b],.int .i64 n] w fun e w'=>e=.returned (powQ a b n).val∧Below w.heap.size w w':=by
 have HV:=hid h
 obtain ⟨v1,v2,v3,v4,_⟩:=(valid_iff a b).1 h
 have HX:=hid ((Two.new w (.int .i64 a) (.int .i64 b) 57).alloc (.cells #[.int .i64 0,.int .i64 0] 57))
 have HR:=hid (Two.new1 w (.cells #[.int .i64 a,.int .i64 b] 57) (.int .i64 0) (.int .i64 0) 57)
 have H3:Hid (Below w.heap.size w ((w.alloc (.cells #[.int .i64 a,.int .i64 b] 57)).alloc (.cells #[.int .i64 0,.int .i64 0] 57))):=hid (((Below.refl _ _).alloc (Nat.le_refl _) _).alloc (by simp) _)
 have H0:=hid h0
 have hg:(a == 0)=false∨((a == 0)=true∧decide (n<0)=false):=by
  by_cases ha0:a=0
  ·right; exact ⟨by simpa using ha0,by simp; exact Int.not_lt.1 fun hh=>h0 ⟨ha0,hh⟩⟩
  ·left; simpa using ha0
 have HG:=hid hg
 clear h h0 hg;obtain ⟨E,hE⟩:∃ E,E=n.natAbs:=⟨_,rfl⟩
 have hE64:E≤9223372036854775808:=by omega
 have HE:=hid hE
 have hbl:Lib.bitLen E≤64:=Lib.bitLen_le E 64 (Nat.le_refl _) (by omega)
 have HS:=hid (bitLen_gt E (by omega))
 clear hE;go_enter Tryz.func44,Tryz.ntmps44;go_wp2_with fail;refine (valid_any a b _ (by omega) (by omega) (by omega) (by omega)).mono ?_
 rw [HV.out];rintro e w1 ⟨rfl,hb1⟩
 have HR1:=hid (HR.out.below hb1)
 have HX1:=hid (HX.out.below hb1)
 have HB1:=hid (H3.out.trans (hb1.mono H3.out.size))
 clear hb1 HR HX H3;obtain ⟨x0,x1,_,xl⟩:=HX1.out
 have hs1:=HB1.out.size
 have rl:=HR1.out.lt
 have HM:Hid (∀ W,Calls Tryz.prog 86 #[.int .i64 n] W fun e w'=>e=.returned (.int .u64 (E:Nat))∧W=w'):=fun W=>by have:=magnitude_any n W hn hN; rwa [← HE.out]at this
 rcases HG.out with hg|⟨hg,hg'⟩
 all_goals
  go_wp2_with fail;refine (HM.out _).mono ?_
  rintro e w2 ⟨rfl,rfl⟩
  go_wp2_with fail;refine (Tryz.bits_Len64 (E:Int) _ (by omega) (by omega)).mono ?_
  rw [show ((E:Int).toNat)=E from rfl]
  rintro e w2 ⟨rfl,rfl⟩
  go_wp2_with fail;have HX2:=hid (HX1.out.alloc (.cells #[.int .i64 1,.int .i64 1] 57))
  have HR2:=hid (HR1.out.alloc (.cells #[.int .i64 1,.int .i64 1] 57))
  have HY2:=hid (Two.new w1 (.int .i64 1) (.int .i64 1) 57)
  have HB2:=hid (HB1.out.alloc hs1 (.cells #[.int .i64 1,.int .i64 1] 57))
  have n1:w.heap.size≠w1.heap.size:=by omega
  have n2:w.heap.size+1≠w1.heap.size:=by omega
  have n3:w.heap.size+1<w1.heap.size:=by omega
  clear HX1 HR1 HB1 x0 x1;go_loopg [8,9] 65 (fun gg s8 _ wr=>∃ (j:Nat)(ii yn yd:Int),j≤gg∧s8=.int .i64 ii∧Aside (j≤64∧ii=(j:Int)-1)∧Aside (Below w.heap.size w wr)∧Aside (Two wr w.heap.size (.int .i64 a) (.int .i64 b))∧Aside (Two wr (w.heap.size+1) (.int .i64 0) (.int .i64 0))∧Aside (Two wr w1.heap.size (.int .i64 yn) (.int .i64 yd))∧Aside (yn=a ^ (E / 2 ^ j)∧yd=b ^ (E / 2 ^ j)∧fitB yn yd=true))
  case atStart=>exact ⟨Lib.bitLen E,_,1,1,by omega,rfl,⟨hbl,rfl⟩,HB2.out,HX2.out,HR2.out,HY2.out,by rw [HS.out]; exact ⟨by simp,by simp,by decide⟩⟩
  case round=>
   obtain ⟨j,ii,yn,yd,hjg,rfl,HI,HBr,HXr,HRr,HYr,HP⟩:=hrel
   clear HX2 HR2 HY2 HB2;have hyb:=(fit_iff yn yd).1 HP.out.2.2
   have hyd:1≤yd:=by rw [HP.out.2.1]; exact pow_pos' v1 _
   rcases Nat.eq_zero_or_pos j with hj|hj
   ·obtain rfl:ii=-1:=by have:=HI.out.2; omega
    have HP0:Hid (yn=a ^ E∧yd=b ^ E∧fitB yn yd=true):=by
     have:=HP.out; rw [hj,Nat.pow_zero,Nat.div_one]at this; exact this
    clear HI HP hj;obtain ⟨y0,y1,_,_⟩:=HYr.out
    obtain ⟨r0,r1,rf,rlt⟩:=HRr.out
    by_cases hng:n<0
    ·have HQ:Hid (mk yd yn=powQ a b n):=by
      show mk yd yn=powQ a b n
      have ha0:a≠0:=fun e=>H0.out ⟨e,hng⟩
      rw [powQ_neg HV.out hng ha0,← HE.out,HP0.out.1,HP0.out.2.1];exact inv_pow HV.out ha0 (by rw [← HP0.out.1,← HP0.out.2.1]; exact HP0.out.2.2)
     go_wp2_with fail;refine (make_any yd yn _ (by omega) (by omega) (by omega) (by omega)).mono ?_
     rw [HQ.out];rintro e w5 ⟨rfl,hb5⟩
     have HB5:=hid (HBr.out.trans (hb5.mono HBr.out.size))
     obtain ⟨q0,q1,qf,qlt⟩:=HRr.out.below hb5
     clear hb5 r0 r1 rf rlt y0 y1;obtain ⟨r,hr⟩:∃ r,r=powQ a b n:=⟨_,rfl⟩
     rw [← hr];have HRm:=hid hr
     clear hr;obtain ⟨rn,rd,re⟩:=r
     simp only [Res.val];go_wp2
     refine bodyPost_ret (v:=.tuple #[.agg #[.int .i64 rn,.int .i64 rd],.int .i64 re]) (by simp [results,Tryz.results44,go_sem,q0,q1]) rfl ⟨?_,?_⟩
     ·rw [← HRm.out]; rfl
     ·exact (HB5.out.setCell (by simp) _).setCell (by simp) _
    ·have HQ:Hid (powQ a b n=⟨yn,yd,0⟩):=by
      show powQ a b n=_
      rw [powQ_pos HV.out hng,← HE.out,HP0.out.1,HP0.out.2.1];exact powN_ok (by rw [← HP0.out.1,← HP0.out.2.1]; exact HP0.out.2.2)
     go_wp2
     refine bodyPost_ret (v:=.tuple #[.agg #[.int .i64 yn,.int .i64 yd],.int .i64 0]) (by simp [results,Tryz.results44,go_sem,r0,r1]) rfl ⟨?_,?_⟩
     ·rw [HQ.out]; rfl
     ·exact (HBr.out.setCell (by simp) _).setCell (by simp) _
   ·obtain ⟨m,rfl⟩:∃ m,j=m+1:=⟨j-1,by omega⟩
    have hm64:m<64:=by have:=HI.out.1; omega
    obtain rfl:ii=(m:Int):=by have:=HI.out.2; omega
    obtain ⟨p,hp⟩:∃ p,p=E / 2 ^ (m+1):=⟨_,rfl⟩
    obtain ⟨q,hq⟩:∃ q,q=E / 2 ^ m:=⟨_,rfl⟩
    have hpq:p=q / 2:=by rw [hp,hq,Nat.div_div_eq_div_mul,Nat.pow_succ]
    have hqE:q≤E:=by rw [hq]; exact Nat.div_le_self _ _
    have HPp:Hid (yn=a ^ p∧yd=b ^ p∧fitB yn yd=true):=by have:=HP.out; rw [← hp]at this; exact this
    have HM1:Hid (mulQ yn yd yn yd=powN a b (p+p)):=by
     have h3:=HPp.out.2.2
     show mulQ yn yd yn yd=_
     rw [HPp.out.1,HPp.out.2.1]at h3 ⊢
     exact mul_pow HV.out h3 h3
    have HQ:=hid hq
    have HPQ:=hid hpq
    clear hp hq hpq HI HP hj;obtain ⟨y0,y1,yf,yl⟩:=HYr.out
    go_wp2_with fail;refine (mul_any yn yd yn yd _ (by omega) (by omega) (by omega) (by omega) (by omega) (by omega) (by omega) (by omega)).mono ?_
    rw [HM1.out];cases hf:fitB (a ^ (p+p)) (b ^ (p+p)) with
    | false=>
     have HF:Hid (powQ a b n=⟨0,0,2⟩):=powQ_far HV.out H0.out (i:=p+p) (by have:=HPQ.out; have:=HE.out; omega) hf
     rw [powN_bad hf];clear hf;simp only [Res.val];rintro e w5 ⟨rfl,hb5⟩
     have HB5:=hid (HBr.out.trans (hb5.mono HBr.out.size))
     obtain ⟨q0,q1,qf,qlt⟩:=HRr.out.below hb5
     obtain ⟨z0,z1,zf,zlt⟩:=HYr.out.below hb5
     clear hb5 y0 y1 yf yl;go_wp2
     refine bodyPost_ret (v:=.tuple #[.agg #[.int .i64 0,.int .i64 0],.int .i64 2]) (by simp [results,Tryz.results44,go_sem,q0,q1]) rfl ⟨?_,?_⟩
     ·rw [HF.out]; rfl
     ·exact (((HB5.out.setCell (by simp; omega) _).setCell (by simp; omega) _).setCell (by simp) _).setCell (by simp) _
    | true=>
     rw [powN_ok hf];have hzb:=(fit_iff _ _).1 hf
     have hzd:1≤b ^ (p+p):=pow_pos' v1 _
     obtain ⟨zn,hzn⟩:∃ zn,zn=a ^ (p+p):=⟨_,rfl⟩
     obtain ⟨zd,hzdd⟩:∃ zd,zd=b ^ (p+p):=⟨_,rfl⟩
     rw [← hzn,← hzdd]at hf hzb
     rw [← hzdd]at hzd
     rw [← hzn,← hzdd];have HZ:=hid (And.intro hzn (And.intro hzdd hf))
     clear hzn hzdd hf;simp only [Res.val];rintro e w5 ⟨rfl,hb5⟩
     have HB5:=hid (((HBr.out.trans (hb5.mono HBr.out.size)).setCell (p:=⟨w1.heap.size,0,none⟩) (by simp; omega) (.int .i64 zn)).setCell (p:=⟨w1.heap.size,1,none⟩) (by simp; omega) (.int .i64 zd))
     have HX5:=hid ((HXr.out.below hb5).others w1.heap.size (.int .i64 zn) (.int .i64 zd) n1)
     have HR5:=hid ((HRr.out.below hb5).others w1.heap.size (.int .i64 zn) (.int .i64 zd) n2)
     have HY5:=hid ((HYr.out.below hb5).set (.int .i64 zn) (.int .i64 zd))
     obtain ⟨z0,z1,zf,zlt⟩:=HYr.out.below hb5
     obtain ⟨x0,x1,_,_⟩:=HXr.out.below hb5
     clear hb5 y0 y1 yf yl;rcases Nat.mod_two_eq_zero_or_one q with hq2|hq2
     ·have hbit:(bits BinOp.and IntKind.u64 ((E:Int) / 2 ^ m) 1 == 0)=true:=by rw [bit_of E m hE64,← HQ.out,hq2]; rfl
      have HN:Hid (zn=a ^ (E / 2 ^ m)∧zd=b ^ (E / 2 ^ m)∧fitB zn zd=true):=by
       have:=HZ.out
       rw [show p+p=E / 2 ^ m from by rw [← HQ.out,HPQ.out]; omega]at this
       exact this
      clear hq2;go_wp2_with fail;go_roundg m
      case measure=>omega
      case rel=>exact ⟨m,_,zn,zd,by omega,rfl,⟨by omega,rfl⟩,HB5.out,HX5.out,HR5.out,HY5.out,HN.out⟩
     ·have hbit:(bits BinOp.and IntKind.u64 ((E:Int) / 2 ^ m) 1 == 0)=false:=by rw [bit_of E m hE64,← HQ.out,hq2]; rfl
      have HM2:Hid (mulQ zn zd a b=powN a b (p+p+1)):=by
       have h3:=HZ.out.2.2
       show mulQ zn zd a b=_
       rw [HZ.out.1,HZ.out.2.1]at h3 ⊢
       exact mul_pow1 HV.out h3
      have hq3:p+p+1=q:=by have:=HPQ.out; omega
      have HQ3:=hid hq3
      clear hq2 hq3;have hs5:=HB5.out.size
      go_wp2_with fail;refine (mul_any zn zd a b _ (by omega) (by omega) (by omega) (by omega) (by omega) (by omega) (by omega) (by omega)).mono ?_
      rw [HM2.out];cases hf:fitB (a ^ (p+p+1)) (b ^ (p+p+1)) with
      | false=>
       have HF:Hid (powQ a b n=⟨0,0,2⟩):=powQ_far HV.out H0.out (i:=p+p+1) (by have:=HQ3.out; have:=HE.out; omega) hf
       rw [powN_bad hf];clear hf;simp only [Res.val];rintro e w7 ⟨rfl,hb7⟩
       have HB7:=hid (HB5.out.trans (hb7.mono HB5.out.size))
       obtain ⟨q0,q1,qf,qlt⟩:=HR5.out.below hb7
       have HZ7:=hid (HY5.out.below hb7)
       clear hb7 x0 x1 z0 z1 zf zlt;obtain ⟨z0,z1,zf,zlt⟩:=HZ7.out
       go_wp2
       refine bodyPost_ret (v:=.tuple #[.agg #[.int .i64 0,.int .i64 0],.int .i64 2]) (by simp [results,Tryz.results44,go_sem,q0,q1]) rfl ⟨?_,?_⟩
       ·rw [HF.out]; rfl
       ·exact (((HB7.out.setCell (by simp; omega) _).setCell (by simp; omega) _).setCell (by simp) _).setCell (by simp) _
      | true=>
       rw [powN_ok hf];have hub:=(fit_iff _ _).1 hf
       have hud:1≤b ^ (p+p+1):=pow_pos' v1 _
       obtain ⟨un,hun⟩:∃ un,un=a ^ (p+p+1):=⟨_,rfl⟩
       obtain ⟨ud,hudd⟩:∃ ud,ud=b ^ (p+p+1):=⟨_,rfl⟩
       rw [← hun,← hudd]at hf hub
       rw [← hudd]at hud
       rw [← hun,← hudd]
       have HN:Hid (un=a ^ (E / 2 ^ m)∧ud=b ^ (E / 2 ^ m)∧fitB un ud=true):=by
        have:=And.intro hun (And.intro hudd hf)
        rw [HQ3.out,HQ.out]at this
        exact this
       clear hun hudd hf;simp only [Res.val];rintro e w7 ⟨rfl,hb7⟩
       have HB7:=hid (((HB5.out.trans (hb7.mono HB5.out.size)).setCell (p:=⟨w1.heap.size,0,none⟩) (by simp; omega) (.int .i64 un)).setCell (p:=⟨w1.heap.size,1,none⟩) (by simp; omega) (.int .i64 ud))
       have HX7:=hid ((HX5.out.below hb7).others w1.heap.size (.int .i64 un) (.int .i64 ud) n1)
       have HR7:=hid ((HR5.out.below hb7).others w1.heap.size (.int .i64 un) (.int .i64 ud) n2)
       have HY7:=hid ((HY5.out.below hb7).set (.int .i64 un) (.int .i64 ud))
       have HZ7:=hid (HY5.out.below hb7)
       clear hb7 x0 x1 z0 z1 zf zlt;obtain ⟨z0,z1,zf,zlt⟩:=HZ7.out
       go_wp2_with fail;go_roundg m
       case measure=>omega
       case rel=>exact ⟨m,_,un,ud,by omega,rfl,⟨by omega,rfl⟩,HB7.out,HX7.out,HR7.out,HY7.out,HN.out⟩
theorem pow_any (a b n:Int)(w:World)(ha:-9223372036854775808≤a)(hA:a≤9223372036854775807)(hb:-9223372036854775808≤b)(hB:b≤9223372036854775807)(hn:-9223372036854775808≤n)(hN:n≤9223372036854775807):
  Calls Tryz.prog 44 #[.agg #[.int .i64 a,.int .i64 b],.int .i64 n] w fun e w'=>e=.returned (powQ a b n).val∧Below w.heap.size w w':=by
 cases h:validQ a b with
 | false=>exact pow_early a b n w ha hA hb hB h
 | true=>
  by_cases h0:a=0∧n<0
  ·obtain ⟨rfl,h1⟩:=h0
   exact pow_zero_neg b n w hb hB h h1
  ·exact pow_loop a b n w hn hN h h0
end Go.Proofs.YtknpigdpepmimaaGreatDoor.Q
