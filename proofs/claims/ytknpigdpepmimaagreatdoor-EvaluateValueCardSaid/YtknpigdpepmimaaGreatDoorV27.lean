/- Contracts of ref53.checked 185, Mul 183, Div 145, Pow 147, Root 142. -/
import Derived.Deep.CutBlock
import Derived.Deep.DeepCutAuto
import Derived.Test.YtknpigdpepmimaaGreatDoorV22
import Derived.Test.YtknpigdpepmimaaGreatDoorV26
namespace Go.Proofs.YtknpigdpepmimaaGreatDoor
open Go.Lib(hid)
open Go.RowKit
def Dm.at (d:Dm) (i:Nat):Int:=match i with|0=>d.a|1=>d.b|2=>d.c|3=>d.d|4=>d.e|5=>d.f|_=>d.g
def mixF (x y:Dm) (i:Nat):Dm:=⟨if 0<i then y.a else x.a,if 1<i then y.b else x.b,if 2<i then y.c else x.c,if 3<i then y.d else x.d,if 4<i then y.e else x.e,if 5<i then y.f else x.f,if 6<i then y.g else x.g⟩
theorem mixF_zero (x y:Dm):mixF x y 0=x:=by cases x; simp [mixF]
theorem mixF_all (x y:Dm):mixF x y 7=y:=by cases y; simp [mixF]
theorem seven {i:Nat}(h:i<7):i=0∨i=1∨i=2∨i=3∨i=4∨i=5∨i=6:=by omega
theorem mixF_at (x y:Dm){i:Nat}(h:i<7):(mixF x y i).at i=x.at i:=by
 rcases seven h with rfl|rfl|rfl|rfl|rfl|rfl|rfl<;>simp [mixF,Dm.at]
theorem K7.at_ {w:World}{b:Nat}{d:Dm}(h:K7 w b d){i:Nat}(hi:i<7):w.cell? ⟨b,i,none⟩=some (.int .i64 (d.at i)):=by
 obtain ⟨⟨c0,c1,c2,c3,c4,c5,c6⟩,_,_⟩:=h.cells
 rcases seven hi with rfl|rfl|rfl|rfl|rfl|rfl|rfl<;>assumption
theorem K7.mix {w:World}{b:Nat}{x y:Dm}{i:Nat}(h:K7 w b (mixF x y i))(hi:i<7):K7 (w.setCell ⟨b,i,none⟩ (.int .i64 (y.at i))) b (mixF x y (i+1)):=by
 rcases seven hi with rfl|rfl|rfl|rfl|rfl|rfl|rfl
 ·have h1:=h.set0 y.a
  simp [mixF]at h1
  simpa [mixF,Dm.at]using h1
 ·have h1:=h.set1 y.b
  simp [mixF]at h1
  simpa [mixF,Dm.at]using h1
 ·have h1:=h.set2 y.c
  simp [mixF]at h1
  simpa [mixF,Dm.at]using h1
 ·have h1:=h.set3 y.d
  simp [mixF]at h1
  simpa [mixF,Dm.at]using h1
 ·have h1:=h.set4 y.e
  simp [mixF]at h1
  simpa [mixF,Dm.at]using h1
 ·have h1:=h.set5 y.f
  simp [mixF]at h1
  simpa [mixF,Dm.at]using h1
 ·have h1:=h.set6 y.g
  simp [mixF]at h1
  simpa [mixF,Dm.at]using h1
def chkD (d:Dm):Dm × Int:=if d.ok=true then (d,0)else (zD,2)
theorem at_bnd {d:Dm}(h:d.ok=true) (i:Nat):-100≤d.at i∧d.at i≤100:=by
 have h1:=(ok_iff d).1 h
 unfold Dm.at;split<;>omega
theorem plus_at (x y:Dm) (s:Int){i:Nat}(h:i<7):(x.plus s y).at i=x.at i+s*y.at i:=by
 rcases seven h with rfl|rfl|rfl|rfl|rfl|rfl|rfl<;>rfl
theorem times_at (x:Dm) (n:Int){i:Nat}(h:i<7):(x.times n).at i=x.at i*n:=by
 rcases seven h with rfl|rfl|rfl|rfl|rfl|rfl|rfl<;>rfl
theorem half_at (x:Dm){i:Nat}(h:i<7):x.half.at i=Int.tdiv (x.at i) 2:=by
 rcases seven h with rfl|rfl|rfl|rfl|rfl|rfl|rfl<;>rfl
theorem even_at (x:Dm)(h:∀ i,i<7→Int.tmod (x.at i) 2=0):x.even=true:=by
 have e:∀ i,i<7→evE (x.at i)=true:=fun i hi=>decide_eq_true (h i hi)
 unfold Dm.even;rw [show evE x.a=true from e 0 (by decide),show evE x.b=true from e 1 (by decide),show evE x.c=true from e 2 (by decide),show evE x.d=true from e 3 (by decide),show evE x.e=true from e 4 (by decide),show evE x.f=true from e 5 (by decide),show evE x.g=true from e 6 (by decide)]
 rfl
theorem odd_at (x:Dm){i:Nat}(hi:i<7)(h:¬ Int.tmod (x.at i) 2=0):¬ x.even=true:=fun hx=>h (by
 unfold Dm.even evE at hx;simp only [Bool.and_eq_true,decide_eq_true_eq]at hx
 obtain ⟨⟨⟨⟨⟨⟨h1,h2⟩,h3⟩,h4⟩,h5⟩,h6⟩,h7⟩:=hx
 rcases seven hi with rfl|rfl|rfl|rfl|rfl|rfl|rfl<;>assumption)
set_option maxRecDepth 100000 in
set_option maxHeartbeats 4000000 in
theorem rchk_any (x:Dm)(w:World):Calls Tryz.prog 185 #[.agg x.cells] w fun e w'=>e=.returned (.tuple #[.agg (chkD x).1.cells,.int .i64 (chkD x).2])∧Below w.heap.size w w':=by
 have HE:Hid (chkD x=if x.ok=true then (x,0)else (zD,2)):=rfl
 generalize chkD x=C at*;have HV1:=hid (rdim_any x)
 unfold Dm.cells at HV1;have HB:=hid (b2 w (.cells #[.int .i64 x.a,.int .i64 x.b,.int .i64 x.c,.int .i64 x.d,.int .i64 x.e,.int .i64 x.f,.int .i64 x.g] 42) (.cells #[.int .i64 0,.int .i64 0,.int .i64 0,.int .i64 0,.int .i64 0,.int .i64 0,.int .i64 0] 42))
 have HK1:Hid (K7 ((w.alloc (.cells #[.int .i64 x.a,.int .i64 x.b,.int .i64 x.c,.int .i64 x.d,.int .i64 x.e,.int .i64 x.f,.int .i64 x.g] 42)).alloc (.cells #[.int .i64 0,.int .i64 0,.int .i64 0,.int .i64 0,.int .i64 0,.int .i64 0,.int .i64 0] 42)) w.heap.size x):=(K7.new w x).reach (b1 _ (.cells #[.int .i64 0,.int .i64 0,.int .i64 0,.int .i64 0,.int .i64 0,.int .i64 0,.int .i64 0] 42))
 have HK3:Hid (K7 ((w.alloc (.cells #[.int .i64 x.a,.int .i64 x.b,.int .i64 x.c,.int .i64 x.d,.int .i64 x.e,.int .i64 x.f,.int .i64 x.g] 42)).alloc (.cells #[.int .i64 0,.int .i64 0,.int .i64 0,.int .i64 0,.int .i64 0,.int .i64 0,.int .i64 0] 42)) (w.heap.size+1) zD):=by
  have h:=K7.new (w.alloc (.cells #[.int .i64 x.a,.int .i64 x.b,.int .i64 x.c,.int .i64 x.d,.int .i64 x.e,.int .i64 x.f,.int .i64 x.g] 42)) zD
  rw [World.size_alloc]at h
  exact h
 unfold Dm.cells;go_enter Tryz.func185,Tryz.ntmps185;go_upto_region 1 with (fail);generalize (w.alloc (.cells #[.int .i64 x.a,.int .i64 x.b,.int .i64 x.c,.int .i64 x.d,.int .i64 x.e,.int .i64 x.f,.int .i64 x.g] 42)).alloc (.cells #[.int .i64 0,.int .i64 0,.int .i64 0,.int .i64 0,.int .i64 0,.int .i64 0,.int .i64 0] 42)=w1 at*;obtain ⟨⟨p0,p1,p2,p3,p4,p5,p6⟩,_,_⟩:=HK1.out.cells
 go_wp2_with fail;refine (HV1.out w1).mono ?_
 rintro e w2 ⟨rfl,hb2⟩
 have HB2:=hid (bl_tr HB.out hb2)
 have HL1:=hid (HK1.out.reach hb2)
 have HL3:=hid (HK3.out.reach hb2)
 clear hb2 p0 p1 p2 p3 p4 p5 p6 HK1 HK3;obtain ⟨⟨z0,z1,z2,z3,z4,z5,z6⟩,zf,_⟩:=HL3.out.cells
 cases h1:x.ok with
 | false=>
  have HR:Hid (C=(zD,2)):=HE.out.trans (by rw [h1]; rfl)
  clear h1;go_wp2_with fail;rw [HR.out];refine bodyPost_ret (v:=.tuple #[.agg zD.cells,.int .i64 2]) (by simp [results,Tryz.results185,go_sem,Dm.cells,zD,z0,z1,z2,z3,z4,z5,z6]) rfl ⟨rfl,?_⟩
  exact below7 (B:=w.heap.size) HB2.out (b:=w.heap.size+1) (by omega) zD
 | true=>
  have HR:Hid (C=(x,0)):=HE.out.trans (by rw [h1]; rfl)
  clear h1;obtain ⟨⟨q0,q1,q2,q3,q4,q5,q6⟩,_,_⟩:=HL1.out.cells
  go_wp2_with fail;rw [HR.out];refine bodyPost_ret (v:=.tuple #[.agg x.cells,.int .i64 0]) (by simp [results,Tryz.results185,go_sem,Dm.cells,z0,z1,z2,z3,z4,z5,z6]) rfl ⟨rfl,?_⟩
  exact below7 (B:=w.heap.size) HB2.out (b:=w.heap.size+1) (by omega) x
set_option maxRecDepth 100000 in
set_option maxHeartbeats 4000000 in
theorem rdmul_any (x y:Dm)(w:World):Calls Tryz.prog 183 #[.agg x.cells,.agg y.cells] w fun e w'=>e=.returned (.tuple #[.agg (combQ x y 1).1.cells,.int .i64 (combQ x y 1).2])∧Below w.heap.size w w':=by
 have HE:Hid (combQ x y 1=if x.ok=true∧y.ok=true then (chkD (x.plus 1 y))else (zD,1)):=rfl
 generalize hc:combQ x y 1=C at*;clear hc;have HV1:=hid (rdim_any x)
 have HV2:=hid (rdim_any y)
 have HCK:=hid (rchk_any (x.plus 1 y))
 have HBX:=hid fun (h:x.ok=true)=>at_bnd h
 have HBY:=hid fun (h:y.ok=true)=>at_bnd h
 have HPA:=hid fun (i:Nat)(h:i<7)=>plus_at x y 1 h
 have HB:=hid (b3 w (.cells #[.int .i64 x.a,.int .i64 x.b,.int .i64 x.c,.int .i64 x.d,.int .i64 x.e,.int .i64 x.f,.int .i64 x.g] 42) (.cells #[.int .i64 y.a,.int .i64 y.b,.int .i64 y.c,.int .i64 y.d,.int .i64 y.e,.int .i64 y.f,.int .i64 y.g] 42) (.cells #[.int .i64 0,.int .i64 0,.int .i64 0,.int .i64 0,.int .i64 0,.int .i64 0,.int .i64 0] 42))
 have HK1:Hid (K7 (((w.alloc (.cells #[.int .i64 x.a,.int .i64 x.b,.int .i64 x.c,.int .i64 x.d,.int .i64 x.e,.int .i64 x.f,.int .i64 x.g] 42)).alloc (.cells #[.int .i64 y.a,.int .i64 y.b,.int .i64 y.c,.int .i64 y.d,.int .i64 y.e,.int .i64 y.f,.int .i64 y.g] 42)).alloc (.cells #[.int .i64 0,.int .i64 0,.int .i64 0,.int .i64 0,.int .i64 0,.int .i64 0,.int .i64 0] 42)) w.heap.size x):=((K7.new w x).reach (b1 _ (.cells #[.int .i64 y.a,.int .i64 y.b,.int .i64 y.c,.int .i64 y.d,.int .i64 y.e,.int .i64 y.f,.int .i64 y.g] 42))).reach (b1 _ (.cells #[.int .i64 0,.int .i64 0,.int .i64 0,.int .i64 0,.int .i64 0,.int .i64 0,.int .i64 0] 42))
 have HK2:Hid (K7 (((w.alloc (.cells #[.int .i64 x.a,.int .i64 x.b,.int .i64 x.c,.int .i64 x.d,.int .i64 x.e,.int .i64 x.f,.int .i64 x.g] 42)).alloc (.cells #[.int .i64 y.a,.int .i64 y.b,.int .i64 y.c,.int .i64 y.d,.int .i64 y.e,.int .i64 y.f,.int .i64 y.g] 42)).alloc (.cells #[.int .i64 0,.int .i64 0,.int .i64 0,.int .i64 0,.int .i64 0,.int .i64 0,.int .i64 0] 42)) (w.heap.size+1) y):=by
  have h:=(K7.new (w.alloc (.cells #[.int .i64 x.a,.int .i64 x.b,.int .i64 x.c,.int .i64 x.d,.int .i64 x.e,.int .i64 x.f,.int .i64 x.g] 42)) y).reach (b1 _ (.cells #[.int .i64 0,.int .i64 0,.int .i64 0,.int .i64 0,.int .i64 0,.int .i64 0,.int .i64 0] 42))
  rw [World.size_alloc]at h
  exact h
 have HK3:Hid (K7 (((w.alloc (.cells #[.int .i64 x.a,.int .i64 x.b,.int .i64 x.c,.int .i64 x.d,.int .i64 x.e,.int .i64 x.f,.int .i64 x.g] 42)).alloc (.cells #[.int .i64 y.a,.int .i64 y.b,.int .i64 y.c,.int .i64 y.d,.int .i64 y.e,.int .i64 y.f,.int .i64 y.g] 42)).alloc (.cells #[.int .i64 0,.int .i64 0,.int .i64 0,.int .i64 0,.int .i64 0,.int .i64 0,.int .i64 0] 42)) (w.heap.size+1+1) zD):=by
  have h:=K7.new ((w.alloc (.cells #[.int .i64 x.a,.int .i64 x.b,.int .i64 x.c,.int .i64 x.d,.int .i64 x.e,.int .i64 x.f,.int .i64 x.g] 42)).alloc (.cells #[.int .i64 y.a,.int .i64 y.b,.int .i64 y.c,.int .i64 y.d,.int .i64 y.e,.int .i64 y.f,.int .i64 y.g] 42)) zD
  rw [World.size_alloc,World.size_alloc]at h
  exact h
 unfold Dm.cells at HV1 HV2 HCK ⊢;generalize x.plus 1 y=P at*;go_enter Tryz.func183,Tryz.ntmps183;go_upto_region 1 with (fail);generalize ((w.alloc (.cells #[.int .i64 x.a,.int .i64 x.b,.int .i64 x.c,.int .i64 x.d,.int .i64 x.e,.int .i64 x.f,.int .i64 x.g] 42)).alloc (.cells #[.int .i64 y.a,.int .i64 y.b,.int .i64 y.c,.int .i64 y.d,.int .i64 y.e,.int .i64 y.f,.int .i64 y.g] 42)).alloc (.cells #[.int .i64 0,.int .i64 0,.int .i64 0,.int .i64 0,.int .i64 0,.int .i64 0,.int .i64 0] 42)=w1 at*
 obtain ⟨⟨p0,p1,p2,p3,p4,p5,p6⟩,_,_⟩:=HK1.out.cells
 go_wp2_with fail;refine (HV1.out w1).mono ?_
 rintro e w2 ⟨rfl,hb2⟩
 have HB2:=hid (bl_tr HB.out hb2)
 have HL1:=hid (HK1.out.reach hb2)
 have HL2:=hid (HK2.out.reach hb2)
 have HL3:=hid (HK3.out.reach hb2)
 clear hb2 p0 p1 p2 p3 p4 p5 p6 HK1 HK2 HK3;obtain ⟨⟨q0,q1,q2,q3,q4,q5,q6⟩,_,_⟩:=HL2.out.cells
 obtain ⟨⟨z0,z1,z2,z3,z4,z5,z6⟩,zf,_⟩:=HL3.out.cells
 cases h1:x.ok with
 | false=>
  have HR:Hid (C=(zD,1)):=HE.out.trans (by rw [h1]; simp)
  clear h1;go_wp2_with fail;rw [HR.out];refine bodyPost_ret (v:=.tuple #[.agg zD.cells,.int .i64 1]) (by simp [results,Tryz.results183,go_sem,Dm.cells,zD,z0,z1,z2,z3,z4,z5,z6]) rfl ⟨rfl,?_⟩
  exact below7 (B:=w.heap.size) HB2.out (b:=w.heap.size+1+1) (by omega) zD
 | true=>
  have HX:=hid (HBX.out h1)
  have HE1:Hid (C=if y.ok=true then (chkD P)else (zD,1)):=HE.out.trans (by rw [h1]; simp)
  clear h1 HE HBX;go_wp2_with fail;refine (HV2.out w2).mono ?_
  rintro e w3 ⟨rfl,hb3⟩
  have HB3:=hid (bl_tr HB2.out hb3)
  have HM1:=hid (HL1.out.reach hb3)
  have HM2:=hid (HL2.out.reach hb3)
  have HM3:=hid (HL3.out.reach hb3)
  clear hb3 q0 q1 q2 q3 q4 q5 q6 z0 z1 z2 z3 z4 z5 z6 zf HL1 HL2 HL3;obtain ⟨⟨z0,z1,z2,z3,z4,z5,z6⟩,zf,_⟩:=HM3.out.cells
  cases h2:y.ok with
  | false=>
   have HR:Hid (C=(zD,1)):=HE1.out.trans (by rw [h2]; simp)
   clear h2;go_wp2_with fail;rw [HR.out];refine bodyPost_ret (v:=.tuple #[.agg zD.cells,.int .i64 1]) (by simp [results,Tryz.results183,go_sem,Dm.cells,zD,z0,z1,z2,z3,z4,z5,z6]) rfl ⟨rfl,?_⟩
   exact below7 (B:=w.heap.size) HB3.out (b:=w.heap.size+1+1) (by omega) zD
  | true=>
   have HY:=hid (HBY.out h2)
   have HE2:Hid (C=chkD P):=HE1.out.trans (by rw [h2]; simp)
   clear h2 HE1 HBY z0 z1 z2 z3 z4 z5 z6 zf;go_upto_region 3 with (fail);go_wp2_with fail;go_loopg [6] 7 (fun gg s6 wr=>∃ i:Nat,i≤7∧7-i≤gg∧s6=.int .i64 i∧Aside (K7 wr w.heap.size (mixF x P i))∧Aside (K7 wr (w.heap.size+1) y)∧Aside (K7 wr (w.heap.size+1+1) zD)∧Aside (Below w.heap.size w wr))
   case atStart=>exact ⟨0,by omega,by omega,rfl,by show K7 _ _ _; rw [mixF_zero]; exact HM1.out,HM2.out,HM3.out,HB3.out⟩
   case round=>
    obtain ⟨i,hi,hgg,rfl,HC1,HC2,HC3,HBr⟩:=hrel
    by_cases hlt:i<7
    ·have hltz:(i:Int)<7:=by omega
     have ca:=HC1.out.at_ hlt
     rw [mixF_at x P hlt]at ca
     have cb:=HC2.out.at_ hlt
     have cf:=HC1.out.cells.2.1 i
     have hbx:=HX.out i
     have hby:=HY.out i
     have hpa:=HPA.out i hlt
     have e1:IntKind.i64.wrap (x.at i+y.at i)=P.at i:=by
      rw [wrap64_small (by omega) (by omega)]; omega
     have HN1:=hid (HC1.out.mix hlt)
     have HN2:=hid (HC2.out.other (b':=w.heap.size) (o:=i) (.int .i64 (P.at i)) (by omega))
     have HN3:=hid (HC3.out.other (b':=w.heap.size) (o:=i) (.int .i64 (P.at i)) (by omega))
     have HNB:=hid (HBr.out.setCell (p:=⟨w.heap.size,i,none⟩) (Nat.le_refl _) (.int .i64 (P.at i)))
     generalize x.at i=xa at*
     generalize y.at i=ya at*
     generalize P.at i=pa at*
     clear hbx hby hpa;go_wp2_with fail;go_region
     all_goals
      go_wp2_with fail;go_roundg (7-(i+1))
      case measure=>omega
      case rel=>exact ⟨i+1,by omega,by omega,by go_num,HN1.out,HN2.out,HN3.out,bl_dr HNB.out⟩
    ·have hltz:¬ (i:Int)<7:=by omega
     have e7:i=7:=by omega
     subst e7;have HD:Hid (K7 wr w.heap.size P):=by have h:=HC1.out; rw [mixF_all]at h; exact h
     obtain ⟨⟨p0,p1,p2,p3,p4,p5,p6⟩,_,_⟩:=HD.out.cells
     go_wp2_with fail;refine (HCK.out wr).mono ?_
     rintro e w5 ⟨rfl,hb5⟩
     have HB5:=hid (bl_tr HBr.out hb5)
     obtain ⟨⟨z0,z1,z2,z3,z4,z5,z6⟩,zf,_⟩:=(HC3.out.reach hb5).cells
     clear hb5 p0 p1 p2 p3 p4 p5 p6;generalize chkD P=K at*;obtain ⟨cd,ce⟩:=K
     go_wp2_with fail;rw [HE2.out];refine bodyPost_ret (v:=.tuple #[.agg cd.cells,.int .i64 ce]) (by simp [results,Tryz.results183,go_sem,Dm.cells,z0,z1,z2,z3,z4,z5,z6]) rfl ⟨rfl,?_⟩
     exact below7 (B:=w.heap.size) HB5.out (b:=w.heap.size+1+1) (by omega) cd
set_option maxRecDepth 100000 in
set_option maxHeartbeats 4000000 in
theorem rddiv_any (x y:Dm)(w:World):Calls Tryz.prog 145 #[.agg x.cells,.agg y.cells] w fun e w'=>e=.returned (.tuple #[.agg (combQ x y (-1)).1.cells,.int .i64 (combQ x y (-1)).2])∧Below w.heap.size w w':=by
 have HE:Hid (combQ x y (-1)=if x.ok=true∧y.ok=true then (chkD (x.plus (-1) y))else (zD,1)):=rfl
 generalize hc:combQ x y (-1)=C at*;clear hc;have HV1:=hid (rdim_any x)
 have HV2:=hid (rdim_any y)
 have HCK:=hid (rchk_any (x.plus (-1) y))
 have HBX:=hid fun (h:x.ok=true)=>at_bnd h
 have HBY:=hid fun (h:y.ok=true)=>at_bnd h
 have HPA:=hid fun (i:Nat)(h:i<7)=>plus_at x y (-1) h
 have HB:=hid (b3 w (.cells #[.int .i64 x.a,.int .i64 x.b,.int .i64 x.c,.int .i64 x.d,.int .i64 x.e,.int .i64 x.f,.int .i64 x.g] 42) (.cells #[.int .i64 y.a,.int .i64 y.b,.int .i64 y.c,.int .i64 y.d,.int .i64 y.e,.int .i64 y.f,.int .i64 y.g] 42) (.cells #[.int .i64 0,.int .i64 0,.int .i64 0,.int .i64 0,.int .i64 0,.int .i64 0,.int .i64 0] 42))
 have HK1:Hid (K7 (((w.alloc (.cells #[.int .i64 x.a,.int .i64 x.b,.int .i64 x.c,.int .i64 x.d,.int .i64 x.e,.int .i64 x.f,.int .i64 x.g] 42)).alloc (.cells #[.int .i64 y.a,.int .i64 y.b,.int .i64 y.c,.int .i64 y.d,.int .i64 y.e,.int .i64 y.f,.int .i64 y.g] 42)).alloc (.cells #[.int .i64 0,.int .i64 0,.int .i64 0,.int .i64 0,.int .i64 0,.int .i64 0,.int .i64 0] 42)) w.heap.size x):=((K7.new w x).reach (b1 _ (.cells #[.int .i64 y.a,.int .i64 y.b,.int .i64 y.c,.int .i64 y.d,.int .i64 y.e,.int .i64 y.f,.int .i64 y.g] 42))).reach (b1 _ (.cells #[.int .i64 0,.int .i64 0,.int .i64 0,.int .i64 0,.int .i64 0,.int .i64 0,.int .i64 0] 42))
 have HK2:Hid (K7 (((w.alloc (.cells #[.int .i64 x.a,.int .i64 x.b,.int .i64 x.c,.int .i64 x.d,.int .i64 x.e,.int .i64 x.f,.int .i64 x.g] 42)).alloc (.cells #[.int .i64 y.a,.int .i64 y.b,.int .i64 y.c,.int .i64 y.d,.int .i64 y.e,.int .i64 y.f,.int .i64 y.g] 42)).alloc (.cells #[.int .i64 0,.int .i64 0,.int .i64 0,.int .i64 0,.int .i64 0,.int .i64 0,.int .i64 0] 42)) (w.heap.size+1) y):=by
  have h:=(K7.new (w.alloc (.cells #[.int .i64 x.a,.int .i64 x.b,.int .i64 x.c,.int .i64 x.d,.int .i64 x.e,.int .i64 x.f,.int .i64 x.g] 42)) y).reach (b1 _ (.cells #[.int .i64 0,.int .i64 0,.int .i64 0,.int .i64 0,.int .i64 0,.int .i64 0,.int .i64 0] 42))
  rw [World.size_alloc]at h
  exact h
 have HK3:Hid (K7 (((w.alloc (.cells #[.int .i64 x.a,.int .i64 x.b,.int .i64 x.c,.int .i64 x.d,.int .i64 x.e,.int .i64 x.f,.int .i64 x.g] 42)).alloc (.cells #[.int .i64 y.a,.int .i64 y.b,.int .i64 y.c,.int .i64 y.d,.int .i64 y.e,.int .i64 y.f,.int .i64 y.g] 42)).alloc (.cells #[.int .i64 0,.int .i64 0,.int .i64 0,.int .i64 0,.int .i64 0,.int .i64 0,.int .i64 0] 42)) (w.heap.size+1+1) zD):=by
  have h:=K7.new ((w.alloc (.cells #[.int .i64 x.a,.int .i64 x.b,.int .i64 x.c,.int .i64 x.d,.int .i64 x.e,.int .i64 x.f,.int .i64 x.g] 42)).alloc (.cells #[.int .i64 y.a,.int .i64 y.b,.int .i64 y.c,.int .i64 y.d,.int .i64 y.e,.int .i64 y.f,.int .i64 y.g] 42)) zD
  rw [World.size_alloc,World.size_alloc]at h
  exact h
 unfold Dm.cells at HV1 HV2 HCK ⊢;generalize x.plus (-1) y=P at*;go_enter Tryz.func145,Tryz.ntmps145;go_upto_region 1 with (fail);generalize ((w.alloc (.cells #[.int .i64 x.a,.int .i64 x.b,.int .i64 x.c,.int .i64 x.d,.int .i64 x.e,.int .i64 x.f,.int .i64 x.g] 42)).alloc (.cells #[.int .i64 y.a,.int .i64 y.b,.int .i64 y.c,.int .i64 y.d,.int .i64 y.e,.int .i64 y.f,.int .i64 y.g] 42)).alloc (.cells #[.int .i64 0,.int .i64 0,.int .i64 0,.int .i64 0,.int .i64 0,.int .i64 0,.int .i64 0] 42)=w1 at*
 obtain ⟨⟨p0,p1,p2,p3,p4,p5,p6⟩,_,_⟩:=HK1.out.cells
 go_wp2_with fail;refine (HV1.out w1).mono ?_
 rintro e w2 ⟨rfl,hb2⟩
 have HB2:=hid (bl_tr HB.out hb2)
 have HL1:=hid (HK1.out.reach hb2)
 have HL2:=hid (HK2.out.reach hb2)
 have HL3:=hid (HK3.out.reach hb2)
 clear hb2 p0 p1 p2 p3 p4 p5 p6 HK1 HK2 HK3;obtain ⟨⟨q0,q1,q2,q3,q4,q5,q6⟩,_,_⟩:=HL2.out.cells
 obtain ⟨⟨z0,z1,z2,z3,z4,z5,z6⟩,zf,_⟩:=HL3.out.cells
 cases h1:x.ok with
 | false=>
  have HR:Hid (C=(zD,1)):=HE.out.trans (by rw [h1]; simp)
  clear h1;go_wp2_with fail;rw [HR.out];refine bodyPost_ret (v:=.tuple #[.agg zD.cells,.int .i64 1]) (by simp [results,Tryz.results145,go_sem,Dm.cells,zD,z0,z1,z2,z3,z4,z5,z6]) rfl ⟨rfl,?_⟩
  exact below7 (B:=w.heap.size) HB2.out (b:=w.heap.size+1+1) (by omega) zD
 | true=>
  have HX:=hid (HBX.out h1)
  have HE1:Hid (C=if y.ok=true then (chkD P)else (zD,1)):=HE.out.trans (by rw [h1]; simp)
  clear h1 HE HBX;go_wp2_with fail;refine (HV2.out w2).mono ?_
  rintro e w3 ⟨rfl,hb3⟩
  have HB3:=hid (bl_tr HB2.out hb3)
  have HM1:=hid (HL1.out.reach hb3)
  have HM2:=hid (HL2.out.reach hb3)
  have HM3:=hid (HL3.out.reach hb3)
  clear hb3 q0 q1 q2 q3 q4 q5 q6 z0 z1 z2 z3 z4 z5 z6 zf HL1 HL2 HL3;obtain ⟨⟨z0,z1,z2,z3,z4,z5,z6⟩,zf,_⟩:=HM3.out.cells
  cases h2:y.ok with
  | false=>
   have HR:Hid (C=(zD,1)):=HE1.out.trans (by rw [h2]; simp)
   clear h2;go_wp2_with fail;rw [HR.out];refine bodyPost_ret (v:=.tuple #[.agg zD.cells,.int .i64 1]) (by simp [results,Tryz.results145,go_sem,Dm.cells,zD,z0,z1,z2,z3,z4,z5,z6]) rfl ⟨rfl,?_⟩
   exact below7 (B:=w.heap.size) HB3.out (b:=w.heap.size+1+1) (by omega) zD
  | true=>
   have HY:=hid (HBY.out h2)
   have HE2:Hid (C=chkD P):=HE1.out.trans (by rw [h2]; simp)
   clear h2 HE1 HBY z0 z1 z2 z3 z4 z5 z6 zf;go_upto_region 3 with (fail);go_wp2_with fail;go_loopg [6] 7 (fun gg s6 wr=>∃ i:Nat,i≤7∧7-i≤gg∧s6=.int .i64 i∧Aside (K7 wr w.heap.size (mixF x P i))∧Aside (K7 wr (w.heap.size+1) y)∧Aside (K7 wr (w.heap.size+1+1) zD)∧Aside (Below w.heap.size w wr))
   case atStart=>exact ⟨0,by omega,by omega,rfl,by show K7 _ _ _; rw [mixF_zero]; exact HM1.out,HM2.out,HM3.out,HB3.out⟩
   case round=>
    obtain ⟨i,hi,hgg,rfl,HC1,HC2,HC3,HBr⟩:=hrel
    by_cases hlt:i<7
    ·have hltz:(i:Int)<7:=by omega
     have ca:=HC1.out.at_ hlt
     rw [mixF_at x P hlt]at ca
     have cb:=HC2.out.at_ hlt
     have cf:=HC1.out.cells.2.1 i
     have hbx:=HX.out i
     have hby:=HY.out i
     have hpa:=HPA.out i hlt
     have e1:IntKind.i64.wrap (x.at i-y.at i)=P.at i:=by
      rw [wrap64_small (by omega) (by omega)]; omega
     have HN1:=hid (HC1.out.mix hlt)
     have HN2:=hid (HC2.out.other (b':=w.heap.size) (o:=i) (.int .i64 (P.at i)) (by omega))
     have HN3:=hid (HC3.out.other (b':=w.heap.size) (o:=i) (.int .i64 (P.at i)) (by omega))
     have HNB:=hid (HBr.out.setCell (p:=⟨w.heap.size,i,none⟩) (Nat.le_refl _) (.int .i64 (P.at i)))
     generalize x.at i=xa at*
     generalize y.at i=ya at*
     generalize P.at i=pa at*
     clear hbx hby hpa;go_wp2_with fail;go_region
     all_goals
      go_wp2_with fail;go_roundg (7-(i+1))
      case measure=>omega
      case rel=>exact ⟨i+1,by omega,by omega,by go_num,HN1.out,HN2.out,HN3.out,bl_dr HNB.out⟩
    ·have hltz:¬ (i:Int)<7:=by omega
     have e7:i=7:=by omega
     subst e7;have HD:Hid (K7 wr w.heap.size P):=by have h:=HC1.out; rw [mixF_all]at h; exact h
     obtain ⟨⟨p0,p1,p2,p3,p4,p5,p6⟩,_,_⟩:=HD.out.cells
     go_wp2_with fail;refine (HCK.out wr).mono ?_
     rintro e w5 ⟨rfl,hb5⟩
     have HB5:=hid (bl_tr HBr.out hb5)
     obtain ⟨⟨z0,z1,z2,z3,z4,z5,z6⟩,zf,_⟩:=(HC3.out.reach hb5).cells
     clear hb5 p0 p1 p2 p3 p4 p5 p6;generalize chkD P=K at*;obtain ⟨cd,ce⟩:=K
     go_wp2_with fail;rw [HE2.out];refine bodyPost_ret (v:=.tuple #[.agg cd.cells,.int .i64 ce]) (by simp [results,Tryz.results145,go_sem,Dm.cells,z0,z1,z2,z3,z4,z5,z6]) rfl ⟨rfl,?_⟩
     exact below7 (B:=w.heap.size) HB5.out (b:=w.heap.size+1+1) (by omega) cd
set_option maxRecDepth 100000 in
set_option maxHeartbeats 4000000 in
theorem rdpow_any (x:Dm) (n:Int)(w:World)(hn:-9223372036854775808≤n)(hN:n≤9223372036854775807):Calls Tryz.prog 147 #[.agg x.cells,.int .i64 n] w fun e w'=>e=.returned (.tuple #[.agg (dpowQ x n).1.cells,.int .i64 (dpowQ x n).2])∧Below w.heap.size w w':=by
 have HE:Hid (dpowQ x n=if x.ok=true then (chkD (x.times (clampN n)))else (zD,1)):=dpow_ref x n
 generalize hc:dpowQ x n=C at*;clear hc;have HV1:=hid (rdim_any x)
 have HCK:=hid (rchk_any (x.times (clampN n)))
 have HBX:=hid fun (h:x.ok=true)=>at_bnd h
 have HPA:=hid fun (i:Nat)(h:i<7)=>times_at x (clampN n) h
 unfold Dm.cells at HV1 HCK;generalize x.times (clampN n)=P at*;have HNC:Hid (-101≤clampN n∧clampN n≤101):=by show _∧_; unfold clampN; omega
 have HB:=hid (b2 w (.cells #[.int .i64 x.a,.int .i64 x.b,.int .i64 x.c,.int .i64 x.d,.int .i64 x.e,.int .i64 x.f,.int .i64 x.g] 42) (.cells #[.int .i64 0,.int .i64 0,.int .i64 0,.int .i64 0,.int .i64 0,.int .i64 0,.int .i64 0] 42))
 have HK1:Hid (K7 ((w.alloc (.cells #[.int .i64 x.a,.int .i64 x.b,.int .i64 x.c,.int .i64 x.d,.int .i64 x.e,.int .i64 x.f,.int .i64 x.g] 42)).alloc (.cells #[.int .i64 0,.int .i64 0,.int .i64 0,.int .i64 0,.int .i64 0,.int .i64 0,.int .i64 0] 42)) w.heap.size x):=(K7.new w x).reach (b1 _ (.cells #[.int .i64 0,.int .i64 0,.int .i64 0,.int .i64 0,.int .i64 0,.int .i64 0,.int .i64 0] 42))
 have HK3:Hid (K7 ((w.alloc (.cells #[.int .i64 x.a,.int .i64 x.b,.int .i64 x.c,.int .i64 x.d,.int .i64 x.e,.int .i64 x.f,.int .i64 x.g] 42)).alloc (.cells #[.int .i64 0,.int .i64 0,.int .i64 0,.int .i64 0,.int .i64 0,.int .i64 0,.int .i64 0] 42)) (w.heap.size+1) zD):=by
  have h:=K7.new (w.alloc (.cells #[.int .i64 x.a,.int .i64 x.b,.int .i64 x.c,.int .i64 x.d,.int .i64 x.e,.int .i64 x.f,.int .i64 x.g] 42)) zD
  rw [World.size_alloc]at h
  exact h
 unfold Dm.cells;go_enter Tryz.func147,Tryz.ntmps147;go_upto_region 1 with (fail);generalize (w.alloc (.cells #[.int .i64 x.a,.int .i64 x.b,.int .i64 x.c,.int .i64 x.d,.int .i64 x.e,.int .i64 x.f,.int .i64 x.g] 42)).alloc (.cells #[.int .i64 0,.int .i64 0,.int .i64 0,.int .i64 0,.int .i64 0,.int .i64 0,.int .i64 0] 42)=w1 at*;obtain ⟨⟨p0,p1,p2,p3,p4,p5,p6⟩,_,_⟩:=HK1.out.cells
 go_wp2_with fail;refine (HV1.out w1).mono ?_
 rintro e w2 ⟨rfl,hb2⟩
 have HB2:=hid (bl_tr HB.out hb2)
 have HL1:=hid (HK1.out.reach hb2)
 have HL3:=hid (HK3.out.reach hb2)
 clear hb2 p0 p1 p2 p3 p4 p5 p6 HK1 HK3;obtain ⟨⟨z0,z1,z2,z3,z4,z5,z6⟩,zf,_⟩:=HL3.out.cells
 cases h1:x.ok with
 | false=>
  have HR:Hid (C=(zD,1)):=HE.out.trans (by rw [h1]; simp)
  clear h1;go_wp2_with fail;rw [HR.out];refine bodyPost_ret (v:=.tuple #[.agg zD.cells,.int .i64 1]) (by simp [results,Tryz.results147,go_sem,Dm.cells,zD,z0,z1,z2,z3,z4,z5,z6]) rfl ⟨rfl,?_⟩
  exact below7 (B:=w.heap.size) HB2.out (b:=w.heap.size+1) (by omega) zD
 | true=>
  have HX:=hid (HBX.out h1)
  have HE2:Hid (C=chkD P):=HE.out.trans (by rw [h1]; simp)
  clear h1 HE HBX z0 z1 z2 z3 z4 z5 z6 zf;go_upto_region 3 with (fail);go_cut [1] (fun s1 wx=>s1=.int .i64 (clampN n)∧wx=w2)
  case first=>
   go_wp2_with fail
   all_goals
    go_meet
    case rel=>exact ⟨by first|(congr 1; unfold clampN; omega)|rfl,rfl⟩
  case rest=>
   obtain ⟨rfl,rfl⟩:=hcut
   generalize clampN n=k at*;go_wp2_with fail;go_loopg [6] 7 (fun gg s6 wr=>∃ i:Nat,i≤7∧7-i≤gg∧s6=.int .i64 i∧Aside (K7 wr w.heap.size (mixF x P i))∧Aside (K7 wr (w.heap.size+1) zD)∧Aside (Below w.heap.size w wr))
   case atStart=>exact ⟨0,by omega,by omega,rfl,by show K7 _ _ _; rw [mixF_zero]; exact HL1.out,HL3.out,HB2.out⟩
   case round=>
    obtain ⟨i,hi,hgg,rfl,HC1,HC3,HBr⟩:=hrel
    by_cases hlt:i<7
    ·have hltz:(i:Int)<7:=by omega
     have ca:=HC1.out.at_ hlt
     rw [mixF_at x P hlt]at ca
     have cf:=HC1.out.cells.2.1 i
     have e1:IntKind.i64.wrap (x.at i*k)=P.at i:=by
      have h1:=HX.out i
      have h2:=HNC.out
      have h3:(x.at i*k).natAbs≤100*101:=by
       rw [Int.natAbs_mul];exact Nat.mul_le_mul (by omega) (by omega)
      rw [wrap64_small (by omega) (by omega)]; exact (HPA.out i hlt).symm
     have HN1:=hid (HC1.out.mix hlt)
     have HN3:=hid (HC3.out.other (b':=w.heap.size) (o:=i) (.int .i64 (P.at i)) (by omega))
     have HNB:=hid (HBr.out.setCell (p:=⟨w.heap.size,i,none⟩) (Nat.le_refl _) (.int .i64 (P.at i)))
     generalize x.at i=xa at*
     generalize P.at i=pa at*
     go_wp2_with fail;go_roundg (7-(i+1))
     case measure=>omega
     case rel=>exact ⟨i+1,by omega,by omega,by go_num,HN1.out,HN3.out,HNB.out⟩
    ·have hltz:¬ (i:Int)<7:=by omega
     have e7:i=7:=by omega
     subst e7;have HD:Hid (K7 wr w.heap.size P):=by have h:=HC1.out; rw [mixF_all]at h; exact h
     obtain ⟨⟨p0,p1,p2,p3,p4,p5,p6⟩,_,_⟩:=HD.out.cells
     go_wp2_with fail;refine (HCK.out wr).mono ?_
     rintro e w5 ⟨rfl,hb5⟩
     have HB5:=hid (bl_tr HBr.out hb5)
     obtain ⟨⟨z0,z1,z2,z3,z4,z5,z6⟩,zf,_⟩:=(HC3.out.reach hb5).cells
     clear hb5 p0 p1 p2 p3 p4 p5 p6;generalize chkD P=K at*;obtain ⟨cd,ce⟩:=K
     go_wp2_with fail;rw [HE2.out];refine bodyPost_ret (v:=.tuple #[.agg cd.cells,.int .i64 ce]) (by simp [results,Tryz.results147,go_sem,Dm.cells,z0,z1,z2,z3,z4,z5,z6]) rfl ⟨rfl,?_⟩
     exact below7 (B:=w.heap.size) HB5.out (b:=w.heap.size+1) (by omega) cd
set_option maxRecDepth 100000 in
set_option maxHeartbeats 4000000 in
theorem rdroot_any (x:Dm)(w:World):Calls Tryz.prog 142 #[.agg x.cells] w fun e w'=>e=.returned (.tuple #[.agg (drootQ x).1.cells,.int .i64 (drootQ x).2])∧Below w.heap.size w w':=by
 have HE:Hid (drootQ x=if x.ok=true then (if x.even=true then (x.half,0)else (zD,2))else (zD,1)):=rfl
 generalize hc:drootQ x=C at*;clear hc;have HV1:=hid (rdim_any x)
 have HBX:=hid fun (h:x.ok=true)=>at_bnd h
 have HPA:=hid fun (i:Nat)(h:i<7)=>half_at x h
 have HEV:=hid (even_at x)
 have HOD:=hid fun (i:Nat)(h:i<7)=>odd_at x h
 unfold Dm.cells at HV1;generalize x.half=P at*;have HB:=hid (b2 w (.cells #[.int .i64 x.a,.int .i64 x.b,.int .i64 x.c,.int .i64 x.d,.int .i64 x.e,.int .i64 x.f,.int .i64 x.g] 42) (.cells #[.int .i64 0,.int .i64 0,.int .i64 0,.int .i64 0,.int .i64 0,.int .i64 0,.int .i64 0] 42))
 have HK1:Hid (K7 ((w.alloc (.cells #[.int .i64 x.a,.int .i64 x.b,.int .i64 x.c,.int .i64 x.d,.int .i64 x.e,.int .i64 x.f,.int .i64 x.g] 42)).alloc (.cells #[.int .i64 0,.int .i64 0,.int .i64 0,.int .i64 0,.int .i64 0,.int .i64 0,.int .i64 0] 42)) w.heap.size x):=(K7.new w x).reach (b1 _ (.cells #[.int .i64 0,.int .i64 0,.int .i64 0,.int .i64 0,.int .i64 0,.int .i64 0,.int .i64 0] 42))
 have HK3:Hid (K7 ((w.alloc (.cells #[.int .i64 x.a,.int .i64 x.b,.int .i64 x.c,.int .i64 x.d,.int .i64 x.e,.int .i64 x.f,.int .i64 x.g] 42)).alloc (.cells #[.int .i64 0,.int .i64 0,.int .i64 0,.int .i64 0,.int .i64 0,.int .i64 0,.int .i64 0] 42)) (w.heap.size+1) zD):=by
  have h:=K7.new (w.alloc (.cells #[.int .i64 x.a,.int .i64 x.b,.int .i64 x.c,.int .i64 x.d,.int .i64 x.e,.int .i64 x.f,.int .i64 x.g] 42)) zD
  rw [World.size_alloc]at h
  exact h
 unfold Dm.cells;go_enter Tryz.func142,Tryz.ntmps142;go_upto_region 1 with (fail);generalize (w.alloc (.cells #[.int .i64 x.a,.int .i64 x.b,.int .i64 x.c,.int .i64 x.d,.int .i64 x.e,.int .i64 x.f,.int .i64 x.g] 42)).alloc (.cells #[.int .i64 0,.int .i64 0,.int .i64 0,.int .i64 0,.int .i64 0,.int .i64 0,.int .i64 0] 42)=w1 at*;obtain ⟨⟨p0,p1,p2,p3,p4,p5,p6⟩,_,_⟩:=HK1.out.cells
 go_wp2_with fail;refine (HV1.out w1).mono ?_
 rintro e w2 ⟨rfl,hb2⟩
 have HB2:=hid (bl_tr HB.out hb2)
 have HL1:=hid (HK1.out.reach hb2)
 have HL3:=hid (HK3.out.reach hb2)
 clear hb2 p0 p1 p2 p3 p4 p5 p6 HK1 HK3;obtain ⟨⟨z0,z1,z2,z3,z4,z5,z6⟩,zf,_⟩:=HL3.out.cells
 cases h1:x.ok with
 | false=>
  have HR:Hid (C=(zD,1)):=HE.out.trans (by rw [h1]; simp)
  clear h1;go_wp2_with fail;rw [HR.out];refine bodyPost_ret (v:=.tuple #[.agg zD.cells,.int .i64 1]) (by simp [results,Tryz.results142,go_sem,Dm.cells,zD,z0,z1,z2,z3,z4,z5,z6]) rfl ⟨rfl,?_⟩
  exact below7 (B:=w.heap.size) HB2.out (b:=w.heap.size+1) (by omega) zD
 | true=>
  have HX:=hid (HBX.out h1)
  have HE2:Hid (C=if x.even=true then (P,0)else (zD,2)):=HE.out.trans (by rw [h1]; simp)
  clear h1 HE HBX z0 z1 z2 z3 z4 z5 z6 zf;go_upto_region 3 with (fail);go_wp2_with fail;go_loopg [4] 7 (fun gg s4 wr=>∃ i:Nat,i≤7∧7-i≤gg∧s4=.int .i64 i∧Aside (∀ j,j<i→Int.tmod (x.at j) 2=0)∧Aside (K7 wr w.heap.size (mixF x P i))∧Aside (K7 wr (w.heap.size+1) zD)∧Aside (Below w.heap.size w wr))
  case atStart=>exact ⟨0,by omega,by omega,rfl,(fun j hj=>absurd hj (Nat.not_lt_zero j)),by show K7 _ _ _; rw [mixF_zero]; exact HL1.out,HL3.out,HB2.out⟩
  case round=>
   obtain ⟨i,hi,hgg,rfl,HEVi,HC1,HC3,HBr⟩:=hrel
   by_cases hlt:i<7
   ·have hltz:(i:Int)<7:=by omega
    have ca:=HC1.out.at_ hlt
    rw [mixF_at x P hlt]at ca
    have cf:=HC1.out.cells.2.1 i
    obtain ⟨⟨z0,z1,z2,z3,z4,z5,z6⟩,zf,_⟩:=HC3.out.cells
    by_cases he:Int.tmod (x.at i) 2=0
    ·have hb:(Int.tmod (x.at i) 2 != 0)=false:=by simp [he]
     have e1:wrap64 (Int.tdiv (x.at i) 2)=P.at i:=(half_small (HX.out i)).trans (HPA.out i hlt).symm
     have e3:IntKind.i64.wrap (Int.tmod (x.at i) 2)=Int.tmod (x.at i) 2:=by rw [he]; rfl
     have HEN:Hid (∀ j,j<i+1→Int.tmod (x.at j) 2=0):=fun j hj=>by
      by_cases hji:j<i
      ·exact HEVi.out j hji
      ·have:j=i:=by omega
       subst this; exact he
     have HN1:=hid (HC1.out.mix hlt)
     have HN3:=hid (HC3.out.other (b':=w.heap.size) (o:=i) (.int .i64 (P.at i)) (by omega))
     have HNB:=hid (HBr.out.setCell (p:=⟨w.heap.size,i,none⟩) (Nat.le_refl _) (.int .i64 (P.at i)))
     go_wp2_with fail;go_roundg (7-(i+1))
     case measure=>omega
     case rel=>exact ⟨i+1,by omega,by omega,by go_num,HEN.out,HN1.out,HN3.out,HNB.out⟩
    ·have hb:(Int.tmod (x.at i) 2 != 0)=true:=by rw [bne_iff_ne]; exact he
     have e3:IntKind.i64.wrap (Int.tmod (x.at i) 2)=Int.tmod (x.at i) 2:=by
      have h1:=HX.out i
      have h2:Int.tmod (x.at i) 2=x.at i-2*Int.tdiv (x.at i) 2:=Int.tmod_def _ _
      have h3:(Int.tdiv (x.at i) 2).natAbs≤100:=by rw [Int.natAbs_tdiv]; exact Nat.le_trans (Nat.div_le_self _ _) (by omega)
      exact wrap64_small (by omega) (by omega)
     have HR:Hid (C=(zD,2)):=HE2.out.trans (if_neg (HOD.out i hlt he))
     go_wp2_with fail;rw [HR.out];refine bodyPost_ret (v:=.tuple #[.agg zD.cells,.int .i64 2]) (by simp [results,Tryz.results142,go_sem,Dm.cells,zD,z0,z1,z2,z3,z4,z5,z6]) rfl ⟨rfl,?_⟩
     exact below7 (B:=w.heap.size) HBr.out (b:=w.heap.size+1) (by omega) zD
   ·have hltz:¬ (i:Int)<7:=by omega
    have e7:i=7:=by omega
    subst e7;have HD:Hid (K7 wr w.heap.size P):=by have h:=HC1.out; rw [mixF_all]at h; exact h
    have HR:Hid (C=(P,0)):=HE2.out.trans (if_pos (HEV.out HEVi.out))
    obtain ⟨⟨p0,p1,p2,p3,p4,p5,p6⟩,_,_⟩:=HD.out.cells
    obtain ⟨⟨z0,z1,z2,z3,z4,z5,z6⟩,zf,_⟩:=HC3.out.cells
    go_wp2_with fail;rw [HR.out];refine bodyPost_ret (v:=.tuple #[.agg P.cells,.int .i64 0]) (by simp [results,Tryz.results142,go_sem,Dm.cells,z0,z1,z2,z3,z4,z5,z6]) rfl ⟨rfl,?_⟩
    exact below7 (B:=w.heap.size) HBr.out (b:=w.heap.size+1) (by omega) P
end Go.Proofs.YtknpigdpepmimaaGreatDoor
