/- Contract of unit.Root 123. -/
import Derived.Deep.CutBlock
import Derived.Deep.DeepCutAuto
import Derived.Test.YtknpigdpepmimaaGreatDoorV01
namespace Go.Proofs.YtknpigdpepmimaaGreatDoor
open Go.Lib(hid)
open Go.RowKit
def evE (n:Int):Bool:=decide (Int.tmod n 2=0)
def Dm.even (d:Dm):Bool:=evE d.a&&evE d.b&&evE d.c&&evE d.d&&evE d.e&&evE d.f&&evE d.g
def Dm.evTo (d:Dm) (i:Nat):Bool:=(decide (i≤0)||evE d.a)&&(decide (i≤1)||evE d.b)&&(decide (i≤2)||evE d.c)&&(decide (i≤3)||evE d.d)&&(decide (i≤4)||evE d.e)&&(decide (i≤5)||evE d.f)&&(decide (i≤6)||evE d.g)
theorem Dm.evTo_all (d:Dm):d.evTo 7=d.even:=by simp [Dm.evTo,Dm.even]
def Dm.half (x:Dm):Dm:=⟨Int.tdiv x.a 2,Int.tdiv x.b 2,Int.tdiv x.c 2,Int.tdiv x.d 2,Int.tdiv x.e 2,Int.tdiv x.f 2,Int.tdiv x.g 2⟩
def mixR (x:Dm) (i:Nat):Dm:=match i with
 | 0=>⟨x.a,x.b,x.c,x.d,x.e,x.f,x.g⟩
 | 1=>⟨Int.tdiv x.a 2,x.b,x.c,x.d,x.e,x.f,x.g⟩
 | 2=>⟨Int.tdiv x.a 2,Int.tdiv x.b 2,x.c,x.d,x.e,x.f,x.g⟩
 | 3=>⟨Int.tdiv x.a 2,Int.tdiv x.b 2,Int.tdiv x.c 2,x.d,x.e,x.f,x.g⟩
 | 4=>⟨Int.tdiv x.a 2,Int.tdiv x.b 2,Int.tdiv x.c 2,Int.tdiv x.d 2,x.e,x.f,x.g⟩
 | 5=>⟨Int.tdiv x.a 2,Int.tdiv x.b 2,Int.tdiv x.c 2,Int.tdiv x.d 2,Int.tdiv x.e 2,x.f,x.g⟩
 | 6=>⟨Int.tdiv x.a 2,Int.tdiv x.b 2,Int.tdiv x.c 2,Int.tdiv x.d 2,Int.tdiv x.e 2,Int.tdiv x.f 2,x.g⟩
 | _=>⟨Int.tdiv x.a 2,Int.tdiv x.b 2,Int.tdiv x.c 2,Int.tdiv x.d 2,Int.tdiv x.e 2,Int.tdiv x.f 2,Int.tdiv x.g 2⟩
def drootQ (x:Dm):Dm × Int:=if x.ok=true then (if x.even=true then (x.half,0)else (zD,2))else (zD,1)
theorem half_small {y:Int}(h:-100≤y∧y≤100):wrap64 (Int.tdiv y 2)=Int.tdiv y 2:=by
 have h2:-100≤Int.tdiv y 2∧Int.tdiv y 2≤100:=by
  rcases Int.le_total 0 y with h0|h0
  ·rw [Int.tdiv_eq_ediv_of_nonneg h0]; omega
  ·have e:Int.tdiv y 2=-(Int.tdiv (-y) 2):=by rw [Int.neg_tdiv]; omega
   rw [e,Int.tdiv_eq_ediv_of_nonneg (show 0≤-y by omega)]; omega
 exact IntWalk.wrap64_in _ (by omega)
set_option maxRecDepth 100000 in
set_option maxHeartbeats 4000000 in
theorem droot_any (x:Dm)(w:World):Calls Tryz.prog 123 #[.agg x.cells] w fun e w'=>e=.returned (.tuple #[.agg (drootQ x).1.cells,.int .i64 (drootQ x).2])∧Below w.heap.size w w':=by
 have HE:Hid (drootQ x=if x.ok=true then (if x.even=true then (x.half,0)else (zD,2))else (zD,1)):=rfl
 have HV1:=hid (uvalid_any x)
 have HEV:=hid (Dm.evTo_all x)
 have HBX:=hid fun (h:x.ok=true)=>Dm.ok_all h
 unfold Dm.cells at HV1 ⊢;unfold Dm.half at HE;have hb1:Below w.heap.size w (w.alloc (.cells #[.int .i64 x.a,.int .i64 x.b,.int .i64 x.c,.int .i64 x.d,.int .i64 x.e,.int .i64 x.f,.int .i64 x.g] 42)):=(Below.refl _ _).alloc (Nat.le_refl _) _
 have hb3:Below w.heap.size w ((w.alloc (.cells #[.int .i64 x.a,.int .i64 x.b,.int .i64 x.c,.int .i64 x.d,.int .i64 x.e,.int .i64 x.f,.int .i64 x.g] 42)).alloc (.cells #[.int .i64 0,.int .i64 0,.int .i64 0,.int .i64 0,.int .i64 0,.int .i64 0,.int .i64 0] 42)):=hb1.alloc (by simp) _
 have hk1:K7 ((w.alloc (.cells #[.int .i64 x.a,.int .i64 x.b,.int .i64 x.c,.int .i64 x.d,.int .i64 x.e,.int .i64 x.f,.int .i64 x.g] 42)).alloc (.cells #[.int .i64 0,.int .i64 0,.int .i64 0,.int .i64 0,.int .i64 0,.int .i64 0,.int .i64 0] 42)) w.heap.size x:=(K7.new w x).reach ((Below.refl _ _).alloc (Nat.le_refl _) _)
 have hk3:=K7.new (w.alloc (.cells #[.int .i64 x.a,.int .i64 x.b,.int .i64 x.c,.int .i64 x.d,.int .i64 x.e,.int .i64 x.f,.int .i64 x.g] 42)) ⟨0,0,0,0,0,0,0⟩
 rw [World.size_alloc]at hk3
 have hsz:((w.alloc (.cells #[.int .i64 x.a,.int .i64 x.b,.int .i64 x.c,.int .i64 x.d,.int .i64 x.e,.int .i64 x.f,.int .i64 x.g] 42)).alloc (.cells #[.int .i64 0,.int .i64 0,.int .i64 0,.int .i64 0,.int .i64 0,.int .i64 0,.int .i64 0] 42)).heap.size=w.heap.size+2:=by simp
 have HK1:=hid hk1
 have HK3:Hid (K7 ((w.alloc (.cells #[.int .i64 x.a,.int .i64 x.b,.int .i64 x.c,.int .i64 x.d,.int .i64 x.e,.int .i64 x.f,.int .i64 x.g] 42)).alloc (.cells #[.int .i64 0,.int .i64 0,.int .i64 0,.int .i64 0,.int .i64 0,.int .i64 0,.int .i64 0] 42)) (w.heap.size+1) ⟨0,0,0,0,0,0,0⟩):=hk3
 have HB3:=hid hb3
 clear hb1 hb3 hk1 hk3;go_enter Tryz.func123,Tryz.ntmps123;go_upto_region 1 with (fail);generalize (w.alloc (.cells #[.int .i64 x.a,.int .i64 x.b,.int .i64 x.c,.int .i64 x.d,.int .i64 x.e,.int .i64 x.f,.int .i64 x.g] 42)).alloc (.cells #[.int .i64 0,.int .i64 0,.int .i64 0,.int .i64 0,.int .i64 0,.int .i64 0,.int .i64 0] 42)=w1 at*;obtain ⟨⟨p0,p1,p2,p3,p4,p5,p6⟩,_,_⟩:=HK1.out.cells
 go_wp2_with fail;refine (HV1.out w1).mono ?_
 rintro e w2 ⟨rfl,hb2⟩
 have HB2:=hid hb2
 have hs2:=hb2.size
 clear hb2 p0 p1 p2 p3 p4 p5 p6;have HBw:=hid (HB3.out.trans (HB2.out.mono (by omega)))
 have HL1:=hid (HK1.out.reach HB2.out)
 have HL3:=hid (HK3.out.reach HB2.out)
 obtain ⟨⟨z0,z1,z2,z3,z4,z5,z6⟩,zf,_⟩:=HL3.out.cells
 cases h1:x.ok with
 | false=>
  have HR:Hid (drootQ x=(zD,1)):=HE.out.trans (by rw [h1]; simp)
  clear h1;go_wp2_with fail;rw [HR.out];refine bodyPost_ret (v:=.tuple #[.agg zD.cells,.int .i64 1]) (by simp [results,Tryz.results123,go_sem,Dm.cells,zD,z0,z1,z2,z3,z4,z5,z6]) rfl ⟨rfl,?_⟩
  exact below7 (B:=w.heap.size) HBw.out (b:=w.heap.size+1) (by omega) zD
 | true=>
  have HE1:Hid (drootQ x=if x.even=true then (⟨Int.tdiv x.a 2,Int.tdiv x.b 2,Int.tdiv x.c 2,Int.tdiv x.d 2,Int.tdiv x.e 2,Int.tdiv x.f 2,Int.tdiv x.g 2⟩,0)else (zD,2)):=HE.out.trans (if_pos h1)
  have HX:=hid (HBX.out h1)
  clear h1 HE HBX;go_upto_region 3 with (fail);clear z0 z1 z2 z3 z4 z5 z6 zf;go_wp2_with fail;go_loopg [4,9] 7 (fun gg s4 s9 wr=>∃ i:Nat,i≤7∧7-i≤gg∧s9=.int .i64 i∧Aside (x.evTo i=true)∧Aside (K7 wr w.heap.size (mixR x i))∧Aside (K7 wr (w.heap.size+1) ⟨0,0,0,0,0,0,0⟩)∧Aside (Below w.heap.size w wr)∧Aside (w.heap.size+2≤wr.heap.size))
  case atStart=>exact ⟨0,by omega,by omega,rfl,(by show Dm.evTo _ 0=true; simp [Dm.evTo]),HL1.out,HL3.out,HBw.out,by show _≤_; omega⟩
  case round=>
   obtain ⟨i,hi,hgg,rfl,HT,HC1,HC3,HB,HSZ⟩:=hrel
   obtain ⟨⟨z0,z1,z2,z3,z4,z5,z6⟩,zf,_⟩:=HC3.out.cells
   by_cases hlt:i<7
   ·have hltz:(i:Int)<7:=by omega
    rcases (show i=0∨i=1∨i=2∨i=3∨i=4∨i=5∨i=6 by omega)with rfl|rfl|rfl|rfl|rfl|rfl|rfl
    ·have c1:wr.cell? ⟨w.heap.size,0,none⟩=some (.int .i64 x.a):=HC1.out.cells.1.1
     have cf:=HC1.out.cells.2.1 0
     by_cases he:Int.tmod x.a 2=0
     ·have HT2:Hid (x.evTo 1=true):=by
       have e1:evE x.a=true:=decide_eq_true he
       have e0:=HT.out
       show Dm.evTo _ _=true
       simp [Dm.evTo,e1]at e0 ⊢
       try simp [e0]
      have e1:=half_small HX.out.1
      have HN1:=hid (HC1.out.set0 (Int.tdiv x.a 2))
      have HN3:=hid (HC3.out.other (b':=w.heap.size) (o:=0) (.int .i64 (Int.tdiv x.a 2)) (by omega))
      have HNB:=hid (HB.out.setCell (p:=⟨w.heap.size,0,none⟩) (Nat.le_refl _) (.int .i64 (Int.tdiv x.a 2)))
      have HNS:Hid (w.heap.size+2≤(wr.setCell ⟨w.heap.size,0,none⟩ (.int .i64 (Int.tdiv x.a 2))).heap.size):=by show _≤_; rw [World.size_setCell]; exact HSZ.out
      clear z0 z1 z2 z3 z4 z5 z6 zf;go_wp2_with fail;go_roundg 6
      case measure=>omega
      case rel=>exact ⟨1,by omega,by omega,by go_num,HT2.out,HN1.out,HN3.out,HNB.out,HNS.out⟩
     ·have HR:Hid (drootQ x=(zD,2)):=HE1.out.trans (by
       have e1:evE x.a=false:=decide_eq_false he
       have e2:x.even=false:=by simp [Dm.even,e1]
       rw [e2]; simp)
      have hb:(Int.tmod x.a 2 != 0)=true:=by rw [bne_iff_ne]; exact he
      go_wp2_with fail;rw [HR.out];refine bodyPost_ret (v:=.tuple #[.agg zD.cells,.int .i64 2]) (by simp [results,Tryz.results123,go_sem,Dm.cells,zD,z0,z1,z2,z3,z4,z5,z6]) rfl ⟨rfl,?_⟩
      exact below7 (B:=w.heap.size) HB.out (b:=w.heap.size+1) (by omega) zD
    ·have c1:wr.cell? ⟨w.heap.size,1,none⟩=some (.int .i64 x.b):=HC1.out.cells.1.2.1
     have cf:=HC1.out.cells.2.1 1
     by_cases he:Int.tmod x.b 2=0
     ·have HT2:Hid (x.evTo 2=true):=by
       have e1:evE x.b=true:=decide_eq_true he
       have e0:=HT.out
       show Dm.evTo _ _=true
       simp [Dm.evTo,e1]at e0 ⊢
       try simp [e0]
      have e1:=half_small HX.out.2.1
      have HN1:=hid (HC1.out.set1 (Int.tdiv x.b 2))
      have HN3:=hid (HC3.out.other (b':=w.heap.size) (o:=1) (.int .i64 (Int.tdiv x.b 2)) (by omega))
      have HNB:=hid (HB.out.setCell (p:=⟨w.heap.size,1,none⟩) (Nat.le_refl _) (.int .i64 (Int.tdiv x.b 2)))
      have HNS:Hid (w.heap.size+2≤(wr.setCell ⟨w.heap.size,1,none⟩ (.int .i64 (Int.tdiv x.b 2))).heap.size):=by show _≤_; rw [World.size_setCell]; exact HSZ.out
      clear z0 z1 z2 z3 z4 z5 z6 zf;go_wp2_with fail;go_roundg 5
      case measure=>omega
      case rel=>exact ⟨2,by omega,by omega,by go_num,HT2.out,HN1.out,HN3.out,HNB.out,HNS.out⟩
     ·have HR:Hid (drootQ x=(zD,2)):=HE1.out.trans (by
       have e1:evE x.b=false:=decide_eq_false he
       have e2:x.even=false:=by simp [Dm.even,e1]
       rw [e2]; simp)
      have hb:(Int.tmod x.b 2 != 0)=true:=by rw [bne_iff_ne]; exact he
      go_wp2_with fail;rw [HR.out];refine bodyPost_ret (v:=.tuple #[.agg zD.cells,.int .i64 2]) (by simp [results,Tryz.results123,go_sem,Dm.cells,zD,z0,z1,z2,z3,z4,z5,z6]) rfl ⟨rfl,?_⟩
      exact below7 (B:=w.heap.size) HB.out (b:=w.heap.size+1) (by omega) zD
    ·have c1:wr.cell? ⟨w.heap.size,2,none⟩=some (.int .i64 x.c):=HC1.out.cells.1.2.2.1
     have cf:=HC1.out.cells.2.1 2
     by_cases he:Int.tmod x.c 2=0
     ·have HT2:Hid (x.evTo 3=true):=by
       have e1:evE x.c=true:=decide_eq_true he
       have e0:=HT.out
       show Dm.evTo _ _=true
       simp [Dm.evTo,e1]at e0 ⊢
       try simp [e0]
      have e1:=half_small HX.out.2.2.1
      have HN1:=hid (HC1.out.set2 (Int.tdiv x.c 2))
      have HN3:=hid (HC3.out.other (b':=w.heap.size) (o:=2) (.int .i64 (Int.tdiv x.c 2)) (by omega))
      have HNB:=hid (HB.out.setCell (p:=⟨w.heap.size,2,none⟩) (Nat.le_refl _) (.int .i64 (Int.tdiv x.c 2)))
      have HNS:Hid (w.heap.size+2≤(wr.setCell ⟨w.heap.size,2,none⟩ (.int .i64 (Int.tdiv x.c 2))).heap.size):=by show _≤_; rw [World.size_setCell]; exact HSZ.out
      clear z0 z1 z2 z3 z4 z5 z6 zf;go_wp2_with fail;go_roundg 4
      case measure=>omega
      case rel=>exact ⟨3,by omega,by omega,by go_num,HT2.out,HN1.out,HN3.out,HNB.out,HNS.out⟩
     ·have HR:Hid (drootQ x=(zD,2)):=HE1.out.trans (by
       have e1:evE x.c=false:=decide_eq_false he
       have e2:x.even=false:=by simp [Dm.even,e1]
       rw [e2]; simp)
      have hb:(Int.tmod x.c 2 != 0)=true:=by rw [bne_iff_ne]; exact he
      go_wp2_with fail;rw [HR.out];refine bodyPost_ret (v:=.tuple #[.agg zD.cells,.int .i64 2]) (by simp [results,Tryz.results123,go_sem,Dm.cells,zD,z0,z1,z2,z3,z4,z5,z6]) rfl ⟨rfl,?_⟩
      exact below7 (B:=w.heap.size) HB.out (b:=w.heap.size+1) (by omega) zD
    ·have c1:wr.cell? ⟨w.heap.size,3,none⟩=some (.int .i64 x.d):=HC1.out.cells.1.2.2.2.1
     have cf:=HC1.out.cells.2.1 3
     by_cases he:Int.tmod x.d 2=0
     ·have HT2:Hid (x.evTo 4=true):=by
       have e1:evE x.d=true:=decide_eq_true he
       have e0:=HT.out
       show Dm.evTo _ _=true
       simp [Dm.evTo,e1]at e0 ⊢
       try simp [e0]
      have e1:=half_small HX.out.2.2.2.1
      have HN1:=hid (HC1.out.set3 (Int.tdiv x.d 2))
      have HN3:=hid (HC3.out.other (b':=w.heap.size) (o:=3) (.int .i64 (Int.tdiv x.d 2)) (by omega))
      have HNB:=hid (HB.out.setCell (p:=⟨w.heap.size,3,none⟩) (Nat.le_refl _) (.int .i64 (Int.tdiv x.d 2)))
      have HNS:Hid (w.heap.size+2≤(wr.setCell ⟨w.heap.size,3,none⟩ (.int .i64 (Int.tdiv x.d 2))).heap.size):=by show _≤_; rw [World.size_setCell]; exact HSZ.out
      clear z0 z1 z2 z3 z4 z5 z6 zf;go_wp2_with fail;go_roundg 3
      case measure=>omega
      case rel=>exact ⟨4,by omega,by omega,by go_num,HT2.out,HN1.out,HN3.out,HNB.out,HNS.out⟩
     ·have HR:Hid (drootQ x=(zD,2)):=HE1.out.trans (by
       have e1:evE x.d=false:=decide_eq_false he
       have e2:x.even=false:=by simp [Dm.even,e1]
       rw [e2]; simp)
      have hb:(Int.tmod x.d 2 != 0)=true:=by rw [bne_iff_ne]; exact he
      go_wp2_with fail;rw [HR.out];refine bodyPost_ret (v:=.tuple #[.agg zD.cells,.int .i64 2]) (by simp [results,Tryz.results123,go_sem,Dm.cells,zD,z0,z1,z2,z3,z4,z5,z6]) rfl ⟨rfl,?_⟩
      exact below7 (B:=w.heap.size) HB.out (b:=w.heap.size+1) (by omega) zD
    ·have c1:wr.cell? ⟨w.heap.size,4,none⟩=some (.int .i64 x.e):=HC1.out.cells.1.2.2.2.2.1
     have cf:=HC1.out.cells.2.1 4
     by_cases he:Int.tmod x.e 2=0
     ·have HT2:Hid (x.evTo 5=true):=by
       have e1:evE x.e=true:=decide_eq_true he
       have e0:=HT.out
       show Dm.evTo _ _=true
       simp [Dm.evTo,e1]at e0 ⊢
       try simp [e0]
      have e1:=half_small HX.out.2.2.2.2.1
      have HN1:=hid (HC1.out.set4 (Int.tdiv x.e 2))
      have HN3:=hid (HC3.out.other (b':=w.heap.size) (o:=4) (.int .i64 (Int.tdiv x.e 2)) (by omega))
      have HNB:=hid (HB.out.setCell (p:=⟨w.heap.size,4,none⟩) (Nat.le_refl _) (.int .i64 (Int.tdiv x.e 2)))
      have HNS:Hid (w.heap.size+2≤(wr.setCell ⟨w.heap.size,4,none⟩ (.int .i64 (Int.tdiv x.e 2))).heap.size):=by show _≤_; rw [World.size_setCell]; exact HSZ.out
      clear z0 z1 z2 z3 z4 z5 z6 zf;go_wp2_with fail;go_roundg 2
      case measure=>omega
      case rel=>exact ⟨5,by omega,by omega,by go_num,HT2.out,HN1.out,HN3.out,HNB.out,HNS.out⟩
     ·have HR:Hid (drootQ x=(zD,2)):=HE1.out.trans (by
       have e1:evE x.e=false:=decide_eq_false he
       have e2:x.even=false:=by simp [Dm.even,e1]
       rw [e2]; simp)
      have hb:(Int.tmod x.e 2 != 0)=true:=by rw [bne_iff_ne]; exact he
      go_wp2_with fail;rw [HR.out];refine bodyPost_ret (v:=.tuple #[.agg zD.cells,.int .i64 2]) (by simp [results,Tryz.results123,go_sem,Dm.cells,zD,z0,z1,z2,z3,z4,z5,z6]) rfl ⟨rfl,?_⟩
      exact below7 (B:=w.heap.size) HB.out (b:=w.heap.size+1) (by omega) zD
    ·have c1:wr.cell? ⟨w.heap.size,5,none⟩=some (.int .i64 x.f):=HC1.out.cells.1.2.2.2.2.2.1
     have cf:=HC1.out.cells.2.1 5
     by_cases he:Int.tmod x.f 2=0
     ·have HT2:Hid (x.evTo 6=true):=by
       have e1:evE x.f=true:=decide_eq_true he
       have e0:=HT.out
       show Dm.evTo _ _=true
       simp [Dm.evTo,e1]at e0 ⊢
       try simp [e0]
      have e1:=half_small HX.out.2.2.2.2.2.1
      have HN1:=hid (HC1.out.set5 (Int.tdiv x.f 2))
      have HN3:=hid (HC3.out.other (b':=w.heap.size) (o:=5) (.int .i64 (Int.tdiv x.f 2)) (by omega))
      have HNB:=hid (HB.out.setCell (p:=⟨w.heap.size,5,none⟩) (Nat.le_refl _) (.int .i64 (Int.tdiv x.f 2)))
      have HNS:Hid (w.heap.size+2≤(wr.setCell ⟨w.heap.size,5,none⟩ (.int .i64 (Int.tdiv x.f 2))).heap.size):=by show _≤_; rw [World.size_setCell]; exact HSZ.out
      clear z0 z1 z2 z3 z4 z5 z6 zf;go_wp2_with fail;go_roundg 1
      case measure=>omega
      case rel=>exact ⟨6,by omega,by omega,by go_num,HT2.out,HN1.out,HN3.out,HNB.out,HNS.out⟩
     ·have HR:Hid (drootQ x=(zD,2)):=HE1.out.trans (by
       have e1:evE x.f=false:=decide_eq_false he
       have e2:x.even=false:=by simp [Dm.even,e1]
       rw [e2]; simp)
      have hb:(Int.tmod x.f 2 != 0)=true:=by rw [bne_iff_ne]; exact he
      go_wp2_with fail;rw [HR.out];refine bodyPost_ret (v:=.tuple #[.agg zD.cells,.int .i64 2]) (by simp [results,Tryz.results123,go_sem,Dm.cells,zD,z0,z1,z2,z3,z4,z5,z6]) rfl ⟨rfl,?_⟩
      exact below7 (B:=w.heap.size) HB.out (b:=w.heap.size+1) (by omega) zD
    ·have c1:wr.cell? ⟨w.heap.size,6,none⟩=some (.int .i64 x.g):=HC1.out.cells.1.2.2.2.2.2.2
     have cf:=HC1.out.cells.2.1 6
     by_cases he:Int.tmod x.g 2=0
     ·have HT2:Hid (x.evTo 7=true):=by
       have e1:evE x.g=true:=decide_eq_true he
       have e0:=HT.out
       show Dm.evTo _ _=true
       simp [Dm.evTo,e1]at e0 ⊢
       try simp [e0]
      have e1:=half_small HX.out.2.2.2.2.2.2
      have HN1:=hid (HC1.out.set6 (Int.tdiv x.g 2))
      have HN3:=hid (HC3.out.other (b':=w.heap.size) (o:=6) (.int .i64 (Int.tdiv x.g 2)) (by omega))
      have HNB:=hid (HB.out.setCell (p:=⟨w.heap.size,6,none⟩) (Nat.le_refl _) (.int .i64 (Int.tdiv x.g 2)))
      have HNS:Hid (w.heap.size+2≤(wr.setCell ⟨w.heap.size,6,none⟩ (.int .i64 (Int.tdiv x.g 2))).heap.size):=by show _≤_; rw [World.size_setCell]; exact HSZ.out
      clear z0 z1 z2 z3 z4 z5 z6 zf;go_wp2_with fail;go_roundg 0
      case measure=>omega
      case rel=>exact ⟨7,by omega,by omega,by go_num,HT2.out,HN1.out,HN3.out,HNB.out,HNS.out⟩
     ·have HR:Hid (drootQ x=(zD,2)):=HE1.out.trans (by
       have e1:evE x.g=false:=decide_eq_false he
       have e2:x.even=false:=by simp [Dm.even,e1]
       rw [e2]; simp)
      have hb:(Int.tmod x.g 2 != 0)=true:=by rw [bne_iff_ne]; exact he
      go_wp2_with fail;rw [HR.out];refine bodyPost_ret (v:=.tuple #[.agg zD.cells,.int .i64 2]) (by simp [results,Tryz.results123,go_sem,Dm.cells,zD,z0,z1,z2,z3,z4,z5,z6]) rfl ⟨rfl,?_⟩
      exact below7 (B:=w.heap.size) HB.out (b:=w.heap.size+1) (by omega) zD
   ·have hltz:¬ (i:Int)<7:=by omega
    have e7:i=7:=by omega
    subst e7;have hc1:K7 wr w.heap.size ⟨Int.tdiv x.a 2,Int.tdiv x.b 2,Int.tdiv x.c 2,Int.tdiv x.d 2,Int.tdiv x.e 2,Int.tdiv x.f 2,Int.tdiv x.g 2⟩:=HC1.out
    obtain ⟨⟨p0,p1,p2,p3,p4,p5,p6⟩,_,_⟩:=hc1.cells
    have HR:Hid (drootQ x=(⟨Int.tdiv x.a 2,Int.tdiv x.b 2,Int.tdiv x.c 2,Int.tdiv x.d 2,Int.tdiv x.e 2,Int.tdiv x.f 2,Int.tdiv x.g 2⟩,0)):=HE1.out.trans (if_pos (HEV.out.symm.trans HT.out))
    clear hc1;go_wp2_with fail;rw [HR.out];refine bodyPost_ret (v:=.tuple #[.agg (Dm.cells ⟨Int.tdiv x.a 2,Int.tdiv x.b 2,Int.tdiv x.c 2,Int.tdiv x.d 2,Int.tdiv x.e 2,Int.tdiv x.f 2,Int.tdiv x.g 2⟩),.int .i64 0]) (by simp [results,Tryz.results123,go_sem,Dm.cells,z0,z1,z2,z3,z4,z5,z6]) rfl ⟨rfl,?_⟩
    exact below7 (B:=w.heap.size) HB.out (b:=w.heap.size+1) (by omega) ⟨Int.tdiv x.a 2,Int.tdiv x.b 2,Int.tdiv x.c 2,Int.tdiv x.d 2,Int.tdiv x.e 2,Int.tdiv x.f 2,Int.tdiv x.g 2⟩
end Go.Proofs.YtknpigdpepmimaaGreatDoor
namespace Go.Proofs.YtknpigdpepmimaaGreatDoor.Q
open Go.Lib(hid)
def validQ (n d:Int):Bool:=decide (1≤d)&&decide (d≤2147483647)&&decide (-2147483647≤n)&&decide (n≤2147483647)&&(Nat.gcd n.natAbs d.natAbs == 1)
structure Res where
 num:Int
 den:Int
 err:Int
def red (neg:Bool)(a b:Nat):Res:=
 if a / Nat.gcd a b≤2147483647∧b / Nat.gcd a b≤2147483647 then ⟨if neg then -((a / Nat.gcd a b:Nat):Int)else ((a / Nat.gcd a b:Nat):Int),((b / Nat.gcd a b:Nat):Int),0⟩else ⟨0,0,2⟩
def mk (n d:Int):Res:=if d=0 then ⟨0,0,10⟩else red (decide (n<0) != decide (d<0)) n.natAbs d.natAbs
theorem valid_iff (n d:Int):validQ n d=true↔1≤d∧d≤2147483647∧-2147483647≤n∧n≤2147483647∧Nat.gcd n.natAbs d.natAbs=1:=by
 unfold validQ;simp only [Bool.and_eq_true,decide_eq_true_eq,beq_iff_eq];constructor
 ·rintro ⟨⟨⟨⟨h1,h2⟩,h3⟩,h4⟩,h5⟩; exact ⟨h1,h2,h3,h4,h5⟩
 ·rintro ⟨h1,h2,h3,h4,h5⟩; exact ⟨⟨⟨⟨h1,h2⟩,h3⟩,h4⟩,h5⟩
theorem mk_eq {n d p q:Int}(hv:validQ p q=true)(hd:d≠0)(he:n*q=p*d):mk n d=⟨p,q,0⟩:=by
 have hv':=hv
 rw [valid_iff]at hv
 obtain ⟨h1,h2,h3,h4,h5⟩:=hv
 have e:n.natAbs*q.natAbs=p.natAbs*d.natAbs:=by rw [← Int.natAbs_mul,← Int.natAbs_mul,he]
 have c1:Nat.Coprime q.natAbs p.natAbs:=by rw [Nat.coprime_comm]; exact h5
 have hqp:0<q.natAbs:=by omega
 have dv:q.natAbs ∣ d.natAbs:=c1.dvd_of_dvd_mul_left (by rw [← e]; exact Nat.dvd_mul_left _ _)
 obtain ⟨g,hg⟩:=dv
 have hn:n.natAbs=p.natAbs*g:=by
  rw [hg]at e
  have:n.natAbs*q.natAbs=(p.natAbs*g)*q.natAbs:=by rw [e,Nat.mul_assoc,Nat.mul_comm g]
  exact Nat.eq_of_mul_eq_mul_right hqp this
 have hgp:0<g:=by
  rcases Nat.eq_zero_or_pos g with h0|h0
  ·subst h0; simp at hg; exact absurd hg hd
  ·exact h0
 have hgcd:Nat.gcd n.natAbs d.natAbs=g:=by rw [hn,hg,Nat.gcd_mul_right,h5,Nat.one_mul]
 unfold mk;rw [if_neg hd];unfold red;rw [hgcd,hn,hg,Nat.mul_div_cancel _ hgp,Nat.mul_div_cancel _ hgp,if_pos ⟨by omega,by omega⟩]
 have hq:((q.natAbs:Nat):Int)=q:=by omega
 rw [hq];congr 1
 -- the sign
 have hpos:∀ x y:Int,0<y→(x*y<0↔x<0):=fun x y hy=>by
  constructor
  ·intro h
   rcases Int.lt_or_le x 0 with h0|h0
   ·exact h0
   ·have:=Int.mul_nonneg h0 (Int.le_of_lt hy); omega
  ·intro h; exact Int.mul_neg_of_neg_of_pos h hy
 rcases Int.lt_trichotomy d 0 with hd0|hd0|hd0
 ·-- d<0: n<0 iff p > 0
  have:(n<0)↔(0<p):=by
   rw [← hpos n q (by omega),he]
   constructor
   ·intro h
    rcases Int.lt_or_le 0 p with h0|h0
    ·exact h0
    ·have:=Int.mul_nonneg_of_nonpos_of_nonpos h0 (Int.le_of_lt hd0); omega
   ·intro h; exact Int.mul_neg_of_pos_of_neg h hd0
  by_cases hp:0<p
  ·rw [if_neg (by simp [this.2 hp,hd0])]; omega
  ·have hn0:¬ n<0:=fun h=>hp (this.1 h)
   rw [if_pos (by simp [hn0,hd0])]; omega
 ·exact absurd hd0 hd
 ·have:(n<0)↔(p<0):=by rw [← hpos n q (by omega),he,hpos p d hd0]
  have hd1:¬ d<0:=by omega
  by_cases hp:p<0
  ·rw [if_pos (by simp [this.2 hp,hd1])]; omega
  ·have hn0:¬ n<0:=fun h=>hp (this.1 h)
   rw [if_neg (by simp [hn0,hd1])]; omega
def addQ (a b c d:Int):Res:=if validQ a b&&validQ c d then mk (a*d+c*b) (b*d)else ⟨0,0,1⟩
def subQ (a b c d:Int):Res:=if validQ a b&&validQ c d then mk (a*d-c*b) (b*d)else ⟨0,0,1⟩
def mulQ (a b c d:Int):Res:=if validQ a b&&validQ c d then mk (a*c) (b*d)else ⟨0,0,1⟩
def divQ (a b c d:Int):Res:=if validQ a b&&validQ c d then mk (a*d) (b*c)else ⟨0,0,1⟩
def negQ (a b:Int):Res:=if validQ a b then ⟨-a,b,0⟩else ⟨0,0,1⟩
theorem prod_bnd {a b:Int}(h1:-2147483647≤a)(h2:a≤2147483647)(h3:-2147483647≤b)(h4:b≤2147483647):-4611686014132420609≤a*b∧a*b≤4611686014132420609:=by
 have ha:a.natAbs≤2147483647:=by omega
 have hb:b.natAbs≤2147483647:=by omega
 have:(a*b).natAbs≤2147483647*2147483647:=by rw [Int.natAbs_mul]; exact Nat.mul_le_mul ha hb
 omega
end Go.Proofs.YtknpigdpepmimaaGreatDoor.Q
namespace Go.Proofs.YtknpigdpepmimaaGreatDoor.Q
open Go.Lib(hid)
def fitB (p q:Int):Bool:=decide (-2147483647≤p)&&decide (p≤2147483647)&&decide (q≤2147483647)
def powN (a b:Int) (k:Nat):Res:=if fitB (a ^ k) (b ^ k)then ⟨a ^ k,b ^ k,0⟩else ⟨0,0,2⟩
def powQ (a b n:Int):Res:=
 if validQ a b then
  if a=0∧n<0 then ⟨0,0,10⟩
  else if n<0 then powN (a.sign*b) a.natAbs n.natAbs else powN a b n.natAbs
 else ⟨0,0,1⟩
theorem fit_iff (p q:Int):fitB p q=true↔-2147483647≤p∧p≤2147483647∧q≤2147483647:=by
 unfold fitB;simp only [Bool.and_eq_true,decide_eq_true_eq];constructor
 ·rintro ⟨⟨h1,h2⟩,h3⟩; exact ⟨h1,h2,h3⟩
 ·rintro ⟨h1,h2,h3⟩; exact ⟨⟨h1,h2⟩,h3⟩
theorem fit_abs (p q:Int)(hq:0≤q):fitB p q=true↔p.natAbs≤2147483647∧q.natAbs≤2147483647:=by
 rw [fit_iff]; omega
theorem natAbs_pow' (a:Int) (k:Nat):(a ^ k).natAbs=a.natAbs ^ k:=by
 induction k with
 | zero=>simp
 | succ k ih=>rw [Int.pow_succ,Int.natAbs_mul,ih,Nat.pow_succ]
theorem pow_pos' {b:Int}(hb:1≤b) (k:Nat):1≤b ^ k:=by
 have:0<b ^ k:=Int.pow_pos (by omega)
 omega
theorem coprime_pow {a b:Nat}(h:Nat.gcd a b=1)(k j:Nat):Nat.gcd (a ^ k) (b ^ j)=1:=Nat.Coprime.pow k j h
theorem valid_pow {a b:Int}(h:validQ a b=true){k:Nat}(hf:fitB (a ^ k) (b ^ k)=true):validQ (a ^ k) (b ^ k)=true:=by
 rw [valid_iff]at h ⊢
 rw [fit_iff]at hf
 refine ⟨pow_pos' h.1 k,hf.2.2,hf.1,hf.2.1,?_⟩
 rw [natAbs_pow',natAbs_pow'];exact coprime_pow h.2.2.2.2 k k
theorem mk_far {n d:Int}(hd:1≤d)(hc:Nat.gcd n.natAbs d.natAbs=1)(hf:fitB n d=false):mk n d=⟨0,0,2⟩:=by
 unfold mk red;rw [if_neg (by omega),hc,Nat.div_one,Nat.div_one,if_neg]
 intro h;have:fitB n d=true:=(fit_abs n d (by omega)).2 h
 rw [hf]at this; cases this
theorem mk_pow {a b:Int}(h:validQ a b=true) (k:Nat):mk (a ^ k) (b ^ k)=powN a b k:=by
 unfold powN;have hb:=(valid_iff a b).1 h
 have hp:=pow_pos' hb.1 k
 by_cases hf:fitB (a ^ k) (b ^ k)=true
 ·rw [if_pos hf]
  exact mk_eq (valid_pow h hf) (by omega) rfl
 ·rw [if_neg hf]
  refine mk_far hp ?_ (by simpa using hf)
  rw [natAbs_pow',natAbs_pow'];exact coprime_pow hb.2.2.2.2 k k
theorem mul_pow {a b:Int}(h:validQ a b=true){i j:Nat}(hi:fitB (a ^ i) (b ^ i)=true)(hj:fitB (a ^ j) (b ^ j)=true):
  mulQ (a ^ i) (b ^ i) (a ^ j) (b ^ j)=powN a b (i+j):=by
 unfold mulQ;rw [valid_pow h hi,valid_pow h hj,← Int.pow_add,← Int.pow_add];exact mk_pow h _
theorem mul_pow1 {a b:Int}(h:validQ a b=true){i:Nat}(hi:fitB (a ^ i) (b ^ i)=true):
  mulQ (a ^ i) (b ^ i) a b=powN a b (i+1):=by
 have hb:=(valid_iff a b).1 h
 have:=mul_pow h (i:=i) (j:=1) hi (by rw [Int.pow_one,Int.pow_one,fit_iff]; omega)
 rwa [Int.pow_one,Int.pow_one]at this
theorem pow_le_of {x i k:Nat}(h:i≤k)(hk:x ^ k≤2147483647):x ^ i≤2147483647:=by
 rcases Nat.eq_zero_or_pos x with h0|h0
 ·subst h0
  have:=@Nat.zero_pow i
  rcases Nat.eq_zero_or_pos i with h1|h1
  ·subst h1; simp
  ·rw [this h1]; omega
 ·exact Nat.le_trans (Nat.pow_le_pow_right h0 h) hk
theorem fit_mono {a b:Int}(hb:1≤b){i k:Nat}(h:i≤k)(hf:fitB (a ^ k) (b ^ k)=true):fitB (a ^ i) (b ^ i)=true:=by
 have h1:=pow_pos' hb i
 have h2:=pow_pos' hb k
 rw [fit_abs _ _ (by omega),natAbs_pow',natAbs_pow']at hf ⊢
 exact ⟨pow_le_of h hf.1,pow_le_of h hf.2⟩
theorem powN_far {a b:Int}(hb:1≤b){i k:Nat}(h:i≤k)(hf:fitB (a ^ i) (b ^ i)=false):powN a b k=⟨0,0,2⟩:=by
 unfold powN;rw [if_neg];intro hk;rw [fit_mono hb h hk]at hf; cases hf
theorem powN_ok {a b:Int}{k:Nat}(hf:fitB (a ^ k) (b ^ k)=true):powN a b k=⟨a ^ k,b ^ k,0⟩:=by unfold powN; rw [if_pos hf]
theorem powN_bad {a b:Int}{k:Nat}(hf:fitB (a ^ k) (b ^ k)=false):powN a b k=⟨0,0,2⟩:=by unfold powN; rw [if_neg (by simp [hf])]
theorem inv_valid {a b:Int}(h:validQ a b=true)(ha:a≠0):validQ (a.sign*b) a.natAbs=true:=by
 rw [valid_iff]at h ⊢
 obtain ⟨h1,h2,h3,h4,h5⟩:=h
 have e:(a.sign*b).natAbs=b.natAbs:=by
  rw [Int.natAbs_mul,Int.natAbs_sign]; simp [ha]
 refine ⟨by omega,by omega,by omega,by omega,?_⟩
 rw [e,Int.natAbs_natCast,Nat.gcd_comm]; exact h5
theorem fit_inv {a b:Int}(hb:1≤b)(ha:a≠0) (k:Nat):fitB ((a.sign*b) ^ k) ((a.natAbs:Int) ^ k)=fitB (a ^ k) (b ^ k):=by
 have h1:(1:Int)≤(a.natAbs:Int) ^ k:=pow_pos' (by omega) k
 have h2:=pow_pos' hb k
 have e:(a.sign*b).natAbs=b.natAbs:=by
  rw [Int.natAbs_mul,Int.natAbs_sign]; simp [ha]
 rw [Bool.eq_iff_iff,fit_abs _ _ (by omega),fit_abs _ _ (by omega),natAbs_pow',natAbs_pow',natAbs_pow',natAbs_pow',e,Int.natAbs_natCast,and_comm]
theorem inv_pow {a b:Int}(h:validQ a b=true)(ha:a≠0){k:Nat}(hf:fitB (a ^ k) (b ^ k)=true):
  mk (b ^ k) (a ^ k)=powN (a.sign*b) a.natAbs k:=by
 have hb:=(valid_iff a b).1 h
 have hf':=hf
 rw [← fit_inv hb.1 ha]at hf'
 rw [powN_ok hf'];refine mk_eq (valid_pow (inv_valid h ha) hf') (Int.pow_ne_zero ha) ?_
 have:(a.natAbs:Int)=a.sign*a:=(Int.sign_mul_self a).symm
 rw [this,Int.mul_pow,Int.mul_pow];grind
theorem powQ_pos {a b n:Int}(h:validQ a b=true)(hn:¬ n<0):powQ a b n=powN a b n.natAbs:=by
 unfold powQ; rw [if_pos h,if_neg (by omega),if_neg hn]
theorem powQ_neg {a b n:Int}(h:validQ a b=true)(hn:n<0)(ha:a≠0):powQ a b n=powN (a.sign*b) a.natAbs n.natAbs:=by
 unfold powQ; rw [if_pos h,if_neg (by omega),if_pos hn]
theorem powQ_zero {b n:Int}(h:validQ 0 b=true)(hn:n<0):powQ 0 b n=⟨0,0,10⟩:=by
 unfold powQ; rw [if_pos h,if_pos ⟨rfl,hn⟩]
theorem powQ_arg {a b n:Int}(h:validQ a b=false):powQ a b n=⟨0,0,1⟩:=by
 unfold powQ; rw [if_neg (by simp [h])]
theorem powQ_far {a b n:Int}(h:validQ a b=true)(h0:¬ (a=0∧n<0)){i:Nat}(hi:i≤n.natAbs)(hf:fitB (a ^ i) (b ^ i)=false):powQ a b n=⟨0,0,2⟩:=by
 have hb:=(valid_iff a b).1 h
 by_cases hn:n<0
 ·have ha:a≠0:=fun e=>h0 ⟨e,hn⟩
  rw [powQ_neg h hn ha];exact powN_far (by omega) hi (by rw [fit_inv hb.1 ha,hf])
 ·rw [powQ_pos h hn]
  exact powN_far hb.1 hi hf
theorem two_pow_far {x:Nat}(hx:2≤x){k:Nat}(hk:31<k):¬ x ^ k≤2147483647:=by
 have h1:2 ^ k≤x ^ k:=Nat.pow_le_pow_left hx k
 have h2:2 ^ 32≤2 ^ k:=Nat.pow_le_pow_right (by omega) hk
 have:(2:Nat) ^ 32=4294967296:=by decide
 omega
theorem pow_far {a b:Int}(h:validQ a b=true)(h0:a≠0)(h1:¬ (b=1∧(a=1∨a=-1))){k:Nat}(hk:31<k):fitB (a ^ k) (b ^ k)=false:=by
 have hb:=(valid_iff a b).1 h
 have h2:=pow_pos' hb.1 k
 rw [Bool.eq_false_iff];intro hf;rw [Ne.eq_def] at*
 rw [fit_abs _ _ (by omega),natAbs_pow',natAbs_pow']at hf
 by_cases hb1:b=1
 ·exact two_pow_far (by omega) hk hf.1
 ·exact two_pow_far (by omega) hk hf.2
end Go.Proofs.YtknpigdpepmimaaGreatDoor.Q
namespace Go.Proofs.YtknpigdpepmimaaGreatDoor
open Go.Lib(hid)
open Go.RowKit
def Dm.times (n:Int)(x:Dm):Dm:=⟨x.a*n,x.b*n,x.c*n,x.d*n,x.e*n,x.f*n,x.g*n⟩
def mixP (x:Dm) (n:Int) (i:Nat):Dm:=match i with
 | 0=>⟨x.a,x.b,x.c,x.d,x.e,x.f,x.g⟩
 | 1=>⟨x.a*n,x.b,x.c,x.d,x.e,x.f,x.g⟩
 | 2=>⟨x.a*n,x.b*n,x.c,x.d,x.e,x.f,x.g⟩
 | 3=>⟨x.a*n,x.b*n,x.c*n,x.d,x.e,x.f,x.g⟩
 | 4=>⟨x.a*n,x.b*n,x.c*n,x.d*n,x.e,x.f,x.g⟩
 | 5=>⟨x.a*n,x.b*n,x.c*n,x.d*n,x.e*n,x.f,x.g⟩
 | 6=>⟨x.a*n,x.b*n,x.c*n,x.d*n,x.e*n,x.f*n,x.g⟩
 | _=>⟨x.a*n,x.b*n,x.c*n,x.d*n,x.e*n,x.f*n,x.g*n⟩
def dpowQ (x:Dm) (n:Int):Dm × Int:=if x.ok=true then (if x=zD then (zD,0)else if n < -100∨100<n then (zD,2)else if (x.times n).ok=true then (x.times n,0)else (zD,2))else (zD,1)
theorem mul_small {y n:Int}(hy:-100≤y∧y≤100)(hn:-100≤n∧n≤100):-1000000≤y*n∧y*n≤1000000:=by
 have h1:(y*n).natAbs≤100*100:=by
  rw [Int.natAbs_mul];exact Nat.mul_le_mul (by omega) (by omega)
 omega
set_option maxRecDepth 100000 in
set_option maxHeartbeats 4000000 in
theorem dpow_any (x:Dm) (n:Int)(w:World):Calls Tryz.prog 122 #[.agg x.cells,.int .i64 n] w fun e w'=>e=.returned (.tuple #[.agg (dpowQ x n).1.cells,.int .i64 (dpowQ x n).2])∧Below w.heap.size w w':=by
 have HE:Hid (dpowQ x n=if x.ok=true then (if x=zD then (zD,0)else if n < -100∨100<n then (zD,2)else if (x.times n).ok=true then (x.times n,0)else (zD,2))else (zD,1)):=rfl
 have HV1:=hid (uvalid_any x)
 have HV3:=hid (uvalid_any (x.times n))
 have HBX:=hid fun (h:x.ok=true)=>Dm.ok_all h
 have HZ:Hid (x=zD↔x.a=0∧x.b=0∧x.c=0∧x.d=0∧x.e=0∧x.f=0∧x.g=0):=by
  show _↔_
  cases x
  simp [zD]
 unfold Dm.cells at HV1 HV3 ⊢;unfold Dm.times at HE HV3;have hb1:Below w.heap.size w (w.alloc (.cells #[.int .i64 x.a,.int .i64 x.b,.int .i64 x.c,.int .i64 x.d,.int .i64 x.e,.int .i64 x.f,.int .i64 x.g] 42)):=(Below.refl _ _).alloc (Nat.le_refl _) _
 have hb3:Below w.heap.size w ((w.alloc (.cells #[.int .i64 x.a,.int .i64 x.b,.int .i64 x.c,.int .i64 x.d,.int .i64 x.e,.int .i64 x.f,.int .i64 x.g] 42)).alloc (.cells #[.int .i64 0,.int .i64 0,.int .i64 0,.int .i64 0,.int .i64 0,.int .i64 0,.int .i64 0] 42)):=hb1.alloc (by simp) _
 have hk1:K7 ((w.alloc (.cells #[.int .i64 x.a,.int .i64 x.b,.int .i64 x.c,.int .i64 x.d,.int .i64 x.e,.int .i64 x.f,.int .i64 x.g] 42)).alloc (.cells #[.int .i64 0,.int .i64 0,.int .i64 0,.int .i64 0,.int .i64 0,.int .i64 0,.int .i64 0] 42)) w.heap.size x:=(K7.new w x).reach ((Below.refl _ _).alloc (Nat.le_refl _) _)
 have hk3:=K7.new (w.alloc (.cells #[.int .i64 x.a,.int .i64 x.b,.int .i64 x.c,.int .i64 x.d,.int .i64 x.e,.int .i64 x.f,.int .i64 x.g] 42)) ⟨0,0,0,0,0,0,0⟩
 rw [World.size_alloc]at hk3
 have hsz:((w.alloc (.cells #[.int .i64 x.a,.int .i64 x.b,.int .i64 x.c,.int .i64 x.d,.int .i64 x.e,.int .i64 x.f,.int .i64 x.g] 42)).alloc (.cells #[.int .i64 0,.int .i64 0,.int .i64 0,.int .i64 0,.int .i64 0,.int .i64 0,.int .i64 0] 42)).heap.size=w.heap.size+2:=by simp
 have HK1:=hid hk1
 have HK3:Hid (K7 ((w.alloc (.cells #[.int .i64 x.a,.int .i64 x.b,.int .i64 x.c,.int .i64 x.d,.int .i64 x.e,.int .i64 x.f,.int .i64 x.g] 42)).alloc (.cells #[.int .i64 0,.int .i64 0,.int .i64 0,.int .i64 0,.int .i64 0,.int .i64 0,.int .i64 0] 42)) (w.heap.size+1) ⟨0,0,0,0,0,0,0⟩):=hk3
 have HB3:=hid hb3
 clear hb1 hb3 hk1 hk3;go_enter Tryz.func122,Tryz.ntmps122;go_upto_region 1 with (fail);generalize (w.alloc (.cells #[.int .i64 x.a,.int .i64 x.b,.int .i64 x.c,.int .i64 x.d,.int .i64 x.e,.int .i64 x.f,.int .i64 x.g] 42)).alloc (.cells #[.int .i64 0,.int .i64 0,.int .i64 0,.int .i64 0,.int .i64 0,.int .i64 0,.int .i64 0] 42)=w1 at*;obtain ⟨⟨p0,p1,p2,p3,p4,p5,p6⟩,_,_⟩:=HK1.out.cells
 go_wp2_with fail;refine (HV1.out w1).mono ?_
 rintro e w2 ⟨rfl,hb2⟩
 have HB2:=hid hb2
 have hs2:=hb2.size
 clear hb2 p0 p1 p2 p3 p4 p5 p6;have HBw:=hid (HB3.out.trans (HB2.out.mono (by omega)))
 have HL1:=hid (HK1.out.reach HB2.out)
 have HL3:=hid (HK3.out.reach HB2.out)
 obtain ⟨⟨z0,z1,z2,z3,z4,z5,z6⟩,zf,_⟩:=HL3.out.cells
 obtain ⟨⟨p0,p1,p2,p3,p4,p5,p6⟩,_,_⟩:=HL1.out.cells
 cases h1:x.ok with
 | false=>
  have HR:Hid (dpowQ x n=(zD,1)):=HE.out.trans (by rw [h1]; simp)
  clear h1;go_wp2_with fail;rw [HR.out];refine bodyPost_ret (v:=.tuple #[.agg zD.cells,.int .i64 1]) (by simp [results,Tryz.results122,go_sem,Dm.cells,zD,z0,z1,z2,z3,z4,z5,z6]) rfl ⟨rfl,?_⟩
  exact below7 (B:=w.heap.size) HBw.out (b:=w.heap.size+1) (by omega) zD
 | true=>
  have HX:=hid (HBX.out h1)
  have HE1:Hid (dpowQ x n=if x=zD then (zD,0)else if n < -100∨100<n then (zD,2)else if (⟨x.a*n,x.b*n,x.c*n,x.d*n,x.e*n,x.f*n,x.g*n⟩:Dm).ok=true then (⟨x.a*n,x.b*n,x.c*n,x.d*n,x.e*n,x.f*n,x.g*n⟩,0)else (zD,2)):=HE.out.trans (if_pos h1)
  clear h1 HE HBX;have hE:∀ w',(Op.equalIn 10000 42 (.agg #[.int .i64 x.a,.int .i64 x.b,.int .i64 x.c,.int .i64 x.d,.int .i64 x.e,.int .i64 x.f,.int .i64 x.g]) (.agg #[.int .i64 0,.int .i64 0,.int .i64 0,.int .i64 0,.int .i64 0,.int .i64 0,.int .i64 0])).run Tryz.prog w'=.ok (decide (x=zD)) w':=eq42 x zD
  by_cases hz:x=zD
  ·have HR:Hid (dpowQ x n=(zD,0)):=HE1.out.trans (if_pos hz)
   rw [decide_eq_true hz]at hE
   have HZX:=hid hz
   clear HE1 hz;go_wp2_with fail;rw [HR.out];refine bodyPost_ret (v:=.tuple #[.agg (Dm.cells x),.int .i64 0]) (by simp [results,Tryz.results122,go_sem,Dm.cells,z0,z1,z2,z3,z4,z5,z6]) rfl ⟨by rw [HZX.out]; rfl,?_⟩
   exact below7 (B:=w.heap.size) HBw.out (b:=w.heap.size+1) (by omega) x
  ·have HE2:Hid (dpowQ x n=if n < -100∨100<n then (zD,2)else if (⟨x.a*n,x.b*n,x.c*n,x.d*n,x.e*n,x.f*n,x.g*n⟩:Dm).ok=true then (⟨x.a*n,x.b*n,x.c*n,x.d*n,x.e*n,x.f*n,x.g*n⟩,0)else (zD,2)):=HE1.out.trans (if_neg hz)
   rw [decide_eq_false hz]at hE
   clear HE1 hz;by_cases h1:n < -100
   ·have HR:Hid (dpowQ x n=(zD,2)):=HE2.out.trans (if_pos (.inl h1))
    go_wp2_with fail;rw [HR.out];refine bodyPost_ret (v:=.tuple #[.agg zD.cells,.int .i64 2]) (by simp [results,Tryz.results122,go_sem,Dm.cells,zD,z0,z1,z2,z3,z4,z5,z6]) rfl ⟨rfl,?_⟩
    exact below7 (B:=w.heap.size) HBw.out (b:=w.heap.size+1) (by omega) zD
   ·by_cases h2:100<n
    ·have HR:Hid (dpowQ x n=(zD,2)):=HE2.out.trans (if_pos (.inr h2))
     go_wp2_with fail;rw [HR.out];refine bodyPost_ret (v:=.tuple #[.agg zD.cells,.int .i64 2]) (by simp [results,Tryz.results122,go_sem,Dm.cells,zD,z0,z1,z2,z3,z4,z5,z6]) rfl ⟨rfl,?_⟩
     exact below7 (B:=w.heap.size) HBw.out (b:=w.heap.size+1) (by omega) zD
    ·have HE3:Hid (dpowQ x n=if (⟨x.a*n,x.b*n,x.c*n,x.d*n,x.e*n,x.f*n,x.g*n⟩:Dm).ok=true then (⟨x.a*n,x.b*n,x.c*n,x.d*n,x.e*n,x.f*n,x.g*n⟩,0)else (zD,2)):=HE2.out.trans (if_neg (by omega))
     have HN:Hid (-100≤n∧n≤100):=by show _∧_; omega
     clear HE2;go_upto_region 7 with (fail);clear p0 p1 p2 p3 p4 p5 p6 z0 z1 z2 z3 z4 z5 z6 zf hE;go_wp2_with fail;go_loopg [6,22] 7 (fun gg s6 s22 wr=>∃ i:Nat,i≤7∧7-i≤gg∧s22=.int .i64 i∧Aside (K7 wr w.heap.size (mixP x n i))∧Aside (K7 wr (w.heap.size+1) ⟨0,0,0,0,0,0,0⟩)∧Aside (Below w.heap.size w wr)∧Aside (w.heap.size+2≤wr.heap.size))
     case atStart=>exact ⟨0,by omega,by omega,rfl,HL1.out,HL3.out,HBw.out,by show _≤_; omega⟩
     case round=>
      obtain ⟨i,hi,hgg,rfl,HC1,HC3,HB,HSZ⟩:=hrel
      by_cases hlt:i<7
      ·have hltz:(i:Int)<7:=by omega
       rcases (show i=0∨i=1∨i=2∨i=3∨i=4∨i=5∨i=6 by omega)with rfl|rfl|rfl|rfl|rfl|rfl|rfl
       ·have c1:wr.cell? ⟨w.heap.size,0,none⟩=some (.int .i64 x.a):=HC1.out.cells.1.1
        have cf:=HC1.out.cells.2.1 0
        have e1:IntKind.i64.wrap (x.a*n)=x.a*n:=wrap_small (mul_small HX.out.1 HN.out)
        have HN1:=hid (HC1.out.set0 (x.a*n))
        have HN3:=hid (HC3.out.other (b':=w.heap.size) (o:=0) (.int .i64 (x.a*n)) (by omega))
        have HNB:=hid (HB.out.setCell (p:=⟨w.heap.size,0,none⟩) (Nat.le_refl _) (.int .i64 (x.a*n)))
        have HNS:Hid (w.heap.size+2≤(wr.setCell ⟨w.heap.size,0,none⟩ (.int .i64 (x.a*n))).heap.size):=by show _≤_; rw [World.size_setCell]; exact HSZ.out
        go_wp2_with fail;go_roundg 6
        case measure=>omega
        case rel=>exact ⟨1,by omega,by omega,by go_num,HN1.out,HN3.out,HNB.out,HNS.out⟩
       ·have c1:wr.cell? ⟨w.heap.size,1,none⟩=some (.int .i64 x.b):=HC1.out.cells.1.2.1
        have cf:=HC1.out.cells.2.1 1
        have e1:IntKind.i64.wrap (x.b*n)=x.b*n:=wrap_small (mul_small HX.out.2.1 HN.out)
        have HN1:=hid (HC1.out.set1 (x.b*n))
        have HN3:=hid (HC3.out.other (b':=w.heap.size) (o:=1) (.int .i64 (x.b*n)) (by omega))
        have HNB:=hid (HB.out.setCell (p:=⟨w.heap.size,1,none⟩) (Nat.le_refl _) (.int .i64 (x.b*n)))
        have HNS:Hid (w.heap.size+2≤(wr.setCell ⟨w.heap.size,1,none⟩ (.int .i64 (x.b*n))).heap.size):=by show _≤_; rw [World.size_setCell]; exact HSZ.out
        go_wp2_with fail;go_roundg 5
        case measure=>omega
        case rel=>exact ⟨2,by omega,by omega,by go_num,HN1.out,HN3.out,HNB.out,HNS.out⟩
       ·have c1:wr.cell? ⟨w.heap.size,2,none⟩=some (.int .i64 x.c):=HC1.out.cells.1.2.2.1
        have cf:=HC1.out.cells.2.1 2
        have e1:IntKind.i64.wrap (x.c*n)=x.c*n:=wrap_small (mul_small HX.out.2.2.1 HN.out)
        have HN1:=hid (HC1.out.set2 (x.c*n))
        have HN3:=hid (HC3.out.other (b':=w.heap.size) (o:=2) (.int .i64 (x.c*n)) (by omega))
        have HNB:=hid (HB.out.setCell (p:=⟨w.heap.size,2,none⟩) (Nat.le_refl _) (.int .i64 (x.c*n)))
        have HNS:Hid (w.heap.size+2≤(wr.setCell ⟨w.heap.size,2,none⟩ (.int .i64 (x.c*n))).heap.size):=by show _≤_; rw [World.size_setCell]; exact HSZ.out
        go_wp2_with fail;go_roundg 4
        case measure=>omega
        case rel=>exact ⟨3,by omega,by omega,by go_num,HN1.out,HN3.out,HNB.out,HNS.out⟩
       ·have c1:wr.cell? ⟨w.heap.size,3,none⟩=some (.int .i64 x.d):=HC1.out.cells.1.2.2.2.1
        have cf:=HC1.out.cells.2.1 3
        have e1:IntKind.i64.wrap (x.d*n)=x.d*n:=wrap_small (mul_small HX.out.2.2.2.1 HN.out)
        have HN1:=hid (HC1.out.set3 (x.d*n))
        have HN3:=hid (HC3.out.other (b':=w.heap.size) (o:=3) (.int .i64 (x.d*n)) (by omega))
        have HNB:=hid (HB.out.setCell (p:=⟨w.heap.size,3,none⟩) (Nat.le_refl _) (.int .i64 (x.d*n)))
        have HNS:Hid (w.heap.size+2≤(wr.setCell ⟨w.heap.size,3,none⟩ (.int .i64 (x.d*n))).heap.size):=by show _≤_; rw [World.size_setCell]; exact HSZ.out
        go_wp2_with fail;go_roundg 3
        case measure=>omega
        case rel=>exact ⟨4,by omega,by omega,by go_num,HN1.out,HN3.out,HNB.out,HNS.out⟩
       ·have c1:wr.cell? ⟨w.heap.size,4,none⟩=some (.int .i64 x.e):=HC1.out.cells.1.2.2.2.2.1
        have cf:=HC1.out.cells.2.1 4
        have e1:IntKind.i64.wrap (x.e*n)=x.e*n:=wrap_small (mul_small HX.out.2.2.2.2.1 HN.out)
        have HN1:=hid (HC1.out.set4 (x.e*n))
        have HN3:=hid (HC3.out.other (b':=w.heap.size) (o:=4) (.int .i64 (x.e*n)) (by omega))
        have HNB:=hid (HB.out.setCell (p:=⟨w.heap.size,4,none⟩) (Nat.le_refl _) (.int .i64 (x.e*n)))
        have HNS:Hid (w.heap.size+2≤(wr.setCell ⟨w.heap.size,4,none⟩ (.int .i64 (x.e*n))).heap.size):=by show _≤_; rw [World.size_setCell]; exact HSZ.out
        go_wp2_with fail;go_roundg 2
        case measure=>omega
        case rel=>exact ⟨5,by omega,by omega,by go_num,HN1.out,HN3.out,HNB.out,HNS.out⟩
       ·have c1:wr.cell? ⟨w.heap.size,5,none⟩=some (.int .i64 x.f):=HC1.out.cells.1.2.2.2.2.2.1
        have cf:=HC1.out.cells.2.1 5
        have e1:IntKind.i64.wrap (x.f*n)=x.f*n:=wrap_small (mul_small HX.out.2.2.2.2.2.1 HN.out)
        have HN1:=hid (HC1.out.set5 (x.f*n))
        have HN3:=hid (HC3.out.other (b':=w.heap.size) (o:=5) (.int .i64 (x.f*n)) (by omega))
        have HNB:=hid (HB.out.setCell (p:=⟨w.heap.size,5,none⟩) (Nat.le_refl _) (.int .i64 (x.f*n)))
        have HNS:Hid (w.heap.size+2≤(wr.setCell ⟨w.heap.size,5,none⟩ (.int .i64 (x.f*n))).heap.size):=by show _≤_; rw [World.size_setCell]; exact HSZ.out
        go_wp2_with fail;go_roundg 1
        case measure=>omega
        case rel=>exact ⟨6,by omega,by omega,by go_num,HN1.out,HN3.out,HNB.out,HNS.out⟩
       ·have c1:wr.cell? ⟨w.heap.size,6,none⟩=some (.int .i64 x.g):=HC1.out.cells.1.2.2.2.2.2.2
        have cf:=HC1.out.cells.2.1 6
        have e1:IntKind.i64.wrap (x.g*n)=x.g*n:=wrap_small (mul_small HX.out.2.2.2.2.2.2 HN.out)
        have HN1:=hid (HC1.out.set6 (x.g*n))
        have HN3:=hid (HC3.out.other (b':=w.heap.size) (o:=6) (.int .i64 (x.g*n)) (by omega))
        have HNB:=hid (HB.out.setCell (p:=⟨w.heap.size,6,none⟩) (Nat.le_refl _) (.int .i64 (x.g*n)))
        have HNS:Hid (w.heap.size+2≤(wr.setCell ⟨w.heap.size,6,none⟩ (.int .i64 (x.g*n))).heap.size):=by show _≤_; rw [World.size_setCell]; exact HSZ.out
        go_wp2_with fail;go_roundg 0
        case measure=>omega
        case rel=>exact ⟨7,by omega,by omega,by go_num,HN1.out,HN3.out,HNB.out,HNS.out⟩
      ·have hltz:¬ (i:Int)<7:=by omega
       have e7:i=7:=by omega
       subst e7;have hc1:K7 wr w.heap.size ⟨x.a*n,x.b*n,x.c*n,x.d*n,x.e*n,x.f*n,x.g*n⟩:=HC1.out
       obtain ⟨⟨p0,p1,p2,p3,p4,p5,p6⟩,_,_⟩:=hc1.cells
       have HK:=hid hc1
       clear hc1;go_wp2_with fail;refine (HV3.out wr).mono ?_
       rintro e w5 ⟨rfl,hb5⟩
       have HB5:=hid (HB.out.trans (hb5.mono HB.out.size))
       obtain ⟨⟨z0,z1,z2,z3,z4,z5,z6⟩,zf,_⟩:=(HC3.out.reach hb5).cells
       have HK5:=hid (HK.out.reach hb5)
       clear hb5 p0 p1 p2 p3 p4 p5 p6;cases h3:(⟨x.a*n,x.b*n,x.c*n,x.d*n,x.e*n,x.f*n,x.g*n⟩:Dm).ok with
       | false=>
        have HR:Hid (dpowQ x n=(zD,2)):=HE3.out.trans (by rw [h3]; simp)
        clear h3;go_wp2_with fail;rw [HR.out];refine bodyPost_ret (v:=.tuple #[.agg zD.cells,.int .i64 2]) (by simp [results,Tryz.results122,go_sem,Dm.cells,zD,z0,z1,z2,z3,z4,z5,z6]) rfl ⟨rfl,?_⟩
        exact below7 (B:=w.heap.size) HB5.out (b:=w.heap.size+1) (by omega) zD
       | true=>
        have HR:Hid (dpowQ x n=(⟨x.a*n,x.b*n,x.c*n,x.d*n,x.e*n,x.f*n,x.g*n⟩,0)):=HE3.out.trans (by rw [h3]; simp)
        obtain ⟨⟨p0,p1,p2,p3,p4,p5,p6⟩,_,_⟩:=HK5.out.cells
        clear h3;go_wp2_with fail;rw [HR.out];refine bodyPost_ret (v:=.tuple #[.agg (Dm.cells ⟨x.a*n,x.b*n,x.c*n,x.d*n,x.e*n,x.f*n,x.g*n⟩),.int .i64 0]) (by simp [results,Tryz.results122,go_sem,Dm.cells,z0,z1,z2,z3,z4,z5,z6]) rfl ⟨rfl,?_⟩
        exact below7 (B:=w.heap.size) HB5.out (b:=w.heap.size+1) (by omega) ⟨x.a*n,x.b*n,x.c*n,x.d*n,x.e*n,x.f*n,x.g*n⟩
end Go.Proofs.YtknpigdpepmimaaGreatDoor
