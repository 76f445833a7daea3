/- Contract of evaluate.Value 20. -/
import Derived.Test.YtknpigdpepmimaaGreatDoorV09
import Derived.Test.YtknpigdpepmimaaGreatDoorV20
import Derived.ProofKit
import Derived.OpenShut
import Derived.ShutString
import Derived.ChangeOld
import Derived.ChangeSame
import Derived.Deep.Slices
import Derived.Deep.Fields
import Derived.Handed
import Derived.Shelf.Vars
import Derived.Deep.AppendLies
import Derived.Deep.RegionHeldLaw
import Derived.Lib.QuietBelow
import Derived.BigQuiet
import Derived.Laws.OwnMore
import Derived.Test.YtknpigdpepmimaaGreatDoorV05
import Derived.Test.YtknpigdpepmimaaGreatDoorV07
import Derived.Laws.AppendOwn
import Derived.Laws.AppendOwnNone
import Derived.Lib.AppendZerosOnto
import Derived.Lib.Walk
import Derived.RegionTactic
import Derived.OrdersHeld
import Derived.Test.YtknpigdpepmimaaGreatDoorV08
namespace Go.Proofs.YtknpigdpepmimaaGreatDoor
open Go.Lib(hid)
open Go.RowKit Go.Maps
def valueR (t:T)(ns:List W8)(vs:List V):R:=if envB ns vs=true then (if validB t=true then (ev t (ns.zip vs) 0).1 else erR 1)else erR 1
theorem env_ok {ns:List W8}{vs:List V}(h:envB ns vs=true):Sc.ok (ns.zip vs):=fun p hp=>by
 unfold envB envOkB at h;simp only [Bool.and_eq_true,List.all_eq_true]at h
 exact (V.okB_iff _).1 (h.2.1 p hp).2
theorem set9_size (w:World) (b:Nat)(v:V):(set9 w b v).heap.size=w.heap.size:=by
 unfold set9;simp
theorem BO.set9 {w:World}{B:Nat}{v:Value}{l:List Int}(h:BO w B v l){b:Nat}(hb:b<B)(y:V):BO (set9 w b y) B v l:=
 ⟨h.1.keep fun b' o n c e hlt=>⟨by rw [set9_size]; exact hlt,set9_other _ _ _ _ (by have:=h.2 b' o n c e; omega)⟩,h.2⟩
theorem five_cells {w:World}{b:Nat}{x0 x1 x2 x3 x4:Value}{ty:TypeId}(h:w.heap[b]?=some (.cells #[x0,x1,x2,x3,x4] ty (0,0))):w.cell? ⟨b,0,none⟩=some x0∧w.cell? ⟨b,1,none⟩=some x1∧w.cell? ⟨b,2,none⟩=some x2∧w.cell? ⟨b,3,none⟩=some x3∧w.cell? ⟨b,4,none⟩=some x4:=by
 refine ⟨?_,?_,?_,?_,?_⟩<;>simp [World.cell?,h]
set_option maxRecDepth 100000 in
set_option maxHeartbeats 4000000 in
theorem value_any (t:T)(A:Option Addr) (ca:Nat)(na vv:Value)(ns:List W8)(vs:List V)(w:World)(hv:TV w w.heap.size t A ca)(hs:SA t)(hm:Max w)(ha:SL w w.heap.size na ns)(hvv:SV w vv vs)(hsn:∀ x∈ns,x.length≤1000)(hfit:∀ x∈vs,x.fit):
  Calls Tryz.prog 20 #[.agg (tv t A ca),na,vv] w fun e w'=>∃ q,e=.returned (.tuple #[.agg (valueR t ns vs).v.cells,q,.int .i64 (valueR t ns vs).e])∧BO w' w.heap.size q (valueR t ns vs).path∧Below w.heap.size w w':=by
 have HTB:=hid hv.box
 have hb2:=b2 w (.cells #[.int .i64 t.kind,.string ⟨t.name.toArray⟩,.string ⟨t.var.toArray⟩,.slice A t.args.length ca,.string ⟨t.form.toArray⟩] 24) (.cells #[.int .i64 0,.int .i64 0,.int .i64 0,.int .i64 0,.int .i64 0,.int .i64 0,.int .i64 0,.int .i64 0,.int .i64 0] 44)
 have HB2:=hid hb2
 have HK:Hid (K9 ((w.alloc (.cells #[.int .i64 t.kind,.string ⟨t.name.toArray⟩,.string ⟨t.var.toArray⟩,.slice A t.args.length ca,.string ⟨t.form.toArray⟩] 24)).alloc (.cells #[.int .i64 0,.int .i64 0,.int .i64 0,.int .i64 0,.int .i64 0,.int .i64 0,.int .i64 0,.int .i64 0,.int .i64 0] 44)) (w.heap.size+1) zV):=by
  have h:=K9.new (w.alloc (.cells #[.int .i64 t.kind,.string ⟨t.name.toArray⟩,.string ⟨t.var.toArray⟩,.slice A t.args.length ca,.string ⟨t.form.toArray⟩] 24)) zV
  rw [World.size_alloc]at h
  exact h
 have HT2:Hid (TR ((w.alloc (.cells #[.int .i64 t.kind,.string ⟨t.name.toArray⟩,.string ⟨t.var.toArray⟩,.slice A t.args.length ca,.string ⟨t.form.toArray⟩] 24)).alloc (.cells #[.int .i64 0,.int .i64 0,.int .i64 0,.int .i64 0,.int .i64 0,.int .i64 0,.int .i64 0,.int .i64 0,.int .i64 0] 44)) (w.heap.size+1) w.heap.size 0 t):=hv.box.below ((Below.refl _ _).alloc (by rw [World.size_alloc]; exact Nat.le_refl _) _)
 have HV2:Hid (TV ((w.alloc (.cells #[.int .i64 t.kind,.string ⟨t.name.toArray⟩,.string ⟨t.var.toArray⟩,.slice A t.args.length ca,.string ⟨t.form.toArray⟩] 24)).alloc (.cells #[.int .i64 0,.int .i64 0,.int .i64 0,.int .i64 0,.int .i64 0,.int .i64 0,.int .i64 0,.int .i64 0,.int .i64 0] 44)) w.heap.size t A ca):=hv.below hb2
 have HM2:Hid (Max ((w.alloc (.cells #[.int .i64 t.kind,.string ⟨t.name.toArray⟩,.string ⟨t.var.toArray⟩,.slice A t.args.length ca,.string ⟨t.form.toArray⟩] 24)).alloc (.cells #[.int .i64 0,.int .i64 0,.int .i64 0,.int .i64 0,.int .i64 0,.int .i64 0,.int .i64 0,.int .i64 0,.int .i64 0] 44))):=hm.below hb2
 have HE2:Hid (∀ wz:World,Below ((w.alloc (.cells #[.int .i64 t.kind,.string ⟨t.name.toArray⟩,.string ⟨t.var.toArray⟩,.slice A t.args.length ca,.string ⟨t.form.toArray⟩] 24)).alloc (.cells #[.int .i64 0,.int .i64 0,.int .i64 0,.int .i64 0,.int .i64 0,.int .i64 0,.int .i64 0,.int .i64 0,.int .i64 0] 44)).heap.size ((w.alloc (.cells #[.int .i64 t.kind,.string ⟨t.name.toArray⟩,.string ⟨t.var.toArray⟩,.slice A t.args.length ca,.string ⟨t.form.toArray⟩] 24)).alloc (.cells #[.int .i64 0,.int .i64 0,.int .i64 0,.int .i64 0,.int .i64 0,.int .i64 0,.int .i64 0,.int .i64 0,.int .i64 0] 44)) wz→Calls Tryz.prog 38 #[na,vv] wz fun e w'=>Below wz.heap.size wz w'∧((envB ns vs=true∧e=.returned (.tuple #[.map (some wz.heap.size),.bool true])∧EnvM w' wz.heap.size (ns.zip vs))∨(envB ns vs=false∧e=.returned (.tuple #[.map none,.bool false])))):=fun wz hbz=>environment_any na vv ns vs wz ((ha.below (hb2.trans (hbz.mono hb2.size))).more (Nat.le_trans hb2.size hbz.size)) ((hvv.reach hb2).reach hbz) hsn hfit
 have HS2:Hid (((w.alloc (.cells #[.int .i64 t.kind,.string ⟨t.name.toArray⟩,.string ⟨t.var.toArray⟩,.slice A t.args.length ca,.string ⟨t.form.toArray⟩] 24)).alloc (.cells #[.int .i64 0,.int .i64 0,.int .i64 0,.int .i64 0,.int .i64 0,.int .i64 0,.int .i64 0,.int .i64 0,.int .i64 0] 44)).heap.size=w.heap.size+2):=by show _=_; simp
 have HSA:=hid hs
 clear hv hs hm ha hvv hsn hfit hb2 HTB;have HC0:Hid (((w.alloc (.cells #[.int .i64 t.kind,.string ⟨t.name.toArray⟩,.string ⟨t.var.toArray⟩,.slice A t.args.length ca,.string ⟨t.form.toArray⟩] 24)).alloc (.cells #[.int .i64 0,.int .i64 0,.int .i64 0,.int .i64 0,.int .i64 0,.int .i64 0,.int .i64 0,.int .i64 0,.int .i64 0] 44)).heap[w.heap.size]?=some (.cells #[.int .i64 t.kind,.string ⟨t.name.toArray⟩,.string ⟨t.var.toArray⟩,.slice A t.args.length ca,.string ⟨t.form.toArray⟩] 24 (0,0))):=((b1 (w.alloc (.cells #[.int .i64 t.kind,.string ⟨t.name.toArray⟩,.string ⟨t.var.toArray⟩,.slice A t.args.length ca,.string ⟨t.form.toArray⟩] 24)) (.cells #[.int .i64 0,.int .i64 0,.int .i64 0,.int .i64 0,.int .i64 0,.int .i64 0,.int .i64 0,.int .i64 0,.int .i64 0] 44)).block _ (by rw [World.size_alloc]; omega)).trans (heap_alloc_new w (.cells #[.int .i64 t.kind,.string ⟨t.name.toArray⟩,.string ⟨t.var.toArray⟩,.slice A t.args.length ca,.string ⟨t.form.toArray⟩] 24))
 unfold tv;go_enter Tryz.func20,Tryz.ntmps20;go_upto_region 1 with (fail);generalize (w.alloc (.cells #[.int .i64 t.kind,.string ⟨t.name.toArray⟩,.string ⟨t.var.toArray⟩,.slice A t.args.length ca,.string ⟨t.form.toArray⟩] 24)).alloc (.cells #[.int .i64 0,.int .i64 0,.int .i64 0,.int .i64 0,.int .i64 0,.int .i64 0,.int .i64 0,.int .i64 0,.int .i64 0] 44)=w2 at*;have HC2:Hid (w2.heap[w.heap.size]?=some (.cells #[.int .i64 t.kind,.string ⟨t.name.toArray⟩,.string ⟨t.var.toArray⟩,.slice A t.args.length ca,.string ⟨t.form.toArray⟩] 24 (0,0))):=HC0.out
 go_wp2_with fail;refine (HE2.out w2 (Below.refl _ _)).mono ?_
 rintro e w3 ⟨hb3,hor⟩
 have hle3:w.heap.size+2≤w2.heap.size:=by have h:=HS2.out; omega
 have HB3:=hid (bl_tr HB2.out hb3)
 have HK3:=hid (HK.out.reach hb3)
 have HC3:Hid (w3.heap[w.heap.size]?=some (.cells #[.int .i64 t.kind,.string ⟨t.name.toArray⟩,.string ⟨t.var.toArray⟩,.slice A t.args.length ca,.string ⟨t.form.toArray⟩] 24 (0,0))):=(hb3.block _ (by omega)).trans HC2.out
 have HT3:Hid (TR w3 (w.heap.size+1) w.heap.size 0 t):=HT2.out.below (hb3.mono (by omega))
 have HV3:Hid (TV w3 w3.heap.size t A ca):=(HV2.out.below (hb3.mono (by omega))).more (by have:=hb3.size; omega)
 have HM3:Hid (Max w3):=HM2.out.below hb3
 have HS3:Hid (w.heap.size+2≤w3.heap.size):=Nat.le_trans hle3 hb3.size
 have HN2:Hid (w2.heap.size<w3.heap.size∨envB ns vs=false):=by
  rcases hor with ⟨_,_,h⟩|⟨h,_⟩
  ·exact .inl h.own.lt
  ·exact .inr h
 clear hb3 hle3;rcases hor with ⟨he,rfl,hem⟩|⟨he,rfl⟩
 ·have HEB:=hid he
  have HEM:=hid hem
  have HVA:=hid (validT_any t A ca w3 HV3.out HSA.out HM3.out)
  unfold tv at HVA;clear he hem;obtain ⟨⟩:True:=trivial
  obtain ⟨c0,c1,c2,c3,c4⟩:=five_cells HC3.out
  go_wp2_with fail;refine HVA.out.mono ?_
  rintro e w4 ⟨rfl,hb4⟩
  have HB4:=hid (bl_tr HB3.out hb4)
  have HK4:=hid (HK3.out.reach hb4)
  have HT4:Hid (TR w4 (w.heap.size+1) w.heap.size 0 t):=HT3.out.below (hb4.mono (by have:=HS3.out; omega))
  have HEM4:Hid (EnvM w4 w2.heap.size (ns.zip vs)):=HEM.out.block (hb4.block _ HEM.out.own.lt)
  have HM4:Hid (Max w4):=HM3.out.below hb4
  have HS4:Hid (w.heap.size+2≤w4.heap.size):=Nat.le_trans HS3.out hb4.size
  have HN4:Hid (w2.heap.size<w4.heap.size):=HEM4.out.own.lt
  clear hb4 c0 c1 c2 c3 c4;cases hvb:validB t with
  | false=>
   have HR:Hid (valueR t ns vs=erR 1):=by show _=_; unfold valueR; rw [if_pos HEB.out,hvb]; rfl
   clear hvb;obtain ⟨⟨⟨z0,z1⟩,z2,z3,z4,z5,z6,z7,z8⟩,zf,_⟩:=HK4.out.cells
   go_wp2_with fail;rw [HR.out];refine bodyPost_ret (v:=.tuple #[.agg zV.cells,.slice none 0 0,.int .i64 1]) (by simp [results,Tryz.results20,go_sem,V.cells,zV,zD,z0,z1,z2,z3,z4,z5,z6,z7,z8]) rfl ⟨_,rfl,(BO.nil _ w.heap.size),?_⟩
   exact below9 HB4.out (b:=w.heap.size+1) (Nat.le_succ _) zV
  | true=>
   have HVB:=hid hvb
   clear hvb;go_wp2_with fail;refine (operations_any _).mono ?_
   rintro e w5 ⟨rfl,hom,hb5⟩
   have hb6:=bl_tr hb5 (b1 w5 (.cells #[.map (some w2.heap.size),.map (some w4.heap.size),.int .i64 0] 84))
   have HB6:=hid (bl_tr HB4.out hb6)
   have HK6:=hid (HK4.out.reach hb6)
   have hwf:=((valid_iff t).1 HVB.out).1
   obtain ⟨E,hE⟩:∃ E,ns.zip vs=E:=⟨_,rfl⟩
   have hokE:Sc.ok E:=hE▸env_ok HEB.out
   have hemE:EnvM w4 w2.heap.size E:=hE▸HEM4.out
   have hs5:=hb5.size
   have hcx:Cx (w5.alloc (.cells #[.map (some w2.heap.size),.map (some w4.heap.size),.int .i64 0] 84)) w5.heap.size w2.heap.size w4.heap.size (w.heap.size+1) E 0:=
    ⟨heap_alloc_new w5 (.cells #[.map (some w2.heap.size),.map (some w4.heap.size),.int .i64 0] 84),hemE.block (hb6.block _ HN4.out),own_block hom ((b1 w5 _).block _ hom.lt),by have:=HS4.out; omega,by have:=HN4.out; omega,by have:=hom.lt; omega,HM4.out.below hb6,Nat.succ_pos _⟩
   have HTL:=hid (term_all find_c 2000 (Nat.le_refl _) t (Nat.le_trans ((valid_iff t).1 HVB.out).2 (by decide)) hwf [] (.pointer none) 0 w.heap.size 0 (w5.alloc (.cells #[.map (some w2.heap.size),.map (some w4.heap.size),.int .i64 0] 84)) (Nat.zero_le _) hokE (HT4.out.below (hb6.mono (by have:=HS4.out; omega))) hcx rfl)
   rw [List.nil_append]at HTL
   have HR:Hid (valueR t ns vs=(ev t E 0).1):=by show _=_; unfold valueR; rw [if_pos HEB.out,if_pos HVB.out,hE]
   have HX6:Hid (w.heap.size+2≤w5.heap.size∧w5.heap.size<(w5.alloc (.cells #[.map (some w2.heap.size),.map (some w4.heap.size),.int .i64 0] 84)).heap.size):=⟨by have:=HS4.out; omega,by rw [World.size_alloc]; omega⟩
   have HB60:=hid hb6
   clear hb6 hwf hs5 hcx hom hb5 hE hokE hemE;generalize ev t E 0=g at*;obtain ⟨r,c2⟩:=g
   unfold Left at HTL;dsimp only at HTL HR
   go_upto_region 5 with (fail);generalize w5.heap.size=xb at*;generalize w5.alloc (.cells #[.map (some w2.heap.size),.map (some w4.heap.size),.int .i64 0] 84)=w6 at*;go_wp2_with fail;refine HTL.out.mono ?_
   rintro e w7 ⟨q,rfl,hq,hg7,he7⟩
   obtain ⟨A5,c5,rfl⟩:∃ A c,q=.slice A r.path.length c:=by obtain ⟨⟨⟨A,c,h1,_⟩,_⟩,_⟩:=hq; exact ⟨A,c,h1⟩
   unfold R.cells;have hb8:=b1 w7 (.cells #[.int .i64 r.v.num,.int .i64 r.v.den,.int .i64 r.v.dim.a,.int .i64 r.v.dim.b,.int .i64 r.v.dim.c,.int .i64 r.v.dim.d,.int .i64 r.v.dim.e,.int .i64 r.v.dim.f,.int .i64 r.v.dim.g,.slice A5 r.path.length c5,.int .i64 r.e] 86)
   have HM8:Hid (K11 (w7.alloc (.cells #[.int .i64 r.v.num,.int .i64 r.v.den,.int .i64 r.v.dim.a,.int .i64 r.v.dim.b,.int .i64 r.v.dim.c,.int .i64 r.v.dim.d,.int .i64 r.v.dim.e,.int .i64 r.v.dim.f,.int .i64 r.v.dim.g,.slice A5 r.path.length c5,.int .i64 r.e] 86)) w7.heap.size r (.slice A5 r.path.length c5)):=K11.new w7 r _
   have HK8:Hid (K9 (w7.alloc (.cells #[.int .i64 r.v.num,.int .i64 r.v.den,.int .i64 r.v.dim.a,.int .i64 r.v.dim.b,.int .i64 r.v.dim.c,.int .i64 r.v.dim.d,.int .i64 r.v.dim.e,.int .i64 r.v.dim.f,.int .i64 r.v.dim.g,.slice A5 r.path.length c5,.int .i64 r.e] 86)) (w.heap.size+1) zV):=(hb8.block _ (by have h1:=HX6.out; have h2:=hg7.size; omega)).trans ((hg7.block _ (by have h1:=HX6.out; omega) (fun e=>by have h0:=Option.some.inj e; have h1:=HX6.out; omega)).trans HK6.out)
   have HQ8:Hid (BO (w7.alloc (.cells #[.int .i64 r.v.num,.int .i64 r.v.den,.int .i64 r.v.dim.a,.int .i64 r.v.dim.b,.int .i64 r.v.dim.c,.int .i64 r.v.dim.d,.int .i64 r.v.dim.e,.int .i64 r.v.dim.f,.int .i64 r.v.dim.g,.slice A5 r.path.length c5,.int .i64 r.e] 86)) (w.heap.size+2) (.slice A5 r.path.length c5) r.path):=(hq.reach hb8).less (by have h1:=HX6.out; omega)
   have HB8:Hid (Below w.heap.size w (w7.alloc (.cells #[.int .i64 r.v.num,.int .i64 r.v.den,.int .i64 r.v.dim.a,.int .i64 r.v.dim.b,.int .i64 r.v.dim.c,.int .i64 r.v.dim.d,.int .i64 r.v.dim.e,.int .i64 r.v.dim.f,.int .i64 r.v.dim.g,.slice A5 r.path.length c5,.int .i64 r.e] 86))):=by
    have h0:=HB6.out
    refine Below.trans ⟨hg7.os.trans h0.os,hg7.tape.trans h0.tape,hg7.output.trans h0.output,Nat.le_trans h0.size hg7.size,fun k hk=>(hg7.block k (by have h1:=h0.size; omega) (fun e=>by have h2:=Option.some.inj e; have h1:=HX6.out; omega)).trans (h0.block k hk)⟩ (hb8.mono (by have h1:=HX6.out; have h2:=hg7.size; omega))
   have HN8:Hid (w.heap.size+1<w7.heap.size):=by have h1:=HX6.out; have h2:=hg7.size; show _ < _; omega
   clear hb8 hq hg7 he7;go_upto_region 6 with (fail);have hne8:w7.heap.size≠w.heap.size+1:=by have:=HN8.out; omega
   generalize w7.alloc (.cells #[.int .i64 r.v.num,.int .i64 r.v.den,.int .i64 r.v.dim.a,.int .i64 r.v.dim.b,.int .i64 r.v.dim.c,.int .i64 r.v.dim.d,.int .i64 r.v.dim.e,.int .i64 r.v.dim.f,.int .i64 r.v.dim.g,.slice A5 r.path.length c5,.int .i64 r.e] 86)=w8 at*;generalize w7.heap.size=m at*;obtain ⟨⟨m0,m1,m2,m3,m4,m5,m6,m7,m8,m9,m10⟩,mf,_⟩:=HM8.out.cells
   obtain ⟨⟨⟨z0,z1⟩,z2,z3,z4,z5,z6,z7,z8⟩,zf,_⟩:=HK8.out.cells
   go_region
   all_goals
    go_wp2_with fail;rw [HR.out];refine bodyPost_ret (v:=.tuple #[.agg r.v.cells,.slice A5 r.path.length c5,.int .i64 r.e]) (by simp [results,Tryz.results20,go_sem,V.cells,z0,z1,z2,z3,z4,z5,z6,z7,z8]) rfl ⟨_,rfl,?_⟩
    exact ⟨BO.dr ((HQ8.out.set9 (b:=w.heap.size+1) (by omega) r.v).less (by omega)),bl_dr (below9 HB8.out (b:=w.heap.size+1) (Nat.le_succ _) r.v)⟩
 ·have HR:Hid (valueR t ns vs=erR 1):=by show _=_; unfold valueR; rw [if_neg (by rw [he]; decide)]
  obtain ⟨⟨⟨z0,z1⟩,z2,z3,z4,z5,z6,z7,z8⟩,zf,_⟩:=HK3.out.cells
  go_wp2_with fail;rw [HR.out];refine bodyPost_ret (v:=.tuple #[.agg zV.cells,.slice none 0 0,.int .i64 1]) (by simp [results,Tryz.results20,go_sem,V.cells,zV,zD,z0,z1,z2,z3,z4,z5,z6,z7,z8]) rfl ⟨_,rfl,(BO.nil _ w.heap.size),?_⟩
  exact below9 HB3.out (b:=w.heap.size+1) (Nat.le_succ _) zV
mutual
def lft:T→Int→Int
 | .mk _ n v ys f,m=>if 300<n.length∨300<v.length∨300<f.length then -1 else lfts ys (m-1)
def lfts:List T→Int→Int
 | [],m=>m
 | t::ts,m=>if 0≤m then lfts ts (lft t m)else m
end
theorem lft_eq (t:T) (m:Int):lft t m=if 300<t.name.length∨300<t.var.length∨300<t.form.length then -1 else lfts t.args (m-1):=by
 cases t with
 | mk k n v ys f=>rw [lft]; rfl
mutual
theorem lft_le (t:T) (m:Int)(hm:0≤m):-1≤lft t m∧lft t m<m:=by
 cases t with
 | mk k n v ys f=>
  rw [lft];split
  ·omega
  ·have:=lfts_le ys (m-1) (by omega); omega
theorem lfts_le (ts:List T) (m:Int)(hm:-1≤m):-1≤lfts ts m∧lfts ts m≤m:=by
 cases ts with
 | nil=>rw [lfts]; omega
 | cons t ts=>
  rw [lfts];split
  ·rename_i h
   have h1:=lft_le t m h
   have h2:=lfts_le ts (lft t m) h1.1
   omega
  ·omega
end
mutual
theorem lft_SA (t:T) (m:Int)(h:0≤lft t m):SA t:=by
 cases t with
 | mk k n v ys f=>
  rw [lft]at h
  rw [SA];split at h
  ·omega
  ·rename_i hc
   refine ⟨⟨?_,?_,?_⟩,lfts_SA ys (m-1) h⟩
   ·show n.length≤1000
    rcases Nat.lt_or_ge 300 n.length with h'|h'
    ·exact absurd (.inl h') hc
    ·omega
   ·show v.length≤1000
    rcases Nat.lt_or_ge 300 v.length with h'|h'
    ·exact absurd (.inr (.inl h')) hc
    ·omega
   ·show f.length≤1000
    rcases Nat.lt_or_ge 300 f.length with h'|h'
    ·exact absurd (.inr (.inr h')) hc
    ·omega
theorem lfts_SA (ts:List T) (m:Int)(h:0≤lfts ts m):SAs ts:=by
 cases ts with
 | nil=>rw [SAs]; trivial
 | cons t ts=>
  rw [lfts]at h
  rw [SAs];split at h
  ·rename_i hm
   have h2:=lfts_SA ts _ h
   refine ⟨lft_SA t m ?_,h2⟩
   have h3:=lft_le t m hm
   have h4:=lfts_le ts _ h3.1
   omega
  ·omega
end
set_option maxRecDepth 100000 in
set_option maxHeartbeats 4000000 in
theorem left_aux (N:Nat):∀ (t:T),t.size≤N→∀ (A:Option Addr) (c:Nat) (m:Int)(w:World),TV w w.heap.size t A c→0≤m→m≤200→
  Calls Tryz.prog 30 #[.agg (tv t A c),.int .i64 m] w fun e w'=>e=.returned (.int .i64 (lft t m))∧Below w.heap.size w w':=by
 induction N with
 | zero=>intro t ht; exact absurd ht (by cases t; rw [T.size]; omega)
 | succ N ih=>
  intro t ht A c m w hv hm0 hm2;have IH:=hid ih
  clear ih;have HE:=hid (lft_eq t m)
  have hb0:Below w.heap.size w (w.alloc (.cells (tv t A c) 24)):=(Below.refl _ _).alloc (Nat.le_refl _) _
  have HB0:=hid hb0
  have hR:=hv.box
  have HTA:Hid (TA (w.alloc (.cells (tv t A c) 24)) w.heap.size A t.args):=hv.ar.below hb0
  have HSZ:Hid (∀ u∈t.args,u.size≤N):=fun u hu=>by have:=size_arg hu; omega
  obtain ⟨hcp1,hcp2⟩:=hv.cap
  have k0:(w.alloc (.cells (tv t A c) 24)).cell? ⟨w.heap.size,1,none⟩=some (.string ⟨t.name.toArray⟩):=by simp [tv]
  have k1:(w.alloc (.cells (tv t A c) 24)).cell? ⟨w.heap.size,2,none⟩=some (.string ⟨t.var.toArray⟩):=by simp [tv]
  have k3:(w.alloc (.cells (tv t A c) 24)).cell? ⟨w.heap.size,3,none⟩=some (.slice A t.args.length c):=by simp [tv]
  have k4:(w.alloc (.cells (tv t A c) 24)).cell? ⟨w.heap.size,4,none⟩=some (.string ⟨t.form.toArray⟩):=by simp [tv]
  have s0:(⟨t.name.toArray⟩:ByteArray).size=t.name.length:=size_mk _
  have s1:(⟨t.var.toArray⟩:ByteArray).size=t.var.length:=size_mk _
  have s4:(⟨t.form.toArray⟩:ByteArray).size=t.form.length:=size_mk _
  generalize tv t A c=cs at*;generalize t.name=nm at*;generalize t.var=v at*;generalize t.form=f at*;obtain ⟨ys,hys⟩:∃ ys,ys=t.args:=⟨_,rfl⟩
  rw [← hys]at HE HTA HSZ k3 hcp1
  clear hys hv hb0 hR;have hyl:ys.length≤9223372036854775807:=by omega
  go_enter Tryz.func30,Tryz.ntmps30;go_upto_region 2 with (fail);go_cut [23] (fun s23 wx=>s23=.bool (decide (300<nm.length∨300<v.length∨300<f.length))∧w.alloc (.cells cs 24)=wx)
  case first=>
   by_cases h1:300<nm.length
   ·have h1z:(300:Int)<(nm.length:Int):=by omega
    have HX:Hid (decide (300<nm.length∨300<v.length∨300<f.length)=true):=decide_eq_true (.inl h1)
    go_wp2_with fail;go_meet
    case rel=>exact ⟨by rw [HX.out],rfl⟩
   ·have h1z:¬ (300:Int)<(nm.length:Int):=by omega
    by_cases h2:300<v.length
    ·have h2z:(300:Int)<(v.length:Int):=by omega
     have HX:Hid (decide (300<nm.length∨300<v.length∨300<f.length)=true):=decide_eq_true (.inr (.inl h2))
     go_wp2_with fail;go_meet
     case rel=>exact ⟨by rw [HX.out],rfl⟩
    ·have h2z:¬ (300:Int)<(v.length:Int):=by omega
     by_cases h3:300<f.length
     ·have h3z:(300:Int)<(f.length:Int):=by omega
      have HX:Hid (decide (300<nm.length∨300<v.length∨300<f.length)=true):=decide_eq_true (.inr (.inr h3))
      go_wp2_with fail;go_meet
      case rel=>exact ⟨by rw [HX.out],rfl⟩
     ·have h3z:¬ (300:Int)<(f.length:Int):=by omega
      have HX:Hid (decide (300<nm.length∨300<v.length∨300<f.length)=false):=decide_eq_false (by omega)
      go_wp2_with fail;go_meet
      case rel=>exact ⟨by rw [HX.out],rfl⟩
  case rest=>
   obtain ⟨rfl,rfl⟩:=hcut
   clear k0 k1 k4 s0 s1 s4;by_cases hlong:300<nm.length∨300<v.length∨300<f.length
   ·have HX:=hid (HE.out.trans (if_pos hlong))
    rw [decide_eq_true hlong];clear hlong;go_wp2_with fail;go_ret;rw [HX.out];exact ⟨rfl,HB0.out⟩
   ·have HX:=hid (HE.out.trans (if_neg hlong))
    rw [decide_eq_false hlong];clear hlong HE;go_wp2_with fail;obtain ⟨w1,hw1⟩:∃ w1,w1=w.alloc (.cells cs 24):=⟨_,rfl⟩
    have hFl:w.heap.size<w1.heap.size:=by rw [hw1]; simp
    rw [← hw1]at HB0 HTA k3 ⊢
    clear hw1;go_loopg [1,5] ys.length (fun gg s1 s5 wr=>∃ (i:Nat) (mi:Int),i≤ys.length∧ys.length-i≤gg∧s5=.int .i64 i∧s1=.int .i64 mi∧-1≤mi∧mi≤200∧Aside (lfts ys (m-1)=lfts (ys.drop i) mi)∧Aside (Below w1.heap.size w1 wr))
    case atStart=>exact ⟨0,m-1,Nat.zero_le _,by omega,rfl,rfl,by omega,by omega,rfl,Below.refl _ _⟩
    case round=>
     obtain ⟨i,mi,hi,hgg,rfl,rfl,hmi1,hmi2,HQ,HB⟩:=hrel
     have HBw:=hid (HB0.out.trans (HB.out.mono HB0.out.size))
     have k3r:wr.cell? ⟨w.heap.size,3,none⟩=some (.slice A ys.length c):=(HB.out.cell (p:=⟨w.heap.size,3,none⟩) hFl).trans k3
     go_upto_region 5 with (fail);go_cut [32] (fun s32 wx=>s32=.bool (decide (i<ys.length)&&decide (0≤mi))∧wr=wx)
     case first=>
      by_cases hlt:i<ys.length
      ·have hltz:(i:Int)<(ys.length:Int):=by omega
       by_cases h0:0≤mi
       ·go_wp2_with fail
        go_meet
        case rel=>exact ⟨by rw [decide_eq_true hlt,decide_eq_true h0]; rfl,rfl⟩
       ·go_wp2_with fail
        go_meet
        case rel=>exact ⟨by rw [decide_eq_true hlt,decide_eq_false (show ¬ 0≤mi by omega)]; rfl,rfl⟩
      ·have hltz:¬ (i:Int)<(ys.length:Int):=by omega
       go_wp2_with fail;go_meet
       case rel=>exact ⟨by rw [decide_eq_false hlt]; rfl,rfl⟩
     case rest=>
      obtain ⟨rfl,rfl⟩:=hcut
      by_cases hgo:i<ys.length∧0≤mi
      ·obtain ⟨hlt,h0⟩:=hgo
       rw [decide_eq_true hlt,decide_eq_true h0];obtain ⟨b',o',rfl,hRi⟩:=(HTA.out.below (HB.out.mono HB0.out.size)).at_ hlt
       obtain ⟨_,d0,d1,d2,d4,A2,c2,d3,hcp3,hTA2⟩:=hRi.parts
       have HTV:Hid (TV wr wr.heap.size ys[i] A2 c2):=⟨hcp3,hTA2.more HBw.out.size⟩
       have HD:Hid (lfts (ys.drop i) mi=lfts (ys.drop (i+1)) (lft ys[i] mi)):=by
        show lfts (ys.drop i) mi=_
        rw [List.drop_eq_getElem_cons hlt,lfts,if_pos h0]
       have hle:=lft_le ys[i] mi h0
       have HCall:=hid (IH.out ys[i] (HSZ.out _ (List.getElem_mem hlt)) A2 c2 mi wr HTV.out h0 hmi2)
       clear hRi hcp3 hTA2 HTV;unfold tv at HCall;generalize lft ys[i] mi=r at*;generalize ys[i]=u at*;have hltz:(i:Int)<(ys.length:Int):=by omega
       go_wp2_with fail;refine HCall.out.mono ?_
       rintro e w2 ⟨rfl,hb2⟩
       have HB2:=hid (HB.out.trans (hb2.mono HB.out.size))
       clear hb2 HCall d0 d1 d2 d3 d4;go_wp2_with fail;go_roundg (ys.length-(i+1))
       case measure=>omega
       case rel=>exact ⟨i+1,r,by omega,by omega,by go_num,rfl,by omega,by omega,HQ.out.trans HD.out,HB2.out⟩
      ·have HF:Hid ((decide (i<ys.length)&&decide (0≤mi))=false):=by
        show (decide (i<ys.length)&&decide (0≤mi))=false
        by_cases hlt:i<ys.length
        ·rw [decide_eq_false (fun h0=>hgo ⟨hlt,h0⟩),Bool.and_false]
        ·rw [decide_eq_false hlt]; rfl
       have HR:Hid (lft t m=mi):=by
        show lft t m=mi
        rw [HX.out,HQ.out];by_cases hlt:i<ys.length
        ·rw [List.drop_eq_getElem_cons hlt,lfts,if_neg (fun h0=>hgo ⟨hlt,h0⟩)]
        ·rw [List.drop_eq_nil_of_le (by omega),lfts]
       rw [HF.out];clear hgo;go_wp2_with fail;go_ret;rw [HR.out];exact ⟨rfl,HBw.out⟩
set_option maxRecDepth 100000 in
set_option maxHeartbeats 2000000 in
theorem eq42' (n:Nat)(x:Dm)(w:World):(Op.equalIn (n+1+1) 42 (.agg #[.int .i64 x.a,.int .i64 x.b,.int .i64 x.c,.int .i64 x.d,.int .i64 x.e,.int .i64 x.f,.int .i64 x.g]) (.agg #[.int .i64 x.a,.int .i64 x.b,.int .i64 x.c,.int .i64 x.d,.int .i64 x.e,.int .i64 x.f,.int .i64 x.g])).run Tryz.prog w=.ok true w:=by
 have u3:=Tryz.underlying3
 have a3:=Tryz.isAgg3
 have z3:=Tryz.sizeOf3
 obtain ⟨a,b,c,d,e,f,g⟩:=x
 rw [Op.equalIn];simp only [Sem.run_bind,run_underlying Tryz.underlying42,Result.andThen_ok];simp only [Std.Legacy.Range.forIn_eq_forIn_range',Std.Legacy.Range.size,Nat.sub_zero,Nat.add_sub_cancel,Nat.div_one,List.range'_succ,List.range'_zero,List.forIn_cons,List.forIn_nil];go_simp
set_option maxRecDepth 100000 in
set_option maxHeartbeats 2000000 in
theorem eq44 (v:V)(w:World):(Op.equalIn 10000 44 (.agg #[.int .i64 v.num,.int .i64 v.den,.int .i64 v.dim.a,.int .i64 v.dim.b,.int .i64 v.dim.c,.int .i64 v.dim.d,.int .i64 v.dim.e,.int .i64 v.dim.f,.int .i64 v.dim.g]) (.agg #[.int .i64 v.num,.int .i64 v.den,.int .i64 v.dim.a,.int .i64 v.dim.b,.int .i64 v.dim.c,.int .i64 v.dim.d,.int .i64 v.dim.e,.int .i64 v.dim.f,.int .i64 v.dim.g])).run Tryz.prog w=.ok true w:=by
 have u3:=Tryz.underlying3
 have a3:=Tryz.isAgg3
 have z3:=Tryz.sizeOf3
 have h:=fun n w=>eq42' n v.dim w
 obtain ⟨n,d,⟨a,b,c,d4,e,f,g⟩⟩:=v
 dsimp only at h ⊢
 rw [show (10000:Nat)=9999+1 from rfl,Op.equalIn]
 simp only [Sem.run_bind,run_underlying Tryz.underlying44,Result.andThen_ok];go_simp
set_option maxRecDepth 100000 in
set_option maxHeartbeats 4000000 in
theorem same24_eq (a b:Value)(l:List Int)(w:World)(ha:BI w a l)(hb:BI w b l):Calls Tryz.prog 24 #[a,b] w fun e w'=>e=.returned (.bool true)∧Below w.heap.size w w':=by
 obtain ⟨⟨A,ca,rfl,⟨hca1,hca2⟩,hA⟩,_⟩:=ha
 obtain ⟨⟨B,cb,rfl,⟨hcb1,hcb2⟩,hB⟩,_⟩:=hb
 have hl:l.length≤9223372036854775807:=by omega
 have HA:=hid hA
 have HB:=hid hB
 clear hA hB;go_enter Tryz.func24,Tryz.ntmps24;go_upto_region 4 with (fail);go_loopg [5] (l.length+1) (fun gg s5 wr=>∃ i:Nat,i≤l.length∧l.length-i<gg∧s5=.int .i64 (i:Int)∧Aside (Below w.heap.size w wr))
 case atStart=>exact ⟨0,Nat.zero_le _,by omega,rfl,Below.refl _ _⟩
 case round=>
  obtain ⟨i,hi,hgg,rfl,HBr⟩:=hrel
  by_cases hlt:i<l.length
  ·have hltz:(i:Int)<(l.length:Int):=by omega
   have hne:l≠[]:=fun e=>by rw [e]at hlt; simp at hlt
   obtain ⟨b1,o1,rfl,hb1,hc1⟩:=HA.out hne
   obtain ⟨b2,o2,rfl,hb2,hc2⟩:=HB.out hne
   have d1:=(HBr.out.cell (p:=⟨b1,o1+i,none⟩) hb1).trans (hc1 i hlt)
   have d2:=(HBr.out.cell (p:=⟨b2,o2+i,none⟩) hb2).trans (hc2 i hlt)
   have HA2:=hid hc1
   have HB2:=hid hc2
   clear hc1 hc2;generalize l[i]=x at*;go_wp2_with fail;go_region
   all_goals
    go_wp2_with fail;go_roundg (l.length-i)
    case measure=>omega
    case rel=>exact ⟨i+1,by omega,by omega,by go_num,bel_dr HBr.out⟩
  ·have hltz:¬ (i:Int)<(l.length:Int):=by omega
   go_wp2_with fail;go_ret;exact ⟨rfl,HBr.out⟩
def kmT:T:=.mk 4 [116,105,109,101,115] [] [.mk 1 [50] [] [] [],.mk 3 [107,109] [] [] []] []
theorem km_value:valueR kmT [] []=okR ⟨2000,1,⟨1,0,0,0,0,0,0⟩⟩:=by kernel_rfl
theorem km_SA:SA kmT:=by
 unfold kmT;simp [SA,SAs,Short,T.name,T.var,T.form]
theorem km_mem (w:World):TRs (w.alloc (.cells #[.int .i64 1,.string ⟨#[50]⟩,.string ⟨#[]⟩,.slice none 0 0,.string ⟨#[]⟩,.int .i64 3,.string ⟨#[107,109]⟩,.string ⟨#[]⟩,.slice none 0 0,.string ⟨#[]⟩] 24)) (w.heap.size+1) w.heap.size 0 [.mk 1 [50] [] [] [],.mk 3 [107,109] [] [] []]:=by
 simp [TRs,TR];exact ⟨none,0,⟨rfl,rfl⟩,by omega⟩
set_option maxRecDepth 100000 in
set_option maxHeartbeats 4000000 in
theorem awake9_any (w:World)(hm:Max w):Calls Tryz.prog 9 #[] w fun e w'=>e=.returned (.bool true)∧Below w.heap.size w w':=by
 have hb1:=b1 w (.cells #[.int .i64 1,.string ⟨#[50]⟩,.string ⟨#[]⟩,.slice none 0 0,.string ⟨#[]⟩,.int .i64 3,.string ⟨#[107,109]⟩,.string ⟨#[]⟩,.slice none 0 0,.string ⟨#[]⟩] 24)
 have hv:TV (w.alloc (.cells #[.int .i64 1,.string ⟨#[50]⟩,.string ⟨#[]⟩,.slice none 0 0,.string ⟨#[]⟩,.int .i64 3,.string ⟨#[107,109]⟩,.string ⟨#[]⟩,.slice none 0 0,.string ⟨#[]⟩] 24)) (w.alloc (.cells #[.int .i64 1,.string ⟨#[50]⟩,.string ⟨#[]⟩,.slice none 0 0,.string ⟨#[]⟩,.int .i64 3,.string ⟨#[107,109]⟩,.string ⟨#[]⟩,.slice none 0 0,.string ⟨#[]⟩] 24)).heap.size kmT (some ⟨w.heap.size,0,none⟩) 2:=
  ⟨⟨by decide,by decide⟩,fun _=>⟨w.heap.size,0,rfl,by rw [World.size_alloc]; exact km_mem w⟩⟩
 have HC:=hid (value_any kmT (some ⟨w.heap.size,0,none⟩) 2 (.slice none 0 0) (.slice none 0 0) [] [] _ hv km_SA (hm.below hb1) ⟨none,0,rfl,⟨Nat.le_refl _,by decide⟩,fun h=>absurd rfl h⟩ ⟨none,0,rfl,⟨Nat.le_refl _,by decide⟩,fun h=>absurd rfl h⟩ (fun x hx=>by cases hx) (fun x hx=>by cases hx))
 rw [km_value]at HC
 have HB:=hid hb1
 clear hb1 hv hm;unfold okR V.cells at HC;unfold tv at HC;dsimp only [kmT,T.kind,T.name,T.var,T.args,T.form,List.length_cons,List.length_nil]at HC
 go_enter Tryz.func9,Tryz.ntmps9;go_wp2_with fail;refine HC.out.mono ?_
 rintro e w2 ⟨q,rfl,hq,hb2⟩
 have HB2:=hid (bl_tr HB.out hb2)
 clear hb2 hq;go_wp2_with fail;go_ret;exact ⟨rfl,bl_al HB2.out _⟩
def fewE (t:T)(ns:List W8)(vs:List V):Bool:=ns.all (fun x=>decide (x.length≤100))&&(decide (0≤lft t 100)&&(decide (ns.length≤20)&&decide (vs.length≤20)))
theorem fewE_SA {t:T}{ns:List W8}{vs:List V}(h:fewE t ns vs=true):SA t∧(∀ x∈ns,x.length≤100)∧ns.length≤20∧vs.length≤20:=by
 unfold fewE at h;simp only [Bool.and_eq_true,List.all_eq_true,decide_eq_true_eq]at h
 exact ⟨lft_SA t 100 h.2.1,h.1,h.2.2⟩
structure Rmx (w:World) (b:Nat)(na vv:Value):Prop where
 c0:w.cell? ⟨b,0,none⟩=some na
 c1:w.cell? ⟨b,1,none⟩=some vv
theorem Rmx.below {w w':World}{B b:Nat}{na vv:Value}(h:Rmx w b na vv)(hb:Below B w w')(hlt:b<B):Rmx w' b na vv:=
 ⟨(hb.cell (p:=⟨b,0,none⟩) hlt).trans h.c0,(hb.cell (p:=⟨b,1,none⟩) hlt).trans h.c1⟩
theorem rmx_new (w:World)(na vv:Value):Rmx (w.alloc (.cells #[na,vv] 28)) w.heap.size na vv:=⟨by simp,by simp⟩
set_option maxRecDepth 100000 in
set_option maxHeartbeats 4000000 in
theorem few10_any (t:T)(A:Option Addr) (c:Nat)(An Av:Option Addr)(cn cv:Nat)(ns:List W8)(vs:List V)(w:World)(hv:TV w w.heap.size t A c)(hn:SL w w.heap.size (.slice An ns.length cn) ns)(hvl:vs.length≤9223372036854775807):
  Calls Tryz.prog 10 #[.agg (tv t A c),.agg #[.slice An ns.length cn,.slice Av vs.length cv]] w fun e w'=>e=.returned (.bool (fewE t ns vs))∧Below w.heap.size w w':=by
 have hb2:=b2 w (.cells (tv t A c) 24) (.cells #[.slice An ns.length cn,.slice Av vs.length cv] 28)
 have HB:=hid hb2
 have HL:=hid fun (wz:World)(hb:Below w.heap.size w wz)=>left_aux t.size t (Nat.le_refl _) A c 100 wz (hv.reach hb) (by decide) (by decide)
 have hbx:Bxd ((w.alloc (.cells (tv t A c) 24)).alloc (.cells #[.slice An ns.length cn,.slice Av vs.length cv] 28)) w.heap.size t A c:=(bxd_new w t A c).below (b1 (w.alloc (.cells (tv t A c) 24)) (.cells #[.slice An ns.length cn,.slice Av vs.length cv] 28)) (by rw [World.size_alloc]; omega)
 have HBX:=hid hbx
 have hrm:=rmx_new (w.alloc (.cells (tv t A c) 24)) (.slice An ns.length cn) (.slice Av vs.length cv)
 rw [World.size_alloc]at hrm
 have HRM:=hid hrm
 obtain ⟨An',cn',e0,⟨hcn1,hcn2⟩,hAn⟩:=hn
 injection e0 with e1 _ e3
 subst e1 e3
 have HN:=hid hAn
 have hsz:((w.alloc (.cells (tv t A c) 24)).alloc (.cells #[.slice An ns.length cn,.slice Av vs.length cv] 28)).heap.size=w.heap.size+2:=by simp
 have HSZ:=hid hsz
 have hnl:ns.length≤9223372036854775807:=by omega
 clear hv hb2 hbx hrm hAn hsz;unfold tv at HL;generalize tv t A c=cs at*;go_enter Tryz.func10,Tryz.ntmps10;go_upto_region 2 with (fail);generalize (w.alloc (.cells cs 24)).alloc (.cells #[.slice An ns.length cn,.slice Av vs.length cv] 28)=w1 at*;obtain ⟨r0,r1⟩:=HRM.out
 obtain ⟨k0,k1,k2,k3,k4⟩:=HBX.out
 have HL1:=hid (HL.out w1 HB.out)
 generalize hlf:lft t 100=m at*;have HLF:=hid hlf
 clear hlf HL HBX HRM;go_loopg [5] (ns.length+1) (fun gg s5 wr=>∃ i:Nat,i≤ns.length∧ns.length-i<gg∧s5=.int .i64 (i:Int)∧Aside (∀ x∈ns.take i,x.length≤100)∧wr=w1)
 case atStart=>exact ⟨0,Nat.zero_le _,by omega,rfl,(fun x hx=>by cases hx),rfl⟩
 case round=>
  obtain ⟨i,hi,hgg,rfl,HT,rfl⟩:=hrel
  by_cases hlt:i<ns.length
  ·have hltz:(i:Int)<(ns.length:Int):=by omega
   have hne:ns≠[]:=fun e=>by rw [e]at hlt; simp at hlt
   obtain ⟨b1',o1',rfl,hb1',hc1⟩:=HN.out hne
   have d1:=(HB.out.cell (p:=⟨b1',o1'+i,none⟩) hb1').trans (hc1 i hlt)
   have HTK:Hid (ns.take (i+1)=ns.take i++[ns[i]]):=List.take_succ_eq_append_getElem hlt
   have HMEM:Hid (ns[i]∈ns):=List.getElem_mem hlt
   clear hc1;generalize ns[i]=x at*;have s0:(⟨x.toArray⟩:ByteArray).size=x.length:=size_mk _
   by_cases hx:100<x.length
   ·have hxz:(100:Int)<(x.length:Int):=by omega
    have HF:Hid (fewE t ns vs=false):=by
     show _=_
     unfold fewE
     have:ns.all (fun x=>decide (x.length≤100))=false:=by
      rw [List.all_eq_false];exact ⟨x,HMEM.out,by simp; omega⟩
     rw [this,Bool.false_and]
    go_wp2_with fail;go_ret;rw [HF.out];exact ⟨rfl,HB.out⟩
   ·have hxz:¬ (100:Int)<(x.length:Int):=by omega
    have HT2:Hid (∀ y∈ns.take (i+1),y.length≤100):=fun y hy=>by
     rw [HTK.out]at hy
     rcases List.mem_append.1 hy with hy|hy
     ·exact HT.out y hy
     ·rw [List.mem_singleton]at hy; subst hy; omega
    go_wp2_with fail;go_roundg (ns.length-i)
    case measure=>omega
    case rel=>exact ⟨i+1,by omega,by omega,by go_num,HT2.out,rfl⟩
  ·have hltz:¬ (i:Int)<(ns.length:Int):=by omega
   have HALL:Hid (ns.all (fun x=>decide (x.length≤100))=true):=by
    have h:=HT.out
    rw [List.take_of_length_le (by omega)]at h
    show _=_
    rw [List.all_eq_true];intro x hx;simpa using h x hx
   go_wp2_with fail;refine HL1.out.mono ?_
   rintro e w2 ⟨rfl,hb2⟩
   have HB2:=hid (bl_tr HB.out hb2)
   have hls:w.heap.size+1<wr.heap.size:=by have:=HSZ.out; omega
   have r0':=(hb2.cell (p:=⟨w.heap.size+1,0,none⟩) hls).trans r0
   have r1':=(hb2.cell (p:=⟨w.heap.size+1,1,none⟩) hls).trans r1
   have HF:Hid (fewE t ns vs=(decide (0≤m)&&(decide (ns.length≤20)&&decide (vs.length≤20)))):=by
    show _=_
    unfold fewE;rw [HALL.out,HLF.out,Bool.true_and]
   clear hb2 r0 r1 k0 k1 k2 k3 k4;by_cases h1:0≤m
   ·by_cases h2:ns.length≤20
    ·have h2z:(ns.length:Int)≤20:=by omega
     by_cases h3:vs.length≤20
     ·have h3z:(vs.length:Int)≤20:=by omega
      have HFF:Hid (fewE t ns vs=true):=HF.out.trans (by rw [decide_eq_true h1,decide_eq_true h2,decide_eq_true h3]; rfl)
      go_wp2_with fail;go_ret;rw [HFF.out];exact ⟨rfl,HB2.out⟩
     ·have h3z:¬ (vs.length:Int)≤20:=by omega
      have HFF:Hid (fewE t ns vs=false):=HF.out.trans (by rw [decide_eq_false h3,Bool.and_false,Bool.and_false])
      go_wp2_with fail;go_ret;rw [HFF.out];exact ⟨by simp; omega,HB2.out⟩
    ·have h2z:¬ (ns.length:Int)≤20:=by omega
     have HFF:Hid (fewE t ns vs=false):=HF.out.trans (by rw [decide_eq_false h2,Bool.false_and,Bool.and_false])
     go_wp2_with fail;go_ret;rw [HFF.out];exact ⟨rfl,HB2.out⟩
   ·have HFF:Hid (fewE t ns vs=false):=HF.out.trans (by rw [decide_eq_false h1,Bool.false_and])
    go_wp2_with fail;go_ret;rw [HFF.out];exact ⟨rfl,HB2.out⟩
end Go.Proofs.YtknpigdpepmimaaGreatDoor
namespace Go.Proofs.YtknpigdpepmimaaGreatDoor
open Go.Lib(hid)
open Go.RowKit Go.ChangeShapes Go.WideShapes Go.ChangeAt Go.Deep
theorem own:ownKnob Tryz.prog.godebug=none:=by kernel_rfl
theorem laidOut:laidOutB Tryz.prog=true:=by kernel_rfl
theorem cells24:Tryz.prog.cellsOf 24=5:=by kernel_rfl
theorem cells22:Tryz.prog.cellsOf 22=1:=by kernel_rfl
theorem cells9:Tryz.prog.cellsOf 9=1:=by kernel_rfl
theorem cells3:Tryz.prog.cellsOf 3=1:=by kernel_rfl
section
variable {H:Type}{enc:TypeId × Value→H}{w:World}{base:Nat}{spare:Nat→Bool}{held:Bool}
theorem five {α:Type}{l:List α}(h:l.length=5):∃ a b c d e,l=[a,b,c,d,e]:=by
 match l,h with
 | [a,b,c,d,e],_=>exact ⟨a,b,c,d,e,rfl⟩
theorem addr_spot {w:World}{a:Addr}{v:Value}(h:w.cell? a=some v):a=⟨a.block,a.off,none⟩:=by
 have:=World.cell?_spot h
 cases a; simp_all
theorem addr_add (b o i:Nat):(⟨b,o,none⟩:Addr).add i=⟨b,o+i,none⟩:=by
 unfold Addr.add; split
 ·simp [*]
 ·rfl
theorem mk_data (s:ByteArray):(⟨s.data.toList.toArray⟩:ByteArray)=s:=by cases s; simp
theorem trs_of {B b:Nat}(w:World):∀ (ys:List T) (o:Nat),(∀ i t,ys[i]?=some t→TR w B b (o+i*5) t)→TRs w B b o ys
 | [],o,_=>by unfold TRs; trivial
 | t::ys,o,h=>by
  unfold TRs;refine ⟨by simpa using h 0 t rfl,trs_of w ys (o+5) (fun i u hu=>?_)⟩
  have:=h (i+1) u (by simpa using hu)
  rwa [show o+(i+1)*5=o+5+i*5 from by omega]at this
theorem open_term (N:Nat):∀ (fuel:Nat),fuel≤N→∀ (cs:List Value)(x:DataW H × List MemPlace),DataW.trod enc Tryz.prog w base spare held fuel 24 cs=some x→
  ∃ (t:T)(A:Option Addr) (c:Nat),cs=(tv t A c).toList∧TV w w.heap.size t A c:=by
 induction N with
 | zero=>
  intro fuel hf cs x h;obtain ⟨xs,n,hn,_⟩:=DataW.trod_struct Tryz.underlying24 h
  omega
 | succ N ih=>
  intro fuel hf cs x h;obtain ⟨xs,n,hn,hx,hcl,hxl,hfd⟩:=DataW.trod_struct Tryz.underlying24 h
  rw [cells24]at hcl
  obtain ⟨v0,v1,v2,v3,v4,rfl⟩:=five hcl
  obtain ⟨y0,y1,y2,y3,y4,rfl⟩:=five hxl
  have f0:=hfd 0 _ rfl
  have f1:=hfd 1 _ rfl
  have f2:=hfd 2 _ rfl
  have f3:=hfd 3 _ rfl
  have f4:=hfd 4 _ rfl
  obtain ⟨k,h0,_,hk⟩:=DataW.trod_int Tryz.underlying3 f0
  obtain ⟨s1,h1,_,hs1⟩:=DataW.trod_string Tryz.underlying9 f1
  obtain ⟨s2,h2,_,hs2⟩:=DataW.trod_string Tryz.underlying9 f2
  obtain ⟨s4,h4,_,hs4⟩:=DataW.trod_string Tryz.underlying9 f4
  simp [cells3]at h0
  simp [cells9]at h1 h2 h4
  subst h0 h1 h2 h4
  have f3':DataW.trod enc Tryz.prog w base spare held n 22 [v3]=some y3:=by simpa [cells22]using f3
  rcases DataW.trod_slice Tryz.underlying22 f3' with ⟨hv3,_⟩|⟨a,len,cap,elems,rest,m,hm,hv3,_,hb,hl,hcm,hel,hat,_⟩
  ·simp at hv3
   subst hv3;refine ⟨.mk k s1.data.toList s2.data.toList [] s4.data.toList,none,0,?_,⟨⟨Nat.le_refl _,by omega⟩,fun hne=>absurd rfl hne⟩⟩
   show _=[Value.int .i64 k,.string ⟨s1.data.toList.toArray⟩,.string ⟨s2.data.toList.toArray⟩,.slice none 0 0,.string ⟨s4.data.toList.toArray⟩]
   rw [mk_data,mk_data,mk_data]
  ·simp at hv3
   subst hv3
   have hel2:∀ i,i<len→∃ (u:T)(A':Option Addr) (c':Nat),TV w w.heap.size u A' c'∧∀ j v,(tv u A' c').toList[j]?=some v→w.cell? ((a.add (i*5)).add j)=some v:=by
    intro i hil;have hi:=hat i hil
    have hie:∃ e,elems[i]?=some e:=⟨_,List.getElem?_eq_getElem (by omega)⟩
    obtain ⟨e,hie⟩:=hie
    rw [hie,cells24]at hi
    obtain ⟨cs',hc,ht⟩:=Option.bind_eq_some_iff.1 hi
    obtain ⟨u,A',c',rfl,htv⟩:=ih m (by omega) cs' e ht
    obtain ⟨_,_,hcell⟩:=World.cells?_some hc
    refine ⟨u,A',c',htv,fun j v hv=>?_⟩
    have hj:j<5:=by
     have:=(List.getElem?_eq_some_iff.1 hv).1
     simpa [tv]using this
    rw [hcell j hj,hv]
   have hex:∀ i,∃ u:T,i<len→TR w w.heap.size a.block (a.off+i*5) u∧a=⟨a.block,a.off,none⟩:=by
    intro i;by_cases hil:i<len
    ·have ha:a=⟨a.block,a.off,none⟩:=by
      obtain ⟨u0,A0,c0,_,h0⟩:=hel2 0 (by omega)
      have:=h0 0 _ rfl
      simp [Addr.add]at this
      exact addr_spot this
     obtain ⟨u,A',c',htv,hk2⟩:=hel2 i hil
     have key:∀ j v,(tv u A' c').toList[j]?=some v→w.cell? ⟨a.block,a.off+i*5+j,none⟩=some v:=by
      intro j v hv;have:=hk2 j v hv
      rw [ha,addr_add,addr_add]at this
      exact this
     exact ⟨u,fun _=>⟨TR.of_parts (World.block_lt_of_cell? w ⟨a.block,a.off+i*5+0,none⟩ (key 0 _ rfl)) (key 0 _ rfl) (key 1 _ rfl) (key 2 _ rfl) (key 3 _ rfl) (key 4 _ rfl) htv,ha⟩⟩
    ·exact ⟨.mk 0 [] [] [] [],fun h=>absurd h hil⟩
   obtain ⟨f,hff⟩:=Classical.axiomOfChoice hex
   refine ⟨.mk k s1.data.toList s2.data.toList ((List.range len).map f) s4.data.toList,some a,cap,?_,⟨⟨?_,?_⟩,fun hne=>?_⟩⟩
   ·show _=[Value.int .i64 k,.string ⟨s1.data.toList.toArray⟩,.string ⟨s2.data.toList.toArray⟩,.slice (some a) ((List.range len).map f).length cap,.string ⟨s4.data.toList.toArray⟩]
    rw [mk_data,mk_data,mk_data,List.length_map,List.length_range]
   ·show ((List.range len).map f).length≤cap
    rw [List.length_map,List.length_range]; exact hl
   ·unfold maxLen at hcm; omega
   ·have hpos:0<len:=by
     rcases Nat.eq_zero_or_pos len with h0|h0
     ·subst h0; exact absurd rfl hne
     ·exact h0
    have ha:=(hff 0 hpos).2
    refine ⟨a.block,a.off,by rw [← ha],trs_of w _ a.off (fun i u hu=>?_)⟩
    have hil:i<len:=by
     have hu':((List.range len).map f)[i]?=some u:=hu
     have:=(List.getElem?_eq_some_iff.1 hu').1
     simpa using this
    have he:f i=u:=by
     have hu':((List.range len).map f)[i]?=some u:=hu
     simpa [List.getElem?_map,List.getElem?_range hil]using hu'
    subst he;exact (hff i hil).1
set_option maxRecDepth 100000 in
theorem open_termVal {r:Reach}{b0:Nat}{v:Value}{d:DataW H}{p:List MemPlace}(hv:Value.okWide Tryz.prog w r b0 24 v)(h:DataW.Trod enc Tryz.prog w base spare held 24 v d p):
  ∃ (t:T)(A:Option Addr) (c:Nat),v=.agg (tv t A c)∧TV w w.heap.size t A c:=by
 obtain ⟨cs,rfl,hsz⟩:=okWide_struct Tryz.underlying24 hv
 obtain ⟨fuel,hf⟩:=h
 obtain ⟨t,A,c,he,htv⟩:=open_term fuel fuel (Nat.le_refl _) _ _ hf
 refine ⟨t,A,c,?_,htv⟩
 have:cs.toList=(tv t A c).toList:=by simpa [Value.cells]using he
 rw [Array.ext' this]
end
end Go.Proofs.YtknpigdpepmimaaGreatDoor
namespace Go.Proofs.YtknpigdpepmimaaGreatDoor
open Go.Lib(hid)
open Go.RowKit
end Go.Proofs.YtknpigdpepmimaaGreatDoor
namespace Go.Proofs.YtknpigdpepmimaaGreatDoor
open Go.Lib(hid)
end Go.Proofs.YtknpigdpepmimaaGreatDoor
namespace Go.Proofs.YtknpigdpepmimaaGreatDoor
open Go.Lib(hid)
open Go.RowKit
end Go.Proofs.YtknpigdpepmimaaGreatDoor
namespace Go.Proofs.YtknpigdpepmimaaGreatDoor
open Go.Lib(hid)
open Go
section
variable {P:Program}{ops:Array Oper}{Q:Exit→Act→World→Prop}{md:Region.Mode}{S:World→Prop}{last:Nat}
def waitsB (md:Region.Mode)(ops:Array Oper)(last i:Nat):Bool:=match ops[last]? with
 | some o=>o.after.any fun e=>Region.binds md e&&e.on == i
 | none=>false
end
end Go.Proofs.YtknpigdpepmimaaGreatDoor
namespace Go.Proofs.YtknpigdpepmimaaGreatDoor
open Go.Lib(hid)
open Go.RowKit
end Go.Proofs.YtknpigdpepmimaaGreatDoor
namespace Go.Proofs.YtknpigdpepmimaaGreatDoor
open Go.Lib(hid)
open Go
section
variable {P:Program}{ops:Array Oper}{Q:Exit→Act→World→Prop}{md:Region.Mode}{S:World→Prop}{last:Nat}
def wpAnyJ (P:Program)(md:Region.Mode)(ops:Array Oper)(Q:Exit→Act→World→Prop)(S:World→Prop) (last:Nat):Nat→Array Bool→Act→World→Prop
 | 0,listed,a,w=>Region.ready md ops listed=[]∧Q .normal a w
 | fuel+1,listed,a,w=>
  (Region.ready md ops listed=[]→Q .normal a w)∧
  ∀ i∈Region.ready md ops listed,wpOp P ops Q i (fun a' w'=>((listed.setIfInBounds i true).getD last true=false→S w')∧wpAnyJ P md ops Q S last fuel (listed.setIfInBounds i true) a' w') a w
theorem wpAny_of_J:∀ (fuel:Nat)(listed:Array Bool)(a:Act)(w:World),wpAnyJ P md ops Q S last fuel listed a w→wpAny P md ops Q fuel listed a w
 | 0,_,_,_,h=>h
 | fuel+1,_,_,_,h=>⟨h.1,fun i hi=>wpOp_mono (fun a' w' h'=>wpAny_of_J fuel _ a' w' h'.2) (h.2 i hi)⟩
theorem waits_un {i j:Nat}{listed:Array Bool}(hw:waitsB md ops j i=true)(h0:listed.getD i true=false):j∉Region.ready md ops listed:=fun hl=>by
 obtain ⟨_,ol,hol,hall⟩:=mem_ready.1 hl
 unfold waitsB at hw;rw [hol]at hw
 obtain ⟨k,hk,he⟩:=Array.any_eq_true.1 hw
 simp only [Bool.and_eq_true,beq_iff_eq]at he
 have h1:=hall _ (Array.getElem_mem hk) he.1
 rw [he.2]at h1
 rcases Nat.lt_or_ge i listed.size with h'|h'
 ·simp [h']at h0 h1; rw [h0]at h1; cases h1
 ·simp [Array.getElem?_eq_none h']at h1
theorem wpAnyJ_first {i:Nat}{oi:Oper}{v:Value}{Wt:List Nat}(hi:ops[i]?=some oi)(hsel:∀ (j:Nat)(o:Oper) cs b,ops[j]?=some o→o.op≠.select cs b)
  (hW:∀ j∈Wt,∃ m∈i::Wt,waitsB md ops j m=true)(hlast:last∈Wt)(hil:i∉Wt)
  (hQ:∀ c a w,Q (.panic c) (a.put oi.dst v) w→Q (.panic c) a w):
  ∀ (fuel:Nat)(listed:Array Bool)(a:Act)(w:World),
   (∀ j oj,ops[j]?=some oj→j≠i→listed.getD j true=false→(∀ e∈oj.after,Region.binds md e=true→e.on≠i)→oi.apart ops oj=true)→
   i∈Region.ready md ops listed→(∀ j∈Wt,listed.getD j true=false)→YieldsIf P ops S oi v a→S w→
   wpAnyJ P md ops Q S last fuel (listed.setIfInBounds i true) (a.put oi.dst v) w→wpAnyJ P md ops Q S last (fuel+1) listed a w:=by
 intro fuel;induction fuel with
 | zero=>
  intro listed a w _ hr hU hy hS H;refine ⟨fun h=>(by rw [h]at hr; cases hr),fun j hj=>?_⟩
  by_cases hji:j=i
  ·subst hji; exact hy.wpOp hi hS ⟨fun _=>hS,H⟩
  ·have:=ready_mono hj hji
   rw [H.1]at this
   cases this
 | succ fuel ih=>
  intro listed a w hfree hr hU hy hS H;refine ⟨fun h=>(by rw [h]at hr; cases hr),fun j hj=>?_⟩
  by_cases hji:j=i
  ·subst hji; exact hy.wpOp hi hS ⟨fun _=>hS,H⟩
  ·have h1:=H.2 j (ready_mono hj hji)
   have hjW:j∉Wt:=fun hm=>by
    obtain ⟨m,hm1,hm2⟩:=hW j hm
    have hmu:listed.getD m true=false:=by
     rcases List.mem_cons.1 hm1 with rfl|hm1
     ·exact (mem_ready.1 hr).1
     ·exact hU m hm1
    exact waits_un hm2 hmu hj
   have hU':∀ k∈Wt,(listed.setIfInBounds j true).getD k true=false:=fun k hk=>by
    have hne:j≠k:=fun e=>hjW (e▸hk)
    have:=hU k hk
    simp only [Array.getD_eq_getD_getElem?,Array.getElem?_setIfInBounds_ne hne]at this ⊢
    exact this
   have hUi:((listed.setIfInBounds i true).setIfInBounds j true).getD last true=false:=by
    have h2:=hU' last hlast
    have hne:i≠last:=fun e=>hil (e▸hlast)
    have hne2:j≠last:=fun e=>hjW (e▸hlast)
    have h3:=hU last hlast
    simp only [Array.getD_eq_getD_getElem?,Array.getElem?_setIfInBounds_ne hne,Array.getElem?_setIfInBounds_ne hne2]at h3 ⊢
    exact h3
   obtain ⟨hjun,oj,hoj,hall⟩:=mem_ready.1 hj
   have hnot:∀ e∈oj.after,Region.binds md e=true→e.on≠i:=fun e he hb heq=>by
    have h1:=hall e he hb
    have h0:=(mem_ready.1 hr).1
    rw [heq]at h1
    rcases Nat.lt_or_ge i listed.size with h'|h'
    ·simp [h']at h0 h1; rw [h0]at h1; cases h1
    ·simp [Array.getElem?_eq_none h']at h1
   have h2:=wpOp_putIf hoj (hfree j oj hoj hji hjun hnot) (fun cs b=>hsel i oi cs b hi) (fun cs b=>hsel j oj cs b hoj) hQ hy h1
   have hfree':∀ k ok,ops[k]?=some ok→k≠i→(listed.setIfInBounds j true).getD k true=false→
     (∀ e∈ok.after,Region.binds md e=true→e.on≠i)→oi.apart ops ok=true:=fun k ok hk hki hun hno=>by
    refine hfree k ok hk hki ?_ hno
    by_cases hjk:j=k
    ·subst hjk; exact hjun
    ·rw [getD_set_ne true hjk]at hun; exact hun
   refine wpOp_mono (fun a' w' h3=>⟨fun _=>h3.2.1 hUi,ih (listed.setIfInBounds j true) a' w' hfree' (ready_mono hr (Ne.symm hji)) hU' h3.1 (h3.2.1 hUi) ?_⟩) h2
   rw [Array.setIfInBounds_comm _ _ hji];exact h3.2.2
theorem wpAnyJ_take {i:Nat}{oi:Oper}{v:Value}{fuel:Nat}{listed:Array Bool}{a:Act}{w:World}(Wt:List Nat)(hi:ops[i]?=some oi)
  (hs:Region.noSelect ops=true)(hf:Region.free md ops listed i=true)(hr:(Region.ready md ops listed).contains i=true)
  (hW:(Wt.all fun j=>(i::Wt).any fun m=>waitsB md ops j m)=true)(hlast:Wt.contains last=true)(hil:Wt.contains i=false)(hU:(Wt.all fun j=>!listed.getD j true)=true)
  (hQ:∀ c a w,Q (.panic c) (a.put oi.dst v) w→Q (.panic c) a w)(hy:YieldsIf P ops S oi v a)(hS:S w)
  (h:wpAnyJ P md ops Q S last fuel (listed.setIfInBounds i true) (a.put oi.dst v) w):wpAnyJ P md ops Q S last (fuel+1) listed a w:=
 wpAnyJ_first hi (Region.noSelect_spec hs) (fun j hj=>by
  have:=List.all_eq_true.1 hW j hj
  obtain ⟨m,h1,h2⟩:=List.any_eq_true.1 this
  exact ⟨m,h1,h2⟩) (by simpa using hlast) (by simpa using hil) hQ fuel listed a w (Region.free_spec hi hf) (by simpa using hr) (fun j hj=>by
  have:=List.all_eq_true.1 hU j hj
  simpa using this) hy hS h
theorem wpAnyJ_one {i:Nat}{o:Oper}{fuel:Nat}{listed:Array Bool}{a:Act}{w:World}(hr:Region.ready md ops listed=[i])(ho:ops[i]?=some o)
  (h:∀ K':Act→World→Prop,Shut (∀ a w,((listed.setIfInBounds i true).getD last true=false→S w)→wpAnyJ P md ops Q S last fuel (listed.setIfInBounds i true) a w→K' a w)→if Region.wanted o (yielded ops a.tmps)=true then Oper.wp P o a w K' Q else K' (a.put o.dst undef) w):
  wpAnyJ P md ops Q S last (fuel+1) listed a w:=by
 refine ⟨fun e=>(by rw [hr]at e; cases e),fun j hj=>?_⟩
 rw [hr,List.mem_singleton]at hj
 subst hj;exact wpOp_step ho (fun K' hK=>h K' (fun a w hS hW=>hK a w ⟨hS,hW⟩))
theorem wpAnyJ_two {i j:Nat}{o o':Oper}{fuel:Nat}{listed:Array Bool}{a:Act}{w:World}(hr:Region.ready md ops listed=[i,j])(ho:ops[i]?=some o)(ho':ops[j]?=some o')
  (h:∀ K':Act→World→Prop,Shut (∀ a w,((listed.setIfInBounds i true).getD last true=false→S w)→wpAnyJ P md ops Q S last fuel (listed.setIfInBounds i true) a w→K' a w)→if Region.wanted o (yielded ops a.tmps)=true then Oper.wp P o a w K' Q else K' (a.put o.dst undef) w)
  (h':∀ K':Act→World→Prop,Shut (∀ a w,((listed.setIfInBounds j true).getD last true=false→S w)→wpAnyJ P md ops Q S last fuel (listed.setIfInBounds j true) a w→K' a w)→if Region.wanted o' (yielded ops a.tmps)=true then Oper.wp P o' a w K' Q else K' (a.put o'.dst undef) w):
  wpAnyJ P md ops Q S last (fuel+1) listed a w:=by
 refine ⟨fun e=>(by rw [hr]at e; cases e),fun k hk=>?_⟩
 rw [hr]at hk
 rcases List.mem_cons.1 hk with rfl|hk
 ·exact wpOp_step ho (fun K' hK=>h K' (fun a w hS hW=>hK a w ⟨hS,hW⟩))
 ·rw [List.mem_singleton]at hk
  subst hk;exact wpOp_step ho' (fun K' hK=>h' K' (fun a w hS hW=>hK a w ⟨hS,hW⟩))
theorem wpAnyJ_done {listed:Array Bool}{a:Act}{w:World}(hr:Region.ready md ops listed=[])(h:Q .normal a w):wpAnyJ P md ops Q S last 0 listed a w:=⟨hr,h⟩
theorem wp_region_J {id:Nat}{a:Act}{w:World} (last:Nat)(S:World→Prop)(hm:P.follows .mixedOrders=true)
  (h:wpAnyJ P .any ops Q S last ops.size (Array.replicate ops.size false) a w.drew):(Code.region id ops true).wp P Q a w:=
 wp_region_any hm (wpAny_of_J _ _ _ _ h)
end
end Go.Proofs.YtknpigdpepmimaaGreatDoor
