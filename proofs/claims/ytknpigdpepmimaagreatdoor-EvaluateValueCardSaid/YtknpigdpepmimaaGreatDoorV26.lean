/- A region that draws its order, by an invariant over what has been done; the slots that it. -/
import Derived.OrdersHeld
import Derived.Deep.RegionHeldLaw
import Derived.Test.YtknpigdpepmimaaGreatDoorV10
namespace Go.Proofs.YtknpigdpepmimaaGreatDoor
open Go.Lib(hid)
open Go
section
variable {P:Program}{ops:Array Oper}{Q:Exit→Act→World→Prop}{md:Region.Mode}
def todo (listed:Array Bool):Nat:=listed.toList.countP (· == false)
theorem todo_set {listed:Array Bool}{i:Nat}(h:listed.getD i true=false):todo (listed.setIfInBounds i true)+1=todo listed:=by
 have hi:i<listed.size:=by
  rcases Nat.lt_or_ge i listed.size with h'|h'
  ·exact h'
  ·simp [Array.getElem?_eq_none h']at h
 have hv:listed.toList[i]?=some false:=by
  rw [Array.getElem?_toList,Array.getElem?_eq_getElem hi];simp [hi]at h; rw [h]
 unfold todo;rw [Array.toList_setIfInBounds];generalize listed.toList=l at*;clear h hi;induction l generalizing i with
 | nil=>simp at hv
 | cons b l ih=>
  cases i with
  | zero=>
   simp at hv
   subst hv;simp
  | succ i=>
   have:=ih (i:=i) (by simpa using hv)
   rw [List.set_cons_succ,List.countP_cons,List.countP_cons];omega
theorem wpAny_inv {I:Array Bool→Act→World→Prop}
  (hstep:∀ listed a w i,I listed a w→i∈Region.ready md ops listed→wpOp P ops Q i (fun a' w'=>I (listed.setIfInBounds i true) a' w') a w)
  (hend:∀ listed a w,I listed a w→Region.ready md ops listed=[]→Q .normal a w):
  ∀ (fuel:Nat)(listed:Array Bool)(a:Act)(w:World),todo listed≤fuel→I listed a w→wpAny P md ops Q fuel listed a w
 | 0,listed,a,w,hz,hI=>by
  have hr:Region.ready md ops listed=[]:=by
   cases hr:Region.ready md ops listed with
   | nil=>rfl
   | cons i l=>
    have hm:i∈Region.ready md ops listed:=by rw [hr]; exact List.mem_cons_self
    have:=todo_set (mem_ready.1 hm).1
    omega
  exact ⟨hr,hend listed a w hI hr⟩
 | fuel+1,listed,a,w,hz,hI=>⟨fun hr=>hend listed a w hI hr,fun i hi=>wpOp_mono (fun a' w' h'=>wpAny_inv hstep hend fuel _ a' w' (by have:=todo_set (mem_ready.1 hi).1; omega) h') (hstep listed a w i hI hi)⟩
theorem wp_region_inv {id:Nat}{a:Act}{w:World}(I:Act→Array Bool→Act→World→Prop)(hm:P.follows .mixedOrders=true)
  (h0:I a (Array.replicate ops.size false) a w.drew)
  (hstep:∀ a0 listed b w i,I a0 listed b w→i∈Region.ready .any ops listed→wpOp P ops Q i (fun a' w'=>I a0 (listed.setIfInBounds i true) a' w') b w)
  (hend:∀ listed b w,I a listed b w→Region.ready .any ops listed=[]→Q .normal b w):(Code.region id ops true).wp P Q a w:=
 wp_region_any hm (wpAny_inv (hstep a) hend _ _ _ _ (by
  unfold todo;have:(Array.replicate ops.size false).toList.countP (· == false)≤(Array.replicate ops.size false).toList.length:=List.countP_le_length
  simpa using this) h0)
end
def preB (o:Oper) (p:Nat):Bool:=o.after.any fun e=>Region.binds .any e&&e.on == p
def lowB (ops:Array Oper):Bool:=(List.range ops.size).all fun i=>match ops[i]? with
 | some o=>o.after.all fun e=>!Region.binds .any e||decide (e.on<i)
 | none=>true
theorem pre_listed {ops:Array Oper}{listed:Array Bool}{i p:Nat}{o:Oper}(hr:i∈Region.ready .any ops listed)(ho:ops[i]?=some o)(hp:preB o p=true):listed.getD p false=true:=by
 obtain ⟨_,o',ho',hall⟩:=mem_ready.1 hr
 rw [ho]at ho'
 injection ho' with ho'
 subst ho';obtain ⟨k,hk,he⟩:=Array.any_eq_true.1 hp
 simp only [Bool.and_eq_true,beq_iff_eq]at he
 have:=hall _ (Array.getElem_mem hk) he.1
 rwa [he.2]at this
theorem ready_new {ops:Array Oper}{listed:Array Bool}{i:Nat}(hr:i∈Region.ready .any ops listed)(hs:listed.size=ops.size):i<ops.size∧listed.getD i false=false:=by
 obtain ⟨h1,o,ho,_⟩:=mem_ready.1 hr
 have hlt:=(Array.getElem?_eq_some_iff.1 ho).1
 refine ⟨hlt,?_⟩
 have hl:i<listed.size:=by omega
 simp [hl]at h1 ⊢
 exact h1
theorem listed_all {ops:Array Oper}{listed:Array Bool}(hlow:lowB ops=true)(hs:listed.size=ops.size)(hr:Region.ready .any ops listed=[]):∀ j,j<ops.size→listed.getD j false=true:=by
 intro j;induction j using Nat.strongRecOn with
 | _ j ih=>
  intro hj;cases q:listed.getD j false with
  | true=>rfl
  | false=>
   exfalso
   have hl:j<listed.size:=by omega
   have hm:j∈Region.ready .any ops listed:=by
    refine mem_ready.2 ⟨by simp [hl]at q ⊢; exact q,ops[j],by simp [hj],fun e he hb=>?_⟩
    have h1:=(List.all_eq_true.1 hlow) j (List.mem_range.2 hj)
    simp only [Array.getElem?_eq_getElem hj]at h1
    obtain ⟨k,hk,rfl⟩:=Array.mem_iff_getElem.1 he
    have h2:=(Array.all_eq_true.1 h1) k hk
    rw [hb]at h2
    have h3:ops[j].after[k].on<j:=by simpa using h2
    exact ih _ h3 (by omega)
   rw [hr]at hm
   cases hm
theorem set_at {listed:Array Bool}{i:Nat}(h:i<listed.size):(listed.setIfInBounds i true).getD i false=true:=by simp [h]
theorem set_off {listed:Array Bool}{i j:Nat}(h:i≠j):(listed.setIfInBounds i true).getD j false=listed.getD j false:=by
 simp [h]
theorem fold_back (D:List Nat):∀ (a0 a:Act),a.tmps.size=a0.tmps.size→a.defers=a0.defers→(∀ j,j∉D→a.tmps[j]?=a0.tmps[j]?)→a=D.foldl (fun b d=>b.put (some d) (a.eval (.tmp d))) a0:=by
 induction D with
 | nil=>
  intro a0 a hs hd h;cases a; cases a0
  simp only [List.foldl_nil];simp at hd h
  subst hd;congr
  exact Array.ext_getElem? h
 | cons d D ih=>
  intro a0 a hs hd h;rw [List.foldl_cons];refine ih (a0.put (some d) (a.eval (.tmp d))) a (by simp [Act.put,hs]) (by simp [Act.put,hd]) (fun j hj=>?_)
  by_cases hjd:d=j
  ·subst hjd
   rcases Nat.lt_or_ge d a0.tmps.size with hlt|hge
   ·have h2:d<a.tmps.size:=by omega
    simp [Act.put,Act.eval,hlt,h2]
   ·have h2:a.tmps.size≤d:=by omega
    simp [Act.put,Array.getElem?_eq_none h2];omega
  ·rw [h j (by simp [hj,Ne.symm hjd])]
   simp [Act.put,hjd]
def updS {β:Type}(f:Nat→β) (k:Nat)(v:β):Nat→β:=fun j=>if j=k then v else f j
theorem updS_same {β:Type}(f:Nat→β) (k:Nat)(v:β):updS f k v k=v:=if_pos rfl
theorem updS_ne {β:Type}(f:Nat→β){k j:Nat}(v:β)(h:j≠k):updS f k v j=f j:=if_neg h
def AF (D:List Nat)(a0:Act)(x:Nat→Value):Act:=D.foldl (fun b d=>b.put (some d) (x d)) a0
theorem put_get (b:Act)(d j:Nat) (v:Value):(b.put (some d) v).tmps[j]?=if d=j∧d<b.tmps.size then some v else b.tmps[j]?:=by
 by_cases h:d=j
 ·subst h
  by_cases h2:d<b.tmps.size
  ·simp [Act.put,h2]
  ·simp [Act.put,h2]
 ·simp [Act.put,h]
theorem AF_facts (D:List Nat):∀ (a0:Act)(x:Nat→Value),(AF D a0 x).tmps.size=a0.tmps.size∧(AF D a0 x).defers=a0.defers∧(∀ j,j∉D→(AF D a0 x).tmps[j]?=a0.tmps[j]?)∧∀ j,j∈D→j<a0.tmps.size→(AF D a0 x).tmps[j]?=some (x j):=by
 induction D with
 | nil=>intro a0 x; exact ⟨rfl,rfl,fun _ _=>rfl,fun j h=>by cases h⟩
 | cons d D ih=>
  intro a0 x;have h:=ih (a0.put (some d) (x d)) x
  have hs:(a0.put (some d) (x d)).tmps.size=a0.tmps.size:=by simp [Act.put]
  have e:AF (d::D) a0 x=AF D (a0.put (some d) (x d)) x:=rfl
  rw [e];refine ⟨h.1.trans hs,h.2.1,fun j hj=>?_,fun j hj hl=>?_⟩
  ·rw [h.2.2.1 j (fun hm=>hj (List.mem_cons_of_mem _ hm)),put_get,if_neg (fun q=>hj (by rw [← q.1]; exact List.mem_cons_self))]
  ·by_cases hm:j∈D
   ·exact h.2.2.2 j hm (by rw [hs]; exact hl)
   ·rcases List.mem_cons.1 hj with rfl|hj
    ·rw [h.2.2.1 j hm,put_get,if_pos ⟨rfl,hl⟩]
    ·exact absurd hj hm
theorem AF_put {D:List Nat}{a0:Act}{x:Nat→Value}{k:Nat}(hk:k∈D)(hs:∀ d∈D,d<a0.tmps.size) (v:Value):(AF D a0 x).put (some k) v=AF D a0 (updS x k v):=by
 obtain ⟨h1,h2,h3,h4⟩:=AF_facts D a0 x
 have hb:=fold_back D a0 ((AF D a0 x).put (some k) v) (by simp [Act.put,h1]) h2 (fun j hj=>by rw [put_get,if_neg (fun q=>hj (by rw [← q.1]; exact hk)),h3 j hj])
 refine hb.trans ?_
 unfold AF
 have key:∀ (E:List Nat)(b:Act),(∀ d∈E,d∈D)→E.foldl (fun b d=>b.put (some d) (((AF D a0 x).put (some k) v).eval (.tmp d))) b=E.foldl (fun b d=>b.put (some d) (updS x k v d)) b:=by
  intro E;induction E with
  | nil=>intro b _; rfl
  | cons d E ih=>
   intro b hE;rw [List.foldl_cons,List.foldl_cons];have hd:=hE d List.mem_cons_self
   have e:((AF D a0 x).put (some k) v).eval (.tmp d)=updS x k v d:=by
    unfold Act.eval updS;simp only [Array.getD_eq_getD_getElem?];rw [put_get,h1];by_cases q:d=k
    ·subst q; rw [if_pos ⟨rfl,hs _ hd⟩,if_pos rfl]; rfl
    ·rw [if_neg (fun r=>q r.1.symm),if_neg q,h4 d hd (hs _ hd)]; rfl
   rw [e];exact ih _ fun d' h'=>hE d' (List.mem_cons_of_mem _ h')
 exact key D a0 fun _ h=>h
theorem AF_self (D:List Nat)(a0:Act):AF D a0 (fun j=>a0.eval (.tmp j))=a0:=(fold_back D a0 a0 rfl rfl (fun _ _=>rfl)).symm
theorem AF_at {D:List Nat}{a0:Act}{x:Nat→Value}{j:Nat}(hj:j∈D)(hs:j<a0.tmps.size):(AF D a0 x).tmps[j]?.getD undef=x j:=by rw [(AF_facts D a0 x).2.2.2 j hj hs]; rfl
theorem AF_ev {D:List Nat}{a0:Act}{x:Nat→Value}{j:Nat}(hj:j∈D)(hs:j<a0.tmps.size):(AF D a0 x).eval (.tmp j)=x j:=by
 unfold Act.eval;simp only [Array.getD_eq_getD_getElem?];exact AF_at hj hs
theorem AF_off {D:List Nat}{a0:Act}{x:Nat→Value}{j:Nat}(hj:j∉D):(AF D a0 x).tmps[j]?.getD undef=a0.tmps[j]?.getD undef:=by rw [(AF_facts D a0 x).2.2.1 j hj]
theorem region_abs {P:Program}{id:Nat}{ops:Array Oper}{d:Bool}{Q:Exit→Act→World→Prop}{a:Act}{w:World}(h:∀ a0,a0=a→(Code.region id ops d).wp P Q a0 w):(Code.region id ops d).wp P Q a w:=h a rfl
end Go.Proofs.YtknpigdpepmimaaGreatDoor
namespace Go.Proofs.YtknpigdpepmimaaGreatDoor
open Go.Lib(hid)
open Go.RowKit
set_option maxRecDepth 100000 in
set_option maxHeartbeats 4000000 in
theorem rdim_any (d:Dm)(w:World):Calls Tryz.prog 66 #[.agg d.cells] w fun e w'=>e=.returned (.bool d.ok)∧Below w.heap.size w w':=by
 obtain ⟨a,b,c,d,e,f,g⟩:=d
 unfold Dm.cells;have HB:Hid (Below w.heap.size w (w.alloc (.cells #[.int .i64 a,.int .i64 b,.int .i64 c,.int .i64 d,.int .i64 e,.int .i64 f,.int .i64 g] 42))):=(Below.refl _ _).alloc (Nat.le_refl _) _
 have HK:Hid (K7 (w.alloc (.cells #[.int .i64 a,.int .i64 b,.int .i64 c,.int .i64 d,.int .i64 e,.int .i64 f,.int .i64 g] 42)) w.heap.size ⟨a,b,c,d,e,f,g⟩):=K7.new w ⟨a,b,c,d,e,f,g⟩
 have HOK:=hid (Dm.okTo_all ⟨a,b,c,d,e,f,g⟩)
 go_enter Tryz.func66,Tryz.ntmps66;go_upto_region 1 with (fail);generalize w.alloc (.cells #[.int .i64 a,.int .i64 b,.int .i64 c,.int .i64 d,.int .i64 e,.int .i64 f,.int .i64 g] 42)=w1 at*;obtain ⟨⟨c0,c1,c2,c3,c4,c5,c6⟩,_,_⟩:=HK.out.cells
 dsimp only at c0 c1 c2 c3 c4 c5 c6
 go_wp2_with fail;go_loopg [3] 7 (fun gg s3 wr=>∃ i:Nat,i≤7∧7-i≤gg∧s3=.int .i64 i∧Aside ((Dm.mk a b c d e f g).okTo i=true)∧wr=w1)
 case atStart=>exact ⟨0,by omega,by omega,rfl,(by show Dm.okTo _ 0=true; simp [Dm.okTo]),rfl⟩
 case round=>
  obtain ⟨i,hi,hgg,rfl,HT,rfl⟩:=hrel
  by_cases hlt:i<7
  ·have hltz:(i:Int)<7:=by omega
   rcases (show i=0∨i=1∨i=2∨i=3∨i=4∨i=5∨i=6 by omega)with rfl|rfl|rfl|rfl|rfl|rfl|rfl
   ·by_cases h1:a < -100
    ·have HZ:Hid (Dm.ok ⟨a,b,c,d,e,f,g⟩=false):=by
      have e1:okE a=false:=by unfold okE; rw [decide_eq_false (by omega)]; rfl
      show Dm.ok _=false
      simp [Dm.ok,e1]
     go_wp2_with fail;go_ret;rw [HZ.out];exact ⟨rfl,HB.out⟩
    ·by_cases h2:100<a
     ·have HZ:Hid (Dm.ok ⟨a,b,c,d,e,f,g⟩=false):=by
       have e1:okE a=false:=by unfold okE; rw [decide_eq_false (show ¬ a≤100 by omega)]; simp
       show Dm.ok _=false
       simp [Dm.ok,e1]
      go_wp2_with fail;go_ret;rw [HZ.out];exact ⟨rfl,HB.out⟩
     ·have HT2:Hid ((Dm.mk a b c d e f g).okTo 1=true):=by
       have e1:okE a=true:=by unfold okE; rw [decide_eq_true (by omega),decide_eq_true (by omega)]; rfl
       have e0:=HT.out
       show Dm.okTo _ _=true
       simp [Dm.okTo,e1]at e0 ⊢
       try simp [e0]
      go_wp2_with fail;go_roundg 6
      case measure=>omega
      case rel=>exact ⟨1,by omega,by omega,by go_num,HT2.out,rfl⟩
   ·by_cases h1:b < -100
    ·have HZ:Hid (Dm.ok ⟨a,b,c,d,e,f,g⟩=false):=by
      have e1:okE b=false:=by unfold okE; rw [decide_eq_false (by omega)]; rfl
      show Dm.ok _=false
      simp [Dm.ok,e1]
     go_wp2_with fail;go_ret;rw [HZ.out];exact ⟨rfl,HB.out⟩
    ·by_cases h2:100<b
     ·have HZ:Hid (Dm.ok ⟨a,b,c,d,e,f,g⟩=false):=by
       have e1:okE b=false:=by unfold okE; rw [decide_eq_false (show ¬ b≤100 by omega)]; simp
       show Dm.ok _=false
       simp [Dm.ok,e1]
      go_wp2_with fail;go_ret;rw [HZ.out];exact ⟨rfl,HB.out⟩
     ·have HT2:Hid ((Dm.mk a b c d e f g).okTo 2=true):=by
       have e1:okE b=true:=by unfold okE; rw [decide_eq_true (by omega),decide_eq_true (by omega)]; rfl
       have e0:=HT.out
       show Dm.okTo _ _=true
       simp [Dm.okTo,e1]at e0 ⊢
       try simp [e0]
      go_wp2_with fail;go_roundg 5
      case measure=>omega
      case rel=>exact ⟨2,by omega,by omega,by go_num,HT2.out,rfl⟩
   ·by_cases h1:c < -100
    ·have HZ:Hid (Dm.ok ⟨a,b,c,d,e,f,g⟩=false):=by
      have e1:okE c=false:=by unfold okE; rw [decide_eq_false (by omega)]; rfl
      show Dm.ok _=false
      simp [Dm.ok,e1]
     go_wp2_with fail;go_ret;rw [HZ.out];exact ⟨rfl,HB.out⟩
    ·by_cases h2:100<c
     ·have HZ:Hid (Dm.ok ⟨a,b,c,d,e,f,g⟩=false):=by
       have e1:okE c=false:=by unfold okE; rw [decide_eq_false (show ¬ c≤100 by omega)]; simp
       show Dm.ok _=false
       simp [Dm.ok,e1]
      go_wp2_with fail;go_ret;rw [HZ.out];exact ⟨rfl,HB.out⟩
     ·have HT2:Hid ((Dm.mk a b c d e f g).okTo 3=true):=by
       have e1:okE c=true:=by unfold okE; rw [decide_eq_true (by omega),decide_eq_true (by omega)]; rfl
       have e0:=HT.out
       show Dm.okTo _ _=true
       simp [Dm.okTo,e1]at e0 ⊢
       try simp [e0]
      go_wp2_with fail;go_roundg 4
      case measure=>omega
      case rel=>exact ⟨3,by omega,by omega,by go_num,HT2.out,rfl⟩
   ·by_cases h1:d < -100
    ·have HZ:Hid (Dm.ok ⟨a,b,c,d,e,f,g⟩=false):=by
      have e1:okE d=false:=by unfold okE; rw [decide_eq_false (by omega)]; rfl
      show Dm.ok _=false
      simp [Dm.ok,e1]
     go_wp2_with fail;go_ret;rw [HZ.out];exact ⟨rfl,HB.out⟩
    ·by_cases h2:100<d
     ·have HZ:Hid (Dm.ok ⟨a,b,c,d,e,f,g⟩=false):=by
       have e1:okE d=false:=by unfold okE; rw [decide_eq_false (show ¬ d≤100 by omega)]; simp
       show Dm.ok _=false
       simp [Dm.ok,e1]
      go_wp2_with fail;go_ret;rw [HZ.out];exact ⟨rfl,HB.out⟩
     ·have HT2:Hid ((Dm.mk a b c d e f g).okTo 4=true):=by
       have e1:okE d=true:=by unfold okE; rw [decide_eq_true (by omega),decide_eq_true (by omega)]; rfl
       have e0:=HT.out
       show Dm.okTo _ _=true
       simp [Dm.okTo,e1]at e0 ⊢
       try simp [e0]
      go_wp2_with fail;go_roundg 3
      case measure=>omega
      case rel=>exact ⟨4,by omega,by omega,by go_num,HT2.out,rfl⟩
   ·by_cases h1:e < -100
    ·have HZ:Hid (Dm.ok ⟨a,b,c,d,e,f,g⟩=false):=by
      have e1:okE e=false:=by unfold okE; rw [decide_eq_false (by omega)]; rfl
      show Dm.ok _=false
      simp [Dm.ok,e1]
     go_wp2_with fail;go_ret;rw [HZ.out];exact ⟨rfl,HB.out⟩
    ·by_cases h2:100<e
     ·have HZ:Hid (Dm.ok ⟨a,b,c,d,e,f,g⟩=false):=by
       have e1:okE e=false:=by unfold okE; rw [decide_eq_false (show ¬ e≤100 by omega)]; simp
       show Dm.ok _=false
       simp [Dm.ok,e1]
      go_wp2_with fail;go_ret;rw [HZ.out];exact ⟨rfl,HB.out⟩
     ·have HT2:Hid ((Dm.mk a b c d e f g).okTo 5=true):=by
       have e1:okE e=true:=by unfold okE; rw [decide_eq_true (by omega),decide_eq_true (by omega)]; rfl
       have e0:=HT.out
       show Dm.okTo _ _=true
       simp [Dm.okTo,e1]at e0 ⊢
       try simp [e0]
      go_wp2_with fail;go_roundg 2
      case measure=>omega
      case rel=>exact ⟨5,by omega,by omega,by go_num,HT2.out,rfl⟩
   ·by_cases h1:f < -100
    ·have HZ:Hid (Dm.ok ⟨a,b,c,d,e,f,g⟩=false):=by
      have e1:okE f=false:=by unfold okE; rw [decide_eq_false (by omega)]; rfl
      show Dm.ok _=false
      simp [Dm.ok,e1]
     go_wp2_with fail;go_ret;rw [HZ.out];exact ⟨rfl,HB.out⟩
    ·by_cases h2:100<f
     ·have HZ:Hid (Dm.ok ⟨a,b,c,d,e,f,g⟩=false):=by
       have e1:okE f=false:=by unfold okE; rw [decide_eq_false (show ¬ f≤100 by omega)]; simp
       show Dm.ok _=false
       simp [Dm.ok,e1]
      go_wp2_with fail;go_ret;rw [HZ.out];exact ⟨rfl,HB.out⟩
     ·have HT2:Hid ((Dm.mk a b c d e f g).okTo 6=true):=by
       have e1:okE f=true:=by unfold okE; rw [decide_eq_true (by omega),decide_eq_true (by omega)]; rfl
       have e0:=HT.out
       show Dm.okTo _ _=true
       simp [Dm.okTo,e1]at e0 ⊢
       try simp [e0]
      go_wp2_with fail;go_roundg 1
      case measure=>omega
      case rel=>exact ⟨6,by omega,by omega,by go_num,HT2.out,rfl⟩
   ·by_cases h1:g < -100
    ·have HZ:Hid (Dm.ok ⟨a,b,c,d,e,f,g⟩=false):=by
      have e1:okE g=false:=by unfold okE; rw [decide_eq_false (by omega)]; rfl
      show Dm.ok _=false
      simp [Dm.ok,e1]
     go_wp2_with fail;go_ret;rw [HZ.out];exact ⟨rfl,HB.out⟩
    ·by_cases h2:100<g
     ·have HZ:Hid (Dm.ok ⟨a,b,c,d,e,f,g⟩=false):=by
       have e1:okE g=false:=by unfold okE; rw [decide_eq_false (show ¬ g≤100 by omega)]; simp
       show Dm.ok _=false
       simp [Dm.ok,e1]
      go_wp2_with fail;go_ret;rw [HZ.out];exact ⟨rfl,HB.out⟩
     ·have HT2:Hid ((Dm.mk a b c d e f g).okTo 7=true):=by
       have e1:okE g=true:=by unfold okE; rw [decide_eq_true (by omega),decide_eq_true (by omega)]; rfl
       have e0:=HT.out
       show Dm.okTo _ _=true
       simp [Dm.okTo,e1]at e0 ⊢
       try simp [e0]
      go_wp2_with fail;go_roundg 0
      case measure=>omega
      case rel=>exact ⟨7,by omega,by omega,by go_num,HT2.out,rfl⟩
  ·have hltz:¬ (i:Int)<7:=by omega
   obtain rfl:i=7:=by omega
   have HR:Hid (Dm.ok ⟨a,b,c,d,e,f,g⟩=true):=by show _=_; rw [← HOK.out]; exact HT.out
   go_wp2_with fail;go_ret;rw [HR.out];exact ⟨rfl,HB.out⟩
set_option maxRecDepth 100000 in
set_option maxHeartbeats 2000000 in
theorem rnum_any (v:V)(w:World):Calls Tryz.prog 52 #[.agg v.cells] w fun e w'=>e=.returned (.agg #[.int .i64 v.num,.int .i64 v.den])∧Below w.heap.size w w':=by
 have HB:=hid (b2 w (.cells v.cells 44) (.cells #[.int .i64 0,.int .i64 0] 64))
 have HK:Hid (K9 ((w.alloc (.cells #[.int .i64 v.num,.int .i64 v.den,.int .i64 v.dim.a,.int .i64 v.dim.b,.int .i64 v.dim.c,.int .i64 v.dim.d,.int .i64 v.dim.e,.int .i64 v.dim.f,.int .i64 v.dim.g] 44)).alloc (.cells #[.int .i64 0,.int .i64 0] 64)) w.heap.size v):=(K9.new w v).reach (b1 _ _)
 have hz:((w.alloc (.cells #[.int .i64 v.num,.int .i64 v.den,.int .i64 v.dim.a,.int .i64 v.dim.b,.int .i64 v.dim.c,.int .i64 v.dim.d,.int .i64 v.dim.e,.int .i64 v.dim.f,.int .i64 v.dim.g] 44)).alloc (.cells #[.int .i64 0,.int .i64 0] 64)).heap[w.heap.size+1]?=some (.cells #[.int .i64 0,.int .i64 0] 64 (0,0)):=by
  have h:=heap_alloc_new (w.alloc (.cells #[.int .i64 v.num,.int .i64 v.den,.int .i64 v.dim.a,.int .i64 v.dim.b,.int .i64 v.dim.c,.int .i64 v.dim.d,.int .i64 v.dim.e,.int .i64 v.dim.f,.int .i64 v.dim.g] 44)) (.cells #[.int .i64 0,.int .i64 0] 64)
  rwa [World.size_alloc]at h
 have HZ:=hid hz
 clear hz;unfold V.cells at*
 go_enter Tryz.func52,Tryz.ntmps52;go_upto_region 1 with (fail);generalize (w.alloc (.cells #[.int .i64 v.num,.int .i64 v.den,.int .i64 v.dim.a,.int .i64 v.dim.b,.int .i64 v.dim.c,.int .i64 v.dim.d,.int .i64 v.dim.e,.int .i64 v.dim.f,.int .i64 v.dim.g] 44)).alloc (.cells #[.int .i64 0,.int .i64 0] 64)=w1 at*;obtain ⟨⟨⟨k0,k1⟩,_,_,_,_,_,_,_⟩,_,_⟩:=HK.out.cells
 have z0:w1.cell? ⟨w.heap.size+1,0,none⟩=some (.int .i64 0):=by simp [World.cell?,HZ.out]
 have z1:w1.cell? ⟨w.heap.size+1,1,none⟩=some (.int .i64 0):=by simp [World.cell?,HZ.out]
 have zf:∀ i,w1.frozen? ⟨w.heap.size+1,i,none⟩=false:=fun i=>by simp [World.frozen?,HZ.out]
 have zf0:=zf 0
 have zf1:=zf 1
 go_wp2_with fail;refine bodyPost_ret (v:=.agg #[.int .i64 v.num,.int .i64 v.den]) (by simp [results,Tryz.results52,go_sem,z0,z1]) rfl ⟨rfl,?_⟩
 exact (HB.out.setCell (p:=⟨w.heap.size+1,0,none⟩) (Nat.le_succ _) _).setCell (p:=⟨w.heap.size+1,1,none⟩) (Nat.le_succ _) _
set_option maxRecDepth 100000 in
set_option maxHeartbeats 2000000 in
theorem rvv_any (v:V)(w:World)(hf:v.fit):Calls Tryz.prog 37 #[.agg v.cells] w fun r w'=>r=.returned (.bool (Q.validQ v.num v.den&&v.dim.ok))∧Below w.heap.size w w':=by
 have HV:=hid fun w=>Q.refValid_any v.num v.den w hf.1 hf.2.1 hf.2.2.1 hf.2.2.2
 have HU:=hid fun w=>rdim_any v.dim w
 have HN:=hid fun w=>rnum_any v w
 have HK:=hid (K9.new w v)
 have HB:=hid (b1 w (.cells v.cells 44))
 unfold V.cells at HK HB HN ⊢;unfold Dm.cells at HU;go_enter Tryz.func37,Tryz.ntmps37;go_upto_region 1 with (fail);generalize w.alloc (.cells #[.int .i64 v.num,.int .i64 v.den,.int .i64 v.dim.a,.int .i64 v.dim.b,.int .i64 v.dim.c,.int .i64 v.dim.d,.int .i64 v.dim.e,.int .i64 v.dim.f,.int .i64 v.dim.g] 44)=w1 at*;obtain ⟨⟨⟨z0,z1⟩,z2,z3,z4,z5,z6,z7,z8⟩,zf,_⟩:=HK.out.cells
 go_wp2_with fail;refine (HU.out w1).mono ?_
 rintro r w2 ⟨rfl,hb2⟩
 have HB2:=hid (HB.out.trans (hb2.mono HB.out.size))
 have HK2:=hid (HK.out.reach hb2)
 clear hb2 z0 z1 z2 z3 z4 z5 z6 z7 z8 zf;obtain ⟨⟨⟨z0,z1⟩,z2,z3,z4,z5,z6,z7,z8⟩,zf,_⟩:=HK2.out.cells
 cases h1:v.dim.ok with
 | false=>
  go_wp2_with fail;go_ret;exact ⟨by rw [h1,Bool.and_false]; rfl,HB2.out⟩
 | true=>
  go_wp2_with fail;refine (HN.out w2).mono ?_
  rintro r w3 ⟨rfl,hb3⟩
  have HB3:=hid (HB2.out.trans (hb3.mono HB2.out.size))
  clear hb3;go_wp2_with fail;refine (HV.out w3).mono ?_
  rintro r w4 ⟨rfl,hb4⟩
  have HB4:=hid (HB3.out.trans (hb4.mono HB3.out.size))
  clear hb4;go_wp2_with fail;go_ret;exact ⟨by rw [h1,Bool.and_true]; rfl,HB4.out⟩
end Go.Proofs.YtknpigdpepmimaaGreatDoor
