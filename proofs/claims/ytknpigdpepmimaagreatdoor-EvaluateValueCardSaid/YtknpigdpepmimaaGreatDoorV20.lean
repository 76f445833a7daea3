/- Contract of bind 82 at other names; contracts of term 41 and bind 82 by induction. -/
import Derived.Lib.QuietBelow
import Derived.BigQuiet
import Derived.StillTail
import Derived.Deep.Quiet
import Derived.Test.YtknpigdpepmimaaGreatDoorV07
import Derived.Test.YtknpigdpepmimaaGreatDoorV18
import Derived.Test.YtknpigdpepmimaaGreatDoorV19
import Derived.Laws.EntriesVeiled
import Derived.Great.BuildSlice
import Derived.Test.YtknpigdpepmimaaGreatDoorV15
namespace Go.Proofs.YtknpigdpepmimaaGreatDoor
open Go.Lib(hid)
open Go.RowKit Go.Maps
set_option maxRecDepth 100000 in
set_option maxHeartbeats 4000000 in
theorem bind_else {xb nb ob B0:Nat}{E:Sc}{N:Nat}(IH:TermC xb nb ob B0 E N)(t:T)(hw:WF t)(hk:t.kind=5)(hn1:¬ t.name=sumW)(hn2:¬ t.name=prodW)(s:Sc) (p:Value)(c b o:Nat)(w:World)(hok:(s++E).ok)(ht:TR w B0 b o t)(hx:Cx w xb nb ob B0 E c)(hs:SCP w (SS w xb) s p):
  Calls Tryz.prog 82 #[.pointer (some ⟨xb,0,none⟩),.pointer (some ⟨b,o,none⟩),p] w fun e w'=>Left w w' xb nb ob (ev t (s++E) c) e:=by
 obtain ⟨p,rfl⟩:∃ q,p=.pointer q:=by
  cases s with
  | nil=>exact ⟨none,hs⟩
  | cons x s=>obtain ⟨b,q,e,_⟩:=hs; exact ⟨_,e⟩
 have HO:=hid (own_short' hw.parts.1)
 obtain ⟨hb,d0,d1,d2,d4,A,ca,d3,hca,hta⟩:=ht.parts
 have hbx:b≠xb:=by have:=hx.hB; omega
 have hbw:b<w.heap.size:=by have:=hx.hB; have:=hx.xlt; omega
 have HB:=hid (b1 w (.cells #[.int .i64 0,.int .i64 0,.int .i64 0,.int .i64 0,.int .i64 0,.int .i64 0,.int .i64 0,.int .i64 0,.int .i64 0,.slice none 0 0,.int .i64 0] 86))
 have HK:=hid (K11.zero w)
 have HX:=hid (hx.reach HB.out)
 have HX0:=hid hx.xlt
 have HIH:=hid IH
 have HOKs:=hid hok
 have HWH:=hid fun n w=>whole_any n w
 unfold V.cells whV zD at HWH;have HG:Hid (ev t (s++E) c=bindG t.name (evs t.args (s++E)) (evh t.args t.var (s++E)) c):=by show _=_; rw [ev_eq,hk]; rfl
 unfold Left;go_enter Tryz.func82,Tryz.ntmps82;go_upto_region 1 with (fail);generalize w.alloc (.cells #[.int .i64 0,.int .i64 0,.int .i64 0,.int .i64 0,.int .i64 0,.int .i64 0,.int .i64 0,.int .i64 0,.int .i64 0,.slice none 0 0,.int .i64 0] 86)=w1 at*;go_wp2_with fail;refine (HWH.out 0 _).mono ?_
 rintro e w2 ⟨rfl,hb2⟩
 go_upto_region 2 with (fail);have hb3:=bl_tr hb2 (b1 w2 (.cells #[.int .i64 0,.int .i64 1,.int .i64 0,.int .i64 0,.int .i64 0,.int .i64 0,.int .i64 0,.int .i64 0,.int .i64 0] 44))
 have hb03:=bl_tr HB.out hb3
 have hk8:(w2.alloc (.cells #[.int .i64 0,.int .i64 1,.int .i64 0,.int .i64 0,.int .i64 0,.int .i64 0,.int .i64 0,.int .i64 0,.int .i64 0] 44)).heap[w2.heap.size]?=some (.cells (whV 0).cells 44 (0,0)):=heap_alloc_new w2 _
 have hs1:w.heap.size<w1.heap.size:=HK.out.cells.2.2
 have hs2:=hb2.size
 have hli:LJ w (w2.alloc (.cells #[.int .i64 0,.int .i64 1,.int .i64 0,.int .i64 0,.int .i64 0,.int .i64 0,.int .i64 0,.int .i64 0,.int .i64 0] 44)) xb nb ob B0 (w2.alloc (.cells #[.int .i64 0,.int .i64 1,.int .i64 0,.int .i64 0,.int .i64 0,.int .i64 0,.int .i64 0,.int .i64 0,.int .i64 0] 44)).heap.size E s (.pointer p) b o w2.heap.size (.cells (whV 0).cells 44 (0,0)) A ca t.args c:=
  ⟨hx.reach hb03,hs.keep (fun k hk=>⟨hk,hb03.block k hk.2⟩),HK.out.reach hb3,hk8,(hb03.cell (p:=⟨b,o+3,none⟩) hbw).trans d3,(fun hne=>by
   obtain ⟨b',o',e,h⟩:=hta hne
   exact ⟨b',o',e,h.below (hx.term (grown_of_below hb03 _))⟩),grown_of_below hb03 _,by have:=hx.xlt; omega,hbx,⟨hx.nlt,hx.olt,hx.xlt,hbw,by simp,by simp; omega,Nat.le_refl _⟩⟩
 have HTR:=hid (ht.below (hx.term (grown_of_below hb03 _)))
 have HLJ:=hid hli
 have HM8:Hid (w.heap.size<w2.heap.size):=Nat.lt_of_lt_of_le hs1 hs2
 have HD1:=hid ((hb03.cell (p:=⟨b,o+1,none⟩) hbw).trans d1)
 have HD2:=hid ((hb03.cell (p:=⟨b,o+2,none⟩) hbw).trans d2)
 have HVL:=hid (var_short hw.parts.1)
 have HBW:=hid hbw
 clear hb2 hb3 hb03 hk8 hs1 hs2 hli d0 d1 d2 d3 d4 hta hx hs ht hb hok IH hbw;generalize w2.heap.size=mb at*;generalize w2.alloc (.cells #[.int .i64 0,.int .i64 1,.int .i64 0,.int .i64 0,.int .i64 0,.int .i64 0,.int .i64 0,.int .i64 0,.int .i64 0] 44)=w3 at*;have hd1:=HD1.out
 generalize t.name=n at*;have hb1:(n == [115,117,109])=false:=by simpa [sumW]using hn1
 have hb2:(n == [112,114,111,100])=false:=by simpa [prodW]using hn2
 have HG2:Hid (ev t (s++E) c=(erR 15,c)):=by
  show _=_
  rw [HG.out]; unfold bindG; rw [if_neg (fun h=>h.elim hn1 hn2)]
 clear hn1 hn2;obtain ⟨⟨z0,z1,z2,z3,z4,z5,z6,z7,z8,z9,z10⟩,zf,_⟩:=HLJ.out.k6.cells
 go_wp2_with fail;rw [HG2.out];refine bodyPost_ret (v:=.agg (R.cells (erR 15) (.slice none 0 0))) (by simp [results,Tryz.results82,go_sem,R.cells,erR,zV,zD,z0,z1,z2,z3,z4,z5,z6,z7,z8,z9,z10]) rfl ⟨_,rfl,((BO.nil w3 (w.heap.size+1)).set11 (Nat.lt_succ_self _) (erR 15) (.slice none 0 0)).less (Nat.le_succ _),grown11 HLJ.out.gr (erR 15) (.slice none 0 0),eb11 ⟨HLJ.out.cx.eb,HX0.out⟩ (erR 15) (.slice none 0 0)⟩
theorem bind_all {xb nb ob B0:Nat}{E:Sc}{N:Nat}(IH:TermC xb nb ob B0 E N)(hN:N≤2000):BindC xb nb ob B0 E (N+1):=fun t hz hw hk s p c b o w hc hok ht hx hs=>by
 by_cases h1:t.name=sumW
 ·exact bind_sum IH t hz hw hk hN h1 s p c b o w hc hok ht hx hs
 ·by_cases h2:t.name=prodW
  ·exact bind_prod IH t hz hw hk hN h2 s p c b o w hc hok ht hx hs
  ·exact bind_else IH t hw hk h1 h2 s p c b o w hok ht hx hs
set_option maxRecDepth 100000 in
set_option maxHeartbeats 4000000 in
theorem term_bind {xb nb ob B0:Nat}{E:Sc}{M:Nat}(HBC:BindC xb nb ob B0 E M)(t:T)(hz:t.size≤M)(hw:WF t)(hk:t.kind=5)(s:Sc) (p:Value)(c b o:Nat)(w:World)(hc:c≤2000)(hok:(s++E).ok)(ht:TR w B0 b o t)(hx:Cx w xb nb ob B0 E c)(hs:SCP w (SS w xb) s p):
  Calls Tryz.prog 41 #[.pointer (some ⟨xb,0,none⟩),.pointer (some ⟨b,o,none⟩),p] w fun e w'=>Left w w' xb nb ob (ev t (s++E) c) e:=by
 obtain ⟨hb,d0,d1,d2,d4,A,ca,d3,hca,hta⟩:=ht.parts
 have hbw:b<w.heap.size:=by have:=hx.hB; have:=hx.xlt; omega
 have HB:=hid (b1 w (.cells #[.int .i64 0,.int .i64 0,.int .i64 0,.int .i64 0,.int .i64 0,.int .i64 0,.int .i64 0,.int .i64 0,.int .i64 0,.slice none 0 0,.int .i64 0] 86))
 have HK:=hid (K11.zero w)
 have HX0:=hid hx.xlt
 have HD0:=hid ((HB.out.cell (p:=⟨b,o,none⟩) hbw).trans d0)
 have HBI:=hid (HBC t hz hw hk s p c b o _ hc hok (ht.below (hx.term (grown_of_below HB.out _))) (hx.reach HB.out) (hs.step (grown_of_below HB.out _)))
 rw [hk]at HD0
 have hd0:=HD0.out
 clear d0 d1 d2 d3 d4 hta hca hx hs ht hb hbw hok hc hw hz hk HBC;have hs1:w.heap.size<(w.alloc (.cells #[.int .i64 0,.int .i64 0,.int .i64 0,.int .i64 0,.int .i64 0,.int .i64 0,.int .i64 0,.int .i64 0,.int .i64 0,.slice none 0 0,.int .i64 0] 86)).heap.size:=by simp
 have HS1:=hid hs1
 clear hs1;generalize ev t (s++E) c=g at*;obtain ⟨r,c2⟩:=g
 unfold Left;go_enter Tryz.func41,Tryz.ntmps41;go_upto_region 1 with (fail);generalize w.alloc (.cells #[.int .i64 0,.int .i64 0,.int .i64 0,.int .i64 0,.int .i64 0,.int .i64 0,.int .i64 0,.int .i64 0,.int .i64 0,.slice none 0 0,.int .i64 0] 86)=w1 at*;go_wp2_with fail;refine HBI.out.mono ?_
 rintro e w2 ⟨q,rfl,hq,hg2,he2⟩
 dsimp only at hq he2
 obtain ⟨A5,c5,rfl⟩:∃ A c,q=.slice A r.path.length c:=by obtain ⟨⟨⟨A,c,h1,_⟩,_⟩,_⟩:=hq; exact ⟨A,c,h1⟩
 have HK2:Hid (K11 w2 w.heap.size zR (.slice none 0 0)):=(hg2.block w.heap.size HS1.out (fun e=>by have h1:=Option.some.inj e; have h2:=HX0.out; omega)).trans HK.out
 have HQ2:=hid hq
 have HG2:Hid (w.grownBy w2 (some xb)):=grown_tr (grown_of_below HB.out _) hg2
 have HE2:=hid he2
 clear hq hg2 he2 hd0 HBI;obtain ⟨⟨z0,z1,z2,z3,z4,z5,z6,z7,z8,z9,z10⟩,zf,_⟩:=HK2.out.cells
 dsimp only
 unfold R.cells;go_wp2_with fail;refine bodyPost_ret (v:=.agg (R.cells r (.slice A5 r.path.length c5))) (by simp [results,Tryz.results41,go_sem,R.cells,z0,z1,z2,z3,z4,z5,z6,z7,z8,z9,z10]) rfl ⟨_,rfl,(((show BO w2 (w.heap.size+1) (.slice A5 r.path.length c5) r.path from HQ2.out.less HS1.out)).set11 (Nat.lt_succ_self _) r (.slice A5 r.path.length c5)).less (Nat.le_succ _),grown11 HG2.out r (.slice A5 r.path.length c5),eb11 ⟨HE2.out,HX0.out⟩ r (.slice A5 r.path.length c5)⟩
theorem term_all (HF:FindC){xb nb ob B0:Nat}{E:Sc}:∀ N:Nat,N≤2000→TermC xb nb ob B0 E N
 | 0,_=>fun t hz=>by have:=size_pos t; omega
 | N+1,hN=>fun t hz hw s p c b o w hc hok ht hx hs=>by
  have IH:=term_all HF (xb:=xb) (nb:=nb) (ob:=ob) (B0:=B0) (E:=E) N (by omega)
  rcases kind_cases hw.parts.1 with h|h|h|h|h
  ·exact term_leaf HF t hw (.inl h) s p c b o w ht hx hs
  ·exact term_leaf HF t hw (.inr (.inl h)) s p c b o w ht hx hs
  ·exact term_leaf HF t hw (.inr (.inr h)) s p c b o w ht hx hs
  ·exact term_apply IH t hz hw h (by omega) s p c b o w hc hok ht hx hs
  ·exact term_bind (bind_all IH (by omega)) t hz hw h s p c b o w hc hok ht hx hs
end Go.Proofs.YtknpigdpepmimaaGreatDoor
namespace Go.Proofs.YtknpigdpepmimaaGreatDoor
open Go.Lib(hid)
open Go.RowKit
section
variable {P:Program}{ops:Array Oper}{md:Region.Mode}{C:World→Prop}
def HeadQ (P:Program)(md:Region.Mode)(ops:Array Oper)(C:World→Prop) (n:Nat)(L:Array Bool→Act→Prop):Nat→Array Bool→Act→Prop
 | 0,d,a=>L d a
 | f+1,d,a=>Region.ready md ops d≠[]∧∀ i∈Region.ready md ops d,i<n∧qOp P ops C i (HeadQ P md ops C n L f (d.setIfInBounds i true)) a
theorem HeadQ.wp {n g:Nat}{L:Array Bool→Act→Prop}{Q:Exit→Act→World→Prop}(hL:∀ d a w,C w→L d a→wpAny P md ops Q g d a w) (f:Nat):
  ∀ (d:Array Bool)(a:Act)(w:World),C w→HeadQ P md ops C n L f d a→wpAny P md ops Q (f+g) d a w:=by
 induction f with
 | zero=>intro d a w hw h; rw [Nat.zero_add]; exact hL d a w hw h
 | succ f ih=>
  intro d a w hw h;rw [show f+1+g=f+g+1 from by omega]
  exact ⟨fun e=>absurd e h.1,fun i hi=>wpOp_of_qOp hw (fun a' w' hw' h'=>ih _ a' w' hw' h') (h.2 i hi).2⟩
theorem HeadQ.take {n i:Nat}{oi:Oper}{v:Value}{L:Array Bool→Act→Prop}(hi:ops[i]?=some oi)(hsel:∀ (j:Nat)(o:Oper) cs b,ops[j]?=some o→o.op≠.select cs b)
  (hs:Region.sinkB md ops n=true)(hc:Region.chainB md ops n=true)(hn:n<ops.size)(hin:i<n)(hL:∀ d a,L d a→∀ j∈Region.ready md ops d,n≤j) (f:Nat):
  ∀ (d:Array Bool)(a:Act),HeadInv md ops n d→
   (∀ j oj,ops[j]?=some oj→j≠i→d.getD j true=false→(∀ e∈oj.after,Region.binds md e=true→e.on≠i)→oi.apart ops oj=true)→
   i∈Region.ready md ops d→YieldsIn P ops C oi v a→HeadQ P md ops C n L f (d.setIfInBounds i true) (a.put oi.dst v)→HeadQ P md ops C n L (f+1) d a:=by
 induction f with
 | zero=>
  intro d a inv _ hr hy H;have hun:=(mem_ready.1 hr).1
  refine ⟨List.ne_nil_of_mem hr,fun j hj=>?_⟩
  have hjn:j<n:=Nat.lt_of_not_le fun h=>tail_waits hs hc hn inv _ i rfl hin hun j h hj
  refine ⟨hjn,?_⟩
  by_cases e:j=i
  ·subst e; exact hy.qOp hi H
  ·exact absurd (hL _ _ H j (ready_mono hj e)) (Nat.not_le.2 hjn)
 | succ f ih=>
  intro d a inv hfree hr hy H;have hun:=(mem_ready.1 hr).1
  refine ⟨List.ne_nil_of_mem hr,fun j hj=>?_⟩
  have hjn:j<n:=Nat.lt_of_not_le fun h=>tail_waits hs hc hn inv _ i rfl hin hun j h hj
  refine ⟨hjn,?_⟩
  by_cases e:j=i
  ·subst e; exact hy.qOp hi H
  ·obtain ⟨hjun,oj,hoj,hall⟩:=mem_ready.1 hj
   have hno:∀ x∈oj.after,Region.binds md x=true→x.on≠i:=fun x hx hb e'=>by
    have h1:=hall x hx hb
    rw [e',getD_both hun]at h1
    cases h1
   have h2:=qOp_put hoj (hfree j oj hoj e hjun hno) (fun cs b=>hsel i oi cs b hi) (fun cs b=>hsel j oj cs b hoj) hy (H.2 j (ready_mono hj e)).2
   refine qOp_mono (fun a' h3=>ih (d.setIfInBounds j true) a' (inv.set hj hjn) (fun k ok hk hki hu hno'=>hfree k ok hk hki ?_ hno') (ready_mono hr (Ne.symm e)) h3.1 ?_) h2
   ·by_cases ejk:j=k
    ·subst ejk; exact hjun
    ·rwa [getD_set_ne true ejk]at hu
   ·rw [Array.setIfInBounds_comm _ _ e]; exact h3.2
theorem HeadQ.lex {n g:Nat}{K:Act→Prop}(hsel:Region.noSelect ops=true)(hs:Region.sinkB md ops n=true)(hc:Region.chainB md ops n=true)(hn:n<ops.size)(l:List Oper):
  ∀ (k:Nat)(d:Array Bool)(a:Act),(∀ j,j<l.length→l[j]?=ops[k+j]?)→k+l.length=n→HeadInv md ops n d→Region.lexHead md ops g l.length k d=true→wpQuiet P ops C K l a→
   HeadQ P md ops C n (fun d' a'=>Region.seqB md ops g n d'=true∧K a') l.length d a:=by
 induction l with
 | nil=>
  intro k d a _ hk _ hB h;obtain rfl:k=n:=by simpa using hk
  exact ⟨by simpa [Region.lexHead]using hB,h⟩
 | cons o l ih=>
  intro k d a hl hk inv hB h;have h0:ops[k]?=some o:=by simpa using (hl 0 (by simp)).symm
  simp only [List.length_cons,Region.lexHead,Bool.and_eq_true]at hB
  have hkn:k<n:=by simp only [List.length_cons]at hk; omega
  have hr:k∈Region.ready md ops d:=by simpa using hB.1.1
  obtain ⟨v,hy,hK⟩:=yieldsIn_of_qOp h0 (show qOp P ops C k (wpQuiet P ops C K l) a by unfold qOp; simp only [h0]; exact h)
  refine HeadQ.take h0 (Region.noSelect_spec hsel) hs hc hn hkn (fun d' a' hL=>seqB_ready hL.1) l.length d a inv (Region.free_spec h0 hB.1.2) hr hy ?_
  exact ih (k+1) _ _ (fun j hj=>by have:=hl (j+1) (by simp; omega); simpa [Nat.add_assoc,Nat.add_comm 1 j]using this) (by simp only [List.length_cons]at hk; omega) (inv.set hr hkn) hB.2 hK
theorem wp_region_quiet_tail {id:Nat}{Q:Exit→Act→World→Prop}{a:Act}{w:World}{l:List Oper} (n:Nat)(hm:P.follows .mixedOrders=true)(hB:Region.lexTailB .any l.toArray n=true)(hC:C { w with drawn:=w.drawn+1 })
  (h:wpQuiet P l.toArray C (fun a'=>∀ w',C w'→wpList P l.toArray Q (l.drop n) a' w') (l.take n) a):(Code.region id l.toArray true).wp P Q a w:=by
 simp only [Region.lexTailB,Bool.and_eq_true,decide_eq_true_eq]at hB
 obtain ⟨⟨⟨⟨hsel,hn⟩,hs⟩,hc⟩,hlex⟩:=hB
 have hn':n<l.length:=by simpa using hn
 have ht:(l.take n).length=n:=by simp; omega
 have hd:(l.drop n).length=l.toArray.size-n:=by simp
 have inv:HeadInv .any l.toArray n (Array.replicate l.toArray.size false):=
  ⟨by simp,fun j oj _ hl=>(by rw [getD_replicate_false]at hl; cases hl),fun t _ ht=>getD_in (by simpa using ht) (getD_replicate_false _ _)⟩
 have H:=HeadQ.lex (md:=.any) (g:=l.toArray.size-n) hsel hs hc hn (l.take n) 0 _ a (fun j hj=>by
  have hj':j<n:=by rw [ht]at hj; exact hj
  simp [hj']) (by simpa using ht) inv (by rw [ht]; exact hlex) h
 refine wp_region_any hm ?_
 have R:=HeadQ.wp (Q:=Q) (g:=l.toArray.size-n) (fun d a' w' hw' hL=>by
  have:=wpAny_of_seq (md:=.any) (Q':=Q) (l.drop n) n d a' w' (fun j=>by simp [List.getElem?_drop]) (by rw [hd]; exact hL.1) (hL.2 w' hw')
  rwa [hd]at this) _ _ _ _ hC H
 rwa [ht,show n+(l.toArray.size-n)=l.toArray.size from by omega]at R
end
section
variable {ops:Array Oper}
def rowT (ops:Array Oper)(o:Oper):List Nat × Nat × List Nat:=
 ((o.after.toList.filter (Region.binds .any)).map (·.on),(match o.dst with|some d=>d+1|none=>0),(o.looksAt ops).map (·+1))
def inT (n:Nat):List Nat→Bool
 | []=>false
 | x::l=>Nat.beq x n||inT n l
def notT (n:Nat)(l:List Nat):Bool:=Nat.beq n 0||!inT n l
def apT (r s:List Nat × Nat × List Nat):Bool:=notT r.2.1 s.2.2&&notT r.2.1 [s.2.1]&&notT s.2.1 r.2.2
def lowT (k:Nat):List Nat→Bool
 | []=>true
 | x::l=>Nat.ble (x+1) k&&lowT k l
def tabGo:List (List Nat × Nat × List Nat)→Nat→Bool
 | [],_=>true
 | r::rs,k=>lowT k r.1&&rs.all (fun s=>inT k s.1||apT r s)&&tabGo rs (k+1)
def sinkT:List (List Nat × Nat × List Nat)→Nat→Bool
 | [],_=>true
 | _::rs,k=>(rs.isEmpty||rs.any (fun s=>inT k s.1))&&sinkT rs (k+1)
def chT:List (List Nat × Nat × List Nat)→Nat→Bool
 | [],_=>true
 | r::rs,k=>inT k r.1&&chT rs (k+1)
theorem inT_iff (n:Nat)(l:List Nat):inT n l=true↔n∈l:=by
 induction l with
 | nil=>simp [inT]
 | cons x l ih=>simp only [inT,Bool.or_eq_true,Nat.beq_eq,ih,List.mem_cons]; constructor<;>(rintro (h|h)<;>simp [h])
theorem lowT_iff (k:Nat)(l:List Nat):lowT k l=true↔∀ x∈l,x<k:=by
 induction l with
 | nil=>simp [lowT]
 | cons x l ih=>simp only [lowT,Bool.and_eq_true,Nat.ble_eq,ih,List.forall_mem_cons]; exact Iff.rfl
theorem tabGo_low:∀ (T:List (List Nat × Nat × List Nat)) (m:Nat),tabGo T m=true→∀ k r,T[k]?=some r→∀ x∈r.1,x<m+k
 | [],_,_,k,r,h=>by simp at h
 | r::rs,m,hB,0,r',h=>by
  obtain rfl:r=r':=by simpa using h
  simp only [tabGo,Bool.and_eq_true]at hB
  exact (lowT_iff _ _).1 hB.1.1
 | r::rs,m,hB,k+1,r',h=>by
  simp only [tabGo,Bool.and_eq_true]at hB
  have:=tabGo_low rs (m+1) hB.2 k r' (by simpa using h)
  intro x hx;have:=this x hx
  omega
theorem tabGo_ap:∀ (T:List (List Nat × Nat × List Nat)) (m:Nat),tabGo T m=true→∀ k j r s,k<j→T[k]?=some r→T[j]?=some s→m+k∈s.1∨apT r s=true
 | [],_,_,k,_,r,_,_,h,_=>by simp at h
 | r::rs,m,hB,0,j,r',s,hj,h,h2=>by
  obtain rfl:r=r':=by simpa using h
  simp only [tabGo,Bool.and_eq_true,List.all_eq_true]at hB
  obtain ⟨j,rfl⟩:∃ i,j=i+1:=⟨j-1,by omega⟩
  have:=hB.1.2 s (List.mem_of_getElem? (by simpa using h2))
  rw [Bool.or_eq_true,inT_iff]at this
  exact this
 | r::rs,m,hB,k+1,j,r',s,hj,h,h2=>by
  simp only [tabGo,Bool.and_eq_true]at hB
  obtain ⟨j,rfl⟩:∃ i,j=i+1:=⟨j-1,by omega⟩
  have:=tabGo_ap rs (m+1) hB.2 k j r' s (by omega) (by simpa using h) (by simpa using h2)
  rwa [show m+(k+1)=m+1+k from by omega]
theorem sinkT_at:∀ (T:List (List Nat × Nat × List Nat)) (m:Nat),sinkT T m=true→∀ k,k+1<T.length→∃ j s,k<j∧T[j]?=some s∧m+k∈s.1
 | [],_,_,k,h=>by simp at h
 | r::rs,m,hB,0,h=>by
  simp only [sinkT,Bool.and_eq_true,Bool.or_eq_true,List.any_eq_true]at hB
  rcases hB.1 with h1|⟨s,hs,h1⟩
  ·have:rs=[]:=by simpa using h1
   subst this; simp at h
  ·obtain ⟨j,hj⟩:=List.getElem?_of_mem hs
   exact ⟨j+1,s,by omega,by simpa using hj,(inT_iff _ _).1 h1⟩
 | r::rs,m,hB,k+1,h=>by
  simp only [sinkT,Bool.and_eq_true]at hB
  obtain ⟨j,s,h1,h2,h3⟩:=sinkT_at rs (m+1) hB.2 k (by simpa using h)
  exact ⟨j+1,s,by omega,by simpa using h2,by rwa [show m+(k+1)=m+1+k from by omega]⟩
theorem chT_at:∀ (T:List (List Nat × Nat × List Nat)) (m:Nat),chT T m=true→∀ k r,T[k]?=some r→m+k∈r.1
 | [],_,_,k,r,h=>by simp at h
 | r::rs,m,hB,0,r',h=>by
  obtain rfl:r=r':=by simpa using h
  simp only [chT,Bool.and_eq_true]at hB
  exact (inT_iff _ _).1 hB.1
 | r::rs,m,hB,k+1,r',h=>by
  simp only [chT,Bool.and_eq_true]at hB
  have:=chT_at rs (m+1) hB.2 k r' (by simpa using h)
  rwa [show m+(k+1)=m+1+k from by omega]
theorem rowT_at (T:List (List Nat × Nat × List Nat))(hT:ops.toList.map (rowT ops)=T){k:Nat}{o:Oper}(h:ops[k]?=some o):T[k]?=some (rowT ops o):=by
 subst hT;simp [h]
theorem rowT_waits {o:Oper}{k:Nat}:k∈(rowT ops o).1↔∃ e∈o.after,Region.binds .any e=true∧e.on=k:=by
 unfold rowT;simp only [List.mem_map,List.mem_filter,Array.mem_toList_iff];constructor
 ·rintro ⟨e,⟨h1,h2⟩,h3⟩; exact ⟨e,h1,h2,h3⟩
 ·rintro ⟨e,h1,h2,h3⟩; exact ⟨e,⟨h1,h2⟩,h3⟩
theorem notT_spec {n:Nat}{l:List Nat}(h:notT (n+1) l=true):n+1∉l:=fun hm=>by
 unfold notT at h;rw [(inT_iff _ _).2 hm]at h
 simp [Nat.beq]at h
theorem apT_spec {o p:Oper}(h:apT (rowT ops o) (rowT ops p)=true):o.apart ops p=true:=by
 unfold apT at h;simp only [Bool.and_eq_true]at h
 obtain ⟨⟨h1,h2⟩,h3⟩:=h
 have L:∀ (q:Oper) (d:Nat),d+1∉(rowT ops q).2.2→(q.looksAt ops).contains d=false:=fun q d hn=>by
  rw [Bool.eq_false_iff];intro hc;have hm:d∈q.looksAt ops:=by simpa using hc
  exact hn (List.mem_map_of_mem (f:=(·+1)) hm)
 unfold Oper.apart;rw [Bool.and_eq_true];constructor
 ·cases hd:o.dst with
  | none=>rfl
  | some d=>
   have e1:(rowT ops o).2.1=d+1:=by unfold rowT; simp [hd]
   rw [e1]at h1 h2
   simp only [L p d (notT_spec h1),Bool.not_false,Bool.true_and,bne_iff_ne,ne_eq];intro hp;have e2:(rowT ops p).2.1=d+1:=by unfold rowT; simp [hp]
   exact notT_spec h2 (by rw [e2]; simp)
 ·cases hd:p.dst with
  | none=>rfl
  | some d=>
   have e1:(rowT ops p).2.1=d+1:=by unfold rowT; simp [hd]
   rw [e1]at h3
   show (!(o.looksAt ops).contains d)=true
   rw [L o d (notT_spec h3)]; rfl
structure Pre (ops:Array Oper) (k:Nat)(l:Array Bool):Prop where
 size:l.size=ops.size
 at_:∀ i,i<ops.size→∀ b,l.getD i b=decide (i<k)
theorem Pre.set {k:Nat}{l:Array Bool}(h:Pre ops k l)(hk:k<ops.size):Pre ops (k+1) (l.setIfInBounds k true):=by
 refine ⟨by simp [h.size],fun i hi b=>?_⟩
 have hs:=h.size
 by_cases e:i=k
 ·subst e
  have:i<l.size:=by omega
  simp [this]
 ·have:=h.at_ i hi b
  have hil:i<l.size:=by omega
  simp only [Array.getD,Array.size_setIfInBounds,hil,dif_pos]at this ⊢
  simp only [Array.getInternal_eq_getElem]at this ⊢
  rw [Array.getElem_setIfInBounds_ne hil (Ne.symm e),this];exact decide_eq_decide.2 (by omega)
theorem lexTail_of_tab (T:List (List Nat × Nat × List Nat))(hT:ops.toList.map (rowT ops)=T)(hs:Region.noSelect ops=true)(hg:tabGo T 0=true) (n:Nat)(hk:sinkT (T.take (n+1)) 0=true)(hc:chT (T.drop (n+1)) n=true)(hn:n<ops.size):Region.lexTailB .any ops n=true:=by
 have hTl:T.length=ops.size:=by rw [← hT]; simp
 have hlow:∀ k o,ops[k]?=some o→∀ e∈o.after,Region.binds .any e=true→e.on<k:=fun k o ho e he hb=>by
  have:=tabGo_low T 0 hg k _ (rowT_at T hT ho) e.on (rowT_waits.2 ⟨e,he,hb,rfl⟩)
  omega
 have hchain:∀ j o,n<j→ops[j]?=some o→∃ e∈o.after,Region.binds .any e=true∧e.on=j-1:=fun j o hj ho=>by
  have h1:=rowT_at T hT ho
  have h2:=chT_at (T.drop (n+1)) n hc (j-(n+1)) (rowT ops o) (by rw [List.getElem?_drop,show n+1+(j-(n+1))=j from by omega]; exact h1)
  rw [show n+(j-(n+1))=j-1 from by omega,rowT_waits]at h2
  exact h2
 have hready:∀ (k:Nat)(l:Array Bool) (i:Nat),Pre ops k l→i<ops.size→k≤i→(∀ o,ops[i]?=some o→∀ e∈o.after,Region.binds .any e=true→e.on<k)→i∈Region.ready .any ops l:=fun k l i hp hi hki hw=>by
  unfold Region.ready;rw [List.mem_filter];refine ⟨List.mem_range.2 hi,?_⟩
  rw [hp.at_ i hi true,decide_eq_false (by omega),Array.getElem?_eq_getElem hi]
  simp only [Bool.not_false,Bool.true_and,Option.map_some,Option.getD_some];rw [Array.all_eq_true_iff_forall_mem];intro e he;by_cases hb:Region.binds .any e=true
  ·have h1:=hw _ (Array.getElem?_eq_getElem hi) e he hb
   rw [hp.at_ e.on (by omega) false,decide_eq_true h1]; simp
  ·simp [hb]
 have hfin:∀ k l,n≤k→k<ops.size→Pre ops k l→Region.ready .any ops l=[k]:=fun k l hnk hks hp=>by
  have hmem:k∈Region.ready .any ops l:=hready k l k hp hks (Nat.le_refl _) (hlow k)
  have hall:∀ i∈Region.ready .any ops l,i=k:=fun i hi=>by
   obtain ⟨hun,oi,hoi,hall⟩:=mem_ready.1 hi
   have his:=(Array.getElem?_eq_some_iff.1 hoi).1
   rw [hp.at_ i his true]at hun
   have hki:k≤i:=by simpa using hun
   rcases Nat.eq_or_lt_of_le hki with h|h
   ·exact h.symm
   ·obtain ⟨e,he,hb,ho⟩:=hchain i oi (by omega) hoi
    have h1:=hall e he hb
    rw [hp.at_ e.on (by omega) false,ho]at h1
    have:i-1<k:=by simpa using h1
    omega
  unfold Region.ready at hmem hall ⊢;have hnd:((List.range ops.size).filter (fun i=>!l.getD i true&&((ops[i]?).map (·.after.all fun e=>!Region.binds .any e||l.getD e.on false)).getD false)).Nodup:=(List.nodup_range).filter _
  generalize (List.range ops.size).filter (fun i=>!l.getD i true&&((ops[i]?).map (·.after.all fun e=>!Region.binds .any e||l.getD e.on false)).getD false)=R at*
  match R,hmem,hall,hnd with
  | [x],_,hall,_=>rw [hall x (by simp)]
  | x::y::R,_,hall,hnd=>
   exfalso
   have e1:=hall x (by simp)
   have e2:=hall y (by simp)
   rw [List.nodup_cons]at hnd
   exact hnd.1 (by rw [e1,e2]; simp)
 have hend:∀ l,Pre ops ops.size l→Region.ready .any ops l=[]:=fun l hp=>by
  unfold Region.ready;rw [List.filter_eq_nil_iff];intro i hi;have hi':=List.mem_range.1 hi
  rw [hp.at_ i (by omega) true,decide_eq_true (by omega)]; simp
 have hseq:∀ (g k:Nat)(l:Array Bool),k+g=ops.size→n≤k→Pre ops k l→Region.seqB .any ops g k l=true:=by
  intro g;induction g with
  | zero=>
   intro k l hkg hnk hp;rw [Nat.add_zero]at hkg
   subst hkg;simp only [Region.seqB,List.isEmpty_iff];exact hend l hp
  | succ g ih=>
   intro k l hkg hnk hp;simp only [Region.seqB,Bool.and_eq_true,decide_eq_true_eq];exact ⟨hfin k l hnk (by omega) hp,ih (k+1) _ (by omega) (by omega) (hp.set (by omega))⟩
 have hhead:∀ (f k:Nat)(l:Array Bool),k+f=n→Pre ops k l→Region.lexHead .any ops (ops.size-n) f k l=true:=by
  intro f;induction f with
  | zero=>
   intro k l hkn hp;obtain rfl:k=n:=by omega
   simp only [Region.lexHead];exact hseq _ k l (by omega) (Nat.le_refl _) hp
  | succ f ih=>
   intro k l hkn hp;simp only [Region.lexHead,Bool.and_eq_true];have hklt:k<ops.size:=by omega
   refine ⟨⟨?_,?_⟩,ih (k+1) _ (by omega) (hp.set hklt)⟩
   ·simpa using hready k l k hp hklt (Nat.le_refl _) (hlow k)
   ·unfold Region.free
    rw [Array.getElem?_eq_getElem hklt];simp only [List.all_eq_true,List.mem_range];intro j hj;rw [hp.at_ j hj true,Array.getElem?_eq_getElem hj];simp only [Bool.or_eq_true,beq_iff_eq,decide_eq_true_eq];rcases Nat.lt_trichotomy j k with h|h|h
    ·exact .inl (.inr h)
    ·exact .inl (.inl h)
    ·right
     rcases tabGo_ap T 0 hg k j _ _ h (rowT_at T hT (Array.getElem?_eq_getElem hklt)) (rowT_at T hT (Array.getElem?_eq_getElem hj))with h1|h1
     ·rw [Nat.zero_add,rowT_waits]at h1
      obtain ⟨e,he,hb,ho⟩:=h1
      left;rw [Array.any_eq_true'];exact ⟨e,he,by simp [hb,ho]⟩
     ·exact .inr (apT_spec h1)
 have hpre:Pre ops 0 (Array.replicate ops.size false):=⟨by simp,fun i hi b=>by simp [Array.getD,hi]⟩
 have hwait:∀ i j s,i<ops.size→T[j]?=some s→i∈s.1→j<ops.size∧Region.waitsFor .any ops j i=true:=fun i j s hi h2 h3=>by
  have hj:j<ops.size:=by
   have:=(List.getElem?_eq_some_iff.1 h2).1
   omega
  refine ⟨hj,?_⟩
  have e:=rowT_at T hT (Array.getElem?_eq_getElem hj)
  rw [e]at h2
  obtain rfl:=Option.some.inj h2
  rw [rowT_waits]at h3
  unfold Region.waitsFor;rw [Array.getElem?_eq_getElem hj];obtain ⟨e,he,hb,ho⟩:=h3
  simp only
  rw [Array.any_eq_true'];exact ⟨e,he,by simp [hb,ho]⟩
 unfold Region.lexTailB;simp only [Bool.and_eq_true,decide_eq_true_eq];refine ⟨⟨⟨⟨hs,hn⟩,?_⟩,?_⟩,hhead n 0 _ (by omega) hpre⟩
 ·unfold Region.sinkB
  simp only [List.all_eq_true,List.mem_range,List.any_eq_true,Bool.and_eq_true,decide_eq_true_eq];intro i hi;obtain ⟨j,s,h1,h2,h3⟩:=sinkT_at (T.take (n+1)) 0 hk i (by rw [List.length_take]; omega)
  have hjn:j<n+1:=by
   have:=(List.getElem?_eq_some_iff.1 h2).1
   rw [List.length_take]at this
   omega
  rw [List.getElem?_take,if_pos hjn]at h2
  rw [Nat.zero_add]at h3
  exact ⟨j,hjn,h1,(hwait i j s (by omega) h2 h3).2⟩
 ·unfold Region.chainB
  simp only [List.all_eq_true,List.mem_range,Bool.or_eq_true,decide_eq_true_eq];intro t ht;rcases Nat.lt_or_ge n t with h|h
  ·right
   obtain ⟨e,he,hb,ho⟩:=hchain t _ h (Array.getElem?_eq_getElem ht)
   exact (hwait (t-1) t _ (by omega) (rowT_at T hT (Array.getElem?_eq_getElem ht)) (rowT_waits.2 ⟨e,he,hb,ho⟩)).2
  ·exact .inl h
end
set_option maxRecDepth 100000 in
set_option maxHeartbeats 2000000 in
theorem value172_any (n d:Int)(x:Dm)(w:World):Calls Tryz.prog 172 #[.int .i64 n,.int .i64 d,.agg #[.int .i64 x.a,.int .i64 x.b,.int .i64 x.c,.int .i64 x.d,.int .i64 x.e,.int .i64 x.f,.int .i64 x.g]] w fun e w'=>e=.returned (.agg (V.mk n d x).cells)∧Below w.heap.size w w':=by
 have HB:=hid (b2 w (.cells #[.int .i64 x.a,.int .i64 x.b,.int .i64 x.c,.int .i64 x.d,.int .i64 x.e,.int .i64 x.f,.int .i64 x.g] 42) (.cells zV.cells 44))
 have hk1:=(K7.new w x).reach (b1 _ (.cells zV.cells 44))
 have hk2:K9 ((w.alloc (.cells #[.int .i64 x.a,.int .i64 x.b,.int .i64 x.c,.int .i64 x.d,.int .i64 x.e,.int .i64 x.f,.int .i64 x.g] 42)).alloc (.cells zV.cells 44)) (w.heap.size+1) zV:=by
  have:=K9.new (w.alloc (.cells #[.int .i64 x.a,.int .i64 x.b,.int .i64 x.c,.int .i64 x.d,.int .i64 x.e,.int .i64 x.f,.int .i64 x.g] 42)) zV
  rw [World.size_alloc]at this
  exact this
 have HK1:=hid hk1
 have HK2:=hid hk2
 rw [zV_cells]at HB HK1 HK2
 clear hk1 hk2;go_enter Tryz.func172,Tryz.ntmps172;go_upto_region 1 with (fail);generalize (w.alloc (.cells #[.int .i64 x.a,.int .i64 x.b,.int .i64 x.c,.int .i64 x.d,.int .i64 x.e,.int .i64 x.f,.int .i64 x.g] 42)).alloc (.cells #[.int .i64 0,.int .i64 0,.int .i64 0,.int .i64 0,.int .i64 0,.int .i64 0,.int .i64 0,.int .i64 0,.int .i64 0] 44)=w1 at*;obtain ⟨⟨p0,p1,p2,p3,p4,p5,p6⟩,_,_⟩:=HK1.out.cells
 obtain ⟨⟨⟨z0,z1⟩,z2,z3,z4,z5,z6,z7,z8⟩,zf,_⟩:=HK2.out.cells
 go_wp2_with fail;refine bodyPost_ret (v:=.agg (V.mk n d x).cells) (by simp [results,Tryz.results172,go_sem,V.cells,z0,z1,z2,z3,z4,z5,z6,z7,z8]) rfl ⟨rfl,?_⟩
 exact below9 HB.out (b:=w.heap.size+1) (Nat.le_succ _) ⟨n,d,x⟩
set_option maxRecDepth 100000 in
set_option maxHeartbeats 2000000 in
theorem mass_any (n d:Int) (g:Nat)(w:World)(hg:w.cell? ⟨g,0,none⟩=some (.func (.func 172) #[] #[])):Calls Tryz.prog 173 #[.int .i64 n,.int .i64 d,.pointer (some ⟨g,0,none⟩)] w fun e w'=>e=.returned (.agg (V.mk n d ⟨0,1,0,0,0,0,0⟩).cells)∧Below w.heap.size w w':=by
 have HB:=hid (b1 w (.cells zV.cells 44))
 have HK2:Hid (K9 (w.alloc (.cells zV.cells 44)) w.heap.size zV):=K9.new w zV
 rw [zV_cells]at HB HK2
 have HG:=hid ((HB.out.cell (block_lt_of_cell hg)).trans hg)
 have HV:=hid fun w=>value172_any n d ⟨0,1,0,0,0,0,0⟩ w
 unfold V.cells at HV;dsimp only at HV
 clear hg;go_enter Tryz.func173,Tryz.ntmps173;go_upto_region 1 with (fail);generalize w.alloc (.cells #[.int .i64 0,.int .i64 0,.int .i64 0,.int .i64 0,.int .i64 0,.int .i64 0,.int .i64 0,.int .i64 0,.int .i64 0] 44)=w1 at*;have hg1:=HG.out
 go_wp2_with fail;refine (HV.out _).mono ?_
 rintro e w2 ⟨rfl,hb⟩
 have HK3:=hid (HK2.out.reach hb)
 have HB3:=hid (bl_tr HB.out hb)
 clear hb hg1;obtain ⟨⟨⟨z0,z1⟩,z2,z3,z4,z5,z6,z7,z8⟩,zf,_⟩:=HK3.out.cells
 go_wp2_with fail;refine bodyPost_ret (v:=.agg (V.mk n d ⟨0,1,0,0,0,0,0⟩).cells) (by simp [results,Tryz.results173,go_sem,V.cells,z0,z1,z2,z3,z4,z5,z6,z7,z8]) rfl ⟨rfl,?_⟩
 exact below9 HB3.out (b:=w.heap.size) (Nat.le_refl _) ⟨n,d,⟨0,1,0,0,0,0,0⟩⟩
set_option maxRecDepth 100000 in
set_option maxHeartbeats 2000000 in
theorem length_any (n d:Int) (g:Nat)(w:World)(hg:w.cell? ⟨g,0,none⟩=some (.func (.func 172) #[] #[])):Calls Tryz.prog 174 #[.int .i64 n,.int .i64 d,.pointer (some ⟨g,0,none⟩)] w fun e w'=>e=.returned (.agg (V.mk n d ⟨1,0,0,0,0,0,0⟩).cells)∧Below w.heap.size w w':=by
 have HB:=hid (b1 w (.cells zV.cells 44))
 have HK2:Hid (K9 (w.alloc (.cells zV.cells 44)) w.heap.size zV):=K9.new w zV
 rw [zV_cells]at HB HK2
 have HG:=hid ((HB.out.cell (block_lt_of_cell hg)).trans hg)
 have HV:=hid fun w=>value172_any n d ⟨1,0,0,0,0,0,0⟩ w
 unfold V.cells at HV;dsimp only at HV
 clear hg;go_enter Tryz.func174,Tryz.ntmps174;go_upto_region 1 with (fail);generalize w.alloc (.cells #[.int .i64 0,.int .i64 0,.int .i64 0,.int .i64 0,.int .i64 0,.int .i64 0,.int .i64 0,.int .i64 0,.int .i64 0] 44)=w1 at*;have hg1:=HG.out
 go_wp2_with fail;refine (HV.out _).mono ?_
 rintro e w2 ⟨rfl,hb⟩
 have HK3:=hid (HK2.out.reach hb)
 have HB3:=hid (bl_tr HB.out hb)
 clear hb hg1;obtain ⟨⟨⟨z0,z1⟩,z2,z3,z4,z5,z6,z7,z8⟩,zf,_⟩:=HK3.out.cells
 go_wp2_with fail;refine bodyPost_ret (v:=.agg (V.mk n d ⟨1,0,0,0,0,0,0⟩).cells) (by simp [results,Tryz.results174,go_sem,V.cells,z0,z1,z2,z3,z4,z5,z6,z7,z8]) rfl ⟨rfl,?_⟩
 exact below9 HB3.out (b:=w.heap.size) (Nat.le_refl _) ⟨n,d,⟨1,0,0,0,0,0,0⟩⟩
set_option maxRecDepth 100000 in
set_option maxHeartbeats 2000000 in
theorem time_any (n d:Int) (g:Nat)(w:World)(hg:w.cell? ⟨g,0,none⟩=some (.func (.func 172) #[] #[])):Calls Tryz.prog 175 #[.int .i64 n,.int .i64 d,.pointer (some ⟨g,0,none⟩)] w fun e w'=>e=.returned (.agg (V.mk n d ⟨0,0,1,0,0,0,0⟩).cells)∧Below w.heap.size w w':=by
 have HB:=hid (b1 w (.cells zV.cells 44))
 have HK2:Hid (K9 (w.alloc (.cells zV.cells 44)) w.heap.size zV):=K9.new w zV
 rw [zV_cells]at HB HK2
 have HG:=hid ((HB.out.cell (block_lt_of_cell hg)).trans hg)
 have HV:=hid fun w=>value172_any n d ⟨0,0,1,0,0,0,0⟩ w
 unfold V.cells at HV;dsimp only at HV
 clear hg;go_enter Tryz.func175,Tryz.ntmps175;go_upto_region 1 with (fail);generalize w.alloc (.cells #[.int .i64 0,.int .i64 0,.int .i64 0,.int .i64 0,.int .i64 0,.int .i64 0,.int .i64 0,.int .i64 0,.int .i64 0] 44)=w1 at*;have hg1:=HG.out
 go_wp2_with fail;refine (HV.out _).mono ?_
 rintro e w2 ⟨rfl,hb⟩
 have HK3:=hid (HK2.out.reach hb)
 have HB3:=hid (bl_tr HB.out hb)
 clear hb hg1;obtain ⟨⟨⟨z0,z1⟩,z2,z3,z4,z5,z6,z7,z8⟩,zf,_⟩:=HK3.out.cells
 go_wp2_with fail;refine bodyPost_ret (v:=.agg (V.mk n d ⟨0,0,1,0,0,0,0⟩).cells) (by simp [results,Tryz.results175,go_sem,V.cells,z0,z1,z2,z3,z4,z5,z6,z7,z8]) rfl ⟨rfl,?_⟩
 exact below9 HB3.out (b:=w.heap.size) (Nat.le_refl _) ⟨n,d,⟨0,0,1,0,0,0,0⟩⟩
theorem value_lit (n d a b c e f g h:Int)(w:World):Calls Tryz.prog 172 #[.int .i64 n,.int .i64 d,.agg #[.int .i64 a,.int .i64 b,.int .i64 c,.int .i64 e,.int .i64 f,.int .i64 g,.int .i64 h]] w fun x w'=>x=.returned (.agg #[.int .i64 n,.int .i64 d,.int .i64 a,.int .i64 b,.int .i64 c,.int .i64 e,.int .i64 f,.int .i64 g,.int .i64 h])∧Below w.heap.size w w':=value172_any n d ⟨a,b,c,e,f,g,h⟩ w
theorem mass_lit (n d:Int) (g:Nat)(w:World)(hg:w.cell? ⟨g,0,none⟩=some (.func (.func 172) #[] #[])):Calls Tryz.prog 173 #[.int .i64 n,.int .i64 d,.pointer (some ⟨g,0,none⟩)] w fun e w'=>e=.returned (.agg #[.int .i64 n,.int .i64 d,.int .i64 0,.int .i64 1,.int .i64 0,.int .i64 0,.int .i64 0,.int .i64 0,.int .i64 0])∧Below w.heap.size w w':=mass_any n d g w hg
theorem length_lit (n d:Int) (g:Nat)(w:World)(hg:w.cell? ⟨g,0,none⟩=some (.func (.func 172) #[] #[])):Calls Tryz.prog 174 #[.int .i64 n,.int .i64 d,.pointer (some ⟨g,0,none⟩)] w fun e w'=>e=.returned (.agg #[.int .i64 n,.int .i64 d,.int .i64 1,.int .i64 0,.int .i64 0,.int .i64 0,.int .i64 0,.int .i64 0,.int .i64 0])∧Below w.heap.size w w':=length_any n d g w hg
theorem time_lit (n d:Int) (g:Nat)(w:World)(hg:w.cell? ⟨g,0,none⟩=some (.func (.func 172) #[] #[])):Calls Tryz.prog 175 #[.int .i64 n,.int .i64 d,.pointer (some ⟨g,0,none⟩)] w fun e w'=>e=.returned (.agg #[.int .i64 n,.int .i64 d,.int .i64 0,.int .i64 0,.int .i64 1,.int .i64 0,.int .i64 0,.int .i64 0,.int .i64 0])∧Below w.heap.size w w':=time_any n d g w hg
def unitL:List (List UInt8 × V):=[
 ([109],⟨1,1,⟨1,0,0,0,0,0,0⟩⟩),([107,103],⟨1,1,⟨0,1,0,0,0,0,0⟩⟩),([115],⟨1,1,⟨0,0,1,0,0,0,0⟩⟩),([65],⟨1,1,⟨0,0,0,1,0,0,0⟩⟩),
 ([75],⟨1,1,⟨0,0,0,0,1,0,0⟩⟩),([109,111,108],⟨1,1,⟨0,0,0,0,0,1,0⟩⟩),([99,100],⟨1,1,⟨0,0,0,0,0,0,1⟩⟩),
 ([107,109],⟨1000,1,⟨1,0,0,0,0,0,0⟩⟩),([99,109],⟨1,100,⟨1,0,0,0,0,0,0⟩⟩),([109,109],⟨1,1000,⟨1,0,0,0,0,0,0⟩⟩),
 ([103],⟨1,1000,⟨0,1,0,0,0,0,0⟩⟩),([116],⟨1000,1,⟨0,1,0,0,0,0,0⟩⟩),([109,115],⟨1,1000,⟨0,0,1,0,0,0,0⟩⟩),
 ([109,105,110],⟨60,1,⟨0,0,1,0,0,0,0⟩⟩),([104],⟨3600,1,⟨0,0,1,0,0,0,0⟩⟩),([100],⟨86400,1,⟨0,0,1,0,0,0,0⟩⟩),
 ([72,122],⟨1,1,⟨0,0,-1,0,0,0,0⟩⟩),([78],⟨1,1,⟨1,1,-2,0,0,0,0⟩⟩),([80,97],⟨1,1,⟨-1,1,-2,0,0,0,0⟩⟩),
 ([74],⟨1,1,⟨2,1,-2,0,0,0,0⟩⟩),([87],⟨1,1,⟨2,1,-3,0,0,0,0⟩⟩),([67],⟨1,1,⟨0,0,1,1,0,0,0⟩⟩),
 ([86],⟨1,1,⟨2,1,-3,-1,0,0,0⟩⟩),([111,104,109],⟨1,1,⟨2,1,-3,-2,0,0,0⟩⟩),([107,87,104],⟨3600000,1,⟨2,1,-2,0,0,0,0⟩⟩),
 ([108],⟨1,1000,⟨3,0,0,0,0,0,0⟩⟩),([37],⟨1,100,⟨0,0,0,0,0,0,0⟩⟩)]
def unitCells (p:List UInt8 × V):List Value:=.string ⟨p.1.toArray⟩::p.2.cells.toList
def unitC:Array Value:=(unitL.flatMap unitCells).toArray
theorem unit_info:(Tryz.prog.info? 166).map (fun i=>(i.zero,i.size,i.bytes))=some (some (.agg #[.string ⟨#[]⟩,.int .i64 0,.int .i64 0,.int .i64 0,.int .i64 0,.int .i64 0,.int .i64 0,.int .i64 0,.int .i64 0,.int .i64 0]),10,88):=by kernel_rfl
def tab131:List (List Nat × Nat × List Nat):=[([],11,[4]),([0],12,[11]),([1],13,[12]),([],14,[3]),([3,1],15,[14]),([4],16,[15]),([],17,[5]),([6,4],18,[17]),([7],19,[18]),([],20,[2]),([],21,[]),([9,10,7],22,[20,21]),([11],23,[22]),([],24,[2]),([],25,[]),([13,14,11],26,[24,25]),([15],27,[26]),([],28,[2]),([],29,[]),([17,18,15],30,[28,29]),([19],31,[30]),([],32,[2]),([],33,[]),([21,22,19],34,[32,33]),([23],35,[34]),([],36,[4]),([25,23],37,[36]),([26],38,[37]),([],39,[4]),([28,26],40,[39]),([29],41,[40]),([],42,[4]),([31,29],43,[42]),([32],44,[43]),([],45,[3]),([34,32],46,[45]),([35],47,[46]),([],48,[3]),([37,35],49,[48]),([38],50,[49]),([],51,[5]),([40,38],52,[51]),([41],53,[52]),([],54,[5]),([43,41],55,[54]),([44],56,[55]),([],57,[5]),([46,44],58,[57]),([47],59,[58]),([],60,[5]),([49,47],61,[60]),([50],62,[61]),([],63,[2]),([],64,[]),([52,53,50],65,[63,64]),([54],66,[65]),([],67,[2]),([],68,[]),([56,57,54],69,[67,68]),([58],70,[69]),([],71,[2]),([],72,[]),([60,61,58],73,[71,72]),([62],74,[73]),([],75,[2]),([],76,[6]),([64,65,62],77,[75,76]),([66],78,[77]),([],79,[2]),([],80,[]),([68,69,66],81,[79,80]),([70],82,[81]),([],83,[2]),([],84,[]),([72,73,70],85,[83,84]),([74],86,[85]),([],87,[2]),([],88,[]),([76,77,74],89,[87,88]),([78],90,[89]),([],91,[2]),([],92,[]),([80,81,78],93,[91,92]),([82],94,[93]),([],95,[2]),([],96,[6]),([84,85,82],97,[95,96]),([86],98,[97]),([],99,[2]),([],100,[]),([88,89,86],101,[99,100]),([90],102,[101]),([],103,[2]),([],104,[]),([92,93,90],105,[103,104]),([94],106,[105]),([2,5,8,12,16,20,24,27,30,33,36,39,42,45,48,51,55,59,63,67,71,75,79,83,87,91,95],107,[13,16,19,23,27,31,35,38,41,44,47,50,53,56,59,62,66,70,74,78,82,86,90,94,98,102,106]),([96,94,0,1,2,3,4,5,6,7,8,9,10,11,12,13,14,15,16,17,18,19,20,21,22,23,24,25,26,27,28,29,30,31,32,33,34,35,36,37,38,39,40,41,42,43,44,45,46,47,48,49,50,51,52,53,54,55,56,57,58,59,60,61,62,63,64,65,66,67,68,69,70,71,72,73,74,75,76,77,78,79,80,81,82,83,84,85,86,87,88,89,90,91,92,93,94,95,96],1,[107])]
theorem tab131_go:tabGo tab131 0=true:=by kernel_rfl
theorem tab131_sink:sinkT (tab131.take 97) 0=true:=by kernel_rfl
theorem tab131_ch:chT (tab131.drop 97) 96=true:=by kernel_rfl
set_option maxRecDepth 100000 in
set_option maxHeartbeats 4000000 in
theorem all_any (w:World):Calls Tryz.prog 131 #[] w fun e w'=>∃ b,e=.returned (.slice (some ⟨b,0,none⟩) 27 27)∧w.heap.size≤b∧w'.heap[b]?=some (.cells unitC 166 (0,0))∧Below w.heap.size w w':=by
 go_enter Tryz.func131,Tryz.ntmps131;go_wp2_with fail;have hb:=b2 w (.cells #[.func (.func 172) #[] #[]] 208) (.cells #[.int .i64 2,.int .i64 1,.int .i64 (-2),.int .i64 0,.int .i64 0,.int .i64 0,.int .i64 0] 42)
 have k0:((w.alloc (.cells #[.func (.func 172) #[] #[]] 208)).alloc (.cells #[.int .i64 2,.int .i64 1,.int .i64 (-2),.int .i64 0,.int .i64 0,.int .i64 0,.int .i64 0] 42)).cell? ⟨w.heap.size,0,none⟩=some (.func (.func 172) #[] #[]):=by simp
 have k1:=(K7.new (w.alloc (.cells #[.func (.func 172) #[] #[]] 208)) ⟨2,1,-2,0,0,0,0⟩)
 rw [World.size_alloc]at k1
 generalize (w.alloc (.cells #[.func (.func 172) #[] #[]] 208)).alloc (.cells #[.int .i64 2,.int .i64 1,.int .i64 (-2),.int .i64 0,.int .i64 0,.int .i64 0,.int .i64 0] 42)=w2 at*;have HB:=hid hb
 obtain ⟨⟨q0,q1,q2,q3,q4,q5,q6⟩,_,_⟩:=k1.cells
 dsimp only at q0 q1 q2 q3 q4 q5 q6
 have r:=fun d os=>cell_regrown k0 d os
 have r0:=fun d os=>cell_regrown q0 d os
 have r1:=fun d os=>cell_regrown q1 d os
 have r2:=fun d os=>cell_regrown q2 d os
 have r3:=fun d os=>cell_regrown q3 d os
 have r4:=fun d os=>cell_regrown q4 d os
 have r5:=fun d os=>cell_regrown q5 d os
 have r6:=fun d os=>cell_regrown q6 d os
 clear hb k0 k1 q0 q1 q2 q3 q4 q5 q6;simp only [List.append_eq,List.cons_append,List.nil_append];refine wp_region_quiet_tail (C:=fun w'=>∃ p:Regrown,w'=Sort.grow (redrawn w2 p.d) p.os) 96 (by kernel_rfl) (lexTail_of_tab tab131 (by kernel_rfl) (by kernel_rfl) tab131_go 96 tab131_sink tab131_ch (by decide)) ⟨⟨w2.drawn+1,#[]⟩,by rw [Sort.grow_empty]; rfl⟩ ?_
 simp only [List.take_succ_cons,List.take_zero,List.drop_succ_cons,List.drop_zero];repeat (go_big_quiet_step ((first|(go_at_call 172; apply Calls.regrown_of; apply value_lit)|(go_at_call 173; apply Calls.regrown_of; apply mass_lit; exact r _ _)|(go_at_call 174; apply Calls.regrown_of; apply length_lit; exact r _ _)|(go_at_call 175; apply Calls.regrown_of; apply time_lit; exact r _ _))))
 refine wpQuiet_nil ?_
 intro w' hw';obtain ⟨⟨dq,osq⟩,hw''⟩:=hw'
 subst hw'';have hb:=below_regrown w2 dq osq
 obtain ⟨w3,hw3⟩:∃ w3:World,w3=Sort.grow (redrawn w2 dq) osq:=⟨_,rfl⟩
 rw [← hw3]at hb ⊢
 have HB3:=hid (HB.out.trans (hb.mono HB.out.size))
 clear hw3 hb r r0 r1 r2 r3 r4 r5 r6;obtain ⟨i0,hi0,hz0,hz1,hz2⟩:=info_parts unit_info
 refine wpList_buildSlice rfl 163 166 27 _ rfl unitC i0 _ Tryz.underlying163 hi0 hz0 (by rw [hz1]; decide) (by rw [hz1]; decide) (by rw [hz1]; kernel_rfl) ?_
 have HU:=hid (heap_alloc_new w3 (.cells unitC 166))
 have HB4:=hid (HB3.out.alloc HB3.out.size (.cells unitC 166))
 have HS:=hid HB3.out.size
 generalize w3.alloc (.cells unitC 166)=w4 at*;go_wp2_with fail;go_ret;exact ⟨_,rfl,HS.out,HU.out,HB4.out⟩
end Go.Proofs.YtknpigdpepmimaaGreatDoor
namespace Go.Proofs.YtknpigdpepmimaaGreatDoor
open Go.Lib(hid)
open Go.RowKit Go.Maps
theorem cells_at:∀ (l:List (List UInt8 × V)) (i:Nat)(p:List UInt8 × V),l[i]?=some p→∀ (j:Nat) (u:Value),(unitCells p)[j]?=some u→(l.flatMap unitCells)[i*10+j]?=some u
 | [],i,p,h,_,_,_=>by simp at h
 | q::l,0,p,h,j,u,hu=>by
  obtain rfl:q=p:=by simpa using h
  rw [List.flatMap_cons,Nat.zero_mul,Nat.zero_add,List.getElem?_append_left (List.getElem?_eq_some_iff.1 hu).1]; exact hu
 | q::l,i+1,p,h,j,u,hu=>by
  have e:(unitCells q).length=10:=rfl
  rw [List.flatMap_cons,List.getElem?_append_right (by rw [e]; omega),e,show (i+1)*10+j-10=i*10+j from by omega]
  exact cells_at l i p (by simpa using h) j u hu
theorem unit_cells {w:World}{b:Nat}(hU:w.heap[b]?=some (.cells unitC 166 (0,0))) (i:Nat)(x:List UInt8)(v:V)(h:unitTab[i]?=some (x,v)):w.cell? ⟨b,i*10,none⟩=some (.string ⟨x.toArray⟩)∧w.cell? ⟨b,i*10+1,none⟩=some (.int .i64 v.num)∧w.cell? ⟨b,i*10+2,none⟩=some (.int .i64 v.den)∧w.cell? ⟨b,i*10+3,none⟩=some (.int .i64 v.dim.a)∧w.cell? ⟨b,i*10+4,none⟩=some (.int .i64 v.dim.b)∧w.cell? ⟨b,i*10+5,none⟩=some (.int .i64 v.dim.c)∧w.cell? ⟨b,i*10+6,none⟩=some (.int .i64 v.dim.d)∧w.cell? ⟨b,i*10+7,none⟩=some (.int .i64 v.dim.e)∧w.cell? ⟨b,i*10+8,none⟩=some (.int .i64 v.dim.f)∧w.cell? ⟨b,i*10+9,none⟩=some (.int .i64 v.dim.g):=by
 have hc:∀ (j:Nat) (u:Value),(unitCells (x,v))[j]?=some u→w.cell? ⟨b,i*10+j,none⟩=some u:=fun j u hu=>by
  have h1:=cells_at unitTab i (x,v) h j u hu
  have h2:w.cell? ⟨b,i*10+j,none⟩=unitC[i*10+j]?:=by simp [World.cell?,hU]
  rw [h2];unfold unitC;rw [List.getElem?_toArray];exact h1
 exact ⟨hc 0 _ rfl,hc 1 _ rfl,hc 2 _ rfl,hc 3 _ rfl,hc 4 _ rfl,hc 5 _ rfl,hc 6 _ rfl,hc 7 _ rfl,hc 8 _ rfl,hc 9 _ rfl⟩
theorem unit_box {w:World}{m:Nat}{x:List UInt8}{v:V}(h:w.heap[m]?=some (.cells #[.string ⟨x.toArray⟩,.int .i64 v.num,.int .i64 v.den,.int .i64 v.dim.a,.int .i64 v.dim.b,.int .i64 v.dim.c,.int .i64 v.dim.d,.int .i64 v.dim.e,.int .i64 v.dim.f,.int .i64 v.dim.g] 166 (0,0))):w.cell? ⟨m,0,none⟩=some (.string ⟨x.toArray⟩)∧w.cell? ⟨m,1,none⟩=some (.int .i64 v.num)∧w.cell? ⟨m,2,none⟩=some (.int .i64 v.den)∧w.cell? ⟨m,3,none⟩=some (.int .i64 v.dim.a)∧w.cell? ⟨m,4,none⟩=some (.int .i64 v.dim.b)∧w.cell? ⟨m,5,none⟩=some (.int .i64 v.dim.c)∧w.cell? ⟨m,6,none⟩=some (.int .i64 v.dim.d)∧w.cell? ⟨m,7,none⟩=some (.int .i64 v.dim.e)∧w.cell? ⟨m,8,none⟩=some (.int .i64 v.dim.f)∧w.cell? ⟨m,9,none⟩=some (.int .i64 v.dim.g):=by
 refine ⟨?_,?_,?_,?_,?_,?_,?_,?_,?_,?_⟩<;>simp [World.cell?,h]
theorem lookup_step {l:List (List UInt8 × V)}{i:Nat}{x:List UInt8}{v:V}(h:l[i]?=some (x,v))(n:List UInt8):(l.drop i).lookup n=if n=x then some v else (l.drop (i+1)).lookup n:=by
 obtain ⟨hi,he⟩:=List.getElem?_eq_some_iff.1 h
 rw [List.drop_eq_getElem_cons hi,he,List.lookup_cons];by_cases hn:n=x
 ·subst hn; simp
 ·have:(n == x)=false:=by simpa using hn
  rw [this,if_neg hn]
set_option maxRecDepth 100000 in
set_option maxHeartbeats 4000000 in
theorem find_c:FindC:=fun n w hn=>by
 have HB:=hid (b1 w (.cells #[.int .i64 0,.int .i64 0,.int .i64 0,.int .i64 0,.int .i64 0,.int .i64 0,.int .i64 0,.int .i64 0,.int .i64 0] 44))
 have HK:Hid (K9 (w.alloc (.cells #[.int .i64 0,.int .i64 0,.int .i64 0,.int .i64 0,.int .i64 0,.int .i64 0,.int .i64 0,.int .i64 0,.int .i64 0] 44)) w.heap.size zV):=K9.new w zV
 go_enter Tryz.func81,Tryz.ntmps81;go_upto_region 1 with (fail);generalize w.alloc (.cells #[.int .i64 0,.int .i64 0,.int .i64 0,.int .i64 0,.int .i64 0,.int .i64 0,.int .i64 0,.int .i64 0,.int .i64 0] 44)=w1 at*;go_wp2_with fail;refine (all_any _).mono ?_
 rintro e w2 ⟨b,rfl,hlo,hU,hb⟩
 have HU:=hid hU
 have HLO:=hid hlo
 have HB2:=hid (bl_tr HB.out hb)
 have HK2:=hid (HK.out.reach hb)
 clear hU hlo hb HB HK;go_upto_region 2 with (fail);go_loopg [8] 28 (fun gg s8 wr=>∃ (i:Nat),i≤27∧27-i<gg∧s8=.int .i64 (i:Int)∧Aside (unitTab.lookup n=(unitTab.drop i).lookup n)∧Aside (Below w.heap.size w wr)∧Aside (K9 wr w.heap.size zV)∧Aside (wr.heap[b]?=some (.cells unitC 166 (0,0))))
 case atStart=>exact ⟨0,by omega,by omega,rfl,rfl,HB2.out,HK2.out,HU.out⟩
 case round=>
  obtain ⟨i,hi,hgg,rfl,HL,HBr,HKr,HUr⟩:=hrel
  by_cases hlt:i<27
  ·have hltz:(i:Int)<27:=by omega
   obtain ⟨xv,hxv⟩:∃ p,unitTab[i]?=some p:=⟨_,List.getElem?_eq_getElem (by exact hlt)⟩
   obtain ⟨x,v⟩:=xv
   have HXV:=hid hxv
   obtain ⟨u0,u1,u2,u3,u4,u5,u6,u7,u8,u9⟩:=unit_cells HUr.out i x v hxv
   clear hxv;have hb10:=b1 wr (.cells #[.string ⟨x.toArray⟩,.int .i64 v.num,.int .i64 v.den,.int .i64 v.dim.a,.int .i64 v.dim.b,.int .i64 v.dim.c,.int .i64 v.dim.d,.int .i64 v.dim.e,.int .i64 v.dim.f,.int .i64 v.dim.g] 166)
   have HB3:=hid (bl_tr HBr.out hb10)
   have HK3:=hid (HKr.out.reach hb10)
   have HU3:=hid ((hb10.block b (Array.getElem?_eq_some_iff.1 HUr.out).1).trans HUr.out)
   have HN:=hid (heap_alloc_new wr (.cells #[.string ⟨x.toArray⟩,.int .i64 v.num,.int .i64 v.den,.int .i64 v.dim.a,.int .i64 v.dim.b,.int .i64 v.dim.c,.int .i64 v.dim.d,.int .i64 v.dim.e,.int .i64 v.dim.f,.int .i64 v.dim.g] 166))
   clear hb10;go_upto_region 4 with (fail);generalize wr.alloc (.cells #[.string ⟨x.toArray⟩,.int .i64 v.num,.int .i64 v.den,.int .i64 v.dim.a,.int .i64 v.dim.b,.int .i64 v.dim.c,.int .i64 v.dim.d,.int .i64 v.dim.e,.int .i64 v.dim.f,.int .i64 v.dim.g] 166)=w3 at*;clear u0 u1 u2 u3 u4 u5 u6 u7 u8 u9;have HS3:=hid (Array.getElem?_eq_some_iff.1 HN.out).1
   obtain ⟨m0,m1,m2,m3,m4,m5,m6,m7,m8,m9⟩:=unit_box HN.out
   have HLS:=hid (HL.out.trans (lookup_step HXV.out n))
   by_cases hxn:x=n
   ·subst hxn
    have hxb:(x == x)=true:=by simp
    have HLE:Hid (unitTab.lookup x=some v):=HLS.out.trans (if_pos rfl)
    obtain ⟨⟨⟨z0,z1⟩,z2,z3,z4,z5,z6,z7,z8⟩,zf,_⟩:=HK3.out.cells
    go_wp2_with fail;rw [HLE.out];refine bodyPost_ret (v:=.tuple #[.agg v.cells,.bool true]) (by simp [results,Tryz.results81,go_sem,V.cells,z0,z1,z2,z3,z4,z5,z6,z7,z8]) rfl ⟨rfl,?_⟩
    exact below9 HB3.out (b:=w.heap.size) (Nat.le_refl _) v
   ·have hxb:(x == n)=false:=by simpa using hxn
    have HLE:Hid (unitTab.lookup n=(unitTab.drop (i+1)).lookup n):=HLS.out.trans (if_neg fun e=>hxn e.symm)
    clear hxn;go_wp2_with fail;go_roundg (27-i)
    case measure=>omega
    case rel=>exact ⟨i+1,by omega,by omega,rfl,HLE.out,HB3.out,HK3.out,HU3.out⟩
  ·obtain rfl:i=27:=by omega
   have HLE:Hid (unitTab.lookup n=none):=HL.out
   obtain ⟨⟨⟨z0,z1⟩,z2,z3,z4,z5,z6,z7,z8⟩,zf,_⟩:=HKr.out.cells
   go_wp2_with fail;rw [HLE.out];refine bodyPost_ret (v:=.tuple #[.agg zV.cells,.bool false]) (by simp [results,Tryz.results81,go_sem,V.cells,zV,zD,z0,z1,z2,z3,z4,z5,z6,z7,z8]) rfl ⟨rfl,?_⟩
   exact below9 HBr.out (b:=w.heap.size) (Nat.le_refl _) zV
end Go.Proofs.YtknpigdpepmimaaGreatDoor
