/- Maps from names to values that a call made: what a lookup finds. -/
import Derived.Maps.OwnSet
import Derived.Maps.OwnOps
import Derived.Deep.CutBlock
import Derived.Deep.DeepCutAuto
import Derived.OrdersHeld
import Derived.Test.YtknpigdpepmimaaGreatDoorV03
import Derived.Test.YtknpigdpepmimaaGreatDoorV05
import Derived.Test.YtknpigdpepmimaaGreatDoorV06
import Derived.Test.YtknpigdpepmimaaGreatDoorV07
import Derived.Test.YtknpigdpepmimaaGreatDoorV09
namespace Go.Proofs.YtknpigdpepmimaaGreatDoor
open Go.Lib(hid)
open Go.RowKit Go.Maps
def RvV:Value→Option (DataW Value × List MemPlace):=fun v=>some (.held v,[])
def putV (m:DataW Value)(p:W8 × Value):DataW Value:=m.put (.string p.1) (.held p.2)
def mapD (L:List (W8 × Value)):DataW Value:=L.foldl putV (.map [])
theorem mapD_snoc (L:List (W8 × Value))(p:W8 × Value):mapD (L++[p])=(mapD L).put (.string p.1) (.held p.2):=by
 unfold mapD; rw [List.foldl_append]; rfl
theorem fold_other {x:W8}(z:DataW Value):∀ (L:List (W8 × Value))(m:DataW Value),x∉L.map (·.1)→(L.foldl putV m).atKey (.string x) z=m.atKey (.string x) z∧Maps.has (L.foldl putV m) (.string x)=Maps.has m (.string x)
 | [],_,_=>⟨rfl,rfl⟩
 | p::L,m,h=>by
  have hx:x≠p.1:=fun e=>h (by simp [e])
  have hne:(Lit.string x)≠.string p.1:=fun e=>hx (by injection e)
  have:=fold_other z L (putV m p) (fun hm=>h (by simp at hm ⊢; exact .inr hm))
  rw [List.foldl_cons,this.1,this.2];exact ⟨atKey_put_other hne _ _,has_put_other hne _⟩
theorem fold_at (x:W8) (z:Value):∀ (L:List (W8 × Value))(m:DataW Value),IsMap m→(L.map (·.1)).Nodup→(L.foldl putV m).atKey (.string x) (.held z)=(match L.lookup x with|some v=>.held v|none=>m.atKey (.string x) (.held z))∧Maps.has (L.foldl putV m) (.string x)=(match L.lookup x with|some _=>true|none=>Maps.has m (.string x))
 | [],_,_,_=>⟨rfl,rfl⟩
 | p::L,m,hm,hn=>by
  rw [List.map_cons,List.nodup_cons]at hn
  rw [List.foldl_cons,List.lookup_cons];by_cases hx:x=p.1
  ·subst hx
   have:=fold_other (.held z) L (putV m p) hn.1
   rw [this.1,this.2,beq_self_eq_true];exact ⟨atKey_put_same hm (show WideAt.IsKeyLit (.string p.1)from trivial) _ _,has_put_same hm (show WideAt.IsKeyLit (.string p.1)from trivial) _⟩
  ·have hb:(x == p.1)=false:=by simpa using hx
   have hne:(Lit.string x)≠.string p.1:=fun e=>hx (by injection e)
   have:=fold_at x z L (putV m p) (hm.put _ _) hn.2
   rw [this.1,this.2,hb];dsimp only
   cases L.lookup x with
   | some v=>exact ⟨rfl,rfl⟩
   | none=>exact ⟨atKey_put_other hne _ _,has_put_other hne _⟩
theorem look_map {w:World}{b n:Nat}{L:List (W8 × Value)}{t e:TypeId}{z:Value}(h:w.ownsMap Tryz.prog 9 RvV b n (mapD L))(hn:(L.map (·.1)).Nodup)(ht:Tryz.prog.underlying t=some (.map 9 e))(hz:(zeroValue e).run Tryz.prog w=.ok z w)(x:W8)(hx:x.length≤100000):
  (Instr.lookup t (.map (some b)) (.string ⟨x.toArray⟩) true).run Tryz.prog w=.ok (.tuple #[(L.lookup x).getD z,.bool (L.lookup x).isSome]) w:=by
 have h0:x.length≤maxLen:=by unfold maxLen; omega
 have hk:keyOf Tryz.prog 9 (.string ⟨x.toArray⟩)=some (Lit.string x):=Go.WideMaps.keyOf_string_mk Tryz.underlying9 (by rw [size_mk]; exact h0)
 obtain ⟨v,ps,hrun,hv⟩:=h.look_ok law9 ht hz (zd:=.held z) (zp:=[]) rfl hk
 have:=fold_at x z L (.map []) isMap_empty hn
 rw [hrun];unfold mapD at hv ⊢;rw [this.1]at hv
 rw [this.2];unfold RvV at hv;cases hl:L.lookup x with
 | none=>
  rw [hl]at hv
  have e:v=z:=by
   have h1:=(Prod.ext_iff.1 (Option.some.inj hv)).1
   have h2:(DataW.held v:DataW Value)=.held z:=h1
   injection h2
  subst e; rfl
 | some u=>
  rw [hl]at hv
  have e:v=u:=by
   have h1:=(Prod.ext_iff.1 (Option.some.inj hv)).1
   have h2:(DataW.held v:DataW Value)=.held u:=h1
   injection h2
  subst e; rfl
theorem zero44 (w:World):(zeroValue 44).run Tryz.prog w=.ok (.agg zV.cells) w:=by kernel_rfl
def envL (E:Sc):List (W8 × Value):=E.map fun p=>(p.1,.agg p.2.cells)
theorem envL_lookup (E:Sc)(x:W8):(envL E).lookup x=(E.lookup x).map fun v=>.agg v.cells:=by
 induction E with
 | nil=>rfl
 | cons p E ih=>
  unfold envL at ih ⊢;rw [List.map_cons,List.lookup_cons,List.lookup_cons];cases h:x == p.1<;>simp [ih]
theorem envL_keys (E:Sc):(envL E).map (·.1)=E.map (·.1):=by unfold envL; rw [List.map_map]; rfl
structure EnvM (w:World) (b:Nat)(E:Sc):Prop where
 own:w.ownsMap Tryz.prog 9 RvV b E.length (mapD (envL E))
 nd:(E.map (·.1)).Nodup
theorem EnvM.look {w:World}{b:Nat}{E:Sc}(h:EnvM w b E)(x:W8)(hx:x.length≤100000):(Instr.lookup 77 (.map (some b)) (.string ⟨x.toArray⟩) true).run Tryz.prog w=.ok (.tuple #[.agg ((E.lookup x).getD zV).cells,.bool (E.lookup x).isSome]) w:=by
 rw [look_map h.own (by rw [envL_keys]; exact h.nd) Tryz.underlying77 (zero44 w) x hx,envL_lookup]
 cases E.lookup x<;>rfl
theorem own_block {w w':World}{k:TypeId}{R:Value→Option (DataW Value × List MemPlace)}{b n:Nat}{D:DataW Value}(h:w.ownsMap Tryz.prog k R b n D)(hb:w'.heap[b]?=w.heap[b]?):w'.ownsMap Tryz.prog k R b n D:=by
 obtain ⟨es,clock,h1,h2⟩:=h
 exact ⟨es,clock,hb.trans h1,h2⟩
theorem EnvM.block {w w':World}{b:Nat}{E:Sc}(h:EnvM w b E)(hb:w'.heap[b]?=w.heap[b]?):EnvM w' b E:=⟨own_block h.own hb,h.nd⟩
theorem insert_own {w:World}{ops:Array Oper}{rest:List Oper}{o:Oper}{a:Act}{Q:Exit→Act→World→Prop}
  (hg:o.guard=none)(m x v:Operand)(t:TypeId)(hop:o.op=Op.insert t m x v)(e:TypeId)(ht:Tryz.prog.underlying t=some (.map 9 e))(b n:Nat)(D:DataW Value)
  (hm:a.eval m=.map (some b))(hown:w.ownsMap Tryz.prog 9 RvV b n D)(hn:n<maxLen)(s:ByteArray) (val:Value)(hx:a.eval x=.string s)(hv:a.eval v=val)(hs:s.size≤maxLen)
  (hK:∀ w',w'.ownsMap Tryz.prog 9 RvV b (n+1) (D.put (.string s.data.toList) (.held val))→w.grownBy w' (some b)→wpList Tryz.prog ops Q rest (a.put o.dst undef) w'):
  wpList Tryz.prog ops Q (o::rest) a w:=by
 refine wpList_plain hg fun K' hK'=>?_
 obtain ⟨w',hrun,r1,r2⟩:=hown.update law9 ht hn (Go.WideMaps.keyOf_string_mk Tryz.underlying9 hs) (val:=val) (d:=.held val) (ps:=[]) rfl
 unfold Oper.wp;simp [execOp,hop,hm,hx,hv,hrun,Result.andThen];exact hK' _ _ (hK w' r1 r2)
theorem bl_gr {w0 w w':World}(h:Below w0.heap.size w0 w)(hg:w.grownBy w' (some w0.heap.size)):Below w0.heap.size w0 w':=
 h.grown hg h.size (fun k hk=>by cases hk; exact Nat.le_refl _)
def opsL:List (W8 × Value):=opTab.map fun p=>(p.1,.agg #[.int .i64 (p.2.1:Nat),.func (.func (68+p.2.2)) #[] #[]])
theorem opsL_nodup:(opsL.map (·.1)).Nodup:=by decide
theorem opsL_lookup (n:W8):opsL.lookup n=(opOf n).map fun p=>.agg #[.int .i64 (p.1:Nat),.func (.func (68+p.2)) #[] #[]]:=by
 unfold opsL opOf;generalize opTab=L;induction L with
 | nil=>rfl
 | cons p L ih=>
  rw [List.map_cons,List.lookup_cons,List.lookup_cons];cases h:n == p.1<;>simp [ih]
set_option maxRecDepth 100000 in
set_option maxHeartbeats 4000000 in
theorem operations_any (w:World):Calls Tryz.prog 40 #[] w fun e w'=>e=.returned (.map (some w.heap.size))∧w'.ownsMap Tryz.prog 9 RvV w.heap.size 15 (mapD opsL)∧Below w.heap.size w w':=by
 have hmm:=@run_makeMap Tryz.prog
 have hown:=World.ownsMap_made w Tryz.prog 9 RvV
 have hbz:Below w.heap.size w (w.alloc (.map #[] 0)):=b1 w _
 have hbig:∀ k:Nat,k≤100→k≤maxLen:=fun k hk=>by unfold maxLen; omega
 go_enter Tryz.func40,Tryz.ntmps40;go_wp2_with (refine insert_own rfl _ _ _ 81 rfl 115 Tryz.underlying81 _ _ _ rfl (by assumption) (by unfold maxLen; omega) _ _ rfl rfl (hbig _ (by decide)) ?_; intro w1 hown hgr; have hbz:=bl_gr (by assumption) hgr; clear hgr)
 go_ret;exact ⟨rfl,hown,hbz⟩
def V.okB (v:V):Bool:=Q.validQ v.num v.den&&v.dim.ok
theorem V.okB_iff (v:V):v.okB=true↔v.ok:=by unfold V.okB V.ok; rw [Bool.and_eq_true]
def V.fit (v:V):Prop:=-9223372036854775808≤v.num∧v.num≤9223372036854775807∧-9223372036854775808≤v.den∧v.den≤9223372036854775807
def SV (w:World) (v:Value)(l:List V):Prop:=∃ A c,v=.slice A l.length c∧(l.length≤c∧c≤9223372036854775807)∧(l≠[]→∃ b o,A=some ⟨b,o,none⟩∧∀ i (h:i<l.length),C9 w b (o+i*9) l[i])
theorem SV.reach {w w':World}{v:Value}{l:List V}(h:SV w v l)(hb:Below w.heap.size w w'):SV w' v l:=by
 obtain ⟨A,c,h1,h2,h3⟩:=h
 refine ⟨A,c,h1,h2,fun hne=>?_⟩
 obtain ⟨b,o,hA,hs⟩:=h3 hne
 exact ⟨b,o,hA,fun i hi=>(hs i hi).reach hb⟩
def envOkB (E:Sc):Bool:=E.all (fun p=>identB p.1&&p.2.okB)&&decide ((E.map (·.1)).Nodup)
def envB (ns:List W8)(vs:List V):Bool:=decide (ns.length=vs.length∧ns.length≤100)&&envOkB (ns.zip vs)
theorem envOk_snoc (E:Sc)(p:W8 × V):envOkB (E++[p])=(envOkB E&&(!(E.lookup p.1).isSome&&identB p.1&&p.2.okB)):=by
 unfold envOkB;rw [List.all_append,List.map_append]
 have hm:∀ (E:Sc),(E.lookup p.1).isSome=decide (p.1∈E.map (·.1)):=fun E=>by
  induction E with
  | nil=>rfl
  | cons q E ih=>
   rw [List.lookup_cons];by_cases h:p.1=q.1
   ·rw [h]; simp
   ·have hb:(p.1 == q.1)=false:=by simpa using h
    rw [hb];dsimp only
    rw [ih];simp [h]
 rw [hm]
 have hd:decide ((E.map (·.1)++[p].map (·.1)).Nodup)=(decide ((E.map (·.1)).Nodup)&&!decide (p.1∈E.map (·.1))):=by
  rw [Bool.eq_iff_iff];simp [List.nodup_append];intro _;constructor
  ·intro h a ha; exact h _ a ha rfl
  ·intro h a b hab e; subst e; exact h b hab
 rw [hd];simp only [List.all_cons,List.all_nil,Bool.and_true];cases E.all (fun p=>identB p.1&&p.2.okB)<;>cases decide ((E.map (·.1)).Nodup)<;>cases decide (p.1∈E.map (·.1))<;>cases identB p.1<;>cases p.2.okB<;>rfl
theorem envOk_take (E:Sc) (i:Nat)(h:envOkB E=true):envOkB (E.take i)=true:=by
 unfold envOkB at h ⊢;rw [Bool.and_eq_true]at h ⊢
 refine ⟨?_,?_⟩
 ·rw [List.all_eq_true]at h ⊢
  exact fun x hx=>h.1 x (List.mem_of_mem_take hx)
 ·rw [decide_eq_true_eq]at h ⊢
  rw [List.map_take];exact List.Nodup.sublist (List.take_sublist _ _) h.2
set_option maxRecDepth 100000 in
set_option maxHeartbeats 4000000 in
theorem environment_any (a v:Value)(ns:List W8)(vs:List V)(w:World)(ha:SL w w.heap.size a ns)(hv:SV w v vs)(hsn:∀ x∈ns,x.length≤1000)(hfit:∀ x∈vs,x.fit):
  Calls Tryz.prog 38 #[a,v] w fun e w'=>Below w.heap.size w w'∧((envB ns vs=true∧e=.returned (.tuple #[.map (some w.heap.size),.bool true])∧EnvM w' w.heap.size (ns.zip vs))∨(envB ns vs=false∧e=.returned (.tuple #[.map none,.bool false]))):=by
 obtain ⟨A,ca,rfl,⟨hca1,hca2⟩,hAc⟩:=ha
 obtain ⟨B,cb,rfl,⟨hcb1,hcb2⟩,hBc⟩:=hv
 have HA:=hid hAc
 have HV:=hid hBc
 have HF:=hid hfit
 have HS:=hid hsn
 have hmm:=fun w=>run_makeMap_hint (P:=Tryz.prog) 77 9 44 .i64 (ns.length:Int) Tryz.underlying77 w
 clear hAc hBc hfit hsn;have hl1:ns.length≤9223372036854775807:=by omega
 have hl2:vs.length≤9223372036854775807:=by omega
 go_enter Tryz.func38,Tryz.ntmps38;go_upto_region 1 with (fail);go_cut [20] (fun s20 wx=>s20=.bool (!decide (ns.length=vs.length∧ns.length≤100))∧w=wx)
 case first=>
  by_cases h1:ns.length=vs.length
  ·have hb1:((ns.length:Int) != (vs.length:Int))=false:=by simp [h1]
   by_cases h2:ns.length≤100
   ·go_wp2_with fail
    go_meet
    case rel=>exact ⟨by rw [show decide (ns.length=vs.length∧ns.length≤100)=true from decide_eq_true ⟨h1,h2⟩]; simp; try omega,rfl⟩
   ·go_wp2_with fail
    go_meet
    case rel=>exact ⟨by rw [show decide (ns.length=vs.length∧ns.length≤100)=false from decide_eq_false (fun h=>h2 h.2)]; simp; try omega,rfl⟩
  ·have hb1:((ns.length:Int) != (vs.length:Int))=true:=by rw [bne_iff_ne]; omega
   go_wp2_with fail;go_meet
   case rel=>exact ⟨by rw [show decide (ns.length=vs.length∧ns.length≤100)=false from decide_eq_false (fun h=>h1 h.1)]; rfl,rfl⟩
 case rest=>
  obtain ⟨rfl,rfl⟩:=hcut
  by_cases hlen:ns.length=vs.length∧ns.length≤100
  ·rw [decide_eq_true hlen]
   have HEB:Hid (envB ns vs=envOkB (ns.zip vs)):=by show _=_; unfold envB; rw [decide_eq_true hlen,Bool.true_and]
   obtain ⟨hlen1,hlen2⟩:=hlen
   obtain ⟨E,hE⟩:∃ E,E=ns.zip vs:=⟨_,rfl⟩
   have hEl:E.length=ns.length:=by rw [hE,List.length_zip]; omega
   have HEl:=hid hEl
   have HEi:Hid (∀ i (h:i<ns.length)(h2:i<vs.length)(h3:i<E.length),E[i]=(ns[i],vs[i])):=fun i h h2 h3=>by subst hE; simp
   have HEZ:=hid hE
   rw [← hE]at HEB
   have HL1:=hid hlen1
   clear hE hEl hlen1;rw [show (!true)=false from rfl]
   have hbm:=b1 w (.map #[] 0)
   have hom:(w.alloc (.map #[] 0)).ownsMap Tryz.prog 9 RvV w.heap.size 0 (mapD (envL (E.take 0))):=World.ownsMap_made w Tryz.prog 9 RvV
   have HBM:=hid hbm
   have HOM:=hid hom
   clear hbm hom;go_upto_region 4 with (fail);generalize w.alloc (.map #[] 0)=w1 at*;go_wp2_with fail;go_loopg [7,8,26] 101 (fun gg s7 s8 s26 wr=>∃ i:Nat,i≤ns.length∧101-i≤gg∧s26=.int .i64 (i:Int)∧Aside (wr.ownsMap Tryz.prog 9 RvV w.heap.size i (mapD (envL (E.take i))))∧Aside (envOkB (E.take i)=true)∧Aside (Below w.heap.size w wr))
   case atStart=>exact ⟨0,Nat.zero_le _,by omega,rfl,HOM.out,rfl,HBM.out⟩
   case round=>
    obtain ⟨i,hi,hgg,rfl,HOW,HOK,HBW⟩:=hrel
    by_cases hlt:i<ns.length
    ·have hltz:(i:Int)<(ns.length:Int):=by omega
     have h2:i<vs.length:=by have:=HL1.out; omega
     have h3:i<E.length:=by have:=HEl.out; omega
     obtain ⟨ba,oa,rfl,hba,hca⟩:=HA.out (by intro e; rw [e]at hlt; simp at hlt)
     have hck:=(HBW.out.cell (p:=⟨ba,oa+i,none⟩) hba).trans (hca i hlt)
     have HCA:=hid hca
     clear hca;have HEX:=hid (HEi.out i hlt h2 h3)
     have HSN:=hid (envOk_snoc (E.take i) (ns[i],vs[i]))
     have HTK:Hid (E.take (i+1)=E.take i++[(ns[i],vs[i])]):=by show _=_; rw [List.take_succ_eq_append_getElem h3,HEX.out]
     have HEM:Hid (EnvM wr w.heap.size (E.take i)):=⟨by
      have e:(E.take i).length=i:=by rw [List.length_take]; omega
      rw [e]; exact HOW.out,by
      have:=HOK.out
      unfold envOkB at this;rw [Bool.and_eq_true]at this
      exact of_decide_eq_true this.2⟩
     have hnl:ns[i].length≤1000:=HS.out _ (List.getElem_mem _)
     have hlook:=HEM.out.look ns[i] (by omega)
     have HID:=hid fun w=>identL_any ns[i] w hnl
     have hf:=HF.out vs[i] (List.getElem_mem _)
     have HVV:=hid fun w=>validvalue_any vs[i] w hf.1 hf.2.1 hf.2.2.1 hf.2.2.2
     have HCV:Hid (∃ b o,B=some ⟨b,o,none⟩∧C9 w b (o+i*9) vs[i]):=by
      obtain ⟨b,o,e,hc⟩:=HV.out (by intro e; rw [e]at h2; simp at h2)
      exact ⟨b,o,e,hc i h2⟩
     have hlx:ns[i].length≤1000:=hnl
     have HLX:=hid hlx
     clear hf hnl hlx;unfold V.cells at hlook HVV;generalize ns[i]=x at*;generalize vs[i]=y at*;obtain ⟨ol,hol⟩:∃ ol,ol=(E.take i).lookup x:=⟨_,rfl⟩
     rw [← hol]at hlook
     have HOLx:=hid hol
     clear hol;obtain ⟨bv,ov,rfl,hcv⟩:=HCV.out
     have HC:=hid hcv
     clear hcv;obtain ⟨cd,hcd⟩:∃ cd,cd=(!ol.isSome&&identB x&&y.okB):=⟨_,rfl⟩
     have HCD:=hid hcd
     clear hcd;have hba2:=b1 wr (.cells #[.int .i64 (ol.getD zV).num,.int .i64 (ol.getD zV).den,.int .i64 (ol.getD zV).dim.a,.int .i64 (ol.getD zV).dim.b,.int .i64 (ol.getD zV).dim.c,.int .i64 (ol.getD zV).dim.d,.int .i64 (ol.getD zV).dim.e,.int .i64 (ol.getD zV).dim.f,.int .i64 (ol.getD zV).dim.g] 44)
     have HB2:=hid (HBW.out.trans (hba2.mono HBW.out.size))
     have hltm:=HOW.out.lt
     have HOW2:=hid (own_block HOW.out (hba2.block w.heap.size hltm))
     have HC2:=hid (HC.out.reach HB2.out)
     clear hba2 hltm;go_upto_region 8 with (fail);generalize wr.alloc (.cells #[.int .i64 (ol.getD zV).num,.int .i64 (ol.getD zV).den,.int .i64 (ol.getD zV).dim.a,.int .i64 (ol.getD zV).dim.b,.int .i64 (ol.getD zV).dim.c,.int .i64 (ol.getD zV).dim.d,.int .i64 (ol.getD zV).dim.e,.int .i64 (ol.getD zV).dim.f,.int .i64 (ol.getD zV).dim.g] 44)=w2 at*;clear hlook hck;have HSN2:Hid (envOkB (E.take (i+1))=cd):=by show _=_; rw [HTK.out,HSN.out,HCD.out,HOLx.out,HOK.out]; rfl
     have HBAD:Hid (cd=false→envB ns vs=false):=fun hc=>HEB.out.trans (by
      cases h:envOkB E with
      | false=>rfl
      | true=>have:=envOk_take E (i+1) h; rw [HSN2.out,hc]at this; cases this)
     clear HSN HOLx HOW;cases h1:ol.isSome with
     | true=>
      have HR:=hid (HBAD.out (HCD.out.trans (by rw [h1]; rfl)))
      go_wp2_with fail;go_ret2;exact ⟨HB2.out,.inr ⟨HR.out,rfl⟩⟩
     | false=>
      have HX1:=hid h1
      clear h1;obtain ⟨⟨c0,c1⟩,c2,c3,c4,c5,c6,c7,c8⟩:=HC2.out
      go_wp2_with fail;refine (HID.out w2).mono ?_
      rintro r w3 ⟨rfl,rfl⟩
      cases h2:identB x with
      | false=>
       have HR:=hid (HBAD.out (HCD.out.trans (by rw [HX1.out,h2]; rfl)))
       go_wp2_with fail;go_ret2;exact ⟨HB2.out,.inr ⟨HR.out,rfl⟩⟩
      | true=>
       have HX2:=hid h2
       clear h2;go_wp2_with fail;refine (HVV.out _).mono ?_
       rintro r w4 ⟨rfl,hb4⟩
       have HB4:=hid (HB2.out.trans (hb4.mono HB2.out.size))
       have HC4:=hid (HC2.out.reach hb4)
       have HOW4:=hid (own_block HOW2.out (hb4.block w.heap.size HOW2.out.lt))
       have HY:Hid (cd=(Q.validQ y.num y.den&&y.dim.ok)):=by show _=_; rw [HCD.out,HX1.out,HX2.out]; rfl
       clear hb4 c0 c1 c2 c3 c4 c5 c6 c7 c8;cases h3:(Q.validQ y.num y.den&&y.dim.ok) with
       | false=>
        have HR:=hid (HBAD.out (HY.out.trans h3))
        go_wp2_with fail;go_ret2;exact ⟨HB4.out,.inr ⟨HR.out,rfl⟩⟩
       | true=>
        have HOK2:=hid (HSN2.out.trans (HY.out.trans h3))
        have hkey:keyOf Tryz.prog 9 (.string ⟨x.toArray⟩)=some (Lit.string x):=by
         have h0:x.length≤maxLen:=by have:=HLX.out; unfold maxLen; omega
         exact Go.WideMaps.keyOf_string_mk Tryz.underlying9 (by rw [size_mk]; exact h0)
        have HKY:=hid hkey
        clear hkey h3;obtain ⟨⟨c0,c1⟩,c2,c3,c4,c5,c6,c7,c8⟩:=HC4.out
        have hil:i<maxLen:=by unfold maxLen; omega
        go_wp2_with (at_mapUpdate; refine wpList_mapUpdate_own _ rfl _ _ _ 77 rfl 9 44 law9 Tryz.underlying77 RvV _ _ _ rfl HOW4.out hil _ _ (.string x) rfl rfl HKY.out (.held (.agg y.cells)) [] rfl ?_; intro w5 hown5 hgr5)
        have HOW5:Hid (w5.ownsMap Tryz.prog 9 RvV w.heap.size (i+1) (mapD (envL (E.take (i+1))))):=by
         show World.ownsMap _ _ _ _ _ _ _
         rw [HTK.out];unfold envL;rw [List.map_append,List.map_cons,List.map_nil,mapD_snoc];exact hown5
        have HB5:=hid (bl_gr HB4.out hgr5)
        clear hown5 hgr5;go_wp2_with fail;go_roundg (100-i)
        case measure=>omega
        case rel=>exact ⟨i+1,by omega,by omega,by go_num,HOW5.out,HOK2.out,HB5.out⟩
    ·have hltz:¬ (i:Int)<(ns.length:Int):=by omega
     have e:E.take i=E:=List.take_of_length_le (by have:=HEl.out; omega)
     have HOK2:=HOK.out
     have HOW2:=HOW.out
     rw [e]at HOK2 HOW2
     have HR:Hid (envB ns vs=true):=HEB.out.trans HOK2
     have HEM:Hid (EnvM wr w.heap.size E):=⟨by
      have e:E.length=i:=by have:=HEl.out; omega
      rw [e]; exact HOW2,by
      unfold envOkB at HOK2;rw [Bool.and_eq_true]at HOK2
      exact of_decide_eq_true HOK2.2⟩
     clear HOK2 HOW2 e;go_wp2_with fail;go_ret2;exact ⟨HBW.out,.inl ⟨HR.out,rfl,by rw [← HEZ.out]; exact HEM.out⟩⟩
  ·have HR:Hid (envB ns vs=false):=by show _=_; unfold envB; rw [decide_eq_false hlen,Bool.false_and]
   rw [decide_eq_false hlen];go_wp2_with fail;go_ret2;exact ⟨Below.refl _ _,.inr ⟨HR.out,rfl⟩⟩
end Go.Proofs.YtknpigdpepmimaaGreatDoor
namespace Go.Proofs.YtknpigdpepmimaaGreatDoor
open Go.Lib(hid)
open Go.RowKit
set_option maxRecDepth 100000 in
set_option maxHeartbeats 4000000 in
theorem sum_any (x y:V)(hx:x.ok)(hy:y.ok)(b o c:Nat)(w:World)(h1:C9 w b o x)(h2:C9 w b (o+9) y):Calls Tryz.prog 68 #[.slice (some ⟨b,o,none⟩) 2 c] w fun r w'=>r=.returned (.tuple #[.agg (sumV x y).1.cells,.int .i64 (sumV x y).2])∧Below w.heap.size w w':=by
 have HX:=hid hx.bnd
 have HY:=hid hy.bnd
 have HNX:=hid fun w=>number_val x w
 have HNY:=hid fun w=>number_val y w
 have HAD:=hid fun w=>Q.add_any x.num x.den y.num y.den w HX.out.1 HX.out.2.1 HX.out.2.2.1 HX.out.2.2.2 HY.out.1 HY.out.2.1 HY.out.2.2.1 HY.out.2.2.2
 have HE:Hid (sumV x y=if x.dim=y.dim then joinQ (Q.addQ x.num x.den y.num y.den) x.dim 0 else (zV,16)):=rfl
 generalize sumV x y=R at*;unfold Q.Res.val at HAD;generalize Q.addQ x.num x.den y.num y.den=q at*;obtain ⟨qn,qd,qe⟩:=q
 have HJ:=hid fun w=>join_any qn qd qe x.dim 0 w
 clear hx hy HX HY;have HB:=hid (b1 w (.cells #[.int .i64 0,.int .i64 0,.int .i64 0,.int .i64 0,.int .i64 0,.int .i64 0,.int .i64 0,.int .i64 0,.int .i64 0] 44))
 have HK:Hid (K9 (w.alloc (.cells #[.int .i64 0,.int .i64 0,.int .i64 0,.int .i64 0,.int .i64 0,.int .i64 0,.int .i64 0,.int .i64 0,.int .i64 0] 44)) w.heap.size zV):=K9.new w zV
 have H1:=hid (h1.reach HB.out)
 have H2:=hid (h2.reach HB.out)
 have HL:=hid h1.lt
 clear h1 h2;unfold V.cells at HNX HNY;unfold Dm.cells at HJ;go_enter Tryz.func68,Tryz.ntmps68;go_upto_region 1 with (fail);have HS1:Hid ((w.alloc (.cells #[.int .i64 0,.int .i64 0,.int .i64 0,.int .i64 0,.int .i64 0,.int .i64 0,.int .i64 0,.int .i64 0,.int .i64 0] 44)).heap.size=w.heap.size+1):=by show _=_; simp
 generalize w.alloc (.cells #[.int .i64 0,.int .i64 0,.int .i64 0,.int .i64 0,.int .i64 0,.int .i64 0,.int .i64 0,.int .i64 0,.int .i64 0] 44)=w1 at*;go_cut [4,5] (fun s4 s5 wx=>∃ p q:Nat,s4=.pointer (some ⟨p,0,none⟩)∧s5=.pointer (some ⟨q,0,none⟩)∧Aside (P9 w1 wx p x)∧Aside (P9 w1 wx q y)∧Aside (Below w1.heap.size w1 wx))
 case first=>
  go_region_held_law (fun w'=>(w'.cell? ⟨b,o,none⟩=some (.int .i64 x.num)∧w'.cell? ⟨b,o+1,none⟩=some (.int .i64 x.den)∧w'.cell? ⟨b,o+2,none⟩=some (.int .i64 x.dim.a)∧w'.cell? ⟨b,o+3,none⟩=some (.int .i64 x.dim.b)∧w'.cell? ⟨b,o+4,none⟩=some (.int .i64 x.dim.c)∧w'.cell? ⟨b,o+5,none⟩=some (.int .i64 x.dim.d)∧w'.cell? ⟨b,o+6,none⟩=some (.int .i64 x.dim.e)∧w'.cell? ⟨b,o+7,none⟩=some (.int .i64 x.dim.f)∧w'.cell? ⟨b,o+8,none⟩=some (.int .i64 x.dim.g))∧(w'.cell? ⟨b,o+9,none⟩=some (.int .i64 y.num)∧w'.cell? ⟨b,o+9+1,none⟩=some (.int .i64 y.den)∧w'.cell? ⟨b,o+9+2,none⟩=some (.int .i64 y.dim.a)∧w'.cell? ⟨b,o+9+3,none⟩=some (.int .i64 y.dim.b)∧w'.cell? ⟨b,o+9+4,none⟩=some (.int .i64 y.dim.c)∧w'.cell? ⟨b,o+9+5,none⟩=some (.int .i64 y.dim.d)∧w'.cell? ⟨b,o+9+6,none⟩=some (.int .i64 y.dim.e)∧w'.cell? ⟨b,o+9+7,none⟩=some (.int .i64 y.dim.f)∧w'.cell? ⟨b,o+9+8,none⟩=some (.int .i64 y.dim.g))) ((refine S18 H1.out H2.out ?_; repeat (first|with_reducible exact Below.refl _ _|with_reducible apply bl_dr|with_reducible apply bl_al|with_reducible refine bl_st ?_ hk2 _|with_reducible refine bl_tr ?_ (by assumption)))) (fail)
  ·go_wp2_with fail
   go_meet
   case rel=>exact ⟨_,_,rfl,rfl,P9.dr ((P9.new (Below.refl _ _) x).reach (b1 _ _)),by have:=P9.new (b1 w1 (.cells x.cells 44)) y; rw [World.size_alloc]at this; exact this,bl_dr (b2 _ _ _)⟩
  ·go_wp2_with fail
   go_meet
   case rel=>exact ⟨_,_,rfl,rfl,by have:=P9.new (b1 w1 (.cells y.cells 44)) x; rw [World.size_alloc]at this; exact this,P9.dr ((P9.new (Below.refl _ _) y).reach (b1 _ _)),bl_dr (b2 _ _ _)⟩
 case rest=>
  obtain ⟨p,q,rfl,rfl,HP,HQ,HBc⟩:=hcut
  have HKc:=hid (HK.out.reach HBc.out)
  have HBw:=hid (HB.out.trans (HBc.out.mono HB.out.size))
  clear HB HK H1 H2;obtain ⟨⟨⟨p0,p1⟩,p2,p3,p4,p5,p6,p7,p8⟩,_,_⟩:=HP.out.1.cells
  obtain ⟨⟨⟨q0,q1⟩,q2,q3,q4,q5,q6,q7,q8⟩,_,_⟩:=HQ.out.1.cells
  obtain ⟨⟨⟨z0,z1⟩,z2,z3,z4,z5,z6,z7,z8⟩,zf,_⟩:=HKc.out.cells
  have hE:=fun w'=>eq42 x.dim y.dim w'
  by_cases hd:x.dim=y.dim
  ·have HR:Hid (R=joinQ ⟨qn,qd,qe⟩ x.dim 0):=HE.out.trans (if_pos hd)
   rw [decide_eq_true hd]at hE
   clear hd;go_upto_region 4 with (fail);clear z0 z1 z2 z3 z4 z5 z6 z7 z8 zf;go_cut [6,7] (fun s6 s7 wx=>∃ m:Nat,s6=.pointer (some ⟨m,0,none⟩)∧s7=.int .i64 qe∧Aside (P2 wc wx m qn qd)∧Aside (Below wc.heap.size wc wx))
   case first=>
    go_region_held_law (fun w'=>(w'.cell? ⟨p,0,none⟩=some (.int .i64 x.num)∧w'.cell? ⟨p,0+1,none⟩=some (.int .i64 x.den)∧w'.cell? ⟨p,0+2,none⟩=some (.int .i64 x.dim.a)∧w'.cell? ⟨p,0+3,none⟩=some (.int .i64 x.dim.b)∧w'.cell? ⟨p,0+4,none⟩=some (.int .i64 x.dim.c)∧w'.cell? ⟨p,0+5,none⟩=some (.int .i64 x.dim.d)∧w'.cell? ⟨p,0+6,none⟩=some (.int .i64 x.dim.e)∧w'.cell? ⟨p,0+7,none⟩=some (.int .i64 x.dim.f)∧w'.cell? ⟨p,0+8,none⟩=some (.int .i64 x.dim.g))∧(w'.cell? ⟨q,0,none⟩=some (.int .i64 y.num)∧w'.cell? ⟨q,0+1,none⟩=some (.int .i64 y.den)∧w'.cell? ⟨q,0+2,none⟩=some (.int .i64 y.dim.a)∧w'.cell? ⟨q,0+3,none⟩=some (.int .i64 y.dim.b)∧w'.cell? ⟨q,0+4,none⟩=some (.int .i64 y.dim.c)∧w'.cell? ⟨q,0+5,none⟩=some (.int .i64 y.dim.d)∧w'.cell? ⟨q,0+6,none⟩=some (.int .i64 y.dim.e)∧w'.cell? ⟨q,0+7,none⟩=some (.int .i64 y.dim.f)∧w'.cell? ⟨q,0+8,none⟩=some (.int .i64 y.dim.g))) ((refine T18 HP.out.1 HQ.out.1 ?_; repeat (first|with_reducible exact Below.refl _ _|with_reducible apply bl_dr|with_reducible apply bl_al|with_reducible refine bl_st ?_ hk2 _|with_reducible refine bl_tr ?_ (by assumption)))) (first|(go_at_call 49; (with_reducible refine (HNX.out _).mono ?_); rintro r wz ⟨rfl,hbz⟩; (first|(have hk:=P2.reach (P2.new (w0:=wc) (by show Below _ _ _; repeat (first|with_reducible exact Below.refl _ _|with_reducible apply bl_dr|with_reducible apply bl_al|with_reducible refine bl_st ?_ hk2 _|with_reducible refine bl_tr ?_ (by assumption))) 0 0) hbz; obtain ⟨⟨k0,k1⟩,kf,_⟩:=hk.1.cells; have hk2:=hk.2)|(have hk:=P2.reach (P2.dr (P2.new (w0:=wc) (by show Below _ _ _; repeat (first|with_reducible exact Below.refl _ _|with_reducible apply bl_dr|with_reducible apply bl_al|with_reducible refine bl_st ?_ hk2 _|with_reducible refine bl_tr ?_ (by assumption))) 0 0)) hbz; obtain ⟨⟨k0,k1⟩,kf,_⟩:=hk.1.cells; have hk2:=hk.2)|(have hk:=P2.reach (by assumption) hbz; obtain ⟨⟨k0,k1⟩,kf,_⟩:=hk.1.cells; have hk2:=hk.2)|skip))|(go_at_call 49; (with_reducible refine (HNY.out _).mono ?_); rintro r wz ⟨rfl,hbz⟩; (first|(have hk:=P2.reach (P2.new (w0:=wc) (by show Below _ _ _; repeat (first|with_reducible exact Below.refl _ _|with_reducible apply bl_dr|with_reducible apply bl_al|with_reducible refine bl_st ?_ hk2 _|with_reducible refine bl_tr ?_ (by assumption))) 0 0) hbz; obtain ⟨⟨k0,k1⟩,kf,_⟩:=hk.1.cells; have hk2:=hk.2)|(have hk:=P2.reach (P2.dr (P2.new (w0:=wc) (by show Below _ _ _; repeat (first|with_reducible exact Below.refl _ _|with_reducible apply bl_dr|with_reducible apply bl_al|with_reducible refine bl_st ?_ hk2 _|with_reducible refine bl_tr ?_ (by assumption))) 0 0)) hbz; obtain ⟨⟨k0,k1⟩,kf,_⟩:=hk.1.cells; have hk2:=hk.2)|(have hk:=P2.reach (by assumption) hbz; obtain ⟨⟨k0,k1⟩,kf,_⟩:=hk.1.cells; have hk2:=hk.2)|skip))|(go_at_call 117; (with_reducible refine (HAD.out _).mono ?_); rintro r wz ⟨rfl,hbz⟩; (first|(have hk:=P2.reach (P2.new (w0:=wc) (by show Below _ _ _; repeat (first|with_reducible exact Below.refl _ _|with_reducible apply bl_dr|with_reducible apply bl_al|with_reducible refine bl_st ?_ hk2 _|with_reducible refine bl_tr ?_ (by assumption))) 0 0) hbz; obtain ⟨⟨k0,k1⟩,kf,_⟩:=hk.1.cells; have hk2:=hk.2)|(have hk:=P2.reach (P2.dr (P2.new (w0:=wc) (by show Below _ _ _; repeat (first|with_reducible exact Below.refl _ _|with_reducible apply bl_dr|with_reducible apply bl_al|with_reducible refine bl_st ?_ hk2 _|with_reducible refine bl_tr ?_ (by assumption))) 0 0)) hbz; obtain ⟨⟨k0,k1⟩,kf,_⟩:=hk.1.cells; have hk2:=hk.2)|(have hk:=P2.reach (by assumption) hbz; obtain ⟨⟨k0,k1⟩,kf,_⟩:=hk.1.cells; have hk2:=hk.2)|skip)))
    all_goals
     go_wp2_with fail;go_meet
     case rel=>exact ⟨_,rfl,rfl,(by show P2 _ _ _ _ _; first|with_reducible exact P2.set hk _ _|with_reducible exact P2.new (by show Below _ _ _; repeat (first|with_reducible exact Below.refl _ _|with_reducible apply bl_dr|with_reducible apply bl_al|with_reducible refine bl_st ?_ hk2 _|with_reducible refine bl_tr ?_ (by assumption))) _ _|with_reducible exact P2.dr (P2.new (by show Below _ _ _; repeat (first|with_reducible exact Below.refl _ _|with_reducible apply bl_dr|with_reducible apply bl_al|with_reducible refine bl_st ?_ hk2 _|with_reducible refine bl_tr ?_ (by assumption))) _ _)),(by show Below _ _ _; repeat (first|with_reducible exact Below.refl _ _|with_reducible apply bl_dr|with_reducible apply bl_al|with_reducible refine bl_st ?_ hk2 _|with_reducible refine bl_tr ?_ (by assumption)))⟩
   case rest=>
    obtain ⟨m,rfl,rfl,HM,HBd⟩:=hcut
    rename World=>wd
    obtain ⟨⟨m0,m1⟩,_,_⟩:=HM.out.1.cells
    have HP2:=hid (HP.out.reach HBd.out)
    have HK2:=hid (HKc.out.reach HBd.out)
    have HBw2:=hid (HBw.out.trans (HBd.out.mono HBw.out.size))
    clear p0 p1 p2 p3 p4 p5 p6 p7 p8 q0 q1 q2 q3 q4 q5 q6 q7 q8;obtain ⟨⟨⟨p0,p1⟩,p2,p3,p4,p5,p6,p7,p8⟩,_,_⟩:=HP2.out.1.cells
    rw [← HR.out]at HJ
    go_wp2_with fail;refine (HJ.out _).mono ?_
    rintro r we ⟨rfl,hbe⟩
    have HK3:=hid (HK2.out.reach hbe)
    have HBw3:=hid (HBw2.out.trans (hbe.mono HBw2.out.size))
    clear hbe p0 p1 p2 p3 p4 p5 p6 p7 p8 m0 m1;obtain ⟨⟨⟨z0,z1⟩,z2,z3,z4,z5,z6,z7,z8⟩,zf,_⟩:=HK3.out.cells
    obtain ⟨jv,je⟩:=R
    unfold V.cells;go_wp2_with fail;refine bodyPost_ret (v:=.tuple #[.agg jv.cells,.int .i64 je]) (by simp [results,Tryz.results68,go_sem,V.cells,z0,z1,z2,z3,z4,z5,z6,z7,z8]) rfl ⟨rfl,?_⟩
    exact below9 HBw3.out (b:=w.heap.size) (Nat.le_refl _) jv
  ·have HR:Hid (R=(zV,16)):=HE.out.trans (if_neg hd)
   rw [decide_eq_false hd]at hE
   clear hd;go_wp2_with fail;rw [HR.out];refine bodyPost_ret (v:=.tuple #[.agg zV.cells,.int .i64 16]) (by simp [results,Tryz.results68,go_sem,V.cells,zV,zD,z0,z1,z2,z3,z4,z5,z6,z7,z8]) rfl ⟨rfl,?_⟩
   exact below9 HBw.out (b:=w.heap.size) (Nat.le_refl _) zV
end Go.Proofs.YtknpigdpepmimaaGreatDoor
