/- Contract of ref55.Fits 14. -/
import Derived.Lib.QuietBelow
import Derived.Test.YtknpigdpepmimaaGreatDoorV26
import Derived.Test.YtknpigdpepmimaaGreatDoorV21
import Derived.Test.YtknpigdpepmimaaGreatDoorV22
import Derived.Test.YtknpigdpepmimaaGreatDoorV32
import Derived.Test.YtknpigdpepmimaaGreatDoorV34
namespace Go.Proofs.YtknpigdpepmimaaGreatDoor
open Go.Lib(hid)
open Go.RowKit Go.Maps Go.Sort
theorem SL.take {w:World}{B:Nat}{A:Option Addr}{c:Nat}{ns:List W8}(h:SL w B (.slice A ns.length c) ns) (i:Nat)(hi:i≤ns.length):SL w B (.slice A i c) (ns.take i):=by
 obtain ⟨A',c',e,⟨h1,h2⟩,h3⟩:=h
 obtain ⟨rfl,_,rfl⟩:=Value.slice.inj e
 have hl:(ns.take i).length=i:=by rw [List.length_take]; omega
 refine ⟨A,c,by rw [hl],⟨by omega,h2⟩,fun hne=>?_⟩
 obtain ⟨b,o,rfl,hb,hc⟩:=h3 (fun e=>hne (by rw [e]; exact List.take_nil))
 refine ⟨b,o,rfl,hb,fun k hk=>?_⟩
 rw [List.getElem_take];exact hc k (by omega)
theorem has_lookup (x:W8):∀ (E:Sc),(E.lookup x).isSome=hasB (E.map (·.1)) x
 | []=>rfl
 | q::E=>by
  rw [List.lookup_cons,List.map_cons];by_cases h:x=q.1
  ·rw [h]; simp [hasB]
  ·have hb:(x == q.1)=false:=by simpa using h
   rw [hb];dsimp only
   rw [has_lookup x E];simp [hasB,h]
theorem zip_take_fst (ns:List W8)(vs:List V)(h:ns.length=vs.length) (i:Nat):((ns.zip vs).take i).map (·.1)=ns.take i:=by
 rw [List.map_take,List.map_fst_zip (by omega)]
set_option maxRecDepth 100000 in
set_option maxHeartbeats 4000000 in
theorem rfits_any (a v:Value)(ns:List W8)(vs:List V)(w:World)(ha:SL w w.heap.size a ns)(hv:SV w v vs)(hsn:∀ x∈ns,x.length≤1000)(hfit:∀ x∈vs,x.fit):
  Calls Tryz.prog 14 #[a,v] w fun e w'=>e=.returned (.bool (envB ns vs))∧Below w.heap.size w w':=by
 have hA0:=ha
 obtain ⟨A,ca,rfl,⟨hca1,hca2⟩,hAc⟩:=ha
 obtain ⟨B,cb,rfl,⟨hcb1,hcb2⟩,hBc⟩:=hv
 have HA0:=hid hA0
 have HA:=hid hAc
 have HV:=hid hBc
 have HF:=hid hfit
 have HS:=hid hsn
 clear hAc hBc hfit hsn hA0;have hl1:ns.length≤9223372036854775807:=by omega
 have hl2:vs.length≤9223372036854775807:=by omega
 go_enter Tryz.func14,Tryz.ntmps14;by_cases hlen:ns.length=vs.length∧ns.length≤100
 ·have HEB:Hid (envB ns vs=envOkB (ns.zip vs)):=by show _=_; unfold envB; rw [decide_eq_true hlen,Bool.true_and]
  obtain ⟨hlen1,hlen2⟩:=hlen
  have hb1:((ns.length:Int) != (vs.length:Int))=false:=by simp [hlen1]
  have hb2:¬ (100:Int)<(ns.length:Int):=by omega
  go_upto_region 4 with (fail);obtain ⟨E,hE⟩:∃ E,E=ns.zip vs:=⟨_,rfl⟩
  have hEl:E.length=ns.length:=by rw [hE,List.length_zip]; omega
  have HEl:=hid hEl
  have HEi:Hid (∀ i (h:i<ns.length)(h2:i<vs.length)(h3:i<E.length),E[i]=(ns[i],vs[i])):=fun i h h2 h3=>by subst hE; simp
  have HET:Hid (∀ i,(E.take i).map (·.1)=ns.take i):=fun i=>by subst hE; exact zip_take_fst ns vs hlen1 i
  have HL1:=hid hlen1
  rw [← hE]at HEB
  clear hE hEl hlen1 hb1 hb2;go_wp2_with fail;go_loopg [5] 101 (fun gg s5 wr=>∃ i:Nat,i≤ns.length∧101-i≤gg∧s5=.int .i64 (i:Int)∧Aside (envOkB (E.take i)=true)∧Aside (Below w.heap.size w wr))
  case atStart=>exact ⟨0,Nat.zero_le _,by omega,rfl,rfl,Below.refl _ _⟩
  case round=>
   obtain ⟨i,hi,hgg,rfl,HOK,HBW⟩:=hrel
   by_cases hlt:i<ns.length
   ·have hltz:(i:Int)<(ns.length:Int):=by omega
    have h2:i<vs.length:=by have:=HL1.out; omega
    have h3:i<E.length:=by have:=HEl.out; omega
    have h2z:(i:Int)<(vs.length:Int):=by omega
    have HP:=hid (HA0.out.take i hi)
    obtain ⟨ba,oa,rfl,hba,hca⟩:=HA.out (by intro e; rw [e]at hlt; simp at hlt)
    obtain ⟨bv,ov,rfl,hcv⟩:=HV.out (by intro e; rw [e]at h2; simp at h2)
    have hck:=(HBW.out.cell (p:=⟨ba,oa+i,none⟩) hba).trans (hca i hlt)
    have HC:=hid ((hcv i h2).reach HBW.out)
    have HEX:=hid (HEi.out i hlt h2 h3)
    have HSN:=hid (envOk_snoc (E.take i) (ns[i],vs[i]))
    have HTK:Hid (E.take (i+1)=E.take i++[(ns[i],vs[i])]):=by show _=_; rw [List.take_succ_eq_append_getElem h3,HEX.out]
    have HSN2:Hid (envOkB (E.take (i+1))=(!hasB (ns.take i) ns[i]&&identB ns[i]&&vs[i].okB)):=by show _=_; rw [HTK.out,HSN.out,HOK.out,Bool.true_and]; dsimp only; rw [has_lookup,HET.out]
    have hnl:ns[i].length≤1000:=HS.out _ (List.getElem_mem _)
    have hf:=HF.out vs[i] (List.getElem_mem _)
    have CI:=hid fun d os=>Calls.regrown_of (ident29L ns[i] (grow (redrawn wr d) os) hnl)
    have CH:=hid fun d os=>Calls.regrown_of (Q.below_of_eq (has35_any w.heap.size (.slice (some ⟨ba,oa,none⟩) i ca) (ns.take i) ns[i] (grow (redrawn wr d) os) (HP.out.below (HBW.out.trans ((below_regrown wr d os).mono HBW.out.size)))))
    have CV:=hid fun d os=>Calls.regrown_of (rvv_any vs[i] (grow (redrawn wr d) os) hf)
    have HBAD:Hid ((!hasB (ns.take i) ns[i]&&identB ns[i]&&vs[i].okB)=false→envB ns vs=false):=fun hc=>HEB.out.trans (by
     cases h:envOkB E with
     | false=>rfl
     | true=>have:=envOk_take E (i+1) h; rw [HSN2.out,hc]at this; cases this)
    clear hf hnl hca hcv HEX HSN HTK HP;unfold V.cells at CV;unfold V.okB at HSN2 HBAD;generalize hasB (ns.take i) ns[i]=hh at*;generalize ns[i]=x at*;generalize vs[i]=y at*;obtain ⟨⟨q0,q1⟩,q2,q3,q4,q5,q6,q7,q8⟩:=HC.out
    have j:=fun d os=>cell_regrown hck d os
    have j0:=fun d os=>cell_regrown q0 d os
    have j1:=fun d os=>cell_regrown q1 d os
    have j2:=fun d os=>cell_regrown q2 d os
    have j3:=fun d os=>cell_regrown q3 d os
    have j4:=fun d os=>cell_regrown q4 d os
    have j5:=fun d os=>cell_regrown q5 d os
    have j6:=fun d os=>cell_regrown q6 d os
    have j7:=fun d os=>cell_regrown q7 d os
    have j8:=fun d os=>cell_regrown q8 d os
    clear hck q0 q1 q2 q3 q4 q5 q6 q7 q8 HC;go_upto_region 6 with (fail);cases h1:identB x with
    | false=>
     rw [h1]at CI
     have HR:=hid (HBAD.out (by rw [h1]; cases hh<;>rfl))
     refine wp_region_quiet_below (by kernel_rfl) (by kernel_rfl) ?_
     repeat (first|go_big_quiet_step (first|(go_at_call 36; exact CI.out _ _)|(go_at_call 16; exact CH.out _ _)|(go_at_call 37; exact CV.out _ _))|quiet_step (first|(go_at_call 36; exact CI.out _ _)|(go_at_call 16; exact CH.out _ _)|(go_at_call 37; exact CV.out _ _)))
     refine wpQuiet_nil ?_
     intro _ hw';obtain ⟨⟨dq,osq⟩,hw''⟩:=hw'
     subst hw'';clear CI CH CV j j0 j1 j2 j3 j4 j5 j6 j7 j8;have HB2:=hid (HBW.out.trans ((below_regrown wr dq osq).mono HBW.out.size))
     go_wp2_with fail;go_ret;rw [HR.out];exact ⟨rfl,HB2.out⟩
    | true=>
     rw [h1]at CI HSN2 HBAD
     cases hh with
     | true=>
      have HR:=hid (HBAD.out rfl)
      refine wp_region_quiet_below (by kernel_rfl) (by kernel_rfl) ?_
      repeat (first|go_big_quiet_step (first|(go_at_call 36; exact CI.out _ _)|(go_at_call 16; exact CH.out _ _)|(go_at_call 37; exact CV.out _ _))|quiet_step (first|(go_at_call 36; exact CI.out _ _)|(go_at_call 16; exact CH.out _ _)|(go_at_call 37; exact CV.out _ _)))
      refine wpQuiet_nil ?_
      intro _ hw';obtain ⟨⟨dq,osq⟩,hw''⟩:=hw'
      subst hw'';clear CI CH CV j j0 j1 j2 j3 j4 j5 j6 j7 j8;have HB2:=hid (HBW.out.trans ((below_regrown wr dq osq).mono HBW.out.size))
      go_wp2_with fail;go_ret;rw [HR.out];exact ⟨rfl,HB2.out⟩
     | false=>
      cases h3:(Q.validQ y.num y.den&&y.dim.ok) with
      | false=>
       rw [h3]at CV HBAD
       have HR:=hid (HBAD.out rfl)
       refine wp_region_quiet_below (by kernel_rfl) (by kernel_rfl) ?_
       repeat (first|go_big_quiet_step (first|(go_at_call 36; exact CI.out _ _)|(go_at_call 16; exact CH.out _ _)|(go_at_call 37; exact CV.out _ _))|quiet_step (first|(go_at_call 36; exact CI.out _ _)|(go_at_call 16; exact CH.out _ _)|(go_at_call 37; exact CV.out _ _)))
       refine wpQuiet_nil ?_
       intro _ hw';obtain ⟨⟨dq,osq⟩,hw''⟩:=hw'
       subst hw'';clear CI CH CV j j0 j1 j2 j3 j4 j5 j6 j7 j8;have HB2:=hid (HBW.out.trans ((below_regrown wr dq osq).mono HBW.out.size))
       go_wp2_with fail;go_ret;rw [HR.out];exact ⟨rfl,HB2.out⟩
      | true=>
       rw [h3]at CV HSN2
       refine wp_region_quiet_below (by kernel_rfl) (by kernel_rfl) ?_
       repeat (first|go_big_quiet_step (first|(go_at_call 36; exact CI.out _ _)|(go_at_call 16; exact CH.out _ _)|(go_at_call 37; exact CV.out _ _))|quiet_step (first|(go_at_call 36; exact CI.out _ _)|(go_at_call 16; exact CH.out _ _)|(go_at_call 37; exact CV.out _ _)))
       refine wpQuiet_nil ?_
       intro _ hw';obtain ⟨⟨dq,osq⟩,hw''⟩:=hw'
       subst hw'';clear CI CH CV j j0 j1 j2 j3 j4 j5 j6 j7 j8;have HB2:=hid (HBW.out.trans ((below_regrown wr dq osq).mono HBW.out.size))
       go_wp2_with fail;go_roundg (100-i)
       case measure=>omega
       case rel=>exact ⟨i+1,by omega,by omega,by go_num,HSN2.out,HB2.out⟩
   ·have hltz:¬ (i:Int)<(ns.length:Int):=by omega
    have hltz2:¬ (i:Int)<(vs.length:Int):=by have:=HL1.out; omega
    have e:E.take i=E:=List.take_of_length_le (by have:=HEl.out; omega)
    have hok:=HOK.out
    rw [e]at hok
    have HR:Hid (envB ns vs=true):=HEB.out.trans hok
    clear hok e;go_wp2_with fail;go_ret;rw [HR.out];exact ⟨rfl,HBW.out⟩
 ·have HR:Hid (envB ns vs=false):=by show _=_; unfold envB; rw [decide_eq_false hlen,Bool.false_and]
  rw [HR.out];by_cases h1:ns.length=vs.length
  ·have hb1:((ns.length:Int) != (vs.length:Int))=false:=by simp [h1]
   have hb2:(100:Int)<(ns.length:Int):=by
    by_cases h2:ns.length≤100
    ·exact absurd ⟨h1,h2⟩ hlen
    ·omega
   clear hlen h1;go_wp2_with fail;go_ret;exact ⟨rfl,Below.refl _ _⟩
  ·have hb1:((ns.length:Int) != (vs.length:Int))=true:=by rw [bne_iff_ne]; omega
   clear hlen;go_wp2_with fail;go_ret;exact ⟨rfl,Below.refl _ _⟩
end Go.Proofs.YtknpigdpepmimaaGreatDoor
namespace Go.Proofs.YtknpigdpepmimaaGreatDoor
open Go.Lib(hid)
open Go.RowKit Go.Maps
theorem rl_lit (w:World) (B:Nat)(hB:B≤w.heap.size):RL (w.alloc (.cells #[] 9)) B (.slice (some ⟨w.heap.size,0,none⟩) 0 0) []:=World.ownsRow_lit w #[] 0 hB (by unfold maxLen; omega) rfl
theorem app30w {ops:Array Oper}{o:Oper}{a:Act}{K:Act→World→Prop}{Q:Exit→Act→World→Prop}{E:Prop}(w:World)(hgd:o.guard=none)(s x:Operand)
  (ho:o.op=.call { callee:=.builtin .append,args:=#[s,x],argTypes:=#[25,25] })(B g:Nat)(hown:RL w B (.slice (some ⟨g,0,none⟩) 0 0) [])(hs:a.eval s=.slice (some ⟨g,0,none⟩) 0 0)
  (v:Value)(p:List W8)(hx:a.eval x=v)(hv:SL w w.heap.size v p)(hz:∀ c,v=.slice none 0 c→c=0)(hl:p.length≤1000)(hB:B≤w.heap.size)
  (h:∀ g7 c7 w7,RL w7 B (.slice (some ⟨g7,0,none⟩) p.length c7) p→w.grownBy w7 (some g)→(g7=g∨g7=w.heap.size)→K (a.put o.dst (.slice (some ⟨g7,0,none⟩) p.length c7)) w7):if Region.wanted o (yielded ops a.tmps)=true then Oper.wp Tryz.prog o a w K Q else E:=by
 have hw:Region.wanted o (yielded ops a.tmps)=true:=by simp [Region.wanted,hgd]
 obtain ⟨i0,hi0,hz0,hz1,hz2⟩:=info_parts str_info
 obtain ⟨PA,c,rfl,hc,hcell⟩:=hv
 have key:if Region.wanted o (yielded ops a.tmps)=true then Oper.wp Tryz.prog o a w K Q else E:=by
  by_cases hp:p=[]
  ·subst hp
   cases PA with
   | none=>
    obtain rfl:=hz c rfl
    rw [if_pos hw];have hrun:=run_append_owned_none (P:=Tryz.prog) (w:=w) B 25 o.type 9 i0 1 Tryz.underlying25 hi0 (.slice (some ⟨g,0,none⟩) 0 0) 0 [] hown
    have hx':a.eval x=.slice none 0 0:=hx
    unfold Oper.wp;simp [execOp,ho,resolve,invoke,builtin,hs,hx',hrun,Result.andThen];exact h g 0 w hown ⟨rfl,rfl,rfl,Nat.le_refl _,fun _ _ _=>rfl⟩ (.inl rfl)
   | some ad=>
    refine step_append_room hgd s x 25 ho 9 i0 1 Tryz.underlying25 hi0 hz1 g 0 0 0 hs ad 0 c [] hx rfl (fun j u hu=>by simp at hu) (by simp) (Nat.le_refl _) (fun j hj=>by simp at hj) ?_
    have e:w.setCells g (0+0*1) []=w:=by simp [World.setCells]
    rw [e];exact h g 0 w hown ⟨rfl,rfl,rfl,Nat.le_refl _,fun _ _ _=>rfl⟩ (.inl rfl)
  ·obtain ⟨b,q,rfl,_,hcells⟩:=hcell hp
   have hpos:0<p.length:=List.length_pos_iff.2 hp
   refine step_append_lies _ hgd s x 25 ho B 9 i0 _ 1 16 Tryz.underlying25 hi0 hz0 hz1 hz2 rfl (by decide) _ 0 [] hs hown ⟨b,q,none⟩ p.length c (p.map encS) hx (by simp) (fun j u hu=>?_) (fun u hu=>?_) hpos (by unfold maxLen; omega) (by omega) hB _ rfl ?_
   ·obtain ⟨hj,hu'⟩:=List.getElem?_eq_some_iff.1 hu
    have hj':j<p.length:=by simpa using hj
    rw [List.getElem_map]at hu'
    subst hu';rw [addr_addF];exact hcells j hj'
   ·obtain ⟨y,_,rfl⟩:=List.mem_map.1 hu
    rfl
   ·intro g7 cap7 w7 hown7 hgrow7 hat7 _
    rw [Nat.zero_add]at hown7 ⊢
    rw [List.nil_append]at hown7
    exact h _ _ w7 hown7 hgrow7 (hat7.elim (fun e=>.inl (Option.some.inj e).symm) .inr)
 exact key
theorem app30m {ops:Array Oper}{rest:List Oper}{o:Oper}{a:Act}{Q:Exit→Act→World→Prop}(w:World)(hgd:o.guard=none)(s x:Operand)
  (ho:o.op=.call { callee:=.builtin .append,args:=#[s,x],argTypes:=#[25,25] })(B g:Nat)(hown:RL w B (.slice (some ⟨g,0,none⟩) 0 0) [])(hs:a.eval s=.slice (some ⟨g,0,none⟩) 0 0)
  (v:Value)(p:List W8)(hx:a.eval x=v)(hv:SL w w.heap.size v p)(hz:∀ c,v=.slice none 0 c→c=0)(hl:p.length≤1000)(hB:B≤w.heap.size)
  (h:∀ g7 c7 w7,RL w7 B (.slice (some ⟨g7,0,none⟩) p.length c7) p→(∀ B',B'≤g→B'≤w.heap.size→Below B' w w7)→(g7=g∨g7=w.heap.size)→wpList Tryz.prog ops Q rest (a.put o.dst (.slice (some ⟨g7,0,none⟩) p.length c7)) w7):wpList Tryz.prog ops Q (o::rest) a w:=by
 refine wpList_plain hgd fun K hK=>?_
 have hw:Region.wanted o (yielded ops a.tmps)=true:=by simp [Region.wanted,hgd]
 have:=app30w (ops:=ops) (K:=K) (Q:=Q) (E:=False) w hgd s x ho B g hown hs v p hx hv hz hl hB (fun g7 c7 w7 h1 h2 h3=>hK _ _ (h _ _ w7 h1 (fun B' hb hs=>(Below.refl B' w).grown h2 hs (fun k hk=>by obtain rfl:=Option.some.inj hk; exact hb)) h3))
 rwa [if_pos hw]at this
theorem app26m {ops:Array Oper}{rest:List Oper}{o:Oper}{a:Act}{Q:Exit→Act→World→Prop}(w:World)(hgd:o.guard=none)(s x:Operand)
  (ho:o.op=.call { callee:=.builtin .append,args:=#[s,x],argTypes:=#[26,26] })(B g:Nat)(hown:OV w B (.slice (some ⟨g,0,none⟩) 0 0) [])(hs:a.eval s=.slice (some ⟨g,0,none⟩) 0 0)
  (v:Value)(p:List V)(hx:a.eval x=v)(hv:SV w v p)(hz:∀ c,v=.slice none 0 c→c=0)(hl:p.length≤1000)(hB:B≤w.heap.size)
  (h:∀ g7 c7 w7,OV w7 B (.slice (some ⟨g7,0,none⟩) p.length c7) p→(∀ B',B'≤g→B'≤w.heap.size→Below B' w w7)→(g7=g∨g7=w.heap.size)→wpList Tryz.prog ops Q rest (a.put o.dst (.slice (some ⟨g7,0,none⟩) p.length c7)) w7):wpList Tryz.prog ops Q (o::rest) a w:=by
 refine wpList_plain hgd fun K hK=>?_
 have hw:Region.wanted o (yielded ops a.tmps)=true:=by simp [Region.wanted,hgd]
 have:=app26w (ops:=ops) (K:=K) (Q:=Q) (E:=False) w hgd s x ho B g hown hs v p hx hv hz hl hB (fun g7 c7 w7 h1 h2 h3=>hK _ _ (h _ _ w7 h1 (fun B' hb hs=>(Below.refl B' w).grown h2 hs (fun k hk=>by obtain rfl:=Option.some.inj hk; exact hb)) h3))
 rwa [if_pos hw]at this
set_option maxRecDepth 100000 in
set_option maxHeartbeats 8000000 in
theorem rvalue_any (t:T)(A:Option Addr) (ca:Nat)(na va:Value)(ns:List W8)(vs:List V)(w:World)(hv:TV w w.heap.size t A ca)(hs:SA t)(ha:SL w w.heap.size na ns)(hvv:SV w va vs)(hsn:∀ x∈ns,x.length≤1000)(hfit:∀ x∈vs,x.fit)(hzn:∀ c,na=.slice none 0 c→c=0)(hzv:∀ c,va=.slice none 0 c→c=0):
  Calls Tryz.prog 23 #[.agg (tv t A ca),na,va] w fun e w'=>∃ q,e=.returned (.tuple #[.agg (valueR t ns vs).v.cells,q,.int .i64 (valueR t ns vs).e])∧BI w' q (valueR t ns vs).path∧Below w.heap.size w w':=by
 have HB:=hid (b2 w (.cells (tv t A ca) 24) (.cells #[.int .i64 0,.int .i64 0,.int .i64 0,.int .i64 0,.int .i64 0,.int .i64 0,.int .i64 0,.int .i64 0,.int .i64 0] 44))
 have HX:Hid (Bxd ((w.alloc (.cells (tv t A ca) 24)).alloc (.cells #[.int .i64 0,.int .i64 0,.int .i64 0,.int .i64 0,.int .i64 0,.int .i64 0,.int .i64 0,.int .i64 0,.int .i64 0] 44)) w.heap.size t A ca):=(bxd_new w t A ca).below (b1 _ (.cells #[.int .i64 0,.int .i64 0,.int .i64 0,.int .i64 0,.int .i64 0,.int .i64 0,.int .i64 0,.int .i64 0,.int .i64 0] 44)) (by simp)
 have HK:Hid (K9 ((w.alloc (.cells (tv t A ca) 24)).alloc (.cells #[.int .i64 0,.int .i64 0,.int .i64 0,.int .i64 0,.int .i64 0,.int .i64 0,.int .i64 0,.int .i64 0,.int .i64 0] 44)) (w.heap.size+1) zV):=by
  have h:=K9.new (w.alloc (.cells (tv t A ca) 24)) zV
  rw [World.size_alloc]at h
  exact h
 have HSZ:Hid (((w.alloc (.cells (tv t A ca) 24)).alloc (.cells #[.int .i64 0,.int .i64 0,.int .i64 0,.int .i64 0,.int .i64 0,.int .i64 0,.int .i64 0,.int .i64 0,.int .i64 0] 44)).heap.size=w.heap.size+2):=by show _=_; simp
 have HTV:Hid (TV ((w.alloc (.cells (tv t A ca) 24)).alloc (.cells #[.int .i64 0,.int .i64 0,.int .i64 0,.int .i64 0,.int .i64 0,.int .i64 0,.int .i64 0,.int .i64 0,.int .i64 0] 44)) ((w.alloc (.cells (tv t A ca) 24)).alloc (.cells #[.int .i64 0,.int .i64 0,.int .i64 0,.int .i64 0,.int .i64 0,.int .i64 0,.int .i64 0,.int .i64 0,.int .i64 0] 44)).heap.size t A ca):=(hv.below HB.out).more HB.out.size
 have HVA:=hid fun (wz:World)(h:TV wz wz.heap.size t A ca)=>rvalid_any t A ca wz h hs
 have HFI:=hid fun (wz:World)(hb:Below w.heap.size w wz)=>rfits_any na va ns vs wz ((ha.below hb).more hb.size) (hvv.reach hb) hsn hfit
 have HNA:Hid (SL w w.heap.size na ns):=ha
 have HVV:Hid (SV w va vs):=hvv
 have HTV0:=hid hv
 have HZN:=hid hzn
 have HZV:=hid hzv
 unfold tv at HVA;clear hv hs ha hvv hsn hfit hzn hzv;go_enter Tryz.func23,Tryz.ntmps23;go_upto_region 1 with (fail);generalize (w.alloc (.cells (tv t A ca) 24)).alloc (.cells #[.int .i64 0,.int .i64 0,.int .i64 0,.int .i64 0,.int .i64 0,.int .i64 0,.int .i64 0,.int .i64 0,.int .i64 0] 44)=w1 at*;obtain ⟨k0,k1,k2,k3,k4⟩:=HX.out
 go_wp2_with fail;refine (HVA.out w1 HTV.out).mono ?_
 rintro e w2 ⟨rfl,hb2⟩
 have HB2:=hid (bl_tr HB.out hb2)
 have HK2:=hid (HK.out.reach hb2)
 have HX2:Hid (Bxd w2 w.heap.size t A ca):=bxd_block HX.out (hb2.block _ (by have h:=HSZ.out; omega))
 have HS2:Hid (w.heap.size+2≤w2.heap.size):=by have h:=HSZ.out; have h2:=hb2.size; show _≤_; omega
 clear hb2 k0 k1 k2 k3 k4 HTV HX HK HVA;have HF2:=hid (HFI.out w2 HB2.out)
 clear HFI;cases hvb:validB t with
 | false=>
  have HR:Hid (valueR t ns vs=erR 1):=by
   show _=_
   unfold valueR;split
   ·rw [hvb]; rfl
   ·rfl
  clear hvb;obtain ⟨⟨⟨z0,z1⟩,z2,z3,z4,z5,z6,z7,z8⟩,zf,_⟩:=HK2.out.cells
  go_wp2_with fail;rw [HR.out];refine bodyPost_ret (v:=.tuple #[.agg zV.cells,.slice none 0 0,.int .i64 1]) (by simp [results,Tryz.results23,go_sem,V.cells,zV,zD,z0,z1,z2,z3,z4,z5,z6,z7,z8]) rfl ⟨_,rfl,BI.nil _,?_⟩
  exact below9 HB2.out (b:=w.heap.size+1) (Nat.le_succ _) zV
 | true=>
  have HVB:=hid hvb
  clear hvb;go_wp2_with fail;refine HF2.out.mono ?_
  rintro e w3 ⟨rfl,hb3⟩
  have HB3:=hid (bl_tr HB2.out hb3)
  have HK3:=hid (HK2.out.reach hb3)
  have HX3:Hid (Bxd w3 w.heap.size t A ca):=bxd_block HX2.out (hb3.block _ (by have h:=HS2.out; omega))
  have HS3:Hid (w.heap.size+2≤w3.heap.size):=by have h:=HS2.out; have h2:=hb3.size; show _≤_; omega
  clear hb3;cases heb:envB ns vs with
  | false=>
   have HR:Hid (valueR t ns vs=erR 1):=by
    show _=_
    unfold valueR;rw [heb]; rfl
   clear heb;obtain ⟨⟨⟨z0,z1⟩,z2,z3,z4,z5,z6,z7,z8⟩,zf,_⟩:=HK3.out.cells
   go_wp2_with fail;rw [HR.out];refine bodyPost_ret (v:=.tuple #[.agg zV.cells,.slice none 0 0,.int .i64 1]) (by simp [results,Tryz.results23,go_sem,V.cells,zV,zD,z0,z1,z2,z3,z4,z5,z6,z7,z8]) rfl ⟨_,rfl,BI.nil _,?_⟩
   exact below9 HB3.out (b:=w.heap.size+1) (Nat.le_succ _) zV
  | true=>
   have HEB:=hid heb
   have HR:Hid (valueR t ns vs=(ev t (ns.zip vs) 0).1):=by show _=_; unfold valueR; rw [if_pos heb,if_pos HVB.out]
   clear heb;go_upto_region 3 with (fail);have HP:Hid ((ns.length=vs.length∧ns.length≤100)∧envOkB (ns.zip vs)=true):=by have h:=HEB.out; unfold envB at h; rw [Bool.and_eq_true,decide_eq_true_eq]at h; exact h
   have HNL:Hid (ns.length≤1000):=Nat.le_trans HP.out.1.2 (by decide)
   have HVL:Hid (vs.length≤1000):=by have:=HP.out.1; show _≤_; omega
   have HB33:=hid (bl_tr HB3.out (b1 w3 (.cells #[] 9)))
   have HN3:Hid (SL (w3.alloc (.cells #[] 9)) (w3.alloc (.cells #[] 9)).heap.size na ns):=(HNA.out.below HB33.out).more HB33.out.size
   go_wp2_with (at_builtin; refine app30m (w3.alloc (.cells #[] 9)) rfl (.tmp 22) (.tmp 23) rfl w3.heap.size w3.heap.size (rl_lit w3 _ (Nat.le_refl _)) rfl na ns rfl HN3.out HZN.out HNL.out (b1 w3 _).size ?_)
   intro g6 c6 w4 hrl hb4 _;have HRL:=hid hrl
   have HB34:Hid (Below w3.heap.size w3 w4):=(b1 w3 (.cells #[] 9)).trans (hb4 _ (Nat.le_refl _) (Nat.le_succ _))
   clear hrl hb4 HB33 HN3;have HV4:Hid (SV (w4.alloc (.cells #[] 44)) va vs):=HVV.out.reach (bl_tr (bl_tr HB3.out HB34.out) (b1 w4 _))
   go_wp2_with (at_builtin; refine app26m (w4.alloc (.cells #[] 44)) rfl (.tmp 25) (.tmp 26) rfl w3.heap.size w4.heap.size (ov_lit w4 w3.heap.size HB34.out.size) rfl va vs rfl HV4.out HZV.out HVL.out (Nat.le_trans HB34.out.size (b1 w4 _).size) ?_)
   intro g7 c7 w5 hov hb5 hg7;have HOV:=hid hov
   have HB45:Hid (Below w4.heap.size w4 w5):=(b1 w4 (.cells #[] 44)).trans (hb5 _ (Nat.le_refl _) (Nat.le_succ _))
   have HB35:Hid (Below w3.heap.size w3 w5):=bl_tr HB34.out HB45.out
   have HG7:Hid (w4.heap.size≤g7):=by
    rcases hg7 with rfl|rfl
    ·exact Nat.le_refl _
    ·exact Nat.le_succ _
   clear hov hb5 hg7 HV4;go_upto_region 4 with (fail);have hb56:=b1 w5 (.cells #[.slice (some ⟨g6,0,none⟩) ns.length c6,.slice (some ⟨g7,0,none⟩) vs.length c7,.int .i64 2000] 95)
   have HB36:=hid (bl_tr HB35.out hb56)
   have HB6:=hid (bl_tr HB3.out HB36.out)
   have hE:=HP.out.1.1
   have HMS:Hid (MS (w5.alloc (.cells #[.slice (some ⟨g6,0,none⟩) ns.length c6,.slice (some ⟨g7,0,none⟩) vs.length c7,.int .i64 2000] 95)) w5.heap.size w3.heap.size (ns.zip vs).reverse 0 (.slice (some ⟨g6,0,none⟩) ns.length c6) (.slice (some ⟨g7,0,none⟩) vs.length c7)):=by
    have e1:((ns.zip vs).reverse.map (·.1)).reverse=ns:=by rw [List.map_reverse,List.reverse_reverse]; exact List.map_fst_zip (by omega)
    have e2:((ns.zip vs).reverse.map (·.2)).reverse=vs:=by rw [List.map_reverse,List.reverse_reverse]; exact List.map_snd_zip (by omega)
    have hR5:RL w5 w3.heap.size (.slice (some ⟨g6,0,none⟩) ns.length c6) ns:=World.ownsRow.kept HRL.out (gb_below (row:=none) HB45.out) (.inr (by simp [Value.ownBlock]))
    refine ⟨HB35.out.size,heap_alloc_new w5 _,?_,?_,?_,?_,?_⟩
    ·rw [e1]; exact World.ownsRow.alloc hR5 _
    ·rw [e2]; exact World.ownsRow.alloc HOV.out _
    ·intro e; have:=(hR5.lt _ e).2; omega
    ·intro e; have:=(HOV.out.lt _ e).2; omega
    ·intro k hk e
     have h1:=(HRL.out.lt _ hk).2
     have h2:some g7=some k:=e
     obtain rfl:=Option.some.inj h2
     have h3:=HG7.out
     omega
   have hwf:=(valid_iff t).1 HVB.out
   have hzl:(ns.zip vs).reverse.length≤1000:=by rw [List.length_reverse,List.length_zip]; have:=HNL.out; omega
   have HTV6:Hid (TV (w5.alloc (.cells #[.slice (some ⟨g6,0,none⟩) ns.length c6,.slice (some ⟨g7,0,none⟩) vs.length c7,.int .i64 2000] 95)) w3.heap.size t A ca):=(HTV0.out.below HB6.out).more HB3.out.size
   have HEV:Hid (ev t (ns.zip vs).reverse 0=ev t (ns.zip vs) 0):=by
    have hnd:((ns.zip vs).map (·.1)).Nodup:=by
     have h:=HP.out.2
     unfold envOkB at h;rw [Bool.and_eq_true,decide_eq_true_eq]at h
     exact h.2
    show _=_
    rw [ev_rev hnd]
   have HTL:=hid (rterm_all rfind_c 1000 (by decide) t hwf.2 hwf.1 (ns.zip vs).reverse A ca 0 (w5.alloc (.cells #[.slice (some ⟨g6,0,none⟩) ns.length c6,.slice (some ⟨g7,0,none⟩) vs.length c7,.int .i64 2000] 95)) (.slice (some ⟨g6,0,none⟩) ns.length c6) (.slice (some ⟨g7,0,none⟩) vs.length c7) (Nat.zero_le _) (fun p hp=>env_ok HEB.out p (List.mem_reverse.1 hp)) (by have:=hwf.2; omega) HTV6.out HMS.out)
   have HTD:Hid (Tidy (valueR t ns vs)):=by show Tidy _; rw [HR.out]; exact ev_tidy t.size t (Nat.le_refl _) _ _
   rw [HEV.out]at HTL
   have hK6:K9 (w5.alloc (.cells #[.slice (some ⟨g6,0,none⟩) ns.length c6,.slice (some ⟨g7,0,none⟩) vs.length c7,.int .i64 2000] 95)) (w.heap.size+1) zV:=HK3.out.reach HB36.out
   have HX6:Hid (Bxd (w5.alloc (.cells #[.slice (some ⟨g6,0,none⟩) ns.length c6,.slice (some ⟨g7,0,none⟩) vs.length c7,.int .i64 2000] 95)) w.heap.size t A ca):=bxd_block HX3.out (HB36.out.block _ (by have h:=HS3.out; omega))
   have HK6:=hid hK6
   have HS6:Hid ((w.heap.size+1)<w3.heap.size∧w3.heap.size≤(w5.alloc (.cells #[.slice (some ⟨g6,0,none⟩) ns.length c6,.slice (some ⟨g7,0,none⟩) vs.length c7,.int .i64 2000] 95)).heap.size):=⟨by have h:=HS3.out; omega,HB36.out.size⟩
   unfold VOut2 tv V.cells at HTL;clear hK6 hwf hzl hE hb56 HK3 HX3 HTV6 HP HOV HRL HB45 HB35 HB34 HG7 HEV HNL HVL HB36;generalize w5.heap.size=mb at*;generalize (w5.alloc (.cells #[.slice (some ⟨g6,0,none⟩) ns.length c6,.slice (some ⟨g7,0,none⟩) vs.length c7,.int .i64 2000] 95))=w6 at*;generalize ev t (ns.zip vs) 0=g at*;obtain ⟨r,c2⟩:=g
   (try dsimp only at HTL HR)
   rw [HR.out]at HTD
   obtain ⟨k0,k1,k2,k3,k4⟩:=HX6.out
   go_wp2_with fail;refine HTL.out.mono ?_
   rintro e w7 ⟨q,un,uv,rfl,hfp,hms7,hgm7⟩
   (try dsimp only at hfp hms7)
   have hb8:=b1 w7 (.cells #[.int .i64 r.v.num,.int .i64 r.v.den,.int .i64 r.v.dim.a,.int .i64 r.v.dim.b,.int .i64 r.v.dim.c,.int .i64 r.v.dim.d,.int .i64 r.v.dim.e,.int .i64 r.v.dim.f,.int .i64 r.v.dim.g] 44)
   have HB67:Hid (Below w3.heap.size w6 w7):=hgm7.below HMS.out HS6.out.2
   have HB7:Hid (Below w.heap.size w w7):=HB6.out.trans (HB67.out.mono (by have h:=HS6.out; omega))
   have HB8:=hid (bl_tr HB7.out hb8)
   have HK8:Hid (K9 (w7.alloc (.cells #[.int .i64 r.v.num,.int .i64 r.v.den,.int .i64 r.v.dim.a,.int .i64 r.v.dim.b,.int .i64 r.v.dim.c,.int .i64 r.v.dim.d,.int .i64 r.v.dim.e,.int .i64 r.v.dim.f,.int .i64 r.v.dim.g] 44)) w7.heap.size r.v):=K9.new w7 r.v
   have HN8:Hid (w3.heap.size≤w6.heap.size∧w6.heap.size≤w7.heap.size):=⟨HS6.out.2,hgm7.size⟩
   have HR8:Hid (K9 (w7.alloc (.cells #[.int .i64 r.v.num,.int .i64 r.v.den,.int .i64 r.v.dim.a,.int .i64 r.v.dim.b,.int .i64 r.v.dim.c,.int .i64 r.v.dim.d,.int .i64 r.v.dim.e,.int .i64 r.v.dim.f,.int .i64 r.v.dim.g] 44)) (w.heap.size+1) zV):=(hb8.block _ (by have h:=HN8.out; have h2:=HS6.out.1; omega)).trans ((HB67.out.block _ HS6.out.1).trans HK6.out)
   have HF8:=hid (FP.reach hfp hb8)
   have HS8:Hid (w.heap.size+2≤w3.heap.size):=HS3.out
   clear hfp hms7 hgm7 hb8 k0 k1 k2 k3 k4 HTL HMS HX6 HK6 HB6 HB7 HB67 HS6;have hne8:w7.heap.size≠(w.heap.size+1):=by have h:=HN8.out; have h2:=HS8.out; omega
   go_upto_region 5 with (fail);generalize w7.alloc (.cells #[.int .i64 r.v.num,.int .i64 r.v.den,.int .i64 r.v.dim.a,.int .i64 r.v.dim.b,.int .i64 r.v.dim.c,.int .i64 r.v.dim.d,.int .i64 r.v.dim.e,.int .i64 r.v.dim.f,.int .i64 r.v.dim.g] 44)=w8 at*;generalize w7.heap.size=m at*;rcases HF8.out with ⟨he,rfl⟩|⟨he,fb,rfl,hfb⟩
   ·have HPN:=hid (HTD.out.1 he)
    have HE0:=hid he
    clear he HF8;obtain ⟨⟨⟨y0,y1⟩,y2,y3,y4,y5,y6,y7,y8⟩,yf,_⟩:=HK8.out.cells
    obtain ⟨⟨⟨z0,z1⟩,z2,z3,z4,z5,z6,z7,z8⟩,zf,_⟩:=HR8.out.cells
    go_wp2_with fail;rw [HR.out];have hre:r.e=0:=HE0.out
    rw [hre,HPN.out];refine bodyPost_ret (v:=.tuple #[.agg r.v.cells,.slice none 0 0,.int .i64 0]) (by simp [results,Tryz.results23,go_sem,V.cells,z0,z1,z2,z3,z4,z5,z6,z7,z8]) rfl ⟨_,rfl,BI.nil _,?_⟩
    exact below9 HB8.out (b:=w.heap.size+1) (Nat.le_succ _) r.v
   ·have HVZ:=hid (HTD.out.2 he)
    obtain ⟨⟨qp,h1,h2,h3⟩,h4⟩:=hfb
    have hfne:fb≠(w.heap.size+1):=by have h5:=h4.2; have h6:=HN8.out; have h7:=HS8.out; omega
    have HBI:Hid (BI (set9 w8 (w.heap.size+1) zV) qp r.path):=h2.keep2 fun hne b o n c e hb=>⟨by rw [set9_size]; exact hb,set9_other _ _ _ _ (by have h5:=(h3 b o n c e hne).2; have h6:=HN8.out; have h7:=HS8.out; omega)⟩
    obtain ⟨Aq,cq,rfl⟩:∃ A c,qp=.slice A r.path.length c:=by obtain ⟨⟨A,c,h1,_⟩,_⟩:=h2; exact ⟨A,c,h1⟩
    have f0:w8.cell? ⟨fb,0,none⟩=some (.int .i64 r.e):=by simp [World.cell?,h1]
    have f1:w8.cell? ⟨fb,1,none⟩=some (.slice Aq r.path.length cq):=by simp [World.cell?,h1]
    clear he HF8 h1 h2 h3 h4 HK8 HTD;obtain ⟨⟨⟨z0,z1⟩,z2,z3,z4,z5,z6,z7,z8⟩,zf,_⟩:=HR8.out.cells
    go_upto_region 6 with (fail);go_region
    all_goals
     go_wp2_with fail;rw [HR.out];rw [HVZ.out];refine bodyPost_ret (v:=.tuple #[.agg zV.cells,.slice Aq r.path.length cq,.int .i64 r.e]) (by simp [results,Tryz.results23,go_sem,V.cells,zV,zD,z0,z1,z2,z3,z4,z5,z6,z7,z8]) rfl ⟨_,rfl,?_⟩
     exact ⟨HBI.out.reach (bl_dr (Below.refl _ _)),bl_dr (below9 HB8.out (b:=w.heap.size+1) (Nat.le_succ _) zV)⟩
end Go.Proofs.YtknpigdpepmimaaGreatDoor
