/- Contracts of ref53's Parse 207 and unit 180. -/
import Derived.Test.YtknpigdpepmimaaGreatDoorV25
import Derived.Test.YtknpigdpepmimaaGreatDoorV33
import Derived.Test.YtknpigdpepmimaaGreatDoorV20
namespace Go.Proofs.YtknpigdpepmimaaGreatDoor
open Go.Lib(hid)
open Go.RowKit Go.Maps
def Dm.put (d:Dm) (i:Nat) (e:Int):Dm:=⟨if i=0 then e else d.a,if i=1 then e else d.b,if i=2 then e else d.c,if i=3 then e else d.d,if i=4 then e else d.e,if i=5 then e else d.f,if i=6 then e else d.g⟩
theorem K7.put {w:World}{b:Nat}{d:Dm}(h:K7 w b d){i:Nat}(hi:i<7) (e:Int):K7 (w.setCell ⟨b,i,none⟩ (.int .i64 e)) b (d.put i e):=by
 rcases seven hi with rfl|rfl|rfl|rfl|rfl|rfl|rfl
 ·exact h.set0 e
 ·exact h.set1 e
 ·exact h.set2 e
 ·exact h.set3 e
 ·exact h.set4 e
 ·exact h.set5 e
 ·exact h.set6 e
structure PartOK (x:W8 × Nat × Int):Prop where
 sp:∃ q qs,wordsL 94 x.1=q::qs∧(∀ i (h:i<7),baseL[i]'h=q↔i=x.2.1)∧(x.2.1<7→expW x.2.2 (q::qs))
 ln:x.1.length≤100
def updD (d:Dm)(x:W8 × Nat × Int):Dm:=if x.2.1<7 then d.put x.2.1 x.2.2 else d
structure ParD (t:W8)(d:Dm):Prop where
 ps:∃ L:List (W8 × Nat × Int),wordsL 32 t=L.map (·.1)∧(∀ x∈L,PartOK x)∧L.foldl updD zD=d∧L.length≤100
 tx:dtxt d=t
 ln:t.length≤1000
theorem fold_step {α β:Type}(f:β→α→β)(a:β)(L:List α){i:Nat}(h:i<L.length):(L.take (i+1)).foldl f a=f ((L.take i).foldl f a) L[i]:=by
 rw [List.take_succ_eq_append_getElem h,List.foldl_append]; rfl
theorem sl_gx {tk:Nat}{w w':World}{B:Nat}{v:Value}{l:List W8}(h:RL w B v l)(hB:tk<B)(hg:Gx tk w w'):SL w' w'.heap.size v l:=by
 obtain ⟨A,c,h1,h2,h3⟩:=h.sl
 refine ⟨A,c,h1,h2,fun hne=>?_⟩
 obtain ⟨b,o,h4,h5,h6⟩:=h3 hne
 subst h4;have hb:=(World.ownsRow.lt h b (by rw [h1]; rfl))
 refine ⟨b,o,rfl,Nat.lt_of_lt_of_le h5 hg.size,fun j hj=>(cell_of_block (hg.block b h5 (fun e=>by have:=Option.some.inj e; omega)) _).trans (h6 j hj)⟩
set_option maxRecDepth 100000 in
set_option maxHeartbeats 4000000 in
theorem rpar_any (t:W8)(dm:Dm)(w:World)(h:ParD t dm):Calls Tryz.prog 207 #[.string ⟨t.toArray⟩] w fun e w'=>e=.returned (.tuple #[.agg dm.cells,.int .i64 0])∧Below w.heap.size w w':=by
 obtain ⟨⟨L,hw,hp,hf,hl⟩,htx,hln⟩:=h
 have HP:=hid hp
 have HF:=hid hf
 have HTX:=hid htx
 have HB:=hid (b2 w (.cells #[.int .i64 0,.int .i64 0,.int .i64 0,.int .i64 0,.int .i64 0,.int .i64 0,.int .i64 0] 42) (.cells #[.int .i64 0,.int .i64 0,.int .i64 0,.int .i64 0,.int .i64 0,.int .i64 0,.int .i64 0] 42))
 have HK:Hid (K7 ((w.alloc (.cells #[.int .i64 0,.int .i64 0,.int .i64 0,.int .i64 0,.int .i64 0,.int .i64 0,.int .i64 0] 42)).alloc (.cells #[.int .i64 0,.int .i64 0,.int .i64 0,.int .i64 0,.int .i64 0,.int .i64 0,.int .i64 0] 42)) (w.heap.size+1) zD):=by
  have h:=K7.new (w.alloc (.cells #[.int .i64 0,.int .i64 0,.int .i64 0,.int .i64 0,.int .i64 0,.int .i64 0,.int .i64 0] 42)) zD
  rw [World.size_alloc]at h
  exact h
 have HR:Hid (K7 ((w.alloc (.cells #[.int .i64 0,.int .i64 0,.int .i64 0,.int .i64 0,.int .i64 0,.int .i64 0,.int .i64 0] 42)).alloc (.cells #[.int .i64 0,.int .i64 0,.int .i64 0,.int .i64 0,.int .i64 0,.int .i64 0,.int .i64 0] 42)) w.heap.size zD):=(K7.new w zD).below (b1 _ (.cells #[.int .i64 0,.int .i64 0,.int .i64 0,.int .i64 0,.int .i64 0,.int .i64 0,.int .i64 0] 42)) (by simp)
 have HSZ:Hid (((w.alloc (.cells #[.int .i64 0,.int .i64 0,.int .i64 0,.int .i64 0,.int .i64 0,.int .i64 0,.int .i64 0] 42)).alloc (.cells #[.int .i64 0,.int .i64 0,.int .i64 0,.int .i64 0,.int .i64 0,.int .i64 0,.int .i64 0] 42)).heap.size=w.heap.size+2):=by show _=_; simp
 have HSP:Hid (∀ wz:World,Calls Tryz.prog 226 #[.string ⟨t.toArray⟩,.int .u8 32] wz fun e w'=>∃ v,e=.returned v∧RL w' wz.heap.size v (L.map (·.1))∧Below wz.heap.size wz w'):=fun wz=>by
  have h:=rsplit_any ⟨t.toArray⟩ 32 wz hln
  rw [show (⟨t.toArray⟩:ByteArray).data.toList=t from rfl,hw]at h
  exact h
 have HDT:=hid fun wz=>rdtext_any dm wz
 have HBS:=hid fun wz=>bases_any wz
 unfold Dm.cells at HDT;clear hp hf htx hw;go_enter Tryz.func207,Tryz.ntmps207;go_upto_region 2 with (fail);generalize (w.alloc (.cells #[.int .i64 0,.int .i64 0,.int .i64 0,.int .i64 0,.int .i64 0,.int .i64 0,.int .i64 0] 42)).alloc (.cells #[.int .i64 0,.int .i64 0,.int .i64 0,.int .i64 0,.int .i64 0,.int .i64 0,.int .i64 0] 42)=w1 at*;go_wp2_with fail;refine (HSP.out w1).mono ?_
 rintro e w2 ⟨v,rfl,hrl,hb2⟩
 have HRL:=hid hrl
 have HB2:=hid (bl_tr HB.out hb2)
 have HK2:=hid (HK.out.reach hb2)
 have HR2:=hid (HR.out.reach hb2)
 have HS2:Hid (w.heap.size+2≤w1.heap.size):=Nat.le_of_eq HSZ.out.symm
 have HVS:=hid hrl.sl
 obtain ⟨A,cp,rfl,⟨hc1,hc2⟩,_⟩:=hrl.sl
 rw [List.length_map]at hc1 HRL HVS ⊢
 clear hrl hb2 HB HK HR;have hlz:(L.length:Int)≤100:=by omega
 go_wp2_with fail;go_loopg [6] 102 (fun gg s6 wr=>∃ i:Nat,i≤L.length∧L.length-i<gg∧s6=.int .i64 (i:Int)∧Aside (Gx (w.heap.size+1) w2 wr)∧Aside (K7 wr (w.heap.size+1) ((L.take i).foldl updD zD)))
 case atStart=>exact ⟨0,Nat.zero_le _,by omega,rfl,gx_refl,HK2.out⟩
 case round=>
  obtain ⟨i,hi,hgg,rfl,HG,HKr⟩:=hrel
  by_cases hlt:i<L.length
  ·have hltz:(i:Int)<(L.length:Int):=by omega
   have hsl:=sl_gx HRL.out (by have:=HS2.out; omega) HG.out
   obtain ⟨A',c',hv,_,hcell⟩:=hsl
   obtain ⟨b,ob,hA,hb,hcx⟩:=hcell (by intro e; have:=congrArg List.length e; simp at this; subst this; simp at hlt)
   have hv1:=(Value.slice.inj hv).1
   subst hv1;subst hA;have hc:=hcx i (by rw [List.length_map]; exact hlt)
   rw [List.getElem_map]at hc
   have HX:=hid (HP.out L[i] (List.getElem_mem hlt))
   have HST:=hid (fold_step updD zD L hlt)
   generalize L[i]=x at*;obtain ⟨pw,jx,ex⟩:=x
   dsimp only at hc
   obtain ⟨⟨q,qs,hsp,hqb,hqe⟩,hpl⟩:=HX.out
   dsimp only at hsp hqb hqe hpl
   have HQB:=hid hqb
   have HQE:=hid hqe
   have HSP2:Hid (∀ wz:World,Calls Tryz.prog 226 #[.string ⟨pw.toArray⟩,.int .u8 94] wz fun e w'=>∃ v,e=.returned v∧RL w' wz.heap.size v (q::qs)∧Below wz.heap.size wz w'):=fun wz=>by
    have h:=rsplit_any ⟨pw.toArray⟩ 94 wz (by show pw.length≤1000; omega)
    rw [show (⟨pw.toArray⟩:ByteArray).data.toList=pw from rfl,hsp]at h
    exact h
   generalize (L.take i).foldl updD zD=d at*;have HLO:Hid (w.heap.size+2≤wr.heap.size):=by have h1:=HG.out.size; have h2:=HS2.out; have h3:=HB2.out.size; have h4:=HRL.out.lt b rfl; show _≤_; omega
   clear hcx hcell hv hsp hqb hqe hpl HX hb;go_wp2_with fail;refine (HSP2.out wr).mono ?_
   rintro e w3 ⟨v2,rfl,hrl2,hb3⟩
   have HRL2:=hid hrl2
   have HG3:=hid (gx_bl HG.out hb3)
   have HK3:=hid (HKr.out.reach hb3)
   obtain ⟨A2,c2,rfl,⟨hd1,hd2⟩,hcell⟩:=hrl2.sl
   obtain ⟨b2',o2,rfl,hb2,hcx⟩:=hcell (by simp)
   have HC0:=hid (hcx 0 (by simp))
   have HNB:Hid (b2'≠w.heap.size+1):=by have h1:=(HRL2.out.lt b2' rfl).1; have h2:=HLO.out; show _≠_; omega
   have hql:(0:Int)<((q::qs).length:Int):=by rw [List.length_cons]; omega
   clear hrl2 hb3 hc hcx hcell;generalize hqq:(q::qs).length=nq at*;clear hqq;go_wp2_with fail;go_loopg [8] 8 (fun gg s8 wr2=>∃ j:Nat,j≤7∧7-j<gg∧s8=.int .i64 (j:Int)∧Aside (Gx (w.heap.size+1) w3 wr2)∧Aside (K7 wr2 (w.heap.size+1) (if jx<j then d.put jx ex else d)))
   case atStart=>exact ⟨0,by omega,by omega,rfl,gx_refl,by show K7 _ _ _; rw [if_neg (Nat.not_lt_zero _)]; exact HK3.out⟩
   case round=>
    obtain ⟨j,hj,hgg2,rfl,HG4,HK4⟩:=hrel
    rename World=>wj
    by_cases hlt7:j<7
    ·have hltz7:(j:Int)<7:=by omega
     have hjz:(0:Int)≤(j:Int):=Int.natCast_nonneg j
     have hix:=fun w=>base_ix hlt7 w
     have hbj:=HQB.out j hlt7
     generalize baseL[j]'hlt7=nm at*;have HCr:=hid fun (wz:World)(h:Below wj.heap.size wj wz)=>(h.cell (p:=⟨b2',o2,none⟩) (Nat.lt_of_lt_of_le hb2 HG4.out.size)).trans ((cell_of_block (HG4.out.block b2' hb2 (fun e=>HNB.out (Option.some.inj e))) _).trans HC0.out)
     by_cases hje:j=jx
     ·have hnm:nm=q:=hbj.2 hje
      have HEX:=hid (HQE.out (by omega))
      clear hbj;subst hnm;subst hje;go_upto_region 10 with (fail);go_cut [32] (fun s32 wx=>s32=.bool true∧Aside (Below wj.heap.size wj wx))
      case first=>
       go_region_held_law (fun w'=>w'.cell? ⟨b2',o2,none⟩=some (.string ⟨nm.toArray⟩)) ((refine HCr.out _ ?_; repeat (first|with_reducible exact Below.refl _ _|with_reducible apply bl_dr|with_reducible refine bl_tr ?_ (by assumption)))) (first|(go_at_call 101; (with_reducible refine (HBS.out _).mono ?_); rintro r wz ⟨rfl,hbz⟩))
       all_goals
        go_wp2_with fail;go_meet
        case rel=>exact ⟨by simp,(by show Below _ _ _; repeat (first|with_reducible exact Below.refl _ _|with_reducible apply bl_dr|with_reducible refine bl_tr ?_ (by assumption)))⟩
      case rest=>
       obtain ⟨rfl,HB5⟩:=hcut
       rename World=>w5
       have HSL5:=hid (sl_gx HRL2.out (by have:=HLO.out; omega) (gx_bl HG4.out HB5.out))
       have HRX:=hid (rexp_any _ _ _ w5 HSL5.out HEX.out)
       go_wp2_with fail;refine HRX.out.mono ?_
       rintro r w6 ⟨rfl,hb6⟩
       have HG6:=hid (gx_bl (gx_bl HG4.out HB5.out) hb6)
       have HK6:=hid ((HK4.out.reach HB5.out).reach hb6)
       have hc6:=HK6.out.at_ hlt7
       have hf6:=HK6.out.cells.2.1 j
       have HK7:Hid (K7 (w6.setCell ⟨w.heap.size+1,j,none⟩ (.int .i64 ex)) (w.heap.size+1) (if j<j+1 then d.put j ex else d)):=by
        have h:=HK6.out.put hlt7 ex
        rw [if_neg (Nat.lt_irrefl j)]at h
        rw [if_pos (Nat.lt_succ_self j)];exact h
       clear hb6;go_wp2_with fail;go_roundg (7-j)
       case measure=>omega
       case rel=>exact ⟨j+1,by omega,by omega,by go_num,gx_set HG6.out _,HK7.out⟩
     ·have hnm:nm≠q:=fun h=>hje (hbj.1 h)
      have hnb:(nm == q)=false:=by rw [beq_eq_false_iff_ne]; exact hnm
      have HK7:Hid (∀ wz,K7 wz (w.heap.size+1) (if jx<j then d.put jx ex else d)→K7 wz (w.heap.size+1) (if jx<j+1 then d.put jx ex else d)):=fun wz h=>by
       by_cases h2:jx<j
       ·rw [if_pos h2]at h; rw [if_pos (by omega)]; exact h
       ·rw [if_neg h2]at h; rw [if_neg (by omega)]; exact h
      clear hbj hnm;go_upto_region 10 with (fail);go_cut [32] (fun s32 wx=>s32=.bool false∧Aside (Below wj.heap.size wj wx))
      case first=>
       go_region_held_law (fun w'=>w'.cell? ⟨b2',o2,none⟩=some (.string ⟨q.toArray⟩)) ((refine HCr.out _ ?_; repeat (first|with_reducible exact Below.refl _ _|with_reducible apply bl_dr|with_reducible refine bl_tr ?_ (by assumption)))) (first|(go_at_call 101; (with_reducible refine (HBS.out _).mono ?_); rintro r wz ⟨rfl,hbz⟩))
       all_goals
        go_wp2_with fail;go_meet
        case rel=>exact ⟨by simp,(by show Below _ _ _; repeat (first|with_reducible exact Below.refl _ _|with_reducible apply bl_dr|with_reducible refine bl_tr ?_ (by assumption)))⟩
      case rest=>
       obtain ⟨rfl,HB5⟩:=hcut
       go_wp2_with fail;go_roundg (7-j)
       case measure=>omega
       case rel=>exact ⟨j+1,by omega,by omega,by go_num,gx_bl HG4.out HB5.out,HK7.out _ (HK4.out.reach HB5.out)⟩
    ·have hltz7:¬ (j:Int)<7:=by omega
     have e7:j=7:=by omega
     subst e7;have HK5:Hid (K7 wj (w.heap.size+1) ((L.take (i+1)).foldl updD zD)):=by show K7 _ _ _; rw [HST.out]; exact HK4.out
     have HG5:Hid (Gx (w.heap.size+1) w2 wj):=⟨HG4.out.os.trans HG3.out.os,HG4.out.tape.trans HG3.out.tape,HG4.out.output.trans HG3.out.output,Nat.le_trans HG3.out.size HG4.out.size,fun k hk hne=>(HG4.out.block k (Nat.lt_of_lt_of_le hk HG3.out.size) hne).trans (HG3.out.block k hk hne)⟩
     go_wp2_with fail;go_roundg (L.length-i)
     case measure=>omega
     case rel=>exact ⟨i+1,by omega,by omega,by go_num,HG5.out,HK5.out⟩
  ·have hltz:¬ (i:Int)<(L.length:Int):=by omega
   have HKD:Hid (K7 wr (w.heap.size+1) dm):=by
    have h:=HKr.out
    rw [List.take_of_length_le (by omega),HF.out]at h
    exact h
   have HRR:Hid (K7 wr w.heap.size zD):=(HG.out.block w.heap.size HR2.out.cells.2.2 (fun e=>by have:=Option.some.inj e; omega)).trans HR2.out
   have HBR:Hid (Below w.heap.size w wr):=⟨HG.out.os.trans HB2.out.os,HG.out.tape.trans HB2.out.tape,HG.out.output.trans HB2.out.output,Nat.le_trans HB2.out.size HG.out.size,fun k hk=>(HG.out.block k (Nat.lt_of_lt_of_le hk HB2.out.size) (fun e=>by have:=Option.some.inj e; omega)).trans (HB2.out.block k hk)⟩
   obtain ⟨⟨c0,c1,c2,c3,c4,c5,c6⟩,_,_⟩:=HKD.out.cells
   go_wp2_with fail;refine (HDT.out wr).mono ?_
   rintro e w5 ⟨rfl,hb5⟩
   have HB5:=hid (bl_tr HBR.out hb5)
   obtain ⟨⟨y0,y1,y2,y3,y4,y5,y6⟩,_,_⟩:=(HKD.out.reach hb5).cells
   obtain ⟨⟨z0,z1,z2,z3,z4,z5,z6⟩,zf,_⟩:=(HRR.out.reach hb5).cells
   rw [HTX.out];clear hb5 c0 c1 c2 c3 c4 c5 c6;go_wp2_with fail;refine bodyPost_ret (v:=.tuple #[.agg dm.cells,.int .i64 0]) (by simp [results,Tryz.results207,go_sem,Dm.cells,z0,z1,z2,z3,z4,z5,z6]) rfl ⟨rfl,?_⟩
   exact below7 HB5.out (b:=w.heap.size) (Nat.le_refl _) dm
set_option maxRecDepth 100000 in
set_option maxHeartbeats 4000000 in
theorem runit_any (n t:W8)(a b:Int)(dm:Dm)(w:World)(h:ParD t dm):Calls Tryz.prog 180 #[.string ⟨n.toArray⟩,.int .i64 a,.int .i64 b,.string ⟨t.toArray⟩] w fun e w'=>e=.returned (.agg #[.string ⟨n.toArray⟩,.int .i64 a,.int .i64 b,.int .i64 dm.a,.int .i64 dm.b,.int .i64 dm.c,.int .i64 dm.d,.int .i64 dm.e,.int .i64 dm.f,.int .i64 dm.g])∧Below w.heap.size w w':=by
 have HP:=hid fun wz=>rpar_any t dm wz h
 have HB:=hid (b1 w (.cells #[.string ⟨#[]⟩,.int .i64 0,.int .i64 0,.int .i64 0,.int .i64 0,.int .i64 0,.int .i64 0,.int .i64 0,.int .i64 0,.int .i64 0] 175))
 have HZ:Hid ((w.alloc (.cells #[.string ⟨#[]⟩,.int .i64 0,.int .i64 0,.int .i64 0,.int .i64 0,.int .i64 0,.int .i64 0,.int .i64 0,.int .i64 0,.int .i64 0] 175)).heap[w.heap.size]?=some (.cells #[.string ⟨#[]⟩,.int .i64 0,.int .i64 0,.int .i64 0,.int .i64 0,.int .i64 0,.int .i64 0,.int .i64 0,.int .i64 0,.int .i64 0] 175 (0,0))):=heap_alloc_new w _
 unfold Dm.cells at HP;clear h;go_enter Tryz.func180,Tryz.ntmps180;go_upto_region 1 with (fail);generalize w.alloc (.cells #[.string ⟨#[]⟩,.int .i64 0,.int .i64 0,.int .i64 0,.int .i64 0,.int .i64 0,.int .i64 0,.int .i64 0,.int .i64 0,.int .i64 0] 175)=w1 at*;go_wp2_with fail;refine (HP.out w1).mono ?_
 rintro e w2 ⟨rfl,hb2⟩
 have hb3:=bl_tr hb2 (b1 w2 (.cells #[.int .i64 dm.a,.int .i64 dm.b,.int .i64 dm.c,.int .i64 dm.d,.int .i64 dm.e,.int .i64 dm.f,.int .i64 dm.g] 42))
 have HB3:=hid (bl_tr HB.out hb3)
 have HK3:Hid (K7 (w2.alloc (.cells #[.int .i64 dm.a,.int .i64 dm.b,.int .i64 dm.c,.int .i64 dm.d,.int .i64 dm.e,.int .i64 dm.f,.int .i64 dm.g] 42)) w2.heap.size dm):=K7.new w2 dm
 have HZ3:Hid ((w2.alloc (.cells #[.int .i64 dm.a,.int .i64 dm.b,.int .i64 dm.c,.int .i64 dm.d,.int .i64 dm.e,.int .i64 dm.f,.int .i64 dm.g] 42)).heap[w.heap.size]?=some (.cells #[.string ⟨#[]⟩,.int .i64 0,.int .i64 0,.int .i64 0,.int .i64 0,.int .i64 0,.int .i64 0,.int .i64 0,.int .i64 0,.int .i64 0] 175 (0,0))):=(hb3.block _ (Array.getElem?_eq_some_iff.1 HZ.out).1).trans HZ.out
 clear hb2 hb3;go_upto_region 2 with (fail);generalize w2.alloc (.cells #[.int .i64 dm.a,.int .i64 dm.b,.int .i64 dm.c,.int .i64 dm.d,.int .i64 dm.e,.int .i64 dm.f,.int .i64 dm.g] 42)=w5 at*;generalize w2.heap.size=m5 at*;have HB5:=HB3
 obtain ⟨⟨c0,c1,c2,c3,c4,c5,c6⟩,_,_⟩:=HK3.out.cells
 have zf:∀ i,w5.frozen? ⟨w.heap.size,i,none⟩=false:=fun i=>by simp [World.frozen?,HZ3.out]
 have z0:w5.cell? ⟨w.heap.size,0,none⟩=some (.string ⟨#[]⟩):=by simp [World.cell?,HZ3.out]
 have z1:w5.cell? ⟨w.heap.size,1,none⟩=some (.int .i64 0):=by simp [World.cell?,HZ3.out]
 have z2:w5.cell? ⟨w.heap.size,2,none⟩=some (.int .i64 0):=by simp [World.cell?,HZ3.out]
 have z3:w5.cell? ⟨w.heap.size,3,none⟩=some (.int .i64 0):=by simp [World.cell?,HZ3.out]
 have z4:w5.cell? ⟨w.heap.size,4,none⟩=some (.int .i64 0):=by simp [World.cell?,HZ3.out]
 have z5:w5.cell? ⟨w.heap.size,5,none⟩=some (.int .i64 0):=by simp [World.cell?,HZ3.out]
 have z6:w5.cell? ⟨w.heap.size,6,none⟩=some (.int .i64 0):=by simp [World.cell?,HZ3.out]
 have z7:w5.cell? ⟨w.heap.size,7,none⟩=some (.int .i64 0):=by simp [World.cell?,HZ3.out]
 have z8:w5.cell? ⟨w.heap.size,8,none⟩=some (.int .i64 0):=by simp [World.cell?,HZ3.out]
 have z9:w5.cell? ⟨w.heap.size,9,none⟩=some (.int .i64 0):=by simp [World.cell?,HZ3.out]
 go_wp2_with fail;refine bodyPost_ret (v:=.agg #[.string ⟨n.toArray⟩,.int .i64 a,.int .i64 b,.int .i64 dm.a,.int .i64 dm.b,.int .i64 dm.c,.int .i64 dm.d,.int .i64 dm.e,.int .i64 dm.f,.int .i64 dm.g]) (by simp [results,Tryz.results180,go_sem,z0,z1,z2,z3,z4,z5,z6,z7,z8,z9]) rfl ⟨rfl,?_⟩
 exact ((((((((((HB5.out.setCell (p:=⟨w.heap.size,0,none⟩) (Nat.le_refl _) _).setCell (p:=⟨w.heap.size,1,none⟩) (Nat.le_refl _) _).setCell (p:=⟨w.heap.size,2,none⟩) (Nat.le_refl _) _).setCell (p:=⟨w.heap.size,3,none⟩) (Nat.le_refl _) _).setCell (p:=⟨w.heap.size,4,none⟩) (Nat.le_refl _) _).setCell (p:=⟨w.heap.size,5,none⟩) (Nat.le_refl _) _).setCell (p:=⟨w.heap.size,6,none⟩) (Nat.le_refl _) _).setCell (p:=⟨w.heap.size,7,none⟩) (Nat.le_refl _) _).setCell (p:=⟨w.heap.size,8,none⟩) (Nat.le_refl _) _).setCell (p:=⟨w.heap.size,9,none⟩) (Nat.le_refl _) _)
theorem part_0:PartOK ([109],0,1):=⟨⟨[109],[],by decide,by decide,(fun _=>.inl ⟨by decide,rfl⟩)⟩,by decide⟩
theorem part_1:PartOK ([107,103],1,1):=⟨⟨[107,103],[],by decide,by decide,(fun _=>.inl ⟨by decide,rfl⟩)⟩,by decide⟩
theorem part_2:PartOK ([115],2,1):=⟨⟨[115],[],by decide,by decide,(fun _=>.inl ⟨by decide,rfl⟩)⟩,by decide⟩
theorem part_3:PartOK ([65],3,1):=⟨⟨[65],[],by decide,by decide,(fun _=>.inl ⟨by decide,rfl⟩)⟩,by decide⟩
theorem part_4:PartOK ([75],4,1):=⟨⟨[75],[],by decide,by decide,(fun _=>.inl ⟨by decide,rfl⟩)⟩,by decide⟩
theorem part_5:PartOK ([109,111,108],5,1):=⟨⟨[109,111,108],[],by decide,by decide,(fun _=>.inl ⟨by decide,rfl⟩)⟩,by decide⟩
theorem part_6:PartOK ([99,100],6,1):=⟨⟨[99,100],[],by decide,by decide,(fun _=>.inl ⟨by decide,rfl⟩)⟩,by decide⟩
theorem part_7:PartOK ([115,94,45,49],2,(-1)):=⟨⟨[115],[[45,49]],by decide,by decide,(fun _=>.inr ⟨by decide,by kernel_rfl,by decide⟩)⟩,by decide⟩
theorem part_8:PartOK ([115,94,45,50],2,(-2)):=⟨⟨[115],[[45,50]],by decide,by decide,(fun _=>.inr ⟨by decide,by kernel_rfl,by decide⟩)⟩,by decide⟩
theorem part_9:PartOK ([109,94,45,49],0,(-1)):=⟨⟨[109],[[45,49]],by decide,by decide,(fun _=>.inr ⟨by decide,by kernel_rfl,by decide⟩)⟩,by decide⟩
theorem part_10:PartOK ([109,94,50],0,2):=⟨⟨[109],[[50]],by decide,by decide,(fun _=>.inr ⟨by decide,by kernel_rfl,by decide⟩)⟩,by decide⟩
theorem part_11:PartOK ([115,94,45,51],2,(-3)):=⟨⟨[115],[[45,51]],by decide,by decide,(fun _=>.inr ⟨by decide,by kernel_rfl,by decide⟩)⟩,by decide⟩
theorem part_12:PartOK ([65,94,45,49],3,(-1)):=⟨⟨[65],[[45,49]],by decide,by decide,(fun _=>.inr ⟨by decide,by kernel_rfl,by decide⟩)⟩,by decide⟩
theorem part_13:PartOK ([65,94,45,50],3,(-2)):=⟨⟨[65],[[45,50]],by decide,by decide,(fun _=>.inr ⟨by decide,by kernel_rfl,by decide⟩)⟩,by decide⟩
theorem part_14:PartOK ([109,94,51],0,3):=⟨⟨[109],[[51]],by decide,by decide,(fun _=>.inr ⟨by decide,by kernel_rfl,by decide⟩)⟩,by decide⟩
theorem part_15:PartOK ([49],7,1):=⟨⟨[49],[],by decide,by decide,(fun h=>absurd h (by decide))⟩,by decide⟩
theorem par_0:ParD [109] ⟨1,0,0,0,0,0,0⟩ where
 ps:=⟨[([109],0,1)],by decide,fun x hx=>by
  simp only [List.mem_cons,List.not_mem_nil,or_false]at hx
  rcases hx with rfl
  ·exact part_0,by decide,by decide⟩
 tx:=by kernel_rfl
 ln:=by decide
theorem par_1:ParD [107,103] ⟨0,1,0,0,0,0,0⟩ where
 ps:=⟨[([107,103],1,1)],by decide,fun x hx=>by
  simp only [List.mem_cons,List.not_mem_nil,or_false]at hx
  rcases hx with rfl
  ·exact part_1,by decide,by decide⟩
 tx:=by kernel_rfl
 ln:=by decide
theorem par_2:ParD [115] ⟨0,0,1,0,0,0,0⟩ where
 ps:=⟨[([115],2,1)],by decide,fun x hx=>by
  simp only [List.mem_cons,List.not_mem_nil,or_false]at hx
  rcases hx with rfl
  ·exact part_2,by decide,by decide⟩
 tx:=by kernel_rfl
 ln:=by decide
theorem par_3:ParD [65] ⟨0,0,0,1,0,0,0⟩ where
 ps:=⟨[([65],3,1)],by decide,fun x hx=>by
  simp only [List.mem_cons,List.not_mem_nil,or_false]at hx
  rcases hx with rfl
  ·exact part_3,by decide,by decide⟩
 tx:=by kernel_rfl
 ln:=by decide
theorem par_4:ParD [75] ⟨0,0,0,0,1,0,0⟩ where
 ps:=⟨[([75],4,1)],by decide,fun x hx=>by
  simp only [List.mem_cons,List.not_mem_nil,or_false]at hx
  rcases hx with rfl
  ·exact part_4,by decide,by decide⟩
 tx:=by kernel_rfl
 ln:=by decide
theorem par_5:ParD [109,111,108] ⟨0,0,0,0,0,1,0⟩ where
 ps:=⟨[([109,111,108],5,1)],by decide,fun x hx=>by
  simp only [List.mem_cons,List.not_mem_nil,or_false]at hx
  rcases hx with rfl
  ·exact part_5,by decide,by decide⟩
 tx:=by kernel_rfl
 ln:=by decide
theorem par_6:ParD [99,100] ⟨0,0,0,0,0,0,1⟩ where
 ps:=⟨[([99,100],6,1)],by decide,fun x hx=>by
  simp only [List.mem_cons,List.not_mem_nil,or_false]at hx
  rcases hx with rfl
  ·exact part_6,by decide,by decide⟩
 tx:=by kernel_rfl
 ln:=by decide
theorem par_7:ParD [115,94,45,49] ⟨0,0,-1,0,0,0,0⟩ where
 ps:=⟨[([115,94,45,49],2,(-1))],by decide,fun x hx=>by
  simp only [List.mem_cons,List.not_mem_nil,or_false]at hx
  rcases hx with rfl
  ·exact part_7,by decide,by decide⟩
 tx:=by kernel_rfl
 ln:=by decide
theorem par_8:ParD [109,32,107,103,32,115,94,45,50] ⟨1,1,-2,0,0,0,0⟩ where
 ps:=⟨[([109],0,1),([107,103],1,1),([115,94,45,50],2,(-2))],by decide,fun x hx=>by
  simp only [List.mem_cons,List.not_mem_nil,or_false]at hx
  rcases hx with rfl|rfl|rfl
  ·exact part_0
  ·exact part_1
  ·exact part_8,by decide,by decide⟩
 tx:=by kernel_rfl
 ln:=by decide
theorem par_9:ParD [109,94,45,49,32,107,103,32,115,94,45,50] ⟨-1,1,-2,0,0,0,0⟩ where
 ps:=⟨[([109,94,45,49],0,(-1)),([107,103],1,1),([115,94,45,50],2,(-2))],by decide,fun x hx=>by
  simp only [List.mem_cons,List.not_mem_nil,or_false]at hx
  rcases hx with rfl|rfl|rfl
  ·exact part_9
  ·exact part_1
  ·exact part_8,by decide,by decide⟩
 tx:=by kernel_rfl
 ln:=by decide
theorem par_10:ParD [109,94,50,32,107,103,32,115,94,45,50] ⟨2,1,-2,0,0,0,0⟩ where
 ps:=⟨[([109,94,50],0,2),([107,103],1,1),([115,94,45,50],2,(-2))],by decide,fun x hx=>by
  simp only [List.mem_cons,List.not_mem_nil,or_false]at hx
  rcases hx with rfl|rfl|rfl
  ·exact part_10
  ·exact part_1
  ·exact part_8,by decide,by decide⟩
 tx:=by kernel_rfl
 ln:=by decide
theorem par_11:ParD [109,94,50,32,107,103,32,115,94,45,51] ⟨2,1,-3,0,0,0,0⟩ where
 ps:=⟨[([109,94,50],0,2),([107,103],1,1),([115,94,45,51],2,(-3))],by decide,fun x hx=>by
  simp only [List.mem_cons,List.not_mem_nil,or_false]at hx
  rcases hx with rfl|rfl|rfl
  ·exact part_10
  ·exact part_1
  ·exact part_11,by decide,by decide⟩
 tx:=by kernel_rfl
 ln:=by decide
theorem par_12:ParD [115,32,65] ⟨0,0,1,1,0,0,0⟩ where
 ps:=⟨[([115],2,1),([65],3,1)],by decide,fun x hx=>by
  simp only [List.mem_cons,List.not_mem_nil,or_false]at hx
  rcases hx with rfl|rfl
  ·exact part_2
  ·exact part_3,by decide,by decide⟩
 tx:=by kernel_rfl
 ln:=by decide
theorem par_13:ParD [109,94,50,32,107,103,32,115,94,45,51,32,65,94,45,49] ⟨2,1,-3,-1,0,0,0⟩ where
 ps:=⟨[([109,94,50],0,2),([107,103],1,1),([115,94,45,51],2,(-3)),([65,94,45,49],3,(-1))],by decide,fun x hx=>by
  simp only [List.mem_cons,List.not_mem_nil,or_false]at hx
  rcases hx with rfl|rfl|rfl|rfl
  ·exact part_10
  ·exact part_1
  ·exact part_11
  ·exact part_12,by decide,by decide⟩
 tx:=by kernel_rfl
 ln:=by decide
theorem par_14:ParD [109,94,50,32,107,103,32,115,94,45,51,32,65,94,45,50] ⟨2,1,-3,-2,0,0,0⟩ where
 ps:=⟨[([109,94,50],0,2),([107,103],1,1),([115,94,45,51],2,(-3)),([65,94,45,50],3,(-2))],by decide,fun x hx=>by
  simp only [List.mem_cons,List.not_mem_nil,or_false]at hx
  rcases hx with rfl|rfl|rfl|rfl
  ·exact part_10
  ·exact part_1
  ·exact part_11
  ·exact part_13,by decide,by decide⟩
 tx:=by kernel_rfl
 ln:=by decide
theorem par_15:ParD [109,94,51] ⟨3,0,0,0,0,0,0⟩ where
 ps:=⟨[([109,94,51],0,3)],by decide,fun x hx=>by
  simp only [List.mem_cons,List.not_mem_nil,or_false]at hx
  rcases hx with rfl
  ·exact part_14,by decide,by decide⟩
 tx:=by kernel_rfl
 ln:=by decide
theorem par_16:ParD [49] ⟨0,0,0,0,0,0,0⟩ where
 ps:=⟨[([49],7,1)],by decide,fun x hx=>by
  simp only [List.mem_cons,List.not_mem_nil,or_false]at hx
  rcases hx with rfl
  ·exact part_15,by decide,by decide⟩
 tx:=by kernel_rfl
 ln:=by decide
theorem par_base {i:Nat}(h:i<7):ParD (baseL[i]'h) (zD.put i 1):=by
 rcases seven h with rfl|rfl|rfl|rfl|rfl|rfl|rfl
 ·exact par_0
 ·exact par_1
 ·exact par_2
 ·exact par_3
 ·exact par_4
 ·exact par_5
 ·exact par_6
def U20:List (W8 × V):=unitTab.drop 7
def UL (w:World) (B:Nat) (v:Value)(l:List (W8 × V)):Prop:=w.ownsRow B 175 10 v l.length (l.flatMap unitCells)
theorem unit_info2:(Tryz.prog.info? 175).map (fun i=>(i.zero,i.size,i.bytes))=some (some (.agg #[.string ⟨#[]⟩,.int .i64 0,.int .i64 0,.int .i64 0,.int .i64 0,.int .i64 0,.int .i64 0,.int .i64 0,.int .i64 0,.int .i64 0]),10,88):=by kernel_rfl
theorem ucells_len (l:List (W8 × V)):(l.flatMap unitCells).length=l.length*10:=by
 induction l with
 | nil=>rfl
 | cons x l ih=>rw [List.flatMap_cons,List.length_append,ih,List.length_cons]; show 10+_=_; omega
theorem unit_ones (l:List (W8 × V)):∀ u∈l.flatMap unitCells,u.oneCell'=true:=fun u hu=>by
 obtain ⟨x,_,hx⟩:=List.mem_flatMap.1 hu
 simp [unitCells,V.cells]at hx
 rcases hx with rfl|rfl|rfl|rfl|rfl|rfl|rfl|rfl|rfl|rfl<;>rfl
theorem UL.cells {w:World}{B:Nat}{v:Value}{l:List (W8 × V)}(h:UL w B v l)(hne:l≠[]):∃ g cap,v=.slice (some ⟨g,0,none⟩) l.length cap∧g<w.heap.size∧B≤g∧∀ (i:Nat)(x:W8)(y:V),l[i]?=some (x,y)→w.cell? ⟨g,i*10,none⟩=some (.string ⟨x.toArray⟩)∧C9 w g (i*10+1) y:=by
 rcases h.2 with ⟨_,hz⟩|⟨g,cap,cur,h0,h1,h2,h3,h4,h5,h6⟩
 ·exact absurd (List.eq_nil_of_length_eq_zero hz) hne
 ·refine ⟨g,cap,h0,(Array.getElem?_eq_some_iff.1 h2).1,h1,fun i x y hx=>?_⟩
  have hc:∀ (j:Nat) (u:Value),(unitCells (x,y))[j]?=some u→w.cell? ⟨g,i*10+j,none⟩=some u:=fun j u hu=>by
   have e1:=cells_at l i (x,y) hx j u hu
   have hlt:=(List.getElem?_eq_some_iff.1 e1).1
   rw [ucells_len]at hlt
   rw [← h6,List.getElem?_take_of_lt hlt]at e1
   simp only [World.cell?,h2,Option.isSome_none,Bool.false_eq_true,if_false];rw [← Array.getElem?_toList,e1]
  exact ⟨hc 0 _ rfl,⟨hc 1 _ rfl,hc 2 _ rfl⟩,hc 3 _ rfl,hc 4 _ rfl,hc 5 _ rfl,hc 6 _ rfl,hc 7 _ rfl,hc 8 _ rfl,hc 9 _ rfl⟩
theorem UL.reach {w w':World}{B:Nat}{v:Value}{l:List (W8 × V)}(h:UL w B v l)(hb:Below w.heap.size w w'):UL w' B v l:=World.ownsRow.kept h (gb_below (row:=none) hb) (by cases v.ownBlock<;>simp)
theorem gb_low {w0 w w':World}{v:Value}{l:List (W8 × V)}(hb:Below w0.heap.size w0 w)(h:UL w w0.heap.size v l)(hg:w.grownBy w' v.ownBlock):Below w0.heap.size w0 w':=
 ⟨hg.os.trans hb.os,hg.tape.trans hb.tape,hg.output.trans hb.output,Nat.le_trans hb.size hg.size,fun k hk=>(hg.block k (Nat.lt_of_lt_of_le hk hb.size) (fun e=>by have:=(World.ownsRow.lt h k e.symm).1; omega)).trans (hb.block k hk)⟩
set_option maxRecDepth 100000 in
set_option maxHeartbeats 4000000 in
theorem all138 (w:World):Calls Tryz.prog 138 #[] w fun e w'=>∃ v,e=.returned v∧UL w' w.heap.size v unitTab∧Below w.heap.size w w':=by
 have HBS:=hid fun wz=>bases_any wz
 have HU0:Hid (∀ wz:World,Calls Tryz.prog 180 #[.string ⟨#[107,109]⟩,.int .i64 1000,.int .i64 1,.string ⟨#[109]⟩] wz fun e w'=>e=.returned (.agg #[.string ⟨#[107,109]⟩,.int .i64 1000,.int .i64 1,.int .i64 1,.int .i64 0,.int .i64 0,.int .i64 0,.int .i64 0,.int .i64 0,.int .i64 0])∧Below wz.heap.size wz w'):=fun wz=>runit_any [107,109] [109] 1000 1 ⟨1,0,0,0,0,0,0⟩ wz par_0
 have HU1:Hid (∀ wz:World,Calls Tryz.prog 180 #[.string ⟨#[99,109]⟩,.int .i64 1,.int .i64 100,.string ⟨#[109]⟩] wz fun e w'=>e=.returned (.agg #[.string ⟨#[99,109]⟩,.int .i64 1,.int .i64 100,.int .i64 1,.int .i64 0,.int .i64 0,.int .i64 0,.int .i64 0,.int .i64 0,.int .i64 0])∧Below wz.heap.size wz w'):=fun wz=>runit_any [99,109] [109] 1 100 ⟨1,0,0,0,0,0,0⟩ wz par_0
 have HU2:Hid (∀ wz:World,Calls Tryz.prog 180 #[.string ⟨#[109,109]⟩,.int .i64 1,.int .i64 1000,.string ⟨#[109]⟩] wz fun e w'=>e=.returned (.agg #[.string ⟨#[109,109]⟩,.int .i64 1,.int .i64 1000,.int .i64 1,.int .i64 0,.int .i64 0,.int .i64 0,.int .i64 0,.int .i64 0,.int .i64 0])∧Below wz.heap.size wz w'):=fun wz=>runit_any [109,109] [109] 1 1000 ⟨1,0,0,0,0,0,0⟩ wz par_0
 have HU3:Hid (∀ wz:World,Calls Tryz.prog 180 #[.string ⟨#[103]⟩,.int .i64 1,.int .i64 1000,.string ⟨#[107,103]⟩] wz fun e w'=>e=.returned (.agg #[.string ⟨#[103]⟩,.int .i64 1,.int .i64 1000,.int .i64 0,.int .i64 1,.int .i64 0,.int .i64 0,.int .i64 0,.int .i64 0,.int .i64 0])∧Below wz.heap.size wz w'):=fun wz=>runit_any [103] [107,103] 1 1000 ⟨0,1,0,0,0,0,0⟩ wz par_1
 have HU4:Hid (∀ wz:World,Calls Tryz.prog 180 #[.string ⟨#[116]⟩,.int .i64 1000,.int .i64 1,.string ⟨#[107,103]⟩] wz fun e w'=>e=.returned (.agg #[.string ⟨#[116]⟩,.int .i64 1000,.int .i64 1,.int .i64 0,.int .i64 1,.int .i64 0,.int .i64 0,.int .i64 0,.int .i64 0,.int .i64 0])∧Below wz.heap.size wz w'):=fun wz=>runit_any [116] [107,103] 1000 1 ⟨0,1,0,0,0,0,0⟩ wz par_1
 have HU5:Hid (∀ wz:World,Calls Tryz.prog 180 #[.string ⟨#[109,115]⟩,.int .i64 1,.int .i64 1000,.string ⟨#[115]⟩] wz fun e w'=>e=.returned (.agg #[.string ⟨#[109,115]⟩,.int .i64 1,.int .i64 1000,.int .i64 0,.int .i64 0,.int .i64 1,.int .i64 0,.int .i64 0,.int .i64 0,.int .i64 0])∧Below wz.heap.size wz w'):=fun wz=>runit_any [109,115] [115] 1 1000 ⟨0,0,1,0,0,0,0⟩ wz par_2
 have HU6:Hid (∀ wz:World,Calls Tryz.prog 180 #[.string ⟨#[109,105,110]⟩,.int .i64 60,.int .i64 1,.string ⟨#[115]⟩] wz fun e w'=>e=.returned (.agg #[.string ⟨#[109,105,110]⟩,.int .i64 60,.int .i64 1,.int .i64 0,.int .i64 0,.int .i64 1,.int .i64 0,.int .i64 0,.int .i64 0,.int .i64 0])∧Below wz.heap.size wz w'):=fun wz=>runit_any [109,105,110] [115] 60 1 ⟨0,0,1,0,0,0,0⟩ wz par_2
 have HU7:Hid (∀ wz:World,Calls Tryz.prog 180 #[.string ⟨#[104]⟩,.int .i64 3600,.int .i64 1,.string ⟨#[115]⟩] wz fun e w'=>e=.returned (.agg #[.string ⟨#[104]⟩,.int .i64 3600,.int .i64 1,.int .i64 0,.int .i64 0,.int .i64 1,.int .i64 0,.int .i64 0,.int .i64 0,.int .i64 0])∧Below wz.heap.size wz w'):=fun wz=>runit_any [104] [115] 3600 1 ⟨0,0,1,0,0,0,0⟩ wz par_2
 have HU8:Hid (∀ wz:World,Calls Tryz.prog 180 #[.string ⟨#[100]⟩,.int .i64 86400,.int .i64 1,.string ⟨#[115]⟩] wz fun e w'=>e=.returned (.agg #[.string ⟨#[100]⟩,.int .i64 86400,.int .i64 1,.int .i64 0,.int .i64 0,.int .i64 1,.int .i64 0,.int .i64 0,.int .i64 0,.int .i64 0])∧Below wz.heap.size wz w'):=fun wz=>runit_any [100] [115] 86400 1 ⟨0,0,1,0,0,0,0⟩ wz par_2
 have HU9:Hid (∀ wz:World,Calls Tryz.prog 180 #[.string ⟨#[72,122]⟩,.int .i64 1,.int .i64 1,.string ⟨#[115,94,45,49]⟩] wz fun e w'=>e=.returned (.agg #[.string ⟨#[72,122]⟩,.int .i64 1,.int .i64 1,.int .i64 0,.int .i64 0,.int .i64 (-1),.int .i64 0,.int .i64 0,.int .i64 0,.int .i64 0])∧Below wz.heap.size wz w'):=fun wz=>runit_any [72,122] [115,94,45,49] 1 1 ⟨0,0,-1,0,0,0,0⟩ wz par_7
 have HU10:Hid (∀ wz:World,Calls Tryz.prog 180 #[.string ⟨#[78]⟩,.int .i64 1,.int .i64 1,.string ⟨#[109,32,107,103,32,115,94,45,50]⟩] wz fun e w'=>e=.returned (.agg #[.string ⟨#[78]⟩,.int .i64 1,.int .i64 1,.int .i64 1,.int .i64 1,.int .i64 (-2),.int .i64 0,.int .i64 0,.int .i64 0,.int .i64 0])∧Below wz.heap.size wz w'):=fun wz=>runit_any [78] [109,32,107,103,32,115,94,45,50] 1 1 ⟨1,1,-2,0,0,0,0⟩ wz par_8
 have HU11:Hid (∀ wz:World,Calls Tryz.prog 180 #[.string ⟨#[80,97]⟩,.int .i64 1,.int .i64 1,.string ⟨#[109,94,45,49,32,107,103,32,115,94,45,50]⟩] wz fun e w'=>e=.returned (.agg #[.string ⟨#[80,97]⟩,.int .i64 1,.int .i64 1,.int .i64 (-1),.int .i64 1,.int .i64 (-2),.int .i64 0,.int .i64 0,.int .i64 0,.int .i64 0])∧Below wz.heap.size wz w'):=fun wz=>runit_any [80,97] [109,94,45,49,32,107,103,32,115,94,45,50] 1 1 ⟨-1,1,-2,0,0,0,0⟩ wz par_9
 have HU12:Hid (∀ wz:World,Calls Tryz.prog 180 #[.string ⟨#[74]⟩,.int .i64 1,.int .i64 1,.string ⟨#[109,94,50,32,107,103,32,115,94,45,50]⟩] wz fun e w'=>e=.returned (.agg #[.string ⟨#[74]⟩,.int .i64 1,.int .i64 1,.int .i64 2,.int .i64 1,.int .i64 (-2),.int .i64 0,.int .i64 0,.int .i64 0,.int .i64 0])∧Below wz.heap.size wz w'):=fun wz=>runit_any [74] [109,94,50,32,107,103,32,115,94,45,50] 1 1 ⟨2,1,-2,0,0,0,0⟩ wz par_10
 have HU13:Hid (∀ wz:World,Calls Tryz.prog 180 #[.string ⟨#[87]⟩,.int .i64 1,.int .i64 1,.string ⟨#[109,94,50,32,107,103,32,115,94,45,51]⟩] wz fun e w'=>e=.returned (.agg #[.string ⟨#[87]⟩,.int .i64 1,.int .i64 1,.int .i64 2,.int .i64 1,.int .i64 (-3),.int .i64 0,.int .i64 0,.int .i64 0,.int .i64 0])∧Below wz.heap.size wz w'):=fun wz=>runit_any [87] [109,94,50,32,107,103,32,115,94,45,51] 1 1 ⟨2,1,-3,0,0,0,0⟩ wz par_11
 have HU14:Hid (∀ wz:World,Calls Tryz.prog 180 #[.string ⟨#[67]⟩,.int .i64 1,.int .i64 1,.string ⟨#[115,32,65]⟩] wz fun e w'=>e=.returned (.agg #[.string ⟨#[67]⟩,.int .i64 1,.int .i64 1,.int .i64 0,.int .i64 0,.int .i64 1,.int .i64 1,.int .i64 0,.int .i64 0,.int .i64 0])∧Below wz.heap.size wz w'):=fun wz=>runit_any [67] [115,32,65] 1 1 ⟨0,0,1,1,0,0,0⟩ wz par_12
 have HU15:Hid (∀ wz:World,Calls Tryz.prog 180 #[.string ⟨#[86]⟩,.int .i64 1,.int .i64 1,.string ⟨#[109,94,50,32,107,103,32,115,94,45,51,32,65,94,45,49]⟩] wz fun e w'=>e=.returned (.agg #[.string ⟨#[86]⟩,.int .i64 1,.int .i64 1,.int .i64 2,.int .i64 1,.int .i64 (-3),.int .i64 (-1),.int .i64 0,.int .i64 0,.int .i64 0])∧Below wz.heap.size wz w'):=fun wz=>runit_any [86] [109,94,50,32,107,103,32,115,94,45,51,32,65,94,45,49] 1 1 ⟨2,1,-3,-1,0,0,0⟩ wz par_13
 have HU16:Hid (∀ wz:World,Calls Tryz.prog 180 #[.string ⟨#[111,104,109]⟩,.int .i64 1,.int .i64 1,.string ⟨#[109,94,50,32,107,103,32,115,94,45,51,32,65,94,45,50]⟩] wz fun e w'=>e=.returned (.agg #[.string ⟨#[111,104,109]⟩,.int .i64 1,.int .i64 1,.int .i64 2,.int .i64 1,.int .i64 (-3),.int .i64 (-2),.int .i64 0,.int .i64 0,.int .i64 0])∧Below wz.heap.size wz w'):=fun wz=>runit_any [111,104,109] [109,94,50,32,107,103,32,115,94,45,51,32,65,94,45,50] 1 1 ⟨2,1,-3,-2,0,0,0⟩ wz par_14
 have HU17:Hid (∀ wz:World,Calls Tryz.prog 180 #[.string ⟨#[107,87,104]⟩,.int .i64 3600000,.int .i64 1,.string ⟨#[109,94,50,32,107,103,32,115,94,45,50]⟩] wz fun e w'=>e=.returned (.agg #[.string ⟨#[107,87,104]⟩,.int .i64 3600000,.int .i64 1,.int .i64 2,.int .i64 1,.int .i64 (-2),.int .i64 0,.int .i64 0,.int .i64 0,.int .i64 0])∧Below wz.heap.size wz w'):=fun wz=>runit_any [107,87,104] [109,94,50,32,107,103,32,115,94,45,50] 3600000 1 ⟨2,1,-2,0,0,0,0⟩ wz par_10
 have HU18:Hid (∀ wz:World,Calls Tryz.prog 180 #[.string ⟨#[108]⟩,.int .i64 1,.int .i64 1000,.string ⟨#[109,94,51]⟩] wz fun e w'=>e=.returned (.agg #[.string ⟨#[108]⟩,.int .i64 1,.int .i64 1000,.int .i64 3,.int .i64 0,.int .i64 0,.int .i64 0,.int .i64 0,.int .i64 0,.int .i64 0])∧Below wz.heap.size wz w'):=fun wz=>runit_any [108] [109,94,51] 1 1000 ⟨3,0,0,0,0,0,0⟩ wz par_15
 have HU19:Hid (∀ wz:World,Calls Tryz.prog 180 #[.string ⟨#[37]⟩,.int .i64 1,.int .i64 100,.string ⟨#[49]⟩] wz fun e w'=>e=.returned (.agg #[.string ⟨#[37]⟩,.int .i64 1,.int .i64 100,.int .i64 0,.int .i64 0,.int .i64 0,.int .i64 0,.int .i64 0,.int .i64 0,.int .i64 0])∧Below wz.heap.size wz w'):=fun wz=>runit_any [37] [49] 1 100 ⟨0,0,0,0,0,0,0⟩ wz par_16
 have HPB:=hid fun (i:Nat)(h:i<7)=>par_base h
 obtain ⟨i0,hi0,hz0,hz1,hz2⟩:=info_parts unit_info2
 go_enter Tryz.func138,Tryz.ntmps138;go_wp2_with fail;go_loopg [1,2] 8 (fun gg s1 s2 wr=>∃ (i:Nat) (vq:Value),i≤7∧7-i<gg∧vq=s1∧s2=.int .i64 (i:Int)∧Aside (UL wr w.heap.size vq (unitTab.take i))∧Aside (Below w.heap.size w wr))
 case atStart=>exact ⟨0,_,by omega,by omega,rfl,rfl,World.ownsRow_nil _ _ _ _,Below.refl _ _⟩
 case round=>
  obtain ⟨i,vq,hi,hgg,rfl,rfl,HR,HB⟩:=hrel
  by_cases hlt:i<7
  ·have hltz:(i:Int)<7:=by omega
   have hiz:(0:Int)≤(i:Int):=Int.natCast_nonneg i
   have hix:=fun w=>base_ix hlt w
   have HUN:Hid (∀ wz:World,Calls Tryz.prog 180 #[.string ⟨(baseL[i]'hlt).toArray⟩,.int .i64 1,.int .i64 1,.string ⟨(baseL[i]'hlt).toArray⟩] wz fun e w'=>e=.returned (.agg #[.string ⟨(baseL[i]'hlt).toArray⟩,.int .i64 1,.int .i64 1,.int .i64 (zD.put i 1).a,.int .i64 (zD.put i 1).b,.int .i64 (zD.put i 1).c,.int .i64 (zD.put i 1).d,.int .i64 (zD.put i 1).e,.int .i64 (zD.put i 1).f,.int .i64 (zD.put i 1).g])∧Below wz.heap.size wz w'):=fun wz=>runit_any _ _ 1 1 _ wz (HPB.out i hlt)
   have HTK:Hid (unitTab.take i++[(baseL[i]'hlt,(⟨1,1,zD.put i 1⟩:V))]=unitTab.take (i+1)):=by
    show _=_
    rcases seven hlt with rfl|rfl|rfl|rfl|rfl|rfl|rfl<;>rfl
   have HLN:Hid ((unitTab.take i).length=i):=by
    show _=_
    rw [List.length_take];have:unitTab.length=27:=rfl
    omega
   generalize baseL[i]'hlt=nm at*;generalize zD.put i 1=dm at*;generalize unitTab.take i=l at*;go_upto_region 5 with (fail)
   ·refine wp_region_noPanic ?_
    refine wp_region_J 10 (fun _=>True) (by kernel_rfl) ?_
    have HRD:Hid (UL wr.drew w.heap.size vq l):=HR.out.reach (bl_dr (Below.refl _ _))
    have HBD:Hid (Below w.heap.size w wr.drew):=bl_dr HB.out
    generalize wr.drew=wd at*;simp only [List.size_toArray,List.length_cons,List.length_nil,Nat.zero_add,Nat.reduceAdd];refine wpAnyJ_free (i:=0) (v:=?vq0) rfl (by kernel_rfl) (by kernel_rfl) (by kernel_rfl) (by kernel_rfl) (fun _ _ _ h=>h) (Or.inl ⟨by rfl,?hq0⟩) trivial ?rq0
    case hq0=>(intro w' _; go_simp; all_goals with_reducible rfl)
    try dsimp only [Act.put]
    refine wpAnyJ_free (i:=2) (v:=?vq2) rfl (by kernel_rfl) (by kernel_rfl) (by kernel_rfl) (by kernel_rfl) (fun _ _ _ h=>h) (Or.inl ⟨by rfl,?hq2⟩) trivial ?rq2
    case hq2=>(intro w' _; go_simp; all_goals with_reducible rfl)
    try dsimp only [Act.put]
    refine wpAnyJ_free (i:=5) (v:=?vq5) rfl (by kernel_rfl) (by kernel_rfl) (by kernel_rfl) (by kernel_rfl) (fun _ _ _ h=>h) (Or.inl ⟨by rfl,?hq5⟩) trivial ?rq5
    case hq5=>(intro w' _; go_simp; all_goals with_reducible rfl)
    try dsimp only [Act.put]
    refine wpAnyJ_one (i:=1) (by kernel_rfl) rfl ?_
    intro K hK;go_simp
    go_wp2_with (go_at_call 101; (refine (HBS.out _).mono ?_); rintro e wa ⟨rfl,hba⟩)
    have HRA:=hid (HRD.out.reach hba)
    have HBA:=hid (bl_tr HBD.out hba)
    refine hK.out _ _ (fun _=>trivial) ?_
    clear hK K hba;refine wpAnyJ_free (i:=3) (v:=?vq3) rfl (by kernel_rfl) (by kernel_rfl) (by kernel_rfl) (by kernel_rfl) (fun _ _ _ h=>h) (Or.inl ⟨by rfl,?hq3⟩) trivial ?rq3
    case hq3=>(intro w' _; go_simp; all_goals with_reducible rfl)
    try dsimp only [Act.put]
    refine wpAnyJ_one (i:=4) (by kernel_rfl) rfl ?_
    intro K hK;go_simp
    go_wp2_with (go_at_call 101; (refine (HBS.out _).mono ?_); rintro e wb ⟨rfl,hba⟩)
    have HRB:=hid (HRA.out.reach hba)
    have HBB:=hid (bl_tr HBA.out hba)
    refine hK.out _ _ (fun _=>trivial) ?_
    clear hK K hba;refine wpAnyJ_free (i:=6) (v:=?vq6) rfl (by kernel_rfl) (by kernel_rfl) (by kernel_rfl) (by kernel_rfl) (fun _ _ _ h=>h) (Or.inl ⟨by rfl,?hq6⟩) trivial ?rq6
    case hq6=>(intro w' _; go_simp; all_goals with_reducible rfl)
    try dsimp only [Act.put]
    refine wpAnyJ_one (i:=7) (by kernel_rfl) rfl ?_
    intro K hK;go_simp
    go_wp2_with (go_at_call 180; (refine (HUN.out _).mono ?_); rintro e wc ⟨rfl,hba⟩)
    have HRC:=hid (HRB.out.reach hba)
    have HBC:=hid (bl_tr HBB.out hba)
    refine hK.out _ _ (fun _=>trivial) ?_
    clear hK K hba;refine wpAnyJ_one (i:=8) (by kernel_rfl) rfl ?_
    intro K hK;go_simp
    have hba:=b1 wc (.cells #[.string ⟨nm.toArray⟩,.int .i64 1,.int .i64 1,.int .i64 dm.a,.int .i64 dm.b,.int .i64 dm.c,.int .i64 dm.d,.int .i64 dm.e,.int .i64 dm.f,.int .i64 dm.g] 175)
    have HRE:=hid (HRC.out.reach hba)
    have HBE:=hid (bl_tr HBC.out hba)
    have HNW:=hid (heap_alloc_new wc (.cells #[.string ⟨nm.toArray⟩,.int .i64 1,.int .i64 1,.int .i64 dm.a,.int .i64 dm.b,.int .i64 dm.c,.int .i64 dm.d,.int .i64 dm.e,.int .i64 dm.f,.int .i64 dm.g] 175))
    refine hK.out _ _ (fun _=>trivial) ?_
    clear hK K hba;generalize hwe:wc.alloc (.cells #[.string ⟨nm.toArray⟩,.int .i64 1,.int .i64 1,.int .i64 dm.a,.int .i64 dm.b,.int .i64 dm.c,.int .i64 dm.d,.int .i64 dm.e,.int .i64 dm.f,.int .i64 dm.g] 175)=we at*;clear hwe;refine wpAnyJ_one (i:=9) (by kernel_rfl) rfl ?_
    intro K hK;refine step_append_lies _ rfl _ _ 173 rfl w.heap.size 175 i0 _ 10 88 Tryz.underlying173 hi0 hz0 hz1 hz2 rfl (by decide) vq l.length (l.flatMap unitCells) rfl HRE.out ⟨wc.heap.size,0,none⟩ 1 1 (unitCells (nm,⟨1,1,dm⟩)) rfl rfl ?_ ?_ (by decide) (by have:=HLN.out; unfold maxLen; omega) (by have:=HLN.out; omega) HBE.out.size _ rfl ?_
    ·intro j u hu
     have hj:((#[.string ⟨nm.toArray⟩,.int .i64 1,.int .i64 1,.int .i64 dm.a,.int .i64 dm.b,.int .i64 dm.c,.int .i64 dm.d,.int .i64 dm.e,.int .i64 dm.f,.int .i64 dm.g]:Array Value).toList)[j]?=some u:=hu
     simp only [addr_addF,World.cell?,HNW.out,Option.isSome_none,Bool.false_eq_true,if_false,Nat.zero_add];rw [← Array.getElem?_toList];exact hj
    ·intro u hu
     exact unit_ones [(nm,⟨1,1,dm⟩)] u (by rw [List.flatMap_cons,List.flatMap_nil,List.append_nil]; exact hu)
    intro g7 cap7 wf hrow hgr hat hlt9
    have HRF:Hid (UL wf w.heap.size (.slice (some ⟨g7,0,none⟩) (l.length+1) cap7) (l++[(nm,⟨1,1,dm⟩)])):=by
     show World.ownsRow _ _ _ _ _ _ _
     rw [List.length_append,List.flatMap_append,List.flatMap_cons,List.flatMap_nil,List.append_nil];exact hrow
    have HBF:=hid (gb_low HBE.out HRE.out hgr)
    refine hK.out _ _ (fun _=>trivial) ?_
    clear hK K hrow hgr hat hlt9;refine wpAnyJ_one (i:=10) (by kernel_rfl) rfl ?_
    intro K hK;go_simp
    refine hK.out _ _ (fun _=>trivial) ?_
    clear hK K;refine wpAnyJ_done (by kernel_rfl) ?_
    refine NoPanic.normal ?_
    go_wp2_with fail;go_roundg (7-i)
    case measure=>omega
    case rel=>exact ⟨i+1,_,by omega,by omega,rfl,by go_num,by show UL _ _ _ _; rw [← HTK.out]; exact HRF.out,HBF.out⟩
  ·have hltz:¬ (i:Int)<7:=by omega
   obtain rfl:i=7:=by omega
   have HR2:=HR
   have HB2:=HB
   rename World=>w2
   clear HR HB;go_wp2_with fail;refine (HU0.out w2).mono ?_
   rintro r x0 ⟨rfl,hbk⟩
   have HBX0:=hid (bl_tr HB2.out hbk)
   have HRX0:=hid (HR2.out.reach hbk)
   clear hbk HU0;go_wp2_with fail;refine (HU1.out x0).mono ?_
   rintro r x1 ⟨rfl,hbk⟩
   have HBX1:=hid (bl_tr HBX0.out hbk)
   have HRX1:=hid (HRX0.out.reach hbk)
   clear hbk HU1 HBX0 HRX0;go_wp2_with fail;refine (HU2.out x1).mono ?_
   rintro r x2 ⟨rfl,hbk⟩
   have HBX2:=hid (bl_tr HBX1.out hbk)
   have HRX2:=hid (HRX1.out.reach hbk)
   clear hbk HU2 HBX1 HRX1;go_wp2_with fail;refine (HU3.out x2).mono ?_
   rintro r x3 ⟨rfl,hbk⟩
   have HBX3:=hid (bl_tr HBX2.out hbk)
   have HRX3:=hid (HRX2.out.reach hbk)
   clear hbk HU3 HBX2 HRX2;go_wp2_with fail;refine (HU4.out x3).mono ?_
   rintro r x4 ⟨rfl,hbk⟩
   have HBX4:=hid (bl_tr HBX3.out hbk)
   have HRX4:=hid (HRX3.out.reach hbk)
   clear hbk HU4 HBX3 HRX3;go_wp2_with fail;refine (HU5.out x4).mono ?_
   rintro r x5 ⟨rfl,hbk⟩
   have HBX5:=hid (bl_tr HBX4.out hbk)
   have HRX5:=hid (HRX4.out.reach hbk)
   clear hbk HU5 HBX4 HRX4;go_wp2_with fail;refine (HU6.out x5).mono ?_
   rintro r x6 ⟨rfl,hbk⟩
   have HBX6:=hid (bl_tr HBX5.out hbk)
   have HRX6:=hid (HRX5.out.reach hbk)
   clear hbk HU6 HBX5 HRX5;go_wp2_with fail;refine (HU7.out x6).mono ?_
   rintro r x7 ⟨rfl,hbk⟩
   have HBX7:=hid (bl_tr HBX6.out hbk)
   have HRX7:=hid (HRX6.out.reach hbk)
   clear hbk HU7 HBX6 HRX6;go_wp2_with fail;refine (HU8.out x7).mono ?_
   rintro r x8 ⟨rfl,hbk⟩
   have HBX8:=hid (bl_tr HBX7.out hbk)
   have HRX8:=hid (HRX7.out.reach hbk)
   clear hbk HU8 HBX7 HRX7;go_wp2_with fail;refine (HU9.out x8).mono ?_
   rintro r x9 ⟨rfl,hbk⟩
   have HBX9:=hid (bl_tr HBX8.out hbk)
   have HRX9:=hid (HRX8.out.reach hbk)
   clear hbk HU9 HBX8 HRX8;go_wp2_with fail;refine (HU10.out x9).mono ?_
   rintro r x10 ⟨rfl,hbk⟩
   have HBX10:=hid (bl_tr HBX9.out hbk)
   have HRX10:=hid (HRX9.out.reach hbk)
   clear hbk HU10 HBX9 HRX9;go_wp2_with fail;refine (HU11.out x10).mono ?_
   rintro r x11 ⟨rfl,hbk⟩
   have HBX11:=hid (bl_tr HBX10.out hbk)
   have HRX11:=hid (HRX10.out.reach hbk)
   clear hbk HU11 HBX10 HRX10;go_wp2_with fail;refine (HU12.out x11).mono ?_
   rintro r x12 ⟨rfl,hbk⟩
   have HBX12:=hid (bl_tr HBX11.out hbk)
   have HRX12:=hid (HRX11.out.reach hbk)
   clear hbk HU12 HBX11 HRX11;go_wp2_with fail;refine (HU13.out x12).mono ?_
   rintro r x13 ⟨rfl,hbk⟩
   have HBX13:=hid (bl_tr HBX12.out hbk)
   have HRX13:=hid (HRX12.out.reach hbk)
   clear hbk HU13 HBX12 HRX12;go_wp2_with fail;refine (HU14.out x13).mono ?_
   rintro r x14 ⟨rfl,hbk⟩
   have HBX14:=hid (bl_tr HBX13.out hbk)
   have HRX14:=hid (HRX13.out.reach hbk)
   clear hbk HU14 HBX13 HRX13;go_wp2_with fail;refine (HU15.out x14).mono ?_
   rintro r x15 ⟨rfl,hbk⟩
   have HBX15:=hid (bl_tr HBX14.out hbk)
   have HRX15:=hid (HRX14.out.reach hbk)
   clear hbk HU15 HBX14 HRX14;go_wp2_with fail;refine (HU16.out x15).mono ?_
   rintro r x16 ⟨rfl,hbk⟩
   have HBX16:=hid (bl_tr HBX15.out hbk)
   have HRX16:=hid (HRX15.out.reach hbk)
   clear hbk HU16 HBX15 HRX15;go_wp2_with fail;refine (HU17.out x16).mono ?_
   rintro r x17 ⟨rfl,hbk⟩
   have HBX17:=hid (bl_tr HBX16.out hbk)
   have HRX17:=hid (HRX16.out.reach hbk)
   clear hbk HU17 HBX16 HRX16;go_wp2_with fail;refine (HU18.out x17).mono ?_
   rintro r x18 ⟨rfl,hbk⟩
   have HBX18:=hid (bl_tr HBX17.out hbk)
   have HRX18:=hid (HRX17.out.reach hbk)
   clear hbk HU18 HBX17 HRX17;go_wp2_with fail;refine (HU19.out x18).mono ?_
   rintro r x19 ⟨rfl,hbk⟩
   have HBX19:=hid (bl_tr HBX18.out hbk)
   have HRX19:=hid (HRX18.out.reach hbk)
   clear hbk HU19 HBX18 HRX18;obtain ⟨C20,hc20⟩:∃ c,c=U20.flatMap unitCells:=⟨_,rfl⟩
   have HC20:=hid hc20
   have HL20:Hid (C20.length=20*10):=by show _=_; rw [HC20.out]; rfl
   have HO20:Hid (∀ u∈C20,u.oneCell'=true):=by rw [hc20]; exact unit_ones U20
   clear hc20;have hb21:=b1 x19 (.cells C20.toArray 175)
   have HR21:=hid (HRX19.out.reach hb21)
   have HB21:=hid (bl_tr HBX19.out hb21)
   have HN21:=hid (heap_alloc_new x19 (.cells C20.toArray 175))
   clear hb21;go_wp2_with fail;refine wp_buildSlice 173 175 20 _ rfl C20.toArray i0 _ Tryz.underlying173 hi0 hz0 (by rw [hz1]; decide) (by rw [hz1]; decide) (by rw [hz1,HC20.out]; kernel_rfl) ?_
   generalize x19.alloc (.cells C20.toArray 175)=x20 at*;go_wp2_with (at_builtin; refine wpList_append_lies _ rfl _ _ 173 rfl w.heap.size 175 i0 _ 10 88 Tryz.underlying173 hi0 hz0 hz1 hz2 rfl (by decide) vq 7 ((unitTab.take 7).flatMap unitCells) rfl HR21.out ⟨x19.heap.size,0,none⟩ 20 20 C20 rfl HL20.out ?_ HO20.out (by decide) (by unfold maxLen; omega) (by omega) HB21.out.size _ rfl ?_)
   ·intro j u hu
    simp only [addr_addF,World.cell?,HN21.out,Option.isSome_none,Bool.false_eq_true,if_false,Nat.zero_add];rw [List.getElem?_toArray];exact hu
   intro g7 cap7 wf hrow hgr hat hlt9
   have HRF:Hid (UL wf w.heap.size (.slice (some ⟨g7,0,none⟩) 27 cap7) unitTab):=by
    rw [HC20.out,← List.flatMap_append]at hrow
    exact hrow
   have HBF:=hid (gb_low HB21.out HR21.out hgr)
   clear hrow hgr hat hlt9;go_wp2_with fail;go_ret;exact ⟨_,rfl,HRF.out,HBF.out⟩
theorem lookup_step2 {l:List (W8 × V)}{i:Nat}{x:W8}{v:V}(h:l[i]?=some (x,v))(n:W8):(l.drop i).lookup n=if n=x then some v else (l.drop (i+1)).lookup n:=lookup_step h n
set_option maxRecDepth 100000 in
set_option maxHeartbeats 4000000 in
theorem rfind_c:RFindC:=fun n w hn=>by
 have HB:=hid (b1 w (.cells #[.int .i64 0,.int .i64 0,.int .i64 0,.int .i64 0,.int .i64 0,.int .i64 0,.int .i64 0,.int .i64 0,.int .i64 0] 44))
 have HK:Hid (K9 (w.alloc (.cells #[.int .i64 0,.int .i64 0,.int .i64 0,.int .i64 0,.int .i64 0,.int .i64 0,.int .i64 0,.int .i64 0,.int .i64 0] 44)) w.heap.size zV):=K9.new w zV
 have HUR:Hid (unitR n=lookR (fun n=>unitTab.lookup n) n):=rfl
 generalize unitR n=R at*;go_enter Tryz.func91,Tryz.ntmps91;go_upto_region 1 with (fail);generalize w.alloc (.cells #[.int .i64 0,.int .i64 0,.int .i64 0,.int .i64 0,.int .i64 0,.int .i64 0,.int .i64 0,.int .i64 0,.int .i64 0] 44)=w1 at*;go_wp2_with fail;refine (all138 w1).mono ?_
 rintro e w2 ⟨v,rfl,hU,hb⟩
 obtain ⟨g,cap,rfl,hg,hgB,hcx⟩:=hU.cells (by decide)
 have hln:unitTab.length=27:=rfl
 rw [hln];have HCX:=hid hcx
 have HB2:=hid (bl_tr HB.out hb)
 have HK2:=hid (HK.out.reach hb)
 have HG:=hid hg
 clear hU hcx hgB hg hb hln HB HK;go_wp2_with fail;go_loopg [5] 28 (fun gg s5 wr=>∃ (i:Nat),i≤27∧27-i<gg∧s5=.int .i64 (i:Int)∧Aside (unitTab.lookup n=(unitTab.drop i).lookup n)∧Aside (w2=wr))
 case atStart=>exact ⟨0,by omega,by omega,rfl,rfl,rfl⟩
 case round=>
  obtain ⟨i,hi,hgg,rfl,HL,HWE⟩:=hrel
  obtain rfl:=HWE.out
  obtain ⟨⟨⟨z0,z1⟩,z2,z3,z4,z5,z6,z7,z8⟩,zf,_⟩:=HK2.out.cells
  by_cases hlt:i<27
  ·have hltz:(i:Int)<27:=by omega
   obtain ⟨xv,hxv⟩:∃ p,unitTab[i]?=some p:=⟨_,List.getElem?_eq_getElem (by exact hlt)⟩
   obtain ⟨x,y⟩:=xv
   have HLS:=hid (HL.out.trans (lookup_step2 hxv n))
   obtain ⟨u0,⟨u1,u2⟩,u3,u4,u5,u6,u7,u8,u9⟩:=HCX.out i x y hxv
   clear hxv;by_cases hxn:x=n
   ·subst hxn
    have hxb:(x == x)=true:=by simp
    have HRE:Hid (R=okR y):=by
     show _=_
     rw [HUR.out];unfold lookR;dsimp only
     rw [show unitTab.lookup x=some y from HLS.out.trans (if_pos rfl)]
    go_wp2_with fail;rw [HRE.out];refine bodyPost_ret (v:=.tuple #[.agg y.cells,.bool true]) (by simp [results,Tryz.results91,go_sem,V.cells,z0,z1,z2,z3,z4,z5,z6,z7,z8]) rfl ⟨rfl,?_⟩
    exact below9 HB2.out (b:=w.heap.size) (Nat.le_refl _) y
   ·have hxb:(x == n)=false:=by simpa using hxn
    have HLE:Hid (unitTab.lookup n=(unitTab.drop (i+1)).lookup n):=HLS.out.trans (if_neg fun e=>hxn e.symm)
    clear hxn;go_wp2_with fail;go_roundg (27-i)
    case measure=>omega
    case rel=>exact ⟨i+1,by omega,by omega,by go_num,HLE.out,rfl⟩
  ·have hltz:¬ (i:Int)<27:=by omega
   have HRE:Hid (R=erR 11):=by
    show _=_
    rw [HUR.out];unfold lookR;dsimp only
    rw [show unitTab.lookup n=none from by
     rw [HL.out,List.drop_eq_nil_of_le (by show 27≤i; omega)]; rfl]
   go_wp2_with fail;rw [HRE.out];refine bodyPost_ret (v:=.tuple #[.agg zV.cells,.bool false]) (by simp [results,Tryz.results91,go_sem,V.cells,zV,zD,z0,z1,z2,z3,z4,z5,z6,z7,z8]) rfl ⟨rfl,?_⟩
   exact below9 HB2.out (b:=w.heap.size) (Nat.le_refl _) zV
end Go.Proofs.YtknpigdpepmimaaGreatDoor
