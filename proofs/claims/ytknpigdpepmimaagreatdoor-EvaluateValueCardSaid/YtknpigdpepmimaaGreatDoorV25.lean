/- Contract of the reference's Parse. -/
import Derived.Test.YtknpigdpepmimaaGreatDoorV15
import Derived.Test.YtknpigdpepmimaaGreatDoorV23
import Derived.Test.YtknpigdpepmimaaGreatDoorV24
import Derived.Deep.CutBlock
import Derived.Deep.DeepCutAuto
import Derived.Deep.RegionHeldLaw
import Derived.Test.YtknpigdpepmimaaGreatDoorV21
import Derived.Test.YtknpigdpepmimaaGreatDoorV22
namespace Go.Proofs.YtknpigdpepmimaaGreatDoor.Q
open Go.Lib(hid)
open Go.RowKit
def join (w r:List UInt8)(pt:Bool):List UInt8:=if pt then w++46::r else w
theorem join_cons (c:UInt8)(w r:List UInt8)(pt:Bool):join (c::w) r pt=c::join w r pt:=by cases pt<;>rfl
theorem join_cut (l:List UInt8):l=join (Lib.cut l [46]).1 (Lib.cut l [46]).2.1 (Lib.cut l [46]).2.2:=by
 rcases cut_point l with ⟨w,r,e,e',_⟩|⟨e,_⟩
 ·rw [e]; exact e'
 ·rw [e]; rfl
theorem no_point {w:List UInt8}(h:digs w=true):(46:UInt8)∉w:=fun hm=>by
 have:=((digs_iff w).1 h).2 _ hm
 revert this; decide
theorem cut_join {w r:List UInt8}{pt:Bool}(h:digs w=true)(hr:pt=false→r=[]):Lib.cut (join w r pt) [46]=(w,r,pt):=by
 cases pt with
 | true=>exact cut_unique (no_point h)
 | false=>
  rw [hr rfl];rcases cut_point w with ⟨a,b,_,e',_⟩|⟨e,_⟩
  ·exact absurd (by rw [e']; simp) (no_point h)
  ·exact e
def strip (S:ByteArray):Bool:=decide (1<S.size)&&(S.data.toList[0]? == some 48)&&!(S.data.toList[1]? == some 46)
theorem get_some (S:ByteArray) (k:Nat)(h:k<S.size):S.data.toList[k]?=some S[k]:=by
 rw [List.getElem?_eq_getElem (by rw [len_list]; exact h)]; rfl
theorem some_beq (c d:UInt8):(some c == some d)=((c.toNat:Int) == (d.toNat:Int)):=by rw [toNatZ]; rfl
theorem strip_yes {S:ByteArray}{w r:List UInt8}{pt:Bool}(hj:S.data.toList=join w r pt)(hw:digs w=true)(h:strip S=true):∃ t,w=48::t∧digs t=true∧(S.extract 1 S.size).data.toList=join t r pt:=by
 unfold strip at h;simp only [Bool.and_eq_true,decide_eq_true_eq,beq_iff_eq,Bool.not_eq_true',beq_eq_false_iff_ne]at h
 obtain ⟨⟨h1,h2⟩,h3⟩:=h
 obtain ⟨hne,hall⟩:=(digs_iff w).1 hw
 cases w with
 | nil=>exact absurd rfl hne
 | cons c t=>
  rw [join_cons]at hj
  have hc:c=48:=by rw [hj]at h2; simpa using h2
  subst hc;refine ⟨t,rfl,?_,by rw [ext_drop,hj]; rfl⟩
  rw [digs_iff];refine ⟨?_,fun x hx=>hall x (by simp [hx])⟩
  rintro rfl
  cases pt with
  | true=>rw [hj]at h3; simp [join]at h3
  | false=>
   have:=len_list S
   rw [hj]at this
   simp [join]at this
   omega
theorem strip_no {S:ByteArray}{w r:List UInt8}{pt:Bool}(hj:S.data.toList=join w r pt)(hw:digs w=true)(h:strip S=false)(h10:10<w.length):10000000000≤valD w:=by
 obtain ⟨hne,hall⟩:=(digs_iff w).1 hw
 cases w with
 | nil=>exact absurd rfl hne
 | cons c t=>
  cases t with
  | nil=>simp at h10
  | cons d t=>
   have hc:c≠48:=by
    rintro rfl
    rw [join_cons,join_cons]at hj
    have hd:d≠46:=fun e=>by have:=hall d (by simp); rw [e]at this; revert this; decide
    have hs:1<S.size:=by rw [← len_list,hj]; simp
    unfold strip at h;rw [hj,decide_eq_true hs]at h
    simp [hd]at h
   have:=val_ge c (d::t) (hall c (by simp)) hc
   have h2:10 ^ 10≤10 ^ (d::t).length:=Nat.pow_le_pow_right (by decide) (by simp at h10 ⊢; omega)
   omega
def stripR (F:ByteArray):Bool:=decide (0<F.size)&&(F.data.toList.getLast? == some 48)
theorem last_some (F:ByteArray)(h:0<F.size):F.data.toList.getLast?=some F[F.size-1]:=by
 have hl:=len_list F
 rw [List.getLast?_eq_getElem?,List.getElem?_eq_getElem (by omega)]
 have:F[F.size-1]=F.data.toList[F.size-1]'(by omega):=rfl
 rw [this];congr 2
theorem stripR_yes {F:ByteArray}(h:stripR F=true):F.data.toList=(F.extract 0 (F.size-1)).data.toList++[48]:=by
 unfold stripR at h;simp only [Bool.and_eq_true,decide_eq_true_eq,beq_iff_eq]at h
 obtain ⟨a,ha⟩:=List.getLast?_eq_some_iff.1 h.2
 rw [ext_take,ha];have:F.size-1=a.length:=by rw [← len_list,ha]; simp
 rw [this]; simp
theorem stripR_no {F:ByteArray}(h:stripR F=false)(h31:31<F.size):∃ a c,F.data.toList=a++[c]∧c≠48:=by
 have h0:0<F.size:=by omega
 have hl:=last_some F h0
 obtain ⟨a,ha⟩:=List.getLast?_eq_some_iff.1 hl
 refine ⟨a,_,ha,fun e=>?_⟩
 unfold stripR at h;rw [decide_eq_true h0,hl,e]at h
 simp at h
theorem decB_eq (l:List UInt8):decB l=false↔(digs (Lib.cut l [46]).1=false∨((Lib.cut l [46]).2.2=true∧digs (Lib.cut l [46]).2.1=false)):=by
 unfold decB;cases digs (Lib.cut l [46]).1<;>cases (Lib.cut l [46]).2.2<;>cases digs (Lib.cut l [46]).2.1<;>simp
theorem catB (A B:ByteArray):A++B=⟨(A.data.toList++B.data.toList).toArray⟩:=by
 apply ByteArray.ext
 rw [ByteArray.data_append];simp
set_option maxRecDepth 100000 in
set_option maxHeartbeats 4000000 in
theorem rparse_any (s:ByteArray)(l:List UInt8)(w:World)(hsl:s.data.toList=l)(hs:s.size≤60):
  Calls Tryz.prog 89 #[.string s] w fun e w'=>e=.returned (parseQ l).val∧Below w.heap.size w w':=by
 have hll:l.length=s.size:=by rw [← hsl,len_list]
 have HQ0:Hid (parseQ l=if 40<l.length∨digs (Lib.cut l [46]).1=false∨((Lib.cut l [46]).2.2=true∧digs (Lib.cut l [46]).2.1=false)then ⟨0,0,3⟩else decQ (Lib.cut l [46]).1 (Lib.cut l [46]).2.1):=rfl
 have HB1:Hid (Below (w.alloc (.cells #[.int .i64 0,.int .i64 0] 64)).heap.size (w.alloc (.cells #[.int .i64 0,.int .i64 0] 64)) (w.alloc (.cells #[.int .i64 0,.int .i64 0] 64))):=Below.refl _ _
 have HLL:=hid hll
 have HSL:=hid hsl
 clear hll hsl;by_cases h40:40<s.size
 ·have h40z:(40:Int)<(s.size:Int):=by omega
  have HR:Hid (parseQ l=⟨0,0,3⟩):=HQ0.out.trans (if_pos (.inl (by rw [HLL.out]; exact h40)))
  go_enter Tryz.func89,Tryz.ntmps89;have HBX:=HB1
  obtain ⟨⟨q0,q1⟩,qf,qs,hB1⟩:=res2 HBX.out
  have HBB:=hid hB1
  clear hB1;go_wp2_with fail;refine bodyPost_ret (v:=.tuple #[.agg #[.int .i64 0,.int .i64 0],.int .i64 3]) (by simp [results,Tryz.results89,go_sem,q0,q1]) rfl ⟨?_,?_⟩
  ·rw [HR.out]; rfl
  ·first|exact HBB.out|exact (HBB.out.setCell (Nat.le_refl _) _).setCell (Nat.le_refl _) _
 ·have h40z:¬ (40:Int)<(s.size:Int):=by omega
  have h40n:s.size≤40:=by omega
  cases hd:decB l with
  | false=>
   have HD:=hid hd
   have HR:Hid (parseQ l=⟨0,0,3⟩):=HQ0.out.trans (if_pos (.inr ((decB_eq l).1 hd)))
   clear hd;go_enter Tryz.func89,Tryz.ntmps89;go_wp2_with fail;refine (decimal_any s _ (by omega)).mono ?_
   rw [HSL.out,HD.out];rintro e w' ⟨rfl,rfl⟩
   have HBX:=HB1
   obtain ⟨⟨q0,q1⟩,qf,qs,hB1⟩:=res2 HBX.out
   have HBB:=hid hB1
   clear hB1;go_wp2_with fail;refine bodyPost_ret (v:=.tuple #[.agg #[.int .i64 0,.int .i64 0],.int .i64 3]) (by simp [results,Tryz.results89,go_sem,q0,q1]) rfl ⟨?_,?_⟩
   ·rw [HR.out]; rfl
   ·first|exact HBB.out|exact (HBB.out.setCell (Nat.le_refl _) _).setCell (Nat.le_refl _) _
  | true=>
   have hnd:¬ (digs (Lib.cut l [46]).1=false∨((Lib.cut l [46]).2.2=true∧digs (Lib.cut l [46]).2.1=false)):=fun h=>by rw [(decB_eq l).2 h]at hd; cases hd
   have HQ:Hid (parseQ l=decQ (Lib.cut l [46]).1 (Lib.cut l [46]).2.1):=HQ0.out.trans (if_neg (fun h=>h.elim (fun h=>by have:=HLL.out; omega) hnd))
   have hj0:=join_cut l
   have hr0:=cut_rest l
   have HD:=hid hd
   clear hd;obtain ⟨⟨wh,re,pt⟩,hx⟩:∃ x,x=Lib.cut l [46]:=⟨_,rfl⟩
   rw [← hx]at HQ hnd hj0 hr0
   clear hx;simp only at HQ hnd hj0 hr0
   have hdw:digs wh=true:=by cases h:digs wh with|true=>rfl|false=>exact absurd (.inl h) hnd
   have HREd:Hid (∀ c∈re,isD c=true):=by
    show ∀ c∈re,isD c=true
    cases hp:pt with
    | false=>rw [hr0 hp]; simp
    | true=>
     cases h:digs re with
     | true=>exact ((digs_iff re).1 h).2
     | false=>exact absurd (.inr ⟨hp,h⟩) hnd
   have HRE:=hid hr0
   have HW0:=hid hdw
   have HJ0:Hid (s.data.toList=join wh re pt):=by show s.data.toList=_; rw [HSL.out]; exact hj0
   clear hnd hj0 hr0 hdw HQ0;go_enter Tryz.func89,Tryz.ntmps89;go_wp2_with fail;refine (decimal_any s _ (by omega)).mono ?_
   rw [HSL.out,HD.out];rintro e w' ⟨rfl,rfl⟩
   clear HSL HLL HD;go_wp2_with fail;go_loopg [0] s.size (fun gg s0 wx=>∃ (S:ByteArray)(wh':List UInt8),s0=.string S∧S.size≤gg∧S.size≤40∧w.alloc (.cells #[.int .i64 0,.int .i64 0] 64)=wx∧Aside (S.data.toList=join wh' re pt)∧Aside (digs wh'=true)∧Aside (decQ wh re=decQ wh' re))
   case atStart=>exact ⟨s,wh,rfl,Nat.le_refl _,h40n,rfl,HJ0.out,HW0.out,Eq.refl _⟩
   case round=>
    obtain ⟨S,wh',rfl,hgg,hS40,hwx,HJ,HW,HDE⟩:=hrel
    have HWX:=hid hwx
    have hS0:0<S.size:=by
     rw [← len_list,HJ.out];obtain ⟨hne,_⟩:=(digs_iff wh').1 HW.out
     cases wh' with
     | nil=>exact absurd rfl hne
     | cons c t=>rw [join_cons]; simp
    have hS0z:(0:Int)<(S.size:Int):=by omega
    clear hwx;go_upto_region 3 with (fail);go_cut [28] (fun c wx=>c=.bool (strip S)∧wr=wx)
    case first=>
     by_cases h1:1<S.size
     ·have h1z:(1:Int)<(S.size:Int):=by omega
      have hv:strip S=(((S[0].toNat:Int) == 48)&&!((S[1].toNat:Int) == 46)):=by unfold strip; rw [decide_eq_true h1,get_some S 0 hS0,get_some S 1 h1,some_beq,some_beq]; rfl
      cases hm:((S[0].toNat:Int) == 48) with
      | true=>
       cases hm2:((S[1].toNat:Int) == 46) with
       | true=>
        have hm3:((S[1].toNat:Int) != 46)=false:=by unfold bne; rw [hm2]; rfl
        rw [hm,hm2]at hv
        have HV:=hid hv
        clear hv;go_wp2_with fail;go_meet
        case rel=>exact ⟨by rw [HV.out]; rfl,rfl⟩
       | false=>
        have hm3:((S[1].toNat:Int) != 46)=true:=by unfold bne; rw [hm2]; rfl
        rw [hm,hm2]at hv
        have HV:=hid hv
        clear hv;go_wp2_with fail;go_meet
        case rel=>exact ⟨by rw [HV.out]; rfl,rfl⟩
      | false=>
       rw [hm]at hv
       have HV:=hid hv
       clear hv;go_wp2_with fail;go_meet
       case rel=>exact ⟨by rw [HV.out]; rfl,rfl⟩
     ·have h1z:¬ (1:Int)<(S.size:Int):=by omega
      have HV:Hid (strip S=false):=by show strip S=false; unfold strip; rw [decide_eq_false h1]; rfl
      go_wp2_with fail;go_meet
      case rel=>exact ⟨by rw [HV.out],rfl⟩
    case rest=>
     obtain ⟨rfl,rfl⟩:=hcut
     cases hb:strip S with
     | true=>
      obtain ⟨t,ht,hdt,hjt⟩:=strip_yes HJ.out HW.out hb
      have h1:1<S.size:=by unfold strip at hb; simp only [Bool.and_eq_true,decide_eq_true_eq]at hb; exact hb.1.1
      have hes:(S.extract 1 S.size).size=S.size-1:=by rw [ByteArray.size_extract]; omega
      have HES:=hid hes
      have HJ2:=hid hjt
      have HW2:=hid hdt
      have HDE2:Hid (decQ wh re=decQ t re):=by show decQ wh re=decQ t re; rw [HDE.out,ht,decQ_zero]
      clear hes hjt hdt hb ht HDE HJ HW;go_wp2_with fail;go_roundg (S.size-1)
      case measure=>omega
      case rel=>exact ⟨S.extract 1 S.size,t,rfl,by rw [HES.out]; exact Nat.le_refl _,by rw [HES.out]; omega,HWX.out,HJ2.out,HW2.out,HDE2.out⟩
     | false=>
      have HNO:Hid (10<wh'.length→10000000000≤valD wh'):=strip_no HJ.out HW.out hb
      have HCJ:Hid (Lib.cut (join wh' re pt) [46]=(wh',re,pt)):=cut_join HW.out HRE.out
      have HPT:Hid (ptI S.data.toList=if pt then (wh'.length:Int)else -1):=by
       show ptI S.data.toList=_
       unfold ptI;rw [HJ.out,HCJ.out]
      clear hb;obtain ⟨w3,hw3⟩:∃ w3,w3=wr:=⟨_,rfl⟩
      subst hw3;have HB1:Hid (Below (w.alloc (.cells #[.int .i64 0,.int .i64 0] 64)).heap.size (w.alloc (.cells #[.int .i64 0,.int .i64 0] 64)) w3):=by rw [HWX.out]at HB1 ⊢; exact HB1
      clear HWX;go_wp2_with fail;refine (point_any S _ (by omega)).mono ?_
      rw [HPT.out];rintro e w' ⟨rfl,rfl⟩
      go_upto_if 35 with (fail)
      go_cut [4,5,6,33,34,35] (fun s4 s5 _ _ _ _ wx=>∃ A B:ByteArray,s4=.string A∧s5=.string B∧A.size≤40∧B.size≤40∧Aside (A.data.toList=wh')∧Aside (B.data.toList=re)∧Aside (Below (w.alloc (.cells #[.int .i64 0,.int .i64 0] 64)).heap.size (w.alloc (.cells #[.int .i64 0,.int .i64 0] 64)) wx))
      case first=>
       cases pt with
       | false=>
        have hpz:¬ (0:Int)≤-1:=by decide
        have HRE0:Hid (re=[]):=HRE.out rfl
        go_wp2_with fail;go_meet
        case rel=>exact ⟨S,⟨#[]⟩,rfl,rfl,hS40,by decide,HJ.out,by rw [HRE0.out]; rfl,HB1.out⟩
       | true=>
        have hkS:wh'.length<S.size:=by rw [← len_list,HJ.out]; simp [join]
        have HL:Hid ((S.extract 0 wh'.length).data.toList=wh'):=by show (S.extract 0 wh'.length).data.toList=wh'; rw [ext_take,HJ.out]; simp [join]
        have HR2:Hid ((S.extract (wh'.length+1) S.size).data.toList=re):=by show (S.extract (wh'.length+1) S.size).data.toList=re; rw [ext_drop,HJ.out]; simp [join]
        have e1:(S.extract 0 wh'.length).size≤40:=by rw [ByteArray.size_extract]; omega
        have e2:(S.extract (wh'.length+1) S.size).size≤40:=by rw [ByteArray.size_extract]; omega
        obtain ⟨k,hk⟩:∃ k,k=wh'.length:=⟨_,rfl⟩
        rw [← hk]at hkS HL HR2 e1 e2 ⊢
        clear hk;have E1:=hid e1
        have E2:=hid e2
        clear e1 e2;go_wp2_with fail;go_quiet (fail)
        go_wp2_with fail;go_meet
        case rel=>exact ⟨_,_,rfl,rfl,E1.out,E2.out,HL.out,HR2.out,belowN HB1.out _⟩
      case rest=>
       obtain ⟨A,B,rfl,rfl,hA40,hB40,HA,HBl,HB4⟩:=hcut
       obtain ⟨w4,hw4⟩:∃ w4,w4=wc:=⟨_,rfl⟩
       subst hw4;go_wp2_with fail;go_loopg [5] B.size (fun gg s5 wx=>∃ F:ByteArray,s5=.string F∧F.size≤gg∧F.size≤40∧w4=wx∧Aside (decQ wh' F.data.toList=decQ wh' re)∧Aside (∀ c∈F.data.toList,isD c=true))
       case atStart=>exact ⟨B,rfl,Nat.le_refl _,hB40,rfl,by rw [HBl.out]; exact Eq.refl _,by rw [HBl.out]; exact HREd.out⟩
       case round=>
        obtain ⟨F,rfl,hgg2,hF40,rfl,HFQ,HFD⟩:=hrel
        go_upto_region 9 with (fail);go_cut [53] (fun c wx=>c=.bool (stripR F)∧w4=wx)
        case first=>
         by_cases h0:0<F.size
         ·have h0z:(0:Int)<(F.size:Int):=by omega
          have hlast:=last_some F h0
          have hv:stripR F=((F[F.size-1].toNat:Int) == 48):=by unfold stripR; rw [decide_eq_true h0,hlast,some_beq]; rfl
          cases hm:((F[F.size-1].toNat:Int) == 48) with
          | true=>
           have HV:=hid (hv.trans hm)
           clear hv hlast;go_wp2_with fail;go_meet
           case rel=>exact ⟨by rw [HV.out],rfl⟩
          | false=>
           have HV:=hid (hv.trans hm)
           clear hv hlast;go_wp2_with fail;go_meet
           case rel=>exact ⟨by rw [HV.out],rfl⟩
         ·have h0z:¬ (0:Int)<(F.size:Int):=by omega
          have HV:Hid (stripR F=false):=by show stripR F=false; unfold stripR; rw [decide_eq_false h0]; rfl
          go_wp2_with fail;go_meet
          case rel=>exact ⟨by rw [HV.out],rfl⟩
        case rest=>
         obtain ⟨rfl,rfl⟩:=hcut
         cases hb:stripR F with
         | true=>
          have h0:0<F.size:=by unfold stripR at hb; simp only [Bool.and_eq_true,decide_eq_true_eq]at hb; exact hb.1
          have hsp:=stripR_yes hb
          have hes:(F.extract 0 (F.size-1)).size=F.size-1:=by rw [ByteArray.size_extract]; omega
          have HFQ2:Hid (decQ wh' (F.extract 0 (F.size-1)).data.toList=decQ wh' re):=by
           show decQ wh' (F.extract 0 (F.size-1)).data.toList=decQ wh' re
           rw [← HFQ.out]
           conv=>rhs; rw [hsp]
           rw [decQ_snoc]
          have HFD2:Hid (∀ c∈(F.extract 0 (F.size-1)).data.toList,isD c=true):=fun c hc=>HFD.out c (by rw [hsp]; exact List.mem_append_left _ hc)
          have HES:=hid hes
          clear hsp hb HFQ HFD hes;go_wp2_with fail;go_roundg (F.size-1)
          case measure=>omega
          case rel=>exact ⟨F.extract 0 (F.size-1),rfl,by rw [HES.out]; exact Nat.le_refl _,by rw [HES.out]; omega,rfl,HFQ2.out,HFD2.out⟩
         | false=>
          have hbH:=hid hb
          clear hb;by_cases hA10:10<A.size
          ·have hAz:(10:Int)<(A.size:Int):=by omega
           have HR:Hid (parseQ l=⟨0,0,2⟩):=by
            show parseQ l=⟨0,0,2⟩
            rw [HQ.out,HDE.out];exact decQ_far _ _ (HNO.out (by rw [← HA.out,len_list]; exact hA10))
           have HBX:=HB4
           obtain ⟨⟨q0,q1⟩,qf,qs,hB1⟩:=res2 HBX.out
           have HBB:=hid hB1
           clear hB1;go_wp2_with fail;refine bodyPost_ret (v:=.tuple #[.agg #[.int .i64 0,.int .i64 0],.int .i64 2]) (by simp [results,Tryz.results89,go_sem,q0,q1]) rfl ⟨?_,?_⟩
           ·rw [HR.out]; rfl
           ·first|exact HBB.out|exact (HBB.out.setCell (Nat.le_refl _) _).setCell (Nat.le_refl _) _
          ·have hAz:¬ (10:Int)<(A.size:Int):=by omega
           by_cases hF31:31<F.size
           ·have hFz:(31:Int)<(F.size:Int):=by omega
            have HR:Hid (parseQ l=⟨0,0,2⟩):=by
             show parseQ l=⟨0,0,2⟩
             rw [HQ.out,HDE.out,← HFQ.out];exact decQ_long _ _ HFD.out (by rw [len_list]; exact hF31) (stripR_no hbH.out hF31)
            have HBX:=HB4
            obtain ⟨⟨q0,q1⟩,qf,qs,hB1⟩:=res2 HBX.out
            have HBB:=hid hB1
            clear hB1;go_wp2_with fail;refine bodyPost_ret (v:=.tuple #[.agg #[.int .i64 0,.int .i64 0],.int .i64 2]) (by simp [results,Tryz.results89,go_sem,q0,q1]) rfl ⟨?_,?_⟩
            ·rw [HR.out]; rfl
            ·first|exact HBB.out|exact (HBB.out.setCell (Nat.le_refl _) _).setCell (Nat.le_refl _) _
           ·have hFz:¬ (31:Int)<(F.size:Int):=by omega
            have HR:Hid (ansQ (valD (A.data.toList++F.data.toList)) F.size=parseQ l):=by
             show ansQ (valD (A.data.toList++F.data.toList)) F.size=parseQ l
             rw [HQ.out,HDE.out,← HFQ.out,ansQ_mk,HA.out];unfold decQ;rw [len_list]
            have hcatB:=catB A F
            have HAD:Hid (∀ c∈A.data.toList++F.data.toList,isD c=true):=fun c hc=>by
             rcases List.mem_append.1 hc with h|h
             ·rw [HA.out]at h; exact ((digs_iff _).1 HW.out).2 c h
             ·exact HFD.out c h
            have hAp:0<A.size:=by
             have:=((digs_iff _).1 HW.out).1
             rw [← HA.out]at this
             have:=List.length_pos_iff.2 this
             rw [len_list]at this; exact this
            have HCB:=hid hcatB
            clear hcatB;go_wp2_with fail;rw [HCB.out];refine (reduced_any (A.data.toList++F.data.toList) F.size _ (by rw [List.length_append,len_list,len_list]; omega) (by rw [List.length_append,len_list,len_list]; omega) (by omega) HAD.out).mono ?_
            rw [HR.out];rintro e w5 ⟨rfl,hb5⟩
            have HBX:=hid (res2t HB4.out hb5)
            clear hb5;obtain ⟨rr,hrr⟩:∃ r,r=parseQ l:=⟨_,rfl⟩
            rw [← hrr];have HRR:=hid hrr
            clear hrr HR;obtain ⟨rn,rd',re'⟩:=rr
            simp only [Res.val];obtain ⟨⟨q0,q1⟩,qf,qs,hB1⟩:=res2 HBX.out
            have HBB:=hid hB1
            clear hB1;go_wp2_with fail;refine bodyPost_ret (v:=.tuple #[.agg #[.int .i64 rn,.int .i64 rd'],.int .i64 re']) (by simp [results,Tryz.results89,go_sem,q0,q1]) rfl ⟨?_,?_⟩
            ·rw [← HRR.out]; rfl
            ·exact (HBB.out.setCell (Nat.le_refl _) _).setCell (Nat.le_refl _) _
end Go.Proofs.YtknpigdpepmimaaGreatDoor.Q
namespace Go.Proofs.YtknpigdpepmimaaGreatDoor
open Go.Lib(hid)
open Go.RowKit Go.Maps
variable {w w' w4:World}{mb B:Nat}{s:Sc}{c:Nat}{vn vv un uv:Value}
theorem set9_gb (w:World) (b:Nat)(y:V):w.grownBy (set9 w b y) (some b):=by
 have h:=below9 (Below.refl b w) (Nat.le_refl b) y
 exact ⟨h.os,h.tape,h.output,h.size,fun k _ hk=>set9_other w b y k (fun e=>hk (by rw [e]))⟩
theorem FP.mono {q:Option Addr}{S S':Nat→Prop}{r:R}(h:FP w q S r)(hs:∀ k,S k→S' k):FP w q S' r:=by
 rcases h with h|⟨h1,fb,h2,h3⟩
 ·exact .inl h
 ·exact .inr ⟨h1,fb,h2,h3.mono hs⟩
theorem FP.reach {q:Option Addr}{S:Nat→Prop}{r:R}(h:FP w q S r)(hb:Below w.heap.size w w'):FP w' q S r:=by
 rcases h with h|⟨h1,fb,h2,h3⟩
 ·exact .inl h
 ·exact .inr ⟨h1,fb,h2,h3.reach hb⟩
theorem VOut.fin {b:Nat}{q:Option Addr}{g:R × Nat}(hb:w.heap.size≤b)(hms:MS w4 mb B s g.2 un uv)(hgm:Gm w w4 mb vn vv un uv)(hab:Aw mb un uv b)(hfp:FP w4 q (fun k=>Aw mb un uv k∧b<k) g.1):
  VOut2 w (set9 w4 b g.1.v) mb B s vn vv g (.returned (.tuple #[.agg g.1.v.cells,.pointer q])):=by
 have hg:=set9_gb w4 b g.1.v
 refine ⟨q,un,uv,rfl,?_,hms.row hg (fun k hk=>by obtain rfl:=Option.some.inj hk; exact hab),hgm.row hg (fun k hk=>by obtain rfl:=Option.some.inj hk; exact hb)⟩
 rcases hfp with h|⟨h1,fb,h2,h3⟩
 ·exact .inl h
 ·exact .inr ⟨h1,fb,h2,h3.keep fun k hk hs=>⟨by rw [set9_size]; exact hk,set9_other _ _ _ _ (Nat.ne_of_gt hs.2),hs.1,by have:=hs.2; omega⟩⟩
theorem FO.fp {wz:World}{Bz b:Nat}{q:Option Addr}{j:V × Int}(h:FO wz Bz q j)(hf:∀ k,Bz≤k→Aw mb un uv k)(hb:b<Bz):FP wz q (fun k=>Aw mb un uv k∧b<k) ⟨j.1,[],j.2⟩:=
 FP.mono h fun k hk=>⟨hf k hk,by omega⟩
theorem FB.fp {wz:World}{Bz b fb:Nat}{e:Int}(h:FB wz fb (fun k=>Bz≤k) e [])(he:e≠0)(hf:∀ k,Bz≤k→Aw mb un uv k)(hb:b<Bz):FP wz (some ⟨fb,0,none⟩) (fun k=>Aw mb un uv k∧b<k) (erR e):=
 .inr ⟨he,fb,rfl,h.mono fun k hk=>⟨hf k hk,by omega⟩⟩
def RFindC:Prop:=∀ (n:W8)(w:World),n.length≤1000→Calls Tryz.prog 91 #[.string ⟨n.toArray⟩] w fun e w'=>e=.returned (.tuple #[.agg (unitR n).v.cells,.bool (decide ((unitR n).e=0))])∧Below w.heap.size w w'
theorem gx_set {xb i:Nat}{w0 w:World}(h:Gx xb w0 w) (v:Value):Gx xb w0 (w.setCell ⟨xb,i,none⟩ v):=
 gx_gr h ⟨rfl,rfl,rfl,by rw [World.size_setCell]; exact Nat.le_refl _,fun k _ hk=>Below.heap_setCell _ ⟨xb,i,none⟩ v k (fun e=>hk (by rw [e]))⟩
set_option maxRecDepth 100000 in
set_option maxHeartbeats 4000000 in
theorem value_num (t:T)(hw:WF t)(hk:t.kind=1)(s:Sc)(A:Option Addr)(ca c:Nat)(w:World)(vn vv:Value)(hm:MS w mb B s c vn vv):
  Calls Tryz.prog 47 #[.pointer (some ⟨mb,0,none⟩),.agg (tv t A ca)] w fun e w'=>VOut2 w w' mb B s vn vv (ev t s c) e:=by
 have HO:=hid (own_short' hw.parts.1)
 have HB:=hid (b2 w (.cells (tv t A ca) 24) (.cells #[.int .i64 0,.int .i64 0,.int .i64 0,.int .i64 0,.int .i64 0,.int .i64 0,.int .i64 0,.int .i64 0,.int .i64 0] 44))
 have HX:Hid (Bxd ((w.alloc (.cells (tv t A ca) 24)).alloc (.cells #[.int .i64 0,.int .i64 0,.int .i64 0,.int .i64 0,.int .i64 0,.int .i64 0,.int .i64 0,.int .i64 0,.int .i64 0] 44)) w.heap.size t A ca):=(bxd_new w t A ca).below (b1 _ (.cells #[.int .i64 0,.int .i64 0,.int .i64 0,.int .i64 0,.int .i64 0,.int .i64 0,.int .i64 0,.int .i64 0,.int .i64 0] 44)) (by simp)
 have HK:Hid (K9 ((w.alloc (.cells (tv t A ca) 24)).alloc (.cells #[.int .i64 0,.int .i64 0,.int .i64 0,.int .i64 0,.int .i64 0,.int .i64 0,.int .i64 0,.int .i64 0,.int .i64 0] 44)) (w.heap.size+1) zV):=by
  have h:=K9.new (w.alloc (.cells (tv t A ca) 24)) zV
  rw [World.size_alloc]at h
  exact h
 have HM:Hid (MS ((w.alloc (.cells (tv t A ca) 24)).alloc (.cells #[.int .i64 0,.int .i64 0,.int .i64 0,.int .i64 0,.int .i64 0,.int .i64 0,.int .i64 0,.int .i64 0,.int .i64 0] 44)) mb B s c vn vv):=hm.reach HB.out
 have HG:Hid (Gm w ((w.alloc (.cells (tv t A ca) 24)).alloc (.cells #[.int .i64 0,.int .i64 0,.int .i64 0,.int .i64 0,.int .i64 0,.int .i64 0,.int .i64 0,.int .i64 0,.int .i64 0] 44)) mb vn vv vn vv):=Gm.bel HB.out
 have HAB:Hid (Aw mb vn vv (w.heap.size+1)):=hm.fresh (Nat.le_succ _)
 have HAX:Hid (Aw mb vn vv w.heap.size):=hm.fresh (Nat.le_refl _)
 have HSZ:Hid (((w.alloc (.cells (tv t A ca) 24)).alloc (.cells #[.int .i64 0,.int .i64 0,.int .i64 0,.int .i64 0,.int .i64 0,.int .i64 0,.int .i64 0,.int .i64 0,.int .i64 0] 44)).heap.size=w.heap.size+2):=by show _=_; simp
 have HBL:Hid (B≤w.heap.size):=hm.bLe
 have HEV:Hid (ev t s c=(⟨(joinQ (Q.parseQ t.name) zD 0).1,[],(joinQ (Q.parseQ t.name) zD 0).2⟩,c)):=by show _=_; rw [ev_eq,hk]; rfl
 have HP:=hid fun wz=>Q.rparse_any ⟨t.name.toArray⟩ t.name wz (by simp) (by have:=HO.out.2 hk; show t.name.length≤60; omega)
 unfold Q.Res.val at HP;generalize Q.parseQ t.name=j at*;obtain ⟨qn,qd,qe⟩:=j
 have HJ:=hid fun wz=>made_any qn qd qe zD 0 wz
 generalize joinQ ⟨qn,qd,qe⟩ zD 0=R at*;obtain ⟨jv,je⟩:=R
 unfold Dm.cells zD V.cells at HJ;dsimp only at HEV
 go_enter Tryz.func47,Tryz.ntmps47;go_upto_region 1 with (fail);generalize (w.alloc (.cells (tv t A ca) 24)).alloc (.cells #[.int .i64 0,.int .i64 0,.int .i64 0,.int .i64 0,.int .i64 0,.int .i64 0,.int .i64 0,.int .i64 0,.int .i64 0] 44)=w1 at*;have hww:w.heap.size<w1.heap.size:=by have:=HB.out.size; have:=HSZ.out; omega
 obtain ⟨k0,k1,k2,k3,k4⟩:=HX.out
 rw [hk]at k0
 go_wp2_with fail;refine (HP.out w1).mono ?_
 rintro r w2 ⟨rfl,hb2⟩
 have hb3:=bl_tr hb2 (b1 w2 (.cells #[.int .i64 qn,.int .i64 qd] 64))
 have HB3:=hid hb3
 have HR3:Hid (H2 (w2.alloc (.cells #[.int .i64 qn,.int .i64 qd] 64)) w2.heap.size qn qd):=H2.new w2 qn qd
 go_upto_region 4 with (fail);clear hb2 hb3 k0 k1 k2 k3 k4;generalize w2.alloc (.cells #[.int .i64 qn,.int .i64 qd] 64)=w3 at*;have HM3:=hid (HM.out.reach HB3.out)
 have HG3:=hid (HG.out.tr (Gm.bel HB3.out))
 have HK3:=hid (HK.out.reach HB3.out)
 obtain ⟨⟨m0,m1⟩,_,_⟩:=HR3.out.cells
 go_wp2_with fail;refine (HJ.out w3).mono ?_
 rintro r w4 ⟨q',rfl,hfo,hb4⟩
 have HM4:=hid (HM3.out.reach hb4)
 have HG4:=hid (HG3.out.tr (Gm.bel hb4))
 have HFO:=hid hfo
 have HLT:Hid ((w.heap.size+1)<w3.heap.size):=HK3.out.cells.2.2
 have HFR:=hid fun (k:Nat)(h:w3.heap.size≤k)=>HM3.out.fresh h
 obtain ⟨⟨⟨z0,z1⟩,z2,z3,z4,z5,z6,z7,z8⟩,zf,_⟩:=(HK3.out.reach hb4).cells
 clear hfo hb4 m0 m1;go_wp2_with fail;rw [HEV.out];refine bodyPost_ret (v:=.tuple #[.agg jv.cells,.pointer q']) (by simp [results,Tryz.results47,go_sem,V.cells,z0,z1,z2,z3,z4,z5,z6,z7,z8]) rfl ?_
 exact VOut.fin (g:=(⟨jv,[],je⟩,c)) (Nat.le_succ _) HM4.out HG4.out HAB.out (HFO.out.fp HFR.out HLT.out)
set_option maxRecDepth 100000 in
set_option maxHeartbeats 4000000 in
theorem value_text (HF:RFindC)(t:T)(hw:WF t)(hk:t.kind=3)(s:Sc)(A:Option Addr)(ca c:Nat)(w:World)(vn vv:Value)(hm:MS w mb B s c vn vv):
  Calls Tryz.prog 47 #[.pointer (some ⟨mb,0,none⟩),.agg (tv t A ca)] w fun e w'=>VOut2 w w' mb B s vn vv (ev t s c) e:=by
 have HO:=hid (own_short' hw.parts.1)
 have HB:=hid (b2 w (.cells (tv t A ca) 24) (.cells #[.int .i64 0,.int .i64 0,.int .i64 0,.int .i64 0,.int .i64 0,.int .i64 0,.int .i64 0,.int .i64 0,.int .i64 0] 44))
 have HX:Hid (Bxd ((w.alloc (.cells (tv t A ca) 24)).alloc (.cells #[.int .i64 0,.int .i64 0,.int .i64 0,.int .i64 0,.int .i64 0,.int .i64 0,.int .i64 0,.int .i64 0,.int .i64 0] 44)) w.heap.size t A ca):=(bxd_new w t A ca).below (b1 _ (.cells #[.int .i64 0,.int .i64 0,.int .i64 0,.int .i64 0,.int .i64 0,.int .i64 0,.int .i64 0,.int .i64 0,.int .i64 0] 44)) (by simp)
 have HK:Hid (K9 ((w.alloc (.cells (tv t A ca) 24)).alloc (.cells #[.int .i64 0,.int .i64 0,.int .i64 0,.int .i64 0,.int .i64 0,.int .i64 0,.int .i64 0,.int .i64 0,.int .i64 0] 44)) (w.heap.size+1) zV):=by
  have h:=K9.new (w.alloc (.cells (tv t A ca) 24)) zV
  rw [World.size_alloc]at h
  exact h
 have HM:Hid (MS ((w.alloc (.cells (tv t A ca) 24)).alloc (.cells #[.int .i64 0,.int .i64 0,.int .i64 0,.int .i64 0,.int .i64 0,.int .i64 0,.int .i64 0,.int .i64 0,.int .i64 0] 44)) mb B s c vn vv):=hm.reach HB.out
 have HG:Hid (Gm w ((w.alloc (.cells (tv t A ca) 24)).alloc (.cells #[.int .i64 0,.int .i64 0,.int .i64 0,.int .i64 0,.int .i64 0,.int .i64 0,.int .i64 0,.int .i64 0,.int .i64 0] 44)) mb vn vv vn vv):=Gm.bel HB.out
 have HAB:Hid (Aw mb vn vv (w.heap.size+1)):=hm.fresh (Nat.le_succ _)
 have HAX:Hid (Aw mb vn vv w.heap.size):=hm.fresh (Nat.le_refl _)
 have HSZ:Hid (((w.alloc (.cells (tv t A ca) 24)).alloc (.cells #[.int .i64 0,.int .i64 0,.int .i64 0,.int .i64 0,.int .i64 0,.int .i64 0,.int .i64 0,.int .i64 0,.int .i64 0] 44)).heap.size=w.heap.size+2):=by show _=_; simp
 have HBL:Hid (B≤w.heap.size):=hm.bLe
 have HEV:Hid (ev t s c=(unitR t.name,c)):=by show _=_; rw [ev_eq,hk]; rfl
 have HFD:=hid fun wz=>HF t.name wz (by have:=HO.out.1; omega)
 have HU:Hid (((unitR t.name).e=0∧unitR t.name=okR (unitR t.name).v)∨unitR t.name=erR 11):=by
  show _∨_
  unfold unitR lookR;dsimp only
  cases unitTab.lookup t.name with
  | none=>exact .inr rfl
  | some v=>exact .inl ⟨rfl,rfl⟩
 generalize unitR t.name=R at*;unfold V.cells at HFD;go_enter Tryz.func47,Tryz.ntmps47;go_upto_region 1 with (fail);generalize (w.alloc (.cells (tv t A ca) 24)).alloc (.cells #[.int .i64 0,.int .i64 0,.int .i64 0,.int .i64 0,.int .i64 0,.int .i64 0,.int .i64 0,.int .i64 0,.int .i64 0] 44)=w1 at*;have hww:w.heap.size<w1.heap.size:=by have:=HB.out.size; have:=HSZ.out; omega
 obtain ⟨k0,k1,k2,k3,k4⟩:=HX.out
 rw [hk]at k0
 go_wp2_with fail;refine (HFD.out w1).mono ?_
 rintro r w2 ⟨rfl,hb2⟩
 have hb3:=bl_tr hb2 (b1 w2 (.cells #[.int .i64 R.v.num,.int .i64 R.v.den,.int .i64 R.v.dim.a,.int .i64 R.v.dim.b,.int .i64 R.v.dim.c,.int .i64 R.v.dim.d,.int .i64 R.v.dim.e,.int .i64 R.v.dim.f,.int .i64 R.v.dim.g] 44))
 have HB3:=hid hb3
 have HR3:Hid (K9 (w2.alloc (.cells #[.int .i64 R.v.num,.int .i64 R.v.den,.int .i64 R.v.dim.a,.int .i64 R.v.dim.b,.int .i64 R.v.dim.c,.int .i64 R.v.dim.d,.int .i64 R.v.dim.e,.int .i64 R.v.dim.f,.int .i64 R.v.dim.g] 44)) w2.heap.size R.v):=K9.new w2 R.v
 go_upto_region 7 with (fail);clear hb2 hb3 k0 k1 k2 k3 k4;generalize w2.alloc (.cells #[.int .i64 R.v.num,.int .i64 R.v.den,.int .i64 R.v.dim.a,.int .i64 R.v.dim.b,.int .i64 R.v.dim.c,.int .i64 R.v.dim.d,.int .i64 R.v.dim.e,.int .i64 R.v.dim.f,.int .i64 R.v.dim.g] 44)=w3 at*;generalize w2.heap.size=m3 at*;have HM3:=hid (HM.out.reach HB3.out)
 have HG3:=hid (HG.out.tr (Gm.bel HB3.out))
 have HK3:=hid (HK.out.reach HB3.out)
 have HAB':=HAB
 rcases HU.out with ⟨he,hR⟩|hR
 ·have heb:decide (R.e=0)=true:=decide_eq_true he
  have HE2:Hid (ev t s c=(okR R.v,c)):=by show _=_; rw [HEV.out,← hR]
  obtain ⟨⟨⟨p0,p1⟩,p2,p3,p4,p5,p6,p7,p8⟩,pf,_⟩:=HR3.out.cells
  obtain ⟨⟨⟨z0,z1⟩,z2,z3,z4,z5,z6,z7,z8⟩,zf,_⟩:=HK3.out.cells
  clear he hR;rw [heb];go_wp2_with fail;rw [HE2.out];refine bodyPost_ret (v:=.tuple #[.agg R.v.cells,.pointer none]) (by simp [results,Tryz.results47,go_sem,V.cells,z0,z1,z2,z3,z4,z5,z6,z7,z8]) rfl ?_
  exact VOut.fin (g:=(okR R.v,c)) (Nat.le_succ _) HM3.out HG3.out HAB.out (.inl ⟨rfl,rfl⟩)
 ·have HE2:Hid (ev t s c=(erR 11,c)):=by show _=_; rw [HEV.out,hR]
  have heb:decide (R.e=0)=false:=by rw [hR]; decide
  clear hR;rw [heb];go_wp2_with fail;refine (fail_any 11 w3).mono ?_
  rintro r' wf ⟨fb,rfl,hfb,hbf⟩
  have HMf:=hid (HM3.out.reach hbf)
  have HGf:=hid (HG3.out.tr (Gm.bel hbf))
  have HF2:=hid hfb
  have HLT:Hid ((w.heap.size+1)<w3.heap.size):=HK3.out.cells.2.2
  have HFR:=hid fun (k:Nat)(h:w3.heap.size≤k)=>HM3.out.fresh h
  obtain ⟨⟨⟨y0,y1⟩,y2,y3,y4,y5,y6,y7,y8⟩,yf,_⟩:=(HK3.out.reach hbf).cells
  clear hfb hbf;go_wp2_with fail;rw [HE2.out];refine bodyPost_ret (v:=.tuple #[.agg (erR 11).v.cells,.pointer (some ⟨fb,0,none⟩)]) (by simp [results,Tryz.results47,go_sem,erR,V.cells,zV,zD,y0,y1,y2,y3,y4,y5,y6,y7,y8]) rfl ?_
  exact VOut.fin (g:=(erR 11,_)) (Nat.le_succ _) HMf.out HGf.out (HAB'.out) (HF2.out.fp (by decide) HFR.out HLT.out)
theorem lk_drop {s:Sc}{k:Nat}{x:W8}(hk:k<s.length)(hne:s[k].1≠x):lkR (s.drop k) x=lkR (s.drop (k+1)) x:=by
 rw [List.drop_eq_getElem_cons hk,show s[k]=(s[k].1,s[k].2)from rfl,lk_cons,if_neg (fun e=>hne e.symm)]
theorem lk_drop_yes {s:Sc}{k:Nat}{x:W8}(hk:k<s.length)(he:s[k].1=x):lkR (s.drop k) x=okR s[k].2:=by
 rw [List.drop_eq_getElem_cons hk,show s[k]=(s[k].1,s[k].2)from rfl,lk_cons,if_pos he.symm]
theorem drewN_two (w:World)(n m:Nat):(w.drewN n).drewN m=w.drewN (n+m):=by
 unfold World.drewN;simp [Nat.add_assoc]
theorem rev_at {α:Type}{l:List α}{j k:Nat}(h:j+k+1=l.length):l.reverse[j]'(by rw [List.length_reverse]; omega)=l[k]'(by omega):=by
 rw [List.getElem_reverse];congr 1; omega
set_option maxRecDepth 100000 in
set_option maxHeartbeats 4000000 in
theorem value_var (t:T)(hw:WF t)(hk:t.kind=2)(s:Sc)(hsz:s.length≤5000)(A:Option Addr)(ca c:Nat)(w:World)(vn vv:Value)(hm:MS w mb B s c vn vv):
  Calls Tryz.prog 47 #[.pointer (some ⟨mb,0,none⟩),.agg (tv t A ca)] w fun e w'=>VOut2 w w' mb B s vn vv (ev t s c) e:=by
 have HO:=hid (own_short' hw.parts.1)
 have HB:=hid (b2 w (.cells (tv t A ca) 24) (.cells #[.int .i64 0,.int .i64 0,.int .i64 0,.int .i64 0,.int .i64 0,.int .i64 0,.int .i64 0,.int .i64 0,.int .i64 0] 44))
 have HX:Hid (Bxd ((w.alloc (.cells (tv t A ca) 24)).alloc (.cells #[.int .i64 0,.int .i64 0,.int .i64 0,.int .i64 0,.int .i64 0,.int .i64 0,.int .i64 0,.int .i64 0,.int .i64 0] 44)) w.heap.size t A ca):=(bxd_new w t A ca).below (b1 _ (.cells #[.int .i64 0,.int .i64 0,.int .i64 0,.int .i64 0,.int .i64 0,.int .i64 0,.int .i64 0,.int .i64 0,.int .i64 0] 44)) (by simp)
 have HK:Hid (K9 ((w.alloc (.cells (tv t A ca) 24)).alloc (.cells #[.int .i64 0,.int .i64 0,.int .i64 0,.int .i64 0,.int .i64 0,.int .i64 0,.int .i64 0,.int .i64 0,.int .i64 0] 44)) (w.heap.size+1) zV):=by
  have h:=K9.new (w.alloc (.cells (tv t A ca) 24)) zV
  rw [World.size_alloc]at h
  exact h
 have HM:Hid (MS ((w.alloc (.cells (tv t A ca) 24)).alloc (.cells #[.int .i64 0,.int .i64 0,.int .i64 0,.int .i64 0,.int .i64 0,.int .i64 0,.int .i64 0,.int .i64 0,.int .i64 0] 44)) mb B s c vn vv):=hm.reach HB.out
 have HG:Hid (Gm w ((w.alloc (.cells (tv t A ca) 24)).alloc (.cells #[.int .i64 0,.int .i64 0,.int .i64 0,.int .i64 0,.int .i64 0,.int .i64 0,.int .i64 0,.int .i64 0,.int .i64 0] 44)) mb vn vv vn vv):=Gm.bel HB.out
 have HAB:Hid (Aw mb vn vv (w.heap.size+1)):=hm.fresh (Nat.le_succ _)
 have HAX:Hid (Aw mb vn vv w.heap.size):=hm.fresh (Nat.le_refl _)
 have HSZ:Hid (((w.alloc (.cells (tv t A ca) 24)).alloc (.cells #[.int .i64 0,.int .i64 0,.int .i64 0,.int .i64 0,.int .i64 0,.int .i64 0,.int .i64 0,.int .i64 0,.int .i64 0] 44)).heap.size=w.heap.size+2):=by show _=_; simp
 have HBL:Hid (B≤w.heap.size):=hm.bLe
 have HEV:Hid (ev t s c=(lkR s t.name,c)):=by show _=_; rw [ev_eq,hk]; rfl
 have HCN:=hm.hn
 have HCV:=hm.hv.sv
 obtain ⟨An,cn,hvn,⟨hn1,hn2⟩,hnc⟩:=hm.hn.sl
 obtain ⟨Av,cv,hvv,⟨hv1,hv2⟩,hvc⟩:=hm.hv.sv
 rw [List.length_reverse,List.length_map]at hvn hn1 hvv hv1
 have HNC:Hid (∀ (k j:Nat)(hk:k<s.length),j+k+1=s.length→∃ b o,An=some ⟨b,o,none⟩∧w.cell? ⟨b,o+j,none⟩=some (.string ⟨s[k].1.toArray⟩)):=fun k j hk hj=>by
  obtain ⟨b,o,e,_,h⟩:=hnc (by intro e; have:=congrArg List.length e; simp at this; subst this; simp at hk)
  refine ⟨b,o,e,?_⟩
  have h1:=h j (by rw [List.length_reverse,List.length_map]; omega)
  rw [rev_at (k:=k) (by rw [List.length_map]; exact hj),List.getElem_map]at h1
  exact h1
 have HVC:Hid (∀ (k j:Nat)(hk:k<s.length),j+k+1=s.length→∃ b o,Av=some ⟨b,o,none⟩∧C9 w b (o+j*9) s[k].2):=fun k j hk hj=>by
  obtain ⟨b,o,e,h⟩:=hvc (by intro e; have:=congrArg List.length e; simp at this; subst this; simp at hk)
  refine ⟨b,o,e,?_⟩
  have h1:=h j (by rw [List.length_reverse,List.length_map]; omega)
  rw [rev_at (k:=k) (by rw [List.length_map]; exact hj),List.getElem_map]at h1
  exact h1
 clear HCN HCV hnc hvc;go_enter Tryz.func47,Tryz.ntmps47;go_upto_region 1 with (fail);generalize (w.alloc (.cells (tv t A ca) 24)).alloc (.cells #[.int .i64 0,.int .i64 0,.int .i64 0,.int .i64 0,.int .i64 0,.int .i64 0,.int .i64 0,.int .i64 0,.int .i64 0] 44)=w1 at*;have hww:w.heap.size<w1.heap.size:=by have:=HB.out.size; have:=HSZ.out; omega
 obtain ⟨k0,k1,k2,k3,k4⟩:=HX.out
 rw [hk]at k0
 obtain ⟨c0,c1,c2,_,_⟩:=HM.out.cells
 rw [hvn]at c0
 rw [hvv]at c1
 have hnl:(s.length:Int)≤5000:=by omega
 have hAB':=HAB
 have hw0:IntKind.i64.wrap ((s.length:Int)-1)=(s.length:Int)-1:=wrap64_small (by omega) (by omega)
 go_wp2_with fail;go_loopg [10] 5001 (fun gg s10 wr=>∃ (k n:Nat) (z:Int),k≤s.length∧s.length-k<gg∧s10=.int .i64 z∧Aside (z=(s.length:Int)-1-(k:Int))∧Aside (lkR s t.name=lkR (s.drop k) t.name)∧Aside (wr=w1.drewN n))
 case atStart=>exact ⟨0,0,(s.length:Int)-1,Nat.zero_le _,by omega,rfl,by show _=_; omega,rfl,rfl⟩
 case round=>
  obtain ⟨k,nd,z,hkl,hgg,rfl,HZ,HL,HW⟩:=hrel
  have hbn:Below w1.heap.size w1 wr:=by have h:=HW.out; rw [h]; exact Q.below_drewN w1 nd
  have HMr:=hid (HM.out.reach hbn)
  have HGr:=hid (HG.out.tr (Gm.bel hbn))
  have HKr:=hid (HK.out.reach hbn)
  have kr1:wr.cell? ⟨w.heap.size,1,none⟩=some (.string ⟨t.name.toArray⟩):=(hbn.cell (p:=⟨w.heap.size,1,none⟩) hww).trans k1
  obtain ⟨e0,e1,e2,_,_⟩:=HMr.out.cells
  rw [hvn]at e0
  rw [hvv]at e1
  have HBN:=hid hbn
  clear hbn;by_cases hlt:k<s.length
  ·obtain ⟨j,hj⟩:∃ j:Nat,z=(j:Int):=⟨s.length-1-k,by have:=HZ.out; omega⟩
   subst hj;have hjk:j+k+1=s.length:=by have:=HZ.out; omega
   have hjz:(0:Int)≤(j:Int):=Int.natCast_nonneg j
   have hjl:(j:Int)<(s.length:Int):=by omega
   obtain ⟨b,ob,rfl,cn0⟩:=HNC.out k j hlt hjk
   have HCV:=hid (HVC.out k j hlt hjk)
   have cn1:wr.cell? ⟨b,ob+j,none⟩=some (.string ⟨s[k].1.toArray⟩):=(HBN.out.cell (p:=⟨b,ob+j,none⟩) (Nat.lt_of_lt_of_le (block_lt_of_cell cn0) (Nat.le_of_lt hww))).trans ((HB.out.cell (p:=⟨b,ob+j,none⟩) (block_lt_of_cell cn0)).trans cn0)
   have HLN:=hid fun (h:s[k].1≠t.name)=>HL.out.trans (lk_drop hlt h)
   have HLY:=hid fun (h:s[k].1=t.name)=>HL.out.trans (lk_drop_yes hlt h)
   generalize s[k]=pk at*;obtain ⟨nk,vk⟩:=pk
   dsimp only at cn1 HLN HLY HCV
   clear cn0 HL;by_cases he:nk=t.name
   ·have heb:(nk == t.name)=true:=by simpa using he
    have HE2:Hid (ev t s c=(okR vk,c)):=by show _=_; rw [HEV.out,HLY.out he]
    clear he HLN HLY;obtain ⟨b2,o2,rfl,cv0⟩:=HCV.out
    go_upto_region 14 with (fail);go_cut [64] (fun s64 wx=>s64=.bool true∧∃ m,wx=wr.drewN m)
    case first=>
     go_quiet (fail)
     go_wp2_with fail;go_meet
     case rel=>exact ⟨rfl,nq,rfl⟩
    case rest=>
     obtain ⟨rfl,m,rfl⟩:=hcut
     have hbm:Below wr.heap.size wr (wr.drewN m):=Q.below_drewN wr m
     have HM5:=hid (HMr.out.reach hbm)
     have HG5:=hid (HGr.out.tr (Gm.bel hbm))
     have HK5:=hid (HKr.out.reach hbm)
     have hb15:=bl_tr (bl_tr HB.out HBN.out) hbm
     obtain ⟨⟨p0,p1⟩,p2,p3,p4,p5,p6,p7,p8⟩:=cv0.reach hb15
     obtain ⟨f0,f1,f2,_,_⟩:=HM5.out.cells
     rw [hvn]at f0
     rw [hvv]at f1
     clear hbm hb15 e0 e1 e2 cn1 kr1;generalize wr.drewN m=w5 at*;obtain ⟨⟨⟨z0,z1⟩,z2,z3,z4,z5,z6,z7,z8⟩,zf,_⟩:=HK5.out.cells
     go_wp2_with fail;rw [HE2.out];refine bodyPost_ret (v:=.tuple #[.agg vk.cells,.pointer none]) (by simp [results,Tryz.results47,go_sem,V.cells,z0,z1,z2,z3,z4,z5,z6,z7,z8]) rfl ?_
     exact VOut.fin (g:=(okR vk,c)) (Nat.le_succ _) HM5.out HG5.out HAB.out (.inl ⟨rfl,rfl⟩)
   ·have heb:(nk == t.name)=false:=by simpa using he
    have HL2:=hid (HLN.out he)
    clear he HLN HLY;have hwj:IntKind.i64.wrap ((j:Int)-1)=(j:Int)-1:=wrap64_small (by omega) (by omega)
    go_upto_region 14 with (fail);go_cut [64] (fun s64 wx=>s64=.bool false∧∃ m,wx=wr.drewN m)
    case first=>
     go_quiet (fail)
     go_wp2_with fail;go_meet
     case rel=>exact ⟨rfl,nq,rfl⟩
    case rest=>
     obtain ⟨rfl,m,rfl⟩:=hcut
     go_wp2_with fail;go_roundg (s.length-k)
     case measure=>omega
     case rel=>exact ⟨k+1,nd+m,(j:Int)-1,by omega,by omega,rfl,by show _=_; omega,HL2.out,by show _=_; rw [HW.out]; exact drewN_two w1 nd m⟩
  ·have hzneg:¬ (0:Int)≤z:=by have:=HZ.out; omega
   have HE2:Hid (ev t s c=(erR 11,c)):=by
    show _=_
    rw [HEV.out,HL.out,List.drop_eq_nil_of_le (by omega)]; rfl
   have HAB':=HAB
   go_wp2_with fail;refine (fail_any 11 wr).mono ?_
   rintro r' wf ⟨fb,rfl,hfb,hbf⟩
   have HMf:=hid (HMr.out.reach hbf)
   have HGf:=hid (HGr.out.tr (Gm.bel hbf))
   have HF2:=hid hfb
   have HLT:Hid ((w.heap.size+1)<wr.heap.size):=HKr.out.cells.2.2
   have HFR:=hid fun (k:Nat)(h:wr.heap.size≤k)=>HMr.out.fresh h
   obtain ⟨⟨⟨y0,y1⟩,y2,y3,y4,y5,y6,y7,y8⟩,yf,_⟩:=(HKr.out.reach hbf).cells
   clear hfb hbf;go_wp2_with fail;rw [HE2.out];refine bodyPost_ret (v:=.tuple #[.agg (erR 11).v.cells,.pointer (some ⟨fb,0,none⟩)]) (by simp [results,Tryz.results47,go_sem,erR,V.cells,zV,zD,y0,y1,y2,y3,y4,y5,y6,y7,y8]) rfl ?_
   exact VOut.fin (g:=(erR 11,_)) (Nat.le_succ _) HMf.out HGf.out (HAB'.out) (HF2.out.fp (by decide) HFR.out HLT.out)
end Go.Proofs.YtknpigdpepmimaaGreatDoor
namespace Go.Proofs.YtknpigdpepmimaaGreatDoor
open Go.Lib(hid)
open Go
section
variable {P:Program}{ops:Array Oper}{Q:Exit→Act→World→Prop}{md:Region.Mode}{S:World→Prop}{last:Nat}
theorem wpAnyJ_free_first {i:Nat}{oi:Oper}{v:Value}(hi:ops[i]?=some oi)(hsel:∀ (j:Nat)(o:Oper) cs b,ops[j]?=some o→o.op≠.select cs b)(hil:i≠last)
  (hQ:∀ c a w,Q (.panic c) (a.put oi.dst v) w→Q (.panic c) a w):
  ∀ (fuel:Nat)(listed:Array Bool)(a:Act)(w:World),
   (∀ j oj,ops[j]?=some oj→j≠i→listed.getD j true=false→(∀ e∈oj.after,Region.binds md e=true→e.on≠i)→oi.apart ops oj=true)→
   i∈Region.ready md ops listed→YieldsIf P ops (fun _=>True) oi v a→(listed.getD last true=false→S w)→
   wpAnyJ P md ops Q S last fuel (listed.setIfInBounds i true) (a.put oi.dst v) w→wpAnyJ P md ops Q S last (fuel+1) listed a w:=by
 intro fuel;induction fuel with
 | zero=>
  intro listed a w _ hr hy hS H;refine ⟨fun h=>(by rw [h]at hr; cases hr),fun j hj=>?_⟩
  by_cases hji:j=i
  ·subst hji; exact hy.wpOp hi trivial ⟨fun h=>hS (by
    simp only [Array.getD_eq_getD_getElem?,Array.getElem?_setIfInBounds_ne hil]at h ⊢; exact h),H⟩
  ·have:=ready_mono hj hji
   rw [H.1]at this
   cases this
 | succ fuel ih=>
  intro listed a w hfree hr hy hS H;refine ⟨fun h=>(by rw [h]at hr; cases hr),fun j hj=>?_⟩
  by_cases hji:j=i
  ·subst hji; exact hy.wpOp hi trivial ⟨fun h=>hS (by
    simp only [Array.getD_eq_getD_getElem?,Array.getElem?_setIfInBounds_ne hil]at h ⊢; exact h),H⟩
  ·have h1:=H.2 j (ready_mono hj hji)
   obtain ⟨hjun,oj,hoj,hall⟩:=mem_ready.1 hj
   have hnot:∀ e∈oj.after,Region.binds md e=true→e.on≠i:=fun e he hb heq=>by
    have h1:=hall e he hb
    have h0:=(mem_ready.1 hr).1
    rw [heq]at h1
    rcases Nat.lt_or_ge i listed.size with h'|h'
    ·simp [h']at h0 h1; rw [h0]at h1; cases h1
    ·simp [Array.getElem?_eq_none h']at h1
   have h2:=wpOp_putIf hoj (hfree j oj hoj hji hjun hnot) (fun cs b=>hsel i oi cs b hi) (fun cs b=>hsel j oj cs b hoj) hQ hy h1
   have hfree':∀ k ok,ops[k]?=some ok→k≠i→(listed.setIfInBounds j true).getD k true=false→
     (∀ e∈ok.after,Region.binds md e=true→e.on≠i)→oi.apart ops ok=true:=fun k ok hk hki hun hno=>by
    refine hfree k ok hk hki ?_ hno
    by_cases hjk:j=k
    ·subst hjk; exact hjun
    ·rw [getD_set_ne true hjk]at hun; exact hun
   refine wpOp_mono (fun a' w' h3=>?_) h2
   have hS2:(listed.setIfInBounds j true).getD last true=false→S w':=fun h=>h3.2.1 (by
    rw [Array.setIfInBounds_comm _ _ (Ne.symm hji)];simp only [Array.getD_eq_getD_getElem?,Array.getElem?_setIfInBounds_ne hil]at h ⊢; exact h)
   refine ⟨hS2,ih (listed.setIfInBounds j true) a' w' hfree' (ready_mono hr (Ne.symm hji)) h3.1 hS2 ?_⟩
   rw [Array.setIfInBounds_comm _ _ hji];exact h3.2.2
theorem wpAnyJ_free {i:Nat}{oi:Oper}{v:Value}{fuel:Nat}{listed:Array Bool}{a:Act}{w:World}(hi:ops[i]?=some oi)
  (hs:Region.noSelect ops=true)(hf:Region.free md ops listed i=true)(hr:(Region.ready md ops listed).contains i=true)(hil:(i != last)=true)
  (hQ:∀ c a w,Q (.panic c) (a.put oi.dst v) w→Q (.panic c) a w)(hy:YieldsIf P ops (fun _=>True) oi v a)(hS:S w)
  (h:wpAnyJ P md ops Q S last fuel (listed.setIfInBounds i true) (a.put oi.dst v) w):wpAnyJ P md ops Q S last (fuel+1) listed a w:=
 wpAnyJ_free_first hi (Region.noSelect_spec hs) (by simpa using hil) hQ fuel listed a w (Region.free_spec hi hf) (by simpa using hr) hy (fun _=>hS) h
end
open Go.RowKit Go.Maps
variable {w w' w0:World}{mb B:Nat}{c:Nat}{un uv c0 c1 vn vv:Value}{ln:List W8}{lv:List V}
theorem MQ.pd (h:MQ w0 w mb B un uv c0 c1 vn vv ln lv c)(a:Array Value)(ty:TypeId):Pd (w.alloc (.cells a ty)) w.heap.size (.cells a ty (0,0)) vn vv:=
 ⟨heap_alloc_new w _,fun e=>by have:=(h.hn.lt _ e).2; omega,fun e=>by have:=(h.hv.lt _ e).2; omega⟩
theorem MQ.cells (h:MQ w0 w mb B un uv c0 c1 vn vv ln lv c):w.cell? ⟨mb,0,none⟩=some c0∧w.cell? ⟨mb,1,none⟩=some c1∧∀ i,w.frozen? ⟨mb,i,none⟩=false:=by
 refine ⟨?_,?_,fun i=>?_⟩<;>simp [World.cell?,World.frozen?,h.ht]
theorem MQ.bLe (h:MQ w0 w mb B un uv c0 c1 vn vv ln lv c):B≤w.heap.size:=by have:=h.hB; have:=h.lt; omega
end Go.Proofs.YtknpigdpepmimaaGreatDoor
