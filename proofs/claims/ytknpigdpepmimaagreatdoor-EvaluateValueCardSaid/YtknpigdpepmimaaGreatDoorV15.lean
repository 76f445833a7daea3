/- Contract of Parse. -/
import Derived.Laws.AppendOwn
import Derived.Test.YtknpigdpepmimaaGreatDoorV05
import Derived.Test.YtknpigdpepmimaaGreatDoorV13
import Derived.Test.YtknpigdpepmimaaGreatDoorV14
import Derived.Laws.EntriesVeiled
import Derived.Deep.CutBlock
import Derived.Deep.DeepCutAuto
namespace Go.Proofs.YtknpigdpepmimaaGreatDoor.Q
open Go.Lib(hid)
open Go.RowKit
structure Max (w:World):Prop where
 cell:∃ m,w.cell? ⟨0,0,none⟩=some (.int .i64 m)
theorem Max.below {w w':World}(h:Max w)(hb:Below w.heap.size w w'):Max w':=by
 obtain ⟨m,hm⟩:=h.cell
 have hlt:0<w.heap.size:=World.block_lt_of_cell? w _ hm
 exact ⟨m,(hb.cell (p:=⟨0,0,none⟩) hlt).trans hm⟩
theorem below_drewN (w:World) (n:Nat):Below w.heap.size w (w.drewN n):=⟨rfl,rfl,rfl,Nat.le_refl _,fun _ _=>rfl⟩
theorem cut_any (l:List UInt8)(w:World)(hl:l.length≤60)(hm:Max w):
  Calls Tryz.prog 126 #[.string ⟨l.toArray⟩,.string ⟨#[46]⟩] w fun e w'=>e=.returned (.tuple #[.string ⟨(Lib.cut l [46]).1.toArray⟩,.string ⟨(Lib.cut l [46]).2.1.toArray⟩,.bool (Lib.cut l [46]).2.2])∧Below w.heap.size w w':=by
 obtain ⟨m,hm⟩:=hm.cell
 exact (Tryz.strings_Cut ⟨l.toArray⟩ ⟨#[46]⟩ m w (by rw [size_mk]; omega) hm).mono fun _ _ ⟨he,n,hw⟩=>⟨by simpa using he,hw▸below_drewN w n⟩
theorem digsL_any (l:List UInt8)(w:World)(hl:l.length≤1000):
  Calls Tryz.prog 127 #[.string ⟨l.toArray⟩] w fun r w'=>r=.returned (.bool (digs l))∧w=w':=by
 have:=digs_any ⟨l.toArray⟩ w (by rw [size_mk]; exact hl)
 simpa using this
theorem res2t {w w1:World}{v0 v1:Value}{t:TypeId}(hb:Below (w.alloc (.cells #[v0,v1] t)).heap.size (w.alloc (.cells #[v0,v1] t)) w1){w2:World}(h2:Below w1.heap.size w1 w2):
  Below (w.alloc (.cells #[v0,v1] t)).heap.size (w.alloc (.cells #[v0,v1] t)) w2:=hb.trans (h2.mono hb.size)
theorem pow_farP {t f k:Nat}(h:2147483647<2 ^ k)(hk:k≤t):2147483647<2 ^ t*5 ^ f:=by
 have h1:2 ^ k≤2 ^ t:=Nat.pow_le_pow_right (by decide) hk
 have h2:2 ^ t*1≤2 ^ t*5 ^ f:=Nat.mul_le_mul_left _ (Nat.pow_pos (by decide))
 omega
theorem pow_far5 {t f k:Nat}(h:2147483647<2 ^ t*5 ^ k)(hk:k≤f):2147483647<2 ^ t*5 ^ f:=by
 have h1:5 ^ k≤5 ^ f:=Nat.pow_le_pow_right (by decide) hk
 have h2:2 ^ t*5 ^ k≤2 ^ t*5 ^ f:=Nat.mul_le_mul_left _ h1
 omega
theorem ans_no_num {v k:Nat}(h:¬ num2 v k≤2147483647):ansQ v k=⟨0,0,2⟩:=by unfold ansQ; rw [if_neg (fun h'=>h h'.1)]
theorem ans_no_den {v k:Nat}(h:2147483647<2 ^ twos v k*5 ^ fives v k):ansQ v k=⟨0,0,2⟩:=by unfold ansQ; rw [if_neg (fun h'=>by omega)]
theorem ans_yes {v k:Nat}(h1:num2 v k≤2147483647)(h2:2 ^ twos v k*5 ^ fives v k≤2147483647):ansQ v k=⟨(num2 v k:Nat),((2 ^ twos v k*5 ^ fives v k:Nat):Int),0⟩:=by unfold ansQ; rw [if_pos ⟨h1,h2⟩]
structure Fnd (l:List UInt8)(W R:List UInt8)(N:List UInt8)(n t f:Nat):Prop where
 num:n=smallN N
 dig:∀ c∈N,isD c=true
 val:valD N=num2 (valD (W++trimR R)) (trimR R).length
 tw:t=twos (valD (W++trimR R)) (trimR R).length
 fi:f=fives (valD (W++trimR R)) (trimR R).length
 ans:parseQ l=ansQ (valD (W++trimR R)) (trimR R).length
section
variable {l W R N:List UInt8}{n t f:Nat}
theorem Fnd.no_num (h:Fnd l W R N n t f)(hn:¬ valD N≤2147483647):parseQ l=⟨0,0,2⟩:=by rw [h.ans]; exact ans_no_num (by rw [← h.val]; exact hn)
theorem Fnd.no_two (h:Fnd l W R N n t f){k:Nat}(hk:k≤t)(h2:2147483647<2 ^ k):parseQ l=⟨0,0,2⟩:=by
 rw [h.ans]; exact ans_no_den (pow_farP h2 (by rw [← h.tw]; exact hk))
theorem Fnd.no_five (h:Fnd l W R N n t f){k:Nat}(hk:k≤f)(h2:2147483647<2 ^ t*5 ^ k):parseQ l=⟨0,0,2⟩:=by
 rw [h.ans]; rw [h.tw]at h2; exact ans_no_den (pow_far5 h2 (by rw [← h.fi]; exact hk))
theorem Fnd.yes (h:Fnd l W R N n t f)(hn:valD N≤2147483647)(h2:2 ^ t*5 ^ f≤2147483647):parseQ l=⟨(n:Nat),((2 ^ t*5 ^ f:Nat):Int),0⟩:=by
 have e:smallN N=valD N:=by
  unfold smallN;rw [if_neg];intro h10;have:=val_far N h.dig h10
  omega
 rw [h.ans,ans_yes (by rw [← h.val]; exact hn) (by rw [← h.tw,← h.fi]; exact h2),h.num,e,h.val,← h.tw,← h.fi]
end
theorem mem_isD {W R:List UInt8}(hw:digs W=true)(hr:∀ c∈R,isD c=true):∀ c∈W++trimR R,isD c=true:=fun c hc=>by
 rcases List.mem_append.1 hc with h|h
 ·exact ((digs_iff W).1 hw).2 c h
 ·exact hr c (trimR_sub R c h)
set_option maxRecDepth 100000 in
set_option maxHeartbeats 4000000 in
theorem parse_any (l:List UInt8)(w:World)(hl:l.length≤60)(hm:Max w):
  Calls Tryz.prog 78 #[.string ⟨l.toArray⟩] w fun e w'=>e=.returned (parseQ l).val∧Below w.heap.size w w':=by
 have l3:=cut_len l
 have l4:=cut_rest l
 have hsz:(⟨l.toArray⟩:ByteArray).size=l.length:=size_mk l
 have HQ:Hid (parseQ l=if 40<l.length∨digs (Lib.cut l [46]).1=false∨((Lib.cut l [46]).2.2=true∧digs (Lib.cut l [46]).2.1=false)then ⟨0,0,3⟩else decQ (Lib.cut l [46]).1 (Lib.cut l [46]).2.1):=rfl
 have hb0:Below w.heap.size w (w.alloc (.cells #[.int .i64 0,.int .i64 0] 57)):=(Below.refl _ _).alloc (Nat.le_refl _) _
 have HM:=hid (hm.below hb0)
 clear hm hb0;go_enter Tryz.func78,Tryz.ntmps78;go_wp2_with fail;refine (cut_any l _ hl HM.out).mono ?_
 rintro e w1 ⟨rfl,hb1⟩
 obtain ⟨⟨wh,re,pt⟩,hx⟩:∃ x,x=Lib.cut l [46]:=⟨_,rfl⟩
 rw [← hx]at HQ l3 l4 ⊢
 clear hx;simp only at HQ l3 l4 ⊢
 have HB1:=hid hb1
 clear hb1 HM;by_cases h40:40<l.length
 ·have h40z:(40:Int)<(l.length:Int):=by omega
  have HR:Hid (parseQ l=⟨0,0,3⟩):=HQ.out.trans (if_pos (.inl h40))
  obtain ⟨⟨q0,q1⟩,qf,qs,hB1⟩:=res2 HB1.out
  have HBB:=hid hB1
  clear hB1;go_wp2_with fail;refine bodyPost_ret (v:=.tuple #[.agg #[.int .i64 0,.int .i64 0],.int .i64 3]) (by simp [results,Tryz.results78,go_sem,q0,q1]) rfl ⟨?_,?_⟩
  ·rw [HR.out]; rfl
  ·exact (HBB.out.setCell (Nat.le_refl _) _).setCell (Nat.le_refl _) _
 ·have h40z:¬ (40:Int)<(l.length:Int):=by omega
  cases hdw:digs wh with
  | false=>
   have HR:Hid (parseQ l=⟨0,0,3⟩):=HQ.out.trans (if_pos (.inr (.inl hdw)))
   have HDW:=hid hdw
   clear hdw;go_wp2_with fail;refine (digsL_any wh _ (by omega)).mono ?_
   rw [HDW.out];rintro e w' ⟨rfl,rfl⟩
   obtain ⟨⟨q0,q1⟩,qf,qs,hB1⟩:=res2 HB1.out
   have HBB:=hid hB1
   clear hB1;go_wp2_with fail;refine bodyPost_ret (v:=.tuple #[.agg #[.int .i64 0,.int .i64 0],.int .i64 3]) (by simp [results,Tryz.results78,go_sem,q0,q1]) rfl ⟨?_,?_⟩
   ·rw [HR.out]; rfl
   ·exact (HBB.out.setCell (Nat.le_refl _) _).setCell (Nat.le_refl _) _
  | true=>
   have HDW:=hid hdw
   clear hdw;go_wp2_with fail;refine (digsL_any wh _ (by omega)).mono ?_
   rw [HDW.out];rintro e w' ⟨rfl,rfl⟩
   cases pt with
   | false=>
    have hre:re=[]:=l4 rfl
    have HRE:=hid hre
    clear l4 hre;have HALL:Hid (∀ c∈re,isD c=true):=by show ∀ c∈re,isD c=true; rw [HRE.out]; simp
    have HA:Hid (parseQ l=decQ wh re):=HQ.out.trans (if_neg (by rintro (h|h|h); exact h40 h; exact absurd h (by rw [HDW.out]; decide); exact absurd h.1 (by decide)))
    have hrl:=trimR_len re
    have HMI:=hid (mem_isD HDW.out HALL.out)
    obtain ⟨R,hR⟩:∃ R,R=trimR re:=⟨_,rfl⟩
    have HRR:=hid hR
    have hsR:(⟨R.toArray⟩:ByteArray).size=R.length:=size_mk R
    rw [← hR]at hrl HMI
    go_wp2_with fail;refine (trimRight_any re _ (by omega)).mono ?_
    rw [← hR];clear hR;rintro e w' ⟨rfl,rfl⟩
    go_wp2_with fail;rw [show (⟨wh.toArray⟩:ByteArray)++⟨R.toArray⟩=⟨(wh++R).toArray⟩from cat wh R]
    have s1:=shL_spec 2 (by decide) R.length (wh++R) HMI.out
    refine (shorten_any (wh++R) 2 R.length _ (by rw [List.length_append]; omega) (by omega) (by decide) (by decide) HMI.out).mono ?_
    obtain ⟨⟨N1,t⟩,hN1⟩:∃ x,x=shL 2 R.length (wh++R):=⟨_,rfl⟩
    rw [← hN1]at s1 ⊢
    clear hN1;simp only at s1 ⊢
    rintro e w2 ⟨rfl,hb2⟩
    have HB2:=hid (res2t HB1.out hb2)
    clear hb2 HB1;have S1:=hid s1
    have hlN1:N1.length≤1000:=by rw [s1.2.1,List.length_append]; omega
    clear s1;go_wp2_with fail;have s2:=shL_spec 5 (by decide) R.length N1 S1.out.1
    refine (shorten_any N1 5 R.length _ hlN1 (by omega) (by decide) (by decide) S1.out.1).mono ?_
    obtain ⟨⟨N,f⟩,hN⟩:∃ x,x=shL 5 R.length N1:=⟨_,rfl⟩
    rw [← hN]at s2 ⊢
    clear hN;simp only at s2 ⊢
    rintro e w3 ⟨rfl,hb3⟩
    have HB3:=hid (res2t HB2.out hb3)
    clear hb3 HB2;have S2:=hid s2
    have hlN:N.length≤1000:=by rw [s2.2.1]; exact hlN1
    clear s2
    have HF:Hid (Fnd l wh re N (smallN N) t f):=by
     show Fnd l wh re N (smallN N) t f
     have e1:=S1.out
     have e2:=S2.out
     have eR:=HRR.out
     refine ⟨rfl,e2.1,?_,?_,?_,?_⟩
     ·rw [e2.2.2.1,e1.2.2.1,← eR]; rfl
     ·rw [e1.2.2.2,← eR]; rfl
     ·rw [e2.2.2.2,e1.2.2.1,← eR]; rfl
     ·rw [HA.out,ans_dec]
    have ht:t≤60:=by rw [S1.out.2.2.2]; have:=(shN_spec 2 (by decide) R.length (valD (wh++R))).1; omega
    have hf:f≤60:=by rw [S2.out.2.2.2]; have:=(shN_spec 5 (by decide) R.length (valD N1)).1; omega
    go_wp2_with fail;refine (small_any N _ hlN S2.out.1).mono ?_
    clear S1 S2 HA HALL HMI HRR HQ;obtain ⟨n,hn⟩:∃ n,n=smallN N:=⟨_,rfl⟩
    rw [← hn]at HF ⊢
    clear hn;cases hv:decide (valD N≤2147483647) with
    | false=>
     have HR:Hid (parseQ l=⟨0,0,2⟩):=HF.out.no_num (of_decide_eq_false hv)
     clear hv;rintro e w' ⟨rfl,rfl⟩
     have HBX:=HB3
     obtain ⟨⟨q0,q1⟩,qf,qs,hB1⟩:=res2 HBX.out
     have HBB:=hid hB1
     clear hB1;go_wp2_with fail;refine bodyPost_ret (v:=.tuple #[.agg #[.int .i64 0,.int .i64 0],.int .i64 2]) (by simp [results,Tryz.results78,go_sem,q0,q1]) rfl ⟨?_,?_⟩
     ·rw [HR.out]; rfl
     ·exact (HBB.out.setCell (Nat.le_refl _) _).setCell (Nat.le_refl _) _
    | true=>
     have HV:Hid (valD N≤2147483647):=by show valD N≤2147483647; exact of_decide_eq_true hv
     clear hv;rintro e w' ⟨rfl,rfl⟩
     go_wp2_with fail;go_loopg [12,63] t (fun gg s12 s63 wr=>∃ k:Nat,k≤t∧t-k≤gg∧wr=w3∧s63=.int .i64 k∧s12=.int .i64 ((2 ^ k:Nat):Int)∧2 ^ k≤2147483647)
     case atStart=>exact ⟨0,Nat.zero_le _,by omega,rfl,rfl,rfl,by decide⟩
     case round=>
      obtain ⟨k,hk,hgg,rfl,rfl,rfl,hk2⟩:=hrel
      by_cases hlt:k<t
      ·have hltz:(k:Int)<(t:Int):=by omega
       have hpw:2 ^ (k+1)=2 ^ k*2:=Nat.pow_succ 2 k
       by_cases hbig:2147483647<2 ^ (k+1)
       ·have HR:Hid (parseQ l=⟨0,0,2⟩):=HF.out.no_two hlt hbig
        obtain ⟨x,hx⟩:∃ x,x=2 ^ k:=⟨_,rfl⟩
        rw [hpw]at hbig
        rw [← hx]at hbig hk2 ⊢
        clear hpw hx;have hbz:(2147483647:Int)<(x:Int)*2:=by omega
        have HBX:=HB3
        obtain ⟨⟨q0,q1⟩,qf,qs,hB1⟩:=res2 HBX.out
        have HBB:=hid hB1
        clear hB1;go_wp2_with fail;refine bodyPost_ret (v:=.tuple #[.agg #[.int .i64 0,.int .i64 0],.int .i64 2]) (by simp [results,Tryz.results78,go_sem,q0,q1]) rfl ⟨?_,?_⟩
        ·rw [HR.out]; rfl
        ·exact (HBB.out.setCell (Nat.le_refl _) _).setCell (Nat.le_refl _) _
       ·have HPW:=hid hpw
        obtain ⟨x,hx⟩:∃ x,x=2 ^ k:=⟨_,rfl⟩
        rw [hpw]at hbig
        rw [← hx]at hbig hk2 HPW ⊢
        clear hpw hx;have hbz:¬ (2147483647:Int)<(x:Int)*2:=by omega
        go_wp2_with fail;go_roundg (t-(k+1))
        case measure=>omega
        case rel=>exact ⟨k+1,by omega,by omega,rfl,by go_num,by rw [HPW.out]; go_num,by rw [HPW.out]; omega⟩
      ·have hltz:¬ (k:Int)<(t:Int):=by omega
       obtain rfl:k=t:=by omega
       obtain ⟨w3,hw3⟩:∃ w3,w3=wr:=⟨_,rfl⟩
       subst hw3;go_wp2_with fail;go_loopg [12,72] f (fun gg s12 s72 wr=>∃ j:Nat,j≤f∧f-j≤gg∧wr=w3∧s72=.int .i64 j∧s12=.int .i64 ((2 ^ k*5 ^ j:Nat):Int)∧2 ^ k*5 ^ j≤2147483647)
       case atStart=>exact ⟨0,Nat.zero_le _,by omega,rfl,rfl,by simp,by simpa using hk2⟩
       case round=>
        obtain ⟨j,hj,hgg2,rfl,rfl,rfl,hj2⟩:=hrel
        by_cases hlt2:j<f
        ·have hltz2:(j:Int)<(f:Int):=by omega
         have hpw:2 ^ k*5 ^ (j+1)=2 ^ k*5 ^ j*5:=by rw [Nat.pow_succ,Nat.mul_assoc]
         by_cases hbig:2147483647<2 ^ k*5 ^ (j+1)
         ·have HR:Hid (parseQ l=⟨0,0,2⟩):=HF.out.no_five hlt2 hbig
          obtain ⟨x,hx⟩:∃ x,x=2 ^ k*5 ^ j:=⟨_,rfl⟩
          rw [hpw]at hbig
          rw [← hx]at hbig hj2 ⊢
          clear hpw hx hk2;have hbz:(2147483647:Int)<(x:Int)*5:=by omega
          have HBX:=HB3
          obtain ⟨⟨q0,q1⟩,qf,qs,hB1⟩:=res2 HBX.out
          have HBB:=hid hB1
          clear hB1;go_wp2_with fail;refine bodyPost_ret (v:=.tuple #[.agg #[.int .i64 0,.int .i64 0],.int .i64 2]) (by simp [results,Tryz.results78,go_sem,q0,q1]) rfl ⟨?_,?_⟩
          ·rw [HR.out]; rfl
          ·exact (HBB.out.setCell (Nat.le_refl _) _).setCell (Nat.le_refl _) _
         ·have HPW:=hid hpw
          obtain ⟨x,hx⟩:∃ x,x=2 ^ k*5 ^ j:=⟨_,rfl⟩
          rw [hpw]at hbig
          rw [← hx]at hbig hj2 HPW ⊢
          clear hpw hx hk2;have hbz:¬ (2147483647:Int)<(x:Int)*5:=by omega
          go_wp2_with fail;go_roundg (f-(j+1))
          case measure=>omega
          case rel=>exact ⟨j+1,by omega,by omega,rfl,by go_num,by rw [HPW.out]; go_num,by rw [HPW.out]; omega⟩
        ·have hltz2:¬ (j:Int)<(f:Int):=by omega
         obtain rfl:j=f:=by omega
         have HR:Hid (parseQ l=⟨(n:Nat),((2 ^ k*5 ^ j:Nat):Int),0⟩):=HF.out.yes HV.out hj2
         obtain ⟨x,hx⟩:∃ x,x=2 ^ k*5 ^ j:=⟨_,rfl⟩
         rw [← hx]at hj2 HR ⊢
         clear hx hk2;have HBX:=HB3
         obtain ⟨⟨q0,q1⟩,qf,qs,hB1⟩:=res2 HBX.out
         have HBB:=hid hB1
         clear hB1;go_wp2_with fail;refine bodyPost_ret (v:=.tuple #[.agg #[.int .i64 (n:Int),.int .i64 (x:Int)],.int .i64 0]) (by simp [results,Tryz.results78,go_sem,q0,q1]) rfl ⟨?_,?_⟩
         ·rw [HR.out]; rfl
         ·exact (HBB.out.setCell (Nat.le_refl _) _).setCell (Nat.le_refl _) _
   | true=>
    clear l4;cases hdr:digs re with
    | false=>
     have HR:Hid (parseQ l=⟨0,0,3⟩):=HQ.out.trans (if_pos (.inr (.inr ⟨rfl,hdr⟩)))
     have HDR:=hid hdr
     clear hdr;go_wp2_with fail;refine (digsL_any re _ (by omega)).mono ?_
     rw [HDR.out];rintro e w' ⟨rfl,rfl⟩
     have HBX:=HB1
     obtain ⟨⟨q0,q1⟩,qf,qs,hB1⟩:=res2 HBX.out
     have HBB:=hid hB1
     clear hB1;go_wp2_with fail;refine bodyPost_ret (v:=.tuple #[.agg #[.int .i64 0,.int .i64 0],.int .i64 3]) (by simp [results,Tryz.results78,go_sem,q0,q1]) rfl ⟨?_,?_⟩
     ·rw [HR.out]; rfl
     ·exact (HBB.out.setCell (Nat.le_refl _) _).setCell (Nat.le_refl _) _
    | true=>
     have HDR:=hid hdr
     clear hdr;go_wp2_with fail;refine (digsL_any re _ (by omega)).mono ?_
     rw [HDR.out];rintro e w' ⟨rfl,rfl⟩
     have HALL:Hid (∀ c∈re,isD c=true):=((digs_iff re).1 HDR.out).2
     have HA:Hid (parseQ l=decQ wh re):=HQ.out.trans (if_neg (by rintro (h|h|h); exact h40 h; exact absurd h (by rw [HDW.out]; decide); exact absurd h.2 (by rw [HDR.out]; decide)))
     have hrl:=trimR_len re
     have HMI:=hid (mem_isD HDW.out HALL.out)
     obtain ⟨R,hR⟩:∃ R,R=trimR re:=⟨_,rfl⟩
     have HRR:=hid hR
     have hsR:(⟨R.toArray⟩:ByteArray).size=R.length:=size_mk R
     rw [← hR]at hrl HMI
     go_wp2_with fail;refine (trimRight_any re _ (by omega)).mono ?_
     rw [← hR];clear hR;rintro e w' ⟨rfl,rfl⟩
     go_wp2_with fail;rw [show (⟨wh.toArray⟩:ByteArray)++⟨R.toArray⟩=⟨(wh++R).toArray⟩from cat wh R]
     have s1:=shL_spec 2 (by decide) R.length (wh++R) HMI.out
     refine (shorten_any (wh++R) 2 R.length _ (by rw [List.length_append]; omega) (by omega) (by decide) (by decide) HMI.out).mono ?_
     obtain ⟨⟨N1,t⟩,hN1⟩:∃ x,x=shL 2 R.length (wh++R):=⟨_,rfl⟩
     rw [← hN1]at s1 ⊢
     clear hN1;simp only at s1 ⊢
     rintro e w2 ⟨rfl,hb2⟩
     have HB2:=hid (res2t HB1.out hb2)
     clear hb2 HB1;have S1:=hid s1
     have hlN1:N1.length≤1000:=by rw [s1.2.1,List.length_append]; omega
     clear s1;go_wp2_with fail;have s2:=shL_spec 5 (by decide) R.length N1 S1.out.1
     refine (shorten_any N1 5 R.length _ hlN1 (by omega) (by decide) (by decide) S1.out.1).mono ?_
     obtain ⟨⟨N,f⟩,hN⟩:∃ x,x=shL 5 R.length N1:=⟨_,rfl⟩
     rw [← hN]at s2 ⊢
     clear hN;simp only at s2 ⊢
     rintro e w3 ⟨rfl,hb3⟩
     have HB3:=hid (res2t HB2.out hb3)
     clear hb3 HB2;have S2:=hid s2
     have hlN:N.length≤1000:=by rw [s2.2.1]; exact hlN1
     clear s2
     have HF:Hid (Fnd l wh re N (smallN N) t f):=by
      show Fnd l wh re N (smallN N) t f
      have e1:=S1.out
      have e2:=S2.out
      have eR:=HRR.out
      refine ⟨rfl,e2.1,?_,?_,?_,?_⟩
      ·rw [e2.2.2.1,e1.2.2.1,← eR]; rfl
      ·rw [e1.2.2.2,← eR]; rfl
      ·rw [e2.2.2.2,e1.2.2.1,← eR]; rfl
      ·rw [HA.out,ans_dec]
     have ht:t≤60:=by rw [S1.out.2.2.2]; have:=(shN_spec 2 (by decide) R.length (valD (wh++R))).1; omega
     have hf:f≤60:=by rw [S2.out.2.2.2]; have:=(shN_spec 5 (by decide) R.length (valD N1)).1; omega
     go_wp2_with fail;refine (small_any N _ hlN S2.out.1).mono ?_
     clear S1 S2 HA HALL HMI HRR HQ;obtain ⟨n,hn⟩:∃ n,n=smallN N:=⟨_,rfl⟩
     rw [← hn]at HF ⊢
     clear hn;cases hv:decide (valD N≤2147483647) with
     | false=>
      have HR:Hid (parseQ l=⟨0,0,2⟩):=HF.out.no_num (of_decide_eq_false hv)
      clear hv;rintro e w' ⟨rfl,rfl⟩
      have HBX:=HB3
      obtain ⟨⟨q0,q1⟩,qf,qs,hB1⟩:=res2 HBX.out
      have HBB:=hid hB1
      clear hB1;go_wp2_with fail;refine bodyPost_ret (v:=.tuple #[.agg #[.int .i64 0,.int .i64 0],.int .i64 2]) (by simp [results,Tryz.results78,go_sem,q0,q1]) rfl ⟨?_,?_⟩
      ·rw [HR.out]; rfl
      ·exact (HBB.out.setCell (Nat.le_refl _) _).setCell (Nat.le_refl _) _
     | true=>
      have HV:Hid (valD N≤2147483647):=by show valD N≤2147483647; exact of_decide_eq_true hv
      clear hv;rintro e w' ⟨rfl,rfl⟩
      go_wp2_with fail;go_loopg [12,63] t (fun gg s12 s63 wr=>∃ k:Nat,k≤t∧t-k≤gg∧wr=w3∧s63=.int .i64 k∧s12=.int .i64 ((2 ^ k:Nat):Int)∧2 ^ k≤2147483647)
      case atStart=>exact ⟨0,Nat.zero_le _,by omega,rfl,rfl,rfl,by decide⟩
      case round=>
       obtain ⟨k,hk,hgg,rfl,rfl,rfl,hk2⟩:=hrel
       by_cases hlt:k<t
       ·have hltz:(k:Int)<(t:Int):=by omega
        have hpw:2 ^ (k+1)=2 ^ k*2:=Nat.pow_succ 2 k
        by_cases hbig:2147483647<2 ^ (k+1)
        ·have HR:Hid (parseQ l=⟨0,0,2⟩):=HF.out.no_two hlt hbig
         obtain ⟨x,hx⟩:∃ x,x=2 ^ k:=⟨_,rfl⟩
         rw [hpw]at hbig
         rw [← hx]at hbig hk2 ⊢
         clear hpw hx;have hbz:(2147483647:Int)<(x:Int)*2:=by omega
         have HBX:=HB3
         obtain ⟨⟨q0,q1⟩,qf,qs,hB1⟩:=res2 HBX.out
         have HBB:=hid hB1
         clear hB1;go_wp2_with fail;refine bodyPost_ret (v:=.tuple #[.agg #[.int .i64 0,.int .i64 0],.int .i64 2]) (by simp [results,Tryz.results78,go_sem,q0,q1]) rfl ⟨?_,?_⟩
         ·rw [HR.out]; rfl
         ·exact (HBB.out.setCell (Nat.le_refl _) _).setCell (Nat.le_refl _) _
        ·have HPW:=hid hpw
         obtain ⟨x,hx⟩:∃ x,x=2 ^ k:=⟨_,rfl⟩
         rw [hpw]at hbig
         rw [← hx]at hbig hk2 HPW ⊢
         clear hpw hx;have hbz:¬ (2147483647:Int)<(x:Int)*2:=by omega
         go_wp2_with fail;go_roundg (t-(k+1))
         case measure=>omega
         case rel=>exact ⟨k+1,by omega,by omega,rfl,by go_num,by rw [HPW.out]; go_num,by rw [HPW.out]; omega⟩
       ·have hltz:¬ (k:Int)<(t:Int):=by omega
        obtain rfl:k=t:=by omega
        obtain ⟨w3,hw3⟩:∃ w3,w3=wr:=⟨_,rfl⟩
        subst hw3;go_wp2_with fail;go_loopg [12,72] f (fun gg s12 s72 wr=>∃ j:Nat,j≤f∧f-j≤gg∧wr=w3∧s72=.int .i64 j∧s12=.int .i64 ((2 ^ k*5 ^ j:Nat):Int)∧2 ^ k*5 ^ j≤2147483647)
        case atStart=>exact ⟨0,Nat.zero_le _,by omega,rfl,rfl,by simp,by simpa using hk2⟩
        case round=>
         obtain ⟨j,hj,hgg2,rfl,rfl,rfl,hj2⟩:=hrel
         by_cases hlt2:j<f
         ·have hltz2:(j:Int)<(f:Int):=by omega
          have hpw:2 ^ k*5 ^ (j+1)=2 ^ k*5 ^ j*5:=by rw [Nat.pow_succ,Nat.mul_assoc]
          by_cases hbig:2147483647<2 ^ k*5 ^ (j+1)
          ·have HR:Hid (parseQ l=⟨0,0,2⟩):=HF.out.no_five hlt2 hbig
           obtain ⟨x,hx⟩:∃ x,x=2 ^ k*5 ^ j:=⟨_,rfl⟩
           rw [hpw]at hbig
           rw [← hx]at hbig hj2 ⊢
           clear hpw hx hk2;have hbz:(2147483647:Int)<(x:Int)*5:=by omega
           have HBX:=HB3
           obtain ⟨⟨q0,q1⟩,qf,qs,hB1⟩:=res2 HBX.out
           have HBB:=hid hB1
           clear hB1;go_wp2_with fail;refine bodyPost_ret (v:=.tuple #[.agg #[.int .i64 0,.int .i64 0],.int .i64 2]) (by simp [results,Tryz.results78,go_sem,q0,q1]) rfl ⟨?_,?_⟩
           ·rw [HR.out]; rfl
           ·exact (HBB.out.setCell (Nat.le_refl _) _).setCell (Nat.le_refl _) _
          ·have HPW:=hid hpw
           obtain ⟨x,hx⟩:∃ x,x=2 ^ k*5 ^ j:=⟨_,rfl⟩
           rw [hpw]at hbig
           rw [← hx]at hbig hj2 HPW ⊢
           clear hpw hx hk2;have hbz:¬ (2147483647:Int)<(x:Int)*5:=by omega
           go_wp2_with fail;go_roundg (f-(j+1))
           case measure=>omega
           case rel=>exact ⟨j+1,by omega,by omega,rfl,by go_num,by rw [HPW.out]; go_num,by rw [HPW.out]; omega⟩
         ·have hltz2:¬ (j:Int)<(f:Int):=by omega
          obtain rfl:j=f:=by omega
          have HR:Hid (parseQ l=⟨(n:Nat),((2 ^ k*5 ^ j:Nat):Int),0⟩):=HF.out.yes HV.out hj2
          obtain ⟨x,hx⟩:∃ x,x=2 ^ k*5 ^ j:=⟨_,rfl⟩
          rw [← hx]at hj2 HR ⊢
          clear hx hk2;have HBX:=HB3
          obtain ⟨⟨q0,q1⟩,qf,qs,hB1⟩:=res2 HBX.out
          have HBB:=hid hB1
          clear hB1;go_wp2_with fail;refine bodyPost_ret (v:=.tuple #[.agg #[.int .i64 (n:Int),.int .i64 (x:Int)],.int .i64 0]) (by simp [results,Tryz.results78,go_sem,q0,q1]) rfl ⟨?_,?_⟩
          ·rw [HR.out]; rfl
          ·exact (HBB.out.setCell (Nat.le_refl _) _).setCell (Nat.le_refl _) _
end Go.Proofs.YtknpigdpepmimaaGreatDoor.Q
namespace Go.Proofs.YtknpigdpepmimaaGreatDoor
open Go.Lib(hid)
open Go.RowKit Go.Maps
def valC (l:List V):List Value:=l.flatMap fun v=>v.cells.toList
theorem valC_snoc (l:List V)(x:V):valC (l++[x])=valC l++x.cells.toList:=by
 unfold valC; rw [List.flatMap_append]; simp
theorem valC_at:∀ (l:List V) (i:Nat)(h:i<l.length) (j:Nat) (u:Value),l[i].cells.toList[j]?=some u→(valC l)[i*9+j]?=some u
 | [],i,h,_,_,_=>by simp at h
 | x::l,0,h,j,u,hu=>by
  show (x.cells.toList++valC l)[0*9+j]?=_
  have hj:j<x.cells.toList.length:=(List.getElem?_eq_some_iff.1 hu).1
  rw [Nat.zero_mul,Nat.zero_add,List.getElem?_append_left hj]; exact hu
 | x::l,i+1,h,j,u,hu=>by
  show (x.cells.toList++valC l)[(i+1)*9+j]?=_
  have e:x.cells.toList.length=9:=rfl
  rw [List.getElem?_append_right (by rw [e]; omega),e,show (i+1)*9+j-9=i*9+j from by omega]
  exact valC_at l i (by simpa using h) j u (by simpa using hu)
def OV (w:World) (B:Nat) (v:Value)(l:List V):Prop:=w.ownsRow B 44 9 v l.length (valC l)
theorem ov_nil (w:World) (B:Nat):OV w B (.slice none 0 0) []:=World.ownsRow_nil _ _ _ _
theorem OV.sv {w:World}{B:Nat}{v:Value}{l:List V}(h:OV w B v l):SV w v l:=by
 rcases h.2 with ⟨rfl,hz⟩|⟨g,cap,cur,rfl,h1,h2,h3,h4,h5,h6⟩
 ·have e:l=[]:=List.eq_nil_of_length_eq_zero hz
  subst e;exact ⟨none,0,rfl,⟨Nat.le_refl _,by omega⟩,fun h=>absurd rfl h⟩
 ·refine ⟨some ⟨g,0,none⟩,cap,rfl,⟨h3,by unfold maxLen at h4; omega⟩,fun _=>⟨g,0,rfl,fun i hi=>?_⟩⟩
  have hc:∀ j u,l[i].cells.toList[j]?=some u→w.cell? ⟨g,0+i*9+j,none⟩=some u:=fun j u hu=>by
   have:=World.ownsRow.cells (g:=g) h rfl (i*9+j) u (valC_at l i hi j u hu)
   rw [addr_addF]at this
   rw [Nat.zero_add]; rw [Nat.zero_add]at this; exact this
  exact ⟨⟨hc 0 _ rfl,hc 1 _ rfl⟩,hc 2 _ rfl,hc 3 _ rfl,hc 4 _ rfl,hc 5 _ rfl,hc 6 _ rfl,hc 7 _ rfl,hc 8 _ rfl⟩
theorem val_info:(Tryz.prog.info? 44).map (fun i=>(i.zero,i.size,i.bytes))=some (some (.agg zV.cells),9,72):=by kernel_rfl
theorem val_one (x:V):∀ u∈x.cells.toList,u.oneCell'=true:=fun u hu=>by
 simp [V.cells]at hu
 rcases hu with rfl|rfl|rfl|rfl|rfl|rfl|rfl|rfl|rfl<;>rfl
theorem app26 {ops:Array Oper}{rest:List Oper}{o:Oper}{a:Act}{Q:Exit→Act→World→Prop}(w:World)(hgd:o.guard=none)(s x:Operand)
  (ho:o.op=.call { callee:=.builtin .append,args:=#[s,x],argTypes:=#[26,26] }) (B:Nat) (v:Value)(l:List V)(u:V) (pb:Nat)(hown:OV w B v l)(hs:a.eval s=v)
  (hx:a.eval x=.slice (some ⟨pb,0,none⟩) 1 1)(hc:C9 w pb 0 u)(hl:l.length≤10000)(hB:B≤w.heap.size)
  (h:∀ v' w',OV w' B v' (l++[u])→w.grownBy w' v.ownBlock→wpList Tryz.prog ops Q rest (a.put o.dst v') w'):wpList Tryz.prog ops Q (o::rest) a w:=by
 obtain ⟨i0,hi0,hz0,hz1,hz2⟩:=info_parts val_info
 refine wpList_append_own _ hgd s x 26 ho B 44 i0 _ 9 72 Tryz.underlying26 hi0 hz0 hz1 hz2 rfl (by decide) v l.length _ hs hown ⟨pb,0,none⟩ 1 1 u.cells.toList hx rfl (fun j y hy=>?_) (val_one u) (by unfold maxLen; omega) (by omega) hB (fun v' w' h1 h2 _=>?_)
 ·rw [addr_addF,Nat.zero_add]
  have hj:j<9:=(List.getElem?_eq_some_iff.1 hy).1
  obtain ⟨⟨c0,c1⟩,c2,c3,c4,c5,c6,c7,c8⟩:=hc
  rcases (show j=0∨j=1∨j=2∨j=3∨j=4∨j=5∨j=6∨j=7∨j=8 by omega)with rfl|rfl|rfl|rfl|rfl|rfl|rfl|rfl|rfl
  ·exact c0.trans hy
  ·exact c1.trans hy
  ·exact c2.trans hy
  ·exact c3.trans hy
  ·exact c4.trans hy
  ·exact c5.trans hy
  ·exact c6.trans hy
  ·exact c7.trans hy
  ·exact c8.trans hy
 ·refine h v' w' ?_ h2
  unfold OV;rw [List.length_append,valC_snoc];exact h1
structure Cx (w:World)(xb nb ob B0:Nat)(E:Sc) (c:Nat):Prop where
 eb:EB w xb nb ob c
 env:EnvM w nb E
 opm:w.ownsMap Tryz.prog 9 RvV ob 15 (mapD opsL)
 hB:B0≤xb
 hn:nb≠xb
 ho:ob≠xb
 mx:Max w
 h0:0<B0
theorem Cx.nlt {w:World}{xb nb ob B0 c:Nat}{E:Sc}(h:Cx w xb nb ob B0 E c):nb<w.heap.size:=h.env.own.lt
theorem Cx.olt {w:World}{xb nb ob B0 c:Nat}{E:Sc}(h:Cx w xb nb ob B0 E c):ob<w.heap.size:=h.opm.lt
theorem Cx.xlt {w:World}{xb nb ob B0 c:Nat}{E:Sc}(h:Cx w xb nb ob B0 E c):xb<w.heap.size:=h.eb.cells.2.2
theorem Cx.step {w w':World}{xb nb ob B0 c c':Nat}{E:Sc}(h:Cx w xb nb ob B0 E c)(hg:w.grownBy w' (some xb))(he:EB w' xb nb ob c'):Cx w' xb nb ob B0 E c' where
 eb:=he
 env:=h.env.block (hg.block nb h.nlt (fun e=>h.hn (Option.some.inj e)))
 opm:=own_block h.opm (hg.block ob h.olt (fun e=>h.ho (Option.some.inj e)))
 hB:=h.hB
 hn:=h.hn
 ho:=h.ho
 mx:=by
  obtain ⟨m,hm⟩:=h.mx.cell
  have hlt:0<w.heap.size:=World.block_lt_of_cell? w _ hm
  have h1:=h.hB
  have h2:=h.h0
  exact ⟨m,(cell_of_block (hg.block 0 hlt (fun e=>by have:=Option.some.inj e; omega)) 0).trans hm⟩
 h0:=h.h0
theorem grown_of_below {w w':World}(hb:Below w.heap.size w w')(r:Option Nat):w.grownBy w' r:=⟨hb.os,hb.tape,hb.output,hb.size,fun k hk _=>hb.block k hk⟩
theorem Cx.reach {w w':World}{xb nb ob B0 c:Nat}{E:Sc}(h:Cx w xb nb ob B0 E c)(hb:Below w.heap.size w w'):Cx w' xb nb ob B0 E c:=
 h.step (grown_of_below hb _) ((hb.block xb h.xlt).trans h.eb)
theorem grown_tr {w w1 w2:World}{xb:Nat}(h1:w.grownBy w1 (some xb))(h2:w1.grownBy w2 (some xb)):w.grownBy w2 (some xb):=
 ⟨h2.os.trans h1.os,h2.tape.trans h1.tape,h2.output.trans h1.output,Nat.le_trans h1.size h2.size,fun k hk hne=>(h2.block k (Nat.lt_of_lt_of_le hk h1.size) hne).trans (h1.block k hk hne)⟩
theorem Cx.term {w w':World}{xb nb ob B0 c:Nat}{E:Sc}(h:Cx w xb nb ob B0 E c)(hg:w.grownBy w' (some xb)):Below B0 w w':=
 (Below.refl B0 w).grown hg (Nat.le_trans h.hB (Nat.le_of_lt h.xlt)) (fun k hk=>by cases hk; exact h.hB)
def SS (w:World) (xb:Nat):Nat→Prop:=fun k=>k≠xb∧k<w.heap.size
theorem SCP.step {w w':World}{xb:Nat}{s:Sc}{p:Value}(h:SCP w (SS w xb) s p)(hg:w.grownBy w' (some xb)):SCP w' (SS w' xb) s p:=
 h.keep fun k hk=>⟨⟨hk.1,Nat.lt_of_lt_of_le hk.2 hg.size⟩,hg.block k hk.2 (fun e=>hk.1 (Option.some.inj e))⟩
theorem Cx.look {w:World}{xb nb ob B0 c:Nat}{E:Sc}(h:Cx w xb nb ob B0 E c)(n:W8)(hn:n.length≤1000):
  (Instr.lookup 81 (.map (some ob)) (.string ⟨n.toArray⟩) true).run Tryz.prog w=.ok (.tuple #[(match opOf n with|some p=>.agg #[.int .i64 (p.1:Nat),.func (.func (68+p.2)) #[] #[]]|none=>.agg #[.int .i64 0,.nilFunc]),.bool (opOf n).isSome]) w:=by
 rw [look_map h.opm opsL_nodup Tryz.underlying81 (z:=.agg #[.int .i64 0,.nilFunc]) (by kernel_rfl) n (by omega),opsL_lookup]
 cases opOf n<;>rfl
theorem grown11 {w w1:World}{xb:Nat}(h:w.grownBy w1 (some xb))(r:R) (p:Value):w.grownBy (set11 w1 w.heap.size r p) (some xb):=by
 have hb:=below11 (B:=0) (Below.refl 0 w1) (Nat.zero_le w.heap.size) r p
 exact ⟨hb.os.trans h.os,hb.tape.trans h.tape,hb.output.trans h.output,Nat.le_trans h.size hb.size,fun k hk hne=>(set11_other _ _ _ _ _ (by omega)).trans (h.block k hk hne)⟩
theorem eb11 {w w1:World}{xb nb ob c:Nat}(h:EB w1 xb nb ob c∧xb<w.heap.size)(r:R) (p:Value):EB (set11 w1 w.heap.size r p) xb nb ob c:=
 (set11_other _ _ _ _ _ (by omega)).trans h.1
def Left (w w':World)(xb nb ob:Nat)(g:R × Nat)(e:Ending):Prop:=∃ q,e=.returned (.agg (g.1.cells q))∧BO w' w.heap.size q g.1.path∧w.grownBy w' (some xb)∧EB w' xb nb ob g.2
def FindC:Prop:=∀ (n:W8)(w:World),n.length≤1000→Calls Tryz.prog 81 #[.string ⟨n.toArray⟩] w fun e w'=>e=.returned (.tuple #[.agg ((unitTab.lookup n).getD zV).cells,.bool (unitTab.lookup n).isSome])∧Below w.heap.size w w'
def TermC (xb nb ob B0:Nat)(E:Sc) (N:Nat):Prop:=∀ (t:T),t.size≤N→WF t→∀ (s:Sc) (p:Value)(c b o:Nat)(w:World),c≤2000→(s++E).ok→TR w B0 b o t→Cx w xb nb ob B0 E c→SCP w (SS w xb) s p→
 Calls Tryz.prog 41 #[.pointer (some ⟨xb,0,none⟩),.pointer (some ⟨b,o,none⟩),p] w fun e w'=>Left w w' xb nb ob (ev t (s++E) c) e
def BindC (xb nb ob B0:Nat)(E:Sc) (N:Nat):Prop:=∀ (t:T),t.size≤N→WF t→t.kind=5→∀ (s:Sc) (p:Value)(c b o:Nat)(w:World),c≤2000→(s++E).ok→TR w B0 b o t→Cx w xb nb ob B0 E c→SCP w (SS w xb) s p→
 Calls Tryz.prog 82 #[.pointer (some ⟨xb,0,none⟩),.pointer (some ⟨b,o,none⟩),p] w fun e w'=>Left w w' xb nb ob (ev t (s++E) c) e
theorem kind_cases {t:T}(h:ownB t=true):t.kind=1∨t.kind=2∨t.kind=3∨t.kind=4∨t.kind=5:=by
 cases t with
 | mk k n v ys f=>
  rw [ownB_mk]at h
  show k=1∨k=2∨k=3∨k=4∨k=5
  by_cases h1:k=1
  ·exact .inl h1
  rw [if_neg h1]at h
  by_cases h2:k=2
  ·exact .inr (.inl h2)
  rw [if_neg h2]at h
  by_cases h3:k=3
  ·exact .inr (.inr (.inl h3))
  rw [if_neg h3]at h
  by_cases h4:k=4
  ·exact .inr (.inr (.inr (.inl h4)))
  rw [if_neg h4]at h
  by_cases h5:k=5
  ·exact .inr (.inr (.inr (.inr h5)))
  rw [if_neg h5]at h
  cases h
theorem own_short' {t:T}(h:ownB t=true):t.name.length≤200∧(t.kind=1→t.name.length≤20):=by
 cases t with
 | mk k n v ys f=>
  rw [ownB_mk]at h
  show n.length≤200∧(k=1→n.length≤20)
  have hw:∀ {x:W8},wordB x=true→x.length≤16:=fun {x} hx=>by unfold wordB at hx; simp at hx; exact hx.2
  by_cases h1:k=1
  ·rw [if_pos h1]at h; unfold numB at h; simp at h
   have:n.length≤20:=by omega
   exact ⟨by omega,fun _=>this⟩
  rw [if_neg h1]at h
  refine ⟨?_,fun e=>absurd e h1⟩
  by_cases h2:k=2
  ·rw [if_pos h2]at h; rw [Bool.and_eq_true]at h; have:=hw (ident_word h.2); omega
  rw [if_neg h2]at h
  by_cases h3:k=3
  ·rw [if_pos h3]at h; simp at h; omega
  rw [if_neg h3]at h
  by_cases h4:k=4
  ·rw [if_pos h4]at h; rw [Bool.and_eq_true,Bool.and_eq_true]at h; have:=hw h.1.2; omega
  rw [if_neg h4]at h
  by_cases h5:k=5
  ·rw [if_pos h5]at h; rw [Bool.and_eq_true,Bool.and_eq_true,Bool.and_eq_true]at h; have:=hw h.1.1.2; omega
  rw [if_neg h5]at h; cases h
set_option maxRecDepth 100000 in
set_option maxHeartbeats 4000000 in
theorem term_leaf {xb nb ob B0:Nat}{E:Sc}(HF:FindC)(t:T)(hw:WF t)(hk:t.kind=1∨t.kind=2∨t.kind=3)(s:Sc) (p:Value)(c b o:Nat)(w:World)(ht:TR w B0 b o t)(hx:Cx w xb nb ob B0 E c)(hs:SCP w (SS w xb) s p):
  Calls Tryz.prog 41 #[.pointer (some ⟨xb,0,none⟩),.pointer (some ⟨b,o,none⟩),p] w fun e w'=>Left w w' xb nb ob (ev t (s++E) c) e:=by
 have HO:=hid (own_short' hw.parts.1)
 obtain ⟨hb,d0,d1,d2,d4,A,ca,d3,hca,hta⟩:=ht.parts
 have hbw:b<w.heap.size:=by have:=hx.hB; have:=hx.xlt; omega
 have hne:b≠w.heap.size:=by omega
 have HB:=hid (b1 w (.cells #[.int .i64 0,.int .i64 0,.int .i64 0,.int .i64 0,.int .i64 0,.int .i64 0,.int .i64 0,.int .i64 0,.int .i64 0,.slice none 0 0,.int .i64 0] 86))
 have HK:=hid (K11.zero w)
 have HX:=hid (hx.reach HB.out)
 have HX0:=hid hx.xlt
 have HS:Hid (SCP (w.alloc (.cells #[.int .i64 0,.int .i64 0,.int .i64 0,.int .i64 0,.int .i64 0,.int .i64 0,.int .i64 0,.int .i64 0,.int .i64 0,.slice none 0 0,.int .i64 0] 86)) (SS (w.alloc (.cells #[.int .i64 0,.int .i64 0,.int .i64 0,.int .i64 0,.int .i64 0,.int .i64 0,.int .i64 0,.int .i64 0,.int .i64 0,.slice none 0 0,.int .i64 0] 86)) xb) s p):=hs.step (grown_of_below HB.out _)
 have HEV:Hid (ev t (s++E) c=stepN t.kind t.name (lkR (s++E) t.name) (evs t.args (s++E)) (evh t.args t.var (s++E)) c):=by show _=_; rw [ev_eq]
 have HD0:=hid ((HB.out.cell (p:=⟨b,o,none⟩) hbw).trans d0)
 have HD1:=hid ((HB.out.cell (p:=⟨b,o+1,none⟩) hbw).trans d1)
 clear d0 d1 d2 d3 d4 hta hca hx hs ht hb hbw hne;have hd0:=HD0.out
 have hd1:=HD1.out
 generalize t.name=n at*;generalize ev t (s++E) c=g at*;unfold Left;go_enter Tryz.func41,Tryz.ntmps41;go_upto_region 1 with (fail);generalize w.alloc (.cells #[.int .i64 0,.int .i64 0,.int .i64 0,.int .i64 0,.int .i64 0,.int .i64 0,.int .i64 0,.int .i64 0,.int .i64 0,.slice none 0 0,.int .i64 0] 86)=w1 at*;obtain ⟨⟨z0,z1,z2,z3,z4,z5,z6,z7,z8,z9,z10⟩,zf,_⟩:=HK.out.cells
 rcases hk with hk|hk|hk
 ·-- a number
  rw [hk]at hd0 HEV
  have HG:Hid (g=(numR' n,c)):=HEV.out
  have HP:=hid (Q.parse_any n w1 (by have:=HO.out.2 hk; omega) ⟨HX.out.mx.cell⟩)
  clear HEV hk;unfold numR' at HG;generalize Q.parseQ n=q at*;obtain ⟨qn,qd,qe⟩:=q
  unfold Q.Res.val at HP;have HJ:=hid fun w=>join_any qn qd qe zD 0 w
  generalize joinQ ⟨qn,qd,qe⟩ zD 0=j at*;obtain ⟨jv,je⟩:=j
  unfold Dm.cells zD V.cells at HJ;clear z0 z1 z2 z3 z4 z5 z6 z7 z8 z9 z10 zf;go_wp2_with fail;refine HP.out.mono ?_
  rintro e w2 ⟨rfl,hb2⟩
  have HB3:=hid (bl_tr hb2 (b1 w2 (.cells #[.int .i64 qn,.int .i64 qd] 57)))
  have HM:=hid (K2.new w2 qn qd)
  go_upto_region 4 with (fail);generalize w2.alloc (.cells #[.int .i64 qn,.int .i64 qd] 57)=w3 at*;clear hd0 hd1 hb2;obtain ⟨⟨m0,m1⟩,_,_⟩:=HM.out.cells
  go_wp2_with fail;refine (HJ.out _).mono ?_
  rintro e w4 ⟨rfl,hb4⟩
  have HB5:=hid (bl_tr (bl_tr HB3.out hb4) (b1 w4 (.cells #[.int .i64 jv.num,.int .i64 jv.den,.int .i64 jv.dim.a,.int .i64 jv.dim.b,.int .i64 jv.dim.c,.int .i64 jv.dim.d,.int .i64 jv.dim.e,.int .i64 jv.dim.f,.int .i64 jv.dim.g] 44)))
  have HM9:Hid (K9 (w4.alloc (.cells #[.int .i64 jv.num,.int .i64 jv.den,.int .i64 jv.dim.a,.int .i64 jv.dim.b,.int .i64 jv.dim.c,.int .i64 jv.dim.d,.int .i64 jv.dim.e,.int .i64 jv.dim.f,.int .i64 jv.dim.g] 44)) w4.heap.size jv):=K9.new w4 jv
  go_upto_region 5 with (fail);generalize w4.alloc (.cells #[.int .i64 jv.num,.int .i64 jv.den,.int .i64 jv.dim.a,.int .i64 jv.dim.b,.int .i64 jv.dim.c,.int .i64 jv.dim.d,.int .i64 jv.dim.e,.int .i64 jv.dim.f,.int .i64 jv.dim.g] 44)=w5 at*;clear m0 m1 hb4;have HK5:=hid (HK.out.reach HB5.out)
  have HX5:=hid (HX.out.reach HB5.out)
  have HB1:=hid (bl_tr HB.out HB5.out)
  obtain ⟨⟨⟨m0,m1⟩,m2,m3,m4,m5,m6,m7,m8⟩,_,_⟩:=HM9.out.cells
  obtain ⟨⟨z0,z1,z2,z3,z4,z5,z6,z7,z8,z9,z10⟩,zf,_⟩:=HK5.out.cells
  go_wp2_with fail;rw [HG.out];refine bodyPost_ret (v:=.agg (R.cells (R.mk jv [] je) (.slice none 0 0))) (by simp [results,Tryz.results41,go_sem,R.cells,z0,z1,z2,z3,z4,z5,z6,z7,z8,z9,z10]) rfl ⟨_,rfl,((BO.nil w5 (w.heap.size+1)).set11 (Nat.lt_succ_self _) (R.mk jv [] je) (.slice none 0 0)).less (Nat.le_succ _),grown11 (grown_of_below HB1.out _) (R.mk jv [] je) (.slice none 0 0),eb11 ⟨HX5.out.eb,HX0.out⟩ (R.mk jv [] je) (.slice none 0 0)⟩
 ·-- a variable
  rw [hk]at hd0 HEV
  have HG:Hid (g=(lkR (s++E) n,c)):=HEV.out
  have HV:=hid (variable_any xb nb ob c E s (SS w1 xb) p n w1 HX.out.eb HX.out.env HS.out (fun k hk=>hk.2) (by have:=HO.out.1; omega) HX.out.nlt)
  have HPT:Hid ((lkR (s++E) n).path=[]):=List.eq_nil_of_length_eq_zero (Nat.le_zero.1 (lookR_path _ _))
  clear HEV hk;generalize lkR (s++E) n=r at*;unfold R.cells at HV;clear z0 z1 z2 z3 z4 z5 z6 z7 z8 z9 z10 zf;go_wp2_with fail;refine HV.out.mono ?_
  rintro e w2 ⟨rfl,hb2⟩
  have HK2:=hid (HK.out.reach hb2)
  have HX2:=hid (HX.out.reach hb2)
  have HB2:=hid (bl_tr HB.out hb2)
  clear hb2 hd0 hd1;obtain ⟨⟨z0,z1,z2,z3,z4,z5,z6,z7,z8,z9,z10⟩,zf,_⟩:=HK2.out.cells
  go_wp2_with fail;rw [HG.out];refine bodyPost_ret (v:=.agg (R.cells r (.slice none 0 0))) (by simp [results,Tryz.results41,go_sem,R.cells,z0,z1,z2,z3,z4,z5,z6,z7,z8,z9,z10]) rfl ⟨_,rfl,(((show BO w2 (w.heap.size+1) (.slice none 0 0) r.path from by rw [HPT.out]; exact BO.nil w2 (w.heap.size+1))).set11 (Nat.lt_succ_self _) r (.slice none 0 0)).less (Nat.le_succ _),grown11 (grown_of_below HB2.out _) r (.slice none 0 0),eb11 ⟨HX2.out.eb,HX0.out⟩ r (.slice none 0 0)⟩
 ·-- a unit
  rw [hk]at hd0 HEV
  have HG:Hid (g=(unitR n,c)):=HEV.out
  have HV:=hid (HF n w1 (by have:=HO.out.1; omega))
  clear HEV hk;unfold unitR lookR at HG;dsimp only at HG
  generalize unitTab.lookup n=ol at*;clear z0 z1 z2 z3 z4 z5 z6 z7 z8 z9 z10 zf;cases ol with
  | none=>
   dsimp only [Option.getD_none,Option.isSome_none]at HV
   unfold V.cells zV zD at HV;go_wp2_with fail;refine HV.out.mono ?_
   rintro e w2 ⟨rfl,hb2⟩
   have HB3:=hid (bl_tr hb2 (b1 w2 (.cells #[.int .i64 0,.int .i64 0,.int .i64 0,.int .i64 0,.int .i64 0,.int .i64 0,.int .i64 0,.int .i64 0,.int .i64 0] 44)))
   go_upto_region 10 with (fail);generalize w2.alloc (.cells #[.int .i64 0,.int .i64 0,.int .i64 0,.int .i64 0,.int .i64 0,.int .i64 0,.int .i64 0,.int .i64 0,.int .i64 0] 44)=w3 at*;have HK3:=hid (HK.out.reach HB3.out)
   have HX3:=hid (HX.out.reach HB3.out)
   have HB1:=hid (bl_tr HB.out HB3.out)
   clear hb2 hd0 hd1;obtain ⟨⟨z0,z1,z2,z3,z4,z5,z6,z7,z8,z9,z10⟩,zf,_⟩:=HK3.out.cells
   go_wp2_with fail;rw [HG.out];refine bodyPost_ret (v:=.agg (R.cells (erR 11) (.slice none 0 0))) (by simp [results,Tryz.results41,go_sem,R.cells,erR,zV,zD,z0,z1,z2,z3,z4,z5,z6,z7,z8,z9,z10]) rfl ⟨_,rfl,((BO.nil w3 (w.heap.size+1)).set11 (Nat.lt_succ_self _) (erR 11) (.slice none 0 0)).less (Nat.le_succ _),grown11 (grown_of_below HB1.out _) (erR 11) (.slice none 0 0),eb11 ⟨HX3.out.eb,HX0.out⟩ (erR 11) (.slice none 0 0)⟩
  | some v=>
   dsimp only [Option.getD_some,Option.isSome_some]at HV
   unfold V.cells at HV;go_wp2_with fail;refine HV.out.mono ?_
   rintro e w2 ⟨rfl,hb2⟩
   have HB3:=hid (bl_tr hb2 (b1 w2 (.cells #[.int .i64 v.num,.int .i64 v.den,.int .i64 v.dim.a,.int .i64 v.dim.b,.int .i64 v.dim.c,.int .i64 v.dim.d,.int .i64 v.dim.e,.int .i64 v.dim.f,.int .i64 v.dim.g] 44)))
   have HM9:Hid (K9 (w2.alloc (.cells #[.int .i64 v.num,.int .i64 v.den,.int .i64 v.dim.a,.int .i64 v.dim.b,.int .i64 v.dim.c,.int .i64 v.dim.d,.int .i64 v.dim.e,.int .i64 v.dim.f,.int .i64 v.dim.g] 44)) w2.heap.size v):=K9.new w2 v
   go_upto_region 10 with (fail);generalize w2.alloc (.cells #[.int .i64 v.num,.int .i64 v.den,.int .i64 v.dim.a,.int .i64 v.dim.b,.int .i64 v.dim.c,.int .i64 v.dim.d,.int .i64 v.dim.e,.int .i64 v.dim.f,.int .i64 v.dim.g] 44)=w3 at*;have HK3:=hid (HK.out.reach HB3.out)
   have HX3:=hid (HX.out.reach HB3.out)
   have HB1:=hid (bl_tr HB.out HB3.out)
   clear hb2 hd0 hd1;obtain ⟨⟨⟨m0,m1⟩,m2,m3,m4,m5,m6,m7,m8⟩,_,_⟩:=HM9.out.cells
   obtain ⟨⟨z0,z1,z2,z3,z4,z5,z6,z7,z8,z9,z10⟩,zf,_⟩:=HK3.out.cells
   go_wp2_with fail;rw [HG.out];refine bodyPost_ret (v:=.agg (R.cells (okR v) (.slice none 0 0))) (by simp [results,Tryz.results41,go_sem,R.cells,okR,z0,z1,z2,z3,z4,z5,z6,z7,z8,z9,z10]) rfl ⟨_,rfl,((BO.nil w3 (w.heap.size+1)).set11 (Nat.lt_succ_self _) (okR v) (.slice none 0 0)).less (Nat.le_succ _),grown11 (grown_of_below HB1.out _) (okR v) (.slice none 0 0),eb11 ⟨HX3.out.eb,HX0.out⟩ (okR v) (.slice none 0 0)⟩
end Go.Proofs.YtknpigdpepmimaaGreatDoor
