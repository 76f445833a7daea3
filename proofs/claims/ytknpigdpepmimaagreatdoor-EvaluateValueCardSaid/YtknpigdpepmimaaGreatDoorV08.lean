/- Contracts of the reference's Character at a letter, Symbol at a word, Identifier. -/
import Derived.Test.YtknpigdpepmimaaGreatDoorV04
import Derived.Test.YtknpigdpepmimaaGreatDoorV05
import Derived.Test.YtknpigdpepmimaaGreatDoorV07
namespace Go.Proofs.YtknpigdpepmimaaGreatDoor
open Go.Lib(hid)
open Go.RowKit
set_option maxHeartbeats 1000000 in
theorem char71_any (c:Nat)(w:World)(hc:c<256)(h:isLn c=true):Calls Tryz.prog 111 #[.int .u8 c] w fun e w'=>e=.returned (.bool true)∧w=w':=by
 have HC:=hid (letter72_nat c)
 have HL:=hid h
 clear h;go_enter Tryz.func111,Tryz.ntmps111;go_wp2_with fail;refine (HC.out _ hc).mono ?_
 rw [HL.out];rintro e w' ⟨rfl,rfl⟩
 go_wp2_with fail;go_ret;exact ⟨rfl,rfl⟩
theorem ident_of_word (s:ByteArray)(h:wordB s.data.toList=true):(s.size=1→identB s.data.toList=true)∧identB s.data.toList=(!hasB kwds s.data.toList&&!hasB accs s.data.toList):=by
 have e:identB s.data.toList=(!hasB kwds s.data.toList&&!hasB accs s.data.toList):=by
  unfold identB; rw [h]; rfl
 refine ⟨fun h1=>?_,e⟩
 rw [← len_list]at h1
 rw [e]
 obtain ⟨c,hl⟩:∃ c,s.data.toList=[c]:=by
  cases hh:s.data.toList with
  | nil=>rw [hh]at h1; simp at h1
  | cons c l=>rw [hh]at h1; simp at h1; exact ⟨c,by rw [h1]⟩
 rw [hl];obtain ⟨k1,k2⟩:=kw_one c
 unfold hasB;unfold kwB at k1;unfold acB at k2;rw [k1,k2]; rfl
theorem word_letter (s:ByteArray)(h:wordB s.data.toList=true) (k:Nat)(hk:k<s.size):isLn s[k].toNat=true:=by
 unfold wordB at h;simp only [Bool.and_eq_true]at h
 have:=List.all_eq_true.1 h.1.1 s[k] (by
  have e:s[k]=s.data.toList[k]'(by simpa using hk):=rfl
  rw [e]; exact List.getElem_mem _)
 exact this
theorem mk_list (s:ByteArray):(⟨s.data.toList.toArray⟩:ByteArray)=s:=by cases s; simp
theorem in73B (B:Nat) (v:Value)(l:List (List UInt8))(s:ByteArray)(w:World)(hv:SL w B v l):
  Calls Tryz.prog 113 #[v,.string s] w fun r w'=>r=.returned (.bool (hasB l s.data.toList))∧w=w':=by
 have:=in73_any B v l s.data.toList w hv
 rwa [mk_list]at this
set_option maxRecDepth 100000 in
set_option maxHeartbeats 2000000 in
theorem symbol51_word (s:ByteArray)(w:World)(h:wordB s.data.toList=true):
  Calls Tryz.prog 65 #[.string s] w fun r w'=>r=.returned (.bool (identB s.data.toList))∧Below w.heap.size w w':=by
 have HI:=hid (ident_of_word s h)
 have HL:=hid (word_letter s h)
 have hsz:1≤s.size∧s.size≤16:=by
  unfold wordB at h;rw [len_list]at h
  simp only [Bool.and_eq_true,decide_eq_true_eq]at h
  omega
 obtain ⟨hs1,hs2⟩:=hsz
 clear h;by_cases h1:s.size=1
 ·have h1z:((s.size:Int) == 1)=true:=by simp [h1]
  have h0:(0:Int)<(s.size:Int):=by omega
  have h00:0<s.size:=by omega
  have HX:=hid (HI.out.1 h1)
  have HC:=hid (char71_any s[0].toNat w s[0].toNat_lt (HL.out 0 h00))
  clear h1;go_enter Tryz.func65,Tryz.ntmps65;go_wp2_with fail;refine HC.out.mono ?_
  rintro e w' ⟨rfl,rfl⟩
  go_wp2_with fail;go_ret;rw [HX.out];exact ⟨rfl,Below.refl _ _⟩
 ·have h1z:((s.size:Int) == 1)=false:=by simp; omega
  have HX:=hid HI.out.2
  clear h1 HI;go_enter Tryz.func65,Tryz.ntmps65;go_wp2_with fail;go_loop [3] (fun s3=>∃ kk:Nat,kk≤s.size∧s3=.int .i64 kk) (fun s3=>s.size-(intOf s3).toNat)
  case atStart=>exact ⟨0,Nat.zero_le _,rfl⟩
  case round=>
   obtain ⟨kk,hkk,rfl⟩:=hrel
   by_cases hlt:kk<s.size
   ·have hltz:(kk:Int)<(s.size:Int):=by omega
    have HC:=hid (letter72_nat s[kk].toNat)
    have HLK:=hid (HL.out kk hlt)
    go_wp2_with fail;refine (HC.out _ s[kk].toNat_lt).mono ?_
    rw [HLK.out];rintro e w' ⟨rfl,rfl⟩
    go_wp2_with fail;go_round
    case rel=>exact ⟨kk+1,by omega,by go_num⟩
    case measure=>simp [intOf]; omega
   ·have hltz:¬ (kk:Int)<(s.size:Int):=by omega
    have hz2:(2:Int)≤(s.size:Int):=by
     have h1y:=h1z
     rw [beq_eq_false_iff_ne]at h1y; omega
    have hz16:(s.size:Int)≤16:=by omega
    clear hlt hkk;obtain ⟨k1,hk1⟩:∃ k,k=hasB kwds s.data.toList:=⟨_,rfl⟩
    obtain ⟨k2,hk2⟩:∃ k,k=hasB accs s.data.toList:=⟨_,rfl⟩
    rw [← hk1,← hk2]at HX
    have HK1:=hid hk1
    have HK2:=hid hk2
    clear hk1 hk2;cases k1 with
    | true=>
     go_wp2_with fail;refine (kw74_any _).mono ?_
     rintro e w1 ⟨v1,rfl,hv1,hb1⟩
     have HV1:=hid hv1
     have HB1:=hid hb1
     clear hv1 hb1;go_wp2_with fail;refine (in73B _ _ kwds s w1 HV1.out).mono ?_
     rw [← HK1.out];rintro e w2 ⟨rfl,rfl⟩
     go_wp2_with fail;go_ret;rw [HX.out];exact ⟨rfl,HB1.out⟩
    | false=>
     go_wp2_with fail;refine (kw74_any _).mono ?_
     rintro e w1 ⟨v1,rfl,hv1,hb1⟩
     have HV1:=hid hv1
     have HB1:=hid hb1
     clear hv1 hb1;go_wp2_with fail;refine (in73B _ _ kwds s w1 HV1.out).mono ?_
     rw [← HK1.out];rintro e w2 ⟨rfl,rfl⟩
     cases k2 with
     | true=>
      go_wp2_with fail;refine (ac75_any _).mono ?_
      rintro e w3 ⟨v3,rfl,hv3,hb3⟩
      have HV3:=hid hv3
      have HB3:=hid (HB1.out.trans (hb3.mono HB1.out.size))
      clear hv3 hb3;go_wp2_with fail;refine (in73B _ _ accs s w3 HV3.out).mono ?_
      rw [← HK2.out];rintro e w4 ⟨rfl,rfl⟩
      go_wp2_with fail;go_ret;rw [HX.out];exact ⟨rfl,HB3.out⟩
     | false=>
      go_wp2_with fail;refine (ac75_any _).mono ?_
      rintro e w3 ⟨v3,rfl,hv3,hb3⟩
      have HV3:=hid hv3
      have HB3:=hid (HB1.out.trans (hb3.mono HB1.out.size))
      clear hv3 hb3;go_wp2_with fail;refine (in73B _ _ accs s w3 HV3.out).mono ?_
      rw [← HK2.out];rintro e w4 ⟨rfl,rfl⟩
      go_wp2_with fail;go_ret;rw [HX.out];exact ⟨rfl,HB3.out⟩
set_option maxHeartbeats 1000000 in
theorem ident29_any (s:ByteArray)(w:World)(hs:s.size≤1000):
  Calls Tryz.prog 36 #[.string s] w fun r w'=>r=.returned (.bool (identB s.data.toList))∧Below w.heap.size w w':=by
 have HW:=hid (letters50_any s w hs)
 have HS:=hid (symbol51_word s w)
 cases h:wordB s.data.toList with
 | false=>
  have HX:Hid (identB s.data.toList=false):=by show identB s.data.toList=false; unfold identB; rw [h]; rfl
  rw [h]at HW
  clear h;go_enter Tryz.func36,Tryz.ntmps36;go_wp2_with fail;refine HW.out.mono ?_
  rintro e w' ⟨rfl,rfl⟩
  go_wp2_with fail;go_ret;rw [HX.out];exact ⟨rfl,Below.refl _ _⟩
 | true=>
  have HS2:=hid (HS.out h)
  rw [h]at HW
  clear h;go_enter Tryz.func36,Tryz.ntmps36;go_wp2_with fail;refine HW.out.mono ?_
  rintro e w' ⟨rfl,rfl⟩
  go_wp2_with fail;refine HS2.out.mono ?_
  rintro e w' ⟨rfl,hb⟩
  have HB:=hid hb
  clear hb;go_wp2_with fail;go_ret;exact ⟨rfl,HB.out⟩
theorem number79L (l:List UInt8)(w:World)(hs:l.length≤1000):Calls Tryz.prog 108 #[.string ⟨l.toArray⟩] w fun r w'=>r=.returned (.bool (numB l))∧w=w':=by
 have:=number79_any ⟨l.toArray⟩ w (by rw [size_mk]; exact hs)
 simpa using this
theorem ident29L (l:List UInt8)(w:World)(hs:l.length≤1000):Calls Tryz.prog 36 #[.string ⟨l.toArray⟩] w fun r w'=>r=.returned (.bool (identB l))∧Below w.heap.size w w':=by
 have:=ident29_any ⟨l.toArray⟩ w (by rw [size_mk]; exact hs)
 simpa using this
theorem letters50L (l:List UInt8)(w:World)(hs:l.length≤1000):Calls Tryz.prog 64 #[.string ⟨l.toArray⟩] w fun r w'=>r=.returned (.bool (wordB l))∧w=w':=by
 have:=letters50_any ⟨l.toArray⟩ w (by rw [size_mk]; exact hs)
 simpa using this
theorem printableL (l:List UInt8)(lo most:Nat)(w:World)(hs:l.length≤1000):
  Calls Tryz.prog 109 #[.string ⟨l.toArray⟩,.int .u8 lo,.int .i64 most] w fun r w'=>r=.returned (.bool (okS lo l&&decide (l.length≤most)))∧w=w':=by
 have:=printable_any ⟨l.toArray⟩ lo most w (by rw [size_mk]; exact hs)
 rw [size_mk]at this
 simpa using this
set_option maxRecDepth 100000 in
set_option maxHeartbeats 4000000 in
theorem proper_any (t:T)(A:Option Addr) (c:Nat)(w:World)(hl:Short t)(hcp:t.args.length≤c∧c≤9223372036854775807):
  Calls Tryz.prog 60 #[.agg (tv t A c)] w fun e w'=>e=.returned (.bool (ownB t))∧Below w.heap.size w w':=by
 have hb0:Below w.heap.size w (w.alloc (.cells (tv t A c) 24)):=(Below.refl _ _).alloc (Nat.le_refl _) _
 have HB0:=hid hb0
 clear hb0;have c0:(w.alloc (.cells (tv t A c) 24)).cell? ⟨w.heap.size,0,none⟩=some (.int .i64 t.kind):=by simp [tv]
 have c1:(w.alloc (.cells (tv t A c) 24)).cell? ⟨w.heap.size,1,none⟩=some (.string ⟨t.name.toArray⟩):=by simp [tv]
 have c2:(w.alloc (.cells (tv t A c) 24)).cell? ⟨w.heap.size,2,none⟩=some (.string ⟨t.var.toArray⟩):=by simp [tv]
 have c3:(w.alloc (.cells (tv t A c) 24)).cell? ⟨w.heap.size,3,none⟩=some (.slice A t.args.length c):=by simp [tv]
 have c4:(w.alloc (.cells (tv t A c) 24)).cell? ⟨w.heap.size,4,none⟩=some (.string ⟨t.form.toArray⟩):=by simp [tv]
 generalize tv t A c=cs at*;obtain ⟨l1,l2,l3⟩:=hl
 obtain ⟨hcp1,hcp2⟩:=hcp
 have hnl:t.args.length≤9223372036854775807:=by omega
 have HL1:=hid l1
 have HL2:=hid l2
 have HL3:=hid l3
 have hlf:leafB t=(t.var.isEmpty&&(t.form.isEmpty&&t.args.isEmpty)):=rfl
 have hff:formB t=(okS 33 t.form&&decide (t.form.length≤16)):=rfl
 have HO:Hid (ownB t=if t.kind=1 then leafB t&&numB t.name else if t.kind=2 then leafB t&&identB t.name else if t.kind=3 then leafB t&&(okS 32 t.name&&decide (t.name.length≤200))else if t.kind=4 then formB t&&wordB t.name&&t.var.isEmpty else if t.kind=5 then formB t&&wordB t.name&&identB t.var&&!t.args.isEmpty else false):=rfl
 have HAE:Hid (t.args.isEmpty=decide (t.args.length=0)):=by show t.args.isEmpty=_; cases t.args<;>simp
 rw [HAE.out]at hlf HO
 generalize ownB t=ow at*;generalize leafB t=lf at*;generalize formB t=ff at*;generalize t.kind=k at*;generalize t.name=nm at*;generalize t.var=v at*;generalize t.form=f at*;generalize t.args.length=n at*;clear l1 l2 l3 HAE;have HLF:=hid hlf
 have HFF:=hid hff
 clear hlf hff;go_enter Tryz.func60,Tryz.ntmps60;go_upto_region 1 with (fail);go_cut [3] (fun s3 wx=>s3=.bool lf∧w.alloc (.cells cs 24)=wx)
 case first=>
  by_cases h0:n=0
  ·have hz:((n:Int) == 0)=true:=by rw [beq_iff_eq]; omega
   have HZ:=hid (decide_eq_true h0)
   clear h0;cases v with
   | cons a v=>
    have HX:Hid (lf=false):=HLF.out.trans rfl
    go_wp2_with fail;go_meet
    case rel=>exact ⟨by rw [HX.out],rfl⟩
   | nil=>
    cases f with
    | cons a f=>
     have HX:Hid (lf=false):=HLF.out.trans rfl
     go_wp2_with fail;go_meet
     case rel=>exact ⟨by rw [HX.out],rfl⟩
    | nil=>
     have HX:Hid (lf=true):=HLF.out.trans (by rw [HZ.out]; rfl)
     go_wp2_with fail;go_meet
     case rel=>exact ⟨by rw [HX.out],rfl⟩
  ·have hz:((n:Int) == 0)=false:=by rw [beq_eq_false_iff_ne]; omega
   have HX:Hid (lf=false):=HLF.out.trans (by rw [decide_eq_false h0]; simp)
   go_wp2_with fail;go_meet
   case rel=>exact ⟨by rw [HX.out],rfl⟩
 case rest=>
  obtain ⟨rfl,rfl⟩:=hcut
  have hls:w.heap.size<(w.alloc (.cells cs 24)).heap.size:=by simp
  generalize hw1:w.alloc (.cells cs 24)=w1 at*;clear hw1;by_cases k1:k=1
  ·subst k1
   have HX:=hid (HO.out.trans (if_pos rfl))
   cases lf with
   | false=>
    go_wp2_with fail;go_ret;rw [HX.out];exact ⟨rfl,HB0.out⟩
   | true=>
    go_wp2_with fail;refine (number79L nm _ HL1.out).mono ?_
    obtain ⟨q,hq⟩:∃ q,q=numB nm:=⟨_,rfl⟩
    rw [← hq]at HX ⊢
    clear hq;rintro e w2 ⟨rfl,rfl⟩
    go_wp2_with fail;go_ret;rw [HX.out];exact ⟨rfl,HB0.out⟩
  ·have k1b:(k == 1)=false:=by simpa using k1
   by_cases k2:k=2
   ·subst k2
    have HX:=hid ((HO.out.trans (if_neg k1)).trans (if_pos rfl))
    clear k1;cases lf with
    | false=>
     go_wp2_with fail;go_ret;rw [HX.out];exact ⟨rfl,HB0.out⟩
    | true=>
     go_wp2_with fail;refine (ident29L nm _ HL1.out).mono ?_
     obtain ⟨q,hq⟩:∃ q,q=identB nm:=⟨_,rfl⟩
     rw [← hq]at HX ⊢
     clear hq;rintro e w2 ⟨rfl,hb2⟩
     have HB2:=hid (HB0.out.trans (hb2.mono HB0.out.size))
     clear hb2;go_wp2_with fail;go_ret;rw [HX.out];exact ⟨rfl,HB2.out⟩
   ·have k2b:(k == 2)=false:=by simpa using k2
    by_cases k3:k=3
    ·subst k3
     have HX:=hid (((HO.out.trans (if_neg k1)).trans (if_neg k2)).trans (if_pos rfl))
     clear k1 k2;cases lf with
     | false=>
      go_wp2_with fail;go_ret;rw [HX.out];exact ⟨rfl,HB0.out⟩
     | true=>
      go_wp2_with fail;refine (printableL nm 32 200 _ HL1.out).mono ?_
      obtain ⟨q,hq⟩:∃ q,q=(okS 32 nm&&decide (nm.length≤200)):=⟨_,rfl⟩
      rw [← hq]at HX ⊢
      clear hq;rintro e w2 ⟨rfl,rfl⟩
      go_wp2_with fail;go_ret;rw [HX.out];exact ⟨rfl,HB0.out⟩
    ·have k3b:(k == 3)=false:=by simpa using k3
     by_cases k4:k=4
     ·subst k4
      have HX:=hid ((((HO.out.trans (if_neg k1)).trans (if_neg k2)).trans (if_neg k3)).trans (if_pos rfl))
      clear k1 k2 k3;have HW:=hid (letters50L nm w1 HL1.out)
      have HP:=hid (printableL f 33 16 w1 HL3.out)
      rw [← HFF.out]at HP
      generalize wordB nm=q at*;cases q with
      | false=>
       go_wp2_with fail;refine HW.out.mono ?_
       rintro e w2 ⟨rfl,rfl⟩
       go_wp2_with fail;go_ret;rw [HX.out];exact ⟨by rw [Bool.and_false]; rfl,HB0.out⟩
      | true=>
       cases v with
       | cons a v=>
        go_wp2_with fail;refine HW.out.mono ?_
        rintro e w2 ⟨rfl,rfl⟩
        go_wp2_with fail;go_ret;rw [HX.out];exact ⟨by rw [Bool.and_true]; simp,HB0.out⟩
       | nil=>
        go_wp2_with fail;refine HW.out.mono ?_
        rintro e w2 ⟨rfl,rfl⟩
        go_wp2_with fail;refine HP.out.mono ?_
        rintro e w2 ⟨rfl,rfl⟩
        go_wp2_with fail;go_ret;rw [HX.out];exact ⟨by simp,HB0.out⟩
     ·have k4b:(k == 4)=false:=by simpa using k4
      by_cases k5:k=5
      ·subst k5
       have HX:=hid (((((HO.out.trans (if_neg k1)).trans (if_neg k2)).trans (if_neg k3)).trans (if_neg k4)).trans (if_pos rfl))
       clear k1 k2 k3 k4;have HW:=hid (letters50L nm w1 HL1.out)
       have HI:=hid (ident29L v w1 HL2.out)
       generalize wordB nm=q at*;generalize identB v=r at*;cases q with
       | false=>
        go_wp2_with fail;refine HW.out.mono ?_
        rintro e w2 ⟨rfl,rfl⟩
        go_wp2_with fail;go_ret;rw [HX.out];exact ⟨by simp,HB0.out⟩
       | true=>
        cases r with
        | false=>
         go_wp2_with fail;refine HW.out.mono ?_
         rintro e w2 ⟨rfl,rfl⟩
         go_wp2_with fail;refine HI.out.mono ?_
         rintro e w2 ⟨rfl,hb2⟩
         have HB2:=hid (HB0.out.trans (hb2.mono HB0.out.size))
         clear hb2;go_wp2_with fail;go_ret;rw [HX.out];exact ⟨by simp,HB2.out⟩
        | true=>
         go_wp2_with fail;refine HW.out.mono ?_
         rintro e w2 ⟨rfl,rfl⟩
         go_wp2_with fail;refine HI.out.mono ?_
         rintro e w2 ⟨rfl,hb2⟩
         have HB2:=hid (HB0.out.trans (hb2.mono HB0.out.size))
         have d3:=(hb2.cell (p:=⟨w.heap.size,3,none⟩) hls).trans c3
         have d4:=(hb2.cell (p:=⟨w.heap.size,4,none⟩) hls).trans c4
         have HP:=hid (printableL f 33 16 w2 HL3.out)
         rw [← HFF.out]at HP
         clear hb2 c0 c1 c2 c3 c4;cases ff with
         | false=>
          go_wp2_with fail;refine HP.out.mono ?_
          rintro e w3 ⟨rfl,rfl⟩
          go_wp2_with fail;go_ret;rw [HX.out];exact ⟨by simp,HB2.out⟩
         | true=>
          by_cases h0:n=0
          ·have hz:¬ (0:Int)<(n:Int):=by omega
           have HZ:=hid (decide_eq_true h0)
           clear h0;go_wp2_with fail;refine HP.out.mono ?_
           rintro e w3 ⟨rfl,rfl⟩
           go_wp2_with fail;go_ret;have hn:=of_decide_eq_true HZ.out
           rw [HX.out];exact ⟨by simp [hn],HB2.out⟩
          ·have hz:(0:Int)<(n:Int):=by omega
           have HZ:=hid (decide_eq_false h0)
           clear h0;go_wp2_with fail;refine HP.out.mono ?_
           rintro e w3 ⟨rfl,rfl⟩
           go_wp2_with fail;go_ret;have hn:=of_decide_eq_false HZ.out
           rw [HX.out];have hn1:0<n:=by omega
           exact ⟨by simp [hn,hn1],HB2.out⟩
      ·have k5b:(k == 5)=false:=by simpa using k5
       have HX:=hid (((((HO.out.trans (if_neg k1)).trans (if_neg k2)).trans (if_neg k3)).trans (if_neg k4)).trans (if_neg k5))
       clear k1 k2 k3 k4 k5;go_wp2_with fail;go_ret;rw [HX.out];exact ⟨rfl,HB0.out⟩
theorem app30 {ops:Array Oper}{rest:List Oper}{o:Oper}{a:Act}{Q:Exit→Act→World→Prop}(w:World)(hgd:o.guard=none)(s x:Operand)
  (ho:o.op=.call { callee:=.builtin .append,args:=#[s,x],argTypes:=#[25,25] }) (B:Nat) (v:Value)(l:List W8)(y:W8)(hown:RL w B v l)(hs:a.eval s=v)
  (hx:a.eval x=.slice (some ⟨w.heap.size,0,none⟩) 1 1)(hl:l.length≤1000000)(hB:B≤w.heap.size)
  (h:∀ v' w',RL w' B v' (l++[y])→Below B w w'→wpList Tryz.prog ops Q rest (a.put o.dst v') w'):wpList Tryz.prog ops Q (o::rest) a (w.alloc (.cells #[.string ⟨y.toArray⟩] 9)):=by
 obtain ⟨i0,hi0,hz0,hz1,hz2⟩:=info_parts str_info
 have hown':(w.alloc (.cells #[.string ⟨y.toArray⟩] 9)).ownsRow B 9 1 v l.length (l.map encS):=World.ownsRow.alloc hown _
 refine wpList_append_lies _ hgd s x 25 ho B 9 i0 _ 1 16 Tryz.underlying25 hi0 hz0 hz1 hz2 rfl (by decide) v l.length _ hs hown' ⟨w.heap.size,0,none⟩ 1 1 [.string ⟨y.toArray⟩] hx rfl (fun j u hu=>?_) (fun u hu=>?_) (by decide) (by unfold maxLen; omega) (by omega) (by simp; omega) _ rfl ?_
 ·cases j with
  | zero=>simp at hu; subst hu; simp [go_sem]
  | succ j=>simp at hu
 ·simp at hu; subst hu; rfl
 ·intro g cap w' h1 h2 _ _
  refine h _ w' ?_ ?_
  ·unfold RL
   rw [List.length_append,List.map_append];exact h1
  ·exact ((Below.refl B w).alloc hB _).grown h2 (by simp; omega) (fun k hk=>(hown'.lt k hk).1)
theorem RL.bel {w w':World}{B:Nat}{v:Value}{l:List W8}(h:RL w B v l)(hb:Below w.heap.size w w'):RL w' B v l:=
 World.ownsRow.kept h (row:=none) ⟨hb.os,hb.tape,hb.output,hb.size,fun k hk _=>hb.block k hk⟩ (by cases v.ownBlock<;>simp)
theorem sizR_lo (t:T):-1≤sizR t∧sizR t≤1000:=by
 rcases sizR_val t with ⟨h,_⟩|⟨h,_,h2⟩<;>omega
set_option maxRecDepth 100000 in
set_option maxHeartbeats 4000000 in
theorem size_aux (N:Nat):∀ (t:T),t.size≤N→∀ (A:Option Addr) (c:Nat)(w:World),TV w w.heap.size t A c→SA t→
  Calls Tryz.prog 31 #[.agg (tv t A c)] w fun e w'=>e=.returned (.int .i64 (sizR t))∧Below w.heap.size w w':=by
 induction N with
 | zero=>intro t ht; exact absurd ht (by cases t; rw [T.size]; omega)
 | succ N ih=>
  intro t ht A c w hv hs;have IH:=hid ih
  clear ih;have HE:=hid (sizR_eq t)
  obtain ⟨hsh,hsa⟩:=hs.parts
  have HSA:=hid hsa
  have hb0:Below w.heap.size w (w.alloc (.cells (tv t A c) 24)):=(Below.refl _ _).alloc (Nat.le_refl _) _
  have HB0:=hid hb0
  have HTA:Hid (TA (w.alloc (.cells (tv t A c) 24)) w.heap.size A t.args):=hv.ar.below hb0
  have HSZ:Hid (∀ u∈t.args,u.size≤N):=fun u hu=>by have:=size_arg hu; omega
  have HPR:=hid (proper_any t A c (w.alloc (.cells (tv t A c) 24)) hsh hv.cap)
  obtain ⟨hcp1,hcp2⟩:=hv.cap
  have k3:(w.alloc (.cells (tv t A c) 24)).cell? ⟨w.heap.size,3,none⟩=some (.slice A t.args.length c):=by simp [tv]
  have HI:=hid (tv_info t A c)
  generalize tv t A c=cs at*;obtain ⟨ys,hys⟩:∃ ys,ys=t.args:=⟨_,rfl⟩
  rw [← hys]at HE HTA HSZ HSA k3 hcp1
  clear hys hv hb0 hsa hs hsh;have hyl:ys.length≤9223372036854775807:=by omega
  have HF:Hid ((w.alloc (.cells cs 24)).heap[w.heap.size]?=some (.cells cs 24)):=blk_new _ _
  have hls:w.heap.size<(w.alloc (.cells cs 24)).heap.size:=by simp
  generalize ownB t=ow at*;go_enter Tryz.func31,Tryz.ntmps31;go_wp2_with (with_reducible refine wpList_load_row rfl 24 (.tmp 1) rfl w.heap.size rfl 24 cs (0,0) _ HF.out Tryz.underlying24 rfl HI.out ?_)
  refine HPR.out.mono ?_
  rintro e w1 ⟨rfl,hb1⟩
  have HB1:=hid (HB0.out.trans (hb1.mono HB0.out.size))
  have HTA1:=hid (HTA.out.below (hb1.mono HB0.out.size))
  have d3:=(hb1.cell (p:=⟨w.heap.size,3,none⟩) hls).trans k3
  have hls1:w.heap.size<w1.heap.size:=by have:=hb1.size; omega
  clear hb1 HB0 HTA k3 HF hls;generalize w.alloc (.cells cs 24)=w0 at*;cases ow with
  | false=>
   have HX:Hid (sizR t=-1):=HE.out.trans (if_pos (.inl rfl))
   go_wp2_with fail;go_ret;rw [HX.out];exact ⟨rfl,HB1.out⟩
  | true=>
   by_cases hbig:1000<ys.length
   ·have HX:Hid (sizR t=-1):=HE.out.trans (if_pos (.inr hbig))
    have hbz:(1000:Int)<(ys.length:Int):=by omega
    clear hbig;go_wp2_with fail;go_ret;rw [HX.out];exact ⟨rfl,HB1.out⟩
   ·have HX:Hid (sizR t=sizRs ys 1):=HE.out.trans (if_neg (fun h=>h.elim (fun h=>by cases h) hbig))
    have hbz:¬ (1000:Int)<(ys.length:Int):=by omega
    clear hbig HE;go_wp2_with fail;go_loopg [3,4] ys.length (fun gg s3 s4 wr=>∃ (i:Nat) (mi:Int),i≤ys.length∧ys.length-i≤gg∧s4=.int .i64 i∧s3=.int .i64 mi∧0≤mi∧mi≤1000∧Aside (sizRs ys 1=sizRs (ys.drop i) mi)∧Aside (Below w1.heap.size w1 wr))
    case atStart=>exact ⟨0,1,Nat.zero_le _,by omega,rfl,rfl,by omega,by omega,rfl,Below.refl _ _⟩
    case round=>
     obtain ⟨i,mi,hi,hgg,rfl,rfl,hmi1,hmi2,HQ,HB⟩:=hrel
     have HBw:=hid (HB1.out.trans (HB.out.mono HB1.out.size))
     have k3r:wr.cell? ⟨w.heap.size,3,none⟩=some (.slice A ys.length c):=(HB.out.cell (p:=⟨w.heap.size,3,none⟩) hls1).trans d3
     by_cases hlt:i<ys.length
     ·have hltz:(i:Int)<(ys.length:Int):=by omega
      obtain ⟨b',o',rfl,hRi⟩:=(HTA1.out.below (HB.out.mono HB1.out.size)).at_ hlt
      obtain ⟨_,d0,d1,d2,d4,A2,c2,d3',hcp3,hTA2⟩:=hRi.parts
      have HTV:Hid (TV wr wr.heap.size ys[i] A2 c2):=⟨hcp3,hTA2.more HBw.out.size⟩
      have HD:Hid (sizRs (ys.drop i) mi=if sizR ys[i] < 0∨1000<mi+sizR ys[i]then -1 else sizRs (ys.drop (i+1)) (mi+sizR ys[i])):=by
       show sizRs (ys.drop i) mi=_
       rw [List.drop_eq_getElem_cons hlt,sizRs]
      have HCall:=hid (IH.out ys[i] (HSZ.out _ (List.getElem_mem hlt)) A2 c2 wr HTV.out (HSA.out.mem (List.getElem_mem hlt)))
      obtain ⟨hlo1,hlo2⟩:=sizR_lo ys[i]
      clear hRi hcp3 hTA2 HTV;unfold tv at HCall;generalize sizR ys[i]=r at*;generalize ys[i]=u at*;go_wp2_with fail;refine HCall.out.mono ?_
      rintro e w2 ⟨rfl,hb2⟩
      have HB2:=hid (HB.out.trans (hb2.mono HB.out.size))
      have HBw2:=hid (HBw.out.trans (hb2.mono HBw.out.size))
      clear hb2 HCall d0 d1 d2 d3' d4;by_cases hneg:r<0
      ·have HY:Hid (sizR t=-1):=HX.out.trans (HQ.out.trans (HD.out.trans (if_pos (.inl hneg))))
       go_wp2_with fail;go_ret;rw [HY.out];exact ⟨rfl,HBw2.out⟩
      ·by_cases hov:1000<mi+r
       ·have HY:Hid (sizR t=-1):=HX.out.trans (HQ.out.trans (HD.out.trans (if_pos (.inr hov))))
        go_wp2_with fail;go_ret;rw [HY.out];exact ⟨rfl,HBw2.out⟩
       ·have HY:Hid (sizRs ys 1=sizRs (ys.drop (i+1)) (mi+r)):=HQ.out.trans (HD.out.trans (if_neg (fun h=>h.elim hneg hov)))
        go_wp2_with fail;go_roundg (ys.length-(i+1))
        case measure=>omega
        case rel=>exact ⟨i+1,mi+r,by omega,by omega,by go_num,rfl,by omega,by omega,HY.out,HB2.out⟩
     ·have hltz:¬ (i:Int)<(ys.length:Int):=by omega
      have HY:Hid (sizR t=mi):=by
       show sizR t=mi
       rw [HX.out,HQ.out,List.drop_eq_nil_of_le (by omega),sizRs]
      go_wp2_with fail;go_ret;rw [HY.out];exact ⟨rfl,HBw.out⟩
theorem size38_any (t:T)(A:Option Addr) (c:Nat)(w:World)(hv:TV w w.heap.size t A c)(hs:SA t):
  Calls Tryz.prog 31 #[.agg (tv t A c)] w fun e w'=>e=.returned (.int .i64 (sizR t))∧Below w.heap.size w w':=size_aux t.size t (Nat.le_refl _) A c w hv hs
set_option maxHeartbeats 1000000 in
theorem rvalid_any (t:T)(A:Option Addr) (c:Nat)(w:World)(hv:TV w w.heap.size t A c)(hs:SA t):
  Calls Tryz.prog 11 #[.agg (tv t A c)] w fun e w'=>e=.returned (.bool (validB t))∧Below w.heap.size w w':=by
 have hb0:Below w.heap.size w (w.alloc (.cells (tv t A c) 24)):=(Below.refl _ _).alloc (Nat.le_refl _) _
 have HB0:=hid hb0
 have HC:=hid (size38_any t A c _ ((hv.below hb0).more hb0.size) hs)
 have HP:=hid (sizR_valid t)
 have hpos:=size_pos t
 have HI:=hid (tv_info t A c)
 clear hv hs hb0;generalize tv t A c=cs at*;generalize sizR t=n at*;generalize t.size=m at*;have HF:Hid ((w.alloc (.cells cs 24)).heap[w.heap.size]?=some (.cells cs 24)):=blk_new _ _
 cases hvb:validB t with
 | true=>
  rw [hvb]at HP
  have hn:0<n:=by have:=HP.out; rw [if_pos rfl]at this; omega
  clear hvb HP;go_enter Tryz.func11,Tryz.ntmps11;go_wp2_with (with_reducible refine wpList_load_row rfl 24 (.tmp 1) rfl w.heap.size rfl 24 cs (0,0) _ HF.out Tryz.underlying24 rfl HI.out ?_)
  refine HC.out.mono ?_
  rintro e w1 ⟨rfl,hb1⟩
  have HB1:=hid (HB0.out.trans (hb1.mono HB0.out.size))
  clear hb1;go_wp2_with fail;go_ret;exact ⟨by first|rfl|simp [hn],HB1.out⟩
 | false=>
  rw [hvb]at HP
  have hn:¬ 0<n:=by have:=HP.out; rw [if_neg (by decide)]at this; omega
  clear hvb HP;go_enter Tryz.func11,Tryz.ntmps11;go_wp2_with (with_reducible refine wpList_load_row rfl 24 (.tmp 1) rfl w.heap.size rfl 24 cs (0,0) _ HF.out Tryz.underlying24 rfl HI.out ?_)
  refine HC.out.mono ?_
  rintro e w1 ⟨rfl,hb1⟩
  have HB1:=hid (HB0.out.trans (hb1.mono HB0.out.size))
  clear hb1;go_wp2_with fail;go_ret;exact ⟨by first|rfl|simp [hn],HB1.out⟩
end Go.Proofs.YtknpigdpepmimaaGreatDoor
