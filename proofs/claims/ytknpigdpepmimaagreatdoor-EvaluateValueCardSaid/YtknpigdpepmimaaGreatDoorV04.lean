/- Letters, identifiers, numbers as plain functions; contracts of the program's leaf. -/
import Derived.Test.YtknpigdpepmimaaGreatDoorRows
import Derived.WalkKit
import Derived.WalkSpells
import Derived.WalkLawsBesides
import Derived.Lib.Hide
import Derived.Deep.LoopGhost
import Derived.Shelf.SlGeneric
import Derived.Ground.GgzProg
import Derived.Shelf.Strings.Trim
import Derived.Shelf.Strconv.Itoa0
import Derived.Shelf.Strconv.Itoa1
import Derived.Shelf.LaysM
import Derived.Shelf.Strconv.Itoa2
import Derived.Shelf.Strconv.Itoa3
import Derived.Shelf.Strings.Cut
import Derived.Ground.Names2Prog
import Derived.Test.YtknpigdpepmimaaGreatDoorProg
namespace Go.Proofs.YtknpigdpepmimaaGreatDoor
open Go.Lib(hid)
open Go.RowKit
def isL (c:UInt8):Bool:=(decide (97≤c.toNat)&&decide (c.toNat≤122))||(decide (65≤c.toNat)&&decide (c.toNat≤90))
def okS (lo:Nat)(l:List UInt8):Bool:=l.all fun c=>decide (lo≤c.toNat)&&decide (c.toNat≤126)
def kwds:List (List UInt8):=[[102,114,97,99],[114,111,111,116],[109,97,116,114,105,120],[102,101,110,99,101]]
def accs:List (List UInt8):=[[104,97,116],[98,97,114],[118,101,99],[100,111,116],[116,105,108,100,101],[99,104,101,99,107]]
def wordB (l:List UInt8):Bool:=l.all isL&&decide (1≤l.length)&&decide (l.length≤16)
def identB (l:List UInt8):Bool:=wordB l&&!kwds.contains l&&!accs.contains l
theorem len_list (s:ByteArray):s.data.toList.length=s.size:=by rw [Array.length_toList]; rfl
theorem size_mk (l:List UInt8):(⟨l.toArray⟩:ByteArray).size=l.length:=by simp [ByteArray.size]
theorem ret_bool {a b:Bool}(h:a=b):Ending.returned (.bool a)=.returned (.bool b):=by rw [h]
theorem all_no (p:UInt8→Bool)(s:ByteArray) (k:Nat)(hk:k<s.size)(h:p s[k]=false):s.data.toList.all p=false:=by
 rw [List.all_eq_false];refine ⟨s[k],?_,by simp [h]⟩
 have:s[k]=s.data.toList[k]'(by simpa using hk):=rfl
 rw [this]; exact List.getElem_mem _
theorem all_yes (p:UInt8→Bool)(s:ByteArray)(h:∀ (j:Nat)(hj:j<s.size),p s[j]=true):s.data.toList.all p=true:=by
 rw [List.all_eq_true];intro x hx;obtain ⟨j,hj,rfl⟩:=List.mem_iff_getElem.1 hx
 exact h j (by simpa using hj)
set_option maxHeartbeats 1000000 in
theorem letter_any (c:Nat)(b:Bool)(w:World)(hc:c<256)(hb:b=((decide (97≤c)&&decide (c≤122))||(decide (65≤c)&&decide (c≤90)))):
  Calls Tryz.prog 105 #[.int .u8 c] w fun e w'=>e=.returned (.bool b)∧w=w':=by
 have HB:=hid hb
 clear hb;by_cases h1:97≤c
 ·have h1z:(97:Int)≤(c:Int):=by omega
  by_cases h2:c≤122
  ·have h2z:(c:Int)≤122:=by omega
   have HX:Hid (b=true):=by show b=true; rw [HB.out,decide_eq_true h1,decide_eq_true h2]; rfl
   go_enter Tryz.func105,Tryz.ntmps105;go_wp2
   go_ret;rw [HX.out];exact ⟨rfl,rfl⟩
  ·have h2z:¬ (c:Int)≤122:=by omega
   have h3z:(65:Int)≤(c:Int):=by omega
   have h4z:¬ (c:Int)≤90:=by omega
   have HX:Hid (b=false):=by show b=false; rw [HB.out,decide_eq_true h1,decide_eq_false h2,decide_eq_false (show ¬ c≤90 by omega)]; simp
   go_enter Tryz.func105,Tryz.ntmps105;go_wp2
   go_ret;rw [HX.out];exact ⟨rfl,rfl⟩
 ·have h1z:¬ (97:Int)≤(c:Int):=by omega
  by_cases h3:65≤c
  ·have h3z:(65:Int)≤(c:Int):=by omega
   by_cases h4:c≤90
   ·have h4z:(c:Int)≤90:=by omega
    have HX:Hid (b=true):=by show b=true; rw [HB.out,decide_eq_false h1,decide_eq_true h3,decide_eq_true h4]; rfl
    go_enter Tryz.func105,Tryz.ntmps105;go_wp2
    go_ret;rw [HX.out];exact ⟨rfl,rfl⟩
   ·have h4z:¬ (c:Int)≤90:=by omega
    have HX:Hid (b=false):=by show b=false; rw [HB.out,decide_eq_false h1,decide_eq_true h3,decide_eq_false h4]; rfl
    go_enter Tryz.func105,Tryz.ntmps105;go_wp2
    go_ret;rw [HX.out];exact ⟨rfl,rfl⟩
  ·have h3z:¬ (65:Int)≤(c:Int):=by omega
   have HX:Hid (b=false):=by show b=false; rw [HB.out,decide_eq_false h1,decide_eq_false h3]; rfl
   go_enter Tryz.func105,Tryz.ntmps105;go_wp2
   go_ret;rw [HX.out];exact ⟨rfl,rfl⟩
theorem letterC_any (c:UInt8)(w:World):Calls Tryz.prog 105 #[.int .u8 (c.toNat:Int)] w fun e w'=>e=.returned (.bool (isL c))∧w=w':=
 letter_any c.toNat (isL c) w c.toNat_lt rfl
set_option maxHeartbeats 1000000 in
theorem operator_any (s:ByteArray)(w:World)(hs:s.size≤1000):
  Calls Tryz.prog 198 #[.string s] w fun r w'=>r=.returned (.bool (wordB s.data.toList))∧w=w':=by
 go_enter Tryz.func198,Tryz.ntmps198;go_wp2_with fail;go_loop [3] (fun s3=>∃ kk:Nat,kk≤s.size∧s3=.int .i64 kk∧Aside (∀ (j:Nat)(hj:j<s.size),j<kk→isL s[j]=true)) (fun s3=>s.size-(intOf s3).toNat)
 case atStart=>exact ⟨0,Nat.zero_le _,rfl,fun j _ hj=>absurd hj (Nat.not_lt_zero _)⟩
 case round=>
  obtain ⟨kk,hkk,rfl,HA⟩:=hrel
  by_cases hlt:kk<s.size
  ·have hltz:(kk:Int)<(s.size:Int):=by omega
   cases hl:isL s[kk] with
   | false=>
    have HL:=hid hl
    have HP:Hid (wordB s.data.toList=false):=by show wordB s.data.toList=false; unfold wordB; rw [all_no isL s kk hlt hl]; rfl
    clear hl;go_wp2_with fail;refine (letterC_any s[kk] _).mono ?_
    rw [HL.out];rintro e w' ⟨rfl,rfl⟩
    go_wp2_with fail;go_ret;rw [HP.out];exact ⟨rfl,rfl⟩
   | true=>
    have HL:=hid hl
    clear hl;go_wp2_with fail;refine (letterC_any s[kk] _).mono ?_
    rw [HL.out];rintro e w' ⟨rfl,rfl⟩
    go_wp2_with fail;go_round
    case rel=>
     refine ⟨kk+1,by omega,by go_num,(show Aside _ from fun j hj hjk=>?_)⟩
     by_cases ee:j=kk
     ·subst ee; exact HL.out
     ·exact HA.out j hj (by omega)
    case measure=>simp [intOf]; omega
  ·have hltz:¬ (kk:Int)<(s.size:Int):=by omega
   obtain rfl:kk=s.size:=by omega
   have HP:Hid (wordB s.data.toList=(decide (1≤s.size)&&decide (s.size≤16))):=by
    show wordB s.data.toList=_
    unfold wordB;rw [all_yes isL s (fun j hj=>HA.out j hj hj),len_list,Bool.true_and]
   clear hlt HA;by_cases h1:1≤s.size
   ·have h1z:(1:Int)≤(s.size:Int):=by omega
    by_cases h2:s.size≤16
    ·have h2z:(s.size:Int)≤16:=by omega
     have HX:Hid (wordB s.data.toList=true):=by show wordB s.data.toList=true; rw [HP.out,decide_eq_true h1,decide_eq_true h2]; rfl
     clear HP;go_wp2_with fail;go_ret;rw [HX.out];exact ⟨rfl,rfl⟩
    ·have h2z:¬ (s.size:Int)≤16:=by omega
     have HX:Hid (wordB s.data.toList=false):=by show wordB s.data.toList=false; rw [HP.out,decide_eq_false h2,Bool.and_false]
     clear HP;go_wp2_with fail;go_ret;rw [HX.out];exact ⟨rfl,rfl⟩
   ·have h1z:¬ (1:Int)≤(s.size:Int):=by omega
    have HX:Hid (wordB s.data.toList=false):=by show wordB s.data.toList=false; rw [HP.out,decide_eq_false h1]; rfl
    clear HP;go_wp2_with fail;go_ret;rw [HX.out];exact ⟨rfl,rfl⟩
set_option maxHeartbeats 1000000 in
theorem between_any (s:ByteArray)(lo most:Nat)(w:World)(hs:s.size≤1000):
  Calls Tryz.prog 196 #[.string s,.int .u8 lo,.int .i64 most] w fun r w'=>r=.returned (.bool (okS lo s.data.toList&&decide (s.size≤most)))∧w=w':=by
 go_enter Tryz.func196,Tryz.ntmps196;go_wp2_with fail;go_loop [7] (fun s3=>∃ kk:Nat,kk≤s.size∧s3=.int .i64 kk∧Aside (∀ (j:Nat)(hj:j<s.size),j<kk→lo≤s[j].toNat∧s[j].toNat≤126)) (fun s3=>s.size-(intOf s3).toNat)
 case atStart=>exact ⟨0,Nat.zero_le _,rfl,fun j _ hj=>absurd hj (Nat.not_lt_zero _)⟩
 case round=>
  obtain ⟨kk,hkk,rfl,HA⟩:=hrel
  by_cases hlt:kk<s.size
  ·have hltz:(kk:Int)<(s.size:Int):=by omega
   by_cases h1:s[kk].toNat<lo
   ·have h1':(s[kk].toNat:Int)<(lo:Int):=by omega
    have HP:Hid (okS lo s.data.toList=false):=all_no _ s kk hlt (by simp; omega)
    go_wp2_with fail;go_ret;rw [HP.out];exact ⟨rfl,rfl⟩
   ·have h1':¬ (s[kk].toNat:Int)<(lo:Int):=by omega
    by_cases h2:126<s[kk].toNat
    ·have h2':(126:Int)<(s[kk].toNat:Int):=by omega
     have HP:Hid (okS lo s.data.toList=false):=all_no _ s kk hlt (by simp; omega)
     go_wp2_with fail;go_ret;rw [HP.out];exact ⟨rfl,rfl⟩
    ·have h2':¬ (126:Int)<(s[kk].toNat:Int):=by omega
     have hok:Hid (lo≤s[kk].toNat∧s[kk].toNat≤126):=⟨by omega,by omega⟩
     go_wp2_with fail;go_round
     case rel=>
      refine ⟨kk+1,by omega,by go_num,(show Aside _ from fun j hj hjk=>?_)⟩
      by_cases ee:j=kk
      ·subst ee; exact hok.out
      ·exact HA.out j hj (by omega)
     case measure=>simp [intOf]; omega
  ·have hltz:¬ (kk:Int)<(s.size:Int):=by omega
   obtain rfl:kk=s.size:=by omega
   have HP:Hid (okS lo s.data.toList=true):=all_yes _ s (fun j hj=>by have:=HA.out j hj hj; simp; exact this)
   clear hlt HA;have hdec:decide (s.size≤most)=decide ((s.size:Int)≤(most:Int)):=by rw [decide_eq_decide]; omega
   have HDEC:=hid hdec
   clear hdec;go_wp2_with fail;go_ret;rw [HP.out,HDEC.out];exact ⟨by rw [Bool.true_and]; rfl,rfl⟩
theorem or32_all:(List.range 256).all (fun c=>decide ((97≤(c ||| 32)∧(c ||| 32)≤122)↔((97≤c∧c≤122)∨(65≤c∧c≤90))))=true:=by decide +kernel
theorem or32 (c:UInt8):isL c=(decide (97≤(c.toNat ||| 32))&&decide ((c.toNat ||| 32)≤122)):=by
 have:=List.all_eq_true.1 or32_all c.toNat (List.mem_range.2 c.toNat_lt)
 rw [decide_eq_true_eq]at this
 unfold isL;rw [Bool.eq_iff_iff];simp only [Bool.or_eq_true,Bool.and_eq_true,decide_eq_true_eq];exact this.symm
theorem bits32_all:(List.range 256).all (fun c=>bits .or .u8 (c:Int) 32 == ((c ||| 32:Nat):Int))=true:=by decide +kernel
theorem bits32 (c:UInt8):bits .or .u8 (c.toNat:Int) 32=((c.toNat ||| 32:Nat):Int):=by
 have:=List.all_eq_true.1 bits32_all c.toNat (List.mem_range.2 c.toNat_lt)
 simpa using this
def lettB (l:List UInt8):Bool:=l.all isL
set_option maxHeartbeats 1000000 in
theorem letters_any (s:ByteArray)(w:World)(hs:s.size≤1000):
  Calls Tryz.prog 152 #[.string s] w fun r w'=>r=.returned (.bool (lettB s.data.toList))∧w=w':=by
 go_enter Tryz.func152,Tryz.ntmps152;go_wp2_with fail;go_loop [3] (fun s3=>∃ kk:Nat,kk≤s.size∧s3=.int .i64 kk∧Aside (∀ (j:Nat)(hj:j<s.size),j<kk→isL s[j]=true)) (fun s3=>s.size-(intOf s3).toNat)
 case atStart=>exact ⟨0,Nat.zero_le _,rfl,fun j _ hj=>absurd hj (Nat.not_lt_zero _)⟩
 case round=>
  obtain ⟨kk,hkk,rfl,HA⟩:=hrel
  by_cases hlt:kk<s.size
  ·have hltz:(kk:Int)<(s.size:Int):=by omega
   have HL:=hid (or32 s[kk])
   have hbt:=bits32 s[kk]
   obtain ⟨x,hx⟩:∃ x:Nat,x=s[kk].toNat ||| 32:=⟨_,rfl⟩
   rw [← hx]at HL hbt
   clear hx;by_cases h1:x<97
   ·have h1z:(x:Int)<97:=by omega
    have HP:Hid (lettB s.data.toList=false):=all_no isL s kk hlt (by rw [HL.out,decide_eq_false (by omega)]; rfl)
    go_wp2_with fail;go_ret;rw [HP.out];exact ⟨rfl,rfl⟩
   ·have h1z:¬ (x:Int)<97:=by omega
    by_cases h2:122<x
    ·have h2z:(122:Int)<(x:Int):=by omega
     have HP:Hid (lettB s.data.toList=false):=all_no isL s kk hlt (by rw [HL.out,decide_eq_false (show ¬ x≤122 by omega),Bool.and_false])
     go_wp2_with fail;go_ret;rw [HP.out];exact ⟨rfl,rfl⟩
    ·have h2z:¬ (122:Int)<(x:Int):=by omega
     have HK:Hid (isL s[kk]=true):=by show isL s[kk]=true; rw [HL.out,decide_eq_true (by omega),decide_eq_true (by omega)]; rfl
     go_wp2_with fail;go_round
     case rel=>
      refine ⟨kk+1,by omega,by go_num,(show Aside _ from fun j hj hjk=>?_)⟩
      by_cases ee:j=kk
      ·subst ee; exact HK.out
      ·exact HA.out j hj (by omega)
     case measure=>simp [intOf]; omega
  ·have hltz:¬ (kk:Int)<(s.size:Int):=by omega
   obtain rfl:kk=s.size:=by omega
   have HP:Hid (lettB s.data.toList=true):=all_yes isL s (fun j hj=>HA.out j hj hj)
   clear hlt HA;go_wp2_with fail;go_ret;rw [HP.out];exact ⟨rfl,rfl⟩
def kwB (l:List UInt8):Bool:=kwds.contains l
def acB (l:List UInt8):Bool:=accs.contains l
set_option maxHeartbeats 1000000 in
theorem keyword_any (s:ByteArray)(w:World):Calls Tryz.prog 154 #[.string s] w fun r w'=>r=.returned (.bool (kwB s.data.toList))∧w=w':=by
 have HK:Hid (kwB s.data.toList=(s.data.toList == [102,114,97,99]||(s.data.toList == [114,111,111,116]||(s.data.toList == [109,97,116,114,105,120]||(s.data.toList == [102,101,110,99,101]||false))))):=by show kwB s.data.toList=_; simp only [kwB,kwds,List.contains_cons,List.contains_nil]
 go_enter Tryz.func154,Tryz.ntmps154;go_wp2_with fail
 all_goals
  go_ret;refine ⟨ret_bool ?_,rfl⟩
  rw [HK.out];simp_all [ByteArray.toList_eq]
set_option maxHeartbeats 1000000 in
theorem accent_any (s:ByteArray)(w:World):Calls Tryz.prog 155 #[.string s] w fun r w'=>r=.returned (.bool (acB s.data.toList))∧w=w':=by
 have HK:Hid (acB s.data.toList=(s.data.toList == [104,97,116]||(s.data.toList == [98,97,114]||(s.data.toList == [118,101,99]||(s.data.toList == [100,111,116]||(s.data.toList == [116,105,108,100,101]||(s.data.toList == [99,104,101,99,107]||false))))))):=by show acB s.data.toList=_; simp only [acB,accs,List.contains_cons,List.contains_nil]
 go_enter Tryz.func155,Tryz.ntmps155;go_wp2_with fail
 all_goals
  go_ret;refine ⟨ret_bool ?_,rfl⟩
  rw [HK.out];simp_all [ByteArray.toList_eq]
def symB (l:List UInt8):Bool:=if l.length=1 then true else decide (2≤l.length)&&decide (l.length≤16)&&lettB l&&!kwB l&&!acB l
theorem kw_one (c:UInt8):kwB [c]=false∧acB [c]=false:=by
 unfold kwB acB kwds accs;simp
theorem ident_eq (c:UInt8)(l:List UInt8):identB (c::l)=(isL c&&symB (c::l)):=by
 unfold identB wordB symB;cases l with
 | nil=>
  rw [if_pos (show [c].length=1 from rfl)]
  obtain ⟨h1,h2⟩:=kw_one c
  unfold kwB at h1;unfold acB at h2;rw [h1,h2];simp
 | cons d l=>
  rw [if_neg (by simp)]
  show _=(isL c&&(decide (2≤(c::d::l).length)&&decide ((c::d::l).length≤16)&&(c::d::l).all isL&&!kwds.contains (c::d::l)&&!accs.contains (c::d::l)))
  generalize kwds.contains (c::d::l)=k;generalize accs.contains (c::d::l)=a;have e1:decide (2≤(c::d::l).length)=true:=by simp
  have e2:decide (1≤(c::d::l).length)=true:=by simp
  rw [e1,e2];generalize decide ((c::d::l).length≤16)=m;rw [List.all_cons];generalize (d::l).all isL=t;cases isL c<;>cases t<;>cases m<;>cases k<;>cases a<;>rfl
set_option maxHeartbeats 2000000 in
theorem symbol_any (s:ByteArray)(w:World)(hs:s.size≤1000)(h0:0<s.size)(hl:isL s[0]=true):
  Calls Tryz.prog 106 #[.string s] w fun r w'=>r=.returned (.bool (symB s.data.toList))∧w=w':=by
 have HL:=hid hl
 clear hl;have HS:Hid (symB s.data.toList=if s.size=1 then true else decide (2≤s.size)&&decide (s.size≤16)&&lettB s.data.toList&&!kwB s.data.toList&&!acB s.data.toList):=by show symB s.data.toList=_; unfold symB; rw [len_list]
 by_cases h1:s.size=1
 ·have h1b:((s.size:Int) == 1)=true:=by rw [beq_iff_eq]; omega
  have HT:Hid (lettB s.data.toList=true):=all_yes isL s (fun j hj=>by obtain rfl:j=0:=by omega
                                                                      exact HL.out)
  have HX:Hid (symB s.data.toList=true):=HS.out.trans (if_pos h1)
  go_enter Tryz.func106,Tryz.ntmps106;go_wp2_with fail;refine (letters_any s _ hs).mono ?_
  rw [HT.out];rintro e w' ⟨rfl,rfl⟩
  go_wp2_with fail;go_ret;rw [HX.out];exact ⟨rfl,rfl⟩
 ·have h1b:((s.size:Int) == 1)=false:=by rw [beq_eq_false_iff_ne]; omega
  have h2z:(2:Int)≤(s.size:Int):=by omega
  have HX:Hid (symB s.data.toList=(decide (s.size≤16)&&lettB s.data.toList&&!kwB s.data.toList&&!acB s.data.toList)):=by
   show symB s.data.toList=_
   rw [HS.out,if_neg h1,decide_eq_true (by omega),Bool.true_and]
  clear HS;by_cases h16:s.size≤16
  ·have h16z:(s.size:Int)≤16:=by omega
   rw [decide_eq_true h16,Bool.true_and]at HX
   cases ht:lettB s.data.toList with
   | false=>
    have HT:=hid ht
    rw [ht]at HX
    clear ht;go_enter Tryz.func106,Tryz.ntmps106;go_wp2_with fail;refine (letters_any s _ hs).mono ?_
    rw [HT.out];rintro e w' ⟨rfl,rfl⟩
    go_wp2_with fail;go_ret;rw [HX.out];exact ⟨rfl,rfl⟩
   | true=>
    have HT:=hid ht
    rw [ht,Bool.true_and]at HX
    clear ht;cases hk:kwB s.data.toList with
    | true=>
     have HK:=hid hk
     rw [hk]at HX
     clear hk;go_enter Tryz.func106,Tryz.ntmps106;go_wp2_with fail;refine (letters_any s _ hs).mono ?_
     rw [HT.out];rintro e w' ⟨rfl,rfl⟩
     go_wp2_with fail;refine (keyword_any s _).mono ?_
     rw [HK.out];rintro e w' ⟨rfl,rfl⟩
     go_wp2_with fail;go_ret;rw [HX.out];exact ⟨rfl,rfl⟩
    | false=>
     have HK:=hid hk
     rw [hk]at HX
     clear hk;go_enter Tryz.func106,Tryz.ntmps106;go_wp2_with fail;refine (letters_any s _ hs).mono ?_
     rw [HT.out];rintro e w' ⟨rfl,rfl⟩
     go_wp2_with fail;refine (keyword_any s _).mono ?_
     rw [HK.out];rintro e w' ⟨rfl,rfl⟩
     go_wp2_with fail;refine (accent_any s _).mono ?_
     obtain ⟨b,hb⟩:∃ b,b=acB s.data.toList:=⟨_,rfl⟩
     rw [← hb]at HX ⊢
     clear hb;rintro e w' ⟨rfl,rfl⟩
     go_wp2_with fail;go_ret;rw [HX.out];exact ⟨by simp,rfl⟩
  ·have h16z:¬ (s.size:Int)≤16:=by omega
   rw [decide_eq_false h16]at HX
   go_enter Tryz.func106,Tryz.ntmps106;go_wp2_with fail;go_ret;rw [HX.out];exact ⟨rfl,rfl⟩
set_option maxHeartbeats 2000000 in
theorem ident_any (s:ByteArray)(w:World)(hs:s.size≤1000):
  Calls Tryz.prog 57 #[.string s] w fun r w'=>r=.returned (.bool (identB s.data.toList))∧w=w':=by
 by_cases h0:s.size=0
 ·have he:s.toList=[]:=by rw [ByteArray.toList_eq]; exact List.eq_nil_of_length_eq_zero (by rw [len_list]; exact h0)
  have he2:s.toList.isEmpty=true:=by rw [he]; rfl
  have HX:Hid (identB s.data.toList=false):=by show identB s.data.toList=false; rw [← ByteArray.toList_eq,he]; rfl
  go_enter Tryz.func57,Tryz.ntmps57;go_wp2_with fail;go_ret;rw [HX.out];exact ⟨rfl,rfl⟩
 ·have hpos:0<s.size:=by omega
  have hposz:(0:Int)<(s.size:Int):=by omega
  obtain ⟨c,l,hcl⟩:∃ c l,s.data.toList=c::l:=by
   cases h:s.data.toList with
   | nil=>have:=len_list s; rw [h]at this; simp at this; omega
   | cons c l=>exact ⟨c,l,rfl⟩
  have hc0:s[0]=c:=by
   have:s[0]=s.data.toList[0]'(by rw [len_list]; exact hpos):=rfl
   rw [this]; simp [hcl]
  have he2:s.toList.isEmpty=false:=by rw [ByteArray.toList_eq,hcl]; rfl
  have he3:s.toList≠[]:=by rw [ByteArray.toList_eq,hcl]; simp
  have HX:Hid (identB s.data.toList=(isL s[0]&&symB s.data.toList)):=by show identB s.data.toList=_; rw [hcl,ident_eq,hc0]
  clear hcl hc0;cases hl:isL s[0] with
  | false=>
   have HL:=hid hl
   rw [hl]at HX
   clear hl;go_enter Tryz.func57,Tryz.ntmps57;go_wp2_with fail;refine (letterC_any s[0] _).mono ?_
   rw [HL.out];rintro e w' ⟨rfl,rfl⟩
   go_wp2_with fail;go_ret;rw [HX.out];exact ⟨rfl,rfl⟩
  | true=>
   have HL:=hid hl
   rw [hl,Bool.true_and]at HX
   clear hl;go_enter Tryz.func57,Tryz.ntmps57;go_wp2_with fail;refine (letterC_any s[0] _).mono ?_
   rw [HL.out];rintro e w' ⟨rfl,rfl⟩
   go_wp2_with fail;refine (symbol_any s _ hs hpos HL.out).mono ?_
   obtain ⟨b,hb⟩:∃ b,b=symB s.data.toList:=⟨_,rfl⟩
   rw [← hb]at HX ⊢
   clear hb;rintro e w' ⟨rfl,rfl⟩
   go_wp2_with fail;go_ret;rw [HX.out];exact ⟨rfl,rfl⟩
inductive T where
 | mk (kind:Int)(name var:List UInt8)(args:List T)(form:List UInt8)
def T.kind:T→Int|.mk k _ _ _ _=>k
def T.name:T→List UInt8|.mk _ n _ _ _=>n
def T.var:T→List UInt8|.mk _ _ v _ _=>v
def T.args:T→List T|.mk _ _ _ a _=>a
def T.form:T→List UInt8|.mk _ _ _ _ f=>f
mutual
def T.size:T→Nat|.mk _ _ _ ys _=>1+sizes ys
def sizes:List T→Nat|[]=>0|t::ts=>t.size+sizes ts
end
theorem size_mem {t:T}:∀ {ts:List T},t∈ts→t.size≤sizes ts
 | [],h=>by cases h
 | u::ts,h=>by
  unfold sizes;rcases List.mem_cons.1 h with rfl|h
  ·omega
  ·have:=size_mem h; omega
theorem size_arg {t u:T}(h:u∈t.args):u.size<t.size:=by
 cases t with
 | mk k n v ys f=>
  have:=size_mem (ts:=ys) h
  have e:T.size (.mk k n v ys f)=1+sizes ys:=by rw [T.size]
  omega
mutual
def TR (w:World)(B b o:Nat):T→Prop
 | .mk k n v ys f=>b<B∧w.cell? ⟨b,o,none⟩=some (.int .i64 k)∧w.cell? ⟨b,o+1,none⟩=some (.string ⟨n.toArray⟩)∧w.cell? ⟨b,o+2,none⟩=some (.string ⟨v.toArray⟩)∧w.cell? ⟨b,o+4,none⟩=some (.string ⟨f.toArray⟩)∧
   ∃ A c,w.cell? ⟨b,o+3,none⟩=some (.slice A ys.length c)∧(ys.length≤c∧c≤9223372036854775807)∧(ys≠[]→∃ b' o',A=some ⟨b',o',none⟩∧TRs w B b' o' ys)
def TRs (w:World)(B b o:Nat):List T→Prop
 | []=>True
 | t::ts=>TR w B b o t∧TRs w B b (o+5) ts
end
def TA (w:World) (B:Nat)(A:Option Addr)(ys:List T):Prop:=ys≠[]→∃ b o,A=some ⟨b,o,none⟩∧TRs w B b o ys
theorem TRs.at_ {w:World}{B b:Nat}:∀ {ys:List T}{o:Nat},TRs w B b o ys→∀ i t,ys[i]?=some t→TR w B b (o+i*5) t
 | [],_,_,_,_,h=>by simp at h
 | u::ys,o,hr,i,t,h=>by
  unfold TRs at hr;cases i with
  | zero=>simp at h; subst h; simpa using hr.1
  | succ i=>
   have:=hr.2.at_ i t (by simpa using h)
   rwa [show o+5+i*5=o+(i+1)*5 from by omega]at this
mutual
theorem TR.below {w w':World}{B b o:Nat}{t:T}(h:TR w B b o t)(hb:Below B w w'):TR w' B b o t:=by
 cases t with
 | mk k n v ys f=>
  unfold TR at h ⊢;obtain ⟨h1,h2,h3,h4,h5,A,c,h6,h7,h8⟩:=h
  refine ⟨h1,(hb.cell (p:=⟨b,_,none⟩) h1).trans h2,(hb.cell (p:=⟨b,_,none⟩) h1).trans h3,(hb.cell (p:=⟨b,_,none⟩) h1).trans h4,(hb.cell (p:=⟨b,_,none⟩) h1).trans h5,A,c,(hb.cell (p:=⟨b,_,none⟩) h1).trans h6,h7,fun hne=>?_⟩
  obtain ⟨b',o',hA,hs⟩:=h8 hne
  exact ⟨b',o',hA,hs.below hb⟩
theorem TRs.below {w w':World}{B b o:Nat}{ts:List T}(h:TRs w B b o ts)(hb:Below B w w'):TRs w' B b o ts:=by
 cases ts with
 | nil=>unfold TRs; trivial
 | cons t ts=>
  unfold TRs at h ⊢;exact ⟨h.1.below hb,h.2.below hb⟩
end
mutual
theorem TR.more {w:World}{B B' b o:Nat}{t:T}(h:TR w B b o t)(hB:B≤B'):TR w B' b o t:=by
 cases t with
 | mk k n v ys f=>
  unfold TR at h ⊢;obtain ⟨h1,h2,h3,h4,h5,A,c,h6,h7,h8⟩:=h
  refine ⟨by omega,h2,h3,h4,h5,A,c,h6,h7,fun hne=>?_⟩
  obtain ⟨b',o',hA,hs⟩:=h8 hne
  exact ⟨b',o',hA,hs.more hB⟩
theorem TRs.more {w:World}{B B' b o:Nat}{ts:List T}(h:TRs w B b o ts)(hB:B≤B'):TRs w B' b o ts:=by
 cases ts with
 | nil=>unfold TRs; trivial
 | cons t ts=>
  unfold TRs at h ⊢;exact ⟨h.1.more hB,h.2.more hB⟩
end
theorem TR.parts {w:World}{B b o:Nat}{t:T}(h:TR w B b o t):b<B∧w.cell? ⟨b,o,none⟩=some (.int .i64 t.kind)∧w.cell? ⟨b,o+1,none⟩=some (.string ⟨t.name.toArray⟩)∧w.cell? ⟨b,o+2,none⟩=some (.string ⟨t.var.toArray⟩)∧w.cell? ⟨b,o+4,none⟩=some (.string ⟨t.form.toArray⟩)∧
  ∃ A c,w.cell? ⟨b,o+3,none⟩=some (.slice A t.args.length c)∧(t.args.length≤c∧c≤9223372036854775807)∧TA w B A t.args:=by
 cases t with
 | mk k n v ys f=>unfold TR at h; exact h
end Go.Proofs.YtknpigdpepmimaaGreatDoor
namespace Go.Proofs
open Go.Lib(hid)
open Go.Shelf
def Tryz.lays161_ren:Go.Shelf.Ren:=⟨fun|161=>171|231=>203|227=>167|233=>204|235=>205|228=>200|197=>224|151=>202|260=>239|152=>225|137=>240|119=>241|224=>221|225=>220|217=>219|266=>237|n=>n,fun|9=>9|4=>4|3=>3|5=>5|117=>202|116=>201|0=>0|124=>205|105=>226|21=>21|119=>263|46=>170|139=>266|138=>265|n=>n,fun|3=>2|4=>3|n=>n⟩
theorem Tryz.lays161:Go.Proofs.Lays.n161 Tryz.prog Tryz.lays161_ren:={
 mixed:=by kernel_rfl
 f119:=Tryz.func241.trans (congrArg some (by kernel_rfl))
 f137:=Tryz.func240.trans (congrArg some (by kernel_rfl))
 f151:=Tryz.func202.trans (congrArg some (by kernel_rfl))
 f152:=Tryz.func225.trans (congrArg some (by kernel_rfl))
 f161:=Tryz.func171.trans (congrArg some (by kernel_rfl))
 f197:=Tryz.func224.trans (congrArg some (by kernel_rfl))
 f217:=Tryz.func219.trans (congrArg some (by kernel_rfl))
 f224:=Tryz.func221.trans (congrArg some (by kernel_rfl))
 f225:=Tryz.func220.trans (congrArg some (by kernel_rfl))
 f227:=Tryz.func167.trans (congrArg some (by kernel_rfl))
 f228:=Tryz.func200.trans (congrArg some (by kernel_rfl))
 f231:=Tryz.func203.trans (congrArg some (by kernel_rfl))
 f233:=Tryz.func204.trans (congrArg some (by kernel_rfl))
 f235:=Tryz.func205.trans (congrArg some (by kernel_rfl))
 f260:=Tryz.func239.trans (congrArg some (by kernel_rfl))
 f266:=Tryz.func237.trans (congrArg some (by kernel_rfl))
 t0:=Tryz.underlying0
 a0:=Tryz.isAgg0
 z0:=Tryz.sizeOf0
 v0:=Tryz.zeroValue0
 t3:=Tryz.underlying3
 a3:=Tryz.isAgg3
 z3:=Tryz.sizeOf3
 v3:=Tryz.zeroValue3
 t4:=Tryz.underlying4
 a4:=Tryz.isAgg4
 z4:=Tryz.sizeOf4
 v4:=Tryz.zeroValue4
 t5:=Tryz.underlying5
 a5:=Tryz.isAgg5
 z5:=Tryz.sizeOf5
 v5:=Tryz.zeroValue5
 t9:=Tryz.underlying9
 a9:=Tryz.isAgg9
 z9:=Tryz.sizeOf9
 v9:=Tryz.zeroValue9
 t21:=Tryz.underlying21
 a21:=Tryz.isAgg21
 z21:=Tryz.sizeOf21
 v21:=Tryz.zeroValue21
 t46:=Tryz.underlying170
 a46:=Tryz.isAgg170
 z46:=Tryz.sizeOf170
 v46:=Tryz.zeroValue170
 t105:=Tryz.underlying226
 a105:=Tryz.isAgg226
 z105:=Tryz.sizeOf226
 v105:=Tryz.zeroValue226
 t116:=Tryz.underlying201
 a116:=Tryz.isAgg201
 z116:=Tryz.sizeOf201
 t117:=Tryz.underlying202
 a117:=Tryz.isAgg202
 z117:=Tryz.sizeOf202
 v117:=Tryz.zeroValue202
 t119:=Tryz.underlying263
 a119:=Tryz.isAgg263
 z119:=Tryz.sizeOf263
 t124:=Tryz.underlying205
 a124:=Tryz.isAgg205
 z124:=Tryz.sizeOf205
 v124:=Tryz.zeroValue205
 t138:=Tryz.underlying265
 a138:=Tryz.isAgg265
 z138:=Tryz.sizeOf265
 v138:=Tryz.zeroValue265
 t139:=Tryz.underlying266
 a139:=Tryz.isAgg266
 z139:=Tryz.sizeOf266
 v139:=Tryz.zeroValue266
 g3:=by kernel_rfl
 g4:=by kernel_rfl }
open Go.RowKit in
theorem Tryz.strings_TrimLeft_one (s:ByteArray)(c:UInt8)(hc:c.toNat<128)(w:World):
  Calls Tryz.prog 171 #[.string s,.string ⟨#[c]⟩] w fun e w'=>e=.returned (.string ⟨(Lib.trimLeftB s.data.toList c).toArray⟩)∧w'=w:=Any.strings_TrimLeft_one Tryz.lays161 s c hc w
def Tryz.lays162_ren:Go.Shelf.Ren:=⟨fun|162=>128|232=>166|227=>167|234=>168|236=>169|228=>200|271=>201|151=>202|120=>223|197=>224|152=>225|260=>239|137=>240|119=>241|224=>221|225=>220|217=>219|266=>237|n=>n,fun|9=>9|4=>4|3=>3|5=>5|117=>202|116=>201|0=>0|124=>205|21=>21|105=>226|46=>170|119=>263|139=>266|138=>265|n=>n,fun|3=>2|4=>3|n=>n⟩
theorem Tryz.lays162:Go.Proofs.Lays.n162 Tryz.prog Tryz.lays162_ren:={
 mixed:=by kernel_rfl
 f119:=Tryz.func241.trans (congrArg some (by kernel_rfl))
 f120:=Tryz.func223.trans (congrArg some (by kernel_rfl))
 f137:=Tryz.func240.trans (congrArg some (by kernel_rfl))
 f151:=Tryz.func202.trans (congrArg some (by kernel_rfl))
 f152:=Tryz.func225.trans (congrArg some (by kernel_rfl))
 f162:=Tryz.func128.trans (congrArg some (by kernel_rfl))
 f197:=Tryz.func224.trans (congrArg some (by kernel_rfl))
 f217:=Tryz.func219.trans (congrArg some (by kernel_rfl))
 f224:=Tryz.func221.trans (congrArg some (by kernel_rfl))
 f225:=Tryz.func220.trans (congrArg some (by kernel_rfl))
 f227:=Tryz.func167.trans (congrArg some (by kernel_rfl))
 f228:=Tryz.func200.trans (congrArg some (by kernel_rfl))
 f232:=Tryz.func166.trans (congrArg some (by kernel_rfl))
 f234:=Tryz.func168.trans (congrArg some (by kernel_rfl))
 f236:=Tryz.func169.trans (congrArg some (by kernel_rfl))
 f260:=Tryz.func239.trans (congrArg some (by kernel_rfl))
 f266:=Tryz.func237.trans (congrArg some (by kernel_rfl))
 f271:=Tryz.func201.trans (congrArg some (by kernel_rfl))
 t0:=Tryz.underlying0
 a0:=Tryz.isAgg0
 z0:=Tryz.sizeOf0
 v0:=Tryz.zeroValue0
 t3:=Tryz.underlying3
 a3:=Tryz.isAgg3
 z3:=Tryz.sizeOf3
 v3:=Tryz.zeroValue3
 t4:=Tryz.underlying4
 a4:=Tryz.isAgg4
 z4:=Tryz.sizeOf4
 v4:=Tryz.zeroValue4
 t5:=Tryz.underlying5
 a5:=Tryz.isAgg5
 z5:=Tryz.sizeOf5
 v5:=Tryz.zeroValue5
 t9:=Tryz.underlying9
 a9:=Tryz.isAgg9
 z9:=Tryz.sizeOf9
 v9:=Tryz.zeroValue9
 t21:=Tryz.underlying21
 a21:=Tryz.isAgg21
 z21:=Tryz.sizeOf21
 v21:=Tryz.zeroValue21
 t46:=Tryz.underlying170
 a46:=Tryz.isAgg170
 z46:=Tryz.sizeOf170
 v46:=Tryz.zeroValue170
 t105:=Tryz.underlying226
 a105:=Tryz.isAgg226
 z105:=Tryz.sizeOf226
 v105:=Tryz.zeroValue226
 t116:=Tryz.underlying201
 a116:=Tryz.isAgg201
 z116:=Tryz.sizeOf201
 t117:=Tryz.underlying202
 a117:=Tryz.isAgg202
 z117:=Tryz.sizeOf202
 v117:=Tryz.zeroValue202
 t119:=Tryz.underlying263
 a119:=Tryz.isAgg263
 z119:=Tryz.sizeOf263
 t124:=Tryz.underlying205
 a124:=Tryz.isAgg205
 z124:=Tryz.sizeOf205
 v124:=Tryz.zeroValue205
 t138:=Tryz.underlying265
 a138:=Tryz.isAgg265
 z138:=Tryz.sizeOf265
 v138:=Tryz.zeroValue265
 t139:=Tryz.underlying266
 a139:=Tryz.isAgg266
 z139:=Tryz.sizeOf266
 v139:=Tryz.zeroValue266
 g3:=by kernel_rfl
 g4:=by kernel_rfl }
open Go.RowKit in
theorem Tryz.strings_TrimRight_one (s:ByteArray)(c:UInt8)(hc:c.toNat<128)(w:World)(hs:s.size≤9223372036854775807):
  Calls Tryz.prog 128 #[.string s,.string ⟨#[c]⟩] w fun e w'=>e=.returned (.string ⟨(Lib.trimRightB s.data.toList c).toArray⟩)∧w'=w:=Any.strings_TrimRight_one Tryz.lays162 s c hc w hs
def Tryz.lays129_ren:Go.Shelf.Ren:=⟨fun|129=>87|n=>n,fun|53=>123|3=>3|4=>4|46=>170|5=>5|9=>9|n=>n,fun|n=>n⟩
theorem Tryz.lays129:Go.Proofs.Lays.n129 Tryz.prog Tryz.lays129_ren:={
 mixed:=by kernel_rfl
 f129:=Tryz.func87.trans (congrArg some (by kernel_rfl))
 t3:=Tryz.underlying3
 a3:=Tryz.isAgg3
 z3:=Tryz.sizeOf3
 v3:=Tryz.zeroValue3
 t4:=Tryz.underlying4
 a4:=Tryz.isAgg4
 z4:=Tryz.sizeOf4
 v4:=Tryz.zeroValue4
 t5:=Tryz.underlying5
 a5:=Tryz.isAgg5
 z5:=Tryz.sizeOf5
 v5:=Tryz.zeroValue5
 t9:=Tryz.underlying9
 a9:=Tryz.isAgg9
 z9:=Tryz.sizeOf9
 v9:=Tryz.zeroValue9
 t46:=Tryz.underlying170
 a46:=Tryz.isAgg170
 z46:=Tryz.sizeOf170
 v46:=Tryz.zeroValue170
 t53:=Tryz.underlying123
 a53:=Tryz.isAgg123
 z53:=Tryz.sizeOf123
 v53:=Tryz.zeroValue123 }
theorem Tryz.bits_Len64 (x:Int)(w:World)(h0:0≤x)(h1:x≤18446744073709551615):
  Calls Tryz.prog 87 #[.int .u64 x] w fun e w'=>e=.returned (.int .i64 (Lib.bitLen x.toNat))∧w'=w:=Any.bits_Len64 Tryz.lays129 x w h0 h1
def Tryz.lays145_ren:Go.Shelf.Ren:=⟨fun|145=>126|220=>165|219=>199|217=>219|225=>220|224=>221|267=>222|266=>237|314=>238|n=>n,fun|9=>9|4=>4|59=>154|3=>3|5=>5|46=>170|146=>257|51=>250|n=>n,fun|1=>0|n=>n⟩
theorem Tryz.lays145:Go.Proofs.Lays.n145 Tryz.prog Tryz.lays145_ren:={
 mixed:=by kernel_rfl
 f145:=Tryz.func126.trans (congrArg some (by kernel_rfl))
 f217:=Tryz.func219.trans (congrArg some (by kernel_rfl))
 f219:=Tryz.func199.trans (congrArg some (by kernel_rfl))
 f220:=Tryz.func165.trans (congrArg some (by kernel_rfl))
 f224:=Tryz.func221.trans (congrArg some (by kernel_rfl))
 f225:=Tryz.func220.trans (congrArg some (by kernel_rfl))
 f266:=Tryz.func237.trans (congrArg some (by kernel_rfl))
 f267:=Tryz.func222.trans (congrArg some (by kernel_rfl))
 f314:=Tryz.func238.trans (congrArg some (by kernel_rfl))
 t3:=Tryz.underlying3
 a3:=Tryz.isAgg3
 z3:=Tryz.sizeOf3
 v3:=Tryz.zeroValue3
 t4:=Tryz.underlying4
 a4:=Tryz.isAgg4
 z4:=Tryz.sizeOf4
 v4:=Tryz.zeroValue4
 t5:=Tryz.underlying5
 a5:=Tryz.isAgg5
 z5:=Tryz.sizeOf5
 v5:=Tryz.zeroValue5
 t9:=Tryz.underlying9
 a9:=Tryz.isAgg9
 z9:=Tryz.sizeOf9
 v9:=Tryz.zeroValue9
 t46:=Tryz.underlying170
 a46:=Tryz.isAgg170
 z46:=Tryz.sizeOf170
 v46:=Tryz.zeroValue170
 t51:=Tryz.underlying250
 a51:=Tryz.isAgg250
 z51:=Tryz.sizeOf250
 v51:=Tryz.zeroValue250
 t59:=Tryz.underlying154
 a59:=Tryz.isAgg154
 z59:=Tryz.sizeOf154
 v59:=Tryz.zeroValue154
 t146:=Tryz.underlying257
 a146:=Tryz.isAgg257
 z146:=Tryz.sizeOf257
 v146:=Tryz.zeroValue257
 g1:=by kernel_rfl }
open Go.RowKit Go.Lib in
theorem Tryz.strings_Cut (s sep:ByteArray) (m:Int)(w:World)(hs:s.size<4294967281)(hm:w.cell? ⟨0,0,none⟩=some (.int .i64 m)):
  Calls Tryz.prog 126 #[.string s,.string sep] w fun e w'=>e=.returned (.tuple #[.string ⟨(Lib.cut s.data.toList sep.data.toList).1.toArray⟩,.string ⟨(Lib.cut s.data.toList sep.data.toList).2.1.toArray⟩,.bool (Lib.cut s.data.toList sep.data.toList).2.2])∧∃ n,w'=w.drewN n:=Any.strings_Cut Tryz.lays145 s sep m w hs hm
def Tryz.laysM145_ren:Go.Shelf.Ren:=⟨fun|145=>126|220=>165|219=>199|217=>219|225=>220|224=>221|267=>222|266=>237|314=>238|n=>n,fun|9=>9|4=>4|59=>154|3=>3|5=>5|46=>170|146=>257|51=>250|n=>n,fun|1=>0|n=>n⟩
theorem Tryz.laysM145:Go.Proofs.LaysM.n145 Tryz.prog Tryz.laysM145_ren:={
 mixed:=by kernel_rfl
 f145:=Tryz.func126.trans (congrArg some (by kernel_rfl))
 f217:=Tryz.func219.trans (congrArg some (by kernel_rfl))
 f219:=Tryz.func199.trans (congrArg some (by kernel_rfl))
 f220:=Tryz.func165.trans (congrArg some (by kernel_rfl))
 f224:=Tryz.func221.trans (congrArg some (by kernel_rfl))
 f225:=Tryz.func220.trans (congrArg some (by kernel_rfl))
 f266:=Tryz.func237.trans (congrArg some (by kernel_rfl))
 f267:=Tryz.func222.trans (congrArg some (by kernel_rfl))
 f314:=Tryz.func238.trans (congrArg some (by kernel_rfl))
 t3:=Tryz.underlying3
 a3:=Tryz.isAgg3
 z3:=Tryz.sizeOf3
 v3:=Tryz.zeroValue3
 t4:=Tryz.underlying4
 a4:=Tryz.isAgg4
 z4:=Tryz.sizeOf4
 v4:=Tryz.zeroValue4
 t5:=Tryz.underlying5
 a5:=Tryz.isAgg5
 z5:=Tryz.sizeOf5
 v5:=Tryz.zeroValue5
 t9:=Tryz.underlying9
 a9:=Tryz.isAgg9
 z9:=Tryz.sizeOf9
 v9:=Tryz.zeroValue9
 t46:=Tryz.underlying170
 a46:=Tryz.isAgg170
 z46:=Tryz.sizeOf170
 v46:=Tryz.zeroValue170
 t51:=Tryz.underlying250
 a51:=Tryz.isAgg250
 z51:=Tryz.sizeOf250
 v51:=Tryz.zeroValue250
 t59:=Tryz.underlying154
 a59:=Tryz.isAgg154
 z59:=Tryz.sizeOf154
 v59:=Tryz.zeroValue154
 t146:=Tryz.underlying257
 a146:=Tryz.isAgg257
 z146:=Tryz.sizeOf257
 v146:=Tryz.zeroValue257
 g1:=by kernel_rfl
 i3:=by kernel_rfl
 i4:=by kernel_rfl
 i5:=by kernel_rfl
 i9:=by kernel_rfl
 i46:=by kernel_rfl
 i51:=by kernel_rfl
 i59:=by kernel_rfl
 i146:=by kernel_rfl
 m1:=by kernel_rfl
 s1_3:=fun w h=>Go.Proofs.cell_of_shapedOpen_int (zero:=#[.int .i64 0]) (t:=3) h (of_decide_eq_true (by kernel_rfl)) (by kernel_rfl) rfl (by kernel_rfl) (by kernel_rfl) Tryz.underlying3 }
end Go.Proofs
