/- Contracts of digits, Number and own. -/
import Derived.Lib.IndexMore
import Derived.Lib.Strings
import Derived.Deep.CutBlock
import Derived.Deep.DeepCutAuto
import Derived.Laws.Tables
import Derived.Test.YtknpigdpepmimaaGreatDoorV04
import Derived.Deep.QuietTactic
import Derived.BigQuiet
import Derived.IntWalk
namespace Go.Proofs.YtknpigdpepmimaaGreatDoor
open Go.Lib(hid)
open Go.RowKit
def isD (c:UInt8):Bool:=decide (48≤c.toNat)&&decide (c.toNat≤57)
def digs (l:List UInt8):Bool:=l.all isD&&!l.isEmpty
set_option maxHeartbeats 1000000 in
theorem digs_any (s:ByteArray)(w:World)(hs:s.size≤1000):
  Calls Tryz.prog 218 #[.string s] w fun r w'=>r=.returned (.bool (digs s.data.toList))∧w=w':=by
 go_enter Tryz.func218,Tryz.ntmps218;go_wp2
 go_loop [3] (fun s3=>∃ kk:Nat,kk≤s.size∧s3=.int .i64 kk∧Aside (∀ (j:Nat)(hj:j<s.size),j<kk→isD s[j]=true)) (fun s3=>s.size-(intOf s3).toNat)
 case atStart=>exact ⟨0,Nat.zero_le _,rfl,fun j _ hj=>absurd hj (Nat.not_lt_zero _)⟩
 case round=>
  obtain ⟨kk,hkk,rfl,HA⟩:=hrel
  by_cases hlt:kk<s.size
  ·have hltz:(kk:Int)<(s.size:Int):=by omega
   by_cases h1:s[kk].toNat<48
   ·have h1':(s[kk].toNat:Int)<48:=by omega
    have hp:Hid (digs s.data.toList=false):=by show digs s.data.toList=false; unfold digs; rw [all_no isD s kk hlt (by simp [isD]; omega)]; rfl
    go_wp2
    go_ret;rw [hp.out];exact ⟨rfl,rfl⟩
   ·have h1':¬ (s[kk].toNat:Int)<48:=by omega
    by_cases h2:57<s[kk].toNat
    ·have h2':(57:Int)<(s[kk].toNat:Int):=by omega
     have hp:Hid (digs s.data.toList=false):=by show digs s.data.toList=false; unfold digs; rw [all_no isD s kk hlt (by simp [isD]; omega)]; rfl
     go_wp2
     go_ret;rw [hp.out];exact ⟨rfl,rfl⟩
    ·have h2':¬ (57:Int)<(s[kk].toNat:Int):=by omega
     have hok:Hid (isD s[kk]=true):=by show isD s[kk]=true; simp [isD]; omega
     go_wp2
     go_round
     case rel=>
      refine ⟨kk+1,by omega,by go_num,(show Aside _ from fun j hj hjk=>?_)⟩
      by_cases ee:j=kk
      ·subst ee; exact hok.out
      ·exact HA.out j hj (by omega)
     case measure=>simp [intOf]; omega
  ·have hltz:¬ (kk:Int)<(s.size:Int):=by omega
   obtain rfl:kk=s.size:=by omega
   have hp:Hid (digs s.data.toList=!s.data.toList.isEmpty):=by show digs s.data.toList=_; unfold digs; rw [all_yes isD s (fun j hj=>HA.out j hj hj),Bool.true_and]
   clear hlt HA;go_wp2
   all_goals
    go_ret;refine ⟨ret_bool ?_,rfl⟩
    rw [hp.out];simp [ByteArray.toList_eq, *]
theorem digsL_any (l:List UInt8)(w:World)(hl:l.length≤1000):
  Calls Tryz.prog 218 #[.string ⟨l.toArray⟩] w fun r w'=>r=.returned (.bool (digs l))∧w=w':=by
 have:=digs_any ⟨l.toArray⟩ w (by rw [size_mk]; exact hl)
 simpa using this
structure Max (w:World):Prop where
 cell:∃ m,w.cell? ⟨0,0,none⟩=some (.int .i64 m)
theorem Max.below {w w':World}(h:Max w)(hb:Below w.heap.size w w'):Max w':=by
 obtain ⟨m,hm⟩:=h.cell
 have hlt:0<w.heap.size:=World.block_lt_of_cell? w _ hm
 exact ⟨m,(hb.cell (p:=⟨0,0,none⟩) hlt).trans hm⟩
theorem cut_any (l:List UInt8)(w:World)(hl:l.length≤1000)(hm:Max w):
  Calls Tryz.prog 126 #[.string ⟨l.toArray⟩,.string ⟨#[46]⟩] w fun e w'=>e=.returned (.tuple #[.string ⟨(Lib.cut l [46]).1.toArray⟩,.string ⟨(Lib.cut l [46]).2.1.toArray⟩,.bool (Lib.cut l [46]).2.2])∧∃ n,w'=w.drewN n:=by
 obtain ⟨m,hm⟩:=hm.cell
 exact (Tryz.strings_Cut ⟨l.toArray⟩ ⟨#[46]⟩ m w (by rw [size_mk]; omega) hm).mono fun _ _ ⟨he,n,hw⟩=>⟨by simpa using he,n,hw⟩
theorem cut_len (l:List UInt8):(Lib.cut l [46]).1.length≤l.length∧(Lib.cut l [46]).2.1.length≤l.length:=by
 unfold Lib.cut;split
 ·simp; omega
 ·simp
def numB (l:List UInt8):Bool:=decide (l.length≤20)&&digs (Lib.cut l [46]).1&&(!(Lib.cut l [46]).2.2||digs (Lib.cut l [46]).2.1)
set_option maxHeartbeats 2000000 in
theorem number_any (l:List UInt8)(w:World)(hl:l.length≤1000)(hm:Max w):
  Calls Tryz.prog 197 #[.string ⟨l.toArray⟩] w fun e w'=>e=.returned (.bool (numB l))∧∃ n,w'=w.drewN n:=by
 have HM:=hid hm
 clear hm;have l3:=cut_len l
 have hsz:(⟨l.toArray⟩:ByteArray).size=l.length:=size_mk l
 have HN:Hid (numB l=(decide (l.length≤20)&&digs (Lib.cut l [46]).1&&(!(Lib.cut l [46]).2.2||digs (Lib.cut l [46]).2.1))):=rfl
 go_enter Tryz.func197,Tryz.ntmps197;go_wp2_with fail;refine (cut_any l _ hl HM.out).mono ?_
 obtain ⟨⟨wh,re,pt⟩,hx⟩:∃ x,x=Lib.cut l [46]:=⟨_,rfl⟩
 rw [← hx]at HN l3 ⊢
 clear hx;simp only at HN l3 ⊢
 rintro e w1 ⟨rfl,n1,rfl⟩
 by_cases h20:l.length≤20
 ·have h20z:(l.length:Int)≤20:=by omega
  rw [decide_eq_true h20,Bool.true_and]at HN
  cases hd:digs wh with
  | false=>
   have HD:=hid hd
   rw [hd]at HN
   clear hd;go_wp2_with fail;refine (digsL_any wh _ (by omega)).mono ?_
   rw [HD.out];rintro e w' ⟨rfl,rfl⟩
   go_wp2_with fail;go_ret;rw [HN.out];exact ⟨rfl,n1,rfl⟩
  | true=>
   have HD:=hid hd
   rw [hd,Bool.true_and]at HN
   clear hd;cases pt with
   | false=>
    go_wp2_with fail;refine (digsL_any wh _ (by omega)).mono ?_
    rw [HD.out];rintro e w' ⟨rfl,rfl⟩
    go_wp2_with fail;go_ret;rw [HN.out];exact ⟨rfl,n1,rfl⟩
   | true=>
    go_wp2_with fail;refine (digsL_any wh _ (by omega)).mono ?_
    rw [HD.out];rintro e w' ⟨rfl,rfl⟩
    go_wp2_with fail;refine (digsL_any re _ (by omega)).mono ?_
    obtain ⟨b,hb⟩:∃ b,b=digs re:=⟨_,rfl⟩
    rw [← hb]at HN ⊢
    clear hb;rintro e w' ⟨rfl,rfl⟩
    go_wp2_with fail;go_ret;rw [HN.out];exact ⟨rfl,n1,rfl⟩
 ·have h20z:¬ (l.length:Int)≤20:=by omega
  rw [decide_eq_false h20]at HN
  go_wp2_with fail;go_ret;rw [HN.out];exact ⟨rfl,n1,rfl⟩
def leafB (t:T):Bool:=t.var.isEmpty&&(t.form.isEmpty&&t.args.isEmpty)
def formB (t:T):Bool:=okS 33 t.form&&decide (t.form.length≤16)
def ownB (t:T):Bool:=
 if t.kind=1 then leafB t&&numB t.name
 else if t.kind=2 then leafB t&&identB t.name
 else if t.kind=3 then leafB t&&(okS 32 t.name&&decide (t.name.length≤200))
 else if t.kind=4 then formB t&&wordB t.name&&t.var.isEmpty
 else if t.kind=5 then formB t&&wordB t.name&&identB t.var&&!t.args.isEmpty
 else false
def Short (t:T):Prop:=t.name.length≤1000∧t.var.length≤1000∧t.form.length≤1000
theorem betweenL_any (l:List UInt8)(lo most:Nat)(w:World)(hs:l.length≤1000):
  Calls Tryz.prog 196 #[.string ⟨l.toArray⟩,.int .u8 lo,.int .i64 most] w fun r w'=>r=.returned (.bool (okS lo l&&decide (l.length≤most)))∧w=w':=by
 have:=between_any ⟨l.toArray⟩ lo most w (by rw [size_mk]; exact hs)
 rw [size_mk]at this
 simpa using this
theorem operatorL_any (l:List UInt8)(w:World)(hs:l.length≤1000):Calls Tryz.prog 198 #[.string ⟨l.toArray⟩] w fun r w'=>r=.returned (.bool (wordB l))∧w=w':=by
 have:=operator_any ⟨l.toArray⟩ w (by rw [size_mk]; exact hs)
 simpa using this
theorem identL_any (l:List UInt8)(w:World)(hs:l.length≤1000):Calls Tryz.prog 57 #[.string ⟨l.toArray⟩] w fun r w'=>r=.returned (.bool (identB l))∧w=w':=by
 have:=ident_any ⟨l.toArray⟩ w (by rw [size_mk]; exact hs)
 simpa using this
set_option maxRecDepth 100000 in
set_option maxHeartbeats 4000000 in
theorem own_any (t:T)(b o:Nat)(w:World)(hr:TR w w.heap.size b o t)(hl:Short t)(hm:Max w):
  Calls Tryz.prog 162 #[.pointer (some ⟨b,o,none⟩)] w fun e w'=>e=.returned (.bool (ownB t))∧∃ n,w'=w.drewN n:=by
 obtain ⟨_,c0,c1,c2,c4,A,c,c3,_,_⟩:=hr.parts
 obtain ⟨l1,l2,l3⟩:=hl
 have HM:=hid hm
 have HL1:=hid l1
 have HL2:=hid l2
 have HL3:=hid l3
 have hlf:leafB t=(t.var.isEmpty&&(t.form.isEmpty&&t.args.isEmpty)):=rfl
 have hff:formB t=(okS 33 t.form&&decide (t.form.length≤16)):=rfl
 have HO:Hid (ownB t=if t.kind=1 then leafB t&&numB t.name else if t.kind=2 then leafB t&&identB t.name else if t.kind=3 then leafB t&&(okS 32 t.name&&decide (t.name.length≤200))else if t.kind=4 then formB t&&wordB t.name&&t.var.isEmpty else if t.kind=5 then formB t&&wordB t.name&&identB t.var&&!t.args.isEmpty else false):=rfl
 have HAE:Hid (t.args.isEmpty=decide (t.args.length=0)):=by show t.args.isEmpty=_; cases t.args<;>simp
 rw [HAE.out]at hlf HO
 generalize ownB t=ow at*;generalize leafB t=lf at*;generalize formB t=ff at*;generalize t.kind=k at*;generalize t.name=nm at*;generalize t.var=v at*;generalize t.form=f at*;generalize t.args.length=n at*;clear hr hm l1 l2 l3 HAE;have HLF:=hid hlf
 have HFF:=hid hff
 clear hlf hff;go_enter Tryz.func162,Tryz.ntmps162;go_upto_region 1 with (fail);go_cut [3] (fun s3 wx=>s3=.bool lf∧w=wx)
 case first=>
  cases v with
  | cons a v=>
   have HX:Hid (lf=false):=HLF.out.trans rfl
   go_wp2_with fail;go_meet
   case rel=>exact ⟨by rw [HX.out],rfl⟩
  | nil=>
   cases f with
   | cons a f=>
    have HX:Hid (lf=false):=HLF.out.trans rfl
    go_wp2_with fail;go_meet
    case rel=>exact ⟨by rw [HX.out],rfl⟩
   | nil=>
    by_cases h0:n=0
    ·have hz:((n:Int) == 0)=true:=by rw [beq_iff_eq]; omega
     have HX:Hid (lf=true):=HLF.out.trans (by rw [decide_eq_true h0]; rfl)
     go_wp2_with fail;go_meet
     case rel=>exact ⟨by rw [HX.out],rfl⟩
    ·have hz:((n:Int) == 0)=false:=by rw [beq_eq_false_iff_ne]; omega
     have HX:Hid (lf=false):=HLF.out.trans (by rw [decide_eq_false h0]; rfl)
     go_wp2_with fail;go_meet
     case rel=>exact ⟨by rw [HX.out],rfl⟩
 case rest=>
  obtain ⟨rfl,rfl⟩:=hcut
  go_wp2_with fail;refine (betweenL_any f 33 16 _ HL3.out).mono ?_
  rw [← HFF.out];rintro e w' ⟨rfl,rfl⟩
  by_cases k1:k=1
  ·subst k1
   have HX:=hid (HO.out.trans (if_pos rfl))
   cases lf with
   | false=>
    go_wp2_with fail;go_ret;rw [HX.out];exact ⟨rfl,0,rfl⟩
   | true=>
    go_wp2_with fail;refine (number_any nm _ HL1.out HM.out).mono ?_
    obtain ⟨q,hq⟩:∃ q,q=numB nm:=⟨_,rfl⟩
    rw [← hq]at HX ⊢
    clear hq;rintro e w1 ⟨rfl,n1,rfl⟩
    go_wp2_with fail;go_ret;rw [HX.out];exact ⟨rfl,n1,rfl⟩
  ·have k1b:(k == 1)=false:=by simpa using k1
   by_cases k2:k=2
   ·subst k2
    have HX:=hid ((HO.out.trans (if_neg k1)).trans (if_pos rfl))
    clear k1;cases lf with
    | false=>
     go_wp2_with fail;go_ret;rw [HX.out];exact ⟨rfl,0,rfl⟩
    | true=>
     go_wp2_with fail;refine (identL_any nm _ HL1.out).mono ?_
     obtain ⟨q,hq⟩:∃ q,q=identB nm:=⟨_,rfl⟩
     rw [← hq]at HX ⊢
     clear hq;rintro e w1 ⟨rfl,rfl⟩
     go_wp2_with fail;go_ret;rw [HX.out];exact ⟨rfl,0,rfl⟩
   ·have k2b:(k == 2)=false:=by simpa using k2
    by_cases k3:k=3
    ·subst k3
     have HX:=hid (((HO.out.trans (if_neg k1)).trans (if_neg k2)).trans (if_pos rfl))
     clear k1 k2;cases lf with
     | false=>
      go_wp2_with fail;go_ret;rw [HX.out];exact ⟨rfl,0,rfl⟩
     | true=>
      go_wp2_with fail;refine (betweenL_any nm 32 200 _ HL1.out).mono ?_
      obtain ⟨q,hq⟩:∃ q,q=(okS 32 nm&&decide (nm.length≤200)):=⟨_,rfl⟩
      rw [← hq]at HX ⊢
      clear hq;rintro e w1 ⟨rfl,rfl⟩
      go_wp2_with fail;go_ret;rw [HX.out];exact ⟨rfl,0,rfl⟩
    ·have k3b:(k == 3)=false:=by simpa using k3
     by_cases k4:k=4
     ·subst k4
      have HX:=hid ((((HO.out.trans (if_neg k1)).trans (if_neg k2)).trans (if_neg k3)).trans (if_pos rfl))
      clear k1 k2 k3;cases ff with
      | false=>
       go_wp2_with fail;go_ret;rw [HX.out];exact ⟨rfl,0,rfl⟩
      | true=>
       go_wp2_with fail;refine (operatorL_any nm _ HL1.out).mono ?_
       obtain ⟨q,hq⟩:∃ q,q=wordB nm:=⟨_,rfl⟩
       rw [← hq]at HX ⊢
       clear hq;rintro e w1 ⟨rfl,rfl⟩
       cases q with
       | false=>
        go_wp2_with fail;go_ret;rw [HX.out];exact ⟨rfl,0,rfl⟩
       | true=>
        cases v with
        | nil=>
         go_wp2_with fail;go_ret;rw [HX.out];exact ⟨rfl,0,rfl⟩
        | cons a v=>
         go_wp2_with fail;go_ret;rw [HX.out];exact ⟨rfl,0,rfl⟩
     ·have k4b:(k == 4)=false:=by simpa using k4
      by_cases k5:k=5
      ·subst k5
       have HX:=hid (((((HO.out.trans (if_neg k1)).trans (if_neg k2)).trans (if_neg k3)).trans (if_neg k4)).trans (if_pos rfl))
       clear k1 k2 k3 k4;cases ff with
       | false=>
        go_wp2_with fail;go_ret;rw [HX.out];exact ⟨rfl,0,rfl⟩
       | true=>
        go_wp2_with fail;refine (operatorL_any nm _ HL1.out).mono ?_
        obtain ⟨q,hq⟩:∃ q,q=wordB nm:=⟨_,rfl⟩
        rw [← hq]at HX ⊢
        clear hq;rintro e w1 ⟨rfl,rfl⟩
        cases q with
        | false=>
         go_wp2_with fail;go_ret;rw [HX.out];exact ⟨rfl,0,rfl⟩
        | true=>
         go_wp2_with fail;refine (identL_any v _ HL2.out).mono ?_
         obtain ⟨q,hq⟩:∃ q,q=identB v:=⟨_,rfl⟩
         rw [← hq]at HX ⊢
         clear hq;rintro e w1 ⟨rfl,rfl⟩
         cases q with
         | false=>
          go_wp2_with fail;go_ret;rw [HX.out];exact ⟨rfl,0,rfl⟩
         | true=>
          by_cases h0:n=0
          ·subst h0
           go_wp2_with fail;go_ret;rw [HX.out];exact ⟨rfl,0,rfl⟩
          ·have hz:(0:Int)<(n:Int):=by omega
           rw [decide_eq_false h0]at HX
           go_wp2_with fail;go_ret;rw [HX.out];refine ⟨?_,0,rfl⟩
           show Ending.returned (.bool (decide (0<n)))=_
           rw [decide_eq_true (by omega)]
           rfl
      ·have k5b:(k == 5)=false:=by simpa using k5
       have HX:=hid (((((HO.out.trans (if_neg k1)).trans (if_neg k2)).trans (if_neg k3)).trans (if_neg k4)).trans (if_neg k5))
       clear k1 k2 k3 k4 k5;go_wp2_with fail;go_ret;rw [HX.out];exact ⟨rfl,0,rfl⟩
mutual
def vld:T→Nat→Bool × Nat
 | .mk k n v ys f,c=>if 1000<c+1∨ownB (.mk k n v ys f)=false then (false,c+1)else vlds ys (c+1)
def vlds:List T→Nat→Bool × Nat
 | [],c=>(true,c)
 | t::ts,c=>if (vld t c).1 then vlds ts (vld t c).2 else (false,(vld t c).2)
end
theorem vld_eq (t:T) (c:Nat):vld t c=if 1000<c+1∨ownB t=false then (false,c+1)else vlds t.args (c+1):=by
 cases t with
 | mk k n v ys f=>rw [vld]; rfl
mutual
theorem vld_le (t:T) (c:Nat)(h:(vld t c).1=true):(vld t c).2≤1000∧c<(vld t c).2:=by
 cases t with
 | mk k n v ys f=>
  rw [vld]at h ⊢
  split
  ·rename_i hc; rw [if_pos hc]at h; cases h
  ·rename_i hc
   rw [if_neg hc]at h
   have h1:c+1≤1000:=by
    rcases Nat.lt_or_ge 1000 (c+1)with h'|h'
    ·exact absurd (.inl h') hc
    ·exact h'
   have:=vlds_le ys (c+1) h1 h
   omega
theorem vlds_le (ts:List T) (c:Nat)(hc:c≤1000)(h:(vlds ts c).1=true):(vlds ts c).2≤1000∧c≤(vlds ts c).2:=by
 cases ts with
 | nil=>rw [vlds]; exact ⟨hc,Nat.le_refl _⟩
 | cons t ts=>
  rw [vlds]at h ⊢
  cases hv:(vld t c).1 with
  | false=>rw [hv]at h; simp at h
  | true=>
   rw [hv]at h
   simp only [if_true]at h ⊢
   have h1:=vld_le t c hv
   have h2:=vlds_le ts _ h1.1 h
   omega
end
mutual
def SA:T→Prop|.mk k n v ys f=>Short (.mk k n v ys f)∧SAs ys
def SAs:List T→Prop|[]=>True|t::ts=>SA t∧SAs ts
end
theorem SA.parts {t:T}(h:SA t):Short t∧SAs t.args:=by
 cases t with
 | mk k n v ys f=>rw [SA]at h; exact h
theorem SAs.mem {t:T}:∀ {ts:List T},SAs ts→t∈ts→SA t
 | [],_,h=>by cases h
 | u::ts,hs,h=>by
  rw [SAs]at hs
  rcases List.mem_cons.1 h with rfl|h
  ·exact hs.1
  ·exact hs.2.mem h
structure CB (w:World) (cb:Nat) (c:Nat):Prop where
 cell:w.cell? ⟨cb,0,none⟩=some (.int .i64 (c:Int))
 fr:w.frozen? ⟨cb,0,none⟩=false
 lt:cb<w.heap.size
structure MaxB (w:World) (B:Nat):Prop where
 pos:0<B
 max:Max w
theorem MaxB.below {w w':World}{B:Nat}(h:MaxB w B)(hb:Below B w w'):MaxB w' B:=by
 obtain ⟨m,hm⟩:=h.max.cell
 exact ⟨h.pos,m,(hb.cell (p:=⟨0,0,none⟩) h.pos).trans hm⟩
theorem TA.at_ {w:World}{B:Nat}{A:Option Addr}{ys:List T}(h:TA w B A ys){i:Nat}(hi:i<ys.length):∃ b o,A=some ⟨b,o,none⟩∧TR w B b (o+i*5) ys[i]:=by
 obtain ⟨b,o,hA,hs⟩:=h (by intro e; rw [e]at hi; simp at hi)
 exact ⟨b,o,hA,hs.at_ i _ (List.getElem?_eq_getElem hi)⟩
theorem below_set {B cb:Nat}{w0 w:World}(h:Below B w0 w)(hB:B≤cb) (v:Value):Below B w0 (w.setCell ⟨cb,0,none⟩ v):=h.setCell hB v
theorem below_drewNB {B:Nat}{w0 w:World}(h:Below B w0 w) (n:Nat):Below B w0 (w.drewN n):=⟨h.os,h.tape,h.output,h.size,h.block⟩
set_option maxRecDepth 100000 in
set_option maxHeartbeats 4000000 in
theorem valid_aux (N:Nat):∀ (t:T),t.size≤N→∀ (b o cb c:Nat)(w:World),TR w cb b o t→SA t→MaxB w cb→CB w cb c→c≤1000→
  Calls Tryz.prog 116 #[.pointer (some ⟨b,o,none⟩),.pointer (some ⟨cb,0,none⟩)] w fun e w'=>e=.returned (.bool (vld t c).1)∧CB w' cb (vld t c).2∧Below cb w w':=by
 induction N with
 | zero=>intro t ht; exact absurd ht (by cases t; rw [T.size]; omega)
 | succ N ih=>
  intro t ht b o cb c w hr hs hm hc hc1;have IH:=hid ih
  clear ih;have HV:=hid (vld_eq t c)
  obtain ⟨hsh,hsa⟩:=hs.parts
  obtain ⟨q1,q2,q3⟩:=hc
  have hz:(c:Int)+1=((c+1:Nat):Int):=by omega
  -- behind the count
  have hB1:Below cb w (w.setCell ⟨cb,0,none⟩ (.int .i64 ((c:Int)+1))):=below_set (Below.refl _ _) (Nat.le_refl _) _
  have hR1:=hr.below hB1
  have hM1:=hm.below hB1
  have hC1:CB (w.setCell ⟨cb,0,none⟩ (.int .i64 ((c:Int)+1))) cb (c+1):=⟨by rw [← hz]; simp [go_sem,q1],by simpa using q2,by simpa using q3⟩
  have HS:=hid (And.intro hsh hsa)
  have H1:=hid (And.intro hB1 (And.intro hR1 (And.intro hM1 hC1)))
  have HSZ:Hid (∀ u∈t.args,u.size≤N):=fun u hu=>by have:=size_arg hu; omega
  clear hr hs hm hsh hsa hB1 hR1 hM1 hC1 hz;go_enter Tryz.func116,Tryz.ntmps116;go_upto_region 2 with (fail);obtain ⟨w1,hw1⟩:∃ w1,w1=w.setCell ⟨cb,0,none⟩ (.int .i64 ((c:Int)+1)):=⟨_,rfl⟩
  rw [← hw1]at H1 ⊢
  clear hw1 q1 q2 q3;obtain ⟨hB1,hR1,hM1,hC1⟩:=H1.out
  have q1:=hC1.cell
  have hltc:=hC1.lt
  clear hB1 hC1;by_cases hbig:1000<c+1
  ·have hbz:(1000:Int)<((c+1:Nat):Int):=by omega
   have HX:Hid (vld t c=(false,c+1)):=HV.out.trans (if_pos (.inl hbig))
   clear hR1 hM1;go_wp2_with fail;go_ret;rw [HX.out];exact ⟨rfl,H1.out.2.2.2,H1.out.1⟩
  ·have hbz:¬ (1000:Int)<((c+1:Nat):Int):=by omega
   have hRo:=hR1.more (Nat.le_of_lt hltc)
   have HO:=hid (own_any t b o w1 hRo HS.out.1 hM1.max)
   clear hRo hR1 hM1;cases how:ownB t with
   | false=>
    have HOW:=hid how
    have HX:Hid (vld t c=(false,c+1)):=HV.out.trans (if_pos (.inr how))
    clear how;go_wp2_with fail;refine HO.out.mono ?_
    rw [HOW.out];rintro e w2 ⟨rfl,n2,rfl⟩
    go_wp2_with fail;go_ret;rw [HX.out];have h4:=H1.out.2.2.2
    exact ⟨rfl,⟨h4.cell,h4.fr,h4.lt⟩,below_drewNB H1.out.1 _⟩
   | true=>
    have HOW:=hid how
    have HX:Hid (vld t c=vlds t.args (c+1)):=HV.out.trans (if_neg (fun h=>h.elim (fun h=>hbig h) (fun h=>by rw [how]at h; cases h)))
    clear how;go_wp2_with fail;refine HO.out.mono ?_
    rw [HOW.out];rintro e w2 ⟨rfl,n2,rfl⟩
    have h4:=H1.out.2.2.2
    have HC2:Hid (CB (w1.drewN n2) cb (c+1)):=⟨h4.cell,h4.fr,h4.lt⟩
    have HB2:=hid (below_drewNB H1.out.1 n2)
    have HR2:=hid (H1.out.2.1.below (below_drewNB (Below.refl _ _) n2))
    have HM2:=hid (H1.out.2.2.1.below (below_drewNB (Below.refl _ _) n2))
    clear HO h4 q1 hltc H1;generalize w1.drewN n2=w3 at*;obtain ⟨_,_,_,_,_,A,cp,c3,⟨hcp1,hcp2⟩,hTA⟩:=HR2.out.parts
    have HTA:=hid hTA
    obtain ⟨ys,hys⟩:∃ ys,ys=t.args:=⟨_,rfl⟩
    rw [← hys]at HX HS HTA HSZ c3 hcp1
    clear hys hTA;have hyl:ys.length≤9223372036854775807:=by omega
    go_wp2_with fail;go_loopg [25] ys.length (fun gg s25 wr=>∃ i ci:Nat,i≤ys.length∧ys.length-i≤gg∧s25=.int .i64 i∧ci≤1000∧Aside (vlds ys (c+1)=vlds (ys.drop i) ci)∧Aside (CB wr cb ci)∧Aside (Below cb w3 wr))
    case atStart=>exact ⟨0,c+1,Nat.zero_le _,by omega,rfl,by omega,rfl,HC2.out,Below.refl _ _⟩
    case round=>
     obtain ⟨i,ci,hi,hgg,rfl,hci,HE,HC,HB⟩:=hrel
     have HBw:=hid (HB2.out.trans HB.out)
     by_cases hlt:i<ys.length
     ·have hltz:(i:Int)<(ys.length:Int):=by omega
      have hTb:TA wr cb A ys:=fun hne=>by
       obtain ⟨b',o',hA,hs⟩:=HTA.out hne
       exact ⟨b',o',hA,hs.below HB.out⟩
      obtain ⟨b',o',rfl,hRi⟩:=hTb.at_ hlt
      have c3r:wr.cell? ⟨b,o+3,none⟩=some (.slice (some ⟨b',o',none⟩) ys.length cp):=(HB.out.cell (p:=⟨b,o+3,none⟩) HR2.out.parts.1).trans c3
      have HD:Hid (vlds (ys.drop i) ci=if (vld ys[i] ci).1 then vlds (ys.drop (i+1)) (vld ys[i] ci).2 else (false,(vld ys[i] ci).2)):=by
       show vlds (ys.drop i) ci=_
       rw [List.drop_eq_getElem_cons hlt,vlds]
      have HLE:=hid (vld_le ys[i] ci)
      have HCall:=hid (IH.out ys[i] (HSZ.out _ (List.getElem_mem hlt)) b' (o'+i*5) cb ci wr hRi (HS.out.2.mem (List.getElem_mem hlt)) (HM2.out.below HB.out) HC.out hci)
      clear hTb hRi;obtain ⟨r1,r2,hr⟩:∃ r1 r2,(r1,r2)=vld ys[i] ci:=⟨_,_,rfl⟩
      rw [← hr]at HD HLE HCall
      clear hr;simp only at HD HLE HCall
      cases r1 with
      | false=>
       have HY:Hid (vld t c=(false,r2)):=by show vld t c=_; rw [HX.out,HE.out,HD.out]; rfl
       go_wp2_with fail;refine HCall.out.mono ?_
       rintro e w4 ⟨rfl,hc4,hb4⟩
       have HC4:=hid hc4
       have HB4:=hid (HBw.out.trans hb4)
       clear hc4 hb4;go_wp2_with fail;go_ret;rw [HY.out];exact ⟨rfl,HC4.out,HB4.out⟩
      | true=>
       have HY:Hid (vlds ys (c+1)=vlds (ys.drop (i+1)) r2):=by show vlds ys (c+1)=_; rw [HE.out,HD.out]; rfl
       have hr2:r2≤1000:=(HLE.out rfl).1
       go_wp2_with fail;refine HCall.out.mono ?_
       rintro e w4 ⟨rfl,hc4,hb4⟩
       have HC4:=hid hc4
       have HB4:=hid (HB.out.trans hb4)
       clear hc4 hb4 HCall;go_wp2_with fail;go_roundg (ys.length-(i+1))
       case measure=>omega
       case rel=>exact ⟨i+1,r2,by omega,by omega,by go_num,hr2,HY.out,HC4.out,HB4.out⟩
     ·have hltz:¬ (i:Int)<(ys.length:Int):=by omega
      have HY:Hid (vld t c=(true,ci)):=by show vld t c=_; rw [HX.out,HE.out,List.drop_eq_nil_of_le (by omega),vlds]
      go_wp2_with fail;go_ret;rw [HY.out];exact ⟨rfl,HC.out,HBw.out⟩
def tv (t:T)(A:Option Addr) (c:Nat):Array Value:=#[.int .i64 t.kind,.string ⟨t.name.toArray⟩,.string ⟨t.var.toArray⟩,.slice A t.args.length c,.string ⟨t.form.toArray⟩]
structure TV (w:World) (B:Nat)(t:T)(A:Option Addr) (c:Nat):Prop where
 cap:t.args.length≤c∧c≤9223372036854775807
 ar:TA w B A t.args
theorem TA.below {w w':World}{B:Nat}{A:Option Addr}{ys:List T}(h:TA w B A ys)(hb:Below B w w'):TA w' B A ys:=fun hne=>by
 obtain ⟨b,o,hA,hs⟩:=h hne
 exact ⟨b,o,hA,hs.below hb⟩
theorem TA.more {w:World}{B B':Nat}{A:Option Addr}{ys:List T}(h:TA w B A ys)(hB:B≤B'):TA w B' A ys:=fun hne=>by
 obtain ⟨b,o,hA,hs⟩:=h hne
 exact ⟨b,o,hA,hs.more hB⟩
theorem TV.below {w w':World}{B:Nat}{t:T}{A:Option Addr}{c:Nat}(h:TV w B t A c)(hb:Below B w w'):TV w' B t A c:=⟨h.cap,h.ar.below hb⟩
theorem TV.more {w:World}{B B':Nat}{t:T}{A:Option Addr}{c:Nat}(h:TV w B t A c)(hB:B≤B'):TV w B' t A c:=⟨h.cap,h.ar.more hB⟩
theorem TR.of_parts {w:World}{B b o:Nat}{t:T}{A:Option Addr}{c:Nat}(h1:b<B)(c0:w.cell? ⟨b,o,none⟩=some (.int .i64 t.kind))(c1:w.cell? ⟨b,o+1,none⟩=some (.string ⟨t.name.toArray⟩))(c2:w.cell? ⟨b,o+2,none⟩=some (.string ⟨t.var.toArray⟩))
  (c3:w.cell? ⟨b,o+3,none⟩=some (.slice A t.args.length c))(c4:w.cell? ⟨b,o+4,none⟩=some (.string ⟨t.form.toArray⟩))(hv:TV w B t A c):TR w B b o t:=by
 cases t with
 | mk k n v ys f=>
  rw [TR];exact ⟨h1,c0,c1,c2,c4,A,c,c3,hv.cap,hv.ar⟩
theorem TV.box {w:World}{t:T}{A:Option Addr}{c:Nat}(h:TV w w.heap.size t A c):TR (w.alloc (.cells (tv t A c) 24)) (w.heap.size+1) w.heap.size 0 t:=by
 have hb:Below w.heap.size w (w.alloc (.cells (tv t A c) 24)):=(Below.refl _ _).alloc (Nat.le_refl _) _
 exact TR.of_parts (by omega) (by simp [tv]) (by simp [tv]) (by simp [tv]) (by simp [tv]) (by simp [tv]) ((h.below hb).more (by omega))
def cntT (t:T):Nat:=if (vld t 0).1 then (vld t 0).2 else 0
def validB (t:T):Bool:=(vld t 0).1
set_option maxHeartbeats 1000000 in
theorem count_any (t:T)(A:Option Addr) (c:Nat)(w:World)(hv:TV w w.heap.size t A c)(hs:SA t)(hm:Max w):
  Calls Tryz.prog 67 #[.agg (tv t A c)] w fun e w'=>e=.returned (.int .i64 (cntT t:Nat))∧Below w.heap.size w w':=by
 have hb0:Below w.heap.size w (w.alloc (.cells (tv t A c) 24)):=(Below.refl _ _).alloc (Nat.le_refl _) _
 have hb1:Below (w.heap.size+1) (w.alloc (.cells (tv t A c) 24)) ((w.alloc (.cells (tv t A c) 24)).alloc (.cells #[.int .i64 0] 3)):=(Below.refl _ _).alloc (by simp) _
 have hR:=hv.box.below hb1
 have hM:MaxB ((w.alloc (.cells (tv t A c) 24)).alloc (.cells #[.int .i64 0] 3)) (w.heap.size+1):=
  ⟨by omega,(hm.below hb0).below (by have:=(Below.refl (w.alloc (.cells (tv t A c) 24)).heap.size (w.alloc (.cells (tv t A c) 24))).alloc (Nat.le_refl _) (.cells #[.int .i64 0] 3); exact this)⟩
 have hC:CB ((w.alloc (.cells (tv t A c) 24)).alloc (.cells #[.int .i64 0] 3)) (w.heap.size+1) 0:=⟨by simp,by simp,by simp⟩
 have HC:=hid (valid_aux t.size t (Nat.le_refl _) w.heap.size 0 (w.heap.size+1) 0 _ hR hs hM hC (by omega))
 have HB:Hid (Below w.heap.size w ((w.alloc (.cells (tv t A c) 24)).alloc (.cells #[.int .i64 0] 3))):=hb0.alloc (by simp) _
 have HN:Hid (cntT t=if (vld t 0).1 then (vld t 0).2 else 0):=rfl
 clear hb0 hb1 hR hM hC hs hm hv;obtain ⟨r1,r2,hr⟩:∃ r1 r2,(r1,r2)=vld t 0:=⟨_,_,rfl⟩
 rw [← hr]at HN HC
 clear hr;simp only at HN HC
 generalize tv t A c=cs at*;go_enter Tryz.func67,Tryz.ntmps67;go_wp2_with fail;refine HC.out.mono ?_
 rintro e w1 ⟨rfl,hc1,hb1⟩
 have q1:=hc1.cell
 have HB1:=hid (HB.out.trans (hb1.mono (by omega)))
 clear hc1 hb1 HC;cases r1 with
 | true=>
  go_wp2_with fail;go_ret;rw [HN.out];exact ⟨rfl,HB1.out⟩
 | false=>
  go_wp2_with fail;go_ret;rw [HN.out];exact ⟨rfl,HB1.out⟩
theorem blk_new (w:World)(o:Obj):(w.alloc o).heap[w.heap.size]?=some o:=heap_alloc_new w o
theorem tv_info (t:T)(A:Option Addr) (c:Nat):(Tryz.prog.info? 24).map (·.size)=some (tv t A c).size:=by show _=some 5; kernel_rfl
theorem cnt_pos (t:T):decide (0<cntT t)=validB t:=by
 unfold cntT validB;cases h:(vld t 0).1 with
 | false=>simp
 | true=>have:=vld_le t 0 h; simp; omega
set_option maxHeartbeats 1000000 in
theorem validT_any (t:T)(A:Option Addr) (c:Nat)(w:World)(hv:TV w w.heap.size t A c)(hs:SA t)(hm:Max w):
  Calls Tryz.prog 39 #[.agg (tv t A c)] w fun e w'=>e=.returned (.bool (validB t))∧Below w.heap.size w w':=by
 have hb0:Below w.heap.size w (w.alloc (.cells (tv t A c) 24)):=(Below.refl _ _).alloc (Nat.le_refl _) _
 have HB0:=hid hb0
 have HC:=hid (count_any t A c _ ((hv.below hb0).more hb0.size) hs (hm.below hb0))
 have HP:=hid (cnt_pos t)
 have HI:=hid (tv_info t A c)
 clear hv hs hm hb0;generalize tv t A c=cs at*;generalize cntT t=n at*;have HF:Hid ((w.alloc (.cells cs 24)).heap[w.heap.size]?=some (.cells cs 24)):=blk_new _ _
 go_enter Tryz.func39,Tryz.ntmps39;go_wp2_with (with_reducible refine wpList_load_row rfl 24 (.tmp 1) rfl w.heap.size rfl 24 cs (0,0) _ HF.out Tryz.underlying24 rfl HI.out ?_)
 refine HC.out.mono ?_
 rintro e w1 ⟨rfl,hb1⟩
 have HB1:=hid (HB0.out.trans (hb1.mono HB0.out.size))
 clear hb1;have hd:decide ((0:Int)<(n:Int))=validB t:=by rw [← HP.out,decide_eq_decide]; omega
 have HD:=hid hd
 clear hd;go_wp2_with fail;go_ret;rw [← HD.out];exact ⟨by simp,HB1.out⟩
def rkN (c:Nat):Nat:=if 97≤c then c-97 else (c+191) % 256+26
def rk (c:UInt8):Nat:=rkN c.toNat
def cmpR:List UInt8→List UInt8→Int
 | a::x,b::y=>if rk a=rk b then cmpR x y else Lib.compareInt (rk a) (rk b)
 | _,_=>0
def cmpL (x y:List UInt8):Int:=if x.length=y.length then cmpR x y else Lib.compareInt x.length y.length
end Go.Proofs.YtknpigdpepmimaaGreatDoor
namespace Go.Proofs.YtknpigdpepmimaaGreatDoor
open Go.Lib(hid)
open Go.RowKit Go.Sort Go.Shelf
end Go.Proofs.YtknpigdpepmimaaGreatDoor
namespace Go.Proofs.YtknpigdpepmimaaGreatDoor
open Go.Lib(hid)
abbrev W8:=List UInt8
def ltL (a b:W8):Bool:=decide (cmpL a b<0)
def insL (s:W8):List W8→List W8
 | []=>[s]
 | a::l=>if ltL s a then s::a::l else a::insL s l
def withL (l:List W8)(s:W8):List W8:=if l.contains s then l else insL s l
def unionL (a b:List W8):List W8:=b.foldl withL a
def withoutL (l:List W8)(s:W8):List W8:=l.filter (· != s)
theorem mem_insL {x s:W8}:∀ {l:List W8},x∈insL s l↔x=s∨x∈l
 | []=>by simp [insL]
 | a::l=>by
  rw [insL];split
  ·simp
  ·have ih:=mem_insL (x:=x) (s:=s) (l:=l)
   rw [List.mem_cons,ih,List.mem_cons];constructor
   ·rintro (h|h|h)
    ·exact .inr (.inl h)
    ·exact .inl h
    ·exact .inr (.inr h)
   ·rintro (h|h|h)
    ·exact .inr (.inl h)
    ·exact .inl h
    ·exact .inr (.inr h)
theorem mem_withL {x s:W8}{l:List W8}:x∈withL l s↔x=s∨x∈l:=by
 unfold withL;split
 ·rename_i h
  have:s∈l:=by simpa using h
  constructor
  ·exact .inr
  ·rintro (rfl|h)
   ·exact this
   ·exact h
 ·exact mem_insL
theorem mem_unionL {x:W8}:∀ {b a:List W8},x∈unionL a b↔x∈a∨x∈b
 | [],a=>by simp [unionL]
 | s::b,a=>by
  have ih:=mem_unionL (x:=x) (b:=b) (a:=withL a s)
  unfold unionL at ih ⊢;rw [List.foldl_cons,ih,mem_withL,List.mem_cons];constructor
  ·rintro ((h|h)|h)
   ·exact .inr (.inl h)
   ·exact .inl h
   ·exact .inr (.inr h)
  ·rintro (h|h|h)
   ·exact .inl (.inr h)
   ·exact .inl (.inl h)
   ·exact .inr h
theorem mem_withoutL {x s:W8}{l:List W8}:x∈withoutL l s↔x∈l∧x≠s:=by
 unfold withoutL; simp
mutual
def WF:T→Prop|.mk k n v ys f=>ownB (.mk k n v ys f)=true∧WFs ys
def WFs:List T→Prop|[]=>True|t::ts=>WF t∧WFs ts
end
theorem WF.parts {t:T}(h:WF t):ownB t=true∧WFs t.args:=by
 cases t with
 | mk k n v ys f=>rw [WF]at h; exact h
theorem WFs.mem:∀ {ts:List T},WFs ts→∀ {u},u∈ts→WF u
 | [],_,_,h=>by cases h
 | t::ts,hs,u,h=>by
  rw [WFs]at hs
  rcases List.mem_cons.1 h with rfl|h
  ·exact hs.1
  ·exact hs.2.mem h
theorem size_eq (t:T):t.size=1+sizes t.args:=by cases t; rw [T.size]; rfl
theorem size_pos (t:T):1≤t.size:=by rw [size_eq]; omega
mutual
theorem vld_wf (t:T) (c:Nat)(h:(vld t c).1=true):WF t∧(vld t c).2=c+t.size:=by
 cases t with
 | mk k n v ys f=>
  rw [vld]at h ⊢
  split
  ·rename_i hc; rw [if_pos hc]at h; cases h
  ·rename_i hc
   rw [if_neg hc]at h
   have ih:=vlds_wf ys (c+1) h
   rw [WF,T.size];refine ⟨⟨?_,ih.1⟩,by rw [ih.2]; omega⟩
   cases ho:ownB (.mk k n v ys f) with
   | true=>rfl
   | false=>exact absurd (.inr ho) hc
theorem vlds_wf (ts:List T) (c:Nat)(h:(vlds ts c).1=true):WFs ts∧(vlds ts c).2=c+sizes ts:=by
 cases ts with
 | nil=>rw [vlds,WFs,sizes]; exact ⟨trivial,rfl⟩
 | cons t ts=>
  rw [vlds]at h ⊢
  cases hv:(vld t c).1 with
  | false=>rw [hv]at h; simp at h
  | true=>
   rw [hv]at h
   simp only [if_true]at h ⊢
   have h1:=vld_wf t c hv
   have h2:=vlds_wf ts _ h
   rw [WFs,sizes];exact ⟨⟨h1.1,h2.1⟩,by rw [h2.2,h1.2]; omega⟩
end
mutual
theorem vld_of (t:T) (c:Nat)(h:WF t)(hc:c+t.size≤1000):vld t c=(true,c+t.size):=by
 cases t with
 | mk k n v ys f=>
  rw [WF]at h
  rw [T.size]at hc ⊢
  rw [vld,if_neg (fun h'=>h'.elim (fun h'=>by omega) (fun h'=>by rw [h.1]at h'; cases h')),vlds_of ys (c+1) h.2 (by omega)]
  congr 1; omega
theorem vlds_of (ts:List T) (c:Nat)(h:WFs ts)(hc:c+sizes ts≤1000):vlds ts c=(true,c+sizes ts):=by
 cases ts with
 | nil=>rw [vlds,sizes]; rfl
 | cons t ts=>
  rw [WFs]at h
  rw [sizes]at hc ⊢
  rw [vlds,vld_of t c h.1 (by omega)]
  simp only [if_true];rw [vlds_of ts _ h.2 (by omega)]
  congr 1; omega
end
theorem valid_iff (t:T):validB t=true↔WF t∧t.size≤1000:=by
 unfold validB;constructor
 ·intro h
  have h1:=vld_wf t 0 h
  have:=vld_le t 0 h
  exact ⟨h1.1,by omega⟩
 ·rintro ⟨h1,h2⟩
  rw [vld_of t 0 h1 (by omega)]
mutual
def sizR:T→Int
 | .mk k n v ys f=>if ownB (.mk k n v ys f)=false∨1000<ys.length then -1 else sizRs ys 1
def sizRs:List T→Int→Int
 | [],m=>m
 | t::ts,m=>if sizR t<0∨1000<m+sizR t then -1 else sizRs ts (m+sizR t)
end
theorem sizR_eq (t:T):sizR t=if ownB t=false∨1000<t.args.length then -1 else sizRs t.args 1:=by
 cases t with
 | mk k n v ys f=>rw [sizR]; rfl
theorem len_sizes:∀ ts:List T,ts.length≤sizes ts
 | []=>by simp
 | t::ts=>by have:=len_sizes ts; have:=size_pos t; rw [sizes]; simp; omega
mutual
theorem sizR_val (t:T):(sizR t=-1∧¬ (WF t∧t.size≤1000))∨(sizR t=t.size∧WF t∧t.size≤1000):=by
 cases t with
 | mk k n v ys f=>
  rw [sizR,WF,T.size];split
  ·rename_i h
   refine .inl ⟨rfl,fun h'=>?_⟩
   rcases h with h|h
   ·rw [h'.1.1]at h; cases h
   ·have:=len_sizes ys; omega
  ·rename_i h
   have ho:ownB (.mk k n v ys f)=true:=by
    cases ho:ownB (.mk k n v ys f) with
    | true=>rfl
    | false=>exact absurd (.inl ho) h
   rcases sizRs_val ys 1 (by omega) (by omega)with ⟨h1,h2⟩|⟨h1,h2,h3⟩
   ·exact .inl ⟨h1,fun h'=>h2 ⟨h'.1.2,by omega⟩⟩
   ·exact .inr ⟨by rw [h1]; omega,⟨ho,h2⟩,by omega⟩
theorem sizRs_val (ts:List T) (m:Int)(hm:0≤m)(hm2:m≤1000):(sizRs ts m=-1∧¬ (WFs ts∧m+sizes ts≤1000))∨(sizRs ts m=m+sizes ts∧WFs ts∧m+sizes ts≤1000):=by
 cases ts with
 | nil=>rw [sizRs,WFs,sizes]; exact .inr ⟨by omega,trivial,by omega⟩
 | cons t ts=>
  have hp:=size_pos t
  rw [sizRs,WFs,sizes];rcases sizR_val t with ⟨h1,h2⟩|⟨h1,h2,h3⟩
  ·rw [if_pos (.inl (by omega))]
   exact .inl ⟨rfl,fun h'=>h2 ⟨h'.1.1,by omega⟩⟩
  ·rw [h1]
   split
   ·exact .inl ⟨rfl,fun h'=>by omega⟩
   ·rcases sizRs_val ts (m+t.size) (by omega) (by omega)with ⟨h4,h5⟩|⟨h4,h5,h6⟩
    ·exact .inl ⟨h4,fun h'=>h5 ⟨h'.1.2,by omega⟩⟩
    ·exact .inr ⟨by rw [h4]; omega,⟨h2,h5⟩,by omega⟩
end
theorem sizR_valid (t:T):sizR t=if validB t=true then (t.size:Int)else -1:=by
 rcases sizR_val t with ⟨h1,h2⟩|⟨h1,h2⟩
 ·rw [h1,if_neg (fun h=>h2 ((valid_iff t).1 h))]
 ·rw [h1,if_pos ((valid_iff t).2 h2)]
mutual
def frL:T→List W8
 | .mk k n v ys _=>if k=2 then [n]else frLs k v ys []
def frLs (k:Int)(v:W8):List T→List W8→List W8
 | [],out=>out
 | t::ts,out=>frLs k v ts (unionL out (if k=5∧ts.length=0 then withoutL (frL t) v else frL t))
end
theorem frL_eq (t:T):frL t=if t.kind=2 then [t.name]else frLs t.kind t.var t.args []:=by
 cases t with
 | mk k n v ys f=>rw [frL]; rfl
def inArgs (k:Int)(v x:W8):List T→Prop
 | []=>False
 | t::ts=>(x∈frL t∧¬ (k=5∧ts.length=0∧x=v))∨inArgs k v x ts
theorem mem_frLs {k:Int}{v x:W8}:∀ {ts:List T}{out:List W8},x∈frLs k v ts out↔x∈out∨inArgs k v x ts
 | [],out=>by rw [frLs]; simp [inArgs]
 | t::ts,out=>by
  rw [frLs,mem_frLs,mem_unionL,inArgs]
  have e:x∈(if k=5∧ts.length=0 then withoutL (frL t) v else frL t)↔(x∈frL t∧¬ (k=5∧ts.length=0∧x=v)):=by
   split
   ·rename_i h
    rw [mem_withoutL];constructor
    ·rintro ⟨h1,h2⟩; exact ⟨h1,fun h'=>h2 h'.2.2⟩
    ·rintro ⟨h1,h2⟩; exact ⟨h1,fun h'=>h2 ⟨h.1,h.2,h'⟩⟩
   ·rename_i h
    constructor
    ·intro h1; exact ⟨h1,fun h'=>h ⟨h'.1,h'.2.1⟩⟩
    ·exact fun h=>h.1
  rw [e];constructor
  ·rintro ((h|h)|h)
   ·exact .inl h
   ·exact .inr (.inl h)
   ·exact .inr (.inr h)
  ·rintro (h|(h|h))
   ·exact .inl (.inl h)
   ·exact .inl (.inr h)
   ·exact .inr h
theorem mem_frL {x:W8}(t:T):x∈frL t↔(t.kind=2∧x=t.name)∨(t.kind≠2∧inArgs t.kind t.var x t.args):=by
 rw [frL_eq];split
 ·rename_i h; simp [h]
 ·rename_i h; rw [mem_frLs]; simp [h]
theorem ident_word {x:W8}(h:identB x=true):wordB x=true:=by
 unfold identB at h; simp only [Bool.and_eq_true]at h; exact h.1.1
end Go.Proofs.YtknpigdpepmimaaGreatDoor
