/- Reading a decimal as plain functions on lists of bytes: the program's way, the. -/
import Derived.Lib.IndexMore
import Derived.Lib.Strings
import Derived.Test.YtknpigdpepmimaaGreatDoorV02
import Derived.Test.YtknpigdpepmimaaGreatDoorV03
import Derived.Test.YtknpigdpepmimaaGreatDoorV05
namespace Go.Proofs.YtknpigdpepmimaaGreatDoor.Q
open Go.Lib(hid)
def isD (c:UInt8):Bool:=decide (48≤c.toNat)&&decide (c.toNat≤57)
def digs (l:List UInt8):Bool:=l.all isD&&!l.isEmpty
def valD (l:List UInt8):Nat:=l.foldl (fun n c=>10*n+(c.toNat-48)) 0
theorem digs_iff (l:List UInt8):digs l=true↔l≠[]∧∀ c∈l,isD c=true:=by
 unfold digs;rw [Bool.and_eq_true,List.all_eq_true,and_comm];cases l<;>simp
theorem isD_iff (c:UInt8):isD c=true↔48≤c.toNat∧c.toNat≤57:=by simp [isD]
theorem val_snoc (l:List UInt8)(c:UInt8):valD (l++[c])=10*valD l+(c.toNat-48):=by unfold valD; rw [List.foldl_append]; rfl
theorem val_app (l r:List UInt8):valD (l++r)=valD l*10 ^ r.length+valD r:=by
 induction r generalizing l with
 | nil=>simp [valD]
 | cons c r ih=>
  have e1:l++c::r=(l++[c])++r:=by simp
  have e2:valD (c::r)=valD ([c]++r):=rfl
  have h3:valD [c]=c.toNat-48:=by simp [valD]
  rw [e1,ih,e2,ih [c],val_snoc,h3,List.length_cons,Nat.pow_succ]
  grind
theorem val_lt (l:List UInt8)(h:∀ c∈l,isD c=true):valD l<10 ^ l.length:=by
 induction l with
 | nil=>simp [valD]
 | cons c l ih=>
  have hc:isD c=true:=h c (by simp)
  rw [isD_iff]at hc
  have:=ih (fun x hx=>h x (by simp [hx]))
  rw [show c::l=[c]++l from rfl,val_app,show valD [c]=c.toNat-48 from by simp [valD],List.length_append,List.length_singleton,Nat.pow_add,Nat.pow_one]
  have h9:c.toNat-48≤9:=by omega
  have:(c.toNat-48)*10 ^ l.length≤9*10 ^ l.length:=Nat.mul_le_mul_right _ h9
  omega
theorem ne48 {c:UInt8}(h:c≠48):c.toNat≠48:=fun e=>h (by apply UInt8.toNat_inj.1; rw [e]; rfl)
theorem val_ge (c:UInt8)(l:List UInt8)(hc:isD c=true)(h:c≠48):10 ^ l.length≤valD (c::l):=by
 rw [show c::l=[c]++l from rfl,val_app,show valD [c]=c.toNat-48 from by simp [valD]]
 rw [isD_iff]at hc
 have h0:=ne48 h
 have:1≤c.toNat-48:=by omega
 have:=Nat.mul_le_mul_right (10 ^ l.length) this
 omega
theorem val_zero (l:List UInt8):valD (48::l)=valD l:=by
 rw [show (48:UInt8)::l=[48]++l from rfl,val_app,show valD [48]=0 from rfl]; omega
def shN (p:Nat):Nat→Nat→Nat × Nat
 | 0,v=>(v,0)
 | e+1,v=>if v % p=0 then shN p e (v / p)else (v,e+1)
theorem shN_spec (p:Nat)(_hp:0<p):∀ e v,(shN p e v).2≤e∧v=(shN p e v).1*p ^ (e-(shN p e v).2)∧((shN p e v).2=0∨(shN p e v).1 % p≠0):=by
 intro e;induction e with
 | zero=>intro v; simp [shN]
 | succ e ih=>
  intro v;unfold shN;split
  ·rename_i h
   obtain ⟨h1,h2,h3⟩:=ih (v / p)
   refine ⟨by omega,?_,h3⟩
   have hv:v=v / p*p:=by have:=Nat.div_add_mod v p; rw [h,Nat.add_zero,Nat.mul_comm]at this; exact this.symm
   have he:e+1-(shN p e (v / p)).2=(e-(shN p e (v / p)).2)+1:=by omega
   rw [he,Nat.pow_succ,← Nat.mul_assoc,← h2];exact hv
  ·rename_i h
   exact ⟨Nat.le_refl _,by simp,.inr h⟩
theorem cop2 {v:Nat}(h:v % 2≠0):Nat.gcd v 2=1:=by
 rw [Nat.gcd_comm,Nat.gcd_rec];have:v % 2=1:=by omega
 rw [this]; rfl
theorem cop5 {v:Nat}(h:v % 5≠0):Nat.gcd v 5=1:=by
 rw [Nat.gcd_comm,Nat.gcd_rec];have:v % 5=1∨v % 5=2∨v % 5=3∨v % 5=4:=by omega
 rcases this with h|h|h|h<;>rw [h]<;>rfl
theorem odd_of_mul {a b:Nat}(h:(a*b) % 2≠0):a % 2≠0:=fun e=>h (by rw [Nat.mul_mod,e]; simp)
def num2 (v k:Nat):Nat:=(shN 5 k (shN 2 k v).1).1
def twos (v k:Nat):Nat:=(shN 2 k v).2
def fives (v k:Nat):Nat:=(shN 5 k (shN 2 k v).1).2
theorem num2_spec (v k:Nat):v=num2 v k*(2 ^ (k-twos v k)*5 ^ (k-fives v k))∧10 ^ k=(2 ^ twos v k*5 ^ fives v k)*(2 ^ (k-twos v k)*5 ^ (k-fives v k))∧Nat.gcd (num2 v k) (2 ^ twos v k*5 ^ fives v k)=1:=by
 obtain ⟨h1,h2,h3⟩:=shN_spec 2 (by decide) k v
 obtain ⟨g1,g2,g3⟩:=shN_spec 5 (by decide) k (shN 2 k v).1
 unfold num2 twos fives;generalize hA:shN 2 k v=A at*;generalize hB:shN 5 k A.1=B at*;refine ⟨?_,?_,?_⟩
 ·conv=>lhs; rw [h2,g2]
  rw [Nat.mul_assoc,Nat.mul_comm (5 ^ _) (2 ^ _)]
 ·have e2:(2:Nat) ^ k=2 ^ A.2*2 ^ (k-A.2):=by rw [← Nat.pow_add]; congr 1; omega
  have e5:(5:Nat) ^ k=5 ^ B.2*5 ^ (k-B.2):=by rw [← Nat.pow_add]; congr 1; omega
  rw [show (10:Nat)=2*5 from rfl,Nat.mul_pow,e2,e5]
  simp only [Nat.mul_assoc,Nat.mul_left_comm]
 ·apply Nat.Coprime.mul_right
  ·rcases h3 with h0|h0
   ·rw [h0]; simp
   ·apply Nat.Coprime.pow_right
    apply cop2
    rw [g2]at h0
    exact odd_of_mul h0
  ·rcases g3 with h0|h0
   ·rw [h0]; simp
   ·apply Nat.Coprime.pow_right
    exact cop5 h0
def ansQ (v k:Nat):Res:=if num2 v k≤2147483647∧2 ^ twos v k*5 ^ fives v k≤2147483647 then ⟨(num2 v k:Nat),((2 ^ twos v k*5 ^ fives v k:Nat):Int),0⟩else ⟨0,0,2⟩
theorem ansQ_mk (v k:Nat):ansQ v k=mk (v:Int) ((10 ^ k:Nat):Int):=by
 obtain ⟨h1,h2,h3⟩:=num2_spec v k
 unfold ansQ mk;have h10:0<10 ^ k:=Nat.pow_pos (by decide)
 have hz:((10 ^ k:Nat):Int)≠0:=by omega
 rw [if_neg hz];have hn:decide ((v:Int)<0)=false:=by simp
 have hd:decide (((10 ^ k:Nat):Int)<0)=false:=by rw [decide_eq_false_iff_not]; omega
 rw [hn,hd,Int.natAbs_natCast,Int.natAbs_natCast];unfold red;generalize 2 ^ (k-twos v k)*5 ^ (k-fives v k)=g at*;generalize 2 ^ twos v k*5 ^ fives v k=d at*;generalize num2 v k=n at*;have hg:0<g:=by rcases Nat.eq_zero_or_pos g with h0|h0; (subst h0; omega); exact h0
 rw [h2,h1];rw [Nat.gcd_mul_right,h3,Nat.one_mul,Nat.mul_div_cancel _ hg,Nat.mul_div_cancel _ hg];simp
def decQ (w f:List UInt8):Res:=mk (valD (w++f):Nat) ((10 ^ f.length:Nat):Int)
theorem red_mul (neg:Bool)(a b g:Nat)(hg:0<g):red neg (a*g) (b*g)=red neg a b:=by
 unfold red;have h1:Nat.gcd (a*g) (b*g)=Nat.gcd a b*g:=Nat.gcd_mul_right a g b
 rw [h1];have:∀ x,x*g / (Nat.gcd a b*g)=x / Nat.gcd a b:=fun x=>by rw [Nat.mul_div_mul_right _ _ hg]
 rw [this,this]
theorem mk_scale (v d g:Nat)(hg:0<g):mk ((v*g:Nat):Int) ((d*g:Nat):Int)=mk (v:Int) (d:Int):=by
 unfold mk;by_cases hd:d=0
 ·subst hd; simp
 have:d*g≠0:=Nat.mul_ne_zero hd (by omega)
 rw [if_neg (by omega),if_neg (by omega)]
 have e1:∀ x:Nat,decide ((x:Int)<0)=false:=fun x=>by simp
 rw [e1,e1,e1,e1,Int.natAbs_natCast,Int.natAbs_natCast,Int.natAbs_natCast,Int.natAbs_natCast];exact red_mul _ _ _ _ hg
theorem decQ_snoc (w f:List UInt8):decQ w (f++[48])=decQ w f:=by
 unfold decQ;rw [← List.append_assoc,val_snoc,List.length_append,List.length_singleton,Nat.pow_succ];rw [show 10*valD (w++f)+((48:UInt8).toNat-48)=valD (w++f)*10 from by have:(48:UInt8).toNat=48:=rfl; omega]
 exact mk_scale _ _ 10 (by decide)
def trimR (l:List UInt8):List UInt8:=(l.reverse.dropWhile (· == 48)).reverse
def trimL (l:List UInt8):List UInt8:=l.dropWhile (· == 48)
theorem trimR_snoc (l:List UInt8)(c:UInt8):trimR (l++[c])=if c=48 then trimR l else l++[c]:=by
 unfold trimR;rw [List.reverse_append];simp only [List.reverse_cons,List.reverse_nil,List.nil_append,List.singleton_append,List.dropWhile_cons];by_cases h:c=48
 ·simp [h]
 ·simp [h]
theorem decQ_trim (w:List UInt8)(f:List UInt8):decQ w (trimR f)=decQ w f:=by
 have:∀ (r:List UInt8),decQ w (trimR r.reverse)=decQ w r.reverse:=by
  intro r;induction r with
  | nil=>rfl
  | cons c r ih=>
   rw [List.reverse_cons,trimR_snoc];split
   ·rename_i h; subst h; rw [ih,decQ_snoc]
   ·rfl
 have:=this f.reverse
 rwa [List.reverse_reverse]at this
theorem trimR_sub (l:List UInt8):∀ c∈trimR l,c∈l:=by
 intro c hc;unfold trimR at hc;have:=List.mem_reverse.1 hc
 have:=(List.dropWhile_sublist _).subset this
 exact List.mem_reverse.1 this
theorem trimR_len (l:List UInt8):(trimR l).length≤l.length:=by
 unfold trimR;rw [List.length_reverse];have:=(List.dropWhile_sublist (l:=l.reverse) (p:=(· == 48))).length_le
 rwa [List.length_reverse]at this
theorem trimL_val (l:List UInt8):valD (trimL l)=valD l:=by
 induction l with
 | nil=>rfl
 | cons c l ih=>
  unfold trimL;rw [List.dropWhile_cons];split
  ·rename_i h
   have:c=48:=by simpa using h
   subst this;rw [val_zero]; exact ih
  ·rfl
theorem trimL_sub (l:List UInt8):∀ c∈trimL l,c∈l:=fun _ hc=>(List.dropWhile_sublist _).subset hc
theorem trimL_head (l:List UInt8):trimL l=[]∨∃ c t,trimL l=c::t∧c≠48:=by
 induction l with
 | nil=>left; rfl
 | cons c l ih=>
  unfold trimL;rw [List.dropWhile_cons];split
  ·exact ih
  ·rename_i h; exact .inr ⟨_,_,rfl,by simpa using h⟩
theorem val_far (l:List UInt8)(h:∀ c∈l,isD c=true)(h10:10<(trimL l).length):10000000000≤valD l:=by
 rw [← trimL_val];rcases trimL_head l with e|⟨c,t,e,hc⟩
 ·rw [e]at h10; simp at h10
 ·have hD:=h c (trimL_sub l c (by rw [e]; simp))
  rw [e]at h10 ⊢
  have:=val_ge c t hD hc
  have h2:10 ^ 10≤10 ^ t.length:=Nat.pow_le_pow_right (by decide) (by simp at h10; omega)
  omega
def parseQ (l:List UInt8):Res:=
 if 40<l.length∨digs (Lib.cut l [46]).1=false∨((Lib.cut l [46]).2.2=true∧digs (Lib.cut l [46]).2.1=false)then ⟨0,0,3⟩else decQ (Lib.cut l [46]).1 (Lib.cut l [46]).2.1
theorem ans_dec (w f:List UInt8):ansQ (valD (w++trimR f)) (trimR f).length=decQ w f:=by
 rw [ansQ_mk,← decQ_trim w f]; rfl
def dg (n:Nat):UInt8:=UInt8.ofNat (48+n)
def qd (p r:Nat)(c:UInt8):UInt8:=dg ((10*r+(c.toNat-48)) / p)
def rd (p r:Nat)(c:UInt8):Nat:=(10*r+(c.toNat-48)) % p
def divA (p:Nat):List UInt8→Nat→List UInt8
 | [],_=>[]
 | c::l,r=>qd p r c::divA p l (rd p r c)
def remA (p:Nat):List UInt8→Nat→Nat
 | [],r=>r
 | c::l,r=>remA p l (rd p r c)
def divL (p r:Nat)(l:List UInt8):List UInt8:=divA p l r
def remL (p r:Nat)(l:List UInt8):Nat:=remA p l r
theorem divL_len (p:Nat):∀ l r,(divL p r l).length=l.length:=by
 intro l;induction l with
 | nil=>intro r; rfl
 | cons c l ih=>intro r; unfold divL at ih ⊢; simp [divA,ih]
theorem divL_snoc (p:Nat):∀ l r c,divL p r (l++[c])=divL p r l++[dg ((10*remL p r l+(c.toNat-48)) / p)]:=by
 intro l;unfold divL remL;induction l with
 | nil=>intro r c; simp only [List.nil_append,divA,remA,qd]
 | cons d l ih=>intro r c; simp only [List.cons_append,divA,remA,ih]
theorem remL_snoc (p:Nat):∀ l r c,remL p r (l++[c])=(10*remL p r l+(c.toNat-48)) % p:=by
 intro l;unfold remL;induction l with
 | nil=>intro r c; simp only [List.nil_append,remA,rd]
 | cons d l ih=>intro r c; simp only [List.cons_append,remA,ih]
theorem remL_lt (p:Nat)(hp:0<p):∀ l r,r<p→remL p r l<p:=by
 intro l;induction l with
 | nil=>intro r h; exact h
 | cons c l ih=>intro r _; exact ih _ (Nat.mod_lt _ hp)
theorem quo_nat (p x:Nat)(hp:0<p)(hx:x<10*p):x / p≤9:=by
 have:=(Nat.div_lt_iff_lt_mul hp).2 (show x<10*p from hx)
 omega
theorem quo_toNat (n:Nat)(h:n≤9):(dg n).toNat=48+n:=by
 unfold dg;rw [UInt8.toNat_ofNat'];have:(48+n) % 2 ^ 8=48+n:=Nat.mod_eq_of_lt (by omega)
 exact this
theorem divL_isD (p:Nat)(hp:0<p):∀ l r,r<p→(∀ c∈l,isD c=true)→∀ c∈divL p r l,isD c=true:=by
 intro l;induction l with
 | nil=>intro r _ _ c hc; simp [divL,divA]at hc
 | cons d l ih=>
  intro r hr hl c hc;have hd:=(isD_iff d).1 (hl d (by simp))
  have hc:c=qd p r d∨c∈divL p (rd p r d) l:=by simpa only [divL,divA,List.mem_cons]using hc
  rcases hc with rfl|hc
  ·have:=quo_nat p (10*r+(d.toNat-48)) hp (by omega)
   rw [isD_iff,qd,quo_toNat _ this];generalize (10*r+(d.toNat-48)) / p=z at*;omega
  ·exact ih _ (Nat.mod_lt _ hp) (fun x hx=>hl x (by simp [hx])) c hc
theorem divL_val (p:Nat)(hp:0<p):∀ (l:List UInt8),(∀ c∈l,isD c=true)→valD (divL p 0 l)=valD l / p∧remL p 0 l=valD l % p:=by
 have:∀ r:List UInt8,(∀ c∈r.reverse,isD c=true)→valD (divL p 0 r.reverse)=valD r.reverse / p∧remL p 0 r.reverse=valD r.reverse % p:=by
  intro r;induction r with
  | nil=>intro _; simp [divL,divA,remL,remA,valD]
  | cons c r ih=>
   intro h;rw [List.reverse_cons]at h ⊢
   obtain ⟨h1,h2⟩:=ih (fun x hx=>h x (by simp [List.mem_reverse.1 hx]))
   have hc:=(isD_iff c).1 (h c (by simp))
   rw [divL_snoc,remL_snoc,val_snoc,val_snoc,h1,h2];have hr:valD r.reverse % p<p:=Nat.mod_lt _ hp
   have hq:=quo_nat p (10*(valD r.reverse % p)+(c.toNat-48)) hp (by omega)
   rw [quo_toNat _ hq];have hdm:=Nat.div_add_mod (valD r.reverse) p
   generalize valD r.reverse / p=q at*;generalize valD r.reverse % p=m at*;generalize c.toNat-48=d at*;have e:10*valD r.reverse+d=p*(10*q)+(10*m+d):=by rw [← hdm]; grind
   rw [e,Nat.mul_add_div hp,Nat.mul_add_mod];refine ⟨?_,rfl⟩
   generalize (10*m+d) / p=z at*;omega
 intro l hl;have:=this l.reverse (by rwa [List.reverse_reverse])
 rwa [List.reverse_reverse]at this
def shL (p:Nat):Nat→List UInt8→List UInt8 × Nat
 | 0,l=>(l,0)
 | e+1,l=>if valD l % p=0 then shL p e (divL p 0 l)else (l,e+1)
theorem shL_spec (p:Nat)(hp:0<p):∀ e l,(∀ c∈l,isD c=true)→(∀ c∈(shL p e l).1,isD c=true)∧(shL p e l).1.length=l.length∧valD (shL p e l).1=(shN p e (valD l)).1∧(shL p e l).2=(shN p e (valD l)).2:=by
 intro e;induction e with
 | zero=>intro l hl; exact ⟨hl,rfl,rfl,rfl⟩
 | succ e ih=>
  intro l hl;unfold shL shN;split
  ·obtain ⟨h1,h2,h3,h4⟩:=ih (divL p 0 l) (divL_isD p hp l 0 hp hl)
   rw [(divL_val p hp l hl).1]at h3 h4
   exact ⟨h1,h2.trans (divL_len p l 0),h3,h4⟩
  ·exact ⟨hl,rfl,rfl,rfl⟩
theorem cut_point (b:List UInt8):(∃ w r,Lib.cut b [46]=(w,r,true)∧b=w++46::r∧46∉w)∨(Lib.cut b [46]=(b,[],false)∧46∉b):=by
 have occ:∀ j (hj:j<b.length),b[j]=46→Lib.occAt b [46] j=true:=fun j hj e=>by
  unfold Lib.occAt; rw [List.drop_eq_getElem_cons hj,e]; simp
 unfold Lib.cut;rcases Lib.index_spec b [46]with ⟨h1,h2⟩|⟨i,h1,h2,h3,h4⟩
 ·right
  rw [h1,if_neg (by decide)]
  refine ⟨rfl,fun hm=>?_⟩
  obtain ⟨j,hj,e⟩:=List.mem_iff_getElem.1 hm
  have:=h2 j (by omega)
  rw [occ j hj e]at this; cases this
 ·left
  rw [h1,if_pos (by omega)]
  have hi:i<b.length:=by
   rcases Lib.occAt_room h3 with h'|h'
   ·simp at h'; omega
   ·cases h'
  have hc:b[i]=46:=by
   unfold Lib.occAt at h3; rw [List.drop_eq_getElem_cons hi]at h3; simp only [List.isPrefixOf,Bool.and_true,beq_iff_eq]at h3; exact h3.symm
  refine ⟨b.take i,b.drop (i+1),by simp,?_,fun hm=>?_⟩
  ·rw [← hc,← List.drop_eq_getElem_cons hi,List.take_append_drop]
  ·obtain ⟨j,hj,e⟩:=List.mem_iff_getElem.1 hm
   have hji:j<i:=by rw [List.length_take]at hj; omega
   rw [List.getElem_take]at e
   have:=h4 j hji
   rw [occ j (by omega) e]at this; cases this
theorem cut_rest (l:List UInt8):(Lib.cut l [46]).2.2=false→(Lib.cut l [46]).2.1=[]:=by
 rcases cut_point l with ⟨w,r,e,_,_⟩|⟨e,_⟩
 ·rw [e]; intro h; cases h
 ·rw [e]; intro _; rfl
theorem cut_len (l:List UInt8):(Lib.cut l [46]).1.length≤l.length∧(Lib.cut l [46]).2.1.length≤l.length:=by
 rcases cut_point l with ⟨w,r,e,rfl,_⟩|⟨e,_⟩
 ·rw [e]; simp; omega
 ·rw [e]; simp
end Go.Proofs.YtknpigdpepmimaaGreatDoor.Q
namespace Go.Proofs.YtknpigdpepmimaaGreatDoor
open Go.Lib(hid)
structure V where
 num:Int
 den:Int
 dim:Dm
 deriving DecidableEq
def zV:V:=⟨0,0,zD⟩
def whV (n:Int):V:=⟨n,1,zD⟩
structure R where
 v:V
 path:List Int
 e:Int
def okR (v:V):R:=⟨v,[],0⟩
def erR (e:Int):R:=⟨zV,[],e⟩
def R.under (r:R) (i:Int):R:=if r.e=0 then r else ⟨r.v,i::r.path,r.e⟩
def joinQ (x:Q.Res)(d:Dm) (f:Int):V × Int:=if x.err=0∧f=0 then (⟨x.num,x.den,d⟩,0)else (zV,17)
def sumV (a b:V):V × Int:=if a.dim=b.dim then joinQ (Q.addQ a.num a.den b.num b.den) a.dim 0 else (zV,16)
def difV (a b:V):V × Int:=if a.dim=b.dim then joinQ (Q.subQ a.num a.den b.num b.den) a.dim 0 else (zV,16)
def negV (a:V):V × Int:=joinQ (Q.negQ a.num a.den) a.dim 0
def proV (a b:V):V × Int:=joinQ (Q.mulQ a.num a.den b.num b.den) (combQ a.dim b.dim 1).1 (combQ a.dim b.dim 1).2
def quoV (a b:V):V × Int:=if b.num=0 then (zV,10)else joinQ (Q.divQ a.num a.den b.num b.den) (combQ a.dim b.dim (-1)).1 (combQ a.dim b.dim (-1)).2
def powV (a b:V):V × Int:=if b.dim=zD then (if b.den=1 then (if a.num=0∧b.num<0 then (zV,10)else joinQ (Q.powQ a.num a.den b.num) (dpowQ a.dim b.num).1 (dpowQ a.dim b.num).2)else (zV,17))else (zV,16)
def rooV (a:V):V × Int:=if (drootQ a.dim).2=0 then joinQ (Q.rootQ a.num a.den) (drootQ a.dim).1 0 else (zV,16)
def absV (a:V):V × Int:=(⟨max a.num (-a.num),a.den,a.dim⟩,0)
def facN:Nat→Int|0=>1|n+1=>facN n*((n:Int)+1)
def facV (a:V):V × Int:=if a.dim=zD then (if a.den=1∧0≤a.num∧a.num≤12 then (whV (facN a.num.toNat),0)else (zV,17))else (zV,16)
def opK (k:Nat)(l:List V):V × Int:=
 match k,l with
 | 0,[a,b]=>sumV a b
 | 1,[a,b]=>difV a b
 | 2,[a]=>negV a
 | 3,[a]=>(a,0)
 | 4,[a,b]=>proV a b
 | 5,[a,b]=>quoV a b
 | 6,[a,b]=>powV a b
 | 7,[a]=>rooV a
 | 8,[a]=>absV a
 | 9,[a]=>facV a
 | _,_=>(zV,1)
def opTab:List (W8 × Nat × Nat):=[
 ([112,108,117,115],2,0),([109,105,110,117,115],2,1),([110,101,103],1,2),([112,111,115],1,3),([103,114,111,117,112],1,3),
 ([116,105,109,101,115],2,4),([99,100,111,116],2,4),([99,114,111,115,115],2,4),([112,114,111,100,117,99,116],2,4),
 ([111,118,101,114],2,5),([100,105,118,105,100,101],2,5),([112,111,119,101,114],2,6),([115,113,114,116],1,7),([97,98,115],1,8),
 ([102,97,99,116,111,114,105,97,108],1,9)]
def opOf (n:W8):Option (Nat × Nat):=opTab.lookup n
def unitTab:List (W8 × V):=[
 ([109],⟨1,1,⟨1,0,0,0,0,0,0⟩⟩),([107,103],⟨1,1,⟨0,1,0,0,0,0,0⟩⟩),([115],⟨1,1,⟨0,0,1,0,0,0,0⟩⟩),([65],⟨1,1,⟨0,0,0,1,0,0,0⟩⟩),
 ([75],⟨1,1,⟨0,0,0,0,1,0,0⟩⟩),([109,111,108],⟨1,1,⟨0,0,0,0,0,1,0⟩⟩),([99,100],⟨1,1,⟨0,0,0,0,0,0,1⟩⟩),
 ([107,109],⟨1000,1,⟨1,0,0,0,0,0,0⟩⟩),([99,109],⟨1,100,⟨1,0,0,0,0,0,0⟩⟩),([109,109],⟨1,1000,⟨1,0,0,0,0,0,0⟩⟩),
 ([103],⟨1,1000,⟨0,1,0,0,0,0,0⟩⟩),([116],⟨1000,1,⟨0,1,0,0,0,0,0⟩⟩),([109,115],⟨1,1000,⟨0,0,1,0,0,0,0⟩⟩),
 ([109,105,110],⟨60,1,⟨0,0,1,0,0,0,0⟩⟩),([104],⟨3600,1,⟨0,0,1,0,0,0,0⟩⟩),([100],⟨86400,1,⟨0,0,1,0,0,0,0⟩⟩),
 ([72,122],⟨1,1,⟨0,0,-1,0,0,0,0⟩⟩),([78],⟨1,1,⟨1,1,-2,0,0,0,0⟩⟩),([80,97],⟨1,1,⟨-1,1,-2,0,0,0,0⟩⟩),
 ([74],⟨1,1,⟨2,1,-2,0,0,0,0⟩⟩),([87],⟨1,1,⟨2,1,-3,0,0,0,0⟩⟩),([67],⟨1,1,⟨0,0,1,1,0,0,0⟩⟩),
 ([86],⟨1,1,⟨2,1,-3,-1,0,0,0⟩⟩),([111,104,109],⟨1,1,⟨2,1,-3,-2,0,0,0⟩⟩),([107,87,104],⟨3600000,1,⟨2,1,-2,0,0,0,0⟩⟩),
 ([108],⟨1,1000,⟨3,0,0,0,0,0,0⟩⟩),([37],⟨1,100,⟨0,0,0,0,0,0,0⟩⟩)]
def lookR {α:Type}(f:α→Option V)(x:α):R:=match f x with|some v=>okR v|none=>erR 11
abbrev Sc:=List (W8 × V)
def lkR (s:Sc)(n:W8):R:=lookR (fun n=>s.lookup n) n
def unitR (n:W8):R:=lookR (fun n=>unitTab.lookup n) n
def numR' (n:W8):R:=⟨(joinQ (Q.parseQ n) zD 0).1,[],(joinQ (Q.parseQ n) zD 0).2⟩
abbrev G:=Nat→R × Nat
def argsG:Nat→List G→Nat→List V→(R × List V) × Nat
 | _,[],c,out=>((okR zV,out),c)
 | i,g::gs,c,out=>if (g c).1.e=0 then argsG (i+1) gs (g c).2 (out++[(g c).1.v])else (((g c).1.under i,[]),(g c).2)
def limE (x y:V):R:=if x.dim=zD then (if y.dim=zD then (if x.den=1 then (if y.den=1 then okR zV else ⟨zV,[1],17⟩)else ⟨zV,[0],17⟩)else ⟨zV,[1],16⟩)else ⟨zV,[0],16⟩
def loopB (body:Int→G)(add:V→V→V × Int)(fr hi:Int):Nat→Int→V→Nat→R × Nat
 | 0,_,_,c=>(erR 6,c)
 | f+1,k,v,c=>if k≤hi then (if 2000≤c then (erR 6,c) else
   if (body k (c+1)).1.e=0 then
    (if k=fr then loopB body add fr hi f (k+1) (body k (c+1)).1.v (body k (c+1)).2
     else if (add v (body k (c+1)).1.v).2=0 then loopB body add fr hi f (k+1) (add v (body k (c+1)).1.v).1 (body k (c+1)).2
     else (erR (add v (body k (c+1)).1.v).2,(body k (c+1)).2))
   else ((body k (c+1)).1.under 2,(body k (c+1)).2))else (okR v,c)
def sumW:W8:=[115,117,109]
def prodW:W8:=[112,114,111,100]
def addOf (n:W8):V→V→V × Int:=if n=sumW then sumV else proV
def zeroOf (n:W8):V:=if n=sumW then whV 0 else whV 1
def limG (n:W8)(h:Int→G)(a:(R × List V) × Nat):R × Nat:=
 if a.1.1.e=0 then
  (match a.1.2 with
   | [x,y]=>if (limE x y).e=0 then loopB h (addOf n) x.num y.num 2001 x.num (zeroOf n) a.2 else (limE x y,a.2)
   | _=>(erR 1,a.2))
 else (a.1.1,a.2)
def bindG (n:W8)(gs:List G)(hs:List (Int→G)):G:=fun c=>
 if n=sumW∨n=prodW then
  (match gs,hs with
   | [ga,gb,_],[_,_,h]=>limG n h (argsG 0 [ga,gb] c [])
   | _,_=>(erR 13,c))
 else (erR 15,c)
def applyG (n:W8)(gs:List G):G:=fun c=>
 match opOf n with
 | none=>(erR 15,c)
 | some (ar,k)=>if gs.length=ar then
   (if (argsG 0 gs c []).1.1.e=0 then (⟨(opK k (argsG 0 gs c []).1.2).1,[],(opK k (argsG 0 gs c []).1.2).2⟩,(argsG 0 gs c []).2)
    else ((argsG 0 gs c []).1.1,(argsG 0 gs c []).2))
  else (erR 13,c)
def stepN (k:Int)(n:W8)(lk:R)(gs:List G)(hs:List (Int→G)):G:=fun c=>
 if k=1 then (numR' n,c)else if k=2 then (lk,c)else if k=3 then (unitR n,c)else if k=5 then bindG n gs hs c else applyG n gs c
mutual
def ev:T→Sc→G
 | .mk k n v ys _,s=>stepN k n (lkR s n) (evs ys s) (evh ys v s)
def evs:List T→Sc→List G
 | [],_=>[]
 | t::ts,s=>ev t s::evs ts s
def evh:List T→W8→Sc→List (Int→G)
 | [],_,_=>[]
 | t::ts,v,s=>(fun k=>ev t ((v,whV k)::s))::evh ts v s
end
theorem ev_eq (t:T)(s:Sc):ev t s=stepN t.kind t.name (lkR s t.name) (evs t.args s) (evh t.args t.var s):=by
 cases t with
 | mk k n v ys f=>rw [ev]; rfl
theorem evs_map (ts:List T)(s:Sc):evs ts s=ts.map fun t=>ev t s:=by
 induction ts with
 | nil=>rw [evs]; rfl
 | cons t ts ih=>rw [evs,ih]; rfl
end Go.Proofs.YtknpigdpepmimaaGreatDoor
namespace Go.Proofs.YtknpigdpepmimaaGreatDoor
open Go.Lib(hid)
open Go.RowKit
def V.cells (v:V):Array Value:=#[.int .i64 v.num,.int .i64 v.den,.int .i64 v.dim.a,.int .i64 v.dim.b,.int .i64 v.dim.c,.int .i64 v.dim.d,.int .i64 v.dim.e,.int .i64 v.dim.f,.int .i64 v.dim.g]
def K9 (w:World) (b:Nat)(v:V):Prop:=w.heap[b]?=some (.cells v.cells 44 (0,0))
def C9 (w:World)(b o:Nat)(v:V):Prop:=(w.cell? ⟨b,o,none⟩=some (.int .i64 v.num)∧w.cell? ⟨b,o+1,none⟩=some (.int .i64 v.den))∧(w.cell? ⟨b,o+2,none⟩=some (.int .i64 v.dim.a)∧w.cell? ⟨b,o+3,none⟩=some (.int .i64 v.dim.b)∧w.cell? ⟨b,o+4,none⟩=some (.int .i64 v.dim.c)∧w.cell? ⟨b,o+5,none⟩=some (.int .i64 v.dim.d)∧w.cell? ⟨b,o+6,none⟩=some (.int .i64 v.dim.e)∧w.cell? ⟨b,o+7,none⟩=some (.int .i64 v.dim.f)∧w.cell? ⟨b,o+8,none⟩=some (.int .i64 v.dim.g))
theorem K9.cells {w:World}{b:Nat}{v:V}(h:K9 w b v):C9 w b 0 v∧(∀ i,w.frozen? ⟨b,i,none⟩=false)∧b<w.heap.size:=by
 unfold K9 V.cells at h;refine ⟨⟨⟨?_,?_⟩,?_,?_,?_,?_,?_,?_,?_⟩,fun i=>?_,(Array.getElem?_eq_some_iff.1 h).1⟩<;>simp [World.cell?,World.frozen?,h]
theorem C9.block {w w':World}{b o:Nat}{v:V}(h:C9 w b o v)(hb:w'.heap[b]?=w.heap[b]?):C9 w' b o v:=by
 have e:∀ i,w'.cell? ⟨b,i,none⟩=w.cell? ⟨b,i,none⟩:=fun i=>by simp [World.cell?,hb]
 unfold C9;rw [e,e,e,e,e,e,e,e,e];exact h
theorem C9.lt {w:World}{b o:Nat}{v:V}(h:C9 w b o v):b<w.heap.size:=block_lt_of_cell (a:=⟨b,o,none⟩) h.1.1
theorem C9.below {w w':World}{b o B:Nat}{v:V}(h:C9 w b o v)(hb:Below B w w')(hB:b<B):C9 w' b o v:=h.block (hb.block b hB)
theorem C9.reach {w w':World}{b o:Nat}{v:V}(h:C9 w b o v)(hb:Below w.heap.size w w'):C9 w' b o v:=h.below hb h.lt
theorem K9.below {w w':World}{B b:Nat}{v:V}(h:K9 w b v)(hb:Below B w w')(hlt:b<B):K9 w' b v:=(hb.block b hlt).trans h
theorem K9.reach {w w':World}{b:Nat}{v:V}(h:K9 w b v)(hb:Below w.heap.size w w'):K9 w' b v:=h.below hb h.cells.2.2
theorem K9.new (w:World)(v:V):K9 (w.alloc (.cells v.cells 44)) w.heap.size v:=heap_alloc_new w _
theorem K9.other {w:World}{b b' o:Nat}{v:V}(h:K9 w b v) (u:Value)(hne:b≠b'):K9 (w.setCell ⟨b',o,none⟩ u) b v:=(Below.heap_setCell w ⟨b',o,none⟩ u b (fun e=>hne e)).trans h
theorem zV_cells:zV.cells=#[.int .i64 0,.int .i64 0,.int .i64 0,.int .i64 0,.int .i64 0,.int .i64 0,.int .i64 0,.int .i64 0,.int .i64 0]:=rfl
theorem b1 (w:World)(o:Obj):Below w.heap.size w (w.alloc o):=(Below.refl _ _).alloc (Nat.le_refl _) _
theorem b2 (w:World)(o p:Obj):Below w.heap.size w ((w.alloc o).alloc p):=(b1 w o).alloc (by simp) _
theorem b3 (w:World)(o p q:Obj):Below w.heap.size w (((w.alloc o).alloc p).alloc q):=(b2 w o p).alloc (by simp; omega) _
def set9 (w:World) (b:Nat)(v:V):World:=((((((((w.setCell ⟨b,0,none⟩ (.int .i64 v.num)).setCell ⟨b,1,none⟩ (.int .i64 v.den)).setCell ⟨b,2,none⟩ (.int .i64 v.dim.a)).setCell ⟨b,3,none⟩ (.int .i64 v.dim.b)).setCell ⟨b,4,none⟩ (.int .i64 v.dim.c)).setCell ⟨b,5,none⟩ (.int .i64 v.dim.d)).setCell ⟨b,6,none⟩ (.int .i64 v.dim.e)).setCell ⟨b,7,none⟩ (.int .i64 v.dim.f)).setCell ⟨b,8,none⟩ (.int .i64 v.dim.g)
theorem below9 {B b:Nat}{a w:World}(h:Below B a w)(hb:B≤b)(v:V):Below B a (set9 w b v):=((((((((h.setCell (p:=⟨b,0,none⟩) hb _).setCell (p:=⟨b,1,none⟩) hb _).setCell (p:=⟨b,2,none⟩) hb _).setCell (p:=⟨b,3,none⟩) hb _).setCell (p:=⟨b,4,none⟩) hb _).setCell (p:=⟨b,5,none⟩) hb _).setCell (p:=⟨b,6,none⟩) hb _).setCell (p:=⟨b,7,none⟩) hb _).setCell (p:=⟨b,8,none⟩) hb _
theorem st9_0 {w:World}{b:Nat}{t:TypeId}{x0 x1 x2 x3 x4 x5 x6 x7 x8:Value}(h:w.heap[b]?=some (.cells #[x0,x1,x2,x3,x4,x5,x6,x7,x8] t (0,0))) (u:Value):(w.setCell ⟨b,0,none⟩ u).heap[b]?=some (.cells #[u,x1,x2,x3,x4,x5,x6,x7,x8] t (0,0)):=by
 show (w.heap.modify b _)[b]?=_
 rw [Array.getElem?_modify,if_pos rfl,h];rfl
theorem st9_1 {w:World}{b:Nat}{t:TypeId}{x0 x1 x2 x3 x4 x5 x6 x7 x8:Value}(h:w.heap[b]?=some (.cells #[x0,x1,x2,x3,x4,x5,x6,x7,x8] t (0,0))) (u:Value):(w.setCell ⟨b,1,none⟩ u).heap[b]?=some (.cells #[x0,u,x2,x3,x4,x5,x6,x7,x8] t (0,0)):=by
 show (w.heap.modify b _)[b]?=_
 rw [Array.getElem?_modify,if_pos rfl,h];rfl
theorem st9_2 {w:World}{b:Nat}{t:TypeId}{x0 x1 x2 x3 x4 x5 x6 x7 x8:Value}(h:w.heap[b]?=some (.cells #[x0,x1,x2,x3,x4,x5,x6,x7,x8] t (0,0))) (u:Value):(w.setCell ⟨b,2,none⟩ u).heap[b]?=some (.cells #[x0,x1,u,x3,x4,x5,x6,x7,x8] t (0,0)):=by
 show (w.heap.modify b _)[b]?=_
 rw [Array.getElem?_modify,if_pos rfl,h];rfl
theorem st9_3 {w:World}{b:Nat}{t:TypeId}{x0 x1 x2 x3 x4 x5 x6 x7 x8:Value}(h:w.heap[b]?=some (.cells #[x0,x1,x2,x3,x4,x5,x6,x7,x8] t (0,0))) (u:Value):(w.setCell ⟨b,3,none⟩ u).heap[b]?=some (.cells #[x0,x1,x2,u,x4,x5,x6,x7,x8] t (0,0)):=by
 show (w.heap.modify b _)[b]?=_
 rw [Array.getElem?_modify,if_pos rfl,h];rfl
theorem st9_4 {w:World}{b:Nat}{t:TypeId}{x0 x1 x2 x3 x4 x5 x6 x7 x8:Value}(h:w.heap[b]?=some (.cells #[x0,x1,x2,x3,x4,x5,x6,x7,x8] t (0,0))) (u:Value):(w.setCell ⟨b,4,none⟩ u).heap[b]?=some (.cells #[x0,x1,x2,x3,u,x5,x6,x7,x8] t (0,0)):=by
 show (w.heap.modify b _)[b]?=_
 rw [Array.getElem?_modify,if_pos rfl,h];rfl
theorem st9_5 {w:World}{b:Nat}{t:TypeId}{x0 x1 x2 x3 x4 x5 x6 x7 x8:Value}(h:w.heap[b]?=some (.cells #[x0,x1,x2,x3,x4,x5,x6,x7,x8] t (0,0))) (u:Value):(w.setCell ⟨b,5,none⟩ u).heap[b]?=some (.cells #[x0,x1,x2,x3,x4,u,x6,x7,x8] t (0,0)):=by
 show (w.heap.modify b _)[b]?=_
 rw [Array.getElem?_modify,if_pos rfl,h];rfl
theorem st9_6 {w:World}{b:Nat}{t:TypeId}{x0 x1 x2 x3 x4 x5 x6 x7 x8:Value}(h:w.heap[b]?=some (.cells #[x0,x1,x2,x3,x4,x5,x6,x7,x8] t (0,0))) (u:Value):(w.setCell ⟨b,6,none⟩ u).heap[b]?=some (.cells #[x0,x1,x2,x3,x4,x5,u,x7,x8] t (0,0)):=by
 show (w.heap.modify b _)[b]?=_
 rw [Array.getElem?_modify,if_pos rfl,h];rfl
theorem st9_7 {w:World}{b:Nat}{t:TypeId}{x0 x1 x2 x3 x4 x5 x6 x7 x8:Value}(h:w.heap[b]?=some (.cells #[x0,x1,x2,x3,x4,x5,x6,x7,x8] t (0,0))) (u:Value):(w.setCell ⟨b,7,none⟩ u).heap[b]?=some (.cells #[x0,x1,x2,x3,x4,x5,x6,u,x8] t (0,0)):=by
 show (w.heap.modify b _)[b]?=_
 rw [Array.getElem?_modify,if_pos rfl,h];rfl
theorem st9_8 {w:World}{b:Nat}{t:TypeId}{x0 x1 x2 x3 x4 x5 x6 x7 x8:Value}(h:w.heap[b]?=some (.cells #[x0,x1,x2,x3,x4,x5,x6,x7,x8] t (0,0))) (u:Value):(w.setCell ⟨b,8,none⟩ u).heap[b]?=some (.cells #[x0,x1,x2,x3,x4,x5,x6,x7,u] t (0,0)):=by
 show (w.heap.modify b _)[b]?=_
 rw [Array.getElem?_modify,if_pos rfl,h];rfl
theorem set9_K9 {w:World}{b:Nat}{u:V}(h:K9 w b u)(v:V):K9 (set9 w b v) b v:=
 st9_8 (st9_7 (st9_6 (st9_5 (st9_4 (st9_3 (st9_2 (st9_1 (st9_0 h _) _) _) _) _) _) _) _) _
set_option maxRecDepth 100000 in
set_option maxHeartbeats 1000000 in
theorem number_val (v:V)(w:World):Calls Tryz.prog 49 #[.agg v.cells] w fun e w'=>e=.returned (.agg #[.int .i64 v.num,.int .i64 v.den])∧Below w.heap.size w w':=by
 obtain ⟨n,d,⟨a,b,c,d4,e,f,g⟩⟩:=v
 unfold V.cells;go_enter Tryz.func49,Tryz.ntmps49;go_wp2_with fail;refine bodyPost_ret (v:=.agg #[.int .i64 n,.int .i64 d]) (by simp [results,Tryz.results49,go_sem]) rfl ⟨rfl,?_⟩
 exact b2 w _ _
set_option maxRecDepth 100000 in
set_option maxHeartbeats 1000000 in
theorem whole_any (n:Int)(w:World):Calls Tryz.prog 125 #[.int .i64 n] w fun e w'=>e=.returned (.agg (whV n).cells)∧Below w.heap.size w w':=by
 have HB:=hid (b1 w (.cells #[.int .i64 0,.int .i64 0,.int .i64 0,.int .i64 0,.int .i64 0,.int .i64 0,.int .i64 0,.int .i64 0,.int .i64 0] 44))
 have HK:Hid (K9 (w.alloc (.cells #[.int .i64 0,.int .i64 0,.int .i64 0,.int .i64 0,.int .i64 0,.int .i64 0,.int .i64 0,.int .i64 0,.int .i64 0] 44)) w.heap.size zV):=K9.new w zV
 go_enter Tryz.func125,Tryz.ntmps125;go_upto_region 1 with (fail);generalize w.alloc (.cells #[.int .i64 0,.int .i64 0,.int .i64 0,.int .i64 0,.int .i64 0,.int .i64 0,.int .i64 0,.int .i64 0,.int .i64 0] 44)=w1 at*;obtain ⟨⟨⟨z0,z1⟩,z2,z3,z4,z5,z6,z7,z8⟩,zf,_⟩:=HK.out.cells
 go_wp2_with fail;refine bodyPost_ret (v:=.agg (whV n).cells) (by simp [results,Tryz.results125,go_sem,V.cells,whV,zD,z0,z1,z2,z3,z4,z5,z6,z7,z8]) rfl ⟨rfl,?_⟩
 exact below9 HB.out (b:=w.heap.size) (Nat.le_refl _) (whV n)
set_option maxRecDepth 100000 in
set_option maxHeartbeats 1000000 in
theorem pure_any (v:V)(w:World):Calls Tryz.prog 50 #[.agg v.cells] w fun e w'=>e=.returned (.bool (decide (v.dim=zD)))∧Below w.heap.size w w':=by
 have hE:=fun w'=>eq42 v.dim zD w'
 rw [show (zD.a:Int)=0 from rfl,show (zD.b:Int)=0 from rfl,show (zD.c:Int)=0 from rfl,show (zD.d:Int)=0 from rfl,show (zD.e:Int)=0 from rfl,show (zD.f:Int)=0 from rfl,show (zD.g:Int)=0 from rfl]at hE
 obtain ⟨t,ht⟩:∃ t,t=decide (v.dim=zD):=⟨_,rfl⟩
 rw [← ht]at hE ⊢
 clear ht;have HK:=hid (K9.new w v)
 unfold V.cells at HK ⊢;have HB:=hid (b1 w (.cells #[.int .i64 v.num,.int .i64 v.den,.int .i64 v.dim.a,.int .i64 v.dim.b,.int .i64 v.dim.c,.int .i64 v.dim.d,.int .i64 v.dim.e,.int .i64 v.dim.f,.int .i64 v.dim.g] 44))
 go_enter Tryz.func50,Tryz.ntmps50;go_upto_region 1 with (fail);generalize w.alloc (.cells #[.int .i64 v.num,.int .i64 v.den,.int .i64 v.dim.a,.int .i64 v.dim.b,.int .i64 v.dim.c,.int .i64 v.dim.d,.int .i64 v.dim.e,.int .i64 v.dim.f,.int .i64 v.dim.g] 44)=w1 at*;obtain ⟨⟨⟨z0,z1⟩,z2,z3,z4,z5,z6,z7,z8⟩,zf,_⟩:=HK.out.cells
 go_wp2_with fail;go_ret;exact ⟨rfl,HB.out⟩
def K2 (w:World) (b:Nat)(x y:Int):Prop:=w.heap[b]?=some (.cells #[.int .i64 x,.int .i64 y] 57 (0,0))
theorem K2.cells {w:World}{b:Nat}{x y:Int}(h:K2 w b x y):(w.cell? ⟨b,0,none⟩=some (.int .i64 x)∧w.cell? ⟨b,1,none⟩=some (.int .i64 y))∧(∀ i,w.frozen? ⟨b,i,none⟩=false)∧b<w.heap.size:=by
 unfold K2 at h;refine ⟨⟨?_,?_⟩,fun i=>?_,(Array.getElem?_eq_some_iff.1 h).1⟩<;>simp [World.cell?,World.frozen?,h]
theorem K2.below {w w':World}{B b:Nat}{x y:Int}(h:K2 w b x y)(hb:Below B w w')(hlt:b<B):K2 w' b x y:=(hb.block b hlt).trans h
theorem K2.reach {w w':World}{b:Nat}{x y:Int}(h:K2 w b x y)(hb:Below w.heap.size w w'):K2 w' b x y:=h.below hb h.cells.2.2
theorem K2.new (w:World)(x y:Int):K2 (w.alloc (.cells #[.int .i64 x,.int .i64 y] 57)) w.heap.size x y:=heap_alloc_new w _
set_option maxRecDepth 100000 in
set_option maxHeartbeats 2000000 in
theorem join_any (n d e:Int)(x:Dm) (f:Int)(w:World):Calls Tryz.prog 79 #[.agg #[.int .i64 n,.int .i64 d],.int .i64 e,.agg x.cells,.int .i64 f] w fun r w'=>r=.returned (.tuple #[.agg (joinQ ⟨n,d,e⟩ x f).1.cells,.int .i64 (joinQ ⟨n,d,e⟩ x f).2])∧Below w.heap.size w w':=by
 have HE:Hid (joinQ ⟨n,d,e⟩ x f=if e=0∧f=0 then (⟨n,d,x⟩,0)else (zV,17)):=rfl
 obtain ⟨r,hr⟩:∃ r,r=joinQ ⟨n,d,e⟩ x f:=⟨_,rfl⟩
 rw [← hr]at HE ⊢
 clear hr;have HB:=hid (b3 w (.cells #[.int .i64 n,.int .i64 d] 57) (.cells #[.int .i64 x.a,.int .i64 x.b,.int .i64 x.c,.int .i64 x.d,.int .i64 x.e,.int .i64 x.f,.int .i64 x.g] 42) (.cells #[.int .i64 0,.int .i64 0,.int .i64 0,.int .i64 0,.int .i64 0,.int .i64 0,.int .i64 0,.int .i64 0,.int .i64 0] 44))
 have hk1:=((K2.new w n d).reach (b1 _ (.cells #[.int .i64 x.a,.int .i64 x.b,.int .i64 x.c,.int .i64 x.d,.int .i64 x.e,.int .i64 x.f,.int .i64 x.g] 42))).reach (b1 _ (.cells #[.int .i64 0,.int .i64 0,.int .i64 0,.int .i64 0,.int .i64 0,.int .i64 0,.int .i64 0,.int .i64 0,.int .i64 0] 44))
 have hk2:=(K7.new (w.alloc (.cells #[.int .i64 n,.int .i64 d] 57)) x).reach (b1 _ (.cells #[.int .i64 0,.int .i64 0,.int .i64 0,.int .i64 0,.int .i64 0,.int .i64 0,.int .i64 0,.int .i64 0,.int .i64 0] 44))
 have hk3:K9 (((w.alloc (.cells #[.int .i64 n,.int .i64 d] 57)).alloc (.cells #[.int .i64 x.a,.int .i64 x.b,.int .i64 x.c,.int .i64 x.d,.int .i64 x.e,.int .i64 x.f,.int .i64 x.g] 42)).alloc (.cells #[.int .i64 0,.int .i64 0,.int .i64 0,.int .i64 0,.int .i64 0,.int .i64 0,.int .i64 0,.int .i64 0,.int .i64 0] 44)) (w.heap.size+1+1) zV:=by
  have:=K9.new ((w.alloc (.cells #[.int .i64 n,.int .i64 d] 57)).alloc (.cells #[.int .i64 x.a,.int .i64 x.b,.int .i64 x.c,.int .i64 x.d,.int .i64 x.e,.int .i64 x.f,.int .i64 x.g] 42)) zV
  rw [World.size_alloc,World.size_alloc]at this
  exact this
 rw [World.size_alloc]at hk2
 have HK1:=hid hk1
 have HK2:=hid hk2
 have HK3:=hid hk3
 clear hk1 hk2 hk3;unfold Dm.cells;go_enter Tryz.func79,Tryz.ntmps79;go_upto_region 1 with (fail);generalize ((w.alloc (.cells #[.int .i64 n,.int .i64 d] 57)).alloc (.cells #[.int .i64 x.a,.int .i64 x.b,.int .i64 x.c,.int .i64 x.d,.int .i64 x.e,.int .i64 x.f,.int .i64 x.g] 42)).alloc (.cells #[.int .i64 0,.int .i64 0,.int .i64 0,.int .i64 0,.int .i64 0,.int .i64 0,.int .i64 0,.int .i64 0,.int .i64 0] 44)=w1 at*
 obtain ⟨⟨k0,k1⟩,_,_⟩:=HK1.out.cells
 obtain ⟨⟨p0,p1,p2,p3,p4,p5,p6⟩,_,_⟩:=HK2.out.cells
 obtain ⟨⟨⟨z0,z1⟩,z2,z3,z4,z5,z6,z7,z8⟩,zf,_⟩:=HK3.out.cells
 by_cases he:e=0
 ·by_cases hf:f=0
  ·have HR:Hid (r=(⟨n,d,x⟩,0)):=HE.out.trans (if_pos ⟨he,hf⟩)
   subst he hf
   go_wp2_with fail;rw [HR.out];refine bodyPost_ret (v:=.tuple #[.agg (V.cells ⟨n,d,x⟩),.int .i64 0]) (by simp [results,Tryz.results79,go_sem,V.cells,z0,z1,z2,z3,z4,z5,z6,z7,z8]) rfl ⟨rfl,?_⟩
   exact below9 HB.out (b:=w.heap.size+1+1) (by omega) ⟨n,d,x⟩
  ·have HR:Hid (r=(zV,17)):=HE.out.trans (if_neg fun h=>hf h.2)
   subst he;go_wp2_with fail;rw [HR.out];refine bodyPost_ret (v:=.tuple #[.agg zV.cells,.int .i64 17]) (by simp [results,Tryz.results79,go_sem,V.cells,zV,zD,z0,z1,z2,z3,z4,z5,z6,z7,z8]) rfl ⟨rfl,?_⟩
   exact below9 HB.out (b:=w.heap.size+1+1) (by omega) zV
 ·have HR:Hid (r=(zV,17)):=HE.out.trans (if_neg fun h=>he h.1)
  go_wp2_with fail;rw [HR.out];refine bodyPost_ret (v:=.tuple #[.agg zV.cells,.int .i64 17]) (by simp [results,Tryz.results79,go_sem,V.cells,zV,zD,z0,z1,z2,z3,z4,z5,z6,z7,z8]) rfl ⟨rfl,?_⟩
  exact below9 HB.out (b:=w.heap.size+1+1) (by omega) zV
set_option maxRecDepth 100000 in
set_option maxHeartbeats 2000000 in
theorem validvalue_any (v:V)(w:World)(hn:-9223372036854775808≤v.num)(hN:v.num≤9223372036854775807)(hd:-9223372036854775808≤v.den)(hD:v.den≤9223372036854775807):Calls Tryz.prog 42 #[.agg v.cells] w fun r w'=>r=.returned (.bool (Q.validQ v.num v.den&&v.dim.ok))∧Below w.heap.size w w':=by
 have HV:=hid fun w=>Q.valid_any v.num v.den w hn hN hd hD
 have HU:=hid fun w=>uvalid_any v.dim w
 have HK:=hid (K9.new w v)
 have HB:=hid (b1 w (.cells v.cells 44))
 unfold V.cells at HK HB ⊢;unfold Dm.cells at HU;go_enter Tryz.func42,Tryz.ntmps42;go_upto_region 1 with (fail);generalize w.alloc (.cells #[.int .i64 v.num,.int .i64 v.den,.int .i64 v.dim.a,.int .i64 v.dim.b,.int .i64 v.dim.c,.int .i64 v.dim.d,.int .i64 v.dim.e,.int .i64 v.dim.f,.int .i64 v.dim.g] 44)=w1 at*;obtain ⟨⟨⟨z0,z1⟩,z2,z3,z4,z5,z6,z7,z8⟩,zf,_⟩:=HK.out.cells
 go_wp2_with fail;refine (HV.out w1).mono ?_
 rintro r w2 ⟨rfl,hb2⟩
 have HB2:=hid (HB.out.trans (hb2.mono HB.out.size))
 have HK2:=hid (HK.out.reach hb2)
 clear hb2 z0 z1 z2 z3 z4 z5 z6 z7 z8;obtain ⟨⟨⟨z0,z1⟩,z2,z3,z4,z5,z6,z7,z8⟩,zf,_⟩:=HK2.out.cells
 cases h1:Q.validQ v.num v.den with
 | false=>
  go_wp2_with fail;go_ret;exact ⟨by rw [h1]; rfl,HB2.out⟩
 | true=>
  go_wp2_with fail;refine (HU.out w2).mono ?_
  rintro r w3 ⟨rfl,hb3⟩
  go_wp2_with fail;go_ret;exact ⟨by rw [h1]; rfl,HB2.out.trans (hb3.mono HB2.out.size)⟩
end Go.Proofs.YtknpigdpepmimaaGreatDoor
namespace Go.Proofs.YtknpigdpepmimaaGreatDoor
open Go.Lib(hid)
def V.ok (v:V):Prop:=Q.validQ v.num v.den=true∧v.dim.ok=true
theorem mk_spec {n d:Int}(h:(Q.mk n d).err=0):d≠0∧Q.validQ (Q.mk n d).num (Q.mk n d).den=true∧n*(Q.mk n d).den=(Q.mk n d).num*d:=by
 by_cases hd:d=0
 ·subst hd; simp [Q.mk]at h
 refine ⟨hd,?_⟩
 have hg:0<Nat.gcd n.natAbs d.natAbs:=Nat.gcd_pos_of_pos_right _ (by omega)
 have h1:=Nat.div_mul_cancel (Nat.gcd_dvd_left n.natAbs d.natAbs)
 have h2:=Nat.div_mul_cancel (Nat.gcd_dvd_right n.natAbs d.natAbs)
 have h3:=Nat.gcd_div_gcd_div_gcd_of_pos_right (n:=n.natAbs) (m:=d.natAbs) (by omega)
 unfold Q.mk at h ⊢;rw [if_neg hd]at h ⊢
 unfold Q.red at h ⊢;generalize Nat.gcd n.natAbs d.natAbs=g at*;generalize n.natAbs / g=a at*;generalize d.natAbs / g=b at*
 have hb:0<b:=by
  rcases Nat.eq_zero_or_pos b with h0|h0
  ·subst h0; omega
  ·exact h0
 by_cases hc:a≤2147483647∧b≤2147483647
 ·rw [if_pos hc]at h ⊢
  have e1:(n.natAbs:Int)=(a:Int)*g:=by rw [← h1]; simp
  have e2:(d.natAbs:Int)=(b:Int)*g:=by rw [← h2]; simp
  rcases Int.lt_or_le n 0 with hn|hn<;>rcases Int.lt_or_le d 0 with hd0|hd0
  ·have hb1:(decide (n<0) != decide (d<0))=false:=by simp [hn,hd0]
   rw [hb1];have en:n=-((a:Int)*g):=by omega
   have ed:d=-((b:Int)*g):=by omega
   refine ⟨(Q.valid_iff _ _).2 ⟨by show (1:Int)≤(b:Int); omega,by show (b:Int)≤_; omega,by show _≤(a:Int); omega,by show (a:Int)≤_; omega,by simpa using h3⟩,?_⟩
   rw [en,ed]; show -((a:Int)*g)*b=(a:Int)*-((b:Int)*g); grind
  ·have hb1:(decide (n<0) != decide (d<0))=true:=by simp [hn]; omega
   rw [hb1];have en:n=-((a:Int)*g):=by omega
   have ed:d=(b:Int)*g:=by omega
   refine ⟨(Q.valid_iff _ _).2 ⟨by show (1:Int)≤(b:Int); omega,by show (b:Int)≤_; omega,by show _≤-(a:Int); omega,by show -(a:Int)≤_; omega,by simpa using h3⟩,?_⟩
   rw [en,ed]; show -((a:Int)*g)*b=-(a:Int)*((b:Int)*g); grind
  ·have hb1:(decide (n<0) != decide (d<0))=true:=by simp [hd0]; omega
   rw [hb1];have en:n=(a:Int)*g:=by omega
   have ed:d=-((b:Int)*g):=by omega
   refine ⟨(Q.valid_iff _ _).2 ⟨by show (1:Int)≤(b:Int); omega,by show (b:Int)≤_; omega,by show _≤-(a:Int); omega,by show -(a:Int)≤_; omega,by simpa using h3⟩,?_⟩
   rw [en,ed]; show ((a:Int)*g)*b=-(a:Int)*-((b:Int)*g); grind
  ·have hb1:(decide (n<0) != decide (d<0))=false:=by
    rw [decide_eq_false (by omega),decide_eq_false (by omega)]; rfl
   rw [hb1];have en:n=(a:Int)*g:=by omega
   have ed:d=(b:Int)*g:=by omega
   refine ⟨(Q.valid_iff _ _).2 ⟨by show (1:Int)≤(b:Int); omega,by show (b:Int)≤_; omega,by show _≤(a:Int); omega,by show (a:Int)≤_; omega,by simpa using h3⟩,?_⟩
   rw [en,ed]; show ((a:Int)*g)*b=(a:Int)*((b:Int)*g); grind
 ·rw [if_neg hc]at h; simp at h
theorem valid_int {n:Int}(h:-2147483647≤n∧n≤2147483647):Q.validQ n 1=true:=(Q.valid_iff _ _).2 ⟨by omega,by omega,h.1,h.2,by simp⟩
theorem wh_ok {n:Int}(h:-2147483647≤n∧n≤2147483647):(whV n).ok:=⟨valid_int h,rfl⟩
theorem V.ok.num {v:V}(h:v.ok):-2147483647≤v.num∧v.num≤2147483647:=by have:=(Q.valid_iff _ _).1 h.1; omega
theorem join_ok {x:Q.Res}{d:Dm}{f:Int}(hx:x.err=0→Q.validQ x.num x.den=true)(hd:f=0→d.ok=true)(h:(joinQ x d f).2=0):(joinQ x d f).1.ok:=by
 unfold joinQ at h ⊢;by_cases hc:x.err=0∧f=0
 ·rw [if_pos hc]; exact ⟨hx hc.1,hd hc.2⟩
 ·rw [if_neg hc]at h; simp at h
theorem add_valid {a b c d:Int}(h:(Q.addQ a b c d).err=0):Q.validQ (Q.addQ a b c d).num (Q.addQ a b c d).den=true:=by
 unfold Q.addQ at h ⊢; split at h<;>rename_i hc
 ·rw [if_pos hc]; exact (mk_spec h).2.1
 ·simp at h
theorem sub_valid {a b c d:Int}(h:(Q.subQ a b c d).err=0):Q.validQ (Q.subQ a b c d).num (Q.subQ a b c d).den=true:=by
 unfold Q.subQ at h ⊢; split at h<;>rename_i hc
 ·rw [if_pos hc]; exact (mk_spec h).2.1
 ·simp at h
theorem mul_valid {a b c d:Int}(h:(Q.mulQ a b c d).err=0):Q.validQ (Q.mulQ a b c d).num (Q.mulQ a b c d).den=true:=by
 unfold Q.mulQ at h ⊢; split at h<;>rename_i hc
 ·rw [if_pos hc]; exact (mk_spec h).2.1
 ·simp at h
theorem div_valid {a b c d:Int}(h:(Q.divQ a b c d).err=0):Q.validQ (Q.divQ a b c d).num (Q.divQ a b c d).den=true:=by
 unfold Q.divQ at h ⊢; split at h<;>rename_i hc
 ·rw [if_pos hc]; exact (mk_spec h).2.1
 ·simp at h
theorem neg_valid {a b:Int}(h:(Q.negQ a b).err=0):Q.validQ (Q.negQ a b).num (Q.negQ a b).den=true:=by
 unfold Q.negQ at h ⊢; split at h<;>rename_i hc
 ·rw [if_pos hc]
  have:=(Q.valid_iff _ _).1 hc
  exact (Q.valid_iff _ _).2 ⟨this.1,this.2.1,by show _≤-a; omega,by show -a≤_; omega,by show Nat.gcd (-a).natAbs _=1; rw [Int.natAbs_neg]; exact this.2.2.2.2⟩
 ·simp at h
theorem powN_valid {a b:Int}{k:Nat}(hv:Q.validQ a b=true)(h:(Q.powN a b k).err=0):Q.validQ (Q.powN a b k).num (Q.powN a b k).den=true:=by
 unfold Q.powN at h ⊢; split at h<;>rename_i hc
 ·rw [if_pos hc]; exact Q.valid_pow hv hc
 ·simp at h
theorem pow_valid {a b n:Int}(h:(Q.powQ a b n).err=0):Q.validQ (Q.powQ a b n).num (Q.powQ a b n).den=true:=by
 unfold Q.powQ at h ⊢; split at h<;>rename_i hc
 ·rw [if_pos hc]
  split at h<;>rename_i h0
  ·simp at h
  ·rw [if_neg h0]
   split at h<;>rename_i h1
   ·rw [if_pos h1]; exact powN_valid (Q.inv_valid hc (fun e=>h0 ⟨e,h1⟩)) h
   ·rw [if_neg h1]; exact powN_valid hc h
 ·simp at h
theorem root_valid {a b:Int}(h:(Q.rootQ a b).err=0):Q.validQ (Q.rootQ a b).num (Q.rootQ a b).den=true:=by
 unfold Q.rootQ at h ⊢; split at h<;>rename_i hc
 ·rw [if_pos hc]
  split at h<;>rename_i h0
  ·rw [if_pos h0]
   have hv:=(Q.valid_iff _ _).1 hc
   have b1:=Q.sqr_bnd a
   have b2:=Q.sqr_bnd b
   show Q.validQ (Q.sqr a) (Q.sqr b)=true
   generalize Q.sqr a=x at*;generalize Q.sqr b=y at*;have hy:y≠0:=fun e=>by subst e; simp at h0; omega
   refine (Q.valid_iff _ _).2 ⟨by omega,by omega,by omega,by omega,?_⟩
   have hg:=hv.2.2.2.2
   rw [← h0.1,← h0.2,Int.natAbs_mul,Int.natAbs_mul]at hg
   exact Nat.Coprime.coprime_mul_left (Nat.Coprime.coprime_mul_left_right hg)
  ·simp at h
 ·simp at h
theorem parse_valid {l:List UInt8}(h:(Q.parseQ l).err=0):Q.validQ (Q.parseQ l).num (Q.parseQ l).den=true:=by
 unfold Q.parseQ at h ⊢; split at h<;>rename_i hc
 ·simp at h
 ·rw [if_neg hc]; unfold Q.decQ at h ⊢; exact (mk_spec h).2.1
theorem comb_ok {x y:Dm}{s:Int}(h:(combQ x y s).2=0):(combQ x y s).1.ok=true:=by
 unfold combQ at h ⊢;split at h<;>rename_i hc
 ·rw [if_pos hc]
  split at h<;>rename_i h1
  ·rw [if_pos h1]; exact h1
  ·simp at h
 ·simp at h
theorem dpow_ok {x:Dm}{n:Int}(h:(dpowQ x n).2=0):(dpowQ x n).1.ok=true:=by
 unfold dpowQ at h ⊢;split at h<;>rename_i hc
 ·rw [if_pos hc]
  split at h<;>rename_i h1
  ·rw [if_pos h1]; rfl
  ·rw [if_neg h1]
   split at h<;>rename_i h2
   ·simp at h
   ·rw [if_neg h2]
    split at h<;>rename_i h3
    ·rw [if_pos h3]; exact h3
    ·simp at h
 ·simp at h
theorem okE_iff (n:Int):okE n=true↔-100≤n∧n≤100:=by unfold okE; simp
theorem half_bnd {y:Int}(h:-100≤y∧y≤100):-100≤Int.tdiv y 2∧Int.tdiv y 2≤100:=by
 rcases Int.le_total 0 y with h0|h0
 ·rw [Int.tdiv_eq_ediv_of_nonneg h0]; omega
 ·have e:Int.tdiv y 2=-(Int.tdiv (-y) 2):=by rw [Int.neg_tdiv]; omega
  rw [e,Int.tdiv_eq_ediv_of_nonneg (show 0≤-y by omega)]; omega
theorem half_ok {x:Dm}(h:x.ok=true):x.half.ok=true:=by
 have hx:=Dm.ok_all h
 unfold Dm.ok Dm.half;simp only [(okE_iff _).2 (half_bnd hx.1),(okE_iff _).2 (half_bnd hx.2.1),(okE_iff _).2 (half_bnd hx.2.2.1),(okE_iff _).2 (half_bnd hx.2.2.2.1),(okE_iff _).2 (half_bnd hx.2.2.2.2.1),(okE_iff _).2 (half_bnd hx.2.2.2.2.2.1),(okE_iff _).2 (half_bnd hx.2.2.2.2.2.2),Bool.and_self]
theorem droot_ok {x:Dm}(h:(drootQ x).2=0):(drootQ x).1.ok=true:=by
 unfold drootQ at h ⊢;split at h<;>rename_i hc
 ·rw [if_pos hc]
  split at h<;>rename_i h1
  ·rw [if_pos h1]; exact half_ok hc
  ·simp at h
 ·simp at h
theorem sumV_ok {a b:V}(ha:a.ok)(h:(sumV a b).2=0):(sumV a b).1.ok:=by
 unfold sumV at h ⊢; split at h<;>rename_i hc
 ·rw [if_pos hc]; exact join_ok add_valid (fun _=>ha.2) h
 ·simp at h
theorem difV_ok {a b:V}(ha:a.ok)(h:(difV a b).2=0):(difV a b).1.ok:=by
 unfold difV at h ⊢; split at h<;>rename_i hc
 ·rw [if_pos hc]; exact join_ok sub_valid (fun _=>ha.2) h
 ·simp at h
theorem negV_ok {a:V}(ha:a.ok)(h:(negV a).2=0):(negV a).1.ok:=join_ok neg_valid (fun _=>ha.2) h
theorem proV_ok {a b:V}(h:(proV a b).2=0):(proV a b).1.ok:=join_ok mul_valid comb_ok h
theorem quoV_ok {a b:V}(h:(quoV a b).2=0):(quoV a b).1.ok:=by
 unfold quoV at h ⊢; split at h<;>rename_i hc
 ·simp at h
 ·rw [if_neg hc]; exact join_ok div_valid comb_ok h
theorem powV_ok {a b:V}(h:(powV a b).2=0):(powV a b).1.ok:=by
 unfold powV at h ⊢;split at h<;>rename_i hc
 ·rw [if_pos hc]
  split at h<;>rename_i h1
  ·rw [if_pos h1]
   split at h<;>rename_i h2
   ·simp at h
   ·rw [if_neg h2]; exact join_ok pow_valid dpow_ok h
  ·simp at h
 ·simp at h
theorem rooV_ok {a:V}(h:(rooV a).2=0):(rooV a).1.ok:=by
 unfold rooV at h ⊢;split at h<;>rename_i hc
 ·rw [if_pos hc]; exact join_ok root_valid (fun _=>droot_ok hc) h
 ·simp at h
theorem absV_ok {a:V}(ha:a.ok):(absV a).1.ok:=by
 have hv:=(Q.valid_iff _ _).1 ha.1
 refine ⟨(Q.valid_iff _ _).2 ⟨hv.1,hv.2.1,by show _≤max a.num (-a.num); omega,by show max a.num (-a.num)≤_; omega,?_⟩,ha.2⟩
 show Nat.gcd (max a.num (-a.num)).natAbs a.den.natAbs=1
 have:(max a.num (-a.num)).natAbs=a.num.natAbs:=by omega
 rw [this]; exact hv.2.2.2.2
theorem fac_small:∀ n:Nat,n≤12→1≤facN n∧facN n≤479001600:=by decide
theorem facV_ok {a:V}(h:(facV a).2=0):(facV a).1.ok:=by
 unfold facV at h ⊢;split at h<;>rename_i hc
 ·rw [if_pos hc]
  split at h<;>rename_i h1
  ·rw [if_pos h1]
   have:=fac_small a.num.toNat (by omega)
   exact wh_ok (by omega)
  ·simp at h
 ·simp at h
theorem opK_ok (k:Nat)(l:List V)(hl:∀ x∈l,x.ok)(h:(opK k l).2=0):(opK k l).1.ok:=by
 unfold opK at h ⊢;split at h
 ·exact sumV_ok (hl _ List.mem_cons_self) h
 ·exact difV_ok (hl _ List.mem_cons_self) h
 ·exact negV_ok (hl _ List.mem_cons_self) h
 ·exact hl _ List.mem_cons_self
 ·exact proV_ok h
 ·exact quoV_ok h
 ·exact powV_ok h
 ·exact rooV_ok h
 ·exact absV_ok (hl _ List.mem_cons_self)
 ·exact facV_ok h
 ·simp at h
end Go.Proofs.YtknpigdpepmimaaGreatDoor
