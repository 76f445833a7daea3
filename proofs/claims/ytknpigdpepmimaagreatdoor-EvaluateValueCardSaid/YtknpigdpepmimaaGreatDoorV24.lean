/- Contracts of the reference's point, Decimal and divided. -/
import Derived.Deep.QuietTactic
import Derived.BigQuiet
import Derived.IntWalk
import Derived.Test.YtknpigdpepmimaaGreatDoorV15
import Derived.Test.YtknpigdpepmimaaGreatDoorV23
import Derived.Lib.ConvBytes
import Derived.Deep.CutBlock
import Derived.Deep.DeepCutAuto
namespace Go.Proofs.YtknpigdpepmimaaGreatDoor.Q
open Go.Lib(hid)
open Go.RowKit
theorem ext_list (s:ByteArray)(a b:Nat):(s.extract a b).data.toList=(s.data.toList.take b).drop a:=by
 rw [ByteArray.data_extract]; simp [List.drop_take]
theorem ext_take (s:ByteArray) (k:Nat):(s.extract 0 k).data.toList=s.data.toList.take k:=by rw [ext_list]; rfl
theorem ext_drop (s:ByteArray) (k:Nat):(s.extract k s.size).data.toList=s.data.toList.drop k:=by
 rw [ext_list,List.take_of_length_le (by rw [len_list]; exact Nat.le_refl _)]
theorem toNatZ (c d:UInt8):((c.toNat:Int) == (d.toNat:Int))=(c == d):=by
 rw [Bool.eq_iff_iff];simp
 constructor
 ·intro h; apply UInt8.toNat_inj.1; omega
 ·intro h; rw [h]
theorem at_list (s:ByteArray) (k:Nat)(hk:k<s.size):s.data.toList[k]'(by rw [len_list]; exact hk)=s[k]:=rfl
def ptI (l:List UInt8):Int:=if (Lib.cut l [46]).2.2 then ((Lib.cut l [46]).1.length:Int)else -1
theorem cut_at (s:ByteArray) (k:Nat)(hk:k<s.size)(h:s[k]=46)(hn:∀ (j:Nat)(hj:j<s.size),j<k→s[j]≠46):Lib.cut s.data.toList [46]=(s.data.toList.take k,s.data.toList.drop (k+1),true):=by
 have hl:k<s.data.toList.length:=by rw [len_list]; exact hk
 have e:s.data.toList=s.data.toList.take k++46::s.data.toList.drop (k+1):=by
  rw [← h,← at_list s k hk,← List.drop_eq_getElem_cons hl,List.take_append_drop]
 conv=>lhs; rw [e]
 refine cut_unique fun hm=>?_
 obtain ⟨j,hj,ee⟩:=List.mem_iff_getElem.1 hm
 rw [List.length_take,len_list]at hj
 rw [List.getElem_take]at ee
 exact hn j (by omega) (by omega) ee
theorem cut_no (s:ByteArray)(hn:∀ (j:Nat)(hj:j<s.size),s[j]≠46):Lib.cut s.data.toList [46]=(s.data.toList,[],false):=by
 rcases cut_point s.data.toList with ⟨w,r,e,e',_⟩|⟨e,_⟩
 ·exfalso
  have hm:(46:UInt8)∈s.data.toList:=by rw [e']; simp
  obtain ⟨j,hj,ee⟩:=List.mem_iff_getElem.1 hm
  exact hn j (by rw [← len_list]; exact hj) ee
 ·exact e
set_option maxHeartbeats 1000000 in
theorem point_any (s:ByteArray)(w:World)(hs:s.size≤1000):
  Calls Tryz.prog 136 #[.string s] w fun r w'=>r=.returned (.int .i64 (ptI s.data.toList))∧w=w':=by
 go_enter Tryz.func136,Tryz.ntmps136;go_wp2
 go_loop [3] (fun s3=>∃ kk:Nat,kk≤s.size∧s3=.int .i64 kk∧Aside (∀ (j:Nat)(hj:j<s.size),j<kk→s[j]≠46)) (fun s3=>s.size-(intOf s3).toNat)
 case atStart=>exact ⟨0,Nat.zero_le _,rfl,fun j _ hj=>absurd hj (Nat.not_lt_zero _)⟩
 case round=>
  obtain ⟨kk,hkk,rfl,HA⟩:=hrel
  by_cases hlt:kk<s.size
  ·have hltz:(kk:Int)<(s.size:Int):=by omega
   by_cases h1:s[kk]=46
   ·have h1':((s[kk].toNat:Int) == 46)=true:=by rw [h1]; rfl
    have hp:Hid (ptI s.data.toList=kk):=by
     show ptI s.data.toList=kk
     unfold ptI;rw [cut_at s kk hlt h1 HA.out];simp; omega
    clear h1;go_wp2
    go_ret;rw [hp.out];exact ⟨rfl,rfl⟩
   ·have h1':((s[kk].toNat:Int) == 46)=false:=by
     have:=toNatZ s[kk] 46
     rw [show (((46:UInt8).toNat:Nat):Int)=46 from rfl]at this
     rw [this]; simpa using h1
    have hok:=hid h1
    clear h1;go_wp2
    go_round
    case rel=>
     refine ⟨kk+1,by omega,by go_num,(show Aside _ from fun j hj hjk=>?_)⟩
     by_cases ee:j=kk
     ·subst ee; exact hok.out
     ·exact HA.out j hj (by omega)
    case measure=>simp [intOf]; omega
  ·have hltz:¬ (kk:Int)<(s.size:Int):=by omega
   obtain rfl:kk=s.size:=by omega
   have hp:Hid (ptI s.data.toList=-1):=by
    show ptI s.data.toList=-1
    unfold ptI;rw [cut_no s (fun j hj=>HA.out j hj hj)]
    rfl
   clear hlt HA;go_wp2
   go_ret;rw [hp.out];exact ⟨rfl,rfl⟩
def decB (l:List UInt8):Bool:=digs (Lib.cut l [46]).1&&(!(Lib.cut l [46]).2.2||digs (Lib.cut l [46]).2.1)
theorem parts_pt (s:ByteArray){k:Nat}(h:ptI s.data.toList=(k:Int)):k<s.size∧Lib.cut s.data.toList [46]=((s.extract 0 k).data.toList,(s.extract (k+1) s.size).data.toList,true):=by
 unfold ptI at h;rcases cut_point s.data.toList with ⟨w,r,e,e',_⟩|⟨e,_⟩
 ·rw [e]at h
  simp at h
  have h:w.length=k:=by omega
  subst h;have hl:s.size=w.length+(r.length+1):=by rw [← len_list,e']; simp
  refine ⟨by omega,?_⟩
  rw [e,ext_take,ext_drop,e'];simp
 ·rw [e]at h
  simp at h
theorem parts_no (s:ByteArray)(h:ptI s.data.toList<0):ptI s.data.toList=-1∧Lib.cut s.data.toList [46]=(s.data.toList,[],false):=by
 unfold ptI at h ⊢;rcases cut_point s.data.toList with ⟨w,r,e,e',_⟩|⟨e,_⟩
 ·rw [e]at h
  simp at h
  omega
 ·rw [e]
  exact ⟨rfl,rfl⟩
set_option maxHeartbeats 1000000 in
theorem decimal_any (s:ByteArray)(w:World)(hs:s.size≤1000):
  Calls Tryz.prog 135 #[.string s] w fun r w'=>r=.returned (.bool (decB s.data.toList))∧w=w':=by
 by_cases hp:ptI s.data.toList<0
 ·obtain ⟨h1,h2⟩:=parts_no s hp
  have HP:=hid h1
  have HD:Hid (decB s.data.toList=digs s.data.toList):=by show decB s.data.toList=_; unfold decB; rw [h2]; simp
  clear h1 h2 hp;go_enter Tryz.func135,Tryz.ntmps135;go_wp2_with fail;refine (point_any s _ hs).mono ?_
  rw [HP.out];rintro e w' ⟨rfl,rfl⟩
  go_wp2_with fail;refine (rdigs_any s _ hs).mono ?_
  rintro e w' ⟨rfl,rfl⟩
  go_wp2_with fail;go_ret;rw [HD.out];exact ⟨rfl,rfl⟩
 ·obtain ⟨k,hk⟩:∃ k:Nat,ptI s.data.toList=(k:Int):=⟨(ptI s.data.toList).toNat,by omega⟩
  obtain ⟨h1,h2⟩:=parts_pt s hk
  have HP:=hid hk
  have HD:Hid (decB s.data.toList=(digs (s.extract 0 k).data.toList&&digs (s.extract (k+1) s.size).data.toList)):=by show decB s.data.toList=_; unfold decB; rw [h2]; simp
  have z1:(s.extract 0 k).size≤1000:=by rw [ByteArray.size_extract]; omega
  have z2:(s.extract (k+1) s.size).size≤1000:=by rw [ByteArray.size_extract]; omega
  clear hp hk h2;go_enter Tryz.func135,Tryz.ntmps135;go_wp2_with fail;refine (point_any s _ hs).mono ?_
  rw [HP.out];rintro e w' ⟨rfl,rfl⟩
  go_wp2_with fail;refine (rdigs_any (s.extract 0 k) _ z1).mono ?_
  rintro e w' ⟨rfl,rfl⟩
  cases hd:digs (s.extract 0 k).data.toList with
  | false=>
   rw [hd]at HD
   go_wp2_with fail;go_ret;rw [HD.out];exact ⟨rfl,rfl⟩
  | true=>
   rw [hd]at HD
   go_wp2_with fail;refine (rdigs_any (s.extract (k+1) s.size) _ z2).mono ?_
   obtain ⟨b,hb⟩:∃ b,b=digs (s.extract (k+1) s.size).data.toList:=⟨_,rfl⟩
   rw [← hb]at HD ⊢
   clear hb;rintro e w' ⟨rfl,rfl⟩
   go_wp2_with fail;go_ret;rw [HD.out];exact ⟨rfl,rfl⟩
theorem addr_add' (b o i:Nat):(⟨b,o,none⟩:Addr).add i=⟨b,o+i,none⟩:=by
 unfold Addr.add; split
 ·simp [*]
 ·rfl
structure BR (w:World)(g off:Nat)(l:List UInt8):Prop where
 lt:g<w.heap.size
 cell:∀ (j:Nat)(hj:j<l.length),w.cell? ⟨g,off+j,none⟩=some (.int .u8 (l[j].toNat:Int))
theorem BR.below {w w':World}{g off:Nat}{l:List UInt8}(h:BR w g off l)(hb:Below w.heap.size w w'):BR w' g off l:=
 ⟨Nat.lt_of_lt_of_le h.lt hb.size,fun j hj=>(hb.cell (p:=⟨g,off+j,none⟩) h.lt).trans (h.cell j hj)⟩
theorem BR.of_own {w:World}{base:Nat}{v:Value}{l:List UInt8}(h:w.ownsRow base 5 1 v l.length (bcells l))(hne:l≠[]):∃ g cap,v=.slice (some ⟨g,0,none⟩) l.length cap∧l.length≤cap∧BR w g 0 l:=by
 have h0:=h
 rcases h.2 with ⟨rfl,hn⟩|⟨g,cap,cur,rfl,hb,hh,hnc,_⟩
 ·exact absurd (List.eq_nil_of_length_eq_zero hn) hne
 ·refine ⟨g,cap,rfl,hnc,(h0.lt g rfl).2,fun j hj=>?_⟩
  have:=h0.cells (g:=g) rfl j (.int .u8 (l[j].toNat:Int)) (by unfold bcells; simp [hj])
  rwa [addr_add']at this
theorem BR.tail {w:World}{g off:Nat}{c:UInt8}{l:List UInt8}(h:BR w g off (c::l)):BR w g (off+1) l:=
 ⟨h.lt,fun j hj=>by have:=h.cell (j+1) (by simp; omega); rw [show off+1+j=off+(j+1)from by omega]; simpa using this⟩
def RetBR (w:World)(l:List UInt8)(e:Ending)(w':World):Prop:=∃ g cap,e=.returned (.slice (some ⟨g,0,none⟩) l.length cap)∧l.length≤cap∧BR w' g 0 l∧Below w.heap.size w w'
set_option maxRecDepth 100000 in
set_option maxHeartbeats 2000000 in
theorem divided_any (l:List UInt8)(p g off cap:Nat)(w:World)(hl:l.length≤1000)(hp:2≤p)(hp9:p≤9)(hd:∀ c∈l,isD c=true)(hne:l≠[])(hbr:BR w g off l):
  Calls Tryz.prog 178 #[.slice (some ⟨g,off,none⟩) l.length cap,.int .i64 p] w (RetBR w (divL p 0 l)):=by
 obtain ⟨i0,hi0,hz0,hz1,hz2⟩:=info_parts byte_info
 have HD:=hid hd
 have HI:=hid (And.intro hi0 (And.intro hz0 (And.intro hz1 hz2)))
 have HBR:=hid hbr
 have HNE:=hid hne
 clear hd hi0 hz0 hz1 hz2 hbr hne;have hpz:(p:Int)≠0:=by omega
 go_enter Tryz.func178,Tryz.ntmps178;go_wp2_with fail;go_loopg [5,6,7] l.length (fun gg s5 s6 s7 wr=>∃ k:Nat,k≤l.length∧l.length-k≤gg∧s7=.int .i64 k∧s6=.int .i64 (remL p 0 (l.take k):Nat)∧Aside (wr.ownsRow w.heap.size 5 1 s5 k (bcells (divL p 0 (l.take k))))∧Aside (Below w.heap.size w wr))
 case atStart=>exact ⟨0,Nat.zero_le _,by omega,rfl,rfl,World.ownsRow_nil _ _ _ _,Below.refl _ _⟩
 case round=>
  obtain ⟨k,hk,hgg,rfl,rfl,HO,HB⟩:=hrel
  have hr:=remL_lt p (by omega) (l.take k) 0 (by omega)
  by_cases hlt:k<l.length
  ·have hltz:(k:Int)<(l.length:Int):=by omega
   have HT:=hid (And.intro (take_div p l k hlt) (take_rem p l k hlt))
   have hcell:wr.cell? ⟨g,off+k,none⟩=some (.int .u8 (l[k].toNat:Int)):=(HBR.out.below HB.out).cell k hlt
   obtain ⟨h48,h57⟩:=(isD_iff _).1 (HD.out l[k] (List.getElem_mem hlt))
   obtain ⟨r,hrr⟩:∃ r,r=remL p 0 (l.take k):=⟨_,rfl⟩
   rw [← hrr]at hr HT ⊢
   clear hrr;obtain ⟨d,hdd⟩:∃ d:Nat,d=l[k].toNat-48:=⟨_,rfl⟩
   have hd9:d≤9:=by omega
   rw [← hdd]at HT
   have x1:(l[k].toNat:Int)=48+(d:Int):=by omega
   rw [x1]at hcell
   clear hdd h48 h57 x1;have hq9:(10*r+d) / p≤9:=quo_nat p _ (by omega) (by omega)
   have hrb:r≤8:=by omega
   go_wp2_with (at_builtin; refine wpList_append_own _ rfl _ _ 183 rfl w.heap.size 5 i0 _ 1 1 Tryz.underlying183 HI.out.1 HI.out.2.1 HI.out.2.2.1 HI.out.2.2.2 rfl (by decide) _ _ _ rfl (HO.out.alloc _) ⟨wr.heap.size,0,none⟩ 1 1 (bcells [dg ((10*r+d) / p)]) rfl rfl ?c1 ?c2 ?c3 ?c4 ?c5 ?_)
   case c1=>
    intro j u hu;rw [byte_val r d p hq9];have hj:j<1:=(List.getElem?_eq_some_iff.1 hu).1
    obtain rfl:j=0:=by omega
    cases hu
    simp [Addr.add]
   case c2=>intro u hu; simp [bcells]at hu; subst hu; rfl
   case c3=>unfold maxLen; omega
   case c4=>omega
   case c5=>have:=HB.out.size; simp; omega
   intro v' w2 hown hgrow _;have hs1:=HB.out.size
   have hB2:Below w.heap.size w w2:=(HB.out.alloc HB.out.size _).grown hgrow (by simp; omega) (fun k' hk'=>(HO.out.lt k' hk').1)
   have HB2:=hid hB2
   have HO2:Hid (w2.ownsRow w.heap.size 5 1 v' (k+1) (bcells (divL p 0 (l.take (k+1))))):=by
    show w2.ownsRow w.heap.size 5 1 v' (k+1) (bcells (divL p 0 (l.take (k+1))))
    rw [HT.out.1];have:bcells (divL p 0 (l.take k)++[dg ((10*r+d) / p)])=bcells (divL p 0 (l.take k))++bcells [dg ((10*r+d) / p)]:=by simp [bcells]
    rw [this];exact hown
   clear hown hgrow hB2 HB HO;go_wp2
   go_roundg (l.length-(k+1))
   case measure=>omega
   case rel=>exact ⟨k+1,by omega,by omega,by go_num,by rw [HT.out.2,← rem_val],HO2.out,HB2.out⟩
  ·have hltz:¬ (k:Int)<(l.length:Int):=by omega
   obtain rfl:k=l.length:=by omega
   rw [List.take_length]at HO hr ⊢
   have hlen:=divL_len p l 0
   have hne':divL p 0 l≠[]:=fun e=>by rw [e]at hlen; exact HNE.out (List.eq_nil_of_length_eq_zero hlen.symm)
   rw [← hlen]at HO
   obtain ⟨g',cap',rfl,hc',hbr'⟩:=BR.of_own HO.out hne'
   have HBR':=hid hbr'
   clear hbr' hne' hlen;go_wp2
   go_ret;exact ⟨g',cap',rfl,hc',HBR'.out,HB.out⟩
end Go.Proofs.YtknpigdpepmimaaGreatDoor.Q
namespace Go.Proofs.YtknpigdpepmimaaGreatDoor.Q
open Go.Lib(hid)
open Go.RowKit
theorem BR.conv (w:World)(l:List UInt8):BR (Lib.bytesWorld w 5 ⟨l.toArray⟩) w.heap.size 0 l:=by
 refine ⟨by rw [Lib.bytesWorld_size]; omega,fun j hj=>?_⟩
 have:=Lib.bytesWorld_cell w 5 ⟨l.toArray⟩ j (by rw [size_mk]; exact hj)
 rw [Nat.zero_add,this];simp [hj]
theorem bytes_below (w:World)(s:ByteArray):Below w.heap.size w (Lib.bytesWorld w 5 s):=
 ⟨rfl,rfl,rfl,by rw [Lib.bytesWorld_size]; omega,fun i hi=>Lib.bytesWorld_at_old w 5 s i hi⟩
theorem u8_sub (d:Nat)(h:d≤9):IntKind.u8.wrap (48+(d:Int)-48)=(d:Int):=by
 simp [IntKind.wrap,IntKind.signed,IntKind.bits]; omega
theorem last_at (l:List UInt8)(hpos:0<l.length) (p:Nat)(h:10 % p=0)(hd:∀ c∈l,isD c=true):valD l % p=(l[l.length-1]'(by omega)).toNat % 48 % p:=by
 obtain ⟨a,c,rfl⟩:∃ a c,l=a++[c]:=⟨l.dropLast,l.getLast (List.length_pos_iff.1 hpos),(List.dropLast_concat_getLast _).symm⟩
 have hc:=(isD_iff c).1 (hd c (by simp))
 have e:(a++[c])[(a++[c]).length-1]'(by simp)=c:=by simp
 rw [e,val_snoc];have:c.toNat % 48=c.toNat-48:=by omega
 rw [this];obtain ⟨q,hq⟩:∃ q,10=p*q:=⟨10 / p,by have:=Nat.div_add_mod 10 p; omega⟩
 rw [hq,Nat.mul_assoc,Nat.mul_add_mod]
theorem ans_ref (v k:Nat):mk ((num2 v k:Nat):Int) ((2 ^ twos v k*5 ^ fives v k:Nat):Int)=ansQ v k:=by
 obtain ⟨e1,e2,_⟩:=num2_spec v k
 have h10:0<10 ^ k:=Nat.pow_pos (by decide)
 have hg:0<2 ^ (k-twos v k)*5 ^ (k-fives v k):=Nat.mul_pos (Nat.pow_pos (by decide)) (Nat.pow_pos (by decide))
 rw [ansQ_mk,← mk_scale _ _ _ hg,← e1,← e2]
structure Fnr (l:List UInt8) (k:Nat)(v t f:Nat):Prop where
 val:v=num2 (valD l) k
 tw:t=twos (valD l) k
 fi:f=fives (valD l) k
section
variable {l:List UInt8}{kk v t f:Nat}
theorem Fnr.no_num (h:Fnr l kk v t f)(hn:2147483647<v):ansQ (valD l) kk=⟨0,0,2⟩:=ans_no_num (by rw [← h.val]; omega)
theorem Fnr.no_two (h:Fnr l kk v t f){k:Nat}(hk:k≤t)(h2:2147483647<2 ^ k):ansQ (valD l) kk=⟨0,0,2⟩:=ans_no_den (pow_farP h2 (by rw [← h.tw]; exact hk))
theorem Fnr.no_five (h:Fnr l kk v t f){k:Nat}(hk:k≤f)(h2:2147483647<2 ^ t*5 ^ k):ansQ (valD l) kk=⟨0,0,2⟩:=by
 rw [h.tw]at h2; exact ans_no_den (pow_far5 h2 (by rw [← h.fi]; exact hk))
theorem fnr_yes (h:Fnr l kk v t f):mk ((v:Nat):Int) ((2 ^ t*5 ^ f:Nat):Int)=ansQ (valD l) kk:=by
 rw [h.val,h.tw,h.fi];exact ans_ref _ _
end
theorem take_valL (l:List UInt8) (k:Nat)(h:k<l.length):valD (l.take (k+1))=10*valD (l.take k)+(l[k].toNat-48):=by
 rw [List.take_succ_eq_append_getElem h,val_snoc]
theorem take_ltL (l:List UInt8) (k:Nat)(h:∀ c∈l,isD c=true):valD (l.take k)<10 ^ (l.take k).length:=val_lt _ fun c hc=>h c (List.mem_of_mem_take hc)
set_option maxRecDepth 100000 in
set_option maxHeartbeats 1000000 in
theorem reduced_any (l:List UInt8) (kk:Nat)(w:World)(hl:l.length≤100)(h1:0<l.length)(hk60:kk≤60)(hd:∀ c∈l,isD c=true):
  Calls Tryz.prog 137 #[.string ⟨l.toArray⟩,.int .i64 kk] w fun e w'=>e=.returned (ansQ (valD l) kk).val∧Below w.heap.size w w':=by
 have HD:=hid hd
 have hcv:=fun w=>Lib.run_convert_string_bytes (P:=Tryz.prog) w 9 183 5 ⟨l.toArray⟩ Tryz.underlying9 Tryz.underlying183 Tryz.underlying5
 have hsz:(⟨l.toArray⟩:ByteArray).size=l.length:=size_mk l
 rw [hsz]at hcv
 clear hd;go_enter Tryz.func137,Tryz.ntmps137;go_upto_region 3 with (fail);go_wp2_with fail;go_loopg [6,8] kk (fun gg s6 s8 wr=>∃ (k:Nat)(l':List UInt8)(g off cap:Nat),k≤gg∧k≤kk∧s6=.int .i64 k∧s8=.slice (some ⟨g,off,none⟩) l'.length cap∧l'.length≤cap∧Aside (l'.length=l.length)∧Aside (BR wr g off l')∧Aside (∀ c∈l',isD c=true)∧Aside (shL 2 kk l=shL 2 k l')∧Aside (Below (w.alloc (.cells #[.int .i64 0,.int .i64 0] 64)).heap.size (w.alloc (.cells #[.int .i64 0,.int .i64 0] 64)) wr))
 case atStart=>exact ⟨kk,l,w.heap.size+1,0,_,Nat.le_refl _,Nat.le_refl _,rfl,rfl,grownCap_ge _ _ _ _,rfl,by have:=BR.conv (w.alloc (.cells #[.int .i64 0,.int .i64 0] 64)) l; rw [World.size_alloc]at this; exact this,HD.out,rfl,bytes_below _ _⟩
 case round=>
  obtain ⟨k,l',g,off,cap,hgg,hkk,rfl,rfl,hcap,HLL,HBR,HDD,HE,HB⟩:=hrel
  have hll:=HLL.out
  have h100:l'.length≤100:=by omega
  have hne':l'≠[]:=fun e=>by rw [e]at hll; simp at hll; omega
  have HNE':=hid hne'
  have hlz:0<l'.length:=by omega
  have hl0:l'.length-1<l'.length:=by omega
  have HLA:=hid (last_at l' hlz 2 (by decide) HDD.out)
  obtain ⟨h48,h57⟩:=(isD_iff _).1 (HDD.out (l'[l'.length-1]) (List.getElem_mem hl0))
  have hcell:=HBR.out.cell (l'.length-1) hl0
  clear hne';obtain ⟨d,hdd⟩:∃ d:Nat,d=l'[l'.length-1].toNat-48:=⟨_,rfl⟩
  have hd9:d≤9:=by omega
  have x1:(l'[l'.length-1].toNat:Int)=48+(d:Int):=by omega
  have HLD:Hid (valD l' % 2=d % 2):=by
   show valD l' % 2=d % 2
   rw [HLA.out]; congr 1; omega
  rw [x1]at hcell
  clear hdd h48 h57 x1 HLA;have hu:=u8_sub d hd9
  clear hll;obtain ⟨n,hn⟩:∃ n,n=l'.length:=⟨_,rfl⟩
  rw [← hn]at hl0 hcell hcap h100 hlz ⊢
  have HN:=hid hn
  clear hn;go_upto_region 3 with (fail);go_cut [30] (fun c wx=>c=.bool (decide (0<k)&&decide (d % 2=0))∧wr=wx)
  case first=>
   by_cases hk0:0<k
   ·have hkz:(0:Int)<(k:Int):=by omega
    by_cases hm:d % 2=0
    ·have hmz:((d:Int) % 2 == 0)=true:=by rw [beq_iff_eq]; omega
     go_wp2_with fail;go_meet
     case rel=>exact ⟨by rw [decide_eq_true hk0,decide_eq_true hm]; rfl,rfl⟩
    ·have hmz:((d:Int) % 2 == 0)=false:=by rw [beq_eq_false_iff_ne]; omega
     go_wp2_with fail;go_meet
     case rel=>exact ⟨by rw [decide_eq_true hk0,decide_eq_false hm]; rfl,rfl⟩
   ·have hkz:¬ (0:Int)<(k:Int):=by omega
    go_wp2_with fail;go_meet
    case rel=>exact ⟨by rw [decide_eq_false hk0]; rfl,rfl⟩
  case rest=>
   obtain ⟨rfl,rfl⟩:=hcut
   clear hcell hu;cases hb:(decide (0<k)&&decide (d % 2=0)) with
   | true=>
    simp only [Bool.and_eq_true,decide_eq_true_eq]at hb
    obtain ⟨hb1,hb2⟩:=hb
    have HM:Hid (valD l' % 2=0):=by show valD l' % 2=0; rw [HLD.out]; exact hb2
    obtain ⟨k,rfl⟩:∃ j,k=j+1:=⟨k-1,by omega⟩
    rw [HN.out]at h100 ⊢
    go_wp2_with fail;refine (divided_any l' 2 g off cap _ (by omega) (by decide) (by decide) HDD.out HNE'.out HBR.out).mono ?_
    rintro e w2 ⟨g2,cap2,rfl,hc2,hbr2,hb2⟩
    have HBR2:=hid hbr2
    have HB2:=hid (res2t HB.out hb2)
    have HL2:=hid (divL_len 2 l' 0)
    clear hbr2 hb2 HB HBR;go_wp2_with fail;go_roundg k
    case measure=>omega
    case rel=>
     refine ⟨k,divL 2 0 l',g2,0,cap2,Nat.le_refl _,by omega,by go_num,rfl,hc2,HL2.out.trans HLL.out,HBR2.out,divL_isD 2 (by decide) l' 0 (by decide) HDD.out,?_,HB2.out⟩
     show shL 2 kk l=_
     rw [HE.out,shL,if_pos HM.out]
   | false=>
    have HX:Hid (shL 2 kk l=(l',k)):=by
     show shL 2 kk l=(l',k)
     rw [HE.out];cases k with
     | zero=>rfl
     | succ k=>
      rw [shL,if_neg];intro h;rw [HLD.out]at h
      rw [decide_eq_true (Nat.succ_pos k),decide_eq_true h]at hb
      cases hb
    clear hb HE HLD;rw [HN.out]at hcap h100 ⊢
    clear HN;go_wp2_with fail;have HX1:=HX
    have HDD1:=HDD
    obtain ⟨N1,hN1⟩:∃ N,N=l':=⟨_,rfl⟩
    obtain ⟨t,htt⟩:∃ t,t=k:=⟨_,rfl⟩
    have hkt:t≤kk:=by omega
    rw [← hN1,← htt]at HX1
    rw [← hN1]at HDD1 HDD HBR HLL h100 hcap ⊢
    rw [← htt];clear hN1 htt HX HNE' hl0 hlz;go_loopg [7,8] kk (fun gg s7 s8 wr=>∃ (k:Nat)(l':List UInt8)(g off cap:Nat),k≤gg∧k≤kk∧s7=.int .i64 k∧s8=.slice (some ⟨g,off,none⟩) l'.length cap∧l'.length≤cap∧Aside (l'.length=l.length)∧Aside (BR wr g off l')∧Aside (∀ c∈l',isD c=true)∧Aside (shL 5 kk N1=shL 5 k l')∧Aside (Below (w.alloc (.cells #[.int .i64 0,.int .i64 0] 64)).heap.size (w.alloc (.cells #[.int .i64 0,.int .i64 0] 64)) wr))
    case atStart=>exact ⟨kk,N1,g,off,cap,Nat.le_refl _,Nat.le_refl _,rfl,rfl,hcap,HLL.out,HBR.out,HDD.out,rfl,HB.out⟩
    case round=>
     obtain ⟨k,l',g,off,cap,hgg,hkk,rfl,rfl,hcap,HLL,HBR,HDD,HE,HB⟩:=hrel
     have hll:=HLL.out
     have h100:l'.length≤100:=by omega
     have hne':l'≠[]:=fun e=>by rw [e]at hll; simp at hll; omega
     have HNE':=hid hne'
     have hlz:0<l'.length:=by omega
     have hl0:l'.length-1<l'.length:=by omega
     have HLA:=hid (last_at l' hlz 5 (by decide) HDD.out)
     obtain ⟨h48,h57⟩:=(isD_iff _).1 (HDD.out (l'[l'.length-1]) (List.getElem_mem hl0))
     have hcell:=HBR.out.cell (l'.length-1) hl0
     clear hne';obtain ⟨d,hdd⟩:∃ d:Nat,d=l'[l'.length-1].toNat-48:=⟨_,rfl⟩
     have hd9:d≤9:=by omega
     have x1:(l'[l'.length-1].toNat:Int)=48+(d:Int):=by omega
     have HLD:Hid (valD l' % 5=d % 5):=by
      show valD l' % 5=d % 5
      rw [HLA.out]; congr 1; omega
     rw [x1]at hcell
     clear hdd h48 h57 x1 HLA;have hu:=u8_sub d hd9
     clear hll;obtain ⟨n,hn⟩:∃ n,n=l'.length:=⟨_,rfl⟩
     rw [← hn]at hl0 hcell hcap h100 hlz ⊢
     have HN:=hid hn
     clear hn;go_upto_region 6 with (fail);go_cut [47] (fun c wx=>c=.bool (decide (0<k)&&decide (d % 5=0))∧wr=wx)
     case first=>
      by_cases hk0:0<k
      ·have hkz:(0:Int)<(k:Int):=by omega
       by_cases hm:d % 5=0
       ·have hmz:((d:Int) % 5 == 0)=true:=by rw [beq_iff_eq]; omega
        go_wp2_with fail;go_meet
        case rel=>exact ⟨by rw [decide_eq_true hk0,decide_eq_true hm]; rfl,rfl⟩
       ·have hmz:((d:Int) % 5 == 0)=false:=by rw [beq_eq_false_iff_ne]; omega
        go_wp2_with fail;go_meet
        case rel=>exact ⟨by rw [decide_eq_true hk0,decide_eq_false hm]; rfl,rfl⟩
      ·have hkz:¬ (0:Int)<(k:Int):=by omega
       go_wp2_with fail;go_meet
       case rel=>exact ⟨by rw [decide_eq_false hk0]; rfl,rfl⟩
     case rest=>
      obtain ⟨rfl,rfl⟩:=hcut
      clear hcell hu;cases hb:(decide (0<k)&&decide (d % 5=0)) with
      | true=>
       simp only [Bool.and_eq_true,decide_eq_true_eq]at hb
       obtain ⟨hb1,hb2⟩:=hb
       have HM:Hid (valD l' % 5=0):=by show valD l' % 5=0; rw [HLD.out]; exact hb2
       obtain ⟨k,rfl⟩:∃ j,k=j+1:=⟨k-1,by omega⟩
       rw [HN.out]at h100 ⊢
       go_wp2_with fail;refine (divided_any l' 5 g off cap _ (by omega) (by decide) (by decide) HDD.out HNE'.out HBR.out).mono ?_
       rintro e w2 ⟨g2,cap2,rfl,hc2,hbr2,hb2⟩
       have HBR2:=hid hbr2
       have HB2:=hid (res2t HB.out hb2)
       have HL2:=hid (divL_len 5 l' 0)
       clear hbr2 hb2 HB HBR;go_wp2_with fail;go_roundg k
       case measure=>omega
       case rel=>
        refine ⟨k,divL 5 0 l',g2,0,cap2,Nat.le_refl _,by omega,by go_num,rfl,hc2,HL2.out.trans HLL.out,HBR2.out,divL_isD 5 (by decide) l' 0 (by decide) HDD.out,?_,HB2.out⟩
        show shL 5 kk N1=_
        rw [HE.out,shL,if_pos HM.out]
      | false=>
       have HX:Hid (shL 5 kk N1=(l',k)):=by
        show shL 5 kk N1=(l',k)
        rw [HE.out];cases k with
        | zero=>rfl
        | succ k=>
         rw [shL,if_neg];intro h;rw [HLD.out]at h
         rw [decide_eq_true (Nat.succ_pos k),decide_eq_true h]at hb
         cases hb
       clear hb HE HLD;rw [HN.out]at hcap h100 ⊢
       clear HN;go_wp2_with fail
       have HF:Hid (Fnr l kk (valD l') t k):=by
        show Fnr l kk (valD l') t k
        have s1:=shL_spec 2 (by decide) kk l HD.out
        have s2:=shL_spec 5 (by decide) kk N1 HDD1.out
        rw [HX1.out]at s1
        rw [HX.out]at s2
        simp only at s1 s2
        refine ⟨?_,?_,?_⟩
        ·rw [s2.2.2.1,s1.2.2.1]; rfl
        ·rw [s1.2.2.2]; rfl
        ·rw [s2.2.2.2,s1.2.2.1]; rfl
       have ht:t≤60:=by omega
       have hf:k≤60:=by omega
       obtain ⟨v,hv⟩:∃ v,v=valD l':=⟨_,rfl⟩
       rw [← hv]at HF
       have HV:Hid (valD l'=v):=hv.symm
       obtain ⟨N,hN⟩:∃ N,N=l':=⟨_,rfl⟩
       rw [← hN]at HBR HDD HV hcap h100 HLL ⊢
       have hll:=HLL.out
       clear HLL;have hNl:N.length≤l.length∧l.length≤N.length:=⟨by omega,by omega⟩
       clear hll;obtain ⟨f,hff⟩:∃ f,f=k:=⟨_,rfl⟩
       rw [← hff]at HF hf ⊢
       clear hv hN hff HX HX1 HDD1 hkk hgg HNE' hl0 hlz;go_loopg [8] l.length (fun gg s8 wx=>∃ (l'':List UInt8)(g off cap:Nat),l''.length≤gg∧s8=.slice (some ⟨g,off,none⟩) l''.length cap∧l''.length≤cap∧0<l''.length∧l''.length≤l.length∧wr=wx∧Aside (BR wr g off l'')∧Aside (∀ c∈l'',isD c=true)∧Aside (valD l''=v))
       case atStart=>exact ⟨N,g,off,cap,by omega,rfl,hcap,by omega,by omega,rfl,HBR.out,HDD.out,HV.out⟩
       case round=>
        obtain ⟨l'',g,off,cap,hgg,rfl,hcap,hl0,hll2,rfl,HBR,HDD,HV⟩:=hrel
        have hcell:=HBR.out.cell 0 hl0
        obtain ⟨n,hn⟩:∃ n,n=l''.length:=⟨_,rfl⟩
        obtain ⟨c0,hc0⟩:∃ c0,c0=l''[0]:=⟨_,rfl⟩
        rw [← hc0]at hcell
        rw [← hn]at hcap hl0 hll2 hgg ⊢
        have HN:=hid hn
        have HC:=hid hc0
        clear hn hc0;rw [Nat.add_zero]at hcell
        go_upto_region 9 with (fail);go_cut [60] (fun c wx=>c=.bool (decide (1<n)&&(c0 == 48))∧wr=wx)
        case first=>
         by_cases hk0:1<n
         ·have hkz:(1:Int)<(n:Int):=by omega
          cases hm:(c0 == 48)
          case true=>
           have hmz:((c0.toNat:Int) == 48)=true:=by rw [← hm]; exact toNatZ c0 48
           go_wp2_with fail;go_meet
           case rel=>exact ⟨by rw [decide_eq_true hk0,hm]; rfl,rfl⟩
          case false=>
           have hmz:((c0.toNat:Int) == 48)=false:=by rw [← hm]; exact toNatZ c0 48
           go_wp2_with fail;go_meet
           case rel=>exact ⟨by rw [decide_eq_true hk0,hm]; rfl,rfl⟩
         ·have hkz:¬ (1:Int)<(n:Int):=by omega
          go_wp2_with fail;go_meet
          case rel=>exact ⟨by rw [decide_eq_false hk0]; rfl,rfl⟩
        case rest=>
         obtain ⟨rfl,rfl⟩:=hcut
         clear hcell;cases hb:(decide (1<n)&&(c0 == 48)) with
         | true=>
          simp only [Bool.and_eq_true,decide_eq_true_eq,beq_iff_eq]at hb
          obtain ⟨hb1,rfl⟩:=hb
          have hcz:¬ (cap:Int)=1:=by omega
          have hcn:¬ cap=1:=by omega
          obtain ⟨tl,htl⟩:∃ tl,l''=48::tl:=by
           cases l'' with
           | nil=>have:=HN.out; simp at this; omega
           | cons a tl=>exact ⟨tl,by have:=HC.out; simp at this; rw [← this]⟩
          have hnt:n=tl.length+1:=by rw [HN.out,htl]; simp
          have HBRt:Hid (BR wr g (off+1) tl):=by show BR wr g (off+1) tl; have:=HBR.out; rw [htl]at this; exact this.tail
          have HDt:Hid (∀ c∈tl,isD c=true):=fun c hc=>HDD.out c (by rw [htl]; simp [hc])
          have HVt:Hid (valD tl=v):=by show valD tl=v; rw [← HV.out,htl,val_zero]
          subst hnt;clear htl HBR HDD HV HN HC;go_wp2_with fail;go_roundg (tl.length)
          case measure=>omega
          case rel=>exact ⟨tl,g,off+1,cap-1,Nat.le_refl _,by first|rfl|(congr 1; omega)|(simp; omega),by omega,by omega,by omega,rfl,HBRt.out,HDt.out,HVt.out⟩
         | false=>
          have HH:Hid (10<n→10000000000≤v):=fun h10=>by
           have h1:decide (1<n)=true:=decide_eq_true (by omega)
           rw [h1,Bool.true_and,beq_eq_false_iff_ne]at hb
           cases l'' with
           | nil=>have:=HN.out; simp at this; omega
           | cons a tl=>
            have hca:c0=a:=by have:=HC.out; simpa using this
            have hg:=val_ge a tl (HDD.out a (by simp)) (by rw [← hca]; exact hb)
            have hlen:10≤tl.length:=by have:=HN.out; simp at this; omega
            have h2:10 ^ 10≤10 ^ tl.length:=Nat.pow_le_pow_right (by decide) hlen
            have:=HV.out
            omega
          clear hb HC;rw [HN.out]at hcap hl0 hll2 HH ⊢
          clear HN;by_cases h10:10<l''.length
          ·have h10z:(10:Int)<(l''.length:Int):=by omega
           have HR:Hid (ansQ (valD l) kk=⟨0,0,2⟩):=HF.out.no_num (by have:=HH.out h10; omega)
           have HBX:=HB
           obtain ⟨⟨q0,q1⟩,qf,qs,hB1⟩:=res2 HBX.out
           have HBB:=hid hB1
           clear hB1;go_wp2_with fail;refine bodyPost_ret (v:=.tuple #[.agg #[.int .i64 0,.int .i64 0],.int .i64 2]) (by simp [results,Tryz.results137,go_sem,q0,q1]) rfl ⟨?_,?_⟩
           ·rw [HR.out]; rfl
           ·exact (HBB.out.setCell (Nat.le_refl _) _).setCell (Nat.le_refl _) _
          ·have h10z:¬ (10:Int)<(l''.length:Int):=by omega
           clear HH;go_wp2_with fail;go_loopg [9,11] l''.length (fun gg s9 s11 wx=>∃ k:Nat,k≤l''.length∧l''.length-k≤gg∧wr=wx∧s11=.int .i64 k∧s9=.int .i64 (valD (l''.take k):Nat))
           case atStart=>exact ⟨0,Nat.zero_le _,by omega,rfl,rfl,rfl⟩
           case round=>
            obtain ⟨k,hk,hgg3,rfl,rfl,rfl⟩:=hrel
            have hvl:=take_ltL l'' k HDD.out
            have hp10:=pow_le10 (k:=(l''.take k).length) (by rw [List.length_take]; omega)
            by_cases hlt:k<l''.length
            ·have hltz:(k:Int)<(l''.length:Int):=by omega
             obtain ⟨h48,h57⟩:=(isD_iff _).1 (HDD.out l''[k] (List.getElem_mem hlt))
             have hcell:=HBR.out.cell k hlt
             have HTV:=hid (take_valL l'' k hlt)
             obtain ⟨v1,hv⟩:∃ v,v=valD (l''.take k):=⟨_,rfl⟩
             rw [← hv]at hvl HTV ⊢
             have hvb:v1≤10000000000:=by omega
             clear hvl hp10 hv;obtain ⟨d,hdd⟩:∃ d:Nat,d=l''[k].toNat-48:=⟨_,rfl⟩
             rw [← hdd]at HTV
             have x1:(l''[k].toNat:Int)=48+(d:Int):=by omega
             rw [x1]at hcell
             have hd9:d≤9:=by omega
             have hu:=u8_sub d hd9
             clear hdd h48 h57 x1;go_wp2_with fail;go_roundg (l''.length-(k+1))
             case measure=>omega
             case rel=>exact ⟨k+1,by omega,by omega,rfl,by go_num,by rw [HTV.out]; go_num⟩
            ·have hltz:¬ (k:Int)<(l''.length:Int):=by omega
             obtain rfl:k=l''.length:=by omega
             rw [List.take_length,HV.out]at hvl
             rw [List.take_length]at hp10
             rw [List.take_length,HV.out];have hvb:v≤10000000000:=by omega
             clear hvl hp10 HBR HDD HV;go_wp2_with fail;go_loopg [10,12] t (fun gg s10 s12 wx=>∃ k:Nat,k≤t∧t-k≤gg∧wr=wx∧s12=.int .i64 k∧s10=.int .i64 ((2 ^ k:Nat):Int)∧2 ^ k≤2147483647)
             case atStart=>exact ⟨0,Nat.zero_le _,by omega,rfl,rfl,rfl,by decide⟩
             case round=>
              obtain ⟨k,hk,hgg4,rfl,rfl,rfl,hk2⟩:=hrel
              by_cases hlt:k<t
              ·have hltz:(k:Int)<(t:Int):=by omega
               have hpw:2 ^ (k+1)=2 ^ k*2:=Nat.pow_succ 2 k
               by_cases hbig:2147483647<2 ^ (k+1)
               ·have HR:Hid (ansQ (valD l) kk=⟨0,0,2⟩):=HF.out.no_two hlt hbig
                obtain ⟨x,hx⟩:∃ x,x=2 ^ k:=⟨_,rfl⟩
                rw [hpw]at hbig
                rw [← hx]at hbig hk2 ⊢
                clear hpw hx;have hbz:(2147483647:Int)<(x:Int)*2:=by omega
                have HBX:=HB
                obtain ⟨⟨q0,q1⟩,qf,qs,hB1⟩:=res2 HBX.out
                have HBB:=hid hB1
                clear hB1;go_wp2_with fail;refine bodyPost_ret (v:=.tuple #[.agg #[.int .i64 0,.int .i64 0],.int .i64 2]) (by simp [results,Tryz.results137,go_sem,q0,q1]) rfl ⟨?_,?_⟩
                ·rw [HR.out]; rfl
                ·exact (HBB.out.setCell (Nat.le_refl _) _).setCell (Nat.le_refl _) _
               ·have HPW:=hid hpw
                obtain ⟨x,hx⟩:∃ x,x=2 ^ k:=⟨_,rfl⟩
                rw [hpw]at hbig
                rw [← hx]at hbig hk2 HPW ⊢
                clear hpw hx;have hbz:¬ (2147483647:Int)<(x:Int)*2:=by omega
                go_wp2_with fail;go_roundg (t-(k+1))
                case measure=>omega
                case rel=>exact ⟨k+1,by omega,by omega,rfl,by go_num,by rw [HPW.out]; go_num,by rw [HPW.out]; omega⟩
              ·have hltz:¬ (k:Int)<(t:Int):=by omega
               obtain rfl:k=t:=by omega
               go_wp2_with fail;go_loopg [10,13] f (fun gg s10 s13 wx=>∃ j:Nat,j≤f∧f-j≤gg∧wr=wx∧s13=.int .i64 j∧s10=.int .i64 ((2 ^ k*5 ^ j:Nat):Int)∧2 ^ k*5 ^ j≤2147483647)
               case atStart=>exact ⟨0,Nat.zero_le _,by omega,rfl,rfl,by simp,by simpa using hk2⟩
               case round=>
                obtain ⟨j,hj,hgg5,rfl,rfl,rfl,hj2⟩:=hrel
                by_cases hlt2:j<f
                ·have hltz2:(j:Int)<(f:Int):=by omega
                 have hpw:2 ^ k*5 ^ (j+1)=2 ^ k*5 ^ j*5:=by rw [Nat.pow_succ,Nat.mul_assoc]
                 by_cases hbig:2147483647<2 ^ k*5 ^ (j+1)
                 ·have HR:Hid (ansQ (valD l) kk=⟨0,0,2⟩):=HF.out.no_five hlt2 hbig
                  obtain ⟨x,hx⟩:∃ x,x=2 ^ k*5 ^ j:=⟨_,rfl⟩
                  rw [hpw]at hbig
                  rw [← hx]at hbig hj2 ⊢
                  clear hpw hx hk2;have hbz:(2147483647:Int)<(x:Int)*5:=by omega
                  have HBX:=HB
                  obtain ⟨⟨q0,q1⟩,qf,qs,hB1⟩:=res2 HBX.out
                  have HBB:=hid hB1
                  clear hB1;go_wp2_with fail;refine bodyPost_ret (v:=.tuple #[.agg #[.int .i64 0,.int .i64 0],.int .i64 2]) (by simp [results,Tryz.results137,go_sem,q0,q1]) rfl ⟨?_,?_⟩
                  ·rw [HR.out]; rfl
                  ·exact (HBB.out.setCell (Nat.le_refl _) _).setCell (Nat.le_refl _) _
                 ·have HPW:=hid hpw
                  obtain ⟨x,hx⟩:∃ x,x=2 ^ k*5 ^ j:=⟨_,rfl⟩
                  rw [hpw]at hbig
                  rw [← hx]at hbig hj2 HPW ⊢
                  clear hpw hx hk2;have hbz:¬ (2147483647:Int)<(x:Int)*5:=by omega
                  go_wp2_with fail;go_roundg (f-(j+1))
                  case measure=>omega
                  case rel=>exact ⟨j+1,by omega,by omega,rfl,by go_num,by rw [HPW.out]; go_num,by rw [HPW.out]; omega⟩
                ·have hltz2:¬ (j:Int)<(f:Int):=by omega
                 obtain rfl:j=f:=by omega
                 have HR:Hid (mk (v:Int) ((2 ^ k*5 ^ j:Nat):Int)=ansQ (valD l) kk):=fnr_yes HF.out
                 obtain ⟨x,hx⟩:∃ x,x=2 ^ k*5 ^ j:=⟨_,rfl⟩
                 rw [← hx]at hj2 HR ⊢
                 clear hx hk2;go_wp2_with fail;refine (refMake_any (v:Int) (x:Int) _ (by omega) (by omega) (by omega) (by omega)).mono ?_
                 rw [HR.out];rintro e w2 ⟨rfl,hb2⟩
                 have HBX:=hid (res2t HB.out hb2)
                 clear hb2 HB;obtain ⟨rr,hrr⟩:∃ r,r=ansQ (valD l) kk:=⟨_,rfl⟩
                 rw [← hrr];have HRR:=hid hrr
                 clear hrr HR;obtain ⟨rn,rd',re⟩:=rr
                 simp only [Res.val];obtain ⟨⟨q0,q1⟩,qf,qs,hB1⟩:=res2 HBX.out
                 have HBB:=hid hB1
                 clear hB1;go_wp2_with fail;refine bodyPost_ret (v:=.tuple #[.agg #[.int .i64 rn,.int .i64 rd'],.int .i64 re]) (by simp [results,Tryz.results137,go_sem,q0,q1]) rfl ⟨?_,?_⟩
                 ·rw [← HRR.out]; rfl
                 ·exact (HBB.out.setCell (Nat.le_refl _) _).setCell (Nat.le_refl _) _
end Go.Proofs.YtknpigdpepmimaaGreatDoor.Q
