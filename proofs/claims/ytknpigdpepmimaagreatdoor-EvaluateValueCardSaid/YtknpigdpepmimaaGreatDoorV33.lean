/- Contracts of ref49.Split 226, ref53.exponent 227. -/
import Derived.Lib.ItoaLen
import Derived.Test.YtknpigdpepmimaaGreatDoorV22
import Derived.Test.YtknpigdpepmimaaGreatDoorV24
import Derived.Test.YtknpigdpepmimaaGreatDoorV32
import Derived.Shelf.Strings.OnBuilder
import Derived.Shelf.LaysM
import Derived.Shelf.Strconv.Itoa3
import Derived.Test.YtknpigdpepmimaaGreatDoorProg
import Derived.Test.YtknpigdpepmimaaGreatDoorV27
namespace Go.Proofs.YtknpigdpepmimaaGreatDoor
open Go.Lib(hid)
open Go.RowKit Go.Maps
theorem dec_ge:∀ (k u:Nat),u≤k→∀ c∈Lib.decDigits u,48≤c.toNat:=by
 intro k;induction k with
 | zero=>
  intro u hu c hc;rw [Lib.decDigits_one (by omega),List.mem_singleton]at hc
  subst hc;rw [UInt8.toNat_ofNat']; omega
 | succ k ih=>
  intro u hu c hc;by_cases h:u<10
  ·rw [Lib.decDigits_one h,List.mem_singleton]at hc
   subst hc;rw [UInt8.toNat_ofNat']; omega
  ·rw [Q.dec_ten u h]at hc
   rcases List.mem_append.1 hc with hc|hc
   ·exact ih (u / 10) (by omega) c hc
   ·exact ih (u % 10) (by omega) c hc
theorem dec_inj:∀ (k u v:Nat),u≤k→Lib.decDigits u=Lib.decDigits v→u=v:=by
 intro k;induction k with
 | zero=>
  intro u v hu he;have hl:=congrArg List.length he
  rw [Lib.decDigits_length,Lib.decDigits_length]at hl
  obtain rfl:u=0:=by omega
  by_cases hv:v<10
  ·rw [Lib.decDigits_one (by omega),Lib.decDigits_one hv]at he
   have:=congrArg UInt8.toNat (List.cons.inj he).1
   rw [UInt8.toNat_ofNat',UInt8.toNat_ofNat']at this
   omega
  ·rw [Lib.nDigits_small (by omega),Lib.nDigits_big hv]at hl
   have:=Lib.nDigits_pos (v / 10)
   omega
 | succ k ih=>
  intro u v hu he;have hl:=congrArg List.length he
  rw [Lib.decDigits_length,Lib.decDigits_length]at hl
  by_cases h:u<10
  ·by_cases hv:v<10
   ·rw [Lib.decDigits_one h,Lib.decDigits_one hv]at he
    have:=congrArg UInt8.toNat (List.cons.inj he).1
    rw [UInt8.toNat_ofNat',UInt8.toNat_ofNat']at this
    omega
   ·rw [Lib.nDigits_small h,Lib.nDigits_big hv]at hl
    have:=Lib.nDigits_pos (v / 10)
    omega
  ·by_cases hv:v<10
   ·rw [Lib.nDigits_big h,Lib.nDigits_small hv]at hl
    have:=Lib.nDigits_pos (u / 10)
    omega
   ·rw [Q.dec_ten u h,Q.dec_ten v hv,Lib.decDigits_one (Nat.mod_lt u (by decide)),Lib.decDigits_one (Nat.mod_lt v (by decide))]at he
    obtain ⟨h1,h2⟩:=List.append_inj' he rfl
    have e1:=ih (u / 10) (v / 10) (by omega) h1
    have e2:=congrArg UInt8.toNat (List.cons.inj h2).1
    rw [UInt8.toNat_ofNat',UInt8.toNat_ofNat']at e2
    omega
theorem itoa_inj {a b:Int}(h:Lib.itoa a=Lib.itoa b):a=b:=by
 unfold Lib.itoa at h;by_cases ha:a<0
 ·by_cases hb:b<0
  ·rw [if_pos ha,if_pos hb]at h
   have:=dec_inj _ _ _ (Nat.le_refl _) (List.cons.inj h).2
   omega
  ·rw [if_pos ha,if_neg hb]at h
   have:=dec_ge b.toNat b.toNat (Nat.le_refl _) 45 (by rw [← h]; exact List.mem_cons_self)
   exact absurd this (by decide)
 ·by_cases hb:b<0
  ·rw [if_neg ha,if_pos hb]at h
   have:=dec_ge a.toNat a.toNat (Nat.le_refl _) 45 (by rw [h]; exact List.mem_cons_self)
   exact absurd this (by decide)
  ·rw [if_neg ha,if_neg hb]at h
   have:=dec_inj _ _ _ (Nat.le_refl _) h
   omega
theorem words_go {c x:UInt8}{l:W8}(cur:W8):wordsF c (x::l) cur=if x=c then cur::wordsF c l []else wordsF c l (cur++[x]):=by rw [wordsF]
theorem cur_succ (l:W8){f i:Nat}(hf:f≤i)(hi:i<l.length):(l.take (i+1)).drop f=(l.take i).drop f++[l[i]]:=by
 rw [List.take_succ_eq_append_getElem hi,List.drop_append_of_le_length (by rw [List.length_take]; omega)]
set_option maxRecDepth 100000 in
set_option maxHeartbeats 4000000 in
theorem rsplit_any (S:ByteArray)(c:UInt8)(w:World)(hs:S.size≤1000):Calls Tryz.prog 226 #[.string S,.int .u8 (c.toNat:Nat)] w fun e w'=>∃ v,e=.returned v∧RL w' w.heap.size v (wordsL c S.data.toList)∧Below w.heap.size w w':=by
 have HL:Hid (S.data.toList.length=S.size):=rfl
 generalize hl:S.data.toList=l at*;have HLS:=hid hl
 clear hl;have hsz:(S.size:Int)≤1000:=by omega
 go_enter Tryz.func226,Tryz.ntmps226;go_wp2_with fail;go_loopg [5,6,7] 1002 (fun gg s5 s6 s7 wr=>∃ (i f:Nat)(out:List W8),i≤l.length+1∧l.length+1-i<gg∧f≤i∧s7=.int .i64 (i:Int)∧s6=.int .i64 (f:Int)∧Aside (out.length≤i)∧Aside (wordsL c l=if i≤l.length then out++wordsF c (l.drop i) ((l.take i).drop f)else out)∧Aside (RL wr w.heap.size s5 out)∧Aside (Below w.heap.size w wr))
 case atStart=>exact ⟨0,0,[],by omega,by have:=HL.out; omega,Nat.le_refl _,rfl,rfl,Nat.le_refl _,by show _=_; rw [if_pos (Nat.zero_le _)]; rfl,World.ownsRow_nil _ _ _ _,Below.refl _ _⟩
 case round=>
  obtain ⟨i,f,out,hi,hgg,hf,rfl,rfl,HOL,HQ,HR,HB⟩:=hrel
  have hsl:=HL.out
  have hol:out.length≤2000:=by have:=HOL.out; omega
  have HSZ:=hid HB.out.size
  by_cases hlt:i≤l.length
  ·have hltz:(i:Int)≤(S.size:Int):=by omega
   have HQ2:=hid (HQ.out.trans (if_pos hlt))
   have hfz:(f:Int)≤(i:Int):=by omega
   have hex:(S.extract f i).data.toList=(l.take i).drop f:=by
    have:=Q.ext_list S f i
    rw [HLS.out]at this
    exact this
   by_cases hend:i=l.length
   ·obtain rfl:i=S.size:=hend.trans hsl
    obtain ⟨y,hy⟩:∃ y,y=(S.extract f S.size).data.toList:=⟨_,rfl⟩
    have hex2:S.extract f S.size=⟨y.toArray⟩:=by rw [hy]
    have HQ3:Hid (wordsL c l=out++[y]):=by
     show _=_
     rw [HQ2.out,hy,hex,List.drop_eq_nil_of_le (by omega),wordsF]
    clear HQ2 hex hend hy;go_wp2_with (at_builtin; refine app30 wr rfl _ _ rfl w.heap.size _ out y HR.out rfl rfl (by omega) HSZ.out ?_)
    intro v8 w8 hr8 hb8;have HR8:=hid hr8
    have HB8:=hid (HB.out.trans hb8)
    clear hr8 hb8;go_wp2_with fail;go_roundg (l.length+1-S.size)
    case measure=>omega
    case rel=>exact ⟨S.size+1,S.size+1,out++[y],by omega,by omega,Nat.le_refl _,by go_num,by go_num,(by show (out++[y]).length≤S.size+1; rw [List.length_append]; have:=HOL.out; simp; omega),(by show _=_; rw [if_neg (by omega)]; exact HQ3.out),HR8.out,HB8.out⟩
   ·have hendb:((i:Int) == (S.size:Int))=false:=by rw [beq_eq_false_iff_ne]; omega
    have hlt2:i<S.size:=by omega
    have hlt2l:i<l.length:=by omega
    have hix:S[i]'hlt2=l[i]'hlt2l:=by
     have:=HLS.out
     subst this;rfl
    have HD:Hid (l.drop i=l[i]'hlt2l::l.drop (i+1)):=List.drop_eq_getElem_cons hlt2l
    have HC:=hid (cur_succ l hf hlt2l)
    generalize l[i]'hlt2l=x at*;by_cases hx:x=c
    ·have hxb2:((x.toNat:Int) == (c.toNat:Int))=true:=by rw [hx]; simp
     obtain ⟨y,hy⟩:∃ y,y=(S.extract f i).data.toList:=⟨_,rfl⟩
     have hex2:S.extract f i=⟨y.toArray⟩:=by rw [hy]
     have HQ3:Hid (wordsL c l=(out++[y])++wordsF c (l.drop (i+1)) ((l.take (i+1)).drop (i+1))):=by
      show _=_
      have e0:(l.take (i+1)).drop (i+1)=[]:=List.drop_eq_nil_of_le (by rw [List.length_take]; omega)
      rw [HQ2.out,HD.out,words_go,if_pos hx,e0,hy,hex];simp
     clear HQ2 hx HC hex hy;go_wp2_with (at_builtin; refine app30 wr rfl _ _ rfl w.heap.size _ out y HR.out rfl rfl (by omega) HSZ.out ?_)
     intro v8 w8 hr8 hb8;have HR8:=hid hr8
     have HB8:=hid (HB.out.trans hb8)
     clear hr8 hb8;go_wp2_with fail;go_roundg (l.length+1-i)
     case measure=>omega
     case rel=>exact ⟨i+1,i+1,out++[y],by omega,by omega,Nat.le_refl _,by go_num,by go_num,(by show (out++[y]).length≤i+1; rw [List.length_append]; have:=HOL.out; simp; omega),(by show _=_; rw [if_pos (by omega)]; exact HQ3.out),HR8.out,HB8.out⟩
    ·have hne:x.toNat≠c.toNat:=fun h=>hx (UInt8.toNat_inj.1 h)
     have hxb2:((x.toNat:Int) == (c.toNat:Int))=false:=by rw [beq_eq_false_iff_ne]; omega
     have HQ3:Hid (wordsL c l=out++wordsF c (l.drop (i+1)) ((l.take (i+1)).drop f)):=by
      show _=_
      rw [HQ2.out,HD.out,words_go,if_neg hx,HC.out]
     clear HQ2 hx HC;go_wp2_with fail;go_roundg (l.length+1-i)
     case measure=>omega
     case rel=>exact ⟨i+1,f,out,by omega,by omega,by omega,by go_num,rfl,(by have:=HOL.out; show out.length≤i+1; omega),(by show _=_; rw [if_pos (by omega)]; exact HQ3.out),HR.out,HB.out⟩
  ·have hltz:¬ (i:Int)≤(S.size:Int):=by omega
   have HQ2:=hid (HQ.out.trans (if_neg hlt))
   go_wp2_with fail;go_ret;rw [HQ2.out];exact ⟨_,rfl,HR.out,HB.out⟩
set_option maxRecDepth 100000 in
set_option maxHeartbeats 4000000 in
theorem rexp_any (v:Value)(ws:List W8) (e:Int)(w:World)(hv:SL w w.heap.size v ws)(he:expW e ws):Calls Tryz.prog 227 #[v] w fun r w'=>r=.returned (.int .i64 e)∧Below w.heap.size w w':=by
 obtain ⟨A,cp,rfl,⟨hc1,hc2⟩,hcell⟩:=hv
 rcases he with ⟨hl,rfl⟩|⟨hl,hq,hlo,hhi⟩
 ·have hlz:(ws.length:Int)<2:=by omega
  clear hcell;go_enter Tryz.func227,Tryz.ntmps227;go_wp2_with fail;go_ret;exact ⟨rfl,Below.refl _ _⟩
 ·have hlz:¬ (ws.length:Int)<2:=by omega
  obtain ⟨b,o,rfl,hb,hx⟩:=hcell (by intro h; rw [h]at hl; simp at hl)
  have HC:=hid (hx 1 hl)
  rw [hq]at HC
  clear hx hcell hq;go_enter Tryz.func227,Tryz.ntmps227;go_wp2_with fail;go_loopg [3] 202 (fun gg s3 wr=>∃ n:Int,-100≤n∧n≤e∧(e-n).toNat<gg∧s3=.int .i64 n∧Aside (Below w.heap.size w wr))
  case atStart=>exact ⟨-100,by omega,by omega,by omega,rfl,Below.refl _ _⟩
  case round=>
   obtain ⟨n,hn1,hn2,hgg,rfl,HB⟩:=hrel
   have hn3:n≤100:=by omega
   have HNM:=hid fun wz=>Q.number_any n wz (by omega) (by omega)
   have hl1:(1:Int)<(ws.length:Int):=by omega
   by_cases hne:n=e
   ·subst hne
    go_upto_region 6 with (fail);go_cut [16] (fun s16 wx=>s16=.bool true∧Aside (Below w.heap.size w wx))
    case first=>
     have HCr:=hid fun (wz:World)(h:Below wr.heap.size wr wz)=>(bl_tr HB.out h).cell (p:=⟨b,o+1,none⟩) hb |>.trans HC.out
     go_region_held_law (fun w'=>w'.cell? ⟨b,o+1,none⟩=some (.string ⟨(Lib.itoa n).toArray⟩)) ((refine HCr.out _ ?_; repeat (first|with_reducible exact Below.refl _ _|with_reducible apply bl_dr|with_reducible refine bl_tr ?_ (by assumption)))) (first|(go_at_call 56; (with_reducible refine (HNM.out _).mono ?_); rintro r wz ⟨rfl,hbz⟩))
     all_goals
      go_wp2_with fail;go_meet
      case rel=>exact ⟨by simp,(by show Below _ _ _; refine bl_tr HB.out ?_; repeat (first|with_reducible exact Below.refl _ _|with_reducible apply bl_dr|with_reducible refine bl_tr ?_ (by assumption)))⟩
    case rest=>
     obtain ⟨rfl,HB2⟩:=hcut
     go_wp2_with fail;go_ret;exact ⟨rfl,HB2.out⟩
   ·have hni:Lib.itoa n≠Lib.itoa e:=fun h=>hne (itoa_inj h)
    have hnib:(Lib.itoa n == Lib.itoa e)=false:=by rw [beq_eq_false_iff_ne]; exact hni
    have hw:IntKind.i64.wrap (n+1)=n+1:=wrap64_small (by omega) (by omega)
    go_upto_region 6 with (fail);go_cut [16] (fun s16 wx=>s16=.bool false∧Aside (Below w.heap.size w wx))
    case first=>
     have HCr:=hid fun (wz:World)(h:Below wr.heap.size wr wz)=>(bl_tr HB.out h).cell (p:=⟨b,o+1,none⟩) hb |>.trans HC.out
     go_region_held_law (fun w'=>w'.cell? ⟨b,o+1,none⟩=some (.string ⟨(Lib.itoa e).toArray⟩)) ((refine HCr.out _ ?_; repeat (first|with_reducible exact Below.refl _ _|with_reducible apply bl_dr|with_reducible refine bl_tr ?_ (by assumption)))) (first|(go_at_call 56; (with_reducible refine (HNM.out _).mono ?_); rintro r wz ⟨rfl,hbz⟩))
     all_goals
      go_wp2_with fail;go_meet
      case rel=>exact ⟨by simp,(by show Below _ _ _; refine bl_tr HB.out ?_; repeat (first|with_reducible exact Below.refl _ _|with_reducible apply bl_dr|with_reducible refine bl_tr ?_ (by assumption)))⟩
    case rest=>
     obtain ⟨rfl,HB2⟩:=hcut
     go_wp2_with fail;go_roundg ((e-n).toNat)
     case measure=>omega
     case rel=>exact ⟨n+1,by omega,by omega,by omega,rfl,HB2.out⟩
end Go.Proofs.YtknpigdpepmimaaGreatDoor
namespace Go.Proofs
open Go.Lib(hid)
open Go.Shelf
def Tryz.lays156_ren:Go.Shelf.Ren:=⟨fun|156=>100|165=>149|166=>150|169=>151|240=>187|241=>188|276=>212|277=>213|n=>n,fun|31=>25|9=>9|3=>3|4=>4|0=>0|20=>20|72=>185|76=>189|70=>182|37=>183|75=>188|127=>217|164=>235|5=>5|80=>191|n=>n,fun|n=>n⟩
theorem Tryz.lays156:Go.Proofs.Lays.n156 Tryz.prog Tryz.lays156_ren:={
 mixed:=by kernel_rfl
 f156:=Tryz.func100.trans (congrArg some (by kernel_rfl))
 f165:=Tryz.func149.trans (congrArg some (by kernel_rfl))
 f166:=Tryz.func150.trans (congrArg some (by kernel_rfl))
 f169:=Tryz.func151.trans (congrArg some (by kernel_rfl))
 f240:=Tryz.func187.trans (congrArg some (by kernel_rfl))
 f241:=Tryz.func188.trans (congrArg some (by kernel_rfl))
 f276:=Tryz.func212.trans (congrArg some (by kernel_rfl))
 f277:=Tryz.func213.trans (congrArg some (by kernel_rfl))
 t0:=Tryz.underlying0
 a0:=Tryz.isAgg0
 z0:=Tryz.sizeOf0
 v0:=Tryz.zeroValue0
 t3:=Tryz.underlying3
 a3:=Tryz.isAgg3
 z3:=Tryz.sizeOf3
 v3:=Tryz.zeroValue3
 t4:=Tryz.underlying4
 a4:=Tryz.isAgg4
 z4:=Tryz.sizeOf4
 v4:=Tryz.zeroValue4
 t9:=Tryz.underlying9
 a9:=Tryz.isAgg9
 z9:=Tryz.sizeOf9
 v9:=Tryz.zeroValue9
 t20:=Tryz.underlying20
 a20:=Tryz.isAgg20
 z20:=Tryz.sizeOf20
 v20:=Tryz.zeroValue20
 t31:=Tryz.underlying25
 a31:=Tryz.isAgg25
 z31:=Tryz.sizeOf25
 v31:=Tryz.zeroValue25
 t37:=Tryz.underlying183
 a37:=Tryz.isAgg183
 z37:=Tryz.sizeOf183
 v37:=Tryz.zeroValue183
 t70:=Tryz.underlying182
 a70:=Tryz.isAgg182
 z70:=Tryz.sizeOf182
 v70:=Tryz.zeroValue182
 t72:=Tryz.underlying185
 a72:=Tryz.isAgg185
 z72:=Tryz.sizeOf185
 v72:=Tryz.zeroValue185
 t75:=Tryz.underlying188
 a75:=Tryz.isAgg188
 z75:=Tryz.sizeOf188
 v75:=Tryz.zeroValue188
 t76:=Tryz.underlying189
 a76:=Tryz.isAgg189
 z76:=Tryz.sizeOf189
 v76:=Tryz.zeroValue189
 t127:=Tryz.underlying217
 a127:=Tryz.isAgg217
 z127:=Tryz.sizeOf217
 v127:=Tryz.zeroValue217
 t164:=Tryz.underlying235
 a164:=Tryz.isAgg235
 z164:=Tryz.sizeOf235
 v164:=Tryz.zeroValue235 }
theorem Tryz.Builder_Extra_156:Builder.Extra Tryz.prog Tryz.lays156_ren:={
 sizeBuilder:=by kernel_rfl
 liesBuilder:=by kernel_rfl
 t5:=Tryz.underlying5
 a5:=Tryz.isAgg5
 z5:=Tryz.sizeOf5
 v5:=Tryz.zeroValue5
 infoByte:=by kernel_rfl
 cellsByte:=by kernel_rfl
 sizeByte:=by kernel_rfl
 neB5:=by decide }
open Go.RowKit in
theorem Tryz.strings_Join (bk o c:Nat)(xs:List ByteArray)(sep:ByteArray)(w:World)(hcells:∀ (j:Nat) x,xs[j]?=some x→w.cell? ⟨bk,o+j,none⟩=some (.string x))(hbk:bk<w.heap.size)(hN:xs.length≤140737488355328)(hcap:xs.length≤c)(hlen:(Lib.join (xs.map (·.data.toList)) sep.data.toList).length≤140737488355328):
  Calls Tryz.prog 100 #[.slice (some ⟨bk,o,none⟩) xs.length c,.string sep] w fun e w'=>e=.returned (.string ⟨(Lib.join (xs.map (·.data.toList)) sep.data.toList).toArray⟩)∧Below w.heap.size w w':=Any.strings_Join Tryz.lays156 Tryz.Builder_Extra_156 bk o c xs sep w hcells hbk hN hcap hlen
def Tryz.laysM171_ren:Go.Shelf.Ren:=⟨fun|171=>98|243=>148|246=>186|283=>208|284=>209|285=>210|286=>211|129=>87|317=>228|318=>229|319=>230|320=>231|337=>242|338=>243|n=>n,fun|3=>3|9=>9|2=>2|4=>4|171=>231|0=>0|53=>123|37=>183|5=>5|173=>233|212=>249|51=>250|20=>20|213=>251|46=>170|232=>267|233=>268|n=>n,fun|17=>1|18=>4|19=>5|n=>n⟩
theorem Tryz.laysM171:Go.Proofs.LaysM.n171 Tryz.prog Tryz.laysM171_ren:={
 mixed:=by kernel_rfl
 f129:=Tryz.func87.trans (congrArg some (by kernel_rfl))
 f171:=Tryz.func98.trans (congrArg some (by kernel_rfl))
 f243:=Tryz.func148.trans (congrArg some (by kernel_rfl))
 f246:=Tryz.func186.trans (congrArg some (by kernel_rfl))
 f283:=Tryz.func208.trans (congrArg some (by kernel_rfl))
 f284:=Tryz.func209.trans (congrArg some (by kernel_rfl))
 f285:=Tryz.func210.trans (congrArg some (by kernel_rfl))
 f286:=Tryz.func211.trans (congrArg some (by kernel_rfl))
 f317:=Tryz.func228.trans (congrArg some (by kernel_rfl))
 f318:=Tryz.func229.trans (congrArg some (by kernel_rfl))
 f319:=Tryz.func230.trans (congrArg some (by kernel_rfl))
 f320:=Tryz.func231.trans (congrArg some (by kernel_rfl))
 f337:=Tryz.func242.trans (congrArg some (by kernel_rfl))
 f338:=Tryz.func243.trans (congrArg some (by kernel_rfl))
 t0:=Tryz.underlying0
 a0:=Tryz.isAgg0
 z0:=Tryz.sizeOf0
 v0:=Tryz.zeroValue0
 t2:=Tryz.underlying2
 a2:=Tryz.isAgg2
 z2:=Tryz.sizeOf2
 v2:=Tryz.zeroValue2
 t3:=Tryz.underlying3
 a3:=Tryz.isAgg3
 z3:=Tryz.sizeOf3
 v3:=Tryz.zeroValue3
 t4:=Tryz.underlying4
 a4:=Tryz.isAgg4
 z4:=Tryz.sizeOf4
 v4:=Tryz.zeroValue4
 t5:=Tryz.underlying5
 a5:=Tryz.isAgg5
 z5:=Tryz.sizeOf5
 v5:=Tryz.zeroValue5
 t9:=Tryz.underlying9
 a9:=Tryz.isAgg9
 z9:=Tryz.sizeOf9
 v9:=Tryz.zeroValue9
 t20:=Tryz.underlying20
 a20:=Tryz.isAgg20
 z20:=Tryz.sizeOf20
 v20:=Tryz.zeroValue20
 t37:=Tryz.underlying183
 a37:=Tryz.isAgg183
 z37:=Tryz.sizeOf183
 v37:=Tryz.zeroValue183
 t46:=Tryz.underlying170
 a46:=Tryz.isAgg170
 z46:=Tryz.sizeOf170
 v46:=Tryz.zeroValue170
 t51:=Tryz.underlying250
 a51:=Tryz.isAgg250
 z51:=Tryz.sizeOf250
 v51:=Tryz.zeroValue250
 t53:=Tryz.underlying123
 a53:=Tryz.isAgg123
 z53:=Tryz.sizeOf123
 v53:=Tryz.zeroValue123
 t171:=Tryz.underlying231
 a171:=Tryz.isAgg231
 z171:=Tryz.sizeOf231
 v171:=Tryz.zeroValue231
 t173:=Tryz.underlying233
 a173:=Tryz.isAgg233
 z173:=Tryz.sizeOf233
 v173:=Tryz.zeroValue233
 t212:=Tryz.underlying249
 a212:=Tryz.isAgg249
 z212:=Tryz.sizeOf249
 v212:=Tryz.zeroValue249
 t213:=Tryz.underlying251
 a213:=Tryz.isAgg251
 z213:=Tryz.sizeOf251
 t232:=Tryz.underlying267
 a232:=Tryz.isAgg267
 z232:=Tryz.sizeOf267
 v232:=Tryz.zeroValue267
 t233:=Tryz.underlying268
 a233:=Tryz.isAgg268
 z233:=Tryz.sizeOf268
 v233:=Tryz.zeroValue268
 g17:=by kernel_rfl
 g18:=by kernel_rfl
 g19:=by kernel_rfl
 i0:=by kernel_rfl
 i2:=by kernel_rfl
 i3:=by kernel_rfl
 i4:=by kernel_rfl
 i5:=by kernel_rfl
 i9:=by kernel_rfl
 i20:=by kernel_rfl
 i37:=by kernel_rfl
 i46:=by kernel_rfl
 i51:=by kernel_rfl
 i53:=by kernel_rfl
 i171:=by kernel_rfl
 i173:=by kernel_rfl
 i212:=by kernel_rfl
 i232:=by kernel_rfl
 i233:=by kernel_rfl
 m17:=by kernel_rfl
 m18:=by kernel_rfl
 m19:=by kernel_rfl }
open Go.RowKit Go.Sort Go.Lib in
theorem Tryz.strconv_Itoa (n:Int)(h0:-9223372036854775808≤n)(h1:n≤9223372036854775807)(w:World)(htab:Lib.TabIs Tryz.prog w "internal/strconv.uint64pow10" .u64 Lib.pow10Tab):
  Calls Tryz.prog 98 #[.int .i64 n] w fun e w'=>e=.returned (.string ⟨(Lib.itoa n).toArray⟩)∧∃ k os,w'=grow (w.drewN k) os:=Any.strconv_Itoa Tryz.laysM171 n h0 h1 w htab
end Go.Proofs
namespace Go.Proofs.YtknpigdpepmimaaGreatDoor
open Go.Lib(hid)
open Go.RowKit Go.Maps
theorem glob10:Tryz.prog.globalNamed "internal/strconv.uint64pow10" = some 1:=by kernel_rfl
structure Tab (w:World):Prop where
 tab:Lib.TabIs Tryz.prog w "internal/strconv.uint64pow10" .u64 Lib.pow10Tab
 lt:1<w.heap.size
theorem Tab.below {w w':World}(h:Tab w)(hb:Below w.heap.size w w'):Tab w':=
 ⟨var?_below hb glob10 h.lt h.tab,Nat.lt_of_lt_of_le h.lt hb.size⟩
theorem below_growT (w:World) (k:Nat)(os:Array Obj):Below w.heap.size w (Sort.grow (w.drewN k) os):=
 ⟨rfl,rfl,rfl,by simp [Sort.grow],fun i hi=>by simp [Sort.grow,Array.getElem?_append,hi]⟩
theorem itoa_any (n:Int)(w:World)(h0:-9223372036854775808≤n)(h1:n≤9223372036854775807)(ht:Tab w):
  Calls Tryz.prog 98 #[.int .i64 n] w fun e w'=>e=.returned (.string ⟨(Lib.itoa n).toArray⟩)∧Below w.heap.size w w':=
 (Tryz.strconv_Itoa n h0 h1 w ht.tab).mono fun _ _ ⟨he,k,os,hw⟩=>⟨he,hw▸below_growT w k os⟩
set_option maxRecDepth 100000 in
set_option maxHeartbeats 4000000 in
theorem base_any (w:World):Calls Tryz.prog 99 #[] w fun e w'=>e=.returned (.agg #[.string ⟨#[109]⟩,.string ⟨#[107,103]⟩,.string ⟨#[115]⟩,.string ⟨#[65]⟩,.string ⟨#[75]⟩,.string ⟨#[109,111,108]⟩,.string ⟨#[99,100]⟩])∧Below w.heap.size w w':=by
 have HB:=hid (b1 w (.cells #[.string ⟨#[]⟩,.string ⟨#[]⟩,.string ⟨#[]⟩,.string ⟨#[]⟩,.string ⟨#[]⟩,.string ⟨#[]⟩,.string ⟨#[]⟩] 137))
 have HZ:Hid ((w.alloc (.cells #[.string ⟨#[]⟩,.string ⟨#[]⟩,.string ⟨#[]⟩,.string ⟨#[]⟩,.string ⟨#[]⟩,.string ⟨#[]⟩,.string ⟨#[]⟩] 137)).heap[w.heap.size]?=some (.cells #[.string ⟨#[]⟩,.string ⟨#[]⟩,.string ⟨#[]⟩,.string ⟨#[]⟩,.string ⟨#[]⟩,.string ⟨#[]⟩,.string ⟨#[]⟩] 137 (0,0))):=heap_alloc_new w _
 go_enter Tryz.func99,Tryz.ntmps99;go_upto_region 1 with (fail);generalize w.alloc (.cells #[.string ⟨#[]⟩,.string ⟨#[]⟩,.string ⟨#[]⟩,.string ⟨#[]⟩,.string ⟨#[]⟩,.string ⟨#[]⟩,.string ⟨#[]⟩] 137)=w1 at*;have zf:∀ i,w1.frozen? ⟨w.heap.size,i,none⟩=false:=fun i=>by simp [World.frozen?,HZ.out]
 have z0:w1.cell? ⟨w.heap.size,0,none⟩=some (.string ⟨#[]⟩):=by simp [World.cell?,HZ.out]
 have z1:w1.cell? ⟨w.heap.size,1,none⟩=some (.string ⟨#[]⟩):=by simp [World.cell?,HZ.out]
 have z2:w1.cell? ⟨w.heap.size,2,none⟩=some (.string ⟨#[]⟩):=by simp [World.cell?,HZ.out]
 have z3:w1.cell? ⟨w.heap.size,3,none⟩=some (.string ⟨#[]⟩):=by simp [World.cell?,HZ.out]
 have z4:w1.cell? ⟨w.heap.size,4,none⟩=some (.string ⟨#[]⟩):=by simp [World.cell?,HZ.out]
 have z5:w1.cell? ⟨w.heap.size,5,none⟩=some (.string ⟨#[]⟩):=by simp [World.cell?,HZ.out]
 have z6:w1.cell? ⟨w.heap.size,6,none⟩=some (.string ⟨#[]⟩):=by simp [World.cell?,HZ.out]
 go_wp2_with fail;refine bodyPost_ret (v:=.agg #[.string ⟨#[109]⟩,.string ⟨#[107,103]⟩,.string ⟨#[115]⟩,.string ⟨#[65]⟩,.string ⟨#[75]⟩,.string ⟨#[109,111,108]⟩,.string ⟨#[99,100]⟩]) (by simp [results,Tryz.results99,go_sem,z0,z1,z2,z3,z4,z5,z6]) rfl ⟨rfl,?_⟩
 exact ((((((HB.out.setCell (p:=⟨w.heap.size,0,none⟩) (Nat.le_refl _) _).setCell (p:=⟨w.heap.size,1,none⟩) (Nat.le_refl _) _).setCell (p:=⟨w.heap.size,2,none⟩) (Nat.le_refl _) _).setCell (p:=⟨w.heap.size,3,none⟩) (Nat.le_refl _) _).setCell (p:=⟨w.heap.size,4,none⟩) (Nat.le_refl _) _).setCell (p:=⟨w.heap.size,5,none⟩) (Nat.le_refl _) _).setCell (p:=⟨w.heap.size,6,none⟩) (Nat.le_refl _) _
set_option maxRecDepth 100000 in
set_option maxHeartbeats 4000000 in
theorem bases_any (w:World):Calls Tryz.prog 101 #[] w fun e w'=>e=.returned (.agg #[.string ⟨#[109]⟩,.string ⟨#[107,103]⟩,.string ⟨#[115]⟩,.string ⟨#[65]⟩,.string ⟨#[75]⟩,.string ⟨#[109,111,108]⟩,.string ⟨#[99,100]⟩])∧Below w.heap.size w w':=by
 have HB:=hid (b1 w (.cells #[.string ⟨#[]⟩,.string ⟨#[]⟩,.string ⟨#[]⟩,.string ⟨#[]⟩,.string ⟨#[]⟩,.string ⟨#[]⟩,.string ⟨#[]⟩] 137))
 have HZ:Hid ((w.alloc (.cells #[.string ⟨#[]⟩,.string ⟨#[]⟩,.string ⟨#[]⟩,.string ⟨#[]⟩,.string ⟨#[]⟩,.string ⟨#[]⟩,.string ⟨#[]⟩] 137)).heap[w.heap.size]?=some (.cells #[.string ⟨#[]⟩,.string ⟨#[]⟩,.string ⟨#[]⟩,.string ⟨#[]⟩,.string ⟨#[]⟩,.string ⟨#[]⟩,.string ⟨#[]⟩] 137 (0,0))):=heap_alloc_new w _
 go_enter Tryz.func101,Tryz.ntmps101;go_upto_region 1 with (fail);generalize w.alloc (.cells #[.string ⟨#[]⟩,.string ⟨#[]⟩,.string ⟨#[]⟩,.string ⟨#[]⟩,.string ⟨#[]⟩,.string ⟨#[]⟩,.string ⟨#[]⟩] 137)=w1 at*;have zf:∀ i,w1.frozen? ⟨w.heap.size,i,none⟩=false:=fun i=>by simp [World.frozen?,HZ.out]
 have z0:w1.cell? ⟨w.heap.size,0,none⟩=some (.string ⟨#[]⟩):=by simp [World.cell?,HZ.out]
 have z1:w1.cell? ⟨w.heap.size,1,none⟩=some (.string ⟨#[]⟩):=by simp [World.cell?,HZ.out]
 have z2:w1.cell? ⟨w.heap.size,2,none⟩=some (.string ⟨#[]⟩):=by simp [World.cell?,HZ.out]
 have z3:w1.cell? ⟨w.heap.size,3,none⟩=some (.string ⟨#[]⟩):=by simp [World.cell?,HZ.out]
 have z4:w1.cell? ⟨w.heap.size,4,none⟩=some (.string ⟨#[]⟩):=by simp [World.cell?,HZ.out]
 have z5:w1.cell? ⟨w.heap.size,5,none⟩=some (.string ⟨#[]⟩):=by simp [World.cell?,HZ.out]
 have z6:w1.cell? ⟨w.heap.size,6,none⟩=some (.string ⟨#[]⟩):=by simp [World.cell?,HZ.out]
 go_wp2_with fail;refine bodyPost_ret (v:=.agg #[.string ⟨#[109]⟩,.string ⟨#[107,103]⟩,.string ⟨#[115]⟩,.string ⟨#[65]⟩,.string ⟨#[75]⟩,.string ⟨#[109,111,108]⟩,.string ⟨#[99,100]⟩]) (by simp [results,Tryz.results101,go_sem,z0,z1,z2,z3,z4,z5,z6]) rfl ⟨rfl,?_⟩
 exact ((((((HB.out.setCell (p:=⟨w.heap.size,0,none⟩) (Nat.le_refl _) _).setCell (p:=⟨w.heap.size,1,none⟩) (Nat.le_refl _) _).setCell (p:=⟨w.heap.size,2,none⟩) (Nat.le_refl _) _).setCell (p:=⟨w.heap.size,3,none⟩) (Nat.le_refl _) _).setCell (p:=⟨w.heap.size,4,none⟩) (Nat.le_refl _) _).setCell (p:=⟨w.heap.size,5,none⟩) (Nat.le_refl _) _).setCell (p:=⟨w.heap.size,6,none⟩) (Nat.le_refl _) _
theorem base_ix {i:Nat}(h:i<7)(w:World):(Instr.index 137 (.agg #[.string ⟨#[109]⟩,.string ⟨#[107,103]⟩,.string ⟨#[115]⟩,.string ⟨#[65]⟩,.string ⟨#[75]⟩,.string ⟨#[109,111,108]⟩,.string ⟨#[99,100]⟩]) (.int .i64 (i:Int))).run Tryz.prog w=.ok (.string ⟨(baseL[i]'h).toArray⟩) w:=by
 rcases seven h with rfl|rfl|rfl|rfl|rfl|rfl|rfl<;>kernel_rfl
theorem l_at (d:Dm){i:Nat}(h:i<7):d.l[i]'h=d.at i:=by
 rcases seven h with rfl|rfl|rfl|rfl|rfl|rfl|rfl<;>rfl
theorem piece_len (i:Nat)(h:i<7){e:Int}(he:-100≤e∧e≤100):(pieceL (baseL[i]'h) e).length≤30:=by
 have h1:=base_len i h
 have h2:=Lib.itoa_length_le e (by omega) (by omega)
 unfold pieceL;split
 ·omega
 ·rw [List.length_append,List.length_cons]; omega
theorem spc_len (d:Dm)(h:d.ok=true):∀ i,i≤7→(spcL (d.pc i)).length≤31*i
 | 0,_=>Nat.le_refl _
 | i+1,hi=>by
  have ih:=spc_len d h i (by omega)
  rw [d.pc_succ i (by omega),l_at d (by omega)]
  split
  ·rw [List.append_nil]; omega
  ·have h1:=piece_len i (by omega) (at_bnd h i)
   rw [spc_snoc];split
   ·omega
   ·rw [List.length_append,List.length_cons]; omega
theorem pc_step (d:Dm){i:Nat}(h:i<7):d.pc (i+1)=d.pc i++(if d.at i=0 then []else [pieceL (baseL[i]'h) (d.at i)]):=by
 rw [d.pc_succ i h,l_at d h]
theorem spc_step (d:Dm){i:Nat}(h:i<7)(he:d.at i≠0):spcL (d.pc (i+1))=(if spcL (d.pc i)=[]then []else spcL (d.pc i)++[32])++pieceL (baseL[i]'h) (d.at i):=by
 rw [pc_step d h,if_neg he,spc_snoc];have hn:=spc_nil (l:=d.pc i) (pc_ne d i (by omega))
 by_cases hp:d.pc i=[]
 ·rw [if_pos hp,if_pos (hn.2 hp)]; rfl
 ·rw [if_neg hp,if_neg (fun e=>hp (hn.1 e))]; simp
theorem bytes_eq {W:ByteArray}{l:W8}(h:W.data.toList=l):W=⟨l.toArray⟩:=by subst h; rfl
theorem bytes_len {W:ByteArray}{l:W8}(h:W.data.toList=l):W.size=l.length:=by subst h; rfl
set_option maxHeartbeats 1000000 in
theorem text_any (n d:Int)(w:World)(hn:-9223372036854775808≤n)(hN:n≤9223372036854775807)(hd:-9223372036854775808≤d)(hD:d≤9223372036854775807)(ht:Tab w):
  Calls Tryz.prog 48 #[.agg #[.int .i64 n,.int .i64 d]] w fun e w'=>e=.returned (.string ⟨(Q.txt n d).toArray⟩)∧Below w.heap.size w w':=by
 have q0:(w.alloc (.cells #[.int .i64 n,.int .i64 d] 57)).cell? ⟨w.heap.size,0,none⟩=some (.int .i64 n):=by simp
 have q1:(w.alloc (.cells #[.int .i64 n,.int .i64 d] 57)).cell? ⟨w.heap.size,1,none⟩=some (.int .i64 d):=by simp
 have hbw:Hid (Below w.heap.size w (w.alloc (.cells #[.int .i64 n,.int .i64 d] 57))):=(Below.refl _ _).alloc (Nat.le_refl _) _
 have HTW:=hid ht
 clear ht;cases hv:Q.validQ n d with
 | false=>
  have HT:Hid (Q.txt n d=[]):=by show Q.txt n d=[]; unfold Q.txt; rw [hv]; rfl
  have HV:=hid hv
  clear hv;go_enter Tryz.func48,Tryz.ntmps48;go_wp2_with fail;refine (Q.valid_any n d _ hn hN hd hD).mono ?_
  rw [HV.out];rintro e w1 ⟨rfl,hb1⟩
  obtain ⟨_,_,_,hB1⟩:=Q.res2 hb1
  clear hb1;go_wp2
  go_ret;refine ⟨?_,hB1⟩
  rw [HT.out];rfl
 | true=>
  have HV:=hid hv
  obtain ⟨h1,h2,h3,h4,_⟩:=(Q.valid_iff n d).1 hv
  have hln:=Lib.itoa_length_le n (by omega) (by omega)
  have hld:=Lib.itoa_length_le d (by omega) (by omega)
  by_cases hd1:d=1
  ·have HT:Hid (Q.txt n d=Lib.itoa n):=by show Q.txt n d=_; unfold Q.txt; rw [hv,if_pos rfl,if_pos hd1]
   subst hd1;clear hv;go_enter Tryz.func48,Tryz.ntmps48;go_wp2_with fail;refine (Q.valid_any n 1 _ hn hN hd hD).mono ?_
   rw [HV.out];rintro e w1 ⟨rfl,hb1⟩
   obtain ⟨⟨p0,p1⟩,_,_,hB1⟩:=Q.res2 hb1
   have HB1:=hid hB1
   have hs1:=hB1.size
   clear hb1 hB1;go_wp2_with fail;refine (itoa_any n _ (by omega) (by omega) (HTW.out.below HB1.out)).mono ?_
   rintro e w2 ⟨rfl,hb2⟩
   have hB2:=HB1.out.trans (hb2.mono hs1)
   clear hb2;go_wp2
   go_ret;refine ⟨?_,hB2⟩
   rw [HT.out];rfl
  ·have HT:Hid (Q.txt n d=Lib.itoa n++[47]++Lib.itoa d):=by show Q.txt n d=_; unfold Q.txt; rw [hv,if_pos rfl,if_neg hd1]
   have hd1':(d == 1)=false:=by simpa using hd1
   clear hv;go_enter Tryz.func48,Tryz.ntmps48;go_wp2_with fail;refine (Q.valid_any n d _ hn hN hd hD).mono ?_
   rw [HV.out];rintro e w1 ⟨rfl,hb1⟩
   obtain ⟨⟨p0,p1⟩,_,_,hB1⟩:=Q.res2 hb1
   have HB1:=hid hB1
   have hs1:=hB1.size
   clear hb1 hB1;go_wp2
   have k0:=fun d os=>cell_regrown p0 d os
   have k1:=fun d os=>cell_regrown p1 d os
   have HTB:=hid (HTW.out.below HB1.out)
   have cI:=hid fun (x:Int) dd os (hx:-9223372036854775807≤x)(hX:x≤9223372036854775807)=>Calls.regrown_of (itoa_any x (Sort.grow (redrawn w1 dd) os) (by omega) hX (HTB.out.below (below_regrown w1 dd os)))
   refine wp_region_quiet_below (by kernel_rfl) (by kernel_rfl) ?_
   repeat (first|go_big_quiet_step ((go_at_call 98; exact cI.out _ _ _ (by omega) (by omega)))|quiet_step ((go_at_call 98; exact cI.out _ _ _ (by omega) (by omega))))
   refine wpQuiet_nil ?_
   intro _ hw';obtain ⟨⟨dq,osq⟩,hw''⟩:=hw'
   subst hw'';have hB2:=HB1.out.trans ((below_regrown w1 dq osq).mono hs1)
   clear cI k0 k1;go_wp2
   go_ret;refine ⟨?_,hB2⟩
   rw [HT.out,← Q.cat,← Q.cat];rfl
theorem bl_ne {W:ByteArray}{l:W8}(h:W.data.toList=l)(hl:l≠[]):W.toList.isEmpty=false:=by
 cases h2:W.toList with
 | nil=>rw [ByteArray.toList_eq]at h2; exact absurd (h.symm.trans h2) hl
 | cons=>rfl
theorem dl_app (A B:ByteArray):(A++B).data.toList=A.data.toList++B.data.toList:=by rw [ByteArray.data_append]; simp
theorem add_len {n m:Nat}(h:n+m≤9223372036854775807):¬ (9223372036854775807:Int)<(n:Int)+(m:Int):=by omega
set_option maxRecDepth 100000 in
set_option maxHeartbeats 4000000 in
theorem rdtext_any (d:Dm)(w:World):Calls Tryz.prog 54 #[.agg d.cells] w fun e w'=>e=.returned (.string ⟨(dtxt d).toArray⟩)∧Below w.heap.size w w':=by
 have HE:Hid (dtxt d=if d.ok then (if d.pc 7=[]then [49]else spcL (d.pc 7))else []):=rfl
 have HV:=hid (rdim_any d)
 have HB:=hid (b1 w (.cells #[.int .i64 d.a,.int .i64 d.b,.int .i64 d.c,.int .i64 d.d,.int .i64 d.e,.int .i64 d.f,.int .i64 d.g] 42))
 have HK:Hid (K7 (w.alloc (.cells #[.int .i64 d.a,.int .i64 d.b,.int .i64 d.c,.int .i64 d.d,.int .i64 d.e,.int .i64 d.f,.int .i64 d.g] 42)) w.heap.size d):=K7.new w d
 have HSL:=hid (spc_len d)
 have HSS:=hid fun (i:Nat)(h:i<7)(he:d.at i≠0)=>spc_step d h he
 have HSZ:=hid fun (i:Nat)(h:i<7)(he:d.at i=0)=>(show d.pc (i+1)=d.pc i by rw [pc_step d h,if_pos he,List.append_nil])
 have HAB:=hid (fun (h:d.ok=true)=>at_bnd h)
 have HN7:=hid (spc_nil (l:=d.pc 7) (pc_ne d 7 (Nat.le_refl _)))
 unfold Dm.cells at HV ⊢;go_enter Tryz.func54,Tryz.ntmps54;go_upto_region 1 with (fail);generalize w.alloc (.cells #[.int .i64 d.a,.int .i64 d.b,.int .i64 d.c,.int .i64 d.d,.int .i64 d.e,.int .i64 d.f,.int .i64 d.g] 42)=w1 at*;obtain ⟨⟨p0,p1,p2,p3,p4,p5,p6⟩,_,_⟩:=HK.out.cells
 go_wp2_with fail;refine (HV.out w1).mono ?_
 rintro e w2 ⟨rfl,hb2⟩
 have HB2:=hid (bl_tr HB.out hb2)
 have HK2:=hid (HK.out.reach hb2)
 clear hb2 p0 p1 p2 p3 p4 p5 p6 HB HK HV;cases h1:d.ok with
 | false=>
  have HR:Hid (dtxt d=[]):=HE.out.trans (by rw [h1]; rfl)
  clear h1;go_wp2_with fail;go_ret;rw [HR.out];exact ⟨rfl,HB2.out⟩
 | true=>
  have HE2:Hid (dtxt d=if d.pc 7=[]then [49]else spcL (d.pc 7)):=HE.out.trans (by rw [h1]; rfl)
  have HA:=hid (HAB.out h1)
  have HL:=hid (HSL.out h1)
  clear h1 HE HAB HSL;go_wp2_with fail;go_loopg [3,4] 7 (fun gg s3 s4 wr=>∃ (i:Nat)(W:ByteArray),i≤7∧7-i≤gg∧s4=.int .i64 i∧s3=.string W∧Aside (W.data.toList=spcL (d.pc i))∧Aside (K7 wr w.heap.size d)∧Aside (Below w.heap.size w wr))
  case atStart=>exact ⟨0,⟨#[]⟩,by omega,by omega,rfl,rfl,rfl,HK2.out,HB2.out⟩
  case round=>
   obtain ⟨i,W,hi,hgg,rfl,rfl,HW,HC,HBr⟩:=hrel
   have hwl:=HL.out i hi
   have hws:=bytes_len HW.out
   by_cases hlt:i<7
   ·have hltz:(i:Int)<7:=by omega
    have ca:=HC.out.at_ hlt
    by_cases he:d.at i=0
    ·have heb:(d.at i == 0)=true:=by simpa using he
     have HW2:Hid (W.data.toList=spcL (d.pc (i+1))):=by show _=_; rw [HSZ.out i hlt he]; exact HW.out
     clear hwl hws he;go_wp2_with fail;go_roundg (7-(i+1))
     case measure=>omega
     case rel=>exact ⟨i+1,W,by omega,by omega,by go_num,rfl,HW2.out,HC.out,HBr.out⟩
    ·have heb:(d.at i == 0)=false:=by simpa using he
     have HW2:=hid (HSS.out i hlt he)
     have hab:=HA.out i
     have HBS:=hid fun w=>bases_any w
     have hix:=fun w=>base_ix hlt w
     have hbl:=base_len i hlt
     have hil:=Lib.itoa_length_le (d.at i) (by omega) (by omega)
     have HNM:=hid fun w=>Q.number_any (d.at i) w (by omega) (by omega)
     generalize baseL[i]'hlt=nm at*;obtain ⟨U,hU⟩:∃ U:ByteArray,U=⟨nm.toArray⟩:=⟨_,rfl⟩
     have hus:U.size=nm.length:=by rw [hU]; rfl
     have HU:=hid hU
     have e0b:=fun (h:spcL (d.pc i)≠[])=>bl_ne HW.out h
     go_upto_if 17 with (fail)
     go_cut [3,18,19] (fun s3 _ _ wx=>∃ W2:ByteArray,s3=.string W2∧Aside (W2.data.toList=if spcL (d.pc i)=[]then []else spcL (d.pc i)++[32])∧W2.size≤300∧wx=wr)
     case first=>
      have hadd:=add_len (n:=W.size) (m:=1) (by omega)
      go_wp2_with fail
      ·rename_i h
       have hs:spcL (d.pc i)≠[]:=fun e=>by
        rw [ByteArray.toList_eq,HW.out,e]at h
        cases h
       go_meet
       case rel=>exact ⟨_,rfl,by show _=_; rw [if_neg hs,← HW.out]; exact dl_app _ _,by rw [ByteArray.size_append]; show W.size+1≤300; omega,rfl⟩
      ·rename_i h
       have hs:spcL (d.pc i)=[]:=by
        rw [ByteArray.toList_eq,HW.out]at h
        cases hq:spcL (d.pc i) with
        | nil=>rfl
        | cons _ _=>rw [hq]at h; cases h
       go_meet
       case rel=>exact ⟨W,rfl,by show _=_; rw [if_pos hs,← hs]; exact HW.out,by omega,rfl⟩
     case rest=>
      obtain ⟨W2,rfl,HW3,hw2,rfl⟩:=hcut
      have hadd:=add_len (n:=W2.size) (m:=U.size) (by omega)
      go_wp2_with fail;refine (HBS.out _).mono ?_
      rintro e w3 ⟨rfl,hb3⟩
      have HB3:=hid (bl_tr HBr.out hb3)
      have HC3:=hid (HC.out.reach hb3)
      have cb:=HC3.out.at_ hlt
      clear hb3 ca;by_cases h1:d.at i=1
      ·have h1b:(d.at i != 1)=false:=by simp [h1]
       have HW4:Hid ((W2++U).data.toList=spcL (d.pc (i+1))):=by
        show _=_
        rw [HW2.out,← HW3.out,HU.out];unfold pieceL;rw [if_pos h1];exact dl_app _ _
       go_wp2_with fail;go_roundg (7-(i+1))
       case measure=>omega
       case rel=>exact ⟨i+1,W2++U,by omega,by omega,by go_num,by rw [HU.out],HW4.out,HC3.out,HB3.out⟩
      ·have h1b:(d.at i != 1)=true:=by simpa using h1
       obtain ⟨T,hT⟩:∃ T:ByteArray,T=⟨(Lib.itoa (d.at i)).toArray⟩:=⟨_,rfl⟩
       have hts:T.size=(Lib.itoa (d.at i)).length:=by rw [hT]; rfl
       have HT:=hid hT
       have hadd2:=add_len (n:=1) (m:=T.size) (by omega)
       have hadd3:=add_len (n:=(W2++U).size) (m:=1+T.size) (by rw [ByteArray.size_append]; omega)
       have HW4:Hid (((W2++U)++(⟨#[94]⟩++T)).data.toList=spcL (d.pc (i+1))):=by
        show _=_
        rw [HW2.out,← HW3.out,hT,HU.out];unfold pieceL;rw [if_neg h1];simp
       go_wp2_with fail;refine (HNM.out _).mono ?_
       rintro e w4 ⟨rfl,hb4⟩
       have HB4:=hid (bl_tr HB3.out hb4)
       have HC4:=hid (HC3.out.reach hb4)
       clear hb4 cb;go_wp2_with fail;go_roundg (7-(i+1))
       case measure=>omega
       case rel=>exact ⟨i+1,(W2++U)++((⟨#[94]⟩:ByteArray)++T),by omega,by omega,by go_num,by rw [HU.out,HT.out],HW4.out,HC4.out,HB4.out⟩
   ·have hltz:¬ (i:Int)<7:=by omega
    have e7:i=7:=by omega
    subst e7;by_cases hs:spcL (d.pc 7)=[]
    ·have e0:W=⟨#[]⟩:=bytes_eq (HW.out.trans hs)
     subst e0;have HR:Hid (dtxt d=[49]):=HE2.out.trans (if_pos (HN7.out.1 hs))
     go_wp2_with fail;go_ret;rw [HR.out];exact ⟨rfl,HBr.out⟩
    ·have HR:Hid (dtxt d=spcL (d.pc 7)):=HE2.out.trans (if_neg fun h=>hs (HN7.out.2 h))
     have e1:=bl_ne HW.out hs
     go_wp2_with fail;go_ret;rw [HR.out];exact ⟨by rw [bytes_eq HW.out]; rfl,HBr.out⟩
theorem sjoin_any (l:List W8)(b o c:Nat)(w:World)(hc:∀ j (h:j<l.length),w.cell? ⟨b,o+j,none⟩=some (.string ⟨(l[j]).toArray⟩))(hb:b<w.heap.size)(hlc:l.length≤c)(hl:l.length≤1000)(hs:(spcL l).length≤100000):
  Calls Tryz.prog 100 #[.slice (some ⟨b,o,none⟩) l.length c,.string ⟨#[32]⟩] w fun e w'=>e=.returned (.string ⟨(spcL l).toArray⟩)∧Below w.heap.size w w':=by
 have hm:(l.map fun x=>(⟨x.toArray⟩:ByteArray)).map (·.data.toList)=l:=by
  rw [List.map_map]
  conv=>rhs; rw [← List.map_id l]
  exact List.map_congr_left fun x _=>rfl
 have h:=Tryz.strings_Join b o c (l.map fun x=>⟨x.toArray⟩) ⟨#[32]⟩ w (fun j x hx=>by
  rw [List.getElem?_map]at hx
  cases hq:l[j]? with
  | none=>rw [hq]at hx; cases hx
  | some y=>
   rw [hq]at hx
   obtain ⟨hj,rfl⟩:=List.getElem?_eq_some_iff.1 hq
   obtain rfl:=Option.some.inj hx
   exact hc j hj) hb (by rw [List.length_map]; omega) (by rw [List.length_map]; exact hlc) (by rw [hm]; exact Nat.le_trans hs (by decide))
 rw [List.length_map,hm]at h
 exact h
theorem dtxt_len (d:Dm):(dtxt d).length≤300:=by
 unfold dtxt;split
 ·rename_i h
  split
  ·decide
  ·exact Nat.le_trans (spc_len d h 7 (Nat.le_refl _)) (by decide)
 ·exact Nat.zero_le _
theorem txt_len (n d:Int):(Q.txt n d).length≤50:=by
 unfold Q.txt;split
 ·rename_i h
  obtain ⟨h1,h2,h3,h4,_⟩:=(Q.valid_iff n d).1 h
  have e1:=Lib.itoa_length_le n (by omega) (by omega)
  have e2:=Lib.itoa_length_le d (by omega) (by omega)
  split
  ·omega
  ·rw [List.length_append,List.length_append]; simp; omega
 ·exact Nat.zero_le _
set_option maxRecDepth 100000 in
set_option maxHeartbeats 4000000 in
theorem udtext_any (d:Dm)(w:World)(ht:Tab w):Calls Tryz.prog 51 #[.agg d.cells] w fun e w'=>e=.returned (.string ⟨(dtxt d).toArray⟩)∧Below w.heap.size w w':=by
 have HE:Hid (dtxt d=if d.ok then (if d.pc 7=[]then [49]else spcL (d.pc 7))else []):=rfl
 have HV:=hid (uvalid_any d)
 have HB:=hid (b1 w (.cells #[.int .i64 d.a,.int .i64 d.b,.int .i64 d.c,.int .i64 d.d,.int .i64 d.e,.int .i64 d.f,.int .i64 d.g] 42))
 have HK:Hid (K7 (w.alloc (.cells #[.int .i64 d.a,.int .i64 d.b,.int .i64 d.c,.int .i64 d.d,.int .i64 d.e,.int .i64 d.f,.int .i64 d.g] 42)) w.heap.size d):=K7.new w d
 have HT:=hid ht
 have HSL:=hid (spc_len d)
 have HSS:=hid fun (i:Nat)(h:i<7)=>pc_step d h
 have HPL:=hid (Dm.pc_len d)
 have HAB:=hid (fun (h:d.ok=true)=>at_bnd h)
 have HBS:=hid fun w=>base_any w
 unfold Dm.cells at HV ⊢;clear ht;go_enter Tryz.func51,Tryz.ntmps51;go_upto_region 1 with (fail);generalize w.alloc (.cells #[.int .i64 d.a,.int .i64 d.b,.int .i64 d.c,.int .i64 d.d,.int .i64 d.e,.int .i64 d.f,.int .i64 d.g] 42)=w1 at*;obtain ⟨⟨p0,p1,p2,p3,p4,p5,p6⟩,_,_⟩:=HK.out.cells
 go_wp2_with fail;refine (HV.out w1).mono ?_
 rintro e w2 ⟨rfl,hb2⟩
 have HB2:=hid (bl_tr HB.out hb2)
 have HK2:=hid (HK.out.reach hb2)
 clear hb2 p0 p1 p2 p3 p4 p5 p6 HB HK HV;cases h1:d.ok with
 | false=>
  have HR:Hid (dtxt d=[]):=HE.out.trans (by rw [h1]; rfl)
  clear h1;go_wp2_with fail;go_ret;rw [HR.out];exact ⟨rfl,HB2.out⟩
 | true=>
  have HE2:Hid (dtxt d=if d.pc 7=[]then [49]else spcL (d.pc 7)):=HE.out.trans (by rw [h1]; rfl)
  have HA:=hid (HAB.out h1)
  have HL:=hid (HSL.out h1 7 (Nat.le_refl _))
  clear h1 HE HAB HSL;go_wp2_with fail;refine (HBS.out w2).mono ?_
  rintro e w3 ⟨rfl,hb3⟩
  have HB3:=hid (bl_tr HB2.out hb3)
  have HK3:=hid (HK2.out.reach hb3)
  clear hb3 HB2 HK2;go_wp2_with fail;go_loopg [3,4,5,10] 7 (fun gg s3 s4 s5 s10 wr=>∃ (i:Nat),i≤7∧7-i≤gg∧s10=.int .i64 i∧Aside (RL wr (w.heap.size+1) s3 (d.pc i))∧Aside (K7 wr w.heap.size d)∧Aside (Below w.heap.size w wr))
  case atStart=>exact ⟨0,by omega,by omega,rfl,World.ownsRow_nil _ _ _ _,HK3.out,HB3.out⟩
  case round=>
   obtain ⟨i,hi,hgg,rfl,HR,HC,HBr⟩:=hrel
   have HSZ:=hid HBr.out.size
   by_cases hlt:i<7
   ·have hltz:(i:Int)<7:=by omega
    have ca:=HC.out.at_ hlt
    have hix:=fun w=>base_ix hlt w
    have HST:=hid (HSS.out i hlt)
    have hab:=HA.out i
    have hpl:=HPL.out i hi
    have hil:=Lib.itoa_length_le (d.at i) (by omega) (by omega)
    have hbl:=base_len i hlt
    have HIT:=hid fun wz (htz:Tab wz)=>itoa_any (d.at i) wz (by omega) (by omega) htz
    generalize baseL[i]'hlt=nm at*;generalize d.at i=x at*
    by_cases h0:x=0
    ·subst h0
     have hq:d.pc (i+1)=d.pc i:=by rw [HST.out,if_pos rfl,List.append_nil]
     have HR2:=HR.out
     rw [← hq]at HR2
     have HR3:=hid HR2
     clear HR2 hq;go_wp2_with fail;go_roundg (7-(i+1))
     case measure=>omega
     case rel=>exact ⟨i+1,by omega,by omega,by go_num,HR3.out,HC.out,HBr.out⟩
    ·have HS2:Hid (d.pc (i+1)=d.pc i++[pieceL nm x]):=by show _=_; rw [HST.out,if_neg h0]
     have HSW:Hid (w.heap.size+1≤wr.heap.size):=HC.out.cells.2.2
     by_cases h1:x=1
     ·subst h1
      have HP:Hid (pieceL nm 1=nm):=rfl
      rw [HP.out]at HS2
      go_wp2_with (at_builtin; refine app30 wr rfl _ _ rfl (w.heap.size+1) _ (d.pc i) nm HR.out rfl rfl (by omega) HSW.out ?_)
      intro v8 w8 hr8 hb8;have HR8:Hid (RL w8 (w.heap.size+1) v8 (d.pc (i+1))):=by show RL _ _ _ _; rw [HS2.out]; exact hr8
      have HB8:=hid (HBr.out.trans (hb8.mono (Nat.le_succ _)))
      have HC8:=hid (HC.out.below hb8 (Nat.lt_succ_self _))
      clear hr8 hb8 ca;go_wp2_with fail;go_roundg (7-(i+1))
      case measure=>omega
      case rel=>exact ⟨i+1,by omega,by omega,by go_num,HR8.out,HC8.out,HB8.out⟩
     ·have h1b:(x == 1)=false:=by simpa using h1
      have h0b:(x != 0)=true:=by simpa using h0
      have HTr:=hid (HIT.out wr (HT.out.below HBr.out))
      have hadd1:=add_len (n:=nm.length) (m:=1) (by omega)
      have hadd2:=add_len (n:=nm.length+1) (m:=(Lib.itoa x).length) (by omega)
      have hex:((⟨nm.toArray⟩:ByteArray)++⟨#[94]⟩)++⟨(Lib.itoa x).toArray⟩=⟨(pieceL nm x).toArray⟩:=by
       unfold pieceL;rw [if_neg h1];apply ByteArray.ext
       simp [ByteArray.data_append]
      clear h0 h1;go_wp2_with fail;refine HTr.out.mono ?_
      rintro e w4 ⟨rfl,hb4⟩
      have HR4:=hid (HR.out.bel hb4)
      have HC4:=hid (HC.out.reach hb4)
      have HB4:=hid (bl_tr HBr.out hb4)
      have HSW4:Hid (w.heap.size+1≤w4.heap.size):=HC4.out.cells.2.2
      clear hb4 ca;generalize pieceL nm x=y at*;go_wp2_with (at_builtin; refine app30 w4 rfl _ _ rfl (w.heap.size+1) _ (d.pc i) y HR4.out rfl rfl (by omega) HSW4.out ?_)
      intro v8 w8 hr8 hb8;have HR8:Hid (RL w8 (w.heap.size+1) v8 (d.pc (i+1))):=by show RL _ _ _ _; rw [HS2.out]; exact hr8
      have HB8:=hid (HB4.out.trans (hb8.mono (Nat.le_succ _)))
      have HC8:=hid (HC4.out.below hb8 (Nat.lt_succ_self _))
      clear hr8 hb8;go_wp2_with fail;go_roundg (7-(i+1))
      case measure=>omega
      case rel=>exact ⟨i+1,by omega,by omega,by go_num,HR8.out,HC8.out,HB8.out⟩
   ·have hltz:¬ (i:Int)<7:=by omega
    have e7:i=7:=by omega
    subst e7;obtain ⟨A,cp,hv,⟨hc1,hc2⟩,hcell⟩:=HR.out.sl
    have hpl:=HPL.out 7 (Nat.le_refl _)
    subst hv;by_cases hp:d.pc 7=[]
    ·have HR2:Hid (dtxt d=[49]):=HE2.out.trans (if_pos hp)
     rw [hp];go_wp2_with fail;go_ret;rw [HR2.out];exact ⟨rfl,HBr.out⟩
    ·have HR2:Hid (dtxt d=spcL (d.pc 7)):=HE2.out.trans (if_neg hp)
     obtain ⟨b,o,rfl,hb,hx⟩:=hcell hp
     have hpos:0<(d.pc 7).length:=List.length_pos_iff.2 hp
     have hz:(((d.pc 7).length:Int) == 0)=false:=by rw [beq_eq_false_iff_ne]; omega
     have HJ:=hid (sjoin_any (d.pc 7) b o cp wr hx hb hc1 (by omega) (Nat.le_trans HL.out (by decide)))
     clear hcell hx;go_wp2_with fail;refine HJ.out.mono ?_
     rintro e w4 ⟨rfl,hb4⟩
     have HB4:=hid (bl_tr HBr.out hb4)
     clear hb4;go_wp2_with fail;go_ret;rw [HR2.out];exact ⟨rfl,HB4.out⟩
set_option maxRecDepth 100000 in
set_option maxHeartbeats 4000000 in
theorem vtext_any (v:V)(w:World)(hf:v.fit)(ht:Tab w):Calls Tryz.prog 25 #[.agg v.cells] w fun r w'=>r=.returned (.string ⟨(vtxt v).toArray⟩)∧Below w.heap.size w w':=by
 have HT:=hid ht
 clear ht;have HE:Hid (vtxt v=if Q.validQ v.num v.den&&v.dim.ok then (if v.dim=zD then Q.txt v.num v.den else Q.txt v.num v.den++32::dtxt v.dim)else []):=rfl
 have HVV:=hid fun wz=>validvalue_any v wz hf.1 hf.2.1 hf.2.2.1 hf.2.2.2
 have HNU:=hid fun wz=>number_val v wz
 have HTX:=hid fun wz (htz:Tab wz)=>text_any v.num v.den wz hf.1 hf.2.1 hf.2.2.1 hf.2.2.2 htz
 have HPU:=hid fun wz=>pure_any v wz
 have HDT:=hid fun wz (htz:Tab wz)=>udtext_any v.dim wz htz
 have HK:=hid (K9.new w v)
 have HB:=hid (b1 w (.cells v.cells 44))
 have hl1:=txt_len v.num v.den
 have hl2:=dtxt_len v.dim
 unfold V.cells at HK HB HVV HNU HPU ⊢;unfold Dm.cells at HDT;go_enter Tryz.func25,Tryz.ntmps25;go_upto_region 1 with (fail);generalize w.alloc (.cells #[.int .i64 v.num,.int .i64 v.den,.int .i64 v.dim.a,.int .i64 v.dim.b,.int .i64 v.dim.c,.int .i64 v.dim.d,.int .i64 v.dim.e,.int .i64 v.dim.f,.int .i64 v.dim.g] 44)=w1 at*;obtain ⟨⟨⟨z0,z1⟩,z2,z3,z4,z5,z6,z7,z8⟩,zf,_⟩:=HK.out.cells
 go_wp2_with fail;refine (HVV.out w1).mono ?_
 rintro r w2 ⟨rfl,hb2⟩
 have HB2:=hid (HB.out.trans (hb2.mono HB.out.size))
 have HK2:=hid (HK.out.reach hb2)
 clear hb2 z0 z1 z2 z3 z4 z5 z6 z7 z8 zf HK HB;obtain ⟨⟨⟨z0,z1⟩,z2,z3,z4,z5,z6,z7,z8⟩,zf,_⟩:=HK2.out.cells
 cases h1:(Q.validQ v.num v.den&&v.dim.ok) with
 | false=>
  have HR:Hid (vtxt v=[]):=HE.out.trans (by rw [h1]; rfl)
  clear h1;go_wp2_with fail;go_ret;rw [HR.out];exact ⟨rfl,HB2.out⟩
 | true=>
  have HE2:Hid (vtxt v=if v.dim=zD then Q.txt v.num v.den else Q.txt v.num v.den++32::dtxt v.dim):=HE.out.trans (by rw [h1]; rfl)
  clear h1 HE;go_wp2_with fail;refine (HNU.out w2).mono ?_
  rintro r w3 ⟨rfl,hb3⟩
  have HB3:=hid (HB2.out.trans (hb3.mono HB2.out.size))
  have HK3:=hid (HK2.out.reach hb3)
  clear hb3 z0 z1 z2 z3 z4 z5 z6 z7 z8 zf HK2;go_wp2_with fail;refine (HTX.out w3 (HT.out.below HB3.out)).mono ?_
  rintro r w4 ⟨rfl,hb4⟩
  have HB4:=hid (HB3.out.trans (hb4.mono HB3.out.size))
  have HK4:=hid (HK3.out.reach hb4)
  clear hb4 HK3;obtain ⟨⟨⟨z0,z1⟩,z2,z3,z4,z5,z6,z7,z8⟩,zf,_⟩:=HK4.out.cells
  go_wp2_with fail;refine (HPU.out w4).mono ?_
  rintro r w5 ⟨rfl,hb5⟩
  have HB5:=hid (HB4.out.trans (hb5.mono HB4.out.size))
  have HK5:=hid (HK4.out.reach hb5)
  clear hb5 z0 z1 z2 z3 z4 z5 z6 z7 z8 zf HK4;obtain ⟨⟨⟨z0,z1⟩,z2,z3,z4,z5,z6,z7,z8⟩,zf,_⟩:=HK5.out.cells
  by_cases hd:v.dim=zD
  ·have HR:Hid (vtxt v=Q.txt v.num v.den):=HE2.out.trans (if_pos hd)
   rw [decide_eq_true hd];clear hd;go_wp2_with fail;go_ret;rw [HR.out];exact ⟨rfl,HB5.out⟩
  ·have HR:Hid (vtxt v=Q.txt v.num v.den++32::dtxt v.dim):=HE2.out.trans (if_neg hd)
   rw [decide_eq_false hd];have hadd1:=add_len (n:=(Q.txt v.num v.den).length) (m:=1) (by omega)
   have hadd2:=add_len (n:=(Q.txt v.num v.den).length+1) (m:=(dtxt v.dim).length) (by omega)
   have HX:Hid (((⟨(Q.txt v.num v.den).toArray⟩:ByteArray)++⟨#[32]⟩)++⟨(dtxt v.dim).toArray⟩=⟨(Q.txt v.num v.den++32::dtxt v.dim).toArray⟩):=by
    apply ByteArray.ext
    simp [ByteArray.data_append]
   clear hd;go_wp2_with fail;refine (HDT.out w5 (HT.out.below HB5.out)).mono ?_
   rintro r w6 ⟨rfl,hb6⟩
   have HB6:=hid (HB5.out.trans (hb6.mono HB5.out.size))
   clear hb6;go_wp2_with fail;go_ret;rw [HR.out,← HX.out];exact ⟨rfl,HB6.out⟩
set_option maxRecDepth 100000 in
set_option maxHeartbeats 4000000 in
theorem rvtext_any (v:V)(w:World)(hf:v.fit):Calls Tryz.prog 26 #[.agg v.cells] w fun r w'=>r=.returned (.string ⟨(vtxt v).toArray⟩)∧Below w.heap.size w w':=by
 have HE:Hid (vtxt v=if Q.validQ v.num v.den&&v.dim.ok then (if v.dim=zD then Q.txt v.num v.den else Q.txt v.num v.den++32::dtxt v.dim)else []):=rfl
 have HVV:=hid fun wz=>rvv_any v wz hf
 have HNU:=hid fun wz=>rnum_any v wz
 have HTX:=hid fun wz=>Q.refText_any v.num v.den wz hf.1 hf.2.1 hf.2.2.1 hf.2.2.2
 have HPU:=hid fun wz=>rplain_any v wz
 have HDT:=hid fun wz=>rdtext_any v.dim wz
 have HK:=hid (K9.new w v)
 have HB:=hid (b1 w (.cells v.cells 44))
 have hl1:=txt_len v.num v.den
 have hl2:=dtxt_len v.dim
 unfold V.cells at HK HB HVV HNU HPU ⊢;unfold Dm.cells at HDT;go_enter Tryz.func26,Tryz.ntmps26;go_upto_region 1 with (fail);generalize w.alloc (.cells #[.int .i64 v.num,.int .i64 v.den,.int .i64 v.dim.a,.int .i64 v.dim.b,.int .i64 v.dim.c,.int .i64 v.dim.d,.int .i64 v.dim.e,.int .i64 v.dim.f,.int .i64 v.dim.g] 44)=w1 at*;obtain ⟨⟨⟨z0,z1⟩,z2,z3,z4,z5,z6,z7,z8⟩,zf,_⟩:=HK.out.cells
 go_wp2_with fail;refine (HVV.out w1).mono ?_
 rintro r w2 ⟨rfl,hb2⟩
 have HB2:=hid (HB.out.trans (hb2.mono HB.out.size))
 have HK2:=hid (HK.out.reach hb2)
 clear hb2 z0 z1 z2 z3 z4 z5 z6 z7 z8 zf HK HB;obtain ⟨⟨⟨z0,z1⟩,z2,z3,z4,z5,z6,z7,z8⟩,zf,_⟩:=HK2.out.cells
 cases h1:(Q.validQ v.num v.den&&v.dim.ok) with
 | false=>
  have HR:Hid (vtxt v=[]):=HE.out.trans (by rw [h1]; rfl)
  clear h1;go_wp2_with fail;go_ret;rw [HR.out];exact ⟨rfl,HB2.out⟩
 | true=>
  have HE2:Hid (vtxt v=if v.dim=zD then Q.txt v.num v.den else Q.txt v.num v.den++32::dtxt v.dim):=HE.out.trans (by rw [h1]; rfl)
  clear h1 HE;go_wp2_with fail;refine (HNU.out w2).mono ?_
  rintro r w3 ⟨rfl,hb3⟩
  have HB3:=hid (HB2.out.trans (hb3.mono HB2.out.size))
  have HK3:=hid (HK2.out.reach hb3)
  clear hb3 z0 z1 z2 z3 z4 z5 z6 z7 z8 zf HK2;go_wp2_with fail;refine (HTX.out w3).mono ?_
  rintro r w4 ⟨rfl,hb4⟩
  have HB4:=hid (HB3.out.trans (hb4.mono HB3.out.size))
  have HK4:=hid (HK3.out.reach hb4)
  clear hb4 HK3;obtain ⟨⟨⟨z0,z1⟩,z2,z3,z4,z5,z6,z7,z8⟩,zf,_⟩:=HK4.out.cells
  go_wp2_with fail;refine (HPU.out w4).mono ?_
  rintro r w5 ⟨rfl,hb5⟩
  have HB5:=hid (HB4.out.trans (hb5.mono HB4.out.size))
  have HK5:=hid (HK4.out.reach hb5)
  clear hb5 z0 z1 z2 z3 z4 z5 z6 z7 z8 zf HK4;obtain ⟨⟨⟨z0,z1⟩,z2,z3,z4,z5,z6,z7,z8⟩,zf,_⟩:=HK5.out.cells
  by_cases hd:v.dim=zD
  ·have HR:Hid (vtxt v=Q.txt v.num v.den):=HE2.out.trans (if_pos hd)
   rw [decide_eq_true hd];clear hd;go_wp2_with fail;go_ret;rw [HR.out];exact ⟨rfl,HB5.out⟩
  ·have HR:Hid (vtxt v=Q.txt v.num v.den++32::dtxt v.dim):=HE2.out.trans (if_neg hd)
   rw [decide_eq_false hd];have hadd1:=add_len (n:=1) (m:=(dtxt v.dim).length) (by omega)
   have hadd2:=add_len (n:=(Q.txt v.num v.den).length) (m:=1+(dtxt v.dim).length) (by omega)
   have HX:Hid ((⟨(Q.txt v.num v.den).toArray⟩:ByteArray)++(⟨#[32]⟩++⟨(dtxt v.dim).toArray⟩)=⟨(Q.txt v.num v.den++32::dtxt v.dim).toArray⟩):=by
    apply ByteArray.ext
    simp [ByteArray.data_append]
   clear hd;go_wp2_with fail;refine (HDT.out w5).mono ?_
   rintro r w6 ⟨rfl,hb6⟩
   have HB6:=hid (HB5.out.trans (hb6.mono HB5.out.size))
   clear hb6;go_wp2_with fail;go_ret;rw [HR.out,← HX.out];exact ⟨rfl,HB6.out⟩
end Go.Proofs.YtknpigdpepmimaaGreatDoor
