/- Values are valid; evaluations are counted; the count does not matter where there is a. -/
import Derived.Lib.ItoaLen
import Derived.Lib.ItoaMem
import Derived.Laws.BytesString
import Derived.Test.YtknpigdpepmimaaGreatDoorV03
import Derived.Test.YtknpigdpepmimaaGreatDoorV04
import Derived.Test.YtknpigdpepmimaaGreatDoorV06
import Derived.Test.YtknpigdpepmimaaGreatDoorV13
import Derived.OwnWalk
import Derived.Laws.IdiomStrings
import Derived.Deep.LoopGhost
namespace Go.Proofs.YtknpigdpepmimaaGreatDoor
open Go.Lib(hid)
theorem nz1:¬ (1:Int)=0:=by decide
theorem nz6:¬ (6:Int)=0:=by decide
theorem nz11:¬ (11:Int)=0:=by decide
theorem nz13:¬ (13:Int)=0:=by decide
theorem nz15:¬ (15:Int)=0:=by decide
def OKg (g:G):Prop:=∀ c,(g c).1.e=0→(g c).1.v.ok
def Mon (g:G):Prop:=∀ c,c≤(g c).2∧(c≤2000→(g c).2≤2000)
theorem under_e (r:R) (i:Int):(r.under i).e=r.e:=by unfold R.under; split<;>rfl
theorem under_v (r:R) (i:Int):(r.under i).v=r.v:=by unfold R.under; split<;>rfl
theorem lookR_ok {α:Type}{f:α→Option V}{x:α}(h:∀ v,f x=some v→v.ok)(he:(lookR f x).e=0):(lookR f x).v.ok:=by
 unfold lookR at he ⊢;cases hf:f x with
 | none=>rw [hf]at he; exact absurd he nz11
 | some v=>exact h v hf
theorem argsG_ok:∀ (gs:List G)(i c:Nat)(out:List V),(∀ g∈gs,OKg g)→(∀ x∈out,x.ok)→(argsG i gs c out).1.1.e=0→(∀ x∈(argsG i gs c out).1.2,x.ok)∧(argsG i gs c out).1.2.length=out.length+gs.length
 | [],i,c,out,_,ho,_=>⟨ho,rfl⟩
 | g::gs,i,c,out,hg,ho,he=>by
  rw [argsG]at he ⊢
  by_cases h0:(g c).1.e=0
  ·rw [if_pos h0]at he ⊢
   have:=argsG_ok gs (i+1) (g c).2 (out++[(g c).1.v]) (fun g h=>hg g (List.mem_cons_of_mem _ h)) (fun x hx=>by
    rcases List.mem_append.1 hx with hx|hx
    ·exact ho x hx
    ·rw [List.mem_singleton]at hx; subst hx; exact hg g List.mem_cons_self c h0) he
   refine ⟨this.1,?_⟩
   rw [this.2,List.length_append,List.length_cons,List.length_cons,List.length_nil]; omega
  ·rw [if_neg h0]at he
   exact absurd (show ((g c).1.under i).e=0 from he) (by rw [under_e]; exact h0)
theorem argsG_mon:∀ (gs:List G)(i c:Nat)(out:List V),(∀ g∈gs,Mon g)→c≤(argsG i gs c out).2∧(c≤2000→(argsG i gs c out).2≤2000)
 | [],i,c,out,_=>⟨Nat.le_refl _,fun h=>h⟩
 | g::gs,i,c,out,hg=>by
  rw [argsG];have h1:=hg g List.mem_cons_self c
  split
  ·have:=argsG_mon gs (i+1) (g c).2 (out++[(g c).1.v]) (fun g h=>hg g (List.mem_cons_of_mem _ h))
   exact ⟨Nat.le_trans h1.1 this.1,fun h=>this.2 (h1.2 h)⟩
  ·exact h1
theorem loopB_ok (body:Int→G)(add:V→V→V × Int)(fr hi:Int)(hb:∀ k,fr≤k→k≤hi→OKg (body k))(ha:∀ a b,a.ok→b.ok→(add a b).2=0→(add a b).1.ok):
  ∀ (f:Nat) (k:Int)(v:V) (c:Nat),fr≤k→v.ok→(loopB body add fr hi f k v c).1.e=0→(loopB body add fr hi f k v c).1.v.ok
 | 0,_,_,_,_,_,h=>absurd h nz6
 | f+1,k,v,c,hk,hv,h=>by
  rw [loopB]at h ⊢
  split at h
  ·rename_i h1
   rw [if_pos h1];split at h
   ·exact absurd h nz6
   ·rename_i h2
    rw [if_neg h2];split at h
    ·rename_i h3
     rw [if_pos h3];have h3':=hb k hk h1 (c+1) h3
     split at h
     ·rename_i h4
      rw [if_pos h4];exact loopB_ok body add fr hi hb ha f (k+1) _ _ (by omega) h3' h
     ·rename_i h4
      rw [if_neg h4];split at h
      ·rename_i h5
       rw [if_pos h5];exact loopB_ok body add fr hi hb ha f (k+1) _ _ (by omega) (ha _ _ hv h3' h5) h
      ·rename_i h5; exact absurd h h5
    ·rename_i h3
     exact absurd (show ((body k (c+1)).1.under 2).e=0 from h) (by rw [under_e]; exact h3)
  ·rename_i h1
   rw [if_neg h1]; exact hv
theorem loopB_mon (body:Int→G)(add:V→V→V × Int)(fr hi:Int)(hb:∀ k,Mon (body k)):
  ∀ (f:Nat) (k:Int)(v:V) (c:Nat),c≤(loopB body add fr hi f k v c).2∧(c≤2000→(loopB body add fr hi f k v c).2≤2000)
 | 0,_,_,_=>⟨Nat.le_refl _,fun h=>h⟩
 | f+1,k,v,c=>by
  rw [loopB];have h3:=hb k (c+1)
  split
  ·split
   ·exact ⟨Nat.le_refl _,fun h=>h⟩
   ·rename_i h2
    split
    ·split
     ·have:=loopB_mon body add fr hi hb f (k+1) (body k (c+1)).1.v (body k (c+1)).2
      exact ⟨by omega,fun h=>this.2 (h3.2 (by omega))⟩
     ·split
      ·have:=loopB_mon body add fr hi hb f (k+1) (add v (body k (c+1)).1.v).1 (body k (c+1)).2
       exact ⟨by omega,fun h=>this.2 (h3.2 (by omega))⟩
      ·exact ⟨by show c≤(body k (c+1)).2; omega,fun h=>h3.2 (by omega)⟩
    ·exact ⟨by show c≤(body k (c+1)).2; omega,fun h=>h3.2 (by omega)⟩
  ·exact ⟨Nat.le_refl _,fun h=>h⟩
theorem addOf_ok (n:W8)(a b:V)(ha:a.ok)(h:(addOf n a b).2=0):(addOf n a b).1.ok:=by
 unfold addOf at h ⊢;split at h<;>rename_i hn
 ·rw [if_pos hn]; exact sumV_ok ha h
 ·rw [if_neg hn]; exact proV_ok h
theorem zeroOf_ok (n:W8):(zeroOf n).ok:=by
 unfold zeroOf;split
 ·exact wh_ok (by omega)
 ·exact wh_ok (by omega)
def inQ (k:Int):Prop:=-2147483647≤k∧k≤2147483647
theorem limG_ok {n:W8}{h:Int→G}(hh:∀ k,inQ k→OKg (h k)){a:(R × List V) × Nat}(ha:a.1.1.e=0→∀ x∈a.1.2,x.ok)(he:(limG n h a).1.e=0):(limG n h a).1.v.ok:=by
 obtain ⟨⟨r,l⟩,c⟩:=a
 unfold limG at he ⊢;simp only at he ⊢ ha
 split at he
 ·rename_i h0
  rw [if_pos h0];have hl:=ha h0
  rcases l with _|⟨x,_|⟨y,_|⟨z,l⟩⟩⟩
  ·exact absurd he nz1
  ·exact absurd he nz1
  ·simp only at he ⊢
   split at he
   ·rename_i h1
    rw [if_pos h1];have hx:=(hl x (by simp)).num
    have hy:=(hl y (by simp)).num
    exact loopB_ok h (addOf n) x.num y.num (fun k h1 h2=>hh k ⟨by omega,by omega⟩) (fun a b ha _ h=>addOf_ok n a b ha h) 2001 x.num (zeroOf n) c (Int.le_refl _) (zeroOf_ok n) he
   ·rename_i h1; exact absurd he h1
  ·exact absurd he nz1
 ·rename_i h0; exact absurd he h0
theorem limG_mon {n:W8}{h:Int→G}(hh:∀ k,Mon (h k))(a:(R × List V) × Nat):a.2≤(limG n h a).2∧(a.2≤2000→(limG n h a).2≤2000):=by
 obtain ⟨⟨r,l⟩,c⟩:=a
 unfold limG;simp only
 split
 ·rcases l with _|⟨x,_|⟨y,_|⟨z,l⟩⟩⟩
  ·exact ⟨Nat.le_refl _,fun h=>h⟩
  ·exact ⟨Nat.le_refl _,fun h=>h⟩
  ·simp only
   split
   ·exact loopB_mon h (addOf n) x.num y.num hh 2001 x.num (zeroOf n) c
   ·exact ⟨Nat.le_refl _,fun h=>h⟩
  ·exact ⟨Nat.le_refl _,fun h=>h⟩
 ·exact ⟨Nat.le_refl _,fun h=>h⟩
theorem units_ok:∀ p∈unitTab,p.2.ok:=by
 unfold V.ok;decide
theorem lookup_mem {β:Type}:∀ {l:List (W8 × β)}{x:W8}{v:β},l.lookup x=some v→(x,v)∈l
 | [],_,_,h=>by simp at h
 | (y,u)::l,x,v,h=>by
  rw [List.lookup_cons]at h
  by_cases hx:x=y
  ·subst hx; simp at h; subst h; exact List.mem_cons_self
  ·have:(x == y)=false:=by simpa using hx
   rw [this]at h
   exact List.mem_cons_of_mem _ (lookup_mem h)
def Sc.ok (s:Sc):Prop:=∀ p∈s,p.2.ok
theorem num_ok {n:W8}(h:(numR' n).e=0):(numR' n).v.ok:=join_ok parse_valid (fun _=>rfl) h
theorem stepN_cases (k:Int)(n:W8)(lk:R)(gs:List G)(hs:List (Int→G))(P:R × Nat→Prop) (c:Nat)(h1:P (numR' n,c))(h2:P (lk,c))(h3:P (unitR n,c))(h5:P (bindG n gs hs c))(h4:P (applyG n gs c)):P (stepN k n lk gs hs c):=by
 unfold stepN;split
 ·exact h1
 ·split
  ·exact h2
  ·split
   ·exact h3
   ·split
    ·exact h5
    ·exact h4
theorem ev_ok:∀ (N:Nat)(t:T),t.size≤N→∀ (s:Sc),s.ok→OKg (ev t s)
 | 0,t,h,_,_=>by have:=size_pos t; omega
 | N+1,t,h,s,hs=>fun c=>by
  have ih:=fun (u:T)(hu:u∈t.args)=>ev_ok N u (size_list h hu)
  rw [ev_eq];refine stepN_cases _ _ _ _ _ (fun r=>r.1.e=0→r.1.v.ok) c num_ok (lookR_ok fun v hv=>hs _ (lookup_mem hv)) (lookR_ok fun v hv=>units_ok _ (lookup_mem hv)) ?_ ?_
  ·by_cases h3:t.args.length=3
   ·obtain ⟨a,b,e,hargs⟩:=three h3
    rw [hargs]at ih ⊢
    rw [evs,evs,evs,evs,evh,evh,evh,evh,bindG_three];split
    ·refine limG_ok (fun k hk=>ih e (by simp) _ (fun p hp=>?_)) (fun h0=>(argsG_ok _ _ _ _ (fun g hg=>?_) (fun x hx=>by cases hx) h0).1)
     ·rcases List.mem_cons.1 hp with rfl|hp
      ·exact wh_ok hk
      ·exact hs p hp
     ·rcases List.mem_cons.1 hg with rfl|hg
      ·exact ih a (by simp) s hs
      ·rw [List.mem_singleton]at hg; subst hg; exact ih b (by simp) s hs
    ·intro h; first|exact absurd h nz13|exact absurd h nz15
   ·intro hh
    rw [bindG_len (by rw [evs_map,List.length_map]; exact h3)]at hh
    split at hh<;>first|exact absurd hh nz13|exact absurd hh nz15
  ·unfold applyG
   split
   ·intro h; first|exact absurd h nz13|exact absurd h nz15
   ·rename_i ar k _
    split
    ·split
     ·rename_i h0
      intro he
      exact opK_ok _ _ (argsG_ok _ _ _ _ (fun g hg=>by
       rw [evs_map]at hg
       obtain ⟨u,hu,rfl⟩:=List.mem_map.1 hg
       exact ih u hu s hs) (fun x hx=>by cases hx) h0).1 he
     ·rename_i h0; intro he; exact absurd he h0
    ·intro h; first|exact absurd h nz13|exact absurd h nz15
theorem ev_mon:∀ (N:Nat)(t:T),t.size≤N→∀ (s:Sc),Mon (ev t s)
 | 0,t,h,_=>by have:=size_pos t; omega
 | N+1,t,h,s=>fun c=>by
  have ih:=fun (u:T)(hu:u∈t.args)=>ev_mon N u (size_list h hu)
  have hr:∀ r:R,c≤((r,c):R × Nat).2∧(c≤2000→((r,c):R × Nat).2≤2000):=fun r=>⟨Nat.le_refl _,fun h=>h⟩
  have hgs:∀ g∈evs t.args s,Mon g:=fun g hg=>by
   rw [evs_map]at hg
   obtain ⟨u,hu,rfl⟩:=List.mem_map.1 hg
   exact ih u hu s
  rw [ev_eq];refine stepN_cases _ _ _ _ _ (fun r=>c≤r.2∧(c≤2000→r.2≤2000)) c (hr _) (hr _) (hr _) ?_ ?_
  ·by_cases h3:t.args.length=3
   ·obtain ⟨a,b,e,hargs⟩:=three h3
    rw [hargs]at ih ⊢
    rw [evs,evs,evs,evs,evh,evh,evh,evh,bindG_three];split
    ·have h1:=argsG_mon [ev a s,ev b s] 0 c [] (fun g hg=>by
      rcases List.mem_cons.1 hg with rfl|hg
      ·exact ih a (by simp) s
      ·rw [List.mem_singleton]at hg; subst hg; exact ih b (by simp) s)
     have h2:=limG_mon (n:=t.name) (h:=fun k=>ev e ((t.var,whV k)::s)) (fun k=>ih e (by simp) _) (argsG 0 [ev a s,ev b s] c [])
     exact ⟨Nat.le_trans h1.1 h2.1,fun h=>h2.2 (h1.2 h)⟩
    ·exact hr _
   ·rw [bindG_len (by rw [evs_map,List.length_map]; exact h3)]
    split<;>exact hr _
  ·unfold applyG
   split
   ·exact hr _
   ·split
    ·have h1:=argsG_mon (evs t.args s) 0 c [] hgs
     split<;>exact h1
    ·exact hr _
theorem under_len (r:R) (i:Int):(r.under i).path.length≤r.path.length+1:=by
 unfold R.under; split
 ·omega
 ·simp
theorem argsG_path {N:Nat}:∀ (gs:List G)(i c:Nat)(out:List V),(∀ g∈gs,∀ c,(g c).1.path.length≤N)→(argsG i gs c out).1.1.path.length≤N+1
 | [],_,_,_,_=>Nat.zero_le _
 | g::gs,i,c,out,hg=>by
  rw [argsG];split
  ·exact argsG_path gs _ _ _ (fun g h=>hg g (List.mem_cons_of_mem _ h))
  ·have h1:=under_len (g c).1 i
   have h2:=hg g List.mem_cons_self c
   show ((g c).1.under i).path.length≤_
   omega
theorem loopB_path {N:Nat}(body:Int→G)(add:V→V→V × Int)(fr hi:Int)(hb:∀ k c,(body k c).1.path.length≤N):
  ∀ (f:Nat) (k:Int)(v:V) (c:Nat),(loopB body add fr hi f k v c).1.path.length≤N+1
 | 0,_,_,_=>Nat.zero_le _
 | f+1,k,v,c=>by
  rw [loopB];split
  ·split
   ·exact Nat.zero_le _
   ·split
    ·split
     ·exact loopB_path body add fr hi hb f _ _ _
     ·split
      ·exact loopB_path body add fr hi hb f _ _ _
      ·exact Nat.zero_le _
    ·have h1:=under_len (body k (c+1)).1 2
     have h2:=hb k (c+1)
     show ((body k (c+1)).1.under 2).path.length≤_
     omega
  ·exact Nat.zero_le _
theorem limE_path (x y:V):(limE x y).path.length≤1:=by
 unfold limE;split
 ·split
  ·split
   ·split
    ·exact Nat.zero_le _
    ·exact Nat.le_refl _
   ·exact Nat.le_refl _
  ·exact Nat.le_refl _
 ·exact Nat.le_refl _
theorem limG_path {N:Nat}{n:W8}{h:Int→G}(hh:∀ k c,(h k c).1.path.length≤N){a:(R × List V) × Nat}(ha:a.1.1.path.length≤N+1):(limG n h a).1.path.length≤N+1:=by
 obtain ⟨⟨r,l⟩,c⟩:=a
 unfold limG;simp only at ha ⊢
 split
 ·rcases l with _|⟨x,_|⟨y,_|⟨z,l⟩⟩⟩
  ·exact Nat.zero_le _
  ·exact Nat.zero_le _
  ·simp only
   split
   ·exact loopB_path h (addOf n) x.num y.num hh 2001 x.num (zeroOf n) c
   ·exact Nat.le_trans (limE_path x y) (by omega)
  ·exact Nat.zero_le _
 ·exact ha
theorem lookR_path {α:Type}(f:α→Option V)(x:α):(lookR f x).path.length≤0:=by
 unfold lookR; split<;>exact Nat.le_refl _
theorem ev_path:∀ (N:Nat)(t:T),t.size≤N→∀ (s:Sc) (c:Nat),(ev t s c).1.path.length≤N
 | 0,t,h,_,_=>by have:=size_pos t; omega
 | N+1,t,h,s,c=>by
  have ih:=fun (u:T)(hu:u∈t.args)=>ev_path N u (size_list h hu)
  have hgs:∀ g∈evs t.args s,∀ c,(g c).1.path.length≤N:=fun g hg=>by
   rw [evs_map]at hg
   obtain ⟨u,hu,rfl⟩:=List.mem_map.1 hg
   exact ih u hu s
  rw [ev_eq];refine stepN_cases _ _ _ _ _ (fun r=>r.1.path.length≤N+1) c (Nat.zero_le _) (Nat.le_trans (lookR_path _ _) (Nat.zero_le _)) (Nat.le_trans (lookR_path _ _) (Nat.zero_le _)) ?_ ?_
  ·by_cases h3:t.args.length=3
   ·obtain ⟨a,b,e,hargs⟩:=three h3
    rw [hargs]at ih ⊢
    rw [evs,evs,evs,evs,evh,evh,evh,evh,bindG_three];split
    ·refine limG_path (fun k c=>ih e (by simp) _ c) (argsG_path _ _ _ _ (fun g hg=>?_))
     rcases List.mem_cons.1 hg with rfl|hg
     ·exact ih a (by simp) s
     ·rw [List.mem_singleton]at hg; subst hg; exact ih b (by simp) s
    ·exact Nat.zero_le _
   ·rw [bindG_len (by rw [evs_map,List.length_map]; exact h3)]
    split<;>exact Nat.zero_le _
  ·unfold applyG
   split
   ·exact Nat.zero_le _
   ·split
    ·split
     ·exact Nat.zero_le _
     ·exact argsG_path _ _ _ _ hgs
    ·exact Nat.zero_le _
end Go.Proofs.YtknpigdpepmimaaGreatDoor
namespace Go.Proofs.YtknpigdpepmimaaGreatDoor.Q
open Go.Lib(hid)
open Go.RowKit
theorem dec_ten (n:Nat)(h:¬ n<10):Lib.decDigits n=Lib.decDigits (n / 10)++Lib.decDigits (n % 10):=by
 rw [Lib.decDigits_one (i:=n % 10) (Nat.mod_lt _ (by decide))]
 conv=>lhs; rw [Lib.decDigits]
 rw [dif_neg h]
theorem conv_one (b:Int)(w:World):(convert 183 9 (.slice (some ⟨w.heap.size,0,none⟩) 1 1)).run Tryz.prog (w.alloc (.cells #[.int .u8 b] 5))=.ok (.string ⟨#[UInt8.ofNat b.toNat]⟩) (w.alloc (.cells #[.int .u8 b] 5)):=by
 rw [run_convert_bytes_string _ 183 9 5 _ _ _ Tryz.underlying183 Tryz.underlying5 Tryz.underlying9];rw [run_bytesToString _ _ _ _ [b] (by simp [loadCells,go_sem])]
 rfl
theorem cat (a b:List UInt8):(⟨a.toArray⟩:ByteArray)++⟨b.toArray⟩=⟨(a++b).toArray⟩:=by
 apply ByteArray.ext
 rw [ByteArray.data_append];simp
set_option maxHeartbeats 400000 in
theorem digit1 (n:Nat)(w:World)(h:n<10):
  Calls Tryz.prog 104 #[.int .i64 n] w fun e w'=>e=.returned (.string ⟨(Lib.decDigits n).toArray⟩)∧Below w.heap.size w w':=by
 have hz:(n:Int)<10:=by omega
 have hc:=fun w=>conv_one (48+(n:Int)) w
 go_enter Tryz.func104,Tryz.ntmps104;go_wp2_with fail;go_ret;refine ⟨?_,(Below.refl _ _).alloc (Nat.le_refl _) _⟩
 rw [Lib.decDigits_one h];rw [show (48+n:Nat)=(48+(n:Int)).toNat from by omega]
 rfl
set_option maxHeartbeats 400000 in
theorem digits_any (k:Nat):∀ (n:Nat)(w:World),n≤k→n≤9223372036854775807→
  Calls Tryz.prog 104 #[.int .i64 n] w fun e w'=>e=.returned (.string ⟨(Lib.decDigits n).toArray⟩)∧Below w.heap.size w w':=by
 induction k with
 | zero=>intro n w hk hN; exact digit1 n w (by omega)
 | succ k ih=>
  intro n w hk hN;by_cases h:n<10
  ·exact digit1 n w h
  ·have hz:¬ (n:Int)<10:=by omega
   have IH:=hid ih
   have hl1:(Lib.decDigits (n / 10)).length≤30:=by have:=Lib.itoa_length_le ((n / 10:Nat):Int) (by omega) (by omega); rw [Lib.itoa_nonneg]at this; omega
   have hl2:(Lib.decDigits (n % 10)).length≤30:=by have:=Lib.itoa_length_le ((n % 10:Nat):Int) (by omega) (by omega); rw [Lib.itoa_nonneg]at this; omega
   have HD:=hid (dec_ten n h)
   clear ih;go_enter Tryz.func104,Tryz.ntmps104;go_wp2_with fail;rw [show ((n:Int) / 10)=((n / 10:Nat):Int)from by simp]
   refine (IH.out (n / 10) _ (by omega) (by omega)).mono ?_
   rintro e w1 ⟨rfl,hb1⟩
   go_wp2_with fail;rw [show ((n:Int) % 10)=((n % 10:Nat):Int)from by simp]
   refine (digit1 (n % 10) _ (Nat.mod_lt _ (by decide))).mono ?_
   rintro e w2 ⟨rfl,hb2⟩
   have hB:Below w.heap.size w w2:=hb1.trans (hb2.mono hb1.size)
   clear hb1 hb2;generalize Lib.decDigits (n / 10)=d1 at*;generalize Lib.decDigits (n % 10)=d2 at*;go_wp2
   go_ret;refine ⟨?_,hB⟩
   rw [HD.out,← cat];rfl
set_option maxHeartbeats 400000 in
theorem number_any (n:Int)(w:World)(h0:-9223372036854775807≤n)(h1:n≤9223372036854775807):
  Calls Tryz.prog 56 #[.int .i64 n] w fun e w'=>e=.returned (.string ⟨(Lib.itoa n).toArray⟩)∧Below w.heap.size w w':=by
 have hlen:=Lib.itoa_length_le n (by omega) (by omega)
 by_cases h:n<0
 ·obtain ⟨u,rfl⟩:∃ u:Nat,n=-(u:Int):=⟨n.natAbs,by omega⟩
  rw [Lib.itoa_neg u (by omega)]at hlen ⊢
  have hl:(Lib.decDigits u).length≤30:=by simp at hlen; omega
  have HC:Hid ((⟨#[45]⟩:ByteArray)++⟨(Lib.decDigits u).toArray⟩=⟨(45::Lib.decDigits u).toArray⟩):=cat [45] (Lib.decDigits u)
  clear hlen;go_enter Tryz.func56,Tryz.ntmps56;go_wp2_with fail;refine (digits_any u u _ (Nat.le_refl _) (by omega)).mono ?_
  rintro e w1 ⟨rfl,hb1⟩
  go_wp2
  go_ret;refine ⟨?_,hb1⟩
  rw [← HC.out];rfl
 ·obtain ⟨u,rfl⟩:∃ u:Nat,n=(u:Int):=⟨n.natAbs,by omega⟩
  rw [Lib.itoa_nonneg u];clear hlen;go_enter Tryz.func56,Tryz.ntmps56;go_wp2_with fail;refine (digits_any u u _ (Nat.le_refl _) (by omega)).mono ?_
  rintro e w1 ⟨rfl,hb1⟩
  go_wp2
  go_ret;exact ⟨rfl,hb1⟩
def txt (n d:Int):List UInt8:=if validQ n d then (if d=1 then Lib.itoa n else Lib.itoa n++[47]++Lib.itoa d)else []
set_option maxHeartbeats 1000000 in
theorem refText_any (n d:Int)(w:World)(hn:-9223372036854775808≤n)(hN:n≤9223372036854775807)(hd:-9223372036854775808≤d)(hD:d≤9223372036854775807):
  Calls Tryz.prog 27 #[.agg #[.int .i64 n,.int .i64 d]] w fun e w'=>e=.returned (.string ⟨(txt n d).toArray⟩)∧Below w.heap.size w w':=by
 have q0:(w.alloc (.cells #[.int .i64 n,.int .i64 d] 64)).cell? ⟨w.heap.size,0,none⟩=some (.int .i64 n):=by simp
 have q1:(w.alloc (.cells #[.int .i64 n,.int .i64 d] 64)).cell? ⟨w.heap.size,1,none⟩=some (.int .i64 d):=by simp
 have hbw:Hid (Below w.heap.size w (w.alloc (.cells #[.int .i64 n,.int .i64 d] 64))):=(Below.refl _ _).alloc (Nat.le_refl _) _
 cases hv:validQ n d with
 | false=>
  have HT:Hid (txt n d=[]):=by show txt n d=[]; unfold txt; rw [hv]; rfl
  have HV:=hid hv
  clear hv;go_enter Tryz.func27,Tryz.ntmps27;go_wp2_with fail;refine (refValid_any n d _ hn hN hd hD).mono ?_
  rw [HV.out];rintro e w1 ⟨rfl,hb1⟩
  obtain ⟨_,_,_,hB1⟩:=res2 hb1
  clear hb1;go_wp2
  go_ret;refine ⟨?_,hB1⟩
  rw [HT.out];rfl
 | true=>
  have HV:=hid hv
  obtain ⟨h1,h2,h3,h4,_⟩:=(valid_iff n d).1 hv
  have hln:=Lib.itoa_length_le n (by omega) (by omega)
  have hld:=Lib.itoa_length_le d (by omega) (by omega)
  by_cases hd1:d=1
  ·have HT:Hid (txt n d=Lib.itoa n):=by show txt n d=_; unfold txt; rw [hv,if_pos rfl,if_pos hd1]
   subst hd1;clear hv;go_enter Tryz.func27,Tryz.ntmps27;go_wp2_with fail;refine (refValid_any n 1 _ hn hN hd hD).mono ?_
   rw [HV.out];rintro e w1 ⟨rfl,hb1⟩
   obtain ⟨⟨p0,p1⟩,_,_,hB1⟩:=res2 hb1
   have HB1:=hid hB1
   have hs1:=hB1.size
   clear hb1 hB1;go_wp2_with fail;refine (number_any n _ (by omega) (by omega)).mono ?_
   rintro e w2 ⟨rfl,hb2⟩
   have hB2:=HB1.out.trans (hb2.mono hs1)
   clear hb2;go_wp2
   go_ret;refine ⟨?_,hB2⟩
   rw [HT.out];rfl
  ·have HT:Hid (txt n d=Lib.itoa n++[47]++Lib.itoa d):=by show txt n d=_; unfold txt; rw [hv,if_pos rfl,if_neg hd1]
   have hd1':(d == 1)=false:=by simpa using hd1
   clear hv;go_enter Tryz.func27,Tryz.ntmps27;go_wp2_with fail;refine (refValid_any n d _ hn hN hd hD).mono ?_
   rw [HV.out];rintro e w1 ⟨rfl,hb1⟩
   obtain ⟨⟨p0,p1⟩,_,_,hB1⟩:=res2 hb1
   have HB1:=hid hB1
   have hs1:=hB1.size
   clear hb1 hB1;go_wp2
   have k0:=fun d os=>cell_regrown p0 d os
   have k1:=fun d os=>cell_regrown p1 d os
   have cI:=hid fun (x:Int) dd os (hx:-9223372036854775807≤x)(hX:x≤9223372036854775807)=>Calls.regrown_of (number_any x (Sort.grow (redrawn w1 dd) os) (by omega) hX)
   refine wp_region_quiet_below (by kernel_rfl) (by kernel_rfl) ?_
   repeat (first|go_big_quiet_step ((go_at_call 56; exact cI.out _ _ _ (by omega) (by omega)))|quiet_step ((go_at_call 56; exact cI.out _ _ _ (by omega) (by omega))))
   refine wpQuiet_nil ?_
   intro _ hw';obtain ⟨⟨dq,osq⟩,hw''⟩:=hw'
   subst hw'';have hB2:=HB1.out.trans ((below_regrown w1 dq osq).mono hs1)
   clear cI k0 k1;go_wp2
   go_ret;refine ⟨?_,hB2⟩
   rw [HT.out,← cat,← cat];rfl
end Go.Proofs.YtknpigdpepmimaaGreatDoor.Q
namespace Go.Proofs.YtknpigdpepmimaaGreatDoor.Q
open Go.Lib(hid)
open Go.RowKit
theorem ret_bool' {a b:Bool}(h:a=b):Ending.returned (.bool a)=.returned (.bool b):=by rw [h]
theorem digs_no (s:ByteArray) (k:Nat)(hk:k<s.size)(h:isD s[k]=false):digs s.data.toList=false:=by
 unfold digs;rw [Bool.and_eq_false_iff]; left
 rw [List.all_eq_false];refine ⟨s[k],?_,by simp [h]⟩
 have:s[k]=s.data.toList[k]'(by simpa using hk):=rfl
 rw [this]; exact List.getElem_mem _
theorem digs_yes (s:ByteArray)(h:∀ (j:Nat)(hj:j<s.size),isD s[j]=true):digs s.data.toList=!s.data.toList.isEmpty:=by
 unfold digs
 have:s.data.toList.all isD=true:=by
  rw [List.all_eq_true];intro x hx;obtain ⟨j,hj,rfl⟩:=List.mem_iff_getElem.1 hx
  exact h j (by simpa using hj)
 rw [this,Bool.true_and]
theorem len_list (s:ByteArray):s.data.toList.length=s.size:=by rw [Array.length_toList]; rfl
theorem size_mk (l:List UInt8):(⟨l.toArray⟩:ByteArray).size=l.length:=by simp [ByteArray.size]
theorem isD_of (s:ByteArray)(h:∀ c∈s.data.toList,isD c=true):∀ (j:Nat)(hj:j<s.size),isD s[j]=true:=fun j hj=>
 h _ (by have:s[j]=s.data.toList[j]'(by simpa using hj):=rfl; rw [this]; exact List.getElem_mem _)
set_option maxHeartbeats 1000000 in
theorem digs_any (s:ByteArray)(w:World)(hs:s.size≤1000):
  Calls Tryz.prog 127 #[.string s] w fun r w'=>r=.returned (.bool (digs s.data.toList))∧w=w':=by
 go_enter Tryz.func127,Tryz.ntmps127;go_wp2
 go_loop [3] (fun s3=>∃ kk:Nat,kk≤s.size∧s3=.int .i64 kk∧Aside (∀ (j:Nat)(hj:j<s.size),j<kk→isD s[j]=true)) (fun s3=>s.size-(intOf s3).toNat)
 case atStart=>exact ⟨0,Nat.zero_le _,rfl,fun j _ hj=>absurd hj (Nat.not_lt_zero _)⟩
 case round=>
  obtain ⟨kk,hkk,rfl,HA⟩:=hrel
  by_cases hlt:kk<s.size
  ·have hltz:(kk:Int)<(s.size:Int):=by omega
   by_cases h1:s[kk].toNat<48
   ·have h1':(s[kk].toNat:Int)<48:=by omega
    have hp:Hid (digs s.data.toList=false):=digs_no s kk hlt (by simp [isD]; omega)
    go_wp2
    go_ret;refine ⟨?_,rfl⟩
    rw [hp.out]; rfl
   ·have h1':¬ (s[kk].toNat:Int)<48:=by omega
    by_cases h2:57<s[kk].toNat
    ·have h2':(57:Int)<(s[kk].toNat:Int):=by omega
     have hp:Hid (digs s.data.toList=false):=digs_no s kk hlt (by simp [isD]; omega)
     go_wp2
     go_ret;refine ⟨?_,rfl⟩
     rw [hp.out]; rfl
    ·have h2':¬ (57:Int)<(s[kk].toNat:Int):=by omega
     have hok:Hid (isD s[kk]=true):=by show isD s[kk]=true; simp [isD]; omega
     go_wp2
     go_round
     case rel=>
      refine ⟨kk+1,by omega,by go_num,(show Aside _ from fun j hj hjk=>?_)⟩
      by_cases ee:j=kk
      ·subst ee; exact hok.out
      ·exact HA.out j hj (by omega)
     case measure=>simp [intOf]; omega
  ·have hltz:¬ (kk:Int)<(s.size:Int):=by omega
   obtain rfl:kk=s.size:=by omega
   have hp:Hid (digs s.data.toList=!s.data.toList.isEmpty):=digs_yes s (fun j hj=>HA.out j hj hj)
   clear hlt HA;go_wp2
   all_goals
    go_ret;refine ⟨ret_bool' ?_,rfl⟩
    rw [hp.out];simp [ByteArray.toList_eq, *]
def bcells (l:List UInt8):List Value:=l.map fun b=>Value.int .u8 (b.toNat:Int)
theorem byte_info:(Tryz.prog.info? 5).map (fun i=>(i.zero,i.size,i.bytes))=some (some (.int .u8 0),1,1):=by kernel_rfl
theorem take_div (p:Nat)(l:List UInt8) (k:Nat)(h:k<l.length):divL p 0 (l.take (k+1))=divL p 0 (l.take k)++[dg ((10*remL p 0 (l.take k)+(l[k].toNat-48)) / p)]:=by
 rw [List.take_succ_eq_append_getElem h,divL_snoc]
theorem take_rem (p:Nat)(l:List UInt8) (k:Nat)(h:k<l.length):remL p 0 (l.take (k+1))=(10*remL p 0 (l.take k)+(l[k].toNat-48)) % p:=by
 rw [List.take_succ_eq_append_getElem h,remL_snoc]
theorem conv_back (w:World)(g cap:Nat)(l:List UInt8) (base:Nat)(h:w.ownsRow base 5 1 (.slice (some ⟨g,0,none⟩) l.length cap) l.length (bcells l)):
  (convert 183 9 (.slice (some ⟨g,0,none⟩) l.length cap)).run Tryz.prog w=.ok (.string ⟨l.toArray⟩) w:=by
 refine run_convert_bytes_back w 183 9 5 ⟨g,0,none⟩ cap l Tryz.underlying183 Tryz.underlying5 Tryz.underlying9 fun j hj=>?_
 exact h.cells (g:=g) rfl j _ (by unfold bcells; simp [hj])
theorem nat_num (r d:Nat):10*(r:Int)+(48+(d:Int)-48)=((10*r+d:Nat):Int):=by omega
theorem byte_val (r d p:Nat)(h:(10*r+d) / p≤9):wrap64 (48+(10*(r:Int)+(48+(d:Int)-48)) / (p:Int)) % 256=((dg ((10*r+d) / p)).toNat:Int):=by
 rw [nat_num,← Int.natCast_ediv,quo_toNat _ h];generalize (10*r+d) / p=q at*;have:wrap64 (48+(q:Int))=48+(q:Int):=by unfold wrap64; omega
 rw [this]; omega
theorem rem_val (r d p:Nat):(10*(r:Int)+(48+(d:Int)-48)) % (p:Int)=(((10*r+d) % p:Nat):Int):=by
 rw [nat_num,← Int.natCast_emod]
set_option maxRecDepth 100000 in
set_option maxHeartbeats 2000000 in
theorem divide_any (s:ByteArray) (p:Nat)(w:World)(hs:s.size≤1000)(hp:2≤p)(hp9:p≤9)(hd:∀ c∈s.data.toList,isD c=true):
  Calls Tryz.prog 170 #[.string s,.int .i64 p] w fun e w'=>e=.returned (.tuple #[.string ⟨(divL p 0 s.data.toList).toArray⟩,.bool (decide (valD s.data.toList % p=0))])∧Below w.heap.size w w':=by
 obtain ⟨i0,hi0,hz0,hz1,hz2⟩:=info_parts byte_info
 have HV:=hid (divL_val p (by omega) s.data.toList hd).2
 have HD:=hid (isD_of s hd)
 have HI:=hid (And.intro hi0 (And.intro hz0 (And.intro hz1 hz2)))
 clear hd hi0 hz0 hz1 hz2;have hbb:i0.bytes*s.size≤281474976710656:=by rw [HI.out.2.2.2]; omega
 have HBB:=hid hbb
 clear hbb;have hpz:(p:Int)≠0:=by omega
 go_enter Tryz.func170,Tryz.ntmps170;go_wp2_with (at_make; refine wpList_make_own _ rfl _ _ 183 rfl w.heap.size 5 i0 _ 1 Tryz.underlying183 HI.out.1 HI.out.2.1 HI.out.2.2.1 .i64 .i64 _ s.size rfl rfl rfl HBB.out ?c1 (Nat.le_refl _) ?_)
 case c1=>unfold maxLen; omega
 intro w1 hown hgrow;have hB1:Below w.heap.size w w1:=(Below.refl _ _).grown hgrow (Nat.le_refl _) (fun k hk=>by cases hk)
 have HB1:=hid hB1
 have HO1:=hid hown
 clear hown hgrow hB1;go_wp2_with fail;go_loopg [6,7,8] s.size (fun gg s6 s7 s8 wr=>∃ k:Nat,k≤s.size∧s.size-k≤gg∧s8=.int .i64 k∧s7=.int .i64 (remL p 0 (s.data.toList.take k):Nat)∧s6=.slice (some ⟨w.heap.size,0,none⟩) k s.size∧Aside (wr.ownsRow w.heap.size 5 1 (.slice (some ⟨w.heap.size,0,none⟩) k s.size) k (bcells (divL p 0 (s.data.toList.take k))))∧Aside (Below w.heap.size w wr))
 case atStart=>exact ⟨0,Nat.zero_le _,by omega,rfl,rfl,rfl,HO1.out,HB1.out⟩
 case round=>
  obtain ⟨k,hk,hgg,rfl,rfl,rfl,HO,HB⟩:=hrel
  have hr:=remL_lt p (by omega) (s.data.toList.take k) 0 (by omega)
  by_cases hlt:k<s.size
  ·have hltz:(k:Int)<(s.size:Int):=by omega
   have hkl:k<s.data.toList.length:=by rw [len_list]; exact hlt
   have HT:=hid (And.intro (take_div p s.data.toList k hkl) (take_rem p s.data.toList k hkl))
   have hsk:s.data.toList[k]=s[k]:=rfl
   rw [hsk]at HT
   obtain ⟨h48,h57⟩:=(isD_iff _).1 (HD.out k hlt)
   obtain ⟨r,hrr⟩:∃ r,r=remL p 0 (s.data.toList.take k):=⟨_,rfl⟩
   rw [← hrr]at hr HT ⊢
   clear hrr hsk;obtain ⟨d,hdd⟩:∃ d:Nat,d=s[k].toNat-48:=⟨_,rfl⟩
   have hde:s[k].toNat=48+d:=by omega
   have hd9:d≤9:=by omega
   rw [← hdd]at HT
   have x1:(s[k].toNat:Int)=48+(d:Int):=by omega
   clear hdd h48 h57;have hq9:(10*r+d) / p≤9:=quo_nat p _ (by omega) (by omega)
   have hrb:r≤8:=by omega
   go_wp2_with (at_builtin; refine wpList_append_fits _ rfl _ _ 183 rfl w.heap.size 5 i0 1 Tryz.underlying183 HI.out.1 HI.out.2.2.1 w.heap.size k s.size _ rfl (HO.out.alloc _) ⟨wr.heap.size,0,none⟩ 1 1 (bcells [dg ((10*r+d) / p)]) rfl rfl ?c1 ?c2 ?c3 ?_)
   case c1=>
    intro j u hu;rw [byte_val r d p hq9];have hj:j<1:=(List.getElem?_eq_some_iff.1 hu).1
    obtain rfl:j=0:=by omega
    cases hu
    simp [Addr.add]
   case c2=>intro u hu; simp [bcells]at hu; subst hu; rfl
   case c3=>omega
   intro w2 hown hgrow;have hs1:=HB.out.size
   have hB2:Below w.heap.size w w2:=(HB.out.alloc HB.out.size _).grown hgrow (by simp; omega) (fun k' hk'=>by cases hk'; exact Nat.le_refl _)
   have HB2:=hid hB2
   have HO2:Hid (w2.ownsRow w.heap.size 5 1 (.slice (some ⟨w.heap.size,0,none⟩) (k+1) s.size) (k+1) (bcells (divL p 0 (s.data.toList.take (k+1))))):=by
    show w2.ownsRow w.heap.size 5 1 (.slice (some ⟨w.heap.size,0,none⟩) (k+1) s.size) (k+1) (bcells (divL p 0 (s.data.toList.take (k+1))))
    rw [HT.out.1];have:bcells (divL p 0 (s.data.toList.take k)++[dg ((10*r+d) / p)])=bcells (divL p 0 (s.data.toList.take k))++bcells [dg ((10*r+d) / p)]:=by simp [bcells]
    rw [this];exact hown
   clear hown hgrow hB2 HB HO;go_wp2
   go_roundg (s.size-(k+1))
   case measure=>omega
   case rel=>exact ⟨k+1,by omega,by omega,by go_num,by rw [HT.out.2,← rem_val],rfl,HO2.out,HB2.out⟩
  ·have hltz:¬ (k:Int)<(s.size:Int):=by omega
   obtain rfl:k=s.size:=by omega
   have htk:s.data.toList.take s.size=s.data.toList:=by rw [← len_list,List.take_length]
   rw [htk]at hr HO ⊢
   rw [HV.out]at hr ⊢
   have hlen:(divL p 0 s.data.toList).length=s.size:=by rw [divL_len,len_list]
   have hcv:=conv_back wr w.heap.size s.size (divL p 0 s.data.toList) w.heap.size (by rw [hlen]; exact HO.out)
   rw [hlen]at hcv
   obtain ⟨m,hm⟩:∃ m,m=valD s.data.toList % p:=⟨_,rfl⟩
   rw [← hm]at hr ⊢
   have HMM:=hid hm
   clear hm;go_wp2
   go_ret2;refine ⟨?_,HB.out⟩
   have hb0:((m:Int) == 0)=decide (m=0):=by rw [Bool.eq_iff_iff]; simp
   rw [← HMM.out,← hb0];rfl
theorem divideL_any (l:List UInt8) (p:Nat)(w:World)(hs:l.length≤1000)(hp:2≤p)(hp9:p≤9)(hd:∀ c∈l,isD c=true):
  Calls Tryz.prog 170 #[.string ⟨l.toArray⟩,.int .i64 p] w fun e w'=>e=.returned (.tuple #[.string ⟨(divL p 0 l).toArray⟩,.bool (decide (valD l % p=0))])∧Below w.heap.size w w':=
 divide_any ⟨l.toArray⟩ p w (by rw [size_mk]; exact hs) hp hp9 (by simpa using hd)
set_option maxRecDepth 100000 in
set_option maxHeartbeats 2000000 in
theorem shorten_any (l:List UInt8)(p e:Nat)(w:World)(hs:l.length≤1000)(he:e≤1000)(hp:2≤p)(hp9:p≤9)(hd:∀ c∈l,isD c=true):
  Calls Tryz.prog 129 #[.string ⟨l.toArray⟩,.int .i64 p,.int .i64 e] w fun r w'=>r=.returned (.tuple #[.string ⟨(shL p e l).1.toArray⟩,.int .i64 ((shL p e l).2:Nat)])∧Below w.heap.size w w':=by
 have HD:=hid hd
 clear hd;go_enter Tryz.func129,Tryz.ntmps129;go_wp2_with fail;go_loopg [0,2] e (fun gg s0 s2 wr=>∃ (k:Nat)(l':List UInt8),k≤gg∧k≤1000∧s2=.int .i64 k∧s0=.string ⟨l'.toArray⟩∧l'.length≤1000∧Aside (∀ c∈l',isD c=true)∧Aside (shL p e l=shL p k l')∧Aside (Below w.heap.size w wr))
 case atStart=>exact ⟨e,l,Nat.le_refl _,he,rfl,rfl,hs,HD.out,rfl,Below.refl _ _⟩
 case round=>
  obtain ⟨k,l',hgg,hk,rfl,rfl,hl',HD',HE,HB⟩:=hrel
  cases k with
  | zero=>
   go_wp2_with fail;go_ret2;refine ⟨?_,HB.out⟩
   rw [HE.out];rfl
  | succ k=>
   have hkz:(0:Int)<((k+1:Nat):Int):=by omega
   cases hm:decide (valD l' % p=0) with
   | true=>
    have HM:=hid hm
    clear hm;go_wp2_with fail;refine (divideL_any l' p _ hl' hp hp9 HD'.out).mono ?_
    rw [HM.out];rintro r w1 ⟨rfl,hb1⟩
    have HB1:=hid (HB.out.trans (hb1.mono HB.out.size))
    clear hb1 HB;go_wp2_with fail;go_roundg k
    case measure=>omega
    case rel=>
     refine ⟨k,divL p 0 l',Nat.le_refl _,by omega,by go_num,rfl,by rw [divL_len]; exact hl',divL_isD p (by omega) l' 0 (by omega) HD'.out,?_,HB1.out⟩
     show shL p e l=_
     rw [HE.out,shL,if_pos (of_decide_eq_true HM.out)]
   | false=>
    have HM:=hid hm
    clear hm;have HE':Hid (shL p e l=(l',k+1)):=by show shL p e l=_; rw [HE.out,shL,if_neg (of_decide_eq_false HM.out)]
    go_wp2_with fail;refine (divideL_any l' p _ hl' hp hp9 HD'.out).mono ?_
    rw [HM.out];rintro r w1 ⟨rfl,hb1⟩
    have HB1:=hid (HB.out.trans (hb1.mono HB.out.size))
    clear hb1 HB;go_wp2_with fail;go_ret2;refine ⟨?_,HB1.out⟩
    rw [HE'.out];rfl
theorem trimB_eq (l:List UInt8):Lib.trimLeftB l 48=trimL l:=rfl
theorem trimRB_eq (l:List UInt8):Lib.trimRightB l 48=trimR l:=rfl
theorem trimLeft_any (l:List UInt8)(w:World):Calls Tryz.prog 171 #[.string ⟨l.toArray⟩,.string ⟨#[48]⟩] w fun e w'=>e=.returned (.string ⟨(trimL l).toArray⟩)∧w=w':=
 (Tryz.strings_TrimLeft_one ⟨l.toArray⟩ 48 (by decide) w).mono fun _ _ ⟨he,hw⟩=>⟨by simpa [trimB_eq]using he,hw.symm⟩
theorem trimRight_any (l:List UInt8)(w:World)(hl:l.length≤1000):Calls Tryz.prog 128 #[.string ⟨l.toArray⟩,.string ⟨#[48]⟩] w fun e w'=>e=.returned (.string ⟨(trimR l).toArray⟩)∧w=w':=
 (Tryz.strings_TrimRight_one ⟨l.toArray⟩ 48 (by decide) w (by rw [size_mk]; omega)).mono fun _ _ ⟨he,hw⟩=>⟨by simpa [trimRB_eq]using he,hw.symm⟩
theorem trimL_len (l:List UInt8):(trimL l).length≤l.length:=(List.dropWhile_sublist _).length_le
theorem take_val (s:ByteArray) (k:Nat)(h:k<s.size):valD (s.data.toList.take (k+1))=10*valD (s.data.toList.take k)+(s[k].toNat-48):=by
 rw [List.take_succ_eq_append_getElem (by simpa using h),val_snoc]; rfl
theorem take_lt (s:ByteArray) (k:Nat)(h:∀ (j:Nat)(hj:j<s.size),isD s[j]=true):valD (s.data.toList.take k)<10 ^ (s.data.toList.take k).length:=by
 refine val_lt _ fun c hc=>?_
 obtain ⟨j,hj,rfl⟩:=List.mem_iff_getElem.1 (List.mem_of_mem_take hc)
 exact h j (by simpa using hj)
theorem pow_le10 {k:Nat}(h:k≤10):10 ^ k≤10000000000:=by
 have:=Nat.pow_le_pow_right (show 0<10 by decide) h
 simpa using this
def smallN (l:List UInt8):Nat:=if 10<(trimL l).length then 0 else valD l
set_option maxRecDepth 100000 in
set_option maxHeartbeats 2000000 in
theorem small_any (l:List UInt8)(w:World)(hl:l.length≤1000)(hd:∀ c∈l,isD c=true):
  Calls Tryz.prog 130 #[.string ⟨l.toArray⟩] w fun e w'=>e=.returned (.tuple #[.int .i64 (smallN l:Nat),.bool (decide (valD l≤2147483647))])∧w=w':=by
 have hlt:=trimL_len l
 obtain ⟨S,hS⟩:∃ S:ByteArray,S=⟨(trimL l).toArray⟩:=⟨_,rfl⟩
 have hSl:S.size=(trimL l).length:=by rw [hS,size_mk]
 have hSt:S.data.toList=trimL l:=by rw [hS]
 have HSL:=hid hSt
 have hS1:S.size≤1000:=by omega
 have HD:Hid (∀ (j:Nat)(hj:j<S.size),isD S[j]=true):=isD_of S (by rw [hSt]; exact fun c hc=>hd c (trimL_sub l c hc))
 have HF:=hid (val_far l hd)
 have HV:=hid (trimL_val l)
 rw [← HSL.out]at HV
 have HSZ:=hid hSl
 clear hd hSt hlt hSl;go_enter Tryz.func130,Tryz.ntmps130;go_wp2_with fail;refine (trimLeft_any l _).mono ?_
 rw [← hS];clear hS;rintro e w' ⟨rfl,rfl⟩
 by_cases h10:10<S.size
 ·have h10z:(10:Int)<(S.size:Int):=by omega
  have HN:Hid (smallN l=0):=by show smallN l=0; unfold smallN; rw [if_pos (by rw [← HSZ.out]; exact h10)]
  have HX:Hid (decide (valD l≤2147483647)=false):=by
   show decide (valD l≤2147483647)=false
   have:=HF.out (by rw [← HSZ.out]; exact h10)
   rw [decide_eq_false (by omega)]
  go_wp2_with fail;go_ret2;rw [HN.out,HX.out];exact ⟨rfl,rfl⟩
 ·have h10z:¬ (10:Int)<(S.size:Int):=by omega
  have HN:Hid (smallN l=valD l):=by show smallN l=valD l; unfold smallN; rw [if_neg (by rw [← HSZ.out]; exact h10)]
  go_wp2_with fail;go_loopg [4,5] S.size (fun gg s4 s5 wr=>∃ k:Nat,k≤S.size∧S.size-k≤gg∧wr=w∧s5=.int .i64 k∧s4=.int .i64 (valD (S.data.toList.take k):Nat))
  case atStart=>exact ⟨0,Nat.zero_le _,by omega,rfl,rfl,rfl⟩
  case round=>
   obtain ⟨k,hk,hgg,rfl,rfl,rfl⟩:=hrel
   have hvl:=take_lt S k HD.out
   have hp10:=pow_le10 (k:=(S.data.toList.take k).length) (by rw [List.length_take,len_list]; omega)
   by_cases hlt:k<S.size
   ·have hltz:(k:Int)<(S.size:Int):=by omega
    obtain ⟨h48,h57⟩:=(isD_iff _).1 (HD.out k hlt)
    have HTV:=hid (take_val S k hlt)
    obtain ⟨v,hv⟩:∃ v,v=valD (S.data.toList.take k):=⟨_,rfl⟩
    rw [← hv]at hvl HTV ⊢
    have hvb:v≤10000000000:=by omega
    clear hvl hp10 hv;obtain ⟨d,hdd⟩:∃ d:Nat,d=S[k].toNat-48:=⟨_,rfl⟩
    rw [← hdd]at HTV
    have x1:(S[k].toNat:Int)=48+(d:Int):=by omega
    have hd9:d≤9:=by omega
    clear hdd h48 h57;go_wp2
    go_roundg (S.size-(k+1))
    case measure=>omega
    case rel=>exact ⟨k+1,by omega,by omega,rfl,by go_num,by rw [HTV.out]; go_num⟩
   ·have hltz:¬ (k:Int)<(S.size:Int):=by omega
    obtain rfl:k=S.size:=by omega
    have HTA:Hid (S.data.toList.take S.size=S.data.toList):=by show S.data.toList.take S.size=_; rw [← len_list,List.take_length]
    rw [HTA.out]at hvl hp10 ⊢
    rw [HV.out]at hvl ⊢
    obtain ⟨v,hv⟩:∃ v,v=valD l:=⟨_,rfl⟩
    rw [← hv]at HN ⊢
    have HVV:=hid hv
    clear hv hvl hp10;go_wp2
    go_ret2;rw [HN.out,← HVV.out];have hdd:decide (v≤2147483647)=decide ((v:Int)≤2147483647):=by rw [decide_eq_decide]; omega
    rw [hdd];exact ⟨rfl,rfl⟩
end Go.Proofs.YtknpigdpepmimaaGreatDoor.Q
