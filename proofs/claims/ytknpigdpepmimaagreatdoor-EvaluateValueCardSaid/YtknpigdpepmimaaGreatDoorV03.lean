/- Contracts of gcd, magnitude, Valid and of their references. -/
import Derived.Test.YtknpigdpepmimaaGreatDoorRows
import Derived.WalkKit
import Derived.WalkSpells
import Derived.WalkLawsBesides
import Derived.Lib.Hide
import Derived.Deep.LoopGhost
import Derived.Deep.QuietTactic
import Derived.BigQuiet
import Derived.Lib.QuietBelow
import Derived.Test.YtknpigdpepmimaaGreatDoorV02
namespace Go.Proofs.YtknpigdpepmimaaGreatDoor.Q
open Go.Lib(hid)
open Go.RowKit
theorem belowN {B:Nat}{a w:World}(h:Below B a w) (n:Nat):Below B a (w.drewN n):=⟨h.os,h.tape,h.output,h.size,h.block⟩
theorem ret_bool {a b:Bool}(h:a=b):Ending.returned (.bool a)=.returned (.bool b):=by rw [h]
theorem ret_int {k:IntKind}{a b:Int}(h:a=b):Ending.returned (.int k a)=.returned (.int k b):=by rw [h]
set_option maxHeartbeats 400000 in
theorem gcd_any (a b:Nat)(w:World)(ha:a≤9223372036854775808)(hb:b≤9223372036854775808):
  Calls Tryz.prog 85 #[.int .u64 a,.int .u64 b] w fun e w'=>e=.returned (.int .u64 (Nat.gcd a b:Nat))∧Below w.heap.size w w':=by
 go_enter Tryz.func85,Tryz.ntmps85;go_wp2
 go_loopg [0,1] b (fun gg s0 s1 wr=>∃ x y:Nat,y≤gg∧s0=.int .u64 x∧s1=.int .u64 y∧Aside (x≤9223372036854775808)∧Aside (y≤9223372036854775808)∧Aside (Nat.gcd x y=Nat.gcd a b)∧Aside (Below w.heap.size w wr))
 case atStart=>exact ⟨a,b,Nat.le_refl _,rfl,rfl,ha,hb,rfl,Below.refl _ _⟩
 case round=>
  obtain ⟨x,y,hy,rfl,rfl,X,Y,G,D⟩:=hrel
  by_cases h0:y=0
  ·subst h0
   go_wp2
   go_ret;refine ⟨ret_int ?_,D.out⟩
   have:=G.out
   rw [Nat.gcd_zero_right]at this
   rw [this]
  ·have hne:((y:Int) != 0)=true:=by simp; omega
   have hne':((y:Int) == 0)=false:=by simp; omega
   have hpos:(1:Int)≤(y:Int):=by omega
   have hpos0:¬ (y:Int)=0:=by omega
   have hlt:x % y<y:=Nat.mod_lt _ (by omega)
   go_wp2
   go_quiet (fail)
   go_wp2
   go_roundg (x % y)
   case measure=>omega
   case rel=>exact ⟨y,x % y,Nat.le_refl _,rfl,by go_num,Y.out,(by show _≤_; have:=Y.out; omega),(by show _=_; rw [Nat.gcd_comm,← Nat.gcd_rec,Nat.gcd_comm]; exact G.out),belowN D.out _⟩
set_option maxHeartbeats 400000 in
theorem common_any (a b:Nat)(w:World)(ha:a≤9223372036854775808)(hb:b≤9223372036854775808):
  Calls Tryz.prog 102 #[.int .u64 a,.int .u64 b] w fun e w'=>e=.returned (.int .u64 (Nat.gcd a b:Nat))∧Below w.heap.size w w':=by
 go_enter Tryz.func102,Tryz.ntmps102;go_wp2
 go_loopg [0,1] b (fun gg s0 s1 wr=>∃ x y:Nat,y≤gg∧s0=.int .u64 x∧s1=.int .u64 y∧Aside (x≤9223372036854775808)∧Aside (y≤9223372036854775808)∧Aside (Nat.gcd x y=Nat.gcd a b)∧Aside (Below w.heap.size w wr))
 case atStart=>exact ⟨a,b,Nat.le_refl _,rfl,rfl,ha,hb,rfl,Below.refl _ _⟩
 case round=>
  obtain ⟨x,y,hy,rfl,rfl,X,Y,G,D⟩:=hrel
  by_cases h0:y=0
  ·subst h0
   go_wp2
   go_ret;refine ⟨ret_int ?_,D.out⟩
   have:=G.out
   rw [Nat.gcd_zero_right]at this
   rw [this]
  ·have hne:(0:Int)<(y:Int):=by omega
   have hne':((y:Int) == 0)=false:=by simp; omega
   have hpos:(1:Int)≤(y:Int):=by omega
   have hpos0:¬ (y:Int)=0:=by omega
   have hlt:x % y<y:=Nat.mod_lt _ (by omega)
   go_wp2
   go_quiet (fail)
   go_wp2
   go_roundg (x % y)
   case measure=>omega
   case rel=>exact ⟨y,x % y,Nat.le_refl _,rfl,by go_num,Y.out,(by show _≤_; have:=Y.out; omega),(by show _=_; rw [Nat.gcd_comm,← Nat.gcd_rec,Nat.gcd_comm]; exact G.out),belowN D.out _⟩
theorem neg_u64 (n:Int)(h:n<0)(hm:-9223372036854775808≤n):IntKind.u64.wrap (-(IntKind.u64.wrap n))=(n.natAbs:Int):=by
 rw [IntKind.wrap_u64,IntKind.wrap_u64];omega
set_option maxHeartbeats 400000 in
theorem magnitude_any (n:Int)(w:World)(hm:-9223372036854775808≤n)(hM:n≤9223372036854775807):
  Calls Tryz.prog 86 #[.int .i64 n] w fun e w'=>e=.returned (.int .u64 (n.natAbs:Nat))∧w=w':=by
 by_cases h:n<0
 ·go_enter Tryz.func86,Tryz.ntmps86
  go_wp2
  go_ret;exact ⟨ret_int (neg_u64 n h hm),rfl⟩
 ·go_enter Tryz.func86,Tryz.ntmps86
  go_wp2
  go_ret;exact ⟨ret_int (by omega),rfl⟩
set_option maxHeartbeats 400000 in
theorem size_any (n:Int)(w:World)(hm:-9223372036854775808≤n)(hM:n≤9223372036854775807):
  Calls Tryz.prog 103 #[.int .i64 n] w fun e w'=>e=.returned (.int .u64 (n.natAbs:Nat))∧w=w':=by
 by_cases h:n<0
 ·go_enter Tryz.func103,Tryz.ntmps103
  go_wp2
  go_ret;exact ⟨ret_int (by omega),rfl⟩
 ·go_enter Tryz.func103,Tryz.ntmps103
  go_wp2
  go_ret;exact ⟨ret_int (by omega),rfl⟩
theorem below_of_eq {P:Program}{f:FuncId}{args:Array Value}{w:World}{v:Value}(h:Calls P f args w fun e w'=>e=.returned v∧w=w'):Calls P f args w fun e w'=>e=.returned v∧Below w.heap.size w w':=
 h.mono fun _ _ ⟨he,hw⟩=>⟨he,hw▸Below.refl _ _⟩
set_option maxHeartbeats 1000000 in
theorem valid_any (n d:Int)(w:World)(hn:-9223372036854775808≤n)(hN:n≤9223372036854775807)(hd:-9223372036854775808≤d)(hD:d≤9223372036854775807):
  Calls Tryz.prog 43 #[.agg #[.int .i64 n,.int .i64 d]] w fun e w'=>e=.returned (.bool (validQ n d))∧Below w.heap.size w w':=by
 by_cases h:1≤d∧d≤2147483647∧-2147483647≤n∧n≤2147483647
 ·obtain ⟨h1,h2,h3,h4⟩:=h
  have hv:Hid (validQ n d=(Nat.gcd n.natAbs d.natAbs == 1)):=by show validQ n d=_; unfold validQ; simp [h1,h2,h3,h4]
  obtain ⟨dn,rfl⟩:=Int.eq_ofNat_of_zero_le (show 0≤d by omega)
  have h1':¬ (dn:Int)<1:=by omega
  have h2':¬ (2147483647:Int)<(dn:Int):=by omega
  have h3':¬ n < -2147483647:=by omega
  have h4':¬ 2147483647<n:=by omega
  go_enter Tryz.func43,Tryz.ntmps43;go_wp2
  have q0:(w.alloc (.cells #[.int .i64 n,.int .i64 (dn:Int)] 57)).cell? ⟨w.heap.size,0,none⟩=some (.int .i64 n):=by simp
  have q1:(w.alloc (.cells #[.int .i64 n,.int .i64 (dn:Int)] 57)).cell? ⟨w.heap.size,1,none⟩=some (.int .i64 (dn:Int)):=by simp
  have hbw:Hid (Below w.heap.size w (w.alloc (.cells #[.int .i64 n,.int .i64 (dn:Int)] 57))):=(Below.refl _ _).alloc (Nat.le_refl _) _
  have hsz:w.heap.size≤(w.alloc (.cells #[.int .i64 n,.int .i64 (dn:Int)] 57)).heap.size:=by simp
  generalize w.alloc (.cells #[.int .i64 n,.int .i64 (dn:Int)] 57)=wb at*;have k0:=fun d os=>cell_regrown q0 d os
  have k1:=fun d os=>cell_regrown q1 d os
  have cM:=hid fun d os=>Calls.regrown_of (below_of_eq (magnitude_any n (Sort.grow (redrawn wb d) os) (by omega) (by omega)))
  have cG:=hid fun d os=>Calls.regrown_of (gcd_any n.natAbs dn (Sort.grow (redrawn wb d) os) (by omega) (by omega))
  refine wp_region_quiet_below (by kernel_rfl) (by kernel_rfl) ?_
  repeat (first|go_big_quiet_step (first|exact cM.out _ _|exact cG.out _ _)|quiet_step (first|exact cM.out _ _|exact cG.out _ _))
  refine wpQuiet_nil ?_
  intro _ hw';obtain ⟨⟨dq,osq⟩,hw''⟩:=hw'
  subst hw'';clear cM cG k0 k1;go_wp2
  go_ret;refine ⟨ret_bool ?_,hbw.out.trans ((below_regrown wb dq osq).mono hsz)⟩
  rw [hv.out,Int.natAbs_natCast,Bool.eq_iff_iff];simp
  try omega
 ·have hv:Hid (validQ n d=false):=by
   show validQ n d=false
   cases hh:validQ n d with
   | false=>rfl
   | true=>rw [valid_iff]at hh; exact absurd ⟨hh.1,hh.2.1,hh.2.2.1,hh.2.2.2.1⟩ h
  by_cases h1:d<1
  ·clear h
   go_enter Tryz.func43,Tryz.ntmps43;go_wp2
   go_ret;exact ⟨ret_bool hv.out.symm,(Below.refl _ _).alloc (Nat.le_refl _) _⟩
  ·by_cases h2:2147483647<d
   ·clear h
    go_enter Tryz.func43,Tryz.ntmps43;go_wp2
    go_ret;exact ⟨ret_bool hv.out.symm,(Below.refl _ _).alloc (Nat.le_refl _) _⟩
   ·by_cases h3:n < -2147483647
    ·clear h
     go_enter Tryz.func43,Tryz.ntmps43;go_wp2
     go_ret;exact ⟨ret_bool hv.out.symm,(Below.refl _ _).alloc (Nat.le_refl _) _⟩
    ·have h4:2147483647<n:=by omega
     clear h;go_enter Tryz.func43,Tryz.ntmps43;go_wp2
     go_ret;exact ⟨ret_bool hv.out.symm,(Below.refl _ _).alloc (Nat.le_refl _) _⟩
set_option maxHeartbeats 2000000 in
set_option maxRecDepth 100000 in
theorem refValid_any (n d:Int)(w:World)(hn:-9223372036854775808≤n)(hN:n≤9223372036854775807)(hd:-9223372036854775808≤d)(hD:d≤9223372036854775807):
  Calls Tryz.prog 55 #[.agg #[.int .i64 n,.int .i64 d]] w fun e w'=>e=.returned (.bool (validQ n d))∧Below w.heap.size w w':=by
 have hF:Hid (¬ (1≤d∧d≤2147483647∧-2147483647≤n∧n≤2147483647)→validQ n d=false):=fun h=>by
  cases hh:validQ n d with
  | false=>rfl
  | true=>rw [valid_iff]at hh; exact absurd ⟨hh.1,hh.2.1,hh.2.2.1,hh.2.2.2.1⟩ h
 have hT:Hid ((1≤d∧d≤2147483647∧-2147483647≤n∧n≤2147483647)→validQ n d=(Nat.gcd n.natAbs d.natAbs == 1)):=fun ⟨h1,h2,h3,h4⟩=>by unfold validQ; simp [h1,h2,h3,h4]
 have q0:(w.alloc (.cells #[.int .i64 n,.int .i64 d] 64)).cell? ⟨w.heap.size,0,none⟩=some (.int .i64 n):=by simp
 have q1:(w.alloc (.cells #[.int .i64 n,.int .i64 d] 64)).cell? ⟨w.heap.size,1,none⟩=some (.int .i64 d):=by simp
 have hbw:Hid (Below w.heap.size w (w.alloc (.cells #[.int .i64 n,.int .i64 d] 64))):=(Below.refl _ _).alloc (Nat.le_refl _) _
 have hsz:w.heap.size≤(w.alloc (.cells #[.int .i64 n,.int .i64 d] 64)).heap.size:=by simp
 go_enter Tryz.func55,Tryz.ntmps55;go_wp2
 generalize w.alloc (.cells #[.int .i64 n,.int .i64 d] 64)=wb at*;have k0:=fun d os=>cell_regrown q0 d os
 have k1:=fun d os=>cell_regrown q1 d os
 have cM:=hid fun (x:Int) d os (hx:-9223372036854775808≤x)(hX:x≤9223372036854775807)=>Calls.regrown_of (below_of_eq (size_any x (Sort.grow (redrawn wb d) os) hx hX))
 have cG:=hid fun d' os=>Calls.regrown_of (common_any n.natAbs d.natAbs (Sort.grow (redrawn wb d') os) (by omega) (by omega))
 by_cases h1:1≤d
 case neg=>
  have h1':decide (1≤d)=false:=by simpa using h1
  have hv:=hid (hF.out (by omega))
  refine wp_region_quiet_below (by kernel_rfl) (by kernel_rfl) ?_
  repeat (first|go_big_quiet_step (first|(go_at_call 103; exact cM.out _ _ _ (by omega) (by omega))|(go_at_call 102; exact cG.out _ _))|quiet_step (first|(go_at_call 103; exact cM.out _ _ _ (by omega) (by omega))|(go_at_call 102; exact cG.out _ _)))
  refine wpQuiet_nil ?_
  intro _ hw';obtain ⟨⟨dq,osq⟩,hw''⟩:=hw'
  subst hw'';clear cM cG k0 k1;go_wp2
  go_ret;exact ⟨ret_bool hv.out.symm,hbw.out.trans ((below_regrown wb dq osq).mono hsz)⟩
 have h1':decide (1≤d)=true:=by simpa using h1
 by_cases h2:d≤2147483647
 case neg=>
  have h2':decide (d≤2147483647)=false:=by simpa using h2
  have hv:=hid (hF.out (by omega))
  refine wp_region_quiet_below (by kernel_rfl) (by kernel_rfl) ?_
  repeat (first|go_big_quiet_step (first|(go_at_call 103; exact cM.out _ _ _ (by omega) (by omega))|(go_at_call 102; exact cG.out _ _))|quiet_step (first|(go_at_call 103; exact cM.out _ _ _ (by omega) (by omega))|(go_at_call 102; exact cG.out _ _)))
  refine wpQuiet_nil ?_
  intro _ hw';obtain ⟨⟨dq,osq⟩,hw''⟩:=hw'
  subst hw'';clear cM cG k0 k1;go_wp2
  go_ret;exact ⟨ret_bool hv.out.symm,hbw.out.trans ((below_regrown wb dq osq).mono hsz)⟩
 have h2':decide (d≤2147483647)=true:=by simpa using h2
 by_cases h3:-2147483647≤n
 case neg=>
  have h3':decide (-2147483647≤n)=false:=by simpa using h3
  have hv:=hid (hF.out (by omega))
  refine wp_region_quiet_below (by kernel_rfl) (by kernel_rfl) ?_
  repeat (first|go_big_quiet_step (first|(go_at_call 103; exact cM.out _ _ _ (by omega) (by omega))|(go_at_call 102; exact cG.out _ _))|quiet_step (first|(go_at_call 103; exact cM.out _ _ _ (by omega) (by omega))|(go_at_call 102; exact cG.out _ _)))
  refine wpQuiet_nil ?_
  intro _ hw';obtain ⟨⟨dq,osq⟩,hw''⟩:=hw'
  subst hw'';clear cM cG k0 k1;go_wp2
  go_ret;exact ⟨ret_bool hv.out.symm,hbw.out.trans ((below_regrown wb dq osq).mono hsz)⟩
 have h3':decide (-2147483647≤n)=true:=by simpa using h3
 by_cases h4:n≤2147483647
 case neg=>
  have h4':decide (n≤2147483647)=false:=by simpa using h4
  have hv:=hid (hF.out (by omega))
  refine wp_region_quiet_below (by kernel_rfl) (by kernel_rfl) ?_
  repeat (first|go_big_quiet_step (first|(go_at_call 103; exact cM.out _ _ _ (by omega) (by omega))|(go_at_call 102; exact cG.out _ _))|quiet_step (first|(go_at_call 103; exact cM.out _ _ _ (by omega) (by omega))|(go_at_call 102; exact cG.out _ _)))
  refine wpQuiet_nil ?_
  intro _ hw';obtain ⟨⟨dq,osq⟩,hw''⟩:=hw'
  subst hw'';clear cM cG k0 k1;go_wp2
  go_ret;exact ⟨ret_bool hv.out.symm,hbw.out.trans ((below_regrown wb dq osq).mono hsz)⟩
 have h4':decide (n≤2147483647)=true:=by simpa using h4
 have hv:=hid (hT.out ⟨h1,h2,h3,h4⟩)
 refine wp_region_quiet_below (by kernel_rfl) (by kernel_rfl) ?_
 repeat (first|go_big_quiet_step (first|(go_at_call 103; exact cM.out _ _ _ (by omega) (by omega))|(go_at_call 102; exact cG.out _ _))|quiet_step (first|(go_at_call 103; exact cM.out _ _ _ (by omega) (by omega))|(go_at_call 102; exact cG.out _ _)))
 refine wpQuiet_nil ?_
 intro _ hw';obtain ⟨⟨dq,osq⟩,hw''⟩:=hw'
 subst hw'';clear cM cG k0 k1;go_wp2
 go_ret;refine ⟨ret_bool ?_,hbw.out.trans ((below_regrown wb dq osq).mono hsz)⟩
 rw [hv.out,Bool.eq_iff_iff];simp
 try omega
end Go.Proofs.YtknpigdpepmimaaGreatDoor.Q
namespace Go.Proofs.YtknpigdpepmimaaGreatDoor.Q
open Go.Lib(hid)
open Go.RowKit
theorem res2 {w w1:World}{v0 v1:Value}{t:TypeId}(hb:Below (w.alloc (.cells #[v0,v1] t)).heap.size (w.alloc (.cells #[v0,v1] t)) w1):
  (w1.cell? ⟨w.heap.size,0,none⟩=some v0∧w1.cell? ⟨w.heap.size,1,none⟩=some v1)∧(∀ i,w1.frozen? ⟨w.heap.size,i,none⟩=false)∧w.heap.size<w1.heap.size∧Below w.heap.size w w1:=by
 have hlt:w.heap.size<(w.alloc (.cells #[v0,v1] t)).heap.size:=by simp
 refine ⟨⟨?_,?_⟩,fun i=>?_,?_,?_⟩
 ·rw [hb.cell (p:=⟨w.heap.size,0,none⟩) hlt]; simp
 ·rw [hb.cell (p:=⟨w.heap.size,1,none⟩) hlt]; simp
 ·rw [hb.frozen (p:=⟨w.heap.size,i,none⟩) hlt]; simp
 ·exact Nat.lt_of_lt_of_le hlt hb.size
 ·exact ((Below.refl _ _).alloc (Nat.le_refl _) _).trans (hb.mono (by simp))
def Res.val (r:Res):Value:=.tuple #[.agg #[.int .i64 r.num,.int .i64 r.den],.int .i64 r.err]
set_option maxHeartbeats 1000000 in
theorem reduce_any (neg:Bool)(a b:Nat)(w:World)(ha:a≤9223372036854775808)(hb:b≤9223372036854775808)(hb0:0<b):
  Calls Tryz.prog 134 #[.bool neg,.int .u64 a,.int .u64 b] w fun e w'=>e=.returned (red neg a b).val∧Below w.heap.size w w':=by
 obtain ⟨g,hg⟩:∃ g,g=Nat.gcd a b:=⟨_,rfl⟩
 have HG:=hid hg
 have hgp:1≤g:=by rw [hg]; exact Nat.gcd_pos_of_pos_right _ hb0
 have hgz:(1:Int)≤(g:Int):=by omega
 have hgz':((g:Int) == 0)=false:=by simp; omega
 have hgz'':¬ (g:Int)=0:=by omega
 clear hg;go_enter Tryz.func134,Tryz.ntmps134;go_wp2_with fail;refine (gcd_any a b _ ha hb).mono ?_
 rw [← HG.out];rintro e w1 ⟨rfl,hb1⟩
 obtain ⟨⟨q0,q1⟩,qf,qs,hB1⟩:=res2 hb1
 have HB1:=hid hB1
 clear hb1 hB1;go_wp2
 go_quiet (fail)
 have hA:a / g≤a:=Nat.div_le_self _ _
 have hBd:b / g≤b:=Nat.div_le_self _ _
 rw [show ((a:Int) / (g:Int))=((a / g:Nat):Int)from by simp,show ((b:Int) / (g:Int))=((b / g:Nat):Int)from by simp]
 have hr:Hid (red neg a b=if a / g≤2147483647∧b / g≤2147483647 then ⟨if neg then -((a / g:Nat):Int)else ((a / g:Nat):Int),((b / g:Nat):Int),0⟩else ⟨0,0,2⟩):=by show red neg a b=_; unfold red; rw [← HG.out]
 generalize a / g=x at*;generalize b / g=y at*;by_cases h1:2147483647<x
 ·have h1':(2147483647:Int)<(x:Int):=by omega
  have HR:=hid (hr.out.trans (if_neg (by omega)))
  clear hr;go_wp2
  refine bodyPost_ret (v:=.tuple #[.agg #[.int .i64 0,.int .i64 0],.int .i64 2]) (by simp [results,Tryz.results134,go_sem,q0,q1]) rfl ⟨?_,?_⟩
  ·rw [HR.out]; rfl
  ·exact ((belowN HB1.out _).setCell (Nat.le_refl _) _).setCell (Nat.le_refl _) _
 ·have h1':¬ (2147483647:Int)<(x:Int):=by omega
  by_cases h2:2147483647<y
  ·have h2':(2147483647:Int)<(y:Int):=by omega
   have HR:=hid (hr.out.trans (if_neg (by omega)))
   clear hr;go_wp2
   refine bodyPost_ret (v:=.tuple #[.agg #[.int .i64 0,.int .i64 0],.int .i64 2]) (by simp [results,Tryz.results134,go_sem,q0,q1]) rfl ⟨?_,?_⟩
   ·rw [HR.out]; rfl
   ·exact ((belowN HB1.out _).setCell (Nat.le_refl _) _).setCell (Nat.le_refl _) _
  ·have h2':¬ (2147483647:Int)<(y:Int):=by omega
   have HR:=hid (hr.out.trans (if_pos ⟨by omega,by omega⟩))
   clear hr;cases neg with
   | true=>
    go_wp2
    refine bodyPost_ret (v:=.tuple #[.agg #[.int .i64 (-(x:Int)),.int .i64 (y:Int)],.int .i64 0]) (by simp [results,Tryz.results134,go_sem,q0,q1]) rfl ⟨?_,?_⟩
    ·rw [HR.out]; rfl
    ·exact ((belowN HB1.out _).setCell (Nat.le_refl _) _).setCell (Nat.le_refl _) _
   | false=>
    go_wp2
    refine bodyPost_ret (v:=.tuple #[.agg #[.int .i64 (x:Int),.int .i64 (y:Int)],.int .i64 0]) (by simp [results,Tryz.results134,go_sem,q0,q1]) rfl ⟨?_,?_⟩
    ·rw [HR.out]; rfl
    ·exact ((belowN HB1.out _).setCell (Nat.le_refl _) _).setCell (Nat.le_refl _) _
set_option maxHeartbeats 1000000 in
theorem make_any (n d:Int)(w:World)(hn:-9223372036854775808≤n)(hN:n≤9223372036854775807)(hd:-9223372036854775808≤d)(hD:d≤9223372036854775807):
  Calls Tryz.prog 88 #[.int .i64 n,.int .i64 d] w fun e w'=>e=.returned (mk n d).val∧Below w.heap.size w w':=by
 by_cases h0:d=0
 ·subst h0
  go_enter Tryz.func88,Tryz.ntmps88;go_wp2
  refine bodyPost_ret (v:=.tuple #[.agg #[.int .i64 0,.int .i64 0],.int .i64 10]) (by simp [results,Tryz.results88,go_sem]) rfl ⟨rfl,?_⟩
  exact (Below.refl _ _).alloc (Nat.le_refl _) _
 ·have h0':(d == 0)=false:=by simpa using h0
  have HM:Hid (mk n d=red (!(decide (n<0) == decide (d<0))) n.natAbs d.natAbs):=by show mk n d=_; unfold mk; rw [if_neg h0]; rfl
  have hdp:0<d.natAbs:=by omega
  go_enter Tryz.func88,Tryz.ntmps88;go_wp2_with fail;refine (magnitude_any n _ hn hN).mono ?_
  rintro e w' ⟨rfl,rfl⟩
  go_wp2_with fail;refine (magnitude_any d _ hd hD).mono ?_
  rintro e w' ⟨rfl,rfl⟩
  go_wp2_with fail;refine (reduce_any _ n.natAbs d.natAbs _ (by omega) (by omega) hdp).mono ?_
  rw [← HM.out];rintro e w1 ⟨rfl,hb1⟩
  obtain ⟨⟨q0,q1⟩,qf,qs,hB1⟩:=res2 hb1
  have HB1:=hid hB1
  clear hb1 hB1;obtain ⟨r,hr⟩:∃ r,r=mk n d:=⟨_,rfl⟩
  rw [← hr];have HRm:=hid hr
  clear hr;obtain ⟨rn,rd,re⟩:=r
  simp only [Res.val];go_wp2
  refine bodyPost_ret (v:=.tuple #[.agg #[.int .i64 rn,.int .i64 rd],.int .i64 re]) (by simp [results,Tryz.results88,go_sem,q0,q1]) rfl ⟨by rw [← HRm.out]; rfl,?_⟩
  exact ((HB1.out).setCell (Nat.le_refl _) _).setCell (Nat.le_refl _) _
end Go.Proofs.YtknpigdpepmimaaGreatDoor.Q
namespace Go.Proofs.YtknpigdpepmimaaGreatDoor.Q
open Go.Lib(hid)
open Go.RowKit
structure Two (w:World) (b:Nat)(v0 v1:Value):Prop where
 c0:w.cell? ⟨b,0,none⟩=some v0
 c1:w.cell? ⟨b,1,none⟩=some v1
 fr:∀ i,w.frozen? ⟨b,i,none⟩=false
 lt:b<w.heap.size
theorem Two.below {w w':World}{b:Nat}{v0 v1:Value}(h:Two w b v0 v1)(hb:Below w.heap.size w w'):Two w' b v0 v1:=
 ⟨(hb.cell (p:=⟨b,0,none⟩) h.lt).trans h.c0,(hb.cell (p:=⟨b,1,none⟩) h.lt).trans h.c1,fun i=>(hb.frozen (p:=⟨b,i,none⟩) h.lt).trans (h.fr i),Nat.lt_of_lt_of_le h.lt hb.size⟩
theorem Two.alloc {w:World}{b:Nat}{v0 v1:Value}(h:Two w b v0 v1)(o:Obj):Two (w.alloc o) b v0 v1:=h.below ((Below.refl _ _).alloc (Nat.le_refl _) _)
theorem Two.new (w:World)(v0 v1:Value)(t:TypeId):Two (w.alloc (.cells #[v0,v1] t)) w.heap.size v0 v1:=⟨by simp,by simp,fun i=>by simp,by simp⟩
theorem Two.new1 (w:World)(o:Obj)(v0 v1:Value)(t:TypeId):Two ((w.alloc o).alloc (.cells #[v0,v1] t)) (w.heap.size+1) v0 v1:=by
 have h:=Two.new (w.alloc o) v0 v1 t
 rw [World.size_alloc]at h
 exact h
theorem Two.new2 (w:World)(o o':Obj)(v0 v1:Value)(t:TypeId):Two (((w.alloc o).alloc o').alloc (.cells #[v0,v1] t)) (w.heap.size+1+1) v0 v1:=by
 have h:=Two.new ((w.alloc o).alloc o') v0 v1 t
 rw [World.size_alloc,World.size_alloc]at h
 exact h
theorem Below.three (w:World)(o o' o'':Obj):Below w.heap.size w (((w.alloc o).alloc o').alloc o''):=(((Below.refl _ _).alloc (Nat.le_refl _) _).alloc (by simp) _).alloc (by simp; omega) _
end Go.Proofs.YtknpigdpepmimaaGreatDoor.Q
namespace Go.Proofs.YtknpigdpepmimaaGreatDoor.Q
open Go.Lib(hid)
open Go.RowKit
set_option maxHeartbeats 1000000 in
theorem add_any (a b c d:Int)(w:World)(ha:-9223372036854775808≤a)(hA:a≤9223372036854775807)(hb:-9223372036854775808≤b)(hB:b≤9223372036854775807)(hc:-9223372036854775808≤c)(hC:c≤9223372036854775807)(hd:-9223372036854775808≤d)(hD:d≤9223372036854775807):
  Calls Tryz.prog 117 #[.agg #[.int .i64 a,.int .i64 b],.agg #[.int .i64 c,.int .i64 d]] w fun e w'=>e=.returned (addQ a b c d).val∧Below w.heap.size w w':=by
 have hX:=(((Two.new w (.int .i64 a) (.int .i64 b) 57).alloc (.cells #[.int .i64 c,.int .i64 d] 57)).alloc (.cells #[.int .i64 0,.int .i64 0] 57))
 have hY:=((Two.new1 w (.cells #[.int .i64 a,.int .i64 b] 57) (.int .i64 c) (.int .i64 d) 57).alloc (.cells #[.int .i64 0,.int .i64 0] 57))
 have hR:=Two.new2 w (.cells #[.int .i64 a,.int .i64 b] 57) (.cells #[.int .i64 c,.int .i64 d] 57) (.int .i64 0) (.int .i64 0) 57
 have h3:=Below.three w (.cells #[.int .i64 a,.int .i64 b] 57) (.cells #[.int .i64 c,.int .i64 d] 57) (.cells #[.int .i64 0,.int .i64 0] 57)
 cases hv:validQ a b with
 | false=>
  have HQ:Hid (addQ a b c d=⟨0,0,1⟩):=by show addQ a b c d=_; unfold addQ; rw [hv]; rfl
  have HV:=hid hv
  have H:=hid (And.intro hX (And.intro hY (And.intro hR h3)))
  clear hv hX hY hR h3;go_enter Tryz.func117,Tryz.ntmps117;go_wp2_with fail;refine (valid_any a b _ ha hA hb hB).mono ?_
  rw [HV.out];rintro e w1 ⟨rfl,hb1⟩
  obtain ⟨hX,hY,hR,h3⟩:=H.out
  obtain ⟨r0,r1,rf,rlt⟩:=hR.below hb1
  have hB1:=h3.trans (hb1.mono h3.size)
  have HB1:=hid hB1
  clear hX hY hR h3 hb1 hB1;go_wp2
  refine bodyPost_ret (v:=.tuple #[.agg #[.int .i64 0,.int .i64 0],.int .i64 1]) (by simp [results,Tryz.results117,go_sem,r0,r1]) rfl ⟨?_,?_⟩
  ·rw [HQ.out]; rfl
  ·exact (HB1.out.setCell (by simp; omega) _).setCell (by simp; omega) _
 | true=>
  have HV:=hid hv
  obtain ⟨v1,v2,v3,v4,_⟩:=(valid_iff a b).1 hv
  have H:=hid (And.intro hX (And.intro hY (And.intro hR h3)))
  go_enter Tryz.func117,Tryz.ntmps117;clear hX hY hR h3 hv;go_wp2_with fail;refine (valid_any a b _ ha hA hb hB).mono ?_
  rw [HV.out];rintro e w1 ⟨rfl,hb1⟩
  obtain ⟨hX,hY,hR,h3⟩:=H.out
  have hX1:=hX.below hb1
  have hY1:=hY.below hb1
  have hR1:=hR.below hb1
  have hB1:=h3.trans (hb1.mono h3.size)
  have H1:=hid (And.intro hX1 (And.intro hY1 (And.intro hR1 hB1)))
  obtain ⟨y0,y1,_,_⟩:=hY1
  clear hX hY hR h3 hb1 hX1 hR1 hB1 H;go_wp2_with fail;refine (valid_any c d _ hc hC hd hD).mono ?_
  rintro e w2 ⟨rfl,hb2⟩
  obtain ⟨hX,hY,hR,h3⟩:=H1.out
  obtain ⟨x0,x1,_,_⟩:=hX.below hb2
  obtain ⟨z0,z1,_,_⟩:=hY.below hb2
  have hR2:=hR.below hb2
  obtain ⟨r0,r1,rf,rlt⟩:=hR2
  have HR2:=hid (hR.below hb2)
  have HB2:=hid (h3.trans (hb2.mono h3.size))
  have hs2:=HB2.out.size
  clear hX hY hR h3 hb2 H1 y0 y1;cases hv2:validQ c d with
  | false=>
   have HQ:Hid (addQ a b c d=⟨0,0,1⟩):=by show addQ a b c d=_; unfold addQ; rw [HV.out,hv2]; rfl
   clear hv2;go_wp2
   refine bodyPost_ret (v:=.tuple #[.agg #[.int .i64 0,.int .i64 0],.int .i64 1]) (by simp [results,Tryz.results117,go_sem,r0,r1]) rfl ⟨?_,?_⟩
   ·rw [HQ.out]; rfl
   ·exact (HB2.out.setCell (by simp; omega) _).setCell (by simp; omega) _
  | true=>
   obtain ⟨u1,u2,u3,u4,_⟩:=(valid_iff c d).1 hv2
   have HQ:Hid (addQ a b c d=mk (a*d+c*b) (b*d)):=by show addQ a b c d=_; unfold addQ; rw [HV.out,hv2]; rfl
   clear hv2;have p1:=prod_bnd v3 v4 (show -2147483647≤d by omega) u2
   have p2:=prod_bnd u3 u4 (show -2147483647≤b by omega) v2
   have p3:=prod_bnd (show -2147483647≤b by omega) v2 (show -2147483647≤d by omega) u2
   have p4:=prod_bnd v3 v4 u3 u4
   have p5:=prod_bnd (show -2147483647≤b by omega) v2 u3 u4
   go_wp2_with fail;refine (make_any _ _ _ (by omega) (by omega) (by omega) (by omega)).mono ?_
   rw [← HQ.out];rintro e w3 ⟨rfl,hb3⟩
   obtain ⟨s0,s1,sf,slt⟩:=HR2.out.below hb3
   have HB3:=hid (HB2.out.trans (hb3.mono hs2))
   have hs3:=HB3.out.size
   clear hb3 r0 r1 rf rlt x0 x1 z0 z1 p1 p2 p3 p4 p5;obtain ⟨r,hr⟩:∃ r,r=addQ a b c d:=⟨_,rfl⟩
   rw [← hr];have HRm:=hid hr
   clear hr;obtain ⟨rn,rd,re⟩:=r
   simp only [Res.val];go_wp2
   refine bodyPost_ret (v:=.tuple #[.agg #[.int .i64 rn,.int .i64 rd],.int .i64 re]) (by simp [results,Tryz.results117,go_sem,s0,s1]) rfl ⟨?_,?_⟩
   ·rw [← HRm.out]; rfl
   ·exact (HB3.out.setCell (by simp; omega) _).setCell (by simp; omega) _
set_option maxHeartbeats 1000000 in
theorem sub_any (a b c d:Int)(w:World)(ha:-9223372036854775808≤a)(hA:a≤9223372036854775807)(hb:-9223372036854775808≤b)(hB:b≤9223372036854775807)(hc:-9223372036854775808≤c)(hC:c≤9223372036854775807)(hd:-9223372036854775808≤d)(hD:d≤9223372036854775807):
  Calls Tryz.prog 118 #[.agg #[.int .i64 a,.int .i64 b],.agg #[.int .i64 c,.int .i64 d]] w fun e w'=>e=.returned (subQ a b c d).val∧Below w.heap.size w w':=by
 have hX:=(((Two.new w (.int .i64 a) (.int .i64 b) 57).alloc (.cells #[.int .i64 c,.int .i64 d] 57)).alloc (.cells #[.int .i64 0,.int .i64 0] 57))
 have hY:=((Two.new1 w (.cells #[.int .i64 a,.int .i64 b] 57) (.int .i64 c) (.int .i64 d) 57).alloc (.cells #[.int .i64 0,.int .i64 0] 57))
 have hR:=Two.new2 w (.cells #[.int .i64 a,.int .i64 b] 57) (.cells #[.int .i64 c,.int .i64 d] 57) (.int .i64 0) (.int .i64 0) 57
 have h3:=Below.three w (.cells #[.int .i64 a,.int .i64 b] 57) (.cells #[.int .i64 c,.int .i64 d] 57) (.cells #[.int .i64 0,.int .i64 0] 57)
 cases hv:validQ a b with
 | false=>
  have HQ:Hid (subQ a b c d=⟨0,0,1⟩):=by show subQ a b c d=_; unfold subQ; rw [hv]; rfl
  have HV:=hid hv
  have H:=hid (And.intro hX (And.intro hY (And.intro hR h3)))
  clear hv hX hY hR h3;go_enter Tryz.func118,Tryz.ntmps118;go_wp2_with fail;refine (valid_any a b _ ha hA hb hB).mono ?_
  rw [HV.out];rintro e w1 ⟨rfl,hb1⟩
  obtain ⟨hX,hY,hR,h3⟩:=H.out
  obtain ⟨r0,r1,rf,rlt⟩:=hR.below hb1
  have hB1:=h3.trans (hb1.mono h3.size)
  have HB1:=hid hB1
  clear hX hY hR h3 hb1 hB1;go_wp2
  refine bodyPost_ret (v:=.tuple #[.agg #[.int .i64 0,.int .i64 0],.int .i64 1]) (by simp [results,Tryz.results118,go_sem,r0,r1]) rfl ⟨?_,?_⟩
  ·rw [HQ.out]; rfl
  ·exact (HB1.out.setCell (by simp; omega) _).setCell (by simp; omega) _
 | true=>
  have HV:=hid hv
  obtain ⟨v1,v2,v3,v4,_⟩:=(valid_iff a b).1 hv
  have H:=hid (And.intro hX (And.intro hY (And.intro hR h3)))
  go_enter Tryz.func118,Tryz.ntmps118;clear hX hY hR h3 hv;go_wp2_with fail;refine (valid_any a b _ ha hA hb hB).mono ?_
  rw [HV.out];rintro e w1 ⟨rfl,hb1⟩
  obtain ⟨hX,hY,hR,h3⟩:=H.out
  have hX1:=hX.below hb1
  have hY1:=hY.below hb1
  have hR1:=hR.below hb1
  have hB1:=h3.trans (hb1.mono h3.size)
  have H1:=hid (And.intro hX1 (And.intro hY1 (And.intro hR1 hB1)))
  obtain ⟨y0,y1,_,_⟩:=hY1
  clear hX hY hR h3 hb1 hX1 hR1 hB1 H;go_wp2_with fail;refine (valid_any c d _ hc hC hd hD).mono ?_
  rintro e w2 ⟨rfl,hb2⟩
  obtain ⟨hX,hY,hR,h3⟩:=H1.out
  obtain ⟨x0,x1,_,_⟩:=hX.below hb2
  obtain ⟨z0,z1,_,_⟩:=hY.below hb2
  have hR2:=hR.below hb2
  obtain ⟨r0,r1,rf,rlt⟩:=hR2
  have HR2:=hid (hR.below hb2)
  have HB2:=hid (h3.trans (hb2.mono h3.size))
  have hs2:=HB2.out.size
  clear hX hY hR h3 hb2 H1 y0 y1;cases hv2:validQ c d with
  | false=>
   have HQ:Hid (subQ a b c d=⟨0,0,1⟩):=by show subQ a b c d=_; unfold subQ; rw [HV.out,hv2]; rfl
   clear hv2;go_wp2
   refine bodyPost_ret (v:=.tuple #[.agg #[.int .i64 0,.int .i64 0],.int .i64 1]) (by simp [results,Tryz.results118,go_sem,r0,r1]) rfl ⟨?_,?_⟩
   ·rw [HQ.out]; rfl
   ·exact (HB2.out.setCell (by simp; omega) _).setCell (by simp; omega) _
  | true=>
   obtain ⟨u1,u2,u3,u4,_⟩:=(valid_iff c d).1 hv2
   have HQ:Hid (subQ a b c d=mk (a*d-c*b) (b*d)):=by show subQ a b c d=_; unfold subQ; rw [HV.out,hv2]; rfl
   clear hv2;have p1:=prod_bnd v3 v4 (show -2147483647≤d by omega) u2
   have p2:=prod_bnd u3 u4 (show -2147483647≤b by omega) v2
   have p3:=prod_bnd (show -2147483647≤b by omega) v2 (show -2147483647≤d by omega) u2
   have p4:=prod_bnd v3 v4 u3 u4
   have p5:=prod_bnd (show -2147483647≤b by omega) v2 u3 u4
   go_wp2_with fail;refine (make_any _ _ _ (by omega) (by omega) (by omega) (by omega)).mono ?_
   rw [← HQ.out];rintro e w3 ⟨rfl,hb3⟩
   obtain ⟨s0,s1,sf,slt⟩:=HR2.out.below hb3
   have HB3:=hid (HB2.out.trans (hb3.mono hs2))
   have hs3:=HB3.out.size
   clear hb3 r0 r1 rf rlt x0 x1 z0 z1 p1 p2 p3 p4 p5;obtain ⟨r,hr⟩:∃ r,r=subQ a b c d:=⟨_,rfl⟩
   rw [← hr];have HRm:=hid hr
   clear hr;obtain ⟨rn,rd,re⟩:=r
   simp only [Res.val];go_wp2
   refine bodyPost_ret (v:=.tuple #[.agg #[.int .i64 rn,.int .i64 rd],.int .i64 re]) (by simp [results,Tryz.results118,go_sem,s0,s1]) rfl ⟨?_,?_⟩
   ·rw [← HRm.out]; rfl
   ·exact (HB3.out.setCell (by simp; omega) _).setCell (by simp; omega) _
set_option maxHeartbeats 1000000 in
theorem mul_any (a b c d:Int)(w:World)(ha:-9223372036854775808≤a)(hA:a≤9223372036854775807)(hb:-9223372036854775808≤b)(hB:b≤9223372036854775807)(hc:-9223372036854775808≤c)(hC:c≤9223372036854775807)(hd:-9223372036854775808≤d)(hD:d≤9223372036854775807):
  Calls Tryz.prog 45 #[.agg #[.int .i64 a,.int .i64 b],.agg #[.int .i64 c,.int .i64 d]] w fun e w'=>e=.returned (mulQ a b c d).val∧Below w.heap.size w w':=by
 have hX:=(((Two.new w (.int .i64 a) (.int .i64 b) 57).alloc (.cells #[.int .i64 c,.int .i64 d] 57)).alloc (.cells #[.int .i64 0,.int .i64 0] 57))
 have hY:=((Two.new1 w (.cells #[.int .i64 a,.int .i64 b] 57) (.int .i64 c) (.int .i64 d) 57).alloc (.cells #[.int .i64 0,.int .i64 0] 57))
 have hR:=Two.new2 w (.cells #[.int .i64 a,.int .i64 b] 57) (.cells #[.int .i64 c,.int .i64 d] 57) (.int .i64 0) (.int .i64 0) 57
 have h3:=Below.three w (.cells #[.int .i64 a,.int .i64 b] 57) (.cells #[.int .i64 c,.int .i64 d] 57) (.cells #[.int .i64 0,.int .i64 0] 57)
 cases hv:validQ a b with
 | false=>
  have HQ:Hid (mulQ a b c d=⟨0,0,1⟩):=by show mulQ a b c d=_; unfold mulQ; rw [hv]; rfl
  have HV:=hid hv
  have H:=hid (And.intro hX (And.intro hY (And.intro hR h3)))
  clear hv hX hY hR h3;go_enter Tryz.func45,Tryz.ntmps45;go_wp2_with fail;refine (valid_any a b _ ha hA hb hB).mono ?_
  rw [HV.out];rintro e w1 ⟨rfl,hb1⟩
  obtain ⟨hX,hY,hR,h3⟩:=H.out
  obtain ⟨r0,r1,rf,rlt⟩:=hR.below hb1
  have hB1:=h3.trans (hb1.mono h3.size)
  have HB1:=hid hB1
  clear hX hY hR h3 hb1 hB1;go_wp2
  refine bodyPost_ret (v:=.tuple #[.agg #[.int .i64 0,.int .i64 0],.int .i64 1]) (by simp [results,Tryz.results45,go_sem,r0,r1]) rfl ⟨?_,?_⟩
  ·rw [HQ.out]; rfl
  ·exact (HB1.out.setCell (by simp; omega) _).setCell (by simp; omega) _
 | true=>
  have HV:=hid hv
  obtain ⟨v1,v2,v3,v4,_⟩:=(valid_iff a b).1 hv
  have H:=hid (And.intro hX (And.intro hY (And.intro hR h3)))
  go_enter Tryz.func45,Tryz.ntmps45;clear hX hY hR h3 hv;go_wp2_with fail;refine (valid_any a b _ ha hA hb hB).mono ?_
  rw [HV.out];rintro e w1 ⟨rfl,hb1⟩
  obtain ⟨hX,hY,hR,h3⟩:=H.out
  have hX1:=hX.below hb1
  have hY1:=hY.below hb1
  have hR1:=hR.below hb1
  have hB1:=h3.trans (hb1.mono h3.size)
  have H1:=hid (And.intro hX1 (And.intro hY1 (And.intro hR1 hB1)))
  obtain ⟨y0,y1,_,_⟩:=hY1
  clear hX hY hR h3 hb1 hX1 hR1 hB1 H;go_wp2_with fail;refine (valid_any c d _ hc hC hd hD).mono ?_
  rintro e w2 ⟨rfl,hb2⟩
  obtain ⟨hX,hY,hR,h3⟩:=H1.out
  obtain ⟨x0,x1,_,_⟩:=hX.below hb2
  obtain ⟨z0,z1,_,_⟩:=hY.below hb2
  have hR2:=hR.below hb2
  obtain ⟨r0,r1,rf,rlt⟩:=hR2
  have HR2:=hid (hR.below hb2)
  have HB2:=hid (h3.trans (hb2.mono h3.size))
  have hs2:=HB2.out.size
  clear hX hY hR h3 hb2 H1 y0 y1;cases hv2:validQ c d with
  | false=>
   have HQ:Hid (mulQ a b c d=⟨0,0,1⟩):=by show mulQ a b c d=_; unfold mulQ; rw [HV.out,hv2]; rfl
   clear hv2;go_wp2
   refine bodyPost_ret (v:=.tuple #[.agg #[.int .i64 0,.int .i64 0],.int .i64 1]) (by simp [results,Tryz.results45,go_sem,r0,r1]) rfl ⟨?_,?_⟩
   ·rw [HQ.out]; rfl
   ·exact (HB2.out.setCell (by simp; omega) _).setCell (by simp; omega) _
  | true=>
   obtain ⟨u1,u2,u3,u4,_⟩:=(valid_iff c d).1 hv2
   have HQ:Hid (mulQ a b c d=mk (a*c) (b*d)):=by show mulQ a b c d=_; unfold mulQ; rw [HV.out,hv2]; rfl
   clear hv2;have p1:=prod_bnd v3 v4 (show -2147483647≤d by omega) u2
   have p2:=prod_bnd u3 u4 (show -2147483647≤b by omega) v2
   have p3:=prod_bnd (show -2147483647≤b by omega) v2 (show -2147483647≤d by omega) u2
   have p4:=prod_bnd v3 v4 u3 u4
   have p5:=prod_bnd (show -2147483647≤b by omega) v2 u3 u4
   go_wp2_with fail;refine (make_any _ _ _ (by omega) (by omega) (by omega) (by omega)).mono ?_
   rw [← HQ.out];rintro e w3 ⟨rfl,hb3⟩
   obtain ⟨s0,s1,sf,slt⟩:=HR2.out.below hb3
   have HB3:=hid (HB2.out.trans (hb3.mono hs2))
   have hs3:=HB3.out.size
   clear hb3 r0 r1 rf rlt x0 x1 z0 z1 p1 p2 p3 p4 p5;obtain ⟨r,hr⟩:∃ r,r=mulQ a b c d:=⟨_,rfl⟩
   rw [← hr];have HRm:=hid hr
   clear hr;obtain ⟨rn,rd,re⟩:=r
   simp only [Res.val];go_wp2
   refine bodyPost_ret (v:=.tuple #[.agg #[.int .i64 rn,.int .i64 rd],.int .i64 re]) (by simp [results,Tryz.results45,go_sem,s0,s1]) rfl ⟨?_,?_⟩
   ·rw [← HRm.out]; rfl
   ·exact (HB3.out.setCell (by simp; omega) _).setCell (by simp; omega) _
set_option maxHeartbeats 1000000 in
theorem div_any (a b c d:Int)(w:World)(ha:-9223372036854775808≤a)(hA:a≤9223372036854775807)(hb:-9223372036854775808≤b)(hB:b≤9223372036854775807)(hc:-9223372036854775808≤c)(hC:c≤9223372036854775807)(hd:-9223372036854775808≤d)(hD:d≤9223372036854775807):
  Calls Tryz.prog 46 #[.agg #[.int .i64 a,.int .i64 b],.agg #[.int .i64 c,.int .i64 d]] w fun e w'=>e=.returned (divQ a b c d).val∧Below w.heap.size w w':=by
 have hX:=(((Two.new w (.int .i64 a) (.int .i64 b) 57).alloc (.cells #[.int .i64 c,.int .i64 d] 57)).alloc (.cells #[.int .i64 0,.int .i64 0] 57))
 have hY:=((Two.new1 w (.cells #[.int .i64 a,.int .i64 b] 57) (.int .i64 c) (.int .i64 d) 57).alloc (.cells #[.int .i64 0,.int .i64 0] 57))
 have hR:=Two.new2 w (.cells #[.int .i64 a,.int .i64 b] 57) (.cells #[.int .i64 c,.int .i64 d] 57) (.int .i64 0) (.int .i64 0) 57
 have h3:=Below.three w (.cells #[.int .i64 a,.int .i64 b] 57) (.cells #[.int .i64 c,.int .i64 d] 57) (.cells #[.int .i64 0,.int .i64 0] 57)
 cases hv:validQ a b with
 | false=>
  have HQ:Hid (divQ a b c d=⟨0,0,1⟩):=by show divQ a b c d=_; unfold divQ; rw [hv]; rfl
  have HV:=hid hv
  have H:=hid (And.intro hX (And.intro hY (And.intro hR h3)))
  clear hv hX hY hR h3;go_enter Tryz.func46,Tryz.ntmps46;go_wp2_with fail;refine (valid_any a b _ ha hA hb hB).mono ?_
  rw [HV.out];rintro e w1 ⟨rfl,hb1⟩
  obtain ⟨hX,hY,hR,h3⟩:=H.out
  obtain ⟨r0,r1,rf,rlt⟩:=hR.below hb1
  have hB1:=h3.trans (hb1.mono h3.size)
  have HB1:=hid hB1
  clear hX hY hR h3 hb1 hB1;go_wp2
  refine bodyPost_ret (v:=.tuple #[.agg #[.int .i64 0,.int .i64 0],.int .i64 1]) (by simp [results,Tryz.results46,go_sem,r0,r1]) rfl ⟨?_,?_⟩
  ·rw [HQ.out]; rfl
  ·exact (HB1.out.setCell (by simp; omega) _).setCell (by simp; omega) _
 | true=>
  have HV:=hid hv
  obtain ⟨v1,v2,v3,v4,_⟩:=(valid_iff a b).1 hv
  have H:=hid (And.intro hX (And.intro hY (And.intro hR h3)))
  go_enter Tryz.func46,Tryz.ntmps46;clear hX hY hR h3 hv;go_wp2_with fail;refine (valid_any a b _ ha hA hb hB).mono ?_
  rw [HV.out];rintro e w1 ⟨rfl,hb1⟩
  obtain ⟨hX,hY,hR,h3⟩:=H.out
  have hX1:=hX.below hb1
  have hY1:=hY.below hb1
  have hR1:=hR.below hb1
  have hB1:=h3.trans (hb1.mono h3.size)
  have H1:=hid (And.intro hX1 (And.intro hY1 (And.intro hR1 hB1)))
  obtain ⟨y0,y1,_,_⟩:=hY1
  clear hX hY hR h3 hb1 hX1 hR1 hB1 H;go_wp2_with fail;refine (valid_any c d _ hc hC hd hD).mono ?_
  rintro e w2 ⟨rfl,hb2⟩
  obtain ⟨hX,hY,hR,h3⟩:=H1.out
  obtain ⟨x0,x1,_,_⟩:=hX.below hb2
  obtain ⟨z0,z1,_,_⟩:=hY.below hb2
  have hR2:=hR.below hb2
  obtain ⟨r0,r1,rf,rlt⟩:=hR2
  have HR2:=hid (hR.below hb2)
  have HB2:=hid (h3.trans (hb2.mono h3.size))
  have hs2:=HB2.out.size
  clear hX hY hR h3 hb2 H1 y0 y1;cases hv2:validQ c d with
  | false=>
   have HQ:Hid (divQ a b c d=⟨0,0,1⟩):=by show divQ a b c d=_; unfold divQ; rw [HV.out,hv2]; rfl
   clear hv2;go_wp2
   refine bodyPost_ret (v:=.tuple #[.agg #[.int .i64 0,.int .i64 0],.int .i64 1]) (by simp [results,Tryz.results46,go_sem,r0,r1]) rfl ⟨?_,?_⟩
   ·rw [HQ.out]; rfl
   ·exact (HB2.out.setCell (by simp; omega) _).setCell (by simp; omega) _
  | true=>
   obtain ⟨u1,u2,u3,u4,_⟩:=(valid_iff c d).1 hv2
   have HQ:Hid (divQ a b c d=mk (a*d) (b*c)):=by show divQ a b c d=_; unfold divQ; rw [HV.out,hv2]; rfl
   clear hv2;have p1:=prod_bnd v3 v4 (show -2147483647≤d by omega) u2
   have p2:=prod_bnd u3 u4 (show -2147483647≤b by omega) v2
   have p3:=prod_bnd (show -2147483647≤b by omega) v2 (show -2147483647≤d by omega) u2
   have p4:=prod_bnd v3 v4 u3 u4
   have p5:=prod_bnd (show -2147483647≤b by omega) v2 u3 u4
   by_cases hc0:c=0
   ·have HQ0:Hid (divQ a b c d=⟨0,0,10⟩):=HQ.out.trans (by rw [hc0,Int.mul_zero]; rfl)
    have hc0':(c == 0)=true:=by simpa using hc0
    clear hc0 HQ;go_wp2
    refine bodyPost_ret (v:=.tuple #[.agg #[.int .i64 0,.int .i64 0],.int .i64 10]) (by simp [results,Tryz.results46,go_sem,r0,r1]) rfl ⟨?_,?_⟩
    ·rw [HQ0.out]; rfl
    ·exact (HB2.out.setCell (by simp; omega) _).setCell (by simp; omega) _
   have hc0':(c == 0)=false:=by simpa using hc0
   clear hc0;go_wp2_with fail;refine (make_any _ _ _ (by omega) (by omega) (by omega) (by omega)).mono ?_
   rw [← HQ.out];rintro e w3 ⟨rfl,hb3⟩
   obtain ⟨s0,s1,sf,slt⟩:=HR2.out.below hb3
   have HB3:=hid (HB2.out.trans (hb3.mono hs2))
   have hs3:=HB3.out.size
   clear hb3 r0 r1 rf rlt x0 x1 z0 z1 p1 p2 p3 p4 p5;obtain ⟨r,hr⟩:∃ r,r=divQ a b c d:=⟨_,rfl⟩
   rw [← hr];have HRm:=hid hr
   clear hr;obtain ⟨rn,rd,re⟩:=r
   simp only [Res.val];go_wp2
   refine bodyPost_ret (v:=.tuple #[.agg #[.int .i64 rn,.int .i64 rd],.int .i64 re]) (by simp [results,Tryz.results46,go_sem,s0,s1]) rfl ⟨?_,?_⟩
   ·rw [← HRm.out]; rfl
   ·exact (HB3.out.setCell (by simp; omega) _).setCell (by simp; omega) _
end Go.Proofs.YtknpigdpepmimaaGreatDoor.Q
namespace Go.Proofs.YtknpigdpepmimaaGreatDoor.Q
open Go.Lib(hid)
open Go.RowKit
@[irreducible] def sqr (n:Int):Int:=(((List.range 65536).find? fun m:Nat=>decide (n≤(m:Int)*m)).map (fun m=>(m:Int))).getD 65536
theorem sq_mono {i j:Int}(h0:0≤i)(h:i≤j):i*i≤j*j:=Int.mul_le_mul h h h0 (by omega)
theorem sqr_eq (n:Int) (m:Nat)(hm:m≤65536)(h1:∀ k:Nat,k<m→(k:Int)*k<n)(h2:m=65536∨n≤(m:Int)*m):sqr n=m:=by
 unfold sqr;rcases h2 with h2|h2
 ·subst h2
  rw [List.find?_eq_none.2 (fun x hx=>by have:=h1 x (List.mem_range.1 hx); simp; omega)]
  rfl
 ·by_cases hlt:m<65536
  ·have:(List.range 65536).find? (fun m:Nat=>decide (n≤(m:Int)*m))=some m:=by
    rw [List.find?_range_eq_some];refine ⟨by simpa using h2,List.mem_range.2 hlt,fun k hk=>?_⟩
    have:=h1 k hk
    simp; omega
   rw [this]; rfl
  ·have:m=65536:=by omega
   subst this;rw [List.find?_eq_none.2 (fun x hx=>by have:=h1 x (List.mem_range.1 hx); simp; omega)]
   rfl
theorem sqr_bnd (n:Int):0≤sqr n∧sqr n≤65536:=by
 unfold sqr;cases h:(List.range 65536).find? (fun m:Nat=>decide (n≤(m:Int)*m)) with
 | none=>simp
 | some m=>have:=List.mem_range.1 (List.mem_of_find?_eq_some h); simp; omega
def rootQ (a b:Int):Res:=if validQ a b then (if sqr a*sqr a=a∧sqr b*sqr b=b then ⟨sqr a,sqr b,0⟩else ⟨0,0,2⟩)else ⟨0,0,1⟩
set_option maxHeartbeats 1000000 in
theorem square_any (n:Int)(w:World)(_hn:-9223372036854775808≤n)(_hN:n≤9223372036854775807):
  Calls Tryz.prog 164 #[.int .i64 n] w fun e w'=>e=.returned (.tuple #[.int .i64 (sqr n),.bool (sqr n*sqr n == n)])∧w=w':=by
 go_enter Tryz.func164,Tryz.ntmps164;go_wp2
 go_loop [4,5] (fun s4 s5=>∃ l h:Nat,l≤h∧h≤65536∧s4=.int .i64 l∧s5=.int .i64 h∧Aside (∀ k:Nat,k<l→(k:Int)*k<n)∧Aside (h=65536∨n≤(h:Int)*h)) (fun s4 s5=>(intOf s5).toNat-(intOf s4).toNat)
 case atStart=>exact ⟨0,65536,by omega,Nat.le_refl _,rfl,rfl,fun k hk=>absurd hk (Nat.not_lt_zero _),.inl rfl⟩
 case round=>
  obtain ⟨l,h,hlh,hh,rfl,rfl,HL,HH⟩:=hrel
  by_cases hlt:l<h
  ·have hltz:(l:Int)<(h:Int):=by omega
   obtain ⟨m,hm⟩:∃ m:Nat,m=(l+h) / 2:=⟨_,rfl⟩
   have hml:l≤m:=by omega
   have hmh:m<h:=by omega
   have hmz:((l:Int)+(h:Int)) / 2=(m:Int):=by omega
   have hmb:(m:Int)≤65536:=by omega
   have hsq:=prod_bnd (a:=(m:Int)) (b:=(m:Int)) (by omega) (by omega) (by omega) (by omega)
   by_cases hc:(m:Int)*m<n
   ·clear hm
    go_wp2
    go_round
    case rel=>
     refine ⟨m+1,h,by omega,hh,by go_num,rfl,(show Aside _ from fun k hk=>?_),HH.out⟩
     have:=sq_mono (i:=(k:Int)) (j:=(m:Int)) (by omega) (by omega)
     omega
    case measure=>simp [intOf]; omega
   ·clear hm
    go_wp2
    go_round
    case rel=>exact ⟨l,m,by omega,by omega,rfl,by go_num,HL.out,.inr (by omega)⟩
    case measure=>simp [intOf]; omega
  ·have hltz:¬ (l:Int)<(h:Int):=by omega
   obtain rfl:l=h:=by omega
   have HS:=hid (sqr_eq n l hh HL.out HH.out)
   have hsq:=prod_bnd (a:=(l:Int)) (b:=(l:Int)) (by omega) (by omega) (by omega) (by omega)
   clear HL HH;go_wp2
   go_ret2;rw [HS.out];exact ⟨rfl,rfl⟩
set_option maxHeartbeats 1000000 in
theorem whole_any (n:Int)(w:World)(_hn:-9223372036854775808≤n)(_hN:n≤9223372036854775807):
  Calls Tryz.prog 184 #[.int .i64 n] w fun e w'=>e=.returned (.tuple #[.int .i64 (sqr n),.bool (sqr n*sqr n == n)])∧w=w':=by
 go_enter Tryz.func184,Tryz.ntmps184;go_wp2
 go_loop [4,5] (fun s4 s5=>∃ l h:Nat,l≤h∧h≤65536∧s4=.int .i64 l∧s5=.int .i64 h∧Aside (∀ k:Nat,k<l→(k:Int)*k<n)∧Aside (h=65536∨n≤(h:Int)*h)) (fun s4 s5=>(intOf s5).toNat-(intOf s4).toNat)
 case atStart=>exact ⟨0,65536,by omega,Nat.le_refl _,rfl,rfl,fun k hk=>absurd hk (Nat.not_lt_zero _),.inl rfl⟩
 case round=>
  obtain ⟨l,h,hlh,hh,rfl,rfl,HL,HH⟩:=hrel
  by_cases hlt:l<h
  ·have hltz:(l:Int)<(h:Int):=by omega
   obtain ⟨m,hm⟩:∃ m:Nat,m=(l+h) / 2:=⟨_,rfl⟩
   have hml:l≤m:=by omega
   have hmh:m<h:=by omega
   have hmz:((l:Int)+(h:Int)) / 2=(m:Int):=by omega
   have hmb:(m:Int)≤65536:=by omega
   have hsq:=prod_bnd (a:=(m:Int)) (b:=(m:Int)) (by omega) (by omega) (by omega) (by omega)
   by_cases hc:(m:Int)*m<n
   ·clear hm
    go_wp2
    go_round
    case rel=>
     refine ⟨m+1,h,by omega,hh,by go_num,rfl,(show Aside _ from fun k hk=>?_),HH.out⟩
     have:=sq_mono (i:=(k:Int)) (j:=(m:Int)) (by omega) (by omega)
     omega
    case measure=>simp [intOf]; omega
   ·clear hm
    go_wp2
    go_round
    case rel=>exact ⟨l,m,by omega,by omega,rfl,by go_num,HL.out,.inr (by omega)⟩
    case measure=>simp [intOf]; omega
  ·have hltz:¬ (l:Int)<(h:Int):=by omega
   obtain rfl:l=h:=by omega
   have HS:=hid (sqr_eq n l hh HL.out HH.out)
   have hsq:=prod_bnd (a:=(l:Int)) (b:=(l:Int)) (by omega) (by omega) (by omega) (by omega)
   clear HL HH;go_wp2
   go_ret2;rw [HS.out];exact ⟨rfl,rfl⟩
set_option maxHeartbeats 2000000 in
theorem root_any (a b:Int)(w:World)(ha:-9223372036854775808≤a)(hA:a≤9223372036854775807)(hb:-9223372036854775808≤b)(hB:b≤9223372036854775807):
  Calls Tryz.prog 124 #[.agg #[.int .i64 a,.int .i64 b]] w fun e w'=>e=.returned (rootQ a b).val∧Below w.heap.size w w':=by
 have hX:=((Two.new w (.int .i64 a) (.int .i64 b) 57).alloc (.cells #[.int .i64 0,.int .i64 0] 57))
 have hR:=(Two.new1 w (.cells #[.int .i64 a,.int .i64 b] 57) (.int .i64 0) (.int .i64 0) 57)
 have h3:Below w.heap.size w ((w.alloc (.cells #[.int .i64 a,.int .i64 b] 57)).alloc (.cells #[.int .i64 0,.int .i64 0] 57)):=((Below.refl _ _).alloc (Nat.le_refl _) _).alloc (by simp) _
 have H:=hid (And.intro hX (And.intro hR h3))
 clear hX hR h3;cases hv:validQ a b with
 | false=>
  have HQ:Hid (rootQ a b=⟨0,0,1⟩):=by show rootQ a b=_; unfold rootQ; rw [hv]; first|rw [if_pos rfl]|rw [if_neg (by simp)]
  have HV:=hid hv
  clear hv;go_enter Tryz.func124,Tryz.ntmps124;go_wp2_with fail;refine (valid_any a b _ ha hA hb hB).mono ?_
  rw [HV.out];rintro e w1 ⟨rfl,hb1⟩
  obtain ⟨hX,hR,h3⟩:=H.out
  obtain ⟨r0,r1,rf,rlt⟩:=hR.below hb1
  have HB1:=hid (h3.trans (hb1.mono h3.size))
  clear hX hR h3 hb1;go_wp2
  refine bodyPost_ret (v:=.tuple #[.agg #[.int .i64 0,.int .i64 0],.int .i64 1]) (by simp [results,Tryz.results124,go_sem,r0,r1]) rfl ⟨?_,?_⟩
  ·rw [HQ.out]; rfl
  ·exact (HB1.out.setCell (by simp) _).setCell (by simp) _
 | true=>
  obtain ⟨v1,v2,v3,v4,_⟩:=(valid_iff a b).1 hv
  have HQ:Hid (rootQ a b=if sqr a*sqr a=a∧sqr b*sqr b=b then ⟨sqr a,sqr b,0⟩else ⟨0,0,2⟩):=by show rootQ a b=_; unfold rootQ; rw [hv]; first|rw [if_pos rfl]|rw [if_neg (by simp)]
  have HV:=hid hv
  have hsa:=sqr_bnd a
  have hsb:=sqr_bnd b
  have hneg:Hid (a<0→(sqr a*sqr a == a)=false):=fun h=>by have:=Int.mul_nonneg hsa.1 hsa.1; simp; omega
  clear hv;go_enter Tryz.func124,Tryz.ntmps124;go_wp2_with fail;refine (valid_any a b _ ha hA hb hB).mono ?_
  rw [HV.out];rintro e w1 ⟨rfl,hb1⟩
  obtain ⟨hX,hR,h3⟩:=H.out
  obtain ⟨r0,r1,rf,rlt⟩:=hR.below hb1
  obtain ⟨x0,x1,_,_⟩:=hX.below hb1
  have HB1:=hid (h3.trans (hb1.mono h3.size))
  clear hX hR h3 hb1;go_wp2_with fail;refine (square_any a _ ha hA).mono ?_
  rintro e w' ⟨rfl,rfl⟩
  generalize hga:sqr a=sa at*;have HGA:=hid hga
  clear hga;by_cases h1:sa*sa=a
  ·have h1':(sa*sa == a)=true:=by simpa using h1
   rw [h1'];clear h1';have H1:=hid h1
   clear h1;go_wp2_with fail;refine (square_any b _ hb hB).mono ?_
   rintro e w' ⟨rfl,rfl⟩
   generalize hgb:sqr b=sb at*;clear hgb;by_cases h2:sb*sb=b
   ·have h2':(sb*sb == b)=true:=by simpa using h2
    rw [h2'];have HQ':=hid (HQ.out.trans (if_pos ⟨H1.out,h2⟩))
    clear h2' h2 HQ;go_wp2
    refine bodyPost_ret (v:=.tuple #[.agg #[.int .i64 sa,.int .i64 sb],.int .i64 0]) (by simp [results,Tryz.results124,go_sem,r0,r1]) rfl ⟨?_,?_⟩
    ·rw [HQ'.out]; rfl
    ·exact (HB1.out.setCell (by simp) _).setCell (by simp) _
   ·have h2':(sb*sb == b)=false:=by simpa using h2
    rw [h2'];have HQ':=hid (HQ.out.trans (if_neg (fun h=>h2 h.2)))
    clear h2' h2 HQ;go_wp2
    refine bodyPost_ret (v:=.tuple #[.agg #[.int .i64 0,.int .i64 0],.int .i64 2]) (by simp [results,Tryz.results124,go_sem,r0,r1]) rfl ⟨?_,?_⟩
    ·rw [HQ'.out]; rfl
    ·exact (HB1.out.setCell (by simp) _).setCell (by simp) _
  ·have h1':(sa*sa == a)=false:=by simpa using h1
   rw [h1'];have HQ':=hid (HQ.out.trans (if_neg (fun h=>h1 h.1)))
   clear h1' h1 HQ;go_wp2
   refine bodyPost_ret (v:=.tuple #[.agg #[.int .i64 0,.int .i64 0],.int .i64 2]) (by simp [results,Tryz.results124,go_sem,r0,r1]) rfl ⟨?_,?_⟩
   ·rw [HQ'.out]; rfl
   ·exact (HB1.out.setCell (by simp) _).setCell (by simp) _
end Go.Proofs.YtknpigdpepmimaaGreatDoor.Q
