/- Contract of the reference's Pow, and the walk of the law RationalPow. -/
import Derived.Test.YtknpigdpepmimaaGreatDoorV15
import Derived.Test.YtknpigdpepmimaaGreatDoorV23
namespace Go.Proofs.YtknpigdpepmimaaGreatDoor.Q
open Go.Lib(hid)
open Go.RowKit
set_option maxHeartbeats 1000000 in
theorem rp_bad (a b n:Int)(w:World)(ha:-9223372036854775808≤a)(hA:a≤9223372036854775807)(hb:-9223372036854775808≤b)(hB:b≤9223372036854775807)(h:validQ a b=false):
  Calls Tryz.prog 146 #[.agg #[.int .i64 a,.int .i64 b],.int .i64 n] w fun e w'=>e=.returned (powQ a b n).val∧Below w.heap.size w w':=by
 have HQ:=hid (powQ_arg (n:=n) h)
 have HV:=hid h
 have HX:=hid (((Two.new w (.int .i64 a) (.int .i64 b) 64).alloc (.cells #[.int .i64 0,.int .i64 0] 64)).alloc (.cells #[.int .i64 1,.int .i64 1] 64))
 have HR:=hid ((Two.new1 w (.cells #[.int .i64 a,.int .i64 b] 64) (.int .i64 0) (.int .i64 0) 64).alloc (.cells #[.int .i64 1,.int .i64 1] 64))
 have HO:=hid (Two.new2 w (.cells #[.int .i64 a,.int .i64 b] 64) (.cells #[.int .i64 0,.int .i64 0] 64) (.int .i64 1) (.int .i64 1) 64)
 have H3:=hid (Below.three w (.cells #[.int .i64 a,.int .i64 b] 64) (.cells #[.int .i64 0,.int .i64 0] 64) (.cells #[.int .i64 1,.int .i64 1] 64))
 clear h;go_enter Tryz.func146,Tryz.ntmps146;go_wp2_with fail;refine (refValid_any _ _ _ (by omega) (by omega) (by omega) (by omega)).mono ?_
 rw [HV.out];rintro e w1 ⟨rfl,hb1⟩
 obtain ⟨x0,x1,xf,xl⟩:=HX.out.below hb1
 obtain ⟨r0,r1,rf,rl⟩:=HR.out.below hb1
 obtain ⟨o0,o1,oF,ol⟩:=HO.out.below hb1
 have HB1:=hid (H3.out.trans (hb1.mono H3.out.size))
 clear hb1;go_wp2
 refine bodyPost_ret (v:=.tuple #[.agg #[.int .i64 0,.int .i64 0],.int .i64 1]) (by simp [results,Tryz.results146,go_sem,r0,r1]) rfl ⟨?_,?_⟩
 ·rw [HQ.out]; rfl
 ·exact (HB1.out.setCell (by simp) _).setCell (by simp) _
set_option maxHeartbeats 1000000 in
theorem rp_nil (a b:Int)(w:World)(ha:-9223372036854775808≤a)(hA:a≤9223372036854775807)(hb:-9223372036854775808≤b)(hB:b≤9223372036854775807)(h:validQ a b=true):
  Calls Tryz.prog 146 #[.agg #[.int .i64 a,.int .i64 b],.int .i64 0] w fun e w'=>e=.returned (powQ a b 0).val∧Below w.heap.size w w':=by
 have HQ:=hid (powQ_nil h)
 have HV:=hid h
 have HX:=hid (((Two.new w (.int .i64 a) (.int .i64 b) 64).alloc (.cells #[.int .i64 0,.int .i64 0] 64)).alloc (.cells #[.int .i64 1,.int .i64 1] 64))
 have HR:=hid ((Two.new1 w (.cells #[.int .i64 a,.int .i64 b] 64) (.int .i64 0) (.int .i64 0) 64).alloc (.cells #[.int .i64 1,.int .i64 1] 64))
 have HO:=hid (Two.new2 w (.cells #[.int .i64 a,.int .i64 b] 64) (.cells #[.int .i64 0,.int .i64 0] 64) (.int .i64 1) (.int .i64 1) 64)
 have H3:=hid (Below.three w (.cells #[.int .i64 a,.int .i64 b] 64) (.cells #[.int .i64 0,.int .i64 0] 64) (.cells #[.int .i64 1,.int .i64 1] 64))
 clear h;go_enter Tryz.func146,Tryz.ntmps146;go_wp2_with fail;refine (refValid_any _ _ _ (by omega) (by omega) (by omega) (by omega)).mono ?_
 rw [HV.out];rintro e w1 ⟨rfl,hb1⟩
 obtain ⟨x0,x1,xf,xl⟩:=HX.out.below hb1
 obtain ⟨r0,r1,rf,rl⟩:=HR.out.below hb1
 obtain ⟨o0,o1,oF,ol⟩:=HO.out.below hb1
 have HB1:=hid (H3.out.trans (hb1.mono H3.out.size))
 clear hb1;go_wp2
 refine bodyPost_ret (v:=.tuple #[.agg #[.int .i64 1,.int .i64 1],.int .i64 0]) (by simp [results,Tryz.results146,go_sem,r0,r1]) rfl ⟨?_,?_⟩
 ·rw [HQ.out]; rfl
 ·exact (HB1.out.setCell (by simp) _).setCell (by simp) _
set_option maxHeartbeats 1000000 in
theorem rp_one (n:Int)(w:World)(hn0:n≠0)(h:validQ 1 1=true):
  Calls Tryz.prog 146 #[.agg #[.int .i64 1,.int .i64 1],.int .i64 n] w fun e w'=>e=.returned (powQ 1 1 n).val∧Below w.heap.size w w':=by
 have e0:(n == 0)=false:=by simpa using hn0
 have HQ:=hid (powQ_one n)
 have HV:=hid h
 have HX:=hid (((Two.new w (.int .i64 1) (.int .i64 1) 64).alloc (.cells #[.int .i64 0,.int .i64 0] 64)).alloc (.cells #[.int .i64 1,.int .i64 1] 64))
 have HR:=hid ((Two.new1 w (.cells #[.int .i64 1,.int .i64 1] 64) (.int .i64 0) (.int .i64 0) 64).alloc (.cells #[.int .i64 1,.int .i64 1] 64))
 have HO:=hid (Two.new2 w (.cells #[.int .i64 1,.int .i64 1] 64) (.cells #[.int .i64 0,.int .i64 0] 64) (.int .i64 1) (.int .i64 1) 64)
 have H3:=hid (Below.three w (.cells #[.int .i64 1,.int .i64 1] 64) (.cells #[.int .i64 0,.int .i64 0] 64) (.cells #[.int .i64 1,.int .i64 1] 64))
 clear h;go_enter Tryz.func146,Tryz.ntmps146;go_wp2_with fail;refine (refValid_any _ _ _ (by omega) (by omega) (by omega) (by omega)).mono ?_
 rw [HV.out];rintro e w1 ⟨rfl,hb1⟩
 obtain ⟨x0,x1,xf,xl⟩:=HX.out.below hb1
 obtain ⟨r0,r1,rf,rl⟩:=HR.out.below hb1
 obtain ⟨o0,o1,oF,ol⟩:=HO.out.below hb1
 have HB1:=hid (H3.out.trans (hb1.mono H3.out.size))
 clear hb1;go_wp2
 refine bodyPost_ret (v:=.tuple #[.agg #[.int .i64 1,.int .i64 1],.int .i64 0]) (by simp [results,Tryz.results146,go_sem,r0,r1]) rfl ⟨?_,?_⟩
 ·rw [HQ.out]; rfl
 ·exact (HB1.out.setCell (by simp) _).setCell (by simp) _
set_option maxHeartbeats 1000000 in
theorem rp_zneg (n:Int)(w:World)(hn0:n≠0)(h:validQ 0 1=true)(hneg:n<0):
  Calls Tryz.prog 146 #[.agg #[.int .i64 0,.int .i64 1],.int .i64 n] w fun e w'=>e=.returned (powQ 0 1 n).val∧Below w.heap.size w w':=by
 have e0:(n == 0)=false:=by simpa using hn0
 have HQ:=hid (powQ_zero h hneg)
 have HV:=hid h
 have HX:=hid (((Two.new w (.int .i64 0) (.int .i64 1) 64).alloc (.cells #[.int .i64 0,.int .i64 0] 64)).alloc (.cells #[.int .i64 1,.int .i64 1] 64))
 have HR:=hid ((Two.new1 w (.cells #[.int .i64 0,.int .i64 1] 64) (.int .i64 0) (.int .i64 0) 64).alloc (.cells #[.int .i64 1,.int .i64 1] 64))
 have HO:=hid (Two.new2 w (.cells #[.int .i64 0,.int .i64 1] 64) (.cells #[.int .i64 0,.int .i64 0] 64) (.int .i64 1) (.int .i64 1) 64)
 have H3:=hid (Below.three w (.cells #[.int .i64 0,.int .i64 1] 64) (.cells #[.int .i64 0,.int .i64 0] 64) (.cells #[.int .i64 1,.int .i64 1] 64))
 clear h;go_enter Tryz.func146,Tryz.ntmps146;go_wp2_with fail;refine (refValid_any _ _ _ (by omega) (by omega) (by omega) (by omega)).mono ?_
 rw [HV.out];rintro e w1 ⟨rfl,hb1⟩
 obtain ⟨x0,x1,xf,xl⟩:=HX.out.below hb1
 obtain ⟨r0,r1,rf,rl⟩:=HR.out.below hb1
 obtain ⟨o0,o1,oF,ol⟩:=HO.out.below hb1
 have HB1:=hid (H3.out.trans (hb1.mono H3.out.size))
 clear hb1;go_wp2
 refine bodyPost_ret (v:=.tuple #[.agg #[.int .i64 0,.int .i64 0],.int .i64 10]) (by simp [results,Tryz.results146,go_sem,r0,r1]) rfl ⟨?_,?_⟩
 ·rw [HQ.out]; rfl
 ·exact (HB1.out.setCell (by simp) _).setCell (by simp) _
set_option maxHeartbeats 1000000 in
theorem rp_zpos (n:Int)(w:World)(hn0:n≠0)(h:validQ 0 1=true)(hneg:0<n):
  Calls Tryz.prog 146 #[.agg #[.int .i64 0,.int .i64 1],.int .i64 n] w fun e w'=>e=.returned (powQ 0 1 n).val∧Below w.heap.size w w':=by
 have e0:(n == 0)=false:=by simpa using hn0
 have HQ:=hid (powQ_null hneg)
 have HV:=hid h
 have HX:=hid (((Two.new w (.int .i64 0) (.int .i64 1) 64).alloc (.cells #[.int .i64 0,.int .i64 0] 64)).alloc (.cells #[.int .i64 1,.int .i64 1] 64))
 have HR:=hid ((Two.new1 w (.cells #[.int .i64 0,.int .i64 1] 64) (.int .i64 0) (.int .i64 0) 64).alloc (.cells #[.int .i64 1,.int .i64 1] 64))
 have HO:=hid (Two.new2 w (.cells #[.int .i64 0,.int .i64 1] 64) (.cells #[.int .i64 0,.int .i64 0] 64) (.int .i64 1) (.int .i64 1) 64)
 have H3:=hid (Below.three w (.cells #[.int .i64 0,.int .i64 1] 64) (.cells #[.int .i64 0,.int .i64 0] 64) (.cells #[.int .i64 1,.int .i64 1] 64))
 clear h;go_enter Tryz.func146,Tryz.ntmps146;go_wp2_with fail;refine (refValid_any _ _ _ (by omega) (by omega) (by omega) (by omega)).mono ?_
 rw [HV.out];rintro e w1 ⟨rfl,hb1⟩
 obtain ⟨x0,x1,xf,xl⟩:=HX.out.below hb1
 obtain ⟨r0,r1,rf,rl⟩:=HR.out.below hb1
 obtain ⟨o0,o1,oF,ol⟩:=HO.out.below hb1
 have HB1:=hid (H3.out.trans (hb1.mono H3.out.size))
 clear hb1;go_wp2
 refine bodyPost_ret (v:=.tuple #[.agg #[.int .i64 0,.int .i64 1],.int .i64 0]) (by simp [results,Tryz.results146,go_sem,r0,r1]) rfl ⟨?_,?_⟩
 ·rw [HQ.out]; rfl
 ·exact (HB1.out.setCell (by simp) _).setCell (by simp) _
set_option maxHeartbeats 1000000 in
theorem rp_even (n:Int)(w:World)(hn0:n≠0)(h:validQ (-1) 1=true)(hev:n % 2=0):
  Calls Tryz.prog 146 #[.agg #[.int .i64 (-1),.int .i64 1],.int .i64 n] w fun e w'=>e=.returned (powQ (-1) 1 n).val∧Below w.heap.size w w':=by
 have e0:(n == 0)=false:=by simpa using hn0
 have ev:(n.tmod 2 == 0)=true:=by simpa using Int.tmod_eq_zero_of_dvd (Int.dvd_of_emod_eq_zero hev)
 have HQ:=hid ((powQ_minus n).trans (if_pos hev))
 have HV:=hid h
 have HX:=hid (((Two.new w (.int .i64 (-1)) (.int .i64 1) 64).alloc (.cells #[.int .i64 0,.int .i64 0] 64)).alloc (.cells #[.int .i64 1,.int .i64 1] 64))
 have HR:=hid ((Two.new1 w (.cells #[.int .i64 (-1),.int .i64 1] 64) (.int .i64 0) (.int .i64 0) 64).alloc (.cells #[.int .i64 1,.int .i64 1] 64))
 have HO:=hid (Two.new2 w (.cells #[.int .i64 (-1),.int .i64 1] 64) (.cells #[.int .i64 0,.int .i64 0] 64) (.int .i64 1) (.int .i64 1) 64)
 have H3:=hid (Below.three w (.cells #[.int .i64 (-1),.int .i64 1] 64) (.cells #[.int .i64 0,.int .i64 0] 64) (.cells #[.int .i64 1,.int .i64 1] 64))
 clear h;go_enter Tryz.func146,Tryz.ntmps146;go_wp2_with fail;refine (refValid_any _ _ _ (by omega) (by omega) (by omega) (by omega)).mono ?_
 rw [HV.out];rintro e w1 ⟨rfl,hb1⟩
 obtain ⟨x0,x1,xf,xl⟩:=HX.out.below hb1
 obtain ⟨r0,r1,rf,rl⟩:=HR.out.below hb1
 obtain ⟨o0,o1,oF,ol⟩:=HO.out.below hb1
 have HB1:=hid (H3.out.trans (hb1.mono H3.out.size))
 clear hb1;clear hev;go_wp2
 refine bodyPost_ret (v:=.tuple #[.agg #[.int .i64 1,.int .i64 1],.int .i64 0]) (by simp [results,Tryz.results146,go_sem,r0,r1]) rfl ⟨?_,?_⟩
 ·rw [HQ.out]; rfl
 ·exact (HB1.out.setCell (by simp) _).setCell (by simp) _
set_option maxHeartbeats 1000000 in
theorem rp_odd (n:Int)(w:World)(hn0:n≠0)(h:validQ (-1) 1=true)(hev:¬ n % 2=0):
  Calls Tryz.prog 146 #[.agg #[.int .i64 (-1),.int .i64 1],.int .i64 n] w fun e w'=>e=.returned (powQ (-1) 1 n).val∧Below w.heap.size w w':=by
 have e0:(n == 0)=false:=by simpa using hn0
 have ev:(n.tmod 2 == 0)=false:=by simp; intro e; exact hev (Int.emod_eq_zero_of_dvd (Int.dvd_of_tmod_eq_zero e))
 have HQ:=hid ((powQ_minus n).trans (if_neg hev))
 have HV:=hid h
 have HX:=hid (((Two.new w (.int .i64 (-1)) (.int .i64 1) 64).alloc (.cells #[.int .i64 0,.int .i64 0] 64)).alloc (.cells #[.int .i64 1,.int .i64 1] 64))
 have HR:=hid ((Two.new1 w (.cells #[.int .i64 (-1),.int .i64 1] 64) (.int .i64 0) (.int .i64 0) 64).alloc (.cells #[.int .i64 1,.int .i64 1] 64))
 have HO:=hid (Two.new2 w (.cells #[.int .i64 (-1),.int .i64 1] 64) (.cells #[.int .i64 0,.int .i64 0] 64) (.int .i64 1) (.int .i64 1) 64)
 have H3:=hid (Below.three w (.cells #[.int .i64 (-1),.int .i64 1] 64) (.cells #[.int .i64 0,.int .i64 0] 64) (.cells #[.int .i64 1,.int .i64 1] 64))
 clear h;go_enter Tryz.func146,Tryz.ntmps146;go_wp2_with fail;refine (refValid_any _ _ _ (by omega) (by omega) (by omega) (by omega)).mono ?_
 rw [HV.out];rintro e w1 ⟨rfl,hb1⟩
 obtain ⟨x0,x1,xf,xl⟩:=HX.out.below hb1
 obtain ⟨r0,r1,rf,rl⟩:=HR.out.below hb1
 obtain ⟨o0,o1,oF,ol⟩:=HO.out.below hb1
 have HB1:=hid (H3.out.trans (hb1.mono H3.out.size))
 clear hb1;clear hev;go_wp2
 refine bodyPost_ret (v:=.tuple #[.agg #[.int .i64 (-1),.int .i64 1],.int .i64 0]) (by simp [results,Tryz.results146,go_sem,r0,r1]) rfl ⟨?_,?_⟩
 ·rw [HQ.out]; rfl
 ·exact (HB1.out.setCell (by simp) _).setCell (by simp) _
set_option maxHeartbeats 1000000 in
theorem rp_over (a b n:Int)(w:World)(hn:-9223372036854775808≤n)(hN:n≤9223372036854775807)(hn0:n≠0)(h:validQ a b=true)(ha0:a≠0)(h1:¬ (b=1∧(a=1∨a=-1)))(hbig:31<n.natAbs):
  Calls Tryz.prog 146 #[.agg #[.int .i64 a,.int .i64 b],.int .i64 n] w fun e w'=>e=.returned (powQ a b n).val∧Below w.heap.size w w':=by
 have e0:(n == 0)=false:=by simpa using hn0
 obtain ⟨v1,v2,v3,v4,_⟩:=(valid_iff a b).1 h
 have ea:(a == 0)=false:=by simpa using ha0
 have hs:(¬ a=1∧¬ a=-1)∨(¬ b=1∧a=1)∨(¬ b=1∧a=-1):=by omega
 have hg:n < -31∨(31<n∧¬ n < -31):=by omega
 have HQ:=hid (powQ_over h ha0 h1 hbig)
 have HV:=hid h
 have HX:=hid (((Two.new w (.int .i64 a) (.int .i64 b) 64).alloc (.cells #[.int .i64 0,.int .i64 0] 64)).alloc (.cells #[.int .i64 1,.int .i64 1] 64))
 have HR:=hid ((Two.new1 w (.cells #[.int .i64 a,.int .i64 b] 64) (.int .i64 0) (.int .i64 0) 64).alloc (.cells #[.int .i64 1,.int .i64 1] 64))
 have HO:=hid (Two.new2 w (.cells #[.int .i64 a,.int .i64 b] 64) (.cells #[.int .i64 0,.int .i64 0] 64) (.int .i64 1) (.int .i64 1) 64)
 have H3:=hid (Below.three w (.cells #[.int .i64 a,.int .i64 b] 64) (.cells #[.int .i64 0,.int .i64 0] 64) (.cells #[.int .i64 1,.int .i64 1] 64))
 clear h h1 ha0 hbig hn0;rcases hs with ⟨s1,s2⟩|⟨s1,rfl⟩|⟨s1,rfl⟩<;>rcases hg with hg|⟨hg,hg0⟩
 all_goals
  go_enter Tryz.func146,Tryz.ntmps146;go_wp2_with fail;refine (refValid_any _ _ _ (by omega) (by omega) (by omega) (by omega)).mono ?_
  rw [HV.out];rintro e w1 ⟨rfl,hb1⟩
  obtain ⟨x0,x1,xf,xl⟩:=HX.out.below hb1
  obtain ⟨r0,r1,rf,rl⟩:=HR.out.below hb1
  obtain ⟨o0,o1,oF,ol⟩:=HO.out.below hb1
  have HB1:=hid (H3.out.trans (hb1.mono H3.out.size))
  clear hb1;go_wp2
  refine bodyPost_ret (v:=.tuple #[.agg #[.int .i64 0,.int .i64 0],.int .i64 2]) (by simp [results,Tryz.results146,go_sem,r0,r1]) rfl ⟨?_,?_⟩
  ·rw [HQ.out]; rfl
  ·exact (HB1.out.setCell (by simp) _).setCell (by simp) _
set_option maxRecDepth 100000 in
set_option maxHeartbeats 4000000 in
theorem rp_loop (a b:Int) (k:Nat)(w:World)(hk0:0<k)(hk31:k≤31)(h:validQ a b=true)(ha0:a≠0)(h1:¬ (b=1∧(a=1∨a=-1))):
  Calls Tryz.prog 146 #[.agg #[.int .i64 a,.int .i64 b],.int .i64 (k:Int)] w fun e w'=>e=.returned (powQ a b (k:Int)).val∧Below w.heap.size w w':=by
 have e0:((k:Int) == 0)=false:=by simp; omega
 have hkz:(0:Int)<k:=by omega
 have hkz1:(k:Int)≤31:=by omega
 obtain ⟨v1,v2,v3,v4,_⟩:=(valid_iff a b).1 h
 have ea:(a == 0)=false:=by simpa using ha0
 have hs:(¬ a=1∧¬ a=-1)∨(¬ b=1∧a=1)∨(¬ b=1∧a=-1):=by omega
 have HQ:=hid (powQ_pos (n:=(k:Int)) h (by omega))
 have HV:=hid h
 have HX:=hid (((Two.new w (.int .i64 a) (.int .i64 b) 64).alloc (.cells #[.int .i64 0,.int .i64 0] 64)).alloc (.cells #[.int .i64 1,.int .i64 1] 64))
 have HR:=hid ((Two.new1 w (.cells #[.int .i64 a,.int .i64 b] 64) (.int .i64 0) (.int .i64 0) 64).alloc (.cells #[.int .i64 1,.int .i64 1] 64))
 have HO:=hid (Two.new2 w (.cells #[.int .i64 a,.int .i64 b] 64) (.cells #[.int .i64 0,.int .i64 0] 64) (.int .i64 1) (.int .i64 1) 64)
 have H3:=hid (Below.three w (.cells #[.int .i64 a,.int .i64 b] 64) (.cells #[.int .i64 0,.int .i64 0] 64) (.cells #[.int .i64 1,.int .i64 1] 64))
 clear h h1 ha0;rcases hs with ⟨s1,s2⟩|⟨s1,rfl⟩|⟨s1,rfl⟩
 ·go_enter Tryz.func146,Tryz.ntmps146
  go_wp2_with fail;refine (refValid_any _ _ _ (by omega) (by omega) (by omega) (by omega)).mono ?_
  rw [HV.out];rintro e w1 ⟨rfl,hb1⟩
  obtain ⟨x0,x1,xf,xl⟩:=HX.out.below hb1
  obtain ⟨r0,r1,rf,rl⟩:=HR.out.below hb1
  obtain ⟨o0,o1,oF,ol⟩:=HO.out.below hb1
  have HB1:=hid (H3.out.trans (hb1.mono H3.out.size))
  clear hb1;have hs1:=HB1.out.size
  go_wp2_with fail;have HX2:=hid ((Two.mk x0 x1 xf xl).alloc (.cells #[.int .i64 1,.int .i64 1] 64))
  have HR2:=hid ((Two.mk r0 r1 rf rl).alloc (.cells #[.int .i64 1,.int .i64 1] 64))
  have HY2:=hid (Two.new w1 (.int .i64 1) (.int .i64 1) 64)
  have HB2:=hid (HB1.out.alloc hs1 (.cells #[.int .i64 1,.int .i64 1] 64))
  have n1:w.heap.size≠w1.heap.size:=by omega
  have n2:w.heap.size+1≠w1.heap.size:=by omega
  clear x0 x1 xf xl r0 r1 rf rl o0 o1 oF ol HB1 HX HR HO H3;go_loopg [8] 32 (fun gg s8 wr=>∃ (j:Nat)(yn yd:Int),j≤k∧k-j≤gg∧s8=.int .i64 j∧Aside (Below w.heap.size w wr)∧Aside (Two wr w.heap.size (.int .i64 a) (.int .i64 b))∧Aside (Two wr (w.heap.size+1) (.int .i64 0) (.int .i64 0))∧Aside (Two wr w1.heap.size (.int .i64 yn) (.int .i64 yd))∧Aside (yn=a ^ j∧yd=b ^ j∧fitB yn yd=true))
  case atStart=>exact ⟨0,1,1,by omega,by omega,rfl,HB2.out,HX2.out,HR2.out,HY2.out,⟨by simp,by simp,by decide⟩⟩
  case round=>
   obtain ⟨j,yn,yd,hjk,hjg,rfl,HBr,HXr,HRr,HYr,HP⟩:=hrel
   clear HX2 HR2 HY2 HB2;have hyb:=(fit_iff yn yd).1 HP.out.2.2
   have hyd:1≤yd:=by rw [HP.out.2.1]; exact pow_pos' v1 _
   obtain ⟨y0,y1,yf,yl⟩:=HYr.out
   obtain ⟨x0,x1,xf,xl⟩:=HXr.out
   obtain ⟨r0,r1,rf,rl⟩:=HRr.out
   by_cases hlt:j<k
   ·have hltz:(j:Int)<(k:Int):=by omega
    have HM:Hid (mulQ yn yd a b=powN a b (j+1)):=by
     have h3:=HP.out.2.2
     show mulQ yn yd a b=_
     rw [HP.out.1,HP.out.2.1]at h3 ⊢
     exact mul_pow1 HV.out h3
    go_wp2_with fail;refine (refMul_any yn yd a b _ (by omega) (by omega) (by omega) (by omega) (by omega) (by omega) (by omega) (by omega)).mono ?_
    rw [HM.out];cases hf:fitB (a ^ (j+1)) (b ^ (j+1)) with
    | false=>
     have HF:Hid (powQ a b (k:Int)=⟨0,0,2⟩):=HQ.out.trans (powN_far v1 (i:=j+1) (by omega) hf)
     rw [powN_bad hf];clear hf;simp only [Res.val];rintro e w5 ⟨rfl,hb5⟩
     have HB5:=hid (HBr.out.trans (hb5.mono HBr.out.size))
     have hs5:=HB5.out.size
     obtain ⟨q0,q1,qf,qlt⟩:=HRr.out.below hb5
     have HRf:=hid (((HRr.out.below hb5).set (.int .i64 0) (.int .i64 0)).alloc (.cells #[.int .i64 0,.int .i64 0] 64))
     clear hb5 y0 y1 yf yl x0 x1 xf xl r0 r1 rf rl;have q5:w.heap.size+1≠w5.heap.size:=by omega
     go_wp2
     obtain ⟨f0,f1,_,_⟩:=HRf.out
     refine bodyPost_ret (v:=.tuple #[.agg #[.int .i64 0,.int .i64 0],.int .i64 2]) (by simp [results,Tryz.results146,go_sem,f0,f1]) rfl ⟨?_,?_⟩
     ·rw [HF.out]; rfl
     ·exact ((HB5.out.setCell (by simp) _).setCell (by simp) _).alloc (by simp; omega) _
    | true=>
     rw [powN_ok hf];have hzb:=(fit_iff _ _).1 hf
     have hzd:1≤b ^ (j+1):=pow_pos' v1 _
     obtain ⟨zn,hzn⟩:∃ zn:Int,zn=a ^ (j+1):=⟨_,rfl⟩
     obtain ⟨zd,hzdd⟩:∃ zd:Int,zd=b ^ (j+1):=⟨_,rfl⟩
     rw [← hzn,← hzdd]at hf hzb
     rw [← hzdd]at hzd
     rw [← hzn,← hzdd];have HN:=hid (And.intro hzn (And.intro hzdd hf))
     clear hzn hzdd hf;simp only [Res.val];rintro e w5 ⟨rfl,hb5⟩
     have hs4:=(HBr.out.trans (hb5.mono HBr.out.size)).size
     have HB5:=hid ((((HBr.out.trans (hb5.mono HBr.out.size)).setCell (p:=⟨w1.heap.size,0,none⟩) (by simp; omega) (.int .i64 zn)).setCell (p:=⟨w1.heap.size,1,none⟩) (by simp; omega) (.int .i64 zd)).alloc (by simp; omega) (.cells #[.int .i64 zn,.int .i64 zd] 64))
     have HX5:=hid (((HXr.out.below hb5).others w1.heap.size (.int .i64 zn) (.int .i64 zd) n1).alloc (.cells #[.int .i64 zn,.int .i64 zd] 64))
     have HR5:=hid (((HRr.out.below hb5).others w1.heap.size (.int .i64 zn) (.int .i64 zd) n2).alloc (.cells #[.int .i64 zn,.int .i64 zd] 64))
     have HY5:=hid (((HYr.out.below hb5).set (.int .i64 zn) (.int .i64 zd)).alloc (.cells #[.int .i64 zn,.int .i64 zd] 64))
     obtain ⟨z0,z1,zf,zl⟩:=HYr.out.below hb5
     have q5:w1.heap.size≠w5.heap.size:=by omega
     clear hb5 y0 y1 yf yl x0 x1 xf xl r0 r1 rf rl;go_wp2_with fail;go_roundg (k-(j+1))
     case measure=>omega
     case rel=>exact ⟨j+1,zn,zd,by omega,by omega,by go_num,HB5.out,HX5.out,HR5.out,HY5.out,HN.out⟩
   ·have hltz:¬ (j:Int)<(k:Int):=by omega
    obtain rfl:j=k:=by omega
    have HF:Hid (powQ a b (j:Int)=⟨yn,yd,0⟩):=by
     refine HQ.out.trans ?_
     rw [show ((j:Int)).natAbs=j from rfl,HP.out.1,HP.out.2.1]
     exact powN_ok (by rw [← HP.out.1,← HP.out.2.1]; exact HP.out.2.2)
    go_wp2
    refine bodyPost_ret (v:=.tuple #[.agg #[.int .i64 yn,.int .i64 yd],.int .i64 0]) (by simp [results,Tryz.results146,go_sem,r0,r1]) rfl ⟨?_,?_⟩
    ·rw [HF.out]; rfl
    ·exact (HBr.out.setCell (by simp) _).setCell (by simp) _
 ·go_enter Tryz.func146,Tryz.ntmps146
  go_wp2_with fail;refine (refValid_any _ _ _ (by omega) (by omega) (by omega) (by omega)).mono ?_
  rw [HV.out];rintro e w1 ⟨rfl,hb1⟩
  obtain ⟨x0,x1,xf,xl⟩:=HX.out.below hb1
  obtain ⟨r0,r1,rf,rl⟩:=HR.out.below hb1
  obtain ⟨o0,o1,oF,ol⟩:=HO.out.below hb1
  have HB1:=hid (H3.out.trans (hb1.mono H3.out.size))
  clear hb1;have hs1:=HB1.out.size
  go_wp2_with fail;have HX2:=hid ((Two.mk x0 x1 xf xl).alloc (.cells #[.int .i64 1,.int .i64 1] 64))
  have HR2:=hid ((Two.mk r0 r1 rf rl).alloc (.cells #[.int .i64 1,.int .i64 1] 64))
  have HY2:=hid (Two.new w1 (.int .i64 1) (.int .i64 1) 64)
  have HB2:=hid (HB1.out.alloc hs1 (.cells #[.int .i64 1,.int .i64 1] 64))
  have n1:w.heap.size≠w1.heap.size:=by omega
  have n2:w.heap.size+1≠w1.heap.size:=by omega
  clear x0 x1 xf xl r0 r1 rf rl o0 o1 oF ol HB1 HX HR HO H3;go_loopg [8] 32 (fun gg s8 wr=>∃ (j:Nat)(yn yd:Int),j≤k∧k-j≤gg∧s8=.int .i64 j∧Aside (Below w.heap.size w wr)∧Aside (Two wr w.heap.size (.int .i64 1) (.int .i64 b))∧Aside (Two wr (w.heap.size+1) (.int .i64 0) (.int .i64 0))∧Aside (Two wr w1.heap.size (.int .i64 yn) (.int .i64 yd))∧Aside (yn=1 ^ j∧yd=b ^ j∧fitB yn yd=true))
  case atStart=>exact ⟨0,1,1,by omega,by omega,rfl,HB2.out,HX2.out,HR2.out,HY2.out,⟨by simp,by simp,by decide⟩⟩
  case round=>
   obtain ⟨j,yn,yd,hjk,hjg,rfl,HBr,HXr,HRr,HYr,HP⟩:=hrel
   clear HX2 HR2 HY2 HB2;have hyb:=(fit_iff yn yd).1 HP.out.2.2
   have hyd:1≤yd:=by rw [HP.out.2.1]; exact pow_pos' v1 _
   obtain ⟨y0,y1,yf,yl⟩:=HYr.out
   obtain ⟨x0,x1,xf,xl⟩:=HXr.out
   obtain ⟨r0,r1,rf,rl⟩:=HRr.out
   by_cases hlt:j<k
   ·have hltz:(j:Int)<(k:Int):=by omega
    have HM:Hid (mulQ yn yd 1 b=powN 1 b (j+1)):=by
     have h3:=HP.out.2.2
     show mulQ yn yd 1 b=_
     rw [HP.out.1,HP.out.2.1]at h3 ⊢
     exact mul_pow1 HV.out h3
    go_wp2_with fail;refine (refMul_any yn yd 1 b _ (by omega) (by omega) (by omega) (by omega) (by omega) (by omega) (by omega) (by omega)).mono ?_
    rw [HM.out];cases hf:fitB (1 ^ (j+1)) (b ^ (j+1)) with
    | false=>
     have HF:Hid (powQ 1 b (k:Int)=⟨0,0,2⟩):=HQ.out.trans (powN_far v1 (i:=j+1) (by omega) hf)
     rw [powN_bad hf];clear hf;simp only [Res.val];rintro e w5 ⟨rfl,hb5⟩
     have HB5:=hid (HBr.out.trans (hb5.mono HBr.out.size))
     have hs5:=HB5.out.size
     obtain ⟨q0,q1,qf,qlt⟩:=HRr.out.below hb5
     have HRf:=hid (((HRr.out.below hb5).set (.int .i64 0) (.int .i64 0)).alloc (.cells #[.int .i64 0,.int .i64 0] 64))
     clear hb5 y0 y1 yf yl x0 x1 xf xl r0 r1 rf rl;have q5:w.heap.size+1≠w5.heap.size:=by omega
     go_wp2
     obtain ⟨f0,f1,_,_⟩:=HRf.out
     refine bodyPost_ret (v:=.tuple #[.agg #[.int .i64 0,.int .i64 0],.int .i64 2]) (by simp [results,Tryz.results146,go_sem,f0,f1]) rfl ⟨?_,?_⟩
     ·rw [HF.out]; rfl
     ·exact ((HB5.out.setCell (by simp) _).setCell (by simp) _).alloc (by simp; omega) _
    | true=>
     rw [powN_ok hf];have hzb:=(fit_iff _ _).1 hf
     have hzd:1≤b ^ (j+1):=pow_pos' v1 _
     obtain ⟨zn,hzn⟩:∃ zn:Int,zn=1 ^ (j+1):=⟨_,rfl⟩
     obtain ⟨zd,hzdd⟩:∃ zd:Int,zd=b ^ (j+1):=⟨_,rfl⟩
     rw [← hzn,← hzdd]at hf hzb
     rw [← hzdd]at hzd
     rw [← hzn,← hzdd];have HN:=hid (And.intro hzn (And.intro hzdd hf))
     clear hzn hzdd hf;simp only [Res.val];rintro e w5 ⟨rfl,hb5⟩
     have hs4:=(HBr.out.trans (hb5.mono HBr.out.size)).size
     have HB5:=hid ((((HBr.out.trans (hb5.mono HBr.out.size)).setCell (p:=⟨w1.heap.size,0,none⟩) (by simp; omega) (.int .i64 zn)).setCell (p:=⟨w1.heap.size,1,none⟩) (by simp; omega) (.int .i64 zd)).alloc (by simp; omega) (.cells #[.int .i64 zn,.int .i64 zd] 64))
     have HX5:=hid (((HXr.out.below hb5).others w1.heap.size (.int .i64 zn) (.int .i64 zd) n1).alloc (.cells #[.int .i64 zn,.int .i64 zd] 64))
     have HR5:=hid (((HRr.out.below hb5).others w1.heap.size (.int .i64 zn) (.int .i64 zd) n2).alloc (.cells #[.int .i64 zn,.int .i64 zd] 64))
     have HY5:=hid (((HYr.out.below hb5).set (.int .i64 zn) (.int .i64 zd)).alloc (.cells #[.int .i64 zn,.int .i64 zd] 64))
     obtain ⟨z0,z1,zf,zl⟩:=HYr.out.below hb5
     have q5:w1.heap.size≠w5.heap.size:=by omega
     clear hb5 y0 y1 yf yl x0 x1 xf xl r0 r1 rf rl;go_wp2_with fail;go_roundg (k-(j+1))
     case measure=>omega
     case rel=>exact ⟨j+1,zn,zd,by omega,by omega,by go_num,HB5.out,HX5.out,HR5.out,HY5.out,HN.out⟩
   ·have hltz:¬ (j:Int)<(k:Int):=by omega
    obtain rfl:j=k:=by omega
    have HF:Hid (powQ 1 b (j:Int)=⟨yn,yd,0⟩):=by
     refine HQ.out.trans ?_
     rw [show ((j:Int)).natAbs=j from rfl,HP.out.1,HP.out.2.1]
     exact powN_ok (by rw [← HP.out.1,← HP.out.2.1]; exact HP.out.2.2)
    go_wp2
    refine bodyPost_ret (v:=.tuple #[.agg #[.int .i64 yn,.int .i64 yd],.int .i64 0]) (by simp [results,Tryz.results146,go_sem,r0,r1]) rfl ⟨?_,?_⟩
    ·rw [HF.out]; rfl
    ·exact (HBr.out.setCell (by simp) _).setCell (by simp) _
 ·go_enter Tryz.func146,Tryz.ntmps146
  go_wp2_with fail;refine (refValid_any _ _ _ (by omega) (by omega) (by omega) (by omega)).mono ?_
  rw [HV.out];rintro e w1 ⟨rfl,hb1⟩
  obtain ⟨x0,x1,xf,xl⟩:=HX.out.below hb1
  obtain ⟨r0,r1,rf,rl⟩:=HR.out.below hb1
  obtain ⟨o0,o1,oF,ol⟩:=HO.out.below hb1
  have HB1:=hid (H3.out.trans (hb1.mono H3.out.size))
  clear hb1;have hs1:=HB1.out.size
  go_wp2_with fail;have HX2:=hid ((Two.mk x0 x1 xf xl).alloc (.cells #[.int .i64 1,.int .i64 1] 64))
  have HR2:=hid ((Two.mk r0 r1 rf rl).alloc (.cells #[.int .i64 1,.int .i64 1] 64))
  have HY2:=hid (Two.new w1 (.int .i64 1) (.int .i64 1) 64)
  have HB2:=hid (HB1.out.alloc hs1 (.cells #[.int .i64 1,.int .i64 1] 64))
  have n1:w.heap.size≠w1.heap.size:=by omega
  have n2:w.heap.size+1≠w1.heap.size:=by omega
  clear x0 x1 xf xl r0 r1 rf rl o0 o1 oF ol HB1 HX HR HO H3;go_loopg [8] 32 (fun gg s8 wr=>∃ (j:Nat)(yn yd:Int),j≤k∧k-j≤gg∧s8=.int .i64 j∧Aside (Below w.heap.size w wr)∧Aside (Two wr w.heap.size (.int .i64 (-1)) (.int .i64 b))∧Aside (Two wr (w.heap.size+1) (.int .i64 0) (.int .i64 0))∧Aside (Two wr w1.heap.size (.int .i64 yn) (.int .i64 yd))∧Aside (yn=(-1) ^ j∧yd=b ^ j∧fitB yn yd=true))
  case atStart=>exact ⟨0,1,1,by omega,by omega,rfl,HB2.out,HX2.out,HR2.out,HY2.out,⟨by simp,by simp,by decide⟩⟩
  case round=>
   obtain ⟨j,yn,yd,hjk,hjg,rfl,HBr,HXr,HRr,HYr,HP⟩:=hrel
   clear HX2 HR2 HY2 HB2;have hyb:=(fit_iff yn yd).1 HP.out.2.2
   have hyd:1≤yd:=by rw [HP.out.2.1]; exact pow_pos' v1 _
   obtain ⟨y0,y1,yf,yl⟩:=HYr.out
   obtain ⟨x0,x1,xf,xl⟩:=HXr.out
   obtain ⟨r0,r1,rf,rl⟩:=HRr.out
   by_cases hlt:j<k
   ·have hltz:(j:Int)<(k:Int):=by omega
    have HM:Hid (mulQ yn yd (-1) b=powN (-1) b (j+1)):=by
     have h3:=HP.out.2.2
     show mulQ yn yd (-1) b=_
     rw [HP.out.1,HP.out.2.1]at h3 ⊢
     exact mul_pow1 HV.out h3
    go_wp2_with fail;refine (refMul_any yn yd (-1) b _ (by omega) (by omega) (by omega) (by omega) (by omega) (by omega) (by omega) (by omega)).mono ?_
    rw [HM.out];cases hf:fitB ((-1) ^ (j+1)) (b ^ (j+1)) with
    | false=>
     have HF:Hid (powQ (-1) b (k:Int)=⟨0,0,2⟩):=HQ.out.trans (powN_far v1 (i:=j+1) (by omega) hf)
     rw [powN_bad hf];clear hf;simp only [Res.val];rintro e w5 ⟨rfl,hb5⟩
     have HB5:=hid (HBr.out.trans (hb5.mono HBr.out.size))
     have hs5:=HB5.out.size
     obtain ⟨q0,q1,qf,qlt⟩:=HRr.out.below hb5
     have HRf:=hid (((HRr.out.below hb5).set (.int .i64 0) (.int .i64 0)).alloc (.cells #[.int .i64 0,.int .i64 0] 64))
     clear hb5 y0 y1 yf yl x0 x1 xf xl r0 r1 rf rl;have q5:w.heap.size+1≠w5.heap.size:=by omega
     go_wp2
     obtain ⟨f0,f1,_,_⟩:=HRf.out
     refine bodyPost_ret (v:=.tuple #[.agg #[.int .i64 0,.int .i64 0],.int .i64 2]) (by simp [results,Tryz.results146,go_sem,f0,f1]) rfl ⟨?_,?_⟩
     ·rw [HF.out]; rfl
     ·exact ((HB5.out.setCell (by simp) _).setCell (by simp) _).alloc (by simp; omega) _
    | true=>
     rw [powN_ok hf];have hzb:=(fit_iff _ _).1 hf
     have hzd:1≤b ^ (j+1):=pow_pos' v1 _
     obtain ⟨zn,hzn⟩:∃ zn:Int,zn=(-1) ^ (j+1):=⟨_,rfl⟩
     obtain ⟨zd,hzdd⟩:∃ zd:Int,zd=b ^ (j+1):=⟨_,rfl⟩
     rw [← hzn,← hzdd]at hf hzb
     rw [← hzdd]at hzd
     rw [← hzn,← hzdd];have HN:=hid (And.intro hzn (And.intro hzdd hf))
     clear hzn hzdd hf;simp only [Res.val];rintro e w5 ⟨rfl,hb5⟩
     have hs4:=(HBr.out.trans (hb5.mono HBr.out.size)).size
     have HB5:=hid ((((HBr.out.trans (hb5.mono HBr.out.size)).setCell (p:=⟨w1.heap.size,0,none⟩) (by simp; omega) (.int .i64 zn)).setCell (p:=⟨w1.heap.size,1,none⟩) (by simp; omega) (.int .i64 zd)).alloc (by simp; omega) (.cells #[.int .i64 zn,.int .i64 zd] 64))
     have HX5:=hid (((HXr.out.below hb5).others w1.heap.size (.int .i64 zn) (.int .i64 zd) n1).alloc (.cells #[.int .i64 zn,.int .i64 zd] 64))
     have HR5:=hid (((HRr.out.below hb5).others w1.heap.size (.int .i64 zn) (.int .i64 zd) n2).alloc (.cells #[.int .i64 zn,.int .i64 zd] 64))
     have HY5:=hid (((HYr.out.below hb5).set (.int .i64 zn) (.int .i64 zd)).alloc (.cells #[.int .i64 zn,.int .i64 zd] 64))
     obtain ⟨z0,z1,zf,zl⟩:=HYr.out.below hb5
     have q5:w1.heap.size≠w5.heap.size:=by omega
     clear hb5 y0 y1 yf yl x0 x1 xf xl r0 r1 rf rl;go_wp2_with fail;go_roundg (k-(j+1))
     case measure=>omega
     case rel=>exact ⟨j+1,zn,zd,by omega,by omega,by go_num,HB5.out,HX5.out,HR5.out,HY5.out,HN.out⟩
   ·have hltz:¬ (j:Int)<(k:Int):=by omega
    obtain rfl:j=k:=by omega
    have HF:Hid (powQ (-1) b (j:Int)=⟨yn,yd,0⟩):=by
     refine HQ.out.trans ?_
     rw [show ((j:Int)).natAbs=j from rfl,HP.out.1,HP.out.2.1]
     exact powN_ok (by rw [← HP.out.1,← HP.out.2.1]; exact HP.out.2.2)
    go_wp2
    refine bodyPost_ret (v:=.tuple #[.agg #[.int .i64 yn,.int .i64 yd],.int .i64 0]) (by simp [results,Tryz.results146,go_sem,r0,r1]) rfl ⟨?_,?_⟩
    ·rw [HF.out]; rfl
    ·exact (HBr.out.setCell (by simp) _).setCell (by simp) _
theorem rp_nonneg (a b n:Int)(w:World)(ha:-9223372036854775808≤a)(hA:a≤9223372036854775807)(hb:-9223372036854775808≤b)(hB:b≤9223372036854775807)(hn:0≤n)(hN:n≤9223372036854775807):
  Calls Tryz.prog 146 #[.agg #[.int .i64 a,.int .i64 b],.int .i64 n] w fun e w'=>e=.returned (powQ a b n).val∧Below w.heap.size w w':=by
 cases h:validQ a b with
 | false=>exact rp_bad a b n w ha hA hb hB h
 | true=>
  by_cases h0:n=0
  ·subst h0; exact rp_nil a b w ha hA hb hB h
  by_cases ha0:a=0
  ·subst ha0
   obtain rfl:=valid_zero h
   exact rp_zpos n w h0 h (by omega)
  by_cases h1:b=1∧(a=1∨a=-1)
  ·obtain ⟨rfl,rfl|rfl⟩:=h1
   ·exact rp_one n w h0 h
   ·by_cases he:n % 2=0
    ·exact rp_even n w h0 h he
    ·exact rp_odd n w h0 h he
  by_cases hbig:31<n.natAbs
  ·exact rp_over a b n w (by omega) hN h0 h ha0 h1 hbig
  ·obtain ⟨k,rfl⟩:∃ k:Nat,n=(k:Int):=⟨n.natAbs,by omega⟩
   exact rp_loop a b k w (by omega) (by omega) h ha0 h1
set_option maxRecDepth 100000 in
set_option maxHeartbeats 2000000 in
theorem rp_neg (a b n:Int)(w:World)(hn:n<0)(hN:-31≤n)(h:validQ a b=true)(ha0:a≠0)(h1:¬ (b=1∧(a=1∨a=-1))):
  Calls Tryz.prog 146 #[.agg #[.int .i64 a,.int .i64 b],.int .i64 n] w fun e w'=>e=.returned (powQ a b n).val∧Below w.heap.size w w':=by
 have e0:(n == 0)=false:=by simp; omega
 obtain ⟨v1,v2,v3,v4,_⟩:=(valid_iff a b).1 h
 have ea:(a == 0)=false:=by simpa using ha0
 have hs:(¬ a=1∧¬ a=-1)∨(¬ b=1∧a=1)∨(¬ b=1∧a=-1):=by omega
 have g1:=inv_valid h ha0
 obtain ⟨i1,i2,i3,i4,_⟩:=(valid_iff _ _).1 g1
 have HMK:=hid (mk_inv h ha0)
 obtain ⟨c,hc⟩:∃ c:Int,c=a.sign*b:=⟨_,rfl⟩
 obtain ⟨d,hd⟩:∃ d:Int,d=(a.natAbs:Int):=⟨_,rfl⟩
 have HFL:=hid (powQ_flip h ha0 hn)
 rw [← hc,← hd]at HFL HMK
 rw [← hc]at i3 i4
 rw [← hd]at i1 i2
 clear hc hd g1;have HQ:=hid (HFL.out.symm)
 have HV:=hid h
 have HX:=hid (((Two.new w (.int .i64 a) (.int .i64 b) 64).alloc (.cells #[.int .i64 0,.int .i64 0] 64)).alloc (.cells #[.int .i64 1,.int .i64 1] 64))
 have HR:=hid ((Two.new1 w (.cells #[.int .i64 a,.int .i64 b] 64) (.int .i64 0) (.int .i64 0) 64).alloc (.cells #[.int .i64 1,.int .i64 1] 64))
 have HO:=hid (Two.new2 w (.cells #[.int .i64 a,.int .i64 b] 64) (.cells #[.int .i64 0,.int .i64 0] 64) (.int .i64 1) (.int .i64 1) 64)
 have H3:=hid (Below.three w (.cells #[.int .i64 a,.int .i64 b] 64) (.cells #[.int .i64 0,.int .i64 0] 64) (.cells #[.int .i64 1,.int .i64 1] 64))
 clear h h1 ha0;rcases hs with ⟨s1,s2⟩|⟨s1,rfl⟩|⟨s1,rfl⟩
 ·go_enter Tryz.func146,Tryz.ntmps146
  go_wp2_with fail;refine (refValid_any _ _ _ (by omega) (by omega) (by omega) (by omega)).mono ?_
  rw [HV.out];rintro e w1 ⟨rfl,hb1⟩
  obtain ⟨x0,x1,xf,xl⟩:=HX.out.below hb1
  obtain ⟨r0,r1,rf,rl⟩:=HR.out.below hb1
  obtain ⟨o0,o1,oF,ol⟩:=HO.out.below hb1
  have HB1:=hid (H3.out.trans (hb1.mono H3.out.size))
  clear hb1;have hs1:=HB1.out.size
  go_wp2_with fail;refine (refMake_any _ _ _ (by omega) (by omega) (by omega) (by omega)).mono ?_
  rw [HMK.out];simp only [Res.val];rintro e w2 ⟨rfl,hb2⟩
  have HB2:=hid (((HB1.out.trans (hb2.mono hs1)).setCell (p:=⟨w.heap.size,0,none⟩) (by simp) (.int .i64 c)).setCell (p:=⟨w.heap.size,1,none⟩) (by simp) (.int .i64 d))
  have HR2:=hid (((Two.mk r0 r1 rf rl).below hb2).others w.heap.size (.int .i64 c) (.int .i64 d) (by omega))
  have HX2:=hid ((Two.mk x0 x1 xf xl).below hb2)
  clear x0 x1 xf xl r0 r1 rf rl o0 o1 oF ol HB1 HX HR HO H3 hb2;obtain ⟨x0,x1,xf,xl⟩:=HX2.out
  go_wp2_with fail;refine (rp_nonneg c d (-n) _ (by omega) (by omega) (by omega) (by omega) (by omega) (by omega)).mono ?_
  rw [HFL.out];rintro e w3 ⟨rfl,hb3⟩
  obtain ⟨r0,r1,rf,rl⟩:=HR2.out.below hb3
  have HB3:=hid (HB2.out.trans (hb3.mono HB2.out.size))
  clear hb3 x0 x1 xf xl HR2 HX2 HB2;obtain ⟨q,hq⟩:∃ q,q=powQ a b n:=⟨_,rfl⟩
  rw [← hq];have HQm:=hid hq
  clear hq;obtain ⟨qn,qd,qe⟩:=q
  simp only [Res.val];go_wp2
  refine bodyPost_ret (v:=.tuple #[.agg #[.int .i64 qn,.int .i64 qd],.int .i64 qe]) (by simp [results,Tryz.results146,go_sem,r0,r1]) rfl ⟨?_,?_⟩
  ·rw [← HQm.out]; rfl
  ·exact (HB3.out.setCell (by simp) _).setCell (by simp) _
 ·go_enter Tryz.func146,Tryz.ntmps146
  go_wp2_with fail;refine (refValid_any _ _ _ (by omega) (by omega) (by omega) (by omega)).mono ?_
  rw [HV.out];rintro e w1 ⟨rfl,hb1⟩
  obtain ⟨x0,x1,xf,xl⟩:=HX.out.below hb1
  obtain ⟨r0,r1,rf,rl⟩:=HR.out.below hb1
  obtain ⟨o0,o1,oF,ol⟩:=HO.out.below hb1
  have HB1:=hid (H3.out.trans (hb1.mono H3.out.size))
  clear hb1;have hs1:=HB1.out.size
  go_wp2_with fail;refine (refMake_any _ _ _ (by omega) (by omega) (by omega) (by omega)).mono ?_
  rw [HMK.out];simp only [Res.val];rintro e w2 ⟨rfl,hb2⟩
  have HB2:=hid (((HB1.out.trans (hb2.mono hs1)).setCell (p:=⟨w.heap.size,0,none⟩) (by simp) (.int .i64 c)).setCell (p:=⟨w.heap.size,1,none⟩) (by simp) (.int .i64 d))
  have HR2:=hid (((Two.mk r0 r1 rf rl).below hb2).others w.heap.size (.int .i64 c) (.int .i64 d) (by omega))
  have HX2:=hid ((Two.mk x0 x1 xf xl).below hb2)
  clear x0 x1 xf xl r0 r1 rf rl o0 o1 oF ol HB1 HX HR HO H3 hb2;obtain ⟨x0,x1,xf,xl⟩:=HX2.out
  go_wp2_with fail;refine (rp_nonneg c d (-n) _ (by omega) (by omega) (by omega) (by omega) (by omega) (by omega)).mono ?_
  rw [HFL.out];rintro e w3 ⟨rfl,hb3⟩
  obtain ⟨r0,r1,rf,rl⟩:=HR2.out.below hb3
  have HB3:=hid (HB2.out.trans (hb3.mono HB2.out.size))
  clear hb3 x0 x1 xf xl HR2 HX2 HB2;obtain ⟨q,hq⟩:∃ q,q=powQ 1 b n:=⟨_,rfl⟩
  rw [← hq];have HQm:=hid hq
  clear hq;obtain ⟨qn,qd,qe⟩:=q
  simp only [Res.val];go_wp2
  refine bodyPost_ret (v:=.tuple #[.agg #[.int .i64 qn,.int .i64 qd],.int .i64 qe]) (by simp [results,Tryz.results146,go_sem,r0,r1]) rfl ⟨?_,?_⟩
  ·rw [← HQm.out]; rfl
  ·exact (HB3.out.setCell (by simp) _).setCell (by simp) _
 ·go_enter Tryz.func146,Tryz.ntmps146
  go_wp2_with fail;refine (refValid_any _ _ _ (by omega) (by omega) (by omega) (by omega)).mono ?_
  rw [HV.out];rintro e w1 ⟨rfl,hb1⟩
  obtain ⟨x0,x1,xf,xl⟩:=HX.out.below hb1
  obtain ⟨r0,r1,rf,rl⟩:=HR.out.below hb1
  obtain ⟨o0,o1,oF,ol⟩:=HO.out.below hb1
  have HB1:=hid (H3.out.trans (hb1.mono H3.out.size))
  clear hb1;have hs1:=HB1.out.size
  go_wp2_with fail;refine (refMake_any _ _ _ (by omega) (by omega) (by omega) (by omega)).mono ?_
  rw [HMK.out];simp only [Res.val];rintro e w2 ⟨rfl,hb2⟩
  have HB2:=hid (((HB1.out.trans (hb2.mono hs1)).setCell (p:=⟨w.heap.size,0,none⟩) (by simp) (.int .i64 c)).setCell (p:=⟨w.heap.size,1,none⟩) (by simp) (.int .i64 d))
  have HR2:=hid (((Two.mk r0 r1 rf rl).below hb2).others w.heap.size (.int .i64 c) (.int .i64 d) (by omega))
  have HX2:=hid ((Two.mk x0 x1 xf xl).below hb2)
  clear x0 x1 xf xl r0 r1 rf rl o0 o1 oF ol HB1 HX HR HO H3 hb2;obtain ⟨x0,x1,xf,xl⟩:=HX2.out
  go_wp2_with fail;refine (rp_nonneg c d (-n) _ (by omega) (by omega) (by omega) (by omega) (by omega) (by omega)).mono ?_
  rw [HFL.out];rintro e w3 ⟨rfl,hb3⟩
  obtain ⟨r0,r1,rf,rl⟩:=HR2.out.below hb3
  have HB3:=hid (HB2.out.trans (hb3.mono HB2.out.size))
  clear hb3 x0 x1 xf xl HR2 HX2 HB2;obtain ⟨q,hq⟩:∃ q,q=powQ (-1) b n:=⟨_,rfl⟩
  rw [← hq];have HQm:=hid hq
  clear hq;obtain ⟨qn,qd,qe⟩:=q
  simp only [Res.val];go_wp2
  refine bodyPost_ret (v:=.tuple #[.agg #[.int .i64 qn,.int .i64 qd],.int .i64 qe]) (by simp [results,Tryz.results146,go_sem,r0,r1]) rfl ⟨?_,?_⟩
  ·rw [← HQm.out]; rfl
  ·exact (HB3.out.setCell (by simp) _).setCell (by simp) _
theorem refPow_any (a b n:Int)(w:World)(ha:-9223372036854775808≤a)(hA:a≤9223372036854775807)(hb:-9223372036854775808≤b)(hB:b≤9223372036854775807)(hn:-9223372036854775808≤n)(hN:n≤9223372036854775807):
  Calls Tryz.prog 146 #[.agg #[.int .i64 a,.int .i64 b],.int .i64 n] w fun e w'=>e=.returned (powQ a b n).val∧Below w.heap.size w w':=by
 by_cases hs:0≤n
 ·exact rp_nonneg a b n w ha hA hb hB hs hN
 cases h:validQ a b with
 | false=>exact rp_bad a b n w ha hA hb hB h
 | true=>
  by_cases ha0:a=0
  ·subst ha0
   obtain rfl:=valid_zero h
   exact rp_zneg n w (by omega) h (by omega)
  by_cases h1:b=1∧(a=1∨a=-1)
  ·obtain ⟨rfl,rfl|rfl⟩:=h1
   ·exact rp_one n w (by omega) h
   ·by_cases he:n % 2=0
    ·exact rp_even n w (by omega) h he
    ·exact rp_odd n w (by omega) h he
  by_cases hbig:31<n.natAbs
  ·exact rp_over a b n w hn hN (by omega) h ha0 h1 hbig
  ·exact rp_neg a b n w (by omega) (by omega) h ha0 h1
end Go.Proofs.YtknpigdpepmimaaGreatDoor.Q
