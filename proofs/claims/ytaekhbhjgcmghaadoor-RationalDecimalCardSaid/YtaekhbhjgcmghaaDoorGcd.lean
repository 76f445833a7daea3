/- Contracts of gcd, magnitude, Valid and of their references. -/
import Derived.Test.YtaekhbhjgcmghaaDoorRows
import Derived.Test.YtaekhbhjgcmghaaDoorRat
import Derived.WalkKit
import Derived.WalkSpells
import Derived.WalkLawsBesides
import Derived.Lib.Hide
import Derived.Deep.LoopGhost
import Derived.Deep.QuietTactic
import Derived.BigQuiet
import Derived.Lib.QuietBelow
namespace Go.Proofs.YtaekhbhjgcmghaaDoor
open Go.RowKit

theorem belowN {B : Nat} {a w : World} (h : Below B a w) (n : Nat) : Below B a (w.drewN n) := ⟨h.os, h.tape, h.output, h.size, h.block⟩
theorem ret_bool {a b : Bool} (h : a = b) : Ending.returned (.bool a) = .returned (.bool b) := by rw [h]
theorem ret_int {k : IntKind} {a b : Int} (h : a = b) : Ending.returned (.int k a) = .returned (.int k b) := by rw [h]

set_option maxHeartbeats 400000 in
theorem gcd_any (a b : Nat) (w : World) (ha : a ≤ 9223372036854775808) (hb : b ≤ 9223372036854775808) :
    Calls Tryd.prog 47 #[.int .u64 a, .int .u64 b] w fun e w' => e = .returned (.int .u64 (Nat.gcd a b : Nat)) ∧ Below w.heap.size w w' := by
  go_enter Tryd.func47, Tryd.ntmps47
  go_wp2
  go_loopg [0, 1] b (fun gg s0 s1 wr => ∃ x y : Nat, y ≤ gg ∧ s0 = .int .u64 x ∧ s1 = .int .u64 y ∧ Aside (x ≤ 9223372036854775808) ∧ Aside (y ≤ 9223372036854775808) ∧ Aside (Nat.gcd x y = Nat.gcd a b) ∧ Aside (Below w.heap.size w wr))
  case atStart => exact ⟨a, b, Nat.le_refl _, rfl, rfl, ha, hb, rfl, Below.refl _ _⟩
  case round =>
    obtain ⟨x, y, hy, rfl, rfl, X, Y, G, D⟩ := hrel
    by_cases h0 : y = 0
    · subst h0
      go_wp2
      go_ret
      refine ⟨ret_int ?_, D.out⟩
      have := G.out
      rw [Nat.gcd_zero_right] at this
      rw [this]
    · have hne : ((y : Int) != 0) = true := by simp; omega
      have hne' : ((y : Int) == 0) = false := by simp; omega
      have hpos : (1 : Int) ≤ (y : Int) := by omega
      have hpos0 : ¬ (y : Int) = 0 := by omega
      have hlt : x % y < y := Nat.mod_lt _ (by omega)
      go_wp2
      go_quiet (fail)
      go_wp2
      go_roundg (x % y)
      case measure => omega
      case rel => exact ⟨y, x % y, Nat.le_refl _, rfl, by go_num, Y.out, (by show _ ≤ _; have := Y.out; omega), (by show _ = _; rw [Nat.gcd_comm, ← Nat.gcd_rec, Nat.gcd_comm]; exact G.out), belowN D.out _⟩

set_option maxHeartbeats 400000 in
theorem common_any (a b : Nat) (w : World) (ha : a ≤ 9223372036854775808) (hb : b ≤ 9223372036854775808) :
    Calls Tryd.prog 48 #[.int .u64 a, .int .u64 b] w fun e w' => e = .returned (.int .u64 (Nat.gcd a b : Nat)) ∧ Below w.heap.size w w' := by
  go_enter Tryd.func48, Tryd.ntmps48
  go_wp2
  go_loopg [0, 1] b (fun gg s0 s1 wr => ∃ x y : Nat, y ≤ gg ∧ s0 = .int .u64 x ∧ s1 = .int .u64 y ∧ Aside (x ≤ 9223372036854775808) ∧ Aside (y ≤ 9223372036854775808) ∧ Aside (Nat.gcd x y = Nat.gcd a b) ∧ Aside (Below w.heap.size w wr))
  case atStart => exact ⟨a, b, Nat.le_refl _, rfl, rfl, ha, hb, rfl, Below.refl _ _⟩
  case round =>
    obtain ⟨x, y, hy, rfl, rfl, X, Y, G, D⟩ := hrel
    by_cases h0 : y = 0
    · subst h0
      go_wp2
      go_ret
      refine ⟨ret_int ?_, D.out⟩
      have := G.out
      rw [Nat.gcd_zero_right] at this
      rw [this]
    · have hne : (0 : Int) < (y : Int) := by omega
      have hne' : ((y : Int) == 0) = false := by simp; omega
      have hpos : (1 : Int) ≤ (y : Int) := by omega
      have hpos0 : ¬ (y : Int) = 0 := by omega
      have hlt : x % y < y := Nat.mod_lt _ (by omega)
      go_wp2
      go_quiet (fail)
      go_wp2
      go_roundg (x % y)
      case measure => omega
      case rel => exact ⟨y, x % y, Nat.le_refl _, rfl, by go_num, Y.out, (by show _ ≤ _; have := Y.out; omega), (by show _ = _; rw [Nat.gcd_comm, ← Nat.gcd_rec, Nat.gcd_comm]; exact G.out), belowN D.out _⟩


theorem neg_u64 (n : Int) (h : n < 0) (hm : -9223372036854775808 ≤ n) : IntKind.u64.wrap (-(IntKind.u64.wrap n)) = (n.natAbs : Int) := by
  rw [IntKind.wrap_u64, IntKind.wrap_u64]
  omega

set_option maxHeartbeats 400000 in
theorem magnitude_any (n : Int) (w : World) (hm : -9223372036854775808 ≤ n) (hM : n ≤ 9223372036854775807) :
    Calls Tryd.prog 42 #[.int .i64 n] w fun e w' => e = .returned (.int .u64 (n.natAbs : Nat)) ∧ w = w' := by
  by_cases h : n < 0
  · go_enter Tryd.func42, Tryd.ntmps42
    go_wp2
    go_ret
    exact ⟨ret_int (neg_u64 n h hm), rfl⟩
  · go_enter Tryd.func42, Tryd.ntmps42
    go_wp2
    go_ret
    exact ⟨ret_int (by omega), rfl⟩
set_option maxHeartbeats 400000 in
theorem size_any (n : Int) (w : World) (hm : -9223372036854775808 ≤ n) (hM : n ≤ 9223372036854775807) :
    Calls Tryd.prog 44 #[.int .i64 n] w fun e w' => e = .returned (.int .u64 (n.natAbs : Nat)) ∧ w = w' := by
  by_cases h : n < 0
  · go_enter Tryd.func44, Tryd.ntmps44
    go_wp2
    go_ret
    exact ⟨ret_int (by omega), rfl⟩
  · go_enter Tryd.func44, Tryd.ntmps44
    go_wp2
    go_ret
    exact ⟨ret_int (by omega), rfl⟩
theorem below_of_eq {P : Program} {f : FuncId} {args : Array Value} {w : World} {v : Value} (h : Calls P f args w fun e w' => e = .returned v ∧ w = w') : Calls P f args w fun e w' => e = .returned v ∧ Below w.heap.size w w' :=
  h.mono fun _ _ ⟨he, hw⟩ => ⟨he, hw ▸ Below.refl _ _⟩

set_option maxHeartbeats 1000000 in
theorem valid_any (n d : Int) (w : World) (hn : -9223372036854775808 ≤ n) (hN : n ≤ 9223372036854775807) (hd : -9223372036854775808 ≤ d) (hD : d ≤ 9223372036854775807) :
    Calls Tryd.prog 18 #[.agg #[.int .i64 n, .int .i64 d]] w fun e w' => e = .returned (.bool (validQ n d)) ∧ Below w.heap.size w w' := by
  by_cases h : 1 ≤ d ∧ d ≤ 2147483647 ∧ -2147483647 ≤ n ∧ n ≤ 2147483647
  · obtain ⟨h1, h2, h3, h4⟩ := h
    have hv : Hid (validQ n d = (Nat.gcd n.natAbs d.natAbs == 1)) := by show validQ n d = _; unfold validQ; simp [h1, h2, h3, h4]
    obtain ⟨dn, rfl⟩ := Int.eq_ofNat_of_zero_le (show 0 ≤ d by omega)
    have h1' : ¬ (dn : Int) < 1 := by omega
    have h2' : ¬ (2147483647 : Int) < (dn : Int) := by omega
    have h3' : ¬ n < -2147483647 := by omega
    have h4' : ¬ 2147483647 < n := by omega
    go_enter Tryd.func18, Tryd.ntmps18
    go_wp2
    have q0 : (w.alloc (.cells #[.int .i64 n, .int .i64 (dn : Int)] 24)).cell? ⟨w.heap.size, 0, none⟩ = some (.int .i64 n) := by simp
    have q1 : (w.alloc (.cells #[.int .i64 n, .int .i64 (dn : Int)] 24)).cell? ⟨w.heap.size, 1, none⟩ = some (.int .i64 (dn : Int)) := by simp
    have hbw : Hid (Below w.heap.size w (w.alloc (.cells #[.int .i64 n, .int .i64 (dn : Int)] 24))) := (Below.refl _ _).alloc (Nat.le_refl _) _
    have hsz : w.heap.size ≤ (w.alloc (.cells #[.int .i64 n, .int .i64 (dn : Int)] 24)).heap.size := by simp
    generalize w.alloc (.cells #[.int .i64 n, .int .i64 (dn : Int)] 24) = wb at *
    have k0 := fun d os => cell_regrown q0 d os
    have k1 := fun d os => cell_regrown q1 d os
    have cM := Lib.hid fun d os => Calls.regrown_of (below_of_eq (magnitude_any n (Sort.grow (redrawn wb d) os) (by omega) (by omega)))
    have cG := Lib.hid fun d os => Calls.regrown_of (gcd_any n.natAbs dn (Sort.grow (redrawn wb d) os) (by omega) (by omega))
    refine wp_region_quiet_below (by kernel_rfl) (by kernel_rfl) ?_
    repeat (first | go_big_quiet_step (first | exact cM.out _ _ | exact cG.out _ _) | quiet_step (first | exact cM.out _ _ | exact cG.out _ _))
    refine wpQuiet_nil ?_
    intro _ hw'
    obtain ⟨⟨dq, osq⟩, hw''⟩ := hw'
    subst hw''
    clear cM cG k0 k1
    go_wp2
    go_ret
    refine ⟨ret_bool ?_, hbw.out.trans ((below_regrown wb dq osq).mono hsz)⟩
    rw [hv.out, Int.natAbs_natCast, Bool.eq_iff_iff]
    simp
    try omega
  · have hv : Hid (validQ n d = false) := by
      show validQ n d = false
      cases hh : validQ n d with
      | false => rfl
      | true => rw [valid_iff] at hh; exact absurd ⟨hh.1, hh.2.1, hh.2.2.1, hh.2.2.2.1⟩ h
    by_cases h1 : d < 1
    · clear h
      go_enter Tryd.func18, Tryd.ntmps18
      go_wp2
      go_ret
      exact ⟨ret_bool hv.out.symm, (Below.refl _ _).alloc (Nat.le_refl _) _⟩
    · by_cases h2 : 2147483647 < d
      · clear h
        go_enter Tryd.func18, Tryd.ntmps18
        go_wp2
        go_ret
        exact ⟨ret_bool hv.out.symm, (Below.refl _ _).alloc (Nat.le_refl _) _⟩
      · by_cases h3 : n < -2147483647
        · clear h
          go_enter Tryd.func18, Tryd.ntmps18
          go_wp2
          go_ret
          exact ⟨ret_bool hv.out.symm, (Below.refl _ _).alloc (Nat.le_refl _) _⟩
        · have h4 : 2147483647 < n := by omega
          clear h
          go_enter Tryd.func18, Tryd.ntmps18
          go_wp2
          go_ret
          exact ⟨ret_bool hv.out.symm, (Below.refl _ _).alloc (Nat.le_refl _) _⟩

set_option maxHeartbeats 2000000 in
set_option maxRecDepth 100000 in
theorem refValid_any (n d : Int) (w : World) (hn : -9223372036854775808 ≤ n) (hN : n ≤ 9223372036854775807) (hd : -9223372036854775808 ≤ d) (hD : d ≤ 9223372036854775807) :
    Calls Tryd.prog 19 #[.agg #[.int .i64 n, .int .i64 d]] w fun e w' => e = .returned (.bool (validQ n d)) ∧ Below w.heap.size w w' := by
  have hF : Hid (¬ (1 ≤ d ∧ d ≤ 2147483647 ∧ -2147483647 ≤ n ∧ n ≤ 2147483647) → validQ n d = false) := fun h => by
    cases hh : validQ n d with
    | false => rfl
    | true => rw [valid_iff] at hh; exact absurd ⟨hh.1, hh.2.1, hh.2.2.1, hh.2.2.2.1⟩ h
  have hT : Hid ((1 ≤ d ∧ d ≤ 2147483647 ∧ -2147483647 ≤ n ∧ n ≤ 2147483647) → validQ n d = (Nat.gcd n.natAbs d.natAbs == 1)) := fun ⟨h1, h2, h3, h4⟩ => by unfold validQ; simp [h1, h2, h3, h4]
  have q0 : (w.alloc (.cells #[.int .i64 n, .int .i64 d] 28)).cell? ⟨w.heap.size, 0, none⟩ = some (.int .i64 n) := by simp
  have q1 : (w.alloc (.cells #[.int .i64 n, .int .i64 d] 28)).cell? ⟨w.heap.size, 1, none⟩ = some (.int .i64 d) := by simp
  have hbw : Hid (Below w.heap.size w (w.alloc (.cells #[.int .i64 n, .int .i64 d] 28))) := (Below.refl _ _).alloc (Nat.le_refl _) _
  have hsz : w.heap.size ≤ (w.alloc (.cells #[.int .i64 n, .int .i64 d] 28)).heap.size := by simp
  go_enter Tryd.func19, Tryd.ntmps19
  go_wp2
  generalize w.alloc (.cells #[.int .i64 n, .int .i64 d] 28) = wb at *
  have k0 := fun d os => cell_regrown q0 d os
  have k1 := fun d os => cell_regrown q1 d os
  have cM := Lib.hid fun (x : Int) d os (hx : -9223372036854775808 ≤ x) (hX : x ≤ 9223372036854775807) => Calls.regrown_of (below_of_eq (size_any x (Sort.grow (redrawn wb d) os) hx hX))
  have cG := Lib.hid fun d' os => Calls.regrown_of (common_any n.natAbs d.natAbs (Sort.grow (redrawn wb d') os) (by omega) (by omega))
  by_cases h1 : 1 ≤ d
  case neg =>
    have h1' : decide (1 ≤ d) = false := by simpa using h1
    have hv := Lib.hid (hF.out (by omega))
    refine wp_region_quiet_below (by kernel_rfl) (by kernel_rfl) ?_
    repeat (first | go_big_quiet_step (first | (go_at_call 44; exact cM.out _ _ _ (by omega) (by omega)) | (go_at_call 48; exact cG.out _ _)) | quiet_step (first | (go_at_call 44; exact cM.out _ _ _ (by omega) (by omega)) | (go_at_call 48; exact cG.out _ _)))
    refine wpQuiet_nil ?_
    intro _ hw'
    obtain ⟨⟨dq, osq⟩, hw''⟩ := hw'
    subst hw''
    clear cM cG k0 k1
    go_wp2
    go_ret
    exact ⟨ret_bool hv.out.symm, hbw.out.trans ((below_regrown wb dq osq).mono hsz)⟩
  have h1' : decide (1 ≤ d) = true := by simpa using h1
  by_cases h2 : d ≤ 2147483647
  case neg =>
    have h2' : decide (d ≤ 2147483647) = false := by simpa using h2
    have hv := Lib.hid (hF.out (by omega))
    refine wp_region_quiet_below (by kernel_rfl) (by kernel_rfl) ?_
    repeat (first | go_big_quiet_step (first | (go_at_call 44; exact cM.out _ _ _ (by omega) (by omega)) | (go_at_call 48; exact cG.out _ _)) | quiet_step (first | (go_at_call 44; exact cM.out _ _ _ (by omega) (by omega)) | (go_at_call 48; exact cG.out _ _)))
    refine wpQuiet_nil ?_
    intro _ hw'
    obtain ⟨⟨dq, osq⟩, hw''⟩ := hw'
    subst hw''
    clear cM cG k0 k1
    go_wp2
    go_ret
    exact ⟨ret_bool hv.out.symm, hbw.out.trans ((below_regrown wb dq osq).mono hsz)⟩
  have h2' : decide (d ≤ 2147483647) = true := by simpa using h2
  by_cases h3 : -2147483647 ≤ n
  case neg =>
    have h3' : decide (-2147483647 ≤ n) = false := by simpa using h3
    have hv := Lib.hid (hF.out (by omega))
    refine wp_region_quiet_below (by kernel_rfl) (by kernel_rfl) ?_
    repeat (first | go_big_quiet_step (first | (go_at_call 44; exact cM.out _ _ _ (by omega) (by omega)) | (go_at_call 48; exact cG.out _ _)) | quiet_step (first | (go_at_call 44; exact cM.out _ _ _ (by omega) (by omega)) | (go_at_call 48; exact cG.out _ _)))
    refine wpQuiet_nil ?_
    intro _ hw'
    obtain ⟨⟨dq, osq⟩, hw''⟩ := hw'
    subst hw''
    clear cM cG k0 k1
    go_wp2
    go_ret
    exact ⟨ret_bool hv.out.symm, hbw.out.trans ((below_regrown wb dq osq).mono hsz)⟩
  have h3' : decide (-2147483647 ≤ n) = true := by simpa using h3
  by_cases h4 : n ≤ 2147483647
  case neg =>
    have h4' : decide (n ≤ 2147483647) = false := by simpa using h4
    have hv := Lib.hid (hF.out (by omega))
    refine wp_region_quiet_below (by kernel_rfl) (by kernel_rfl) ?_
    repeat (first | go_big_quiet_step (first | (go_at_call 44; exact cM.out _ _ _ (by omega) (by omega)) | (go_at_call 48; exact cG.out _ _)) | quiet_step (first | (go_at_call 44; exact cM.out _ _ _ (by omega) (by omega)) | (go_at_call 48; exact cG.out _ _)))
    refine wpQuiet_nil ?_
    intro _ hw'
    obtain ⟨⟨dq, osq⟩, hw''⟩ := hw'
    subst hw''
    clear cM cG k0 k1
    go_wp2
    go_ret
    exact ⟨ret_bool hv.out.symm, hbw.out.trans ((below_regrown wb dq osq).mono hsz)⟩
  have h4' : decide (n ≤ 2147483647) = true := by simpa using h4
  have hv := Lib.hid (hT.out ⟨h1, h2, h3, h4⟩)
  refine wp_region_quiet_below (by kernel_rfl) (by kernel_rfl) ?_
  repeat (first | go_big_quiet_step (first | (go_at_call 44; exact cM.out _ _ _ (by omega) (by omega)) | (go_at_call 48; exact cG.out _ _)) | quiet_step (first | (go_at_call 44; exact cM.out _ _ _ (by omega) (by omega)) | (go_at_call 48; exact cG.out _ _)))
  refine wpQuiet_nil ?_
  intro _ hw'
  obtain ⟨⟨dq, osq⟩, hw''⟩ := hw'
  subst hw''
  clear cM cG k0 k1
  go_wp2
  go_ret
  refine ⟨ret_bool ?_, hbw.out.trans ((below_regrown wb dq osq).mono hsz)⟩
  rw [hv.out, Bool.eq_iff_iff]
  simp
  try omega
end Go.Proofs.YtaekhbhjgcmghaaDoor
