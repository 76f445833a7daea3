/- Contracts of gcd, magnitude, Valid and of their references. Contracts of reduce, Make and of their references, and of is. Boxes of two cells: what lies in them behind later blocks and calls. -/
import Derived.Test.YtknpigdpepmimaaGreatDoorRows
import Derived.WalkKit
import Derived.WalkSpells
import Derived.WalkLawsBesides
import Derived.Lib.Hide
import Derived.Deep.LoopGhost
import Derived.Deep.QuietTactic
import Derived.BigQuiet
import Derived.Lib.QuietBelow
import Derived.Test.YtknpigdpepmimaaGreatDoorM09
namespace Go.Proofs.YtknpigdpepmimaaGreatDoor.Q
open Go.RowKit
theorem belowN {B : Nat} {a w : World} (h : Below B a w) (n : Nat) : Below B a (w.drewN n) := ⟨h.os, h.tape, h.output, h.size, h.block⟩
theorem ret_bool {a b : Bool} (h : a = b) : Ending.returned (.bool a) = .returned (.bool b) := by rw [h]
theorem ret_int {k : IntKind} {a b : Int} (h : a = b) : Ending.returned (.int k a) = .returned (.int k b) := by rw [h]
set_option maxHeartbeats 400000 in
theorem gcd_any (a b : Nat) (w : World) (ha : a ≤ 9223372036854775808) (hb : b ≤ 9223372036854775808) :
    Calls Tryz.prog 85 #[.int .u64 a, .int .u64 b] w fun e w' => e = .returned (.int .u64 (Nat.gcd a b : Nat)) ∧ Below w.heap.size w w' := by
  go_enter Tryz.func85, Tryz.ntmps85
  go_wp2
  go_loopg [0, 1] b (fun gg s0 s1 wr => ∃ x y : Nat, y ≤ gg ∧ s0 = .int .u64 x ∧ s1 = .int .u64 y ∧ Aside (x ≤ 9223372036854775808) ∧ Aside (y ≤ 9223372036854775808) ∧ Aside (Nat.gcd x y = Nat.gcd a b) ∧ Aside (Below w.heap.size w wr))
  case atStart => exact ⟨a, b, Nat.le_refl _, rfl, rfl, ha, hb, rfl, Below.refl _ _⟩
  case round =>
    obtain ⟨x, y, hy, rfl, rfl, X, Y, G, D⟩ := hrel
    by_cases h0 : y = 0
    · subst h0
      go_wp2
      go_ret
      refine ⟨ret_int ?_, D.out⟩
      have := G.out
      rw [Nat.gcd_zero_right] at this
      rw [this]
    · have hne : ((y : Int) != 0) = true := by simp; omega
      have hne' : ((y : Int) == 0) = false := by simp; omega
      have hpos : (1 : Int) ≤ (y : Int) := by omega
      have hpos0 : ¬ (y : Int) = 0 := by omega
      have hlt : x % y < y := Nat.mod_lt _ (by omega)
      go_wp2
      go_quiet (fail)
      go_wp2
      go_roundg (x % y)
      case measure => omega
      case rel => exact ⟨y, x % y, Nat.le_refl _, rfl, by go_num, Y.out, (by show _ ≤ _; have := Y.out; omega), (by show _ = _; rw [Nat.gcd_comm, ← Nat.gcd_rec, Nat.gcd_comm]; exact G.out), belowN D.out _⟩
set_option maxHeartbeats 400000 in
theorem common_any (a b : Nat) (w : World) (ha : a ≤ 9223372036854775808) (hb : b ≤ 9223372036854775808) :
    Calls Tryz.prog 102 #[.int .u64 a, .int .u64 b] w fun e w' => e = .returned (.int .u64 (Nat.gcd a b : Nat)) ∧ Below w.heap.size w w' := by
  go_enter Tryz.func102, Tryz.ntmps102
  go_wp2
  go_loopg [0, 1] b (fun gg s0 s1 wr => ∃ x y : Nat, y ≤ gg ∧ s0 = .int .u64 x ∧ s1 = .int .u64 y ∧ Aside (x ≤ 9223372036854775808) ∧ Aside (y ≤ 9223372036854775808) ∧ Aside (Nat.gcd x y = Nat.gcd a b) ∧ Aside (Below w.heap.size w wr))
  case atStart => exact ⟨a, b, Nat.le_refl _, rfl, rfl, ha, hb, rfl, Below.refl _ _⟩
  case round =>
    obtain ⟨x, y, hy, rfl, rfl, X, Y, G, D⟩ := hrel
    by_cases h0 : y = 0
    · subst h0
      go_wp2
      go_ret
      refine ⟨ret_int ?_, D.out⟩
      have := G.out
      rw [Nat.gcd_zero_right] at this
      rw [this]
    · have hne : (0 : Int) < (y : Int) := by omega
      have hne' : ((y : Int) == 0) = false := by simp; omega
      have hpos : (1 : Int) ≤ (y : Int) := by omega
      have hpos0 : ¬ (y : Int) = 0 := by omega
      have hlt : x % y < y := Nat.mod_lt _ (by omega)
      go_wp2
      go_quiet (fail)
      go_wp2
      go_roundg (x % y)
      case measure => omega
      case rel => exact ⟨y, x % y, Nat.le_refl _, rfl, by go_num, Y.out, (by show _ ≤ _; have := Y.out; omega), (by show _ = _; rw [Nat.gcd_comm, ← Nat.gcd_rec, Nat.gcd_comm]; exact G.out), belowN D.out _⟩
theorem neg_u64 (n : Int) (h : n < 0) (hm : -9223372036854775808 ≤ n) : IntKind.u64.wrap (-(IntKind.u64.wrap n)) = (n.natAbs : Int) := by
  rw [IntKind.wrap_u64, IntKind.wrap_u64]
  omega
set_option maxHeartbeats 400000 in
theorem magnitude_any (n : Int) (w : World) (hm : -9223372036854775808 ≤ n) (hM : n ≤ 9223372036854775807) :
    Calls Tryz.prog 86 #[.int .i64 n] w fun e w' => e = .returned (.int .u64 (n.natAbs : Nat)) ∧ w = w' := by
  by_cases h : n < 0
  · go_enter Tryz.func86, Tryz.ntmps86
    go_wp2
    go_ret
    exact ⟨ret_int (neg_u64 n h hm), rfl⟩
  · go_enter Tryz.func86, Tryz.ntmps86
    go_wp2
    go_ret
    exact ⟨ret_int (by omega), rfl⟩
set_option maxHeartbeats 400000 in
theorem size_any (n : Int) (w : World) (hm : -9223372036854775808 ≤ n) (hM : n ≤ 9223372036854775807) :
    Calls Tryz.prog 103 #[.int .i64 n] w fun e w' => e = .returned (.int .u64 (n.natAbs : Nat)) ∧ w = w' := by
  by_cases h : n < 0
  · go_enter Tryz.func103, Tryz.ntmps103
    go_wp2
    go_ret
    exact ⟨ret_int (by omega), rfl⟩
  · go_enter Tryz.func103, Tryz.ntmps103
    go_wp2
    go_ret
    exact ⟨ret_int (by omega), rfl⟩
theorem below_of_eq {P : Program} {f : FuncId} {args : Array Value} {w : World} {v : Value} (h : Calls P f args w fun e w' => e = .returned v ∧ w = w') : Calls P f args w fun e w' => e = .returned v ∧ Below w.heap.size w w' :=
  h.mono fun _ _ ⟨he, hw⟩ => ⟨he, hw ▸ Below.refl _ _⟩
set_option maxHeartbeats 1000000 in
theorem valid_any (n d : Int) (w : World) (hn : -9223372036854775808 ≤ n) (hN : n ≤ 9223372036854775807) (hd : -9223372036854775808 ≤ d) (hD : d ≤ 9223372036854775807) :
    Calls Tryz.prog 43 #[.agg #[.int .i64 n, .int .i64 d]] w fun e w' => e = .returned (.bool (validQ n d)) ∧ Below w.heap.size w w' := by
  by_cases h : 1 ≤ d ∧ d ≤ 2147483647 ∧ -2147483647 ≤ n ∧ n ≤ 2147483647
  · obtain ⟨h1, h2, h3, h4⟩ := h
    have hv : Hid (validQ n d = (Nat.gcd n.natAbs d.natAbs == 1)) := by show validQ n d = _; unfold validQ; simp [h1, h2, h3, h4]
    obtain ⟨dn, rfl⟩ := Int.eq_ofNat_of_zero_le (show 0 ≤ d by omega)
    have h1' : ¬ (dn : Int) < 1 := by omega
    have h2' : ¬ (2147483647 : Int) < (dn : Int) := by omega
    have h3' : ¬ n < -2147483647 := by omega
    have h4' : ¬ 2147483647 < n := by omega
    go_enter Tryz.func43, Tryz.ntmps43
    go_wp2
    have q0 : (w.alloc (.cells #[.int .i64 n, .int .i64 (dn : Int)] 57)).cell? ⟨w.heap.size, 0, none⟩ = some (.int .i64 n) := by simp
    have q1 : (w.alloc (.cells #[.int .i64 n, .int .i64 (dn : Int)] 57)).cell? ⟨w.heap.size, 1, none⟩ = some (.int .i64 (dn : Int)) := by simp
    have hbw : Hid (Below w.heap.size w (w.alloc (.cells #[.int .i64 n, .int .i64 (dn : Int)] 57))) := (Below.refl _ _).alloc (Nat.le_refl _) _
    have hsz : w.heap.size ≤ (w.alloc (.cells #[.int .i64 n, .int .i64 (dn : Int)] 57)).heap.size := by simp
    generalize w.alloc (.cells #[.int .i64 n, .int .i64 (dn : Int)] 57) = wb at *
    have k0 := fun d os => cell_regrown q0 d os
    have k1 := fun d os => cell_regrown q1 d os
    have cM := Lib.hid fun d os => Calls.regrown_of (below_of_eq (magnitude_any n (Sort.grow (redrawn wb d) os) (by omega) (by omega)))
    have cG := Lib.hid fun d os => Calls.regrown_of (gcd_any n.natAbs dn (Sort.grow (redrawn wb d) os) (by omega) (by omega))
    refine wp_region_quiet_below (by kernel_rfl) (by kernel_rfl) ?_
    repeat (first | go_big_quiet_step (first | exact cM.out _ _ | exact cG.out _ _) | quiet_step (first | exact cM.out _ _ | exact cG.out _ _))
    refine wpQuiet_nil ?_
    intro _ hw'
    obtain ⟨⟨dq, osq⟩, hw''⟩ := hw'
    subst hw''
    clear cM cG k0 k1
    go_wp2
    go_ret
    refine ⟨ret_bool ?_, hbw.out.trans ((below_regrown wb dq osq).mono hsz)⟩
    rw [hv.out, Int.natAbs_natCast, Bool.eq_iff_iff]
    simp
    try omega
  · have hv : Hid (validQ n d = false) := by
      show validQ n d = false
      cases hh : validQ n d with
      | false => rfl
      | true => rw [valid_iff] at hh; exact absurd ⟨hh.1, hh.2.1, hh.2.2.1, hh.2.2.2.1⟩ h
    by_cases h1 : d < 1
    · clear h
      go_enter Tryz.func43, Tryz.ntmps43
      go_wp2
      go_ret
      exact ⟨ret_bool hv.out.symm, (Below.refl _ _).alloc (Nat.le_refl _) _⟩
    · by_cases h2 : 2147483647 < d
      · clear h
        go_enter Tryz.func43, Tryz.ntmps43
        go_wp2
        go_ret
        exact ⟨ret_bool hv.out.symm, (Below.refl _ _).alloc (Nat.le_refl _) _⟩
      · by_cases h3 : n < -2147483647
        · clear h
          go_enter Tryz.func43, Tryz.ntmps43
          go_wp2
          go_ret
          exact ⟨ret_bool hv.out.symm, (Below.refl _ _).alloc (Nat.le_refl _) _⟩
        · have h4 : 2147483647 < n := by omega
          clear h
          go_enter Tryz.func43, Tryz.ntmps43
          go_wp2
          go_ret
          exact ⟨ret_bool hv.out.symm, (Below.refl _ _).alloc (Nat.le_refl _) _⟩
set_option maxHeartbeats 2000000 in
set_option maxRecDepth 100000 in
theorem refValid_any (n d : Int) (w : World) (hn : -9223372036854775808 ≤ n) (hN : n ≤ 9223372036854775807) (hd : -9223372036854775808 ≤ d) (hD : d ≤ 9223372036854775807) :
    Calls Tryz.prog 55 #[.agg #[.int .i64 n, .int .i64 d]] w fun e w' => e = .returned (.bool (validQ n d)) ∧ Below w.heap.size w w' := by
  have hF : Hid (¬ (1 ≤ d ∧ d ≤ 2147483647 ∧ -2147483647 ≤ n ∧ n ≤ 2147483647) → validQ n d = false) := fun h => by
    cases hh : validQ n d with
    | false => rfl
    | true => rw [valid_iff] at hh; exact absurd ⟨hh.1, hh.2.1, hh.2.2.1, hh.2.2.2.1⟩ h
  have hT : Hid ((1 ≤ d ∧ d ≤ 2147483647 ∧ -2147483647 ≤ n ∧ n ≤ 2147483647) → validQ n d = (Nat.gcd n.natAbs d.natAbs == 1)) := fun ⟨h1, h2, h3, h4⟩ => by unfold validQ; simp [h1, h2, h3, h4]
  have q0 : (w.alloc (.cells #[.int .i64 n, .int .i64 d] 64)).cell? ⟨w.heap.size, 0, none⟩ = some (.int .i64 n) := by simp
  have q1 : (w.alloc (.cells #[.int .i64 n, .int .i64 d] 64)).cell? ⟨w.heap.size, 1, none⟩ = some (.int .i64 d) := by simp
  have hbw : Hid (Below w.heap.size w (w.alloc (.cells #[.int .i64 n, .int .i64 d] 64))) := (Below.refl _ _).alloc (Nat.le_refl _) _
  have hsz : w.heap.size ≤ (w.alloc (.cells #[.int .i64 n, .int .i64 d] 64)).heap.size := by simp
  go_enter Tryz.func55, Tryz.ntmps55
  go_wp2
  generalize w.alloc (.cells #[.int .i64 n, .int .i64 d] 64) = wb at *
  have k0 := fun d os => cell_regrown q0 d os
  have k1 := fun d os => cell_regrown q1 d os
  have cM := Lib.hid fun (x : Int) d os (hx : -9223372036854775808 ≤ x) (hX : x ≤ 9223372036854775807) => Calls.regrown_of (below_of_eq (size_any x (Sort.grow (redrawn wb d) os) hx hX))
  have cG := Lib.hid fun d' os => Calls.regrown_of (common_any n.natAbs d.natAbs (Sort.grow (redrawn wb d') os) (by omega) (by omega))
  by_cases h1 : 1 ≤ d
  case neg =>
    have h1' : decide (1 ≤ d) = false := by simpa using h1
    have hv := Lib.hid (hF.out (by omega))
    refine wp_region_quiet_below (by kernel_rfl) (by kernel_rfl) ?_
    repeat (first | go_big_quiet_step (first | (go_at_call 103; exact cM.out _ _ _ (by omega) (by omega)) | (go_at_call 102; exact cG.out _ _)) | quiet_step (first | (go_at_call 103; exact cM.out _ _ _ (by omega) (by omega)) | (go_at_call 102; exact cG.out _ _)))
    refine wpQuiet_nil ?_
    intro _ hw'
    obtain ⟨⟨dq, osq⟩, hw''⟩ := hw'
    subst hw''
    clear cM cG k0 k1
    go_wp2
    go_ret
    exact ⟨ret_bool hv.out.symm, hbw.out.trans ((below_regrown wb dq osq).mono hsz)⟩
  have h1' : decide (1 ≤ d) = true := by simpa using h1
  by_cases h2 : d ≤ 2147483647
  case neg =>
    have h2' : decide (d ≤ 2147483647) = false := by simpa using h2
    have hv := Lib.hid (hF.out (by omega))
    refine wp_region_quiet_below (by kernel_rfl) (by kernel_rfl) ?_
    repeat (first | go_big_quiet_step (first | (go_at_call 103; exact cM.out _ _ _ (by omega) (by omega)) | (go_at_call 102; exact cG.out _ _)) | quiet_step (first | (go_at_call 103; exact cM.out _ _ _ (by omega) (by omega)) | (go_at_call 102; exact cG.out _ _)))
    refine wpQuiet_nil ?_
    intro _ hw'
    obtain ⟨⟨dq, osq⟩, hw''⟩ := hw'
    subst hw''
    clear cM cG k0 k1
    go_wp2
    go_ret
    exact ⟨ret_bool hv.out.symm, hbw.out.trans ((below_regrown wb dq osq).mono hsz)⟩
  have h2' : decide (d ≤ 2147483647) = true := by simpa using h2
  by_cases h3 : -2147483647 ≤ n
  case neg =>
    have h3' : decide (-2147483647 ≤ n) = false := by simpa using h3
    have hv := Lib.hid (hF.out (by omega))
    refine wp_region_quiet_below (by kernel_rfl) (by kernel_rfl) ?_
    repeat (first | go_big_quiet_step (first | (go_at_call 103; exact cM.out _ _ _ (by omega) (by omega)) | (go_at_call 102; exact cG.out _ _)) | quiet_step (first | (go_at_call 103; exact cM.out _ _ _ (by omega) (by omega)) | (go_at_call 102; exact cG.out _ _)))
    refine wpQuiet_nil ?_
    intro _ hw'
    obtain ⟨⟨dq, osq⟩, hw''⟩ := hw'
    subst hw''
    clear cM cG k0 k1
    go_wp2
    go_ret
    exact ⟨ret_bool hv.out.symm, hbw.out.trans ((below_regrown wb dq osq).mono hsz)⟩
  have h3' : decide (-2147483647 ≤ n) = true := by simpa using h3
  by_cases h4 : n ≤ 2147483647
  case neg =>
    have h4' : decide (n ≤ 2147483647) = false := by simpa using h4
    have hv := Lib.hid (hF.out (by omega))
    refine wp_region_quiet_below (by kernel_rfl) (by kernel_rfl) ?_
    repeat (first | go_big_quiet_step (first | (go_at_call 103; exact cM.out _ _ _ (by omega) (by omega)) | (go_at_call 102; exact cG.out _ _)) | quiet_step (first | (go_at_call 103; exact cM.out _ _ _ (by omega) (by omega)) | (go_at_call 102; exact cG.out _ _)))
    refine wpQuiet_nil ?_
    intro _ hw'
    obtain ⟨⟨dq, osq⟩, hw''⟩ := hw'
    subst hw''
    clear cM cG k0 k1
    go_wp2
    go_ret
    exact ⟨ret_bool hv.out.symm, hbw.out.trans ((below_regrown wb dq osq).mono hsz)⟩
  have h4' : decide (n ≤ 2147483647) = true := by simpa using h4
  have hv := Lib.hid (hT.out ⟨h1, h2, h3, h4⟩)
  refine wp_region_quiet_below (by kernel_rfl) (by kernel_rfl) ?_
  repeat (first | go_big_quiet_step (first | (go_at_call 103; exact cM.out _ _ _ (by omega) (by omega)) | (go_at_call 102; exact cG.out _ _)) | quiet_step (first | (go_at_call 103; exact cM.out _ _ _ (by omega) (by omega)) | (go_at_call 102; exact cG.out _ _)))
  refine wpQuiet_nil ?_
  intro _ hw'
  obtain ⟨⟨dq, osq⟩, hw''⟩ := hw'
  subst hw''
  clear cM cG k0 k1
  go_wp2
  go_ret
  refine ⟨ret_bool ?_, hbw.out.trans ((below_regrown wb dq osq).mono hsz)⟩
  rw [hv.out, Bool.eq_iff_iff]
  simp
  try omega
end Go.Proofs.YtknpigdpepmimaaGreatDoor.Q

namespace Go.Proofs.YtknpigdpepmimaaGreatDoor.Q
open Go.RowKit
theorem res2 {w w1 : World} {v0 v1 : Value} {t : TypeId} (hb : Below (w.alloc (.cells #[v0, v1] t)).heap.size (w.alloc (.cells #[v0, v1] t)) w1) :
    (w1.cell? ⟨w.heap.size, 0, none⟩ = some v0 ∧ w1.cell? ⟨w.heap.size, 1, none⟩ = some v1) ∧ (∀ i, w1.frozen? ⟨w.heap.size, i, none⟩ = false) ∧ w.heap.size < w1.heap.size ∧ Below w.heap.size w w1 := by
  have hlt : w.heap.size < (w.alloc (.cells #[v0, v1] t)).heap.size := by simp
  refine ⟨⟨?_, ?_⟩, fun i => ?_, ?_, ?_⟩
  · rw [hb.cell (p := ⟨w.heap.size, 0, none⟩) hlt]; simp
  · rw [hb.cell (p := ⟨w.heap.size, 1, none⟩) hlt]; simp
  · rw [hb.frozen (p := ⟨w.heap.size, i, none⟩) hlt]; simp
  · exact Nat.lt_of_lt_of_le hlt hb.size
  · exact ((Below.refl _ _).alloc (Nat.le_refl _) _).trans (hb.mono (by simp))
/-- the value of a number and an error -/
def Res.val (r : Res) : Value := .tuple #[.agg #[.int .i64 r.num, .int .i64 r.den], .int .i64 r.err]
set_option maxHeartbeats 1000000 in
theorem reduce_any (neg : Bool) (a b : Nat) (w : World) (ha : a ≤ 9223372036854775808) (hb : b ≤ 9223372036854775808) (hb0 : 0 < b) :
    Calls Tryz.prog 134 #[.bool neg, .int .u64 a, .int .u64 b] w fun e w' => e = .returned (red neg a b).val ∧ Below w.heap.size w w' := by
  obtain ⟨g, hg⟩ : ∃ g, g = Nat.gcd a b := ⟨_, rfl⟩
  have HG := Lib.hid hg
  have hgp : 1 ≤ g := by rw [hg]; exact Nat.gcd_pos_of_pos_right _ hb0
  have hgz : (1 : Int) ≤ (g : Int) := by omega
  have hgz' : ((g : Int) == 0) = false := by simp; omega
  have hgz'' : ¬ (g : Int) = 0 := by omega
  clear hg
  go_enter Tryz.func134, Tryz.ntmps134
  go_wp2_with fail
  refine (gcd_any a b _ ha hb).mono ?_
  rw [← HG.out]
  rintro e w1 ⟨rfl, hb1⟩
  obtain ⟨⟨q0, q1⟩, qf, qs, hB1⟩ := res2 hb1
  have HB1 := Lib.hid hB1
  clear hb1 hB1
  go_wp2
  go_quiet (fail)
  have hA : a / g ≤ a := Nat.div_le_self _ _
  have hBd : b / g ≤ b := Nat.div_le_self _ _
  rw [show ((a : Int) / (g : Int)) = ((a / g : Nat) : Int) from by simp, show ((b : Int) / (g : Int)) = ((b / g : Nat) : Int) from by simp]
  have hr : Hid (red neg a b = if a / g ≤ 2147483647 ∧ b / g ≤ 2147483647 then ⟨if neg then -((a / g : Nat) : Int) else ((a / g : Nat) : Int), ((b / g : Nat) : Int), 0⟩ else ⟨0, 0, 2⟩) := by show red neg a b = _; unfold red; rw [← HG.out]
  generalize a / g = x at *
  generalize b / g = y at *
  by_cases h1 : 2147483647 < x
  · have h1' : (2147483647 : Int) < (x : Int) := by omega
    have HR := Lib.hid (hr.out.trans (if_neg (by omega)))
    clear hr
    go_wp2
    refine bodyPost_ret (v := .tuple #[.agg #[.int .i64 0, .int .i64 0], .int .i64 2]) (by simp [results, Tryz.results134, go_sem, q0, q1]) rfl ⟨?_, ?_⟩
    · rw [HR.out]; rfl
    · exact ((belowN HB1.out _).setCell (Nat.le_refl _) _).setCell (Nat.le_refl _) _
  · have h1' : ¬ (2147483647 : Int) < (x : Int) := by omega
    by_cases h2 : 2147483647 < y
    · have h2' : (2147483647 : Int) < (y : Int) := by omega
      have HR := Lib.hid (hr.out.trans (if_neg (by omega)))
      clear hr
      go_wp2
      refine bodyPost_ret (v := .tuple #[.agg #[.int .i64 0, .int .i64 0], .int .i64 2]) (by simp [results, Tryz.results134, go_sem, q0, q1]) rfl ⟨?_, ?_⟩
      · rw [HR.out]; rfl
      · exact ((belowN HB1.out _).setCell (Nat.le_refl _) _).setCell (Nat.le_refl _) _
    · have h2' : ¬ (2147483647 : Int) < (y : Int) := by omega
      have HR := Lib.hid (hr.out.trans (if_pos ⟨by omega, by omega⟩))
      clear hr
      cases neg with
      | true =>
        go_wp2
        refine bodyPost_ret (v := .tuple #[.agg #[.int .i64 (-(x : Int)), .int .i64 (y : Int)], .int .i64 0]) (by simp [results, Tryz.results134, go_sem, q0, q1]) rfl ⟨?_, ?_⟩
        · rw [HR.out]; rfl
        · exact ((belowN HB1.out _).setCell (Nat.le_refl _) _).setCell (Nat.le_refl _) _
      | false =>
        go_wp2
        refine bodyPost_ret (v := .tuple #[.agg #[.int .i64 (x : Int), .int .i64 (y : Int)], .int .i64 0]) (by simp [results, Tryz.results134, go_sem, q0, q1]) rfl ⟨?_, ?_⟩
        · rw [HR.out]; rfl
        · exact ((belowN HB1.out _).setCell (Nat.le_refl _) _).setCell (Nat.le_refl _) _
set_option maxHeartbeats 1000000 in
theorem make_any (n d : Int) (w : World) (hn : -9223372036854775808 ≤ n) (hN : n ≤ 9223372036854775807) (hd : -9223372036854775808 ≤ d) (hD : d ≤ 9223372036854775807) :
    Calls Tryz.prog 88 #[.int .i64 n, .int .i64 d] w fun e w' => e = .returned (mk n d).val ∧ Below w.heap.size w w' := by
  by_cases h0 : d = 0
  · subst h0
    go_enter Tryz.func88, Tryz.ntmps88
    go_wp2
    refine bodyPost_ret (v := .tuple #[.agg #[.int .i64 0, .int .i64 0], .int .i64 10]) (by simp [results, Tryz.results88, go_sem]) rfl ⟨rfl, ?_⟩
    exact (Below.refl _ _).alloc (Nat.le_refl _) _
  · have h0' : (d == 0) = false := by simpa using h0
    have HM : Hid (mk n d = red (!(decide (n < 0) == decide (d < 0))) n.natAbs d.natAbs) := by show mk n d = _; unfold mk; rw [if_neg h0]; rfl
    have hdp : 0 < d.natAbs := by omega
    go_enter Tryz.func88, Tryz.ntmps88
    go_wp2_with fail
    refine (magnitude_any n _ hn hN).mono ?_
    rintro e w' ⟨rfl, rfl⟩
    go_wp2_with fail
    refine (magnitude_any d _ hd hD).mono ?_
    rintro e w' ⟨rfl, rfl⟩
    go_wp2_with fail
    refine (reduce_any _ n.natAbs d.natAbs _ (by omega) (by omega) hdp).mono ?_
    rw [← HM.out]
    rintro e w1 ⟨rfl, hb1⟩
    obtain ⟨⟨q0, q1⟩, qf, qs, hB1⟩ := res2 hb1
    have HB1 := Lib.hid hB1
    clear hb1 hB1
    obtain ⟨r, hr⟩ : ∃ r, r = mk n d := ⟨_, rfl⟩
    rw [← hr]
    have HRm := Lib.hid hr
    clear hr
    obtain ⟨rn, rd, re⟩ := r
    simp only [Res.val]
    go_wp2
    refine bodyPost_ret (v := .tuple #[.agg #[.int .i64 rn, .int .i64 rd], .int .i64 re]) (by simp [results, Tryz.results88, go_sem, q0, q1]) rfl ⟨by rw [← HRm.out]; rfl, ?_⟩
    exact ((HB1.out).setCell (Nat.le_refl _) _).setCell (Nat.le_refl _) _
end Go.Proofs.YtknpigdpepmimaaGreatDoor.Q

namespace Go.Proofs.YtknpigdpepmimaaGreatDoor.Q
open Go.RowKit
/-- block b holds two cells and may be written -/
structure Two (w : World) (b : Nat) (v0 v1 : Value) : Prop where
  c0 : w.cell? ⟨b, 0, none⟩ = some v0
  c1 : w.cell? ⟨b, 1, none⟩ = some v1
  fr : ∀ i, w.frozen? ⟨b, i, none⟩ = false
  lt : b < w.heap.size
theorem Two.below {w w' : World} {b : Nat} {v0 v1 : Value} (h : Two w b v0 v1) (hb : Below w.heap.size w w') : Two w' b v0 v1 :=
  ⟨(hb.cell (p := ⟨b, 0, none⟩) h.lt).trans h.c0, (hb.cell (p := ⟨b, 1, none⟩) h.lt).trans h.c1, fun i => (hb.frozen (p := ⟨b, i, none⟩) h.lt).trans (h.fr i), Nat.lt_of_lt_of_le h.lt hb.size⟩
theorem Two.alloc {w : World} {b : Nat} {v0 v1 : Value} (h : Two w b v0 v1) (o : Obj) : Two (w.alloc o) b v0 v1 := h.below ((Below.refl _ _).alloc (Nat.le_refl _) _)
theorem Two.drewN {w : World} {b : Nat} {v0 v1 : Value} (h : Two w b v0 v1) (n : Nat) : Two (w.drewN n) b v0 v1 := h.below (belowN (Below.refl _ _) n)
theorem Two.new (w : World) (v0 v1 : Value) (t : TypeId) : Two (w.alloc (.cells #[v0, v1] t)) w.heap.size v0 v1 := ⟨by simp, by simp, fun i => by simp, by simp⟩
theorem Two.new1 (w : World) (o : Obj) (v0 v1 : Value) (t : TypeId) : Two ((w.alloc o).alloc (.cells #[v0, v1] t)) (w.heap.size + 1) v0 v1 := by
  have h := Two.new (w.alloc o) v0 v1 t
  rw [World.size_alloc] at h
  exact h
theorem Two.new2 (w : World) (o o' : Obj) (v0 v1 : Value) (t : TypeId) : Two (((w.alloc o).alloc o').alloc (.cells #[v0, v1] t)) (w.heap.size + 1 + 1) v0 v1 := by
  have h := Two.new ((w.alloc o).alloc o') v0 v1 t
  rw [World.size_alloc, World.size_alloc] at h
  exact h
theorem Below.three (w : World) (o o' o'' : Obj) : Below w.heap.size w (((w.alloc o).alloc o').alloc o'') := (((Below.refl _ _).alloc (Nat.le_refl _) _).alloc (by simp) _).alloc (by simp; omega) _
end Go.Proofs.YtknpigdpepmimaaGreatDoor.Q
