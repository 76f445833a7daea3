/- Contracts of Valid, quotient, Scale, Half, MulDiv and of their references. -/
import Derived.Test.YtbaljopgkelcfaaDoorRows
import Derived.Test.YtbaljopgkelcfaaDoorRnd
import Derived.WalkKit
import Derived.WalkSpells
import Derived.WalkLawsBesides
import Derived.Lib.Hide
import Derived.Deep.LoopGhost
import Derived.Deep.QuietTactic
import Derived.BigQuiet
import Derived.Lib.QuietBelow
namespace Go.Proofs.YtbaljopgkelcfaaDoor
open Go.RowKit

theorem belowN {B : Nat} {a w : World} (h : Below B a w) (n : Nat) : Below B a (w.drewN n) := ⟨h.os, h.tape, h.output, h.size, h.block⟩
theorem ret_bool {a b : Bool} (h : a = b) : Ending.returned (.bool a) = .returned (.bool b) := by rw [h]
theorem ret_int {k : IntKind} {a b : Int} (h : a = b) : Ending.returned (.int k a) = .returned (.int k b) := by rw [h]

set_option maxHeartbeats 400000 in
theorem valid_any (n : Int) (w : World) : Calls Tryd.prog 11 #[.int .i64 n] w fun e w' => e = .returned (.bool (validL n)) ∧ w = w' := by
  by_cases h1 : -1073741824 ≤ n
  · go_enter Tryd.func11, Tryd.ntmps11
    go_wp2
    go_ret
    exact ⟨ret_bool (by rw [Bool.eq_iff_iff, validL_iff]; simp; omega), rfl⟩
  · go_enter Tryd.func11, Tryd.ntmps11
    go_wp2
    go_ret
    exact ⟨ret_bool (by rw [Bool.eq_iff_iff, validL_iff]; simp; omega), rfl⟩
set_option maxHeartbeats 400000 in
theorem refValid_any (n : Int) (w : World) : Calls Tryd.prog 12 #[.int .i64 n] w fun e w' => e = .returned (.bool (validL n)) ∧ w = w' := by
  by_cases h1 : -1073741824 ≤ n
  · go_enter Tryd.func12, Tryd.ntmps12
    go_wp2
    go_ret
    exact ⟨ret_bool (by rw [Bool.eq_iff_iff, validL_iff]; simp; omega), rfl⟩
  · go_enter Tryd.func12, Tryd.ntmps12
    go_wp2
    go_ret
    exact ⟨ret_bool (by rw [Bool.eq_iff_iff, validL_iff]; simp; omega), rfl⟩
set_option maxHeartbeats 400000 in
theorem size_any (n : Int) (w : World) (h : -4611686018427387904 ≤ n) (h' : n ≤ 4611686018427387904) : Calls Tryd.prog 36 #[.int .i64 n] w fun e w' => e = .returned (.int .i64 (n.natAbs : Int)) ∧ w = w' := by
  by_cases h1 : n < 0
  · go_enter Tryd.func36, Tryd.ntmps36
    go_wp2
    go_ret
    exact ⟨ret_int (by omega), rfl⟩
  · go_enter Tryd.func36, Tryd.ntmps36
    go_wp2
    go_ret
    exact ⟨ret_int (by omega), rfl⟩

/-- the quotient of numbers of at least 0 -/
theorem quo_pp (m k : Nat) (w : World) (hm : m ≤ 2305843009213693952) (hk : 0 < k) (hk' : k ≤ 1073741824) :
    Calls Tryd.prog 27 #[.int .i64 (m : Int), .int .i64 (k : Int)] w fun e w' => e = .returned (.int .i64 (rn m k : Nat)) ∧ Below w.heap.size w w' := by
  have hu := Lib.hid (rn_up m k hk)
  have hd := Lib.hid (rn_down m k hk)
  have hq : m / k ≤ m := Nat.div_le_self _ _
  have hr : m % k < k := Nat.mod_lt _ hk
  have hkz : (1 : Int) ≤ (k : Int) := by omega
  have hkz' : ((k : Int) == 0) = false := by simp; omega
  have hk0 : ¬ (k : Int) < 0 := by omega
  go_enter Tryd.func27, Tryd.ntmps27
  go_wp2
  go_quiet (fail)
  rw [show ((m : Int) / (k : Int)) = ((m / k : Nat) : Int) from by simp, show ((m : Int) % (k : Int)) = ((m % k : Nat) : Int) from by simp]
  generalize m / k = q at *
  generalize m % k = r at *
  by_cases h : k ≤ 2 * r
  · have h' : (k : Int) - (r : Int) ≤ (r : Int) := by omega
    go_wp2
    go_ret
    exact ⟨ret_int (by rw [hu.out h]; unfold wrap64; omega), belowN (Below.refl _ _) _⟩
  · have h' : ¬ (k : Int) - (r : Int) ≤ (r : Int) := by omega
    go_wp2
    go_ret
    exact ⟨ret_int (by rw [hd.out h]; unfold wrap64; omega), belowN (Below.refl _ _) _⟩

/-- a negative dividend -/
theorem quo_np (m k : Nat) (w : World) (hm0 : 0 < m) (hm : m ≤ 2305843009213693952) (hk : 0 < k) (hk' : k ≤ 1073741824) :
    Calls Tryd.prog 27 #[.int .i64 (-(m : Int)), .int .i64 (k : Int)] w fun e w' => e = .returned (.int .i64 (-((rn m k : Nat) : Int))) ∧ Below w.heap.size w w' := by
  have hu := Lib.hid (rn_up m k hk)
  have hd := Lib.hid (rn_down m k hk)
  have hq : m / k ≤ m := Nat.div_le_self _ _
  have hr : m % k < k := Nat.mod_lt _ hk
  have hkz : (1 : Int) ≤ (k : Int) := by omega
  have hkz' : ((k : Int) == 0) = false := by simp; omega
  have hk0 : ¬ (k : Int) < 0 := by omega
  have e1 : (-(m : Int)).tdiv (k : Int) = -((m / k : Nat) : Int) := by rw [Int.neg_tdiv, Int.ofNat_tdiv]
  have e2 : (-(m : Int)).tmod (k : Int) = -((m % k : Nat) : Int) := by rw [Int.neg_tmod, Int.ofNat_tmod]
  go_enter Tryd.func27, Tryd.ntmps27
  go_wp2
  go_quiet (fail)
  clear e1 e2
  rw [show ((m : Int) / (k : Int)) = ((m / k : Nat) : Int) from by simp, show ((m : Int) % (k : Int)) = ((m % k : Nat) : Int) from by simp]
  generalize m / k = q at *
  generalize m % k = r at *
  by_cases h0 : r = 0
  · subst h0
    have h' : ¬ (k : Int) ≤ 0 := by omega
    go_wp2
    go_ret
    exact ⟨ret_int (by rw [hd.out (by omega)]; unfold wrap64; omega), belowN (Below.refl _ _) _⟩
  · have hn : ¬ (0 : Int) ≤ -(r : Int) := by omega
    have hn' : -(r : Int) < 0 := by omega
    by_cases h : k ≤ 2 * r
    · have h' : (k : Int) + -(r : Int) ≤ (r : Int) := by omega
      go_wp2
      go_ret
      exact ⟨ret_int (by rw [hu.out h]; unfold wrap64; omega), belowN (Below.refl _ _) _⟩
    · have h' : ¬ (k : Int) + -(r : Int) ≤ (r : Int) := by omega
      go_wp2
      go_ret
      exact ⟨ret_int (by rw [hd.out h]; unfold wrap64; omega), belowN (Below.refl _ _) _⟩

theorem quo_nn (a : Int) (k : Nat) (w : World) (ha : a.natAbs ≤ 2305843009213693952) (hk : 0 < k) (hk' : k ≤ 1073741824) :
    Calls Tryd.prog 27 #[.int .i64 a, .int .i64 (k : Int)] w fun e w' => e = .returned (.int .i64 (rnd a k)) ∧ Below w.heap.size w w' := by
  by_cases h : a < 0
  · obtain ⟨m, rfl⟩ : ∃ m : Nat, a = -(m : Int) := ⟨a.natAbs, by omega⟩
    rw [rnd_neg1 _ _ (by omega), rnd_pos]
    exact quo_np m k w (by omega) (by omega) hk hk'
  · obtain ⟨m, rfl⟩ : ∃ m : Nat, a = (m : Int) := ⟨a.natAbs, by omega⟩
    rw [rnd_pos]
    exact quo_pp m k w (by omega) hk hk'

/-- both negative -/
theorem quo_nm (m k : Nat) (w : World) (hm : m ≤ 2305843009213693952) (hk : 0 < k) (hk' : k ≤ 1073741824) :
    Calls Tryd.prog 27 #[.int .i64 (-(m : Int)), .int .i64 (-(k : Int))] w fun e w' => e = .returned (.int .i64 (rn m k : Nat)) ∧ Below w.heap.size w w' := by
  have hu := Lib.hid (rn_up m k hk)
  have hd := Lib.hid (rn_down m k hk)
  have hq : m / k ≤ m := Nat.div_le_self _ _
  have hr : m % k < k := Nat.mod_lt _ hk
  have hkz : (1 : Int) ≤ (k : Int) := by omega
  have hkz' : ((k : Int) == 0) = false := by simp; omega
  have hk0 : -(k : Int) < 0 := by omega
  go_enter Tryd.func27, Tryd.ntmps27
  go_wp2
  go_quiet (fail)
  rw [show ((m : Int) / (k : Int)) = ((m / k : Nat) : Int) from by simp, show ((m : Int) % (k : Int)) = ((m % k : Nat) : Int) from by simp]
  generalize m / k = q at *
  generalize m % k = r at *
  by_cases h : k ≤ 2 * r
  · have h' : (k : Int) - (r : Int) ≤ (r : Int) := by omega
    go_wp2
    go_ret
    exact ⟨ret_int (by rw [hu.out h]; unfold wrap64; omega), belowN (Below.refl _ _) _⟩
  · have h' : ¬ (k : Int) - (r : Int) ≤ (r : Int) := by omega
    go_wp2
    go_ret
    exact ⟨ret_int (by rw [hd.out h]; unfold wrap64; omega), belowN (Below.refl _ _) _⟩

/-- a negative divisor -/
theorem quo_pm (m k : Nat) (w : World) (hm0 : 0 < m) (hm : m ≤ 2305843009213693952) (hk : 0 < k) (hk' : k ≤ 1073741824) :
    Calls Tryd.prog 27 #[.int .i64 (m : Int), .int .i64 (-(k : Int))] w fun e w' => e = .returned (.int .i64 (-((rn m k : Nat) : Int))) ∧ Below w.heap.size w w' := by
  have hu := Lib.hid (rn_up m k hk)
  have hd := Lib.hid (rn_down m k hk)
  have hq : m / k ≤ m := Nat.div_le_self _ _
  have hr : m % k < k := Nat.mod_lt _ hk
  have hkz : (1 : Int) ≤ (k : Int) := by omega
  have hkz' : ((k : Int) == 0) = false := by simp; omega
  have hk0 : -(k : Int) < 0 := by omega
  have e1 : (-(m : Int)).tdiv (k : Int) = -((m / k : Nat) : Int) := by rw [Int.neg_tdiv, Int.ofNat_tdiv]
  have e2 : (-(m : Int)).tmod (k : Int) = -((m % k : Nat) : Int) := by rw [Int.neg_tmod, Int.ofNat_tmod]
  go_enter Tryd.func27, Tryd.ntmps27
  go_wp2
  go_quiet (fail)
  clear e1 e2
  rw [show ((m : Int) / (k : Int)) = ((m / k : Nat) : Int) from by simp, show ((m : Int) % (k : Int)) = ((m % k : Nat) : Int) from by simp]
  generalize m / k = q at *
  generalize m % k = r at *
  by_cases h0 : r = 0
  · subst h0
    have h' : ¬ (k : Int) ≤ 0 := by omega
    go_wp2
    go_ret
    exact ⟨ret_int (by rw [hd.out (by omega)]; unfold wrap64; omega), belowN (Below.refl _ _) _⟩
  · have hn : ¬ (0 : Int) ≤ -(r : Int) := by omega
    have hn' : -(r : Int) < 0 := by omega
    by_cases h : k ≤ 2 * r
    · have h' : (k : Int) + -(r : Int) ≤ (r : Int) := by omega
      go_wp2
      go_ret
      exact ⟨ret_int (by rw [hu.out h]; unfold wrap64; omega), belowN (Below.refl _ _) _⟩
    · have h' : ¬ (k : Int) + -(r : Int) ≤ (r : Int) := by omega
      go_wp2
      go_ret
      exact ⟨ret_int (by rw [hd.out h]; unfold wrap64; omega), belowN (Below.refl _ _) _⟩

theorem quotient_any (a b : Int) (w : World) (ha : a.natAbs ≤ 2305843009213693952) (hb : b ≠ 0) (hb' : b.natAbs ≤ 1073741824) :
    Calls Tryd.prog 27 #[.int .i64 a, .int .i64 b] w fun e w' => e = .returned (.int .i64 (rnd a b)) ∧ Below w.heap.size w w' := by
  by_cases h : b < 0
  · obtain ⟨k, rfl⟩ : ∃ k : Nat, b = -(k : Int) := ⟨b.natAbs, by omega⟩
    by_cases h1 : 0 < a
    · obtain ⟨m, rfl⟩ : ∃ m : Nat, a = (m : Int) := ⟨a.natAbs, by omega⟩
      rw [show rnd (m : Int) (-(k : Int)) = -((rn m k : Nat) : Int) from by rw [← rnd_neg _ _ (by omega), Int.neg_neg, rnd_neg1 _ _ (by omega), rnd_pos]]
      exact quo_pm m k w (by omega) (by omega) (by omega) (by omega)
    · obtain ⟨m, rfl⟩ : ∃ m : Nat, a = -(m : Int) := ⟨a.natAbs, by omega⟩
      rw [rnd_neg _ _ (by omega), rnd_pos]
      exact quo_nm m k w (by omega) (by omega) (by omega)
  · obtain ⟨k, rfl⟩ : ∃ k : Nat, b = (k : Int) := ⟨b.natAbs, by omega⟩
    exact quo_nn a k w ha (by omega) (by omega)

set_option maxHeartbeats 1000000 in
theorem round_any (a b : Int) (w : World) (ha : a.natAbs ≤ 2305843009213693952) (hb : b ≠ 0) (hb' : b.natAbs ≤ 1073741824) :
    Calls Tryd.prog 28 #[.int .i64 a, .int .i64 b] w fun e w' => e = .returned (.int .i64 (rnd a b)) ∧ w = w' := by
  have hk : 0 < b.natAbs := Int.natAbs_pos.2 hb
  have hle := rn_le a.natAbs b.natAbs hk
  have HR : Hid (rnd a b = if (!(decide (a < 0) == decide (b < 0))) = true then -(rn a.natAbs b.natAbs : Int) else (rn a.natAbs b.natAbs : Int)) := by
    show rnd a b = _
    unfold rnd
    by_cases h : decide (a < 0) = decide (b < 0)
    · rw [if_pos h, if_neg (by simp [h])]
    · rw [if_neg h, if_pos (by simpa using h)]
  have hz : (1 : Int) ≤ 2 * (b.natAbs : Int) := by omega
  have hz' : (2 * (b.natAbs : Int) == 0) = false := by simp; omega
  go_enter Tryd.func28, Tryd.ntmps28
  go_wp2_with fail
  refine (size_any a _ (by omega) (by omega)).mono ?_
  rintro e w' ⟨rfl, rfl⟩
  go_wp2_with fail
  refine (size_any b _ (by omega) (by omega)).mono ?_
  rintro e w' ⟨rfl, rfl⟩
  go_wp2_with fail
  refine (size_any b _ (by omega) (by omega)).mono ?_
  rintro e w' ⟨rfl, rfl⟩
  have hrn : (2 * (a.natAbs : Int) + (b.natAbs : Int)) / (2 * (b.natAbs : Int)) = ((rn a.natAbs b.natAbs : Nat) : Int) := by unfold rn; simp
  cases hs : (!(decide (a < 0) == decide (b < 0))) with
  | true =>
    rw [hs, if_pos rfl] at HR
    go_wp2
    go_ret
    exact ⟨ret_int HR.out.symm, rfl⟩
  | false =>
    rw [hs, if_neg (by simp)] at HR
    go_wp2
    go_ret
    exact ⟨ret_int HR.out.symm, rfl⟩
end Go.Proofs.YtbaljopgkelcfaaDoor
