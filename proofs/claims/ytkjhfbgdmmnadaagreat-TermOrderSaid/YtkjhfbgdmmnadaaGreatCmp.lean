/- Contracts of rank and compare; the order of identifiers. -/
import Derived.Test.YtkjhfbgdmmnadaaGreatFew
import Derived.Deep.QuietTactic
import Derived.BigQuiet
import Derived.IntWalk
namespace Go.Proofs.YtkjhfbgdmmnadaaGreat
open Go.RowKit

def rkN (c : Nat) : Nat := if 97 ≤ c then c - 97 else (c + 191) % 256 + 26
def rk (c : UInt8) : Nat := rkN c.toNat
set_option maxHeartbeats 1000000 in
theorem rank_nat (c : Nat) (w : World) (hc : c < 256) : Calls Tryz.prog 75 #[.int .u8 (c : Int)] w fun e w' => e = .returned (.int .i64 (rkN c : Nat)) ∧ w' = w := by
  by_cases h : 97 ≤ c
  · have hz : (97 : Int) ≤ (c : Int) := by omega
    have HR : Hid (rkN c = c - 97) := if_pos h
    go_enter Tryz.func75, Tryz.ntmps75
    go_wp2_with fail
    go_ret
    rw [HR.out]
    refine ⟨?_, rfl⟩
    show Ending.returned (.int .i64 ((c : Int) - 97)) = _
    congr 2; omega
  · have hz : ¬ (97 : Int) ≤ (c : Int) := by omega
    have HR : Hid (rkN c = (c + 191) % 256 + 26) := if_neg h
    go_enter Tryz.func75, Tryz.ntmps75
    go_wp2_with fail
    go_ret
    rw [HR.out]
    refine ⟨?_, rfl⟩
    show Ending.returned (.int .i64 (((c : Int) - 65) % 256 + 26)) = _
    congr 2; omega
theorem rank_any (c : UInt8) (w : World) : Calls Tryz.prog 75 #[.int .u8 (c.toNat : Int)] w fun e w' => e = .returned (.int .i64 (rk c : Nat)) ∧ w' = w := rank_nat c.toNat w c.toNat_lt

def cmpR : List UInt8 → List UInt8 → Int
  | a :: x, b :: y => if rk a = rk b then cmpR x y else Lib.compareInt (rk a) (rk b)
  | _, _ => 0
def cmpL (x y : List UInt8) : Int := if x.length = y.length then cmpR x y else Lib.compareInt x.length y.length
theorem cmpInt_self (x : Int) : Lib.compareInt x x = 0 := by unfold Lib.compareInt; simp
theorem cmpInt_ne {x y : Int} (h : x ≠ y) : Lib.compareInt x y ≠ 0 := by unfold Lib.compareInt; split; omega; split <;> omega
theorem cmpR_at (s u : ByteArray) (k : Nat) (hk : k < s.size) (hu : k < u.size) : cmpR (s.data.toList.drop k) (u.data.toList.drop k) = if rk s[k] = rk u[k] then cmpR (s.data.toList.drop (k + 1)) (u.data.toList.drop (k + 1)) else Lib.compareInt (rk s[k]) (rk u[k]) := by
  rw [List.drop_eq_getElem_cons (by rw [len_list]; exact hk), List.drop_eq_getElem_cons (l := u.data.toList) (by rw [len_list]; exact hu), cmpR]
  rfl
theorem compareI_any (x y : Int) (w : World) : Calls Tryz.prog 74 #[.int .i64 x, .int .i64 y] w fun e w' => e = .returned (.int .i64 (Lib.compareInt x y)) ∧ w' = w := Tryz.cmp_Compare_int x y w

set_option maxRecDepth 100000 in
set_option maxHeartbeats 2000000 in
theorem compare_any (s u : ByteArray) (w : World) (hs : s.size ≤ 1000) :
    Calls Tryz.prog 59 #[.string s, .string u] w fun e w' => e = .returned (.int .i64 (cmpL s.data.toList u.data.toList)) ∧ ∃ n, w' = w.drewN n := by
  have HC : Hid (cmpL s.data.toList u.data.toList = if s.size = u.size then cmpR s.data.toList u.data.toList else Lib.compareInt s.size u.size) := by show cmpL _ _ = _; unfold cmpL; rw [len_list, len_list]
  by_cases hlen : s.size = u.size
  · have HX := Lib.hid (HC.out.trans (if_pos hlen))
    have HZ : Hid (Lib.compareInt (s.size : Int) (u.size : Int) = 0) := by show Lib.compareInt (s.size : Int) (u.size : Int) = 0; rw [hlen]; exact cmpInt_self _
    have HLE := Lib.hid hlen
    clear hlen HC
    go_enter Tryz.func59, Tryz.ntmps59
    go_wp2_with fail
    refine (compareI_any _ _ _).mono ?_
    rw [HZ.out]
    rintro e w' ⟨rfl, hw⟩
    rw [hw]
    clear hw
    go_wp2_with fail
    go_loopg [6] s.size (fun gg s6 wr => ∃ k : Nat, k ≤ s.size ∧ s.size - k ≤ gg ∧ s6 = .int .i64 k ∧ Aside (cmpR s.data.toList u.data.toList = cmpR (s.data.toList.drop k) (u.data.toList.drop k)) ∧ ∃ n, wr = w.drewN n)
    case atStart => exact ⟨0, Nat.zero_le _, by omega, rfl, rfl, 0, rfl⟩
    case round =>
      obtain ⟨k, hk, hgg, rfl, HQ, n, rfl⟩ := hrel
      by_cases hlt : k < s.size
      · have hltz : (k : Int) < (s.size : Int) := by omega
        have hlu : k < u.size := by have := HLE.out; omega
        have hluz : (k : Int) < (u.size : Int) := by omega
        have HD := Lib.hid (cmpR_at s u k hlt hlu)
        have HW0 : Hid (∃ m, w.drewN n = w.drewN m) := ⟨n, rfl⟩
        generalize w.drewN n = wr at HW0 ⊢
        go_wp2_with fail
        go_big_quiet (first | (go_at_call 75; exact Calls.quiet_of_same (rank_any _ _)) | (go_at_call 74; exact Calls.quiet_of_same (compareI_any _ _ _)))
        have HW : Hid (∃ m, wr.drewN nq = w.drewN m) := by
          obtain ⟨m, hm⟩ := HW0.out
          exact ⟨m + nq, by rw [hm, World.drewN_drewN]⟩
        generalize wr.drewN nq = wn at HW ⊢
        clear HW0
        by_cases he : rk s[k] = rk u[k]
        · have HQ2 : Hid (cmpR s.data.toList u.data.toList = cmpR (s.data.toList.drop (k + 1)) (u.data.toList.drop (k + 1))) := HQ.out.trans (HD.out.trans (if_pos he))
          have HZ2 : Hid (Lib.compareInt (rk s[k] : Int) (rk u[k] : Int) = 0) := by show Lib.compareInt (rk s[k] : Int) (rk u[k] : Int) = 0; rw [he]; exact cmpInt_self _
          rw [HZ2.out]
          clear HD he
          go_wp2_with fail
          go_roundg (s.size - (k + 1))
          case measure => omega
          exact ⟨k + 1, by omega, Nat.le_refl _, by go_num, HQ2.out, HW.out⟩
        · have HQ2 : Hid (cmpL s.data.toList u.data.toList = Lib.compareInt (rk s[k] : Int) (rk u[k] : Int)) := HX.out.trans (HQ.out.trans (HD.out.trans (if_neg he)))
          have hne := cmpInt_ne (x := (rk s[k] : Int)) (y := (rk u[k] : Int)) (by omega)
          generalize Lib.compareInt (rk s[k] : Int) (rk u[k] : Int) = x at hne HQ2 ⊢
          have hb1 : (x == 0) = false := by simpa using hne
          have hb2 : (x != 0) = true := by simpa using hne
          clear hne he HD
          go_wp2_with fail
          go_ret
          rw [HQ2.out]
          exact ⟨rfl, HW.out⟩
      · have hltz : ¬ (k : Int) < (s.size : Int) := by omega
        have HY : Hid (cmpL s.data.toList u.data.toList = 0) := by
          show cmpL s.data.toList u.data.toList = 0
          rw [HX.out, HQ.out, List.drop_eq_nil_of_le (by rw [len_list]; omega)]
          unfold cmpR; rfl
        go_wp2_with fail
        go_ret
        rw [HY.out]
        exact ⟨rfl, n, rfl⟩
  · have HX := Lib.hid (HC.out.trans (if_neg hlen))
    have hne := cmpInt_ne (x := (s.size : Int)) (y := (u.size : Int)) (by omega)
    obtain ⟨x, hx⟩ : ∃ x, x = Lib.compareInt (s.size : Int) (u.size : Int) := ⟨_, rfl⟩
    have HXX := Lib.hid hx
    rw [← hx] at hne HX
    have hb1 : (x == 0) = false := by simpa using hne
    have hb2 : (x != 0) = true := by simpa using hne
    clear hlen HC hx hne
    go_enter Tryz.func59, Tryz.ntmps59
    go_wp2_with fail
    refine (compareI_any _ _ _).mono ?_
    rw [← HXX.out]
    rintro e w' ⟨rfl, hw⟩
    rw [hw]
    clear hw
    go_wp2_with fail
    go_ret
    rw [HX.out]
    exact ⟨rfl, 0, rfl⟩
end Go.Proofs.YtkjhfbgdmmnadaaGreat
