/- Contracts of letters, keyword, accent, Symbol, Identifier. -/
import Derived.Test.YtkjhfbgdmmnadaaGreatLeaf
namespace Go.Proofs.YtkjhfbgdmmnadaaGreat
open Go.RowKit

theorem or32_all : (List.range 256).all (fun c => decide ((97 ≤ (c ||| 32) ∧ (c ||| 32) ≤ 122) ↔ ((97 ≤ c ∧ c ≤ 122) ∨ (65 ≤ c ∧ c ≤ 90)))) = true := by decide +kernel
theorem or32 (c : UInt8) : isL c = (decide (97 ≤ (c.toNat ||| 32)) && decide ((c.toNat ||| 32) ≤ 122)) := by
  have := List.all_eq_true.1 or32_all c.toNat (List.mem_range.2 c.toNat_lt)
  rw [decide_eq_true_eq] at this
  unfold isL
  rw [Bool.eq_iff_iff]
  simp only [Bool.or_eq_true, Bool.and_eq_true, decide_eq_true_eq]
  exact this.symm
theorem bits32_all : (List.range 256).all (fun c => bits .or .u8 (c : Int) 32 == ((c ||| 32 : Nat) : Int)) = true := by decide +kernel
theorem bits32 (c : UInt8) : bits .or .u8 (c.toNat : Int) 32 = ((c.toNat ||| 32 : Nat) : Int) := by
  have := List.all_eq_true.1 bits32_all c.toNat (List.mem_range.2 c.toNat_lt)
  simpa using this
def lettB (l : List UInt8) : Bool := l.all isL

set_option maxHeartbeats 1000000 in
theorem letters_any (s : ByteArray) (w : World) (hs : s.size ≤ 1000) :
    Calls Tryz.prog 48 #[.string s] w fun r w' => r = .returned (.bool (lettB s.data.toList)) ∧ w = w' := by
  go_enter Tryz.func48, Tryz.ntmps48
  go_wp2_with fail
  go_loop [3] (fun s3 => ∃ kk : Nat, kk ≤ s.size ∧ s3 = .int .i64 kk ∧ Aside (∀ (j : Nat) (hj : j < s.size), j < kk → isL s[j] = true)) (fun s3 => s.size - (intOf s3).toNat)
  case atStart => exact ⟨0, Nat.zero_le _, rfl, fun j _ hj => absurd hj (Nat.not_lt_zero _)⟩
  case round =>
    obtain ⟨kk, hkk, rfl, HA⟩ := hrel
    by_cases hlt : kk < s.size
    · have hltz : (kk : Int) < (s.size : Int) := by omega
      have HL := Lib.hid (or32 s[kk])
      have hbt := bits32 s[kk]
      obtain ⟨x, hx⟩ : ∃ x : Nat, x = s[kk].toNat ||| 32 := ⟨_, rfl⟩
      rw [← hx] at HL hbt
      clear hx
      by_cases h1 : x < 97
      · have h1z : (x : Int) < 97 := by omega
        have HP : Hid (lettB s.data.toList = false) := all_no isL s kk hlt (by rw [HL.out, decide_eq_false (by omega)]; rfl)
        go_wp2_with fail
        go_ret
        rw [HP.out]
        exact ⟨rfl, rfl⟩
      · have h1z : ¬ (x : Int) < 97 := by omega
        by_cases h2 : 122 < x
        · have h2z : (122 : Int) < (x : Int) := by omega
          have HP : Hid (lettB s.data.toList = false) := all_no isL s kk hlt (by rw [HL.out, decide_eq_false (show ¬ x ≤ 122 by omega), Bool.and_false])
          go_wp2_with fail
          go_ret
          rw [HP.out]
          exact ⟨rfl, rfl⟩
        · have h2z : ¬ (122 : Int) < (x : Int) := by omega
          have HK : Hid (isL s[kk] = true) := by show isL s[kk] = true; rw [HL.out, decide_eq_true (by omega), decide_eq_true (by omega)]; rfl
          go_wp2_with fail
          go_round
          case rel =>
            refine ⟨kk + 1, by omega, by go_num, (show Aside _ from fun j hj hjk => ?_)⟩
            by_cases ee : j = kk
            · subst ee; exact HK.out
            · exact HA.out j hj (by omega)
          case measure => simp [intOf]; omega
    · have hltz : ¬ (kk : Int) < (s.size : Int) := by omega
      obtain rfl : kk = s.size := by omega
      have HP : Hid (lettB s.data.toList = true) := all_yes isL s (fun j hj => HA.out j hj hj)
      clear hlt HA
      go_wp2_with fail
      go_ret
      rw [HP.out]
      exact ⟨rfl, rfl⟩

def kwB (l : List UInt8) : Bool := kwds.contains l
def acB (l : List UInt8) : Bool := accs.contains l
set_option maxHeartbeats 1000000 in
theorem keyword_any (s : ByteArray) (w : World) : Calls Tryz.prog 50 #[.string s] w fun r w' => r = .returned (.bool (kwB s.data.toList)) ∧ w = w' := by
  have HK : Hid (kwB s.data.toList = (s.data.toList == [102, 114, 97, 99] || (s.data.toList == [114, 111, 111, 116] || (s.data.toList == [109, 97, 116, 114, 105, 120] || (s.data.toList == [102, 101, 110, 99, 101] || false))))) := by show kwB s.data.toList = _; simp only [kwB, kwds, List.contains_cons, List.contains_nil]
  go_enter Tryz.func50, Tryz.ntmps50
  go_wp2_with fail
  all_goals
    go_ret
    refine ⟨ret_bool ?_, rfl⟩
    rw [HK.out]
    simp_all [ByteArray.toList_eq]
set_option maxHeartbeats 1000000 in
theorem accent_any (s : ByteArray) (w : World) : Calls Tryz.prog 51 #[.string s] w fun r w' => r = .returned (.bool (acB s.data.toList)) ∧ w = w' := by
  have HK : Hid (acB s.data.toList = (s.data.toList == [104, 97, 116] || (s.data.toList == [98, 97, 114] || (s.data.toList == [118, 101, 99] || (s.data.toList == [100, 111, 116] || (s.data.toList == [116, 105, 108, 100, 101] || (s.data.toList == [99, 104, 101, 99, 107] || false))))))) := by show acB s.data.toList = _; simp only [acB, accs, List.contains_cons, List.contains_nil]
  go_enter Tryz.func51, Tryz.ntmps51
  go_wp2_with fail
  all_goals
    go_ret
    refine ⟨ret_bool ?_, rfl⟩
    rw [HK.out]
    simp_all [ByteArray.toList_eq]
end Go.Proofs.YtkjhfbgdmmnadaaGreat
