/- Letters, identifiers, numbers as plain functions; contracts of the program's leaf functions. -/
import Derived.Test.YtkjhfbgdmmnadaaGreatRows
import Derived.WalkKit
import Derived.WalkSpells
import Derived.WalkLawsBesides
import Derived.Lib.Hide
import Derived.Deep.LoopGhost
namespace Go.Proofs.YtkjhfbgdmmnadaaGreat
open Go.RowKit

def isL (c : UInt8) : Bool := (decide (97 ≤ c.toNat) && decide (c.toNat ≤ 122)) || (decide (65 ≤ c.toNat) && decide (c.toNat ≤ 90))
def okS (lo : Nat) (l : List UInt8) : Bool := l.all fun c => decide (lo ≤ c.toNat) && decide (c.toNat ≤ 126)
def kwds : List (List UInt8) := [[102, 114, 97, 99], [114, 111, 111, 116], [109, 97, 116, 114, 105, 120], [102, 101, 110, 99, 101]]
def accs : List (List UInt8) := [[104, 97, 116], [98, 97, 114], [118, 101, 99], [100, 111, 116], [116, 105, 108, 100, 101], [99, 104, 101, 99, 107]]
/-- one to sixteen letters -/
def wordB (l : List UInt8) : Bool := l.all isL && decide (1 ≤ l.length) && decide (l.length ≤ 16)
def identB (l : List UInt8) : Bool := wordB l && !kwds.contains l && !accs.contains l

theorem len_list (s : ByteArray) : s.data.toList.length = s.size := by rw [Array.length_toList]; rfl
theorem size_mk (l : List UInt8) : (⟨l.toArray⟩ : ByteArray).size = l.length := by simp [ByteArray.size]
theorem ret_bool {a b : Bool} (h : a = b) : Ending.returned (.bool a) = .returned (.bool b) := by rw [h]
theorem all_no (p : UInt8 → Bool) (s : ByteArray) (k : Nat) (hk : k < s.size) (h : p s[k] = false) : s.data.toList.all p = false := by
  rw [List.all_eq_false]
  refine ⟨s[k], ?_, by simp [h]⟩
  have : s[k] = s.data.toList[k]'(by simpa using hk) := rfl
  rw [this]; exact List.getElem_mem _
theorem all_yes (p : UInt8 → Bool) (s : ByteArray) (h : ∀ (j : Nat) (hj : j < s.size), p s[j] = true) : s.data.toList.all p = true := by
  rw [List.all_eq_true]
  intro x hx
  obtain ⟨j, hj, rfl⟩ := List.mem_iff_getElem.1 hx
  exact h j (by simpa using hj)

set_option maxHeartbeats 1000000 in
theorem letter_any (c : Nat) (b : Bool) (w : World) (hc : c < 256) (hb : b = ((decide (97 ≤ c) && decide (c ≤ 122)) || (decide (65 ≤ c) && decide (c ≤ 90)))) :
    Calls Tryz.prog 34 #[.int .u8 c] w fun e w' => e = .returned (.bool b) ∧ w = w' := by
  have HB := Lib.hid hb
  clear hb
  by_cases h1 : 97 ≤ c
  · have h1z : (97 : Int) ≤ (c : Int) := by omega
    by_cases h2 : c ≤ 122
    · have h2z : (c : Int) ≤ 122 := by omega
      have HX : Hid (b = true) := by show b = true; rw [HB.out, decide_eq_true h1, decide_eq_true h2]; rfl
      go_enter Tryz.func34, Tryz.ntmps34
      go_wp2
      go_ret
      rw [HX.out]
      exact ⟨rfl, rfl⟩
    · have h2z : ¬ (c : Int) ≤ 122 := by omega
      have h3z : (65 : Int) ≤ (c : Int) := by omega
      have h4z : ¬ (c : Int) ≤ 90 := by omega
      have HX : Hid (b = false) := by show b = false; rw [HB.out, decide_eq_true h1, decide_eq_false h2, decide_eq_false (show ¬ c ≤ 90 by omega)]; simp
      go_enter Tryz.func34, Tryz.ntmps34
      go_wp2
      go_ret
      rw [HX.out]
      exact ⟨rfl, rfl⟩
  · have h1z : ¬ (97 : Int) ≤ (c : Int) := by omega
    by_cases h3 : 65 ≤ c
    · have h3z : (65 : Int) ≤ (c : Int) := by omega
      by_cases h4 : c ≤ 90
      · have h4z : (c : Int) ≤ 90 := by omega
        have HX : Hid (b = true) := by show b = true; rw [HB.out, decide_eq_false h1, decide_eq_true h3, decide_eq_true h4]; rfl
        go_enter Tryz.func34, Tryz.ntmps34
        go_wp2
        go_ret
        rw [HX.out]
        exact ⟨rfl, rfl⟩
      · have h4z : ¬ (c : Int) ≤ 90 := by omega
        have HX : Hid (b = false) := by show b = false; rw [HB.out, decide_eq_false h1, decide_eq_true h3, decide_eq_false h4]; rfl
        go_enter Tryz.func34, Tryz.ntmps34
        go_wp2
        go_ret
        rw [HX.out]
        exact ⟨rfl, rfl⟩
    · have h3z : ¬ (65 : Int) ≤ (c : Int) := by omega
      have HX : Hid (b = false) := by show b = false; rw [HB.out, decide_eq_false h1, decide_eq_false h3]; rfl
      go_enter Tryz.func34, Tryz.ntmps34
      go_wp2
      go_ret
      rw [HX.out]
      exact ⟨rfl, rfl⟩
theorem letterC_any (c : UInt8) (w : World) : Calls Tryz.prog 34 #[.int .u8 (c.toNat : Int)] w fun e w' => e = .returned (.bool (isL c)) ∧ w = w' :=
  letter_any c.toNat (isL c) w c.toNat_lt rfl

set_option maxHeartbeats 1000000 in
theorem operator_any (s : ByteArray) (w : World) (hs : s.size ≤ 1000) :
    Calls Tryz.prog 79 #[.string s] w fun r w' => r = .returned (.bool (wordB s.data.toList)) ∧ w = w' := by
  go_enter Tryz.func79, Tryz.ntmps79
  go_wp2_with fail
  go_loop [3] (fun s3 => ∃ kk : Nat, kk ≤ s.size ∧ s3 = .int .i64 kk ∧ Aside (∀ (j : Nat) (hj : j < s.size), j < kk → isL s[j] = true)) (fun s3 => s.size - (intOf s3).toNat)
  case atStart => exact ⟨0, Nat.zero_le _, rfl, fun j _ hj => absurd hj (Nat.not_lt_zero _)⟩
  case round =>
    obtain ⟨kk, hkk, rfl, HA⟩ := hrel
    by_cases hlt : kk < s.size
    · have hltz : (kk : Int) < (s.size : Int) := by omega
      cases hl : isL s[kk] with
      | false =>
        have HL := Lib.hid hl
        have HP : Hid (wordB s.data.toList = false) := by show wordB s.data.toList = false; unfold wordB; rw [all_no isL s kk hlt hl]; rfl
        clear hl
        go_wp2_with fail
        refine (letterC_any s[kk] _).mono ?_
        rw [HL.out]
        rintro e w' ⟨rfl, rfl⟩
        go_wp2_with fail
        go_ret
        rw [HP.out]
        exact ⟨rfl, rfl⟩
      | true =>
        have HL := Lib.hid hl
        clear hl
        go_wp2_with fail
        refine (letterC_any s[kk] _).mono ?_
        rw [HL.out]
        rintro e w' ⟨rfl, rfl⟩
        go_wp2_with fail
        go_round
        case rel =>
          refine ⟨kk + 1, by omega, by go_num, (show Aside _ from fun j hj hjk => ?_)⟩
          by_cases ee : j = kk
          · subst ee; exact HL.out
          · exact HA.out j hj (by omega)
        case measure => simp [intOf]; omega
    · have hltz : ¬ (kk : Int) < (s.size : Int) := by omega
      obtain rfl : kk = s.size := by omega
      have HP : Hid (wordB s.data.toList = (decide (1 ≤ s.size) && decide (s.size ≤ 16))) := by
        show wordB s.data.toList = _
        unfold wordB
        rw [all_yes isL s (fun j hj => HA.out j hj hj), len_list, Bool.true_and]
      clear hlt HA
      by_cases h1 : 1 ≤ s.size
      · have h1z : (1 : Int) ≤ (s.size : Int) := by omega
        by_cases h2 : s.size ≤ 16
        · have h2z : (s.size : Int) ≤ 16 := by omega
          have HX : Hid (wordB s.data.toList = true) := by show wordB s.data.toList = true; rw [HP.out, decide_eq_true h1, decide_eq_true h2]; rfl
          clear HP
          go_wp2_with fail
          go_ret
          rw [HX.out]
          exact ⟨rfl, rfl⟩
        · have h2z : ¬ (s.size : Int) ≤ 16 := by omega
          have HX : Hid (wordB s.data.toList = false) := by show wordB s.data.toList = false; rw [HP.out, decide_eq_false h2, Bool.and_false]
          clear HP
          go_wp2_with fail
          go_ret
          rw [HX.out]
          exact ⟨rfl, rfl⟩
      · have h1z : ¬ (1 : Int) ≤ (s.size : Int) := by omega
        have HX : Hid (wordB s.data.toList = false) := by show wordB s.data.toList = false; rw [HP.out, decide_eq_false h1]; rfl
        clear HP
        go_wp2_with fail
        go_ret
        rw [HX.out]
        exact ⟨rfl, rfl⟩

set_option maxHeartbeats 1000000 in
theorem between_any (s : ByteArray) (lo most : Nat) (w : World) (hs : s.size ≤ 1000) :
    Calls Tryz.prog 77 #[.string s, .int .u8 lo, .int .i64 most] w fun r w' => r = .returned (.bool (okS lo s.data.toList && decide (s.size ≤ most))) ∧ w = w' := by
  go_enter Tryz.func77, Tryz.ntmps77
  go_wp2_with fail
  go_loop [7] (fun s3 => ∃ kk : Nat, kk ≤ s.size ∧ s3 = .int .i64 kk ∧ Aside (∀ (j : Nat) (hj : j < s.size), j < kk → lo ≤ s[j].toNat ∧ s[j].toNat ≤ 126)) (fun s3 => s.size - (intOf s3).toNat)
  case atStart => exact ⟨0, Nat.zero_le _, rfl, fun j _ hj => absurd hj (Nat.not_lt_zero _)⟩
  case round =>
    obtain ⟨kk, hkk, rfl, HA⟩ := hrel
    by_cases hlt : kk < s.size
    · have hltz : (kk : Int) < (s.size : Int) := by omega
      by_cases h1 : s[kk].toNat < lo
      · have h1' : (s[kk].toNat : Int) < (lo : Int) := by omega
        have HP : Hid (okS lo s.data.toList = false) := all_no _ s kk hlt (by simp; omega)
        go_wp2_with fail
        go_ret
        rw [HP.out]
        exact ⟨rfl, rfl⟩
      · have h1' : ¬ (s[kk].toNat : Int) < (lo : Int) := by omega
        by_cases h2 : 126 < s[kk].toNat
        · have h2' : (126 : Int) < (s[kk].toNat : Int) := by omega
          have HP : Hid (okS lo s.data.toList = false) := all_no _ s kk hlt (by simp; omega)
          go_wp2_with fail
          go_ret
          rw [HP.out]
          exact ⟨rfl, rfl⟩
        · have h2' : ¬ (126 : Int) < (s[kk].toNat : Int) := by omega
          have hok : Hid (lo ≤ s[kk].toNat ∧ s[kk].toNat ≤ 126) := ⟨by omega, by omega⟩
          go_wp2_with fail
          go_round
          case rel =>
            refine ⟨kk + 1, by omega, by go_num, (show Aside _ from fun j hj hjk => ?_)⟩
            by_cases ee : j = kk
            · subst ee; exact hok.out
            · exact HA.out j hj (by omega)
          case measure => simp [intOf]; omega
    · have hltz : ¬ (kk : Int) < (s.size : Int) := by omega
      obtain rfl : kk = s.size := by omega
      have HP : Hid (okS lo s.data.toList = true) := all_yes _ s (fun j hj => by have := HA.out j hj hj; simp; exact this)
      clear hlt HA
      have hdec : decide (s.size ≤ most) = decide ((s.size : Int) ≤ (most : Int)) := by rw [decide_eq_decide]; omega
      have HDEC := Lib.hid hdec
      clear hdec
      go_wp2_with fail
      go_ret
      rw [HP.out, HDEC.out]
      exact ⟨by rw [Bool.true_and]; rfl, rfl⟩
end Go.Proofs.YtkjhfbgdmmnadaaGreat
