/- Contracts of entry and of the reference's proper. -/
import Derived.Test.YthhnbfndmjpdgaaFind2
namespace Go.Proofs.Ythhnbfndmjpdgaa
open Go.RowKit

/-- a byte from ! to ~ -/
def byteOk (c : UInt8) : Bool := decide (33 ≤ c.toNat) && decide (c.toNat ≤ 126)
def proper (e : Ent) : Bool := e.text.data.toList.all byteOk && (decide (1 ≤ e.text.size) && decide (e.text.size ≤ 16) && decide (0 ≤ e.cls) && decide (e.cls ≤ 7))

theorem proper_no (e : Ent) (k : Nat) (hk : k < e.text.size) (h : byteOk e.text[k] = false) : proper e = false := by
  unfold proper
  rw [Bool.and_eq_false_iff]; left
  rw [List.all_eq_false]
  refine ⟨e.text[k], ?_, by simp [h]⟩
  have : e.text[k] = e.text.data.toList[k]'(by simpa using hk) := rfl
  rw [this]; exact List.getElem_mem _
theorem proper_yes (e : Ent) (h : ∀ (j : Nat) (hj : j < e.text.size), byteOk e.text[j] = true) : proper e = (decide (1 ≤ e.text.size) && decide (e.text.size ≤ 16) && decide (0 ≤ e.cls) && decide (e.cls ≤ 7)) := by
  unfold proper
  have : e.text.data.toList.all byteOk = true := by
    rw [List.all_eq_true]
    intro x hx
    obtain ⟨j, hj, rfl⟩ := List.mem_iff_getElem.1 hx
    exact h j (by simpa using hj)
  rw [this, Bool.true_and]

theorem ret_bool {a b : Bool} (h : a = b) : Ending.returned (.bool a) = .returned (.bool b) := by rw [h]

set_option maxHeartbeats 1000000 in
theorem entry_any (e : Ent) (w : World) (hs : e.text.size ≤ maxLen) :
    Calls Try.prog 20 #[.agg #[.string e.text, .int .i64 e.cls, .bool e.lim, .bool e.str]] w fun r w' => r = .returned (.bool (proper e)) ∧ Below w.heap.size w w' := by
  unfold maxLen at hs
  go_enter Try.func20, Try.ntmps20
  go_wp2
  go_loop [3] (fun s3 => ∃ kk : Nat, kk ≤ e.text.size ∧ s3 = .int .i64 kk ∧ Aside (∀ (j : Nat) (hj : j < e.text.size), j < kk → byteOk e.text[j] = true)) (fun s3 => e.text.size - (intOf s3).toNat)
  case atStart => exact ⟨0, Nat.zero_le _, rfl, fun j _ hj => absurd hj (Nat.not_lt_zero _)⟩
  case round =>
    obtain ⟨kk, hkk, rfl, HA⟩ := hrel
    by_cases hlt : kk < e.text.size
    · have hltz : (kk : Int) < (e.text.size : Int) := by omega
      by_cases h1 : e.text[kk].toNat < 33
      · have h1' : (e.text[kk].toNat : Int) < 33 := by omega
        have hp : Hid (proper e = false) := proper_no e kk hlt (by simp [byteOk]; omega)
        go_wp2
        go_ret
        refine ⟨?_, (Below.refl _ _).alloc (Nat.le_refl _) _⟩
        rw [hp.out]; rfl
      · have h1' : ¬ (e.text[kk].toNat : Int) < 33 := by omega
        by_cases h2 : 126 < e.text[kk].toNat
        · have h2' : (126 : Int) < (e.text[kk].toNat : Int) := by omega
          have hp : Hid (proper e = false) := proper_no e kk hlt (by simp [byteOk]; omega)
          go_wp2
          go_ret
          refine ⟨?_, (Below.refl _ _).alloc (Nat.le_refl _) _⟩
          rw [hp.out]; rfl
        · have h2' : ¬ (126 : Int) < (e.text[kk].toNat : Int) := by omega
          have hok : Hid (byteOk e.text[kk] = true) := by show byteOk e.text[kk] = true; simp [byteOk]; omega
          go_wp2
          go_round
          case rel =>
            refine ⟨kk + 1, by omega, by go_num, (show Aside _ from fun j hj hjk => ?_)⟩
            by_cases ee : j = kk
            · subst ee; exact hok.out
            · exact HA.out j hj (by omega)
          case measure => simp [intOf]; omega
    · have hltz : ¬ (kk : Int) < (e.text.size : Int) := by omega
      obtain rfl : kk = e.text.size := by omega
      have hp : Hid (proper e = (decide (1 ≤ e.text.size) && decide (e.text.size ≤ 16) && decide (0 ≤ e.cls) && decide (e.cls ≤ 7))) := proper_yes e (fun j hj => HA.out j hj hj)
      clear hlt HA
      go_wp2
      all_goals
        go_ret
        refine ⟨ret_bool ?_, (Below.refl _ _).alloc (Nat.le_refl _) _⟩
        rw [hp.out, Bool.eq_iff_iff]
        simp
        try omega

set_option maxHeartbeats 1000000 in
theorem refProper_any (e : Ent) (w : World) (hs : e.text.size ≤ maxLen) :
    Calls Try.prog 21 #[.agg #[.string e.text, .int .i64 e.cls, .bool e.lim, .bool e.str]] w fun r w' => r = .returned (.bool (proper e)) ∧ Below w.heap.size w w' := by
  unfold maxLen at hs
  go_enter Try.func21, Try.ntmps21
  go_wp2
  go_loop [3] (fun s3 => ∃ kk : Nat, kk ≤ e.text.size ∧ s3 = .int .i64 kk ∧ Aside (∀ (j : Nat) (hj : j < e.text.size), j < kk → byteOk e.text[j] = true)) (fun s3 => e.text.size - (intOf s3).toNat)
  case atStart => exact ⟨0, Nat.zero_le _, rfl, fun j _ hj => absurd hj (Nat.not_lt_zero _)⟩
  case round =>
    obtain ⟨kk, hkk, rfl, HA⟩ := hrel
    by_cases hlt : kk < e.text.size
    · have hltz : (kk : Int) < (e.text.size : Int) := by omega
      by_cases h1 : e.text[kk].toNat < 33
      · have h1' : (e.text[kk].toNat : Int) < 33 := by omega
        have hp : Hid (proper e = false) := proper_no e kk hlt (by simp [byteOk]; omega)
        go_wp2
        go_ret
        refine ⟨?_, (Below.refl _ _).alloc (Nat.le_refl _) _⟩
        rw [hp.out]; rfl
      · have h1' : ¬ (e.text[kk].toNat : Int) < 33 := by omega
        by_cases h2 : 126 < e.text[kk].toNat
        · have h2' : (126 : Int) < (e.text[kk].toNat : Int) := by omega
          have hp : Hid (proper e = false) := proper_no e kk hlt (by simp [byteOk]; omega)
          go_wp2
          go_ret
          refine ⟨?_, (Below.refl _ _).alloc (Nat.le_refl _) _⟩
          rw [hp.out]; rfl
        · have h2' : ¬ (126 : Int) < (e.text[kk].toNat : Int) := by omega
          have hok : Hid (byteOk e.text[kk] = true) := by show byteOk e.text[kk] = true; simp [byteOk]; omega
          go_wp2
          go_round
          case rel =>
            refine ⟨kk + 1, by omega, by go_num, (show Aside _ from fun j hj hjk => ?_)⟩
            by_cases ee : j = kk
            · subst ee; exact hok.out
            · exact HA.out j hj (by omega)
          case measure => simp [intOf]; omega
    · have hltz : ¬ (kk : Int) < (e.text.size : Int) := by omega
      obtain rfl : kk = e.text.size := by omega
      have hp : Hid (proper e = (decide (1 ≤ e.text.size) && decide (e.text.size ≤ 16) && decide (0 ≤ e.cls) && decide (e.cls ≤ 7))) := proper_yes e (fun j hj => HA.out j hj hj)
      clear hlt HA
      go_wp2
      all_goals
        go_ret
        refine ⟨ret_bool ?_, (Below.refl _ _).alloc (Nat.le_refl _) _⟩
        rw [hp.out, Bool.eq_iff_iff]
        simp
        try omega
end Go.Proofs.Ythhnbfndmjpdgaa
