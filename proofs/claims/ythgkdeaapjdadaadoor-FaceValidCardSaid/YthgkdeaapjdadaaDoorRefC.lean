/- Contracts of the reference's has and among. -/
import Derived.Test.YthgkdeaapjdadaaDoorStr2
namespace Go.Proofs.YthgkdeaapjdadaaDoor
open Go.RowKit

def amg (F : List (List UInt8)) (n : List UInt8) : Bool := F.contains n
def hasB (s : List UInt8) (c : Nat) : Bool := s.any fun x => x.toNat == c
set_option maxRecDepth 100000 in
set_option maxHeartbeats 1000000 in
theorem has_any (s : ByteArray) (c : Nat) (w : World) (hs : s.size ≤ 100) :
    Calls Tryd.prog 62 #[.string s, .int .u8 (c : Int)] w fun r w' => r = .returned (.bool (hasB s.data.toList c)) ∧ w = w' := by
  go_enter Tryd.func62, Tryd.ntmps62
  go_wp2
  go_loop [5] (fun s5 => ∃ k : Nat, k ≤ s.size ∧ s5 = .int .i64 k ∧ Aside (∀ (j : Nat) (hj : j < s.size), j < k → s[j].toNat ≠ c)) (fun s5 => s.size - (intOf s5).toNat)
  case atStart => exact ⟨0, Nat.zero_le _, rfl, fun j _ hj => absurd hj (Nat.not_lt_zero _)⟩
  case round =>
    obtain ⟨k, hk, rfl, HA⟩ := hrel
    by_cases hlt : k < s.size
    · have hltz : (k : Int) < (s.size : Int) := by omega
      by_cases h1 : s[k].toNat = c
      · have h1' : ((s[k].toNat : Int) == (c : Int)) = true := by simp; omega
        have HP : Hid (hasB s.data.toList c = true) := by
          show hasB s.data.toList c = true
          unfold hasB
          rw [List.any_eq_true]
          refine ⟨s[k], ?_, by simpa using h1⟩
          have : s[k] = s.data.toList[k]'(by simpa using hlt) := rfl
          rw [this]; exact List.getElem_mem _
        clear h1
        go_wp2
        go_ret
        exact ⟨by rw [HP.out]; rfl, rfl⟩
      · have h1' : ((s[k].toNat : Int) == (c : Int)) = false := by simp; omega
        have HN := Lib.hid h1
        clear h1
        go_wp2
        go_round
        case rel =>
          refine ⟨k + 1, by omega, by go_num, (show Aside _ from fun j hj hjk => ?_)⟩
          by_cases ee : j = k
          · subst ee; exact HN.out
          · exact HA.out j hj (by omega)
        case measure => simp [intOf]; omega
    · have hltz : ¬ (k : Int) < (s.size : Int) := by omega
      obtain rfl : k = s.size := by omega
      have HP : Hid (hasB s.data.toList c = false) := by
        show hasB s.data.toList c = false
        unfold hasB
        rw [List.any_eq_false]
        intro x hx
        obtain ⟨j, hj, rfl⟩ := List.mem_iff_getElem.1 hx
        have hj' : j < s.size := by simpa using hj
        have := HA.out j hj' hj'
        have h2 : s.data.toList[j] = s[j]'hj' := rfl
        rw [h2]
        simpa using this
      go_wp2
      go_ret
      exact ⟨by rw [HP.out]; rfl, rfl⟩
theorem hasL_any (s : List UInt8) (c : Nat) (w : World) (hs : s.length ≤ 100) :
    Calls Tryd.prog 62 #[.string ⟨s.toArray⟩, .int .u8 (c : Int)] w fun r w' => r = .returned (.bool (hasB s c)) ∧ w = w' := by
  have e : (⟨s.toArray⟩ : ByteArray).size = s.length := by simp [ByteArray.size]
  have := has_any ⟨s.toArray⟩ c w (by rw [e]; exact hs)
  simpa using this

set_option maxRecDepth 100000 in
set_option maxHeartbeats 1000000 in
theorem among_any (n : List UInt8) (F : List (List UInt8)) (fb : Nat) (w : World) (hN : w.heap[fb]? = some (.cells (strC F) 9)) (hF : F.length ≤ 20) :
    Calls Tryd.prog 25 #[.string ⟨n.toArray⟩, .slice (some ⟨fb, 0, none⟩) F.length F.length] w fun r w' => r = .returned (.bool (amg F n)) ∧ w = w' := by
  have HN := Lib.hid hN
  clear hN
  go_enter Tryd.func25, Tryd.ntmps25
  go_wp2
  go_loop [5] (fun s5 => ∃ k : Nat, k ≤ F.length ∧ s5 = .int .i64 k ∧ Aside (∀ (j : Nat) (hj : j < F.length), j < k → F[j] ≠ n)) (fun s5 => F.length - (intOf s5).toNat)
  case atStart => exact ⟨0, Nat.zero_le _, rfl, fun j _ hj => absurd hj (Nat.not_lt_zero _)⟩
  case round =>
    obtain ⟨k, hk, rfl, HA⟩ := hrel
    by_cases hlt : k < F.length
    · have hltz : (k : Int) < (F.length : Int) := by omega
      have hc := (cell_blk HN.out k).trans (strC_at F k hlt)
      by_cases h1 : F[k] = n
      · have h1' : (F[k] == n) = true := by simpa using h1
        have HP : Hid (amg F n = true) := by show F.contains n = true; rw [← h1]; simp
        clear h1
        go_wp2
        go_ret
        exact ⟨by rw [HP.out]; rfl, rfl⟩
      · have h1' : (F[k] == n) = false := by simpa using h1
        have HN' := Lib.hid h1
        clear h1
        go_wp2
        go_round
        case rel =>
          refine ⟨k + 1, by omega, by go_num, (show Aside _ from fun j hj hjk => ?_)⟩
          by_cases ee : j = k
          · subst ee; exact HN'.out
          · exact HA.out j hj (by omega)
        case measure => simp [intOf]; omega
    · have hltz : ¬ (k : Int) < (F.length : Int) := by omega
      obtain rfl : k = F.length := by omega
      have HP : Hid (amg F n = false) := by
        show F.contains n = false
        rw [Bool.eq_false_iff]
        intro h
        have hm : n ∈ F := by simpa using h
        obtain ⟨j, hj, e⟩ := List.mem_iff_getElem.1 hm
        exact HA.out j hj hj e
      go_wp2
      go_ret
      exact ⟨by rw [HP.out]; rfl, rfl⟩
end Go.Proofs.YthgkdeaapjdadaaDoor
