/- Contracts of font.named and font.within, at arguments that are in order. -/
import Derived.Test.YthgkdeaapjdadaaDoorFF
namespace Go.Proofs.YthgkdeaapjdadaaDoor
open Go.RowKit

def nameOk (n : List UInt8) : Bool := decide (1 ≤ n.length) && decide (n.length ≤ 16) && n.all fun c => decide (32 ≤ c.toNat) && decide (c.toNat ≤ 126)
set_option maxRecDepth 100000 in
set_option maxHeartbeats 1000000 in
theorem named_b (s : ByteArray) (w : World) (h1 : 1 ≤ s.size) (h2 : s.size ≤ 16) (hc : ∀ (j : Nat) (hj : j < s.size), 32 ≤ s[j].toNat ∧ s[j].toNat ≤ 126) :
    Calls Tryd.prog 31 #[.string s] w fun r w' => r = .returned (.bool true) ∧ w = w' := by
  have HC := Lib.hid hc
  clear hc
  go_enter Tryd.func31, Tryd.ntmps31
  go_wp2
  go_loop [3] (fun s3 => ∃ k : Nat, k ≤ s.size ∧ s3 = .int .i64 k) (fun s3 => s.size - (intOf s3).toNat)
  case atStart => exact ⟨0, Nat.zero_le _, rfl⟩
  case round =>
    obtain ⟨k, hk, rfl⟩ := hrel
    by_cases hlt : k < s.size
    · have hltz : (k : Int) < (s.size : Int) := by omega
      obtain ⟨c1, c2⟩ := HC.out k hlt
      have d1 : ¬ (s[k].toNat : Int) < 32 := by omega
      have d2 : ¬ (126 : Int) < (s[k].toNat : Int) := by omega
      go_wp2
      go_round
      case rel => exact ⟨k + 1, by omega, by go_num⟩
      case measure => simp [intOf]; omega
    · have hltz : ¬ (k : Int) < (s.size : Int) := by omega
      obtain rfl : k = s.size := by omega
      have e1 : (1 : Int) ≤ (s.size : Int) := by omega
      have e2 : (s.size : Int) ≤ 16 := by omega
      go_wp2
      go_ret
      exact ⟨rfl, rfl⟩
theorem named_any (n : List UInt8) (w : World) (h : nameOk n = true) : Calls Tryd.prog 31 #[.string ⟨n.toArray⟩] w fun r w' => r = .returned (.bool true) ∧ w = w' := by
  unfold nameOk at h
  simp only [Bool.and_eq_true, decide_eq_true_eq, List.all_eq_true] at h
  obtain ⟨⟨h1, h2⟩, h3⟩ := h
  have e : (⟨n.toArray⟩ : ByteArray).size = n.length := by simp [ByteArray.size]
  refine named_b ⟨n.toArray⟩ w (by omega) (by omega) fun j hj => ?_
  have hj' : j < n.length := by omega
  have : (⟨n.toArray⟩ : ByteArray)[j] = n[j] := rfl
  rw [this]
  exact h3 _ (List.getElem_mem hj')
set_option maxRecDepth 100000 in
set_option maxHeartbeats 1000000 in
theorem within_any (lo hi : Int) (b : Nat) (xs : List Int) (w : World) (hb : w.heap[b]? = some (.cells (xs.map (Value.int .i64)).toArray 3)) (hall : ∀ x ∈ xs, lo ≤ x ∧ x ≤ hi) (hl : xs.length ≤ 20) :
    Calls Tryd.prog 32 #[.int .i64 lo, .int .i64 hi, .slice (some ⟨b, 0, none⟩) xs.length xs.length] w fun r w' => r = .returned (.bool true) ∧ w = w' := by
  have HB := Lib.hid hb
  have HA := Lib.hid hall
  clear hb hall
  go_enter Tryd.func32, Tryd.ntmps32
  go_wp2
  go_loop [11, 8] (fun s11 _ => ∃ k : Nat, k ≤ xs.length ∧ s11 = .int .i64 k) (fun s11 _ => xs.length - (intOf s11).toNat)
  case atStart => exact ⟨0, Nat.zero_le _, rfl⟩
  case round =>
    obtain ⟨k, hk, rfl⟩ := hrel
    by_cases hlt : k < xs.length
    · have hltz : (k : Int) < (xs.length : Int) := by omega
      obtain ⟨c1, c2⟩ := HA.out xs[k] (List.getElem_mem hlt)
      have hc : w.cell? ⟨b, k, none⟩ = some (.int .i64 xs[k]) := by rw [cell_blk HB.out]; simp [hlt]
      obtain ⟨x, hx⟩ : ∃ x, x = xs[k] := ⟨_, rfl⟩
      rw [← hx] at c1 c2 hc
      clear hx
      have d1 : ¬ x < lo := by omega
      have d2 : ¬ hi < x := by omega
      go_wp2
      go_round
      case rel => exact ⟨k + 1, by omega, by go_num⟩
      case measure => simp [intOf]; omega
    · have hltz : ¬ (k : Int) < (xs.length : Int) := by omega
      obtain rfl : k = xs.length := by omega
      go_wp2
      go_ret
      exact ⟨rfl, rfl⟩
end Go.Proofs.YthgkdeaapjdadaaDoor
