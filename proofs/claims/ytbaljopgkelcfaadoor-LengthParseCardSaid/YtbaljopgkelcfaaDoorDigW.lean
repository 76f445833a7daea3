/- Contracts of digits, run and of the reference's Digits and Text. -/
import Derived.Test.YtbaljopgkelcfaaDoorRt
import Derived.Deep.LoopGhost
namespace Go.Proofs.YtbaljopgkelcfaaDoor
open Go.RowKit

theorem ret_bool' {a b : Bool} (h : a = b) : Ending.returned (.bool a) = .returned (.bool b) := by rw [h]
theorem digs_no (s : ByteArray) (k : Nat) (hk : k < s.size) (h : isD s[k] = false) : digs s.data.toList = false := by
  unfold digs
  rw [Bool.and_eq_false_iff]; left
  rw [List.all_eq_false]
  refine ⟨s[k], ?_, by simp [h]⟩
  have : s[k] = s.data.toList[k]'(by simpa using hk) := rfl
  rw [this]; exact List.getElem_mem _
theorem digs_yes (s : ByteArray) (h : ∀ (j : Nat) (hj : j < s.size), isD s[j] = true) : digs s.data.toList = !s.data.toList.isEmpty := by
  unfold digs
  have : s.data.toList.all isD = true := by
    rw [List.all_eq_true]
    intro x hx
    obtain ⟨j, hj, rfl⟩ := List.mem_iff_getElem.1 hx
    exact h j (by simpa using hj)
  rw [this, Bool.true_and]

set_option maxHeartbeats 1000000 in
theorem digs_any (s : ByteArray) (w : World) (hs : s.size ≤ maxLen) :
    Calls Tryd.prog 34 #[.string s] w fun r w' => r = .returned (.bool (digs s.data.toList)) ∧ w = w' := by
  unfold maxLen at hs
  go_enter Tryd.func34, Tryd.ntmps34
  go_wp2
  go_loop [3] (fun s3 => ∃ kk : Nat, kk ≤ s.size ∧ s3 = .int .i64 kk ∧ Aside (∀ (j : Nat) (hj : j < s.size), j < kk → isD s[j] = true)) (fun s3 => s.size - (intOf s3).toNat)
  case atStart => exact ⟨0, Nat.zero_le _, rfl, fun j _ hj => absurd hj (Nat.not_lt_zero _)⟩
  case round =>
    obtain ⟨kk, hkk, rfl, HA⟩ := hrel
    by_cases hlt : kk < s.size
    · have hltz : (kk : Int) < (s.size : Int) := by omega
      by_cases h1 : s[kk].toNat < 48
      · have h1' : (s[kk].toNat : Int) < 48 := by omega
        have hp : Hid (digs s.data.toList = false) := digs_no s kk hlt (by simp [isD]; omega)
        go_wp2
        go_ret
        refine ⟨?_, rfl⟩
        rw [hp.out]; rfl
      · have h1' : ¬ (s[kk].toNat : Int) < 48 := by omega
        by_cases h2 : 57 < s[kk].toNat
        · have h2' : (57 : Int) < (s[kk].toNat : Int) := by omega
          have hp : Hid (digs s.data.toList = false) := digs_no s kk hlt (by simp [isD]; omega)
          go_wp2
          go_ret
          refine ⟨?_, rfl⟩
          rw [hp.out]; rfl
        · have h2' : ¬ (57 : Int) < (s[kk].toNat : Int) := by omega
          have hok : Hid (isD s[kk] = true) := by show isD s[kk] = true; simp [isD]; omega
          go_wp2
          go_round
          case rel =>
            refine ⟨kk + 1, by omega, by go_num, (show Aside _ from fun j hj hjk => ?_)⟩
            by_cases ee : j = kk
            · subst ee; exact hok.out
            · exact HA.out j hj (by omega)
          case measure => simp [intOf]; omega
    · have hltz : ¬ (kk : Int) < (s.size : Int) := by omega
      obtain rfl : kk = s.size := by omega
      have hp : Hid (digs s.data.toList = !s.data.toList.isEmpty) := digs_yes s (fun j hj => HA.out j hj hj)
      clear hlt HA
      go_wp2
      all_goals
        go_ret
        refine ⟨ret_bool' ?_, rfl⟩
        rw [hp.out]
        simp [ByteArray.toList_eq, *]
theorem size_mk (l : List UInt8) : (⟨l.toArray⟩ : ByteArray).size = l.length := by simp [ByteArray.size]
theorem size_le (l : List UInt8) (hl : l.length ≤ 1000) : (⟨l.toArray⟩ : ByteArray).size ≤ maxLen := by rw [size_mk]; unfold maxLen; omega
theorem digsL_any (l : List UInt8) (w : World) (hl : l.length ≤ 1000) :
    Calls Tryd.prog 34 #[.string ⟨l.toArray⟩] w fun r w' => r = .returned (.bool (digs l)) ∧ w = w' := by
  have := digs_any ⟨l.toArray⟩ w (size_le l hl)
  simpa using this

theorem runD_eq (s : ByteArray) (k : Nat) (hk : k ≤ s.size) (h1 : ∀ (j : Nat) (hj : j < s.size), j < k → isD s[j] = true) (h2 : ∀ hk' : k < s.size, isD s[k] = false) : runD s.data.toList = k := by
  have hl : s.data.toList.length = s.size := by rw [Array.length_toList]; rfl
  unfold runD
  have ha : ∀ c ∈ s.data.toList.take k, isD c = true := by
    intro c hc
    obtain ⟨j, hj, rfl⟩ := List.mem_iff_getElem.1 hc
    rw [List.getElem_take]
    rw [List.length_take] at hj
    exact h1 j (by omega) (by omega)
  have hd : (s.data.toList.drop k).takeWhile isD = [] := by
    by_cases hlt : k < s.size
    · rw [List.drop_eq_getElem_cons (by rw [hl]; exact hlt)]
      exact tw_no (h2 hlt) _
    · rw [List.drop_eq_nil_of_le (by rw [hl]; omega)]; rfl
  have := (tw_of_all ha (s.data.toList.drop k) hd).1
  rw [List.take_append_drop] at this
  rw [this, List.length_take, hl]; omega

set_option maxHeartbeats 1000000 in
theorem run_any (s : ByteArray) (w : World) (hs : s.size ≤ maxLen) :
    Calls Tryd.prog 37 #[.string s] w fun r w' => r = .returned (.int .i64 (runD s.data.toList)) ∧ w = w' := by
  unfold maxLen at hs
  go_enter Tryd.func37, Tryd.ntmps37
  go_wp2
  go_loop [3] (fun s3 => ∃ kk : Nat, kk ≤ s.size ∧ s3 = .int .i64 kk ∧ Aside (∀ (j : Nat) (hj : j < s.size), j < kk → isD s[j] = true)) (fun s3 => s.size - (intOf s3).toNat)
  case atStart => exact ⟨0, Nat.zero_le _, rfl, fun j _ hj => absurd hj (Nat.not_lt_zero _)⟩
  case round =>
    obtain ⟨kk, hkk, rfl, HA⟩ := hrel
    by_cases hlt : kk < s.size
    · have hltz : (kk : Int) < (s.size : Int) := by omega
      by_cases h1 : 48 ≤ s[kk].toNat
      · have h1' : 48 ≤ (s[kk].toNat : Int) := by omega
        by_cases h2 : s[kk].toNat ≤ 57
        · have h2' : (s[kk].toNat : Int) ≤ 57 := by omega
          have hok : Hid (isD s[kk] = true) := by show isD s[kk] = true; simp [isD]; omega
          go_wp2
          go_round
          case rel =>
            refine ⟨kk + 1, by omega, by go_num, (show Aside _ from fun j hj hjk => ?_)⟩
            by_cases ee : j = kk
            · subst ee; exact hok.out
            · exact HA.out j hj (by omega)
          case measure => simp [intOf]; omega
        · have h2' : ¬ (s[kk].toNat : Int) ≤ 57 := by omega
          have hp : Hid (runD s.data.toList = kk) := runD_eq s kk hkk HA.out (fun _ => by simp [isD]; omega)
          go_wp2
          go_ret
          exact ⟨by rw [hp.out]; rfl, rfl⟩
      · have h1' : ¬ 48 ≤ (s[kk].toNat : Int) := by omega
        have hp : Hid (runD s.data.toList = kk) := runD_eq s kk hkk HA.out (fun _ => by simp [isD]; omega)
        go_wp2
        go_ret
        exact ⟨by rw [hp.out]; rfl, rfl⟩
    · have hltz : ¬ (kk : Int) < (s.size : Int) := by omega
      have hp : Hid (runD s.data.toList = kk) := runD_eq s kk hkk HA.out (fun h => absurd h hlt)
      go_wp2
      go_ret
      exact ⟨by rw [hp.out]; rfl, rfl⟩
theorem runL_any (l : List UInt8) (w : World) (hl : l.length ≤ 1000) :
    Calls Tryd.prog 37 #[.string ⟨l.toArray⟩] w fun r w' => r = .returned (.int .i64 (runD l)) ∧ w = w' := by
  have := run_any ⟨l.toArray⟩ w (size_le l hl)
  simpa using this

/-- 'string([]byte{b})' -/
theorem conv_one (b : Int) (w : World) : (convert 55 9 (.slice (some ⟨w.heap.size, 0, none⟩) 1 1)).run Tryd.prog (w.alloc (.cells #[.int .u8 b] 5)) = .ok (.string ⟨#[UInt8.ofNat b.toNat]⟩) (w.alloc (.cells #[.int .u8 b] 5)) := by
  rw [run_convert_bytes_string _ 55 9 5 _ _ _ Tryd.underlying55 Tryd.underlying5 Tryd.underlying9]
  rw [run_bytesToString _ _ _ _ [b] (by simp [loadCells, go_sem])]
  rfl
theorem dec_ten (n : Nat) (h : ¬ n < 10) : Lib.decDigits n = Lib.decDigits (n / 10) ++ Lib.decDigits (n % 10) := by
  rw [Lib.decDigits_one (i := n % 10) (Nat.mod_lt _ (by decide))]
  conv => lhs; rw [Lib.decDigits]
  rw [dif_neg h]
set_option maxHeartbeats 400000 in
theorem digit1 (n : Nat) (w : World) (h : n < 10) :
    Calls Tryd.prog 35 #[.int .i64 n] w fun e w' => e = .returned (.string ⟨(Lib.decDigits n).toArray⟩) ∧ Below w.heap.size w w' := by
  have hz : (n : Int) < 10 := by omega
  have hc := fun w => conv_one (48 + (n : Int)) w
  go_enter Tryd.func35, Tryd.ntmps35
  go_wp2_with fail
  go_ret
  refine ⟨?_, (Below.refl _ _).alloc (Nat.le_refl _) _⟩
  rw [Lib.decDigits_one h]
  rw [show (48 + n : Nat) = (48 + (n : Int)).toNat from by omega]
  rfl
set_option maxHeartbeats 400000 in
theorem refDigits_any (k : Nat) : ∀ (n : Nat) (w : World), n ≤ k → n ≤ 9223372036854775807 →
    Calls Tryd.prog 35 #[.int .i64 n] w fun e w' => e = .returned (.string ⟨(Lib.decDigits n).toArray⟩) ∧ Below w.heap.size w w' := by
  induction k with
  | zero => intro n w hk hN; exact digit1 n w (by omega)
  | succ k ih =>
    intro n w hk hN
    by_cases h : n < 10
    · exact digit1 n w h
    · have hz : ¬ (n : Int) < 10 := by omega
      have IH := Lib.hid ih
      have hl1 := dec_len (n / 10) (by omega)
      have hl2 := dec_len (n % 10) (by omega)
      have HD := Lib.hid (dec_ten n h)
      clear ih
      go_enter Tryd.func35, Tryd.ntmps35
      go_wp2_with fail
      rw [show ((n : Int) / 10) = ((n / 10 : Nat) : Int) from by simp]
      refine (IH.out (n / 10) _ (by omega) (by omega)).mono ?_
      rintro e w1 ⟨rfl, hb1⟩
      go_wp2_with fail
      rw [show ((n : Int) % 10) = ((n % 10 : Nat) : Int) from by simp]
      refine (digit1 (n % 10) _ (Nat.mod_lt _ (by decide))).mono ?_
      rintro e w2 ⟨rfl, hb2⟩
      have hB : Below w.heap.size w w2 := hb1.trans (hb2.mono hb1.size)
      clear hb1 hb2
      generalize Lib.decDigits (n / 10) = d1 at *
      generalize Lib.decDigits (n % 10) = d2 at *
      go_wp2
      go_ret
      refine ⟨?_, hB⟩
      rw [HD.out, ← cat]
      rfl
end Go.Proofs.YtbaljopgkelcfaaDoor
