/- Contracts of the reference's Letters, printable, In, Keywords, Accents, Symbol at a word, Identifier. -/
import Derived.Test.YtkjhfbgdmmnadaaGreatRLf
import Derived.Test.YtkjhfbgdmmnadaaGreatLeaf2
namespace Go.Proofs.YtkjhfbgdmmnadaaGreat
open Go.RowKit

theorem ltrN_isL (c : UInt8) : (isL c = true → 0 ≤ ltrN c.toNat) ∧ (isL c = false → ltrN c.toNat < 0) := by
  unfold isL ltrN
  by_cases h1 : 97 ≤ c.toNat ∧ c.toNat ≤ 122
  · rw [if_pos h1]; simp; omega
  · rw [if_neg h1]
    by_cases h2 : 65 ≤ c.toNat ∧ c.toNat ≤ 90
    · rw [if_pos h2]; simp; omega
    · rw [if_neg h2]; simp; omega
set_option maxHeartbeats 1000000 in
theorem letters50_any (s : ByteArray) (w : World) (hs : s.size ≤ 1000) :
    Calls Tryz.prog 44 #[.string s] w fun r w' => r = .returned (.bool (wordB s.data.toList)) ∧ w = w' := by
  go_enter Tryz.func44, Tryz.ntmps44
  go_wp2_with fail
  go_loop [3] (fun s3 => ∃ kk : Nat, kk ≤ s.size ∧ s3 = .int .i64 kk ∧ Aside (∀ (j : Nat) (hj : j < s.size), j < kk → isL s[j] = true)) (fun s3 => s.size - (intOf s3).toNat)
  case atStart => exact ⟨0, Nat.zero_le _, rfl, fun j _ hj => absurd hj (Nat.not_lt_zero _)⟩
  case round =>
    obtain ⟨kk, hkk, rfl, HA⟩ := hrel
    by_cases hlt : kk < s.size
    · have hltz : (kk : Int) < (s.size : Int) := by omega
      have HZ := Lib.hid (ltrN_isL s[kk])
      have HC := Lib.hid (letter70_nat s[kk].toNat)
      generalize ltrN s[kk].toNat = x at *
      cases hl : isL s[kk] with
      | false =>
        have HL := Lib.hid hl
        have HP : Hid (wordB s.data.toList = false) := by show wordB s.data.toList = false; unfold wordB; rw [all_no isL s kk hlt hl]; rfl
        have hx := HZ.out.2 hl
        clear hl
        go_wp2_with fail
        refine (HC.out _ s[kk].toNat_lt).mono ?_
        rintro e w' ⟨rfl, rfl⟩
        go_wp2_with fail
        go_ret
        rw [HP.out]
        exact ⟨rfl, rfl⟩
      | true =>
        have HL := Lib.hid hl
        have hx := HZ.out.1 hl
        have hxn : ¬ x < 0 := by omega
        clear hl
        go_wp2_with fail
        refine (HC.out _ s[kk].toNat_lt).mono ?_
        rintro e w' ⟨rfl, rfl⟩
        go_wp2_with fail
        go_round
        case rel =>
          refine ⟨kk + 1, by omega, by go_num, (show Aside _ from fun j hj hjk => ?_)⟩
          by_cases ee : j = kk
          · subst ee; exact HL.out
          · exact HA.out j hj (by omega)
        case measure => simp [intOf]; omega
    · have hltz : ¬ (kk : Int) < (s.size : Int) := by omega
      obtain rfl : kk = s.size := by omega
      have HP : Hid (wordB s.data.toList = (decide (1 ≤ s.size) && decide (s.size ≤ 16))) := by
        show wordB s.data.toList = _
        unfold wordB
        rw [all_yes isL s (fun j hj => HA.out j hj hj), len_list, Bool.true_and]
      clear hlt HA
      by_cases h1 : 1 ≤ s.size
      · have h1z : (1 : Int) ≤ (s.size : Int) := by omega
        by_cases h2 : s.size ≤ 16
        · have h2z : (s.size : Int) ≤ 16 := by omega
          have HX : Hid (wordB s.data.toList = true) := by show wordB s.data.toList = true; rw [HP.out, decide_eq_true h1, decide_eq_true h2]; rfl
          clear HP
          go_wp2_with fail
          go_ret
          rw [HX.out]
          exact ⟨rfl, rfl⟩
        · have h2z : ¬ (s.size : Int) ≤ 16 := by omega
          have HX : Hid (wordB s.data.toList = false) := by show wordB s.data.toList = false; rw [HP.out, decide_eq_false h2, Bool.and_false]
          clear HP
          go_wp2_with fail
          go_ret
          rw [HX.out]
          exact ⟨rfl, rfl⟩
      · have h1z : ¬ (1 : Int) ≤ (s.size : Int) := by omega
        have HX : Hid (wordB s.data.toList = false) := by show wordB s.data.toList = false; rw [HP.out, decide_eq_false h1]; rfl
        clear HP
        go_wp2_with fail
        go_ret
        rw [HX.out]
        exact ⟨rfl, rfl⟩

set_option maxHeartbeats 1000000 in
theorem printable_any (s : ByteArray) (lo most : Nat) (w : World) (hs : s.size ≤ 1000) :
    Calls Tryz.prog 43 #[.string s, .int .u8 lo, .int .i64 most] w fun r w' => r = .returned (.bool (okS lo s.data.toList && decide (s.size ≤ most))) ∧ w = w' := by
  go_enter Tryz.func43, Tryz.ntmps43
  go_wp2_with fail
  go_loop [7] (fun s3 => ∃ kk : Nat, kk ≤ s.size ∧ s3 = .int .i64 kk ∧ Aside (∀ (j : Nat) (hj : j < s.size), j < kk → lo ≤ s[j].toNat ∧ s[j].toNat ≤ 126)) (fun s3 => s.size - (intOf s3).toNat)
  case atStart => exact ⟨0, Nat.zero_le _, rfl, fun j _ hj => absurd hj (Nat.not_lt_zero _)⟩
  case round =>
    obtain ⟨kk, hkk, rfl, HA⟩ := hrel
    by_cases hlt : kk < s.size
    · have hltz : (kk : Int) < (s.size : Int) := by omega
      by_cases h1 : s[kk].toNat < lo
      · have h1' : (s[kk].toNat : Int) < (lo : Int) := by omega
        have HP : Hid (okS lo s.data.toList = false) := all_no _ s kk hlt (by simp; omega)
        go_wp2_with fail
        go_ret
        rw [HP.out]
        exact ⟨rfl, rfl⟩
      · have h1' : ¬ (s[kk].toNat : Int) < (lo : Int) := by omega
        by_cases h2 : 126 < s[kk].toNat
        · have h2' : (126 : Int) < (s[kk].toNat : Int) := by omega
          have HP : Hid (okS lo s.data.toList = false) := all_no _ s kk hlt (by simp; omega)
          go_wp2_with fail
          go_ret
          rw [HP.out]
          exact ⟨rfl, rfl⟩
        · have h2' : ¬ (126 : Int) < (s[kk].toNat : Int) := by omega
          have hok : Hid (lo ≤ s[kk].toNat ∧ s[kk].toNat ≤ 126) := ⟨by omega, by omega⟩
          go_wp2_with fail
          go_round
          case rel =>
            refine ⟨kk + 1, by omega, by go_num, (show Aside _ from fun j hj hjk => ?_)⟩
            by_cases ee : j = kk
            · subst ee; exact hok.out
            · exact HA.out j hj (by omega)
          case measure => simp [intOf]; omega
    · have hltz : ¬ (kk : Int) < (s.size : Int) := by omega
      obtain rfl : kk = s.size := by omega
      have HP : Hid (okS lo s.data.toList = true) := all_yes _ s (fun j hj => by have := HA.out j hj hj; simp; exact this)
      clear hlt HA
      have hdec : decide (s.size ≤ most) = decide ((s.size : Int) ≤ (most : Int)) := by rw [decide_eq_decide]; omega
      have HDEC := Lib.hid hdec
      clear hdec
      go_wp2_with fail
      go_ret
      rw [HP.out, HDEC.out]
      exact ⟨by rw [Bool.true_and]; rfl, rfl⟩

/-- a list has a string -/
def hasB (l : List (List UInt8)) (s : List UInt8) : Bool := l.contains s
/-- a search of a list of strings, by a loop -/
theorem contains_no (l : List (List UInt8)) (s : List UInt8) (h : ∀ j (hj : j < l.length), l[j] ≠ s) : hasB l s = false := by
  show l.contains s = false
  cases hc : l.contains s with
  | false => rfl
  | true =>
    have hm : s ∈ l := by simpa using hc
    obtain ⟨j, hj, e⟩ := List.mem_iff_getElem.1 hm
    exact absurd e (h j hj)
theorem contains_yes (l : List (List UInt8)) (s : List UInt8) (j : Nat) (hj : j < l.length) (h : l[j] = s) : hasB l s = true := by
  have : s ∈ l := h ▸ List.getElem_mem hj
  show l.contains s = true
  simpa using this
set_option maxHeartbeats 1000000 in
theorem in73_any (B : Nat) (v : Value) (l : List (List UInt8)) (s : List UInt8) (w : World) (hv : SL w B v l) :
    Calls Tryz.prog 63 #[v, .string ⟨s.toArray⟩] w fun r w' => r = .returned (.bool (hasB l s)) ∧ w = w' := by
  obtain ⟨A, c, rfl, ⟨hc1, hc2⟩, hcell⟩ := hv
  have HCELL := Lib.hid hcell
  clear hcell
  have hyl : l.length ≤ 9223372036854775807 := by omega
  go_enter Tryz.func63, Tryz.ntmps63
  go_wp2_with fail
  go_loop [5] (fun s3 => ∃ kk : Nat, kk ≤ l.length ∧ s3 = .int .i64 kk ∧ Aside (∀ (j : Nat) (hj : j < l.length), j < kk → l[j] ≠ s)) (fun s3 => l.length - (intOf s3).toNat)
  case atStart => exact ⟨0, Nat.zero_le _, rfl, fun j _ hj => absurd hj (Nat.not_lt_zero _)⟩
  case round =>
    obtain ⟨kk, hkk, rfl, HA⟩ := hrel
    by_cases hlt : kk < l.length
    · have hltz : (kk : Int) < (l.length : Int) := by omega
      obtain ⟨b, o, rfl, hb, hx⟩ := HCELL.out (by intro e; rw [e] at hlt; simp at hlt)
      have hck := hx kk hlt
      clear hx
      by_cases he : l[kk] = s
      · have HP : Hid (hasB l s = true) := contains_yes l s kk hlt he
        rw [he] at hck
        clear he
        go_wp2_with fail
        go_ret
        rw [HP.out]
        exact ⟨rfl, rfl⟩
      · have hb1 : (l[kk] == s) = false := by simpa using he
        have HE := Lib.hid he
        clear he
        go_wp2_with fail
        go_round
        case rel =>
          refine ⟨kk + 1, by omega, by go_num, (show Aside _ from fun j hj hjk => ?_)⟩
          by_cases ee : j = kk
          · subst ee; exact HE.out
          · exact HA.out j hj (by omega)
        case measure => simp [intOf]; omega
    · have hltz : ¬ (kk : Int) < (l.length : Int) := by omega
      have HP : Hid (hasB l s = false) := contains_no l s (fun j hj => HA.out j hj (by omega))
      go_wp2_with fail
      go_ret
      rw [HP.out]
      exact ⟨rfl, rfl⟩

set_option maxHeartbeats 1000000 in
theorem kw74_any (w : World) : Calls Tryz.prog 64 #[] w fun e w' => ∃ v, e = .returned v ∧ SL w' (w.heap.size + 1) v kwds ∧ Below w.heap.size w w' := by
  go_enter Tryz.func64, Tryz.ntmps64
  go_wp2_with fail
  go_ret
  refine ⟨_, rfl, ⟨some ⟨w.heap.size, 0, none⟩, 4, rfl, ⟨by decide, by decide⟩, fun _ => ⟨w.heap.size, 0, rfl, by omega, fun j hj => ?_⟩⟩, (Below.refl _ _).alloc (Nat.le_refl _) _⟩
  have hj4 : j < 4 := hj
  rcases j with _ | _ | _ | _ | j <;> first | (simp [kwds]; done) | omega
set_option maxHeartbeats 1000000 in
theorem ac75_any (w : World) : Calls Tryz.prog 65 #[] w fun e w' => ∃ v, e = .returned v ∧ SL w' (w.heap.size + 1) v accs ∧ Below w.heap.size w w' := by
  go_enter Tryz.func65, Tryz.ntmps65
  go_wp2_with fail
  go_ret
  refine ⟨_, rfl, ⟨some ⟨w.heap.size, 0, none⟩, 6, rfl, ⟨by decide, by decide⟩, fun _ => ⟨w.heap.size, 0, rfl, by omega, fun j hj => ?_⟩⟩, (Below.refl _ _).alloc (Nat.le_refl _) _⟩
  have hj4 : j < 6 := hj
  rcases j with _ | _ | _ | _ | _ | _ | j <;> first | (simp [accs]; done) | omega
end Go.Proofs.YtkjhfbgdmmnadaaGreat
