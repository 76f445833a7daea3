/- Contracts of Sum's reference, of Add and its reference. -/
import Derived.Test.YtbaljopgkelcfaaDoorSum
namespace Go.Proofs.YtbaljopgkelcfaaDoor
open Go.RowKit

set_option maxHeartbeats 1000000 in
theorem refSum_any (A : Option Addr) (l : List Int) (c : Nat) (w : World) (hl : IR w w.heap.size A l) (hn : l.length ≤ 1000) :
    Calls Tryd.prog 20 #[.slice A l.length c] w fun e w' => e = .returned (.tuple #[.int .i64 (sumL l).1, .int .i64 (sumL l).2]) ∧ Below w.heap.size w w' := by
  have hlH := Lib.hid hl
  clear hl
  go_enter Tryd.func20, Tryd.ntmps20
  go_wp2
  go_loopg [4] l.length (fun gg s11 wr => ∃ kk : Nat, kk ≤ l.length ∧ l.length - kk ≤ gg ∧ s11 = .int .i64 kk ∧ Aside (Below w.heap.size w wr) ∧ Aside (∀ (j : Nat) z, j < kk → l[j]? = some z → validL z = true))
  case atStart => exact ⟨0, Nat.zero_le _, by omega, rfl, Below.refl _ w, fun j e hj => absurd hj (Nat.not_lt_zero _)⟩
  case round =>
    obtain ⟨kk, hkk, hg, rfl, BW, HA⟩ := hrel
    by_cases hlt : kk < l.length
    · have hltz : (kk : Int) < (l.length : Int) := by omega
      obtain ⟨b, off, rfl, hb, he⟩ := (hlH.out.below BW.out).at_ hlt
      cases hq : validL l[kk] with
      | false =>
        have Hq := Lib.hid hq
        clear hq
        go_wp2_with fail
        refine (refValid_any _ _).mono ?_
        rw [Hq.out]
        rintro e w' ⟨rfl, rfl⟩
        go_wp2
        go_ret2
        exact ⟨ret_sum (sum_arg l kk hlt Hq.out), BW.out⟩
      | true =>
        have Hq := Lib.hid hq
        clear hq
        go_wp2_with fail
        refine (refValid_any _ _).mono ?_
        rw [Hq.out]
        rintro e w' ⟨rfl, rfl⟩
        go_wp2
        go_roundg (l.length - (kk + 1))
        case measure => omega
        case rel =>
          refine ⟨kk + 1, by omega, by omega, by go_num, BW.out, (show Aside _ from fun j z hj hz => ?_)⟩
          by_cases ee : j = kk
          · subst ee
            rw [List.getElem?_eq_getElem hlt] at hz
            cases hz
            exact Hq.out
          · exact HA.out j z (by omega) hz
    · have hltz : ¬ (kk : Int) < (l.length : Int) := by omega
      obtain rfl : kk = l.length := by omega
      have HALL := Lib.hid (sum_ok l HA.out)
      go_wp2
      go_loopg [5, 6] l.length (fun gg s6 s21 wr => ∃ (kk : Nat) (acc : Int), kk ≤ l.length ∧ l.length - kk ≤ gg ∧ s21 = .int .i64 kk ∧ s6 = .int .i64 acc ∧ Aside (Below w.heap.size w wr) ∧ Aside (validL acc = true ∧ sums 0 l = sums acc (l.drop kk)))
      case atStart => exact ⟨0, 0, Nat.zero_le _, by omega, rfl, rfl, BW.out, (show Aside _ from ⟨by decide, by simp⟩)⟩
      case round =>
        obtain ⟨kk, acc, hkk, hg, rfl, rfl, BW, HA⟩ := hrel
        obtain ⟨a1, a2⟩ := (validL_iff acc).1 HA.out.1
        by_cases hlt : kk < l.length
        · have hltz : (kk : Int) < (l.length : Int) := by omega
          obtain ⟨b, off, rfl, hb, he⟩ := (hlH.out.below BW.out).at_ hlt
          obtain ⟨b1, b2⟩ := (validL_iff l[kk]).1 (List.all_eq_true.1 HALL.out _ (List.getElem_mem hlt))
          cases hq : validL (acc + l[kk]) with
          | false =>
            have Hq := Lib.hid hq
            clear hq
            go_wp2_with fail
            refine (refValid_any _ _).mono ?_
            rw [Hq.out]
            rintro e w' ⟨rfl, rfl⟩
            go_wp2
            go_ret2
            exact ⟨ret_sum (sum_range l HALL.out (HA.out.2.trans (sums_no _ _ _ hlt Hq.out))), BW.out⟩
          | true =>
            have Hq := Lib.hid hq
            clear hq
            go_wp2_with fail
            refine (refValid_any _ _).mono ?_
            rw [Hq.out]
            rintro e w' ⟨rfl, rfl⟩
            go_wp2
            go_roundg (l.length - (kk + 1))
            case measure => omega
            case rel =>
              exact ⟨kk + 1, acc + l[kk], by omega, by omega, by go_num, by go_num, BW.out, (show Aside _ from ⟨Hq.out, HA.out.2.trans (sums_yes _ _ _ hlt Hq.out)⟩)⟩
        · have hltz : ¬ (kk : Int) < (l.length : Int) := by omega
          obtain rfl : kk = l.length := by omega
          go_wp2
          go_ret2
          exact ⟨ret_sum (sum_end l acc HALL.out (HA.out.2.trans (sums_done _ _))), BW.out⟩

theorem sum2_arg (a b : Int) (h : validL a = false ∨ validL b = false) : sumL [a, b] = (0, 1) := by
  rcases h with h | h
  · exact sum_arg [a, b] 0 (by simp) h
  · exact sum_arg [a, b] 1 (by simp) h
theorem sum2_range (a b : Int) (ha : validL a = true) (hb : validL b = true) (h : validL (a + b) = false) : sumL [a, b] = (0, 2) :=
  sum_range _ (by simp [ha, hb]) (by simp [sums, ha, h])
theorem sum2_ok (a b : Int) (ha : validL a = true) (hb : validL b = true) (h : validL (a + b) = true) : sumL [a, b] = (a + b, 0) :=
  sum_end _ _ (by simp [ha, hb]) (by simp [sums, ha, h])

set_option maxHeartbeats 1000000 in
theorem add_any (a b : Int) (w : World) :
    Calls Tryd.prog 21 #[.int .i64 a, .int .i64 b] w fun e w' => e = .returned (.tuple #[.int .i64 (sumL [a, b]).1, .int .i64 (sumL [a, b]).2]) ∧ Below w.heap.size w w' := by
  go_enter Tryd.func21, Tryd.ntmps21
  go_wp2_with fail
  refine (valid_any a _).mono ?_
  cases ha : validL a with
  | false =>
    have HA := Lib.hid ha
    clear ha
    rintro e w' ⟨rfl, rfl⟩
    go_wp2
    go_ret2
    exact ⟨ret_sum (sum2_arg a b (.inl HA.out)), Below.refl _ _⟩
  | true =>
  have HA := Lib.hid ha
  obtain ⟨a1, a2⟩ := (validL_iff a).1 ha
  clear ha
  rintro e w' ⟨rfl, rfl⟩
  go_wp2_with fail
  refine (valid_any b _).mono ?_
  cases hb : validL b with
  | false =>
    have HB := Lib.hid hb
    clear hb
    rintro e w' ⟨rfl, rfl⟩
    go_wp2
    go_ret2
    exact ⟨ret_sum (sum2_arg a b (.inr HB.out)), Below.refl _ _⟩
  | true =>
  have HB := Lib.hid hb
  obtain ⟨b1, b2⟩ := (validL_iff b).1 hb
  clear hb
  rintro e w' ⟨rfl, rfl⟩
  go_wp2_with fail
  refine (valid_any _ _).mono ?_
  cases hc : validL (a + b) with
  | false =>
    have HC := Lib.hid hc
    clear hc
    rintro e w' ⟨rfl, rfl⟩
    go_wp2
    go_ret2
    exact ⟨ret_sum (sum2_range a b HA.out HB.out HC.out), Below.refl _ _⟩
  | true =>
    have HC := Lib.hid hc
    clear hc
    rintro e w' ⟨rfl, rfl⟩
    go_wp2
    go_ret2
    exact ⟨ret_sum (sum2_ok a b HA.out HB.out HC.out), Below.refl _ _⟩

theorem IR.two (w : World) (a b : Int) (t : TypeId) : IR (w.alloc (.cells #[.int .i64 a, .int .i64 b] t)) (w.alloc (.cells #[.int .i64 a, .int .i64 b] t)).heap.size (some ⟨w.heap.size, 0, none⟩) [a, b] := fun _ => by
  refine ⟨w.heap.size, 0, rfl, by simp, fun i z hz => ?_⟩
  match i, hz with
  | 0, hz => cases hz; simp
  | 1, hz => cases hz; simp
set_option maxHeartbeats 1000000 in
theorem refAdd_any (a b : Int) (w : World) :
    Calls Tryd.prog 22 #[.int .i64 a, .int .i64 b] w fun e w' => e = .returned (.tuple #[.int .i64 (sumL [a, b]).1, .int .i64 (sumL [a, b]).2]) ∧ Below w.heap.size w w' := by
  have hc := fun c => Lib.hid (refSum_any (some ⟨w.heap.size, 0, none⟩) [a, b] c _ (IR.two w a b 3) (by simp))
  go_enter Tryd.func22, Tryd.ntmps22
  go_wp2_with fail
  refine ((hc 2).out).mono ?_
  rintro e w' ⟨rfl, hb⟩
  have HB := Lib.hid (((Below.refl w.heap.size w).alloc (Nat.le_refl _) _).trans (hb.mono (by simp)))
  clear hb hc
  obtain ⟨p, hp⟩ : ∃ p, p = sumL [a, b] := ⟨_, rfl⟩
  have HP := Lib.hid hp
  rw [← hp]
  clear hp
  go_wp2
  go_ret2
  exact ⟨by rw [← HP.out]; rfl, HB.out⟩
end Go.Proofs.YtbaljopgkelcfaaDoor
