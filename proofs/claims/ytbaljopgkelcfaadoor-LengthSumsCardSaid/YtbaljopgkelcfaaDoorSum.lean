/- Contracts of Sum, Add and their references. -/
import Derived.Test.YtbaljopgkelcfaaDoorText
namespace Go.Proofs.YtbaljopgkelcfaaDoor
open Go.RowKit

/-- a slice value that begins at A holds the numbers l, below block B -/
def IR (w : World) (B : Nat) (A : Option Addr) (l : List Int) : Prop :=
  l ≠ [] → ∃ b off, A = some ⟨b, off, none⟩ ∧ b < B ∧ ∀ i z, l[i]? = some z → w.cell? ⟨b, off + i, none⟩ = some (.int .i64 z)
section
variable {w w' : World} {B B' : Nat} {A : Option Addr} {l : List Int}
theorem IR.nil : IR w B A [] := fun h => absurd rfl h
theorem IR.at_ (h : IR w B A l) {i : Nat} (hi : i < l.length) : ∃ b off, A = some ⟨b, off, none⟩ ∧ b < B ∧ w.cell? ⟨b, off + i, none⟩ = some (.int .i64 l[i]) := by
  obtain ⟨b, off, ha, hb, hc⟩ := h (by intro h; simp [h] at hi)
  exact ⟨b, off, ha, hb, hc i _ (List.getElem?_eq_getElem hi)⟩
theorem IR.below (h : IR w B A l) (hb : Below B w w') : IR w' B A l := fun hl => by
  obtain ⟨b, off, ha, hlt, hc⟩ := h hl
  exact ⟨b, off, ha, hlt, fun i e he => (hb.cell (p := ⟨b, off + i, none⟩) hlt).trans (hc i e he)⟩
theorem IR.more (h : IR w B A l) (hB : B ≤ B') : IR w B' A l := fun hl => by
  obtain ⟨b, off, ha, hlt, hc⟩ := h hl
  exact ⟨b, off, ha, by omega, hc⟩
end

def sums (acc : Int) : List Int → Option Int
  | [] => some acc
  | x :: l => if validL (acc + x) then sums (acc + x) l else none
def sumL (l : List Int) : Int × Int := if l.all validL then (match sums 0 l with | some s => (s, 0) | none => (0, 2)) else (0, 1)

theorem sum_arg (l : List Int) (i : Nat) (hi : i < l.length) (h : validL l[i] = false) : sumL l = (0, 1) := by
  unfold sumL
  rw [if_neg]
  intro h'
  rw [List.all_eq_true] at h'
  rw [h' _ (List.getElem_mem hi)] at h
  cases h
theorem sum_ok (l : List Int) (h : ∀ (i : Nat) z, i < l.length → l[i]? = some z → validL z = true) : l.all validL = true := by
  rw [List.all_eq_true]
  intro x hx
  obtain ⟨j, hj, rfl⟩ := List.mem_iff_getElem.1 hx
  exact h j _ hj (List.getElem?_eq_getElem hj)
theorem sum_range (l : List Int) (ha : l.all validL = true) (h : sums 0 l = none) : sumL l = (0, 2) := by
  unfold sumL; rw [if_pos ha, h]
theorem sum_end (l : List Int) (s : Int) (ha : l.all validL = true) (h : sums 0 l = some s) : sumL l = (s, 0) := by
  unfold sumL; rw [if_pos ha, h]
theorem sums_no (acc : Int) (l : List Int) (k : Nat) (hk : k < l.length) (h : validL (acc + l[k]) = false) : sums acc (l.drop k) = none := by
  rw [List.drop_eq_getElem_cons hk, sums, h]; rfl
theorem sums_yes (acc : Int) (l : List Int) (k : Nat) (hk : k < l.length) (h : validL (acc + l[k]) = true) : sums acc (l.drop k) = sums (acc + l[k]) (l.drop (k + 1)) := by
  conv => lhs; rw [List.drop_eq_getElem_cons hk, sums, h]
  rfl
theorem sums_done (acc : Int) (l : List Int) : sums acc (l.drop l.length) = some acc := by simp [sums]
theorem ret_pair {a b c d : Int} (h : (a, b) = (c, d)) : Ending.returned (.tuple #[.int .i64 a, .int .i64 b]) = .returned (.tuple #[.int .i64 c, .int .i64 d]) := by cases h; rfl
theorem ret_sum {p : Int × Int} {a b : Int} (h : p = (a, b)) : Ending.returned (.tuple #[.int .i64 a, .int .i64 b]) = .returned (.tuple #[.int .i64 p.1, .int .i64 p.2]) := by subst h; rfl

set_option maxHeartbeats 1000000 in
theorem sum_any (A : Option Addr) (l : List Int) (c : Nat) (w : World) (hl : IR w w.heap.size A l) (hn : l.length ≤ 1000) :
    Calls Tryd.prog 19 #[.slice A l.length c] w fun e w' => e = .returned (.tuple #[.int .i64 (sumL l).1, .int .i64 (sumL l).2]) ∧ Below w.heap.size w w' := by
  have hlH := Lib.hid hl
  clear hl
  go_enter Tryd.func19, Tryd.ntmps19
  go_wp2
  go_loopg [5, 11] l.length (fun gg _ s11 wr => ∃ kk : Nat, kk ≤ l.length ∧ l.length - kk ≤ gg ∧ s11 = .int .i64 kk ∧ Aside (Below w.heap.size w wr) ∧ Aside (∀ (j : Nat) z, j < kk → l[j]? = some z → validL z = true))
  case atStart => exact ⟨0, Nat.zero_le _, by omega, rfl, Below.refl _ w, fun j e hj => absurd hj (Nat.not_lt_zero _)⟩
  case round =>
    obtain ⟨kk, hkk, hg, rfl, BW, HA⟩ := hrel
    by_cases hlt : kk < l.length
    · have hltz : (kk : Int) < (l.length : Int) := by omega
      obtain ⟨b, off, rfl, hb, he⟩ := (hlH.out.below BW.out).at_ hlt
      cases hq : validL l[kk] with
      | false =>
        have Hq := Lib.hid hq
        clear hq
        go_wp2_with fail
        refine (valid_any _ _).mono ?_
        rw [Hq.out]
        rintro e w' ⟨rfl, rfl⟩
        go_wp2
        go_ret2
        exact ⟨ret_sum (sum_arg l kk hlt Hq.out), BW.out⟩
      | true =>
        have Hq := Lib.hid hq
        clear hq
        go_wp2_with fail
        refine (valid_any _ _).mono ?_
        rw [Hq.out]
        rintro e w' ⟨rfl, rfl⟩
        go_wp2
        go_roundg (l.length - (kk + 1))
        case measure => omega
        case rel =>
          refine ⟨kk + 1, by omega, by omega, by go_num, BW.out, (show Aside _ from fun j z hj hz => ?_)⟩
          by_cases ee : j = kk
          · subst ee
            rw [List.getElem?_eq_getElem hlt] at hz
            cases hz
            exact Hq.out
          · exact HA.out j z (by omega) hz
    · have hltz : ¬ (kk : Int) < (l.length : Int) := by omega
      obtain rfl : kk = l.length := by omega
      have HALL := Lib.hid (sum_ok l HA.out)
      go_wp2
      go_loopg [6, 8, 21] l.length (fun gg s6 _ s21 wr => ∃ (kk : Nat) (acc : Int), kk ≤ l.length ∧ l.length - kk ≤ gg ∧ s21 = .int .i64 kk ∧ s6 = .int .i64 acc ∧ Aside (Below w.heap.size w wr) ∧ Aside (validL acc = true ∧ sums 0 l = sums acc (l.drop kk)))
      case atStart => exact ⟨0, 0, Nat.zero_le _, by omega, rfl, rfl, BW.out, (show Aside _ from ⟨by decide, by simp⟩)⟩
      case round =>
        obtain ⟨kk, acc, hkk, hg, rfl, rfl, BW, HA⟩ := hrel
        obtain ⟨a1, a2⟩ := (validL_iff acc).1 HA.out.1
        by_cases hlt : kk < l.length
        · have hltz : (kk : Int) < (l.length : Int) := by omega
          obtain ⟨b, off, rfl, hb, he⟩ := (hlH.out.below BW.out).at_ hlt
          obtain ⟨b1, b2⟩ := (validL_iff l[kk]).1 (List.all_eq_true.1 HALL.out _ (List.getElem_mem hlt))
          cases hq : validL (acc + l[kk]) with
          | false =>
            have Hq := Lib.hid hq
            clear hq
            go_wp2_with fail
            refine (valid_any _ _).mono ?_
            rw [Hq.out]
            rintro e w' ⟨rfl, rfl⟩
            go_wp2
            go_ret2
            exact ⟨ret_sum (sum_range l HALL.out (HA.out.2.trans (sums_no _ _ _ hlt Hq.out))), BW.out⟩
          | true =>
            have Hq := Lib.hid hq
            clear hq
            go_wp2_with fail
            refine (valid_any _ _).mono ?_
            rw [Hq.out]
            rintro e w' ⟨rfl, rfl⟩
            go_wp2
            go_roundg (l.length - (kk + 1))
            case measure => omega
            case rel =>
              exact ⟨kk + 1, acc + l[kk], by omega, by omega, by go_num, by go_num, BW.out, (show Aside _ from ⟨Hq.out, HA.out.2.trans (sums_yes _ _ _ hlt Hq.out)⟩)⟩
        · have hltz : ¬ (kk : Int) < (l.length : Int) := by omega
          obtain rfl : kk = l.length := by omega
          go_wp2
          go_ret2
          exact ⟨ret_sum (sum_end l acc HALL.out (HA.out.2.trans (sums_done _ _))), BW.out⟩
end Go.Proofs.YtbaljopgkelcfaaDoor
