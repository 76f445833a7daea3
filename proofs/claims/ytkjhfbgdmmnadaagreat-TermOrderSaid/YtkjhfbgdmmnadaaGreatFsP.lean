/- Plain: the walk through the words, in the program and in the reference. -/
import Derived.Test.YtkjhfbgdmmnadaaGreatPlC
namespace Go.Proofs.YtkjhfbgdmmnadaaGreat

theorem wd_one : wd 1 = [97] := by decide
theorem fresh_stop {l : List W8} (hl : l.length ≤ 2755) {n : Nat} (h1 : 1 ≤ n) (h : n ≤ freshN l) (hg : good l (wd n) = true) : freshL l = wd n := by
  obtain ⟨_, _, _, h4⟩ := fresh_spec l hl
  rcases Nat.lt_or_eq_of_le h with hlt | rfl
  · rw [h4 n h1 hlt] at hg; cases hg
  · rfl
theorem fresh_go {l : List W8} (hl : l.length ≤ 2755) {n : Nat} (h : n ≤ freshN l) (hg : good l (wd n) = false) : n + 1 ≤ freshN l := by
  obtain ⟨h1, _, _, _⟩ := fresh_spec l hl
  rcases Nat.lt_or_eq_of_le h with hlt | rfl
  · exact hlt
  · have e : freshL l = wd (freshN l) := rfl
    rw [e, hg] at h1; cases h1
theorem fresh_max {l : List W8} (hl : l.length ≤ 2755) : 1 ≤ freshN l ∧ freshN l ≤ 2756 := ⟨(fresh_spec l hl).2.1, (fresh_spec l hl).2.2.1⟩
/-- m words from number a on -/
def wds (a m : Nat) : List W8 := (List.range m).map fun j => wd (a + j)
theorem wds_len (a m : Nat) : (wds a m).length = m := by unfold wds; simp
theorem wds_snoc (a m : Nat) : wds a (m + 1) = wds a m ++ [wd (a + m)] := by unfold wds; rw [List.range_succ, List.map_append]; rfl
theorem wds_at (a m i : Nat) (h : i < (wds a m).length) : (wds a m)[i] = wd (a + i) := by
  have : (wds a m)[i]? = some (wd (a + i)) := by
    have hm : i < m := by rwa [wds_len] at h
    unfold wds
    rw [List.getElem?_map, List.getElem?_range hm]; rfl
  rw [List.getElem?_eq_getElem h] at this
  exact Option.some.inj this
theorem wds_zero : wds 0 1 = [[]] := by decide
/-- the letters in their order -/
def lets : List UInt8 := [97, 98, 99, 100, 101, 102, 103, 104, 105, 106, 107, 108, 109, 110, 111, 112, 113, 114, 115, 116, 117, 118, 119, 120, 121, 122, 65, 66, 67, 68, 69, 70, 71, 72, 73, 74, 75, 76, 77, 78, 79, 80, 81, 82, 83, 84, 85, 86, 87, 88, 89, 90]
theorem lets_all : (List.range 52).all (fun k => match lets[k]? with | some c => isL c && decide (rk c = k) | none => false) = true := by decide +kernel
theorem lets_at (k : Nat) (h : k < 52) : ∃ c, lets[k]? = some c ∧ isL c = true ∧ rk c = k := by
  have := List.all_eq_true.1 lets_all k (List.mem_range.2 h)
  cases hc : lets[k]? with
  | none => rw [hc] at this; cases this
  | some c =>
    rw [hc] at this
    simp only [Bool.and_eq_true, decide_eq_true_eq] at this
    exact ⟨c, rfl, this.1, this.2⟩
theorem wd_next (a i k : Nat) (c : UInt8) (hc : isL c = true) (hk : rk c = k) : wd (a + i) ++ [c] = wd (52 * a + 1 + (52 * i + k)) := by
  rw [wd_snoc _ _ hc, hk]
  congr 1; omega
end Go.Proofs.YtkjhfbgdmmnadaaGreat
