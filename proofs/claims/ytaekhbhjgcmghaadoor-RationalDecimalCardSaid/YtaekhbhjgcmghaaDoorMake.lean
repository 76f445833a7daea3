/- Contracts of reduce, Make and of their references, and of is. -/
import Derived.Test.YtaekhbhjgcmghaaDoorGcd
namespace Go.Proofs.YtaekhbhjgcmghaaDoor
open Go.RowKit

theorem res2 {w w1 : World} {v0 v1 : Value} {t : TypeId} (hb : Below (w.alloc (.cells #[v0, v1] t)).heap.size (w.alloc (.cells #[v0, v1] t)) w1) :
    (w1.cell? ⟨w.heap.size, 0, none⟩ = some v0 ∧ w1.cell? ⟨w.heap.size, 1, none⟩ = some v1) ∧ (∀ i, w1.frozen? ⟨w.heap.size, i, none⟩ = false) ∧ w.heap.size < w1.heap.size ∧ Below w.heap.size w w1 := by
  have hlt : w.heap.size < (w.alloc (.cells #[v0, v1] t)).heap.size := by simp
  refine ⟨⟨?_, ?_⟩, fun i => ?_, ?_, ?_⟩
  · rw [hb.cell (p := ⟨w.heap.size, 0, none⟩) hlt]; simp
  · rw [hb.cell (p := ⟨w.heap.size, 1, none⟩) hlt]; simp
  · rw [hb.frozen (p := ⟨w.heap.size, i, none⟩) hlt]; simp
  · exact Nat.lt_of_lt_of_le hlt hb.size
  · exact ((Below.refl _ _).alloc (Nat.le_refl _) _).trans (hb.mono (by simp))

/-- the value of a number and an error -/
def Res.val (r : Res) : Value := .tuple #[.agg #[.int .i64 r.num, .int .i64 r.den], .int .i64 r.err]

set_option maxHeartbeats 1000000 in
theorem reduce_any (neg : Bool) (a b : Nat) (w : World) (ha : a ≤ 9223372036854775808) (hb : b ≤ 9223372036854775808) (hb0 : 0 < b) :
    Calls Tryd.prog 41 #[.bool neg, .int .u64 a, .int .u64 b] w fun e w' => e = .returned (red neg a b).val ∧ Below w.heap.size w w' := by
  obtain ⟨g, hg⟩ : ∃ g, g = Nat.gcd a b := ⟨_, rfl⟩
  have HG := Lib.hid hg
  have hgp : 1 ≤ g := by rw [hg]; exact Nat.gcd_pos_of_pos_right _ hb0
  have hgz : (1 : Int) ≤ (g : Int) := by omega
  have hgz' : ((g : Int) == 0) = false := by simp; omega
  have hgz'' : ¬ (g : Int) = 0 := by omega
  clear hg
  go_enter Tryd.func41, Tryd.ntmps41
  go_wp2_with fail
  refine (gcd_any a b _ ha hb).mono ?_
  rw [← HG.out]
  rintro e w1 ⟨rfl, hb1⟩
  obtain ⟨⟨q0, q1⟩, qf, qs, hB1⟩ := res2 hb1
  have HB1 := Lib.hid hB1
  clear hb1 hB1
  go_wp2
  go_quiet (fail)
  have hA : a / g ≤ a := Nat.div_le_self _ _
  have hBd : b / g ≤ b := Nat.div_le_self _ _
  rw [show ((a : Int) / (g : Int)) = ((a / g : Nat) : Int) from by simp, show ((b : Int) / (g : Int)) = ((b / g : Nat) : Int) from by simp]
  have hr : Hid (red neg a b = if a / g ≤ 2147483647 ∧ b / g ≤ 2147483647 then ⟨if neg then -((a / g : Nat) : Int) else ((a / g : Nat) : Int), ((b / g : Nat) : Int), 0⟩ else ⟨0, 0, 2⟩) := by show red neg a b = _; unfold red; rw [← HG.out]
  generalize a / g = x at *
  generalize b / g = y at *
  by_cases h1 : 2147483647 < x
  · have h1' : (2147483647 : Int) < (x : Int) := by omega
    have HR := Lib.hid (hr.out.trans (if_neg (by omega)))
    clear hr
    go_wp2
    refine bodyPost_ret (v := .tuple #[.agg #[.int .i64 0, .int .i64 0], .int .i64 2]) (by simp [results, Tryd.results41, go_sem, q0, q1]) rfl ⟨?_, ?_⟩
    · rw [HR.out]; rfl
    · exact ((belowN HB1.out _).setCell (Nat.le_refl _) _).setCell (Nat.le_refl _) _
  · have h1' : ¬ (2147483647 : Int) < (x : Int) := by omega
    by_cases h2 : 2147483647 < y
    · have h2' : (2147483647 : Int) < (y : Int) := by omega
      have HR := Lib.hid (hr.out.trans (if_neg (by omega)))
      clear hr
      go_wp2
      refine bodyPost_ret (v := .tuple #[.agg #[.int .i64 0, .int .i64 0], .int .i64 2]) (by simp [results, Tryd.results41, go_sem, q0, q1]) rfl ⟨?_, ?_⟩
      · rw [HR.out]; rfl
      · exact ((belowN HB1.out _).setCell (Nat.le_refl _) _).setCell (Nat.le_refl _) _
    · have h2' : ¬ (2147483647 : Int) < (y : Int) := by omega
      have HR := Lib.hid (hr.out.trans (if_pos ⟨by omega, by omega⟩))
      clear hr
      cases neg with
      | true =>
        go_wp2
        refine bodyPost_ret (v := .tuple #[.agg #[.int .i64 (-(x : Int)), .int .i64 (y : Int)], .int .i64 0]) (by simp [results, Tryd.results41, go_sem, q0, q1]) rfl ⟨?_, ?_⟩
        · rw [HR.out]; rfl
        · exact ((belowN HB1.out _).setCell (Nat.le_refl _) _).setCell (Nat.le_refl _) _
      | false =>
        go_wp2
        refine bodyPost_ret (v := .tuple #[.agg #[.int .i64 (x : Int), .int .i64 (y : Int)], .int .i64 0]) (by simp [results, Tryd.results41, go_sem, q0, q1]) rfl ⟨?_, ?_⟩
        · rw [HR.out]; rfl
        · exact ((belowN HB1.out _).setCell (Nat.le_refl _) _).setCell (Nat.le_refl _) _

set_option maxHeartbeats 1000000 in
theorem quotient_any (neg : Bool) (a b : Nat) (w : World) (ha : a ≤ 9223372036854775808) (hb : b ≤ 9223372036854775808) (hb0 : 0 < b) :
    Calls Tryd.prog 43 #[.bool neg, .int .u64 a, .int .u64 b] w fun e w' => e = .returned (red neg a b).val ∧ Below w.heap.size w w' := by
  obtain ⟨g, hg⟩ : ∃ g, g = Nat.gcd a b := ⟨_, rfl⟩
  have HG := Lib.hid hg
  have hgp : 1 ≤ g := by rw [hg]; exact Nat.gcd_pos_of_pos_right _ hb0
  have hgz : (1 : Int) ≤ (g : Int) := by omega
  have hgz' : ((g : Int) == 0) = false := by simp; omega
  have hgz'' : ¬ (g : Int) = 0 := by omega
  clear hg
  go_enter Tryd.func43, Tryd.ntmps43
  go_wp2_with fail
  refine (common_any a b _ ha hb).mono ?_
  rw [← HG.out]
  rintro e w1 ⟨rfl, hb1⟩
  obtain ⟨⟨q0, q1⟩, qf, qs, hB1⟩ := res2 hb1
  have HB1 := Lib.hid hB1
  clear hb1 hB1
  go_wp2
  go_quiet (fail)
  have hA : a / g ≤ a := Nat.div_le_self _ _
  have hBd : b / g ≤ b := Nat.div_le_self _ _
  rw [show ((a : Int) / (g : Int)) = ((a / g : Nat) : Int) from by simp, show ((b : Int) / (g : Int)) = ((b / g : Nat) : Int) from by simp]
  have hr : Hid (red neg a b = if a / g ≤ 2147483647 ∧ b / g ≤ 2147483647 then ⟨if neg then -((a / g : Nat) : Int) else ((a / g : Nat) : Int), ((b / g : Nat) : Int), 0⟩ else ⟨0, 0, 2⟩) := by show red neg a b = _; unfold red; rw [← HG.out]
  generalize a / g = x at *
  generalize b / g = y at *
  by_cases h1 : 2147483647 < x
  · have h1' : (2147483647 : Int) < (x : Int) := by omega
    have HR := Lib.hid (hr.out.trans (if_neg (by omega)))
    clear hr
    go_wp2
    refine bodyPost_ret (v := .tuple #[.agg #[.int .i64 0, .int .i64 0], .int .i64 2]) (by simp [results, Tryd.results43, go_sem, q0, q1]) rfl ⟨?_, ?_⟩
    · rw [HR.out]; rfl
    · exact ((belowN HB1.out _).setCell (Nat.le_refl _) _).setCell (Nat.le_refl _) _
  · have h1' : ¬ (2147483647 : Int) < (x : Int) := by omega
    by_cases h2 : 2147483647 < y
    · have h2' : (2147483647 : Int) < (y : Int) := by omega
      have HR := Lib.hid (hr.out.trans (if_neg (by omega)))
      clear hr
      go_wp2
      refine bodyPost_ret (v := .tuple #[.agg #[.int .i64 0, .int .i64 0], .int .i64 2]) (by simp [results, Tryd.results43, go_sem, q0, q1]) rfl ⟨?_, ?_⟩
      · rw [HR.out]; rfl
      · exact ((belowN HB1.out _).setCell (Nat.le_refl _) _).setCell (Nat.le_refl _) _
    · have h2' : ¬ (2147483647 : Int) < (y : Int) := by omega
      have HR := Lib.hid (hr.out.trans (if_pos ⟨by omega, by omega⟩))
      clear hr
      cases neg with
      | true =>
        go_wp2
        refine bodyPost_ret (v := .tuple #[.agg #[.int .i64 (-(x : Int)), .int .i64 (y : Int)], .int .i64 0]) (by simp [results, Tryd.results43, go_sem, q0, q1]) rfl ⟨?_, ?_⟩
        · rw [HR.out]; rfl
        · exact ((belowN HB1.out _).setCell (Nat.le_refl _) _).setCell (Nat.le_refl _) _
      | false =>
        go_wp2
        refine bodyPost_ret (v := .tuple #[.agg #[.int .i64 (x : Int), .int .i64 (y : Int)], .int .i64 0]) (by simp [results, Tryd.results43, go_sem, q0, q1]) rfl ⟨?_, ?_⟩
        · rw [HR.out]; rfl
        · exact ((belowN HB1.out _).setCell (Nat.le_refl _) _).setCell (Nat.le_refl _) _

set_option maxHeartbeats 1000000 in
theorem make_any (n d : Int) (w : World) (hn : -9223372036854775808 ≤ n) (hN : n ≤ 9223372036854775807) (hd : -9223372036854775808 ≤ d) (hD : d ≤ 9223372036854775807) :
    Calls Tryd.prog 13 #[.int .i64 n, .int .i64 d] w fun e w' => e = .returned (mk n d).val ∧ Below w.heap.size w w' := by
  by_cases h0 : d = 0
  · subst h0
    go_enter Tryd.func13, Tryd.ntmps13
    go_wp2
    refine bodyPost_ret (v := .tuple #[.agg #[.int .i64 0, .int .i64 0], .int .i64 10]) (by simp [results, Tryd.results13, go_sem]) rfl ⟨rfl, ?_⟩
    exact (Below.refl _ _).alloc (Nat.le_refl _) _
  · have h0' : (d == 0) = false := by simpa using h0
    have HM : Hid (mk n d = red (!(decide (n < 0) == decide (d < 0))) n.natAbs d.natAbs) := by show mk n d = _; unfold mk; rw [if_neg h0]; rfl
    have hdp : 0 < d.natAbs := by omega
    go_enter Tryd.func13, Tryd.ntmps13
    go_wp2_with fail
    refine (magnitude_any n _ hn hN).mono ?_
    rintro e w' ⟨rfl, rfl⟩
    go_wp2_with fail
    refine (magnitude_any d _ hd hD).mono ?_
    rintro e w' ⟨rfl, rfl⟩
    go_wp2_with fail
    refine (reduce_any _ n.natAbs d.natAbs _ (by omega) (by omega) hdp).mono ?_
    rw [← HM.out]
    rintro e w1 ⟨rfl, hb1⟩
    obtain ⟨⟨q0, q1⟩, qf, qs, hB1⟩ := res2 hb1
    have HB1 := Lib.hid hB1
    clear hb1 hB1
    obtain ⟨r, hr⟩ : ∃ r, r = mk n d := ⟨_, rfl⟩
    rw [← hr]
    have HRm := Lib.hid hr
    clear hr
    obtain ⟨rn, rd, re⟩ := r
    simp only [Res.val]
    go_wp2
    refine bodyPost_ret (v := .tuple #[.agg #[.int .i64 rn, .int .i64 rd], .int .i64 re]) (by simp [results, Tryd.results13, go_sem, q0, q1]) rfl ⟨by rw [← HRm.out]; rfl, ?_⟩
    exact ((HB1.out).setCell (Nat.le_refl _) _).setCell (Nat.le_refl _) _

set_option maxHeartbeats 1000000 in
theorem refMake_any (n d : Int) (w : World) (hn : -9223372036854775808 ≤ n) (hN : n ≤ 9223372036854775807) (hd : -9223372036854775808 ≤ d) (hD : d ≤ 9223372036854775807) :
    Calls Tryd.prog 14 #[.int .i64 n, .int .i64 d] w fun e w' => e = .returned (mk n d).val ∧ Below w.heap.size w w' := by
  by_cases h0 : d = 0
  · subst h0
    go_enter Tryd.func14, Tryd.ntmps14
    go_wp2
    refine bodyPost_ret (v := .tuple #[.agg #[.int .i64 0, .int .i64 0], .int .i64 10]) (by simp [results, Tryd.results14, go_sem]) rfl ⟨rfl, ?_⟩
    exact (Below.refl _ _).alloc (Nat.le_refl _) _
  · have h0' : (d == 0) = false := by simpa using h0
    have HM : Hid (mk n d = red (!(decide (n < 0) == decide (d < 0))) n.natAbs d.natAbs) := by show mk n d = _; unfold mk; rw [if_neg h0]; rfl
    have hdp : 0 < d.natAbs := by omega
    go_enter Tryd.func14, Tryd.ntmps14
    go_wp2_with fail
    refine (size_any n _ hn hN).mono ?_
    rintro e w' ⟨rfl, rfl⟩
    go_wp2_with fail
    refine (size_any d _ hd hD).mono ?_
    rintro e w' ⟨rfl, rfl⟩
    go_wp2_with fail
    refine (quotient_any _ n.natAbs d.natAbs _ (by omega) (by omega) hdp).mono ?_
    rw [← HM.out]
    rintro e w1 ⟨rfl, hb1⟩
    obtain ⟨⟨q0, q1⟩, qf, qs, hB1⟩ := res2 hb1
    have HB1 := Lib.hid hB1
    clear hb1 hB1
    obtain ⟨r, hr⟩ : ∃ r, r = mk n d := ⟨_, rfl⟩
    rw [← hr]
    have HRm := Lib.hid hr
    clear hr
    obtain ⟨rn, rd, re⟩ := r
    simp only [Res.val]
    go_wp2
    refine bodyPost_ret (v := .tuple #[.agg #[.int .i64 rn, .int .i64 rd], .int .i64 re]) (by simp [results, Tryd.results14, go_sem, q0, q1]) rfl ⟨by rw [← HRm.out]; rfl, ?_⟩
    exact ((HB1.out).setCell (Nat.le_refl _) _).setCell (Nat.le_refl _) _

set_option maxHeartbeats 400000 in
theorem is_same (n d e : Int) (w : World) :
    Calls Tryd.prog 15 #[.agg #[.int .i64 n, .int .i64 d], .int .i64 e, .agg #[.int .i64 n, .int .i64 d], .int .i64 e] w fun r w' => r = .returned (.bool true) ∧ Below w.heap.size w w' := by
  go_enter Tryd.func15, Tryd.ntmps15
  go_wp2
  go_ret
  exact ⟨ret_bool (by simp), ((Below.refl _ _).alloc (Nat.le_refl _) _).alloc (by simp) _⟩
end Go.Proofs.YtaekhbhjgcmghaaDoor
