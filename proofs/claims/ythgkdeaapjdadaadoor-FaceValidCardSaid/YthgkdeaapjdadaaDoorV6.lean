/- Contract of the reference's Scale at a number that is not negative. -/
import Derived.Test.YthgkdeaapjdadaaDoorV5
namespace Go.Proofs.YthgkdeaapjdadaaDoor
open Go.RowKit

theorem scale_nat (n p : Nat) (hn : n ≤ 20000) (hp : p ≤ 1000) : scaleL (n : Int) (p : Int) = (((2 * n * p + 100) / 200 : Nat) : Int) := by
  rw [scale_yes (n : Int) (p : Int) ((validL_iff _).2 (by omega)) (by omega) (by omega)]
  unfold rnd rn
  have h0 : ¬ (n : Int) * (p : Int) < 0 := by rw [← Int.natCast_mul]; omega
  rw [if_pos (by simp [h0])]
  rw [← Int.natCast_mul, Int.natAbs_natCast, Nat.mul_assoc]
  rfl
set_option maxRecDepth 100000 in
set_option maxHeartbeats 1000000 in
theorem rscale_any (n p : Nat) (w : World) (hn : n ≤ 20000) (hp : p ≤ 1000) :
    Calls Tryd.prog 19 #[.int .i64 (n : Int), .int .i64 (p : Int)] w fun e w' => e = .returned (.int .i64 (scaleL (n : Int) (p : Int))) ∧ w = w' := by
  have HS := Lib.hid (scale_nat n p hn hp)
  have hm : 2 * n * p ≤ 40000000 := by
    have h1 : 2 * n * p ≤ 2 * n * 1000 := Nat.mul_le_mul_left _ hp
    omega
  obtain ⟨m, hmm⟩ : ∃ m, m = 2 * n * p := ⟨_, rfl⟩
  have hmz : 2 * (n : Int) * (p : Int) = (m : Int) := by rw [hmm]; simp
  rw [← hmm] at hm HS
  clear hmm
  have hneg : ¬ (n : Int) < 0 := by omega
  have x1 : IntKind.i64.wrap (2 * (n : Int)) = 2 * (n : Int) := wrap64_of (by omega) (by omega)
  go_enter Tryd.func19, Tryd.ntmps19
  go_wp2
  go_ret
  refine ⟨?_, rfl⟩
  rw [HS.out]
  exact ret_int (by simp)
end Go.Proofs.YthgkdeaapjdadaaDoor
