/- Contracts of the reference's Find, grown and assembled. -/
import Derived.Test.YthgkdeaapjdadaaDoorRefGreek
namespace Go.Proofs.YthgkdeaapjdadaaDoor
open Go.RowKit

set_option maxRecDepth 100000 in
set_option maxHeartbeats 4000000 in
theorem rfind_any (A : Option Addr) (l : List Gl) (c : Nat) (n : List UInt8) (w : World) (hg : GR w w.heap.size A l) (hl : l.length ≤ 1000) :
    Calls Tryd.prog 13 #[.slice A l.length c, .string ⟨n.toArray⟩] w fun e w' => e = .returned (.tuple #[(findV l n).val, .bool (findG l n).isSome]) ∧ Below w.heap.size w w' := by
  have HG := Lib.hid hg
  clear hg
  go_enter Tryd.func13, Tryd.ntmps13
  go_wp2_with fail
  go_loopg [6] l.length (fun gg s6 wr => ∃ k : Nat, k ≤ l.length ∧ l.length - k ≤ gg ∧ s6 = .int .i64 k ∧ wr = w.alloc (.cells #[.string ⟨#[]⟩, .int .i64 0, .int .i64 0, .int .i64 0, .int .i64 0, .int .i64 0] 32) ∧ Aside (∀ j e, j < k → l[j]? = some e → e.name ≠ n))
  case atStart => exact ⟨0, Nat.zero_le _, by omega, rfl, rfl, fun j e hj => absurd hj (Nat.not_lt_zero _)⟩
  case round =>
    obtain ⟨k, hk, hgg, rfl, rfl, HA⟩ := hrel
    by_cases hkl : k < l.length
    · have hltz : (k : Int) < (l.length : Int) := by omega
      obtain ⟨bb, off, rfl, hbb, he⟩ := HG.out.at_ hkl
      obtain ⟨h0, h1, h2, h3, h4, h5⟩ := he
      by_cases hn : l[k].name = n
      · have HF := Lib.hid (find_hit l n k hkl hn HA.out)
        have hn' : (l[k].name == n) = true := by simpa using hn
        clear hn
        go_wp2_with fail
        refine bodyPost_ret (v := .tuple #[l[k].val, .bool true]) (by simp [results, Tryd.results13, go_sem]; rfl) rfl ⟨?_, ?_⟩
        · rw [show findV l n = l[k] from by unfold findV; rw [HF.out]; rfl, HF.out]; rfl
        · exact (Below.refl _ _).alloc (Nat.le_refl _) _
      · have hn' : (l[k].name == n) = false := by simpa using hn
        have HN := Lib.hid hn
        clear hn
        go_wp2_with fail
        go_roundg (l.length - (k + 1))
        case measure => omega
        case rel =>
          refine ⟨k + 1, by omega, by omega, by go_num, rfl, (show Aside _ from fun j e hj he => ?_)⟩
          by_cases ee : j = k
          · subst ee
            rw [List.getElem?_eq_getElem hkl] at he
            cases he
            exact HN.out
          · exact HA.out j e (by omega) he
    · have hltz : ¬ (k : Int) < (l.length : Int) := by omega
      obtain rfl : k = l.length := by omega
      have HF := Lib.hid (find_miss l n HA.out)
      go_wp2_with fail
      refine bodyPost_ret (v := .tuple #[gl0.val, .bool false]) (by simp [results, Tryd.results13, go_sem]; rfl) rfl ⟨?_, ?_⟩
      · rw [show findV l n = gl0 from by unfold findV; rw [HF.out]; rfl, HF.out]; rfl
      · exact (Below.refl _ _).alloc (Nat.le_refl _) _
set_option maxRecDepth 100000 in
theorem grown_any (w : World) : Calls Tryd.prog 24 #[] w fun e w' => e = .returned (.slice (some ⟨w.heap.size, 0, none⟩) 14 14) ∧ w.alloc (.cells (strC largeN) 9) = w' := by
  go_enter Tryd.func24, Tryd.ntmps24
  go_wp2
  go_ret
  exact ⟨rfl, rfl⟩
set_option maxRecDepth 100000 in
theorem rasm_any (w : World) : Calls Tryd.prog 26 #[] w fun e w' => e = .returned (.slice (some ⟨w.heap.size, 0, none⟩) 8 8) ∧ w.alloc (.cells (strC asmN) 9) = w' := by
  go_enter Tryd.func26, Tryd.ntmps26
  go_wp2
  go_ret
  exact ⟨rfl, rfl⟩
end Go.Proofs.YthgkdeaapjdadaaDoor
