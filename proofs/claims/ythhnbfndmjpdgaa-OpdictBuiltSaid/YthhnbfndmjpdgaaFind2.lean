/- Contracts of the reference's Find, of awake, Of and the reference's Of. -/
import Derived.Test.YthhnbfndmjpdgaaFinds
namespace Go.Proofs.Ythhnbfndmjpdgaa
open Go.RowKit

set_option maxHeartbeats 400000 in
theorem refFind_any (A : Option Addr) (l : List Ent) (c : Nat) (x : ByteArray) (w : World) (hl : ER w w.heap.size A l) (hn : l.length ≤ 250) :
    Calls Try.prog 13 #[.slice A l.length c, .string x] w fun e w' => e = .returned (find l x).val ∧ Below w.heap.size w w' := by
  have hlH := Lib.hid hl
  clear hl
  go_enter Try.func13, Try.ntmps13
  go_wp2
  go_loop [5] (fun s5 => ∃ kk : Nat, kk ≤ l.length ∧ s5 = .int .i64 kk ∧ Aside (∀ j e, j < kk → l[j]? = some e → eqT e.text x = false)) (fun s5 => l.length - (intOf s5).toNat)
  case atStart => exact ⟨0, Nat.zero_le _, rfl, fun j e hj => absurd hj (Nat.not_lt_zero _)⟩
  case round =>
    obtain ⟨kk, hkk, rfl, HA⟩ := hrel
    by_cases hlt : kk < l.length
    · have hltz : (kk : Int) < (l.length : Int) := by omega
      obtain ⟨b, off, rfl, hb, he⟩ := hlH.out.at_ hlt
      obtain ⟨h0, h1, h2, h3⟩ := he
      cases hq : eqT l[kk].text x with
      | true =>
        have Hq := Lib.hid hq
        have hq2 : (l[kk].text.toList == x.toList) = true := hq
        clear hq
        go_wp2
        refine bodyPost_ret (v := l[kk].val) (by simp [results, Try.results13, go_sem]; rfl) rfl ⟨?_, ?_⟩
        · obtain ⟨_, h, _⟩ := find_hit l x kk (fIdx_hit l x kk hlt Hq.out HA.out)
          rw [h]
        · exact (Below.refl _ _).alloc (Nat.le_refl _) _
      | false =>
        have Hq := Lib.hid hq
        have hq2 : (l[kk].text.toList == x.toList) = false := hq
        clear hq
        go_wp2
        go_round
        case rel =>
          refine ⟨kk + 1, by omega, by go_num, (show Aside _ from fun j e hj he => ?_)⟩
          by_cases ee : j = kk
          · subst ee
            rw [List.getElem?_eq_getElem hlt] at he
            cases he
            exact Hq.out
          · exact HA.out j e (by omega) he
        case measure => simp [intOf]; omega
    · have hltz : ¬ (kk : Int) < (l.length : Int) := by omega
      obtain rfl : kk = l.length := by omega
      go_wp2
      refine bodyPost_ret (v := .agg #[.string x, .int .i64 0, .bool false, .bool false]) (by simp [results, Try.results13, go_sem]) rfl ⟨?_, ?_⟩
      · rw [find_miss l x (fIdx_miss l x HA.out)]; rfl
      · exact (Below.refl _ _).alloc (Nat.le_refl _) _

def eqEnt : Ent := ⟨⟨#[61]⟩, 3, false, false⟩
theorem find_eqEnt : find [eqEnt] ⟨#[61]⟩ = eqEnt := by
  have : eqT eqEnt.text ⟨#[61]⟩ = true := by decide +kernel
  simp [find, this]

set_option maxHeartbeats 400000 in
theorem awake_any (w : World) : Calls Try.prog 9 #[] w fun e w' => e = .returned (.bool true) ∧ Below w.heap.size w w' := by
  go_enter Try.func9, Try.ntmps9
  go_wp2_with fail
  refine (find_any _ [eqEnt] _ _ _ ?_ (by simp)).mono ?_
  · refine fun _ => ⟨w.heap.size, 0, rfl, by simp, fun i e he => ?_⟩
    match i, he with
    | 0, he => cases he; exact ⟨by simp [eqEnt], by simp [eqEnt], by simp [eqEnt], by simp [eqEnt]⟩
    | (i + 1), he => simp at he
  rw [find_eqEnt]
  rintro e w' ⟨rfl, hb⟩
  simp only [eqEnt, Ent.val]
  go_wp2
  go_ret
  refine ⟨by rfl, ((Below.refl _ _).alloc (Nat.le_refl _) _).trans (hb.mono (by simp))⟩

theorem str_info : (Try.prog.info? 9).map (fun i => (i.zero, i.size, i.bytes)) = some (some (.string ⟨#[]⟩), 1, 16) := by kernel_rfl
end Go.Proofs.Ythhnbfndmjpdgaa
