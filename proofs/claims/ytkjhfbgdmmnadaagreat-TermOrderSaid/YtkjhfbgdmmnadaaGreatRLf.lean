/- Contracts of the reference's leaf functions: letter, Letter, Letters, In, Has, has, Keywords, Accents, Character, Symbol, Identifier, Digit, printable. -/
import Derived.Test.YtkjhfbgdmmnadaaGreatTree
namespace Go.Proofs.YtkjhfbgdmmnadaaGreat
open Go.RowKit

/-- a slice of strings, its block below B -/
def SL (w : World) (B : Nat) (v : Value) (l : List (List UInt8)) : Prop :=
  ∃ A c, v = .slice A l.length c ∧ (l.length ≤ c ∧ c ≤ 9223372036854775807) ∧ (l ≠ [] → ∃ b o, A = some ⟨b, o, none⟩ ∧ b < B ∧ ∀ j (h : j < l.length), w.cell? ⟨b, o + j, none⟩ = some (.string ⟨(l[j]).toArray⟩))
theorem SL.below {w w' : World} {B : Nat} {v : Value} {l : List (List UInt8)} (h : SL w B v l) (hb : Below B w w') : SL w' B v l := by
  obtain ⟨A, c, h1, h2, h3⟩ := h
  refine ⟨A, c, h1, h2, fun hne => ?_⟩
  obtain ⟨b, o, h4, h5, h6⟩ := h3 hne
  exact ⟨b, o, h4, h5, fun j hj => (hb.cell (p := ⟨b, _, none⟩) h5).trans (h6 j hj)⟩
theorem SL.more {w : World} {B B' : Nat} {v : Value} {l : List (List UInt8)} (h : SL w B v l) (hB : B ≤ B') : SL w B' v l := by
  obtain ⟨A, c, h1, h2, h3⟩ := h
  refine ⟨A, c, h1, h2, fun hne => ?_⟩
  obtain ⟨b, o, h4, h5, h6⟩ := h3 hne
  exact ⟨b, o, h4, by omega, h6⟩

def isLn (c : Nat) : Bool := (decide (97 ≤ c) && decide (c ≤ 122)) || (decide (65 ≤ c) && decide (c ≤ 90))
/-- the place of a letter, or -1 -/
def ltrN (c : Nat) : Int := if 97 ≤ c ∧ c ≤ 122 then (c : Int) - 97 else if 65 ≤ c ∧ c ≤ 90 then (c : Int) - 39 else -1

set_option maxHeartbeats 1000000 in
theorem letter72_nat (c : Nat) (w : World) (hc : c < 256) : Calls Tryz.prog 62 #[.int .u8 c] w fun e w' => e = .returned (.bool (isLn c)) ∧ w = w' := by
  have HI : Hid (isLn c = ((decide (97 ≤ c) && decide (c ≤ 122)) || (decide (65 ≤ c) && decide (c ≤ 90)))) := rfl
  by_cases h1 : (97 : Int) ≤ (c : Int) <;> by_cases h2 : (c : Int) ≤ 122 <;> by_cases h3 : (65 : Int) ≤ (c : Int) <;> by_cases h4 : (c : Int) ≤ 90 <;>
  (go_enter Tryz.func62, Tryz.ntmps62
   go_wp2
   go_ret
   refine ⟨ret_bool ?_, rfl⟩
   rw [HI.out, Bool.eq_iff_iff]
   simp
   omega)
set_option maxHeartbeats 1000000 in
theorem letter70_nat (c : Nat) (w : World) (hc : c < 256) : Calls Tryz.prog 45 #[.int .u8 c] w fun e w' => e = .returned (.int .i64 (ltrN c)) ∧ w = w' := by
  have HI : Hid (ltrN c = if 97 ≤ c ∧ c ≤ 122 then (c : Int) - 97 else if 65 ≤ c ∧ c ≤ 90 then (c : Int) - 39 else -1) := rfl
  by_cases h1 : (97 : Int) ≤ (c : Int) <;> by_cases h2 : (c : Int) ≤ 122 <;> by_cases h3 : (65 : Int) ≤ (c : Int) <;> by_cases h4 : (c : Int) ≤ 90 <;>
  (go_enter Tryz.func45, Tryz.ntmps45
   go_wp2
   go_ret
   refine ⟨?_, rfl⟩
   rw [HI.out]
   refine congrArg Ending.returned (congrArg (Value.int .i64) ?_)
   (try simp only [intWrap])
   split <;> (try split) <;> omega)
set_option maxHeartbeats 1000000 in
theorem digit95_nat (c : Nat) (w : World) (hc : c < 256) : Calls Tryz.prog 60 #[.int .u8 c] w fun e w' => e = .returned (.bool (decide (48 ≤ c) && decide (c ≤ 57))) ∧ w = w' := by
  have HI : Hid ((decide (48 ≤ c) && decide (c ≤ 57)) = (decide (48 ≤ (c : Int)) && decide ((c : Int) ≤ 57))) := by show _ = _; rw [Bool.eq_iff_iff]; simp; omega
  by_cases h1 : (48 : Int) ≤ (c : Int) <;> by_cases h2 : (c : Int) ≤ 57 <;>
  (go_enter Tryz.func60, Tryz.ntmps60
   go_wp2
   go_ret
   refine ⟨ret_bool ?_, rfl⟩
   rw [HI.out, Bool.eq_iff_iff]
   simp
   omega)
end Go.Proofs.YtkjhfbgdmmnadaaGreat
