/- A region that draws its order: a forced beginning, then operations that are quiet in a class of worlds, in whatever order, then a forced tail. -/
import Derived.Test.YthgkdeaapjdadaaDoorQT
namespace Go.Proofs.YthgkdeaapjdadaaDoor
open Go.RowKit
section
variable {P : Program} {ops : Array Oper} {md : Region.Mode} {C : World → Prop}

def preB (md : Region.Mode) (ops : Array Oper) : Nat → Nat → Array Bool → Bool
  | 0, _, _ => true
  | f + 1, k, d => decide (Region.ready md ops d = [k]) && preB md ops f (k + 1) (d.setIfInBounds k true)
def setTo : Nat → Nat → Array Bool → Array Bool
  | 0, _, d => d
  | f + 1, k, d => setTo f (k + 1) (d.setIfInBounds k true)

theorem upon_then {o : Oper} {a : Act} {K K' : Act → World → Prop} {Q : Exit → Act → World → Prop} {r : Result Next} (h : o.upon P a K (Exit.then K' Q) r) : o.upon P a K Q r := by
  cases r with
  | ok n w' =>
    cases n <;> simp only [Oper.upon] at h ⊢ <;>
      first
        | exact h
        | exact Calls.mono h (fun e w'' he => by cases e <;> exact he)
  | halt x w' => cases x <;> simp only [Oper.upon] at h ⊢ <;> exact h
theorem wpOp_then {i : Nat} {a : Act} {w : World} {K K' : Act → World → Prop} {Q : Exit → Act → World → Prop} (h : wpOp P ops (Exit.then K' Q) i K a w) : wpOp P ops Q i K a w := by
  unfold wpOp at *
  split
  · rename_i ho
    simp only [ho] at h
    exact h
  · rename_i o ho
    simp only [ho] at h
    split
    · rename_i hw
      rw [if_pos hw] at h
      rcases h with h | ⟨h1, h2⟩
      · exact .inl (upon_then h)
      · exact .inr ⟨h1, h2⟩
    · rename_i hw
      rw [if_neg hw] at h
      exact h
theorem wpAny_pre {Q : Exit → Act → World → Prop} {K : Act → World → Prop} {g : Nat} : ∀ (seg : List Oper) (k : Nat) (d : Array Bool) (a : Act) (w : World), (∀ j, j < seg.length → seg[j]? = ops[k + j]?) → preB md ops seg.length k d = true →
    (∀ a w, K a w → wpAny P md ops Q g (setTo seg.length k d) a w) → wpList P ops (Exit.then K Q) seg a w → wpAny P md ops Q (seg.length + g) d a w
  | [], _, _, _, _, _, _, hK, h => by
    rw [List.length_nil, Nat.zero_add]
    exact hK _ _ h
  | o :: l, k, d, a, w, hl, hB, hK, h => by
    have h0 : ops[k]? = some o := by simpa using (hl 0 (by simp)).symm
    simp only [List.length_cons, preB, Bool.and_eq_true, decide_eq_true_eq] at hB
    rw [List.length_cons, show l.length + 1 + g = l.length + g + 1 from by omega]
    refine ⟨fun h1 => (by rw [hB.1] at h1; cases h1), fun i hi => ?_⟩
    rw [hB.1] at hi
    have hik : i = k := by simpa using hi
    subst hik
    have hw : wpOp P ops (Exit.then K Q) i (wpList P ops (Exit.then K Q) l) a w := by unfold wpOp; simp only [h0]; exact h
    exact wpOp_mono (fun a' w' h' => wpAny_pre l (i + 1) _ a' w' (fun j hj => by have := hl (j + 1) (by simp; omega); simpa [Nat.add_assoc, Nat.add_comm 1 j] using this) hB.2 hK h') (wpOp_then hw)
/-- the whole region in one Bool: m operations in one order, then up to n in any, then the rest in one order -/
def segB (l : Array Oper) (m n : Nat) : Bool :=
  Region.noSelect l && decide (n < l.size) && decide (m ≤ n) && Region.sinkB .any l n && Region.chainB .any l n && preB .any l m 0 (Array.replicate l.size false) &&
  Region.lexHead .any l (l.size - n) (n - m) m (setTo m 0 (Array.replicate l.size false))
theorem preB_inv {n : Nat} : ∀ (f k : Nat) (d : Array Bool), HeadInv md ops n d → preB md ops f k d = true → k + f ≤ n → HeadInv md ops n (setTo f k d)
  | 0, _, _, inv, _, _ => inv
  | f + 1, k, d, inv, hB, hk => by
    simp only [preB, Bool.and_eq_true, decide_eq_true_eq] at hB
    exact preB_inv f (k + 1) _ (inv.set (by rw [hB.1]; simp) (by omega)) hB.2 (by omega)
theorem wp_region_pre_quiet_tail {id : Nat} {Q : Exit → Act → World → Prop} {a : Act} {w : World} {l : List Oper} (m n : Nat) (hm : P.follows .mixedOrders = true) (hB : segB l.toArray m n = true)
    (h : wpList P l.toArray (Exit.then (fun a1 w1 => ∃ C : World → Prop, C w1 ∧ wpQuiet P l.toArray C (fun a' => ∀ w', C w' → wpList P l.toArray Q (l.drop n) a' w') ((l.drop m).take (n - m)) a1) Q) (l.take m) a { w with drawn := w.drawn + 1 }) : (Code.region id l.toArray true).wp P Q a w := by
  simp only [segB, Bool.and_eq_true, decide_eq_true_eq] at hB
  obtain ⟨⟨⟨⟨⟨⟨hsel, hn⟩, hmn⟩, hs⟩, hc⟩, hpre⟩, hlex⟩ := hB
  have hn' : n < l.length := by simpa using hn
  have ht : (l.take m).length = m := by simp; omega
  have hq : ((l.drop m).take (n - m)).length = n - m := by simp; omega
  have hd : (l.drop n).length = l.toArray.size - n := by simp
  have inv : HeadInv .any l.toArray n (Array.replicate l.toArray.size false) :=
    ⟨by simp, fun j oj _ hl => (by rw [getD_replicate_false] at hl; cases hl), fun t _ ht => getD_in (by simpa using ht) (getD_replicate_false _ _)⟩
  refine wp_region_any hm ?_
  have R := wpAny_pre (md := .any) (P := P) (Q := Q) (g := (n - m) + (l.toArray.size - n)) (l.take m) 0 (Array.replicate l.toArray.size false) a { w with drawn := w.drawn + 1 } (fun j hj => by
      have hj' : j < m := by rw [ht] at hj; exact hj
      simp [hj']) (by rw [ht]; exact hpre) (fun a1 w1 hK => by
      obtain ⟨C, hC, hQt⟩ := hK
      rw [ht]
      have H := HeadQ.lex (md := .any) (g := l.toArray.size - n) hsel hs hc hn ((l.drop m).take (n - m)) m (setTo m 0 (Array.replicate l.toArray.size false)) a1 (fun j hj => by
        rw [hq] at hj
        simp [hj]) (by rw [hq]; omega) (preB_inv m 0 _ inv hpre (by omega)) (by rw [hq]; exact hlex) hQt
      have R := HeadQ.wp (Q := Q) (g := l.toArray.size - n) (fun d a' w' hw' hL => by
        have := wpAny_of_seq (md := .any) (Q' := Q) (l.drop n) n d a' w' (fun j => by simp [List.getElem?_drop]) (by rw [hd]; exact hL.1) (hL.2 w' hw')
        rwa [hd] at this) _ _ _ _ hC H
      rwa [hq] at R) h
  rwa [ht, show m + (n - m + (l.toArray.size - n)) = l.toArray.size from by simp; omega] at R
end
end Go.Proofs.YthgkdeaapjdadaaDoor
