/- A region that draws its order, by an invariant over what has been done; no program. -/
import Derived.OrdersHeld
import Derived.Deep.RegionHeldLaw
namespace Go.Proofs.Ytkjhfbgdmmnadaa
open Go
section
variable {P : Program} {ops : Array Oper} {Q : Exit → Act → World → Prop} {md : Region.Mode}
/-- how many are not done yet -/
def todo (listed : Array Bool) : Nat := listed.toList.countP (· == false)
theorem todo_set {listed : Array Bool} {i : Nat} (h : listed.getD i true = false) : todo (listed.setIfInBounds i true) + 1 = todo listed := by
  have hi : i < listed.size := by
    rcases Nat.lt_or_ge i listed.size with h' | h'
    · exact h'
    · simp [Array.getElem?_eq_none h'] at h
  have hv : listed.toList[i]? = some false := by
    rw [Array.getElem?_toList, Array.getElem?_eq_getElem hi]
    simp [hi] at h; rw [h]
  unfold todo
  rw [Array.toList_setIfInBounds]
  generalize listed.toList = l at *
  clear h hi
  induction l generalizing i with
  | nil => simp at hv
  | cons b l ih =>
    cases i with
    | zero =>
      simp at hv
      subst hv
      simp
    | succ i =>
      have := ih (i := i) (by simpa using hv)
      rw [List.set_cons_succ, List.countP_cons, List.countP_cons]
      omega
theorem wpAny_inv {I : Array Bool → Act → World → Prop}
    (hstep : ∀ listed a w i, I listed a w → i ∈ Region.ready md ops listed → wpOp P ops Q i (fun a' w' => I (listed.setIfInBounds i true) a' w') a w)
    (hend : ∀ listed a w, I listed a w → Region.ready md ops listed = [] → Q .normal a w) :
    ∀ (fuel : Nat) (listed : Array Bool) (a : Act) (w : World), todo listed ≤ fuel → I listed a w → wpAny P md ops Q fuel listed a w
  | 0, listed, a, w, hz, hI => by
    have hr : Region.ready md ops listed = [] := by
      cases hr : Region.ready md ops listed with
      | nil => rfl
      | cons i l =>
        have hm : i ∈ Region.ready md ops listed := by rw [hr]; exact List.mem_cons_self
        have := todo_set (mem_ready.1 hm).1
        omega
    exact ⟨hr, hend listed a w hI hr⟩
  | fuel + 1, listed, a, w, hz, hI => ⟨fun hr => hend listed a w hI hr, fun i hi => wpOp_mono (fun a' w' h' => wpAny_inv hstep hend fuel _ a' w' (by have := todo_set (mem_ready.1 hi).1; omega) h') (hstep listed a w i hI hi)⟩
theorem wp_region_inv {id : Nat} {a : Act} {w : World} (I : Array Bool → Act → World → Prop) (hm : P.follows .mixedOrders = true)
    (h0 : I (Array.replicate ops.size false) a w.drew)
    (hstep : ∀ listed a w i, I listed a w → i ∈ Region.ready .any ops listed → wpOp P ops Q i (fun a' w' => I (listed.setIfInBounds i true) a' w') a w)
    (hend : ∀ listed a w, I listed a w → Region.ready .any ops listed = [] → Q .normal a w) : (Code.region id ops true).wp P Q a w :=
  wp_region_any hm (wpAny_inv hstep hend _ _ _ _ (by
    unfold todo
    have : (Array.replicate ops.size false).toList.countP (· == false) ≤ (Array.replicate ops.size false).toList.length := List.countP_le_length
    simpa using this) h0)
end
end Go.Proofs.Ytkjhfbgdmmnadaa
