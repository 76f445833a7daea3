/- A region that draws its order: reads taken first in a class of worlds that holds until a given operation; no program. -/
import Derived.OrdersHeld
import Derived.Deep.RegionHeldLaw
import Derived.Test.YtknpigdpepmimaaGreatDoorRsq
namespace Go.Proofs.YtknpigdpepmimaaGreatDoor
open Go
section
variable {P : Program} {ops : Array Oper} {Q : Exit → Act → World → Prop} {md : Region.Mode} {S : World → Prop} {last : Nat}

/-- Whatever order is picked from here on, and S holds until the operation `last` is done. -/
def wpAnyJ (P : Program) (md : Region.Mode) (ops : Array Oper) (Q : Exit → Act → World → Prop) (S : World → Prop) (last : Nat) : Nat → Array Bool → Act → World → Prop
  | 0, listed, a, w => Region.ready md ops listed = [] ∧ Q .normal a w
  | fuel + 1, listed, a, w =>
    (Region.ready md ops listed = [] → Q .normal a w) ∧
    ∀ i ∈ Region.ready md ops listed, wpOp P ops Q i (fun a' w' => ((listed.setIfInBounds i true).getD last true = false → S w') ∧ wpAnyJ P md ops Q S last fuel (listed.setIfInBounds i true) a' w') a w
theorem wpAny_of_J : ∀ (fuel : Nat) (listed : Array Bool) (a : Act) (w : World), wpAnyJ P md ops Q S last fuel listed a w → wpAny P md ops Q fuel listed a w
  | 0, _, _, _, h => h
  | fuel + 1, _, _, _, h => ⟨h.1, fun i hi => wpOp_mono (fun a' w' h' => wpAny_of_J fuel _ a' w' h'.2) (h.2 i hi)⟩
theorem waits_un {i j : Nat} {listed : Array Bool} (hw : waitsB md ops j i = true) (h0 : listed.getD i true = false) : j ∉ Region.ready md ops listed := fun hl => by
  obtain ⟨_, ol, hol, hall⟩ := mem_ready.1 hl
  unfold waitsB at hw
  rw [hol] at hw
  obtain ⟨k, hk, he⟩ := Array.any_eq_true.1 hw
  simp only [Bool.and_eq_true, beq_iff_eq] at he
  have h1 := hall _ (Array.getElem_mem hk) he.1
  rw [he.2] at h1
  rcases Nat.lt_or_ge i listed.size with h' | h'
  · simp [h'] at h0 h1; rw [h0] at h1; cases h1
  · simp [Array.getElem?_eq_none h'] at h1
theorem wpAnyJ_first {i : Nat} {oi : Oper} {v : Value} {Wt : List Nat} (hi : ops[i]? = some oi) (hsel : ∀ (j : Nat) (o : Oper) cs b, ops[j]? = some o → o.op ≠ .select cs b)
    (hW : ∀ j ∈ Wt, ∃ m ∈ i :: Wt, waitsB md ops j m = true) (hlast : last ∈ Wt) (hil : i ∉ Wt)
    (hQ : ∀ c a w, Q (.panic c) (a.put oi.dst v) w → Q (.panic c) a w) :
    ∀ (fuel : Nat) (listed : Array Bool) (a : Act) (w : World),
      (∀ j oj, ops[j]? = some oj → j ≠ i → listed.getD j true = false → (∀ e ∈ oj.after, Region.binds md e = true → e.on ≠ i) → oi.apart ops oj = true) →
      i ∈ Region.ready md ops listed → (∀ j ∈ Wt, listed.getD j true = false) → YieldsIf P ops S oi v a → S w →
      wpAnyJ P md ops Q S last fuel (listed.setIfInBounds i true) (a.put oi.dst v) w → wpAnyJ P md ops Q S last (fuel + 1) listed a w := by
  intro fuel
  induction fuel with
  | zero =>
    intro listed a w _ hr hU hy hS H
    refine ⟨fun h => (by rw [h] at hr; cases hr), fun j hj => ?_⟩
    by_cases hji : j = i
    · subst hji; exact hy.wpOp hi hS ⟨fun _ => hS, H⟩
    · have := ready_mono hj hji
      rw [H.1] at this
      cases this
  | succ fuel ih =>
    intro listed a w hfree hr hU hy hS H
    refine ⟨fun h => (by rw [h] at hr; cases hr), fun j hj => ?_⟩
    by_cases hji : j = i
    · subst hji; exact hy.wpOp hi hS ⟨fun _ => hS, H⟩
    · have h1 := H.2 j (ready_mono hj hji)
      have hjW : j ∉ Wt := fun hm => by
        obtain ⟨m, hm1, hm2⟩ := hW j hm
        have hmu : listed.getD m true = false := by
          rcases List.mem_cons.1 hm1 with rfl | hm1
          · exact (mem_ready.1 hr).1
          · exact hU m hm1
        exact waits_un hm2 hmu hj
      have hU' : ∀ k ∈ Wt, (listed.setIfInBounds j true).getD k true = false := fun k hk => by
        have hne : j ≠ k := fun e => hjW (e ▸ hk)
        have := hU k hk
        simp only [Array.getD_eq_getD_getElem?, Array.getElem?_setIfInBounds_ne hne] at this ⊢
        exact this
      have hUi : ((listed.setIfInBounds i true).setIfInBounds j true).getD last true = false := by
        have h2 := hU' last hlast
        have hne : i ≠ last := fun e => hil (e ▸ hlast)
        have hne2 : j ≠ last := fun e => hjW (e ▸ hlast)
        have h3 := hU last hlast
        simp only [Array.getD_eq_getD_getElem?, Array.getElem?_setIfInBounds_ne hne, Array.getElem?_setIfInBounds_ne hne2] at h3 ⊢
        exact h3
      obtain ⟨hjun, oj, hoj, hall⟩ := mem_ready.1 hj
      have hnot : ∀ e ∈ oj.after, Region.binds md e = true → e.on ≠ i := fun e he hb heq => by
        have h1 := hall e he hb
        have h0 := (mem_ready.1 hr).1
        rw [heq] at h1
        rcases Nat.lt_or_ge i listed.size with h' | h'
        · simp [h'] at h0 h1; rw [h0] at h1; cases h1
        · simp [Array.getElem?_eq_none h'] at h1
      have h2 := wpOp_putIf hoj (hfree j oj hoj hji hjun hnot) (fun cs b => hsel i oi cs b hi) (fun cs b => hsel j oj cs b hoj) hQ hy h1
      have hfree' : ∀ k ok, ops[k]? = some ok → k ≠ i → (listed.setIfInBounds j true).getD k true = false →
          (∀ e ∈ ok.after, Region.binds md e = true → e.on ≠ i) → oi.apart ops ok = true := fun k ok hk hki hun hno => by
        refine hfree k ok hk hki ?_ hno
        by_cases hjk : j = k
        · subst hjk; exact hjun
        · rw [getD_set_ne true hjk] at hun; exact hun
      refine wpOp_mono (fun a' w' h3 => ⟨fun _ => h3.2.1 hUi, ih (listed.setIfInBounds j true) a' w' hfree' (ready_mono hr (Ne.symm hji)) hU' h3.1 (h3.2.1 hUi) ?_⟩) h2
      rw [Array.setIfInBounds_comm _ _ hji]
      exact h3.2.2
/-- a read taken first -/
theorem wpAnyJ_take {i : Nat} {oi : Oper} {v : Value} {fuel : Nat} {listed : Array Bool} {a : Act} {w : World} (Wt : List Nat) (hi : ops[i]? = some oi)
    (hs : Region.noSelect ops = true) (hf : Region.free md ops listed i = true) (hr : (Region.ready md ops listed).contains i = true)
    (hW : (Wt.all fun j => (i :: Wt).any fun m => waitsB md ops j m) = true) (hlast : Wt.contains last = true) (hil : Wt.contains i = false) (hU : (Wt.all fun j => !listed.getD j true) = true)
    (hQ : ∀ c a w, Q (.panic c) (a.put oi.dst v) w → Q (.panic c) a w) (hy : YieldsIf P ops S oi v a) (hS : S w)
    (h : wpAnyJ P md ops Q S last fuel (listed.setIfInBounds i true) (a.put oi.dst v) w) : wpAnyJ P md ops Q S last (fuel + 1) listed a w :=
  wpAnyJ_first hi (Region.noSelect_spec hs) (fun j hj => by
    have := List.all_eq_true.1 hW j hj
    obtain ⟨m, h1, h2⟩ := List.any_eq_true.1 this
    exact ⟨m, h1, h2⟩) (by simpa using hlast) (by simpa using hil) hQ fuel listed a w (Region.free_spec hi hf) (by simpa using hr) (fun j hj => by
    have := List.all_eq_true.1 hU j hj
    simpa using this) hy hS h
/-- the one operation that may come up now -/
theorem wpAnyJ_one {i : Nat} {o : Oper} {fuel : Nat} {listed : Array Bool} {a : Act} {w : World} (hr : Region.ready md ops listed = [i]) (ho : ops[i]? = some o)
    (h : ∀ K' : Act → World → Prop, Shut (∀ a w, ((listed.setIfInBounds i true).getD last true = false → S w) → wpAnyJ P md ops Q S last fuel (listed.setIfInBounds i true) a w → K' a w) → if Region.wanted o (yielded ops a.tmps) = true then Oper.wp P o a w K' Q else K' (a.put o.dst undef) w) :
    wpAnyJ P md ops Q S last (fuel + 1) listed a w := by
  refine ⟨fun e => (by rw [hr] at e; cases e), fun j hj => ?_⟩
  rw [hr, List.mem_singleton] at hj
  subst hj
  exact wpOp_step ho (fun K' hK => h K' (fun a w hS hW => hK a w ⟨hS, hW⟩))
/-- two operations may come up -/
theorem wpAnyJ_two {i j : Nat} {o o' : Oper} {fuel : Nat} {listed : Array Bool} {a : Act} {w : World} (hr : Region.ready md ops listed = [i, j]) (ho : ops[i]? = some o) (ho' : ops[j]? = some o')
    (h : ∀ K' : Act → World → Prop, Shut (∀ a w, ((listed.setIfInBounds i true).getD last true = false → S w) → wpAnyJ P md ops Q S last fuel (listed.setIfInBounds i true) a w → K' a w) → if Region.wanted o (yielded ops a.tmps) = true then Oper.wp P o a w K' Q else K' (a.put o.dst undef) w)
    (h' : ∀ K' : Act → World → Prop, Shut (∀ a w, ((listed.setIfInBounds j true).getD last true = false → S w) → wpAnyJ P md ops Q S last fuel (listed.setIfInBounds j true) a w → K' a w) → if Region.wanted o' (yielded ops a.tmps) = true then Oper.wp P o' a w K' Q else K' (a.put o'.dst undef) w) :
    wpAnyJ P md ops Q S last (fuel + 1) listed a w := by
  refine ⟨fun e => (by rw [hr] at e; cases e), fun k hk => ?_⟩
  rw [hr] at hk
  rcases List.mem_cons.1 hk with rfl | hk
  · exact wpOp_step ho (fun K' hK => h K' (fun a w hS hW => hK a w ⟨hS, hW⟩))
  · rw [List.mem_singleton] at hk
    subst hk
    exact wpOp_step ho' (fun K' hK => h' K' (fun a w hS hW => hK a w ⟨hS, hW⟩))
theorem wpAnyJ_done {listed : Array Bool} {a : Act} {w : World} (hr : Region.ready md ops listed = []) (h : Q .normal a w) : wpAnyJ P md ops Q S last 0 listed a w := ⟨hr, h⟩
theorem wp_region_J {id : Nat} {a : Act} {w : World} (last : Nat) (S : World → Prop) (hm : P.follows .mixedOrders = true)
    (h : wpAnyJ P .any ops Q S last ops.size (Array.replicate ops.size false) a w.drew) : (Code.region id ops true).wp P Q a w :=
  wp_region_any hm (wpAny_of_J _ _ _ _ h)
end
end Go.Proofs.YtknpigdpepmimaaGreatDoor
