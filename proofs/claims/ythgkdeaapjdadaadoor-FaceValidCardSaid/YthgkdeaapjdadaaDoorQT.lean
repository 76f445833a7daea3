/- A region that draws its order: operations that are quiet in a class of worlds, in whatever order, and then a tail in one forced order. -/
import Derived.Test.YthgkdeaapjdadaaDoorV4
import Derived.StillTail
import Derived.Deep.Quiet
namespace Go.Proofs.YthgkdeaapjdadaaDoor
open Go.RowKit
section
variable {P : Program} {ops : Array Oper} {md : Region.Mode} {C : World → Prop}

/-- f operations of the head come up, each quiet in the class; then L -/
def HeadQ (P : Program) (md : Region.Mode) (ops : Array Oper) (C : World → Prop) (n : Nat) (L : Array Bool → Act → Prop) : Nat → Array Bool → Act → Prop
  | 0, d, a => L d a
  | f + 1, d, a => Region.ready md ops d ≠ [] ∧ ∀ i ∈ Region.ready md ops d, i < n ∧ qOp P ops C i (HeadQ P md ops C n L f (d.setIfInBounds i true)) a

theorem HeadQ.wp {n g : Nat} {L : Array Bool → Act → Prop} {Q : Exit → Act → World → Prop} (hL : ∀ d a w, C w → L d a → wpAny P md ops Q g d a w) (f : Nat) :
    ∀ (d : Array Bool) (a : Act) (w : World), C w → HeadQ P md ops C n L f d a → wpAny P md ops Q (f + g) d a w := by
  induction f with
  | zero => intro d a w hw h; rw [Nat.zero_add]; exact hL d a w hw h
  | succ f ih =>
    intro d a w hw h
    rw [show f + 1 + g = f + g + 1 from by omega]
    exact ⟨fun e => absurd e h.1, fun i hi => wpOp_of_qOp hw (fun a' w' hw' h' => ih _ a' w' hw' h') (h.2 i hi).2⟩

/-- an operation of the head that may come up may be taken first -/
theorem HeadQ.take {n i : Nat} {oi : Oper} {v : Value} {L : Array Bool → Act → Prop} (hi : ops[i]? = some oi) (hsel : ∀ (j : Nat) (o : Oper) cs b, ops[j]? = some o → o.op ≠ .select cs b)
    (hs : Region.sinkB md ops n = true) (hc : Region.chainB md ops n = true) (hn : n < ops.size) (hin : i < n) (hL : ∀ d a, L d a → ∀ j ∈ Region.ready md ops d, n ≤ j) (f : Nat) :
    ∀ (d : Array Bool) (a : Act), HeadInv md ops n d →
      (∀ j oj, ops[j]? = some oj → j ≠ i → d.getD j true = false → (∀ e ∈ oj.after, Region.binds md e = true → e.on ≠ i) → oi.apart ops oj = true) →
      i ∈ Region.ready md ops d → YieldsIn P ops C oi v a → HeadQ P md ops C n L f (d.setIfInBounds i true) (a.put oi.dst v) → HeadQ P md ops C n L (f + 1) d a := by
  induction f with
  | zero =>
    intro d a inv _ hr hy H
    have hun := (mem_ready.1 hr).1
    refine ⟨List.ne_nil_of_mem hr, fun j hj => ?_⟩
    have hjn : j < n := Nat.lt_of_not_le fun h => tail_waits hs hc hn inv _ i rfl hin hun j h hj
    refine ⟨hjn, ?_⟩
    by_cases e : j = i
    · subst e; exact hy.qOp hi H
    · exact absurd (hL _ _ H j (ready_mono hj e)) (Nat.not_le.2 hjn)
  | succ f ih =>
    intro d a inv hfree hr hy H
    have hun := (mem_ready.1 hr).1
    refine ⟨List.ne_nil_of_mem hr, fun j hj => ?_⟩
    have hjn : j < n := Nat.lt_of_not_le fun h => tail_waits hs hc hn inv _ i rfl hin hun j h hj
    refine ⟨hjn, ?_⟩
    by_cases e : j = i
    · subst e; exact hy.qOp hi H
    · obtain ⟨hjun, oj, hoj, hall⟩ := mem_ready.1 hj
      have hno : ∀ x ∈ oj.after, Region.binds md x = true → x.on ≠ i := fun x hx hb e' => by
        have h1 := hall x hx hb
        rw [e', getD_both hun] at h1
        cases h1
      have h2 := qOp_put hoj (hfree j oj hoj e hjun hno) (fun cs b => hsel i oi cs b hi) (fun cs b => hsel j oj cs b hoj) hy (H.2 j (ready_mono hj e)).2
      refine qOp_mono (fun a' h3 => ih (d.setIfInBounds j true) a' (inv.set hj hjn) (fun k ok hk hki hu hno' => hfree k ok hk hki ?_ hno') (ready_mono hr (Ne.symm e)) h3.1 ?_) h2
      · by_cases ejk : j = k
        · subst ejk; exact hjun
        · rwa [getD_set_ne true ejk] at hu
      · rw [Array.setIfInBounds_comm _ _ e]; exact h3.2

theorem HeadQ.lex {n g : Nat} {K : Act → Prop} (hsel : Region.noSelect ops = true) (hs : Region.sinkB md ops n = true) (hc : Region.chainB md ops n = true) (hn : n < ops.size) (l : List Oper) :
    ∀ (k : Nat) (d : Array Bool) (a : Act), (∀ j, j < l.length → l[j]? = ops[k + j]?) → k + l.length = n → HeadInv md ops n d → Region.lexHead md ops g l.length k d = true → wpQuiet P ops C K l a →
      HeadQ P md ops C n (fun d' a' => Region.seqB md ops g n d' = true ∧ K a') l.length d a := by
  induction l with
  | nil =>
    intro k d a _ hk _ hB h
    obtain rfl : k = n := by simpa using hk
    exact ⟨by simpa [Region.lexHead] using hB, h⟩
  | cons o l ih =>
    intro k d a hl hk inv hB h
    have h0 : ops[k]? = some o := by simpa using (hl 0 (by simp)).symm
    simp only [List.length_cons, Region.lexHead, Bool.and_eq_true] at hB
    have hkn : k < n := by simp only [List.length_cons] at hk; omega
    have hr : k ∈ Region.ready md ops d := by simpa using hB.1.1
    obtain ⟨v, hy, hK⟩ := yieldsIn_of_qOp h0 (show qOp P ops C k (wpQuiet P ops C K l) a by unfold qOp; simp only [h0]; exact h)
    refine HeadQ.take h0 (Region.noSelect_spec hsel) hs hc hn hkn (fun d' a' hL => seqB_ready hL.1) l.length d a inv (Region.free_spec h0 hB.1.2) hr hy ?_
    exact ih (k + 1) _ _ (fun j hj => by have := hl (j + 1) (by simp; omega); simpa [Nat.add_assoc, Nat.add_comm 1 j] using this) (by simp only [List.length_cons] at hk; omega) (inv.set hr hkn) hB.2 hK

theorem wp_region_quiet_tail {id : Nat} {Q : Exit → Act → World → Prop} {a : Act} {w : World} {l : List Oper} (n : Nat) (hm : P.follows .mixedOrders = true) (hB : Region.lexTailB .any l.toArray n = true) (hC : C { w with drawn := w.drawn + 1 })
    (h : wpQuiet P l.toArray C (fun a' => ∀ w', C w' → wpList P l.toArray Q (l.drop n) a' w') (l.take n) a) : (Code.region id l.toArray true).wp P Q a w := by
  simp only [Region.lexTailB, Bool.and_eq_true, decide_eq_true_eq] at hB
  obtain ⟨⟨⟨⟨hsel, hn⟩, hs⟩, hc⟩, hlex⟩ := hB
  have hn' : n < l.length := by simpa using hn
  have ht : (l.take n).length = n := by simp; omega
  have hd : (l.drop n).length = l.toArray.size - n := by simp
  have inv : HeadInv .any l.toArray n (Array.replicate l.toArray.size false) :=
    ⟨by simp, fun j oj _ hl => (by rw [getD_replicate_false] at hl; cases hl), fun t _ ht => getD_in (by simpa using ht) (getD_replicate_false _ _)⟩
  have H := HeadQ.lex (md := .any) (g := l.toArray.size - n) hsel hs hc hn (l.take n) 0 _ a (fun j hj => by
    have hj' : j < n := by rw [ht] at hj; exact hj
    simp [hj']) (by simpa using ht) inv (by rw [ht]; exact hlex) h
  refine wp_region_any hm ?_
  have R := HeadQ.wp (Q := Q) (g := l.toArray.size - n) (fun d a' w' hw' hL => by
    have := wpAny_of_seq (md := .any) (Q' := Q) (l.drop n) n d a' w' (fun j => by simp [List.getElem?_drop]) (by rw [hd]; exact hL.1) (hL.2 w' hw')
    rwa [hd] at this) _ _ _ _ hC H
  rwa [ht, show n + (l.toArray.size - n) = l.toArray.size from by omega] at R
end
end Go.Proofs.YthgkdeaapjdadaaDoor
