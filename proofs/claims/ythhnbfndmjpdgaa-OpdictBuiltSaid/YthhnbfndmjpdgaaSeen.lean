/- A set of texts, kept as a map of bools: what a lookup finds; which lists are valid dictionaries. -/
import Derived.Test.YthhnbfndmjpdgaaProper
import Derived.Maps.OwnSet
namespace Go.Proofs.Ythhnbfndmjpdgaa
open Go.RowKit Go.Maps

section
variable {H : Type}
theorem atKey_fold (u : DataW H) (k : Lit) (z : DataW H) : ∀ (acc : List Lit) (m : DataW H), IsMap m → (∀ x ∈ acc, WideAt.IsKeyLit x) → (acc.foldl (fun m x => m.put x u) m).atKey k z = if acc.any (fun x => x.sameKey k) then u else m.atKey k z
  | [], _, _, _ => by simp
  | x :: acc, m, hm, h => by
    have ih := atKey_fold u k z acc (m.put x u) (hm.put x u) (fun y hy => h y (List.mem_cons_of_mem _ hy))
    rw [List.foldl_cons, ih]
    by_cases hx : x.sameKey k = true
    · simp only [List.any_cons, hx, Bool.true_or, if_true]
      have hk : x = k := by
        rcases Classical.em (x = k) with h' | h'
        · exact h'
        · rw [sameKey_ne h'] at hx; cases hx
      subst hk
      rw [atKey_put_same hm (h x (List.mem_cons_self ..)) u z]
      simp
    · have hx' : x.sameKey k = false := by simpa using hx
      have hne : k ≠ x := by
        rintro rfl
        rw [WideAt.sameKey_self (h k (List.mem_cons_self ..))] at hx'
        cases hx'
      simp only [List.any_cons, hx', Bool.false_or, atKey_put_other hne]
theorem atKey_setOf (u : DataW H) (k : Lit) (z : DataW H) (acc : List Lit) (h : ∀ x ∈ acc, WideAt.IsKeyLit x) : (setOf u acc).atKey k z = if acc.any (fun x => x.sameKey k) then u else z := by
  unfold setOf
  rw [atKey_fold u k z acc _ isMap_empty h]
  rfl
end

def keys (l : List Ent) : List Lit := l.map fun e => Lit.string e.text.data.toList
theorem keys_isKey (l : List Ent) : ∀ x ∈ keys l, WideAt.IsKeyLit x := by
  intro x hx
  obtain ⟨e, _, rfl⟩ := List.mem_map.1 hx
  trivial
def seenD (l : List Ent) : DataW Unit := setOf (.lit (.bool true)) (keys l)
def seenB (l : List Ent) (t : ByteArray) : Bool := l.any fun e => eqT e.text t
theorem eqT_key (a b : ByteArray) : (Lit.string a.data.toList).sameKey (.string b.data.toList) = eqT a b := by
  simp only [Lit.sameKey, eqT, ByteArray.toList_eq]
theorem seen_at (l : List Ent) (t : ByteArray) : (seenD l).atKey (.string t.data.toList) (.lit (.bool false)) = .lit (.bool (seenB l t)) := by
  unfold seenD seenB
  rw [atKey_setOf _ _ _ _ (keys_isKey l)]
  have : (keys l).any (fun x => x.sameKey (.string t.data.toList)) = l.any fun e => eqT e.text t := by
    unfold keys
    rw [List.any_map]
    congr 1
    funext e
    exact eqT_key _ _
  rw [this]
  cases l.any fun e => eqT e.text t <;> rfl
theorem seen_snoc (l : List Ent) (k : Nat) (hk : k < l.length) : seenD (l.take (k + 1)) = (seenD (l.take k)).put (.string l[k].text.data.toList) (.lit (.bool true)) := by
  unfold seenD keys
  rw [List.take_succ_eq_append_getElem hk, List.map_append]
  exact setOf_snoc _ _ _

theorem law9 : Keyed Try.prog 9 := string_keyed Try.underlying9
theorem zero4 (w : World) : (zeroValue 4).run Try.prog w = .ok (.bool false) w := by kernel_rfl

theorem look_seen {w : World} {B n : Nat} {l : List Ent} (h : w.ownsMap Try.prog 9 (plainElem Try.prog 4) B n (seenD l)) (t : ByteArray) (ht : t.size ≤ maxLen) :
    (Instr.lookup 39 (.map (some B)) (.string t) false).run Try.prog w = .ok (.bool (seenB l t)) w := by
  obtain ⟨v, ps, hrun, hv⟩ := h.lookup law9 Try.underlying39 (zero4 w) (plainElem_bool Try.underlying4 false) (Go.WideMaps.keyOf_string_mk Try.underlying9 ht)
  rw [hrun]
  rw [seen_at] at hv
  unfold plainElem at hv
  rw [Try.underlying4] at hv
  cases v <;> simp at hv
  rw [hv.1]

/-- the entry at i is proper and no earlier one has its text -/
def okAt (l : List Ent) (i : Nat) : Bool := match l[i]? with | none => true | some e => proper e && !seenB (l.take i) e.text
def validB (l : List Ent) : Bool := decide (l.length ≤ 200) && (List.range l.length).all (okAt l)
theorem okAt_eq (l : List Ent) (i : Nat) (h : i < l.length) : okAt l i = (proper l[i] && !seenB (l.take i) l[i].text) := by
  unfold okAt; rw [List.getElem?_eq_getElem h]
theorem valid_long (l : List Ent) (h : 200 < l.length) : validB l = false := by
  unfold validB
  rw [decide_eq_false (by omega), Bool.false_and]
theorem valid_no (l : List Ent) (i : Nat) (hi : i < l.length) (h : okAt l i = false) : validB l = false := by
  unfold validB
  have : (List.range l.length).all (okAt l) = false := List.all_eq_false.2 ⟨i, List.mem_range.2 hi, by simp [h]⟩
  rw [this, Bool.and_false]
theorem valid_end (l : List Ent) (h : ∀ i, i < l.length → okAt l i = true) : validB l = decide (l.length ≤ 200) := by
  unfold validB
  have : (List.range l.length).all (okAt l) = true := List.all_eq_true.2 fun i hi => h i (List.mem_range.1 hi)
  rw [this, Bool.and_true]
theorem seen_take_no (l : List Ent) (i : Nat) (t : ByteArray) (h : ∀ j e, j < i → l[j]? = some e → eqT e.text t = false) : seenB (l.take i) t = false := by
  unfold seenB
  rw [List.any_eq_false]
  intro e he
  obtain ⟨j, hj, rfl⟩ := List.mem_iff_getElem.1 he
  rw [List.length_take] at hj
  have hj' : j < l.length := by omega
  have := h j l[j] (by omega) (List.getElem?_eq_getElem hj')
  simp [this]
theorem seen_take_yes (l : List Ent) (i : Nat) (t : ByteArray) (j : Nat) (hj : j < i) (hjl : j < l.length) (h : eqT l[j].text t = true) : seenB (l.take i) t = true := by
  unfold seenB
  rw [List.any_eq_true]
  refine ⟨l[j], ?_, h⟩
  have : l[j] = (l.take i)[j]'(by rw [List.length_take]; omega) := by simp
  rw [this]; exact List.getElem_mem _
end Go.Proofs.Ythhnbfndmjpdgaa
