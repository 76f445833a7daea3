/- EvaluateForms, plain: a term without forms in the environment of its free identifiers has the same value. No program. -/
import Derived.Test.YtknpigdpepmimaaGreatDoorM37
namespace Go.Proofs.YtknpigdpepmimaaGreatDoor
/-- the pairs whose names are in a list, in the reversed order -/
def selE (l : List W8) (E : Sc) : Sc := (E.reverse).filter fun p => hasB l p.1
theorem selE_step (l : List W8) (E : Sc) (i : Nat) (h : i < E.length) : selE l (E.drop i) = selE l (E.drop (i + 1)) ++ if hasB l E[i].1 = true then [E[i]] else [] := by
  unfold selE
  rw [List.drop_eq_getElem_cons h, List.reverse_cons, List.filter_append]
  by_cases hh : hasB l E[i].1 = true
  · rw [if_pos hh]; simp [hh]
  · rw [if_neg hh]; simp [hh]
theorem lookup_iff : ∀ (E : Sc), (E.map (·.1)).Nodup → ∀ (x : W8) (v : V), E.lookup x = some v ↔ (x, v) ∈ E
  | [], _, x, v => by simp
  | (y, u) :: E, h, x, v => by
    rw [List.map_cons, List.nodup_cons] at h
    rw [List.lookup_cons]
    by_cases hx : x = y
    · subst hx
      rw [show (x == x) = true by simp]
      constructor
      · intro e
        rw [Option.some.inj e]
        exact List.mem_cons_self
      · intro e
        rcases List.mem_cons.1 e with e | e
        · rw [(Prod.mk.inj e).2]
        · exact absurd (List.mem_map.2 ⟨_, e, rfl⟩) h.1
    · rw [show (x == y) = false by simpa using hx]
      show E.lookup x = some v ↔ _
      rw [lookup_iff E h.2 x v]
      constructor
      · exact fun e => List.mem_cons_of_mem _ e
      · intro e
        rcases List.mem_cons.1 e with e | e
        · exact absurd (Prod.mk.inj e).1 hx
        · exact e
theorem lookup_same {E E' : Sc} (h : (E.map (·.1)).Nodup) (h' : (E'.map (·.1)).Nodup) {x : W8} (hm : ∀ v, (x, v) ∈ E ↔ (x, v) ∈ E') : E.lookup x = E'.lookup x := by
  have h1 := lookup_iff E h x
  have h2 := lookup_iff E' h' x
  cases hl : E.lookup x with
  | none =>
    cases hl' : E'.lookup x with
    | none => rfl
    | some v => rw [(h1 v).2 ((hm v).2 ((h2 v).1 hl'))] at hl; cases hl
  | some v => rw [(h2 v).2 ((hm v).1 ((h1 v).1 hl))]
theorem envOk_sel {E : Sc} (h : envOkB E = true) (l : List W8) : envOkB (selE l E) = true := by
  unfold envOkB at h ⊢
  rw [Bool.and_eq_true, List.all_eq_true, decide_eq_true_eq] at h
  rw [Bool.and_eq_true, List.all_eq_true, decide_eq_true_eq]
  refine ⟨fun x hx => h.1 x (List.mem_reverse.1 (List.mem_filter.1 hx).1), ?_⟩
  have h2 : ((E.reverse).map (·.1)).Nodup := by rw [List.map_reverse]; exact List.pairwise_reverse.2 (List.Pairwise.imp (fun h => h.symm) h.2)
  exact h2.sublist ((List.filter_sublist).map _)
theorem lk_sel {E : Sc} (h : envOkB E = true) (l : List W8) {x : W8} (hx : hasB l x = true) : lkR (selE l E) x = lkR E x := by
  have h' := envOk_sel h l
  unfold envOkB at h h'
  rw [Bool.and_eq_true, decide_eq_true_eq] at h h'
  unfold lkR lookR
  dsimp only
  rw [lookup_same h'.2 h.2 fun v => ?_]
  unfold selE
  rw [List.mem_filter, List.mem_reverse]
  exact ⟨fun e => e.1, fun e => ⟨e, hx⟩⟩
theorem selE_len (l : List W8) (E : Sc) : (selE l E).length ≤ E.length := by
  unfold selE
  exact Nat.le_trans (List.length_filter_le _ _) (Nat.le_of_eq (List.length_reverse))
theorem zip_fst_snd (E : Sc) : (E.map (·.1)).zip (E.map (·.2)) = E := by
  induction E with
  | nil => rfl
  | cons p E ih => rw [List.map_cons, List.map_cons, List.zip_cons_cons, ih]
theorem zip_fst {α β : Type} (a : List α) (b : List β) (h : a.length = b.length) : (a.zip b).map (·.1) = a := by
  rw [List.map_fst_zip (by omega)]
theorem zip_len {ns : List W8} {vs : List V} (h : ns.length = vs.length) : (ns.zip vs).length = ns.length := by rw [List.length_zip]; omega
theorem envB_of {E : Sc} (h : envOkB E = true) (hl : E.length ≤ 100) : envB (E.map (·.1)) (E.map (·.2)) = true := by
  unfold envB
  rw [zip_fst_snd, h, Bool.and_true, decide_eq_true_eq, List.length_map, List.length_map]
  exact ⟨rfl, hl⟩
theorem envB_parts {ns : List W8} {vs : List V} (h : envB ns vs = true) : (ns.length = vs.length ∧ ns.length ≤ 100) ∧ envOkB (ns.zip vs) = true := by
  unfold envB at h
  rw [Bool.and_eq_true, decide_eq_true_eq] at h
  exact h
theorem lk_mem {E : Sc} (h : envOkB E = true) {x : W8} {v : V} (hm : (x, v) ∈ E) : lkR E x = okR v := by
  unfold envOkB at h
  rw [Bool.and_eq_true, decide_eq_true_eq] at h
  unfold lkR lookR
  dsimp only
  rw [(lookup_iff E h.2 x v).2 hm]
/-- other valid values -/
theorem envB_vals {ns : List W8} {vs vs' : List V} (h : envB ns vs = true) (hl : vs'.length = vs.length) (ho : ∀ x ∈ vs', x.ok) : envB ns vs' = true := by
  obtain ⟨⟨h1, h2⟩, h3⟩ := envB_parts h
  unfold envOkB at h3
  rw [Bool.and_eq_true, List.all_eq_true, decide_eq_true_eq, zip_fst _ _ h1] at h3
  unfold envB envOkB
  rw [Bool.and_eq_true, decide_eq_true_eq, Bool.and_eq_true, List.all_eq_true, decide_eq_true_eq, zip_fst _ _ (by omega)]
  refine ⟨⟨by omega, h2⟩, fun p hp => ?_, h3.2⟩
  rw [Bool.and_eq_true]
  refine ⟨?_, (V.okB_iff _).2 (ho _ (List.of_mem_zip hp).2)⟩
  have hm := (List.of_mem_zip hp).1
  rw [← zip_fst ns vs h1] at hm
  obtain ⟨q, hq, e⟩ := List.mem_map.1 hm
  have := h3.1 q hq
  rw [Bool.and_eq_true] at this
  rw [← e]
  exact this.1
theorem envB_ident {ns : List W8} {vs : List V} (h : envB ns vs = true) : ∀ x ∈ ns, identB x = true := fun x hx => by
  obtain ⟨⟨h1, h2⟩, h3⟩ := envB_parts h
  unfold envOkB at h3
  rw [Bool.and_eq_true, List.all_eq_true] at h3
  rw [← zip_fst ns vs h1] at hx
  obtain ⟨q, hq, rfl⟩ := List.mem_map.1 hx
  have := h3.1 q hq
  rw [Bool.and_eq_true] at this
  exact this.1
theorem envB_val {ns : List W8} {vs : List V} (h : envB ns vs = true) : ∀ x ∈ vs, x.ok := fun x hx => by
  obtain ⟨⟨h1, h2⟩, h3⟩ := envB_parts h
  unfold envOkB at h3
  rw [Bool.and_eq_true, List.all_eq_true] at h3
  rw [← List.map_snd_zip (l₁ := ns) (l₂ := vs) (by omega)] at hx
  obtain ⟨q, hq, rfl⟩ := List.mem_map.1 hx
  have := h3.1 q hq
  rw [Bool.and_eq_true] at this
  exact (V.okB_iff _).1 this.2
theorem valid_bare {t : T} (h : validB t = true) : validB (bareT t) = true := by
  have h1 := (valid_iff t).1 h
  exact (valid_iff _).2 ⟨wf_bare t h1.1, by rw [size_bare]; exact h1.2⟩
theorem valueR_forms {t : T} {ns : List W8} {vs : List V} (ht : validB t = true) (he : envB ns vs = true) : valueR (bareT t) ((selE (frL t) (ns.zip vs)).map (·.1)) ((selE (frL t) (ns.zip vs)).map (·.2)) = valueR t ns vs := by
  obtain ⟨⟨h1, h2⟩, h3⟩ := envB_parts he
  have hE := envB_of (envOk_sel h3 (frL t)) (Nat.le_trans (selE_len _ _) (by rw [zip_len h1]; exact h2))
  unfold valueR
  rw [if_pos hE, if_pos (valid_bare ht), if_pos he, if_pos ht, zip_fst_snd]
  rw [ev_bare, ev_congr t.size t (Nat.le_refl _) (selE (frL t) (ns.zip vs)) (ns.zip vs) fun x hx => lk_sel h3 _ (by unfold hasB; exact List.contains_iff_mem.2 hx)]
end Go.Proofs.YtknpigdpepmimaaGreatDoor
