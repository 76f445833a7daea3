/- Plain: what a term means under an assignment of its names; substitution. -/
import Derived.Test.YtkjhfbgdmmnadaaGreatPlC
namespace Go.Proofs.YtkjhfbgdmmnadaaGreat

def lvl (k : Nat) : T := .mk 7 (List.replicate k 0) [] [] []
def vrT (x : W8) : T := .mk 2 x [] [] []
def upd (ρ : W8 → Nat → T) (v : W8) (a : Nat → T) : W8 → Nat → T := fun x => if x = v then a else ρ x
theorem upd_same (ρ : W8 → Nat → T) (v : W8) (a : Nat → T) : upd ρ v a v = a := if_pos rfl
theorem upd_other (ρ : W8 → Nat → T) (v : W8) (a : Nat → T) {x : W8} (h : x ≠ v) : upd ρ v a x = ρ x := if_neg h
mutual
def sem (ρ : W8 → Nat → T) (d : Nat) : T → T
  | .mk k n v ys f => if k = 2 then ρ n d else .mk k n [] (sems ρ d k v ys) f
def sems (ρ : W8 → Nat → T) (d : Nat) (k : Int) (v : W8) : List T → List T
  | [] => []
  | t :: ts => (if k = 5 ∧ ts.length = 0 then sem (upd ρ v fun _ => lvl d) (d + 1) t else sem ρ d t) :: sems ρ d k v ts
end
theorem sem_eq (ρ : W8 → Nat → T) (d : Nat) (t : T) : sem ρ d t = if t.kind = 2 then ρ t.name d else .mk t.kind t.name [] (sems ρ d t.kind t.var t.args) t.form := by
  cases t with
  | mk k n v ys f => rw [sem]; rfl
mutual
theorem sem_congr (ρ ρ' : W8 → Nat → T) (d : Nat) (t : T) (h : ∀ x ∈ frL t, ρ x = ρ' x) : sem ρ d t = sem ρ' d t := by
  cases t with
  | mk k n v ys f =>
    rw [sem, sem]
    split
    · rename_i hk
      rw [h n ((mem_frL _).2 (.inl ⟨hk, rfl⟩))]
    · rename_i hk
      rw [sems_congr ρ ρ' d k v ys (fun x hx => h x ((mem_frL _).2 (.inr ⟨hk, hx⟩)))]
theorem sems_congr (ρ ρ' : W8 → Nat → T) (d : Nat) (k : Int) (v : W8) (ts : List T) (h : ∀ x, inArgs k v x ts → ρ x = ρ' x) : sems ρ d k v ts = sems ρ' d k v ts := by
  cases ts with
  | nil => rw [sems, sems]
  | cons t ts =>
    rw [sems, sems, sems_congr ρ ρ' d k v ts (fun x hx => h x (by rw [inArgs]; exact .inr hx))]
    congr 1
    split
    · rename_i hl
      refine sem_congr _ _ _ t (fun x hx => ?_)
      by_cases e : x = v
      · rw [e, upd_same, upd_same]
      · rw [upd_other _ _ _ e, upd_other _ _ _ e]
        exact h x (by rw [inArgs]; exact .inl ⟨hx, fun h' => e h'.2.2⟩)
    · rename_i hl
      exact sem_congr _ _ _ t (fun x hx => h x (by rw [inArgs]; exact .inl ⟨hx, fun h' => hl ⟨h'.1, h'.2.1⟩⟩))
end
/-- the arguments with a function applied to each, another one to the scope -/
def subsF (g h : T → T) (k : Int) : List T → List T
  | [] => []
  | t :: ts => (if k = 5 ∧ ts.length = 0 then h t else g t) :: subsF g h k ts
def varF (h : T → W8) (k : Int) (v : W8) : List T → W8
  | [] => v
  | t :: ts => if k = 5 ∧ ts.length = 0 then h t else varF h k v ts
/-- the bound variable and the scope behind a substitution -/
def scp (S : T → W8 → T → T) (v : W8) (s : T) (x : W8) (b : T) : W8 × T :=
  if v = x ∨ x ∉ frL s then (v, s)
  else if v ∉ frL b then (v, S s x b)
  else (freshL (frL s ++ frL b ++ [x]), S (S s v (vrT (freshL (frL s ++ frL b ++ [x])))) x b)
def sub : Nat → T → W8 → T → T
  | 0, t, _, _ => t
  | N + 1, t, x, b => if t.kind = 2 ∧ t.name = x then b else
    .mk t.kind t.name (varF (fun s => (scp (sub N) t.var s x b).1) t.kind t.var t.args) (subsF (fun u => sub N u x b) (fun s => (scp (sub N) t.var s x b).2) t.kind t.args) t.form
theorem subsF_len (g h : T → T) (k : Int) : ∀ ts : List T, (subsF g h k ts).length = ts.length
  | [] => rfl
  | t :: ts => by rw [subsF, List.length_cons, subsF_len g h k ts, List.length_cons]
theorem subsF_sizes (g h : T → T) (k : Int) : ∀ ts : List T, (∀ u ∈ ts, (g u).size ≤ u.size ∧ (h u).size ≤ u.size) → sizes (subsF g h k ts) ≤ sizes ts
  | [], _ => by rw [subsF]; exact Nat.le_refl _
  | t :: ts, hh => by
    have ih := subsF_sizes g h k ts (fun u hu => hh u (List.mem_cons_of_mem _ hu))
    have h1 := hh t List.mem_cons_self
    rw [subsF, sizes, sizes]
    split <;> omega
theorem vrT_size (x : W8) : (vrT x).size = 1 := by unfold vrT; rw [T.size, sizes]
/-- a name in the place of a name makes no term larger -/
theorem sub_var_size : ∀ (N : Nat) (t : T) (x : W8) (w : W8), (sub N t x (vrT w)).size ≤ t.size
  | 0, t, x, w => by rw [sub]; exact Nat.le_refl _
  | N + 1, t, x, w => by
    have ih := sub_var_size N
    rw [sub]
    split
    · rw [vrT_size]; exact size_pos t
    · rw [T.size, size_eq t]
      have := subsF_sizes (fun u => sub N u x (vrT w)) (fun s => (scp (sub N) t.var s x (vrT w)).2) t.kind t.args (fun u _ => ⟨ih u x w, by
        unfold scp
        split
        · exact Nat.le_refl _
        · split
          · exact ih u x w
          · exact Nat.le_trans (ih _ x w) (ih u _ _)⟩)
      omega
theorem frs_len3 (s b : T) (x : W8) (h : s.size + b.size ≤ 2700) : (frL s ++ frL b ++ [x]).length ≤ 2755 := by
  have := frL_len s
  have := frL_len b
  simp only [List.length_append, List.length_cons, List.length_nil]; omega
theorem sems_subsF (ρ ρ' : W8 → Nat → T) (d : Nat) (k : Int) (v : W8) (g h : T → T) (hv : T → W8) : ∀ ts : List T,
    (∀ u ∈ ts, sem ρ d (g u) = sem ρ' d u) → (k = 5 → ∀ u ∈ ts, sem (upd ρ (hv u) fun _ => lvl d) (d + 1) (h u) = sem (upd ρ' v fun _ => lvl d) (d + 1) u) →
    sems ρ d k (varF hv k v ts) (subsF g h k ts) = sems ρ' d k v ts
  | [], _, _ => by rw [subsF, sems, sems]
  | t :: ts, h1, h2 => by
    have ih := sems_subsF ρ ρ' d k v g h hv ts (fun u hu => h1 u (List.mem_cons_of_mem _ hu)) (fun hk u hu => h2 hk u (List.mem_cons_of_mem _ hu))
    rw [subsF, sems, sems, subsF_len]
    by_cases hl : k = 5 ∧ ts.length = 0
    · have e : ts = [] := List.eq_nil_of_length_eq_zero hl.2
      subst e
      rw [if_pos hl, if_pos hl, if_pos hl, varF, if_pos hl, subsF, sems, sems, h2 hl.1 t List.mem_cons_self]
    · rw [if_neg hl, if_neg hl, if_neg hl, varF, if_neg hl, ih, h1 t List.mem_cons_self]
theorem upd_comm (ρ : W8 → Nat → T) {x y : W8} (a b : Nat → T) (h : x ≠ y) : upd (upd ρ x a) y b = upd (upd ρ y b) x a := by
  funext z
  unfold upd
  by_cases h1 : z = y
  · by_cases h2 : z = x
    · exact absurd (h2.symm.trans h1) h
    · rw [if_pos h1, if_neg h2, if_pos h1]
  · rw [if_neg h1]
    by_cases h2 : z = x
    · rw [if_pos h2, if_pos h2]
    · rw [if_neg h2, if_neg h2, if_neg h1]
/-- THE LAW OF SUBSTITUTION -/
theorem sub_sem : ∀ (N : Nat) (t : T) (x : W8) (b : T) (ρ : W8 → Nat → T) (d : Nat), t.size ≤ N → t.size + b.size ≤ 2700 →
    sem ρ d (sub N t x b) = sem (upd ρ x fun j => sem ρ j b) d t
  | 0, t, x, b, ρ, d, h, _ => by have := size_pos t; omega
  | N + 1, t, x, b, ρ, d, h, hb => by
    have ih := sub_sem N
    rw [sub]
    by_cases hx : t.kind = 2 ∧ t.name = x
    · rw [if_pos hx, sem_eq _ _ t, if_pos hx.1, hx.2, upd_same]
    · rw [if_neg hx, sem_eq _ _ t, sem]
      by_cases hk : t.kind = 2
      · rw [if_pos hk, if_pos hk, upd_other _ _ _ (fun e => hx ⟨hk, e⟩)]
      · rw [if_neg hk, if_neg hk]
        congr 1
        have hsz : ∀ u ∈ t.args, u.size ≤ N ∧ u.size + b.size ≤ 2700 := fun u hu => by have := size_arg hu; omega
        refine sems_subsF ρ _ d t.kind t.var (fun u => sub N u x b) (fun s => (scp (sub N) t.var s x b).2) (fun s => (scp (sub N) t.var s x b).1) t.args (fun u hu => ih u x b ρ d (hsz u hu).1 (hsz u hu).2) (fun _ s hs => ?_)
        obtain ⟨hs1, hs2⟩ := hsz s hs
        generalize t.var = v
        show sem (upd ρ (scp (sub N) v s x b).1 fun _ => lvl d) (d + 1) (scp (sub N) v s x b).2 = _
        unfold scp
        by_cases c1 : v = x ∨ x ∉ frL s
        · rw [if_pos c1]
          refine sem_congr _ _ _ s (fun y hy => ?_)
          show upd ρ v (fun _ => lvl d) y = _
          by_cases e : y = v
          · rw [e, upd_same, upd_same]
          · rw [upd_other _ _ _ e, upd_other _ _ _ e]
            rcases c1 with c1 | c1
            · rw [upd_other _ _ _ (fun e' => e (e'.trans c1.symm))]
            · rw [upd_other _ _ _ (show y ≠ x from fun e' => c1 (by rw [← e']; exact hy))]
        · rw [if_neg c1]
          have hvx : v ≠ x := fun e => c1 (.inl e)
          by_cases c2 : v ∉ frL b
          · rw [if_pos c2]
            show sem (upd ρ v fun _ => lvl d) (d + 1) (sub N s x b) = _
            have e : (fun j => sem (upd ρ v fun _ => lvl d) j b) = fun j => sem ρ j b := by
              funext j
              exact sem_congr _ _ _ b (fun y hy => upd_other _ _ _ (show y ≠ v from fun e => c2 (by rw [← e]; exact hy)))
            rw [ih s x b _ _ hs1 hs2, e, upd_comm _ _ _ hvx]
          · rw [if_neg c2]
            have hl := frs_len3 s b x hs2
            have hw := fresh_not _ hl
            generalize freshL (frL s ++ frL b ++ [x]) = w at *
            simp only [List.mem_append, List.mem_singleton, not_or] at hw
            obtain ⟨⟨hws, hwb⟩, hwx⟩ := hw
            show sem (upd ρ w fun _ => lvl d) (d + 1) (sub N (sub N s v (vrT w)) x b) = _
            have hr := sub_var_size N s v w
            rw [ih _ x b _ _ (by omega) (by omega), ih s v (vrT w) _ _ hs1 (by rw [vrT_size]; have := size_pos b; omega)]
            refine sem_congr _ _ _ s (fun y hy => ?_)
            by_cases e : y = v
            · rw [e, upd_same, upd_same]
              funext j
              unfold vrT
              rw [sem, if_pos rfl, upd_other _ _ _ hwx, upd_same]
            · rw [upd_other _ _ _ e, upd_other _ _ _ e]
              by_cases e2 : y = x
              · rw [e2, upd_same, upd_same]
                funext j
                exact sem_congr _ _ _ b (fun z hz => upd_other _ _ _ (show z ≠ w from fun e' => hwb (by rw [← e']; exact hz)))
              · rw [upd_other _ _ _ e2, upd_other _ _ _ e2, upd_other _ _ _ (show y ≠ w from fun e' => hws (by rw [← e']; exact hy))]
theorem subsF_wf (g h : T → T) (k : Int) : ∀ ts : List T, (∀ u ∈ ts, WF (g u)) → (k = 5 → ∀ u ∈ ts, WF (h u)) → WFs (subsF g h k ts)
  | [], _, _ => by rw [subsF, WFs]; trivial
  | t :: ts, h1, h2 => by
    rw [subsF, WFs]
    refine ⟨?_, subsF_wf g h k ts (fun u hu => h1 u (List.mem_cons_of_mem _ hu)) (fun hk u hu => h2 hk u (List.mem_cons_of_mem _ hu))⟩
    split
    · rename_i hl; exact h2 hl.1 t List.mem_cons_self
    · exact h1 t List.mem_cons_self
theorem varF_ident (h : T → W8) (k : Int) (v : W8) : ∀ ts : List T, (v = [] ∨ identB v = true) → (k = 5 → ∀ u ∈ ts, identB (h u) = true) → (k = 5 → identB v = true) → (k = 5 → identB (varF h k v ts) = true) ∧ (k ≠ 5 → varF h k v ts = v)
  | [], _, _, h3 => ⟨fun hk => by rw [varF]; exact h3 hk, fun _ => by rw [varF]⟩
  | t :: ts, h1, h2, h3 => by
    have ih := varF_ident h k v ts h1 (fun hk u hu => h2 hk u (List.mem_cons_of_mem _ hu)) h3
    rw [varF]
    split
    · rename_i hl; exact ⟨fun _ => h2 hl.1 t List.mem_cons_self, fun hk => absurd hl.1 hk⟩
    · exact ih
theorem own_of {t : T} (h : ownB t = true) (v : W8) (ys : List T) (hl : ys.length = t.args.length) (h5 : t.kind = 5 → identB v = true) (hn : t.kind ≠ 5 → v = t.var) : ownB (.mk t.kind t.name v ys t.form) = true := by
  have he : ys.isEmpty = t.args.isEmpty := by
    cases ys with
    | nil => cases hh : t.args with
      | nil => rfl
      | cons a l => rw [hh] at hl; simp at hl
    | cons b m => cases hh : t.args with
      | nil => rw [hh] at hl; simp at hl
      | cons a l => rfl
  by_cases hk : t.kind = 5
  · have hv := h5 hk
    unfold ownB at h ⊢
    unfold formB at h ⊢
    rw [if_neg (by omega), if_neg (by omega), if_neg (by omega), if_neg (by omega), if_pos hk] at h
    show (if t.kind = 1 then _ else if t.kind = 2 then _ else if t.kind = 3 then _ else if t.kind = 4 then _ else if t.kind = 5 then _ else _) = true
    rw [if_neg (by omega), if_neg (by omega), if_neg (by omega), if_neg (by omega), if_pos hk]
    show (okS 33 t.form && decide (t.form.length ≤ 16) && wordB t.name && identB v && !ys.isEmpty) = true
    simp only [Bool.and_eq_true] at h ⊢
    exact ⟨⟨h.1.1, hv⟩, by rw [he]; exact h.2⟩
  · rw [hn hk]
    have e : ownB (.mk t.kind t.name t.var ys t.form) = ownB t := by
      unfold ownB leafB formB
      show (if t.kind = 1 then t.var.isEmpty && (t.form.isEmpty && ys.isEmpty) && numB t.name else if t.kind = 2 then t.var.isEmpty && (t.form.isEmpty && ys.isEmpty) && identB t.name else if t.kind = 3 then t.var.isEmpty && (t.form.isEmpty && ys.isEmpty) && (okS 32 t.name && decide (t.name.length ≤ 200)) else if t.kind = 4 then okS 33 t.form && decide (t.form.length ≤ 16) && wordB t.name && t.var.isEmpty else if t.kind = 5 then okS 33 t.form && decide (t.form.length ≤ 16) && wordB t.name && identB t.var && !ys.isEmpty else false) = _
      rw [he]
    rw [e]; exact h
theorem vrT_wf {w : W8} (h : identB w = true) : WF (vrT w) := by
  refine WF.of ?_ (by unfold vrT; rw [T.args, WFs]; trivial)
  unfold vrT ownB leafB
  show (if (2 : Int) = 1 then _ else if (2 : Int) = 2 then _ else _) = true
  rw [if_neg (by decide), if_pos rfl]
  simp [T.var, T.form, T.args, T.name, h]
theorem own_nonbind {t : T} (h : ownB t = true) (hk : t.kind ≠ 5) : t.var = [] := by
  unfold ownB at h
  unfold leafB at h
  split at h
  · simp at h; exact h.1.1
  · split at h
    · simp at h; exact h.1.1
    · split at h
      · simp at h; exact h.1.1
      · split at h
        · simp at h; exact h.2
        · cases h
theorem sub_wf : ∀ (N : Nat) (t : T) (x : W8) (b : T), WF t → WF b → t.size + b.size ≤ 2700 → WF (sub N t x b)
  | 0, t, x, b, h, _, _ => by rw [sub]; exact h
  | N + 1, t, x, b, h, hb, hz => by
    have ih := sub_wf N
    have hp := h.parts
    have hsz : ∀ u ∈ t.args, u.size + b.size ≤ 2700 := fun u hu => by have := size_arg hu; omega
    rw [sub]
    split
    · exact hb
    · have hv1 : t.var = [] ∨ identB t.var = true := by
        by_cases hk : t.kind = 5
        · exact .inr (own_bind hp.1 hk).1
        · exact .inl (own_nonbind hp.1 hk)
      have hs : t.kind = 5 → ∀ u ∈ t.args, identB (scp (sub N) t.var u x b).1 = true ∧ WF (scp (sub N) t.var u x b).2 := fun hk u hu => by
        have hiv := (own_bind hp.1 hk).1
        have hwu := hp.2.mem hu
        unfold scp
        split
        · exact ⟨hiv, hwu⟩
        · split
          · exact ⟨hiv, ih u x b hwu hb (hsz u hu)⟩
          · have hid := fresh_ident _ (frs_len3 u b x (hsz u hu))
            refine ⟨hid, ih _ x b (ih u _ _ hwu (vrT_wf hid) ?_) hb ?_⟩
            · rw [vrT_size]; have := hsz u hu; have := size_pos b; omega
            · have := hsz u hu; have := sub_var_size N u t.var (freshL (frL u ++ frL b ++ [x])); omega
      have hvf := varF_ident (fun s => (scp (sub N) t.var s x b).1) t.kind t.var t.args hv1 (fun hk u hu => (hs hk u hu).1) (fun hk => (own_bind hp.1 hk).1)
      rw [WF]
      exact ⟨own_of hp.1 _ _ (subsF_len _ _ _ _) hvf.1 hvf.2, subsF_wf _ _ _ _ (fun u hu => ih u x b (hp.2.mem hu) hb (hsz u hu)) (fun hk u hu => (hs hk u hu).2)⟩
end Go.Proofs.YtkjhfbgdmmnadaaGreat
