/- Plain: the free names of a substitution; alpha-equivalence by meaning. -/
import Derived.Test.YtkjhfbgdmmnadaaPlD
namespace Go.Proofs.Ytkjhfbgdmmnadaa

theorem inArgs_subsF (k : Int) (v x y : W8) (b : T) (g h : T → T) (hv : T → W8) : ∀ ts : List T,
    (∀ u ∈ ts, (y ∈ frL (g u) ↔ (y ∈ frL u ∧ y ≠ x) ∨ (x ∈ frL u ∧ y ∈ frL b))) →
    (k = 5 → ∀ u ∈ ts, ((y ∈ frL (h u) ∧ y ≠ hv u) ↔ ((y ∈ frL u ∧ y ≠ v) ∧ y ≠ x) ∨ ((x ∈ frL u ∧ x ≠ v) ∧ y ∈ frL b))) →
    (inArgs k (varF hv k v ts) y (subsF g h k ts) ↔ (inArgs k v y ts ∧ y ≠ x) ∨ (inArgs k v x ts ∧ y ∈ frL b))
  | [], _, _ => by rw [subsF]; simp [inArgs]
  | t :: ts, h1, h2 => by
    have ih := inArgs_subsF k v x y b g h hv ts (fun u hu => h1 u (List.mem_cons_of_mem _ hu)) (fun hk u hu => h2 hk u (List.mem_cons_of_mem _ hu))
    have a1 := h1 t List.mem_cons_self
    have a2 := fun hk => h2 hk t List.mem_cons_self
    rw [subsF, inArgs, inArgs, inArgs, subsF_len]
    by_cases hl : k = 5 ∧ ts.length = 0
    · have e : ts = [] := List.eq_nil_of_length_eq_zero hl.2
      subst e
      have a3 := a2 hl.1
      rw [if_pos hl, varF, if_pos hl, subsF]
      simp only [inArgs, or_false, hl.1, List.length_nil, true_and]
      exact a3
    · rw [if_neg hl, varF, if_neg hl, ih, a1]
      have e1 : ∀ z : W8, ∀ p : W8, ¬ (k = 5 ∧ ts.length = 0 ∧ z = p) := fun z p h' => hl ⟨h'.1, h'.2.1⟩
      simp only [e1, not_false_eq_true, and_true]
      constructor
      · rintro ((⟨h3, h4⟩ | ⟨h3, h4⟩) | (⟨h3, h4⟩ | ⟨h3, h4⟩))
        · exact .inl ⟨.inl h3, h4⟩
        · exact .inr ⟨.inl h3, h4⟩
        · exact .inl ⟨.inr h3, h4⟩
        · exact .inr ⟨.inr h3, h4⟩
      · rintro (⟨h3 | h3, h4⟩ | ⟨h3 | h3, h4⟩)
        · exact .inl (.inl ⟨h3, h4⟩)
        · exact .inr (.inl ⟨h3, h4⟩)
        · exact .inl (.inr ⟨h3, h4⟩)
        · exact .inr (.inr ⟨h3, h4⟩)
/-- THE FREE NAMES OF A SUBSTITUTION -/
theorem mem_sub : ∀ (N : Nat) (t : T) (x y : W8) (b : T), t.size ≤ N → t.size + b.size ≤ 2700 →
    (y ∈ frL (sub N t x b) ↔ (y ∈ frL t ∧ y ≠ x) ∨ (x ∈ frL t ∧ y ∈ frL b))
  | 0, t, x, y, b, h, _ => by have := size_pos t; omega
  | N + 1, t, x, y, b, h, hz => by
    have ih := mem_sub N
    rw [sub]
    by_cases hx : t.kind = 2 ∧ t.name = x
    · rw [if_pos hx, mem_frL t, mem_frL t]
      simp only [hx.1, hx.2, true_and, ne_eq, not_true, false_and, or_false]
      constructor
      · intro h; exact .inr h
      · rintro (⟨h1, h2⟩ | h2)
        · exact absurd h1 h2
        · exact h2
    · rw [if_neg hx, mem_frL]
      show (t.kind = 2 ∧ y = t.name ∨ t.kind ≠ 2 ∧ inArgs t.kind (varF _ t.kind t.var t.args) y (subsF _ _ t.kind t.args)) ↔ _
      by_cases hk : t.kind = 2
      · have hn : t.name ≠ x := fun e => hx ⟨hk, e⟩
        rw [mem_frL t, mem_frL t]
        simp only [hk, true_and, ne_eq, not_true, false_and, or_false]
        constructor
        · rintro rfl; exact .inl ⟨rfl, hn⟩
        · rintro (⟨h1, _⟩ | ⟨h1, _⟩)
          · exact h1
          · exact absurd h1.symm hn
      · have hsz : ∀ u ∈ t.args, u.size ≤ N ∧ u.size + b.size ≤ 2700 := fun u hu => by have := size_arg hu; omega
        rw [mem_frL t, mem_frL t]
        simp only [hk, false_and, false_or, ne_eq, not_false_eq_true, true_and]
        refine inArgs_subsF t.kind t.var x y b (fun u => sub N u x b) (fun s => (scp (sub N) t.var s x b).2) (fun s => (scp (sub N) t.var s x b).1) t.args (fun u hu => ih u x y b (hsz u hu).1 (hsz u hu).2) (fun _ s hs => ?_)
        obtain ⟨hs1, hs2⟩ := hsz s hs
        generalize t.var = v
        show (y ∈ frL (scp (sub N) v s x b).2 ∧ y ≠ (scp (sub N) v s x b).1) ↔ _
        unfold scp
        by_cases c1 : v = x ∨ x ∉ frL s
        · rw [if_pos c1]
          show (y ∈ frL s ∧ y ≠ v) ↔ _
          constructor
          · rintro ⟨h1, h2⟩
            refine .inl ⟨⟨h1, h2⟩, fun e => ?_⟩
            rcases c1 with c1 | c1
            · exact h2 (e.trans c1.symm)
            · exact c1 (e ▸ h1)
          · rintro (⟨h1, _⟩ | ⟨h1, _⟩)
            · exact h1
            · rcases c1 with c1 | c1
              · exact absurd c1.symm h1.2
              · exact absurd h1.1 c1
        · rw [if_neg c1]
          have hvx : v ≠ x := fun e => c1 (.inl e)
          have hxs : x ∈ frL s := Classical.byContradiction fun h' => c1 (.inr h')
          by_cases c2 : v ∉ frL b
          · rw [if_pos c2]
            show (y ∈ frL (sub N s x b) ∧ y ≠ v) ↔ _
            rw [ih s x y b hs1 hs2]
            constructor
            · rintro ⟨⟨h1, h2⟩ | ⟨h1, h2⟩, h3⟩
              · exact .inl ⟨⟨h1, h3⟩, h2⟩
              · exact .inr ⟨⟨h1, hvx.symm⟩, h2⟩
            · rintro (⟨⟨h1, h3⟩, h2⟩ | ⟨⟨h1, _⟩, h2⟩)
              · exact ⟨.inl ⟨h1, h2⟩, h3⟩
              · exact ⟨.inr ⟨h1, h2⟩, fun e => c2 (e ▸ h2)⟩
          · rw [if_neg c2]
            have hl := frs_len3 s b x hs2
            have hw := fresh_not _ hl
            generalize freshL (frL s ++ frL b ++ [x]) = w at *
            simp only [List.mem_append, List.mem_singleton, not_or] at hw
            obtain ⟨⟨hws, hwb⟩, hwx⟩ := hw
            show (y ∈ frL (sub N (sub N s v (vrT w)) x b) ∧ y ≠ w) ↔ _
            have hr := sub_var_size N s v w
            have hvs : s.size + (vrT w).size ≤ 2700 := by rw [vrT_size]; have := size_pos b; omega
            rw [ih _ x y b (by omega) (by omega), ih s v y (vrT w) hs1 hvs, ih s v x (vrT w) hs1 hvs, vrT_fr]
            simp only [List.mem_singleton]
            constructor
            · rintro ⟨⟨⟨h1, h2⟩ | ⟨h1, h2⟩, h3⟩ | ⟨_, h2⟩, h4⟩
              · exact .inl ⟨⟨h1, h2⟩, h3⟩
              · exact absurd h2 h4
              · exact .inr ⟨⟨hxs, hvx.symm⟩, h2⟩
            · rintro (⟨⟨h1, h2⟩, h3⟩ | ⟨_, h2⟩)
              · exact ⟨.inl ⟨.inl ⟨h1, h2⟩, h3⟩, fun e => hws (e ▸ h1)⟩
              · exact ⟨.inr ⟨.inl ⟨hxs, hvx.symm⟩, h2⟩, fun e => hwb (e ▸ h2)⟩

/-- the place of the last of the names that is x, from the first on, or -1 -/
def binI : List W8 → W8 → Nat → Int → Int
  | [], _, _, acc => acc
  | s :: l, x, i, acc => binI l x (i + 1) (if s = x then (i : Int) else acc)
def binL (z : List W8) (x : W8) : Int := binI z x 0 (-1)
theorem binI_snoc (x v : W8) : ∀ (z : List W8) (i : Nat) (acc : Int), binI (z ++ [v]) x i acc = if v = x then ((i + z.length : Nat) : Int) else binI z x i acc
  | [], i, acc => by show binI [v] x i acc = _; rw [binI, binI, binI]; rfl
  | s :: z, i, acc => by
    rw [List.cons_append, binI, binI, binI_snoc x v z (i + 1)]
    split
    · congr 1; simp only [List.length_cons]; omega
    · rfl
theorem binL_snoc (z : List W8) (x v : W8) : binL (z ++ [v]) x = if v = x then (z.length : Int) else binL z x := by
  unfold binL; rw [binI_snoc, Nat.zero_add]
theorem binI_ge (x : W8) : ∀ (z : List W8) (i : Nat) (acc : Int), -1 ≤ acc → acc < i → -1 ≤ binI z x i acc ∧ binI z x i acc < (i + z.length : Nat)
  | [], i, acc, h1, h2 => by rw [binI]; simp only [List.length_nil, Nat.add_zero]; exact ⟨h1, h2⟩
  | s :: z, i, acc, h1, h2 => by
    rw [binI]
    have := binI_ge x z (i + 1) (if s = x then (i : Int) else acc) (by split <;> omega) (by split <;> omega)
    simp only [List.length_cons]; omega
theorem binL_ge (z : List W8) (x : W8) : -1 ≤ binL z x ∧ binL z x < z.length := by
  have := binI_ge x z 0 (-1) (by omega) (by omega)
  rw [Nat.zero_add] at this
  exact this
/-- the names' meaning inside of scopes -/
def envZ (z : List W8) : W8 → Nat → T := fun x _ => if binL z x < 0 then vrT x else lvl (binL z x).toNat
theorem envZ_snoc (z : List W8) (v : W8) : envZ (z ++ [v]) = upd (envZ z) v fun _ => lvl z.length := by
  funext x j
  unfold envZ upd
  rw [binL_snoc]
  by_cases h : x = v
  · rw [if_pos h, if_pos h.symm, if_neg (by omega)]; rfl
  · have h' : ¬ v = x := fun e => h e.symm
    rw [if_neg h, if_neg h']
theorem envZ_nil : envZ [] = fun x _ => vrT x := by
  funext x j
  unfold envZ
  rw [if_pos (by unfold binL; rw [binI]; decide)]
mutual
/-- alpha-equivalence as the program decides it -/
def alp (x y : List W8) : T → T → Bool
  | .mk k n v ys f, b => decide (k = b.kind) && decide (f = b.form) && decide (ys.length = b.args.length) &&
    if k = 2 then decide (binL x n = binL y b.name) && (decide (0 ≤ binL x n) || decide (n = b.name)) else decide (n = b.name) && alps x y k v b.var ys b.args
def alps (x y : List W8) (k : Int) (v w : W8) : List T → List T → Bool
  | [], _ => true
  | _ :: _, [] => true
  | t :: ts, u :: us => (if k = 5 ∧ ts.length = 0 then alp (x ++ [v]) (y ++ [w]) t u else alp x y t u) && alps x y k v w ts us
end
theorem alp_eq (x y : List W8) (t b : T) : alp x y t b = (decide (t.kind = b.kind) && decide (t.form = b.form) && decide (t.args.length = b.args.length) &&
    if t.kind = 2 then decide (binL x t.name = binL y b.name) && (decide (0 ≤ binL x t.name) || decide (t.name = b.name)) else decide (t.name = b.name) && alps x y t.kind t.var b.var t.args b.args) := by
  cases t with
  | mk k n v ys f => rw [alp]; rfl
theorem own_kind {t : T} (h : ownB t = true) : 1 ≤ t.kind ∧ t.kind ≤ 5 := by
  refine Classical.byContradiction fun hc => ?_
  unfold ownB at h
  rw [if_neg (by omega), if_neg (by omega), if_neg (by omega), if_neg (by omega), if_neg (by omega)] at h
  cases h
theorem lvl_inj {i j : Nat} (h : lvl i = lvl j) : i = j := by
  unfold lvl at h
  have := congrArg (fun t : T => t.name.length) h
  simpa [T.name] using this
theorem envZ_kind (z : List W8) (x : W8) (d : Nat) : (envZ z x d).kind = 2 ∨ (envZ z x d).kind = 7 := by
  unfold envZ
  split
  · exact .inl rfl
  · exact .inr rfl
theorem envZ_eq (x y : List W8) (d e : Nat) (n m : W8) : envZ x n d = envZ y m e ↔ (binL x n = binL y m ∧ (0 ≤ binL x n ∨ n = m)) := by
  have hx := binL_ge x n
  have hy := binL_ge y m
  unfold envZ
  by_cases h1 : binL x n < 0 <;> by_cases h2 : binL y m < 0
  · rw [if_pos h1, if_pos h2]
    constructor
    · intro h
      have : n = m := congrArg T.name h
      exact ⟨by omega, .inr this⟩
    · rintro ⟨_, h | rfl⟩
      · omega
      · rfl
  · rw [if_pos h1, if_neg h2]
    constructor
    · intro h
      have : (2 : Int) = 7 := congrArg T.kind h
      omega
    · rintro ⟨h, _⟩; omega
  · rw [if_neg h1, if_pos h2]
    constructor
    · intro h
      have : (7 : Int) = 2 := congrArg T.kind h
      omega
    · rintro ⟨h, _⟩; omega
  · rw [if_neg h1, if_neg h2]
    constructor
    · intro h
      have := lvl_inj h
      exact ⟨by omega, .inl (by omega)⟩
    · rintro ⟨h, _⟩; rw [h]
theorem sems_len (ρ : W8 → Nat → T) (d : Nat) (k : Int) (v : W8) : ∀ ts : List T, (sems ρ d k v ts).length = ts.length
  | [] => by rw [sems]
  | t :: ts => by rw [sems, List.length_cons, List.length_cons, sems_len ρ d k v ts]
mutual
/-- ALPHA-EQUIVALENCE IS EQUAL MEANING -/
theorem alp_sem (x y : List W8) (a b : T) (ha : WF a) (hb : WF b) (hl : x.length = y.length) : alp x y a b = true ↔ sem (envZ x) x.length a = sem (envZ y) y.length b := by
  cases a with
  | mk k n v ys f =>
    have pa := ha.parts
    have pb := hb.parts
    have ka := own_kind pa.1
    have kb := own_kind pb.1
    rw [alp, sem, sem_eq _ _ b]
    simp only [Bool.and_eq_true, decide_eq_true_eq]
    by_cases hk : k = 2
    · have ea := own_var (t := .mk k n v ys f) pa.1 hk
      have e1 : ys = [] := ea.2.1
      have e2 : f = [] := ea.2.2.2
      rw [if_pos hk, if_pos hk]
      by_cases hk2 : b.kind = 2
      · have eb := own_var pb.1 hk2
        rw [if_pos hk2, envZ_eq, e1, e2, eb.2.1, eb.2.2.2]
        simp only [Bool.and_eq_true, Bool.or_eq_true, decide_eq_true_eq, List.length_nil, and_true]
        constructor
        · exact fun h => h.2
        · exact fun h => ⟨by omega, h⟩
      · rw [if_neg hk2]
        constructor
        · intro h; omega
        · intro h
          have h1 := congrArg T.kind h
          have h2 : (T.mk b.kind b.name [] (sems (envZ y) y.length b.kind b.var b.args) b.form).kind = b.kind := rfl
          rcases envZ_kind x n x.length with h3 | h3 <;> omega
    · rw [if_neg hk, if_neg hk]
      by_cases hk2 : b.kind = 2
      · rw [if_pos hk2]
        constructor
        · intro h; omega
        · intro h
          have h1 := congrArg T.kind h
          have h2 : (T.mk k n [] (sems (envZ x) x.length k v ys) f).kind = k := rfl
          have h4 : (T.mk k n v ys f).kind = k := rfl
          rcases envZ_kind y b.name y.length with h3 | h3 <;> omega
      · rw [if_neg hk2]
        simp only [Bool.and_eq_true, decide_eq_true_eq, T.mk.injEq, true_and]
        constructor
        · rintro ⟨⟨⟨h1, h2⟩, h3⟩, h4, h5⟩
          refine ⟨h1, h4, ?_, h2⟩
          rw [← h1]
          exact (alps_sem x y k v b.var ys b.args pa.2 pb.2 hl h3).1 h5
        · rintro ⟨h1, h4, h5, h2⟩
          have h3 := congrArg List.length h5
          rw [sems_len, sems_len] at h3
          refine ⟨⟨⟨h1, h2⟩, h3⟩, h4, ?_⟩
          rw [← h1] at h5
          exact (alps_sem x y k v b.var ys b.args pa.2 pb.2 hl h3).2 h5
theorem alps_sem (x y : List W8) (k : Int) (v w : W8) (ts us : List T) (ha : WFs ts) (hb : WFs us) (hl : x.length = y.length) (hn : ts.length = us.length) : alps x y k v w ts us = true ↔ sems (envZ x) x.length k v ts = sems (envZ y) y.length k w us := by
  cases ts with
  | nil =>
    cases us with
    | nil => rw [alps, sems, sems]; simp
    | cons u us => simp at hn
  | cons t ts =>
    cases us with
    | nil => simp at hn
    | cons u us =>
      rw [WFs] at ha hb
      simp only [List.length_cons, Nat.add_right_cancel_iff] at hn
      rw [alps, sems, sems, List.cons.injEq, Bool.and_eq_true, alps_sem x y k v w ts us ha.2 hb.2 hl hn, hn]
      refine and_congr ?_ Iff.rfl
      split
      · rename_i h5
        have h6 := alp_sem (x ++ [v]) (y ++ [w]) t u ha.1 hb.1 (by simp [hl])
        rw [h6, envZ_snoc, envZ_snoc, List.length_append, List.length_append]
        exact Iff.rfl
      · exact alp_sem x y t u ha.1 hb.1 hl
end
/-- alpha-equivalence of closed readings -/
def alpB (a b : T) : Bool := validB a && validB b && alp [] [] a b
theorem alpB_iff (a b : T) : alpB a b = true ↔ validB a = true ∧ validB b = true ∧ sem (envZ []) 0 a = sem (envZ []) 0 b := by
  unfold alpB
  simp only [Bool.and_eq_true]
  constructor
  · rintro ⟨⟨h1, h2⟩, h3⟩
    exact ⟨h1, h2, (alp_sem [] [] a b ((valid_iff a).1 h1).1 ((valid_iff b).1 h2).1 rfl).1 h3⟩
  · rintro ⟨h1, h2, h3⟩
    exact ⟨⟨h1, h2⟩, (alp_sem [] [] a b ((valid_iff a).1 h1).1 ((valid_iff b).1 h2).1 rfl).2 h3⟩
theorem alpB_symm (a b : T) : alpB a b = alpB b a := by
  rw [Bool.eq_iff_iff, alpB_iff, alpB_iff]
  constructor <;> rintro ⟨h1, h2, h3⟩ <;> exact ⟨h2, h1, h3.symm⟩
theorem alpB_self (a : T) : alpB a a = validB a := by
  rw [Bool.eq_iff_iff, alpB_iff]
  constructor
  · exact fun h => h.1
  · exact fun h => ⟨h, h, rfl⟩
mutual
def inst (ρ : W8 → Nat → T) (d : Nat) : T → T
  | .mk k n v ys f => if k = 2 then ρ n d else .mk k n v (insts ρ d k ys) f
def insts (ρ : W8 → Nat → T) (d : Nat) (k : Int) : List T → List T
  | [] => []
  | t :: ts => (if k = 5 ∧ ts.length = 0 then inst ρ (d + 1) t else inst ρ d t) :: insts ρ d k ts
end
theorem inst_lvl (ρ : W8 → Nat → T) (d i : Nat) : inst ρ d (lvl i) = lvl i := by
  unfold lvl
  rw [inst, if_neg (by decide), insts]
mutual
theorem inst_sem (ρ ρ1 ρ2 : W8 → Nat → T) (h : ∀ x j, inst ρ j (ρ1 x j) = ρ2 x j) (d : Nat) (t : T) : inst ρ d (sem ρ1 d t) = sem ρ2 d t := by
  cases t with
  | mk k n v ys f =>
    rw [sem, sem]
    split
    · exact h n d
    · rename_i hk
      rw [inst, if_neg hk, insts_sem ρ ρ1 ρ2 h d k v ys]
theorem insts_sem (ρ ρ1 ρ2 : W8 → Nat → T) (h : ∀ x j, inst ρ j (ρ1 x j) = ρ2 x j) (d : Nat) (k : Int) (v : W8) (ts : List T) : insts ρ d k (sems ρ1 d k v ts) = sems ρ2 d k v ts := by
  cases ts with
  | nil => rw [sems, sems, insts]
  | cons t ts =>
    rw [sems, sems, insts, insts_sem ρ ρ1 ρ2 h d k v ts, sems_len]
    congr 1
    split
    · refine inst_sem ρ _ _ (fun x j => ?_) _ t
      by_cases e : x = v
      · rw [e, upd_same, upd_same]; exact inst_lvl ρ j d
      · rw [upd_other _ _ _ e, upd_other _ _ _ e]; exact h x j
    · exact inst_sem ρ ρ1 ρ2 h d t
end
/-- equal under the plain reading: equal under each -/
theorem sem_all {a b : T} (h : sem (envZ []) 0 a = sem (envZ []) 0 b) (ρ : W8 → Nat → T) : sem ρ 0 a = sem ρ 0 b := by
  have hi : ∀ x j, inst ρ j (envZ [] x j) = ρ x j := fun x j => by
    rw [envZ_nil]
    show inst ρ j (vrT x) = _
    unfold vrT
    rw [inst, if_pos rfl]
  rw [← inst_sem ρ (envZ []) ρ hi 0 a, h, inst_sem ρ (envZ []) ρ hi 0 b]
mutual
theorem sem_needs (ρ ρ' : W8 → Nat → T) (x : W8) (d : Nat) (t : T) (hx : x ∈ frL t) (h : sem ρ d t = sem ρ' d t) : ∃ j, ρ x j = ρ' x j := by
  cases t with
  | mk k n v ys f =>
    rw [mem_frL] at hx
    rw [sem, sem] at h
    by_cases hk : k = 2
    · rw [if_pos hk, if_pos hk] at h
      rcases hx with hx | hx
      · have e : x = n := hx.2
        exact ⟨d, by rw [e]; exact h⟩
      · exact absurd hk hx.1
    · rw [if_neg hk, if_neg hk] at h
      rcases hx with hx | hx
      · exact absurd hx.1 hk
      · rw [T.mk.injEq] at h
        exact sems_needs ρ ρ' x d k v ys hx.2 h.2.2.2.1
theorem sems_needs (ρ ρ' : W8 → Nat → T) (x : W8) (d : Nat) (k : Int) (v : W8) (ts : List T) (hx : inArgs k v x ts) (h : sems ρ d k v ts = sems ρ' d k v ts) : ∃ j, ρ x j = ρ' x j := by
  cases ts with
  | nil => rw [inArgs] at hx; exact hx.elim
  | cons t ts =>
    rw [inArgs] at hx
    rw [sems, sems, List.cons.injEq] at h
    rcases hx with hx | hx
    · by_cases hl : k = 5 ∧ ts.length = 0
      · rw [if_pos hl, if_pos hl] at h
        have e : x ≠ v := fun e => hx.2 ⟨hl.1, hl.2, e⟩
        obtain ⟨j, hj⟩ := sem_needs _ _ x _ t hx.1 h.1
        rw [upd_other _ _ _ e, upd_other _ _ _ e] at hj
        exact ⟨j, hj⟩
      · rw [if_neg hl, if_neg hl] at h
        exact sem_needs ρ ρ' x d t hx.1 h.1
    · exact sems_needs ρ ρ' x d k v ts hx h.2
end
theorem fr_sub_of_sem {a b : T} (h : sem (envZ []) 0 a = sem (envZ []) 0 b) {x : W8} (hx : x ∈ frL a) : x ∈ frL b := by
  refine Classical.byContradiction fun hn => ?_
  have h1 := sem_all h (envZ [])
  have h2 := sem_all h (upd (envZ []) x fun _ => lvl 0)
  have h3 : sem (envZ []) 0 b = sem (upd (envZ []) x fun _ => lvl 0) 0 b := sem_congr _ _ _ b (fun y hy => (upd_other _ _ _ (show y ≠ x from fun e => hn (by rw [← e]; exact hy))).symm)
  obtain ⟨j, hj⟩ := sem_needs _ _ x 0 a hx (h1.trans (h3.trans h2.symm))
  rw [upd_same, envZ_nil] at hj
  have : (2 : Int) = 7 := congrArg T.kind hj
  omega
theorem fr_of_sem {a b : T} (ha : WF a) (hb : WF b) (h : sem (envZ []) 0 a = sem (envZ []) 0 b) : frL a = frL b :=
  srtd_ext (frL_ok a ha).1 (frL_ok b hb).1 (fun _ => ⟨fr_sub_of_sem h, fr_sub_of_sem h.symm⟩)
mutual
theorem sem_size (ρ : W8 → Nat → T) (h : ∀ x j, (ρ x j).size = 1) (d : Nat) (t : T) (hw : WF t) : (sem ρ d t).size = t.size := by
  cases t with
  | mk k n v ys f =>
    have hp := hw.parts
    rw [sem]
    split
    · rename_i hk
      have e : ys = [] := (own_var (t := .mk k n v ys f) hp.1 hk).2.1
      rw [h, T.size, e, sizes]
    · rw [T.size, T.size, sems_size ρ h d k v ys hp.2]
theorem sems_size (ρ : W8 → Nat → T) (h : ∀ x j, (ρ x j).size = 1) (d : Nat) (k : Int) (v : W8) (ts : List T) (hw : WFs ts) : sizes (sems ρ d k v ts) = sizes ts := by
  cases ts with
  | nil => rw [sems]
  | cons t ts =>
    rw [WFs] at hw
    rw [sems, sizes, sizes, sems_size ρ h d k v ts hw.2]
    congr 1
    split
    · refine sem_size _ (fun x j => ?_) _ t hw.1
      unfold upd
      split
      · unfold lvl; rw [T.size, sizes]
      · exact h x j
    · exact sem_size ρ h d t hw.1
end
theorem size_of_sem {a b : T} (ha : WF a) (hb : WF b) (h : sem (envZ []) 0 a = sem (envZ []) 0 b) : a.size = b.size := by
  have hh : ∀ x j, (envZ [] x j).size = 1 := fun x j => by rw [envZ_nil]; exact vrT_size x
  rw [← sem_size _ hh 0 a ha, h, sem_size _ hh 0 b hb]
end Go.Proofs.Ytkjhfbgdmmnadaa
