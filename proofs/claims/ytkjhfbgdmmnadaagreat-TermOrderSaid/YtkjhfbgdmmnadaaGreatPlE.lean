/- Plain: the free names of a substitution; alpha-equivalence by meaning. -/
import Derived.Test.YtkjhfbgdmmnadaaGreatPlD
namespace Go.Proofs.YtkjhfbgdmmnadaaGreat

/-- the place of the last of the names that is x, from the first on, or -1 -/
def binI : List W8 → W8 → Nat → Int → Int
  | [], _, _, acc => acc
  | s :: l, x, i, acc => binI l x (i + 1) (if s = x then (i : Int) else acc)
def binL (z : List W8) (x : W8) : Int := binI z x 0 (-1)
theorem binI_snoc (x v : W8) : ∀ (z : List W8) (i : Nat) (acc : Int), binI (z ++ [v]) x i acc = if v = x then ((i + z.length : Nat) : Int) else binI z x i acc
  | [], i, acc => by show binI [v] x i acc = _; rw [binI, binI, binI]; rfl
  | s :: z, i, acc => by
    rw [List.cons_append, binI, binI, binI_snoc x v z (i + 1)]
    split
    · congr 1; simp only [List.length_cons]; omega
    · rfl
theorem binL_snoc (z : List W8) (x v : W8) : binL (z ++ [v]) x = if v = x then (z.length : Int) else binL z x := by
  unfold binL; rw [binI_snoc, Nat.zero_add]
theorem binI_ge (x : W8) : ∀ (z : List W8) (i : Nat) (acc : Int), -1 ≤ acc → acc < i → -1 ≤ binI z x i acc ∧ binI z x i acc < (i + z.length : Nat)
  | [], i, acc, h1, h2 => by rw [binI]; simp only [List.length_nil, Nat.add_zero]; exact ⟨h1, h2⟩
  | s :: z, i, acc, h1, h2 => by
    rw [binI]
    have := binI_ge x z (i + 1) (if s = x then (i : Int) else acc) (by split <;> omega) (by split <;> omega)
    simp only [List.length_cons]; omega
theorem binL_ge (z : List W8) (x : W8) : -1 ≤ binL z x ∧ binL z x < z.length := by
  have := binI_ge x z 0 (-1) (by omega) (by omega)
  rw [Nat.zero_add] at this
  exact this
/-- the names' meaning inside of scopes -/
def envZ (z : List W8) : W8 → Nat → T := fun x _ => if binL z x < 0 then vrT x else lvl (binL z x).toNat
theorem envZ_snoc (z : List W8) (v : W8) : envZ (z ++ [v]) = upd (envZ z) v fun _ => lvl z.length := by
  funext x j
  unfold envZ upd
  rw [binL_snoc]
  by_cases h : x = v
  · rw [if_pos h, if_pos h.symm, if_neg (by omega)]; rfl
  · have h' : ¬ v = x := fun e => h e.symm
    rw [if_neg h, if_neg h']
theorem envZ_nil : envZ [] = fun x _ => vrT x := by
  funext x j
  unfold envZ
  rw [if_pos (by unfold binL; rw [binI]; decide)]
mutual
/-- alpha-equivalence as the program decides it -/
def alp (x y : List W8) : T → T → Bool
  | .mk k n v ys f, b => decide (k = b.kind) && decide (f = b.form) && decide (ys.length = b.args.length) &&
    if k = 2 then decide (binL x n = binL y b.name) && (decide (0 ≤ binL x n) || decide (n = b.name)) else decide (n = b.name) && alps x y k v b.var ys b.args
def alps (x y : List W8) (k : Int) (v w : W8) : List T → List T → Bool
  | [], _ => true
  | _ :: _, [] => true
  | t :: ts, u :: us => (if k = 5 ∧ ts.length = 0 then alp (x ++ [v]) (y ++ [w]) t u else alp x y t u) && alps x y k v w ts us
end
theorem alp_eq (x y : List W8) (t b : T) : alp x y t b = (decide (t.kind = b.kind) && decide (t.form = b.form) && decide (t.args.length = b.args.length) &&
    if t.kind = 2 then decide (binL x t.name = binL y b.name) && (decide (0 ≤ binL x t.name) || decide (t.name = b.name)) else decide (t.name = b.name) && alps x y t.kind t.var b.var t.args b.args) := by
  cases t with
  | mk k n v ys f => rw [alp]; rfl
theorem own_kind {t : T} (h : ownB t = true) : 1 ≤ t.kind ∧ t.kind ≤ 5 := by
  refine Classical.byContradiction fun hc => ?_
  unfold ownB at h
  rw [if_neg (by omega), if_neg (by omega), if_neg (by omega), if_neg (by omega), if_neg (by omega)] at h
  cases h
theorem lvl_inj {i j : Nat} (h : lvl i = lvl j) : i = j := by
  unfold lvl at h
  have := congrArg (fun t : T => t.name.length) h
  simpa [T.name] using this
theorem envZ_kind (z : List W8) (x : W8) (d : Nat) : (envZ z x d).kind = 2 ∨ (envZ z x d).kind = 7 := by
  unfold envZ
  split
  · exact .inl rfl
  · exact .inr rfl
theorem envZ_eq (x y : List W8) (d e : Nat) (n m : W8) : envZ x n d = envZ y m e ↔ (binL x n = binL y m ∧ (0 ≤ binL x n ∨ n = m)) := by
  have hx := binL_ge x n
  have hy := binL_ge y m
  unfold envZ
  by_cases h1 : binL x n < 0 <;> by_cases h2 : binL y m < 0
  · rw [if_pos h1, if_pos h2]
    constructor
    · intro h
      have : n = m := congrArg T.name h
      exact ⟨by omega, .inr this⟩
    · rintro ⟨_, h | rfl⟩
      · omega
      · rfl
  · rw [if_pos h1, if_neg h2]
    constructor
    · intro h
      have : (2 : Int) = 7 := congrArg T.kind h
      omega
    · rintro ⟨h, _⟩; omega
  · rw [if_neg h1, if_pos h2]
    constructor
    · intro h
      have : (7 : Int) = 2 := congrArg T.kind h
      omega
    · rintro ⟨h, _⟩; omega
  · rw [if_neg h1, if_neg h2]
    constructor
    · intro h
      have := lvl_inj h
      exact ⟨by omega, .inl (by omega)⟩
    · rintro ⟨h, _⟩; rw [h]
theorem sems_len (ρ : W8 → Nat → T) (d : Nat) (k : Int) (v : W8) : ∀ ts : List T, (sems ρ d k v ts).length = ts.length
  | [] => by rw [sems]
  | t :: ts => by rw [sems, List.length_cons, List.length_cons, sems_len ρ d k v ts]
mutual
/-- ALPHA-EQUIVALENCE IS EQUAL MEANING -/
theorem alp_sem (x y : List W8) (a b : T) (ha : WF a) (hb : WF b) (hl : x.length = y.length) : alp x y a b = true ↔ sem (envZ x) x.length a = sem (envZ y) y.length b := by
  cases a with
  | mk k n v ys f =>
    have pa := ha.parts
    have pb := hb.parts
    have ka := own_kind pa.1
    have kb := own_kind pb.1
    rw [alp, sem, sem_eq _ _ b]
    simp only [Bool.and_eq_true, decide_eq_true_eq]
    by_cases hk : k = 2
    · have ea := own_var (t := .mk k n v ys f) pa.1 hk
      have e1 : ys = [] := ea.2.1
      have e2 : f = [] := ea.2.2.2
      rw [if_pos hk, if_pos hk]
      by_cases hk2 : b.kind = 2
      · have eb := own_var pb.1 hk2
        rw [if_pos hk2, envZ_eq, e1, e2, eb.2.1, eb.2.2.2]
        simp only [Bool.and_eq_true, Bool.or_eq_true, decide_eq_true_eq, List.length_nil, and_true]
        constructor
        · exact fun h => h.2
        · exact fun h => ⟨by omega, h⟩
      · rw [if_neg hk2]
        constructor
        · intro h; omega
        · intro h
          have h1 := congrArg T.kind h
          have h2 : (T.mk b.kind b.name [] (sems (envZ y) y.length b.kind b.var b.args) b.form).kind = b.kind := rfl
          rcases envZ_kind x n x.length with h3 | h3 <;> omega
    · rw [if_neg hk, if_neg hk]
      by_cases hk2 : b.kind = 2
      · rw [if_pos hk2]
        constructor
        · intro h; omega
        · intro h
          have h1 := congrArg T.kind h
          have h2 : (T.mk k n [] (sems (envZ x) x.length k v ys) f).kind = k := rfl
          have h4 : (T.mk k n v ys f).kind = k := rfl
          rcases envZ_kind y b.name y.length with h3 | h3 <;> omega
      · rw [if_neg hk2]
        simp only [Bool.and_eq_true, decide_eq_true_eq, T.mk.injEq, true_and]
        constructor
        · rintro ⟨⟨⟨h1, h2⟩, h3⟩, h4, h5⟩
          refine ⟨h1, h4, ?_, h2⟩
          rw [← h1]
          exact (alps_sem x y k v b.var ys b.args pa.2 pb.2 hl h3).1 h5
        · rintro ⟨h1, h4, h5, h2⟩
          have h3 := congrArg List.length h5
          rw [sems_len, sems_len] at h3
          refine ⟨⟨⟨h1, h2⟩, h3⟩, h4, ?_⟩
          rw [← h1] at h5
          exact (alps_sem x y k v b.var ys b.args pa.2 pb.2 hl h3).2 h5
theorem alps_sem (x y : List W8) (k : Int) (v w : W8) (ts us : List T) (ha : WFs ts) (hb : WFs us) (hl : x.length = y.length) (hn : ts.length = us.length) : alps x y k v w ts us = true ↔ sems (envZ x) x.length k v ts = sems (envZ y) y.length k w us := by
  cases ts with
  | nil =>
    cases us with
    | nil => rw [alps, sems, sems]; simp
    | cons u us => simp at hn
  | cons t ts =>
    cases us with
    | nil => simp at hn
    | cons u us =>
      rw [WFs] at ha hb
      simp only [List.length_cons, Nat.add_right_cancel_iff] at hn
      rw [alps, sems, sems, List.cons.injEq, Bool.and_eq_true, alps_sem x y k v w ts us ha.2 hb.2 hl hn, hn]
      refine and_congr ?_ Iff.rfl
      split
      · rename_i h5
        have h6 := alp_sem (x ++ [v]) (y ++ [w]) t u ha.1 hb.1 (by simp [hl])
        rw [h6, envZ_snoc, envZ_snoc, List.length_append, List.length_append]
        exact Iff.rfl
      · exact alp_sem x y t u ha.1 hb.1 hl
end
/-- alpha-equivalence of closed readings -/
def alpB (a b : T) : Bool := validB a && validB b && alp [] [] a b
theorem alpB_iff (a b : T) : alpB a b = true ↔ validB a = true ∧ validB b = true ∧ sem (envZ []) 0 a = sem (envZ []) 0 b := by
  unfold alpB
  simp only [Bool.and_eq_true]
  constructor
  · rintro ⟨⟨h1, h2⟩, h3⟩
    exact ⟨h1, h2, (alp_sem [] [] a b ((valid_iff a).1 h1).1 ((valid_iff b).1 h2).1 rfl).1 h3⟩
  · rintro ⟨h1, h2, h3⟩
    exact ⟨⟨h1, h2⟩, (alp_sem [] [] a b ((valid_iff a).1 h1).1 ((valid_iff b).1 h2).1 rfl).2 h3⟩
mutual
def inst (ρ : W8 → Nat → T) (d : Nat) : T → T
  | .mk k n v ys f => if k = 2 then ρ n d else .mk k n v (insts ρ d k ys) f
def insts (ρ : W8 → Nat → T) (d : Nat) (k : Int) : List T → List T
  | [] => []
  | t :: ts => (if k = 5 ∧ ts.length = 0 then inst ρ (d + 1) t else inst ρ d t) :: insts ρ d k ts
end
theorem inst_lvl (ρ : W8 → Nat → T) (d i : Nat) : inst ρ d (lvl i) = lvl i := by
  unfold lvl
  rw [inst, if_neg (by decide), insts]
mutual
theorem inst_sem (ρ ρ1 ρ2 : W8 → Nat → T) (h : ∀ x j, inst ρ j (ρ1 x j) = ρ2 x j) (d : Nat) (t : T) : inst ρ d (sem ρ1 d t) = sem ρ2 d t := by
  cases t with
  | mk k n v ys f =>
    rw [sem, sem]
    split
    · exact h n d
    · rename_i hk
      rw [inst, if_neg hk, insts_sem ρ ρ1 ρ2 h d k v ys]
theorem insts_sem (ρ ρ1 ρ2 : W8 → Nat → T) (h : ∀ x j, inst ρ j (ρ1 x j) = ρ2 x j) (d : Nat) (k : Int) (v : W8) (ts : List T) : insts ρ d k (sems ρ1 d k v ts) = sems ρ2 d k v ts := by
  cases ts with
  | nil => rw [sems, sems, insts]
  | cons t ts =>
    rw [sems, sems, insts, insts_sem ρ ρ1 ρ2 h d k v ts, sems_len]
    congr 1
    split
    · refine inst_sem ρ _ _ (fun x j => ?_) _ t
      by_cases e : x = v
      · rw [e, upd_same, upd_same]; exact inst_lvl ρ j d
      · rw [upd_other _ _ _ e, upd_other _ _ _ e]; exact h x j
    · exact inst_sem ρ ρ1 ρ2 h d t
end
/-- equal under the plain reading: equal under each -/
theorem sem_all {a b : T} (h : sem (envZ []) 0 a = sem (envZ []) 0 b) (ρ : W8 → Nat → T) : sem ρ 0 a = sem ρ 0 b := by
  have hi : ∀ x j, inst ρ j (envZ [] x j) = ρ x j := fun x j => by
    rw [envZ_nil]
    show inst ρ j (vrT x) = _
    unfold vrT
    rw [inst, if_pos rfl]
  rw [← inst_sem ρ (envZ []) ρ hi 0 a, h, inst_sem ρ (envZ []) ρ hi 0 b]
mutual
theorem sem_size (ρ : W8 → Nat → T) (h : ∀ x j, (ρ x j).size = 1) (d : Nat) (t : T) (hw : WF t) : (sem ρ d t).size = t.size := by
  cases t with
  | mk k n v ys f =>
    have hp := hw.parts
    rw [sem]
    split
    · rename_i hk
      have e : ys = [] := (own_var (t := .mk k n v ys f) hp.1 hk).2.1
      rw [h, T.size, e, sizes]
    · rw [T.size, T.size, sems_size ρ h d k v ys hp.2]
theorem sems_size (ρ : W8 → Nat → T) (h : ∀ x j, (ρ x j).size = 1) (d : Nat) (k : Int) (v : W8) (ts : List T) (hw : WFs ts) : sizes (sems ρ d k v ts) = sizes ts := by
  cases ts with
  | nil => rw [sems]
  | cons t ts =>
    rw [WFs] at hw
    rw [sems, sizes, sizes, sems_size ρ h d k v ts hw.2]
    congr 1
    split
    · refine sem_size _ (fun x j => ?_) _ t hw.1
      unfold upd
      split
      · unfold lvl; rw [T.size, sizes]
      · exact h x j
    · exact sem_size ρ h d t hw.1
end
theorem size_of_sem {a b : T} (ha : WF a) (hb : WF b) (h : sem (envZ []) 0 a = sem (envZ []) 0 b) : a.size = b.size := by
  have hh : ∀ x j, (envZ [] x j).size = 1 := fun x j => by rw [envZ_nil]; exact vrT_size x
  rw [← sem_size _ hh 0 a ha, h, sem_size _ hh 0 b hb]
end Go.Proofs.YtkjhfbgdmmnadaaGreat
