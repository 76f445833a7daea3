/- Plain: the laws of substitution and of renaming. -/
import Derived.Test.YtkjhfbgdmmnadaaGreatPlE
namespace Go.Proofs.YtkjhfbgdmmnadaaGreat

/-- a substitution's result, before it is looked at -/
def subT (t : T) (x : W8) (b : T) : T := sub t.size t x b
/-- Subst: 0 is OK; the numbers of the errors are the program's own -/
def okSub (t : T) (x : W8) (b : T) : Bool := validB t && validB b && identB x
theorem sub_bound {t b : T} (ht : validB t = true) (hb : validB b = true) : t.size + b.size ≤ 2700 := by
  have := ((valid_iff t).1 ht).2
  have := ((valid_iff b).1 hb).2
  omega
theorem subT_sem (t : T) (x : W8) (b : T) (ρ : W8 → Nat → T) (d : Nat) (h : t.size + b.size ≤ 2700) : sem ρ d (subT t x b) = sem (upd ρ x fun j => sem ρ j b) d t := sub_sem t.size t x b ρ d (Nat.le_refl _) h
theorem subT_wf {t b : T} (x : W8) (ht : validB t = true) (hb : validB b = true) : WF (subT t x b) := sub_wf t.size t x b ((valid_iff t).1 ht).1 ((valid_iff b).1 hb).1 (sub_bound ht hb)
/-- the size of a substitution hangs on the meaning alone -/
theorem subT_cong {t u b : T} (x : W8) (ht : validB t = true) (hu : validB u = true) (hb : validB b = true) (h : sem (envZ []) 0 t = sem (envZ []) 0 u) :
    sem (envZ []) 0 (subT t x b) = sem (envZ []) 0 (subT u x b) := by
  rw [subT_sem t x b _ _ (sub_bound ht hb), subT_sem u x b _ _ (sub_bound hu hb)]
  exact sem_all h _
theorem valid_of_sem {a b : T} (ha : WF a) (hb : WF b) (h : sem (envZ []) 0 a = sem (envZ []) 0 b) : validB a = validB b := by
  rw [Bool.eq_iff_iff, valid_iff, valid_iff, size_of_sem ha hb h]
  simp [ha, hb]
/-- TermOrder's heart -/
theorem order_sem (t a b : T) (x y : W8) (hxy : x ≠ y) (hx : x ∉ frL b) (ht : validB t = true) (ha : validB a = true) (hb : validB b = true)
    (h1 : validB (subT t x a) = true) (h2 : validB (subT t y b) = true) (h3 : validB (subT a y b) = true) :
    sem (envZ []) 0 (subT (subT t x a) y b) = sem (envZ []) 0 (subT (subT t y b) x (subT a y b)) := by
  rw [subT_sem _ y b _ _ (sub_bound h1 hb), subT_sem t x a _ _ (sub_bound ht ha), subT_sem _ x _ _ _ (sub_bound h2 h3), subT_sem t y b _ _ (sub_bound ht hb)]
  have e1 : (fun j => sem (envZ []) j (subT a y b)) = fun j => sem (upd (envZ []) y fun i => sem (envZ []) i b) j a := funext fun j => subT_sem a y b _ _ (sub_bound ha hb)
  rw [e1]
  have e2 : (fun j => sem (upd (envZ []) x fun i => sem (upd (envZ []) y fun i => sem (envZ []) i b) i a) j b) = fun j => sem (envZ []) j b :=
    funext fun j => sem_congr _ _ _ b (fun z hz => upd_other _ _ _ (show z ≠ x from fun e => hx (by rw [← e]; exact hz)))
  rw [e2, upd_comm _ _ _ hxy]
/-- some fresh names put to a list -/
def moreL : Nat → List W8 → List W8
  | 0, l => l
  | n + 1, l => moreL n (withL l (freshL l))
theorem withL_len (l : List W8) (s : W8) : (withL l s).length ≤ l.length + 1 := by
  unfold withL
  split
  · omega
  · have : ∀ l : List W8, (insL s l).length = l.length + 1 := fun l => by
      induction l with
      | nil => simp [insL]
      | cons a l ih => rw [insL]; split <;> simp [ih]
    rw [this]; omega
theorem moreL_len : ∀ (n : Nat) (l : List W8), (moreL n l).length ≤ l.length + n
  | 0, l => Nat.le_refl _
  | n + 1, l => by
    have h := moreL_len n (withL l (freshL l))
    have := withL_len l (freshL l)
    rw [moreL]; omega
theorem moreL_sub : ∀ (n : Nat) (l : List W8) {x : W8}, x ∈ l → x ∈ moreL n l
  | 0, _, _, h => h
  | n + 1, l, _, h => by rw [moreL]; exact moreL_sub n _ (mem_withL.2 (.inr h))
/-- the argument list with the last one turned -/
def lastF (g : T → T) : List T → List T
  | [] => []
  | [t] => [g t]
  | t :: u :: ts => t :: lastF g (u :: ts)
theorem lastF_len (g : T → T) : ∀ ts : List T, (lastF g ts).length = ts.length
  | [] => rfl
  | [t] => rfl
  | t :: u :: ts => by rw [lastF, List.length_cons, lastF_len g (u :: ts)]; rfl
def lastT : List T → T
  | [] => .mk 0 [] [] [] []
  | [t] => t
  | _ :: u :: ts => lastT (u :: ts)
/-- the fresh name that a number picks -/
def pickW (s : T) (p : Nat) : W8 := freshL (moreL (p % 5) (frL s))
/-- Rename -/
def ren : List Int → T → Nat → T
  | [], t, p => if t.kind = 5 then .mk 5 t.name (pickW (lastT t.args) p) (lastF (fun s => sub s.size s t.var (vrT (pickW (lastT t.args) p))) t.args) t.form else t
  | i :: path, t, p => if h : 0 ≤ i ∧ i < t.args.length then .mk t.kind t.name t.var (t.args.set i.toNat (ren path (t.args[i.toNat]'(by omega)) p)) t.form else t
theorem sems_lastF (ρ : W8 → Nat → T) (d : Nat) (v w : W8) (g : T → T) : ∀ ts : List T, ts ≠ [] → sem (upd ρ w fun _ => lvl d) (d + 1) (g (lastT ts)) = sem (upd ρ v fun _ => lvl d) (d + 1) (lastT ts) →
    sems ρ d 5 w (lastF g ts) = sems ρ d 5 v ts
  | [], h, _ => absurd rfl h
  | [t], _, h => by
    rw [lastT] at h
    rw [lastF, sems, sems, sems, sems, if_pos ⟨rfl, rfl⟩, if_pos ⟨rfl, rfl⟩, h]
  | t :: u :: ts, _, h => by
    rw [lastT] at h
    have ih := sems_lastF ρ d v w g (u :: ts) (by simp) h
    have hl := lastF_len g (u :: ts)
    rw [lastF, sems, sems, ih, hl, if_neg (by simp), if_neg (by simp)]
theorem lastT_mem : ∀ ts : List T, ts ≠ [] → lastT ts ∈ ts
  | [], h => absurd rfl h
  | [t], _ => by rw [lastT]; exact List.mem_cons_self
  | t :: u :: ts, _ => by rw [lastT]; exact List.mem_cons_of_mem _ (lastT_mem (u :: ts) (by simp))
theorem lastF_all (g : T → T) (P : T → Prop) : ∀ ts : List T, (∀ u ∈ ts, P u) → (∀ u ∈ ts, P (g u)) → ∀ u ∈ lastF g ts, P u
  | [], _, _, u, hu => by rw [lastF] at hu; cases hu
  | [t], _, h2, u, hu => by
    rw [lastF, List.mem_singleton] at hu
    rw [hu]; exact h2 t List.mem_cons_self
  | t :: v :: ts, h1, h2, u, hu => by
    rw [lastF, List.mem_cons] at hu
    rcases hu with rfl | hu
    · exact h1 u List.mem_cons_self
    · exact lastF_all g P (v :: ts) (fun u hu => h1 u (List.mem_cons_of_mem _ hu)) (fun u hu => h2 u (List.mem_cons_of_mem _ hu)) u hu
theorem lastF_sizes (g : T → T) : ∀ ts : List T, (∀ u ∈ ts, (g u).size ≤ u.size) → sizes (lastF g ts) ≤ sizes ts
  | [], _ => by rw [lastF]; exact Nat.le_refl _
  | [t], h => by have := h t List.mem_cons_self; rw [lastF, sizes, sizes, sizes]; omega
  | t :: u :: ts, h => by
    have ih := lastF_sizes g (u :: ts) (fun v hv => h v (List.mem_cons_of_mem _ hv))
    rw [lastF, sizes]
    show _ ≤ sizes (t :: u :: ts)
    rw [sizes.eq_2 t (u :: ts)]
    omega
theorem pick_spec (s : T) (p : Nat) (h : s.size ≤ 2700) : identB (pickW s p) = true ∧ pickW s p ∉ frL s := by
  have h1 := moreL_len (p % 5) (frL s)
  have h2 := frL_len s
  have h3 : (moreL (p % 5) (frL s)).length ≤ 2755 := by omega
  exact ⟨fresh_ident _ h3, fun hm => fresh_not _ h3 (moreL_sub _ _ hm)⟩
theorem sems_set (ρ : W8 → Nat → T) (v : W8) (k : Int) (d : Nat) : ∀ (ts : List T) (i : Nat) (u : T) (hi : i < ts.length), (∀ ρ d, sem ρ d u = sem ρ d ts[i]) → sems ρ d k v (ts.set i u) = sems ρ d k v ts
  | [], i, u, hi, _ => by simp at hi
  | t :: ts, 0, u, _, h => by
    have h' : ∀ ρ d, sem ρ d u = sem ρ d t := h
    rw [List.set_cons_zero, sems, sems, h', h']
  | t :: ts, i + 1, u, hi, h => by
    rw [List.set_cons_succ, sems, sems, sems_set ρ v k d ts i u (by simpa using hi) h, List.length_set]
theorem sizes_set (u : T) : ∀ (ts : List T) (i : Nat) (hi : i < ts.length), u.size ≤ ts[i].size → sizes (ts.set i u) ≤ sizes ts
  | [], i, hi, _ => by simp at hi
  | t :: ts, 0, _, h => by
    have h' : u.size ≤ t.size := h
    rw [List.set_cons_zero, sizes, sizes]; omega
  | t :: ts, i + 1, hi, h => by
    have ih := sizes_set u ts i (by simpa using hi) h
    rw [List.set_cons_succ, sizes, sizes]; omega
/-- RENAMING: valid, no larger, of the same meaning -/
theorem ren_ok : ∀ (path : List Int) (t : T) (p : Nat), WF t → t.size ≤ 2600 → WF (ren path t p) ∧ (ren path t p).size ≤ t.size ∧ ∀ ρ d, sem ρ d (ren path t p) = sem ρ d t
  | [], t, p, hw, hz => by
    have hp := hw.parts
    rw [ren]
    split
    · rename_i hk
      have hb := own_bind hp.1 hk
      have hlm := lastT_mem t.args hb.2
      have hls := size_arg hlm
      have hps := pick_spec (lastT t.args) p (by omega)
      generalize hs : lastT t.args = s at *
      have hgs : ∀ u ∈ t.args, WF u ∧ u.size < t.size := fun u hu => ⟨hp.2.mem hu, size_arg hu⟩
      have hlen : (lastF (fun s_1 => sub s_1.size s_1 t.var (vrT (pickW s p))) t.args).length = t.args.length := lastF_len _ _
      refine ⟨?_, ?_, fun ρ d => ?_⟩
      · rw [WF]
        have ho := own_of hp.1 (pickW s p) (lastF (fun s_1 => sub s_1.size s_1 t.var (vrT (pickW s p))) t.args) hlen (fun _ => hps.1) (fun h => absurd hk h)
        rw [hk] at ho
        refine ⟨ho, WFs.of (lastF_all _ WF t.args (fun u hu => (hgs u hu).1) (fun u hu => ?_))⟩
        have := (hgs u hu).2
        exact sub_wf _ u _ _ (hgs u hu).1 (vrT_wf hps.1) (by rw [vrT_size]; omega)
      · have := lastF_sizes (fun s_1 => sub s_1.size s_1 t.var (vrT (pickW s p))) t.args (fun u _ => sub_var_size _ u _ _)
        rw [T.size, size_eq t]; omega
      · rw [sem, sem_eq _ _ t, if_neg (by omega), if_neg (by omega), hk]
        rw [sems_lastF ρ d t.var (pickW s p) _ t.args hb.2]
        rw [hs, sub_sem _ s _ _ _ _ (Nat.le_refl _) (by rw [vrT_size]; omega)]
        refine sem_congr _ _ _ s (fun y hy => ?_)
        by_cases e : y = t.var
        · rw [e, upd_same, upd_same]
          funext j
          unfold vrT
          rw [sem, if_pos rfl, upd_same]
        · rw [upd_other _ _ _ e, upd_other _ _ _ e, upd_other _ _ _ (show y ≠ pickW s p from fun e => hps.2 (by rw [← e]; exact hy))]
    · exact ⟨hw, Nat.le_refl _, fun _ _ => rfl⟩
  | i :: path, t, p, hw, hz => by
    have hp := hw.parts
    rw [ren]
    split
    · rename_i h
      have hi : i.toNat < t.args.length := by omega
      have hm : t.args[i.toNat] ∈ t.args := List.getElem_mem hi
      have hs := size_arg hm
      have ih := ren_ok path t.args[i.toNat] p (hp.2.mem hm) (by omega)
      refine ⟨?_, ?_, fun ρ d => ?_⟩
      · rw [WF]
        refine ⟨own_of hp.1 _ _ (List.length_set ..) (fun hk => (own_bind hp.1 hk).1) (fun _ => rfl), WFs.of (fun u hu => ?_)⟩
        rcases List.mem_or_eq_of_mem_set hu with hu | rfl
        · exact hp.2.mem hu
        · exact ih.1
      · have := sizes_set _ t.args i.toNat hi ih.2.1
        rw [T.size, size_eq t]; omega
      · rw [sem, sem_eq _ _ t, sems_set ρ t.var t.kind d t.args i.toNat _ hi ih.2.2]
    · exact ⟨hw, Nat.le_refl _, fun _ _ => rfl⟩
theorem ren_valid (path : List Int) (t : T) (p : Nat) (h : validB t = true) : validB (ren path t p) = true ∧ sem (envZ []) 0 (ren path t p) = sem (envZ []) 0 t := by
  have hv := (valid_iff t).1 h
  have ho := ren_ok path t p hv.1 (by omega)
  exact ⟨(valid_iff _).2 ⟨ho.1, by omega⟩, ho.2.2 _ _⟩
theorem alpB_of {a b : T} (ha : validB a = true) (hb : validB b = true) (h : sem (envZ []) 0 a = sem (envZ []) 0 b) : alpB a b = true := (alpB_iff a b).2 ⟨ha, hb, h⟩
end Go.Proofs.YtkjhfbgdmmnadaaGreat
