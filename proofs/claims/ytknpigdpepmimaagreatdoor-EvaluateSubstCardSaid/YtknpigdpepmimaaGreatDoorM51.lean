/- EvaluateSubst, plain: a number in the place of an identifier leads to the value that the environment with its value leads to. No program. -/
import Derived.Lib.ItoaLen
import Derived.Test.YtknpigdpepmimaaGreatDoorM40
import Derived.Test.YtknpigdpepmimaaGreatDoorM46
namespace Go.Proofs.YtknpigdpepmimaaGreatDoor
/-- a number in the place of a name makes no term larger -/
theorem sub_leaf_size {b : T} (hb : b.size = 1) : ∀ (N : Nat) (t : T) (x : W8), (sub N t x b).size ≤ t.size
  | 0, t, x => by rw [sub]; exact Nat.le_refl _
  | N + 1, t, x => by
    have ih := sub_leaf_size hb N
    rw [sub]
    split
    · rw [hb]; exact size_pos t
    · rw [T.size, size_eq t]
      have := subsF_sizes (fun u => sub N u x b) (fun s => (scp (sub N) t.var s x b).2) t.kind t.args (fun u _ => ⟨ih u x, by
        unfold scp
        split
        · exact Nat.le_refl _
        · split
          · exact ih u x
          · exact Nat.le_trans (ih _ x) (sub_var_size N u _ _)⟩)
      omega
/-- up to three digits -/
def d3 (n : Nat) : W8 := if n < 10 then [UInt8.ofNat (48 + n)] else if n < 100 then [UInt8.ofNat (48 + n / 10), UInt8.ofNat (48 + n % 10)] else [UInt8.ofNat (48 + n / 10 / 10), UInt8.ofNat (48 + n / 10 % 10), UInt8.ofNat (48 + n % 10)]
theorem dec_step (n : Nat) (h : ¬ n < 10) : Lib.decDigits n = Lib.decDigits (n / 10) ++ [UInt8.ofNat (48 + n % 10)] := by
  conv => lhs; rw [Lib.decDigits]
  rw [dif_neg h]
theorem dec_d3 (n : Nat) (h : n < 1000) : Lib.decDigits n = d3 n := by
  unfold d3
  by_cases h1 : n < 10
  · rw [if_pos h1, Lib.decDigits_one h1]
  rw [if_neg h1, dec_step n h1]
  by_cases h2 : n < 100
  · rw [if_pos h2, Lib.decDigits_one (by omega)]; rfl
  · rw [if_neg h2, dec_step (n / 10) (by omega), Lib.decDigits_one (by omega)]; rfl
/-- a number as a term -/
def byT (n : Nat) : T := .mk 1 (Lib.decDigits n) [] [] []
def numOK (n : Nat) : Bool := decide ((Q.parseQ (d3 n)).err = 0 ∧ (Q.parseQ (d3 n)).num = n ∧ (Q.parseQ (d3 n)).den = 1) && (validB (.mk 1 (d3 n) [] [] []) && decide ((d3 n).length ≤ 3))
theorem num_all : (List.range 256).all numOK = true := by kernel_rfl
theorem num_fact {n : Nat} (h : n < 256) : numR' (Lib.decDigits n) = okR (whV n) ∧ validB (byT n) = true ∧ (Lib.decDigits n).length ≤ 3 := by
  have h1 := List.all_eq_true.1 num_all n (List.mem_range.2 h)
  unfold numOK at h1
  rw [Bool.and_eq_true, Bool.and_eq_true, decide_eq_true_eq, decide_eq_true_eq, ← dec_d3 n (by omega)] at h1
  refine ⟨?_, h1.2.1, h1.2.2⟩
  unfold numR' joinQ
  rw [if_pos ⟨h1.1.1, rfl⟩, h1.1.2.1, h1.1.2.2]
  rfl
theorem byT_size (n : Nat) : (byT n).size = 1 := by unfold byT; rw [T.size, sizes]
theorem sub_bad {t u : T} {x : W8} (h : validB t = false) : sbT t x u = (zT, 1) := by
  unfold sbT okSub
  rw [h]
  rfl
theorem sub_good {t : T} {x : W8} {n : Nat} (hn : n < 256) (ht : validB t = true) (hx : identB x = true) : sbT t x (byT n) = (subT t x (byT n), 0) ∧ validB (subT t x (byT n)) = true := by
  have hb := (num_fact hn).2.1
  have hv : validB (subT t x (byT n)) = true := by
    have h1 := (valid_iff t).1 ht
    refine (valid_iff _).2 ⟨subT_wf x ht hb, Nat.le_trans ?_ h1.2⟩
    unfold subT
    exact sub_leaf_size (byT_size n) _ _ _
  refine ⟨?_, hv⟩
  unfold sbT okSub
  rw [ht, hb, hx, hv]
  rfl
theorem zip_get {ns : List W8} {vs : List V} (k : Nat) (h1 : k < ns.length) (h2 : k < vs.length) : (ns[k], vs[k]) ∈ ns.zip vs := by
  have h : k < (ns.zip vs).length := by rw [List.length_zip]; omega
  have := List.getElem_mem h
  rw [List.getElem_zip] at this
  exact this
theorem subst_value {t : T} {ns : List W8} {vs : List V} {k n : Nat} (hk : k < ns.length) (hn : n < 256) (ht : validB t = true) (he : envB ns vs = true) : valueR (subT t ns[k] (byT n)) ns (vs.set k (whV n)) = valueR t ns (vs.set k (whV n)) := by
  have hwo : (whV n).ok := wh_ok (by omega)
  have hl := (envB_parts he).1.1
  have he' : envB ns (vs.set k (whV n)) = true := envB_vals he List.length_set fun x hx => by
    rcases List.mem_or_eq_of_mem_set hx with hx | rfl
    · exact envB_val he x hx
    · exact hwo
  have hv := (sub_good hn ht (envB_ident he _ (List.getElem_mem hk))).2
  have h1 := (valid_iff t).1 ht
  have hnum := num_fact hn
  have hlk : lkR (ns.zip (vs.set k (whV n))) ns[k] = okR (whV n) := lk_mem (envB_parts he').2 (by
    have h2 : k < (vs.set k (whV n)).length := by rw [List.length_set]; omega
    have := zip_get k hk h2
    rw [List.getElem_set_self] at this
    exact this)
  unfold valueR
  rw [if_pos he', if_pos he', if_pos hv, if_pos ht]
  unfold subT byT
  rw [ev_subst h1.1 (((valid_iff _).1 hnum.2.1).1) (by omega) hnum.1]
  rw [ev_congr t.size t (Nat.le_refl _) ((ns[k], whV n) :: ns.zip (vs.set k (whV n))) (ns.zip (vs.set k (whV n))) fun y _ => by
    rw [lk_cons]
    by_cases hy : y = ns[k]
    · rw [if_pos hy, hy, hlk]
    · rw [if_neg hy]]
end Go.Proofs.YtknpigdpepmimaaGreatDoor
