/- Plain: valid terms, their sizes, their free names. -/
import Derived.Test.YtkjhfbgdmmnadaaGreatPlA
namespace Go.Proofs.YtkjhfbgdmmnadaaGreat

mutual
/-- each subterm is valid but for the number of all -/
def WF : T → Prop | .mk k n v ys f => ownB (.mk k n v ys f) = true ∧ WFs ys
def WFs : List T → Prop | [] => True | t :: ts => WF t ∧ WFs ts
end
theorem WF.parts {t : T} (h : WF t) : ownB t = true ∧ WFs t.args := by
  cases t with
  | mk k n v ys f => rw [WF] at h; exact h
theorem WF.of {t : T} (h : ownB t = true) (hs : WFs t.args) : WF t := by
  cases t with
  | mk k n v ys f => rw [WF]; exact ⟨h, hs⟩
theorem WFs.mem : ∀ {ts : List T}, WFs ts → ∀ {u}, u ∈ ts → WF u
  | [], _, _, h => by cases h
  | t :: ts, hs, u, h => by
    rw [WFs] at hs
    rcases List.mem_cons.1 h with rfl | h
    · exact hs.1
    · exact hs.2.mem h
theorem WFs.of : ∀ {ts : List T}, (∀ u ∈ ts, WF u) → WFs ts
  | [], _ => by rw [WFs]; trivial
  | t :: ts, h => by rw [WFs]; exact ⟨h t List.mem_cons_self, WFs.of fun u hu => h u (List.mem_cons_of_mem _ hu)⟩
theorem size_eq (t : T) : t.size = 1 + sizes t.args := by cases t; rw [T.size]; rfl
theorem size_pos (t : T) : 1 ≤ t.size := by rw [size_eq]; omega
mutual
theorem vld_wf (t : T) (c : Nat) (h : (vld t c).1 = true) : WF t ∧ (vld t c).2 = c + t.size := by
  cases t with
  | mk k n v ys f =>
    rw [vld] at h ⊢
    split
    · rename_i hc; rw [if_pos hc] at h; cases h
    · rename_i hc
      rw [if_neg hc] at h
      have ih := vlds_wf ys (c + 1) h
      rw [WF, T.size]
      refine ⟨⟨?_, ih.1⟩, by rw [ih.2]; omega⟩
      cases ho : ownB (.mk k n v ys f) with
      | true => rfl
      | false => exact absurd (.inr ho) hc
theorem vlds_wf (ts : List T) (c : Nat) (h : (vlds ts c).1 = true) : WFs ts ∧ (vlds ts c).2 = c + sizes ts := by
  cases ts with
  | nil => rw [vlds, WFs, sizes]; exact ⟨trivial, rfl⟩
  | cons t ts =>
    rw [vlds] at h ⊢
    cases hv : (vld t c).1 with
    | false => rw [hv] at h; simp at h
    | true =>
      rw [hv] at h
      simp only [if_true] at h ⊢
      have h1 := vld_wf t c hv
      have h2 := vlds_wf ts _ h
      rw [WFs, sizes]
      exact ⟨⟨h1.1, h2.1⟩, by rw [h2.2, h1.2]; omega⟩
end
mutual
theorem vld_of (t : T) (c : Nat) (h : WF t) (hc : c + t.size ≤ 1000) : vld t c = (true, c + t.size) := by
  cases t with
  | mk k n v ys f =>
    rw [WF] at h
    rw [T.size] at hc ⊢
    rw [vld, if_neg (fun h' => h'.elim (fun h' => by omega) (fun h' => by rw [h.1] at h'; cases h')), vlds_of ys (c + 1) h.2 (by omega)]
    congr 1; omega
theorem vlds_of (ts : List T) (c : Nat) (h : WFs ts) (hc : c + sizes ts ≤ 1000) : vlds ts c = (true, c + sizes ts) := by
  cases ts with
  | nil => rw [vlds, sizes]; rfl
  | cons t ts =>
    rw [WFs] at h
    rw [sizes] at hc ⊢
    rw [vlds, vld_of t c h.1 (by omega)]
    simp only [if_true]
    rw [vlds_of ts _ h.2 (by omega)]
    congr 1; omega
end
theorem valid_iff (t : T) : validB t = true ↔ WF t ∧ t.size ≤ 1000 := by
  unfold validB
  constructor
  · intro h
    have h1 := vld_wf t 0 h
    have := vld_le t 0 h
    exact ⟨h1.1, by omega⟩
  · rintro ⟨h1, h2⟩
    rw [vld_of t 0 h1 (by omega)]
mutual
/-- the reference's count: -1 if the term is not valid -/
def sizR : T → Int
  | .mk k n v ys f => if ownB (.mk k n v ys f) = false ∨ 1000 < ys.length then -1 else sizRs ys 1
def sizRs : List T → Int → Int
  | [], m => m
  | t :: ts, m => if sizR t < 0 ∨ 1000 < m + sizR t then -1 else sizRs ts (m + sizR t)
end
theorem sizR_eq (t : T) : sizR t = if ownB t = false ∨ 1000 < t.args.length then -1 else sizRs t.args 1 := by
  cases t with
  | mk k n v ys f => rw [sizR]; rfl
theorem len_sizes : ∀ ts : List T, ts.length ≤ sizes ts
  | [] => by simp
  | t :: ts => by have := len_sizes ts; have := size_pos t; rw [sizes]; simp; omega
mutual
theorem sizR_val (t : T) : (sizR t = -1 ∧ ¬ (WF t ∧ t.size ≤ 1000)) ∨ (sizR t = t.size ∧ WF t ∧ t.size ≤ 1000) := by
  cases t with
  | mk k n v ys f =>
    rw [sizR, WF, T.size]
    split
    · rename_i h
      refine .inl ⟨rfl, fun h' => ?_⟩
      rcases h with h | h
      · rw [h'.1.1] at h; cases h
      · have := len_sizes ys; omega
    · rename_i h
      have ho : ownB (.mk k n v ys f) = true := by
        cases ho : ownB (.mk k n v ys f) with
        | true => rfl
        | false => exact absurd (.inl ho) h
      rcases sizRs_val ys 1 (by omega) (by omega) with ⟨h1, h2⟩ | ⟨h1, h2, h3⟩
      · exact .inl ⟨h1, fun h' => h2 ⟨h'.1.2, by omega⟩⟩
      · exact .inr ⟨by rw [h1]; omega, ⟨ho, h2⟩, by omega⟩
theorem sizRs_val (ts : List T) (m : Int) (hm : 0 ≤ m) (hm2 : m ≤ 1000) : (sizRs ts m = -1 ∧ ¬ (WFs ts ∧ m + sizes ts ≤ 1000)) ∨ (sizRs ts m = m + sizes ts ∧ WFs ts ∧ m + sizes ts ≤ 1000) := by
  cases ts with
  | nil => rw [sizRs, WFs, sizes]; exact .inr ⟨by omega, trivial, by omega⟩
  | cons t ts =>
    have hp := size_pos t
    rw [sizRs, WFs, sizes]
    rcases sizR_val t with ⟨h1, h2⟩ | ⟨h1, h2, h3⟩
    · rw [if_pos (.inl (by omega))]
      exact .inl ⟨rfl, fun h' => h2 ⟨h'.1.1, by omega⟩⟩
    · rw [h1]
      split
      · exact .inl ⟨rfl, fun h' => by omega⟩
      · rcases sizRs_val ts (m + t.size) (by omega) (by omega) with ⟨h4, h5⟩ | ⟨h4, h5, h6⟩
        · exact .inl ⟨h4, fun h' => h5 ⟨h'.1.2, by omega⟩⟩
        · exact .inr ⟨by rw [h4]; omega, ⟨h2, h5⟩, by omega⟩
end
theorem sizR_valid (t : T) : sizR t = if validB t = true then (t.size : Int) else -1 := by
  rcases sizR_val t with ⟨h1, h2⟩ | ⟨h1, h2⟩
  · rw [h1, if_neg (fun h => h2 ((valid_iff t).1 h))]
  · rw [h1, if_pos ((valid_iff t).2 h2)]

mutual
/-- the names that occur free, in their order -/
def frL : T → List W8
  | .mk k n v ys _ => if k = 2 then [n] else frLs k v ys []
def frLs (k : Int) (v : W8) : List T → List W8 → List W8
  | [], out => out
  | t :: ts, out => frLs k v ts (unionL out (if k = 5 ∧ ts.length = 0 then withoutL (frL t) v else frL t))
end
theorem frL_eq (t : T) : frL t = if t.kind = 2 then [t.name] else frLs t.kind t.var t.args [] := by
  cases t with
  | mk k n v ys f => rw [frL]; rfl
/-- x occurs free in one of the arguments, of a node of that kind with that bound variable -/
def inArgs (k : Int) (v x : W8) : List T → Prop
  | [] => False
  | t :: ts => (x ∈ frL t ∧ ¬ (k = 5 ∧ ts.length = 0 ∧ x = v)) ∨ inArgs k v x ts
theorem mem_frLs {k : Int} {v x : W8} : ∀ {ts : List T} {out : List W8}, x ∈ frLs k v ts out ↔ x ∈ out ∨ inArgs k v x ts
  | [], out => by rw [frLs]; simp [inArgs]
  | t :: ts, out => by
    rw [frLs, mem_frLs, mem_unionL, inArgs]
    have e : x ∈ (if k = 5 ∧ ts.length = 0 then withoutL (frL t) v else frL t) ↔ (x ∈ frL t ∧ ¬ (k = 5 ∧ ts.length = 0 ∧ x = v)) := by
      split
      · rename_i h
        rw [mem_withoutL]
        constructor
        · rintro ⟨h1, h2⟩; exact ⟨h1, fun h' => h2 h'.2.2⟩
        · rintro ⟨h1, h2⟩; exact ⟨h1, fun h' => h2 ⟨h.1, h.2, h'⟩⟩
      · rename_i h
        constructor
        · intro h1; exact ⟨h1, fun h' => h ⟨h'.1, h'.2.1⟩⟩
        · exact fun h => h.1
    rw [e]
    constructor
    · rintro ((h | h) | h)
      · exact .inl h
      · exact .inr (.inl h)
      · exact .inr (.inr h)
    · rintro (h | (h | h))
      · exact .inl (.inl h)
      · exact .inl (.inr h)
      · exact .inr h
theorem mem_frL {x : W8} (t : T) : x ∈ frL t ↔ (t.kind = 2 ∧ x = t.name) ∨ (t.kind ≠ 2 ∧ inArgs t.kind t.var x t.args) := by
  rw [frL_eq]
  split
  · rename_i h; simp [h]
  · rename_i h; rw [mem_frLs]; simp [h]
theorem own_var {t : T} (h : ownB t = true) (hk : t.kind = 2) : identB t.name = true ∧ t.args = [] ∧ t.var = [] ∧ t.form = [] := by
  unfold ownB at h
  rw [if_neg (by omega), if_pos hk] at h
  unfold leafB at h
  simp only [Bool.and_eq_true, List.isEmpty_iff] at h
  exact ⟨h.2, h.1.2.2, h.1.1, h.1.2.1⟩
theorem own_bind {t : T} (h : ownB t = true) (hk : t.kind = 5) : identB t.var = true ∧ t.args ≠ [] := by
  unfold ownB at h
  rw [if_neg (by omega), if_neg (by omega), if_neg (by omega), if_neg (by omega), if_pos hk] at h
  simp only [Bool.and_eq_true, Bool.not_eq_true', List.isEmpty_eq_false_iff] at h
  exact ⟨h.1.2, h.2⟩
theorem ident_word {x : W8} (h : identB x = true) : wordB x = true := by
  unfold identB at h; simp only [Bool.and_eq_true] at h; exact h.1.1
mutual
theorem frL_ok (t : T) (h : WF t) : Srtd (frL t) ∧ ∀ x ∈ frL t, identB x = true := by
  cases t with
  | mk k n v ys f =>
    have hp := h.parts
    rw [frL]
    split
    · rename_i hk
      refine ⟨by unfold Srtd; simp, fun x hx => ?_⟩
      rw [List.mem_singleton] at hx
      rw [hx]; exact (own_var hp.1 hk).1
    · exact frLs_ok k v ys [] hp.2 (by unfold Srtd; simp) (by simp)
theorem frLs_ok (k : Int) (v : W8) (ts : List T) (out : List W8) (h : WFs ts) (h1 : Srtd out) (h2 : ∀ x ∈ out, identB x = true) : Srtd (frLs k v ts out) ∧ ∀ x ∈ frLs k v ts out, identB x = true := by
  cases ts with
  | nil => rw [frLs]; exact ⟨h1, h2⟩
  | cons t ts =>
    rw [WFs] at h
    have ih := frL_ok t h.1
    have hw : ∀ x ∈ (if k = 5 ∧ ts.length = 0 then withoutL (frL t) v else frL t), identB x = true := fun x hx => by
      split at hx
      · exact ih.2 x (mem_withoutL.1 hx).1
      · exact ih.2 x hx
    have hu := srtd_union (a := out) (b := if k = 5 ∧ ts.length = 0 then withoutL (frL t) v else frL t) (fun x hx => ident_word (h2 x hx)) h1 (fun x hx => ident_word (hw x hx))
    rw [frLs]
    refine frLs_ok k v ts _ h.2 hu.1 (fun x hx => ?_)
    rcases mem_unionL.1 hx with hx | hx
    · exact h2 x hx
    · exact hw x hx
end
mutual
theorem frL_len (t : T) : (frL t).length ≤ t.size := by
  cases t with
  | mk k n v ys f =>
    rw [frL, T.size]
    split
    · simp
    · have := frLs_len k v ys []; simp at this; omega
theorem frLs_len (k : Int) (v : W8) (ts : List T) (out : List W8) : (frLs k v ts out).length ≤ out.length + sizes ts := by
  cases ts with
  | nil => rw [frLs, sizes]; omega
  | cons t ts =>
    have h1 := frL_len t
    have h2 := frLs_len k v ts (unionL out (if k = 5 ∧ ts.length = 0 then withoutL (frL t) v else frL t))
    have hw : ∀ (l : List W8) (s : W8), (withL l s).length ≤ l.length + 1 := fun l s => by
      unfold withL
      split
      · omega
      · have : ∀ l : List W8, (insL s l).length = l.length + 1 := fun l => by
          induction l with
          | nil => simp [insL]
          | cons a l ih => rw [insL]; split <;> simp [ih]
        rw [this]; omega
    have hu : ∀ (b a : List W8), (unionL a b).length ≤ a.length + b.length := fun b => by
      induction b with
      | nil => intro a; simp [unionL]
      | cons s b ih =>
        intro a
        have h := ih (withL a s)
        have := hw a s
        unfold unionL at h ⊢
        rw [List.foldl_cons]
        simp only [List.length_cons]; omega
    have hx := hu (if k = 5 ∧ ts.length = 0 then withoutL (frL t) v else frL t) out
    have hi : (if k = 5 ∧ ts.length = 0 then withoutL (frL t) v else frL t).length ≤ (frL t).length := by
      split
      · exact List.length_filter_le _ _
      · omega
    rw [frLs, sizes]; omega
end
end Go.Proofs.YtkjhfbgdmmnadaaGreat
