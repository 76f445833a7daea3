/- A valid term has short strings; a boxed pair. -/
import Derived.Test.YtknpigdpepmimaaGreatDoorM38
namespace Go.Proofs.YtknpigdpepmimaaGreatDoor
open Go.RowKit Go.Maps
theorem form_short {t : T} (h : ownB t = true) : t.form.length ≤ 1000 := by
  cases t with
  | mk k n v ys f =>
    rw [ownB_mk] at h
    show f.length ≤ 1000
    have he : ∀ {x : W8}, x.isEmpty = true → x.length ≤ 1000 := fun {x} hx => by rw [List.isEmpty_iff] at hx; subst hx; simp
    by_cases h1 : k = 1
    · rw [if_pos h1] at h; simp only [Bool.and_eq_true] at h; exact he h.1.2.1
    rw [if_neg h1] at h
    by_cases h2 : k = 2
    · rw [if_pos h2] at h; simp only [Bool.and_eq_true] at h; exact he h.1.2.1
    rw [if_neg h2] at h
    by_cases h3 : k = 3
    · rw [if_pos h3] at h; simp only [Bool.and_eq_true] at h; exact he h.1.2.1
    rw [if_neg h3] at h
    by_cases h4 : k = 4
    · rw [if_pos h4] at h; simp only [Bool.and_eq_true, decide_eq_true_eq] at h; have := h.1.1.2; omega
    rw [if_neg h4] at h
    by_cases h5 : k = 5
    · rw [if_pos h5] at h; simp only [Bool.and_eq_true, decide_eq_true_eq] at h; have := h.1.1.1.2; omega
    rw [if_neg h5] at h; cases h
theorem sas_of : ∀ (ts : List T), (∀ u ∈ ts, SA u) → SAs ts
  | [], _ => by rw [SAs]; trivial
  | u :: ts, h => by rw [SAs]; exact ⟨h u List.mem_cons_self, sas_of ts fun x hx => h x (List.mem_cons_of_mem _ hx)⟩
theorem wf_SA' : ∀ (N : Nat) (t : T), t.size ≤ N → WF t → SA t
  | 0, t, h, _ => by have := size_pos t; omega
  | N + 1, t, h, hw => by
    have hp := hw.parts
    have h1 := own_short' hp.1
    have h2 := var_short hp.1
    have h3 := form_short hp.1
    have h4 := sas_of t.args fun u hu => wf_SA' N u (size_list h hu) (hp.2.mem hu)
    cases t with
    | mk k n v ys f => rw [SA]; exact ⟨⟨by have : n.length ≤ 200 := h1.1; show n.length ≤ 1000; omega, h2, h3⟩, h4⟩
theorem wf_SA {t : T} (h : validB t = true) : SA t := wf_SA' t.size t (Nat.le_refl _) ((valid_iff t).1 h).1
theorem two_new (w : World) (x y : Value) (ty : TypeId) : Rmx (w.alloc (.cells #[x, y] ty)) w.heap.size x y := ⟨by simp, by simp⟩
end Go.Proofs.YtknpigdpepmimaaGreatDoor
