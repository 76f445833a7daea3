/- names 42, Names 22; the names of a term in their order. -/
import Derived.Test.YtkjhfbgdmmnadaaGreatFr2
import Derived.Test.YtkjhfbgdmmnadaaGreatPlF
namespace Go.Proofs.YtkjhfbgdmmnadaaGreat
open Go.RowKit Go.Maps Go.Sort Go.Shelf

def hdL (k : Int) (n v : W8) : List W8 := if k = 2 then [n] else if k = 5 then [v] else []
mutual
/-- all names of a term, in their order -/
def nmT : T → List W8 | .mk k n v ys _ => nmTs ys (hdL k n v)
def nmTs : List T → List W8 → List W8
  | [], out => out
  | t :: ts, out => nmTs ts (unionL out (nmT t))
end
theorem nmT_eq (t : T) : nmT t = nmTs t.args (hdL t.kind t.name t.var) := by cases t; rw [nmT]; rfl
mutual
theorem nmT_ok (t : T) (h : WF t) : Srtd (nmT t) ∧ ∀ x ∈ nmT t, identB x = true := by
  cases t with
  | mk k n v ys f =>
    have hp := h.parts
    rw [nmT]
    refine nmTs_ok ys _ hp.2 ?_ ?_
    · unfold hdL Srtd
      split
      · simp
      · split <;> simp
    · intro x hx
      unfold hdL at hx
      split at hx
      · rename_i hk
        rw [List.mem_singleton] at hx
        rw [hx]; exact (own_var hp.1 hk).1
      · split at hx
        · rename_i hk
          rw [List.mem_singleton] at hx
          rw [hx]; exact (own_bind hp.1 hk).1
        · cases hx
theorem nmTs_ok (ts : List T) (out : List W8) (h : WFs ts) (h1 : Srtd out) (h2 : ∀ x ∈ out, identB x = true) : Srtd (nmTs ts out) ∧ ∀ x ∈ nmTs ts out, identB x = true := by
  cases ts with
  | nil => rw [nmTs]; exact ⟨h1, h2⟩
  | cons t ts =>
    rw [WFs] at h
    have ih := nmT_ok t h.1
    have hu := srtd_union (a := out) (b := nmT t) (fun x hx => ident_word (h2 x hx)) h1 (fun x hx => ident_word (ih.2 x hx))
    rw [nmTs]
    refine nmTs_ok ts _ h.2 hu.1 (fun x hx => ?_)
    rcases mem_unionL.1 hx with hx | hx
    · exact h2 x hx
    · exact ih.2 x hx
end
theorem unionL_len (b : List W8) : ∀ a : List W8, (unionL a b).length ≤ a.length + b.length := by
  induction b with
  | nil => intro a; simp [unionL]
  | cons s b ih =>
    intro a
    have h := ih (withL a s)
    have := withL_len a s
    unfold unionL at h ⊢
    rw [List.foldl_cons]
    simp only [List.length_cons]; omega
mutual
theorem nmT_len (t : T) : (nmT t).length ≤ t.size := by
  cases t with
  | mk k n v ys f =>
    have h := nmTs_len ys (hdL k n v)
    have : (hdL k n v).length ≤ 1 := by unfold hdL; split; simp; split <;> simp
    rw [nmT, T.size]; omega
theorem nmTs_len (ts : List T) (out : List W8) : (nmTs ts out).length ≤ out.length + sizes ts := by
  cases ts with
  | nil => rw [nmTs, sizes]; omega
  | cons t ts =>
    have h1 := nmT_len t
    have h2 := nmTs_len ts (unionL out (nmT t))
    have h3 := unionL_len (nmT t) out
    rw [nmTs, sizes]; omega
end
/-- Names: the names of a valid term, else none -/
def namesL (t : T) : List W8 := if validB t = true then nmT t else []

end Go.Proofs.YtkjhfbgdmmnadaaGreat
