/- Terms ys trees, and how they lie in memory. -/
import Derived.Test.YtkjhfbgdmmnadaaGreatLeaf3
namespace Go.Proofs.YtkjhfbgdmmnadaaGreat
open Go.RowKit

inductive T where
  | mk (kind : Int) (name var : List UInt8) (args : List T) (form : List UInt8)
def T.kind : T → Int | .mk k _ _ _ _ => k
def T.name : T → List UInt8 | .mk _ n _ _ _ => n
def T.var : T → List UInt8 | .mk _ _ v _ _ => v
def T.args : T → List T | .mk _ _ _ a _ => a
def T.form : T → List UInt8 | .mk _ _ _ _ f => f
mutual
def T.size : T → Nat | .mk _ _ _ ys _ => 1 + sizes ys
def sizes : List T → Nat | [] => 0 | t :: ts => t.size + sizes ts
end
theorem size_mem {t : T} : ∀ {ts : List T}, t ∈ ts → t.size ≤ sizes ts
  | [], h => by cases h
  | u :: ts, h => by
    unfold sizes
    rcases List.mem_cons.1 h with rfl | h
    · omega
    · have := size_mem h; omega
theorem size_arg {t u : T} (h : u ∈ t.args) : u.size < t.size := by
  cases t with
  | mk k n v ys f =>
    have := size_mem (ts := ys) h
    have e : T.size (.mk k n v ys f) = 1 + sizes ys := by rw [T.size]
    omega
mutual
/-- the term t lies at (b, o), all of it below block B -/
def TR (w : World) (B b o : Nat) : T → Prop
  | .mk k n v ys f => b < B ∧ w.cell? ⟨b, o, none⟩ = some (.int .i64 k) ∧ w.cell? ⟨b, o + 1, none⟩ = some (.string ⟨n.toArray⟩) ∧ w.cell? ⟨b, o + 2, none⟩ = some (.string ⟨v.toArray⟩) ∧ w.cell? ⟨b, o + 4, none⟩ = some (.string ⟨f.toArray⟩) ∧
      ∃ A c, w.cell? ⟨b, o + 3, none⟩ = some (.slice A ys.length c) ∧ (ys.length ≤ c ∧ c ≤ 9223372036854775807) ∧ (ys ≠ [] → ∃ b' o', A = some ⟨b', o', none⟩ ∧ TRs w B b' o' ys)
/-- the terms lie one behind the other from (b, o) on -/
def TRs (w : World) (B b o : Nat) : List T → Prop
  | [] => True
  | t :: ts => TR w B b o t ∧ TRs w B b (o + 5) ts
end
/-- the arguments' slice -/
def TA (w : World) (B : Nat) (A : Option Addr) (ys : List T) : Prop := ys ≠ [] → ∃ b o, A = some ⟨b, o, none⟩ ∧ TRs w B b o ys
theorem TRs.at_ {w : World} {B b : Nat} : ∀ {ys : List T} {o : Nat}, TRs w B b o ys → ∀ i t, ys[i]? = some t → TR w B b (o + i * 5) t
  | [], _, _, _, _, h => by simp at h
  | u :: ys, o, hr, i, t, h => by
    unfold TRs at hr
    cases i with
    | zero => simp at h; subst h; simpa using hr.1
    | succ i =>
      have := hr.2.at_ i t (by simpa using h)
      rwa [show o + 5 + i * 5 = o + (i + 1) * 5 from by omega] at this
mutual
theorem TR.below {w w' : World} {B b o : Nat} {t : T} (h : TR w B b o t) (hb : Below B w w') : TR w' B b o t := by
  cases t with
  | mk k n v ys f =>
    unfold TR at h ⊢
    obtain ⟨h1, h2, h3, h4, h5, A, c, h6, h7, h8⟩ := h
    refine ⟨h1, (hb.cell (p := ⟨b, _, none⟩) h1).trans h2, (hb.cell (p := ⟨b, _, none⟩) h1).trans h3, (hb.cell (p := ⟨b, _, none⟩) h1).trans h4, (hb.cell (p := ⟨b, _, none⟩) h1).trans h5, A, c, (hb.cell (p := ⟨b, _, none⟩) h1).trans h6, h7, fun hne => ?_⟩
    obtain ⟨b', o', hA, hs⟩ := h8 hne
    exact ⟨b', o', hA, hs.below hb⟩
theorem TRs.below {w w' : World} {B b o : Nat} {ts : List T} (h : TRs w B b o ts) (hb : Below B w w') : TRs w' B b o ts := by
  cases ts with
  | nil => unfold TRs; trivial
  | cons t ts =>
    unfold TRs at h ⊢
    exact ⟨h.1.below hb, h.2.below hb⟩
end
mutual
theorem TR.more {w : World} {B B' b o : Nat} {t : T} (h : TR w B b o t) (hB : B ≤ B') : TR w B' b o t := by
  cases t with
  | mk k n v ys f =>
    unfold TR at h ⊢
    obtain ⟨h1, h2, h3, h4, h5, A, c, h6, h7, h8⟩ := h
    refine ⟨by omega, h2, h3, h4, h5, A, c, h6, h7, fun hne => ?_⟩
    obtain ⟨b', o', hA, hs⟩ := h8 hne
    exact ⟨b', o', hA, hs.more hB⟩
theorem TRs.more {w : World} {B B' b o : Nat} {ts : List T} (h : TRs w B b o ts) (hB : B ≤ B') : TRs w B' b o ts := by
  cases ts with
  | nil => unfold TRs; trivial
  | cons t ts =>
    unfold TRs at h ⊢
    exact ⟨h.1.more hB, h.2.more hB⟩
end
/-- the term's parts in memory -/
theorem TR.parts {w : World} {B b o : Nat} {t : T} (h : TR w B b o t) : b < B ∧ w.cell? ⟨b, o, none⟩ = some (.int .i64 t.kind) ∧ w.cell? ⟨b, o + 1, none⟩ = some (.string ⟨t.name.toArray⟩) ∧ w.cell? ⟨b, o + 2, none⟩ = some (.string ⟨t.var.toArray⟩) ∧ w.cell? ⟨b, o + 4, none⟩ = some (.string ⟨t.form.toArray⟩) ∧
    ∃ A c, w.cell? ⟨b, o + 3, none⟩ = some (.slice A t.args.length c) ∧ (t.args.length ≤ c ∧ c ≤ 9223372036854775807) ∧ TA w B A t.args := by
  cases t with
  | mk k n v ys f => unfold TR at h; exact h
end Go.Proofs.YtkjhfbgdmmnadaaGreat
