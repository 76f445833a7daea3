/- A slice of terms that the call made: terms are appended to it. -/
import Derived.Test.YtkjhfbgdmmnadaaGreatVis
import Derived.Deep.AppendLies
import Derived.Deep.RegionHeldLaw
namespace Go.Proofs.YtkjhfbgdmmnadaaGreat
open Go.RowKit

mutual
/-- the term t lies at (b, o), all of it in blocks of S -/
def TRS (w : World) (S : Nat → Prop) (b o : Nat) : T → Prop
  | .mk k n v ys f => S b ∧ w.cell? ⟨b, o, none⟩ = some (.int .i64 k) ∧ w.cell? ⟨b, o + 1, none⟩ = some (.string ⟨n.toArray⟩) ∧ w.cell? ⟨b, o + 2, none⟩ = some (.string ⟨v.toArray⟩) ∧ w.cell? ⟨b, o + 4, none⟩ = some (.string ⟨f.toArray⟩) ∧
      ∃ A c, w.cell? ⟨b, o + 3, none⟩ = some (.slice A ys.length c) ∧ (ys.length ≤ c ∧ c ≤ 9223372036854775807) ∧ (ys ≠ [] → ∃ b' o', A = some ⟨b', o', none⟩ ∧ TRSs w S b' o' ys)
def TRSs (w : World) (S : Nat → Prop) (b o : Nat) : List T → Prop
  | [] => True
  | t :: ts => TRS w S b o t ∧ TRSs w S b (o + 5) ts
end
/-- the arguments' slice -/
def TAS (w : World) (S : Nat → Prop) (A : Option Addr) (ys : List T) : Prop := ys ≠ [] → ∃ b o, A = some ⟨b, o, none⟩ ∧ TRSs w S b o ys
mutual
theorem TRS.keep {w w' : World} {S S' : Nat → Prop} {b o : Nat} {t : T} (h : TRS w S b o t) (hk : ∀ k, S k → S' k ∧ w'.heap[k]? = w.heap[k]?) : TRS w' S' b o t := by
  cases t with
  | mk k n v ys f =>
    unfold TRS at h ⊢
    obtain ⟨h1, h2, h3, h4, h5, A, c, h6, h7, h8⟩ := h
    have hc := fun o => cell_of_block (hk b h1).2 o
    refine ⟨(hk b h1).1, (hc _).trans h2, (hc _).trans h3, (hc _).trans h4, (hc _).trans h5, A, c, (hc _).trans h6, h7, fun hne => ?_⟩
    obtain ⟨b', o', hA, hs⟩ := h8 hne
    exact ⟨b', o', hA, hs.keep hk⟩
theorem TRSs.keep {w w' : World} {S S' : Nat → Prop} {b o : Nat} {ts : List T} (h : TRSs w S b o ts) (hk : ∀ k, S k → S' k ∧ w'.heap[k]? = w.heap[k]?) : TRSs w' S' b o ts := by
  cases ts with
  | nil => unfold TRSs; trivial
  | cons t ts =>
    unfold TRSs at h ⊢
    exact ⟨h.1.keep hk, h.2.keep hk⟩
end
mutual
theorem TRS.tr {w : World} {S : Nat → Prop} {B b o : Nat} {t : T} (h : TRS w S b o t) (hS : ∀ k, S k → k < B) : TR w B b o t := by
  cases t with
  | mk k n v ys f =>
    unfold TRS at h
    unfold TR
    obtain ⟨h1, h2, h3, h4, h5, A, c, h6, h7, h8⟩ := h
    refine ⟨hS b h1, h2, h3, h4, h5, A, c, h6, h7, fun hne => ?_⟩
    obtain ⟨b', o', hA, hs⟩ := h8 hne
    exact ⟨b', o', hA, hs.trs hS⟩
theorem TRSs.trs {w : World} {S : Nat → Prop} {B b o : Nat} {ts : List T} (h : TRSs w S b o ts) (hS : ∀ k, S k → k < B) : TRs w B b o ts := by
  cases ts with
  | nil => unfold TRs; trivial
  | cons t ts =>
    unfold TRSs at h
    unfold TRs
    exact ⟨h.1.tr hS, h.2.trs hS⟩
end
mutual
theorem TR.set {w : World} {B b o : Nat} {t : T} (h : TR w B b o t) : TRS w (fun k => k < B) b o t := by
  cases t with
  | mk k n v ys f =>
    unfold TR at h
    unfold TRS
    obtain ⟨h1, h2, h3, h4, h5, A, c, h6, h7, h8⟩ := h
    refine ⟨h1, h2, h3, h4, h5, A, c, h6, h7, fun hne => ?_⟩
    obtain ⟨b', o', hA, hs⟩ := h8 hne
    exact ⟨b', o', hA, hs.set⟩
theorem TRs.set {w : World} {B b o : Nat} {ts : List T} (h : TRs w B b o ts) : TRSs w (fun k => k < B) b o ts := by
  cases ts with
  | nil => unfold TRSs; trivial
  | cons t ts =>
    unfold TRs at h
    unfold TRSs
    exact ⟨h.1.set, h.2.set⟩
end
/-- a term as a value, its arguments in blocks of S -/
structure TVS (w : World) (S : Nat → Prop) (t : T) (A : Option Addr) (c : Nat) : Prop where
  cap : t.args.length ≤ c ∧ c ≤ 9223372036854775807
  ar : TAS w S A t.args
theorem TVS.keep {w w' : World} {S S' : Nat → Prop} {t : T} {A : Option Addr} {c : Nat} (h : TVS w S t A c) (hk : ∀ k, S k → S' k ∧ w'.heap[k]? = w.heap[k]?) : TVS w' S' t A c :=
  ⟨h.cap, fun hne => by
    obtain ⟨b, o, hA, hs⟩ := h.ar hne
    exact ⟨b, o, hA, hs.keep hk⟩⟩
theorem TVS.tv {w : World} {S : Nat → Prop} {B : Nat} {t : T} {A : Option Addr} {c : Nat} (h : TVS w S t A c) (hS : ∀ k, S k → k < B) : TV w B t A c :=
  ⟨h.cap, fun hne => by
    obtain ⟨b, o, hA, hs⟩ := h.ar hne
    exact ⟨b, o, hA, hs.trs hS⟩⟩
theorem TV.set {w : World} {B : Nat} {t : T} {A : Option Addr} {c : Nat} (h : TV w B t A c) : TVS w (fun k => k < B) t A c :=
  ⟨h.cap, fun hne => by
    obtain ⟨b, o, hA, hs⟩ := h.ar hne
    exact ⟨b, o, hA, hs.set⟩⟩
theorem TRS.of_parts {w : World} {S : Nat → Prop} {b o : Nat} {t : T} {A : Option Addr} {c : Nat} (h1 : S b) (c0 : w.cell? ⟨b, o, none⟩ = some (.int .i64 t.kind)) (c1 : w.cell? ⟨b, o + 1, none⟩ = some (.string ⟨t.name.toArray⟩)) (c2 : w.cell? ⟨b, o + 2, none⟩ = some (.string ⟨t.var.toArray⟩))
    (c3 : w.cell? ⟨b, o + 3, none⟩ = some (.slice A t.args.length c)) (c4 : w.cell? ⟨b, o + 4, none⟩ = some (.string ⟨t.form.toArray⟩)) (hv : TVS w S t A c) : TRS w S b o t := by
  cases t with
  | mk k n v ys f =>
    rw [TRS]
    exact ⟨h1, c0, c1, c2, c4, A, c, c3, hv.cap, hv.ar⟩
theorem TRS.parts {w : World} {S : Nat → Prop} {b o : Nat} {t : T} (h : TRS w S b o t) : S b ∧ w.cell? ⟨b, o, none⟩ = some (.int .i64 t.kind) ∧ w.cell? ⟨b, o + 1, none⟩ = some (.string ⟨t.name.toArray⟩) ∧ w.cell? ⟨b, o + 2, none⟩ = some (.string ⟨t.var.toArray⟩) ∧ w.cell? ⟨b, o + 4, none⟩ = some (.string ⟨t.form.toArray⟩) ∧
    ∃ A c, w.cell? ⟨b, o + 3, none⟩ = some (.slice A t.args.length c) ∧ TVS w S t A c := by
  cases t with
  | mk k n v ys f =>
    unfold TRS at h
    obtain ⟨h1, h2, h3, h4, h5, A, c, h6, h7, h8⟩ := h
    exact ⟨h1, h2, h3, h4, h5, A, c, h6, ⟨h7, h8⟩⟩
theorem TRSs.at_ {w : World} {S : Nat → Prop} {b : Nat} : ∀ {ys : List T} {o : Nat}, TRSs w S b o ys → ∀ i t, ys[i]? = some t → TRS w S b (o + i * 5) t
  | [], _, _, _, _, h => by simp at h
  | u :: ys, o, hr, i, t, h => by
    unfold TRSs at hr
    cases i with
    | zero => simp at h; subst h; simpa using hr.1
    | succ i =>
      have := hr.2.at_ i t (by simpa using h)
      rwa [show o + 5 + i * 5 = o + (i + 1) * 5 from by omega] at this
theorem TAS.at_ {w : World} {S : Nat → Prop} {A : Option Addr} {ys : List T} (h : TAS w S A ys) {i : Nat} (hi : i < ys.length) : ∃ b o, A = some ⟨b, o, none⟩ ∧ TRS w S b (o + i * 5) ys[i] := by
  obtain ⟨b, o, hA, hs⟩ := h (by intro e; rw [e] at hi; simp at hi)
  exact ⟨b, o, hA, hs.at_ i ys[i] (List.getElem?_eq_getElem hi)⟩

/-- a term as a value: its tree, its arguments' address and capacity -/
structure TX where
  t : T
  A : Option Addr
  c : Nat
def TX.cells (x : TX) : List Value := (tv x.t x.A x.c).toList
def txc (l : List TX) : List Value := l.flatMap TX.cells
theorem tx_len (x : TX) : x.cells.length = 5 := rfl
theorem txc_len : ∀ l : List TX, (txc l).length = l.length * 5
  | [] => rfl
  | x :: l => by
    show (x.cells ++ txc l).length = _
    rw [List.length_append, txc_len l, tx_len, List.length_cons]; omega
/-- what a slice's terms may lie in: blocks of Z that are there, but for the slice's own -/
def Zo (Z : Nat → Prop) (w : World) (v : Value) : Nat → Prop := fun k => Z k ∧ k < w.heap.size ∧ v.ownBlock ≠ some k
/-- the row of a slice of terms that the call owns -/
def OT (Z : Nat → Prop) (w : World) (B : Nat) (v : Value) (l : List TX) : Prop := w.ownsRow B 24 5 v l.length (txc l) ∧ ∀ x ∈ l, TVS w (Zo Z w v) x.t x.A x.c
theorem ot_nil (Z : Nat → Prop) (w : World) (B : Nat) : OT Z w B (.slice none 0 0) [] := ⟨World.ownsRow_nil _ _ _ _, by simp⟩
theorem OT.bel {Z : Nat → Prop} {w w' : World} {B : Nat} {v : Value} {l : List TX} (h : OT Z w B v l) (hb : Below w.heap.size w w') : OT Z w' B v l :=
  ⟨World.ownsRow.kept h.1 (row := none) ⟨hb.os, hb.tape, hb.output, hb.size, fun k hk _ => hb.block k hk⟩ (by cases v.ownBlock <;> simp), fun x hx => (h.2 x hx).keep (fun k hk => ⟨⟨hk.1, Nat.lt_of_lt_of_le hk.2.1 hb.size, hk.2.2⟩, hb.block k hk.2.1⟩)⟩
/-- a store into another block than the row's, in which none of the terms lies -/
theorem OT.trs {Z : Nat → Prop} {w : World} {B : Nat} {v : Value} {l : List TX} (h : OT Z w B v l) (hZ : ∀ k, B ≤ k → Z k) : ∃ A c, v = .slice A l.length c ∧ (l.length ≤ c ∧ c ≤ 9223372036854775807) ∧ TAS w (fun k => Z k ∧ k < w.heap.size) A (l.map TX.t) := by
  obtain ⟨hrow, hel⟩ := h
  rcases hrow.2 with ⟨rfl, hz⟩ | ⟨g, cap, cur, rfl, h1, h2, h3, h4, h5, h6⟩
  · have e : l = [] := List.eq_nil_of_length_eq_zero hz
    subst e
    exact ⟨none, 0, rfl, ⟨Nat.le_refl _, by omega⟩, fun hne => absurd rfl hne⟩
  · refine ⟨some ⟨g, 0, none⟩, cap, rfl, ⟨h3, by unfold maxLen at h4; omega⟩, fun _ => ⟨g, 0, rfl, ?_⟩⟩
    have hg : Z g ∧ g < w.heap.size := ⟨hZ g h1, (Array.getElem?_eq_some_iff.1 h2).1⟩
    have hcell : ∀ j v, (txc l)[j]? = some v → w.cell? ⟨g, j, none⟩ = some v := fun j v hv => by
      have hj : j < l.length * 5 := by
        have := (List.getElem?_eq_some_iff.1 hv).1
        rwa [txc_len] at this
      have e1 : (cur.toList.take (l.length * 5))[j]? = (txc l)[j]? := by rw [h6]
      rw [List.getElem?_take_of_lt hj, hv] at e1
      simp only [World.cell?, h2, Option.isSome_none, Bool.false_eq_true, if_false]
      rw [← Array.getElem?_toList]; exact e1
    have hel2 : ∀ x ∈ l, TVS w (fun k => Z k ∧ k < w.heap.size) x.t x.A x.c := fun x hx => (hel x hx).keep (fun k hk => ⟨⟨hk.1, hk.2.1⟩, rfl⟩)
    clear h1 h2 h3 h4 h5 h6 hrow hel
    have gen : ∀ (ls : List TX) (o : Nat), (∀ x ∈ ls, TVS w (fun k => Z k ∧ k < w.heap.size) x.t x.A x.c) → (∀ j v, (txc ls)[j]? = some v → w.cell? ⟨g, o + j, none⟩ = some v) → TRSs w (fun k => Z k ∧ k < w.heap.size) g o (ls.map TX.t) := by
      intro ls
      induction ls with
      | nil => intro o _ _; rw [List.map_nil, TRSs]; trivial
      | cons x ls ih =>
        intro o hx hc
        rw [List.map_cons, TRSs]
        have hfst : ∀ j v, x.cells[j]? = some v → w.cell? ⟨g, o + j, none⟩ = some v := fun j v hv => hc j v (by
          show (x.cells ++ txc ls)[j]? = some v
          rw [List.getElem?_append_left (List.getElem?_eq_some_iff.1 hv).1]; exact hv)
        refine ⟨TRS.of_parts hg (hfst 0 _ rfl) (hfst 1 _ rfl) (hfst 2 _ rfl) (hfst 3 _ rfl) (hfst 4 _ rfl) (hx x List.mem_cons_self), ih (o + 5) (fun y hy => hx y (List.mem_cons_of_mem _ hy)) (fun j v hv => ?_)⟩
        have := hc (5 + j) v (by
          show (x.cells ++ txc ls)[5 + j]? = some v
          rw [List.getElem?_append_right (by rw [tx_len]; omega), tx_len, show 5 + j - 5 = j from by omega]; exact hv)
        rwa [← Nat.add_assoc] at this
    exact gen l 0 hel2 (fun j v hv => by rw [Nat.zero_add]; exact hcell j v hv)
theorem term_info : (Tryz.prog.info? 24).map (fun i => (i.zero, i.size, i.bytes)) = some (some (.agg #[.int .i64 0, .string ⟨#[]⟩, .string ⟨#[]⟩, .slice none 0 0, .string ⟨#[]⟩]), 5, 80) := by kernel_rfl
theorem OT.lt {Z : Nat → Prop} {w : World} {B : Nat} {v : Value} {l : List TX} (h : OT Z w B v l) : ∀ k, v.ownBlock = some k → B ≤ k ∧ k < w.heap.size := h.1.lt
theorem txc_snoc (l : List TX) (x : TX) : txc (l ++ [x]) = txc l ++ x.cells := by
  unfold txc; rw [List.flatMap_append]; simp
/-- the cells of a built slice of one term -/
theorem tx_new (w : World) (x : TX) : ∀ j u, x.cells[j]? = some u → (w.alloc (.cells #[.int .i64 x.t.kind, .string ⟨x.t.name.toArray⟩, .string ⟨x.t.var.toArray⟩, .slice x.A x.t.args.length x.c, .string ⟨x.t.form.toArray⟩] 24)).cell? (Addr.add ⟨w.heap.size, 0, none⟩ j) = some u := fun j u hu => by
  have hj : j < 5 := by
    have := (List.getElem?_eq_some_iff.1 hu).1
    rwa [tx_len] at this
  rcases j with _ | _ | _ | _ | _ | j <;> first | omega | (simp [TX.cells, tv] at hu; subst hu; simp [Addr.add])
theorem tx_one (x : TX) : ∀ u ∈ x.cells, u.oneCell' = true := fun u hu => by
  simp [TX.cells, tv] at hu
  rcases hu with rfl | rfl | rfl | rfl | rfl <;> rfl
theorem OT.snoc {Z : Nat → Prop} {w w' : World} {B g cap : Nat} {v : Value} {l : List TX} {x : TX} (h : OT Z w B v l) (hx : TVS w (Zo Z w v) x.t x.A x.c) (hrow : w'.ownsRow B 24 5 (.slice (some ⟨g, 0, none⟩) (l.length + 1) cap) (l.length + 1) (txc l ++ x.cells))
    (hg : w.grownBy w' v.ownBlock) (hat : v.ownBlock = some g ∨ w.heap.size ≤ g) : OT Z w' B (.slice (some ⟨g, 0, none⟩) (l.length + 1) cap) (l ++ [x]) := by
  have hk : ∀ k, Zo Z w v k → Zo Z w' (.slice (some ⟨g, 0, none⟩) (l.length + 1) cap) k ∧ w'.heap[k]? = w.heap[k]? := fun k hk => by
    refine ⟨⟨hk.1, Nat.lt_of_lt_of_le hk.2.1 hg.size, fun e => ?_⟩, hg.block k hk.2.1 (fun e => hk.2.2 e.symm)⟩
    have e' : g = k := by simpa [Value.ownBlock] using e
    rcases hat with hat | hat
    · exact hk.2.2 (by rw [hat, e'])
    · have := hk.2.1; omega
  refine ⟨?_, fun y hy => ?_⟩
  · rw [List.length_append, txc_snoc]; exact hrow
  · rcases List.mem_append.1 hy with hy | hy
    · exact (h.2 y hy).keep hk
    · rw [List.mem_singleton] at hy
      subst hy
      exact hx.keep hk
end Go.Proofs.YtkjhfbgdmmnadaaGreat
