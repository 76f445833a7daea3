/- An argument of type 'api.Term' opened to a term in memory; the wrap with the world's shape kept. A slice of terms that the call made: terms are appended to it. Contract of Equal 17: a stack of pairs of subterms. Contract of clone 46. -/
import Derived.ProofKit
import Derived.OpenShut
import Derived.ShutString
import Derived.ChangeOld
import Derived.ChangeSame
import Derived.Deep.Slices
import Derived.Deep.Fields
import Derived.Handed
import Derived.Shelf.Vars
import Derived.Test.YtknpigdpepmimaaGreatDoorM03
import Derived.Deep.AppendLies
import Derived.Deep.RegionHeldLaw
import Derived.Test.YtknpigdpepmimaaGreatDoorM16
import Derived.Lib.QuietBelow
import Derived.BigQuiet
import Derived.Laws.OwnMore
import Derived.Test.YtknpigdpepmimaaGreatDoorM04
namespace Go.Proofs.YtknpigdpepmimaaGreatDoor
open Go.RowKit Go.ChangeShapes Go.WideShapes Go.ChangeAt Go.Deep
theorem own : ownKnob Tryz.prog.godebug = none := by kernel_rfl
theorem laidOut : laidOutB Tryz.prog = true := by kernel_rfl
theorem cells24 : Tryz.prog.cellsOf 24 = 5 := by kernel_rfl
theorem cells22 : Tryz.prog.cellsOf 22 = 1 := by kernel_rfl
theorem cells9 : Tryz.prog.cellsOf 9 = 1 := by kernel_rfl
theorem cells3 : Tryz.prog.cellsOf 3 = 1 := by kernel_rfl
section
variable {H : Type} {enc : TypeId × Value → H} {w : World} {base : Nat} {spare : Nat → Bool} {held : Bool}
theorem five {α : Type} {l : List α} (h : l.length = 5) : ∃ a b c d e, l = [a, b, c, d, e] := by
  match l, h with
  | [a, b, c, d, e], _ => exact ⟨a, b, c, d, e, rfl⟩
theorem addr_spot {w : World} {a : Addr} {v : Value} (h : w.cell? a = some v) : a = ⟨a.block, a.off, none⟩ := by
  have := World.cell?_spot h
  cases a; simp_all
theorem addr_add (b o i : Nat) : (⟨b, o, none⟩ : Addr).add i = ⟨b, o + i, none⟩ := by
  unfold Addr.add; split
  · simp [*]
  · rfl
theorem mk_data (s : ByteArray) : (⟨s.data.toList.toArray⟩ : ByteArray) = s := by cases s; simp
theorem trs_of {B b : Nat} (w : World) : ∀ (ys : List T) (o : Nat), (∀ i t, ys[i]? = some t → TR w B b (o + i * 5) t) → TRs w B b o ys
  | [], o, _ => by unfold TRs; trivial
  | t :: ys, o, h => by
    unfold TRs
    refine ⟨by simpa using h 0 t rfl, trs_of w ys (o + 5) (fun i u hu => ?_)⟩
    have := h (i + 1) u (by simpa using hu)
    rwa [show o + (i + 1) * 5 = o + 5 + i * 5 from by omega] at this
/-- the five cells of one struct, read as a term -/
theorem open_term (N : Nat) : ∀ (fuel : Nat), fuel ≤ N → ∀ (cs : List Value) (x : DataW H × List MemPlace), DataW.trod enc Tryz.prog w base spare held fuel 24 cs = some x →
    ∃ (t : T) (A : Option Addr) (c : Nat), cs = (tv t A c).toList ∧ TV w w.heap.size t A c := by
  induction N with
  | zero =>
    intro fuel hf cs x h
    obtain ⟨xs, n, hn, _⟩ := DataW.trod_struct Tryz.underlying24 h
    omega
  | succ N ih =>
    intro fuel hf cs x h
    obtain ⟨xs, n, hn, hx, hcl, hxl, hfd⟩ := DataW.trod_struct Tryz.underlying24 h
    rw [cells24] at hcl
    obtain ⟨v0, v1, v2, v3, v4, rfl⟩ := five hcl
    obtain ⟨y0, y1, y2, y3, y4, rfl⟩ := five hxl
    have f0 := hfd 0 _ rfl
    have f1 := hfd 1 _ rfl
    have f2 := hfd 2 _ rfl
    have f3 := hfd 3 _ rfl
    have f4 := hfd 4 _ rfl
    obtain ⟨k, h0, _, hk⟩ := DataW.trod_int Tryz.underlying3 f0
    obtain ⟨s1, h1, _, hs1⟩ := DataW.trod_string Tryz.underlying9 f1
    obtain ⟨s2, h2, _, hs2⟩ := DataW.trod_string Tryz.underlying9 f2
    obtain ⟨s4, h4, _, hs4⟩ := DataW.trod_string Tryz.underlying9 f4
    simp [cells3] at h0
    simp [cells9] at h1 h2 h4
    subst h0 h1 h2 h4
    have f3' : DataW.trod enc Tryz.prog w base spare held n 22 [v3] = some y3 := by simpa [cells22] using f3
    rcases DataW.trod_slice Tryz.underlying22 f3' with ⟨hv3, _⟩ | ⟨a, len, cap, elems, rest, m, hm, hv3, _, hb, hl, hcm, hel, hat, _⟩
    · simp at hv3
      subst hv3
      refine ⟨.mk k s1.data.toList s2.data.toList [] s4.data.toList, none, 0, ?_, ⟨⟨Nat.le_refl _, by omega⟩, fun hne => absurd rfl hne⟩⟩
      show _ = [Value.int .i64 k, .string ⟨s1.data.toList.toArray⟩, .string ⟨s2.data.toList.toArray⟩, .slice none 0 0, .string ⟨s4.data.toList.toArray⟩]
      rw [mk_data, mk_data, mk_data]
    · simp at hv3
      subst hv3
      have hel2 : ∀ i, i < len → ∃ (u : T) (A' : Option Addr) (c' : Nat), TV w w.heap.size u A' c' ∧ ∀ j v, (tv u A' c').toList[j]? = some v → w.cell? ((a.add (i * 5)).add j) = some v := by
        intro i hil
        have hi := hat i hil
        have hie : ∃ e, elems[i]? = some e := ⟨_, List.getElem?_eq_getElem (by omega)⟩
        obtain ⟨e, hie⟩ := hie
        rw [hie, cells24] at hi
        obtain ⟨cs', hc, ht⟩ := Option.bind_eq_some_iff.1 hi
        obtain ⟨u, A', c', rfl, htv⟩ := ih m (by omega) cs' e ht
        obtain ⟨_, _, hcell⟩ := World.cells?_some hc
        refine ⟨u, A', c', htv, fun j v hv => ?_⟩
        have hj : j < 5 := by
          have := (List.getElem?_eq_some_iff.1 hv).1
          simpa [tv] using this
        rw [hcell j hj, hv]
      have hex : ∀ i, ∃ u : T, i < len → TR w w.heap.size a.block (a.off + i * 5) u ∧ a = ⟨a.block, a.off, none⟩ := by
        intro i
        by_cases hil : i < len
        · have ha : a = ⟨a.block, a.off, none⟩ := by
            obtain ⟨u0, A0, c0, _, h0⟩ := hel2 0 (by omega)
            have := h0 0 _ rfl
            simp [Addr.add] at this
            exact addr_spot this
          obtain ⟨u, A', c', htv, hk2⟩ := hel2 i hil
          have key : ∀ j v, (tv u A' c').toList[j]? = some v → w.cell? ⟨a.block, a.off + i * 5 + j, none⟩ = some v := by
            intro j v hv
            have := hk2 j v hv
            rw [ha, addr_add, addr_add] at this
            exact this
          exact ⟨u, fun _ => ⟨TR.of_parts (World.block_lt_of_cell? w ⟨a.block, a.off + i * 5 + 0, none⟩ (key 0 _ rfl)) (key 0 _ rfl) (key 1 _ rfl) (key 2 _ rfl) (key 3 _ rfl) (key 4 _ rfl) htv, ha⟩⟩
        · exact ⟨.mk 0 [] [] [] [], fun h => absurd h hil⟩
      obtain ⟨f, hff⟩ := Classical.axiomOfChoice hex
      refine ⟨.mk k s1.data.toList s2.data.toList ((List.range len).map f) s4.data.toList, some a, cap, ?_, ⟨⟨?_, ?_⟩, fun hne => ?_⟩⟩
      · show _ = [Value.int .i64 k, .string ⟨s1.data.toList.toArray⟩, .string ⟨s2.data.toList.toArray⟩, .slice (some a) ((List.range len).map f).length cap, .string ⟨s4.data.toList.toArray⟩]
        rw [mk_data, mk_data, mk_data, List.length_map, List.length_range]
      · show ((List.range len).map f).length ≤ cap
        rw [List.length_map, List.length_range]; exact hl
      · unfold maxLen at hcm; omega
      · have hpos : 0 < len := by
          rcases Nat.eq_zero_or_pos len with h0 | h0
          · subst h0; exact absurd rfl hne
          · exact h0
        have ha := (hff 0 hpos).2
        refine ⟨a.block, a.off, by rw [← ha], trs_of w _ a.off (fun i u hu => ?_)⟩
        have hil : i < len := by
          have hu' : ((List.range len).map f)[i]? = some u := hu
          have := (List.getElem?_eq_some_iff.1 hu').1
          simpa using this
        have he : f i = u := by
          have hu' : ((List.range len).map f)[i]? = some u := hu
          simpa [List.getElem?_map, List.getElem?_range hil] using hu'
        subst he
        exact (hff i hil).1
set_option maxRecDepth 100000 in
theorem open_termVal {r : Reach} {b0 : Nat} {v : Value} {d : DataW H} {p : List MemPlace} (hv : Value.okWide Tryz.prog w r b0 24 v) (h : DataW.Trod enc Tryz.prog w base spare held 24 v d p) :
    ∃ (t : T) (A : Option Addr) (c : Nat), v = .agg (tv t A c) ∧ TV w w.heap.size t A c := by
  obtain ⟨cs, rfl, hsz⟩ := okWide_struct Tryz.underlying24 hv
  obtain ⟨fuel, hf⟩ := h
  obtain ⟨t, A, c, he, htv⟩ := open_term fuel fuel (Nat.le_refl _) _ _ hf
  refine ⟨t, A, c, ?_, htv⟩
  have : cs.toList = (tv t A c).toList := by simpa [Value.cells] using he
  rw [Array.ext' this]
end
end Go.Proofs.YtknpigdpepmimaaGreatDoor

namespace Go.Proofs.YtknpigdpepmimaaGreatDoor
open Go.RowKit
mutual
/-- the term t lies at (b, o), all of it in blocks of S -/
def TRS (w : World) (S : Nat → Prop) (b o : Nat) : T → Prop
  | .mk k n v ys f => S b ∧ w.cell? ⟨b, o, none⟩ = some (.int .i64 k) ∧ w.cell? ⟨b, o + 1, none⟩ = some (.string ⟨n.toArray⟩) ∧ w.cell? ⟨b, o + 2, none⟩ = some (.string ⟨v.toArray⟩) ∧ w.cell? ⟨b, o + 4, none⟩ = some (.string ⟨f.toArray⟩) ∧
      ∃ A c, w.cell? ⟨b, o + 3, none⟩ = some (.slice A ys.length c) ∧ (ys.length ≤ c ∧ c ≤ 9223372036854775807) ∧ (ys ≠ [] → ∃ b' o', A = some ⟨b', o', none⟩ ∧ TRSs w S b' o' ys)
def TRSs (w : World) (S : Nat → Prop) (b o : Nat) : List T → Prop
  | [] => True
  | t :: ts => TRS w S b o t ∧ TRSs w S b (o + 5) ts
end
/-- the arguments' slice -/
def TAS (w : World) (S : Nat → Prop) (A : Option Addr) (ys : List T) : Prop := ys ≠ [] → ∃ b o, A = some ⟨b, o, none⟩ ∧ TRSs w S b o ys
mutual
theorem TRS.keep {w w' : World} {S S' : Nat → Prop} {b o : Nat} {t : T} (h : TRS w S b o t) (hk : ∀ k, S k → S' k ∧ w'.heap[k]? = w.heap[k]?) : TRS w' S' b o t := by
  cases t with
  | mk k n v ys f =>
    unfold TRS at h ⊢
    obtain ⟨h1, h2, h3, h4, h5, A, c, h6, h7, h8⟩ := h
    have hc := fun o => cell_of_block (hk b h1).2 o
    refine ⟨(hk b h1).1, (hc _).trans h2, (hc _).trans h3, (hc _).trans h4, (hc _).trans h5, A, c, (hc _).trans h6, h7, fun hne => ?_⟩
    obtain ⟨b', o', hA, hs⟩ := h8 hne
    exact ⟨b', o', hA, hs.keep hk⟩
theorem TRSs.keep {w w' : World} {S S' : Nat → Prop} {b o : Nat} {ts : List T} (h : TRSs w S b o ts) (hk : ∀ k, S k → S' k ∧ w'.heap[k]? = w.heap[k]?) : TRSs w' S' b o ts := by
  cases ts with
  | nil => unfold TRSs; trivial
  | cons t ts =>
    unfold TRSs at h ⊢
    exact ⟨h.1.keep hk, h.2.keep hk⟩
end
mutual
theorem TRS.tr {w : World} {S : Nat → Prop} {B b o : Nat} {t : T} (h : TRS w S b o t) (hS : ∀ k, S k → k < B) : TR w B b o t := by
  cases t with
  | mk k n v ys f =>
    unfold TRS at h
    unfold TR
    obtain ⟨h1, h2, h3, h4, h5, A, c, h6, h7, h8⟩ := h
    refine ⟨hS b h1, h2, h3, h4, h5, A, c, h6, h7, fun hne => ?_⟩
    obtain ⟨b', o', hA, hs⟩ := h8 hne
    exact ⟨b', o', hA, hs.trs hS⟩
theorem TRSs.trs {w : World} {S : Nat → Prop} {B b o : Nat} {ts : List T} (h : TRSs w S b o ts) (hS : ∀ k, S k → k < B) : TRs w B b o ts := by
  cases ts with
  | nil => unfold TRs; trivial
  | cons t ts =>
    unfold TRSs at h
    unfold TRs
    exact ⟨h.1.tr hS, h.2.trs hS⟩
end
mutual
theorem TR.set {w : World} {B b o : Nat} {t : T} (h : TR w B b o t) : TRS w (fun k => k < B) b o t := by
  cases t with
  | mk k n v ys f =>
    unfold TR at h
    unfold TRS
    obtain ⟨h1, h2, h3, h4, h5, A, c, h6, h7, h8⟩ := h
    refine ⟨h1, h2, h3, h4, h5, A, c, h6, h7, fun hne => ?_⟩
    obtain ⟨b', o', hA, hs⟩ := h8 hne
    exact ⟨b', o', hA, hs.set⟩
theorem TRs.set {w : World} {B b o : Nat} {ts : List T} (h : TRs w B b o ts) : TRSs w (fun k => k < B) b o ts := by
  cases ts with
  | nil => unfold TRSs; trivial
  | cons t ts =>
    unfold TRs at h
    unfold TRSs
    exact ⟨h.1.set, h.2.set⟩
end
/-- a term as a value, its arguments in blocks of S -/
structure TVS (w : World) (S : Nat → Prop) (t : T) (A : Option Addr) (c : Nat) : Prop where
  cap : t.args.length ≤ c ∧ c ≤ 9223372036854775807
  ar : TAS w S A t.args
theorem TVS.keep {w w' : World} {S S' : Nat → Prop} {t : T} {A : Option Addr} {c : Nat} (h : TVS w S t A c) (hk : ∀ k, S k → S' k ∧ w'.heap[k]? = w.heap[k]?) : TVS w' S' t A c :=
  ⟨h.cap, fun hne => by
    obtain ⟨b, o, hA, hs⟩ := h.ar hne
    exact ⟨b, o, hA, hs.keep hk⟩⟩
theorem TVS.tv {w : World} {S : Nat → Prop} {B : Nat} {t : T} {A : Option Addr} {c : Nat} (h : TVS w S t A c) (hS : ∀ k, S k → k < B) : TV w B t A c :=
  ⟨h.cap, fun hne => by
    obtain ⟨b, o, hA, hs⟩ := h.ar hne
    exact ⟨b, o, hA, hs.trs hS⟩⟩
theorem TV.set {w : World} {B : Nat} {t : T} {A : Option Addr} {c : Nat} (h : TV w B t A c) : TVS w (fun k => k < B) t A c :=
  ⟨h.cap, fun hne => by
    obtain ⟨b, o, hA, hs⟩ := h.ar hne
    exact ⟨b, o, hA, hs.set⟩⟩
theorem TRS.of_parts {w : World} {S : Nat → Prop} {b o : Nat} {t : T} {A : Option Addr} {c : Nat} (h1 : S b) (c0 : w.cell? ⟨b, o, none⟩ = some (.int .i64 t.kind)) (c1 : w.cell? ⟨b, o + 1, none⟩ = some (.string ⟨t.name.toArray⟩)) (c2 : w.cell? ⟨b, o + 2, none⟩ = some (.string ⟨t.var.toArray⟩))
    (c3 : w.cell? ⟨b, o + 3, none⟩ = some (.slice A t.args.length c)) (c4 : w.cell? ⟨b, o + 4, none⟩ = some (.string ⟨t.form.toArray⟩)) (hv : TVS w S t A c) : TRS w S b o t := by
  cases t with
  | mk k n v ys f =>
    rw [TRS]
    exact ⟨h1, c0, c1, c2, c4, A, c, c3, hv.cap, hv.ar⟩
theorem TRS.parts {w : World} {S : Nat → Prop} {b o : Nat} {t : T} (h : TRS w S b o t) : S b ∧ w.cell? ⟨b, o, none⟩ = some (.int .i64 t.kind) ∧ w.cell? ⟨b, o + 1, none⟩ = some (.string ⟨t.name.toArray⟩) ∧ w.cell? ⟨b, o + 2, none⟩ = some (.string ⟨t.var.toArray⟩) ∧ w.cell? ⟨b, o + 4, none⟩ = some (.string ⟨t.form.toArray⟩) ∧
    ∃ A c, w.cell? ⟨b, o + 3, none⟩ = some (.slice A t.args.length c) ∧ TVS w S t A c := by
  cases t with
  | mk k n v ys f =>
    unfold TRS at h
    obtain ⟨h1, h2, h3, h4, h5, A, c, h6, h7, h8⟩ := h
    exact ⟨h1, h2, h3, h4, h5, A, c, h6, ⟨h7, h8⟩⟩
theorem TRSs.at_ {w : World} {S : Nat → Prop} {b : Nat} : ∀ {ys : List T} {o : Nat}, TRSs w S b o ys → ∀ i t, ys[i]? = some t → TRS w S b (o + i * 5) t
  | [], _, _, _, _, h => by simp at h
  | u :: ys, o, hr, i, t, h => by
    unfold TRSs at hr
    cases i with
    | zero => simp at h; subst h; simpa using hr.1
    | succ i =>
      have := hr.2.at_ i t (by simpa using h)
      rwa [show o + 5 + i * 5 = o + (i + 1) * 5 from by omega] at this
theorem TAS.at_ {w : World} {S : Nat → Prop} {A : Option Addr} {ys : List T} (h : TAS w S A ys) {i : Nat} (hi : i < ys.length) : ∃ b o, A = some ⟨b, o, none⟩ ∧ TRS w S b (o + i * 5) ys[i] := by
  obtain ⟨b, o, hA, hs⟩ := h (by intro e; rw [e] at hi; simp at hi)
  exact ⟨b, o, hA, hs.at_ i ys[i] (List.getElem?_eq_getElem hi)⟩
/-- a term as a value: its tree, its arguments' address and capacity -/
structure TX where
  t : T
  A : Option Addr
  c : Nat
def TX.cells (x : TX) : List Value := (tv x.t x.A x.c).toList
def txc (l : List TX) : List Value := l.flatMap TX.cells
theorem tx_len (x : TX) : x.cells.length = 5 := rfl
theorem txc_len : ∀ l : List TX, (txc l).length = l.length * 5
  | [] => rfl
  | x :: l => by
    show (x.cells ++ txc l).length = _
    rw [List.length_append, txc_len l, tx_len, List.length_cons]; omega
/-- what a slice's terms may lie in: blocks of Z that are there, but for the slice's own -/
def Zo (Z : Nat → Prop) (w : World) (v : Value) : Nat → Prop := fun k => Z k ∧ k < w.heap.size ∧ v.ownBlock ≠ some k
/-- the row of a slice of terms that the call owns -/
def OT (Z : Nat → Prop) (w : World) (B : Nat) (v : Value) (l : List TX) : Prop := w.ownsRow B 24 5 v l.length (txc l) ∧ ∀ x ∈ l, TVS w (Zo Z w v) x.t x.A x.c
theorem ot_nil (Z : Nat → Prop) (w : World) (B : Nat) : OT Z w B (.slice none 0 0) [] := ⟨World.ownsRow_nil _ _ _ _, by simp⟩
theorem OT.bel {Z : Nat → Prop} {w w' : World} {B : Nat} {v : Value} {l : List TX} (h : OT Z w B v l) (hb : Below w.heap.size w w') : OT Z w' B v l :=
  ⟨World.ownsRow.kept h.1 (row := none) ⟨hb.os, hb.tape, hb.output, hb.size, fun k hk _ => hb.block k hk⟩ (by cases v.ownBlock <;> simp), fun x hx => (h.2 x hx).keep (fun k hk => ⟨⟨hk.1, Nat.lt_of_lt_of_le hk.2.1 hb.size, hk.2.2⟩, hb.block k hk.2.1⟩)⟩
/-- a store into another block than the row's, in which none of the terms lies -/
theorem OT.trs {Z : Nat → Prop} {w : World} {B : Nat} {v : Value} {l : List TX} (h : OT Z w B v l) (hZ : ∀ k, B ≤ k → Z k) : ∃ A c, v = .slice A l.length c ∧ (l.length ≤ c ∧ c ≤ 9223372036854775807) ∧ TAS w (fun k => Z k ∧ k < w.heap.size) A (l.map TX.t) := by
  obtain ⟨hrow, hel⟩ := h
  rcases hrow.2 with ⟨rfl, hz⟩ | ⟨g, cap, cur, rfl, h1, h2, h3, h4, h5, h6⟩
  · have e : l = [] := List.eq_nil_of_length_eq_zero hz
    subst e
    exact ⟨none, 0, rfl, ⟨Nat.le_refl _, by omega⟩, fun hne => absurd rfl hne⟩
  · refine ⟨some ⟨g, 0, none⟩, cap, rfl, ⟨h3, by unfold maxLen at h4; omega⟩, fun _ => ⟨g, 0, rfl, ?_⟩⟩
    have hg : Z g ∧ g < w.heap.size := ⟨hZ g h1, (Array.getElem?_eq_some_iff.1 h2).1⟩
    have hcell : ∀ j v, (txc l)[j]? = some v → w.cell? ⟨g, j, none⟩ = some v := fun j v hv => by
      have hj : j < l.length * 5 := by
        have := (List.getElem?_eq_some_iff.1 hv).1
        rwa [txc_len] at this
      have e1 : (cur.toList.take (l.length * 5))[j]? = (txc l)[j]? := by rw [h6]
      rw [List.getElem?_take_of_lt hj, hv] at e1
      simp only [World.cell?, h2, Option.isSome_none, Bool.false_eq_true, if_false]
      rw [← Array.getElem?_toList]; exact e1
    have hel2 : ∀ x ∈ l, TVS w (fun k => Z k ∧ k < w.heap.size) x.t x.A x.c := fun x hx => (hel x hx).keep (fun k hk => ⟨⟨hk.1, hk.2.1⟩, rfl⟩)
    clear h1 h2 h3 h4 h5 h6 hrow hel
    have gen : ∀ (ls : List TX) (o : Nat), (∀ x ∈ ls, TVS w (fun k => Z k ∧ k < w.heap.size) x.t x.A x.c) → (∀ j v, (txc ls)[j]? = some v → w.cell? ⟨g, o + j, none⟩ = some v) → TRSs w (fun k => Z k ∧ k < w.heap.size) g o (ls.map TX.t) := by
      intro ls
      induction ls with
      | nil => intro o _ _; rw [List.map_nil, TRSs]; trivial
      | cons x ls ih =>
        intro o hx hc
        rw [List.map_cons, TRSs]
        have hfst : ∀ j v, x.cells[j]? = some v → w.cell? ⟨g, o + j, none⟩ = some v := fun j v hv => hc j v (by
          show (x.cells ++ txc ls)[j]? = some v
          rw [List.getElem?_append_left (List.getElem?_eq_some_iff.1 hv).1]; exact hv)
        refine ⟨TRS.of_parts hg (hfst 0 _ rfl) (hfst 1 _ rfl) (hfst 2 _ rfl) (hfst 3 _ rfl) (hfst 4 _ rfl) (hx x List.mem_cons_self), ih (o + 5) (fun y hy => hx y (List.mem_cons_of_mem _ hy)) (fun j v hv => ?_)⟩
        have := hc (5 + j) v (by
          show (x.cells ++ txc ls)[5 + j]? = some v
          rw [List.getElem?_append_right (by rw [tx_len]; omega), tx_len, show 5 + j - 5 = j from by omega]; exact hv)
        rwa [← Nat.add_assoc] at this
    exact gen l 0 hel2 (fun j v hv => by rw [Nat.zero_add]; exact hcell j v hv)
theorem term_info : (Tryz.prog.info? 24).map (fun i => (i.zero, i.size, i.bytes)) = some (some (.agg #[.int .i64 0, .string ⟨#[]⟩, .string ⟨#[]⟩, .slice none 0 0, .string ⟨#[]⟩]), 5, 80) := by kernel_rfl
theorem OT.lt {Z : Nat → Prop} {w : World} {B : Nat} {v : Value} {l : List TX} (h : OT Z w B v l) : ∀ k, v.ownBlock = some k → B ≤ k ∧ k < w.heap.size := h.1.lt
theorem txc_snoc (l : List TX) (x : TX) : txc (l ++ [x]) = txc l ++ x.cells := by
  unfold txc; rw [List.flatMap_append]; simp
/-- the cells of a built slice of one term -/
theorem tx_new (w : World) (x : TX) : ∀ j u, x.cells[j]? = some u → (w.alloc (.cells #[.int .i64 x.t.kind, .string ⟨x.t.name.toArray⟩, .string ⟨x.t.var.toArray⟩, .slice x.A x.t.args.length x.c, .string ⟨x.t.form.toArray⟩] 24)).cell? (Addr.add ⟨w.heap.size, 0, none⟩ j) = some u := fun j u hu => by
  have hj : j < 5 := by
    have := (List.getElem?_eq_some_iff.1 hu).1
    rwa [tx_len] at this
  rcases j with _ | _ | _ | _ | _ | j <;> first | omega | (simp [TX.cells, tv] at hu; subst hu; simp [Addr.add])
theorem tx_one (x : TX) : ∀ u ∈ x.cells, u.oneCell' = true := fun u hu => by
  simp [TX.cells, tv] at hu
  rcases hu with rfl | rfl | rfl | rfl | rfl <;> rfl
theorem OT.snoc {Z : Nat → Prop} {w w' : World} {B g cap : Nat} {v : Value} {l : List TX} {x : TX} (h : OT Z w B v l) (hx : TVS w (Zo Z w v) x.t x.A x.c) (hrow : w'.ownsRow B 24 5 (.slice (some ⟨g, 0, none⟩) (l.length + 1) cap) (l.length + 1) (txc l ++ x.cells))
    (hg : w.grownBy w' v.ownBlock) (hat : v.ownBlock = some g ∨ w.heap.size ≤ g) : OT Z w' B (.slice (some ⟨g, 0, none⟩) (l.length + 1) cap) (l ++ [x]) := by
  have hk : ∀ k, Zo Z w v k → Zo Z w' (.slice (some ⟨g, 0, none⟩) (l.length + 1) cap) k ∧ w'.heap[k]? = w.heap[k]? := fun k hk => by
    refine ⟨⟨hk.1, Nat.lt_of_lt_of_le hk.2.1 hg.size, fun e => ?_⟩, hg.block k hk.2.1 (fun e => hk.2.2 e.symm)⟩
    have e' : g = k := by simpa [Value.ownBlock] using e
    rcases hat with hat | hat
    · exact hk.2.2 (by rw [hat, e'])
    · have := hk.2.1; omega
  refine ⟨?_, fun y hy => ?_⟩
  · rw [List.length_append, txc_snoc]; exact hrow
  · rcases List.mem_append.1 hy with hy | hy
    · exact (h.2 y hy).keep hk
    · rw [List.mem_singleton] at hy
      subst hy
      exact hx.keep hk
end Go.Proofs.YtknpigdpepmimaaGreatDoor

namespace Go.Proofs.YtknpigdpepmimaaGreatDoor
open Go.RowKit
theorem below_dr {B : Nat} {w0 w : World} (h : Below B w0 w) : Below B w0 w.drew := ⟨h.os, h.tape, h.output, h.size, h.block⟩
end Go.Proofs.YtknpigdpepmimaaGreatDoor

namespace Go.Proofs.YtknpigdpepmimaaGreatDoor
open Go.RowKit
theorem OT.set {Z : Nat → Prop} {w : World} {B cb o : Nat} {v u : Value} {l : List TX} (h : OT Z w B v l) (hcb : cb < B) (hZ : ¬ Z cb) : OT Z (w.setCell ⟨cb, o, none⟩ u) B v l := by
  have hg : w.grownBy (w.setCell ⟨cb, o, none⟩ u) (some cb) := ⟨rfl, rfl, rfl, by simp, fun k _ hne => Below.heap_setCell _ _ _ _ (fun e => hne (by rw [e]))⟩
  refine ⟨World.ownsRow.kept h.1 hg ?_, fun x hx => (h.2 x hx).keep (fun k hk => ⟨⟨hk.1, by simpa using hk.2.1, hk.2.2⟩, hg.block k hk.2.1 (fun e => hZ (by injection e with e; rw [← e]; exact hk.1))⟩)⟩
  cases hv : v.ownBlock with
  | none => exact .inl rfl
  | some k => right; intro e; cases e; have := (h.lt cb hv).1; omega
theorem TVS.set {w : World} {S : Nat → Prop} {t : T} {A : Option Addr} {c : Nat} (h : TVS w S t A c) (b o : Nat) (u : Value) (hb : ¬ S b) : TVS (w.setCell ⟨b, o, none⟩ u) S t A c :=
  h.keep (fun k hk => ⟨hk, Below.heap_setCell w ⟨b, o, none⟩ u k (fun e => hb (by rw [← show k = b from e]; exact hk))⟩)
/-- behind an append of one term -/
theorem ot_append {Z : Nat → Prop} {wc w7 : World} {B g cap : Nat} {v : Value} {l : List TX} {x : TX} (ob : Obj) (hO : OT Z wc B v l) (hx : TVS wc (Zo Z wc v) x.t x.A x.c) (hown : w7.ownsRow B 24 5 (.slice (some ⟨g, 0, none⟩) (l.length + 1) cap) (l.length + 1) (txc l ++ x.cells))
    (hg : (wc.alloc ob).grownBy w7 v.ownBlock) (hat : v.ownBlock = some g ∨ g = (wc.alloc ob).heap.size) (hB : B ≤ wc.heap.size) :
    OT Z w7 B (.slice (some ⟨g, 0, none⟩) (l.length + 1) cap) (l ++ [x]) ∧ Below B wc w7 ∧ ∀ b, b < wc.heap.size → v.ownBlock ≠ some b → w7.heap[b]? = wc.heap[b]? := by
  have hba : Below wc.heap.size wc (wc.alloc ob) := (Below.refl _ wc).alloc (Nat.le_refl _) ob
  have hO2 := hO.bel hba
  have hx2 : TVS (wc.alloc ob) (Zo Z (wc.alloc ob) v) x.t x.A x.c := hx.keep (fun k hk => ⟨⟨hk.1, Nat.lt_of_lt_of_le hk.2.1 hba.size, hk.2.2⟩, hba.block k hk.2.1⟩)
  refine ⟨hO2.snoc hx2 hown hg (hat.imp id (fun e => by rw [e]; exact Nat.le_refl _)), ?_, fun b hb hne => ?_⟩
  · exact ((Below.refl B wc).alloc hB ob).grown hg (by have := hba.size; omega) (fun k hk => (hO2.lt k hk).1)
  · rw [hg.block b (Nat.lt_of_lt_of_le hb hba.size) (fun e => hne e.symm)]; exact hba.block b hb
/-- a struct of the call's own, known whole -/
def Bk (w : World) (b : Nat) (v0 v1 v2 v3 v4 : Value) : Prop := w.heap[b]? = some (.cells #[v0, v1, v2, v3, v4] 24 (0, 0))
theorem Bk.cells {w : World} {b : Nat} {v0 v1 v2 v3 v4 : Value} (h : Bk w b v0 v1 v2 v3 v4) :
    (w.cell? ⟨b, 0, none⟩ = some v0 ∧ w.cell? ⟨b, 1, none⟩ = some v1 ∧ w.cell? ⟨b, 2, none⟩ = some v2 ∧ w.cell? ⟨b, 3, none⟩ = some v3 ∧ w.cell? ⟨b, 4, none⟩ = some v4) ∧ (∀ i, w.frozen? ⟨b, i, none⟩ = false) ∧ b < w.heap.size := by
  unfold Bk at h
  refine ⟨⟨?_, ?_, ?_, ?_, ?_⟩, fun i => ?_, (Array.getElem?_eq_some_iff.1 h).1⟩ <;> simp [World.cell?, World.frozen?, h]
theorem Bk.below {w w' : World} {B b : Nat} {v0 v1 v2 v3 v4 : Value} (h : Bk w b v0 v1 v2 v3 v4) (hb : Below B w w') (hlt : b < B) : Bk w' b v0 v1 v2 v3 v4 := (hb.block b hlt).trans h
theorem Bk.reach {w w' : World} {b : Nat} {v0 v1 v2 v3 v4 : Value} (h : Bk w b v0 v1 v2 v3 v4) (hb : Below w.heap.size w w') : Bk w' b v0 v1 v2 v3 v4 := h.below hb h.cells.2.2
theorem Bk.new (w : World) (v0 v1 v2 v3 v4 : Value) : Bk (w.alloc (.cells #[v0, v1, v2, v3, v4] 24)) w.heap.size v0 v1 v2 v3 v4 := blk_new _ _
theorem Bk.set3 {w : World} {b : Nat} {v0 v1 v2 v3 v4 : Value} (h : Bk w b v0 v1 v2 v3 v4) (u : Value) : Bk (w.setCell ⟨b, 3, none⟩ u) b v0 v1 v2 u v4 := by
  unfold Bk at h ⊢
  show (w.heap.modify b _)[b]? = _
  rw [Array.getElem?_modify, if_pos rfl, h]
  rfl
theorem Bk.other {w : World} {b b' o : Nat} {v0 v1 v2 v3 v4 : Value} (h : Bk w b v0 v1 v2 v3 v4) (u : Value) (hne : b ≠ b') : Bk (w.setCell ⟨b', o, none⟩ u) b v0 v1 v2 v3 v4 := (Below.heap_setCell w ⟨b', o, none⟩ u b (fun e => hne e)).trans h
set_option maxRecDepth 100000 in
set_option maxHeartbeats 4000000 in
theorem clone_aux (N : Nat) : ∀ (t : T), t.size ≤ N → ∀ (b o : Nat) (w : World), TR w w.heap.size b o t → t.size ≤ 100000 →
    Calls Tryz.prog 59 #[.pointer (some ⟨b, o, none⟩)] w fun e w' => ∃ A c, e = .returned (.agg (tv t A c)) ∧ TVS w' (fun k => w.heap.size ≤ k ∧ k < w'.heap.size) t A c ∧ Below w.heap.size w w' := by
  induction N with
  | zero => intro t ht; exact absurd ht (by cases t; rw [T.size]; omega)
  | succ N ih =>
    intro t ht b o w hr hz
    have IH := Lib.hid ih
    clear ih
    obtain ⟨hbl, a0, a1, a2, a4, A, cp, a3, ⟨hcp1, hcp2⟩, hTA⟩ := hr.parts
    have HSZ : Hid (∀ u ∈ t.args, u.size ≤ N ∧ u.size ≤ 100000) := fun u hu => by have := size_arg hu; omega
    have HLS : Hid (t.args.length ≤ 100000) := by have := len_sizes t.args; have := size_eq t; show _ ≤ 100000; omega
    have HTA := Lib.hid hTA
    have hyl : t.args.length ≤ 9223372036854775807 := by omega
    clear hr hTA
    obtain ⟨ys, hys⟩ : ∃ ys, ys = t.args := ⟨_, rfl⟩
    have HYS := Lib.hid hys
    rw [← hys] at HTA HSZ HLS a3 hcp1 hyl
    clear hys
    go_enter Tryz.func59, Tryz.ntmps59
    go_wp2_with fail
    have HB0 : Hid (Below w.heap.size w ((w.alloc (.cells #[.int .i64 0, .string ⟨#[]⟩, .string ⟨#[]⟩, .slice none 0 0, .string ⟨#[]⟩] 24)).alloc (.cells #[.int .i64 t.kind, .string ⟨t.name.toArray⟩, .string ⟨t.var.toArray⟩, .slice none 0 0, .string ⟨t.form.toArray⟩] 24))) := ((Below.refl _ _).alloc (Nat.le_refl _) _).alloc (by simp) _
    have HR0 : Hid (Bk ((w.alloc (.cells #[.int .i64 0, .string ⟨#[]⟩, .string ⟨#[]⟩, .slice none 0 0, .string ⟨#[]⟩] 24)).alloc (.cells #[.int .i64 t.kind, .string ⟨t.name.toArray⟩, .string ⟨t.var.toArray⟩, .slice none 0 0, .string ⟨t.form.toArray⟩] 24)) w.heap.size (.int .i64 0) (.string ⟨#[]⟩) (.string ⟨#[]⟩) (.slice none 0 0) (.string ⟨#[]⟩)) := (Bk.new w _ _ _ _ _).reach ((Below.refl _ _).alloc (Nat.le_refl _) _)
    have HC0 : Hid (Bk ((w.alloc (.cells #[.int .i64 0, .string ⟨#[]⟩, .string ⟨#[]⟩, .slice none 0 0, .string ⟨#[]⟩] 24)).alloc (.cells #[.int .i64 t.kind, .string ⟨t.name.toArray⟩, .string ⟨t.var.toArray⟩, .slice none 0 0, .string ⟨t.form.toArray⟩] 24)) (w.heap.size + 1) (.int .i64 t.kind) (.string ⟨t.name.toArray⟩) (.string ⟨t.var.toArray⟩) (.slice none 0 0) (.string ⟨t.form.toArray⟩)) := by
      have := Bk.new (w.alloc (.cells #[.int .i64 0, .string ⟨#[]⟩, .string ⟨#[]⟩, .slice none 0 0, .string ⟨#[]⟩] 24)) (.int .i64 t.kind) (.string ⟨t.name.toArray⟩) (.string ⟨t.var.toArray⟩) (.slice none 0 0) (.string ⟨t.form.toArray⟩)
      have e : (w.alloc (.cells #[.int .i64 0, .string ⟨#[]⟩, .string ⟨#[]⟩, .slice none 0 0, .string ⟨#[]⟩] 24)).heap.size = w.heap.size + 1 := by simp
      rw [e] at this
      exact this
    generalize (w.alloc (.cells #[.int .i64 0, .string ⟨#[]⟩, .string ⟨#[]⟩, .slice none 0 0, .string ⟨#[]⟩] 24)).alloc (.cells #[.int .i64 t.kind, .string ⟨t.name.toArray⟩, .string ⟨t.var.toArray⟩, .slice none 0 0, .string ⟨t.form.toArray⟩] 24) = w0 at *
    have HCA := Lib.hid (And.intro a0 (And.intro a1 (And.intro a2 a4)))
    clear a0 a1 a2 a4
    go_loopg [14] ys.length (fun gg s14 wr => ∃ (v : Value) (l : List TX), l.length ≤ ys.length ∧ ys.length - l.length ≤ gg ∧ s14 = .int .i64 l.length ∧ Aside (l.map TX.t = ys.take l.length) ∧ Aside (OT (fun k => w.heap.size + 2 ≤ k) wr (w.heap.size + 2) v l) ∧ Aside (Bk wr w.heap.size (.int .i64 0) (.string ⟨#[]⟩) (.string ⟨#[]⟩) (.slice none 0 0) (.string ⟨#[]⟩)) ∧ Aside (Bk wr (w.heap.size + 1) (.int .i64 t.kind) (.string ⟨t.name.toArray⟩) (.string ⟨t.var.toArray⟩) v (.string ⟨t.form.toArray⟩)) ∧ Aside (Below w.heap.size w wr))
    case atStart => exact ⟨.slice none 0 0, [], Nat.zero_le _, by simp, rfl, rfl, ot_nil _ _ _, HR0.out, HC0.out, HB0.out⟩
    case round =>
      obtain ⟨v, l, hi, hgg, rfl, HM, HO, HR, HC, HB⟩ := hrel
      have x3 := (HB.out.cell (p := ⟨b, o + 3, none⟩) hbl).trans a3
      by_cases hlt : l.length < ys.length
      · obtain ⟨⟨m0, m1, m2, m3, m4⟩, mf, ml⟩ := HC.out.cells
        have hltz : (l.length : Int) < (ys.length : Int) := by omega
        obtain ⟨b1, o1, rfl, hR1⟩ := (TA.below HTA.out HB.out).at_ hlt
        have hm := List.getElem_mem hlt
        have HCL := Lib.hid fun w' (hb : Below wr.heap.size wr w') => IH.out ys[l.length] (HSZ.out _ hm).1 b1 (o1 + l.length * 5) w' ((hR1.more HB.out.size).below hb |>.more hb.size) (HSZ.out _ hm).2
        unfold tv at HCL
        have HMT : Hid (ys.take (l.length + 1) = ys.take l.length ++ [ys[l.length]]) := List.take_succ_eq_append_getElem hlt
        have hll : l.length ≤ 100000 := by have := HLS.out; omega
        have mf3 := mf 3
        have HML := Lib.hid ml
        clear hR1 hm mf ml m0 m1 m2 m4
        generalize ys[l.length] = u at *
        go_upto_region 6 with (fail)
        obtain ⟨i0, hi0, hz0, hz1, hz2⟩ := info_parts term_info
        refine wp_region_noPanic ?_
        go_region_law (first
          | (go_simp; go_at_call 59; ((with_reducible refine (HCL.out _ (below_dr (Below.refl wr.heap.size wr))).mono ?_); rintro e wc ⟨A5, c5, rfl, hv5, hb5⟩; have HV5 := Lib.hid hv5; have HB5 : Hid (Below wr.heap.size wr wc) := (below_dr (Below.refl wr.heap.size wr)).trans hb5; have x3c := (HB5.out.cell (p := ⟨b, o + 3, none⟩) (Nat.lt_of_lt_of_le hbl HB.out.size)).trans x3; have HC5 := Lib.hid (HC.out.reach HB5.out); have m3c := HC5.out.cells.1.2.2.2.1; have m3a : (wc.alloc (.cells #[.int .i64 u.kind, .string ⟨u.name.toArray⟩, .string ⟨u.var.toArray⟩, .slice A5 u.args.length c5, .string ⟨u.form.toArray⟩] 24)).cell? ⟨w.heap.size + 1, 3, none⟩ = some v := (HC5.out.reach ((Below.refl _ _).alloc (Nat.le_refl _) _)).cells.1.2.2.2.1; clear hv5 hb5))
          | (refine step_append_lies _ rfl _ _ 22 rfl (w.heap.size + 2) 24 i0 _ 5 80 Tryz.underlying22 hi0 hz0 hz1 hz2 rfl (by decide) v l.length (txc l) rfl (World.ownsRow.alloc (HO.out.bel HB5.out).1 _) ⟨wc.heap.size, 0, none⟩ 1 1 (TX.cells ⟨u, A5, c5⟩) rfl rfl (tx_new wc ⟨u, A5, c5⟩) (tx_one _) (by decide) (by unfold maxLen; omega) (by omega) (by have := HB5.out.size; have := HML.out; simp; omega) _ rfl ?_; intro g7 cap7 w7 hown7 hgrow7 hat7 hlt7
             have hap := ot_append (x := ⟨u, A5, c5⟩) _ (HO.out.bel HB5.out) (HV5.out.keep (fun k hk => ⟨⟨by have h1 : wr.heap.size ≤ k := hk.1; have := HML.out; show w.heap.size + 2 ≤ k; omega, hk.2, fun e => by have h1 : wr.heap.size ≤ k := hk.1; have := (HO.out.lt k e).2; omega⟩, rfl⟩)) hown7 hgrow7 hat7 (by have := HB5.out.size; have := HML.out; omega)
             have HO7 := Lib.hid hap.1
             have HB7 : Hid (Below (w.heap.size + 2) wr w7) := (HB5.out.mono (by have := HML.out; omega)).trans hap.2.1
             have HC7 : Hid (Bk w7 (w.heap.size + 1) (.int .i64 t.kind) (.string ⟨t.name.toArray⟩) (.string ⟨t.var.toArray⟩) v (.string ⟨t.form.toArray⟩)) := HC.out.below HB7.out (by omega)
             have HR7 : Hid (Bk w7 w.heap.size (.int .i64 0) (.string ⟨#[]⟩) (.string ⟨#[]⟩) (.slice none 0 0) (.string ⟨#[]⟩)) := HR.out.below HB7.out (by omega)
             have m37 := HC7.out.cells.1.2.2.2.1
             have mf7 := HC7.out.cells.2.1 3
             clear hap hown7 hgrow7 hat7 hlt7))
        all_goals
          refine NoPanic.normal ?_
          have HO8 := Lib.hid (HO7.out.set (cb := w.heap.size + 1) (o := 3) (u := .slice (some ⟨g7, 0, none⟩) (l.length + 1) cap7) (by omega) (by omega))
          have HC8 := Lib.hid (HC7.out.set3 (.slice (some ⟨g7, 0, none⟩) (l.length + 1) cap7))
          have HR8 := Lib.hid (HR7.out.other (b' := w.heap.size + 1) (o := 3) (.slice (some ⟨g7, 0, none⟩) (l.length + 1) cap7) (by omega))
          have HB8 : Hid (Below w.heap.size w (w7.setCell ⟨w.heap.size + 1, 3, none⟩ (.slice (some ⟨g7, 0, none⟩) (l.length + 1) cap7))) := ((HB.out).trans (HB7.out.mono (by omega))).setCell (p := ⟨w.heap.size + 1, 3, none⟩) (by simp) _
          have HM8 : Hid ((l ++ [TX.mk u A5 c5]).map TX.t = ys.take (l ++ [TX.mk u A5 c5]).length) := by
            show (l ++ [TX.mk u A5 c5]).map TX.t = _
            rw [List.map_append, List.length_append, HM.out]
            show _ = ys.take (l.length + 1)
            rw [HMT.out]; rfl
          have hl8 : (l ++ [TX.mk u A5 c5]).length = l.length + 1 := by simp
          have HL8 := Lib.hid hl8
          clear hl8
          go_wp2_with fail
          go_roundg (ys.length - (l.length + 1))
          case measure => omega
          case rel => exact ⟨.slice (some ⟨g7, 0, none⟩) (l.length + 1) cap7, l ++ [TX.mk u A5 c5], by rw [HL8.out]; omega, by rw [HL8.out]; omega, by rw [HL8.out]; go_num, HM8.out, HO8.out, HR8.out, HC8.out, HB8.out⟩
      · have hltz : ¬ (l.length : Int) < (ys.length : Int) := by omega
        obtain ⟨A9, c9, rfl, hc9, hta9⟩ := HO.out.trs (fun k hk => hk)
        have hmt : l.map TX.t = t.args := by rw [HM.out, ← HYS.out, List.take_of_length_le (by omega)]
        have hle : l.length = t.args.length := by rw [← hmt, List.length_map]
        rw [hmt] at hta9
        rw [hle] at hc9
        have HV9 : Hid (TVS wr (fun k => w.heap.size + 2 ≤ k ∧ k < wr.heap.size) t A9 c9) := TVS.mk hc9 hta9
        rw [hle] at HC
        obtain ⟨⟨m0, m1, m2, m3, m4⟩, mf, ml⟩ := HC.out.cells
        obtain ⟨⟨q0, q1, q2, q3, q4⟩, qf, ql⟩ := HR.out.cells
        have HLE := Lib.hid hle
        clear hle hta9 hc9 hmt HO HM
        go_wp2_with fail
        have hnb : ¬ (w.heap.size + 2 ≤ w.heap.size ∧ w.heap.size < wr.heap.size) := by omega
        refine bodyPost_ret (v := .agg (tv t A9 c9)) (by simp [results, Tryz.results59, go_sem, tv, q0, q1, q2, q3, q4]) rfl ⟨A9, c9, rfl, ?_, ?_⟩
        · exact (((((HV9.out.set _ 0 _ hnb).set _ 1 _ hnb).set _ 2 _ hnb).set _ 3 _ hnb).set _ 4 _ hnb).keep (fun k hk => ⟨⟨by have := hk.1; omega, by have := hk.2; simpa using this⟩, rfl⟩)
        · exact ((((HB.out.setCell (p := ⟨w.heap.size, 0, none⟩) (Nat.le_refl _) _).setCell (p := ⟨w.heap.size, 1, none⟩) (Nat.le_refl _) _).setCell (p := ⟨w.heap.size, 2, none⟩) (Nat.le_refl _) _).setCell (p := ⟨w.heap.size, 3, none⟩) (Nat.le_refl _) _).setCell (p := ⟨w.heap.size, 4, none⟩) (Nat.le_refl _) _
end Go.Proofs.YtknpigdpepmimaaGreatDoor
