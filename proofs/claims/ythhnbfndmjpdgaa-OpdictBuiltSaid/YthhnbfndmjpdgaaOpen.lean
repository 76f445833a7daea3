/- An argument of type '[]api.Entry' opened to a list of entries in memory. -/
import Derived.Test.YthhnbfndmjpdgaaOf
import Derived.ProofKit
import Derived.OpenShut
import Derived.ShutString
import Derived.ChangeOld
import Derived.ChangeSame
import Derived.Deep.Slices
import Derived.Deep.Fields
namespace Go.Proofs.Ythhnbfndmjpdgaa
open Go.RowKit Go.ChangeShapes Go.WideShapes Go.Deep

theorem own : ownKnob Try.prog.godebug = none := by kernel_rfl
theorem laidOut : laidOutB Try.prog = true := by kernel_rfl
theorem cells27 : Try.prog.cellsOf 27 = 4 := by kernel_rfl

section
variable {H : Type} {enc : TypeId × Value → H} {w : World} {base : Nat} {spare : Nat → Bool} {held : Bool}

theorem four {α : Type} {l : List α} (h : l.length = 4) : ∃ a b c d, l = [a, b, c, d] := by
  match l, h with
  | [a, b, c, d], _ => exact ⟨a, b, c, d, rfl⟩

/-- the four cells of one struct, read as an entry -/
theorem open_ent {fuel : Nat} {cs : List Value} {x : DataW H × List MemPlace} (h : DataW.trod enc Try.prog w base spare held fuel 27 cs = some x) : ∃ e : Ent, cs = e.cells ∧ (Lit.int .i64 e.cls).wf = true ∧ e.text.size ≤ maxLen := by
  obtain ⟨xs, n, _, hx, hcl, hxl, hf⟩ := DataW.trod_struct Try.underlying27 h
  rw [cells27] at hcl
  obtain ⟨v0, v1, v2, v3, rfl⟩ := four hcl
  obtain ⟨y0, y1, y2, y3, rfl⟩ := four hxl
  have f0 := hf 0 _ rfl
  have f1 := hf 1 _ rfl
  have f2 := hf 2 _ rfl
  have f3 := hf 3 _ rfl
  obtain ⟨s, h0, _, hs⟩ := DataW.trod_string Try.underlying9 f0
  obtain ⟨k, h1, _, hk⟩ := DataW.trod_int Try.underlying3 f1
  obtain ⟨b2, h2, _⟩ := DataW.trod_bool Try.underlying4 f2
  obtain ⟨b3, h3, _⟩ := DataW.trod_bool Try.underlying4 f3
  have c9 : Try.prog.cellsOf 9 = 1 := by kernel_rfl
  have c3 : Try.prog.cellsOf 3 = 1 := by kernel_rfl
  have c4 : Try.prog.cellsOf 4 = 1 := by kernel_rfl
  simp [c9] at h0
  simp [c3] at h1
  simp [c4] at h2
  simp [c4] at h3
  subst h0 h1 h2 h3
  exact ⟨⟨s, k, b2, b3⟩, rfl, hk, hs⟩

theorem addr_spot {w : World} {a : Addr} {v : Value} (h : w.cell? a = some v) : a = ⟨a.block, a.off, none⟩ := by
  have := World.cell?_spot h
  cases a; simp_all

/-- the slice: nil, or a row of entries -/
theorem open_ents {fuel : Nat} {cs : List Value} {x : DataW H × List MemPlace} (h : DataW.trod enc Try.prog w base spare held fuel 22 cs = some x) :
    ∃ (A : Option Addr) (l : List Ent) (c : Nat), cs = [.slice A l.length c] ∧ l.length ≤ maxLen ∧ l.length ≤ c ∧ ER w w.heap.size A l ∧ (∀ e ∈ l, (Lit.int .i64 e.cls).wf = true ∧ e.text.size ≤ maxLen) := by
  rcases open_slice Try.underlying22 h with ⟨rfl, _⟩ | ⟨a, len, cap, m, n, D, Pl, rfl, hb, hl, hm, hmm, hx, hi⟩
  · exact ⟨none, [], 0, rfl, Nat.zero_le _, Nat.le_refl _, ER.nil, fun e he => by simp at he⟩
  · have hlm : len ≤ m := by rw [hmm]; split <;> omega
    have hex : ∀ i, ∃ e : Ent, i < len → ((∀ j v, e.cells[j]? = some v → w.cell? (a.add (i * 4 + j)) = some v) ∧ (Lit.int .i64 e.cls).wf = true ∧ e.text.size ≤ maxLen) := by
      intro i
      by_cases hil : i < len
      · obtain ⟨cs', hc, ht⟩ := hi i (by omega)
        rw [cells27] at hc
        obtain ⟨e, rfl, hk, hs⟩ := open_ent ht
        obtain ⟨_, hcl, hat⟩ := World.cells?_some hc
        refine ⟨e, fun _ => ⟨fun j v hv => ?_, hk, hs⟩⟩
        have hj : j < 4 := by
          have := (List.getElem?_eq_some_iff.1 hv).1
          simpa [Ent.cells] using this
        rw [← Go.Deep.add_add, hat j hj, hv]
      · exact ⟨⟨⟨#[]⟩, 0, false, false⟩, fun h => absurd h hil⟩
    obtain ⟨f, hf⟩ := Classical.axiomOfChoice hex
    refine ⟨some a, (List.range len).map f, cap, by simp, by simp; omega, by simp; omega, fun hne => ?_, fun e he => ?_⟩
    · have hpos : 0 < len := by
        rcases Nat.eq_zero_or_pos len with h0 | h0
        · subst h0; simp at hne
        · exact h0
      have hsp := ((hf 0 hpos).1 0 (.string (f 0).text) rfl)
      simp [Addr.add] at hsp
      have ha := addr_spot hsp
      have hblk : a.block < w.heap.size := World.block_lt_of_cell? w a hsp
      refine ⟨a.block, a.off, by rw [← ha], hblk, fun i e hie => ?_⟩
      have hil : i < len := by
        have := (List.getElem?_eq_some_iff.1 hie).1
        simpa using this
      have he : f i = e := by simpa [List.getElem?_map, List.getElem?_range hil] using hie
      subst he
      have hc := (hf i hil).1
      have key : ∀ j v, (f i).cells[j]? = some v → w.cell? ⟨a.block, a.off + i * 4 + j, none⟩ = some v := by
        intro j v hv
        have := hc j v hv
        rw [ha, addr_add] at this
        rw [← this, Nat.add_assoc]
      exact ⟨key 0 _ rfl, key 1 _ rfl, key 2 _ rfl, key 3 _ rfl⟩
    · obtain ⟨i, hi', rfl⟩ := List.mem_map.1 he
      exact (hf i (List.mem_range.1 hi')).2
end
end Go.Proofs.Ythhnbfndmjpdgaa
