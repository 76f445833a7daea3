/- What the walk of TermAt needs: a path copied by an append; a result stored into a struct of its own. -/
import Derived.Test.YtkjhfbgdmmnadaaRAt
import Derived.Test.YtkjhfbgdmmnadaaREq
import Derived.Test.YtkjhfbgdmmnadaaOpn
import Derived.Deep.RegionHeldLaw
import Derived.Laws.OwnMore
import Derived.Tactics
namespace Go.Proofs.Ytkjhfbgdmmnadaa
open Go.RowKit

theorem int_info : (Try.prog.info? 3).map (fun i => (i.zero, i.size, i.bytes)) = some (some (.int .i64 0), 1, 8) := by kernel_rfl
/-- a path that came in, or its copy -/
def PX (w : World) (A : Option Addr) (c : Nat) (p : List Int) : Prop := PI w w.heap.size (.slice A p.length c) p
theorem pi_of_row {w : World} {B g cap : Nat} {p : List Int} (h : w.ownsRow B 3 1 (.slice (some ⟨g, 0, none⟩) p.length cap) p.length (p.map fun x => .int .i64 x)) : PI w w.heap.size (.slice (some ⟨g, 0, none⟩) p.length cap) p := by
  rcases h.2 with ⟨h1, _⟩ | ⟨g', cap', cur, h1, h2, h3, h4, h5, h6, h7⟩
  · cases h1
  · injection h1 with h1 _ h8
    injection h1 with h1
    injection h1 with h1
    subst h1 h8
    refine ⟨some ⟨g, 0, none⟩, cap, rfl, ⟨h4, by unfold maxLen at h5; omega⟩, fun _ => ⟨g, 0, rfl, (Array.getElem?_eq_some_iff.1 h3).1, fun j hj => ?_⟩⟩
    have e1 : (cur.toList.take (p.length * 1))[j]? = (p.map fun x => Value.int .i64 x)[j]? := by rw [h7]
    rw [List.getElem?_take_of_lt (by omega)] at e1
    simp only [World.cell?, h3, Option.isSome_none, Bool.false_eq_true, if_false, Nat.zero_add]
    rw [← Array.getElem?_toList, e1]
    simp [hj]
/-- append([]int{}, path...), at a step of a region that draws its order -/
theorem app32 {ops : Array Oper} {o : Oper} {a : Act} {K : Act → World → Prop} {Q : Exit → Act → World → Prop} {E : Prop} (w : World) (hgd : o.guard = none) (s x : Operand)
    (ho : o.op = .call { callee := .builtin .append, args := #[s, x], argTypes := #[32, 32] }) (B g : Nat) (hown : w.ownsRow B 3 1 (.slice (some ⟨g, 0, none⟩) 0 0) 0 []) (hs : a.eval s = .slice (some ⟨g, 0, none⟩) 0 0)
    (PA : Option Addr) (c : Nat) (p : List Int) (hx : a.eval x = .slice PA p.length c) (hn : PA = none → p = [] ∧ c = 0) (hc : ∀ ad, PA = some ad → ∀ j (h : j < p.length), w.cell? (ad.add j) = some (.int .i64 p[j])) (hl : p.length ≤ 20) (hB : B ≤ w.heap.size)
    (h : ∀ v7 w7, PI w7 w7.heap.size v7 p → Below B w w7 → (∀ b, b < w.heap.size → b ≠ g → w7.heap[b]? = w.heap[b]?) → K (a.put o.dst v7) w7) : if Region.wanted o (yielded ops a.tmps) = true then Oper.wp Try.prog o a w K Q else E := by
  obtain ⟨i0, hi0, hz0, hz1, hz2⟩ := info_parts int_info
  cases PA with
  | none =>
    obtain ⟨rfl, rfl⟩ := hn rfl
    have hw : Region.wanted o (yielded ops a.tmps) = true := by simp [Region.wanted, hgd]
    rw [if_pos hw]
    have hrun := run_append_owned_none (P := Try.prog) (w := w) B 32 o.type 3 i0 1 Try.underlying32 hi0 (.slice (some ⟨g, 0, none⟩) 0 0) 0 [] hown
    have hx' : a.eval x = .slice none 0 0 := hx
    unfold Oper.wp
    simp [execOp, ho, resolve, invoke, builtin, hs, hx', hrun, Result.andThen]
    exact h _ _ ⟨some ⟨g, 0, none⟩, 0, rfl, ⟨Nat.le_refl _, by omega⟩, fun hne => absurd rfl hne⟩ (Below.refl _ _) (fun _ _ _ => rfl)
  | some ad =>
  replace hc := hc ad rfl
  by_cases hp : p = []
  · subst hp
    refine step_append_room hgd s x 32 ho 3 i0 1 Try.underlying32 hi0 hz1 g 0 0 0 hs ad 0 c [] hx rfl (fun j u hu => by simp at hu) (by simp) (Nat.le_refl _) (fun j hj => by simp at hj) ?_
    refine h _ _ ?_ ?_ ?_
    · exact ⟨some ⟨g, 0, none⟩, 0, rfl, ⟨Nat.le_refl _, by omega⟩, fun hne => absurd rfl hne⟩
    · have e : w.setCells g (0 + 0 * 1) [] = w := by simp [World.setCells]
      rw [e]; exact Below.refl _ _
    · intro b _ _
      have e : w.setCells g (0 + 0 * 1) [] = w := by simp [World.setCells]
      rw [e]
  · have hpos : 0 < p.length := List.length_pos_iff.2 hp
    refine step_append_lies _ hgd s x 32 ho B 3 i0 _ 1 8 Try.underlying32 hi0 hz0 hz1 hz2 rfl (by decide) _ 0 [] hs hown ad p.length c (p.map fun x => .int .i64 x) hx (by simp) (fun j u hu => ?_) (fun u hu => ?_) hpos (by unfold maxLen; omega) (by omega) hB _ rfl ?_
    · obtain ⟨hj, hu'⟩ := List.getElem?_eq_some_iff.1 hu
      have hj' : j < p.length := by simpa using hj
      rw [List.getElem_map] at hu'
      subst hu'
      exact hc j hj'
    · obtain ⟨y, _, rfl⟩ := List.mem_map.1 hu
      rfl
    · intro g7 cap7 w7 hown7 hgrow7 _ _
      rw [Nat.zero_add] at hown7 ⊢
      rw [List.nil_append] at hown7
      exact h _ w7 (pi_of_row hown7) ((Below.refl B w).grown hgrow7 hB (fun k hk => (hown.lt k hk).1)) (fun b hb hne => hgrow7.block b hb (fun e => hne (by simpa [Value.ownBlock] using e)))

/-- what lies behind 'x, e := At(..)': the result in a struct of its own -/
def Post5 (w2 W : World) (bz : Nat) (t : T) (A : Option Addr) (c : Nat) : Prop :=
  Bk W bz (.int .i64 t.kind) (.string ⟨t.name.toArray⟩) (.string ⟨t.var.toArray⟩) (.slice A t.args.length c) (.string ⟨t.form.toArray⟩) ∧ TV W W.heap.size t A c ∧ Below w2.heap.size w2 W ∧ w2.heap.size ≤ bz
theorem post5 {w2 w8 : World} {bz : Nat} {S : Nat → Prop} {t : T} {A : Option Addr} {c : Nat} {z0 z1 z2 z3 z4 : Value} (hz : Bk w8 bz z0 z1 z2 z3 z4) (hv : TVS w8 S t A c) (hS : ∀ k, S k → k ≠ bz ∧ k < w8.heap.size) (hb : Below w2.heap.size w2 w8) (hle : w2.heap.size ≤ bz) :
    Post5 w2 (((((w8.setCell ⟨bz, 0, none⟩ (.int .i64 t.kind)).setCell ⟨bz, 1, none⟩ (.string ⟨t.name.toArray⟩)).setCell ⟨bz, 2, none⟩ (.string ⟨t.var.toArray⟩)).setCell ⟨bz, 3, none⟩ (.slice A t.args.length c)).setCell ⟨bz, 4, none⟩ (.string ⟨t.form.toArray⟩)) bz t A c := by
  have hn : ¬ S bz := fun h => (hS bz h).1 rfl
  refine ⟨((((hz.set0 _).set1 _).set2 _).set3 _).set4 _, ?_, ?_, hle⟩
  · exact (((((hv.set _ 0 _ hn).set _ 1 _ hn).set _ 2 _ hn).set _ 3 _ hn).set _ 4 _ hn).tv (fun k hk => by have := (hS k hk).2; simpa using this)
  · exact ((((hb.setCell (p := ⟨bz, 0, none⟩) hle _).setCell (p := ⟨bz, 1, none⟩) hle _).setCell (p := ⟨bz, 2, none⟩) hle _).setCell (p := ⟨bz, 3, none⟩) hle _).setCell (p := ⟨bz, 4, none⟩) hle _
theorem post5_new {w2 w8 : World} {t : T} {A : Option Addr} {c : Nat} (hv : TV w8 w8.heap.size t A c) (hb : Below w2.heap.size w2 w8) :
    Post5 w2 (w8.alloc (.cells #[.int .i64 t.kind, .string ⟨t.name.toArray⟩, .string ⟨t.var.toArray⟩, .slice A t.args.length c, .string ⟨t.form.toArray⟩] 24)) w8.heap.size t A c :=
  ⟨Bk.new w8 _ _ _ _ _, hv.reach ((Below.refl _ _).alloc (Nat.le_refl _) _), hb.alloc hb.size _, hb.size⟩
theorem keep5 {w2 W : World} {b : Nat} {t : T} {A : Option Addr} {c : Nat} (hx : Bxd w2 b t A c) (hlt : b < w2.heap.size) (h : Below w2.heap.size w2 W) :
    W.cell? ⟨b, 0, none⟩ = some (.int .i64 t.kind) ∧ W.cell? ⟨b, 1, none⟩ = some (.string ⟨t.name.toArray⟩) ∧ W.cell? ⟨b, 2, none⟩ = some (.string ⟨t.var.toArray⟩) ∧ W.cell? ⟨b, 3, none⟩ = some (.slice A t.args.length c) ∧ W.cell? ⟨b, 4, none⟩ = some (.string ⟨t.form.toArray⟩) :=
  have h' := hx.below h hlt
  ⟨h'.c0, h'.c1, h'.c2, h'.c3, h'.c4⟩
theorem below5 {B : Nat} {w0 W : World} (h : Below B w0 W) {bz : Nat} (hle : B ≤ bz) (a0 a1 a2 a3 a4 : Value) :
    Below B w0 (((((W.setCell ⟨bz, 0, none⟩ a0).setCell ⟨bz, 1, none⟩ a1).setCell ⟨bz, 2, none⟩ a2).setCell ⟨bz, 3, none⟩ a3).setCell ⟨bz, 4, none⟩ a4) :=
  ((((h.setCell (p := ⟨bz, 0, none⟩) hle _).setCell (p := ⟨bz, 1, none⟩) hle _).setCell (p := ⟨bz, 2, none⟩) hle _).setCell (p := ⟨bz, 3, none⟩) hle _).setCell (p := ⟨bz, 4, none⟩) hle _
end Go.Proofs.Ytkjhfbgdmmnadaa
