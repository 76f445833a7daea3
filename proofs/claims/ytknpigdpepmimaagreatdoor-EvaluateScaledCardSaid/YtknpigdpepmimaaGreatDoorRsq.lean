/- What Forms needs of the groups M46 and M48. -/
import Derived.Laws.AppendOwn
import Derived.Laws.AppendOwnNone
import Derived.Lib.AppendZerosOnto
import Derived.Lib.Walk
import Derived.RegionTactic
import Derived.OrdersHeld
import Derived.Deep.RegionHeldLaw
import Derived.Test.YtknpigdpepmimaaGreatDoorM19
import Derived.Test.YtknpigdpepmimaaGreatDoorM20
import Derived.Test.YtknpigdpepmimaaGreatDoorM45
namespace Go.Proofs.YtknpigdpepmimaaGreatDoor
open Go.RowKit
end Go.Proofs.YtknpigdpepmimaaGreatDoor
namespace Go.Proofs.YtknpigdpepmimaaGreatDoor
open Go.RowKit
/-- a term's cells at (b, o) -/
structure Rt (w : World) (b o : Nat) (t : T) (A : Option Addr) (c : Nat) : Prop where
  lt : b < w.heap.size
  c0 : w.cell? ⟨b, o, none⟩ = some (.int .i64 t.kind)
  c1 : w.cell? ⟨b, o + 1, none⟩ = some (.string ⟨t.name.toArray⟩)
  c2 : w.cell? ⟨b, o + 2, none⟩ = some (.string ⟨t.var.toArray⟩)
  c3 : w.cell? ⟨b, o + 3, none⟩ = some (.slice A t.args.length c)
  c4 : w.cell? ⟨b, o + 4, none⟩ = some (.string ⟨t.form.toArray⟩)
theorem Rt.reach {w w' : World} {b o : Nat} {t : T} {A : Option Addr} {c : Nat} (h : Rt w b o t A c) (hb : Below w.heap.size w w') : Rt w' b o t A c :=
  ⟨Nat.lt_of_lt_of_le h.lt hb.size, (hb.cell (p := ⟨b, o, none⟩) h.lt).trans h.c0, (hb.cell (p := ⟨b, o + 1, none⟩) h.lt).trans h.c1, (hb.cell (p := ⟨b, o + 2, none⟩) h.lt).trans h.c2, (hb.cell (p := ⟨b, o + 3, none⟩) h.lt).trans h.c3, (hb.cell (p := ⟨b, o + 4, none⟩) h.lt).trans h.c4⟩
theorem TVS.reach {w w' : World} {S : Nat → Prop} {t : T} {A : Option Addr} {c : Nat} (h : TVS w S t A c) (hS : ∀ k, S k → k < w.heap.size) (hb : Below w.heap.size w w') : TVS w' S t A c :=
  h.keep (fun k hk => ⟨hk, hb.block k (hS k hk)⟩)
theorem TVS.wider {w : World} {S S' : Nat → Prop} {t : T} {A : Option Addr} {c : Nat} (h : TVS w S t A c) (hS : ∀ k, S k → S' k) : TVS w S' t A c := h.keep (fun k hk => ⟨hS k hk, rfl⟩)
/-- the blocks that a result may lie in: those of S, and new ones -/
def Nw (S : Nat → Prop) (w w' : World) : Nat → Prop := fun k => S k ∨ (w.heap.size ≤ k ∧ k < w'.heap.size)
theorem below5s {B : Nat} {w0 W : World} (h : Below B w0 W) {bz : Nat} (hle : B ≤ bz) (a0 a1 a2 a3 a4 : Value) :
    Below B w0 (((((W.setCell ⟨bz, 0, none⟩ a0).setCell ⟨bz, 1, none⟩ a1).setCell ⟨bz, 2, none⟩ a2).setCell ⟨bz, 3, none⟩ a3).setCell ⟨bz, 4, none⟩ a4) :=
  ((((h.setCell (p := ⟨bz, 0, none⟩) hle _).setCell (p := ⟨bz, 1, none⟩) hle _).setCell (p := ⟨bz, 2, none⟩) hle _).setCell (p := ⟨bz, 3, none⟩) hle _).setCell (p := ⟨bz, 4, none⟩) hle _
theorem TVS.set5 {w : World} {S : Nat → Prop} {t : T} {A : Option Addr} {c : Nat} (h : TVS w S t A c) (b : Nat) (a0 a1 a2 a3 a4 : Value) (hb : ¬ S b) :
    TVS (((((w.setCell ⟨b, 0, none⟩ a0).setCell ⟨b, 1, none⟩ a1).setCell ⟨b, 2, none⟩ a2).setCell ⟨b, 3, none⟩ a3).setCell ⟨b, 4, none⟩ a4) S t A c :=
  ((((h.set b 0 a0 hb).set b 1 a1 hb).set b 2 a2 hb).set b 3 a3 hb).set b 4 a4 hb
theorem size_set5 (w : World) (b : Nat) (a0 a1 a2 a3 a4 : Value) : (((((w.setCell ⟨b, 0, none⟩ a0).setCell ⟨b, 1, none⟩ a1).setCell ⟨b, 2, none⟩ a2).setCell ⟨b, 3, none⟩ a3).setCell ⟨b, 4, none⟩ a4).heap.size = w.heap.size := by simp
end Go.Proofs.YtknpigdpepmimaaGreatDoor
namespace Go.Proofs.YtknpigdpepmimaaGreatDoor
end Go.Proofs.YtknpigdpepmimaaGreatDoor
namespace Go.Proofs.YtknpigdpepmimaaGreatDoor
open Go.RowKit
end Go.Proofs.YtknpigdpepmimaaGreatDoor
namespace Go.Proofs.YtknpigdpepmimaaGreatDoor
open Go.RowKit
theorem Bk.set5 {w : World} {b : Nat} {v0 v1 v2 v3 v4 : Value} (h : Bk w b v0 v1 v2 v3 v4) (a0 a1 a2 a3 a4 : Value) :
    Bk (((((w.setCell ⟨b, 0, none⟩ a0).setCell ⟨b, 1, none⟩ a1).setCell ⟨b, 2, none⟩ a2).setCell ⟨b, 3, none⟩ a3).setCell ⟨b, 4, none⟩ a4) b a0 a1 a2 a3 a4 :=
  ((((h.set0 a0).set1 a1).set2 a2).set3 a3).set4 a4
/-- the blocks that the terms of subst's row may lie in -/
def Zz (S : Nat → Prop) (B : Nat) : Nat → Prop := fun k => S k ∨ B ≤ k
/-- behind the append of a round -/
theorem sub_append {S : Nat → Prop} {W w7 : World} {B D g cap : Nat} {v : Value} {l : List TX} {x : TX} (ob : Obj) (hS : ∀ k, S k → k < B) (hO : OT (Zz S B) W B v l) (hD : ∀ k, v.ownBlock = some k → k < D) (hBD : B ≤ D) (hDW : D ≤ W.heap.size)
    (hx : TVS W (fun k => S k ∨ (D ≤ k ∧ k < W.heap.size)) x.t x.A x.c)
    (hown : w7.ownsRow B 24 5 (.slice (some ⟨g, 0, none⟩) (l.length + 1) cap) (l.length + 1) (txc l ++ x.cells)) (hg : (W.alloc ob).grownBy w7 v.ownBlock) (hat : v.ownBlock = some g ∨ g = (W.alloc ob).heap.size) :
    OT (Zz S B) w7 B (.slice (some ⟨g, 0, none⟩) (l.length + 1) cap) (l ++ [x]) ∧ Below B W w7 := by
  have hx2 : TVS W (Zo (Zz S B) W v) x.t x.A x.c := hx.keep (fun k hk => by
    refine ⟨?_, rfl⟩
    rcases hk with hk | hk
    · refine ⟨.inl hk, ?_, fun e => ?_⟩
      · have := hS k hk; omega
      · have := hS k hk; have := (hO.lt k e).1; omega
    · exact ⟨.inr (by omega), hk.2, fun e => by have := hD k e; omega⟩)
  have := ot_append ob hO hx2 hown hg hat (by omega)
  exact ⟨this.1, this.2.1⟩
end Go.Proofs.YtknpigdpepmimaaGreatDoor
namespace Go.Proofs.YtknpigdpepmimaaGreatDoor
open Go.RowKit
theorem Bk.new' (w : World) (t : T) (A : Option Addr) (c : Nat) : Bk (w.alloc (.cells (tv t A c) 24)) w.heap.size (.int .i64 t.kind) (.string ⟨t.name.toArray⟩) (.string ⟨t.var.toArray⟩) (.slice A t.args.length c) (.string ⟨t.form.toArray⟩) := blk_new _ _
end Go.Proofs.YtknpigdpepmimaaGreatDoor

namespace Go.Proofs.YtknpigdpepmimaaGreatDoor
open Go
section
variable {P : Program} {ops : Array Oper} {Q : Exit → Act → World → Prop} {md : Region.Mode} {S : World → Prop} {last : Nat}
/-- Whatever order is picked from here on, and S holds behind every operation but the last. -/
def wpAnyL (P : Program) (md : Region.Mode) (ops : Array Oper) (Q : Exit → Act → World → Prop) (S : World → Prop) (last : Nat) : Nat → Array Bool → Act → World → Prop
  | 0, listed, a, w => Region.ready md ops listed = [] ∧ Q .normal a w
  | fuel + 1, listed, a, w =>
    (Region.ready md ops listed = [] → Q .normal a w) ∧
    ∀ i ∈ Region.ready md ops listed, wpOp P ops Q i (fun a' w' => (i ≠ last → S w') ∧ wpAnyL P md ops Q S last fuel (listed.setIfInBounds i true) a' w') a w
theorem wpAny_of_L : ∀ (fuel : Nat) (listed : Array Bool) (a : Act) (w : World), wpAnyL P md ops Q S last fuel listed a w → wpAny P md ops Q fuel listed a w
  | 0, _, _, _, h => h
  | fuel + 1, _, _, _, h => ⟨h.1, fun i hi => wpOp_mono (fun a' w' h' => wpAny_of_L fuel _ a' w' h'.2) (h.2 i hi)⟩
/-- the last operation waits for number i -/
def waitsB (md : Region.Mode) (ops : Array Oper) (last i : Nat) : Bool := match ops[last]? with
  | some o => o.after.any fun e => Region.binds md e && e.on == i
  | none => false
theorem waits_not {i : Nat} {listed : Array Bool} (hw : waitsB md ops last i = true) (hr : i ∈ Region.ready md ops listed) : last ∉ Region.ready md ops listed := fun hl => by
  obtain ⟨_, ol, hol, hall⟩ := mem_ready.1 hl
  unfold waitsB at hw
  rw [hol] at hw
  obtain ⟨k, hk, he⟩ := Array.any_eq_true.1 hw
  simp only [Bool.and_eq_true, beq_iff_eq] at he
  have h1 := hall _ (Array.getElem_mem hk) he.1
  rw [he.2] at h1
  have h0 := (mem_ready.1 hr).1
  rcases Nat.lt_or_ge i listed.size with h' | h'
  · simp [h'] at h0 h1; rw [h0] at h1; cases h1
  · simp [Array.getElem?_eq_none h'] at h1
theorem wpAnyL_first {i : Nat} {oi : Oper} {v : Value} (hi : ops[i]? = some oi) (hsel : ∀ (j : Nat) (o : Oper) cs b, ops[j]? = some o → o.op ≠ .select cs b) (hlast : waitsB md ops last i = true)
    (hQ : ∀ c a w, Q (.panic c) (a.put oi.dst v) w → Q (.panic c) a w) :
    ∀ (fuel : Nat) (listed : Array Bool) (a : Act) (w : World),
      (∀ j oj, ops[j]? = some oj → j ≠ i → listed.getD j true = false → (∀ e ∈ oj.after, Region.binds md e = true → e.on ≠ i) → oi.apart ops oj = true) →
      i ∈ Region.ready md ops listed → YieldsIf P ops S oi v a → S w →
      wpAnyL P md ops Q S last fuel (listed.setIfInBounds i true) (a.put oi.dst v) w → wpAnyL P md ops Q S last (fuel + 1) listed a w := by
  intro fuel
  induction fuel with
  | zero =>
    intro listed a w _ hr hy hS H
    refine ⟨fun h => (by rw [h] at hr; cases hr), fun j hj => ?_⟩
    by_cases hji : j = i
    · subst hji; exact hy.wpOp hi hS ⟨fun _ => hS, H⟩
    · have := ready_mono hj hji
      rw [H.1] at this
      cases this
  | succ fuel ih =>
    intro listed a w hfree hr hy hS H
    refine ⟨fun h => (by rw [h] at hr; cases hr), fun j hj => ?_⟩
    by_cases hji : j = i
    · subst hji; exact hy.wpOp hi hS ⟨fun _ => hS, H⟩
    · have h1 := H.2 j (ready_mono hj hji)
      have hjl : j ≠ last := fun e => waits_not hlast hr (e ▸ hj)
      obtain ⟨hjun, oj, hoj, hall⟩ := mem_ready.1 hj
      have hnot : ∀ e ∈ oj.after, Region.binds md e = true → e.on ≠ i := fun e he hb heq => by
        have h1 := hall e he hb
        have h0 := (mem_ready.1 hr).1
        rw [heq] at h1
        rcases Nat.lt_or_ge i listed.size with h' | h'
        · simp [h'] at h0 h1; rw [h0] at h1; cases h1
        · simp [Array.getElem?_eq_none h'] at h1
      have h2 := wpOp_putIf hoj (hfree j oj hoj hji hjun hnot) (fun cs b => hsel i oi cs b hi) (fun cs b => hsel j oj cs b hoj) hQ hy h1
      have hfree' : ∀ k ok, ops[k]? = some ok → k ≠ i → (listed.setIfInBounds j true).getD k true = false →
          (∀ e ∈ ok.after, Region.binds md e = true → e.on ≠ i) → oi.apart ops ok = true := fun k ok hk hki hun hno => by
        refine hfree k ok hk hki ?_ hno
        by_cases hjk : j = k
        · subst hjk; exact hjun
        · rw [getD_set_ne true hjk] at hun; exact hun
      refine wpOp_mono (fun a' w' h3 => ⟨h3.2.1, ih (listed.setIfInBounds j true) a' w' hfree' (ready_mono hr (Ne.symm hji)) h3.1 (h3.2.1 hjl) ?_⟩) h2
      rw [Array.setIfInBounds_comm _ _ hji]
      exact h3.2.2
/-- a read taken first -/
theorem wpAnyL_take {i : Nat} {oi : Oper} {v : Value} {fuel : Nat} {listed : Array Bool} {a : Act} {w : World} (hi : ops[i]? = some oi)
    (hs : Region.noSelect ops = true) (hf : Region.free md ops listed i = true) (hr : (Region.ready md ops listed).contains i = true) (hlast : waitsB md ops last i = true)
    (hQ : ∀ c a w, Q (.panic c) (a.put oi.dst v) w → Q (.panic c) a w) (hy : YieldsIf P ops S oi v a) (hS : S w)
    (h : wpAnyL P md ops Q S last fuel (listed.setIfInBounds i true) (a.put oi.dst v) w) : wpAnyL P md ops Q S last (fuel + 1) listed a w :=
  wpAnyL_first hi (Region.noSelect_spec hs) hlast hQ fuel listed a w (Region.free_spec hi hf) (by simpa using hr) hy hS h
/-- the one operation that may come up now -/
theorem wpAnyL_step {i : Nat} {o : Oper} {fuel : Nat} {listed : Array Bool} {a : Act} {w : World} (hr : Region.ready md ops listed = [i]) (ho : ops[i]? = some o)
    (h : ∀ K' : Act → World → Prop, Shut (∀ a w, S w → (S w → wpAnyL P md ops Q S last fuel (listed.setIfInBounds i true) a w) → K' a w) → if Region.wanted o (yielded ops a.tmps) = true then Oper.wp P o a w K' Q else K' (a.put o.dst undef) w) :
    wpAnyL P md ops Q S last (fuel + 1) listed a w := by
  refine ⟨fun e => (by rw [hr] at e; cases e), fun j hj => ?_⟩
  rw [hr, List.mem_singleton] at hj
  subst hj
  exact wpOp_step ho (fun K' hK => h K' (fun a w hS hW => hK a w ⟨fun _ => hS, hW hS⟩))
/-- the last one -/
theorem wpAnyL_last {o : Oper} {listed : Array Bool} {a : Act} {w : World} (hr : Region.ready md ops listed = [last]) (ho : ops[last]? = some o) (hd : Region.ready md ops (listed.setIfInBounds last true) = [])
    (h : ∀ K' : Act → World → Prop, Shut (∀ a w, Q .normal a w → K' a w) → if Region.wanted o (yielded ops a.tmps) = true then Oper.wp P o a w K' Q else K' (a.put o.dst undef) w) :
    wpAnyL P md ops Q S last 1 listed a w := by
  refine ⟨fun e => (by rw [hr] at e; cases e), fun j hj => ?_⟩
  rw [hr, List.mem_singleton] at hj
  subst hj
  exact wpOp_step ho (fun K' hK => h K' (fun a w hn => hK a w ⟨fun e => absurd rfl e, hd, hn⟩))
theorem wp_region_L {id : Nat} {a : Act} {w : World} (last : Nat) (S : World → Prop) (hm : P.follows .mixedOrders = true)
    (h : wpAnyL P .any ops Q S last ops.size (Array.replicate ops.size false) a w.drew) : (Code.region id ops true).wp P Q a w :=
  wp_region_any hm (wpAny_of_L _ _ _ _ h)
end
end Go.Proofs.YtknpigdpepmimaaGreatDoor
namespace Go.Proofs.YtknpigdpepmimaaGreatDoor
open Go.RowKit
/-- the call's own copies: t, u, the result -/
def Q3 (X : World) (n : Nat) (t : T) (A : Option Addr) (c : Nat) (u : T) (A' : Option Addr) (c' : Nat) : Prop :=
  Bk X n (.int .i64 t.kind) (.string ⟨t.name.toArray⟩) (.string ⟨t.var.toArray⟩) (.slice A t.args.length c) (.string ⟨t.form.toArray⟩) ∧
  Bk X (n + 1) (.int .i64 u.kind) (.string ⟨u.name.toArray⟩) (.string ⟨u.var.toArray⟩) (.slice A' u.args.length c') (.string ⟨u.form.toArray⟩) ∧
  Bk X (n + 1 + 1) (.int .i64 0) (.string ⟨#[]⟩) (.string ⟨#[]⟩) (.slice none 0 0) (.string ⟨#[]⟩)
theorem Q3.below {X Y : World} {n : Nat} {t : T} {A : Option Addr} {c : Nat} {u : T} {A' : Option Addr} {c' : Nat} (h : Q3 X n t A c u A' c') (hb : Below (n + 3) X Y) : Q3 Y n t A c u A' c' :=
  ⟨h.1.below hb (by omega), h.2.1.below hb (by omega), h.2.2.below hb (by omega)⟩
end Go.Proofs.YtknpigdpepmimaaGreatDoor
namespace Go.Proofs.YtknpigdpepmimaaGreatDoor
open Go.RowKit
end Go.Proofs.YtknpigdpepmimaaGreatDoor

