/- Contracts of Count, Valid, left, few. -/
import Derived.Test.YtkjhfbgdmmnadaaGreatVal
namespace Go.Proofs.YtkjhfbgdmmnadaaGreat
open Go.RowKit

/-- the cells of a term as a value -/
def tv (t : T) (A : Option Addr) (c : Nat) : Array Value := #[.int .i64 t.kind, .string ⟨t.name.toArray⟩, .string ⟨t.var.toArray⟩, .slice A t.args.length c, .string ⟨t.form.toArray⟩]
structure TV (w : World) (B : Nat) (t : T) (A : Option Addr) (c : Nat) : Prop where
  cap : t.args.length ≤ c ∧ c ≤ 9223372036854775807
  ar : TA w B A t.args
theorem TA.below {w w' : World} {B : Nat} {A : Option Addr} {ys : List T} (h : TA w B A ys) (hb : Below B w w') : TA w' B A ys := fun hne => by
  obtain ⟨b, o, hA, hs⟩ := h hne
  exact ⟨b, o, hA, hs.below hb⟩
theorem TA.more {w : World} {B B' : Nat} {A : Option Addr} {ys : List T} (h : TA w B A ys) (hB : B ≤ B') : TA w B' A ys := fun hne => by
  obtain ⟨b, o, hA, hs⟩ := h hne
  exact ⟨b, o, hA, hs.more hB⟩
theorem TV.below {w w' : World} {B : Nat} {t : T} {A : Option Addr} {c : Nat} (h : TV w B t A c) (hb : Below B w w') : TV w' B t A c := ⟨h.cap, h.ar.below hb⟩
theorem TV.more {w : World} {B B' : Nat} {t : T} {A : Option Addr} {c : Nat} (h : TV w B t A c) (hB : B ≤ B') : TV w B' t A c := ⟨h.cap, h.ar.more hB⟩
theorem TR.of_parts {w : World} {B b o : Nat} {t : T} {A : Option Addr} {c : Nat} (h1 : b < B) (c0 : w.cell? ⟨b, o, none⟩ = some (.int .i64 t.kind)) (c1 : w.cell? ⟨b, o + 1, none⟩ = some (.string ⟨t.name.toArray⟩)) (c2 : w.cell? ⟨b, o + 2, none⟩ = some (.string ⟨t.var.toArray⟩))
    (c3 : w.cell? ⟨b, o + 3, none⟩ = some (.slice A t.args.length c)) (c4 : w.cell? ⟨b, o + 4, none⟩ = some (.string ⟨t.form.toArray⟩)) (hv : TV w B t A c) : TR w B b o t := by
  cases t with
  | mk k n v ys f =>
    rw [TR]
    exact ⟨h1, c0, c1, c2, c4, A, c, c3, hv.cap, hv.ar⟩
/-- a term that is boxed -/
theorem TV.box {w : World} {t : T} {A : Option Addr} {c : Nat} (h : TV w w.heap.size t A c) : TR (w.alloc (.cells (tv t A c) 24)) (w.heap.size + 1) w.heap.size 0 t := by
  have hb : Below w.heap.size w (w.alloc (.cells (tv t A c) 24)) := (Below.refl _ _).alloc (Nat.le_refl _) _
  exact TR.of_parts (by omega) (by simp [tv]) (by simp [tv]) (by simp [tv]) (by simp [tv]) (by simp [tv]) ((h.below hb).more (by omega))
def cntT (t : T) : Nat := if (vld t 0).1 then (vld t 0).2 else 0
def validB (t : T) : Bool := (vld t 0).1

set_option maxHeartbeats 1000000 in
theorem count_any (t : T) (A : Option Addr) (c : Nat) (w : World) (hv : TV w w.heap.size t A c) (hs : SA t) (hm : Max w) :
    Calls Tryz.prog 33 #[.agg (tv t A c)] w fun e w' => e = .returned (.int .i64 (cntT t : Nat)) ∧ Below w.heap.size w w' := by
  have hb0 : Below w.heap.size w (w.alloc (.cells (tv t A c) 24)) := (Below.refl _ _).alloc (Nat.le_refl _) _
  have hb1 : Below (w.heap.size + 1) (w.alloc (.cells (tv t A c) 24)) ((w.alloc (.cells (tv t A c) 24)).alloc (.cells #[.int .i64 0] 3)) := (Below.refl _ _).alloc (by simp) _
  have hR := hv.box.below hb1
  have hM : MaxB ((w.alloc (.cells (tv t A c) 24)).alloc (.cells #[.int .i64 0] 3)) (w.heap.size + 1) :=
    ⟨by omega, (hm.below hb0).below (by have := (Below.refl (w.alloc (.cells (tv t A c) 24)).heap.size (w.alloc (.cells (tv t A c) 24))).alloc (Nat.le_refl _) (.cells #[.int .i64 0] 3); exact this)⟩
  have hC : CB ((w.alloc (.cells (tv t A c) 24)).alloc (.cells #[.int .i64 0] 3)) (w.heap.size + 1) 0 := ⟨by simp, by simp, by simp⟩
  have HC := Lib.hid (valid_aux t.size t (Nat.le_refl _) w.heap.size 0 (w.heap.size + 1) 0 _ hR hs hM hC (by omega))
  have HB : Hid (Below w.heap.size w ((w.alloc (.cells (tv t A c) 24)).alloc (.cells #[.int .i64 0] 3))) := hb0.alloc (by simp) _
  have HN : Hid (cntT t = if (vld t 0).1 then (vld t 0).2 else 0) := rfl
  clear hb0 hb1 hR hM hC hs hm hv
  obtain ⟨r1, r2, hr⟩ : ∃ r1 r2, (r1, r2) = vld t 0 := ⟨_, _, rfl⟩
  rw [← hr] at HN HC
  clear hr
  simp only at HN HC
  generalize tv t A c = cs at *
  go_enter Tryz.func33, Tryz.ntmps33
  go_wp2_with fail
  refine HC.out.mono ?_
  rintro e w1 ⟨rfl, hc1, hb1⟩
  have q1 := hc1.cell
  have HB1 := Lib.hid (HB.out.trans (hb1.mono (by omega)))
  clear hc1 hb1 HC
  cases r1 with
  | true =>
    go_wp2_with fail
    go_ret
    rw [HN.out]
    exact ⟨rfl, HB1.out⟩
  | false =>
    go_wp2_with fail
    go_ret
    rw [HN.out]
    exact ⟨rfl, HB1.out⟩
end Go.Proofs.YtkjhfbgdmmnadaaGreat
