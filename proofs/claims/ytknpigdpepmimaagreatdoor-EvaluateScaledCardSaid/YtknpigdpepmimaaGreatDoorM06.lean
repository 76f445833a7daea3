/- Dimensions as seven exponents; contract of unit.Valid 84. A block of seven exponents; contract of unit.combine 163. -/
import Derived.Test.YtknpigdpepmimaaGreatDoorRows
import Derived.WalkKit
import Derived.WalkSpells
import Derived.WalkLawsBesides
import Derived.Lib.Hide
import Derived.Deep.LoopGhost
import Derived.Below
import Derived.OrdersHeld
namespace Go.Proofs.YtknpigdpepmimaaGreatDoor
open Go.RowKit
structure Dm where
  a : Int
  b : Int
  c : Int
  d : Int
  e : Int
  f : Int
  g : Int
  deriving DecidableEq
def Dm.cells (d : Dm) : Array Value := #[.int .i64 d.a, .int .i64 d.b, .int .i64 d.c, .int .i64 d.d, .int .i64 d.e, .int .i64 d.f, .int .i64 d.g]
def okE (n : Int) : Bool := decide (-100 ≤ n) && decide (n ≤ 100)
def Dm.ok (d : Dm) : Bool := okE d.a && okE d.b && okE d.c && okE d.d && okE d.e && okE d.f && okE d.g
/-- the first i exponents are in range -/
def Dm.okTo (d : Dm) (i : Nat) : Bool := (decide (i ≤ 0) || okE d.a) && (decide (i ≤ 1) || okE d.b) && (decide (i ≤ 2) || okE d.c) && (decide (i ≤ 3) || okE d.d) && (decide (i ≤ 4) || okE d.e) && (decide (i ≤ 5) || okE d.f) && (decide (i ≤ 6) || okE d.g)
theorem Dm.okTo_all (d : Dm) : d.okTo 7 = d.ok := by simp [Dm.okTo, Dm.ok]
set_option maxRecDepth 100000 in
set_option maxHeartbeats 4000000 in
theorem uvalid_any (d : Dm) (w : World) : Calls Tryz.prog 84 #[.agg d.cells] w fun e w' => e = .returned (.bool d.ok) ∧ Below w.heap.size w w' := by
  obtain ⟨a, b, c, d, e, f, g⟩ := d
  unfold Dm.cells
  have x0 : ∀ w : World, (Instr.index 42 (.agg #[.int .i64 a, .int .i64 b, .int .i64 c, .int .i64 d, .int .i64 e, .int .i64 f, .int .i64 g]) (.int .i64 0)).run Tryz.prog w = .ok (.int .i64 a) w := fun _ => by kernel_rfl
  have x1 : ∀ w : World, (Instr.index 42 (.agg #[.int .i64 a, .int .i64 b, .int .i64 c, .int .i64 d, .int .i64 e, .int .i64 f, .int .i64 g]) (.int .i64 1)).run Tryz.prog w = .ok (.int .i64 b) w := fun _ => by kernel_rfl
  have x2 : ∀ w : World, (Instr.index 42 (.agg #[.int .i64 a, .int .i64 b, .int .i64 c, .int .i64 d, .int .i64 e, .int .i64 f, .int .i64 g]) (.int .i64 2)).run Tryz.prog w = .ok (.int .i64 c) w := fun _ => by kernel_rfl
  have x3 : ∀ w : World, (Instr.index 42 (.agg #[.int .i64 a, .int .i64 b, .int .i64 c, .int .i64 d, .int .i64 e, .int .i64 f, .int .i64 g]) (.int .i64 3)).run Tryz.prog w = .ok (.int .i64 d) w := fun _ => by kernel_rfl
  have x4 : ∀ w : World, (Instr.index 42 (.agg #[.int .i64 a, .int .i64 b, .int .i64 c, .int .i64 d, .int .i64 e, .int .i64 f, .int .i64 g]) (.int .i64 4)).run Tryz.prog w = .ok (.int .i64 e) w := fun _ => by kernel_rfl
  have x5 : ∀ w : World, (Instr.index 42 (.agg #[.int .i64 a, .int .i64 b, .int .i64 c, .int .i64 d, .int .i64 e, .int .i64 f, .int .i64 g]) (.int .i64 5)).run Tryz.prog w = .ok (.int .i64 f) w := fun _ => by kernel_rfl
  have x6 : ∀ w : World, (Instr.index 42 (.agg #[.int .i64 a, .int .i64 b, .int .i64 c, .int .i64 d, .int .i64 e, .int .i64 f, .int .i64 g]) (.int .i64 6)).run Tryz.prog w = .ok (.int .i64 g) w := fun _ => by kernel_rfl
  have HB : Hid (Below w.heap.size w (w.alloc (.cells #[.int .i64 a, .int .i64 b, .int .i64 c, .int .i64 d, .int .i64 e, .int .i64 f, .int .i64 g] 42))) := (Below.refl _ _).alloc (Nat.le_refl _) _
  have HOK := Lib.hid (Dm.okTo_all ⟨a, b, c, d, e, f, g⟩)
  go_enter Tryz.func84, Tryz.ntmps84
  go_wp2_with fail
  generalize w.alloc (.cells #[.int .i64 a, .int .i64 b, .int .i64 c, .int .i64 d, .int .i64 e, .int .i64 f, .int .i64 g] 42) = w1 at *
  go_loopg [4, 6] 7 (fun gg s4 s6 wr => ∃ i : Nat, i ≤ 7 ∧ 7 - i ≤ gg ∧ s6 = .int .i64 i ∧ Aside ((Dm.mk a b c d e f g).okTo i = true) ∧ wr = w1)
  case atStart => exact ⟨0, by omega, by omega, rfl, (by show Dm.okTo _ 0 = true; simp [Dm.okTo]), rfl⟩
  case round =>
    obtain ⟨i, hi, hgg, rfl, HT, rfl⟩ := hrel
    by_cases hlt : i < 7
    · have hltz : (i : Int) < 7 := by omega
      rcases (show i = 0 ∨ i = 1 ∨ i = 2 ∨ i = 3 ∨ i = 4 ∨ i = 5 ∨ i = 6 by omega) with rfl | rfl | rfl | rfl | rfl | rfl | rfl
      · by_cases h1 : a < -100
        · have HZ : Hid (Dm.ok ⟨a, b, c, d, e, f, g⟩ = false) := by
            have e1 : okE a = false := by unfold okE; rw [decide_eq_false (by omega)]; rfl
            show Dm.ok _ = false
            simp [Dm.ok, e1]
          go_wp2_with fail
          go_ret
          rw [HZ.out]
          exact ⟨rfl, HB.out⟩
        · by_cases h2 : 100 < a
          · have HZ : Hid (Dm.ok ⟨a, b, c, d, e, f, g⟩ = false) := by
              have e1 : okE a = false := by unfold okE; rw [decide_eq_false (show ¬ a ≤ 100 by omega)]; simp
              show Dm.ok _ = false
              simp [Dm.ok, e1]
            go_wp2_with fail
            go_ret
            rw [HZ.out]
            exact ⟨rfl, HB.out⟩
          · have HT2 : Hid ((Dm.mk a b c d e f g).okTo 1 = true) := by
              have e1 : okE a = true := by unfold okE; rw [decide_eq_true (by omega), decide_eq_true (by omega)]; rfl
              have e0 := HT.out
              show Dm.okTo _ _ = true
              simp [Dm.okTo, e1] at e0 ⊢
              try simp [e0]
            go_wp2_with fail
            go_roundg 6
            case measure => omega
            case rel => exact ⟨1, by omega, by omega, by go_num, HT2.out, rfl⟩
      · by_cases h1 : b < -100
        · have HZ : Hid (Dm.ok ⟨a, b, c, d, e, f, g⟩ = false) := by
            have e1 : okE b = false := by unfold okE; rw [decide_eq_false (by omega)]; rfl
            show Dm.ok _ = false
            simp [Dm.ok, e1]
          go_wp2_with fail
          go_ret
          rw [HZ.out]
          exact ⟨rfl, HB.out⟩
        · by_cases h2 : 100 < b
          · have HZ : Hid (Dm.ok ⟨a, b, c, d, e, f, g⟩ = false) := by
              have e1 : okE b = false := by unfold okE; rw [decide_eq_false (show ¬ b ≤ 100 by omega)]; simp
              show Dm.ok _ = false
              simp [Dm.ok, e1]
            go_wp2_with fail
            go_ret
            rw [HZ.out]
            exact ⟨rfl, HB.out⟩
          · have HT2 : Hid ((Dm.mk a b c d e f g).okTo 2 = true) := by
              have e1 : okE b = true := by unfold okE; rw [decide_eq_true (by omega), decide_eq_true (by omega)]; rfl
              have e0 := HT.out
              show Dm.okTo _ _ = true
              simp [Dm.okTo, e1] at e0 ⊢
              try simp [e0]
            go_wp2_with fail
            go_roundg 5
            case measure => omega
            case rel => exact ⟨2, by omega, by omega, by go_num, HT2.out, rfl⟩
      · by_cases h1 : c < -100
        · have HZ : Hid (Dm.ok ⟨a, b, c, d, e, f, g⟩ = false) := by
            have e1 : okE c = false := by unfold okE; rw [decide_eq_false (by omega)]; rfl
            show Dm.ok _ = false
            simp [Dm.ok, e1]
          go_wp2_with fail
          go_ret
          rw [HZ.out]
          exact ⟨rfl, HB.out⟩
        · by_cases h2 : 100 < c
          · have HZ : Hid (Dm.ok ⟨a, b, c, d, e, f, g⟩ = false) := by
              have e1 : okE c = false := by unfold okE; rw [decide_eq_false (show ¬ c ≤ 100 by omega)]; simp
              show Dm.ok _ = false
              simp [Dm.ok, e1]
            go_wp2_with fail
            go_ret
            rw [HZ.out]
            exact ⟨rfl, HB.out⟩
          · have HT2 : Hid ((Dm.mk a b c d e f g).okTo 3 = true) := by
              have e1 : okE c = true := by unfold okE; rw [decide_eq_true (by omega), decide_eq_true (by omega)]; rfl
              have e0 := HT.out
              show Dm.okTo _ _ = true
              simp [Dm.okTo, e1] at e0 ⊢
              try simp [e0]
            go_wp2_with fail
            go_roundg 4
            case measure => omega
            case rel => exact ⟨3, by omega, by omega, by go_num, HT2.out, rfl⟩
      · by_cases h1 : d < -100
        · have HZ : Hid (Dm.ok ⟨a, b, c, d, e, f, g⟩ = false) := by
            have e1 : okE d = false := by unfold okE; rw [decide_eq_false (by omega)]; rfl
            show Dm.ok _ = false
            simp [Dm.ok, e1]
          go_wp2_with fail
          go_ret
          rw [HZ.out]
          exact ⟨rfl, HB.out⟩
        · by_cases h2 : 100 < d
          · have HZ : Hid (Dm.ok ⟨a, b, c, d, e, f, g⟩ = false) := by
              have e1 : okE d = false := by unfold okE; rw [decide_eq_false (show ¬ d ≤ 100 by omega)]; simp
              show Dm.ok _ = false
              simp [Dm.ok, e1]
            go_wp2_with fail
            go_ret
            rw [HZ.out]
            exact ⟨rfl, HB.out⟩
          · have HT2 : Hid ((Dm.mk a b c d e f g).okTo 4 = true) := by
              have e1 : okE d = true := by unfold okE; rw [decide_eq_true (by omega), decide_eq_true (by omega)]; rfl
              have e0 := HT.out
              show Dm.okTo _ _ = true
              simp [Dm.okTo, e1] at e0 ⊢
              try simp [e0]
            go_wp2_with fail
            go_roundg 3
            case measure => omega
            case rel => exact ⟨4, by omega, by omega, by go_num, HT2.out, rfl⟩
      · by_cases h1 : e < -100
        · have HZ : Hid (Dm.ok ⟨a, b, c, d, e, f, g⟩ = false) := by
            have e1 : okE e = false := by unfold okE; rw [decide_eq_false (by omega)]; rfl
            show Dm.ok _ = false
            simp [Dm.ok, e1]
          go_wp2_with fail
          go_ret
          rw [HZ.out]
          exact ⟨rfl, HB.out⟩
        · by_cases h2 : 100 < e
          · have HZ : Hid (Dm.ok ⟨a, b, c, d, e, f, g⟩ = false) := by
              have e1 : okE e = false := by unfold okE; rw [decide_eq_false (show ¬ e ≤ 100 by omega)]; simp
              show Dm.ok _ = false
              simp [Dm.ok, e1]
            go_wp2_with fail
            go_ret
            rw [HZ.out]
            exact ⟨rfl, HB.out⟩
          · have HT2 : Hid ((Dm.mk a b c d e f g).okTo 5 = true) := by
              have e1 : okE e = true := by unfold okE; rw [decide_eq_true (by omega), decide_eq_true (by omega)]; rfl
              have e0 := HT.out
              show Dm.okTo _ _ = true
              simp [Dm.okTo, e1] at e0 ⊢
              try simp [e0]
            go_wp2_with fail
            go_roundg 2
            case measure => omega
            case rel => exact ⟨5, by omega, by omega, by go_num, HT2.out, rfl⟩
      · by_cases h1 : f < -100
        · have HZ : Hid (Dm.ok ⟨a, b, c, d, e, f, g⟩ = false) := by
            have e1 : okE f = false := by unfold okE; rw [decide_eq_false (by omega)]; rfl
            show Dm.ok _ = false
            simp [Dm.ok, e1]
          go_wp2_with fail
          go_ret
          rw [HZ.out]
          exact ⟨rfl, HB.out⟩
        · by_cases h2 : 100 < f
          · have HZ : Hid (Dm.ok ⟨a, b, c, d, e, f, g⟩ = false) := by
              have e1 : okE f = false := by unfold okE; rw [decide_eq_false (show ¬ f ≤ 100 by omega)]; simp
              show Dm.ok _ = false
              simp [Dm.ok, e1]
            go_wp2_with fail
            go_ret
            rw [HZ.out]
            exact ⟨rfl, HB.out⟩
          · have HT2 : Hid ((Dm.mk a b c d e f g).okTo 6 = true) := by
              have e1 : okE f = true := by unfold okE; rw [decide_eq_true (by omega), decide_eq_true (by omega)]; rfl
              have e0 := HT.out
              show Dm.okTo _ _ = true
              simp [Dm.okTo, e1] at e0 ⊢
              try simp [e0]
            go_wp2_with fail
            go_roundg 1
            case measure => omega
            case rel => exact ⟨6, by omega, by omega, by go_num, HT2.out, rfl⟩
      · by_cases h1 : g < -100
        · have HZ : Hid (Dm.ok ⟨a, b, c, d, e, f, g⟩ = false) := by
            have e1 : okE g = false := by unfold okE; rw [decide_eq_false (by omega)]; rfl
            show Dm.ok _ = false
            simp [Dm.ok, e1]
          go_wp2_with fail
          go_ret
          rw [HZ.out]
          exact ⟨rfl, HB.out⟩
        · by_cases h2 : 100 < g
          · have HZ : Hid (Dm.ok ⟨a, b, c, d, e, f, g⟩ = false) := by
              have e1 : okE g = false := by unfold okE; rw [decide_eq_false (show ¬ g ≤ 100 by omega)]; simp
              show Dm.ok _ = false
              simp [Dm.ok, e1]
            go_wp2_with fail
            go_ret
            rw [HZ.out]
            exact ⟨rfl, HB.out⟩
          · have HT2 : Hid ((Dm.mk a b c d e f g).okTo 7 = true) := by
              have e1 : okE g = true := by unfold okE; rw [decide_eq_true (by omega), decide_eq_true (by omega)]; rfl
              have e0 := HT.out
              show Dm.okTo _ _ = true
              simp [Dm.okTo, e1] at e0 ⊢
              try simp [e0]
            go_wp2_with fail
            go_roundg 0
            case measure => omega
            case rel => exact ⟨7, by omega, by omega, by go_num, HT2.out, rfl⟩
    · have hltz : ¬ (i : Int) < 7 := by omega
      have e7 : i = 7 := by omega
      subst e7
      have HZ := Lib.hid (HOK.out.symm.trans HT.out)
      go_wp2_with fail
      go_ret
      rw [HZ.out]
      exact ⟨rfl, HB.out⟩
end Go.Proofs.YtknpigdpepmimaaGreatDoor

namespace Go.Proofs.YtknpigdpepmimaaGreatDoor
open Go.RowKit
/-- a block that holds a dimension -/
def K7 (w : World) (b : Nat) (d : Dm) : Prop := w.heap[b]? = some (.cells #[.int .i64 d.a, .int .i64 d.b, .int .i64 d.c, .int .i64 d.d, .int .i64 d.e, .int .i64 d.f, .int .i64 d.g] 42 (0, 0))
theorem K7.cells {w : World} {b : Nat} {d : Dm} (h : K7 w b d) : (w.cell? ⟨b, 0, none⟩ = some (.int .i64 d.a) ∧ w.cell? ⟨b, 1, none⟩ = some (.int .i64 d.b) ∧ w.cell? ⟨b, 2, none⟩ = some (.int .i64 d.c) ∧ w.cell? ⟨b, 3, none⟩ = some (.int .i64 d.d) ∧ w.cell? ⟨b, 4, none⟩ = some (.int .i64 d.e) ∧ w.cell? ⟨b, 5, none⟩ = some (.int .i64 d.f) ∧ w.cell? ⟨b, 6, none⟩ = some (.int .i64 d.g)) ∧ (∀ i, w.frozen? ⟨b, i, none⟩ = false) ∧ b < w.heap.size := by
  unfold K7 at h
  refine ⟨⟨?_, ?_, ?_, ?_, ?_, ?_, ?_⟩, fun i => ?_, (Array.getElem?_eq_some_iff.1 h).1⟩ <;> simp [World.cell?, World.frozen?, h]
theorem K7.below {w w' : World} {B b : Nat} {d : Dm} (h : K7 w b d) (hb : Below B w w') (hlt : b < B) : K7 w' b d := (hb.block b hlt).trans h
theorem K7.reach {w w' : World} {b : Nat} {d : Dm} (h : K7 w b d) (hb : Below w.heap.size w w') : K7 w' b d := h.below hb h.cells.2.2
theorem K7.new (w : World) (d : Dm) : K7 (w.alloc (.cells #[.int .i64 d.a, .int .i64 d.b, .int .i64 d.c, .int .i64 d.d, .int .i64 d.e, .int .i64 d.f, .int .i64 d.g] 42)) w.heap.size d := heap_alloc_new w _
theorem K7.other {w : World} {b b' o : Nat} {d : Dm} (h : K7 w b d) (u : Value) (hne : b ≠ b') : K7 (w.setCell ⟨b', o, none⟩ u) b d := (Below.heap_setCell w ⟨b', o, none⟩ u b (fun e => hne e)).trans h
theorem K7.set0 {w : World} {b : Nat} {d : Dm} (h : K7 w b d) (u : Int) : K7 (w.setCell ⟨b, 0, none⟩ (.int .i64 u)) b { d with a := u } := by
  unfold K7 at h ⊢
  show (w.heap.modify b _)[b]? = _
  rw [Array.getElem?_modify, if_pos rfl, h]
  rfl
theorem K7.set1 {w : World} {b : Nat} {d : Dm} (h : K7 w b d) (u : Int) : K7 (w.setCell ⟨b, 1, none⟩ (.int .i64 u)) b { d with b := u } := by
  unfold K7 at h ⊢
  show (w.heap.modify b _)[b]? = _
  rw [Array.getElem?_modify, if_pos rfl, h]
  rfl
theorem K7.set2 {w : World} {b : Nat} {d : Dm} (h : K7 w b d) (u : Int) : K7 (w.setCell ⟨b, 2, none⟩ (.int .i64 u)) b { d with c := u } := by
  unfold K7 at h ⊢
  show (w.heap.modify b _)[b]? = _
  rw [Array.getElem?_modify, if_pos rfl, h]
  rfl
theorem K7.set3 {w : World} {b : Nat} {d : Dm} (h : K7 w b d) (u : Int) : K7 (w.setCell ⟨b, 3, none⟩ (.int .i64 u)) b { d with d := u } := by
  unfold K7 at h ⊢
  show (w.heap.modify b _)[b]? = _
  rw [Array.getElem?_modify, if_pos rfl, h]
  rfl
theorem K7.set4 {w : World} {b : Nat} {d : Dm} (h : K7 w b d) (u : Int) : K7 (w.setCell ⟨b, 4, none⟩ (.int .i64 u)) b { d with e := u } := by
  unfold K7 at h ⊢
  show (w.heap.modify b _)[b]? = _
  rw [Array.getElem?_modify, if_pos rfl, h]
  rfl
theorem K7.set5 {w : World} {b : Nat} {d : Dm} (h : K7 w b d) (u : Int) : K7 (w.setCell ⟨b, 5, none⟩ (.int .i64 u)) b { d with f := u } := by
  unfold K7 at h ⊢
  show (w.heap.modify b _)[b]? = _
  rw [Array.getElem?_modify, if_pos rfl, h]
  rfl
theorem K7.set6 {w : World} {b : Nat} {d : Dm} (h : K7 w b d) (u : Int) : K7 (w.setCell ⟨b, 6, none⟩ (.int .i64 u)) b { d with g := u } := by
  unfold K7 at h ⊢
  show (w.heap.modify b _)[b]? = _
  rw [Array.getElem?_modify, if_pos rfl, h]
  rfl
def zD : Dm := ⟨0, 0, 0, 0, 0, 0, 0⟩
/-- seven stores into one block -/
def set7 (w : World) (b : Nat) (d : Dm) : World := ((((((w.setCell ⟨b, 0, none⟩ (.int .i64 d.a)).setCell ⟨b, 1, none⟩ (.int .i64 d.b)).setCell ⟨b, 2, none⟩ (.int .i64 d.c)).setCell ⟨b, 3, none⟩ (.int .i64 d.d)).setCell ⟨b, 4, none⟩ (.int .i64 d.e)).setCell ⟨b, 5, none⟩ (.int .i64 d.f)).setCell ⟨b, 6, none⟩ (.int .i64 d.g)
theorem below7 {B b : Nat} {a w : World} (h : Below B a w) (hb : B ≤ b) (d : Dm) : Below B a (set7 w b d) := ((((((h.setCell (p := ⟨b, 0, none⟩) hb _).setCell (p := ⟨b, 1, none⟩) hb _).setCell (p := ⟨b, 2, none⟩) hb _).setCell (p := ⟨b, 3, none⟩) hb _).setCell (p := ⟨b, 4, none⟩) hb _).setCell (p := ⟨b, 5, none⟩) hb _).setCell (p := ⟨b, 6, none⟩) hb _
end Go.Proofs.YtknpigdpepmimaaGreatDoor
