/- Contract of unit.Rescale 22 for whole factors. -/
import Derived.Test.YtknpigdpepmimaaGreatDoorRsc
import Derived.Test.YtknpigdpepmimaaGreatDoorM24
import Derived.Test.YtknpigdpepmimaaGreatDoorM21
import Derived.Deep.CutBlock
import Derived.Deep.DeepCutAuto
import Derived.Deep.RegionHeldLaw
namespace Go.Proofs.YtknpigdpepmimaaGreatDoor
open Go.RowKit Go.Maps

def Pf.cells (p : Pf) : Array Value := #[.int .i64 (p.a : Nat), .int .i64 1, .int .i64 (p.b : Nat), .int .i64 1, .int .i64 (p.c : Nat), .int .i64 1, .int .i64 (p.d : Nat), .int .i64 1, .int .i64 (p.e : Nat), .int .i64 1, .int .i64 (p.f : Nat), .int .i64 1, .int .i64 (p.g : Nat), .int .i64 1]
def K14 (w : World) (b : Nat) (p : Pf) : Prop := w.heap[b]? = some (.cells #[.int .i64 (p.a : Nat), .int .i64 1, .int .i64 (p.b : Nat), .int .i64 1, .int .i64 (p.c : Nat), .int .i64 1, .int .i64 (p.d : Nat), .int .i64 1, .int .i64 (p.e : Nat), .int .i64 1, .int .i64 (p.f : Nat), .int .i64 1, .int .i64 (p.g : Nat), .int .i64 1] 58 (0, 0))
theorem K14.cells {w : World} {b : Nat} {p : Pf} (h : K14 w b p) : w.cell? ⟨b, 0, none⟩ = some (.int .i64 (p.a : Nat)) ∧ w.cell? ⟨b, 1, none⟩ = some (.int .i64 1) ∧ w.cell? ⟨b, 2, none⟩ = some (.int .i64 (p.b : Nat)) ∧ w.cell? ⟨b, 3, none⟩ = some (.int .i64 1) ∧ w.cell? ⟨b, 4, none⟩ = some (.int .i64 (p.c : Nat)) ∧ w.cell? ⟨b, 5, none⟩ = some (.int .i64 1) ∧ w.cell? ⟨b, 6, none⟩ = some (.int .i64 (p.d : Nat)) ∧ w.cell? ⟨b, 7, none⟩ = some (.int .i64 1) ∧ w.cell? ⟨b, 8, none⟩ = some (.int .i64 (p.e : Nat)) ∧ w.cell? ⟨b, 9, none⟩ = some (.int .i64 1) ∧ w.cell? ⟨b, 10, none⟩ = some (.int .i64 (p.f : Nat)) ∧ w.cell? ⟨b, 11, none⟩ = some (.int .i64 1) ∧ w.cell? ⟨b, 12, none⟩ = some (.int .i64 (p.g : Nat)) ∧ w.cell? ⟨b, 13, none⟩ = some (.int .i64 1) := by
  unfold K14 at h
  refine ⟨?_, ?_, ?_, ?_, ?_, ?_, ?_, ?_, ?_, ?_, ?_, ?_, ?_, ?_⟩ <;> simp [World.cell?, h]
theorem K2.set0 {w : World} {b : Nat} {x y : Int} (h : K2 w b x y) (u : Int) : K2 (w.setCell ⟨b, 0, none⟩ (.int .i64 u)) b u y := by
  unfold K2 at h ⊢
  show (w.heap.modify b _)[b]? = _
  rw [Array.getElem?_modify, if_pos rfl, h]
  rfl
theorem K2.set1 {w : World} {b : Nat} {x y : Int} (h : K2 w b x y) (u : Int) : K2 (w.setCell ⟨b, 1, none⟩ (.int .i64 u)) b x u := by
  unfold K2 at h ⊢
  show (w.heap.modify b _)[b]? = _
  rw [Array.getElem?_modify, if_pos rfl, h]
  rfl
theorem dim_bnd {x : Dm} (h : x.ok = true) (i : Nat) : -100 ≤ x.at i ∧ x.at i ≤ 100 := by
  unfold Dm.ok okE at h
  simp only [Bool.and_eq_true, decide_eq_true_eq] at h
  rcases i with _ | _ | _ | _ | _ | _ | i
  · show -100 ≤ x.a ∧ x.a ≤ 100; omega
  · show -100 ≤ x.b ∧ x.b ≤ 100; omega
  · show -100 ≤ x.c ∧ x.c ≤ 100; omega
  · show -100 ≤ x.d ∧ x.d ≤ 100; omega
  · show -100 ≤ x.e ∧ x.e ≤ 100; omega
  · show -100 ≤ x.f ∧ x.f ≤ 100; omega
  · show -100 ≤ x.g ∧ x.g ≤ 100; omega
theorem dim_cell {w : World} {b : Nat} {v : V} (h : K9 w b v) (i : Nat) (hi : i < 7) : w.cell? ⟨b, 2 + i, none⟩ = some (.int .i64 (v.dim.at i)) := by
  obtain ⟨⟨⟨_, _⟩, h2, h3, h4, h5, h6, h7, h8⟩, _, _⟩ := h.cells
  rcases (show i = 0 ∨ i = 1 ∨ i = 2 ∨ i = 3 ∨ i = 4 ∨ i = 5 ∨ i = 6 by omega) with rfl | rfl | rfl | rfl | rfl | rfl | rfl
  · exact h2
  · exact h3
  · exact h4
  · exact h5
  · exact h6
  · exact h7
  · exact h8
set_option maxRecDepth 100000 in
theorem index58 (p : Pf) (i : Nat) (hi : i < 7) (w : World) : (Instr.index 58 (.agg #[.int .i64 (p.a : Nat), .int .i64 1, .int .i64 (p.b : Nat), .int .i64 1, .int .i64 (p.c : Nat), .int .i64 1, .int .i64 (p.d : Nat), .int .i64 1, .int .i64 (p.e : Nat), .int .i64 1, .int .i64 (p.f : Nat), .int .i64 1, .int .i64 (p.g : Nat), .int .i64 1]) (.int .i64 (i : Int))).run Tryz.prog w = .ok (.agg #[.int .i64 (p.at i : Nat), .int .i64 1]) w := by
  obtain ⟨a, b, c, d, e, f, g, _, _, _, _, _, _, _⟩ := p
  rcases (show i = 0 ∨ i = 1 ∨ i = 2 ∨ i = 3 ∨ i = 4 ∨ i = 5 ∨ i = 6 by omega) with rfl | rfl | rfl | rfl | rfl | rfl | rfl <;> kernel_rfl
set_option maxRecDepth 100000 in
set_option maxHeartbeats 4000000 in
theorem resc_any (v : V) (p : Pf) (w : World) (hf : v.fit) : Calls Tryz.prog 22 #[.agg v.cells, .agg p.cells] w fun r w' => ∃ (v' : V) (e : Int), r = .returned (.tuple #[.agg v'.cells, .int .i64 e]) ∧ (e = 0 → Scl p.F v v') ∧ Below w.heap.size w w' := by
  have HB := Lib.hid (b3 w (.cells v.cells 44) (.cells #[.int .i64 (p.a : Nat), .int .i64 1, .int .i64 (p.b : Nat), .int .i64 1, .int .i64 (p.c : Nat), .int .i64 1, .int .i64 (p.d : Nat), .int .i64 1, .int .i64 (p.e : Nat), .int .i64 1, .int .i64 (p.f : Nat), .int .i64 1, .int .i64 (p.g : Nat), .int .i64 1] 58) (.cells #[.int .i64 0, .int .i64 0, .int .i64 0, .int .i64 0, .int .i64 0, .int .i64 0, .int .i64 0, .int .i64 0, .int .i64 0] 44))
  have hk1 : K9 (((w.alloc (.cells #[.int .i64 v.num, .int .i64 v.den, .int .i64 v.dim.a, .int .i64 v.dim.b, .int .i64 v.dim.c, .int .i64 v.dim.d, .int .i64 v.dim.e, .int .i64 v.dim.f, .int .i64 v.dim.g] 44)).alloc (.cells #[.int .i64 (p.a : Nat), .int .i64 1, .int .i64 (p.b : Nat), .int .i64 1, .int .i64 (p.c : Nat), .int .i64 1, .int .i64 (p.d : Nat), .int .i64 1, .int .i64 (p.e : Nat), .int .i64 1, .int .i64 (p.f : Nat), .int .i64 1, .int .i64 (p.g : Nat), .int .i64 1] 58)).alloc (.cells #[.int .i64 0, .int .i64 0, .int .i64 0, .int .i64 0, .int .i64 0, .int .i64 0, .int .i64 0, .int .i64 0, .int .i64 0] 44)) w.heap.size v := ((K9.new w v).reach (b1 _ (.cells #[.int .i64 (p.a : Nat), .int .i64 1, .int .i64 (p.b : Nat), .int .i64 1, .int .i64 (p.c : Nat), .int .i64 1, .int .i64 (p.d : Nat), .int .i64 1, .int .i64 (p.e : Nat), .int .i64 1, .int .i64 (p.f : Nat), .int .i64 1, .int .i64 (p.g : Nat), .int .i64 1] 58))).reach (b1 _ (.cells #[.int .i64 0, .int .i64 0, .int .i64 0, .int .i64 0, .int .i64 0, .int .i64 0, .int .i64 0, .int .i64 0, .int .i64 0] 44))
  have hk2 : K14 (((w.alloc (.cells #[.int .i64 v.num, .int .i64 v.den, .int .i64 v.dim.a, .int .i64 v.dim.b, .int .i64 v.dim.c, .int .i64 v.dim.d, .int .i64 v.dim.e, .int .i64 v.dim.f, .int .i64 v.dim.g] 44)).alloc (.cells #[.int .i64 (p.a : Nat), .int .i64 1, .int .i64 (p.b : Nat), .int .i64 1, .int .i64 (p.c : Nat), .int .i64 1, .int .i64 (p.d : Nat), .int .i64 1, .int .i64 (p.e : Nat), .int .i64 1, .int .i64 (p.f : Nat), .int .i64 1, .int .i64 (p.g : Nat), .int .i64 1] 58)).alloc (.cells #[.int .i64 0, .int .i64 0, .int .i64 0, .int .i64 0, .int .i64 0, .int .i64 0, .int .i64 0, .int .i64 0, .int .i64 0] 44)) (w.heap.size + 1) p := by
    have h : ((((w.alloc (.cells #[.int .i64 v.num, .int .i64 v.den, .int .i64 v.dim.a, .int .i64 v.dim.b, .int .i64 v.dim.c, .int .i64 v.dim.d, .int .i64 v.dim.e, .int .i64 v.dim.f, .int .i64 v.dim.g] 44)).alloc (.cells #[.int .i64 (p.a : Nat), .int .i64 1, .int .i64 (p.b : Nat), .int .i64 1, .int .i64 (p.c : Nat), .int .i64 1, .int .i64 (p.d : Nat), .int .i64 1, .int .i64 (p.e : Nat), .int .i64 1, .int .i64 (p.f : Nat), .int .i64 1, .int .i64 (p.g : Nat), .int .i64 1] 58)).alloc (.cells #[.int .i64 0, .int .i64 0, .int .i64 0, .int .i64 0, .int .i64 0, .int .i64 0, .int .i64 0, .int .i64 0, .int .i64 0] 44)).heap[(w.alloc (.cells #[.int .i64 v.num, .int .i64 v.den, .int .i64 v.dim.a, .int .i64 v.dim.b, .int .i64 v.dim.c, .int .i64 v.dim.d, .int .i64 v.dim.e, .int .i64 v.dim.f, .int .i64 v.dim.g] 44)).heap.size]? = _) := ((b1 _ (.cells #[.int .i64 0, .int .i64 0, .int .i64 0, .int .i64 0, .int .i64 0, .int .i64 0, .int .i64 0, .int .i64 0, .int .i64 0] 44)).block _ (by simp)).trans (heap_alloc_new (w.alloc (.cells #[.int .i64 v.num, .int .i64 v.den, .int .i64 v.dim.a, .int .i64 v.dim.b, .int .i64 v.dim.c, .int .i64 v.dim.d, .int .i64 v.dim.e, .int .i64 v.dim.f, .int .i64 v.dim.g] 44)) (.cells #[.int .i64 (p.a : Nat), .int .i64 1, .int .i64 (p.b : Nat), .int .i64 1, .int .i64 (p.c : Nat), .int .i64 1, .int .i64 (p.d : Nat), .int .i64 1, .int .i64 (p.e : Nat), .int .i64 1, .int .i64 (p.f : Nat), .int .i64 1, .int .i64 (p.g : Nat), .int .i64 1] 58))
    rw [World.size_alloc] at h
    exact h
  have hk3 : K9 (((w.alloc (.cells #[.int .i64 v.num, .int .i64 v.den, .int .i64 v.dim.a, .int .i64 v.dim.b, .int .i64 v.dim.c, .int .i64 v.dim.d, .int .i64 v.dim.e, .int .i64 v.dim.f, .int .i64 v.dim.g] 44)).alloc (.cells #[.int .i64 (p.a : Nat), .int .i64 1, .int .i64 (p.b : Nat), .int .i64 1, .int .i64 (p.c : Nat), .int .i64 1, .int .i64 (p.d : Nat), .int .i64 1, .int .i64 (p.e : Nat), .int .i64 1, .int .i64 (p.f : Nat), .int .i64 1, .int .i64 (p.g : Nat), .int .i64 1] 58)).alloc (.cells #[.int .i64 0, .int .i64 0, .int .i64 0, .int .i64 0, .int .i64 0, .int .i64 0, .int .i64 0, .int .i64 0, .int .i64 0] 44)) (w.heap.size + 1 + 1) zV := by
    have := K9.new ((w.alloc (.cells #[.int .i64 v.num, .int .i64 v.den, .int .i64 v.dim.a, .int .i64 v.dim.b, .int .i64 v.dim.c, .int .i64 v.dim.d, .int .i64 v.dim.e, .int .i64 v.dim.f, .int .i64 v.dim.g] 44)).alloc (.cells #[.int .i64 (p.a : Nat), .int .i64 1, .int .i64 (p.b : Nat), .int .i64 1, .int .i64 (p.c : Nat), .int .i64 1, .int .i64 (p.d : Nat), .int .i64 1, .int .i64 (p.e : Nat), .int .i64 1, .int .i64 (p.f : Nat), .int .i64 1, .int .i64 (p.g : Nat), .int .i64 1] 58)) zV
    rw [World.size_alloc, World.size_alloc] at this
    exact this
  have HS1 : Hid ((((w.alloc (.cells #[.int .i64 v.num, .int .i64 v.den, .int .i64 v.dim.a, .int .i64 v.dim.b, .int .i64 v.dim.c, .int .i64 v.dim.d, .int .i64 v.dim.e, .int .i64 v.dim.f, .int .i64 v.dim.g] 44)).alloc (.cells #[.int .i64 (p.a : Nat), .int .i64 1, .int .i64 (p.b : Nat), .int .i64 1, .int .i64 (p.c : Nat), .int .i64 1, .int .i64 (p.d : Nat), .int .i64 1, .int .i64 (p.e : Nat), .int .i64 1, .int .i64 (p.f : Nat), .int .i64 1, .int .i64 (p.g : Nat), .int .i64 1] 58)).alloc (.cells #[.int .i64 0, .int .i64 0, .int .i64 0, .int .i64 0, .int .i64 0, .int .i64 0, .int .i64 0, .int .i64 0, .int .i64 0] 44)).heap.size = w.heap.size + 3) := by show _ = _; simp
  have HK1 := Lib.hid hk1
  have HK2 := Lib.hid hk2
  have HK3 := Lib.hid hk3
  have HVV := Lib.hid fun w => validvalue_any v w hf.1 hf.2.1 hf.2.2.1 hf.2.2.2
  have HF := Lib.hid hf
  clear hk1 hk2 hk3 hf
  unfold V.cells at HB HVV
  unfold V.cells Pf.cells
  go_enter Tryz.func22, Tryz.ntmps22
  go_upto_region 1 with (fail)
  generalize ((w.alloc (.cells #[.int .i64 v.num, .int .i64 v.den, .int .i64 v.dim.a, .int .i64 v.dim.b, .int .i64 v.dim.c, .int .i64 v.dim.d, .int .i64 v.dim.e, .int .i64 v.dim.f, .int .i64 v.dim.g] 44)).alloc (.cells #[.int .i64 (p.a : Nat), .int .i64 1, .int .i64 (p.b : Nat), .int .i64 1, .int .i64 (p.c : Nat), .int .i64 1, .int .i64 (p.d : Nat), .int .i64 1, .int .i64 (p.e : Nat), .int .i64 1, .int .i64 (p.f : Nat), .int .i64 1, .int .i64 (p.g : Nat), .int .i64 1] 58)).alloc (.cells #[.int .i64 0, .int .i64 0, .int .i64 0, .int .i64 0, .int .i64 0, .int .i64 0, .int .i64 0, .int .i64 0, .int .i64 0] 44) = w1 at *
  obtain ⟨⟨⟨k0, k1⟩, k2, k3, k4, k5, k6, k7, k8⟩, _, _⟩ := HK1.out.cells
  go_wp2_with fail
  refine (HVV.out w1).mono ?_
  rintro r w2 ⟨rfl, hb2⟩
  have HB2 := Lib.hid (bl_tr HB.out hb2)
  have HX := Lib.hid fun (wz : World) (h : Below w2.heap.size w2 wz) => And.intro (HK1.out.reach (bl_tr hb2 h)) (And.intro (show K14 wz (w.heap.size + 1) p from ((bl_tr hb2 h).block _ (by have := HS1.out; omega)).trans HK2.out) (HK3.out.reach (bl_tr hb2 h)))
  have HZ2 : Hid (w.heap.size + 3 ≤ w2.heap.size) := by have := HS1.out; have := hb2.size; show _ ≤ _; omega
  clear hb2 k0 k1 k2 k3 k4 k5 k6 k7 k8 HK1 HK2 HK3
  obtain ⟨_, _, hz⟩ := HX.out w2 (Below.refl _ _)
  obtain ⟨⟨⟨z0, z1⟩, z2, z3, z4, z5, z6, z7, z8⟩, zf, _⟩ := hz.cells
  cases hok : (Q.validQ v.num v.den && v.dim.ok) with
  | false =>
    go_wp2_with fail
    refine bodyPost_ret (v := .tuple #[.agg zV.cells, .int .i64 1]) (by simp [results, Tryz.results22, go_sem, V.cells, zV, zD, z0, z1, z2, z3, z4, z5, z6, z7, z8]) rfl ⟨zV, 1, rfl, (fun h => by cases h), ?_⟩
    exact below9 HB2.out (b := w.heap.size + 1 + 1) (by omega) zV
  | true =>
    have HOK : Hid v.ok := by show v.ok; unfold V.ok; rw [Bool.and_eq_true] at hok; exact hok
    clear hok z0 z1 z2 z3 z4 z5 z6 z7 z8 zf hz
    obtain ⟨_, hp, _⟩ := HX.out w2 (Below.refl _ _)
    obtain ⟨q0, q1, q2, q3, q4, q5, q6, q7, q8, q9, q10, q11, q12, q13⟩ := hp.cells
    go_upto_region 4 with (fail)
    clear q0 q1 q2 q3 q4 q5 q6 q7 q8 q9 q10 q11 q12 q13 hp
    go_wp2_with fail
    go_loopg [7, 20] 7 (fun gg s7 s20 wr => ∃ i : Nat, i ≤ 7 ∧ 7 - i ≤ gg ∧ s20 = .int .i64 i ∧ Aside (Below w2.heap.size w2 wr))
    case atStart => exact ⟨0, by omega, by omega, rfl, Below.refl _ _⟩
    case round =>
      obtain ⟨i, hi, hgg, rfl, HBr⟩ := hrel
      by_cases hlt : i < 7
      · have hltz : (i : Int) < 7 := by omega
        have hix := fun w => index58 p i hlt w
        have hp1 := p.at_bnd i
        have HPV := Lib.hid (whole_valid hp1)
        have HVL := Lib.hid fun w => Q.valid_any (p.at i : Nat) 1 w (by omega) (by omega) (by omega) (by omega)
        rw [HPV.out] at HVL
        have hnp : ¬ ((p.at i : Nat) : Int) ≤ 0 := by omega
        generalize p.at i = a at *
        go_upto_region 6 with (fail)
        have HBa := Lib.hid (bl_tr HBr.out (b1 wr (.cells #[.int .i64 (a : Int), .int .i64 1] 57)))
        have hka := K2.new wr (a : Int) 1
        clear hix
        generalize wr.heap.size = ma at *
        generalize wr.alloc (.cells #[.int .i64 (a : Int), .int .i64 1] 57) = wa at *
        have HKa := Lib.hid hka
        clear hka
        obtain ⟨⟨y0, y1⟩, _, _⟩ := HKa.out.cells
        go_wp2_with fail
        refine (HVL.out wa).mono ?_
        rintro r wb ⟨rfl, hbb⟩
        have HBb := Lib.hid (bl_tr HBa.out hbb)
        have HKb := Lib.hid (HKa.out.reach hbb)
        clear y0 y1 hbb
        obtain ⟨⟨y0, y1⟩, _, _⟩ := HKb.out.cells
        go_wp2_with fail
        go_roundg (7 - (i + 1))
        case measure => omega
        case rel => exact ⟨i + 1, by omega, by omega, by go_num, HBb.out⟩
      · have hltz : ¬ (i : Int) < 7 := by omega
        clear hlt hgg hi
        have HBx := Lib.hid (bl_tr HBr.out (b1 wr (.cells #[.int .i64 1, .int .i64 1] 57)))
        have HKx : Hid (K2 (wr.alloc (.cells #[.int .i64 1, .int .i64 1] 57)) wr.heap.size 1 1) := K2.new wr 1 1
        have HSx : Hid (w2.heap.size ≤ wr.heap.size) := HBr.out.size
        go_upto_region 10 with (fail)
        generalize wr.heap.size = m8 at *
        generalize wr.alloc (.cells #[.int .i64 1, .int .i64 1] 57) = w3 at *
        clear hltz
        obtain ⟨hv3, hp3, _⟩ := HX.out w3 HBx.out
        obtain ⟨q0, q1, q2, q3, q4, q5, q6, q7, q8, q9, q10, q11, q12, q13⟩ := hp3.cells
        go_upto_region 11 with (fail)
        clear q0 q1 q2 q3 q4 q5 q6 q7 q8 q9 q10 q11 q12 q13 hp3 hv3
        go_wp2_with fail
        go_loopg [9, 10, 11, 12, 35] 7 (fun gg s9 s10 s11 s12 s35 wr => ∃ (i : Nat) (n d : Int), i ≤ 7 ∧ 7 - i ≤ gg ∧ s35 = .int .i64 i ∧ Aside (Q.validQ n d = true ∧ (n : Rat) / (d : Rat) = p.upTo v.dim i) ∧ Aside (K2 wr m8 n d) ∧ Aside (Below w2.heap.size w2 wr))
        case atStart => exact ⟨0, 1, 1, by omega, by omega, rfl, ⟨(wh_ok (n := 1) (by omega)).1, by show _ = (1 : Rat); grind⟩, HKx.out, HBx.out⟩
        case round =>
          obtain ⟨i, n, d, hi, hgg, rfl, HND, HK8, HBr⟩ := hrel
          by_cases hlt : i < 7
          · have hltz : (i : Int) < 7 := by omega
            have hix := fun w => index58 p i hlt w
            have HP1 := Lib.hid (p.at_bnd i)
            have HUP : Hid (p.upTo v.dim (i + 1) = p.upTo v.dim i * (((p.at i : Nat) : Int) : Rat) ^ v.dim.at i) := rfl
            have HDC := Lib.hid fun (wz : World) (h : Below w2.heap.size w2 wz) => dim_cell (HX.out wz h).1 i hlt
            have HDB := Lib.hid (dim_bnd HOK.out.2 i)
            generalize p.at i = a at *
            generalize v.dim.at i = ee at *
            go_upto_region 13 with (fail)
            have HBa := Lib.hid (bl_tr HBr.out (b1 wr (.cells #[.int .i64 (a : Int), .int .i64 1] 57)))
            have hka := K2.new wr (a : Int) 1
            have HK8a := Lib.hid (HK8.out.reach (b1 wr (.cells #[.int .i64 (a : Int), .int .i64 1] 57)))
            have HM8 : Hid (w2.heap.size ≤ m8) := HSx.out
            clear hix HK8
            generalize wr.heap.size = ma at *
            generalize wr.alloc (.cells #[.int .i64 (a : Int), .int .i64 1] 57) = wa at *
            have HKa := Lib.hid hka
            clear hka
            have HPW := Lib.hid fun wz => Q.pow_any (a : Int) 1 ee wz (by have := HP1.out; omega) (by have := HP1.out; omega) (by omega) (by omega) (by have := HDB.out; omega) (by have := HDB.out; omega)
            have HSTEP := Lib.hid fun (h1 : (Q.powQ a 1 ee).err = 0) (h2 : (Q.mulQ n d (Q.powQ a 1 ee).num (Q.powQ a 1 ee).den).err = 0) => rs_step HND.out.1 HP1.out HND.out.2 h1 h2
            have HPB : Hid ((Q.powQ a 1 ee).err = 0 → Q.validQ (Q.powQ a 1 ee).num (Q.powQ a 1 ee).den = true) := fun h => pow_valid h
            rw [← HUP.out] at HSTEP
            unfold Q.Res.val at HPW
            generalize Q.powQ (a : Int) 1 ee = q at *
            obtain ⟨qn, qd, qe⟩ := q
            dsimp only at HPW HSTEP HPB
            have HKP := Lib.hid fun (wz : World) (h : Below wa.heap.size wa wz) => And.intro (HKa.out.reach h).cells.1.1 (And.intro (HKa.out.reach h).cells.1.2 (HDC.out wz (bl_tr HBa.out h)))
            have HDR : Hid (Below wa.heap.size wa wa.drew) := bl_dr (Below.refl _ _)
            have HDA : Hid (Below wa.heap.size wa (wa.drew.alloc (.cells #[.int .i64 0, .int .i64 0] 57))) := bl_al (bl_dr (Below.refl _ _)) _
            go_cut [11, 12] (fun s11 s12 wx => ∃ m11 : Nat, s11 = .pointer (some ⟨m11, 0, none⟩) ∧ s12 = .int .i64 qe ∧ Aside (K2 wx m11 qn qd) ∧ Aside (Below wa.heap.size wa wx))
            case first =>
              go_region_held_law (fun w' => w'.cell? ⟨ma, 0, none⟩ = some (.int .i64 (a : Int)) ∧ w'.cell? ⟨ma, 1, none⟩ = some (.int .i64 1) ∧ w'.cell? ⟨w.heap.size, 2 + i, none⟩ = some (.int .i64 ee)) ((refine HKP.out _ ?_; repeat (first | with_reducible exact Below.refl _ _ | with_reducible apply bl_dr | with_reducible apply bl_al | with_reducible refine bl_st ?_ hk2 _ | with_reducible refine bl_tr ?_ (by assumption)))) ((go_at_call 44; (with_reducible refine (HPW.out _).mono ?_); rintro r wz ⟨rfl, hbz⟩; first | (have hk : K2 wz wa.heap.size 0 0 := K2.reach (K2.new wa.drew 0 0) hbz; obtain ⟨⟨y0, y1⟩, yf, yl⟩ := hk.cells; have hk2 : wa.heap.size ≤ wa.heap.size := Nat.le_refl _) | (have hk2 : wa.heap.size ≤ wz.heap.size := hbz.size)))
              · go_wp2_with fail
                go_meet
                case rel => exact ⟨wz.heap.size, rfl, rfl, K2.new wz qn qd, bl_al (bl_tr HDR.out hbz) _⟩
              · go_wp2_with fail
                go_meet
                case rel => exact ⟨wa.heap.size, rfl, rfl, (hk.set0 qn).set1 qd, bl_st (bl_st (bl_tr HDA.out hbz) hk2 _) hk2 _⟩
            case rest =>
              obtain ⟨m11, rfl, rfl, HK11, HBac⟩ := hcut
              rename World => wc
              have HBc := Lib.hid (bl_tr HBa.out HBac.out)
              have HK8c := Lib.hid (HK8a.out.reach HBac.out)
              clear HKP HDR HDA HK8a
              by_cases hqe : qe = 0
              · have hqb : (qe != 0) = false := by simp [hqe]
                have HPV := Lib.hid (HPB.out hqe)
                have HST := Lib.hid (HSTEP.out hqe)
                have HQB := Lib.hid ((Q.valid_iff _ _).1 HPV.out)
                have HNB := Lib.hid ((Q.valid_iff _ _).1 HND.out.1)
                have HMU := Lib.hid fun wz => Q.mul_any n d qn qd wz (by have := HNB.out; omega) (by have := HNB.out; omega) (by have := HNB.out; omega) (by have := HNB.out; omega) (by have := HQB.out; omega) (by have := HQB.out; omega) (by have := HQB.out; omega) (by have := HQB.out; omega)
                unfold Q.Res.val at HMU
                generalize Q.mulQ n d qn qd = r2 at *
                obtain ⟨rn, rd, re⟩ := r2
                dsimp only at HMU HST
                clear hqe HSTEP HPB
                obtain ⟨⟨x0, x1⟩, _, _⟩ := HK8c.out.cells
                obtain ⟨⟨y0, y1⟩, _, _⟩ := HK11.out.cells
                go_wp2_with fail
                refine (HMU.out wc).mono ?_
                rintro r wd ⟨rfl, hbd⟩
                have HBd := Lib.hid (bl_tr HBc.out hbd)
                have hk8 := HK8c.out.reach hbd
                have HK8d := Lib.hid hk8
                have HK8e := Lib.hid ((hk8.set0 rn).set1 rd)
                have HBe : Hid (Below w2.heap.size w2 ((wd.setCell ⟨m8, 0, none⟩ (.int .i64 rn)).setCell ⟨m8, 1, none⟩ (.int .i64 rd))) := bl_st (bl_st HBd.out HM8.out _) HM8.out _
                clear hbd hk8 x0 x1 y0 y1
                obtain ⟨⟨x0, x1⟩, xf, _⟩ := HK8d.out.cells
                go_upto_region 17 with (fail)
                generalize (wd.setCell ⟨m8, 0, none⟩ (.int .i64 rn)).setCell ⟨m8, 1, none⟩ (.int .i64 rd) = we at *
                clear x0 x1 xf
                by_cases hre : re = 0
                · have hrb : (re != 0) = false := by simp [hre]
                  have HS2 := Lib.hid (HST.out hre)
                  clear hre
                  go_wp2_with fail
                  go_roundg (7 - (i + 1))
                  case measure => omega
                  case rel => exact ⟨i + 1, rn, rd, by omega, by omega, by go_num, HS2.out, HK8e.out, HBe.out⟩
                · have hrb : (re != 0) = true := by simpa using hre
                  clear hre HST
                  obtain ⟨_, _, hz⟩ := HX.out we HBe.out
                  obtain ⟨⟨⟨z0, z1⟩, z2, z3, z4, z5, z6, z7, z8⟩, zf, _⟩ := hz.cells
                  have HBf := Lib.hid (bl_tr HB2.out HBe.out)
                  go_wp2_with fail
                  refine bodyPost_ret (v := .tuple #[.agg zV.cells, .int .i64 2]) (by simp [results, Tryz.results22, go_sem, V.cells, zV, zD, z0, z1, z2, z3, z4, z5, z6, z7, z8]) rfl ⟨zV, 2, rfl, (fun h => by cases h), ?_⟩
                  exact below9 HBf.out (b := w.heap.size + 1 + 1) (by omega) zV
              · have hqb : (qe != 0) = true := by simpa using hqe
                clear hqe HSTEP HPB
                obtain ⟨_, _, hz⟩ := HX.out wc HBc.out
                obtain ⟨⟨⟨z0, z1⟩, z2, z3, z4, z5, z6, z7, z8⟩, zf, _⟩ := hz.cells
                have HBf := Lib.hid (bl_tr HB2.out HBc.out)
                go_wp2_with fail
                refine bodyPost_ret (v := .tuple #[.agg zV.cells, .int .i64 2]) (by simp [results, Tryz.results22, go_sem, V.cells, zV, zD, z0, z1, z2, z3, z4, z5, z6, z7, z8]) rfl ⟨zV, 2, rfl, (fun h => by cases h), ?_⟩
                exact below9 HBf.out (b := w.heap.size + 1 + 1) (by omega) zV
          · have hltz : ¬ (i : Int) < 7 := by omega
            obtain rfl : i = 7 := by omega
            have HFV := Lib.hid HOK.out.bnd
            have HNB := Lib.hid ((Q.valid_iff _ _).1 HND.out.1)
            have HDV := Lib.hid fun wz => Q.div_any v.num v.den n d wz HFV.out.1 HFV.out.2.1 HFV.out.2.2.1 HFV.out.2.2.2 (by have := HNB.out; omega) (by have := HNB.out; omega) (by have := HNB.out; omega) (by have := HNB.out; omega)
            have HFIN := Lib.hid fun (h : (Q.divQ v.num v.den n d).err = 0) => rs_fin HOK.out HND.out.1 HND.out.2 h
            unfold Q.Res.val at HDV
            generalize Q.divQ v.num v.den n d = r2 at *
            obtain ⟨rn, rd, re⟩ := r2
            dsimp only at HDV HFIN
            obtain ⟨hv3, _, _⟩ := HX.out wr HBr.out
            obtain ⟨⟨⟨k0, k1⟩, k2, k3, k4, k5, k6, k7, k8⟩, _, _⟩ := hv3.cells
            obtain ⟨⟨x0, x1⟩, _, _⟩ := HK8.out.cells
            clear hv3
            go_wp2_with fail
            refine (HDV.out wr).mono ?_
            rintro r wd ⟨rfl, hbd⟩
            have HBd := Lib.hid (bl_tr HBr.out (bl_tr hbd (b1 wd (.cells #[.int .i64 rn, .int .i64 rd] 57))))
            have hkd := K2.new wd rn rd
            clear hbd k0 k1 k2 k3 k4 k5 k6 k7 k8 x0 x1
            go_upto_region 21 with (fail)
            generalize wd.heap.size = md at *
            generalize wd.alloc (.cells #[.int .i64 rn, .int .i64 rd] 57) = we at *
            have HKd := Lib.hid hkd
            clear hkd
            by_cases hre : re = 0
            · have hrb : (re != 0) = false := by simp [hre]
              have HFI := Lib.hid (HFIN.out hre)
              clear hre HFIN
              obtain ⟨hv3, _, hz⟩ := HX.out we HBd.out
              obtain ⟨⟨⟨k0, k1⟩, k2, k3, k4, k5, k6, k7, k8⟩, _, _⟩ := hv3.cells
              obtain ⟨⟨⟨z0, z1⟩, z2, z3, z4, z5, z6, z7, z8⟩, zf, _⟩ := hz.cells
              obtain ⟨⟨x0, x1⟩, _, _⟩ := HKd.out.cells
              have HBf := Lib.hid (bl_tr HB2.out HBd.out)
              go_wp2_with fail
              refine bodyPost_ret (v := .tuple #[.agg (V.cells ⟨rn, rd, v.dim⟩), .int .i64 0]) (by simp [results, Tryz.results22, go_sem, V.cells, z0, z1, z2, z3, z4, z5, z6, z7, z8]) rfl ⟨⟨rn, rd, v.dim⟩, 0, rfl, (fun _ => HFI.out), ?_⟩
              exact below9 HBf.out (b := w.heap.size + 1 + 1) (by omega) ⟨rn, rd, v.dim⟩
            · have hrb : (re != 0) = true := by simpa using hre
              clear hre HFIN
              obtain ⟨_, _, hz⟩ := HX.out we HBd.out
              obtain ⟨⟨⟨z0, z1⟩, z2, z3, z4, z5, z6, z7, z8⟩, zf, _⟩ := hz.cells
              have HBf := Lib.hid (bl_tr HB2.out HBd.out)
              go_wp2_with fail
              refine bodyPost_ret (v := .tuple #[.agg zV.cells, .int .i64 2]) (by simp [results, Tryz.results22, go_sem, V.cells, zV, zD, z0, z1, z2, z3, z4, z5, z6, z7, z8]) rfl ⟨zV, 2, rfl, (fun h => by cases h), ?_⟩
              exact below9 HBf.out (b := w.heap.size + 1 + 1) (by omega) zV
end Go.Proofs.YtknpigdpepmimaaGreatDoor
