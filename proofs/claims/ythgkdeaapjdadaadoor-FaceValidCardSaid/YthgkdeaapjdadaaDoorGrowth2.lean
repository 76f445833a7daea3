/- Walk of FaceGrowth. -/
import Derived.Test.YthgkdeaapjdadaaDoorGrowth
import Derived.Great.Walk
namespace Go.Proofs.YthgkdeaapjdadaaDoor
open Go.RowKit

set_option maxRecDepth 100000 in
theorem alloc29 (ρ : Operand → Value) (o : Oper) (ho : o.op = .alloc 29) (w : World) : (execOp ρ o).run Tryd.prog w = .ok (.value (.pointer (some ⟨w.heap.size, 0, none⟩))) (w.alloc (.cells #[.slice none 0 0, .slice none 0 0, .int .i64 0, .int .i64 0, .int .i64 0, .int .i64 0, .int .i64 0, .int .i64 0, .int .i64 0, .int .i64 0, .int .i64 0, .int .i64 0, .int .i64 0, .int .i64 0, .int .i64 0, .int .i64 0, .int .i64 0, .int .i64 0, .int .i64 0, .int .i64 0, .int .i64 0, .int .i64 0] 29)) := by
  unfold execOp
  rw [ho]
  kernel_rfl
def sizeN (n : List UInt8) : Nat → List UInt8
  | 0 => n
  | k + 1 => n ++ [UInt8.ofNat (49 + k)]
theorem sizeC_at (n : List UInt8) (k : Nat) (h : k < 4) : (sizeC n)[k]? = some (.string ⟨(sizeN n k).toArray⟩) := by
  have hm : k = 0 ∨ k = 1 ∨ k = 2 ∨ k = 3 := by omega
  rcases hm with rfl | rfl | rfl | rfl
  · rfl
  · rw [show sizeN n 1 = n ++ [49] from rfl, ← cat]; rfl
  · rw [show sizeN n 2 = n ++ [50] from rfl, ← cat]; rfl
  · rw [show sizeN n 3 = n ++ [51] from rfl, ← cat]; rfl
def growOk (g : Option Gl) (k : Nat) : Bool := match g with
  | some g => decide (0 ≤ g.h) && decide (g.h ≤ 5000) && decide (0 ≤ g.d) && decide (g.d ≤ 5000) && decide (g.h + g.d = 1000 + 600 * (k : Int))
  | none => false
theorem growth_all : (List.range 14).all (fun i => (List.range 4).all fun k => growOk (findG GF (sizeN (largeN.getD i []) k)) k) = true := by decide +kernel
theorem growth (i k : Nat) (h : i < largeN.length) (hk : k < 4) : (findG GF (sizeN largeN[i] k)).isSome = true ∧ 0 ≤ (findV GF (sizeN largeN[i] k)).h ∧ (findV GF (sizeN largeN[i] k)).h ≤ 5000 ∧ 0 ≤ (findV GF (sizeN largeN[i] k)).d ∧ (findV GF (sizeN largeN[i] k)).d ≤ 5000 ∧ (findV GF (sizeN largeN[i] k)).h + (findV GF (sizeN largeN[i] k)).d = 1000 + 600 * (k : Int) := by
  have := List.all_eq_true.1 (List.all_eq_true.1 growth_all i (List.mem_range.2 (show i < 14 from h))) k (List.mem_range.2 hk)
  rw [getD_at _ i h] at this
  unfold findV
  cases hg : findG GF (sizeN largeN[i] k) with
  | none => rw [hg] at this; cases this
  | some g =>
    rw [hg] at this
    unfold growOk at this
    simp only [Bool.and_eq_true, decide_eq_true_eq] at this
    exact ⟨rfl, this.1.1.1.1, this.1.1.1.2, this.1.1.2, this.1.2, this.2⟩
theorem row_at {w : World} {base : Nat} {SA : Option Addr} {sc : Nat} {l : List St} (h : Row w base (.slice SA 14 sc) l largeN) : ∃ g, SA = some ⟨g, 0, none⟩ ∧ ∀ i (hi : i < largeN.length), ∃ sb pb, w.cell? ⟨g, i * 4, none⟩ = some (.string ⟨largeN[i].toArray⟩) ∧ w.cell? ⟨g, i * 4 + 1, none⟩ = some (.slice (some ⟨sb, 0, none⟩) 4 4) ∧ w.cell? ⟨g, i * 4 + 2, none⟩ = some (pv largeN[i] pb) ∧ w.cell? ⟨g, i * 4 + 3, none⟩ = some (.int .i64 (ov largeN[i])) ∧ StBlk w ⟨largeN[i], sb, pb⟩ := by
  have hlen : l.length = 14 := row_len h
  have hown := h.own
  rw [hlen] at hown
  obtain ⟨g, hg⟩ : ∃ g, SA = some ⟨g, 0, none⟩ := by
    rcases hown.2 with ⟨_, h0⟩ | ⟨g, cap, _, h', _⟩
    · cases h0
    · cases h'; exact ⟨g, rfl⟩
  subst hg
  refine ⟨g, rfl, fun i hi => ?_⟩
  have hil : i < l.length := by have h14 : i < 14 := hi; omega
  have hn : l[i].n = largeN[i] := by
    have e : (l.map (·.n))[i]'(by rw [List.length_map]; exact hil) = largeN[i] := by simp only [h.nm]
    simpa using e
  have key : ∀ j, j < 4 → w.cell? ⟨g, i * 4 + j, none⟩ = l[i].cells[j]? := fun j hj => by
    rw [hown.cellAt (i * 4 + j) (by have h14 : i < 14 := hi; omega), scells_at l i j l[i] (List.getElem?_eq_getElem hil) hj]
  refine ⟨l[i].sb, l[i].pb, ?_, ?_, ?_, ?_, ?_⟩
  · have := key 0 (by omega); rw [← hn]; exact this
  · exact key 1 (by omega)
  · have := key 2 (by omega); rw [← hn]; exact this
  · have := key 3 (by omega); rw [← hn]; exact this
  · have hb := h.blk l[i] (List.getElem_mem _)
    rw [← hn]; exact hb

set_option maxRecDepth 100000 in
set_option maxHeartbeats 8000000 in
theorem growth_walk (w : World) (_ht : Tab w) :
    Calls Tryd.prog 7 #[] w fun e w' => e = .returned (.bool true) ∧ Below w.heap.size w w' := by
  go_enter Tryd.func7, Tryd.ntmps7
  go_wp2_with fail
  refine (font_any _).mono ?_
  rintro e w1 ⟨A, c, SA, sc, l, rfl, _, hr, hb1⟩
  have hs1 := hb1.size
  obtain ⟨cs, hcs⟩ : ∃ cs, cs = fontC A c SA sc := ⟨_, rfl⟩
  rw [← hcs]
  have HS : Hid (cs.size = 22) := by show cs.size = 22; rw [hcs]; rfl
  have HA : Hid (cs.all (·.oneCell') = true) := by show cs.all (·.oneCell') = true; rw [hcs]; exact fontC_all A c SA sc
  have HC1 : Hid (cs[1]? = some (.slice SA 14 sc)) := by show cs[1]? = _; rw [hcs]; rfl
  have hbx : Below w1.heap.size w1 (w1.alloc (.cells #[.slice none 0 0, .slice none 0 0, .int .i64 0, .int .i64 0, .int .i64 0, .int .i64 0, .int .i64 0, .int .i64 0, .int .i64 0, .int .i64 0, .int .i64 0, .int .i64 0, .int .i64 0, .int .i64 0, .int .i64 0, .int .i64 0, .int .i64 0, .int .i64 0, .int .i64 0, .int .i64 0, .int .i64 0, .int .i64 0] 29)) := (Below.refl _ _).alloc (Nat.le_refl _) _
  have hz := blk_new w1 (.cells #[.slice none 0 0, .slice none 0 0, .int .i64 0, .int .i64 0, .int .i64 0, .int .i64 0, .int .i64 0, .int .i64 0, .int .i64 0, .int .i64 0, .int .i64 0, .int .i64 0, .int .i64 0, .int .i64 0, .int .i64 0, .int .i64 0, .int .i64 0, .int .i64 0, .int .i64 0, .int .i64 0, .int .i64 0, .int .i64 0] 29)
  have HR := Lib.hid ((hr.below hbx).setRow hz cs)
  have HB2 := Lib.hid (below_setRow (hb1.trans (hbx.mono hs1)) hs1 cs)
  have HF : Hid (((w1.alloc (.cells #[.slice none 0 0, .slice none 0 0, .int .i64 0, .int .i64 0, .int .i64 0, .int .i64 0, .int .i64 0, .int .i64 0, .int .i64 0, .int .i64 0, .int .i64 0, .int .i64 0, .int .i64 0, .int .i64 0, .int .i64 0, .int .i64 0, .int .i64 0, .int .i64 0, .int .i64 0, .int .i64 0, .int .i64 0, .int .i64 0] 29)).setRow w1.heap.size cs).cell? ⟨w1.heap.size, 1, none⟩ = some (.slice SA 14 sc)) := (cell_blk (setRow_heap _ _ _ _ _ _ hz) 1).trans HC1.out
  have HZ := Lib.hid hz
  have HI : Hid ((Tryd.prog.info? 29).map (·.size) = some cs.size) := by show _ = some cs.size; rw [HS.out]; kernel_rfl
  have HO : Hid ((#[.slice none 0 0, .slice none 0 0, .int .i64 0, .int .i64 0, .int .i64 0, .int .i64 0, .int .i64 0, .int .i64 0, .int .i64 0, .int .i64 0, .int .i64 0, .int .i64 0, .int .i64 0, .int .i64 0, .int .i64 0, .int .i64 0, .int .i64 0, .int .i64 0, .int .i64 0, .int .i64 0, .int .i64 0, .int .i64 0] : Array Value).size = cs.size) := by show _ = cs.size; rw [HS.out]; rfl
  clear hb1 hr hbx hz hcs
  go_wp2_with (first | (with_reducible refine wpList_allocTo rfl (some 1) rfl _ _ (alloc29 _ _ rfl _) ?_) | (with_reducible refine wpList_store_row rfl 29 (.tmp 1) (.tmp 10) rfl w1.heap.size cs rfl rfl 29 #[.slice none 0 0, .slice none 0 0, .int .i64 0, .int .i64 0, .int .i64 0, .int .i64 0, .int .i64 0, .int .i64 0, .int .i64 0, .int .i64 0, .int .i64 0, .int .i64 0, .int .i64 0, .int .i64 0, .int .i64 0, .int .i64 0, .int .i64 0, .int .i64 0, .int .i64 0, .int .i64 0, .int .i64 0, .int .i64 0] HZ.out HI.out HO.out HA.out ?_))
  obtain ⟨wb, hwb⟩ : ∃ wb, wb = (w1.alloc (.cells #[.slice none 0 0, .slice none 0 0, .int .i64 0, .int .i64 0, .int .i64 0, .int .i64 0, .int .i64 0, .int .i64 0, .int .i64 0, .int .i64 0, .int .i64 0, .int .i64 0, .int .i64 0, .int .i64 0, .int .i64 0, .int .i64 0, .int .i64 0, .int .i64 0, .int .i64 0, .int .i64 0, .int .i64 0, .int .i64 0] 29)).setRow w1.heap.size cs := ⟨_, rfl⟩
  have hwbs : wb.heap.size = w1.heap.size + 1 := by rw [hwb]; simp
  rw [← hwb] at HR HB2 HF ⊢
  clear hwb HZ HI HO HA HS HC1
  obtain ⟨g, rfl, hrow⟩ := row_at HR.out
  have HROW := Lib.hid hrow
  clear hrow
  go_loopg [2, 3, 4, 5, 6, 7, 8, 9] 14 (fun gg s2 _ _ _ _ _ _ _ wr => ∃ i : Nat, i ≤ 14 ∧ 14 - i ≤ gg ∧ s2 = .int .i64 i ∧ Aside (Below wb.heap.size wb wr))
  case atStart => exact ⟨0, by omega, by omega, rfl, Below.refl _ _⟩
  case round =>
    obtain ⟨i, hi, hgg, rfl, HBr⟩ := hrel
    have hf1 : wr.cell? ⟨w1.heap.size, 1, none⟩ = some (.slice (some ⟨g, 0, none⟩) 14 sc) := (HBr.out.cell (p := ⟨w1.heap.size, 1, none⟩) (by show w1.heap.size < wb.heap.size; omega)).trans HF.out
    have hsr := HBr.out.size
    by_cases hil : i < 14
    · have hiz : (i : Int) < 14 := by omega
      have hil' : i < largeN.length := hil
      obtain ⟨sb, pb, _, c1, _, _, hblk⟩ := HROW.out i hil'
      have c1r : wr.cell? ⟨g, i * 4 + 1, none⟩ = some (.slice (some ⟨sb, 0, none⟩) 4 4) := (HBr.out.cell (p := ⟨g, i * 4 + 1, none⟩) (World.block_lt_of_cell? wb _ c1)).trans c1
      have HSZ : Hid (wr.heap[sb]? = some (.cells (sizeC largeN[i]) 9)) := (HBr.out.block _ (blk_lt hblk.sz)).trans hblk.sz
      have HGR : Hid (∀ k, k < 4 → (findG GF (sizeN largeN[i] k)).isSome = true ∧ 0 ≤ (findV GF (sizeN largeN[i] k)).h ∧ (findV GF (sizeN largeN[i] k)).h ≤ 5000 ∧ 0 ≤ (findV GF (sizeN largeN[i] k)).d ∧ (findV GF (sizeN largeN[i] k)).d ≤ 5000 ∧ (findV GF (sizeN largeN[i] k)).h + (findV GF (sizeN largeN[i] k)).d = 1000 + 600 * (k : Int)) := fun k hk => growth i k hil' hk
      obtain ⟨n, hn⟩ : ∃ n, n = largeN[i] := ⟨_, rfl⟩
      rw [← hn] at HSZ HGR
      clear c1 hblk hn
      go_wp2_with fail
      obtain ⟨wo, hwo⟩ : ∃ wo : World, wo = wr := ⟨_, rfl⟩
      rw [← hwo] at HBr HSZ hsr ⊢
      rw [← hwo] at c1r hf1
      clear hwo
      clear c1r hf1
      go_loopg [4, 5, 6, 7] 4 (fun gg s4 s5 _ _ wr => ∃ k : Nat, k ≤ 4 ∧ 4 - k ≤ gg ∧ s5 = .int .i64 k ∧ s4 = .int .i64 (400 + 600 * (k : Int)) ∧ Aside (Below wo.heap.size wo wr))
      case atStart => exact ⟨0, by omega, by omega, rfl, rfl, Below.refl _ _⟩
      case round =>
        obtain ⟨k, hk, hg4, rfl, rfl, HBq⟩ := hrel
        have hsq := HBq.out.size
        by_cases hkl : k < 4
        · have hkz : (k : Int) < 4 := by omega
          have hsz2 : wr.heap[sb]? = some (.cells (sizeC n) 9) := (HBq.out.block _ (blk_lt HSZ.out)).trans HSZ.out
          have hc := (cell_blk hsz2 k).trans (sizeC_at n k hkl)
          obtain ⟨g1, g2, g3, g4, g5, g6⟩ := HGR.out k hkl
          have HG1 := Lib.hid g1
          clear hsz2 g1
          obtain ⟨nm, hnm⟩ : ∃ nm, nm = sizeN n k := ⟨_, rfl⟩
          rw [← hnm] at hc g2 g3 g4 g5 g6 HG1
          clear hnm
          go_wp2_with fail
          refine (glyph_any nm _).mono ?_
          rw [HG1.out]
          rintro e w3 ⟨rfl, hb3⟩
          have HB3 := Lib.hid (HBq.out.trans (hb3.mono hsq))
          have hs3 := HB3.out.size
          clear hb3 hc
          generalize findV GF nm = gl at *
          obtain ⟨gn, ga, gh, gd, gi, gt⟩ := gl
          simp only at g2 g3 g4 g5 g6
          simp only [Gl.val]
          have HG6 := Lib.hid g6
          have hge : ¬ gh + gd < 400 + 600 * (k : Int) + 600 := by omega
          clear g6
          go_wp2_with fail
          go_roundg (4 - (k + 1))
          case measure => omega
          case rel => exact ⟨k + 1, by omega, by omega, by go_num, (by rw [HG6.out]; go_num), HB3.out.alloc hs3 _⟩
        · have hkz : ¬ (k : Int) < 4 := by omega
          obtain rfl : k = 4 := by omega
          have hsz2 : wr.heap[sb]? = some (.cells (sizeC n) 9) := (HBq.out.block _ (blk_lt HSZ.out)).trans HSZ.out
          have hc := (cell_blk hsz2 0).trans (sizeC_at n 0 (by omega))
          obtain ⟨g1, g2, g3, g4, g5, g6⟩ := HGR.out 0 (by omega)
          have HG1 := Lib.hid g1
          clear hsz2 g1
          obtain ⟨nm, hnm⟩ : ∃ nm, nm = sizeN n 0 := ⟨_, rfl⟩
          rw [← hnm] at hc g2 g3 g4 g5 g6 HG1
          clear hnm
          go_wp2_with fail
          refine (glyph_any nm _).mono ?_
          rw [HG1.out]
          rintro e w3 ⟨rfl, hb3⟩
          have HB3 := Lib.hid (HBq.out.trans (hb3.mono hsq))
          have hs3 := HB3.out.size
          clear hb3 hc
          generalize findV GF nm = gl at *
          obtain ⟨gn, ga, gh, gd, gi, gt⟩ := gl
          simp only at g2 g3 g4 g5 g6
          simp only [Gl.val]
          have hge : (gh + gd != 1000) = false := by simp; omega
          clear g6
          go_wp2_with fail
          go_roundg (14 - (i + 1))
          case measure => omega
          case rel => exact ⟨i + 1, by omega, by omega, by go_num, HBr.out.trans ((HB3.out.alloc hs3 _).mono hsr)⟩
    · have hiz : ¬ (i : Int) < 14 := by omega
      obtain rfl : i = 14 := by omega
      go_wp2_with fail
      go_ret
      exact ⟨rfl, HB2.out.trans (HBr.out.mono (by have := HB2.out.size; omega))⟩
end Go.Proofs.YthgkdeaapjdadaaDoor
