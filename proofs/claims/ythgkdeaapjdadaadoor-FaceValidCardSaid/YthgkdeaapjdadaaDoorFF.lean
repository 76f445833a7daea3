/- Walk of FaceFont. -/
import Derived.Test.YthgkdeaapjdadaaDoorFI
import Derived.Lib.QuietBelow
import Derived.BigQuiet
import Derived.Deep.QuietTactic
namespace Go.Proofs.YthgkdeaapjdadaaDoor
open Go.RowKit

set_option maxRecDepth 100000 in
theorem fontC_rf (A : Option Addr) (c : Nat) (SA : Option Addr) (sc : Nat) : fontC A c SA sc = rfC (.slice A GF.length c) (.slice SA 14 sc) := by unfold fontC rfC parL; rfl
theorem rfC_all (A : Option Addr) (n c : Nat) (SA : Option Addr) (sc : Nat) : ((rfC (.slice A n c) (.slice SA 14 sc)).all (·.oneCell')) = true := by simp [rfC, parL, Value.oneCell']
theorem rfC_size (gv sv : Value) : (rfC gv sv).size = 22 := rfl
theorem rfC_info (gv sv : Value) : (Tryd.prog.info? 29).map (·.size) = some (rfC gv sv).size := by rw [rfC_size]; kernel_rfl
def Z22 : Array Value := #[.slice none 0 0, .slice none 0 0, .int .i64 0, .int .i64 0, .int .i64 0, .int .i64 0, .int .i64 0, .int .i64 0, .int .i64 0, .int .i64 0, .int .i64 0, .int .i64 0, .int .i64 0, .int .i64 0, .int .i64 0, .int .i64 0, .int .i64 0, .int .i64 0, .int .i64 0, .int .i64 0, .int .i64 0, .int .i64 0]
theorem new_row (w : World) (cs : Array Value) : Below w.heap.size w ((w.alloc (.cells #[.slice none 0 0, .slice none 0 0, .int .i64 0, .int .i64 0, .int .i64 0, .int .i64 0, .int .i64 0, .int .i64 0, .int .i64 0, .int .i64 0, .int .i64 0, .int .i64 0, .int .i64 0, .int .i64 0, .int .i64 0, .int .i64 0, .int .i64 0, .int .i64 0, .int .i64 0, .int .i64 0, .int .i64 0, .int .i64 0] 29)).setRow w.heap.size cs) ∧ ((w.alloc (.cells #[.slice none 0 0, .slice none 0 0, .int .i64 0, .int .i64 0, .int .i64 0, .int .i64 0, .int .i64 0, .int .i64 0, .int .i64 0, .int .i64 0, .int .i64 0, .int .i64 0, .int .i64 0, .int .i64 0, .int .i64 0, .int .i64 0, .int .i64 0, .int .i64 0, .int .i64 0, .int .i64 0, .int .i64 0, .int .i64 0] 29)).setRow w.heap.size cs).heap[w.heap.size]? = some (.cells cs 29) :=
  ⟨below_setRow ((Below.refl _ _).alloc (Nat.le_refl _) _) (Nat.le_refl _) cs, setRow_heap _ _ _ _ _ _ (blk_new w (.cells #[.slice none 0 0, .slice none 0 0, .int .i64 0, .int .i64 0, .int .i64 0, .int .i64 0, .int .i64 0, .int .i64 0, .int .i64 0, .int .i64 0, .int .i64 0, .int .i64 0, .int .i64 0, .int .i64 0, .int .i64 0, .int .i64 0, .int .i64 0, .int .i64 0, .int .i64 0, .int .i64 0, .int .i64 0, .int .i64 0] 29))⟩
theorem rf_range {w : World} {f : Nat} {gv sv : Value} (h : w.heap[f]? = some (.cells (rfC gv sv) 29)) : w.rangeAt f 2 parL := by
  intro j v hv
  rw [cell_blk h]
  have e : (rfC gv sv)[2 + j]? = parL[j]? := by
    unfold rfC
    rw [List.getElem?_toArray, show 2 + j = j + 1 + 1 from by omega, List.getElem?_cons_succ, List.getElem?_cons_succ]
  rw [e]; exact hv
theorem load27 {w : World} {f : Nat} {gv sv : Value} (h : w.heap[f]? = some (.cells (rfC gv sv) 29)) : (Instr.loadAt 27 (.pointer (some ⟨f, 2, none⟩))).run Tryd.prog w = .ok (.agg parL.toArray) w :=
  run_loadAt_mid w f 2 27 parL _ (rf_range h) Tryd.underlying27 rfl (by kernel_rfl)
set_option maxRecDepth 100000 in
theorem neq27 (w : World) : (binOp .neq 27 (.agg parL.toArray) (.agg parL.toArray)).run Tryd.prog w = .ok (.bool false) w := by kernel_rfl

theorem wpList_load_midG {P : Program} {ops : Array Oper} {rest : List Oper} {op : Oper} {a : Act} {w : World} {Q : Exit → Act → World → Prop} (hw : Region.wanted op (yielded ops a.tmps) = true) (ty : TypeId) (x : Operand) (ho : op.op = .load ty x)
    (b o : Nat) (hx : a.eval x = .pointer (some ⟨b, o, none⟩)) (cs : List Value) (d : TypeDesc) (hc : w.rangeAt b o cs)
    (hu : P.underlying ty = some d) (hd : d.isRow = true) (hi : (P.info? ty).map (·.size) = some cs.length)
    (h : wpList P ops Q rest (a.put op.dst (.agg cs.toArray)) w) : wpList P ops Q (op :: rest) a w :=
  wpList_step fun _ hK => by rw [if_pos hw]; exact wp_load_mid ty x ho b o hx cs d hc hu hd hi (hK _ _ h)
set_option maxRecDepth 100000 in
set_option maxHeartbeats 6000000 in
theorem faceFont_walk (w : World) (_ht : Tab w) : Calls Tryd.prog 6 #[] w fun e w' => e = .returned (.bool true) ∧ Below w.heap.size w w' := by
  have hgl := gf_len
  go_enter Tryd.func6, Tryd.ntmps6
  go_wp2_with fail
  refine (font_any _).mono ?_
  rintro e w1 ⟨A, c, SA, sc, l, rfl, ho1, hr1, hb1⟩
  rw [fontC_rf]
  have hs1 := hb1.size
  have hl1 : l.length = 14 := row_len hr1
  have hT1 := hr1.own
  rw [hl1] at hT1
  obtain ⟨g1, c1, eg, _, hg1⟩ := ho1.form (by decide +kernel)
  obtain ⟨t1, sc1, et, _, ht1⟩ := hT1.form (by omega)
  injection eg with eA _ ec
  injection et with eS _ es
  subst eA eS ec es
  have HA : Hid ((rfC (.slice (some ⟨g1, 0, none⟩) GF.length c) (.slice (some ⟨t1, 0, none⟩) 14 sc)).all (·.oneCell') = true) := rfC_all _ _ _ _ _
  have HI := Lib.hid (rfC_info (.slice (some ⟨g1, 0, none⟩) GF.length c) (.slice (some ⟨t1, 0, none⟩) 14 sc))
  have HO : Hid ((#[.slice none 0 0, .slice none 0 0, .int .i64 0, .int .i64 0, .int .i64 0, .int .i64 0, .int .i64 0, .int .i64 0, .int .i64 0, .int .i64 0, .int .i64 0, .int .i64 0, .int .i64 0, .int .i64 0, .int .i64 0, .int .i64 0, .int .i64 0, .int .i64 0, .int .i64 0, .int .i64 0, .int .i64 0, .int .i64 0] : Array Value).size = (rfC (.slice (some ⟨g1, 0, none⟩) GF.length c) (.slice (some ⟨t1, 0, none⟩) 14 sc)).size) := rfl
  have HK1 := Lib.hid (new_row w1 (rfC (.slice (some ⟨g1, 0, none⟩) GF.length c) (.slice (some ⟨t1, 0, none⟩) 14 sc)))
  have HZ := Lib.hid (blk_new w1 (.cells #[.slice none 0 0, .slice none 0 0, .int .i64 0, .int .i64 0, .int .i64 0, .int .i64 0, .int .i64 0, .int .i64 0, .int .i64 0, .int .i64 0, .int .i64 0, .int .i64 0, .int .i64 0, .int .i64 0, .int .i64 0, .int .i64 0, .int .i64 0, .int .i64 0, .int .i64 0, .int .i64 0, .int .i64 0, .int .i64 0] 29))
  have HD1 : Hid ((rfC (.slice (some ⟨g1, 0, none⟩) GF.length c) (.slice (some ⟨t1, 0, none⟩) 14 sc)) = (rfC (.slice (some ⟨g1, 0, none⟩) GF.length c) (.slice (some ⟨t1, 0, none⟩) 14 sc))) := rfl
  obtain ⟨cs1, hcs1⟩ : ∃ cs1, cs1 = rfC (.slice (some ⟨g1, 0, none⟩) GF.length c) (.slice (some ⟨t1, 0, none⟩) 14 sc) := ⟨_, rfl⟩
  rw [← hcs1] at HA HI HO HK1 ⊢
  have HC1 := Lib.hid hcs1
  clear hcs1 HD1
  have HP1 := Lib.hid (And.intro ho1 (And.intro hT1 (And.intro hr1 hb1)))
  clear ho1 hT1 hr1 hb1
  go_wp2_with (first | (with_reducible refine wpList_allocTo rfl (some 1) rfl _ _ (alloc29 _ _ rfl _) ?_) | (with_reducible refine wpList_store_row rfl 29 (.tmp 1) (.tmp 6) rfl w1.heap.size cs1 rfl rfl 29 #[.slice none 0 0, .slice none 0 0, .int .i64 0, .int .i64 0, .int .i64 0, .int .i64 0, .int .i64 0, .int .i64 0, .int .i64 0, .int .i64 0, .int .i64 0, .int .i64 0, .int .i64 0, .int .i64 0, .int .i64 0, .int .i64 0, .int .i64 0, .int .i64 0, .int .i64 0, .int .i64 0, .int .i64 0, .int .i64 0] HZ.out HI.out HO.out HA.out ?_))
  clear HA HI HO HZ
  generalize (w1.alloc (.cells #[.slice none 0 0, .slice none 0 0, .int .i64 0, .int .i64 0, .int .i64 0, .int .i64 0, .int .i64 0, .int .i64 0, .int .i64 0, .int .i64 0, .int .i64 0, .int .i64 0, .int .i64 0, .int .i64 0, .int .i64 0, .int .i64 0, .int .i64 0, .int .i64 0, .int .i64 0, .int .i64 0, .int .i64 0, .int .i64 0] 29)).setRow w1.heap.size cs1 = w2 at *
  refine (rfont_any _).mono ?_
  rintro e w3 ⟨gv, sv, l2, rfl, hg2, hT2, hn2, hbk, hb3⟩
  rw [rgf_eq] at hg2
  obtain ⟨g2, c2, rfl, hgg2, hlg2⟩ := hg2.form (by decide +kernel)
  obtain ⟨t2, sc2, rfl, _, _⟩ := hT2.form (by omega)
  have HA : Hid ((rfC (.slice (some ⟨g2, 0, none⟩) GF.length c2) (.slice (some ⟨t2, 0, none⟩) 14 sc2)).all (·.oneCell') = true) := rfC_all _ _ _ _ _
  have HI := Lib.hid (rfC_info (.slice (some ⟨g2, 0, none⟩) GF.length c2) (.slice (some ⟨t2, 0, none⟩) 14 sc2))
  have HO : Hid ((#[.slice none 0 0, .slice none 0 0, .int .i64 0, .int .i64 0, .int .i64 0, .int .i64 0, .int .i64 0, .int .i64 0, .int .i64 0, .int .i64 0, .int .i64 0, .int .i64 0, .int .i64 0, .int .i64 0, .int .i64 0, .int .i64 0, .int .i64 0, .int .i64 0, .int .i64 0, .int .i64 0, .int .i64 0, .int .i64 0] : Array Value).size = (rfC (.slice (some ⟨g2, 0, none⟩) GF.length c2) (.slice (some ⟨t2, 0, none⟩) 14 sc2)).size) := rfl
  have HK2 := Lib.hid (new_row w3 (rfC (.slice (some ⟨g2, 0, none⟩) GF.length c2) (.slice (some ⟨t2, 0, none⟩) 14 sc2)))
  have HZ := Lib.hid (blk_new w3 (.cells #[.slice none 0 0, .slice none 0 0, .int .i64 0, .int .i64 0, .int .i64 0, .int .i64 0, .int .i64 0, .int .i64 0, .int .i64 0, .int .i64 0, .int .i64 0, .int .i64 0, .int .i64 0, .int .i64 0, .int .i64 0, .int .i64 0, .int .i64 0, .int .i64 0, .int .i64 0, .int .i64 0, .int .i64 0, .int .i64 0] 29))
  obtain ⟨cs2, hcs2⟩ : ∃ cs2, cs2 = rfC (.slice (some ⟨g2, 0, none⟩) GF.length c2) (.slice (some ⟨t2, 0, none⟩) 14 sc2) := ⟨_, rfl⟩
  rw [← hcs2] at HA HI HO HK2 ⊢
  have HC2 := Lib.hid hcs2
  clear hcs2
  have HP2 := Lib.hid (And.intro hg2 (And.intro hT2 (And.intro hn2 (And.intro hbk hb3))))
  clear hg2 hT2 hn2 hbk hb3
  obtain ⟨wb, hwb⟩ : ∃ wb, wb = (w3.alloc (.cells #[.slice none 0 0, .slice none 0 0, .int .i64 0, .int .i64 0, .int .i64 0, .int .i64 0, .int .i64 0, .int .i64 0, .int .i64 0, .int .i64 0, .int .i64 0, .int .i64 0, .int .i64 0, .int .i64 0, .int .i64 0, .int .i64 0, .int .i64 0, .int .i64 0, .int .i64 0, .int .i64 0, .int .i64 0, .int .i64 0] 29)).setRow w3.heap.size cs2 := ⟨_, rfl⟩
  rw [← hwb] at HK2
  have HWB := Lib.hid hwb
  clear hwb
  have HFI : Hid (FI w wb w2.heap.size 0 w1.heap.size w3.heap.size cs1 cs2 g1 c t1 sc g2 c2 t2 sc2 l l2) := by
    obtain ⟨ho1, hT1, hr1, hb1⟩ := HP1.out
    obtain ⟨hg2, hT2, hn2, hbk, hb3⟩ := HP2.out
    obtain ⟨ka, kb⟩ := HK1.out
    obtain ⟨kc, kd⟩ := HK2.out
    have hbw2 : Below w2.heap.size w2 wb := hb3.trans (kc.mono hb3.size)
    have hb12 : Below w1.heap.size w1 wb := ka.trans (hbw2.mono ka.size)
    have hs12 := ka.size
    refine ⟨hb1.trans (hb12.mono hs1), (hbw2.block _ (blk_lt kb)).trans kb, kd, own_below ho1 hb12, own_below hg2 kc, own_below hT1 hb12, own_below hT2 kc, hr1.nm, hn2, fun s hs hc => (hb12.block _ (blk_lt ((hr1.blk s hs).pt hc))).trans ((hr1.blk s hs).pt hc), fun j s hj _ => ?_, fun s hs => ?_, hr1.ge, fun s hs => (hbk s hs).below kc, by omega⟩
    · have := (hr1.blk s (List.mem_of_getElem? hj)).sz
      exact (hb12.block _ (blk_lt this)).trans this
    · have := blk_lt (hr1.blk s hs).sz; omega
  clear HP1 HP2 HK1 HK2
  have hq10 : cs1[0]? = some (.slice (some ⟨g1, 0, none⟩) GF.length c) := by rw [HC1.out]; rfl
  have hq11 : cs1[1]? = some (.slice (some ⟨t1, 0, none⟩) 14 sc) := by rw [HC1.out]; rfl
  have hq20 : cs2[0]? = some (.slice (some ⟨g2, 0, none⟩) GF.length c2) := by rw [HC2.out]; rfl
  have hq21 : cs2[1]? = some (.slice (some ⟨t2, 0, none⟩) 14 sc2) := by rw [HC2.out]; rfl
  have HQ := Lib.hid (And.intro hq10 (And.intro hq11 (And.intro hq20 hq21)))
  have hr1 := rf_range (w := wb) (f := w1.heap.size) (HC1.out ▸ HFI.out.F1)
  have hr2 := rf_range (w := wb) (f := w3.heap.size) (HC2.out ▸ HFI.out.F2)
  have HR1 := Lib.hid hr1
  have HR2 := Lib.hid hr2
  clear hr1 hr2
  have hne := neq27
  have a0 := (cell_blk HFI.out.F1 0).trans hq10
  have a1 := (cell_blk HFI.out.F1 1).trans hq11
  have b0 := (cell_blk HFI.out.F2 0).trans hq20
  have b1 := (cell_blk HFI.out.F2 1).trans hq21
  clear hq10 hq11 hq20 hq21 HC1 HC2
  have HLP : Hid ((Tryd.prog.info? 27).map (·.size) = some parL.length) := by show _ = _; kernel_rfl
  generalize parL = pl at *
  go_wp2_with (first | (with_reducible refine wpList_allocTo rfl (some 2) rfl _ _ (alloc29 _ _ rfl _) ?_) | (with_reducible refine wpList_store_row rfl 29 (.tmp 2) (.tmp 7) rfl w3.heap.size cs2 rfl rfl 29 #[.slice none 0 0, .slice none 0 0, .int .i64 0, .int .i64 0, .int .i64 0, .int .i64 0, .int .i64 0, .int .i64 0, .int .i64 0, .int .i64 0, .int .i64 0, .int .i64 0, .int .i64 0, .int .i64 0, .int .i64 0, .int .i64 0, .int .i64 0, .int .i64 0, .int .i64 0, .int .i64 0, .int .i64 0, .int .i64 0] HZ.out HI.out HO.out HA.out ?_; rw [← HWB.out]) | (with_reducible refine wpList_load_midG rfl 27 (.tmp 25) rfl w1.heap.size 2 rfl pl _ HR1.out Tryd.underlying27 rfl HLP.out ?_) | (with_reducible refine wpList_load_midG rfl 27 (.tmp 27) rfl w3.heap.size 2 rfl pl _ HR2.out Tryd.underlying27 rfl HLP.out ?_))
  clear HA HI HO HZ HWB
  clear a0 a1 b0 b1 hne HR1 HR2 HLP
  generalize w1.heap.size = f1 at *
  generalize w3.heap.size = f2 at *
  generalize w2.heap.size = B at *
  go_loopg [3] 14 (fun gg s3 wr => ∃ i : Nat, i ≤ 14 ∧ 14 - i ≤ gg ∧ s3 = .int .i64 i ∧ Aside (FI w wr B i f1 f2 cs1 cs2 g1 c t1 sc g2 c2 t2 sc2 l l2))
  case atStart => exact ⟨0, by omega, by omega, rfl, HFI.out⟩
  case round =>
    obtain ⟨i, hi, hgg, rfl, HR⟩ := hrel
    clear HFI
    obtain ⟨q10, q11, q20, q21⟩ := HQ.out
    have a1 := (cell_blk HR.out.F1 1).trans q11
    have b1 := (cell_blk HR.out.F2 1).trans q21
    clear q10 q11 q20 q21
    by_cases hil : i < 14
    · have hiz : (i : Int) < 14 := by omega
      obtain ⟨s, hs⟩ : ∃ s, l[i]? = some s := ⟨l[i]'(by rw [HR.out.len1]; exact hil), List.getElem?_eq_getElem _⟩
      obtain ⟨s2, hs2⟩ : ∃ s, l2[i]? = some s := ⟨l2[i]'(by rw [HR.out.len2]; exact hil), List.getElem?_eq_getElem _⟩
      have hn2 : s2.n = s.n := (HR.out.nm2 hs2).trans (HR.out.nm1 hs).symm
      have hm1 := List.mem_of_getElem? hs
      have hm2 := List.mem_of_getElem? hs2
      obtain ⟨m, A1, d1, A2, d2, hpv, hpv2, hm, hP⟩ := parts_pair s.n s.pb s2 hn2 (HR.out.pt s hm1) (HR.out.bk s2 hm2)
      have key1 : ∀ j, j < 4 → wr.cell? ⟨t1, i * 4 + j, none⟩ = s.cells[j]? := fun j hj => by
        rw [HR.out.T1.cellAt (i * 4 + j) (by omega), scells_at l i j s hs hj]
      have key2 : ∀ j, j < 4 → wr.cell? ⟨t2, i * 4 + j, none⟩ = s2.cells[j]? := fun j hj => by
        rw [HR.out.T2.cellAt (i * 4 + j) (by omega), rscells_at l2 i j s2 hs2 hj]
      have p0 : wr.cell? ⟨t1, i * 4, none⟩ = some (.string ⟨s.n.toArray⟩) := key1 0 (by omega)
      have p1 : wr.cell? ⟨t1, i * 4 + 1, none⟩ = some (.slice (some ⟨s.sb, 0, none⟩) 4 4) := key1 1 (by omega)
      have p2 : wr.cell? ⟨t1, i * 4 + 2, none⟩ = some (.slice A1 m d1) := by rw [← hpv]; exact key1 2 (by omega)
      have p3 : wr.cell? ⟨t1, i * 4 + 3, none⟩ = some (.int .i64 (ov s.n)) := key1 3 (by omega)
      have r0 : wr.cell? ⟨t2, i * 4, none⟩ = some (.string ⟨s.n.toArray⟩) := by rw [← hn2]; exact key2 0 (by omega)
      have r1 : wr.cell? ⟨t2, i * 4 + 1, none⟩ = some (.slice (some ⟨s2.sb, 0, none⟩) 4 4) := key2 1 (by omega)
      have r2 : wr.cell? ⟨t2, i * 4 + 2, none⟩ = some (.slice A2 m d2) := by rw [← hpv2]; exact key2 2 (by omega)
      have r3 : wr.cell? ⟨t2, i * 4 + 3, none⟩ = some (.int .i64 (ov s.n)) := by rw [← hn2]; exact key2 3 (by omega)
      have hz1 := HR.out.sz i s hs (Nat.le_refl _)
      have hz2 : wr.heap[s2.sb]? = some (.cells (sizeC s.n) 9) := by rw [← hn2]; exact (HR.out.bk s2 hm2).sz
      have cS := Lib.hid fun d os => Calls.regrown_of (same_any s.n s.sb s2.sb A1 A2 m d1 d2 (ov s.n) (pnm s.n) (pbm s.n) (Sort.grow (redrawn wr d) os) hm
        (sizes_at (((below_regrown wr d os).block _ (blk_lt hz1)).trans hz1)) (sizes_at (((below_regrown wr d os).block _ (blk_lt hz2)).trans hz2))
        (fun h0 => by
          obtain ⟨x1, x2, e1, e2, y1, y2⟩ := hP h0
          exact ⟨x1, x2, e1, e2, (y1.below (below_regrown wr d os)).more (below_regrown wr d os).size, (y2.below (below_regrown wr d os)).more (below_regrown wr d os).size⟩))
      have HSI := Lib.hid (And.intro hs (And.intro hm1 hz1))
      clear hs hs2 hn2 hm1 hm2 hpv hpv2 hP key1 key2 hz1 hz2
      generalize ov s.n = o at *
      obtain ⟨sn, hsn⟩ : ∃ sn : ByteArray, sn = ⟨s.n.toArray⟩ := ⟨_, rfl⟩
      rw [← hsn] at p0 r0 cS
      clear hsn
      go_wp2_with fail
      have k1 := fun d os => cell_regrown a1 d os
      have k2 := fun d os => cell_regrown b1 d os
      have k3 := fun d os => cell_regrown p0 d os
      have k4 := fun d os => cell_regrown p1 d os
      have k5 := fun d os => cell_regrown p2 d os
      have k6 := fun d os => cell_regrown p3 d os
      have k7 := fun d os => cell_regrown r0 d os
      have k8 := fun d os => cell_regrown r1 d os
      have k9 := fun d os => cell_regrown r2 d os
      have k10 := fun d os => cell_regrown r3 d os
      refine wp_region_quiet_below (by kernel_rfl) (by kernel_rfl) ?_
      repeat (first | go_big_quiet_step (exact cS.out _ _) | quiet_step (exact cS.out _ _))
      refine wpQuiet_nil ?_
      intro _ hw'
      obtain ⟨⟨dq, osq⟩, hw''⟩ := hw'
      subst hw''
      obtain ⟨wz, hwz⟩ : ∃ wz : World, wz = Sort.grow (redrawn wr dq) osq := ⟨_, rfl⟩
      have j1 := k1 dq osq
      have j4 := k4 dq osq
      have hb := below_regrown wr dq osq
      rw [← hwz] at j1 j4 hb ⊢
      have HRz := Lib.hid (HR.out.below hb)
      clear hwz hb k1 k2 k3 k4 k5 k6 k7 k8 k9 k10 cS a1 b1 p0 p1 p2 p3 r0 r1 r2 r3 HR
      have hzz := HRz.out.sz i s HSI.out.1 (Nat.le_refl _)
      have hcz : wz.cell? ⟨s.sb, 0, none⟩ = some (.string ⟨s.n.toArray⟩) := cell_blk hzz 0
      have hfz := frz_blk hzz 0
      have HN := Lib.hid (HRz.out.next HSI.out.1)
      clear hzz
      go_wp2_with fail
      go_roundg (14 - (i + 1))
      case measure => omega
      case rel => exact ⟨i + 1, by omega, by omega, by go_num, HN.out⟩
    · have hiz : ¬ (i : Int) < 14 := by omega
      obtain rfl : i = 14 := by omega
      have HFJ : Hid (FJ w wr B 0 f1 f2 cs1 cs2 g1 c g2 c2 t2 sc2 l2) := ⟨HR.out.bel, HR.out.F1, HR.out.F2, HR.out.G1, HR.out.G2, HR.out.T2, HR.out.n2, HR.out.bk, HR.out.gl⟩
      go_wp2_with fail
      clear a1 b1 HR
      have hpos : 0 < GF.length := by decide +kernel
      go_loopg [4] GF.length (fun gg s4 wr => ∃ k : Nat, k ≤ GF.length ∧ GF.length - k ≤ gg ∧ s4 = .int .i64 k ∧ Aside (FJ w wr B k f1 f2 cs1 cs2 g1 c g2 c2 t2 sc2 l2))
      case atStart => exact ⟨0, by omega, by omega, rfl, HFJ.out⟩
      case round =>
        obtain ⟨k, hk, hgg, rfl, HR⟩ := hrel
        clear HFJ
        obtain ⟨q10, q11, q20, q21⟩ := HQ.out
        have a0 := (cell_blk HR.out.F1 0).trans q10
        have b0 := (cell_blk HR.out.F2 0).trans q20
        by_cases hkl : k < GF.length
        · have hkz : (k : Int) < (GF.length : Int) := by omega
          have key1 : ∀ j, j < 6 → wr.cell? ⟨g1, k * 6 + j, none⟩ = GF[k].cells[j]? := fun j hj => by
            rw [HR.out.G1.cellAt (k * 6 + j) (by omega), neg_cell GF k j hkl hj]
          have key2 : ∀ j, j < 6 → wr.cell? ⟨g2, k * 6 + j, none⟩ = GF[k].cells[j]? := fun j hj => by
            rw [HR.out.G2.cellAt (k * 6 + j) (by omega), gcells_at GF k j GF[k] (List.getElem?_eq_getElem hkl) hj]
          obtain ⟨gg0, hgg0⟩ : ∃ x, x = GF[k] := ⟨_, rfl⟩
          rw [← hgg0] at key1 key2
          clear hgg0
          obtain ⟨gn, ga, gb, gc, gd, ge⟩ := gg0
          have u0 : wr.cell? ⟨g1, k * 6, none⟩ = some (.string ⟨gn.toArray⟩) := key1 0 (by omega)
          have u1 : wr.cell? ⟨g1, k * 6 + 1, none⟩ = some (.int .i64 ga) := key1 1 (by omega)
          have u2 : wr.cell? ⟨g1, k * 6 + 2, none⟩ = some (.int .i64 gb) := key1 2 (by omega)
          have u3 : wr.cell? ⟨g1, k * 6 + 3, none⟩ = some (.int .i64 gc) := key1 3 (by omega)
          have u4 : wr.cell? ⟨g1, k * 6 + 4, none⟩ = some (.int .i64 gd) := key1 4 (by omega)
          have u5 : wr.cell? ⟨g1, k * 6 + 5, none⟩ = some (.int .i64 ge) := key1 5 (by omega)
          have v0 : wr.cell? ⟨g2, k * 6, none⟩ = some (.string ⟨gn.toArray⟩) := key2 0 (by omega)
          have v1 : wr.cell? ⟨g2, k * 6 + 1, none⟩ = some (.int .i64 ga) := key2 1 (by omega)
          have v2 : wr.cell? ⟨g2, k * 6 + 2, none⟩ = some (.int .i64 gb) := key2 2 (by omega)
          have v3 : wr.cell? ⟨g2, k * 6 + 3, none⟩ = some (.int .i64 gc) := key2 3 (by omega)
          have v4 : wr.cell? ⟨g2, k * 6 + 4, none⟩ = some (.int .i64 gd) := key2 4 (by omega)
          have v5 : wr.cell? ⟨g2, k * 6 + 5, none⟩ = some (.int .i64 ge) := key2 5 (by omega)
          obtain ⟨gs, hgs⟩ : ∃ gs : ByteArray, gs = ⟨gn.toArray⟩ := ⟨_, rfl⟩
          rw [← hgs] at u0 v0
          clear hgs key1 key2 q11 q20 q21
          go_wp2_with fail
          go_quiet (fail)
          have hb : Below wr.heap.size wr (wr.drewN nq) := ⟨rfl, rfl, rfl, Nat.le_refl _, fun _ _ => rfl⟩
          have HRz := Lib.hid (HR.out.below hb)
          have z0 := (hb.cell (p := ⟨f1, 0, none⟩) (blk_lt HR.out.F1)).trans a0
          have z1 := (hb.cell (p := ⟨g1, k * 6 + 1, none⟩) (HR.out.G1.lt g1 rfl).2).trans u1
          clear hb a0 b0 u0 u1 u2 u3 u4 u5 v0 v1 v2 v3 v4 v5 HR q10
          generalize wr.drewN nq = wz at *
          have hfz := HRz.out.G1.frozenAt (k * 6 + 1)
          have HN := Lib.hid (HRz.out.next hkl)
          go_wp2_with fail
          go_roundg (GF.length - (k + 1))
          case measure => omega
          case rel => exact ⟨k + 1, by omega, by omega, by go_num, HN.out⟩
        · have hkz : ¬ (k : Int) < (GF.length : Int) := by omega
          obtain rfl : k = GF.length := by omega
          clear q10 q11 q20 q21
          go_wp2_with fail
          clear a0 b0
          refine (font_any _).mono ?_
          rintro e w5 ⟨A, c5, SA, sc5, l5, rfl, ho5, hr5, hb5⟩
          rw [fontC_rf]
          have hs5 := hb5.size
          have hl5 : l5.length = 14 := row_len hr5
          have hT5 := hr5.own
          rw [hl5] at hT5
          obtain ⟨g5, c5', eg, _, hg5⟩ := ho5.form hpos
          obtain ⟨t5, sc5', et, _, ht5⟩ := hT5.form (by omega)
          injection eg with eA _ ec
          injection et with eS _ es
          subst eA eS ec es
          have HA : Hid ((rfC (.slice (some ⟨g5, 0, none⟩) GF.length c5) (.slice (some ⟨t5, 0, none⟩) 14 sc5)).all (·.oneCell') = true) := rfC_all _ _ _ _ _
          have HI := Lib.hid (rfC_info (.slice (some ⟨g5, 0, none⟩) GF.length c5) (.slice (some ⟨t5, 0, none⟩) 14 sc5))
          have HO : Hid ((#[.slice none 0 0, .slice none 0 0, .int .i64 0, .int .i64 0, .int .i64 0, .int .i64 0, .int .i64 0, .int .i64 0, .int .i64 0, .int .i64 0, .int .i64 0, .int .i64 0, .int .i64 0, .int .i64 0, .int .i64 0, .int .i64 0, .int .i64 0, .int .i64 0, .int .i64 0, .int .i64 0, .int .i64 0, .int .i64 0] : Array Value).size = (rfC (.slice (some ⟨g5, 0, none⟩) GF.length c5) (.slice (some ⟨t5, 0, none⟩) 14 sc5)).size) := rfl
          have HZ := Lib.hid (blk_new w5 (.cells #[.slice none 0 0, .slice none 0 0, .int .i64 0, .int .i64 0, .int .i64 0, .int .i64 0, .int .i64 0, .int .i64 0, .int .i64 0, .int .i64 0, .int .i64 0, .int .i64 0, .int .i64 0, .int .i64 0, .int .i64 0, .int .i64 0, .int .i64 0, .int .i64 0, .int .i64 0, .int .i64 0, .int .i64 0, .int .i64 0] 29))
          obtain ⟨n1, n2⟩ := new_row w5 (rfC (.slice (some ⟨g5, 0, none⟩) GF.length c5) (.slice (some ⟨t5, 0, none⟩) 14 sc5))
          have q50 : (rfC (.slice (some ⟨g5, 0, none⟩) GF.length c5) (.slice (some ⟨t5, 0, none⟩) 14 sc5))[0]? = some (.slice (some ⟨g5, 0, none⟩) GF.length c5) := rfl
          have q51 : (rfC (.slice (some ⟨g5, 0, none⟩) GF.length c5) (.slice (some ⟨t5, 0, none⟩) 14 sc5))[1]? = some (.slice (some ⟨t5, 0, none⟩) 14 sc5) := rfl
          generalize rfC (.slice (some ⟨g5, 0, none⟩) GF.length c5) (.slice (some ⟨t5, 0, none⟩) 14 sc5) = cs5 at *
          obtain ⟨wq, hwq⟩ : ∃ wq, wq = (w5.alloc (.cells #[.slice none 0 0, .slice none 0 0, .int .i64 0, .int .i64 0, .int .i64 0, .int .i64 0, .int .i64 0, .int .i64 0, .int .i64 0, .int .i64 0, .int .i64 0, .int .i64 0, .int .i64 0, .int .i64 0, .int .i64 0, .int .i64 0, .int .i64 0, .int .i64 0, .int .i64 0, .int .i64 0, .int .i64 0, .int .i64 0] 29)).setRow w5.heap.size cs5 := ⟨_, rfl⟩
          rw [← hwq] at n1 n2
          have HWB := Lib.hid hwq
          clear hwq
          have HRq := Lib.hid ((HR.out.below hb5).below n1)
          obtain ⟨r10, r11, r20, r21⟩ := HQ.out
          have a0 := (cell_blk n2 0).trans q50
          have a1 := (cell_blk n2 1).trans q51
          have b0 := (cell_blk HRq.out.F2 0).trans r20
          have b1 := (cell_blk HRq.out.F2 1).trans r21
          have HG5 := own_below ho5 n1
          have HT5 := own_below hT5 n1
          have key1 : ∀ j, j < 6 → wq.cell? ⟨g5, 0 * 6 + j, none⟩ = GF[0].cells[j]? := fun j hj => by
            rw [HG5.cellAt (0 * 6 + j) (by omega), gcells_at GF 0 j GF[0] (List.getElem?_eq_getElem hpos) hj]
          have key2 : ∀ j, j < 6 → wq.cell? ⟨g2, 0 * 6 + j, none⟩ = GF[0].cells[j]? := fun j hj => by
            rw [HRq.out.G2.cellAt (0 * 6 + j) (by omega), gcells_at GF 0 j GF[0] (List.getElem?_eq_getElem hpos) hj]
          obtain ⟨gg0, hgg0⟩ : ∃ x, x = GF[0] := ⟨_, rfl⟩
          rw [← hgg0] at key1 key2
          clear hgg0
          obtain ⟨gn, ga, gb, gc, gd, ge⟩ := gg0
          have u0 : wq.cell? ⟨g5, 0, none⟩ = some (.string ⟨gn.toArray⟩) := key1 0 (by omega)
          have u1 : wq.cell? ⟨g5, 1, none⟩ = some (.int .i64 ga) := key1 1 (by omega)
          have u2 : wq.cell? ⟨g5, 2, none⟩ = some (.int .i64 gb) := key1 2 (by omega)
          have u3 : wq.cell? ⟨g5, 3, none⟩ = some (.int .i64 gc) := key1 3 (by omega)
          have u4 : wq.cell? ⟨g5, 4, none⟩ = some (.int .i64 gd) := key1 4 (by omega)
          have u5 : wq.cell? ⟨g5, 5, none⟩ = some (.int .i64 ge) := key1 5 (by omega)
          have v0 : wq.cell? ⟨g2, 0, none⟩ = some (.string ⟨gn.toArray⟩) := key2 0 (by omega)
          have v1 : wq.cell? ⟨g2, 1, none⟩ = some (.int .i64 ga) := key2 1 (by omega)
          have v2 : wq.cell? ⟨g2, 2, none⟩ = some (.int .i64 gb) := key2 2 (by omega)
          have v3 : wq.cell? ⟨g2, 3, none⟩ = some (.int .i64 gc) := key2 3 (by omega)
          have v4 : wq.cell? ⟨g2, 4, none⟩ = some (.int .i64 gd) := key2 4 (by omega)
          have v5 : wq.cell? ⟨g2, 5, none⟩ = some (.int .i64 ge) := key2 5 (by omega)
          obtain ⟨gs, hgs⟩ : ∃ gs : ByteArray, gs = ⟨gn.toArray⟩ := ⟨_, rfl⟩
          rw [← hgs] at u0 v0
          have hlen2 : l2.length = 14 := by have := congrArg List.length HRq.out.n2; rwa [List.length_map] at this
          obtain ⟨s, hs⟩ : ∃ s, l5[0]? = some s := ⟨l5[0]'(by omega), List.getElem?_eq_getElem _⟩
          obtain ⟨s2, hs2⟩ : ∃ s, l2[0]? = some s := ⟨l2[0]'(by omega), List.getElem?_eq_getElem _⟩
          have hn2 : s2.n = s.n := by
            have e1 : s.n = largeN.getD 0 [] := by rw [← hr5.nm, List.getD_eq_getElem?_getD, List.getElem?_map, hs]; rfl
            have e2 : s2.n = largeN.getD 0 [] := by rw [← HRq.out.n2, List.getD_eq_getElem?_getD, List.getElem?_map, hs2]; rfl
            rw [e1, e2]
          have hm1 := List.mem_of_getElem? hs
          have hm2 := List.mem_of_getElem? hs2
          have hblk := (hr5.blk s hm1).below n1
          obtain ⟨m, A1, d1, A2, d2, hpv, hpv2, hm, hP⟩ := parts_pair s.n s.pb s2 hn2 hblk.pt (HRq.out.bk s2 hm2)
          have key3 : ∀ j, j < 4 → wq.cell? ⟨t5, 0 * 4 + j, none⟩ = s.cells[j]? := fun j hj => by
            rw [HT5.cellAt (0 * 4 + j) (by omega), scells_at l5 0 j s hs hj]
          have key4 : ∀ j, j < 4 → wq.cell? ⟨t2, 0 * 4 + j, none⟩ = s2.cells[j]? := fun j hj => by
            rw [HRq.out.T2.cellAt (0 * 4 + j) (by omega), rscells_at l2 0 j s2 hs2 hj]
          have p0 : wq.cell? ⟨t5, 0, none⟩ = some (.string ⟨s.n.toArray⟩) := key3 0 (by omega)
          have p1 : wq.cell? ⟨t5, 1, none⟩ = some (.slice (some ⟨s.sb, 0, none⟩) 4 4) := key3 1 (by omega)
          have p2 : wq.cell? ⟨t5, 2, none⟩ = some (.slice A1 m d1) := by rw [← hpv]; exact key3 2 (by omega)
          have p3 : wq.cell? ⟨t5, 3, none⟩ = some (.int .i64 (ov s.n)) := key3 3 (by omega)
          have r0 : wq.cell? ⟨t2, 0, none⟩ = some (.string ⟨s.n.toArray⟩) := by rw [← hn2]; exact key4 0 (by omega)
          have r1 : wq.cell? ⟨t2, 1, none⟩ = some (.slice (some ⟨s2.sb, 0, none⟩) 4 4) := key4 1 (by omega)
          have r2 : wq.cell? ⟨t2, 2, none⟩ = some (.slice A2 m d2) := by rw [← hpv2]; exact key4 2 (by omega)
          have r3 : wq.cell? ⟨t2, 3, none⟩ = some (.int .i64 (ov s.n)) := by rw [← hn2]; exact key4 3 (by omega)
          have hz1 := hblk.sz
          have hz2 : wq.heap[s2.sb]? = some (.cells (sizeC s.n) 9) := by rw [← hn2]; exact (HRq.out.bk s2 hm2).sz
          have cS := Lib.hid fun d os => Calls.regrown_of (same_any s.n s.sb s2.sb A1 A2 m d1 d2 (ov s.n) (pnm s.n) (pbm s.n) (Sort.grow (redrawn wq d) os) hm
            (sizes_at (((below_regrown wq d os).block _ (blk_lt hz1)).trans hz1)) (sizes_at (((below_regrown wq d os).block _ (blk_lt hz2)).trans hz2))
            (fun h0 => by
              obtain ⟨x1, x2, e1, e2, y1, y2⟩ := hP h0
              exact ⟨x1, x2, e1, e2, (y1.below (below_regrown wq d os)).more (below_regrown wq d os).size, (y2.below (below_regrown wq d os)).more (below_regrown wq d os).size⟩))
          generalize ov s.n = o at *
          obtain ⟨sn, hsn⟩ : ∃ sn : ByteArray, sn = ⟨s.n.toArray⟩ := ⟨_, rfl⟩
          rw [← hsn] at p0 r0 cS
          have HBQ := Lib.hid HRq.out.bel
          have hposz : (0 : Int) < (GF.length : Int) := by omega
          clear hsn hgs hs hs2 hn2 hm1 hm2 hblk hpv hpv2 hP key1 key2 key3 key4 hz1 hz2 HRq HR HG5 HT5 hT5 ho5 hr5 hb5 n1 n2 q50 q51 r10 r11 r20 r21
          have k1 := fun d os => cell_regrown a0 d os
          have k2 := fun d os => cell_regrown a1 d os
          have k3 := fun d os => cell_regrown b0 d os
          have k4 := fun d os => cell_regrown b1 d os
          have k5 := fun d os => cell_regrown u0 d os
          have k6 := fun d os => cell_regrown u1 d os
          have k7 := fun d os => cell_regrown u2 d os
          have k8 := fun d os => cell_regrown u3 d os
          have k9 := fun d os => cell_regrown u4 d os
          have k10 := fun d os => cell_regrown u5 d os
          have k11 := fun d os => cell_regrown v0 d os
          have k12 := fun d os => cell_regrown v1 d os
          have k13 := fun d os => cell_regrown v2 d os
          have k14 := fun d os => cell_regrown v3 d os
          have k15 := fun d os => cell_regrown v4 d os
          have k16 := fun d os => cell_regrown v5 d os
          have k17 := fun d os => cell_regrown p0 d os
          have k18 := fun d os => cell_regrown p1 d os
          have k19 := fun d os => cell_regrown p2 d os
          have k20 := fun d os => cell_regrown p3 d os
          have k21 := fun d os => cell_regrown r0 d os
          have k22 := fun d os => cell_regrown r1 d os
          have k23 := fun d os => cell_regrown r2 d os
          have k24 := fun d os => cell_regrown r3 d os
          go_wp2_with (first | (with_reducible refine wpList_allocTo rfl (some 5) rfl _ _ (alloc29 _ _ rfl _) ?_) | (with_reducible refine wpList_store_row rfl 29 (.tmp 5) (.tmp 80) rfl w5.heap.size cs5 rfl rfl 29 #[.slice none 0 0, .slice none 0 0, .int .i64 0, .int .i64 0, .int .i64 0, .int .i64 0, .int .i64 0, .int .i64 0, .int .i64 0, .int .i64 0, .int .i64 0, .int .i64 0, .int .i64 0, .int .i64 0, .int .i64 0, .int .i64 0, .int .i64 0, .int .i64 0, .int .i64 0, .int .i64 0, .int .i64 0, .int .i64 0] HZ.out HI.out HO.out HA.out ?_; rw [← HWB.out]))
          clear HA HI HO HZ HWB
          refine wp_region_quiet_below (by kernel_rfl) (by kernel_rfl) ?_
          repeat (first | go_big_quiet_step (exact cS.out _ _) | quiet_step (exact cS.out _ _))
          refine wpQuiet_nil ?_
          intro _ hw'
          obtain ⟨⟨dq, osq⟩, hw''⟩ := hw'
          subst hw''
          have hb := below_regrown wq dq osq
          clear cS
          go_wp2_with fail
          go_ret
          exact ⟨rfl, HBQ.out.trans (hb.mono HBQ.out.size)⟩
end Go.Proofs.YthgkdeaapjdadaaDoor

