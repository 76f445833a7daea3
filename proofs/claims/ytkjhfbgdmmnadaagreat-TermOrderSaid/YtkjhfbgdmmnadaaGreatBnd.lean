/- Contracts of slices.Backward over names 92, its closure 103, binder 76. -/
import Derived.RangeFuncBox
import Derived.RangeFuncLeaves
import Derived.Shelf.Abstract
import Derived.WalkKit
import Derived.OwnWalkIn
import Derived.TacticsInMore
import Derived.LoopNIn
import Derived.LoopIn
import Derived.Test.YtkjhfbgdmmnadaaGreatRLf
import Derived.Test.YtkjhfbgdmmnadaaGreatPlE
namespace Go.Proofs.YtkjhfbgdmmnadaaGreat
open Go.RowKit Go.Shelf
attribute [local go_sem] Oper.semAt_some

theorem binI_no (x : W8) : ∀ (z : List W8) (i : Nat) (acc : Int), (∀ y ∈ z, y ≠ x) → binI z x i acc = acc
  | [], _, _, _ => by rw [binI]
  | y :: z, i, acc, h => by
    rw [binI, if_neg (h y List.mem_cons_self)]
    exact binI_no x z _ _ (fun u hu => h u (List.mem_cons_of_mem _ hu))
theorem binI_at (x : W8) (c : List W8) (hc : ∀ y ∈ c, y ≠ x) : ∀ (a : List W8) (i : Nat) (acc : Int), binI (a ++ x :: c) x i acc = ((i + a.length : Nat) : Int)
  | [], i, acc => by
    rw [List.nil_append, binI, if_pos rfl, binI_no x c _ _ hc]; simp
  | y :: a, i, acc => by
    rw [List.cons_append, binI, binI_at x c hc a]
    simp; omega
theorem binL_no {z : List W8} {x : W8} (h : ∀ y ∈ z, y ≠ x) : binL z x = -1 := binI_no x z _ _ h
theorem binL_at {z : List W8} {x : W8} {q : Nat} (hq : q < z.length) (h : z[q] = x) (hn : ∀ j (hj : j < z.length), q < j → z[j] ≠ x) : binL z x = (q : Int) := by
  have e : z = z.take q ++ x :: z.drop (q + 1) := by
    rw [← h, ← List.drop_eq_getElem_cons hq, List.take_append_drop]
  have hc : ∀ y ∈ z.drop (q + 1), y ≠ x := fun y hy => by
    obtain ⟨j, hj, rfl⟩ := List.mem_iff_getElem.1 hy
    rw [List.getElem_drop]
    rw [List.length_drop] at hj
    exact hn _ _ (by omega)
  show binI z x 0 (-1) = _
  rw [e, binI_at x _ hc]
  simp; omega

/-- WHAT HAS COME WHEN k ROUNDS ARE OVER -/
def upto {α : Type} (f : Nat → α) (k : Nat) : List α := (List.range k).map f
theorem upto_succ {α : Type} (f : Nat → α) (k : Nat) : upto f (k + 1) = upto f k ++ [f k] := by simp [upto, List.range_succ]
theorem upto_length {α : Type} (f : Nat → α) (k : Nat) : (upto f k).length = k := by simp [upto]
/-- what comes at round j -/
def bf (zs : List W8) (j : Nat) : Nat × W8 := (zs.length - 1 - j, zs[zs.length - 1 - j]?.getD [])
theorem bf_at (zs : List W8) (q : Nat) (h : q < zs.length) : bf zs (zs.length - (q + 1)) = (q, zs[q]) := by
  unfold bf
  have e : zs.length - 1 - (zs.length - (q + 1)) = q := by omega
  rw [e, List.getElem?_eq_getElem h]; rfl
theorem upto_bf (zs : List W8) (q : Nat) (h : q < zs.length) : upto (bf zs) (zs.length - q) = upto (bf zs) (zs.length - (q + 1)) ++ [(q, zs[q])] := by
  rw [show zs.length - q = (zs.length - (q + 1)) + 1 from by omega, upto_succ, bf_at zs q h]

set_option maxRecDepth 100000 in
set_option maxHeartbeats 2000000 in
theorem back103_in (F : Fence) (n : Nat) (h8 : F.fn 70) (hro : F.round = none) (hn : 1 ≤ n) (l Bs n₀ b off cap : Nat) (zs : List W8) (hreach : zs.length ≤ 1000000) (hb : b < n₀) (J Jx : List (Nat × W8) → World → Prop)
    (hY : ∀ pre x W, J pre W → pre.length < zs.length → YieldAt F (n - 1) Tryz.prog l #[.int .i64 (x.1 : Int), .string ⟨x.2.toArray⟩] W fun e W' =>
      (e = .returned (.bool true) ∧ J (pre ++ [x]) W' ∧ Below n₀ W W') ∨ (e = .returned (.bool false) ∧ Jx (pre ++ [x]) W'))
    (W : World) (hBl : Bs < n₀) (hBs : W.cell? ⟨Bs, 0, none⟩ = some (.slice (some ⟨b, off, none⟩) zs.length cap)) (hc : ∀ j (h : j < zs.length), W.cell? ⟨b, off + j, none⟩ = some (.string ⟨zs[j].toArray⟩)) (h0 : J [] W) :
    CallsIn F n Tryz.prog 70 #[.func (.yield l) #[] #[], .pointer (some ⟨Bs, 0, none⟩)] W fun e W' => (∃ v, e = .returned v) ∧
      ((∃ ys, ys = upto (bf zs) zs.length ∧ J ys W') ∨ (∃ pre, (∃ k, k ≤ zs.length ∧ pre = upto (bf zs) k) ∧ Jx pre W')) := by
  refine callsIn_of_wp Tryz.func70 rfl h8 ?_ hro
  simp only [Tryz.ntmps70, List.size_toArray, List.length_cons, List.length_nil, Nat.reduceAdd, Nat.reduceSub, Array.replicate_succ, Array.replicate_zero, List.push_toArray, List.append_toArray, List.nil_append, List.cons_append]
  gi_wp2
  gi_loopw [3] (fun i wr => ∃ p : Nat, p ≤ zs.length ∧ i = .int .i64 ((p : Int) - 1) ∧ J (upto (bf zs) (zs.length - p)) wr ∧ Below n₀ W wr)
    (fun i _ => (intOf i + 1).toNat)
  case atStart => exact ⟨zs.length, Nat.le_refl _, rfl, by rw [Nat.sub_self]; exact h0, Below.refl _ _⟩
  case round =>
    obtain ⟨p, hp, rfl, hJs, hnx⟩ := hrel
    rcases p with _ | q
    · have hneg : ¬ (0 : Int) ≤ ((0 : Nat) : Int) - 1 := by omega
      gi_wp2
      go_end0
      exact ⟨⟨_, rfl⟩, .inl (by first | exact ⟨_, rfl, hJs⟩ | exact hJs)⟩
    · have hqz : ((q + 1 : Nat) : Int) - 1 = (q : Int) := by omega
      rw [hqz]
      have h0z : (0 : Int) ≤ (q : Int) := by omega
      have hqs : q < zs.length := by omega
      have hqz2 : (q : Int) < (zs.length : Int) := by omega
      have hcx := (hnx.cell (p := ⟨b, off + q, none⟩) hb).trans (hc q hqs)
      have hbs := (hnx.cell (p := ⟨Bs, 0, none⟩) hBl).trans hBs
      obtain ⟨fn, tmps, assign, body, hy, hR⟩ := hY _ (q, zs[q]) wr hJs (by rw [upto_length]; omega)
      dsimp only at hy
      have HU := Lib.hid (upto_bf zs q hqs)
      generalize zs[q] = z at *
      gi_wp2
      refine hR.mono ?_
      rintro e W3 (⟨rfl, hJ3, hk3⟩ | ⟨rfl, hJx3⟩)
      · gi_wp2
        go_roundw
        case rel => exact ⟨q, by omega, by go_num, by rw [HU.out]; exact hJ3, hnx.trans hk3⟩
        case measure => simp [intOf] <;> omega
      · gi_wp2
        refine bodyPost_ret (results_none rfl _ _ _) rfl ?_
        exact ⟨⟨_, rfl⟩, .inr ⟨_, ⟨zs.length - q, by omega, HU.out.symm⟩, hJx3⟩⟩

set_option maxRecDepth 100000 in
set_option maxHeartbeats 1000000 in
theorem back103_nil_in (F : Fence) (n : Nat) (h8 : F.fn 70) (hro : F.round = none) (l Bs : Nat) (A : Option Addr) (c : Nat) (J : List (Nat × W8) → World → Prop) (W : World) (hBs : W.cell? ⟨Bs, 0, none⟩ = some (.slice A 0 c)) (h0 : J [] W) :
    CallsIn F n Tryz.prog 70 #[.func (.yield l) #[] #[], .pointer (some ⟨Bs, 0, none⟩)] W fun e W' => (∃ v, e = .returned v) ∧ J [] W' := by
  refine callsIn_of_wp Tryz.func70 rfl h8 ?_ hro
  simp only [Tryz.ntmps70, List.size_toArray, List.length_cons, List.length_nil, Nat.reduceAdd, Nat.reduceSub, Array.replicate_succ, Array.replicate_zero, List.push_toArray, List.append_toArray, List.nil_append, List.cons_append]
  gi_wp2
  gi_loopw [3] (fun i wr => i = .int .i64 (-1) ∧ J [] wr) (fun _ _ => 0)
  case atStart => exact ⟨rfl, h0⟩
  case round =>
    obtain ⟨rfl, hJs⟩ := hrel
    gi_wp2
    go_end0
    exact ⟨⟨_, rfl⟩, hJs⟩

set_option maxHeartbeats 1000000 in
theorem back92_in (F : Fence) (n : Nat) (h6 : F.fn 55) (hro : F.round = none) (a : Option Addr) (len cap : Nat) (w : World) :
    CallsIn F n Tryz.prog 55 #[.slice a len cap] w fun e w' => e = .returned (.func (.func 70) #[] #[.pointer (some ⟨w.heap.size, 0, none⟩)]) ∧ w' = w.alloc (.cells #[.slice a len cap] 30) := by
  refine callsIn_of_wp Tryz.func55 rfl h6 ?_ hro
  simp only [Tryz.ntmps55, List.size_toArray, List.length_cons, List.length_nil, Nat.reduceAdd, Nat.reduceSub, Array.replicate_succ, Array.replicate_zero, List.push_toArray, List.append_toArray, List.nil_append, List.cons_append]
  gi_wp2
  go_ret
  exact ⟨rfl, rfl⟩

theorem back_stops (F : Fence) (n : Nat) (h8 : F.fn 70) (hro : F.round = none) (hn : 1 ≤ n) (Bs n₀ : Nat) (sv : Value) (zs : List W8) (hreach : zs.length ≤ 1000000) (w : World) (hBs : Bs < w.heap.size) (hBl : Bs < n₀) (hn₀ : n₀ ≤ w.heap.size)
    (hc : w.cell? ⟨Bs, 0, none⟩ = some sv) (hI : SL w n₀ sv zs) :
    SeqStopsK F n Tryz.prog 70 #[.pointer (some ⟨Bs, 0, none⟩)] (fun x : Nat × W8 => #[Value.int .i64 (x.1 : Int), Value.string ⟨x.2.toArray⟩]) (Below n₀) (fun ys => ys = upto (bf zs) zs.length)
      (fun pre => ∃ k, k ≤ zs.length ∧ pre = upto (bf zs) k) zs.length w := fun l J Jx W hW _ _ hY h0 => by
  have hc' := (hW.cell (p := ⟨Bs, 0, none⟩) hBs).trans hc
  obtain ⟨A, cap, rfl, hcp, hcs⟩ := hI.below (hW.mono hn₀)
  by_cases hz : zs = []
  · subst hz
    exact (back103_nil_in F n h8 hro l Bs A cap J W hc' h0).mono fun e W' ⟨he, hj⟩ => ⟨he, .inl ⟨_, rfl, hj⟩⟩
  · obtain ⟨b, off, rfl, hb, hx⟩ := hcs hz
    exact back103_in F n h8 hro hn l Bs n₀ b off cap zs hreach hb J Jx hY W hBl hc' hx h0

set_option maxRecDepth 100000 in
set_option maxHeartbeats 2000000 in
theorem binder76_in (F : Fence) (n : Nat) (h4 : F.fn 37) (h6 : F.fn 55) (h8 : F.fn 70) (hro : F.round = none) (hn : 3 ≤ n) (a : Option Addr) (cap : Nat) (zs : List W8) (x : W8) (hreach : zs.length ≤ 1000000) (w : World) (hI : SL w w.heap.size (.slice a zs.length cap) zs) :
    CallsIn F n Tryz.prog 37 #[.slice a zs.length cap, .string ⟨x.toArray⟩] w fun e W' => e = .returned (.int .i64 (binL zs x)) ∧ Below w.heap.size w W' := by
  have h1 : 1 ≤ n := by omega
  refine callsIn_of_wp_marks Tryz.func37 rfl h4 ?_ hro
  simp only [Tryz.ntmps37, List.size_toArray, List.length_cons, List.length_nil, Nat.reduceAdd, Nat.reduceSub, Array.replicate_succ, Array.replicate_zero, List.push_toArray, List.append_toArray, List.nil_append, List.cons_append]
  gi_wp2_with (gi_at_call 55; refine (back92_in F (n - 1) h6 hro _ _ _ _).mono ?_; rintro e w' ⟨rfl, rfl⟩)
  have bX := Boxed.new w 9 (.string ⟨x.toArray⟩)
  have bR := Boxed.new (w.alloc (.cells #[.string ⟨x.toArray⟩] 9)) 3 (.int .i64 0)
  have bN := Boxed.new ((w.alloc (.cells #[.string ⟨x.toArray⟩] 9)).alloc (.cells #[.int .i64 0] 3)) 30 (.slice a zs.length cap)
  simp only [World.size_alloc] at bR bN
  have hB0 : Below w.heap.size w (((w.alloc (.cells #[.string ⟨x.toArray⟩] 9)).alloc (.cells #[.int .i64 0] 3)).alloc (.cells #[.slice a zs.length cap] 30)) := (((Below.refl _ w).alloc (Nat.le_refl _) _).alloc (by simp) _).alloc (by simp; omega) _
  refine wpIn_rangeFunc_ownG hro h1 (gf := 70) (lb := #[.pointer (some ⟨w.heap.size + 1 + 1, 0, none⟩)]) rfl h8 (enters_of Tryz.func70 (by kernel_rfl) rfl)
    (back_stops F (n - 1) h8 hro (by omega) (w.heap.size + 1 + 1) (w.heap.size + 1 + 1 + 1) _ zs hreach _ (by simp) (by simp) (by simp) bN.cell ((hI.below hB0).more (by omega))) belowK_t (belowK_b (by simp)) (Below.refl _ _) (fun _ => rfl)
    (fun pre W => ((∀ p ∈ pre, p.2 ≠ x) ∧ W.cell? ⟨w.heap.size, 0, none⟩ = some (.string ⟨x.toArray⟩) ∧ W.cell? ⟨w.heap.size + 1, 0, none⟩ = some (.int .i64 0) ∧ W.frozen? ⟨w.heap.size + 1, 0, none⟩ = false) ∧ Below w.heap.size w W)
    (fun c pre W => (c = .ret ∧ ∃ ini last, pre = ini ++ [last] ∧ (∀ p ∈ ini, p.2 ≠ x) ∧ last.2 = x ∧ W.cell? ⟨w.heap.size + 1, 0, none⟩ = some (.int .i64 (last.1 : Int))) ∧ Below w.heap.size w W)
    (OwnFrom.and (Own.from (fun s A B row hs hg hr => ⟨hs.1, cell_kept hs.2.1 hg hr, cell_kept hs.2.2.1 hg hr, (frozen_kept hs.2.2.1 hg hr).trans hs.2.2.2⟩) _) (ownFrom_below (Nat.le_refl _) (by simp; omega)))
    (fun c => OwnFrom.and (Own.from (fun s A B row hs hg hr => by obtain ⟨hc, ini, last, e1, e2, e3, e4⟩ := hs; exact ⟨hc, ini, last, e1, e2, e3, cell_kept e4 hg hr⟩) _) (ownFrom_below (Nat.le_refl _) (by simp; omega)))
    ⟨⟨by simp, ((bX.alloc _).alloc _).cell, (bR.alloc _).cell, (bR.alloc _).frozen⟩, hB0⟩
    (fun y => { tmps := #[.slice a zs.length cap, .string ⟨x.toArray⟩, undef, .pointer (some ⟨w.heap.size, 0, none⟩), .pointer (some ⟨w.heap.size + 1, 0, none⟩), .int .i64 (y.1 : Int), .string ⟨y.2.toArray⟩, .slice a zs.length cap, .func (.func 70) #[] #[.pointer (some ⟨w.heap.size + 1 + 1, 0, none⟩)], .int .i64 (y.1 : Int), .string ⟨y.2.toArray⟩, undef, undef, undef, undef], defers := [] }) ?assign ?body ?done ?stop
  case assign =>
    intro l y W K hK
    gi_wp2
    exact hK
  case body =>
    rintro l pre y W ⟨⟨hp, hcx, hcr, hfr⟩, hB⟩ _
    gi_wp2
    · have hx : y.2 = x := eq_of_beq (by assumption)
      exact ⟨(KeepsOthers.setCell _ _ _).from _, ⟨rfl, pre, y, rfl, hp, hx, World.cell?_setCell_same' _ _ _ (by rw [hcr]; rfl)⟩, hB.setCell (p := ⟨w.heap.size + 1, 0, none⟩) (by simp) _⟩
    · rename_i hne
      have hx : y.2 ≠ x := fun e => by rw [e] at hne; simp at hne
      exact ⟨KeepsFrom.refl _ _, Below.refl _ _, ⟨fun p hp' => (List.mem_append.1 hp').elim (hp p) (fun e => by simp at e; subst e; exact hx), hcx, hcr, hfr⟩, hB⟩
  case done =>
    rintro D ys W hD rfl ⟨⟨hne, hcx, hcr, hfr⟩, hB⟩ hK
    gi_wp2
    have hK' := (KeepsOthers.setCell W ⟨w.heap.size + 1, 0, none⟩ (.int .i64 (-1))).same D _ hK rfl
    refine ⟨by simp, .inl ⟨_, _, rfl, run_takeDeferred hK', ?_⟩⟩
    have hc5 := cell_kept (World.cell?_setCell_same' W ⟨w.heap.size + 1, 0, none⟩ (.int .i64 (-1)) (by rw [hcr]; rfl)) (grownBy_putObj' _ D (.deferred none)) (fun r e => by cases e; exact ⟨_, hK', rfl⟩)
    have hno : binL zs x = -1 := binL_no (fun u hu => by
      obtain ⟨j, hj, rfl⟩ := List.mem_iff_getElem.1 hu
      have := hne (j, zs[j]) (by
        refine List.mem_map.2 ⟨zs.length - (j + 1), List.mem_range.2 (by omega), bf_at zs j hj⟩)
      exact this)
    refine ⟨.int .i64 (-1), ?_, by rw [hno], (hB.setCell (p := ⟨w.heap.size + 1, 0, none⟩) (by simp) _).trans (belowK_b (w := w) (Nat.le_refl _) _ D _ _ (by simp at hD; omega) hK' rfl rfl)⟩
    simp [results, Tryz.f37, go_sem, hc5]
  case stop =>
    rintro D c pre W hD ⟨k, hk, rfl⟩ ⟨⟨rfl, ini, last, e1, e2, e3, hcr⟩, hB⟩ hK
    gi_wp2
    refine ⟨by simp, .inl ⟨_, _, rfl, run_takeDeferred hK, ?_⟩⟩
    have hc5 := cell_kept hcr (grownBy_putObj' _ D (.deferred none)) (fun r e => by cases e; exact ⟨_, hK, rfl⟩)
    obtain ⟨k', rfl⟩ : ∃ k', k = k' + 1 := by
      cases k with
      | zero => simp [upto] at e1
      | succ k' => exact ⟨k', rfl⟩
    obtain ⟨q, hq, rfl⟩ : ∃ q, q < zs.length ∧ k' = zs.length - (q + 1) := ⟨zs.length - 1 - k', by omega, by omega⟩
    rw [upto_succ, bf_at zs q hq] at e1
    obtain ⟨rfl, e5⟩ := List.append_inj' e1 rfl
    obtain rfl : (q, zs[q]) = last := by simpa using e5
    have hyes : binL zs x = (q : Int) := binL_at hq e3 (fun j hj hqj => by
      have := e2 (j, zs[j]) (by
        refine List.mem_map.2 ⟨zs.length - (j + 1), List.mem_range.2 (by omega), bf_at zs j hj⟩)
      exact this)
    refine ⟨.int .i64 (q : Int), ?_, by rw [hyes], hB.trans (belowK_b (w := w) (Nat.le_refl _) W D _ _ (by simp at hD; omega) hK rfl rfl)⟩
    simp [results, Tryz.f37, go_sem, hc5]
theorem binder76_any (v : Value) (zs : List W8) (x : W8) (w : World) (hv : SL w w.heap.size v zs) (hl : zs.length ≤ 1000000) :
    Calls Tryz.prog 37 #[v, .string ⟨x.toArray⟩] w fun e w' => e = .returned (.int .i64 (binL zs x)) ∧ Below w.heap.size w w' := by
  have h := hv
  obtain ⟨A, c, rfl, _, _⟩ := h
  exact (callsIn_wide (n := 3)).1 (binder76_in Fence.wide 3 trivial trivial trivial rfl (by omega) A c zs x hl w hv)
end Go.Proofs.YtkjhfbgdmmnadaaGreat
