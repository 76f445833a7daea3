/- Contract of the reference's Font. -/
import Derived.Test.YthgkdeaapjdadaaDoorRFo
namespace Go.Proofs.YthgkdeaapjdadaaDoor
open Go.RowKit

def parL : List Value := [.int .i64 1000, .int .i64 431, .int .i64 250, .int .i64 40, .int .i64 677, .int .i64 394, .int .i64 686, .int .i64 345, .int .i64 413, .int .i64 363, .int .i64 289, .int .i64 150, .int .i64 247, .int .i64 386, .int .i64 50, .int .i64 70, .int .i64 50, .int .i64 90, .int .i64 500, .int .i64 431]
def rfC (gv sv : Value) : Array Value := (gv :: sv :: parL).toArray
theorem part_info : (Tryd.prog.info? 63).map (fun i => (i.zero, i.size, i.bytes)) = some (some (.agg #[.string ⟨#[]⟩, .bool false]), 2, 24) := by kernel_rfl
/-- what the reference's Font returns -/
def RetRF (w : World) (e : Ending) (w' : World) : Prop := ∃ gv sv l, e = .returned (.agg (rfC gv sv)) ∧ w'.ownsRow w.heap.size 32 6 gv RGF.length (gcells RGF) ∧ w'.ownsRow w.heap.size 43 4 sv 14 (rscells l) ∧ l.map (·.n) = largeN ∧ (∀ s ∈ l, RBlk w' w.heap.size s) ∧ Below w.heap.size w w'
theorem frz_blk {w : World} {b : Nat} {cs : Array Value} {t : TypeId} (h : w.heap[b]? = some (.cells cs t)) (k : Nat) : w.frozen? ⟨b, k, none⟩ = false := by
  simp [World.frozen?, h]
theorem src_new1 (w : World) (cs : List Value) (t : TypeId) : ∀ j u, cs[j]? = some u → (w.alloc (.cells cs.toArray t)).cell? ((⟨w.heap.size, 0, none⟩ : Addr).add j) = some u := src_drew w cs t
theorem src_at (w : World) (cs : List Value) (t : TypeId) (k : Nat) (hk : w.heap.size = k) : ∀ j u, cs[j]? = some u → (w.alloc (.cells cs.toArray t)).cell? ((⟨k, 0, none⟩ : Addr).add j) = some u := by subst hk; exact src_new1 w cs t
theorem amg_brace (n : List UInt8) : amg [[123], [125]] n = brace n := by
  unfold amg brace
  simp [List.contains, List.elem]
  cases h1 : (n == [123]) <;> cases h2 : (n == [125]) <;> simp

/-- the stretch under way: its block, its sizes, its parts -/
structure PS (wr w : World) (n : List UInt8) (pvv : Value) (m : Nat) (xs : List Value) (o : Int) : Prop where
  bel : Below wr.heap.size wr w
  sb : w.heap[wr.heap.size + 1]? = some (.cells #[.string ⟨n.toArray⟩, .slice (some ⟨wr.heap.size, 0, none⟩) 4 4, pvv, .int .i64 o] 43)
  sz : w.heap[wr.heap.size]? = some (.cells (sizeC n) 9)
  pt : w.ownsRow wr.heap.size 63 2 pvv m xs
theorem PS.below {wr w w' : World} {n : List UInt8} {pvv : Value} {m : Nat} {xs : List Value} {o : Int} (h : PS wr w n pvv m xs o) (hb : Below w.heap.size w w') : PS wr w' n pvv m xs o :=
  ⟨h.bel.trans (hb.mono h.bel.size), (hb.block _ (blk_lt h.sb)).trans h.sb, (hb.block _ (blk_lt h.sz)).trans h.sz, own_below h.pt hb⟩
theorem set_grown (w : World) (b k : Nat) (v : Value) : w.grownBy (w.setCell ⟨b, k, none⟩ v) (some b) := ⟨rfl, rfl, rfl, by simp, fun j _ hj => heap_setCell_other w ⟨b, k, none⟩ j v (fun e => hj (by simp [e]))⟩
theorem PS.ovl {wr w : World} {n : List UInt8} {pvv : Value} {m : Nat} {xs : List Value} {o : Int} (h : PS wr w n pvv m xs o) : PS wr (w.setCell ⟨wr.heap.size + 1, 3, none⟩ (.int .i64 50)) n pvv m xs 50 := by
  have hr : ∀ k, some (wr.heap.size + 1) = some k → ∃ cs fr, w.heap[k]? = some (.cells cs 43 fr) := fun k hk => by cases hk; exact ⟨_, _, h.sb⟩
  refine ⟨h.bel.setCell (p := ⟨wr.heap.size + 1, 3, none⟩) (by show wr.heap.size ≤ wr.heap.size + 1; omega) _, ?_, blk_ofType (set_grown _ _ _ _) hr h.sz (by decide), own_ofType (set_grown _ _ _ _) hr h.pt (by decide)⟩
  rw [heap_setCell_same w _ 3 _ 43 _ h.sb]; rfl
theorem PS.put {wr w : World} {n : List UInt8} {pvv v' : Value} {m' : Nat} {xs' : List Value} {o : Int} (hbel : Below wr.heap.size wr w) (hsb : w.heap[wr.heap.size + 1]? = some (.cells #[.string ⟨n.toArray⟩, .slice (some ⟨wr.heap.size, 0, none⟩) 4 4, pvv, .int .i64 o] 43)) (hsz : w.heap[wr.heap.size]? = some (.cells (sizeC n) 9)) (hpt : w.ownsRow wr.heap.size 63 2 v' m' xs') : PS wr (w.setCell ⟨wr.heap.size + 1, 2, none⟩ v') n v' m' xs' o := by
  have hr : ∀ k, some (wr.heap.size + 1) = some k → ∃ cs fr, w.heap[k]? = some (.cells cs 43 fr) := fun k hk => by cases hk; exact ⟨_, _, hsb⟩
  refine ⟨hbel.setCell (p := ⟨wr.heap.size + 1, 2, none⟩) (by show wr.heap.size ≤ wr.heap.size + 1; omega) _, ?_, blk_ofType (set_grown _ _ _ _) hr hsz (by decide), own_ofType (set_grown _ _ _ _) hr hpt (by decide)⟩
  rw [heap_setCell_same w _ 2 _ 43 _ hsb]; rfl
theorem PS.mid {wr w w' : World} {n : List UInt8} {pvv : Value} {m : Nat} {xs : List Value} {o : Int} (h : PS wr w n pvv m xs o) {X : Obj} (hg : (w.alloc X).grownBy w' pvv.ownBlock) : Below wr.heap.size wr w' ∧ w'.heap[wr.heap.size + 1]? = some (.cells #[.string ⟨n.toArray⟩, .slice (some ⟨wr.heap.size, 0, none⟩) 4 4, pvv, .int .i64 o] 43) ∧ w'.heap[wr.heap.size]? = some (.cells (sizeC n) 9) := by
  have h1 := h.below ((Below.refl _ _).alloc (Nat.le_refl _) X)
  have hr : ∀ k, pvv.ownBlock = some k → ∃ cs fr, (w.alloc X).heap[k]? = some (.cells cs 63 fr) := fun k hk => own_type h1.pt hk
  exact ⟨h1.bel.grown hg h1.bel.size (fun k hk => (h1.pt.lt k hk).1), blk_ofType hg hr h1.sb (by decide), blk_ofType hg hr h1.sz (by decide)⟩
def setAll (cs : Array Value) : Nat → List Value → Array Value
  | _, [] => cs
  | o, v :: r => setAll (cs.setIfInBounds o v) (o + 1) r
theorem setAll_rf (gv sv : Value) : setAll (fC gv sv) 2 parL = rfC gv sv := by kernel_rfl
theorem heap_setCells (g : Nat) (t : TypeId) : ∀ (vs : List Value) (o : Nat) (w : World) (cs : Array Value), w.heap[g]? = some (.cells cs t) → (w.setCells g o vs).heap[g]? = some (.cells (setAll cs o vs) t)
  | [], _, _, _, h => h
  | v :: r, o, w, cs, h => heap_setCells g t r (o + 1) _ _ (heap_setCell_same w g o cs t v h)
theorem setCells_grown (g : Nat) : ∀ (vs : List Value) (o : Nat) (w : World), w.grownBy (w.setCells g o vs) (some g)
  | [], _, w => ⟨rfl, rfl, rfl, Nat.le_refl _, fun _ _ _ => rfl⟩
  | v :: r, o, w => by
    have h1 := set_grown w g o v
    have h2 := setCells_grown g r (o + 1) (w.setCell ⟨g, o, none⟩ v)
    exact ⟨h2.os.trans h1.os, h2.tape.trans h1.tape, h2.output.trans h1.output, Nat.le_trans h1.size h2.size, fun k hk hne => (h2.block k (by simpa using hk) hne).trans (h1.block k hk hne)⟩
theorem part_one (n : List UInt8) : ∀ u ∈ bot n ++ ext n ++ top n, u.oneCell' = true := by
  intro u hu
  simp only [bot, ext, top, List.cons_append, List.nil_append, List.mem_cons, List.not_mem_nil, or_false] at hu
  rcases hu with rfl | rfl | rfl | rfl | rfl | rfl <;> rfl

set_option maxRecDepth 100000 in
set_option maxHeartbeats 3000000 in
theorem rfont_any (w : World) : Calls Tryd.prog 11 #[] w (RetRF w) := by
  obtain ⟨i0, hi0, hz0, hz1, hz2⟩ := info_parts st_info
  obtain ⟨i1, hp0, hq0, hq1, hq2⟩ := info_parts part_info
  have HB0 : Hid (Below w.heap.size w (w.alloc (.cells #[.slice none 0 0, .slice none 0 0, .int .i64 0, .int .i64 0, .int .i64 0, .int .i64 0, .int .i64 0, .int .i64 0, .int .i64 0, .int .i64 0, .int .i64 0, .int .i64 0, .int .i64 0, .int .i64 0, .int .i64 0, .int .i64 0, .int .i64 0, .int .i64 0, .int .i64 0, .int .i64 0, .int .i64 0, .int .i64 0] 29))) := Lib.hid ((Below.refl _ _).alloc (Nat.le_refl _) _)
  have HZ := Lib.hid (blk_new w (.cells #[.slice none 0 0, .slice none 0 0, .int .i64 0, .int .i64 0, .int .i64 0, .int .i64 0, .int .i64 0, .int .i64 0, .int .i64 0, .int .i64 0, .int .i64 0, .int .i64 0, .int .i64 0, .int .i64 0, .int .i64 0, .int .i64 0, .int .i64 0, .int .i64 0, .int .i64 0, .int .i64 0, .int .i64 0, .int .i64 0] 29))
  go_enter Tryd.func11, Tryd.ntmps11
  go_wp2_with fail
  refine (rglyphs_any _).mono ?_
  rintro e w1 ⟨v, rfl, ho, hb1⟩
  have HO1 := Lib.hid (own_mono ho (base' := w.heap.size) (by simp))
  have HB1 := Lib.hid (HB0.out.trans (hb1.mono HB0.out.size))
  have hs1 := HB1.out.size
  have HZ1 := Lib.hid ((hb1.block _ (by simp)).trans HZ.out)
  have hlt1 : w.heap.size < w1.heap.size := blk_lt HZ1.out
  clear ho hb1 HB0 HZ
  obtain ⟨A, c, rfl, _, _⟩ := GR.of_own HO1.out
  have hbx : Below w1.heap.size w1 (w1.alloc (.cells #[.slice none 0 0, .slice none 0 0, .int .i64 0, .int .i64 0, .int .i64 0, .int .i64 0, .int .i64 0, .int .i64 0, .int .i64 0, .int .i64 0, .int .i64 0, .int .i64 0, .int .i64 0, .int .i64 0, .int .i64 0, .int .i64 0, .int .i64 0, .int .i64 0, .int .i64 0, .int .i64 0, .int .i64 0, .int .i64 0] 29)) := (Below.refl _ _).alloc (Nat.le_refl _) _
  have hz := blk_new w1 (.cells #[.slice none 0 0, .slice none 0 0, .int .i64 0, .int .i64 0, .int .i64 0, .int .i64 0, .int .i64 0, .int .i64 0, .int .i64 0, .int .i64 0, .int .i64 0, .int .i64 0, .int .i64 0, .int .i64 0, .int .i64 0, .int .i64 0, .int .i64 0, .int .i64 0, .int .i64 0, .int .i64 0, .int .i64 0, .int .i64 0] 29)
  have HZN := Lib.hid hz
  obtain ⟨cs, hcs⟩ : ∃ cs : Array Value, cs = #[.slice A RGF.length c, .slice none 0 0, .int .i64 0, .int .i64 0, .int .i64 0, .int .i64 0, .int .i64 0, .int .i64 0, .int .i64 0, .int .i64 0, .int .i64 0, .int .i64 0, .int .i64 0, .int .i64 0, .int .i64 0, .int .i64 0, .int .i64 0, .int .i64 0, .int .i64 0, .int .i64 0, .int .i64 0, .int .i64 0] := ⟨_, rfl⟩
  have HCS : Hid (cs = fC (.slice A RGF.length c) (.slice none 0 0)) := hcs
  have HA : Hid (cs.all (·.oneCell') = true) := by show cs.all (·.oneCell') = true; rw [hcs]; simp [Value.oneCell']
  have HI : Hid ((Tryd.prog.info? 29).map (·.size) = some cs.size) := by show _ = some cs.size; rw [hcs]; kernel_rfl
  have HO : Hid ((#[.slice none 0 0, .slice none 0 0, .int .i64 0, .int .i64 0, .int .i64 0, .int .i64 0, .int .i64 0, .int .i64 0, .int .i64 0, .int .i64 0, .int .i64 0, .int .i64 0, .int .i64 0, .int .i64 0, .int .i64 0, .int .i64 0, .int .i64 0, .int .i64 0, .int .i64 0, .int .i64 0, .int .i64 0, .int .i64 0] : Array Value).size = cs.size) := by show _ = cs.size; rw [hcs]; rfl
  have HW : Hid (RI w (((w1.alloc (.cells #[.slice none 0 0, .slice none 0 0, .int .i64 0, .int .i64 0, .int .i64 0, .int .i64 0, .int .i64 0, .int .i64 0, .int .i64 0, .int .i64 0, .int .i64 0, .int .i64 0, .int .i64 0, .int .i64 0, .int .i64 0, .int .i64 0, .int .i64 0, .int .i64 0, .int .i64 0, .int .i64 0, .int .i64 0, .int .i64 0] 29)).setRow w1.heap.size cs).alloc (.cells (strC largeN) 9)) (w1.heap.size + 1) w1.heap.size (.slice A RGF.length c) (.slice none 0 0) [] 0) := by
    have hb2 : Below w.heap.size w ((w1.alloc (.cells #[.slice none 0 0, .slice none 0 0, .int .i64 0, .int .i64 0, .int .i64 0, .int .i64 0, .int .i64 0, .int .i64 0, .int .i64 0, .int .i64 0, .int .i64 0, .int .i64 0, .int .i64 0, .int .i64 0, .int .i64 0, .int .i64 0, .int .i64 0, .int .i64 0, .int .i64 0, .int .i64 0, .int .i64 0, .int .i64 0] 29)).setRow w1.heap.size cs) := below_setRow (HB1.out.trans (hbx.mono hs1)) hs1 cs
    have hbn : Below ((w1.alloc (.cells #[.slice none 0 0, .slice none 0 0, .int .i64 0, .int .i64 0, .int .i64 0, .int .i64 0, .int .i64 0, .int .i64 0, .int .i64 0, .int .i64 0, .int .i64 0, .int .i64 0, .int .i64 0, .int .i64 0, .int .i64 0, .int .i64 0, .int .i64 0, .int .i64 0, .int .i64 0, .int .i64 0, .int .i64 0, .int .i64 0] 29)).setRow w1.heap.size cs).heap.size ((w1.alloc (.cells #[.slice none 0 0, .slice none 0 0, .int .i64 0, .int .i64 0, .int .i64 0, .int .i64 0, .int .i64 0, .int .i64 0, .int .i64 0, .int .i64 0, .int .i64 0, .int .i64 0, .int .i64 0, .int .i64 0, .int .i64 0, .int .i64 0, .int .i64 0, .int .i64 0, .int .i64 0, .int .i64 0, .int .i64 0, .int .i64 0] 29)).setRow w1.heap.size cs) (((w1.alloc (.cells #[.slice none 0 0, .slice none 0 0, .int .i64 0, .int .i64 0, .int .i64 0, .int .i64 0, .int .i64 0, .int .i64 0, .int .i64 0, .int .i64 0, .int .i64 0, .int .i64 0, .int .i64 0, .int .i64 0, .int .i64 0, .int .i64 0, .int .i64 0, .int .i64 0, .int .i64 0, .int .i64 0, .int .i64 0, .int .i64 0] 29)).setRow w1.heap.size cs).alloc (.cells (strC largeN) 9)) := (Below.refl _ _).alloc (Nat.le_refl _) _
    have hss : ((w1.alloc (.cells #[.slice none 0 0, .slice none 0 0, .int .i64 0, .int .i64 0, .int .i64 0, .int .i64 0, .int .i64 0, .int .i64 0, .int .i64 0, .int .i64 0, .int .i64 0, .int .i64 0, .int .i64 0, .int .i64 0, .int .i64 0, .int .i64 0, .int .i64 0, .int .i64 0, .int .i64 0, .int .i64 0, .int .i64 0, .int .i64 0] 29)).setRow w1.heap.size cs).heap.size = w1.heap.size + 1 := by simp
    refine ⟨World.ownsRow_nil _ _ _ _, own_below (own_setRow (own_below HO1.out hbx) hz (by decide) cs) hbn, rfl, by simp, ?_, ?_, by omega, by omega, ?_, hb2.trans (hbn.mono hb2.size)⟩
    · rw [hbn.block _ (by rw [hss]; omega), setRow_heap _ _ _ _ _ _ hz, HCS.out]
    · rw [hbn.block _ (by rw [hss]; omega), row_other _ _ _ _ (by omega), hbx.block _ hlt1]; exact HZ1.out
    · rw [← hss]; exact blk_new _ _
  clear hbx hz
  go_wp2_with (first | (with_reducible refine wpList_allocTo rfl (some 1) rfl _ _ (alloc29 _ _ rfl _) ?_) | (rw [← hcs]; with_reducible refine wpList_store_row rfl 29 (.tmp 1) (.tmp 7) rfl w1.heap.size cs rfl rfl 29 #[.slice none 0 0, .slice none 0 0, .int .i64 0, .int .i64 0, .int .i64 0, .int .i64 0, .int .i64 0, .int .i64 0, .int .i64 0, .int .i64 0, .int .i64 0, .int .i64 0, .int .i64 0, .int .i64 0, .int .i64 0, .int .i64 0, .int .i64 0, .int .i64 0, .int .i64 0, .int .i64 0, .int .i64 0, .int .i64 0] HZN.out HI.out HO.out HA.out ?_))

  refine (grown_any _).mono ?_
  rintro e w3 ⟨rfl, hw3⟩
  rw [hcs, hw3] at HW
  clear hw3 HA HI HO HCS HZN HB1 HZ1 HO1
  clear hcs
  rw [show ((w1.alloc (.cells #[.slice none 0 0, .slice none 0 0, .int .i64 0, .int .i64 0, .int .i64 0, .int .i64 0, .int .i64 0, .int .i64 0, .int .i64 0, .int .i64 0, .int .i64 0, .int .i64 0, .int .i64 0, .int .i64 0, .int .i64 0, .int .i64 0, .int .i64 0, .int .i64 0, .int .i64 0, .int .i64 0, .int .i64 0, .int .i64 0] 29)).setRow w1.heap.size #[.slice A RGF.length c, .slice none 0 0, .int .i64 0, .int .i64 0, .int .i64 0, .int .i64 0, .int .i64 0, .int .i64 0, .int .i64 0, .int .i64 0, .int .i64 0, .int .i64 0, .int .i64 0, .int .i64 0, .int .i64 0, .int .i64 0, .int .i64 0, .int .i64 0, .int .i64 0, .int .i64 0, .int .i64 0, .int .i64 0]).heap.size = w1.heap.size + 1 from by simp]
  obtain ⟨N, hN⟩ : ∃ N, N = w1.heap.size + 1 := ⟨_, rfl⟩
  rw [← hN] at HW ⊢
  clear hN
  generalize w1.heap.size = f at *
  clear cs
  go_wp2_with fail
  go_loopg [3, 4, 5] 14 (fun gg s3 _ _ wr => ∃ (i : Nat) (l : List RSt) (sv : Value), i ≤ 14 ∧ 14 - i ≤ gg ∧ s3 = .int .i64 i ∧ Aside (RI w wr N f (.slice A RGF.length c) sv l i))
  case atStart => exact ⟨0, [], _, by omega, by omega, rfl, HW.out⟩
  case round =>
    obtain ⟨i, l, sv, hi, hgg, rfl, HR⟩ := hrel
    clear HW
    by_cases hil : i < 14
    · have hiz : (i : Int) < 14 := by omega
      have hil' : i < largeN.length := hil
      obtain ⟨_, _, _, q4⟩ := rgs_bnd i hil'
      have hc := (cell_blk HR.out.nb i).trans (strC_at largeN i hil')
      obtain ⟨n, hn⟩ : ∃ n, n = largeN[i] := ⟨_, rfl⟩
      rw [← hn] at q4 hc
      have HNM := Lib.hid hn
      clear hn
      have hsr := HR.out.bel.size
      have hll := HR.out.len (by omega)
      have HW4 : Hid (Below wr.heap.size wr (((wr.alloc (.cells #[.string ⟨n.toArray⟩, .string (⟨n.toArray⟩ ++ ⟨#[49]⟩), .string (⟨n.toArray⟩ ++ ⟨#[50]⟩), .string (⟨n.toArray⟩ ++ ⟨#[51]⟩)] 9)).alloc (.cells #[.string ⟨n.toArray⟩, .slice (some ⟨wr.heap.size, 0, none⟩) 4 4, .slice none 0 0, .int .i64 0] 43)).alloc (.cells (strC asmN) 9))) := (((Below.refl _ _).alloc (Nat.le_refl _) _).alloc (by simp) _).alloc (by simp; omega) _
      have HZ4 : Hid ((((wr.alloc (.cells #[.string ⟨n.toArray⟩, .string (⟨n.toArray⟩ ++ ⟨#[49]⟩), .string (⟨n.toArray⟩ ++ ⟨#[50]⟩), .string (⟨n.toArray⟩ ++ ⟨#[51]⟩)] 9)).alloc (.cells #[.string ⟨n.toArray⟩, .slice (some ⟨wr.heap.size, 0, none⟩) 4 4, .slice none 0 0, .int .i64 0] 43)).alloc (.cells (strC asmN) 9)).heap[wr.heap.size]? = some (.cells (sizeC n) 9)) := heap_old (heap_old (blk_new _ _) (by simp) _) (by simp; omega) _
      have HS4 : Hid ((((wr.alloc (.cells #[.string ⟨n.toArray⟩, .string (⟨n.toArray⟩ ++ ⟨#[49]⟩), .string (⟨n.toArray⟩ ++ ⟨#[50]⟩), .string (⟨n.toArray⟩ ++ ⟨#[51]⟩)] 9)).alloc (.cells #[.string ⟨n.toArray⟩, .slice (some ⟨wr.heap.size, 0, none⟩) 4 4, .slice none 0 0, .int .i64 0] 43)).alloc (.cells (strC asmN) 9)).heap[wr.heap.size + 1]? = some (.cells #[.string ⟨n.toArray⟩, .slice (some ⟨wr.heap.size, 0, none⟩) 4 4, .slice none 0 0, .int .i64 0] 43)) := by
        have := blk_new (wr.alloc (.cells #[.string ⟨n.toArray⟩, .string (⟨n.toArray⟩ ++ ⟨#[49]⟩), .string (⟨n.toArray⟩ ++ ⟨#[50]⟩), .string (⟨n.toArray⟩ ++ ⟨#[51]⟩)] 9)) (.cells #[.string ⟨n.toArray⟩, .slice (some ⟨wr.heap.size, 0, none⟩) 4 4, .slice none 0 0, .int .i64 0] 43)
        rw [World.size_alloc] at this
        exact heap_old this (by simp) _
      have HM4 : Hid ((((wr.alloc (.cells #[.string ⟨n.toArray⟩, .string (⟨n.toArray⟩ ++ ⟨#[49]⟩), .string (⟨n.toArray⟩ ++ ⟨#[50]⟩), .string (⟨n.toArray⟩ ++ ⟨#[51]⟩)] 9)).alloc (.cells #[.string ⟨n.toArray⟩, .slice (some ⟨wr.heap.size, 0, none⟩) 4 4, .slice none 0 0, .int .i64 0] 43)).alloc (.cells (strC asmN) 9)).heap[wr.heap.size + 1 + 1]? = some (.cells (strC asmN) 9)) := by
        have := blk_new ((wr.alloc (.cells #[.string ⟨n.toArray⟩, .string (⟨n.toArray⟩ ++ ⟨#[49]⟩), .string (⟨n.toArray⟩ ++ ⟨#[50]⟩), .string (⟨n.toArray⟩ ++ ⟨#[51]⟩)] 9)).alloc (.cells #[.string ⟨n.toArray⟩, .slice (some ⟨wr.heap.size, 0, none⟩) 4 4, .slice none 0 0, .int .i64 0] 43)) (.cells (strC asmN) 9)
        rw [World.size_alloc, World.size_alloc] at this
        exact this
      go_wp2_with fail
      refine (rasm_any _).mono ?_
      rintro e w4 ⟨rfl, hw4⟩
      rw [hw4] at HW4 HZ4 HS4 HM4
      clear hw4 hc
      go_wp2_with fail
      refine (among_any n asmN _ _ HM4.out (by decide)).mono ?_
      rintro e w4 ⟨rfl, rfl⟩
      unfold amg
      clear HM4
      cases hcon : asmN.contains n

      case false =>
        have HOV : Hid (ov n = 0) := by show ov n = _; unfold ov; rw [hcon]; rfl
        have HR7 := Lib.hid (HR.out.below HW4.out)
        have HS7 := HS4
        have HB7 : Hid (RBlk w4 w.heap.size ⟨n, wr.heap.size, .slice none 0 0⟩) := ⟨hsr, HZ4.out, by rw [if_neg (by rw [hcon]; decide)]⟩
        have HONE : Hid (∀ u ∈ RSt.cells ⟨n, wr.heap.size, .slice none 0 0⟩, u.oneCell' = true) := by
          intro u hu
          simp only [RSt.cells, List.mem_cons, List.not_mem_nil, or_false] at hu
          rcases hu with rfl | rfl | rfl | rfl <;> rfl
        clear HR HW4 HZ4 HS4
        have hff := cell_blk HR7.out.fb 1
        have hS0 := cell_blk HS7.out 0
        have hS1 := cell_blk HS7.out 1
        have hS2 := cell_blk HS7.out 2
        have hS3 := cell_blk HS7.out 3
        simp at hS0 hS1 hS2 hS3
        have hff' : w4.cell? ⟨f, 1, none⟩ = some sv := hff
        clear hff
        go_wp2_with (at_builtin; refine wpList_append_own _ rfl _ _ 25 rfl w.heap.size 43 i0 _ 4 72 Tryd.underlying25 hi0 hz0 hz1 hz2 rfl (by decide) _ _ _ rfl (HR7.out.own.alloc _) ⟨w4.heap.size, 0, none⟩ 1 1 (RSt.cells ⟨n, wr.heap.size, .slice none 0 0⟩) rfl rfl ?c1 ?c2 ?c3 ?c4 ?c5 ?_)
        case c1 => intro j u hu; exact src_new1 _ _ 43 j u (by rw [← HOV.out]; exact hu)
        case c2 => exact HONE.out
        case c3 => unfold maxLen; omega
        case c4 => omega
        case c5 => have := HR7.out.bel.size; first | omega | (simp; omega)
        intro v' w9 hown' hgrow _
        obtain ⟨SA9, sc9, rfl⟩ := own_slice hown'
        have hbA : Below w4.heap.size w4 (w4.alloc (.cells #[.string ⟨n.toArray⟩, .slice (some ⟨wr.heap.size, 0, none⟩) 4 4, .slice none 0 0, .int .i64 0] 43)) := (Below.refl _ _).alloc (Nat.le_refl _) _
        have HR9 := Lib.hid ((HR7.out.below hbA).more hil' (HB7.out.below hbA) HNM.out hgrow (by rw [hll]; exact hown'))
        have hfb9 := blk_ofType hgrow (fun k hk => own_type (HR7.out.below hbA).own hk) (HR7.out.below hbA).fb (by decide)
        have hc9 : w9.cell? ⟨f, 1, none⟩ = some sv := cell_blk hfb9 1
        have hf9 := frz_blk hfb9 1
        clear hown' hgrow hbA hfb9
        go_wp2_with fail
        go_roundg (14 - (i + 1))
        case measure => omega
        case rel => exact ⟨i + 1, _, _, by omega, by omega, by go_num, HR9.out⟩
      case true =>
        have HOV : Hid (ov n = 50) := by show ov n = _; unfold ov; rw [hcon]; rfl
        have hs2 := cell_blk HS4.out 2
        have hs3 := cell_blk HS4.out 3
        simp at hs2 hs3
        have hf2 := frz_blk HS4.out 2
        have hf3 := frz_blk HS4.out 3
        have hlt4 : wr.heap.size + 1 < w4.heap.size := blk_lt HS4.out
        have HP5 : Hid (PS wr (((w4.setCell ⟨wr.heap.size + 1, 2, none⟩ (.slice (some ⟨w4.heap.size, 0, none⟩) 2 2)).alloc (.cells #[.string (⟨n.toArray⟩ ++ ⟨#[98, 111, 116]⟩), .bool false, .string (⟨n.toArray⟩ ++ ⟨#[101, 120, 116]⟩), .bool true] 63)).alloc (.cells #[.string ⟨#[123]⟩, .string ⟨#[125]⟩] 9)) n (.slice (some ⟨w4.heap.size, 0, none⟩) 2 2) 2 (bot n ++ ext n) 0) := by
          have hb := HW4.out.setCell (p := ⟨wr.heap.size + 1, 2, none⟩) (by show wr.heap.size ≤ wr.heap.size + 1; omega) (.slice (some ⟨w4.heap.size, 0, none⟩) 2 2)
          have hlit := World.ownsRow_lit (base := wr.heap.size) (e := 63) (size := 2) (w4.setCell ⟨wr.heap.size + 1, 2, none⟩ (.slice (some ⟨w4.heap.size, 0, none⟩) 2 2)) #[.string (⟨n.toArray⟩ ++ ⟨#[98, 111, 116]⟩), .bool false, .string (⟨n.toArray⟩ ++ ⟨#[101, 120, 116]⟩), .bool true] 2 (by simp; omega) (by unfold maxLen; omega) rfl
          rw [World.size_setCell] at hlit
          refine ⟨(hb.alloc (by simp; omega) _).alloc (by simp; omega) _, ?_, ?_, hlit.alloc _⟩
          · refine heap_old (heap_old ?_ (by simp; omega) _) (by simp; omega) _
            rw [heap_setCell_same w4 _ 2 _ 43 _ HS4.out]; rfl
          · refine heap_old (heap_old ?_ (by simp; omega) _) (by simp; omega) _
            rw [Below.heap_setCell _ _ _ _ (by show wr.heap.size ≠ wr.heap.size + 1; omega)]; exact HZ4.out
        have HM5 : Hid ((((w4.setCell ⟨wr.heap.size + 1, 2, none⟩ (.slice (some ⟨w4.heap.size, 0, none⟩) 2 2)).alloc (.cells #[.string (⟨n.toArray⟩ ++ ⟨#[98, 111, 116]⟩), .bool false, .string (⟨n.toArray⟩ ++ ⟨#[101, 120, 116]⟩), .bool true] 63)).alloc (.cells #[.string ⟨#[123]⟩, .string ⟨#[125]⟩] 9)).heap[w4.heap.size + 1]? = some (.cells (strC [[123], [125]]) 9)) := by
          have := blk_new ((w4.setCell ⟨wr.heap.size + 1, 2, none⟩ (.slice (some ⟨w4.heap.size, 0, none⟩) 2 2)).alloc (.cells #[.string (⟨n.toArray⟩ ++ ⟨#[98, 111, 116]⟩), .bool false, .string (⟨n.toArray⟩ ++ ⟨#[101, 120, 116]⟩), .bool true] 63)) (.cells #[.string ⟨#[123]⟩, .string ⟨#[125]⟩] 9)
          rw [World.size_alloc, World.size_setCell] at this
          exact this
        go_wp2_with fail
        refine (among_any n [[123], [125]] _ _ HM5.out (by decide)).mono ?_
        obtain ⟨w5, hw5⟩ : ∃ w5, w5 = ((w4.setCell ⟨wr.heap.size + 1, 2, none⟩ (.slice (some ⟨w4.heap.size, 0, none⟩) 2 2)).alloc (.cells #[.string (⟨n.toArray⟩ ++ ⟨#[98, 111, 116]⟩), .bool false, .string (⟨n.toArray⟩ ++ ⟨#[101, 120, 116]⟩), .bool true] 63)).alloc (.cells #[.string ⟨#[123]⟩, .string ⟨#[125]⟩] 9) := ⟨_, rfl⟩
        rw [← hw5] at HP5 ⊢
        rintro e w5' ⟨rfl, rfl⟩
        rw [amg_brace]
        clear hw5 HM5 hs2 hs3 hf2 hf3 hlt4 HW4 HZ4 HS4
        generalize Value.slice (some ⟨w4.heap.size, 0, none⟩) 2 2 = pv5 at *
        have hg2 := cell_blk HP5.out.sb 2
        have hg3 := cell_blk HP5.out.sb 3
        simp at hg2 hg3
        have hf2 := frz_blk HP5.out.sb 2
        have hf3 := frz_blk HP5.out.sb 3
        have hlt5 : wr.heap.size + 1 < w5.heap.size := blk_lt HP5.out.sb
        have hsr' : wr.heap.size ≤ w5.heap.size := by omega
        have hlf : f < wr.heap.size := blk_lt HR.out.fb
        cases hbr : brace n
        case false =>
          go_wp2_with (at_builtin; refine wpList_append_own _ rfl _ _ 41 rfl wr.heap.size 63 i1 _ 2 24 Tryd.underlying41 hp0 hq0 hq1 hq2 rfl (by decide) _ _ _ rfl (HP5.out.pt.alloc _) ⟨w5.heap.size, 0, none⟩ 1 1 (top n) rfl rfl ?c1 ?c2 ?c3 ?c4 ?c5 ?_)
          case c1 => exact fun j u hu => src_at _ (top n) 63 _ (by first | rfl | simp) j u hu
          case c2 => exact fun u hu => part_one n u (List.mem_append_right _ hu)
          case c3 => unfold maxLen; omega
          case c4 => omega
          case c5 => first | omega | (simp; omega)
          intro v7 w7 hown7 hgrow7 _
          obtain ⟨SA7, sc7, rfl⟩ := own_slice hown7
          obtain ⟨m1, m2, m3⟩ := HP5.out.mid hgrow7
          have HP8 := Lib.hid (PS.put m1 m2 m3 hown7).ovl
          have hh2 : w7.cell? ⟨wr.heap.size + 1, 2, none⟩ = some pv5 := cell_blk m2 2
          have hh3 : w7.cell? ⟨wr.heap.size + 1, 3, none⟩ = some (.int .i64 0) := cell_blk m2 3
          have hh0 : w7.cell? ⟨wr.heap.size + 1, 0, none⟩ = some (.string ⟨n.toArray⟩) := cell_blk m2 0
          have hh1 : w7.cell? ⟨wr.heap.size + 1, 1, none⟩ = some (.slice (some ⟨wr.heap.size, 0, none⟩) 4 4) := cell_blk m2 1
          have hk2 := frz_blk m2 2
          have hk3 := frz_blk m2 3
          have hff' : w7.cell? ⟨f, 1, none⟩ = some sv := cell_blk (HR.out.below m1).fb 1
          have hnef : f ≠ wr.heap.size + 1 := by omega
          have hnef' : wr.heap.size + 1 ≠ f := by omega
          have HR7 := Lib.hid (HR.out.below HP8.out.bel)
          have HB7 : Hid (RBlk ((w7.setCell ⟨wr.heap.size + 1, 2, none⟩ (.slice SA7 (2 + 1) sc7)).setCell ⟨wr.heap.size + 1, 3, none⟩ (.int .i64 50)) w.heap.size ⟨n, wr.heap.size, .slice SA7 (2 + 1) sc7⟩) := ⟨hsr, HP8.out.sz, by
            rw [if_pos hcon, show pk n = 2 + 1 from by unfold pk; rw [hbr]; rfl, show partL n = (bot n ++ ext n) ++ top n from by unfold partL; rw [hbr]; first | rfl | simp]
            exact own_mono HP8.out.pt hsr⟩
          have HONE : Hid (∀ u ∈ RSt.cells ⟨n, wr.heap.size, .slice SA7 (2 + 1) sc7⟩, u.oneCell' = true) := by
            intro u hu
            simp only [RSt.cells, List.mem_cons, List.not_mem_nil, or_false] at hu
            rcases hu with rfl | rfl | rfl | rfl <;> rfl
          clear m1 m2 m3 hown7 hgrow7
          go_wp2_with (at_builtin; refine wpList_append_own _ rfl _ _ 25 rfl w.heap.size 43 i0 _ 4 72 Tryd.underlying25 hi0 hz0 hz1 hz2 rfl (by decide) _ _ _ rfl (HR7.out.own.alloc _) ⟨w7.heap.size, 0, none⟩ 1 1 (RSt.cells ⟨n, wr.heap.size, .slice SA7 (2 + 1) sc7⟩) rfl rfl ?c1 ?c2 ?c3 ?c4 ?c5 ?_)
          case c1 => intro j u hu; exact src_at _ _ 43 _ (by first | rfl | simp) j u (by rw [← HOV.out]; exact hu)
          case c2 => exact HONE.out
          case c3 => unfold maxLen; omega
          case c4 => omega
          case c5 => have := HR7.out.bel.size; first | omega | (simp; omega) | (simp at this ⊢; omega)
          intro v' w9 hown' hgrow _
          obtain ⟨SA9, sc9, rfl⟩ := own_slice hown'
          have hbA : Below ((w7.setCell ⟨wr.heap.size + 1, 2, none⟩ (.slice SA7 (2 + 1) sc7)).setCell ⟨wr.heap.size + 1, 3, none⟩ (.int .i64 50)).heap.size ((w7.setCell ⟨wr.heap.size + 1, 2, none⟩ (.slice SA7 (2 + 1) sc7)).setCell ⟨wr.heap.size + 1, 3, none⟩ (.int .i64 50)) (((w7.setCell ⟨wr.heap.size + 1, 2, none⟩ (.slice SA7 (2 + 1) sc7)).setCell ⟨wr.heap.size + 1, 3, none⟩ (.int .i64 50)).alloc (.cells #[.string ⟨n.toArray⟩, .slice (some ⟨wr.heap.size, 0, none⟩) 4 4, .slice SA7 (2 + 1) sc7, .int .i64 50] 43)) := (Below.refl _ _).alloc (Nat.le_refl _) _
          have HR9 := Lib.hid ((HR7.out.below hbA).more hil' (HB7.out.below hbA) HNM.out hgrow (by rw [hll]; exact hown'))
          have hfb9 := blk_ofType hgrow (fun k hk => own_type (HR7.out.below hbA).own hk) (HR7.out.below hbA).fb (by decide)
          have hc9 : w9.cell? ⟨f, 1, none⟩ = some sv := cell_blk hfb9 1
          have hf9 := frz_blk hfb9 1
          clear hown' hgrow hbA hfb9
          go_wp2_with fail
          go_roundg (14 - (i + 1))
          case measure => omega
          case rel => exact ⟨i + 1, _, _, by omega, by omega, by go_num, HR9.out⟩
        case true =>
          go_wp2_with (at_builtin; refine wpList_append_own _ rfl _ _ 41 rfl wr.heap.size 63 i1 _ 2 24 Tryd.underlying41 hp0 hq0 hq1 hq2 rfl (by decide) _ _ _ rfl (HP5.out.pt.alloc _) ⟨w5.heap.size, 0, none⟩ 2 2 (bot n ++ ext n) rfl rfl ?c1 ?c2 ?c3 ?c4 ?c5 ?_)
          case c1 => exact fun j u hu => src_at _ (bot n ++ ext n) 63 _ (by first | rfl | simp) j u hu
          case c2 => exact fun u hu => part_one n u (List.mem_append_left _ hu)
          case c3 => unfold maxLen; omega
          case c4 => omega
          case c5 => first | omega | (simp; omega)
          intro v6 w6 hown6 hgrow6 _
          obtain ⟨SA6, sc6, rfl⟩ := own_slice hown6
          obtain ⟨m1, m2, m3⟩ := HP5.out.mid hgrow6
          have HP6 := Lib.hid (PS.put m1 m2 m3 hown6)
          have hg2 : w6.cell? ⟨wr.heap.size + 1, 2, none⟩ = some pv5 := cell_blk m2 2
          have hf2 := frz_blk m2 2
          have hlt6 : wr.heap.size + 1 < w6.heap.size := blk_lt m2
          have hsr6 : wr.heap.size ≤ w6.heap.size := by omega
          clear m1 m2 m3 hown6 hgrow6
          go_wp2_with (at_builtin; refine wpList_append_own _ rfl _ _ 41 rfl wr.heap.size 63 i1 _ 2 24 Tryd.underlying41 hp0 hq0 hq1 hq2 rfl (by decide) _ _ _ rfl (HP6.out.pt.alloc _) ⟨w6.heap.size, 0, none⟩ 1 1 (top n) rfl rfl ?c1 ?c2 ?c3 ?c4 ?c5 ?_)
          case c1 => exact fun j u hu => src_at _ (top n) 63 _ (by first | rfl | simp) j u hu
          case c2 => exact fun u hu => part_one n u (List.mem_append_right _ hu)
          case c3 => unfold maxLen; omega
          case c4 => omega
          case c5 => first | omega | (simp; omega)
          intro v7 w7 hown7 hgrow7 _
          obtain ⟨SA7, sc7, rfl⟩ := own_slice hown7
          obtain ⟨m1, m2, m3⟩ := HP6.out.mid hgrow7
          have HP8 := Lib.hid (PS.put m1 m2 m3 hown7).ovl
          have hh2 : w7.cell? ⟨wr.heap.size + 1, 2, none⟩ = some (.slice SA6 4 sc6) := cell_blk m2 2
          have hh3 : w7.cell? ⟨wr.heap.size + 1, 3, none⟩ = some (.int .i64 0) := cell_blk m2 3
          have hh0 : w7.cell? ⟨wr.heap.size + 1, 0, none⟩ = some (.string ⟨n.toArray⟩) := cell_blk m2 0
          have hh1 : w7.cell? ⟨wr.heap.size + 1, 1, none⟩ = some (.slice (some ⟨wr.heap.size, 0, none⟩) 4 4) := cell_blk m2 1
          have hk2 := frz_blk m2 2
          have hk3 := frz_blk m2 3
          have hff' : w7.cell? ⟨f, 1, none⟩ = some sv := cell_blk (HR.out.below m1).fb 1
          have hnef : f ≠ wr.heap.size + 1 := by omega
          have hnef' : wr.heap.size + 1 ≠ f := by omega
          have HR7 := Lib.hid (HR.out.below HP8.out.bel)
          have HB7 : Hid (RBlk ((w7.setCell ⟨wr.heap.size + 1, 2, none⟩ (.slice SA7 (4 + 1) sc7)).setCell ⟨wr.heap.size + 1, 3, none⟩ (.int .i64 50)) w.heap.size ⟨n, wr.heap.size, .slice SA7 (4 + 1) sc7⟩) := ⟨hsr, HP8.out.sz, by
            rw [if_pos hcon, show pk n = 4 + 1 from by unfold pk; rw [hbr]; rfl, show partL n = (bot n ++ ext n ++ (bot n ++ ext n)) ++ top n from by unfold partL; rw [hbr]; first | rfl | simp]
            exact own_mono HP8.out.pt hsr⟩
          have HONE : Hid (∀ u ∈ RSt.cells ⟨n, wr.heap.size, .slice SA7 (4 + 1) sc7⟩, u.oneCell' = true) := by
            intro u hu
            simp only [RSt.cells, List.mem_cons, List.not_mem_nil, or_false] at hu
            rcases hu with rfl | rfl | rfl | rfl <;> rfl
          clear m1 m2 m3 hown7 hgrow7
          go_wp2_with (at_builtin; refine wpList_append_own _ rfl _ _ 25 rfl w.heap.size 43 i0 _ 4 72 Tryd.underlying25 hi0 hz0 hz1 hz2 rfl (by decide) _ _ _ rfl (HR7.out.own.alloc _) ⟨w7.heap.size, 0, none⟩ 1 1 (RSt.cells ⟨n, wr.heap.size, .slice SA7 (4 + 1) sc7⟩) rfl rfl ?c1 ?c2 ?c3 ?c4 ?c5 ?_)
          case c1 => intro j u hu; exact src_at _ _ 43 _ (by first | rfl | simp) j u (by rw [← HOV.out]; exact hu)
          case c2 => exact HONE.out
          case c3 => unfold maxLen; omega
          case c4 => omega
          case c5 => have := HR7.out.bel.size; first | omega | (simp; omega) | (simp at this ⊢; omega)
          intro v' w9 hown' hgrow _
          obtain ⟨SA9, sc9, rfl⟩ := own_slice hown'
          have hbA : Below ((w7.setCell ⟨wr.heap.size + 1, 2, none⟩ (.slice SA7 (4 + 1) sc7)).setCell ⟨wr.heap.size + 1, 3, none⟩ (.int .i64 50)).heap.size ((w7.setCell ⟨wr.heap.size + 1, 2, none⟩ (.slice SA7 (4 + 1) sc7)).setCell ⟨wr.heap.size + 1, 3, none⟩ (.int .i64 50)) (((w7.setCell ⟨wr.heap.size + 1, 2, none⟩ (.slice SA7 (4 + 1) sc7)).setCell ⟨wr.heap.size + 1, 3, none⟩ (.int .i64 50)).alloc (.cells #[.string ⟨n.toArray⟩, .slice (some ⟨wr.heap.size, 0, none⟩) 4 4, .slice SA7 (4 + 1) sc7, .int .i64 50] 43)) := (Below.refl _ _).alloc (Nat.le_refl _) _
          have HR9 := Lib.hid ((HR7.out.below hbA).more hil' (HB7.out.below hbA) HNM.out hgrow (by rw [hll]; exact hown'))
          have hfb9 := blk_ofType hgrow (fun k hk => own_type (HR7.out.below hbA).own hk) (HR7.out.below hbA).fb (by decide)
          have hc9 : w9.cell? ⟨f, 1, none⟩ = some sv := cell_blk hfb9 1
          have hf9 := frz_blk hfb9 1
          clear hown' hgrow hbA hfb9
          go_wp2_with fail
          go_roundg (14 - (i + 1))
          case measure => omega
          case rel => exact ⟨i + 1, _, _, by omega, by omega, by go_num, HR9.out⟩
    · have hiz : ¬ (i : Int) < 14 := by omega
      obtain rfl : i = 14 := by omega
      obtain ⟨pa, hpa⟩ : ∃ pa : Array Value, pa = #[.int .i64 1000, .int .i64 431, .int .i64 250, .int .i64 40, .int .i64 677, .int .i64 394, .int .i64 686, .int .i64 345, .int .i64 413, .int .i64 363, .int .i64 289, .int .i64 150, .int .i64 247, .int .i64 386, .int .i64 50, .int .i64 70, .int .i64 50, .int .i64 90, .int .i64 500, .int .i64 431] := ⟨_, rfl⟩
      obtain ⟨cs2, hcs2⟩ : ∃ cs2 : Array Value, cs2 = rfC (.slice A RGF.length c) sv := ⟨_, rfl⟩
      obtain ⟨SA, sc, rfl⟩ := own_slice HR.out.own
      have HLL := Lib.hid (HR.out.len (by omega))
      have HT : Hid (wr.there f 2 pa.size) := fun j hj => by
        rw [hpa] at hj
        have hj' : j < 20 := hj
        refine ⟨?_, frz_blk HR.out.fb _⟩
        rw [cell_blk HR.out.fb, Array.getElem?_eq_getElem (by show 2 + j < 22; omega)]; rfl
      have HA1 : Hid (pa.all (·.oneCell') = true) := by show pa.all (·.oneCell') = true; rw [hpa]; simp [Value.oneCell']
      have HI1 : Hid ((Tryd.prog.info? 27).map (·.size) = some pa.size) := by show _ = some pa.size; rw [hpa]; kernel_rfl
      have HA2 : Hid (cs2.all (·.oneCell') = true) := by show cs2.all (·.oneCell') = true; rw [hcs2]; simp [rfC, parL, Value.oneCell']
      have HI2 : Hid ((Tryd.prog.info? 29).map (·.size) = some cs2.size) := by show _ = some cs2.size; rw [hcs2]; kernel_rfl
      have HO2 : Hid ((fC (.slice none 0 0) (.slice none 0 0)).size = cs2.size) := by show _ = cs2.size; rw [hcs2]; rfl
      have hgw := setCells_grown f pa.toList 2 wr
      have hrw : ∀ k, some f = some k → ∃ cs fr, wr.heap[k]? = some (.cells cs 29 fr) := fun k hk => by cases hk; exact ⟨_, _, HR.out.fb⟩
      have HF2 : Hid ((wr.setCells f 2 pa.toList).heap[f]? = some (.cells cs2 29)) := by
        show _ = _
        rw [heap_setCells f 29 pa.toList 2 wr _ HR.out.fb, hcs2, ← setAll_rf, hpa]; rfl
      have HZ2 : Hid ((wr.setCells f 2 pa.toList).heap[w.heap.size]? = some (.cells (fC (.slice none 0 0) (.slice none 0 0)) 29)) := (hgw.block _ (blk_lt HR.out.zb) fun e => HR.out.ne (by cases e; rfl)).trans HR.out.zb
      have HE : Hid (∀ s ∈ l, RBlk ((wr.setCells f 2 pa.toList).setRow w.heap.size cs2) w.heap.size s) := fun s hs => by
        have h1 := (HR.out.blk s hs).grown hgw hrw (by decide) (by decide)
        exact h1.grown (row_grown _ _ _) (fun k hk => by cases hk; exact ⟨_, _, HZ2.out⟩) (by decide) (by decide)
      have HG2 := Lib.hid (own_setRow (own_ofType hgw hrw HR.out.gl (by decide)) HZ2.out (by decide) cs2)
      have HS2 := Lib.hid (own_setRow (own_ofType hgw hrw HR.out.own (by decide)) HZ2.out (by decide) cs2)
      have HB2 := Lib.hid (below_setRow (HR.out.bel.grown hgw HR.out.bel.size (fun k hk => by cases hk; exact HR.out.ge)) (Nat.le_refl _) cs2)
      have HNM : Hid (l.map (·.n) = largeN) := HR.out.nm
      have HPA := Lib.hid hpa
      have HCS2 := Lib.hid hcs2
      clear hgw hrw hpa hcs2 HR
      go_wp2_with (first | (rw [← HPA.out]; with_reducible refine wpList_store_mid rfl 27 (.tmp 70) (.tmp 69) rfl f 2 pa rfl rfl HT.out HI1.out HA1.out ?_) | (with_reducible refine wpList_load_row rfl 29 (.tmp 1) rfl f rfl 29 cs2 (0, 0) _ HF2.out Tryd.underlying29 rfl HI2.out ?_) | (with_reducible refine wpList_store_row rfl 29 (.tmp 0) (.tmp 71) rfl w.heap.size cs2 rfl rfl 29 (fC (.slice none 0 0) (.slice none 0 0)) HZ2.out HI2.out HO2.out HA2.out ?_))
      refine bodyPost_ret (results_cell_row Tryd.results11 _ _ w.heap.size 29 cs2 (0, 0) _ rfl (setRow_heap _ _ _ _ _ _ HZ2.out) Tryd.underlying29 rfl HI2.out) rfl ⟨_, _, l, by rw [HCS2.out], HG2.out, ?_, HNM.out, HE.out, HB2.out⟩
      have := HS2.out
      rw [HLL.out] at this
      rw [HLL.out]
      exact this
end Go.Proofs.YthgkdeaapjdadaaDoor
