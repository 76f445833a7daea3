/- Contract of Font, and the walk of FaceGrowth. -/
import Derived.Test.YthgkdeaapjdadaaDoorStr2
import Derived.Test.YthgkdeaapjdadaaDoorLaid
namespace Go.Proofs.YthgkdeaapjdadaaDoor
open Go.RowKit

/-- what Font returns -/
def fontC (A : Option Addr) (c : Nat) (SA : Option Addr) (sc : Nat) : Array Value := #[.slice A GF.length c, .slice SA 14 sc, .int .i64 1000, .int .i64 431, .int .i64 250, .int .i64 40, .int .i64 677, .int .i64 394, .int .i64 686, .int .i64 345, .int .i64 413, .int .i64 363, .int .i64 289, .int .i64 150, .int .i64 247, .int .i64 386, .int .i64 50, .int .i64 70, .int .i64 50, .int .i64 90, .int .i64 500, .int .i64 431]
theorem fontC_all (A : Option Addr) (c : Nat) (SA : Option Addr) (sc : Nat) : ((fontC A c SA sc).all (·.oneCell')) = true := by simp [fontC, Value.oneCell']
def RetFont (w : World) (e : Ending) (w' : World) : Prop := ∃ A c SA sc l, e = .returned (.agg (fontC A c SA sc)) ∧ w'.ownsRow w.heap.size 32 6 (.slice A GF.length c) GF.length (gcells GF) ∧ Row w' w.heap.size (.slice SA 14 sc) l largeN ∧ Below w.heap.size w w'
theorem row_len {w : World} {base : Nat} {v : Value} {l : List St} {ns : List (List UInt8)} (h : Row w base v l ns) : l.length = ns.length := by rw [← h.nm, List.length_map]

theorem row_other (w : World) (g : Nat) (cs : Array Value) (k : Nat) (h : k ≠ g) : (w.setRow g cs).heap[k]? = w.heap[k]? := by
  simp only [World.setRow, Array.getElem?_modify]
  rw [if_neg (fun e => h e.symm)]
theorem row_grown (w : World) (g : Nat) (cs : Array Value) : w.grownBy (w.setRow g cs) (some g) := ⟨rfl, rfl, rfl, by simp, fun k _ hne => row_other w g cs k (fun e => hne (by rw [e]))⟩
theorem own_setRow {w : World} {base : Nat} {e : TypeId} {size n : Nat} {v : Value} {xs : List Value} (h : w.ownsRow base e size v n xs) {g : Nat} {old : Array Value} {t : TypeId} {fr : Nat × Nat} (hg : w.heap[g]? = some (.cells old t fr)) (ht : t ≠ e) (cs : Array Value) : (w.setRow g cs).ownsRow base e size v n xs :=
  h.kept (row_grown w g cs) (by
    cases hv : v.ownBlock with
    | none => exact .inl rfl
    | some k =>
      right; intro e'; cases e'
      obtain ⟨cs', fr', he⟩ := own_type h hv
      rw [hg] at he; cases he; exact ht rfl)
theorem StBlk.setRow {w : World} {s : St} (h : StBlk w s) {g : Nat} {old : Array Value} {fr : Nat × Nat} (hg : w.heap[g]? = some (.cells old 29 fr)) (cs : Array Value) : StBlk (w.setRow g cs) s := by
  have key : ∀ (k : Nat) (c : Array Value) (t : TypeId) (fr : Nat × Nat), t ≠ 29 → w.heap[k]? = some (Obj.cells c t fr) → (w.setRow g cs).heap[k]? = some (Obj.cells c t fr) := fun k c t fr ht hk =>
    (row_other w g cs k (fun e => by subst e; rw [hg] at hk; cases hk; exact ht rfl)).trans hk
  exact ⟨key _ _ _ _ (by decide) h.sz, fun hc => key _ _ _ _ (by decide) (h.pt hc)⟩
theorem Row.setRow {w : World} {base : Nat} {v : Value} {l : List St} {ns : List (List UInt8)} (h : Row w base v l ns) {g : Nat} {old : Array Value} {fr : Nat × Nat} (hg : w.heap[g]? = some (.cells old 29 fr)) (cs : Array Value) : Row (w.setRow g cs) base v l ns :=
  ⟨own_setRow h.own hg (by decide) cs, h.nm, fun s hs => (h.blk s hs).setRow hg cs, h.ge⟩
theorem below_setRow {B : Nat} {a w : World} (h : Below B a w) {g : Nat} (hg : B ≤ g) (cs : Array Value) : Below B a (w.setRow g cs) :=
  h.trans ⟨rfl, rfl, rfl, by simp, fun k hk => row_other w g cs k (by omega)⟩

set_option maxRecDepth 100000 in
set_option maxHeartbeats 4000000 in
theorem font_any (w : World) : Calls Tryd.prog 14 #[] w (RetFont w) := by
  have HB0 : Hid (Below w.heap.size w (w.alloc (.cells #[.slice none 0 0, .slice none 0 0, .int .i64 0, .int .i64 0, .int .i64 0, .int .i64 0, .int .i64 0, .int .i64 0, .int .i64 0, .int .i64 0, .int .i64 0, .int .i64 0, .int .i64 0, .int .i64 0, .int .i64 0, .int .i64 0, .int .i64 0, .int .i64 0, .int .i64 0, .int .i64 0, .int .i64 0, .int .i64 0] 29))) := Lib.hid ((Below.refl _ _).alloc (Nat.le_refl _) _)
  have HZ := Lib.hid (blk_new w (.cells #[.slice none 0 0, .slice none 0 0, .int .i64 0, .int .i64 0, .int .i64 0, .int .i64 0, .int .i64 0, .int .i64 0, .int .i64 0, .int .i64 0, .int .i64 0, .int .i64 0, .int .i64 0, .int .i64 0, .int .i64 0, .int .i64 0, .int .i64 0, .int .i64 0, .int .i64 0, .int .i64 0, .int .i64 0, .int .i64 0] 29))
  go_enter Tryd.func14, Tryd.ntmps14
  go_wp2_with fail
  refine (glyphs_any _).mono ?_
  rintro e w1 ⟨v, rfl, ho, hb1⟩
  have HO1 := Lib.hid (own_mono ho (base' := w.heap.size) (by simp))
  have HB1 := Lib.hid (HB0.out.trans (hb1.mono HB0.out.size))
  have hs1 := HB1.out.size
  have HZ1 := Lib.hid ((hb1.block _ (by simp)).trans HZ.out)
  clear ho hb1 HB0 HZ
  go_wp2_with fail
  refine (stretches_any _).mono ?_
  rintro e w2 ⟨v2, l, rfl, hr, hb2⟩
  have HR2 : Hid (Row w2 w.heap.size v2 l largeN) := ⟨own_mono hr.own hs1, hr.nm, hr.blk, fun s hs => Nat.le_trans hs1 (hr.ge s hs)⟩
  have HO2 := Lib.hid (own_below HO1.out hb2)
  have HB2 := Lib.hid (HB1.out.trans (hb2.mono hs1))
  have HZ2 := Lib.hid ((hb2.block _ (blk_lt HZ1.out)).trans HZ1.out)
  have hlen : l.length = 14 := row_len hr
  clear hr hb2 HO1 HB1 HZ1
  obtain ⟨A, c, rfl, _, _⟩ := GR.of_own HO2.out
  obtain ⟨SA, sc, hv2⟩ := own_slice HR2.out.own
  rw [hlen] at hv2
  subst hv2
  have hall : (#[Value.slice A GF.length c, .slice SA 14 sc, .int .i64 1000, .int .i64 431, .int .i64 250, .int .i64 40, .int .i64 677, .int .i64 394, .int .i64 686, .int .i64 345, .int .i64 413, .int .i64 363, .int .i64 289, .int .i64 150, .int .i64 247, .int .i64 386, .int .i64 50, .int .i64 70, .int .i64 50, .int .i64 90, .int .i64 500, .int .i64 431].all (·.oneCell')) = true := by simp [Value.oneCell']
  go_wp2_with (with_reducible refine wpList_store_row rfl 29 (.tmp 0) (.tmp 4) rfl w.heap.size #[.slice A GF.length c, .slice SA 14 sc, .int .i64 1000, .int .i64 431, .int .i64 250, .int .i64 40, .int .i64 677, .int .i64 394, .int .i64 686, .int .i64 345, .int .i64 413, .int .i64 363, .int .i64 289, .int .i64 150, .int .i64 247, .int .i64 386, .int .i64 50, .int .i64 70, .int .i64 50, .int .i64 90, .int .i64 500, .int .i64 431] rfl rfl 29 #[.slice none 0 0, .slice none 0 0, .int .i64 0, .int .i64 0, .int .i64 0, .int .i64 0, .int .i64 0, .int .i64 0, .int .i64 0, .int .i64 0, .int .i64 0, .int .i64 0, .int .i64 0, .int .i64 0, .int .i64 0, .int .i64 0, .int .i64 0, .int .i64 0, .int .i64 0, .int .i64 0, .int .i64 0, .int .i64 0] HZ2.out (by kernel_rfl) rfl hall ?_)
  exact bodyPost_ret (results_cell_row Tryd.results14 _ _ w.heap.size 29 #[.slice A GF.length c, .slice SA 14 sc, .int .i64 1000, .int .i64 431, .int .i64 250, .int .i64 40, .int .i64 677, .int .i64 394, .int .i64 686, .int .i64 345, .int .i64 413, .int .i64 363, .int .i64 289, .int .i64 150, .int .i64 247, .int .i64 386, .int .i64 50, .int .i64 70, .int .i64 50, .int .i64 90, .int .i64 500, .int .i64 431] (0, 0) _ rfl (setRow_heap _ _ _ _ _ _ HZ2.out) Tryd.underlying29 rfl (by kernel_rfl)) rfl ⟨A, c, SA, sc, l, rfl, own_setRow HO2.out HZ2.out (by decide) _, HR2.out.setRow HZ2.out _, below_setRow HB2.out (Nat.le_refl _) _⟩
end Go.Proofs.YthgkdeaapjdadaaDoor
