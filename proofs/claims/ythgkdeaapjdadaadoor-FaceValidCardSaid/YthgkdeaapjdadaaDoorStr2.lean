/- Contracts of stretches and of Font. -/
import Derived.Test.YthgkdeaapjdadaaDoorStr
namespace Go.Proofs.YthgkdeaapjdadaaDoor
open Go.RowKit

structure St where
  n : List UInt8
  sb : Nat
  pb : Nat
def ov (n : List UInt8) : Int := if asmN.contains n then 50 else 0
def sizeC (n : List UInt8) : Array Value := #[.string ⟨n.toArray⟩, .string (⟨n.toArray⟩ ++ ⟨#[49]⟩), .string (⟨n.toArray⟩ ++ ⟨#[50]⟩), .string (⟨n.toArray⟩ ++ ⟨#[51]⟩)]
def St.cells (s : St) : List Value := [.string ⟨s.n.toArray⟩, .slice (some ⟨s.sb, 0, none⟩) 4 4, pv s.n s.pb, .int .i64 (ov s.n)]
def scells (l : List St) : List Value := l.flatMap St.cells
theorem scells_len (l : List St) : (scells l).length = l.length * 4 := by
  induction l with
  | nil => rfl
  | cons e l ih => unfold scells at ih ⊢; rw [List.flatMap_cons, List.length_append, ih, List.length_cons]; simp [St.cells]; omega
theorem scells_append (l l' : List St) : scells (l ++ l') = scells l ++ scells l' := by simp [scells]
theorem scells_one (e : St) : scells [e] = e.cells := by simp [scells]
theorem scells_at (l : List St) : ∀ (i j : Nat) (e : St), l[i]? = some e → j < 4 → (scells l)[i * 4 + j]? = e.cells[j]? := by
  induction l with
  | nil => intro i j e h; simp at h
  | cons a l ih =>
    intro i j e h hj
    rw [show scells (a :: l) = a.cells ++ scells l from by simp [scells]]
    cases i with
    | zero =>
      cases h
      rw [Nat.zero_mul, Nat.zero_add, List.getElem?_append_left (by simp [St.cells]; omega)]
    | succ i =>
      rw [List.getElem?_append_right (by simp [St.cells]; omega)]
      have : (i + 1) * 4 + j - a.cells.length = i * 4 + j := by simp [St.cells]; omega
      rw [this]
      exact ih i j e h hj
theorem pv_one (n : List UInt8) (pb : Nat) : (pv n pb).oneCell' = true := by unfold pv; split <;> rfl
theorem scells_oneCell (l : List St) : ∀ u ∈ scells l, u.oneCell' = true := by
  intro u hu
  obtain ⟨e, _, he⟩ := List.mem_flatMap.1 hu
  simp only [St.cells, List.mem_cons, List.not_mem_nil, or_false] at he
  rcases he with rfl | rfl | rfl | rfl
  · rfl
  · rfl
  · exact pv_one _ _
  · rfl
/-- the blocks of a stretch -/
structure StBlk (w : World) (s : St) : Prop where
  sz : w.heap[s.sb]? = some (.cells (sizeC s.n) 9)
  pt : asmN.contains s.n = true → w.heap[s.pb]? = some (.cells (partC s.n) 63)
theorem blk_lt {w : World} {k : Nat} {o : Obj} (h : w.heap[k]? = some o) : k < w.heap.size := by
  rcases Nat.lt_or_ge k w.heap.size with h' | h'
  · exact h'
  · rw [Array.getElem?_eq_none h'] at h; cases h
theorem StBlk.below {w w' : World} {s : St} (h : StBlk w s) (hb : Below w.heap.size w w') : StBlk w' s :=
  ⟨(hb.block _ (blk_lt h.sz)).trans h.sz, fun hc => (hb.block _ (blk_lt (h.pt hc))).trans (h.pt hc)⟩
theorem StBlk.grown {w w' : World} {row : Option Nat} {s : St} (h : StBlk w s) (hg : w.grownBy w' row) (hr : ∀ k, row = some k → ∃ cs fr, w.heap[k]? = some (.cells cs 43 fr)) : StBlk w' s := by
  have key : ∀ (k : Nat) (cs : Array Value) (t : TypeId) (fr : Nat × Nat), t ≠ 43 → w.heap[k]? = some (Obj.cells cs t fr) → w'.heap[k]? = some (Obj.cells cs t fr) := fun k cs t fr ht hk => by
    refine (hg.block k (blk_lt hk) fun e => ?_).trans hk
    obtain ⟨cs', fr', he⟩ := hr k e.symm
    rw [hk] at he; cases he; exact ht rfl
  exact ⟨key _ _ _ _ (by decide) h.sz, fun hc => key _ _ _ _ (by decide) (h.pt hc)⟩
theorem st_info : (Tryd.prog.info? 43).map (fun i => (i.zero, i.size, i.bytes)) = some (some (.agg #[.string ⟨#[]⟩, .slice none 0 0, .slice none 0 0, .int .i64 0]), 4, 72) := by kernel_rfl
theorem own_slice {w : World} {base : Nat} {e : TypeId} {size n : Nat} {v : Value} {xs : List Value} (h : w.ownsRow base e size v n xs) : ∃ A c, v = .slice A n c := by
  rcases h.2 with ⟨rfl, hn⟩ | ⟨g, cap, cur, rfl, _⟩
  · subst hn; exact ⟨_, _, rfl⟩
  · exact ⟨_, _, rfl⟩
/-- a row of stretches with the names ns -/
structure Row (w : World) (base : Nat) (v : Value) (l : List St) (ns : List (List UInt8)) : Prop where
  own : w.ownsRow base 43 4 v l.length (scells l)
  nm : l.map (·.n) = ns
  blk : ∀ s ∈ l, StBlk w s
  ge : ∀ s ∈ l, base ≤ s.sb
theorem Row.below {w w' : World} {base : Nat} {v : Value} {l : List St} {ns : List (List UInt8)} (h : Row w base v l ns) (hb : Below w.heap.size w w') : Row w' base v l ns :=
  ⟨own_below h.own hb, h.nm, fun s hs => (h.blk s hs).below hb, h.ge⟩
def RetSt (w : World) (ns : List (List UInt8)) (e : Ending) (w' : World) : Prop := ∃ v l, e = .returned v ∧ Row w' w.heap.size v l ns ∧ Below w.heap.size w w'

set_option maxRecDepth 100000 in
set_option maxHeartbeats 8000000 in
theorem stretches_any (w : World) : Calls Tryd.prog 28 #[] w (RetSt w largeN) := by
  obtain ⟨i0, hi0, hz0, hz1, hz2⟩ := info_parts st_info
  have HB0 : Hid (Below w.heap.size w (w.alloc (.cells (strC largeN) 9))) := Lib.hid ((Below.refl _ _).alloc (Nat.le_refl _) _)
  have HN0 := Lib.hid (blk_new w (.cells (strC largeN) 9))
  go_enter Tryd.func28, Tryd.ntmps28
  go_wp2_with fail
  refine (large_any _).mono ?_
  rintro e w1 ⟨rfl, hw1⟩
  rw [hw1] at HB0 HN0
  clear hw1
  go_wp2_with fail
  go_loopg [7, 1, 3, 4] 14 (fun gg s7 s1 _ _ wr => ∃ (i : Nat) (l : List St), i ≤ 14 ∧ 14 - i ≤ gg ∧ s7 = .int .i64 i ∧ Aside (l.length = i ∧ Row wr w.heap.size s1 l (largeN.take i)) ∧ Aside (Below w.heap.size w wr) ∧ Aside (wr.heap[w.heap.size]? = some (.cells (strC largeN) 9)))
  case atStart => exact ⟨0, [], by omega, by omega, rfl, ⟨rfl, ⟨World.ownsRow_nil _ _ _ _, rfl, by simp, by simp⟩⟩, HB0.out, HN0.out⟩
  case round =>
    obtain ⟨i, l, hi, hgg, rfl, HR, HBr, HNr⟩ := hrel
    clear HB0 HN0
    have hll := HR.out.1
    by_cases hil : i < 14
    · have hiz : (i : Int) < 14 := by omega
      have hil' : i < largeN.length := hil
      obtain ⟨_, _, _, q4⟩ := gs_bnd i hil'
      have HS : Hid (largeN.take (i + 1) = largeN.take i ++ [largeN[i]]) := List.take_succ_eq_append_getElem hil'
      have hc := (cell_blk HNr.out i).trans (strC_at largeN i hil')
      obtain ⟨n, hn⟩ : ∃ n, n = largeN[i] := ⟨_, rfl⟩
      rw [← hn] at q4 HS hc
      have hsr := HBr.out.size
      have HW : Hid (Below wr.heap.size wr (wr.alloc (.cells #[.string ⟨n.toArray⟩, .string (⟨n.toArray⟩ ++ ⟨#[49]⟩), .string (⟨n.toArray⟩ ++ ⟨#[50]⟩), .string (⟨n.toArray⟩ ++ ⟨#[51]⟩)] 9))) := Lib.hid ((Below.refl _ _).alloc (Nat.le_refl _) _)
      have HZ := Lib.hid (blk_new wr (.cells #[.string ⟨n.toArray⟩, .string (⟨n.toArray⟩ ++ ⟨#[49]⟩), .string (⟨n.toArray⟩ ++ ⟨#[50]⟩), .string (⟨n.toArray⟩ ++ ⟨#[51]⟩)] 9))
      have HLL := Lib.hid hll
      clear hn hll
      go_wp2_with fail
      refine (parts_any n _ q4).mono ?_
      rintro e w2 ⟨pb, rfl, hpt, hb2⟩
      have hb12 := HW.out.trans (hb2.mono HW.out.size)
      have HR2 := Lib.hid (HR.out.2.below hb12)
      have HB2 := Lib.hid (HBr.out.trans (hb12.mono hsr))
      have HN2 : Hid (w2.heap[w.heap.size]? = some (.cells (strC largeN) 9)) := (hb12.block _ (blk_lt HNr.out)).trans HNr.out
      have HS2 : Hid (StBlk w2 ⟨n, wr.heap.size, pb⟩) := ⟨(hb2.block _ (by simp)).trans HZ.out, hpt⟩
      have hs2 := HB2.out.size
      have hsw : wr.heap.size < w2.heap.size := by have := hb2.size; simp at this; omega
      clear hb2 hb12 hpt hc HW HZ HBr HNr HR
      cases hcon : asmN.contains n
      case false =>
        have HPV : Hid (pv n pb = .slice none 0 0) := by show pv n pb = _; unfold pv; rw [hcon]; rfl
        have HOV : Hid (ov n = 0) := by show ov n = _; unfold ov; rw [hcon]; rfl
        rw [HPV.out]
        go_wp2_with (at_builtin; refine wpList_append_own _ rfl _ _ 25 rfl w.heap.size 43 i0 _ 4 72 Tryd.underlying25 hi0 hz0 hz1 hz2 rfl (by decide) _ _ _ rfl ((HR2.out.own.alloc _).alloc _) ⟨w2.heap.size + 1, 0, none⟩ 1 1 (St.cells ⟨n, wr.heap.size, pb⟩) rfl rfl ?c1 ?c2 ?c3 ?c4 ?c5 ?_)
        case c1 =>
          intro j u hu
          rw [addr_add']
          have hj : j < 4 := by have := (List.getElem?_eq_some_iff.1 hu).1; simpa [St.cells] using this
          have hm : j = 0 ∨ j = 1 ∨ j = 2 ∨ j = 3 := by omega
          unfold St.cells at hu
          rw [HPV.out, HOV.out] at hu
          rcases hm with rfl | rfl | rfl | rfl <;> (simp at hu; subst hu; simp)
        case c2 => intro u hu; exact scells_oneCell [⟨n, wr.heap.size, pb⟩] u (by rw [scells_one]; exact hu)
        case c3 => unfold maxLen; have := HLL.out; omega
        case c4 => have := HLL.out; omega
        case c5 => simp; omega
        intro v' w5 hown' hgrow _
        have hbA : Below w2.heap.size w2 ((w2.alloc (.cells #[.string ⟨n.toArray⟩, .slice (some ⟨wr.heap.size, 0, none⟩) 4 4, .slice none 0 0, .int .i64 0] 43)).alloc (.cells #[.string ⟨n.toArray⟩, .slice (some ⟨wr.heap.size, 0, none⟩) 4 4, .slice none 0 0, .int .i64 0] 43)) := ((Below.refl _ _).alloc (Nat.le_refl _) _).alloc (by simp) _
        have hrow : ∀ k, u1.ownBlock = some k → ∃ cs fr, ((w2.alloc (.cells #[.string ⟨n.toArray⟩, .slice (some ⟨wr.heap.size, 0, none⟩) 4 4, .slice none 0 0, .int .i64 0] 43)).alloc (.cells #[.string ⟨n.toArray⟩, .slice (some ⟨wr.heap.size, 0, none⟩) 4 4, .slice none 0 0, .int .i64 0] 43)).heap[k]? = some (.cells cs 43 fr) := fun k hk => own_type (own_below HR2.out.own hbA) hk
        have HR5 : Hid (Row w5 w.heap.size v' (l ++ [⟨n, wr.heap.size, pb⟩]) (largeN.take (i + 1))) := by
          refine ⟨?_, ?_, ?_, ?_⟩
          · rw [scells_append, scells_one, List.length_append]; exact hown'
          · rw [List.map_append, HR2.out.nm, HS.out]; rfl
          · intro s hs
            rcases List.mem_append.1 hs with hs | hs
            · exact ((HR2.out.blk s hs).below hbA).grown hgrow hrow
            · rw [List.mem_singleton] at hs; subst hs; exact (HS2.out.below hbA).grown hgrow hrow
          · intro s hs
            rcases List.mem_append.1 hs with hs | hs
            · exact HR2.out.ge s hs
            · rw [List.mem_singleton] at hs; subst hs; exact hsr
        have HB5 := Lib.hid ((HB2.out.trans (hbA.mono hs2)).grown hgrow (by simp; omega) (fun k hk => by have := (HR2.out.own.lt k hk).1; omega))
        have HN5 : Hid (w5.heap[w.heap.size]? = some (.cells (strC largeN) 9)) := by
          have h0 : ((w2.alloc (.cells #[.string ⟨n.toArray⟩, .slice (some ⟨wr.heap.size, 0, none⟩) 4 4, .slice none 0 0, .int .i64 0] 43)).alloc (.cells #[.string ⟨n.toArray⟩, .slice (some ⟨wr.heap.size, 0, none⟩) 4 4, .slice none 0 0, .int .i64 0] 43)).heap[w.heap.size]? = some (.cells (strC largeN) 9) := (hbA.block _ (blk_lt HN2.out)).trans HN2.out
          refine (hgrow.block _ (blk_lt h0) fun e => ?_).trans h0
          obtain ⟨cs', fr', he⟩ := hrow _ e.symm
          rw [h0] at he; cases he
        clear hown' hgrow hbA hrow
        go_wp2_with fail
        go_roundg (14 - (i + 1))
        case measure => omega
        case rel => exact ⟨i + 1, l ++ [⟨n, wr.heap.size, pb⟩], by omega, by omega, by go_num, ⟨by rw [List.length_append, HLL.out]; rfl, HR5.out⟩, HB5.out, HN5.out⟩
      case true =>
        have HPV : Hid (pv n pb = .slice (some ⟨pb, 0, none⟩) (pk n) (pk n)) := by show pv n pb = _; unfold pv; rw [hcon]; rfl
        have HOV : Hid (ov n = 50) := by show ov n = _; unfold ov; rw [hcon]; rfl
        rw [HPV.out]
        have hpk : 0 < pk n := by unfold pk; split <;> omega
        have hpk5 : pk n ≤ 5 := by unfold pk; split <;> omega
        have hpkz : (0 : Int) < (pk n : Int) := by omega
        go_wp2_with (at_builtin; refine wpList_append_own _ rfl _ _ 25 rfl w.heap.size 43 i0 _ 4 72 Tryd.underlying25 hi0 hz0 hz1 hz2 rfl (by decide) _ _ _ rfl ((HR2.out.own.alloc _).alloc _) ⟨w2.heap.size + 1, 0, none⟩ 1 1 (St.cells ⟨n, wr.heap.size, pb⟩) rfl rfl ?c1 ?c2 ?c3 ?c4 ?c5 ?_)
        case c1 =>
          intro j u hu
          rw [addr_add']
          have hj : j < 4 := by have := (List.getElem?_eq_some_iff.1 hu).1; simpa [St.cells] using this
          have hm : j = 0 ∨ j = 1 ∨ j = 2 ∨ j = 3 := by omega
          unfold St.cells at hu
          rw [HPV.out, HOV.out] at hu
          rcases hm with rfl | rfl | rfl | rfl <;> (simp at hu; subst hu; simp)
        case c2 => intro u hu; exact scells_oneCell [⟨n, wr.heap.size, pb⟩] u (by rw [scells_one]; exact hu)
        case c3 => unfold maxLen; have := HLL.out; omega
        case c4 => have := HLL.out; omega
        case c5 => simp; omega
        intro v' w5 hown' hgrow _
        have hbA : Below w2.heap.size w2 ((w2.alloc (.cells #[.string ⟨n.toArray⟩, .slice (some ⟨wr.heap.size, 0, none⟩) 4 4, .slice (some ⟨pb, 0, none⟩) (pk n) (pk n), .int .i64 50] 43)).alloc (.cells #[.string ⟨n.toArray⟩, .slice (some ⟨wr.heap.size, 0, none⟩) 4 4, .slice (some ⟨pb, 0, none⟩) (pk n) (pk n), .int .i64 50] 43)) := ((Below.refl _ _).alloc (Nat.le_refl _) _).alloc (by simp) _
        have hrow : ∀ k, u1.ownBlock = some k → ∃ cs fr, ((w2.alloc (.cells #[.string ⟨n.toArray⟩, .slice (some ⟨wr.heap.size, 0, none⟩) 4 4, .slice (some ⟨pb, 0, none⟩) (pk n) (pk n), .int .i64 50] 43)).alloc (.cells #[.string ⟨n.toArray⟩, .slice (some ⟨wr.heap.size, 0, none⟩) 4 4, .slice (some ⟨pb, 0, none⟩) (pk n) (pk n), .int .i64 50] 43)).heap[k]? = some (.cells cs 43 fr) := fun k hk => own_type (own_below HR2.out.own hbA) hk
        have HR5 : Hid (Row w5 w.heap.size v' (l ++ [⟨n, wr.heap.size, pb⟩]) (largeN.take (i + 1))) := by
          refine ⟨?_, ?_, ?_, ?_⟩
          · rw [scells_append, scells_one, List.length_append]; exact hown'
          · rw [List.map_append, HR2.out.nm, HS.out]; rfl
          · intro s hs
            rcases List.mem_append.1 hs with hs | hs
            · exact ((HR2.out.blk s hs).below hbA).grown hgrow hrow
            · rw [List.mem_singleton] at hs; subst hs; exact (HS2.out.below hbA).grown hgrow hrow
          · intro s hs
            rcases List.mem_append.1 hs with hs | hs
            · exact HR2.out.ge s hs
            · rw [List.mem_singleton] at hs; subst hs; exact hsr
        have HB5 := Lib.hid ((HB2.out.trans (hbA.mono hs2)).grown hgrow (by simp; omega) (fun k hk => by have := (HR2.out.own.lt k hk).1; omega))
        have HN5 : Hid (w5.heap[w.heap.size]? = some (.cells (strC largeN) 9)) := by
          have h0 : ((w2.alloc (.cells #[.string ⟨n.toArray⟩, .slice (some ⟨wr.heap.size, 0, none⟩) 4 4, .slice (some ⟨pb, 0, none⟩) (pk n) (pk n), .int .i64 50] 43)).alloc (.cells #[.string ⟨n.toArray⟩, .slice (some ⟨wr.heap.size, 0, none⟩) 4 4, .slice (some ⟨pb, 0, none⟩) (pk n) (pk n), .int .i64 50] 43)).heap[w.heap.size]? = some (.cells (strC largeN) 9) := (hbA.block _ (blk_lt HN2.out)).trans HN2.out
          refine (hgrow.block _ (blk_lt h0) fun e => ?_).trans h0
          obtain ⟨cs', fr', he⟩ := hrow _ e.symm
          rw [h0] at he; cases he
        clear hown' hgrow hbA hrow
        go_wp2_with fail
        go_roundg (14 - (i + 1))
        case measure => omega
        case rel => exact ⟨i + 1, l ++ [⟨n, wr.heap.size, pb⟩], by omega, by omega, by go_num, ⟨by rw [List.length_append, HLL.out]; rfl, HR5.out⟩, HB5.out, HN5.out⟩
    · have hiz : ¬ (i : Int) < 14 := by omega
      obtain rfl : i = 14 := by omega
      go_wp2_with fail
      go_ret
      exact ⟨_, _, rfl, HR.out.2, HBr.out⟩
end Go.Proofs.YthgkdeaapjdadaaDoor
