/- Contracts of the reference's group and Default. -/
import Derived.Test.YthhnbfndmjpdgaaDoorOdFind
namespace Go.Proofs.YthhnbfndmjpdgaaDoor
open Go.RowKit

set_option maxRecDepth 100000 in
set_option maxHeartbeats 2000000 in
theorem group_any (C : Int) (L S : Bool) (F : List (List UInt8)) (fb : Nat) (w : World) (hN : w.heap[fb]? = some (.cells (strC F) 9)) (hF : F.length ≤ 20) :
    Calls Tryd.prog 11 #[.int .i64 C, .bool L, .bool S, .slice (some ⟨fb, 0, none⟩) F.length F.length] w (RetDef w (grpE C L S F)) := by
  obtain ⟨i0, hi0, hz0, hz1, hz2⟩ := info_parts en_info
  have HN := Lib.hid hN
  clear hN
  go_enter Tryd.func11, Tryd.ntmps11
  go_wp2_with fail
  go_loopg [10, 9] F.length (fun gg s10 s9 wr => ∃ k : Nat, k ≤ F.length ∧ F.length - k ≤ gg ∧ s10 = .int .i64 k ∧ Aside (wr.ownsRow w.heap.size 27 4 s9 (grpE C L S (F.take k)).length (ncells (grpE C L S (F.take k)))) ∧ Aside (Below w.heap.size w wr))
  case atStart => exact ⟨0, by omega, by omega, rfl, World.ownsRow_nil _ _ _ _, Below.refl _ _⟩
  case round =>
    obtain ⟨k, hk, hg2, rfl, HO3, HB3⟩ := hrel
    by_cases hkF : k < F.length
    · have hkz : (k : Int) < (F.length : Int) := by omega
      have hN3 : wr.heap[fb]? = some (.cells (strC F) 9) := (HB3.out.block _ (blk_lt HN.out)).trans HN.out
      have hc := (cell_blk hN3 k).trans (strC_at F k hkF)
      have HGS := Lib.hid (grp_succ C L S F k hkF)
      have hs3 := HB3.out.size
      have HLL : Hid ((grpE C L S (F.take k)).length ≤ 100) := by show _ ≤ 100; unfold grpE; rw [List.length_map, List.length_take]; omega
      obtain ⟨t, htt⟩ : ∃ t, t = F[k] := ⟨_, rfl⟩
      rw [← htt] at hc HGS
      clear htt hN3
      go_wp2_with (at_builtin; refine wpList_append_own _ rfl _ _ 23 rfl w.heap.size 27 i0 _ 4 32 Tryd.underlying23 hi0 hz0 hz1 hz2 rfl (by decide) _ _ _ rfl (HO3.out.alloc _) ⟨wr.heap.size, 0, none⟩ 1 1 (En.cells ⟨t, C, L, S⟩) rfl rfl ?c1 ?c2 ?c3 ?c4 ?c5 ?_)
      case c1 =>
        intro j u hu
        rw [addr_add']
        have hj : j < 4 := by have := (List.getElem?_eq_some_iff.1 hu).1; simpa [En.cells] using this
        have hm : j = 0 ∨ j = 1 ∨ j = 2 ∨ j = 3 := by omega
        unfold En.cells at hu
        rcases hm with rfl | rfl | rfl | rfl <;> (simp at hu; subst hu; simp)
      case c2 => intro u hu; exact ncells_oneCell [⟨t, C, L, S⟩] u (by rw [ncells_one]; exact hu)
      case c3 => unfold maxLen; have := HLL.out; omega
      case c4 => have := HLL.out; omega
      case c5 => simp; omega
      intro v' w5 hown' hgrow _
      have hbA : Below wr.heap.size wr (wr.alloc (.cells #[.string ⟨t.toArray⟩, .int .i64 C, .bool L, .bool S] 27)) := (Below.refl _ _).alloc (Nat.le_refl _) _
      have HO5 : Hid (w5.ownsRow w.heap.size 27 4 v' (grpE C L S (F.take (k + 1))).length (ncells (grpE C L S (F.take (k + 1))))) := by
        show World.ownsRow _ _ _ _ _ _ _
        rw [HGS.out, ncells_append, ncells_one, List.length_append]; exact hown'
      have HB5 := Lib.hid ((HB3.out.trans (hbA.mono hs3)).grown hgrow (by simp; omega) (fun k hk => by have := (HO3.out.lt k hk).1; omega))
      clear hown' hgrow hbA hc
      go_wp2_with fail
      go_roundg (F.length - (k + 1))
      case measure => omega
      case rel => exact ⟨k + 1, by omega, by omega, by go_num, HO5.out, HB5.out⟩
    · have hkz : ¬ (k : Int) < (F.length : Int) := by omega
      have HTK : Hid (F.take k = F) := List.take_of_length_le (by omega)
      go_wp2_with fail
      go_ret
      exact ⟨_, rfl, (by have := HO3.out; rw [HTK.out] at this; exact this), HB3.out⟩
theorem grp_len (C : Int) (L S : Bool) (F : List (List UInt8)) : (grpE C L S F).length = F.length := by unfold grpE; rw [List.length_map]

set_option maxRecDepth 100000 in
set_option maxHeartbeats 8000000 in
theorem refDefault_any (w0 : World) : Calls Tryd.prog 7 #[] w0 (RetDef w0 DF) := by
  obtain ⟨i0, hi0, hz0, hz1, hz2⟩ := info_parts en_info
  have HO0 : Hid (w0.ownsRow w0.heap.size 27 4 (.slice none 0 0) (defL.take 0).flatten.length (ncells (defL.take 0).flatten)) := Lib.hid (World.ownsRow_nil _ _ _ _)
  have HB0 : Hid (Below w0.heap.size w0 w0) := Lib.hid (Below.refl _ _)
  go_enter Tryd.func7, Tryd.ntmps7
  have hs0 := HB0.out.size
  have hal : Below w0.heap.size w0 (w0.alloc (.cells (strC [[43], [45], [42], [99, 100, 111, 116], [116, 105, 109, 101, 115], [112, 109], [99, 117, 112], [99, 97, 112]]) 9)) := (Below.refl _ _).alloc (Nat.le_refl _) _
  have HL : Hid ((defL.take 0).flatten.length ≤ 40) := by show _ ≤ 40; decide +kernel
  have HAL := Lib.hid hal
  clear hal
  go_wp2_with fail
  refine (group_any 2 false false [[43], [45], [42], [99, 100, 111, 116], [116, 105, 109, 101, 115], [112, 109], [99, 117, 112], [99, 97, 112]] w0.heap.size _ (blk_new w0 (.cells (strC [[43], [45], [42], [99, 100, 111, 116], [116, 105, 109, 101, 115], [112, 109], [99, 117, 112], [99, 97, 112]]) 9)) (by decide)).mono ?_
  rintro e x0 ⟨y0, rfl, ho, hb⟩
  have hbx := HAL.out.trans (hb.mono HAL.out.size)
  have HOx := Lib.hid (own_below HO0.out hbx)
  have HBx := Lib.hid (HB0.out.trans (hbx.mono hs0))
  have hsx := HBx.out.size
  rw [grp_len, show ([[43], [45], [42], [99, 100, 111, 116], [116, 105, 109, 101, 115], [112, 109], [99, 117, 112], [99, 97, 112]] : List (List UInt8)).length = 8 from rfl] at ho
  obtain ⟨A, cp, rfl⟩ := own_slice ho
  obtain ⟨g, rfl⟩ : ∃ g, A = some ⟨g, 0, none⟩ := by
    rcases ho.2 with ⟨_, h0⟩ | ⟨g, cap, _, h', _⟩
    · cases h0
    · cases h'; exact ⟨g, rfl⟩
  have HY := Lib.hid (ho.cells (g := g) rfl)
  have HD : Hid ((defL.take 1).flatten = (defL.take 0).flatten ++ grpE 2 false false [[43], [45], [42], [99, 100, 111, 116], [116, 105, 109, 101, 115], [112, 109], [99, 117, 112], [99, 97, 112]]) := def_succ 0 (by decide)
  clear ho hb hbx HAL
  go_wp2_with (at_builtin; refine wpList_append_own _ rfl _ _ 23 rfl w0.heap.size 27 i0 _ 4 32 Tryd.underlying23 hi0 hz0 hz1 hz2 rfl (by decide) _ _ _ rfl HOx.out ⟨g, 0, none⟩ 8 cp (ncells (grpE 2 false false [[43], [45], [42], [99, 100, 111, 116], [116, 105, 109, 101, 115], [112, 109], [99, 117, 112], [99, 97, 112]])) rfl (by rw [ncells_len, grp_len]; rfl) HY.out (ncells_oneCell _) ?c3 ?c4 hsx ?_)
  case c3 => unfold maxLen; have := HL.out; omega
  case c4 => have := HL.out; omega
  intro z1 w1 hown' hgrow _
  have HO1 : Hid (w1.ownsRow w0.heap.size 27 4 z1 (defL.take 1).flatten.length (ncells (defL.take 1).flatten)) := by
    show World.ownsRow _ _ _ _ _ _ _
    rw [HD.out, ncells_append, List.length_append, grp_len]; exact hown'
  have HB1 := Lib.hid (HBx.out.grown hgrow hsx (fun k hk => (HOx.out.lt k hk).1))
  clear hown' hgrow HOx HBx hsx HY HD HL HO0 HB0 hs0
  have hs1 := HB1.out.size
  have hal : Below w1.heap.size w1 (w1.alloc (.cells (strC [[61], [60], [62], [58], [126], [108, 101], [103, 101], [110, 101], [116, 111], [105, 110], [115, 117, 98, 115, 101, 116]]) 9)) := (Below.refl _ _).alloc (Nat.le_refl _) _
  have HL : Hid ((defL.take 1).flatten.length ≤ 40) := by show _ ≤ 40; decide +kernel
  have HAL := Lib.hid hal
  clear hal
  go_wp2_with fail
  refine (group_any 3 false false [[61], [60], [62], [58], [126], [108, 101], [103, 101], [110, 101], [116, 111], [105, 110], [115, 117, 98, 115, 101, 116]] w1.heap.size _ (blk_new w1 (.cells (strC [[61], [60], [62], [58], [126], [108, 101], [103, 101], [110, 101], [116, 111], [105, 110], [115, 117, 98, 115, 101, 116]]) 9)) (by decide)).mono ?_
  rintro e x1 ⟨y1, rfl, ho, hb⟩
  have hbx := HAL.out.trans (hb.mono HAL.out.size)
  have HOx := Lib.hid (own_below HO1.out hbx)
  have HBx := Lib.hid (HB1.out.trans (hbx.mono hs1))
  have hsx := HBx.out.size
  rw [grp_len, show ([[61], [60], [62], [58], [126], [108, 101], [103, 101], [110, 101], [116, 111], [105, 110], [115, 117, 98, 115, 101, 116]] : List (List UInt8)).length = 11 from rfl] at ho
  obtain ⟨A, cp, rfl⟩ := own_slice ho
  obtain ⟨g, rfl⟩ : ∃ g, A = some ⟨g, 0, none⟩ := by
    rcases ho.2 with ⟨_, h0⟩ | ⟨g, cap, _, h', _⟩
    · cases h0
    · cases h'; exact ⟨g, rfl⟩
  have HY := Lib.hid (ho.cells (g := g) rfl)
  have HD : Hid ((defL.take 2).flatten = (defL.take 1).flatten ++ grpE 3 false false [[61], [60], [62], [58], [126], [108, 101], [103, 101], [110, 101], [116, 111], [105, 110], [115, 117, 98, 115, 101, 116]]) := def_succ 1 (by decide)
  clear ho hb hbx HAL
  go_wp2_with (at_builtin; refine wpList_append_own _ rfl _ _ 23 rfl w0.heap.size 27 i0 _ 4 32 Tryd.underlying23 hi0 hz0 hz1 hz2 rfl (by decide) _ _ _ rfl HOx.out ⟨g, 0, none⟩ 11 cp (ncells (grpE 3 false false [[61], [60], [62], [58], [126], [108, 101], [103, 101], [110, 101], [116, 111], [105, 110], [115, 117, 98, 115, 101, 116]])) rfl (by rw [ncells_len, grp_len]; rfl) HY.out (ncells_oneCell _) ?c3 ?c4 hsx ?_)
  case c3 => unfold maxLen; have := HL.out; omega
  case c4 => have := HL.out; omega
  intro z2 w2 hown' hgrow _
  have HO2 : Hid (w2.ownsRow w0.heap.size 27 4 z2 (defL.take 2).flatten.length (ncells (defL.take 2).flatten)) := by
    show World.ownsRow _ _ _ _ _ _ _
    rw [HD.out, ncells_append, List.length_append, grp_len]; exact hown'
  have HB2 := Lib.hid (HBx.out.grown hgrow hsx (fun k hk => (HOx.out.lt k hk).1))
  clear hown' hgrow HOx HBx hsx HY HD HL HO1 HB1 hs1
  have hs2 := HB2.out.size
  have hal : Below w2.heap.size w2 (w2.alloc (.cells (strC [[44], [59]]) 9)) := (Below.refl _ _).alloc (Nat.le_refl _) _
  have HL : Hid ((defL.take 2).flatten.length ≤ 40) := by show _ ≤ 40; decide +kernel
  have HAL := Lib.hid hal
  clear hal
  go_wp2_with fail
  refine (group_any 6 false false [[44], [59]] w2.heap.size _ (blk_new w2 (.cells (strC [[44], [59]]) 9)) (by decide)).mono ?_
  rintro e x2 ⟨y2, rfl, ho, hb⟩
  have hbx := HAL.out.trans (hb.mono HAL.out.size)
  have HOx := Lib.hid (own_below HO2.out hbx)
  have HBx := Lib.hid (HB2.out.trans (hbx.mono hs2))
  have hsx := HBx.out.size
  rw [grp_len, show ([[44], [59]] : List (List UInt8)).length = 2 from rfl] at ho
  obtain ⟨A, cp, rfl⟩ := own_slice ho
  obtain ⟨g, rfl⟩ : ∃ g, A = some ⟨g, 0, none⟩ := by
    rcases ho.2 with ⟨_, h0⟩ | ⟨g, cap, _, h', _⟩
    · cases h0
    · cases h'; exact ⟨g, rfl⟩
  have HY := Lib.hid (ho.cells (g := g) rfl)
  have HD : Hid ((defL.take 3).flatten = (defL.take 2).flatten ++ grpE 6 false false [[44], [59]]) := def_succ 2 (by decide)
  clear ho hb hbx HAL
  go_wp2_with (at_builtin; refine wpList_append_own _ rfl _ _ 23 rfl w0.heap.size 27 i0 _ 4 32 Tryd.underlying23 hi0 hz0 hz1 hz2 rfl (by decide) _ _ _ rfl HOx.out ⟨g, 0, none⟩ 2 cp (ncells (grpE 6 false false [[44], [59]])) rfl (by rw [ncells_len, grp_len]; rfl) HY.out (ncells_oneCell _) ?c3 ?c4 hsx ?_)
  case c3 => unfold maxLen; have := HL.out; omega
  case c4 => have := HL.out; omega
  intro z3 w3 hown' hgrow _
  have HO3 : Hid (w3.ownsRow w0.heap.size 27 4 z3 (defL.take 3).flatten.length (ncells (defL.take 3).flatten)) := by
    show World.ownsRow _ _ _ _ _ _ _
    rw [HD.out, ncells_append, List.length_append, grp_len]; exact hown'
  have HB3 := Lib.hid (HBx.out.grown hgrow hsx (fun k hk => (HOx.out.lt k hk).1))
  clear hown' hgrow HOx HBx hsx HY HD HL HO2 HB2 hs2
  have hs3 := HB3.out.size
  have hal : Below w3.heap.size w3 (w3.alloc (.cells (strC [[33]]) 9)) := (Below.refl _ _).alloc (Nat.le_refl _) _
  have HL : Hid ((defL.take 3).flatten.length ≤ 40) := by show _ ≤ 40; decide +kernel
  have HAL := Lib.hid hal
  clear hal
  go_wp2_with fail
  refine (group_any 5 false false [[33]] w3.heap.size _ (blk_new w3 (.cells (strC [[33]]) 9)) (by decide)).mono ?_
  rintro e x3 ⟨y3, rfl, ho, hb⟩
  have hbx := HAL.out.trans (hb.mono HAL.out.size)
  have HOx := Lib.hid (own_below HO3.out hbx)
  have HBx := Lib.hid (HB3.out.trans (hbx.mono hs3))
  have hsx := HBx.out.size
  rw [grp_len, show ([[33]] : List (List UInt8)).length = 1 from rfl] at ho
  obtain ⟨A, cp, rfl⟩ := own_slice ho
  obtain ⟨g, rfl⟩ : ∃ g, A = some ⟨g, 0, none⟩ := by
    rcases ho.2 with ⟨_, h0⟩ | ⟨g, cap, _, h', _⟩
    · cases h0
    · cases h'; exact ⟨g, rfl⟩
  have HY := Lib.hid (ho.cells (g := g) rfl)
  have HD : Hid ((defL.take 4).flatten = (defL.take 3).flatten ++ grpE 5 false false [[33]]) := def_succ 3 (by decide)
  clear ho hb hbx HAL
  go_wp2_with (at_builtin; refine wpList_append_own _ rfl _ _ 23 rfl w0.heap.size 27 i0 _ 4 32 Tryd.underlying23 hi0 hz0 hz1 hz2 rfl (by decide) _ _ _ rfl HOx.out ⟨g, 0, none⟩ 1 cp (ncells (grpE 5 false false [[33]])) rfl (by rw [ncells_len, grp_len]; rfl) HY.out (ncells_oneCell _) ?c3 ?c4 hsx ?_)
  case c3 => unfold maxLen; have := HL.out; omega
  case c4 => have := HL.out; omega
  intro z4 w4 hown' hgrow _
  have HO4 : Hid (w4.ownsRow w0.heap.size 27 4 z4 (defL.take 4).flatten.length (ncells (defL.take 4).flatten)) := by
    show World.ownsRow _ _ _ _ _ _ _
    rw [HD.out, ncells_append, List.length_append, grp_len]; exact hown'
  have HB4 := Lib.hid (HBx.out.grown hgrow hsx (fun k hk => (HOx.out.lt k hk).1))
  clear hown' hgrow HOx HBx hsx HY HD HL HO3 HB3 hs3
  have hs4 := HB4.out.size
  have hal : Below w4.heap.size w4 (w4.alloc (.cells (strC [[100, 111, 116, 115]]) 9)) := (Below.refl _ _).alloc (Nat.le_refl _) _
  have HL : Hid ((defL.take 4).flatten.length ≤ 40) := by show _ ≤ 40; decide +kernel
  have HAL := Lib.hid hal
  clear hal
  go_wp2_with fail
  refine (group_any 7 false false [[100, 111, 116, 115]] w4.heap.size _ (blk_new w4 (.cells (strC [[100, 111, 116, 115]]) 9)) (by decide)).mono ?_
  rintro e x4 ⟨y4, rfl, ho, hb⟩
  have hbx := HAL.out.trans (hb.mono HAL.out.size)
  have HOx := Lib.hid (own_below HO4.out hbx)
  have HBx := Lib.hid (HB4.out.trans (hbx.mono hs4))
  have hsx := HBx.out.size
  rw [grp_len, show ([[100, 111, 116, 115]] : List (List UInt8)).length = 1 from rfl] at ho
  obtain ⟨A, cp, rfl⟩ := own_slice ho
  obtain ⟨g, rfl⟩ : ∃ g, A = some ⟨g, 0, none⟩ := by
    rcases ho.2 with ⟨_, h0⟩ | ⟨g, cap, _, h', _⟩
    · cases h0
    · cases h'; exact ⟨g, rfl⟩
  have HY := Lib.hid (ho.cells (g := g) rfl)
  have HD : Hid ((defL.take 5).flatten = (defL.take 4).flatten ++ grpE 7 false false [[100, 111, 116, 115]]) := def_succ 4 (by decide)
  clear ho hb hbx HAL
  go_wp2_with (at_builtin; refine wpList_append_own _ rfl _ _ 23 rfl w0.heap.size 27 i0 _ 4 32 Tryd.underlying23 hi0 hz0 hz1 hz2 rfl (by decide) _ _ _ rfl HOx.out ⟨g, 0, none⟩ 1 cp (ncells (grpE 7 false false [[100, 111, 116, 115]])) rfl (by rw [ncells_len, grp_len]; rfl) HY.out (ncells_oneCell _) ?c3 ?c4 hsx ?_)
  case c3 => unfold maxLen; have := HL.out; omega
  case c4 => have := HL.out; omega
  intro z5 w5 hown' hgrow _
  have HO5 : Hid (w5.ownsRow w0.heap.size 27 4 z5 (defL.take 5).flatten.length (ncells (defL.take 5).flatten)) := by
    show World.ownsRow _ _ _ _ _ _ _
    rw [HD.out, ncells_append, List.length_append, grp_len]; exact hown'
  have HB5 := Lib.hid (HBx.out.grown hgrow hsx (fun k hk => (HOx.out.lt k hk).1))
  clear hown' hgrow HOx HBx hsx HY HD HL HO4 HB4 hs4
  have hs5 := HB5.out.size
  have hal : Below w5.heap.size w5 (w5.alloc (.cells (strC [[115, 117, 109], [112, 114, 111, 100]]) 9)) := (Below.refl _ _).alloc (Nat.le_refl _) _
  have HL : Hid ((defL.take 5).flatten.length ≤ 40) := by show _ ≤ 40; decide +kernel
  have HAL := Lib.hid hal
  clear hal
  go_wp2_with fail
  refine (group_any 1 true true [[115, 117, 109], [112, 114, 111, 100]] w5.heap.size _ (blk_new w5 (.cells (strC [[115, 117, 109], [112, 114, 111, 100]]) 9)) (by decide)).mono ?_
  rintro e x5 ⟨y5, rfl, ho, hb⟩
  have hbx := HAL.out.trans (hb.mono HAL.out.size)
  have HOx := Lib.hid (own_below HO5.out hbx)
  have HBx := Lib.hid (HB5.out.trans (hbx.mono hs5))
  have hsx := HBx.out.size
  rw [grp_len, show ([[115, 117, 109], [112, 114, 111, 100]] : List (List UInt8)).length = 2 from rfl] at ho
  obtain ⟨A, cp, rfl⟩ := own_slice ho
  obtain ⟨g, rfl⟩ : ∃ g, A = some ⟨g, 0, none⟩ := by
    rcases ho.2 with ⟨_, h0⟩ | ⟨g, cap, _, h', _⟩
    · cases h0
    · cases h'; exact ⟨g, rfl⟩
  have HY := Lib.hid (ho.cells (g := g) rfl)
  have HD : Hid ((defL.take 6).flatten = (defL.take 5).flatten ++ grpE 1 true true [[115, 117, 109], [112, 114, 111, 100]]) := def_succ 5 (by decide)
  clear ho hb hbx HAL
  go_wp2_with (at_builtin; refine wpList_append_own _ rfl _ _ 23 rfl w0.heap.size 27 i0 _ 4 32 Tryd.underlying23 hi0 hz0 hz1 hz2 rfl (by decide) _ _ _ rfl HOx.out ⟨g, 0, none⟩ 2 cp (ncells (grpE 1 true true [[115, 117, 109], [112, 114, 111, 100]])) rfl (by rw [ncells_len, grp_len]; rfl) HY.out (ncells_oneCell _) ?c3 ?c4 hsx ?_)
  case c3 => unfold maxLen; have := HL.out; omega
  case c4 => have := HL.out; omega
  intro z6 w6 hown' hgrow _
  have HO6 : Hid (w6.ownsRow w0.heap.size 27 4 z6 (defL.take 6).flatten.length (ncells (defL.take 6).flatten)) := by
    show World.ownsRow _ _ _ _ _ _ _
    rw [HD.out, ncells_append, List.length_append, grp_len]; exact hown'
  have HB6 := Lib.hid (HBx.out.grown hgrow hsx (fun k hk => (HOx.out.lt k hk).1))
  clear hown' hgrow HOx HBx hsx HY HD HL HO5 HB5 hs5
  have hs6 := HB6.out.size
  have hal : Below w6.heap.size w6 (w6.alloc (.cells (strC [[105, 110, 116]]) 9)) := (Below.refl _ _).alloc (Nat.le_refl _) _
  have HL : Hid ((defL.take 6).flatten.length ≤ 40) := by show _ ≤ 40; decide +kernel
  have HAL := Lib.hid hal
  clear hal
  go_wp2_with fail
  refine (group_any 1 false true [[105, 110, 116]] w6.heap.size _ (blk_new w6 (.cells (strC [[105, 110, 116]]) 9)) (by decide)).mono ?_
  rintro e x6 ⟨y6, rfl, ho, hb⟩
  have hbx := HAL.out.trans (hb.mono HAL.out.size)
  have HOx := Lib.hid (own_below HO6.out hbx)
  have HBx := Lib.hid (HB6.out.trans (hbx.mono hs6))
  have hsx := HBx.out.size
  rw [grp_len, show ([[105, 110, 116]] : List (List UInt8)).length = 1 from rfl] at ho
  obtain ⟨A, cp, rfl⟩ := own_slice ho
  obtain ⟨g, rfl⟩ : ∃ g, A = some ⟨g, 0, none⟩ := by
    rcases ho.2 with ⟨_, h0⟩ | ⟨g, cap, _, h', _⟩
    · cases h0
    · cases h'; exact ⟨g, rfl⟩
  have HY := Lib.hid (ho.cells (g := g) rfl)
  have HD : Hid ((defL.take 7).flatten = (defL.take 6).flatten ++ grpE 1 false true [[105, 110, 116]]) := def_succ 6 (by decide)
  clear ho hb hbx HAL
  go_wp2_with (at_builtin; refine wpList_append_own _ rfl _ _ 23 rfl w0.heap.size 27 i0 _ 4 32 Tryd.underlying23 hi0 hz0 hz1 hz2 rfl (by decide) _ _ _ rfl HOx.out ⟨g, 0, none⟩ 1 cp (ncells (grpE 1 false true [[105, 110, 116]])) rfl (by rw [ncells_len, grp_len]; rfl) HY.out (ncells_oneCell _) ?c3 ?c4 hsx ?_)
  case c3 => unfold maxLen; have := HL.out; omega
  case c4 => have := HL.out; omega
  intro z7 w7 hown' hgrow _
  have HO7 : Hid (w7.ownsRow w0.heap.size 27 4 z7 (defL.take 7).flatten.length (ncells (defL.take 7).flatten)) := by
    show World.ownsRow _ _ _ _ _ _ _
    rw [HD.out, ncells_append, List.length_append, grp_len]; exact hown'
  have HB7 := Lib.hid (HBx.out.grown hgrow hsx (fun k hk => (HOx.out.lt k hk).1))
  clear hown' hgrow HOx HBx hsx HY HD HL HO6 HB6 hs6
  have hs7 := HB7.out.size
  have hal : Below w7.heap.size w7 (w7.alloc (.cells (strC [[108, 105, 109], [109, 97, 120], [109, 105, 110]]) 9)) := (Below.refl _ _).alloc (Nat.le_refl _) _
  have HL : Hid ((defL.take 7).flatten.length ≤ 40) := by show _ ≤ 40; decide +kernel
  have HAL := Lib.hid hal
  clear hal
  go_wp2_with fail
  refine (group_any 1 true false [[108, 105, 109], [109, 97, 120], [109, 105, 110]] w7.heap.size _ (blk_new w7 (.cells (strC [[108, 105, 109], [109, 97, 120], [109, 105, 110]]) 9)) (by decide)).mono ?_
  rintro e x7 ⟨y7, rfl, ho, hb⟩
  have hbx := HAL.out.trans (hb.mono HAL.out.size)
  have HOx := Lib.hid (own_below HO7.out hbx)
  have HBx := Lib.hid (HB7.out.trans (hbx.mono hs7))
  have hsx := HBx.out.size
  rw [grp_len, show ([[108, 105, 109], [109, 97, 120], [109, 105, 110]] : List (List UInt8)).length = 3 from rfl] at ho
  obtain ⟨A, cp, rfl⟩ := own_slice ho
  obtain ⟨g, rfl⟩ : ∃ g, A = some ⟨g, 0, none⟩ := by
    rcases ho.2 with ⟨_, h0⟩ | ⟨g, cap, _, h', _⟩
    · cases h0
    · cases h'; exact ⟨g, rfl⟩
  have HY := Lib.hid (ho.cells (g := g) rfl)
  have HD : Hid ((defL.take 8).flatten = (defL.take 7).flatten ++ grpE 1 true false [[108, 105, 109], [109, 97, 120], [109, 105, 110]]) := def_succ 7 (by decide)
  clear ho hb hbx HAL
  go_wp2_with (at_builtin; refine wpList_append_own _ rfl _ _ 23 rfl w0.heap.size 27 i0 _ 4 32 Tryd.underlying23 hi0 hz0 hz1 hz2 rfl (by decide) _ _ _ rfl HOx.out ⟨g, 0, none⟩ 3 cp (ncells (grpE 1 true false [[108, 105, 109], [109, 97, 120], [109, 105, 110]])) rfl (by rw [ncells_len, grp_len]; rfl) HY.out (ncells_oneCell _) ?c3 ?c4 hsx ?_)
  case c3 => unfold maxLen; have := HL.out; omega
  case c4 => have := HL.out; omega
  intro z8 w8 hown' hgrow _
  have HO8 : Hid (w8.ownsRow w0.heap.size 27 4 z8 (defL.take 8).flatten.length (ncells (defL.take 8).flatten)) := by
    show World.ownsRow _ _ _ _ _ _ _
    rw [HD.out, ncells_append, List.length_append, grp_len]; exact hown'
  have HB8 := Lib.hid (HBx.out.grown hgrow hsx (fun k hk => (HOx.out.lt k hk).1))
  clear hown' hgrow HOx HBx hsx HY HD HL HO7 HB7 hs7
  have hs8 := HB8.out.size
  have hal : Below w8.heap.size w8 (w8.alloc (.cells (strC [[115, 105, 110], [99, 111, 115], [116, 97, 110], [108, 111, 103], [108, 110], [101, 120, 112]]) 9)) := (Below.refl _ _).alloc (Nat.le_refl _) _
  have HL : Hid ((defL.take 8).flatten.length ≤ 40) := by show _ ≤ 40; decide +kernel
  have HAL := Lib.hid hal
  clear hal
  go_wp2_with fail
  refine (group_any 1 false false [[115, 105, 110], [99, 111, 115], [116, 97, 110], [108, 111, 103], [108, 110], [101, 120, 112]] w8.heap.size _ (blk_new w8 (.cells (strC [[115, 105, 110], [99, 111, 115], [116, 97, 110], [108, 111, 103], [108, 110], [101, 120, 112]]) 9)) (by decide)).mono ?_
  rintro e x8 ⟨y8, rfl, ho, hb⟩
  have hbx := HAL.out.trans (hb.mono HAL.out.size)
  have HOx := Lib.hid (own_below HO8.out hbx)
  have HBx := Lib.hid (HB8.out.trans (hbx.mono hs8))
  have hsx := HBx.out.size
  rw [grp_len, show ([[115, 105, 110], [99, 111, 115], [116, 97, 110], [108, 111, 103], [108, 110], [101, 120, 112]] : List (List UInt8)).length = 6 from rfl] at ho
  obtain ⟨A, cp, rfl⟩ := own_slice ho
  obtain ⟨g, rfl⟩ : ∃ g, A = some ⟨g, 0, none⟩ := by
    rcases ho.2 with ⟨_, h0⟩ | ⟨g, cap, _, h', _⟩
    · cases h0
    · cases h'; exact ⟨g, rfl⟩
  have HY := Lib.hid (ho.cells (g := g) rfl)
  have HD : Hid ((defL.take 9).flatten = (defL.take 8).flatten ++ grpE 1 false false [[115, 105, 110], [99, 111, 115], [116, 97, 110], [108, 111, 103], [108, 110], [101, 120, 112]]) := def_succ 8 (by decide)
  clear ho hb hbx HAL
  go_wp2_with (at_builtin; refine wpList_append_own _ rfl _ _ 23 rfl w0.heap.size 27 i0 _ 4 32 Tryd.underlying23 hi0 hz0 hz1 hz2 rfl (by decide) _ _ _ rfl HOx.out ⟨g, 0, none⟩ 6 cp (ncells (grpE 1 false false [[115, 105, 110], [99, 111, 115], [116, 97, 110], [108, 111, 103], [108, 110], [101, 120, 112]])) rfl (by rw [ncells_len, grp_len]; rfl) HY.out (ncells_oneCell _) ?c3 ?c4 hsx ?_)
  case c3 => unfold maxLen; have := HL.out; omega
  case c4 => have := HL.out; omega
  intro z9 w9 hown' hgrow _
  have HO9 : Hid (w9.ownsRow w0.heap.size 27 4 z9 (defL.take 9).flatten.length (ncells (defL.take 9).flatten)) := by
    show World.ownsRow _ _ _ _ _ _ _
    rw [HD.out, ncells_append, List.length_append, grp_len]; exact hown'
  have HB9 := Lib.hid (HBx.out.grown hgrow hsx (fun k hk => (HOx.out.lt k hk).1))
  clear hown' hgrow HOx HBx hsx HY HD HL HO8 HB8 hs8
  go_wp2_with fail
  go_ret
  exact ⟨_, rfl, HO9.out, HB9.out⟩
end Go.Proofs.YthhnbfndmjpdgaaDoor
