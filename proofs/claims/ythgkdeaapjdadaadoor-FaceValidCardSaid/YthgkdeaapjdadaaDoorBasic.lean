/- Contract of the reference's basic (under way). -/
import Derived.Test.YthgkdeaapjdadaaDoorRefFind
namespace Go.Proofs.YthgkdeaapjdadaaDoor
open Go.RowKit

def greekN : List (List UInt8) := [[97, 108, 112, 104, 97], [98, 101, 116, 97], [103, 97, 109, 109, 97], [100, 101, 108, 116, 97], [101, 112, 115, 105, 108, 111, 110], [116, 104, 101, 116, 97], [108, 97, 109, 98, 100, 97], [109, 117], [112, 105], [114, 104, 111], [115, 105, 103, 109, 97], [116, 97, 117], [112, 104, 105], [111, 109, 101, 103, 97]]
def rcharL (k : Nat) : List Gl := (List.range k).map fun i => rchr (33 + i)
def rgL (k : Nat) : List Gl := (List.range k).map fun i => rgreek (greekN.getD i []) i
def ropG (n : List UInt8) : Gl := ⟨n, 778, 583, 83, 0, 0⟩
def raccG (n : List UInt8) : Gl := ⟨n, 500, 694, -560, 0, 0⟩
def ropL (k : Nat) : List Gl := (opsN.take k).map ropG
def raccL (k : Nat) : List Gl := (accN.take k).map raccG
theorem rop_succ (k : Nat) (h : k < opsN.length) : ropL (k + 1) = ropL k ++ [ropG opsN[k]] := map_succ ropG opsN k h
theorem racc_succ (k : Nat) (h : k < accN.length) : raccL (k + 1) = raccL k ++ [raccG accN[k]] := map_succ raccG accN k h
theorem rop_len (k : Nat) : (ropL k).length ≤ k := by unfold ropL; rw [List.length_map, List.length_take]; omega
theorem racc_len (k : Nat) : (raccL k).length ≤ k := by unfold raccL; rw [List.length_map, List.length_take]; omega
def rbigL : List Gl := [⟨[115, 117, 109], 1056, 750, 250, 0, 0⟩, ⟨[112, 114, 111, 100], 1056, 750, 250, 0, 0⟩, ⟨[105, 110, 116], 556, 750, 250, 194, 0⟩]
def rrootG : Gl := ⟨[114, 111, 111, 116], 833, 790, 210, 0, 0⟩
def basicL : List Gl := ((((rcharL 94 ++ rgL 14) ++ ropL 13) ++ rbigL) ++ raccL 6) ++ [rrootG]
theorem src_new (w : World) (l : List Gl) (t : TypeId) : ∀ j u, (gcells l)[j]? = some u → (w.alloc (.cells (gcells l).toArray t)).cell? ((⟨w.heap.size, 0, none⟩ : Addr).add j) = some u := by
  intro j u hu
  rw [addr_add', Nat.zero_add, cell_blk (blk_new w _) j]
  simpa using hu
theorem rchar_succ (k : Nat) : rcharL (k + 1) = rcharL k ++ [rchr (33 + k)] := by unfold rcharL; rw [List.range_succ, List.map_append]; rfl
theorem rg_succ (k : Nat) (h : k < greekN.length) : rgL (k + 1) = rgL k ++ [rgreek greekN[k] k] := by
  unfold rgL; rw [List.range_succ, List.map_append]; simp [List.getD, h]
theorem rg_len (k : Nat) : (rgL k).length = k := by unfold rgL; simp
theorem rchar_len (k : Nat) : (rcharL k).length = k := by unfold rcharL; simp
set_option maxRecDepth 100000 in
set_option maxHeartbeats 8000000 in
theorem basic_any (w : World) : Calls Tryd.prog 41 #[] w (RetGl w (((((rcharL 94 ++ rgL 14) ++ ropL 13) ++ rbigL) ++ raccL 6) ++ [rrootG])) := by
  obtain ⟨i0, hi0, hz0, hz1, hz2⟩ := info_parts gl_info
  go_enter Tryd.func41, Tryd.ntmps41
  go_wp2_with fail
  go_loopg [2, 1] 94 (fun gg s2 s1 wr => ∃ k : Nat, k ≤ 94 ∧ 94 - k ≤ gg ∧ s2 = .int .i64 ((33 + k : Nat) : Int) ∧ Aside (wr.ownsRow w.heap.size 32 6 s1 (rcharL k).length (gcells (rcharL k))) ∧ Aside (Below w.heap.size w wr))
  case atStart => exact ⟨0, by omega, by omega, rfl, World.ownsRow_nil _ _ _ _, Below.refl _ _⟩
  case round =>
    obtain ⟨k, hk, hgg, rfl, HO, HBr⟩ := hrel
    by_cases hkl : k < 94
    · have HS := Lib.hid (rchar_succ k)
      have HLN := Lib.hid (rchar_len k)
      obtain ⟨c, hc⟩ : ∃ c, c = 33 + k := ⟨_, rfl⟩
      rw [← hc] at HS ⊢
      have HC := Lib.hid hc
      have hc1 : 33 ≤ c := by omega
      have hc2 : c ≤ 126 := by omega
      have hkz : (c : Int) ≤ 126 := by omega
      have hsr := HBr.out.size
      clear hc
      go_wp2_with fail
      refine (rchr_any c _ hc1 hc2).mono ?_
      rintro e w1 ⟨rfl, hb1⟩
      have HO1 := Lib.hid (own_below HO.out hb1)
      have HB1 := Lib.hid (HBr.out.trans (hb1.mono hsr))
      have hs1 := HB1.out.size
      clear hb1 HO HBr
      obtain ⟨g, hg⟩ : ∃ g, g = rchr c := ⟨_, rfl⟩
      rw [← hg] at HS ⊢
      clear hg
      obtain ⟨gn, ga, gb, gc, gd, ge⟩ := g
      simp only [Gl.val]
      go_wp2_with (at_builtin; refine wpList_append_own _ rfl _ _ 24 rfl w.heap.size 32 i0 _ 6 56 Tryd.underlying24 hi0 hz0 hz1 hz2 rfl (by decide) _ _ _ rfl (HO1.out.alloc _) ⟨w1.heap.size, 0, none⟩ 1 1 (Gl.cells ⟨gn, ga, gb, gc, gd, ge⟩) rfl rfl ?c1 ?c2 ?c3 ?c4 ?c5 ?_)
      case c1 => exact (GlAt.new _ _ _ _ _ _ _ 32).src
      case c2 => intro u hu; exact gcells_oneCell [⟨gn, ga, gb, gc, gd, ge⟩] u (by rw [gcells_one]; exact hu)
      case c3 => unfold maxLen; have := HLN.out; omega
      case c4 => have := HLN.out; omega
      case c5 => first | omega | (simp; omega)
      intro v' w5 hown' hgrow _
      have HO5 : Hid (w5.ownsRow w.heap.size 32 6 v' (rcharL (k + 1)).length (gcells (rcharL (k + 1)))) := by
        show World.ownsRow _ _ _ _ _ _ _
        rw [HS.out, gcells_append, gcells_one, List.length_append]; exact hown'
      have HB5 := Lib.hid ((HB1.out.alloc hs1 _).grown hgrow (by simp; omega) (fun k hk => by have := (HO1.out.lt k hk).1; omega))
      clear hown' hgrow
      go_wp2_with fail
      go_roundg (94 - (k + 1))
      case measure => omega
      case rel => exact ⟨k + 1, by omega, by omega, (by rw [HC.out]; go_num), HO5.out, HB5.out⟩
    · have hkz : ¬ ((33 + k : Nat) : Int) ≤ 126 := by omega
      obtain rfl : k = 94 := by omega
      obtain ⟨w1, hw1⟩ : ∃ w1 : World, w1 = wr := ⟨_, rfl⟩
      rw [← hw1] at HO HBr ⊢
      clear hw1
      have hs1 := HBr.out.size
      have hbx : Below w1.heap.size w1 (w1.alloc (.cells (strC greekN) 9)) := (Below.refl _ _).alloc (Nat.le_refl _) _
      have HO2 := Lib.hid (own_below HO.out hbx)
      have HB2 := Lib.hid (HBr.out.trans (hbx.mono hs1))
      have HN2 := Lib.hid (blk_new w1 (.cells (strC greekN) 9))
      clear hbx HO HBr
      have HL0 := Lib.hid (rchar_len 94)
      generalize rcharL 94 = L0 at *
      go_wp2_with fail
      go_loopg [4, 1] 14 (fun gg s4 s1 wr => ∃ k : Nat, k ≤ 14 ∧ 14 - k ≤ gg ∧ s4 = .int .i64 k ∧ Aside (wr.ownsRow w.heap.size 32 6 s1 (L0 ++ rgL k).length (gcells (L0 ++ rgL k))) ∧ Aside (Below w.heap.size w wr) ∧ Aside (wr.heap[w1.heap.size]? = some (.cells (strC greekN) 9)))
      case atStart => exact ⟨0, by omega, by omega, rfl, (by show World.ownsRow _ _ _ _ _ (L0 ++ []).length (gcells (L0 ++ [])); rw [List.append_nil]; exact HO2.out), HB2.out, HN2.out⟩
      case round =>
        obtain ⟨k, hk, hgg, rfl, HO, HBr, HNr⟩ := hrel
        clear HO2 HB2 HN2
        by_cases hkl : k < 14
        · have hkz : (k : Int) < 14 := by omega
          have hkl' : k < greekN.length := hkl
          have HS := Lib.hid (rg_succ k hkl')
          have HLN : Hid ((L0 ++ rgL k).length ≤ 200) := by show _ ≤ 200; rw [List.length_append, rg_len]; have := HL0.out; omega
          have hc := (cell_blk HNr.out k).trans (strC_at greekN k hkl')
          obtain ⟨n, hn⟩ : ∃ n, n = greekN[k] := ⟨_, rfl⟩
          rw [← hn] at HS hc
          have hsr := HBr.out.size
          clear hn
          go_wp2_with fail
          refine (rgreek_any n k _ (by omega)).mono ?_
          rintro e w2 ⟨rfl, hb2⟩
          have HO1 := Lib.hid (own_below HO.out hb2)
          have HB1 := Lib.hid (HBr.out.trans (hb2.mono hsr))
          have HN1 : Hid (w2.heap[w1.heap.size]? = some (.cells (strC greekN) 9)) := (hb2.block _ (blk_lt HNr.out)).trans HNr.out
          have hs2 := HB1.out.size
          clear hb2 HO HBr HNr hc
          obtain ⟨g, hg⟩ : ∃ g, g = rgreek n k := ⟨_, rfl⟩
          rw [← hg] at HS ⊢
          clear hg
          obtain ⟨gn, ga, gb, gc, gd, ge⟩ := g
          simp only [Gl.val]
          go_wp2_with (at_builtin; refine wpList_append_own _ rfl _ _ 24 rfl w.heap.size 32 i0 _ 6 56 Tryd.underlying24 hi0 hz0 hz1 hz2 rfl (by decide) _ _ _ rfl (HO1.out.alloc _) ⟨w2.heap.size, 0, none⟩ 1 1 (Gl.cells ⟨gn, ga, gb, gc, gd, ge⟩) rfl rfl ?c1 ?c2 ?c3 ?c4 ?c5 ?_)
          case c1 => exact (GlAt.new _ _ _ _ _ _ _ 32).src
          case c2 => intro u hu; exact gcells_oneCell [⟨gn, ga, gb, gc, gd, ge⟩] u (by rw [gcells_one]; exact hu)
          case c3 => unfold maxLen; have := HLN.out; omega
          case c4 => have := HLN.out; omega
          case c5 => first | omega | (simp; omega)
          intro v' w5 hown' hgrow _
          have hbA : Below w2.heap.size w2 (w2.alloc (.cells #[.string ⟨gn.toArray⟩, .int .i64 ga, .int .i64 gb, .int .i64 gc, .int .i64 gd, .int .i64 ge] 32)) := (Below.refl _ _).alloc (Nat.le_refl _) _
          have HO5 : Hid (w5.ownsRow w.heap.size 32 6 v' (L0 ++ rgL (k + 1)).length (gcells (L0 ++ rgL (k + 1)))) := by
            show World.ownsRow _ _ _ _ _ _ _
            rw [HS.out, ← List.append_assoc, gcells_append, gcells_one, List.length_append, List.length_append]; exact hown'
          have HB5 := Lib.hid ((HB1.out.trans (hbA.mono hs2)).grown hgrow (by simp; omega) (fun k hk => by have := (HO1.out.lt k hk).1; omega))
          have HN5 : Hid (w5.heap[w1.heap.size]? = some (.cells (strC greekN) 9)) := by
            have h0 := (hbA.block _ (blk_lt HN1.out)).trans HN1.out
            refine (hgrow.block _ (blk_lt h0) fun e => ?_).trans h0
            obtain ⟨cs', fr', he⟩ := own_type (own_below HO1.out hbA) e.symm
            rw [h0] at he; cases he
          clear hown' hgrow hbA
          go_wp2_with fail
          go_roundg (14 - (k + 1))
          case measure => omega
          case rel => exact ⟨k + 1, by omega, by omega, by go_num, HO5.out, HB5.out, HN5.out⟩
        · have hkz : ¬ (k : Int) < 14 := by omega
          obtain rfl : k = 14 := by omega
          clear HNr hkl
          obtain ⟨w2, hw⟩ : ∃ w2 : World, w2 = wr := ⟨_, rfl⟩
          rw [← hw] at HO HBr ⊢
          clear hw
          have HOx := HO
          have HBx := HBr
          clear HO HBr
          have hsx := HBx.out.size
          have HL1 : Hid ((L0 ++ rgL 14).length = 108) := by show _ = 108; rw [List.length_append]; have := HL0.out; simp [rgL]; omega
          generalize L0 ++ rgL 14 = L1 at *
          have hbx : Below w2.heap.size w2 (w2.alloc (.cells (strC opsN) 9)) := (Below.refl _ _).alloc (Nat.le_refl _) _
          have HO2 := Lib.hid (own_below HOx.out hbx)
          have HB2 := Lib.hid (HBx.out.trans (hbx.mono hsx))
          have HN2 := Lib.hid (blk_new w2 (.cells (strC opsN) 9))
          clear hbx HOx HBx
          go_wp2_with fail
          go_loopg [5, 1] 13 (fun gg s4 s1 wr => ∃ k : Nat, k ≤ 13 ∧ 13 - k ≤ gg ∧ s4 = .int .i64 k ∧ Aside (wr.ownsRow w.heap.size 32 6 s1 (L1 ++ ropL k).length (gcells (L1 ++ ropL k))) ∧ Aside (Below w.heap.size w wr) ∧ Aside (wr.heap[w2.heap.size]? = some (.cells (strC opsN) 9)))
          case atStart => exact ⟨0, by omega, by omega, rfl, (by show World.ownsRow _ _ _ _ _ (L1 ++ []).length (gcells (L1 ++ [])); rw [List.append_nil]; exact HO2.out), HB2.out, HN2.out⟩
          case round =>
            obtain ⟨k, hk, hgg, rfl, HO, HBr, HNr⟩ := hrel
            clear HO2 HB2 HN2
            by_cases hkl : k < 13
            · have hkz : (k : Int) < 13 := by omega
              have HS := Lib.hid (rop_succ k (show k < opsN.length from hkl))
              have HLN : Hid ((L1 ++ ropL k).length ≤ 200) := by show _ ≤ 200; rw [List.length_append]; have := rop_len k; have := HL1.out; omega
              have hc := (cell_blk HNr.out k).trans (strC_at opsN k (show k < opsN.length from hkl))
              obtain ⟨n, hn⟩ : ∃ n, n = opsN[k]'(show k < opsN.length from hkl) := ⟨_, rfl⟩
              rw [← hn] at HS hc
              have hsr := HBr.out.size
              clear hn
              go_wp2_with (at_builtin; refine wpList_append_own _ rfl _ _ 24 rfl w.heap.size 32 i0 _ 6 56 Tryd.underlying24 hi0 hz0 hz1 hz2 rfl (by decide) _ _ _ rfl (HO.out.alloc _) ⟨wr.heap.size, 0, none⟩ 1 1 (Gl.cells ⟨n, 778, 583, 83, 0, 0⟩) rfl rfl ?c1 ?c2 ?c3 ?c4 ?c5 ?_)
              case c1 => exact (GlAt.new _ _ _ _ _ _ _ 32).src
              case c2 => intro u hu; exact gcells_oneCell [⟨n, 778, 583, 83, 0, 0⟩] u (by rw [gcells_one]; exact hu)
              case c3 => unfold maxLen; have := HLN.out; omega
              case c4 => have := HLN.out; omega
              case c5 => first | omega | (simp; omega)
              intro v' w5 hown' hgrow _
              have hbA : Below wr.heap.size wr (wr.alloc (.cells (Gl.cells (⟨n, 778, 583, 83, 0, 0⟩)).toArray 32)) := (Below.refl _ _).alloc (Nat.le_refl _) _
              have HO5 : Hid (w5.ownsRow w.heap.size 32 6 v' (L1 ++ ropL (k + 1)).length (gcells (L1 ++ ropL (k + 1)))) := by
                show World.ownsRow _ _ _ _ _ _ _
                rw [HS.out, ← List.append_assoc, gcells_append, gcells_one, List.length_append, List.length_append]; exact hown'
              have HB5 := Lib.hid ((HBr.out.trans (hbA.mono hsr)).grown hgrow (by simp; omega) (fun k hk => by have := (HO.out.lt k hk).1; omega))
              have HN5 : Hid (w5.heap[w2.heap.size]? = some (.cells (strC opsN) 9)) := by
                have h0 := (hbA.block _ (blk_lt HNr.out)).trans HNr.out
                refine (hgrow.block _ (blk_lt h0) fun e => ?_).trans h0
                obtain ⟨cs', fr', he⟩ := own_type (own_below HO.out hbA) e.symm
                rw [h0] at he; cases he
              clear hown' hgrow hbA HO HBr HNr
              go_wp2_with fail
              go_roundg (13 - (k + 1))
              case measure => omega
              case rel => exact ⟨k + 1, by omega, by omega, by go_num, HO5.out, HB5.out, HN5.out⟩
            · have hkz : ¬ (k : Int) < 13 := by omega
              obtain rfl : k = 13 := by omega
              clear HNr hkl
              obtain ⟨w3, hw⟩ : ∃ w3 : World, w3 = wr := ⟨_, rfl⟩
              rw [← hw] at HO HBr ⊢
              clear hw
              have HOx := HO
              have HBx := HBr
              clear HO HBr
              have hsx := HBx.out.size
              have HL2 : Hid ((L1 ++ ropL 13).length = 121) := by show _ = 121; rw [List.length_append]; have := HL1.out; simp [ropL, opsN]; omega
              generalize L1 ++ ropL 13 = L2 at *
              go_wp2_with (at_builtin; refine wpList_append_own _ rfl _ _ 24 rfl w.heap.size 32 i0 _ 6 56 Tryd.underlying24 hi0 hz0 hz1 hz2 rfl (by decide) _ _ _ rfl (HOx.out.alloc _) ⟨w3.heap.size, 0, none⟩ 3 3 (gcells rbigL) rfl rfl ?c1 ?c2 ?c3 ?c4 ?c5 ?_)
              case c1 => exact fun j u hu => hu
              case c2 => intro u hu; exact gcells_oneCell rbigL u hu
              case c3 => unfold maxLen; have := HL2.out; omega
              case c4 => have := HL2.out; omega
              case c5 => first | omega | (simp; omega)
              intro v' w5 hown' hgrow _
              have hbA : Below w3.heap.size w3 (w3.alloc (.cells (gcells rbigL).toArray 32)) := (Below.refl _ _).alloc (Nat.le_refl _) _
              have HO5 : Hid (w5.ownsRow w.heap.size 32 6 v' (L2 ++ rbigL).length (gcells (L2 ++ rbigL))) := by
                show World.ownsRow _ _ _ _ _ _ _
                rw [gcells_append, List.length_append]; exact hown'
              have HB5 := Lib.hid ((HBx.out.trans (hbA.mono hsx)).grown hgrow (by simp; omega) (fun k hk => by have := (HOx.out.lt k hk).1; omega))
              clear hown' hgrow hbA HOx HBx
              obtain ⟨w4, hw⟩ : ∃ w4 : World, w4 = w5 := ⟨_, rfl⟩
              rw [← hw] at HO5 HB5 ⊢
              clear hw
              have HOx := HO5
              have HBx := HB5
              clear HO5 HB5
              have hsx := HBx.out.size
              have HL3 : Hid ((L2 ++ rbigL).length = 124) := by show _ = 124; rw [List.length_append]; have := HL2.out; simp [rbigL]; omega
              generalize L2 ++ rbigL = L3 at *
              have hbx : Below w4.heap.size w4 (w4.alloc (.cells (strC accN) 9)) := (Below.refl _ _).alloc (Nat.le_refl _) _
              have HO2 := Lib.hid (own_below HOx.out hbx)
              have HB2 := Lib.hid (HBx.out.trans (hbx.mono hsx))
              have HN2 := Lib.hid (blk_new w4 (.cells (strC accN) 9))
              clear hbx HOx HBx
              go_wp2_with fail
              go_loopg [6, 1] 6 (fun gg s4 s1 wr => ∃ k : Nat, k ≤ 6 ∧ 6 - k ≤ gg ∧ s4 = .int .i64 k ∧ Aside (wr.ownsRow w.heap.size 32 6 s1 (L3 ++ raccL k).length (gcells (L3 ++ raccL k))) ∧ Aside (Below w.heap.size w wr) ∧ Aside (wr.heap[w4.heap.size]? = some (.cells (strC accN) 9)))
              case atStart => exact ⟨0, by omega, by omega, rfl, (by show World.ownsRow _ _ _ _ _ (L3 ++ []).length (gcells (L3 ++ [])); rw [List.append_nil]; exact HO2.out), HB2.out, HN2.out⟩
              case round =>
                obtain ⟨k, hk, hgg, rfl, HO, HBr, HNr⟩ := hrel
                clear HO2 HB2 HN2
                by_cases hkl : k < 6
                · have hkz : (k : Int) < 6 := by omega
                  have HS := Lib.hid (racc_succ k (show k < accN.length from hkl))
                  have HLN : Hid ((L3 ++ raccL k).length ≤ 200) := by show _ ≤ 200; rw [List.length_append]; have := racc_len k; have := HL3.out; omega
                  have hc := (cell_blk HNr.out k).trans (strC_at accN k (show k < accN.length from hkl))
                  obtain ⟨n, hn⟩ : ∃ n, n = accN[k]'(show k < accN.length from hkl) := ⟨_, rfl⟩
                  rw [← hn] at HS hc
                  have hsr := HBr.out.size
                  clear hn
                  go_wp2_with (at_builtin; refine wpList_append_own _ rfl _ _ 24 rfl w.heap.size 32 i0 _ 6 56 Tryd.underlying24 hi0 hz0 hz1 hz2 rfl (by decide) _ _ _ rfl (HO.out.alloc _) ⟨wr.heap.size, 0, none⟩ 1 1 (Gl.cells ⟨n, 500, 694, -560, 0, 0⟩) rfl rfl ?c1 ?c2 ?c3 ?c4 ?c5 ?_)
                  case c1 => exact (GlAt.new _ _ _ _ _ _ _ 32).src
                  case c2 => intro u hu; exact gcells_oneCell [⟨n, 500, 694, -560, 0, 0⟩] u (by rw [gcells_one]; exact hu)
                  case c3 => unfold maxLen; have := HLN.out; omega
                  case c4 => have := HLN.out; omega
                  case c5 => first | omega | (simp; omega)
                  intro v' w5 hown' hgrow _
                  have hbA : Below wr.heap.size wr (wr.alloc (.cells (Gl.cells (⟨n, 500, 694, -560, 0, 0⟩)).toArray 32)) := (Below.refl _ _).alloc (Nat.le_refl _) _
                  have HO5 : Hid (w5.ownsRow w.heap.size 32 6 v' (L3 ++ raccL (k + 1)).length (gcells (L3 ++ raccL (k + 1)))) := by
                    show World.ownsRow _ _ _ _ _ _ _
                    rw [HS.out, ← List.append_assoc, gcells_append, gcells_one, List.length_append, List.length_append]; exact hown'
                  have HB5 := Lib.hid ((HBr.out.trans (hbA.mono hsr)).grown hgrow (by simp; omega) (fun k hk => by have := (HO.out.lt k hk).1; omega))
                  have HN5 : Hid (w5.heap[w4.heap.size]? = some (.cells (strC accN) 9)) := by
                    have h0 := (hbA.block _ (blk_lt HNr.out)).trans HNr.out
                    refine (hgrow.block _ (blk_lt h0) fun e => ?_).trans h0
                    obtain ⟨cs', fr', he⟩ := own_type (own_below HO.out hbA) e.symm
                    rw [h0] at he; cases he
                  clear hown' hgrow hbA HO HBr HNr
                  go_wp2_with fail
                  go_roundg (6 - (k + 1))
                  case measure => omega
                  case rel => exact ⟨k + 1, by omega, by omega, by go_num, HO5.out, HB5.out, HN5.out⟩
                · have hkz : ¬ (k : Int) < 6 := by omega
                  obtain rfl : k = 6 := by omega
                  clear HNr hkl
                  obtain ⟨w6, hw⟩ : ∃ w6 : World, w6 = wr := ⟨_, rfl⟩
                  rw [← hw] at HO HBr ⊢
                  clear hw
                  have HOx := HO
                  have HBx := HBr
                  clear HO HBr
                  have hsx := HBx.out.size
                  have HL4 : Hid ((L3 ++ raccL 6).length = 130) := by show _ = 130; rw [List.length_append]; have := HL3.out; simp [raccL, accN]; omega
                  generalize L3 ++ raccL 6 = L4 at *
                  go_wp2_with (at_builtin; refine wpList_append_own _ rfl _ _ 24 rfl w.heap.size 32 i0 _ 6 56 Tryd.underlying24 hi0 hz0 hz1 hz2 rfl (by decide) _ _ _ rfl (HOx.out.alloc _) ⟨w6.heap.size, 0, none⟩ 1 1 (Gl.cells rrootG) rfl rfl ?c1 ?c2 ?c3 ?c4 ?c5 ?_)
                  case c1 => exact fun j u hu => hu
                  case c2 => intro u hu; exact gcells_oneCell [rrootG] u (by rw [gcells_one]; exact hu)
                  case c3 => unfold maxLen; have := HL4.out; omega
                  case c4 => have := HL4.out; omega
                  case c5 => first | omega | (simp; omega)
                  intro v' w5 hown' hgrow _
                  have hbA : Below w6.heap.size w6 (w6.alloc (.cells (Gl.cells rrootG).toArray 32)) := (Below.refl _ _).alloc (Nat.le_refl _) _
                  have HO5 : Hid (w5.ownsRow w.heap.size 32 6 v' (L4 ++ [rrootG]).length (gcells (L4 ++ [rrootG]))) := by
                    show World.ownsRow _ _ _ _ _ _ _
                    rw [gcells_append, gcells_one, List.length_append]; exact hown'
                  have HB5 := Lib.hid ((HBx.out.trans (hbA.mono hsx)).grown hgrow (by simp; omega) (fun k hk => by have := (HOx.out.lt k hk).1; omega))
                  clear hown' hgrow hbA HOx HBx
                  go_wp2_with fail
                  go_ret
                  exact ⟨_, rfl, HO5.out, HB5.out⟩
end Go.Proofs.YthgkdeaapjdadaaDoor
