/- Walks of FaceNames and FaceGlyph. -/
import Derived.Test.YthgkdeaapjdadaaDoorRFo2
import Derived.Test.YthgkdeaapjdadaaDoorLaid
import Derived.BigQuiet
import Derived.Deep.QuietTactic
import Derived.Laws.StructEq
import Derived.WalkSmall
namespace Go.Proofs.YthgkdeaapjdadaaDoor
open Go.RowKit

theorem str_info : (Tryd.prog.info? 9).map (fun i => (i.zero, i.size, i.bytes)) = some (some (.string ⟨#[]⟩), 1, 16) := by kernel_rfl
def nmC (l : List Gl) : List Value := l.map fun g => .string ⟨g.name.toArray⟩
theorem nm_succ (l : List Gl) (k : Nat) (h : k < l.length) : nmC (l.take (k + 1)) = nmC (l.take k) ++ [.string ⟨l[k].name.toArray⟩] := by
  unfold nmC; rw [List.take_succ_eq_append_getElem h, List.map_append]; rfl
theorem nm_len (l : List Gl) (k : Nat) (h : k ≤ l.length) : (nmC (l.take k)).length = k := by unfold nmC; rw [List.length_map, List.length_take]; omega
set_option maxRecDepth 100000 in
set_option maxHeartbeats 4000000 in
theorem names_any (w : World) : Calls Tryd.prog 10 #[] w fun e w' => ∃ v, e = .returned v ∧ w'.ownsRow w.heap.size 9 1 v GF.length (nmC GF) ∧ Below w.heap.size w w' := by
  obtain ⟨i0, hi0, hz0, hz1, hz2⟩ := info_parts str_info
  have hgl := gf_len
  go_enter Tryd.func10, Tryd.ntmps10
  go_wp2_with fail
  refine (glyphs_any _).mono ?_
  rintro e w1 ⟨v, rfl, ho, hb1⟩
  have hs1 := hb1.size
  have HB1 := Lib.hid hb1
  obtain ⟨A, c, rfl, hgr, _⟩ := GR.of_own ho
  have HG := Lib.hid hgr
  clear ho hgr hb1
  obtain ⟨L, hL⟩ : ∃ L, L = GF := ⟨_, rfl⟩
  rw [← hL] at hgl HG ⊢
  have HL := Lib.hid hL
  clear hL
  go_wp2_with fail
  go_loopg [6, 1, 3] L.length (fun gg s6 s1 _ wr => ∃ k : Nat, k ≤ L.length ∧ L.length - k ≤ gg ∧ s6 = .int .i64 k ∧ Aside (wr.ownsRow w1.heap.size 9 1 s1 k (nmC (L.take k))) ∧ Aside (Below w1.heap.size w1 wr))
  case atStart => exact ⟨0, by omega, by omega, rfl, World.ownsRow_nil _ _ _ _, Below.refl _ _⟩
  case round =>
    obtain ⟨k, hk, hgg, rfl, HO, HBr⟩ := hrel
    by_cases hkl : k < L.length
    · have hkz : (k : Int) < (L.length : Int) := by omega
      have HS := Lib.hid (nm_succ L k hkl)
      obtain ⟨bb, off, rfl, hbb, he⟩ := (HG.out.below HBr.out).at_ hkl
      obtain ⟨h0, h1, h2, h3, h4, h5⟩ := he
      have hsr := HBr.out.size
      obtain ⟨g, hg⟩ : ∃ g, g = L[k] := ⟨_, rfl⟩
      rw [← hg] at h0 h1 h2 h3 h4 h5 HS
      clear hg
      obtain ⟨gn, ga, gb, gc, gd, ge⟩ := g
      simp only at h0 h1 h2 h3 h4 h5 HS
      go_wp2_with (at_builtin; refine wpList_append_own _ rfl _ _ 22 rfl w1.heap.size 9 i0 _ 1 16 Tryd.underlying22 hi0 hz0 hz1 hz2 rfl (by decide) _ _ _ rfl ((HO.out.alloc _).alloc _) ⟨wr.heap.size + 1, 0, none⟩ 1 1 [.string ⟨gn.toArray⟩] rfl rfl ?c1 ?c2 ?c3 ?c4 ?c5 ?_)
      case c1 => exact fun j u hu => src_at _ [.string ⟨gn.toArray⟩] 9 _ (by first | rfl | simp) j u hu
      case c2 => intro u hu; simp at hu; subst hu; rfl
      case c3 => unfold maxLen; omega
      case c4 => omega
      case c5 => first | omega | (simp; omega)
      intro v' w5 hown' hgrow _
      have HO5 : Hid (w5.ownsRow w1.heap.size 9 1 v' (k + 1) (nmC (L.take (k + 1)))) := by
        show World.ownsRow _ _ _ _ _ _ _
        rw [HS.out]; exact hown'
      have HB5 := Lib.hid (((HBr.out.alloc hsr _).alloc (by simp; omega) _).grown hgrow (by simp; omega) (fun k hk => by have := (HO.out.lt k hk).1; omega))
      clear hown' hgrow HO HBr h0 h1 h2 h3 h4 h5
      go_wp2_with fail
      go_roundg (L.length - (k + 1))
      case measure => omega
      case rel => exact ⟨k + 1, by omega, by omega, by go_num, HO5.out, HB5.out⟩
    · have hkz : ¬ (k : Int) < (L.length : Int) := by omega
      obtain rfl : k = L.length := by omega
      go_wp2_with fail
      go_ret
      have := HO.out
      rw [List.take_length, HL.out] at this
      exact ⟨_, rfl, own_mono this hs1, HB1.out.trans (HBr.out.mono hs1)⟩

set_option maxRecDepth 100000 in
theorem field29 (A : Option Addr) (n c : Nat) (SA : Option Addr) (sc : Nat) (w : World) : (Instr.field 29 (.agg (rfC (.slice A n c) (.slice SA 14 sc))) 0).run Tryd.prog w = .ok (.slice A n c) w := by kernel_rfl
set_option maxRecDepth 100000 in
set_option maxHeartbeats 4000000 in
theorem faceNames_walk (w : World) (_ht : Tab w) : Calls Tryd.prog 3 #[] w fun e w' => e = .returned (.bool true) ∧ Below w.heap.size w w' := by
  have hgl := gf_len
  go_enter Tryd.func3, Tryd.ntmps3
  go_wp2_with fail
  refine (names_any _).mono ?_
  rintro e w1 ⟨v, rfl, ho1, hb1⟩
  have hs1 := hb1.size
  have HB1 := Lib.hid hb1
  have HO1 := Lib.hid ho1
  clear ho1 hb1
  go_wp2_with fail
  refine (rfont_any _).mono ?_
  rintro e w2 ⟨gv, sv, l, rfl, hg2, hst2, _, _, hb2⟩
  obtain ⟨SA, sc, rfl⟩ := own_slice hst2
  clear hst2
  rw [rgf_eq] at hg2
  have HO2 := Lib.hid (own_below HO1.out hb2)
  have HB2 := Lib.hid (HB1.out.trans (hb2.mono hs1))
  obtain ⟨A, c, rfl, hgr, _⟩ := GR.of_own hg2
  obtain ⟨g, cap, rfl, _, _⟩ := HO2.out.form (by decide +kernel)
  have HG := Lib.hid hgr
  clear hb2 hg2 hgr HO1 HB1
  generalize GF = L at *
  have hfield := field29 A L.length c SA sc
  generalize rfC (.slice A L.length c) (.slice SA 14 sc) = cs at *
  go_wp2_with fail
  go_loopg [3] L.length (fun gg s3 wr => ∃ k : Nat, k ≤ L.length ∧ L.length - k ≤ gg ∧ s3 = .int .i64 k ∧ Aside (Below w2.heap.size w2 wr))
  case atStart => exact ⟨0, by omega, by omega, rfl, Below.refl _ _⟩
  case round =>
    obtain ⟨k, hk, hgg, rfl, HBr⟩ := hrel
    by_cases hkl : k < L.length
    · have hkz : (k : Int) < (L.length : Int) := by omega
      obtain ⟨bb, off, rfl, hbb, he⟩ := (HG.out.below HBr.out).at_ hkl
      have h0 := he.c0
      have hn : wr.cell? ⟨g, k, none⟩ = some (.string ⟨L[k].name.toArray⟩) := by
        have h1 := HO2.out.cellAt k (by omega)
        have h2 := (HBr.out.cell (p := ⟨g, k, none⟩) (HO2.out.lt g rfl).2).trans h1
        rw [h2]; unfold nmC; rw [List.getElem?_map, List.getElem?_eq_getElem hkl]; rfl
      obtain ⟨nn, hnn⟩ : ∃ nn : ByteArray, nn = ⟨L[k].name.toArray⟩ := ⟨_, rfl⟩
      rw [← hnn] at h0 hn
      clear hnn he
      go_wp2_with fail
      go_quiet (fail)
      have HBz : Hid (Below w2.heap.size w2 (wr.drewN nq)) := HBr.out.trans ⟨rfl, rfl, rfl, Nat.le_refl _, fun _ _ => rfl⟩
      generalize wr.drewN nq = wz at *
      go_wp2_with fail
      go_roundg (L.length - (k + 1))
      case measure => omega
      case rel => exact ⟨k + 1, by omega, by omega, by go_num, HBz.out⟩
    · have hkz : ¬ (k : Int) < (L.length : Int) := by omega
      obtain rfl : k = L.length := by omega
      go_wp2_with fail
      go_ret
      exact ⟨rfl, HB2.out.trans (HBr.out.mono (by have := HB2.out.size; omega))⟩

theorem x_glyph : (findG GF [120]).isSome = true ∧ (findV GF [120]).w = 430 := by decide +kernel
set_option maxRecDepth 100000 in
set_option maxHeartbeats 4000000 in
theorem faceGlyph_walk (n : List UInt8) (w : World) (_ht : Tab w) : Calls Tryd.prog 4 #[.string ⟨n.toArray⟩] w fun e w' => e = .returned (.bool true) ∧ Below w.heap.size w w' := by
  have hgl := gf_len
  have HX := Lib.hid x_glyph
  go_enter Tryd.func4, Tryd.ntmps4
  go_wp2_with fail
  refine (glyph_any n _).mono ?_
  rintro e w1 ⟨rfl, hb1⟩
  have hs1 := hb1.size
  obtain ⟨g, hg⟩ : ∃ g, g = findV GF n := ⟨_, rfl⟩
  obtain ⟨ok, hok⟩ : ∃ ok, ok = (findG GF n).isSome := ⟨_, rfl⟩
  rw [← hg, ← hok]
  have HG := Lib.hid (And.intro hg hok)
  clear hg hok
  obtain ⟨gn, ga, gb, gc, gd, ge⟩ := g
  simp only [Gl.val]
  have hbx : Below w1.heap.size w1 (w1.alloc (.cells #[.string ⟨gn.toArray⟩, .int .i64 ga, .int .i64 gb, .int .i64 gc, .int .i64 gd, .int .i64 ge] 32)) := (Below.refl _ _).alloc (Nat.le_refl _) _
  have HN1 := Lib.hid (blk_new w1 (.cells #[.string ⟨gn.toArray⟩, .int .i64 ga, .int .i64 gb, .int .i64 gc, .int .i64 gd, .int .i64 ge] 32))
  have HB1 := Lib.hid (hb1.trans (hbx.mono hs1))
  clear hb1 hbx
  go_wp2_with fail
  refine (rfont_any _).mono ?_
  rintro e w2 ⟨gv, sv, l, rfl, hg2, hst2, _, _, hb2⟩
  obtain ⟨SA, sc, rfl⟩ := own_slice hst2
  clear hst2
  rw [rgf_eq] at hg2
  have HB2 := Lib.hid (HB1.out.trans (hb2.mono HB1.out.size))
  have HN2 := Lib.hid ((hb2.block _ (blk_lt HN1.out)).trans HN1.out)
  obtain ⟨A, c, rfl, hgr, _⟩ := GR.of_own hg2
  have HGR := Lib.hid hgr
  clear hb2 hg2 hgr HN1 HB1
  have hfield := field29 A GF.length c SA sc
  generalize rfC (.slice A GF.length c) (.slice SA 14 sc) = cs at *
  go_wp2_with fail
  refine (rfind_any A GF c n _ HGR.out (by omega)).mono ?_
  rw [← HG.out.1, ← HG.out.2]
  rintro e w3 ⟨rfl, hb3⟩
  clear hfield HGR
  have HB3 := Lib.hid (HB2.out.trans (hb3.mono HB2.out.size))
  have HN3 := Lib.hid ((hb3.block _ (blk_lt HN2.out)).trans HN2.out)
  have hs3 := HB3.out.size
  clear hb3 HB2 HN2
  simp only [Gl.val]
  have hbx : Below w3.heap.size w3 (w3.alloc (.cells #[.string ⟨gn.toArray⟩, .int .i64 ga, .int .i64 gb, .int .i64 gc, .int .i64 gd, .int .i64 ge] 32)) := (Below.refl _ _).alloc (Nat.le_refl _) _
  have HM3 := Lib.hid (blk_new w3 (.cells #[.string ⟨gn.toArray⟩, .int .i64 ga, .int .i64 gb, .int .i64 gc, .int .i64 gd, .int .i64 ge] 32))
  have HN4 := Lib.hid ((hbx.block _ (blk_lt HN3.out)).trans HN3.out)
  have HB4 := Lib.hid (HB3.out.trans (hbx.mono hs3))
  clear hbx HB3 HN3
  go_wp2_with fail
  refine (glyph_any [120] _).mono ?_
  rintro e w5 ⟨rfl, hb5⟩
  have HB5 := Lib.hid (HB4.out.trans (hb5.mono HB4.out.size))
  have HN5 := Lib.hid ((hb5.block _ (blk_lt HN4.out)).trans HN4.out)
  have HM5 := Lib.hid ((hb5.block _ (blk_lt HM3.out)).trans HM3.out)
  have hs5 := HB5.out.size
  clear hb5 HB4 HN4 HM3
  rw [HX.out.1]
  have hw := HX.out.2
  generalize findV GF [120] = x at *
  obtain ⟨xn, xa, xb, xc, xd, xe⟩ := x
  simp only at hw
  subst hw
  simp only [Gl.val]
  have a0 := cell_blk HN5.out 0
  have a1 := cell_blk HN5.out 1
  have a2 := cell_blk HN5.out 2
  have a3 := cell_blk HN5.out 3
  have a4 := cell_blk HN5.out 4
  have a5 := cell_blk HN5.out 5
  have b0 := cell_blk HM5.out 0
  have b1 := cell_blk HM5.out 1
  have b2 := cell_blk HM5.out 2
  have b3 := cell_blk HM5.out 3
  have b4 := cell_blk HM5.out 4
  have b5 := cell_blk HM5.out 5
  simp at a0 a1 a2 a3 a4 a5 b0 b1 b2 b3 b4 b5
  have hl1 := blk_lt HN5.out
  have hl2 := blk_lt HM5.out
  go_wp2_with fail
  go_ret
  exact ⟨rfl, HB5.out.alloc hs5 _⟩
theorem faceGlyph_walkS (s : ByteArray) (w : World) (_hs : s.size ≤ maxLen) (ht : Tab w) : Calls Tryd.prog 4 #[.string s] w fun e w' => e = .returned (.bool true) ∧ Below w.heap.size w w' :=
  faceGlyph_walk s.data.toList w ht
end Go.Proofs.YthgkdeaapjdadaaDoor
