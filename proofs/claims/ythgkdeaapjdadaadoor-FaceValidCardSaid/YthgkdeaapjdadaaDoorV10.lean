/- Contract of font.Box at the built-in font. -/
import Derived.Test.YthgkdeaapjdadaaDoorV9
import Derived.Deep.Cut
namespace Go.Proofs.YthgkdeaapjdadaaDoor
open Go.RowKit

theorem find_mem {n : List UInt8} (h : (findG GF n).isSome = true) : findV GF n ∈ GF := by
  unfold findV
  cases hf : findG GF n with
  | none => rw [hf] at h; cases h
  | some g => exact List.mem_of_find?_eq_some hf
theorem pick_mem (n : List UInt8) : pickV n ∈ GF := by
  unfold pickV
  split
  · rename_i h; exact find_mem h
  · exact find_mem has_q
theorem pick_ok (n : List UInt8) : nameOk (pickV n).name = true ∧ (0 ≤ (pickV n).w ∧ (pickV n).w ≤ 20000) ∧ (0 ≤ (pickV n).h ∧ (pickV n).h ≤ 20000) ∧ (-20000 ≤ (pickV n).d ∧ (pickV n).d ≤ 20000) ∧ (-20000 ≤ (pickV n).it ∧ (pickV n).it ≤ 20000) ∧ (-20000 ≤ (pickV n).at_ ∧ (pickV n).at_ ≤ 20000) := by
  obtain ⟨k, hk, e⟩ := List.mem_iff_getElem.1 (pick_mem n)
  rw [← e]
  exact gf_ok k hk
theorem scale_bnd (x p : Int) (h1 : -20000 ≤ x) (h2 : x ≤ 20000) (h3 : 1 ≤ p) (h4 : p ≤ 1000) : -20000000 ≤ scaleL x p ∧ scaleL x p ≤ 20000000 := by
  unfold scaleL
  split
  · have h := rnd_bnd (x * p) 100 (by decide)
    have h5 : (x * p).natAbs ≤ 20000 * 1000 := by rw [Int.natAbs_mul]; exact Nat.mul_le_mul (by omega) (by omega)
    omega
  · omega
theorem scale_pos (x p : Int) (h1 : 0 ≤ x) (h2 : x ≤ 20000) (h3 : 1 ≤ p) (h4 : p ≤ 1000) : 0 ≤ scaleL x p := by
  obtain ⟨n, rfl⟩ : ∃ n : Nat, x = (n : Int) := ⟨x.toNat, by omega⟩
  obtain ⟨q, rfl⟩ : ∃ q : Nat, p = (q : Int) := ⟨p.toNat, by omega⟩
  rw [scale_nat n q (by omega) (by omega)]
  omega
/-- a box of a glyph -/
def bxC (n : List UInt8) (p W H D : Int) : List Value := [.int .i64 1, .string ⟨n.toArray⟩, .int .i64 p, .int .i64 W, .int .i64 H, .int .i64 D, .int .i64 0, .int .i64 0, .slice none 0 0, .int .i64 0, .slice none 0 0]
def boxV (n : List UInt8) (p : Int) : Value := .agg (bxC (pickV n).name p (scaleL (pickV n).w p + max 0 (scaleL (pickV n).it p)) (scaleL (pickV n).h p) (scaleL (pickV n).d p)).toArray

set_option maxRecDepth 100000 in
set_option maxHeartbeats 4000000 in
theorem box_any (gb c t sc : Nat) (n : List UInt8) (p : Int) (w : World) (h1 : 1 ≤ p) (h2 : p ≤ 1000) (hsc : 14 ≤ sc) (hg : GR w w.heap.size (some ⟨gb, 0, none⟩) GF) (hs : SRow w t) :
    Calls Tryd.prog 16 #[.agg (rfC (.slice (some ⟨gb, 0, none⟩) GF.length c) (.slice (some ⟨t, 0, none⟩) 14 sc)), .string ⟨n.toArray⟩, .int .i64 p] w fun e w' => e = .returned (.tuple #[boxV n p, .int .i64 0]) ∧ Below w.heap.size w w' := by
  have HV := Lib.hid (fun w (hg : GR w w.heap.size (some ⟨gb, 0, none⟩) GF) (hs : SRow w t) => fvalid_any gb c t sc w hsc hg hs)
  have HP := Lib.hid (fun w (hg : GR w w.heap.size (some ⟨gb, 0, none⟩) GF) => pick_any (some ⟨gb, 0, none⟩) c (some ⟨t, 0, none⟩) sc n w hg)
  have HI := Lib.hid (rfC_info (.slice (some ⟨gb, 0, none⟩) GF.length c) (.slice (some ⟨t, 0, none⟩) 14 sc))
  have HOK := Lib.hid (pick_ok n)
  have HBV : Hid (boxV n p = .agg (bxC (pickV n).name p (scaleL (pickV n).w p + max 0 (scaleL (pickV n).it p)) (scaleL (pickV n).h p) (scaleL (pickV n).d p)).toArray) := rfl
  generalize rfC (.slice (some ⟨gb, 0, none⟩) GF.length c) (.slice (some ⟨t, 0, none⟩) 14 sc) = cs at *
  generalize boxV n p = bv at *
  generalize pickV n = g at *
  obtain ⟨gn, ga, gh, gd, gi, gt⟩ := g
  simp only at HOK HBV
  simp only [Gl.val] at HP
  have HB1 : Hid (Below w.heap.size w ((w.alloc (.cells cs 29)).alloc (.cells #[.int .i64 0, .string ⟨#[]⟩, .int .i64 0, .int .i64 0, .int .i64 0, .int .i64 0, .int .i64 0, .int .i64 0, .slice none 0 0, .int .i64 0, .slice none 0 0] 48))) := ((Below.refl _ _).alloc (Nat.le_refl _) _).alloc (by simp) _
  have HC1 : Hid (((w.alloc (.cells cs 29)).alloc (.cells #[.int .i64 0, .string ⟨#[]⟩, .int .i64 0, .int .i64 0, .int .i64 0, .int .i64 0, .int .i64 0, .int .i64 0, .slice none 0 0, .int .i64 0, .slice none 0 0] 48)).heap[w.heap.size]? = some (.cells cs 29)) := heap_old (blk_new _ _) (by simp) _
  have HR1 : Hid (((w.alloc (.cells cs 29)).alloc (.cells #[.int .i64 0, .string ⟨#[]⟩, .int .i64 0, .int .i64 0, .int .i64 0, .int .i64 0, .int .i64 0, .int .i64 0, .slice none 0 0, .int .i64 0, .slice none 0 0] 48)).heap[w.heap.size + 1]? = some (.cells #[.int .i64 0, .string ⟨#[]⟩, .int .i64 0, .int .i64 0, .int .i64 0, .int .i64 0, .int .i64 0, .int .i64 0, .slice none 0 0, .int .i64 0, .slice none 0 0] 48)) := by
    have := blk_new (w.alloc (.cells cs 29)) (.cells #[.int .i64 0, .string ⟨#[]⟩, .int .i64 0, .int .i64 0, .int .i64 0, .int .i64 0, .int .i64 0, .int .i64 0, .slice none 0 0, .int .i64 0, .slice none 0 0] 48)
    rw [World.size_alloc] at this
    exact this
  have HG1 := Lib.hid ((hg.below HB1.out).more HB1.out.size)
  have HS1 := Lib.hid (hs.below HB1.out)
  clear hg hs
  go_enter Tryd.func16, Tryd.ntmps16
  go_wp2_with (first | (with_reducible refine Great.wpList_boxTo rfl 29 (.tmp 0) rfl (some 3) rfl w.heap.size rfl cs rfl ?_) | (with_reducible refine wpList_load_row rfl 29 (.tmp 3) rfl w.heap.size rfl 29 cs (0, 0) _ HC1.out Tryd.underlying29 rfl HI.out ?_))
  obtain ⟨w1, hw1⟩ : ∃ w1, w1 = ((w.alloc (.cells cs 29)).alloc (.cells #[.int .i64 0, .string ⟨#[]⟩, .int .i64 0, .int .i64 0, .int .i64 0, .int .i64 0, .int .i64 0, .int .i64 0, .slice none 0 0, .int .i64 0, .slice none 0 0] 48)) := ⟨_, rfl⟩
  rw [← hw1] at HB1 HC1 HR1 HG1 HS1 ⊢
  clear hw1
  refine (HV.out _ HG1.out HS1.out).mono ?_
  rintro e w2 ⟨rfl, hb2⟩
  have HB2 := Lib.hid (HB1.out.trans (hb2.mono HB1.out.size))
  have HC2 := Lib.hid ((hb2.block _ (blk_lt HC1.out)).trans HC1.out)
  have HR2 := Lib.hid ((hb2.block _ (blk_lt HR1.out)).trans HR1.out)
  have HG2 := Lib.hid ((HG1.out.below hb2).more hb2.size)
  clear hb2 HB1 HC1 HR1 HG1 HS1 HV
  go_wp2_with (with_reducible refine wpList_load_row rfl 29 (.tmp 3) rfl w.heap.size rfl 29 cs (0, 0) _ HC2.out Tryd.underlying29 rfl HI.out ?_)
  refine (HP.out _ HG2.out).mono ?_
  rintro e w3 ⟨rfl, hb3⟩
  have HB3 := Lib.hid (HB2.out.trans (hb3.mono HB2.out.size))
  have HR3 := Lib.hid ((hb3.block _ (blk_lt HR2.out)).trans HR2.out)
  clear hb3 HB2 HC2 HR2 HG2 HP
  obtain ⟨_, o2, o3, o4, o5, o6⟩ := HOK.out
  go_wp2_with fail
  refine (scaled_any gn ga gh gd gi gt p _ h1 h2 ⟨by omega, by omega⟩ ⟨by omega, by omega⟩ o4 o5 o6).mono ?_
  simp only [scG, Gl.val]
  have b1 := scale_bnd ga p (by omega) (by omega) h1 h2
  have b2 := scale_bnd gi p (by omega) (by omega) h1 h2
  generalize scaleL ga p = sa at *
  generalize scaleL gh p = sh at *
  generalize scaleL gd p = sd at *
  generalize scaleL gi p = si at *
  generalize scaleL gt p = st at *
  rintro e w4 ⟨rfl, hb4⟩
  have HB4 := Lib.hid (HB3.out.trans (hb4.mono HB3.out.size))
  have HR4 := Lib.hid ((hb4.block _ (blk_lt HR3.out)).trans HR3.out)
  clear hb4 HB3 HR3 o2 o3 o4 o5 o6 HOK
  have hb5 : Below w4.heap.size w4 (w4.alloc (.cells #[.string ⟨gn.toArray⟩, .int .i64 sa, .int .i64 sh, .int .i64 sd, .int .i64 si, .int .i64 st] 32)) := (Below.refl _ _).alloc (Nat.le_refl _) _
  have HR5 := Lib.hid ((hb5.block _ (blk_lt HR4.out)).trans HR4.out)
  have HB5 := Lib.hid (HB4.out.trans (hb5.mono HB4.out.size))
  clear hb5
  have hlr : w.heap.size + 1 < w4.heap.size := blk_lt HR4.out
  go_upto_region 6 with (fail)
  obtain ⟨w5, hw5⟩ : ∃ w5, w5 = w4.alloc (.cells #[.string ⟨gn.toArray⟩, .int .i64 sa, .int .i64 sh, .int .i64 sd, .int .i64 si, .int .i64 st] 32) := ⟨_, rfl⟩
  have HN5 : Hid (w5.heap[w4.heap.size]? = some (.cells #[.string ⟨gn.toArray⟩, .int .i64 sa, .int .i64 sh, .int .i64 sd, .int .i64 si, .int .i64 st] 32)) := by rw [hw5]; exact blk_new _ _
  rw [← hw5] at HR5 HB5 ⊢
  clear hw5
  have d0 := cell_blk HN5.out 0
  have d1 := cell_blk HN5.out 1
  have d2 := cell_blk HN5.out 2
  have d3 := cell_blk HN5.out 3
  have d4 := cell_blk HN5.out 4
  simp at d0 d1 d2 d3 d4
  have HI48 : Hid ((Tryd.prog.info? 48).map (·.size) = some (bxC gn p (sa + max 0 si) sh sd).toArray.size) := by show _ = _; kernel_rfl
  have HO48 : Hid ((#[.int .i64 0, .string ⟨#[]⟩, .int .i64 0, .int .i64 0, .int .i64 0, .int .i64 0, .int .i64 0, .int .i64 0, .slice none 0 0, .int .i64 0, .slice none 0 0] : Array Value).size = (bxC gn p (sa + max 0 si) sh sd).toArray.size) := rfl
  have HA48 : Hid ((bxC gn p (sa + max 0 si) sh sd).toArray.all (·.oneCell') = true) := by show _ = _; simp [bxC, Value.oneCell']
  go_wp2_with (with_reducible refine wpList_store_row rfl 48 (.tmp 6) (.tmp 39) rfl (w.heap.size + 1) (bxC gn p (sa + max 0 si) sh sd).toArray rfl rfl 48 #[.int .i64 0, .string ⟨#[]⟩, .int .i64 0, .int .i64 0, .int .i64 0, .int .i64 0, .int .i64 0, .int .i64 0, .slice none 0 0, .int .i64 0, .slice none 0 0] HR5.out HI48.out HO48.out HA48.out ?_)
  have hfin : (w5.setRow (w.heap.size + 1) (bxC gn p (sa + max 0 si) sh sd).toArray).heap[w.heap.size + 1]? = some (.cells (bxC gn p (sa + max 0 si) sh sd).toArray 48) := setRow_heap _ _ _ _ _ _ HR5.out
  have hbel := below_setRow HB5.out (g := w.heap.size + 1) (by omega) (bxC gn p (sa + max 0 si) sh sd).toArray
  exact bodyPost_ret (results_row_tmp Tryd.results16 _ _ (w.heap.size + 1) 48 (bxC gn p (sa + max 0 si) sh sd).toArray (0, 0) _ rfl hfin Tryd.underlying48 rfl HI48.out) rfl ⟨by rw [HBV.out]; rfl, hbel⟩
end Go.Proofs.YthgkdeaapjdadaaDoor
