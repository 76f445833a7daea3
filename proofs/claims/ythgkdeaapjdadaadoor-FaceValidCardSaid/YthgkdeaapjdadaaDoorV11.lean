/- Walk of FaceValid. -/
import Derived.Test.YthgkdeaapjdadaaDoorV10
namespace Go.Proofs.YthgkdeaapjdadaaDoor
open Go.RowKit

theorem srow_of {w : World} {base : Nat} {t sc : Nat} {l : List St} (h : Row w base (.slice (some ⟨t, 0, none⟩) 14 sc) l largeN) : SRow w t := by
  obtain ⟨g, hg, hat⟩ := row_at h
  injection hg with hg
  injection hg with hg _ _
  subst hg
  refine ⟨?_, hat⟩
  obtain ⟨_, _, h0, _⟩ := hat 0 (by decide)
  exact World.block_lt_of_cell? w _ h0
theorem row_cap {w : World} {base e size n : Nat} {A : Option Addr} {sc : Nat} {xs : List Value} (h : w.ownsRow base e size (.slice A n sc) n xs) : n ≤ sc := by
  rcases h.2 with ⟨h0, h1⟩ | ⟨g, cap, _, h', _, _, hnc, _⟩
  · omega
  · cases h'; exact hnc
theorem name_ne {n : List UInt8} (h : nameOk n = true) : n ≠ [] := by
  unfold nameOk at h
  simp only [Bool.and_eq_true, decide_eq_true_eq] at h
  intro e
  rw [e] at h
  simp at h

set_option maxRecDepth 100000 in
set_option maxHeartbeats 4000000 in
theorem fvl_walk (n : List UInt8) (q : Nat) (w : World) (hq : q ≤ 65535) : Calls Tryd.prog 8 #[.string ⟨n.toArray⟩, .int .u16 q] w fun e w' => e = .returned (.bool true) ∧ Below w.heap.size w w' := by
  obtain ⟨y, hy⟩ : ∃ y : Nat, y = q % 1000 := ⟨_, rfl⟩
  have hy1 : y < 1000 := by omega
  have hyz : (q : Int) % 1000 = (y : Int) := by omega
  clear hy
  go_enter Tryd.func8, Tryd.ntmps8
  go_wp2_with fail
  refine (font_any _).mono ?_
  rintro e w1 ⟨A, c, SA, sc, l, rfl, ho1, hr1, hb1⟩
  rw [fontC_rf]
  have hl1 : l.length = 14 := row_len hr1
  have hT1 := hr1.own
  rw [hl1] at hT1
  obtain ⟨g1, c1, eg, _, hg1⟩ := ho1.form (by decide +kernel)
  obtain ⟨t1, sc1, et, _, ht1⟩ := hT1.form (by omega)
  injection eg with eA _ ec
  injection et with eS _ es
  subst eA eS ec es
  have hsc : 14 ≤ sc := row_cap hT1
  obtain ⟨A', c', hv', hGR, _⟩ := GR.of_own ho1
  injection hv' with hv1 _ hv2
  subst hv1 hv2
  have hSR := srow_of hr1
  have HA : Hid ((rfC (.slice (some ⟨g1, 0, none⟩) GF.length c) (.slice (some ⟨t1, 0, none⟩) 14 sc)).all (·.oneCell') = true) := rfC_all _ _ _ _ _
  have HI := Lib.hid (rfC_info (.slice (some ⟨g1, 0, none⟩) GF.length c) (.slice (some ⟨t1, 0, none⟩) 14 sc))
  have HO : Hid ((#[.slice none 0 0, .slice none 0 0, .int .i64 0, .int .i64 0, .int .i64 0, .int .i64 0, .int .i64 0, .int .i64 0, .int .i64 0, .int .i64 0, .int .i64 0, .int .i64 0, .int .i64 0, .int .i64 0, .int .i64 0, .int .i64 0, .int .i64 0, .int .i64 0, .int .i64 0, .int .i64 0, .int .i64 0, .int .i64 0] : Array Value).size = (rfC (.slice (some ⟨g1, 0, none⟩) GF.length c) (.slice (some ⟨t1, 0, none⟩) 14 sc)).size) := rfl
  have HK1 := Lib.hid (new_row w1 (rfC (.slice (some ⟨g1, 0, none⟩) GF.length c) (.slice (some ⟨t1, 0, none⟩) 14 sc)))
  have HZ := Lib.hid (blk_new w1 (.cells #[.slice none 0 0, .slice none 0 0, .int .i64 0, .int .i64 0, .int .i64 0, .int .i64 0, .int .i64 0, .int .i64 0, .int .i64 0, .int .i64 0, .int .i64 0, .int .i64 0, .int .i64 0, .int .i64 0, .int .i64 0, .int .i64 0, .int .i64 0, .int .i64 0, .int .i64 0, .int .i64 0, .int .i64 0, .int .i64 0] 29))
  have HV := Lib.hid (fun w (hg : GR w w.heap.size (some ⟨g1, 0, none⟩) GF) (hs : SRow w t1) => fvalid_any g1 c t1 sc w hsc hg hs)
  have HP := Lib.hid (fun w (hg : GR w w.heap.size (some ⟨g1, 0, none⟩) GF) => pick_any (some ⟨g1, 0, none⟩) c (some ⟨t1, 0, none⟩) sc n w hg)
  have HX := Lib.hid (fun w (hg : GR w w.heap.size (some ⟨g1, 0, none⟩) GF) (hs : SRow w t1) => box_any g1 c t1 sc n (1 + (y : Int)) w (by omega) (by omega) hsc hg hs)
  unfold boxV bxC at HX
  have HOK := Lib.hid (pick_ok n)
  have HRS := Lib.hid (fun w' => rscale_any (pickV n).h.toNat (1 + y) w' (by have := (HOK.out).2.2.1; omega) (by omega))
  rw [show (((pickV n).h.toNat : Nat) : Int) = (pickV n).h from by have := (HOK.out).2.2.1; omega, show ((1 + y : Nat) : Int) = 1 + (y : Int) from by omega] at HRS
  have hW0 : 0 ≤ scaleL (pickV n).w (1 + (y : Int)) := scale_pos _ _ (by have := (HOK.out).2.1; omega) (by have := (HOK.out).2.1; omega) (by omega) (by omega)
  have HNE := Lib.hid (name_ne HOK.out.1)
  clear HOK
  generalize pickV n = g at *
  obtain ⟨gn, ga, gh, gd, gi, gt⟩ := g
  simp only [Gl.val] at HP
  simp only at HX HRS hW0 HNE
  obtain ⟨bw, hbw⟩ : ∃ bw, bw = scaleL ga (1 + (y : Int)) + max 0 (scaleL gi (1 + (y : Int))) := ⟨_, rfl⟩
  have hbw0 : 0 ≤ bw := by omega
  rw [← hbw] at HX
  clear hbw hW0
  generalize scaleL gh (1 + (y : Int)) = sh at *
  generalize scaleL gd (1 + (y : Int)) = sd at *
  generalize rfC (.slice (some ⟨g1, 0, none⟩) GF.length c) (.slice (some ⟨t1, 0, none⟩) 14 sc) = cs at *
  have HB1 := Lib.hid hb1
  have HG1 := Lib.hid hGR
  have HS1 := Lib.hid hSR
  clear hb1 hGR hSR ho1 hr1 hT1 hg1 ht1 hl1
  go_wp2_with (first | (with_reducible refine wpList_allocTo rfl (some 5) rfl _ _ (alloc29 _ _ rfl _) ?_) | (with_reducible refine wpList_store_row rfl 29 (.tmp 5) (.tmp 10) rfl w1.heap.size cs rfl rfl 29 #[.slice none 0 0, .slice none 0 0, .int .i64 0, .int .i64 0, .int .i64 0, .int .i64 0, .int .i64 0, .int .i64 0, .int .i64 0, .int .i64 0, .int .i64 0, .int .i64 0, .int .i64 0, .int .i64 0, .int .i64 0, .int .i64 0, .int .i64 0, .int .i64 0, .int .i64 0, .int .i64 0, .int .i64 0, .int .i64 0] HZ.out HI.out HO.out HA.out ?_) | (with_reducible refine wpList_load_row rfl 29 (.tmp 5) rfl w1.heap.size rfl 29 cs (0, 0) _ HK1.out.2 Tryd.underlying29 rfl HI.out ?_))
  generalize (w1.alloc (.cells #[.slice none 0 0, .slice none 0 0, .int .i64 0, .int .i64 0, .int .i64 0, .int .i64 0, .int .i64 0, .int .i64 0, .int .i64 0, .int .i64 0, .int .i64 0, .int .i64 0, .int .i64 0, .int .i64 0, .int .i64 0, .int .i64 0, .int .i64 0, .int .i64 0, .int .i64 0, .int .i64 0, .int .i64 0, .int .i64 0] 29)).setRow w1.heap.size cs = w2 at *
  obtain ⟨hb2, hf2⟩ := HK1.out
  have HB2 := Lib.hid (HB1.out.trans (hb2.mono HB1.out.size))
  have HF2 := Lib.hid hf2
  have HG2 := Lib.hid ((HG1.out.below hb2).more hb2.size)
  have HS2 := Lib.hid (HS1.out.below hb2)
  clear hb2 hf2 HK1 HB1 HG1 HS1 HZ HA HO
  refine (HX.out _ HG2.out HS2.out).mono ?_
  rintro e w3 ⟨rfl, hb3⟩
  have HB3 := Lib.hid (HB2.out.trans (hb3.mono HB2.out.size))
  have HF3 := Lib.hid ((hb3.block _ (blk_lt HF2.out)).trans HF2.out)
  have HG3 := Lib.hid ((HG2.out.below hb3).more hb3.size)
  have HS3 := Lib.hid (HS2.out.below hb3)
  clear hb3 HB2 HF2 HG2 HS2 HX
  have hb4 : Below w3.heap.size w3 (w3.alloc (.cells #[.int .i64 1, .string ⟨gn.toArray⟩, .int .i64 (1 + (y : Int)), .int .i64 bw, .int .i64 sh, .int .i64 sd, .int .i64 0, .int .i64 0, .slice none 0 0, .int .i64 0, .slice none 0 0] 48)) := (Below.refl _ _).alloc (Nat.le_refl _) _
  have HB4 := Lib.hid (HB3.out.trans (hb4.mono HB3.out.size))
  have HF4 := Lib.hid ((hb4.block _ (blk_lt HF3.out)).trans HF3.out)
  have HG4 := Lib.hid ((HG3.out.below hb4).more hb4.size)
  have HS4 := Lib.hid (HS3.out.below hb4)
  have HN4 : Hid ((w3.alloc (.cells #[.int .i64 1, .string ⟨gn.toArray⟩, .int .i64 (1 + (y : Int)), .int .i64 bw, .int .i64 sh, .int .i64 sd, .int .i64 0, .int .i64 0, .slice none 0 0, .int .i64 0, .slice none 0 0] 48)).heap[w3.heap.size]? = some (.cells #[.int .i64 1, .string ⟨gn.toArray⟩, .int .i64 (1 + (y : Int)), .int .i64 bw, .int .i64 sh, .int .i64 sd, .int .i64 0, .int .i64 0, .slice none 0 0, .int .i64 0, .slice none 0 0] 48)) := blk_new _ _
  clear hb4 HB3 HF3 HG3 HS3
  go_wp2_with (with_reducible refine wpList_load_row rfl 29 (.tmp 5) rfl w1.heap.size rfl 29 cs (0, 0) _ HF4.out Tryd.underlying29 rfl HI.out ?_)
  refine (HP.out _ HG4.out).mono ?_
  obtain ⟨w4, hw4⟩ : ∃ w4, w4 = w3.alloc (.cells #[.int .i64 1, .string ⟨gn.toArray⟩, .int .i64 (1 + (y : Int)), .int .i64 bw, .int .i64 sh, .int .i64 sd, .int .i64 0, .int .i64 0, .slice none 0 0, .int .i64 0, .slice none 0 0] 48) := ⟨_, rfl⟩
  rw [← hw4] at HB4 HF4 HG4 HS4 HN4 ⊢
  clear hw4
  rintro e w5 ⟨rfl, hb5⟩
  have HB5 := Lib.hid (HB4.out.trans (hb5.mono HB4.out.size))
  have HF5 := Lib.hid ((hb5.block _ (blk_lt HF4.out)).trans HF4.out)
  have HN5 := Lib.hid ((hb5.block _ (blk_lt HN4.out)).trans HN4.out)
  have HG5 := Lib.hid ((HG4.out.below hb5).more hb5.size)
  have HS5 := Lib.hid (HS4.out.below hb5)
  clear hb5 HB4 HF4 HG4 HS4 HN4 HP
  have hb6 : Below w5.heap.size w5 (w5.alloc (.cells #[.string ⟨gn.toArray⟩, .int .i64 ga, .int .i64 gh, .int .i64 gd, .int .i64 gi, .int .i64 gt] 32)) := (Below.refl _ _).alloc (Nat.le_refl _) _
  have HB6 := Lib.hid (HB5.out.trans (hb6.mono HB5.out.size))
  have HF6 := Lib.hid ((hb6.block _ (blk_lt HF5.out)).trans HF5.out)
  have HN6 := Lib.hid ((hb6.block _ (blk_lt HN5.out)).trans HN5.out)
  have HG6 := Lib.hid ((HG5.out.below hb6).more hb6.size)
  have HS6 := Lib.hid (HS5.out.below hb6)
  have HM6 : Hid ((w5.alloc (.cells #[.string ⟨gn.toArray⟩, .int .i64 ga, .int .i64 gh, .int .i64 gd, .int .i64 gi, .int .i64 gt] 32)).heap[w5.heap.size]? = some (.cells #[.string ⟨gn.toArray⟩, .int .i64 ga, .int .i64 gh, .int .i64 gd, .int .i64 gi, .int .i64 gt] 32)) := blk_new _ _
  clear hb6 HB5 HF5 HN5 HG5 HS5
  go_wp2_with fail
  obtain ⟨w6, hw6⟩ : ∃ w6, w6 = w5.alloc (.cells #[.string ⟨gn.toArray⟩, .int .i64 ga, .int .i64 gh, .int .i64 gd, .int .i64 gi, .int .i64 gt] 32) := ⟨_, rfl⟩
  rw [← hw6] at HB6 HF6 HN6 HG6 HS6 HM6 ⊢
  clear hw6
  refine wp_region_pre_quiet_tail 7 32 (by kernel_rfl) (by kernel_rfl) ?_
  simp only [List.take_succ_cons, List.take_zero, List.drop_succ_cons, List.drop_zero]
  obtain ⟨w7, hw7⟩ : ∃ w7 : World, w7 = { w6 with drawn := w6.drawn + 1 } := ⟨_, rfl⟩
  rw [← hw7]
  have hb7 : Below w6.heap.size w6 w7 := by rw [hw7]; exact ⟨rfl, rfl, rfl, Nat.le_refl _, fun _ _ => rfl⟩
  have HB7 := Lib.hid (HB6.out.trans (hb7.mono HB6.out.size))
  have HF7 := Lib.hid ((hb7.block _ (blk_lt HF6.out)).trans HF6.out)
  have HN7 := Lib.hid ((hb7.block _ (blk_lt HN6.out)).trans HN6.out)
  have HM7 := Lib.hid ((hb7.block _ (blk_lt HM6.out)).trans HM6.out)
  have HG7 := Lib.hid ((HG6.out.below hb7).more hb7.size)
  have HS7 := Lib.hid (HS6.out.below hb7)
  clear hw7 hb7 HB6 HF6 HN6 HM6 HG6 HS6
  go_wp2_with (with_reducible refine wpList_load_row rfl 29 (.tmp 5) rfl w1.heap.size rfl 29 cs (0, 0) _ HF7.out Tryd.underlying29 rfl HI.out ?_)
  refine (HV.out _ HG7.out HS7.out).mono ?_
  rintro e w8 ⟨rfl, hb8⟩
  have HB8 := Lib.hid (HB7.out.trans (hb8.mono HB7.out.size))
  have HN8 := Lib.hid ((hb8.block _ (blk_lt HN7.out)).trans HN7.out)
  have HM8 := Lib.hid ((hb8.block _ (blk_lt HM7.out)).trans HM7.out)
  clear hb8 HB7 HF7 HN7 HM7 HG7 HS7 HV
  go_wp2_with fail
  have x1 := cell_blk HN8.out 1
  have x3 := cell_blk HN8.out 3
  have x4 := cell_blk HN8.out 4
  have y0 := cell_blk HM8.out 0
  have y2 := cell_blk HM8.out 2
  simp at x1 x3 x4 y0 y2
  have r1 := fun d os => cell_regrown x1 d os
  have r3 := fun d os => cell_regrown x3 d os
  have r4 := fun d os => cell_regrown x4 d os
  have s0 := fun d os => cell_regrown y0 d os
  have s2 := fun d os => cell_regrown y2 d os
  have cS := Lib.hid fun d os => Calls.regrown_of ((HRS.out (Sort.grow (redrawn w8 d) os)).mono fun e w' h => ⟨h.1, h.2 ▸ Below.refl _ _⟩)
  have hne1 : gn ≠ [] := HNE.out
  have hne2 : gn.isEmpty = false := by cases gn with | nil => exact absurd rfl hne1 | cons a l => rfl
  clear x1 x3 x4 y0 y2
  refine ⟨fun w' => ∃ p : Regrown, w' = Sort.grow (redrawn w8 p.d) p.os, ⟨⟨w8.drawn, #[]⟩, by rw [Sort.grow_empty]; rfl⟩, ?_⟩
  repeat (first | go_big_quiet_step (exact cS.out _ _) | quiet_step (exact cS.out _ _))
  refine wpQuiet_nil ?_
  intro w' hw'
  obtain ⟨⟨dq, osq⟩, hw''⟩ := hw'
  subst hw''
  have hb9 := below_regrown w8 dq osq
  have HB9 := Lib.hid (HB8.out.trans (hb9.mono HB8.out.size))
  clear cS r1 r3 r4 s0 s2
  go_wp2_with fail
  go_ret
  exact ⟨rfl, HB9.out⟩
theorem faceValid_walk (s : ByteArray) (q : Int) (w : World) (_hs : s.size ≤ maxLen) (hq : (Lit.int .u16 q).wf = true) (_ht : Tab w) : Calls Tryd.prog 8 #[.string s, .int .u16 q] w fun e w' => e = .returned (.bool true) ∧ Below w.heap.size w w' := by
  simp [Lit.wf, IntKind.min, IntKind.max, IntKind.signed, IntKind.bits] at hq
  obtain ⟨q', rfl⟩ : ∃ q' : Nat, q = (q' : Int) := ⟨q.toNat, by omega⟩
  have := fvl_walk s.data.toList q' w (by omega)
  rw [Array.toArray_toList] at this
  exact this
end Go.Proofs.YthgkdeaapjdadaaDoor
