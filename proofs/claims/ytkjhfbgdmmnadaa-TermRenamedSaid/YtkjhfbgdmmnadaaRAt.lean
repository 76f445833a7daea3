/- Contract of the reference's At 25. -/
import Derived.Test.YtkjhfbgdmmnadaaAtt
import Derived.RegionTactic
namespace Go.Proofs.Ytkjhfbgdmmnadaa
open Go.RowKit

theorem Bk.drew {w : World} {b : Nat} {v0 v1 v2 v3 v4 : Value} (h : Bk w b v0 v1 v2 v3 v4) : Bk w.drew b v0 v1 v2 v3 v4 := h
theorem TVS.drew {w : World} {S : Nat → Prop} {t : T} {A : Option Addr} {c : Nat} (h : TVS w S t A c) : TVS w.drew S t A c := h.keep (fun _ hk => ⟨hk, rfl⟩)
theorem Bk.set0 {w : World} {b : Nat} {v0 v1 v2 v3 v4 : Value} (h : Bk w b v0 v1 v2 v3 v4) (u : Value) : Bk (w.setCell ⟨b, 0, none⟩ u) b u v1 v2 v3 v4 := by
  unfold Bk at h ⊢
  show (w.heap.modify b _)[b]? = _
  rw [Array.getElem?_modify, if_pos rfl, h]
  rfl
theorem Bk.set1 {w : World} {b : Nat} {v0 v1 v2 v3 v4 : Value} (h : Bk w b v0 v1 v2 v3 v4) (u : Value) : Bk (w.setCell ⟨b, 1, none⟩ u) b v0 u v2 v3 v4 := by
  unfold Bk at h ⊢
  show (w.heap.modify b _)[b]? = _
  rw [Array.getElem?_modify, if_pos rfl, h]
  rfl
theorem Bk.set2 {w : World} {b : Nat} {v0 v1 v2 v3 v4 : Value} (h : Bk w b v0 v1 v2 v3 v4) (u : Value) : Bk (w.setCell ⟨b, 2, none⟩ u) b v0 v1 u v3 v4 := by
  unfold Bk at h ⊢
  show (w.heap.modify b _)[b]? = _
  rw [Array.getElem?_modify, if_pos rfl, h]
  rfl
theorem Bk.set4 {w : World} {b : Nat} {v0 v1 v2 v3 v4 : Value} (h : Bk w b v0 v1 v2 v3 v4) (u : Value) : Bk (w.setCell ⟨b, 4, none⟩ u) b v0 v1 v2 v3 u := by
  unfold Bk at h ⊢
  show (w.heap.modify b _)[b]? = _
  rw [Array.getElem?_modify, if_pos rfl, h]
  rfl

set_option maxRecDepth 100000 in
set_option maxHeartbeats 4000000 in
theorem at25_any (t : T) (A : Option Addr) (c : Nat) (v : Value) (p : List Int) (w : World) (hv : TV w w.heap.size t A c) (hp : PI w w.heap.size v p) (hs : SA t) :
    Calls Try.prog 25 #[.agg (tv t A c), v] w fun e w' => ∃ A' c', e = .returned (.tuple #[.agg (tv (atT t p).1 A' c'), .int .i64 (atT t p).2]) ∧ TV w' w'.heap.size (atT t p).1 A' c' ∧ Below w.heap.size w w' := by
  have hb1 : Below w.heap.size w (w.alloc (.cells (tv t A c) 24)) := (Below.refl _ _).alloc (Nat.le_refl _) _
  have hb0 : Below w.heap.size w ((w.alloc (.cells (tv t A c) 24)).alloc (.cells #[.int .i64 0, .string ⟨#[]⟩, .string ⟨#[]⟩, .slice none 0 0, .string ⟨#[]⟩] 24)) := hb1.alloc (by simp) _
  have hs2 : ((w.alloc (.cells (tv t A c) 24)).alloc (.cells #[.int .i64 0, .string ⟨#[]⟩, .string ⟨#[]⟩, .slice none 0 0, .string ⟨#[]⟩] 24)).heap.size = w.heap.size + 2 := by simp
  have hs1 : (w.alloc (.cells (tv t A c) 24)).heap.size = w.heap.size + 1 := by simp
  have HC := Lib.hid (rvalid_any t A c _ (hv.reach hb0) hs)
  have HVS : Hid (TVS ((w.alloc (.cells (tv t A c) 24)).alloc (.cells #[.int .i64 0, .string ⟨#[]⟩, .string ⟨#[]⟩, .slice none 0 0, .string ⟨#[]⟩] 24)) (fun k => k < w.heap.size) t A c) := hv.set.keep (fun k hk => ⟨hk, hb0.block k hk⟩)
  have HRB := Lib.hid (Bk.new (w.alloc (.cells (tv t A c) 24)) (.int .i64 0) (.string ⟨#[]⟩) (.string ⟨#[]⟩) (.slice none 0 0) (.string ⟨#[]⟩))
  rw [hs1] at HRB
  have HF : Hid (((w.alloc (.cells (tv t A c) 24)).alloc (.cells #[.int .i64 0, .string ⟨#[]⟩, .string ⟨#[]⟩, .slice none 0 0, .string ⟨#[]⟩] 24)).heap[w.heap.size]? = some (.cells (tv t A c) 24)) := (Below.heap_alloc _ _ _ (by simp)).trans (blk_new _ _)
  have HTB : Hid (Bk ((w.alloc (.cells (tv t A c) 24)).alloc (.cells #[.int .i64 0, .string ⟨#[]⟩, .string ⟨#[]⟩, .slice none 0 0, .string ⟨#[]⟩] 24)) w.heap.size (.int .i64 t.kind) (.string ⟨t.name.toArray⟩) (.string ⟨t.var.toArray⟩) (.slice A t.args.length c) (.string ⟨t.form.toArray⟩)) := HF.out
  have HI := Lib.hid (tv_info t A c)
  have HB0 := Lib.hid hb0
  have HS2 := Lib.hid hs2
  obtain ⟨PA, pc, rfl, ⟨hpc1, hpc2⟩, hpcell⟩ := hp
  have HPC := Lib.hid hpcell
  have hpl : p.length ≤ 9223372036854775807 := by omega
  have HE : Hid (atT t p = if validB t = true then goT t p else (zT, 1)) := rfl
  clear hv hs hb0 hb1 hs2 hpcell hs1
  generalize tv t A c = cs at *
  go_enter Try.func25, Try.ntmps25
  go_wp2_with (with_reducible refine wpList_load_row rfl 24 (.tmp 2) rfl w.heap.size rfl 24 cs (0, 0) _ HF.out Try.underlying24 rfl HI.out ?_)
  generalize (w.alloc (.cells cs 24)).alloc (.cells #[.int .i64 0, .string ⟨#[]⟩, .string ⟨#[]⟩, .slice none 0 0, .string ⟨#[]⟩] 24) = w0 at *
  refine HC.out.mono ?_
  rintro e w1 ⟨rfl, hb1⟩
  have HB1 := Lib.hid (HB0.out.trans (hb1.mono HB0.out.size))
  have HVS1 : Hid (TVS w1 (fun k => k < w.heap.size) t A c) := HVS.out.keep (fun k hk => ⟨hk, hb1.block k (Nat.lt_of_lt_of_le hk HB0.out.size)⟩)
  have HR1 := Lib.hid (HRB.out.reach hb1)
  have HT1 := Lib.hid (HTB.out.reach hb1)
  have HSZ1 : Hid (w.heap.size + 2 ≤ w1.heap.size) := by have := hb1.size; rw [HS2.out] at this; exact this
  clear hb1 HC HRB HF HVS HTB HB0
  cases hvb : validB t with
  | false =>
    have HX : Hid (atT t p = (zT, 1)) := HE.out.trans (if_neg (by rw [hvb]; decide))
    obtain ⟨⟨q0, q1, q2, q3, q4⟩, qf, ql⟩ := HR1.out.cells
    clear hvb
    go_wp2_with fail
    rw [HX.out]
    refine bodyPost_ret (v := .tuple #[.agg (tv zT none 0), .int .i64 1]) (by simp [results, Try.results25, go_sem, tv, zT, T.kind, T.name, T.var, T.args, T.form, q0, q1, q2, q3, q4]) rfl ⟨none, 0, rfl, zT_tv _ _, ?_⟩
    exact (((((HB1.out.setCell (p := ⟨w.heap.size + 1, 0, none⟩) (by simp) _).setCell (p := ⟨w.heap.size + 1, 1, none⟩) (by simp) _).setCell (p := ⟨w.heap.size + 1, 2, none⟩) (by simp) _).setCell (p := ⟨w.heap.size + 1, 3, none⟩) (by simp) _).setCell (p := ⟨w.heap.size + 1, 4, none⟩) (by simp) _)
  | true =>
    have HX : Hid (atT t p = goT t p) := HE.out.trans (if_pos hvb)
    clear hvb
    go_wp2_with fail
    go_loopg [6] p.length (fun gg s6 wr => ∃ (i : Nat) (s : T) (A2 : Option Addr) (c2 : Nat), i ≤ p.length ∧ p.length - i ≤ gg ∧ s6 = .int .i64 i ∧ Aside (TVS wr (fun k => k < w.heap.size) s A2 c2) ∧ Aside (Bk wr w.heap.size (.int .i64 s.kind) (.string ⟨s.name.toArray⟩) (.string ⟨s.var.toArray⟩) (.slice A2 s.args.length c2) (.string ⟨s.form.toArray⟩)) ∧
      Aside (Bk wr (w.heap.size + 1) (.int .i64 0) (.string ⟨#[]⟩) (.string ⟨#[]⟩) (.slice none 0 0) (.string ⟨#[]⟩)) ∧ Aside (goT t p = goT s (p.drop i)) ∧ Aside (Below w.heap.size w wr))
    case atStart => exact ⟨0, t, A, c, Nat.zero_le _, by omega, rfl, HVS1.out, HT1.out, HR1.out, rfl, HB1.out⟩
    case round =>
      obtain ⟨i, s, A2, c2, hi, hgg, rfl, HV, HT, HR, HG, HB⟩ := hrel
      obtain ⟨⟨m0, m1, m2, m3, m4⟩, mf, ml⟩ := HT.out.cells
      obtain ⟨⟨q0, q1, q2, q3, q4⟩, qf, ql⟩ := HR.out.cells
      obtain ⟨hcp1, hcp2⟩ := HV.out.cap
      have hsl : s.args.length ≤ 9223372036854775807 := by omega
      by_cases hlt : i < p.length
      · have hltz : (i : Int) < (p.length : Int) := by omega
        obtain ⟨pb, po, rfl, hpb, hpx⟩ := HPC.out (by intro e; rw [e] at hlt; simp at hlt)
        have hck : wr.cell? ⟨pb, po + i, none⟩ = some (.int .i64 p[i]) := (HB.out.cell (p := ⟨pb, po + i, none⟩) hpb).trans (hpx i hlt)
        have HD := Lib.hid (goT_cons s p i hlt)
        clear hpx
        generalize p[i] = x at *
        by_cases h0 : x < 0
        · have HY : Hid (atT t p = (zT, 2)) := by show atT t p = _; rw [HX.out, HG.out, HD.out, nthA_neg _ _ h0]; rfl
          clear HD
          go_wp2_with fail
          go_big_quiet (fail)
          have HBn := Lib.hid (below_drewNB HB.out nq)
          have HRn : Hid (Bk (wr.drewN nq) (w.heap.size + 1) (.int .i64 0) (.string ⟨#[]⟩) (.string ⟨#[]⟩) (.slice none 0 0) (.string ⟨#[]⟩)) := HR.out
          clear m0 m1 m2 m3 m4 mf ml q0 q1 q2 q3 q4 qf ql
          generalize wr.drewN nq = wn at *
          obtain ⟨⟨q0, q1, q2, q3, q4⟩, qf, ql⟩ := HRn.out.cells
          go_wp2_with fail
          rw [HY.out]
          refine bodyPost_ret (v := .tuple #[.agg (tv zT none 0), .int .i64 2]) (by simp [results, Try.results25, go_sem, tv, zT, T.kind, T.name, T.var, T.args, T.form, q0, q1, q2, q3, q4]) rfl ⟨none, 0, rfl, zT_tv _ _, ?_⟩
          exact (((((HBn.out.setCell (p := ⟨w.heap.size + 1, 0, none⟩) (by simp) _).setCell (p := ⟨w.heap.size + 1, 1, none⟩) (by simp) _).setCell (p := ⟨w.heap.size + 1, 2, none⟩) (by simp) _).setCell (p := ⟨w.heap.size + 1, 3, none⟩) (by simp) _).setCell (p := ⟨w.heap.size + 1, 4, none⟩) (by simp) _)
        · by_cases h1 : x < s.args.length
          · have h1z : ¬ (s.args.length : Int) ≤ x := by omega
            obtain ⟨n, rfl⟩ : ∃ n : Nat, x = (n : Int) := ⟨x.toNat, by omega⟩
            have hns : n < s.args.length := by omega
            have HY : Hid (goT t p = goT s.args[n] (p.drop (i + 1))) := by
              show goT t p = _
              rw [HG.out, HD.out, nthA_at _ n hns]; rfl
            obtain ⟨b1, o1, rfl, hR1⟩ := HV.out.ar.at_ hns
            have hd0 : decide ((n : Int) < 0) = false := decide_eq_false (by omega)
            have hd1 : ((n : Int) < 0) = False := by simp
            clear HD
            go_wp2_with fail
            go_big_quiet (fail)
            have HBn := Lib.hid (below_drewNB HB.out nq)
            have HRn : Hid (Bk (wr.drewN nq) (w.heap.size + 1) (.int .i64 0) (.string ⟨#[]⟩) (.string ⟨#[]⟩) (.slice none 0 0) (.string ⟨#[]⟩)) := HR.out
            have HTn : Hid (Bk (wr.drewN nq) w.heap.size (.int .i64 s.kind) (.string ⟨s.name.toArray⟩) (.string ⟨s.var.toArray⟩) (.slice (some ⟨b1, o1, none⟩) s.args.length c2) (.string ⟨s.form.toArray⟩)) := HT.out
            have HSn : Hid (TRS (wr.drewN nq) (fun k => k < w.heap.size) b1 (o1 + n * 5) s.args[n]) := hR1.keep (fun k hk => ⟨hk, rfl⟩)
            replace hck : (wr.drewN nq).cell? _ = _ := hck
            clear m0 m1 m2 m3 m4 mf ml q0 q1 q2 q3 q4 qf ql hR1
            generalize wr.drewN nq = wn at *
            obtain ⟨⟨m0, m1, m2, m3, m4⟩, mf, ml⟩ := HTn.out.cells
            obtain ⟨_, a0, a1, a2, a4, A5, c5, a3, hvs5⟩ := HSn.out.parts
            have HVS5 := Lib.hid hvs5
            have mf0 := mf 0
            have mf1 := mf 1
            have mf2 := mf 2
            have mf3 := mf 3
            have mf4 := mf 4
            clear hvs5 mf
            generalize s.args[n] = u at *
            go_wp2_with fail
            go_region
            all_goals
              have HB6 : Hid (Below w.heap.size w ((((((wn.setCell ⟨w.heap.size, 0, none⟩ (.int .i64 u.kind)).setCell ⟨w.heap.size, 1, none⟩ (.string ⟨u.name.toArray⟩)).setCell ⟨w.heap.size, 2, none⟩ (.string ⟨u.var.toArray⟩)).setCell ⟨w.heap.size, 3, none⟩ (.slice A5 u.args.length c5)).setCell ⟨w.heap.size, 4, none⟩ (.string ⟨u.form.toArray⟩)).drew)) := below_dr ((((((HBn.out.setCell (p := ⟨w.heap.size, 0, none⟩) (Nat.le_refl _) _).setCell (p := ⟨w.heap.size, 1, none⟩) (Nat.le_refl _) _).setCell (p := ⟨w.heap.size, 2, none⟩) (Nat.le_refl _) _).setCell (p := ⟨w.heap.size, 3, none⟩) (Nat.le_refl _) _).setCell (p := ⟨w.heap.size, 4, none⟩) (Nat.le_refl _) _))
              have HR6 : Hid (Bk ((((((wn.setCell ⟨w.heap.size, 0, none⟩ (.int .i64 u.kind)).setCell ⟨w.heap.size, 1, none⟩ (.string ⟨u.name.toArray⟩)).setCell ⟨w.heap.size, 2, none⟩ (.string ⟨u.var.toArray⟩)).setCell ⟨w.heap.size, 3, none⟩ (.slice A5 u.args.length c5)).setCell ⟨w.heap.size, 4, none⟩ (.string ⟨u.form.toArray⟩)).drew) (w.heap.size + 1) (.int .i64 0) (.string ⟨#[]⟩) (.string ⟨#[]⟩) (.slice none 0 0) (.string ⟨#[]⟩)) := (((((HRn.out.other (b' := w.heap.size) (o := 0) _ (by omega)).other (b' := w.heap.size) (o := 1) _ (by omega)).other (b' := w.heap.size) (o := 2) _ (by omega)).other (b' := w.heap.size) (o := 3) _ (by omega)).other (b' := w.heap.size) (o := 4) _ (by omega)).drew
              have HT6 : Hid (Bk ((((((wn.setCell ⟨w.heap.size, 0, none⟩ (.int .i64 u.kind)).setCell ⟨w.heap.size, 1, none⟩ (.string ⟨u.name.toArray⟩)).setCell ⟨w.heap.size, 2, none⟩ (.string ⟨u.var.toArray⟩)).setCell ⟨w.heap.size, 3, none⟩ (.slice A5 u.args.length c5)).setCell ⟨w.heap.size, 4, none⟩ (.string ⟨u.form.toArray⟩)).drew) w.heap.size (.int .i64 u.kind) (.string ⟨u.name.toArray⟩) (.string ⟨u.var.toArray⟩) (.slice A5 u.args.length c5) (.string ⟨u.form.toArray⟩)) := (((((HTn.out.set0 _).set1 _).set2 _).set3 _).set4 _).drew
              have HV6 : Hid (TVS ((((((wn.setCell ⟨w.heap.size, 0, none⟩ (.int .i64 u.kind)).setCell ⟨w.heap.size, 1, none⟩ (.string ⟨u.name.toArray⟩)).setCell ⟨w.heap.size, 2, none⟩ (.string ⟨u.var.toArray⟩)).setCell ⟨w.heap.size, 3, none⟩ (.slice A5 u.args.length c5)).setCell ⟨w.heap.size, 4, none⟩ (.string ⟨u.form.toArray⟩)).drew) (fun k => k < w.heap.size) u A5 c5) := (((((HVS5.out.set w.heap.size 0 _ (Nat.lt_irrefl _)).set w.heap.size 1 _ (Nat.lt_irrefl _)).set w.heap.size 2 _ (Nat.lt_irrefl _)).set w.heap.size 3 _ (Nat.lt_irrefl _)).set w.heap.size 4 _ (Nat.lt_irrefl _)).drew
              generalize ((((((wn.setCell ⟨w.heap.size, 0, none⟩ (.int .i64 u.kind)).setCell ⟨w.heap.size, 1, none⟩ (.string ⟨u.name.toArray⟩)).setCell ⟨w.heap.size, 2, none⟩ (.string ⟨u.var.toArray⟩)).setCell ⟨w.heap.size, 3, none⟩ (.slice A5 u.args.length c5)).setCell ⟨w.heap.size, 4, none⟩ (.string ⟨u.form.toArray⟩)).drew) = w6 at *
              go_wp2_with fail
              go_roundg (p.length - (i + 1))
              case measure => omega
              case rel => exact ⟨i + 1, u, A5, c5, by omega, by omega, by go_num, HV6.out, HT6.out, HR6.out, HY.out, HB6.out⟩
          · have HY : Hid (atT t p = (zT, 2)) := by show atT t p = _; rw [HX.out, HG.out, HD.out, nthA_big _ _ h1]; rfl
            have h1z : (s.args.length : Int) ≤ x := by omega
            have hd0 : decide (x < 0) = false := decide_eq_false h0
            clear HD
            go_wp2_with fail
            go_big_quiet (fail)
            have HBn := Lib.hid (below_drewNB HB.out nq)
            have HRn : Hid (Bk (wr.drewN nq) (w.heap.size + 1) (.int .i64 0) (.string ⟨#[]⟩) (.string ⟨#[]⟩) (.slice none 0 0) (.string ⟨#[]⟩)) := HR.out
            clear m0 m1 m2 m3 m4 mf ml q0 q1 q2 q3 q4 qf ql
            generalize wr.drewN nq = wn at *
            obtain ⟨⟨q0, q1, q2, q3, q4⟩, qf, ql⟩ := HRn.out.cells
            go_wp2_with fail
            rw [HY.out]
            refine bodyPost_ret (v := .tuple #[.agg (tv zT none 0), .int .i64 2]) (by simp [results, Try.results25, go_sem, tv, zT, T.kind, T.name, T.var, T.args, T.form, q0, q1, q2, q3, q4]) rfl ⟨none, 0, rfl, zT_tv _ _, ?_⟩
            exact (((((HBn.out.setCell (p := ⟨w.heap.size + 1, 0, none⟩) (by simp) _).setCell (p := ⟨w.heap.size + 1, 1, none⟩) (by simp) _).setCell (p := ⟨w.heap.size + 1, 2, none⟩) (by simp) _).setCell (p := ⟨w.heap.size + 1, 3, none⟩) (by simp) _).setCell (p := ⟨w.heap.size + 1, 4, none⟩) (by simp) _)
      · have hltz : ¬ (i : Int) < (p.length : Int) := by omega
        have HY : Hid (atT t p = (s, 0)) := by show atT t p = _; rw [HX.out, HG.out, goT_nil s p i (by omega)]
        have hnb : ¬ (w.heap.size + 1 < w.heap.size) := by omega
        go_wp2_with fail
        rw [HY.out]
        refine bodyPost_ret (v := .tuple #[.agg (tv s A2 c2), .int .i64 0]) (by simp [results, Try.results25, go_sem, tv, q0, q1, q2, q3, q4]) rfl ⟨A2, c2, rfl, ?_, ?_⟩
        · exact (((((HV.out.set _ 0 _ hnb).set _ 1 _ hnb).set _ 2 _ hnb).set _ 3 _ hnb).set _ 4 _ hnb).tv (fun k hk => by have := HB.out.size; simp; omega)
        · exact (((((HB.out.setCell (p := ⟨w.heap.size + 1, 0, none⟩) (by simp) _).setCell (p := ⟨w.heap.size + 1, 1, none⟩) (by simp) _).setCell (p := ⟨w.heap.size + 1, 2, none⟩) (by simp) _).setCell (p := ⟨w.heap.size + 1, 3, none⟩) (by simp) _).setCell (p := ⟨w.heap.size + 1, 4, none⟩) (by simp) _)
end Go.Proofs.Ytkjhfbgdmmnadaa
