/- Contract of bare 17. -/
import Derived.Test.YtknpigdpepmimaaGreatDoorRsq
import Derived.Test.YtknpigdpepmimaaGreatDoorM25
namespace Go.Proofs.YtknpigdpepmimaaGreatDoor
open Go.RowKit

theorem bareTs_map : ∀ (ts : List T), bareTs ts = ts.map bareT
  | [] => by rw [bareTs]; rfl
  | t :: ts => by rw [bareTs, bareTs_map ts]; rfl
theorem bareTs_take (ts : List T) (i : Nat) (h : i < ts.length) : (bareTs ts).take (i + 1) = (bareTs ts).take i ++ [bareT ts[i]] := by
  have h2 : i < (bareTs ts).length := by rw [bareTs_len]; exact h
  rw [List.take_succ_eq_append_getElem h2]
  congr 2
  simp [bareTs_map]
theorem bareT_parts (t : T) : bareT t = .mk t.kind t.name t.var (bareTs t.args) [] := by
  cases t with
  | mk k n v ys f => rw [bareT]; rfl
/-- the call's own copies: t, the result -/
def Q2 (X : World) (n : Nat) (t : T) (A : Option Addr) (c : Nat) : Prop :=
  Bk X n (.int .i64 t.kind) (.string ⟨t.name.toArray⟩) (.string ⟨t.var.toArray⟩) (.slice A t.args.length c) (.string ⟨t.form.toArray⟩) ∧
  Bk X (n + 1) (.int .i64 0) (.string ⟨#[]⟩) (.string ⟨#[]⟩) (.slice none 0 0) (.string ⟨#[]⟩)
theorem Q2.below {X Y : World} {n : Nat} {t : T} {A : Option Addr} {c : Nat} (h : Q2 X n t A c) (hb : Below (n + 2) X Y) : Q2 Y n t A c :=
  ⟨h.1.below hb (by omega), h.2.below hb (by omega)⟩
theorem ba_end {S : Nat → Prop} {w W w7 : World} {n : Nat} {v v8 : Value} {l8 : List TX} {c0 c1 c2 c4 : Value} {t : T} {A : Option Addr} {c : Nat}
    (hO : OT (Zz S (n + 3)) w7 (n + 3) v8 l8) (h7 : Below (n + 3) W w7) (hQ : Q2 W n t A c) (hC : Bk W (n + 2) c0 c1 c2 v c4) (hB : Below n w W) (hBW : n + 3 ≤ W.heap.size) (hS : ∀ k, S k → k < n) :
    OT (Zz S (n + 3)) (w7.setCell ⟨n + 2, 3, none⟩ v8) (n + 3) v8 l8 ∧ Q2 (w7.setCell ⟨n + 2, 3, none⟩ v8) n t A c ∧ Bk (w7.setCell ⟨n + 2, 3, none⟩ v8) (n + 2) c0 c1 c2 v8 c4 ∧ Below n w (w7.setCell ⟨n + 2, 3, none⟩ v8) ∧ n + 3 ≤ (w7.setCell ⟨n + 2, 3, none⟩ v8).heap.size := by
  refine ⟨hO.set (Nat.lt_succ_self _) (fun h => ?_), hQ.below ((h7.mono (show n + 2 ≤ n + 3 by omega)).setCell (p := ⟨n + 2, 3, none⟩) (Nat.le_refl _) _), (hC.below h7 (by omega)).set3 _, (hB.trans (h7.mono (by omega))).setCell (p := ⟨n + 2, 3, none⟩) (Nat.le_add_right n 2) _, ?_⟩
  · rcases h with h | h
    · have := hS _ h; omega
    · omega
  · rw [World.size_setCell]; have := h7.size; omega
/-- what bare does -/
def BareC (N : Nat) : Prop := ∀ (t : T), t.size ≤ N → t.size ≤ 2700 → ∀ (S : Nat → Prop) (A : Option Addr) (c : Nat) (w : World), (∀ k, S k → k < w.heap.size) → TVS w S t A c →
  Calls Tryz.prog 17 #[.agg (tv t A c)] w fun e w' => ∃ A9 c9, e = .returned (.agg (tv (bareT t) A9 c9)) ∧ TVS w' (Nw S w w') (bareT t) A9 c9 ∧ Below w.heap.size w w'

set_option maxRecDepth 100000 in
set_option maxHeartbeats 8000000 in
theorem bare_aux (N : Nat) : BareC N := by
  induction N with
  | zero => intro t ht; exact absurd ht (by have := size_pos t; omega)
  | succ N ih =>
    intro t hsz hz S A c w hS ht
    have IH := Lib.hid ih
    have HA := Lib.hid ht
    have HP := Lib.hid hS
    have HWS : Hid (∀ s ∈ t.args, s.size ≤ N ∧ s.size ≤ 2700) := fun s hs => by have := size_arg hs; exact ⟨by omega, by omega⟩
    have HLS : Hid (t.args.length ≤ 2700) := by have := len_sizes t.args; have := size_eq t; show _ ≤ 2700; omega
    obtain ⟨⟨hcp1, hcp2⟩, hTA⟩ := ht
    have hyl : t.args.length ≤ 9223372036854775807 := by omega
    have HTA := Lib.hid hTA
    have hb1 : Below w.heap.size w ((w.alloc (.cells (tv t A c) 24)).alloc (.cells #[.int .i64 0, .string ⟨#[]⟩, .string ⟨#[]⟩, .slice none 0 0, .string ⟨#[]⟩] 24)) := ((Below.refl _ _).alloc (Nat.le_refl _) _).alloc (by simp) _
    have hs1 : ((w.alloc (.cells (tv t A c) 24)).alloc (.cells #[.int .i64 0, .string ⟨#[]⟩, .string ⟨#[]⟩, .slice none 0 0, .string ⟨#[]⟩] 24)).heap.size = w.heap.size + 2 := by simp
    have hq1 : Q2 ((w.alloc (.cells (tv t A c) 24)).alloc (.cells #[.int .i64 0, .string ⟨#[]⟩, .string ⟨#[]⟩, .slice none 0 0, .string ⟨#[]⟩] 24)) w.heap.size t A c := by
      refine ⟨(Bk.new' w t A c).reach ((Below.refl _ _).alloc (Nat.le_refl _) _), ?_⟩
      have := Bk.new (w.alloc (.cells (tv t A c) 24)) (.int .i64 0) (.string ⟨#[]⟩) (.string ⟨#[]⟩) (.slice none 0 0) (.string ⟨#[]⟩)
      rwa [World.size_alloc] at this
    have HB1 := Lib.hid hb1
    have HS1 := Lib.hid hs1
    have HQ1 := Lib.hid hq1
    clear ih hsz hz hS hTA hb1 hs1 hq1
    generalize tv t A c = cs at *
    go_enter Tryz.func17, Tryz.ntmps17
    go_upto_region 1 with (fail)
    generalize (w.alloc (.cells cs 24)).alloc (.cells #[.int .i64 0, .string ⟨#[]⟩, .string ⟨#[]⟩, .slice none 0 0, .string ⟨#[]⟩] 24) = w1 at *
    obtain ⟨⟨a0, a1, a2, a3, a4⟩, _, _⟩ := HQ1.out.1.cells
    go_upto_region 2 with (fail)
    have hb2 : Below w.heap.size w (w1.alloc (.cells #[.int .i64 t.kind, .string ⟨t.name.toArray⟩, .string ⟨t.var.toArray⟩, .slice none 0 0, .string ⟨#[]⟩] 24)) := HB1.out.alloc HB1.out.size _
    have hc2 := Bk.new w1 (.int .i64 t.kind) (.string ⟨t.name.toArray⟩) (.string ⟨t.var.toArray⟩) (.slice none 0 0) (.string ⟨#[]⟩)
    have hq2 : Q2 (w1.alloc (.cells #[.int .i64 t.kind, .string ⟨t.name.toArray⟩, .string ⟨t.var.toArray⟩, .slice none 0 0, .string ⟨#[]⟩] 24)) w.heap.size t A c := HQ1.out.below ((Below.refl _ _).alloc (by rw [HS1.out]; exact Nat.le_refl _) _)
    have hs2 : w.heap.size + 3 ≤ (w1.alloc (.cells #[.int .i64 t.kind, .string ⟨t.name.toArray⟩, .string ⟨t.var.toArray⟩, .slice none 0 0, .string ⟨#[]⟩] 24)).heap.size := by rw [World.size_alloc, HS1.out]; exact Nat.le_refl _
    rw [HS1.out] at hc2 ⊢
    have HC2 := Lib.hid hc2
    have HB2 := Lib.hid hb2
    have HS2 := Lib.hid hs2
    have HQ2 := Lib.hid hq2
    generalize w1.alloc (.cells #[.int .i64 t.kind, .string ⟨t.name.toArray⟩, .string ⟨t.var.toArray⟩, .slice none 0 0, .string ⟨#[]⟩] 24) = w2 at *
    clear hb2 hc2 hs2 hq2 HB1 HS1 HQ1 a0 a1 a2 a3 a4
    have HRL := Lib.hid (bareTs_len t.args)
    have HRS := Lib.hid (bareTs_take t.args)
    have HX := Lib.hid (bareT_parts t)
    generalize bareTs t.args = rs at *
    go_wp2_with fail
    go_loopg [4] t.args.length (fun gg s4 wr => ∃ (v : Value) (l : List TX), l.length ≤ t.args.length ∧ t.args.length - l.length ≤ gg ∧ s4 = .int .i64 l.length ∧ Aside (l.map TX.t = rs.take l.length) ∧ Aside (OT (Zz S (w.heap.size + 3)) wr (w.heap.size + 3) v l) ∧ Aside (Q2 wr w.heap.size t A c) ∧ Aside (Bk wr (w.heap.size + 2) (.int .i64 t.kind) (.string ⟨t.name.toArray⟩) (.string ⟨t.var.toArray⟩) v (.string ⟨#[]⟩)) ∧ Aside (Below w.heap.size w wr) ∧ Aside (w.heap.size + 3 ≤ wr.heap.size))
    case atStart => exact ⟨.slice none 0 0, [], Nat.zero_le _, by simp, rfl, rfl, ot_nil _ _ _, HQ2.out, HC2.out, HB2.out, HS2.out⟩
    case round =>
      obtain ⟨v, l, hi, hgg, rfl, HM, HO, HQ, HC, HB, HS⟩ := hrel
      obtain ⟨⟨a0, a1, a2, a3, a4⟩, _, _⟩ := HQ.out.1.cells
      by_cases hlt : l.length < t.args.length
      · have hltz : (l.length : Int) < (t.args.length : Int) := by omega
        obtain ⟨b1, o1, rfl, hR1⟩ := HTA.out.at_ hlt
        have hR2 := hR1.keep (S' := S) (w' := wr) (fun k hk => ⟨hk, HB.out.block k (HP.out k hk)⟩)
        have hbS : S b1 := hR1.parts.1
        have HR2 := Lib.hid hR2
        have HW5 := Lib.hid (HWS.out _ (List.getElem_mem hlt))
        have HRT := Lib.hid (HRS.out _ hlt)
        have hll : l.length ≤ 2700 := by have := HLS.out; omega
        have hbn := HP.out b1 hbS
        clear hR1 hR2
        generalize t.args[l.length] = s at *
        have HS6 : Hid (∀ k, S k → k < wr.heap.size) := fun k hk => by have := HP.out k hk; have := HS.out; omega
        obtain ⟨_, k0, k1, k2, k4, A5, c5, k3, hv5⟩ := HR2.out.parts
        have HV5 := Lib.hid hv5
        have HCL := Lib.hid fun w' (hb : Below wr.heap.size wr w') => IH.out s HW5.out.1 HW5.out.2 S A5 c5 w' (fun k hk => Nat.lt_of_lt_of_le (HS6.out k hk) hb.size) (HV5.out.reach HS6.out hb)
        obtain ⟨⟨m0, m1, m2, m3, m4⟩, mf, ml⟩ := HC.out.cells
        have mf3 := mf 3
        have HKP := Lib.hid fun w' (hb : Below (w.heap.size + 3) wr w') => And.intro ((hb.cell (p := ⟨w.heap.size + 2, 3, none⟩) (show w.heap.size + 2 < w.heap.size + 3 by omega)).trans m3) (And.intro ((hb.cell (p := ⟨w.heap.size, 3, none⟩) (show w.heap.size < w.heap.size + 3 by omega)).trans a3) (And.intro ((hb.cell (p := ⟨b1, o1 + l.length * 5, none⟩) (show b1 < w.heap.size + 3 by omega)).trans k0) (And.intro ((hb.cell (p := ⟨b1, o1 + l.length * 5 + 1, none⟩) (show b1 < w.heap.size + 3 by omega)).trans k1) (And.intro ((hb.cell (p := ⟨b1, o1 + l.length * 5 + 2, none⟩) (show b1 < w.heap.size + 3 by omega)).trans k2) (And.intro ((hb.cell (p := ⟨b1, o1 + l.length * 5 + 3, none⟩) (show b1 < w.heap.size + 3 by omega)).trans k3) ((hb.cell (p := ⟨b1, o1 + l.length * 5 + 4, none⟩) (show b1 < w.heap.size + 3 by omega)).trans k4))))))
        unfold tv at HCL
        have HOL := Lib.hid HO.out.lt
        clear IH hv5 HV5 mf a0 a1 a2 a4 m0 m1 m2 m4
        generalize bareT s = r at *
        go_upto_region 5 with (fail)
        obtain ⟨i0, hi0, hz0, hz1, hz2⟩ := info_parts term_info
        refine wp_region_noPanic ?_
        refine wp_region_L 11 (fun w' => w'.cell? ⟨w.heap.size + 2, 3, none⟩ = some v ∧ w'.cell? ⟨w.heap.size, 3, none⟩ = some (.slice (some ⟨b1, o1, none⟩) t.args.length c) ∧ w'.cell? ⟨b1, o1 + l.length * 5, none⟩ = some (.int .i64 s.kind) ∧ w'.cell? ⟨b1, o1 + l.length * 5 + 1, none⟩ = some (.string ⟨s.name.toArray⟩) ∧ w'.cell? ⟨b1, o1 + l.length * 5 + 2, none⟩ = some (.string ⟨s.var.toArray⟩) ∧ w'.cell? ⟨b1, o1 + l.length * 5 + 3, none⟩ = some (.slice A5 s.args.length c5) ∧ w'.cell? ⟨b1, o1 + l.length * 5 + 4, none⟩ = some (.string ⟨s.form.toArray⟩)) (by kernel_rfl) ?_
        have hS0 := HKP.out _ (below_dr (Below.refl _ _))
        simp only [List.size_toArray, List.length_cons, List.length_nil, Nat.zero_add, Nat.reduceAdd]
        refine wpAnyL_take (i := 0) (v := ?va0) rfl (by kernel_rfl) (by kernel_rfl) (by kernel_rfl) (by kernel_rfl) (fun _ _ _ h => h) (Or.inl ⟨by rfl, ?ha0⟩) hS0 ?ra0
        case ha0 => (intro w' hSw; (try dsimp only at hSw); go_simp; all_goals with_reducible rfl)
        try dsimp only [Act.put]
        refine wpAnyL_take (i := 1) (v := ?va1) rfl (by kernel_rfl) (by kernel_rfl) (by kernel_rfl) (by kernel_rfl) (fun _ _ _ h => h) (Or.inl ⟨by rfl, ?ha1⟩) hS0 ?ra1
        case ha1 => (intro w' hSw; (try dsimp only at hSw); go_simp; all_goals with_reducible rfl)
        try dsimp only [Act.put]
        refine wpAnyL_take (i := 2) (v := ?va2) rfl (by kernel_rfl) (by kernel_rfl) (by kernel_rfl) (by kernel_rfl) (fun _ _ _ h => h) (Or.inl ⟨by rfl, ?ha2⟩) hS0 ?ra2
        case ha2 => (intro w' hSw; (try dsimp only at hSw); go_simp; all_goals with_reducible rfl)
        try dsimp only [Act.put]
        refine wpAnyL_take (i := 3) (v := ?va3) rfl (by kernel_rfl) (by kernel_rfl) (by kernel_rfl) (by kernel_rfl) (fun _ _ _ h => h) (Or.inl ⟨by rfl, ?ha3⟩) hS0 ?ra3
        case ha3 => (intro w' hSw; (try dsimp only at hSw); go_simp; all_goals with_reducible rfl)
        try dsimp only [Act.put]
        refine wpAnyL_take (i := 4) (v := ?va4) rfl (by kernel_rfl) (by kernel_rfl) (by kernel_rfl) (by kernel_rfl) (fun _ _ _ h => h) (Or.inl ⟨by rfl, ?ha4⟩) hS0 ?ra4
        case ha4 => (intro w' hSw; (try dsimp only at hSw); go_simp; all_goals with_reducible rfl)
        try dsimp only [Act.put]
        refine wpAnyL_take (i := 5) (v := ?va5) rfl (by kernel_rfl) (by kernel_rfl) (by kernel_rfl) (by kernel_rfl) (fun _ _ _ h => h) (Or.inl ⟨by rfl, ?ha5⟩) hS0 ?ra5
        case ha5 => (intro w' hSw; (try dsimp only at hSw); go_simp; all_goals with_reducible rfl)
        try dsimp only [Act.put]
        refine wpAnyL_take (i := 6) (v := ?va6) rfl (by kernel_rfl) (by kernel_rfl) (by kernel_rfl) (by kernel_rfl) (fun _ _ _ h => h) (Or.inl ⟨by rfl, ?ha6⟩) hS0 ?ra6
        case ha6 => (intro w' hSw; (try dsimp only at hSw); go_simp; all_goals with_reducible rfl)
        try dsimp only [Act.put]
        refine wpAnyL_step (i := 7) (by kernel_rfl) rfl ?_
        intro K hK
        go_simp
        go_wp2_with (go_at_call 17; (refine (HCL.out _ (below_dr (Below.refl wr.heap.size wr))).mono ?_); rintro e wc ⟨A9, c9, rfl, hv9, hb9⟩)
        have hb9w : Below wr.heap.size wr wc := (below_dr (Below.refl wr.heap.size wr)).trans hb9
        have HV9 := Lib.hid hv9
        have HB9 := Lib.hid hb9w
        have HS9 := Lib.hid hb9w.size
        have HB4 : Hid (Below (w.heap.size + 3) wr wc) := hb9w.mono HS.out
        have HCC := Lib.hid (HC.out.reach hb9w)
        refine hK.out _ _ (HKP.out _ HB4.out) (fun _ => ?_)
        clear hK K hv9 hb9 hb9w
        refine wpAnyL_step (i := 8) (by kernel_rfl) rfl ?_
        intro K hK
        go_simp
        refine hK.out _ _ (HKP.out _ (HB4.out.alloc (by have := HS9.out; have := HS.out; omega) _)) (fun _ => ?_)
        clear hK K
        refine wpAnyL_step (i := 9) (by kernel_rfl) rfl ?_
        intro K hK
        refine step_append_lies _ rfl _ _ 22 rfl (w.heap.size + 3) 24 i0 _ 5 80 Tryz.underlying22 hi0 hz0 hz1 hz2 rfl (by decide) v l.length (txc l) rfl (World.ownsRow.alloc (HO.out.bel HB9.out).1 _) ⟨wc.heap.size, 0, none⟩ 1 1 (TX.cells ⟨r, A9, c9⟩) rfl rfl (tx_new wc ⟨r, A9, c9⟩) (tx_one _) (by decide) (by unfold maxLen; omega) (by omega) (by have := HS9.out; have := HS.out; simp; omega) _ rfl ?_
        intro g7 cap7 w7 hown7 hgrow7 hat7 hlt7
        have hap := sub_append (S := S) (D := wr.heap.size) (x := ⟨r, A9, c9⟩) _ (fun k hk => by have := HP.out k hk; omega) (HO.out.bel HB9.out) (fun k e => (HOL.out k e).2) HS.out HS9.out (HV9.out.wider (fun k hk => hk)) hown7 hgrow7 (by first | exact hat7 | (rw [World.size_alloc]; exact hat7))
        have HBA := Lib.hid hap.2
        have HOA := Lib.hid hap.1
        refine hK.out _ _ (HKP.out _ (HB4.out.trans hap.2)) (fun _ => ?_)
        have HC7 := Lib.hid (HCC.out.below hap.2 (Nat.lt_succ_self _))
        clear hK K hap hown7 hgrow7 hat7 hlt7
        refine wpAnyL_step (i := 10) (by kernel_rfl) rfl ?_
        intro K hK
        go_simp
        refine hK.out _ _ (HKP.out _ (HB4.out.trans HBA.out)) (fun _ => ?_)
        clear hK K
        have m37 := HC7.out.cells.1.2.2.2.1
        have mf7 := HC7.out.cells.2.1 3
        refine wpAnyL_last (by kernel_rfl) rfl (by kernel_rfl) ?_
        intro K hK
        go_simp
        refine hK.out _ _ ?_
        refine NoPanic.normal ?_
        clear hK K m37 mf7
        have HL8 : Hid ((l ++ [TX.mk r A9 c9]).length = l.length + 1) := by show _ = _; simp
        have HM8 : Hid ((l ++ [TX.mk r A9 c9]).map TX.t = rs.take (l ++ [TX.mk r A9 c9]).length) := by
          show (l ++ [TX.mk r A9 c9]).map TX.t = _
          rw [HL8.out, List.map_append, HM.out, HRT.out]; rfl
        have hend := ba_end HOA.out HBA.out (HQ.out.below (HB9.out.mono (by have := HS.out; omega))) HCC.out (HB.out.trans (HB9.out.mono HB.out.size)) (by have := HS.out; have := HS9.out; omega) HP.out
        have HEND := Lib.hid hend
        clear hend HOA HBA HC7 HCC HB4 HV9 HB9 HKP HCL
        go_wp2_with fail
        go_roundg (t.args.length - (l.length + 1))
        case measure => omega
        case rel =>
          obtain ⟨e1, e2, e3, e4, e5⟩ := HEND.out
          exact ⟨.slice (some ⟨g7, 0, none⟩) (l.length + 1) cap7, l ++ [TX.mk r A9 c9], by rw [HL8.out]; omega, by rw [HL8.out]; omega, by rw [HL8.out]; go_num, HM8.out, e1, e2, e3, e4, e5⟩
      · have hltz : ¬ (l.length : Int) < (t.args.length : Int) := by omega
        have hlz : l.length = t.args.length := by omega
        obtain ⟨A9, c9, rfl, hc9, hta9⟩ := HO.out.trs (fun k hk => .inr hk)
        have hmt : l.map TX.t = rs := by rw [HM.out, List.take_of_length_le (by have := HRL.out; omega)]
        have hle : l.length = rs.length := by rw [← hmt, List.length_map]
        rw [hmt] at hta9
        rw [hle] at HC
        rw [hle] at hc9
        have HT9 : Hid (TVS wr (fun k => Zz S (w.heap.size + 3) k ∧ k < wr.heap.size) (.mk t.kind t.name t.var rs []) A9 c9) := TVS.mk hc9 hta9
        obtain ⟨⟨m0, m1, m2, m3, m4⟩, mf, ml⟩ := HC.out.cells
        obtain ⟨⟨q0, q1, q2, q3, q4⟩, qf, ql⟩ := HQ.out.2.cells
        clear hmt hta9 hc9 HM HO hlz hle IH HRS HTA HWS HC mf
        go_wp2_with fail
        rw [HX.out]
        exact bodyPost_ret (v := .agg (tv (.mk t.kind t.name t.var rs []) A9 c9)) (by simp [results, Tryz.results17, go_sem, tv, T.kind, T.name, T.var, T.args, T.form, q0, q1, q2, q3, q4]) rfl ⟨A9, c9, rfl, (HT9.out.set5 (w.heap.size + 1) _ _ _ _ _ (fun h => by
          rcases h.1 with h | h
          · exact absurd (HP.out _ h) (by omega)
          · omega)).wider (fun k hk => by
          rcases hk.1 with h | h
          · exact .inl h
          · exact .inr ⟨by omega, by rw [size_set5]; exact hk.2⟩), below5s HB.out (by omega) _ _ _ _ _⟩
theorem bare_any (t : T) (hz : t.size ≤ 2700) (A : Option Addr) (c : Nat) (w : World) (hv : TV w w.heap.size t A c) :
    Calls Tryz.prog 17 #[.agg (tv t A c)] w fun e w' => ∃ A9 c9, e = .returned (.agg (tv (bareT t) A9 c9)) ∧ TV w' w'.heap.size (bareT t) A9 c9 ∧ Below w.heap.size w w' :=
  (bare_aux t.size t (Nat.le_refl _) hz _ A c w (fun _ h => h) hv.set).mono fun e w' ⟨A9, c9, h1, h2, h3⟩ => ⟨A9, c9, h1, h2.tv fun k hk => by
    rcases hk with h | h
    · exact Nat.lt_of_lt_of_le h h3.size
    · exact h.2, h3⟩
end Go.Proofs.YtknpigdpepmimaaGreatDoor
