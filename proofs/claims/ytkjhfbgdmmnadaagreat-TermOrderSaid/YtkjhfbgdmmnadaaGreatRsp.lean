/- The walk of TermRespects. -/
import Derived.Test.YtkjhfbgdmmnadaaGreatRenL
import Derived.Test.YtkjhfbgdmmnadaaGreatLawK
import Derived.Test.YtkjhfbgdmmnadaaGreatSbs
namespace Go.Proofs.YtkjhfbgdmmnadaaGreat
open Go.RowKit

/-- alpha-equal terms have alpha-equal substitutions -/
theorem respects_eq {t u b : T} (x : W8) (ht : validB t = true) (hu : validB u = true) (h : sem (envZ []) 0 t = sem (envZ []) 0 u) :
    (sbT t x b).2 = (sbT u x b).2 ∧ ((sbT t x b).2 = 0 → alpB (sbT t x b).1 (sbT u x b).1 = true) := by
  have e1 : okSub u x b = okSub t x b := by unfold okSub; rw [ht, hu]
  unfold sbT
  rw [e1]
  by_cases ho : okSub t x b = true
  · rw [if_pos ho, if_pos ho]
    have hb : validB b = true := by
      unfold okSub at ho
      simp only [Bool.and_eq_true] at ho
      exact ho.1.2
    have e2 : validB (subT t x b) = validB (subT u x b) := valid_of_sem (subT_wf x ht hb) (subT_wf x hu hb) (subT_cong x ht hu hb h)
    by_cases hv : validB (subT t x b) = true
    · have hv2 := e2 ▸ hv
      rw [if_pos hv, if_pos hv2]
      exact ⟨rfl, fun _ => alpB_of hv hv2 (subT_cong x ht hu hb h)⟩
    · have hv2 : ¬ validB (subT u x b) = true := fun e => hv (e2.trans e)
      rw [if_neg hv, if_neg hv2]
      exact ⟨rfl, fun e => absurd e (by decide)⟩
  · rw [if_neg ho, if_neg ho]
    exact ⟨rfl, fun e => absurd e (by decide)⟩
theorem zT_SA : SA zT := by
  unfold zT
  rw [SA]
  exact ⟨⟨by decide, by decide, by decide⟩, trivial⟩
theorem sbT_SA (t : T) (x : W8) (b : T) : SA (sbT t x b).1 := by
  unfold sbT
  split
  · split
    · exact WF.sa _ ((valid_iff _).1 (by assumption)).1
    · exact zT_SA
  · exact zT_SA
theorem cells2 {w : World} {b : Nat} {v0 v1 : Value} {ty : TypeId} (h : w.heap[b]? = some (.cells #[v0, v1] ty (0, 0))) : w.cell? ⟨b, 0, none⟩ = some v0 ∧ w.cell? ⟨b, 1, none⟩ = some v1 := by
  refine ⟨?_, ?_⟩ <;> simp [World.cell?, h]
theorem names_len (t : T) (h : validB t = true) : (namesL t).length ≤ 1000 ∧ ∀ x ∈ namesL t, x.length ≤ 16 := by
  unfold namesL
  rw [if_pos h]
  refine ⟨Nat.le_trans (nmT_len t) ((valid_iff t).1 h).2, fun x hx => ?_⟩
  have := ident_word ((nmT_ok t ((valid_iff t).1 h).1).2 x hx)
  unfold wordB at this
  simp only [Bool.and_eq_true, decide_eq_true_eq] at this
  exact this.2

set_option maxRecDepth 100000 in
set_option maxHeartbeats 1500000 in
theorem rsp_walk (t : T) (A : Option Addr) (c : Nat) (u : T) (A' : Option Addr) (c' : Nat) (v1 : Value) (p1 : Nat) (l1 : List Int) (w : World) (hv : TV w w.heap.size t A c) (hv' : TV w w.heap.size u A' c') (hl1 : PI w w.heap.size v1 l1) (hp1 : p1 ≤ 255) (hm : Max w) :
    Calls Tryz.prog 3 #[.agg (tv t A c), .agg (tv u A' c'), .agg #[v1, .int .u8 p1]] w fun e w' => e = .returned (.bool true) ∧ Below w.heap.size w w' := by
  have hb1 : Below w.heap.size w (w.alloc (.cells (tv t A c) 24)) := (Below.refl _ _).alloc (Nat.le_refl _) _
  have hb2 : Below w.heap.size w ((w.alloc (.cells (tv t A c) 24)).alloc (.cells (tv u A' c') 24)) := hb1.alloc (by simp) _
  have hb0 : Below w.heap.size w (((w.alloc (.cells (tv t A c) 24)).alloc (.cells (tv u A' c') 24)).alloc (.cells #[v1, .int .u8 p1] 27)) := hb2.alloc (by simp; omega) _
  have hk0 := ((Bk.new' w t A c).reach ((Below.refl _ _).alloc (Nat.le_refl _) (.cells (tv u A' c') 24))).reach ((Below.refl _ _).alloc (Nat.le_refl _) (.cells #[v1, .int .u8 p1] 27))
  have hj0 := (Bk.new' (w.alloc (.cells (tv t A c) 24)) u A' c').reach ((Below.refl _ _).alloc (Nat.le_refl _) (.cells #[v1, .int .u8 p1] 27))
  have hq0 := blk_new ((w.alloc (.cells (tv t A c) 24)).alloc (.cells (tv u A' c') 24)) (.cells #[v1, .int .u8 p1] 27)
  rw [World.size_alloc] at hj0
  rw [World.size_alloc, World.size_alloc] at hq0
  have hz0 : w.heap.size + 1 + 1 < (((w.alloc (.cells (tv t A c) 24)).alloc (.cells (tv u A' c') 24)).alloc (.cells #[v1, .int .u8 p1] 27)).heap.size := by simp
  have HB0 := Lib.hid hb0
  have HK0 := Lib.hid hk0
  have HJ0 := Lib.hid hj0
  have HQ0 := Lib.hid hq0
  have HZ0 := Lib.hid hz0
  have HV := Lib.hid fun w' (hb : Below w.heap.size w w') => hv.reach hb
  have HV' := Lib.hid fun w' (hb : Below w.heap.size w w') => hv'.reach hb
  have HM := Lib.hid fun w' (hb : Below w.heap.size w w') => hm.reach hb
  have HL1 := Lib.hid fun w' (hb : Below w.heap.size w w') => (hl1.below hb).more hb.size
  obtain ⟨P1, d1, rfl, ⟨hd11, hd12⟩, _⟩ := hl1
  have hll1 : l1.length ≤ 9223372036854775807 := by omega
  clear hb1 hb0 hb2 hk0 hj0 hq0 hz0 hv hv' hm
  have HTV : Hid (tv t A c = #[.int .i64 t.kind, .string ⟨t.name.toArray⟩, .string ⟨t.var.toArray⟩, .slice A t.args.length c, .string ⟨t.form.toArray⟩]) := rfl
  go_enter Tryz.func3, Tryz.ntmps3
  go_wp2_with fail
  obtain ⟨w0, hw0⟩ : ∃ w0, w0 = ((w.alloc (.cells (tv t A c) 24)).alloc (.cells (tv u A' c') 24)).alloc (.cells #[.slice P1 l1.length d1, .int .u8 p1] 27) := ⟨_, rfl⟩
  rw [← hw0] at HB0 HK0 HJ0 HQ0 HZ0 ⊢
  clear hw0
  refine (awake11_any _ (HM.out _ HB0.out)).mono ?_
  rintro e w1 ⟨rfl, hb1⟩
  have HB01 := Lib.hid hb1
  have HB1 := Lib.hid (HB0.out.trans (hb1.mono HB0.out.size))
  have HK := Lib.hid fun w' (hb : Below w1.heap.size w1 w') => (HK0.out.reach (HB01.out.trans (hb.mono HB01.out.size))).cells.1
  have HJ := Lib.hid fun w' (hb : Below w1.heap.size w1 w') => (HJ0.out.reach (HB01.out.trans (hb.mono HB01.out.size))).cells.1
  have HQ := Lib.hid fun w' (hb : Below w1.heap.size w1 w') => cells2 (((HB01.out.trans (hb.mono HB01.out.size)).block _ HZ0.out).trans HQ0.out)
  have HF1 := Lib.hid (few_any t A c w1 (HV.out _ HB1.out))
  unfold tv at HF1
  obtain ⟨k0, k1, k2, k3, k4⟩ := HK.out w1 (Below.refl _ _)
  clear hb1 HB0 HK0 HJ0 HQ0 HZ0
  go_wp2_with fail
  refine HF1.out.mono ?_
  rintro e w2 ⟨rfl, hb2⟩
  have HB12 := Lib.hid hb2
  have HB2 := Lib.hid (HB1.out.trans (hb2.mono HB1.out.size))
  clear hb2 HF1 k0 k1 k2 k3 k4
  obtain ⟨j0, j1, j2, j3, j4⟩ := HJ.out w2 HB12.out
  have HF2 := Lib.hid (few_any u A' c' w2 (HV'.out _ HB2.out))
  unfold tv at HF2
  cases hfe : fewB t with
  | false =>
    clear hfe
    go_wp2_with fail
    go_ret
    exact ⟨rfl, HB2.out⟩
  | true =>
    have HST := Lib.hid (few_SA' hfe)
    clear hfe
    go_wp2_with fail
    refine HF2.out.mono ?_
    rintro e w3 ⟨rfl, hb3⟩
    have HB13 := Lib.hid (HB12.out.trans (hb3.mono HB12.out.size))
    have HB3 := Lib.hid (HB1.out.trans (HB13.out.mono HB1.out.size))
    clear hb3 HF2 j0 j1 j2 j3 j4
    obtain ⟨k0, k1, k2, k3, k4⟩ := HK.out w3 HB13.out
    have HF3 := Lib.hid (rvalid_any t A c w3 (HV.out _ HB3.out) HST.out)
    unfold tv at HF3
    cases hfe : fewB u with
    | false =>
      clear hfe
      go_wp2_with fail
      go_ret
      exact ⟨rfl, HB3.out⟩
    | true =>
      have HSU := Lib.hid (few_SA' hfe)
      clear hfe
      go_wp2_with fail
      refine HF3.out.mono ?_
      rintro e w4 ⟨rfl, hb4⟩
      have HB14 := Lib.hid (HB13.out.trans (hb4.mono HB13.out.size))
      have HB4 := Lib.hid (HB1.out.trans (HB14.out.mono HB1.out.size))
      clear hb4 HF3 k0 k1 k2 k3 k4
      obtain ⟨j0, j1, j2, j3, j4⟩ := HJ.out w4 HB14.out
      have HF4 := Lib.hid (rvalid_any u A' c' w4 (HV'.out _ HB4.out) HSU.out)
      unfold tv at HF4
      cases hvt : validB t with
      | false =>
        clear hvt
        go_wp2_with fail
        go_ret
        exact ⟨rfl, HB4.out⟩
      | true =>
        have HVT := Lib.hid hvt
        clear hvt
        go_wp2_with fail
        refine HF4.out.mono ?_
        rintro e w5 ⟨rfl, hb5⟩
        have HB15 := Lib.hid (HB14.out.trans (hb5.mono HB14.out.size))
        have HB5 := Lib.hid (HB1.out.trans (HB15.out.mono HB1.out.size))
        clear hb5 HF4 j0 j1 j2 j3 j4
        obtain ⟨k0, k1, k2, k3, k4⟩ := HK.out w5 HB15.out
        obtain ⟨s0, s1⟩ := HQ.out w5 HB15.out
        cases hvu : validB u with
        | false =>
          clear hvu
          go_wp2_with fail
          go_ret
          exact ⟨rfl, HB5.out⟩
        | true =>
          have HVU := Lib.hid hvu
          clear hvu
          by_cases h1 : 20 < l1.length
          · have h1z : (20 : Int) < (l1.length : Int) := by omega
            go_wp2_with fail
            go_ret
            exact ⟨rfl, HB5.out⟩
          · have h1z : ¬ (20 : Int) < (l1.length : Int) := by omega
            have HF5 := Lib.hid (names23_any t A c w5 (HV.out _ HB5.out) HST.out)
            have HNL := Lib.hid (names_len t HVT.out)
            unfold tv at HF5
            generalize namesL t = nl at *
            go_wp2_with fail
            refine HF5.out.mono ?_
            rintro e w6 ⟨v6, rfl, hr6, hb6⟩
            have HR6 := Lib.hid hr6
            have HB56 := Lib.hid hb6
            have HB16 := Lib.hid (HB15.out.trans (hb6.mono HB15.out.size))
            clear hb6 hr6 HF5 k0 k1 k2 k3 k4 s0 s1
            have hs56 : w5.heap.size ≤ w6.heap.size := HB56.out.size
            go_wp2_with (at_builtin; refine app30 w6 rfl _ _ rfl w5.heap.size _ nl [120] HR6.out rfl rfl (by have := HNL.out.1; omega) hs56 ?_)
            intro v7 w7 hr7 hb7
            have HB57 := Lib.hid (HB56.out.trans hb7)
            have HB17 := Lib.hid (HB15.out.trans (HB57.out.mono HB15.out.size))
            have HB7 := Lib.hid (HB1.out.trans (HB17.out.mono HB1.out.size))
            obtain ⟨A7, c7, hv7, ⟨hc71, hc72⟩, hcell7⟩ := hr7.sl
            subst hv7
            have hne : nl ++ [([120] : W8)] ≠ [] := by simp
            obtain ⟨b7, o7, rfl, hb7l, hx7⟩ := hcell7 hne
            obtain ⟨n, hn⟩ : ∃ n, n = (nl ++ [([120] : W8)]).length := ⟨_, rfl⟩
            have hn1 : 1 ≤ n := by rw [hn]; simp
            have hn2 : n ≤ 1001 := by rw [hn]; have := HNL.out.1; simp; omega
            have hkn : p1 % n < (nl ++ [([120] : W8)]).length := by rw [← hn]; exact Nat.mod_lt _ hn1
            have hck := hx7 (p1 % n) hkn
            have HXL : Hid (((nl ++ [([120] : W8)])[p1 % n]).length ≤ 1000) := by
              have hm := List.getElem_mem hkn
              rcases List.mem_append.1 hm with h | h
              · have := HNL.out.2 _ h; show _ ≤ _; omega
              · rw [List.mem_singleton] at h; show _ ≤ _; rw [h]; decide
            rw [← hn] at hc71 ⊢
            clear hx7 hcell7 hne hr7 hb7 HR6 HNL HB56 HB16
            generalize (nl ++ [([120] : W8)])[p1 % n] = x at *
            have hkz : p1 % n < n := Nat.mod_lt _ hn1
            clear hn hkn
            obtain ⟨k0, k1, k2, k3, k4⟩ := HK.out w7 HB17.out
            obtain ⟨s0, s1⟩ := HQ.out w7 HB17.out
            have hn0 : ¬ (n : Int) = 0 := by omega
            go_upto_region 7 with (fail)
            have HR1 := Lib.hid (ren32_any l1 t p1 HVT.out hp1 A c _ w7 (HV.out _ HB7.out) (HL1.out _ HB7.out))
            have HG1 := Lib.hid (ren_valid l1 t p1 HVT.out)
            unfold tv at HR1
            generalize ren l1 t p1 = t1 at *
            clear hck
            go_wp2_with fail
            refine HR1.out.mono ?_
            rintro e w8 ⟨A1, c1, rfl, hv8, hb8⟩
            have hb89 : Below w8.heap.size w8 (w8.alloc (.cells #[.int .i64 t1.kind, .string ⟨t1.name.toArray⟩, .string ⟨t1.var.toArray⟩, .slice A1 t1.args.length c1, .string ⟨t1.form.toArray⟩] 24)) := (Below.refl _ _).alloc (Nat.le_refl _) _
            have HV8 := Lib.hid fun w' (hb : Below w8.heap.size w8 w') => hv8.reach hb
            have HB19 := Lib.hid (HB17.out.trans ((hb8.trans (hb89.mono hb8.size)).mono HB17.out.size))
            have HB89 := Lib.hid hb89
            have hk9 := Bk.new' w8 t1 A1 c1
            unfold tv at hk9
            have HK9 := Lib.hid hk9
            clear hv8 hb8 hb89 hk9 HR1 k0 k1 k2 k3 k4 s0 s1
            go_upto_region 8 with (fail)
            obtain ⟨b9, hb9⟩ : ∃ b9, b9 = w8.heap.size := ⟨_, rfl⟩
            rw [← hb9] at HK9 ⊢
            clear hb9
            generalize (w8.alloc (.cells #[.int .i64 t1.kind, .string ⟨t1.name.toArray⟩, .string ⟨t1.var.toArray⟩, .slice A1 t1.args.length c1, .string ⟨t1.form.toArray⟩] 24)) = w9 at *
            have HB9 := Lib.hid (HB1.out.trans (HB19.out.mono HB1.out.size))
            have HS1 := Lib.hid (WF.sa _ ((valid_iff t1).1 HG1.out.1).1)
            have HRQ := Lib.hid (respects_eq (b := u) x HVT.out HG1.out.1 HG1.out.2.symm)
            have HSA1 := Lib.hid (sbT_SA t x u)
            have HSA2 := Lib.hid (sbT_SA t1 x u)
            have HC1 := Lib.hid (subst33_any t u x A c A' c' w9 (HV.out _ HB9.out) (HV'.out _ HB9.out) HST.out HSU.out HXL.out (HM.out _ HB9.out))
            have HC2 := Lib.hid fun w' (hb : Below w9.heap.size w9 w') => subst33_any t1 u x A1 c1 A' c' w' (HV8.out _ (HB89.out.trans (hb.mono HB89.out.size))) (HV'.out _ (HB9.out.trans (hb.mono HB9.out.size))) HS1.out HSU.out HXL.out (HM.out _ (HB9.out.trans (hb.mono HB9.out.size)))
            unfold tv at HC1 HC2
            generalize hr1 : (sbT t x u).1 = r1 at *
            generalize he1 : (sbT t x u).2 = e1 at *
            generalize hr2 : (sbT t1 x u).1 = r2 at *
            generalize he2 : (sbT t1 x u).2 = e2 at *
            clear hr1 he1 hr2 he2
            obtain ⟨k0, k1, k2, k3, k4⟩ := HK.out w9 HB19.out
            obtain ⟨j0, j1, j2, j3, j4⟩ := HJ.out w9 HB19.out
            go_wp2_with fail
            refine HC1.out.mono ?_
            rintro e w10 ⟨A3, c3, rfl, hv10, hb10⟩
            have hv10 := hv10.tv (fun _ hk => hk.2)
            have hb1011 : Below w10.heap.size w10 (w10.alloc (.cells #[.int .i64 r1.kind, .string ⟨r1.name.toArray⟩, .string ⟨r1.var.toArray⟩, .slice A3 r1.args.length c3, .string ⟨r1.form.toArray⟩] 24)) := (Below.refl _ _).alloc (Nat.le_refl _) _
            have HV10 := Lib.hid fun w' (hb : Below w10.heap.size w10 w') => hv10.reach hb
            have HB911 := Lib.hid (hb10.trans (hb1011.mono hb10.size))
            have HB111 := Lib.hid (HB19.out.trans (HB911.out.mono HB19.out.size))
            have HB1011 := Lib.hid hb1011
            have hk11 := Bk.new' w10 r1 A3 c3
            unfold tv at hk11
            have HK11 := Lib.hid hk11
            clear hv10 hb10 hb1011 hk11 HC1 k0 k1 k2 k3 k4 j0 j1 j2 j3 j4
            go_upto_region 9 with (fail)
            obtain ⟨b11, hb11⟩ : ∃ b11, b11 = w10.heap.size := ⟨_, rfl⟩
            rw [← hb11] at HK11 ⊢
            clear hb11
            generalize (w10.alloc (.cells #[.int .i64 r1.kind, .string ⟨r1.name.toArray⟩, .string ⟨r1.var.toArray⟩, .slice A3 r1.args.length c3, .string ⟨r1.form.toArray⟩] 24)) = w11 at *
            obtain ⟨⟨m0, m1, m2, m3, m4⟩, _, _⟩ := (HK9.out.reach HB911.out).cells
            obtain ⟨j0, j1, j2, j3, j4⟩ := HJ.out w11 HB111.out
            have HC3 := Lib.hid (HC2.out _ HB911.out)
            clear HC2
            go_wp2_with fail
            refine HC3.out.mono ?_
            rintro e w12 ⟨A4, c4, rfl, hv12, hb12⟩
            have hv12 := hv12.tv (fun _ hk => hk.2)
            have hb1213 : Below w12.heap.size w12 (w12.alloc (.cells #[.int .i64 r2.kind, .string ⟨r2.name.toArray⟩, .string ⟨r2.var.toArray⟩, .slice A4 r2.args.length c4, .string ⟨r2.form.toArray⟩] 24)) := (Below.refl _ _).alloc (Nat.le_refl _) _
            have HB1113 := Lib.hid (hb12.trans (hb1213.mono hb12.size))
            have HB113 := Lib.hid (HB111.out.trans (HB1113.out.mono HB111.out.size))
            have HV12 := Lib.hid (hv12.reach hb1213)
            have hk13 := Bk.new' w12 r2 A4 c4
            unfold tv at hk13
            have HK13 := Lib.hid hk13
            clear hv12 hb12 hb1213 hk13 HC3 m0 m1 m2 m3 m4 j0 j1 j2 j3 j4
            go_upto_region 10 with (fail)
            obtain ⟨b13, hb13⟩ : ∃ b13, b13 = w12.heap.size := ⟨_, rfl⟩
            rw [← hb13] at HK13 ⊢
            clear hb13
            generalize (w12.alloc (.cells #[.int .i64 r2.kind, .string ⟨r2.name.toArray⟩, .string ⟨r2.var.toArray⟩, .slice A4 r2.args.length c4, .string ⟨r2.form.toArray⟩] 24)) = w13 at *
            have HBf := Lib.hid (HB1.out.trans (HB113.out.mono HB1.out.size))
            obtain ⟨⟨m0, m1, m2, m3, m4⟩, _, _⟩ := (HK11.out.reach HB1113.out).cells
            obtain ⟨⟨n0, n1, n2, n3, n4⟩, _, _⟩ := HK13.out.cells
            have HCA := Lib.hid (alpha30_any r1 r2 A3 c3 A4 c4 w13 (HV10.out _ (HB1011.out.trans (HB1113.out.mono HB1011.out.size))) HV12.out HSA1.out HSA2.out (HM.out _ HBf.out))
            unfold tv at HCA
            have heq := HRQ.out.1
            subst heq
            by_cases hz : e1 = 0
            · subst hz
              rw [HRQ.out.2 rfl] at HCA
              go_wp2_with fail
              refine HCA.out.mono ?_
              rintro e w14 ⟨rfl, hb14⟩
              have HBg := Lib.hid (HBf.out.trans (hb14.mono HBf.out.size))
              clear hb14 m0 m1 m2 m3 m4 n0 n1 n2 n3 n4
              go_wp2_with fail
              go_ret
              exact ⟨rfl, HBg.out⟩
            · have hz2 : (e1 != 0) = true := by simpa using hz
              have hz3 : (e1 == 0) = false := by simpa using hz
              clear HCA
              go_wp2_with fail
              go_ret
              exact ⟨by simp, HBf.out⟩
end Go.Proofs.YtkjhfbgdmmnadaaGreat
