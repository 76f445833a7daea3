/- Contract of the reference's proper. -/
import Derived.Test.YtkjhfbgdmmnadaaGreatRNum
import Derived.Test.YtkjhfbgdmmnadaaGreatRId
import Derived.Test.YtkjhfbgdmmnadaaGreatCnt
namespace Go.Proofs.YtkjhfbgdmmnadaaGreat
open Go.RowKit

theorem number79L (l : List UInt8) (w : World) (hs : l.length ≤ 1000) : Calls Tryz.prog 42 #[.string ⟨l.toArray⟩] w fun r w' => r = .returned (.bool (numB l)) ∧ w = w' := by
  have := number79_any ⟨l.toArray⟩ w (by rw [size_mk]; exact hs)
  simpa using this
theorem ident29L (l : List UInt8) (w : World) (hs : l.length ≤ 1000) : Calls Tryz.prog 32 #[.string ⟨l.toArray⟩] w fun r w' => r = .returned (.bool (identB l)) ∧ Below w.heap.size w w' := by
  have := ident29_any ⟨l.toArray⟩ w (by rw [size_mk]; exact hs)
  simpa using this
theorem letters50L (l : List UInt8) (w : World) (hs : l.length ≤ 1000) : Calls Tryz.prog 44 #[.string ⟨l.toArray⟩] w fun r w' => r = .returned (.bool (wordB l)) ∧ w = w' := by
  have := letters50_any ⟨l.toArray⟩ w (by rw [size_mk]; exact hs)
  simpa using this
theorem printableL (l : List UInt8) (lo most : Nat) (w : World) (hs : l.length ≤ 1000) :
    Calls Tryz.prog 43 #[.string ⟨l.toArray⟩, .int .u8 lo, .int .i64 most] w fun r w' => r = .returned (.bool (okS lo l && decide (l.length ≤ most))) ∧ w = w' := by
  have := printable_any ⟨l.toArray⟩ lo most w (by rw [size_mk]; exact hs)
  rw [size_mk] at this
  simpa using this

set_option maxRecDepth 100000 in
set_option maxHeartbeats 4000000 in
theorem proper_any (t : T) (A : Option Addr) (c : Nat) (w : World) (hl : Short t) (hcp : t.args.length ≤ c ∧ c ≤ 9223372036854775807) :
    Calls Tryz.prog 29 #[.agg (tv t A c)] w fun e w' => e = .returned (.bool (ownB t)) ∧ Below w.heap.size w w' := by
  have hb0 : Below w.heap.size w (w.alloc (.cells (tv t A c) 24)) := (Below.refl _ _).alloc (Nat.le_refl _) _
  have HB0 := Lib.hid hb0
  clear hb0
  have c0 : (w.alloc (.cells (tv t A c) 24)).cell? ⟨w.heap.size, 0, none⟩ = some (.int .i64 t.kind) := by simp [tv]
  have c1 : (w.alloc (.cells (tv t A c) 24)).cell? ⟨w.heap.size, 1, none⟩ = some (.string ⟨t.name.toArray⟩) := by simp [tv]
  have c2 : (w.alloc (.cells (tv t A c) 24)).cell? ⟨w.heap.size, 2, none⟩ = some (.string ⟨t.var.toArray⟩) := by simp [tv]
  have c3 : (w.alloc (.cells (tv t A c) 24)).cell? ⟨w.heap.size, 3, none⟩ = some (.slice A t.args.length c) := by simp [tv]
  have c4 : (w.alloc (.cells (tv t A c) 24)).cell? ⟨w.heap.size, 4, none⟩ = some (.string ⟨t.form.toArray⟩) := by simp [tv]
  generalize tv t A c = cs at *
  obtain ⟨l1, l2, l3⟩ := hl
  obtain ⟨hcp1, hcp2⟩ := hcp
  have hnl : t.args.length ≤ 9223372036854775807 := by omega
  have HL1 := Lib.hid l1
  have HL2 := Lib.hid l2
  have HL3 := Lib.hid l3
  have hlf : leafB t = (t.var.isEmpty && (t.form.isEmpty && t.args.isEmpty)) := rfl
  have hff : formB t = (okS 33 t.form && decide (t.form.length ≤ 16)) := rfl
  have HO : Hid (ownB t = if t.kind = 1 then leafB t && numB t.name else if t.kind = 2 then leafB t && identB t.name else if t.kind = 3 then leafB t && (okS 32 t.name && decide (t.name.length ≤ 200)) else if t.kind = 4 then formB t && wordB t.name && t.var.isEmpty else if t.kind = 5 then formB t && wordB t.name && identB t.var && !t.args.isEmpty else false) := rfl
  have HAE : Hid (t.args.isEmpty = decide (t.args.length = 0)) := by show t.args.isEmpty = _; cases t.args <;> simp
  rw [HAE.out] at hlf HO
  generalize ownB t = ow at *
  generalize leafB t = lf at *
  generalize formB t = ff at *
  generalize t.kind = k at *
  generalize t.name = nm at *
  generalize t.var = v at *
  generalize t.form = f at *
  generalize t.args.length = n at *
  clear l1 l2 l3 HAE
  have HLF := Lib.hid hlf
  have HFF := Lib.hid hff
  clear hlf hff
  go_enter Tryz.func29, Tryz.ntmps29
  go_upto_region 1 with (fail)
  go_cut [3] (fun s3 wx => s3 = .bool lf ∧ w.alloc (.cells cs 24) = wx)
  case first =>
    by_cases h0 : n = 0
    · have hz : ((n : Int) == 0) = true := by rw [beq_iff_eq]; omega
      have HZ := Lib.hid (decide_eq_true h0)
      clear h0
      cases v with
      | cons a v =>
        have HX : Hid (lf = false) := HLF.out.trans rfl
        go_wp2_with fail
        go_meet
        case rel => exact ⟨by rw [HX.out], rfl⟩
      | nil =>
        cases f with
        | cons a f =>
          have HX : Hid (lf = false) := HLF.out.trans rfl
          go_wp2_with fail
          go_meet
          case rel => exact ⟨by rw [HX.out], rfl⟩
        | nil =>
          have HX : Hid (lf = true) := HLF.out.trans (by rw [HZ.out]; rfl)
          go_wp2_with fail
          go_meet
          case rel => exact ⟨by rw [HX.out], rfl⟩
    · have hz : ((n : Int) == 0) = false := by rw [beq_eq_false_iff_ne]; omega
      have HX : Hid (lf = false) := HLF.out.trans (by rw [decide_eq_false h0]; simp)
      go_wp2_with fail
      go_meet
      case rel => exact ⟨by rw [HX.out], rfl⟩
  case rest =>
    obtain ⟨rfl, rfl⟩ := hcut
    have hls : w.heap.size < (w.alloc (.cells cs 24)).heap.size := by simp
    generalize hw1 : w.alloc (.cells cs 24) = w1 at *
    clear hw1
    by_cases k1 : k = 1
    · subst k1
      have HX := Lib.hid (HO.out.trans (if_pos rfl))
      cases lf with
      | false =>
        go_wp2_with fail
        go_ret
        rw [HX.out]
        exact ⟨rfl, HB0.out⟩
      | true =>
        go_wp2_with fail
        refine (number79L nm _ HL1.out).mono ?_
        obtain ⟨q, hq⟩ : ∃ q, q = numB nm := ⟨_, rfl⟩
        rw [← hq] at HX ⊢
        clear hq
        rintro e w2 ⟨rfl, rfl⟩
        go_wp2_with fail
        go_ret
        rw [HX.out]
        exact ⟨rfl, HB0.out⟩
    · have k1b : (k == 1) = false := by simpa using k1
      by_cases k2 : k = 2
      · subst k2
        have HX := Lib.hid ((HO.out.trans (if_neg k1)).trans (if_pos rfl))
        clear k1
        cases lf with
        | false =>
          go_wp2_with fail
          go_ret
          rw [HX.out]
          exact ⟨rfl, HB0.out⟩
        | true =>
          go_wp2_with fail
          refine (ident29L nm _ HL1.out).mono ?_
          obtain ⟨q, hq⟩ : ∃ q, q = identB nm := ⟨_, rfl⟩
          rw [← hq] at HX ⊢
          clear hq
          rintro e w2 ⟨rfl, hb2⟩
          have HB2 := Lib.hid (HB0.out.trans (hb2.mono HB0.out.size))
          clear hb2
          go_wp2_with fail
          go_ret
          rw [HX.out]
          exact ⟨rfl, HB2.out⟩
      · have k2b : (k == 2) = false := by simpa using k2
        by_cases k3 : k = 3
        · subst k3
          have HX := Lib.hid (((HO.out.trans (if_neg k1)).trans (if_neg k2)).trans (if_pos rfl))
          clear k1 k2
          cases lf with
          | false =>
            go_wp2_with fail
            go_ret
            rw [HX.out]
            exact ⟨rfl, HB0.out⟩
          | true =>
            go_wp2_with fail
            refine (printableL nm 32 200 _ HL1.out).mono ?_
            obtain ⟨q, hq⟩ : ∃ q, q = (okS 32 nm && decide (nm.length ≤ 200)) := ⟨_, rfl⟩
            rw [← hq] at HX ⊢
            clear hq
            rintro e w2 ⟨rfl, rfl⟩
            go_wp2_with fail
            go_ret
            rw [HX.out]
            exact ⟨rfl, HB0.out⟩
        · have k3b : (k == 3) = false := by simpa using k3
          by_cases k4 : k = 4
          · subst k4
            have HX := Lib.hid ((((HO.out.trans (if_neg k1)).trans (if_neg k2)).trans (if_neg k3)).trans (if_pos rfl))
            clear k1 k2 k3
            have HW := Lib.hid (letters50L nm w1 HL1.out)
            have HP := Lib.hid (printableL f 33 16 w1 HL3.out)
            rw [← HFF.out] at HP
            generalize wordB nm = q at *
            cases q with
            | false =>
              go_wp2_with fail
              refine HW.out.mono ?_
              rintro e w2 ⟨rfl, rfl⟩
              go_wp2_with fail
              go_ret
              rw [HX.out]
              exact ⟨by rw [Bool.and_false]; rfl, HB0.out⟩
            | true =>
              cases v with
              | cons a v =>
                go_wp2_with fail
                refine HW.out.mono ?_
                rintro e w2 ⟨rfl, rfl⟩
                go_wp2_with fail
                go_ret
                rw [HX.out]
                exact ⟨by rw [Bool.and_true]; simp, HB0.out⟩
              | nil =>
                go_wp2_with fail
                refine HW.out.mono ?_
                rintro e w2 ⟨rfl, rfl⟩
                go_wp2_with fail
                refine HP.out.mono ?_
                rintro e w2 ⟨rfl, rfl⟩
                go_wp2_with fail
                go_ret
                rw [HX.out]
                exact ⟨by simp, HB0.out⟩
          · have k4b : (k == 4) = false := by simpa using k4
            by_cases k5 : k = 5
            · subst k5
              have HX := Lib.hid (((((HO.out.trans (if_neg k1)).trans (if_neg k2)).trans (if_neg k3)).trans (if_neg k4)).trans (if_pos rfl))
              clear k1 k2 k3 k4
              have HW := Lib.hid (letters50L nm w1 HL1.out)
              have HI := Lib.hid (ident29L v w1 HL2.out)
              generalize wordB nm = q at *
              generalize identB v = r at *
              cases q with
              | false =>
                go_wp2_with fail
                refine HW.out.mono ?_
                rintro e w2 ⟨rfl, rfl⟩
                go_wp2_with fail
                go_ret
                rw [HX.out]
                exact ⟨by simp, HB0.out⟩
              | true =>
                cases r with
                | false =>
                  go_wp2_with fail
                  refine HW.out.mono ?_
                  rintro e w2 ⟨rfl, rfl⟩
                  go_wp2_with fail
                  refine HI.out.mono ?_
                  rintro e w2 ⟨rfl, hb2⟩
                  have HB2 := Lib.hid (HB0.out.trans (hb2.mono HB0.out.size))
                  clear hb2
                  go_wp2_with fail
                  go_ret
                  rw [HX.out]
                  exact ⟨by simp, HB2.out⟩
                | true =>
                  go_wp2_with fail
                  refine HW.out.mono ?_
                  rintro e w2 ⟨rfl, rfl⟩
                  go_wp2_with fail
                  refine HI.out.mono ?_
                  rintro e w2 ⟨rfl, hb2⟩
                  have HB2 := Lib.hid (HB0.out.trans (hb2.mono HB0.out.size))
                  have d3 := (hb2.cell (p := ⟨w.heap.size, 3, none⟩) hls).trans c3
                  have d4 := (hb2.cell (p := ⟨w.heap.size, 4, none⟩) hls).trans c4
                  have HP := Lib.hid (printableL f 33 16 w2 HL3.out)
                  rw [← HFF.out] at HP
                  clear hb2 c0 c1 c2 c3 c4
                  cases ff with
                  | false =>
                    go_wp2_with fail
                    refine HP.out.mono ?_
                    rintro e w3 ⟨rfl, rfl⟩
                    go_wp2_with fail
                    go_ret
                    rw [HX.out]
                    exact ⟨by simp, HB2.out⟩
                  | true =>
                    by_cases h0 : n = 0
                    · have hz : ¬ (0 : Int) < (n : Int) := by omega
                      have HZ := Lib.hid (decide_eq_true h0)
                      clear h0
                      go_wp2_with fail
                      refine HP.out.mono ?_
                      rintro e w3 ⟨rfl, rfl⟩
                      go_wp2_with fail
                      go_ret
                      have hn := of_decide_eq_true HZ.out
                      rw [HX.out]
                      exact ⟨by simp [hn], HB2.out⟩
                    · have hz : (0 : Int) < (n : Int) := by omega
                      have HZ := Lib.hid (decide_eq_false h0)
                      clear h0
                      go_wp2_with fail
                      refine HP.out.mono ?_
                      rintro e w3 ⟨rfl, rfl⟩
                      go_wp2_with fail
                      go_ret
                      have hn := of_decide_eq_false HZ.out
                      rw [HX.out]
                      have hn1 : 0 < n := by omega
                      exact ⟨by simp [hn, hn1], HB2.out⟩
            · have k5b : (k == 5) = false := by simpa using k5
              have HX := Lib.hid (((((HO.out.trans (if_neg k1)).trans (if_neg k2)).trans (if_neg k3)).trans (if_neg k4)).trans (if_neg k5))
              clear k1 k2 k3 k4 k5
              go_wp2_with fail
              go_ret
              rw [HX.out]
              exact ⟨rfl, HB0.out⟩
end Go.Proofs.YtkjhfbgdmmnadaaGreat
