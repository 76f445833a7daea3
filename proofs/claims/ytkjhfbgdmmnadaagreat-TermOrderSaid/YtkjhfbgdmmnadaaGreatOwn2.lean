/- Contract of own. -/
import Derived.Test.YtkjhfbgdmmnadaaGreatOwn
namespace Go.Proofs.YtkjhfbgdmmnadaaGreat
open Go.RowKit

def leafB (t : T) : Bool := t.var.isEmpty && (t.form.isEmpty && t.args.isEmpty)
def formB (t : T) : Bool := okS 33 t.form && decide (t.form.length ≤ 16)
def ownB (t : T) : Bool :=
  if t.kind = 1 then leafB t && numB t.name
  else if t.kind = 2 then leafB t && identB t.name
  else if t.kind = 3 then leafB t && (okS 32 t.name && decide (t.name.length ≤ 200))
  else if t.kind = 4 then formB t && wordB t.name && t.var.isEmpty
  else if t.kind = 5 then formB t && wordB t.name && identB t.var && !t.args.isEmpty
  else false
/-- no long strings in a term itself -/
def Short (t : T) : Prop := t.name.length ≤ 1000 ∧ t.var.length ≤ 1000 ∧ t.form.length ≤ 1000

theorem betweenL_any (l : List UInt8) (lo most : Nat) (w : World) (hs : l.length ≤ 1000) :
    Calls Tryz.prog 77 #[.string ⟨l.toArray⟩, .int .u8 lo, .int .i64 most] w fun r w' => r = .returned (.bool (okS lo l && decide (l.length ≤ most))) ∧ w = w' := by
  have := between_any ⟨l.toArray⟩ lo most w (by rw [size_mk]; exact hs)
  rw [size_mk] at this
  simpa using this
theorem operatorL_any (l : List UInt8) (w : World) (hs : l.length ≤ 1000) : Calls Tryz.prog 79 #[.string ⟨l.toArray⟩] w fun r w' => r = .returned (.bool (wordB l)) ∧ w = w' := by
  have := operator_any ⟨l.toArray⟩ w (by rw [size_mk]; exact hs)
  simpa using this
theorem identL_any (l : List UInt8) (w : World) (hs : l.length ≤ 1000) : Calls Tryz.prog 24 #[.string ⟨l.toArray⟩] w fun r w' => r = .returned (.bool (identB l)) ∧ w = w' := by
  have := ident_any ⟨l.toArray⟩ w (by rw [size_mk]; exact hs)
  simpa using this

set_option maxRecDepth 100000 in
set_option maxHeartbeats 4000000 in
theorem own_any (t : T) (b o : Nat) (w : World) (hr : TR w w.heap.size b o t) (hl : Short t) (hm : Max w) :
    Calls Tryz.prog 66 #[.pointer (some ⟨b, o, none⟩)] w fun e w' => e = .returned (.bool (ownB t)) ∧ ∃ n, w' = w.drewN n := by
  obtain ⟨_, c0, c1, c2, c4, A, c, c3, _, _⟩ := hr.parts
  obtain ⟨l1, l2, l3⟩ := hl
  have HM := Lib.hid hm
  have HL1 := Lib.hid l1
  have HL2 := Lib.hid l2
  have HL3 := Lib.hid l3
  have hlf : leafB t = (t.var.isEmpty && (t.form.isEmpty && t.args.isEmpty)) := rfl
  have hff : formB t = (okS 33 t.form && decide (t.form.length ≤ 16)) := rfl
  have HO : Hid (ownB t = if t.kind = 1 then leafB t && numB t.name else if t.kind = 2 then leafB t && identB t.name else if t.kind = 3 then leafB t && (okS 32 t.name && decide (t.name.length ≤ 200)) else if t.kind = 4 then formB t && wordB t.name && t.var.isEmpty else if t.kind = 5 then formB t && wordB t.name && identB t.var && !t.args.isEmpty else false) := rfl
  have HAE : Hid (t.args.isEmpty = decide (t.args.length = 0)) := by show t.args.isEmpty = _; cases t.args <;> simp
  rw [HAE.out] at hlf HO
  generalize ownB t = ow at *
  generalize leafB t = lf at *
  generalize formB t = ff at *
  generalize t.kind = k at *
  generalize t.name = nm at *
  generalize t.var = v at *
  generalize t.form = f at *
  generalize t.args.length = n at *
  clear hr hm l1 l2 l3 HAE
  have HLF := Lib.hid hlf
  have HFF := Lib.hid hff
  clear hlf hff
  go_enter Tryz.func66, Tryz.ntmps66
  go_upto_region 1 with (fail)
  go_cut [3] (fun s3 wx => s3 = .bool lf ∧ w = wx)
  case first =>
    cases v with
    | cons a v =>
      have HX : Hid (lf = false) := HLF.out.trans rfl
      go_wp2_with fail
      go_meet
      case rel => exact ⟨by rw [HX.out], rfl⟩
    | nil =>
      cases f with
      | cons a f =>
        have HX : Hid (lf = false) := HLF.out.trans rfl
        go_wp2_with fail
        go_meet
        case rel => exact ⟨by rw [HX.out], rfl⟩
      | nil =>
        by_cases h0 : n = 0
        · have hz : ((n : Int) == 0) = true := by rw [beq_iff_eq]; omega
          have HX : Hid (lf = true) := HLF.out.trans (by rw [decide_eq_true h0]; rfl)
          go_wp2_with fail
          go_meet
          case rel => exact ⟨by rw [HX.out], rfl⟩
        · have hz : ((n : Int) == 0) = false := by rw [beq_eq_false_iff_ne]; omega
          have HX : Hid (lf = false) := HLF.out.trans (by rw [decide_eq_false h0]; rfl)
          go_wp2_with fail
          go_meet
          case rel => exact ⟨by rw [HX.out], rfl⟩
  case rest =>
    obtain ⟨rfl, rfl⟩ := hcut
    go_wp2_with fail
    refine (betweenL_any f 33 16 _ HL3.out).mono ?_
    rw [← HFF.out]
    rintro e w' ⟨rfl, rfl⟩
    by_cases k1 : k = 1
    · subst k1
      have HX := Lib.hid (HO.out.trans (if_pos rfl))
      cases lf with
      | false =>
        go_wp2_with fail
        go_ret
        rw [HX.out]
        exact ⟨rfl, 0, rfl⟩
      | true =>
        go_wp2_with fail
        refine (number_any nm _ HL1.out HM.out).mono ?_
        obtain ⟨q, hq⟩ : ∃ q, q = numB nm := ⟨_, rfl⟩
        rw [← hq] at HX ⊢
        clear hq
        rintro e w1 ⟨rfl, n1, rfl⟩
        go_wp2_with fail
        go_ret
        rw [HX.out]
        exact ⟨rfl, n1, rfl⟩
    · have k1b : (k == 1) = false := by simpa using k1
      by_cases k2 : k = 2
      · subst k2
        have HX := Lib.hid ((HO.out.trans (if_neg k1)).trans (if_pos rfl))
        clear k1
        cases lf with
        | false =>
          go_wp2_with fail
          go_ret
          rw [HX.out]
          exact ⟨rfl, 0, rfl⟩
        | true =>
          go_wp2_with fail
          refine (identL_any nm _ HL1.out).mono ?_
          obtain ⟨q, hq⟩ : ∃ q, q = identB nm := ⟨_, rfl⟩
          rw [← hq] at HX ⊢
          clear hq
          rintro e w1 ⟨rfl, rfl⟩
          go_wp2_with fail
          go_ret
          rw [HX.out]
          exact ⟨rfl, 0, rfl⟩
      · have k2b : (k == 2) = false := by simpa using k2
        by_cases k3 : k = 3
        · subst k3
          have HX := Lib.hid (((HO.out.trans (if_neg k1)).trans (if_neg k2)).trans (if_pos rfl))
          clear k1 k2
          cases lf with
          | false =>
            go_wp2_with fail
            go_ret
            rw [HX.out]
            exact ⟨rfl, 0, rfl⟩
          | true =>
            go_wp2_with fail
            refine (betweenL_any nm 32 200 _ HL1.out).mono ?_
            obtain ⟨q, hq⟩ : ∃ q, q = (okS 32 nm && decide (nm.length ≤ 200)) := ⟨_, rfl⟩
            rw [← hq] at HX ⊢
            clear hq
            rintro e w1 ⟨rfl, rfl⟩
            go_wp2_with fail
            go_ret
            rw [HX.out]
            exact ⟨rfl, 0, rfl⟩
        · have k3b : (k == 3) = false := by simpa using k3
          by_cases k4 : k = 4
          · subst k4
            have HX := Lib.hid ((((HO.out.trans (if_neg k1)).trans (if_neg k2)).trans (if_neg k3)).trans (if_pos rfl))
            clear k1 k2 k3
            cases ff with
            | false =>
              go_wp2_with fail
              go_ret
              rw [HX.out]
              exact ⟨rfl, 0, rfl⟩
            | true =>
              go_wp2_with fail
              refine (operatorL_any nm _ HL1.out).mono ?_
              obtain ⟨q, hq⟩ : ∃ q, q = wordB nm := ⟨_, rfl⟩
              rw [← hq] at HX ⊢
              clear hq
              rintro e w1 ⟨rfl, rfl⟩
              cases q with
              | false =>
                go_wp2_with fail
                go_ret
                rw [HX.out]
                exact ⟨rfl, 0, rfl⟩
              | true =>
                cases v with
                | nil =>
                  go_wp2_with fail
                  go_ret
                  rw [HX.out]
                  exact ⟨rfl, 0, rfl⟩
                | cons a v =>
                  go_wp2_with fail
                  go_ret
                  rw [HX.out]
                  exact ⟨rfl, 0, rfl⟩
          · have k4b : (k == 4) = false := by simpa using k4
            by_cases k5 : k = 5
            · subst k5
              have HX := Lib.hid (((((HO.out.trans (if_neg k1)).trans (if_neg k2)).trans (if_neg k3)).trans (if_neg k4)).trans (if_pos rfl))
              clear k1 k2 k3 k4
              cases ff with
              | false =>
                go_wp2_with fail
                go_ret
                rw [HX.out]
                exact ⟨rfl, 0, rfl⟩
              | true =>
                go_wp2_with fail
                refine (operatorL_any nm _ HL1.out).mono ?_
                obtain ⟨q, hq⟩ : ∃ q, q = wordB nm := ⟨_, rfl⟩
                rw [← hq] at HX ⊢
                clear hq
                rintro e w1 ⟨rfl, rfl⟩
                cases q with
                | false =>
                  go_wp2_with fail
                  go_ret
                  rw [HX.out]
                  exact ⟨rfl, 0, rfl⟩
                | true =>
                  go_wp2_with fail
                  refine (identL_any v _ HL2.out).mono ?_
                  obtain ⟨q, hq⟩ : ∃ q, q = identB v := ⟨_, rfl⟩
                  rw [← hq] at HX ⊢
                  clear hq
                  rintro e w1 ⟨rfl, rfl⟩
                  cases q with
                  | false =>
                    go_wp2_with fail
                    go_ret
                    rw [HX.out]
                    exact ⟨rfl, 0, rfl⟩
                  | true =>
                    by_cases h0 : n = 0
                    · subst h0
                      go_wp2_with fail
                      go_ret
                      rw [HX.out]
                      exact ⟨rfl, 0, rfl⟩
                    · have hz : (0 : Int) < (n : Int) := by omega
                      rw [decide_eq_false h0] at HX
                      go_wp2_with fail
                      go_ret
                      rw [HX.out]
                      refine ⟨?_, 0, rfl⟩
                      show Ending.returned (.bool (decide (0 < n))) = _
                      rw [decide_eq_true (by omega)]
                      rfl
            · have k5b : (k == 5) = false := by simpa using k5
              have HX := Lib.hid (((((HO.out.trans (if_neg k1)).trans (if_neg k2)).trans (if_neg k3)).trans (if_neg k4)).trans (if_neg k5))
              clear k1 k2 k3 k4 k5
              go_wp2_with fail
              go_ret
              rw [HX.out]
              exact ⟨rfl, 0, rfl⟩
end Go.Proofs.YtkjhfbgdmmnadaaGreat
