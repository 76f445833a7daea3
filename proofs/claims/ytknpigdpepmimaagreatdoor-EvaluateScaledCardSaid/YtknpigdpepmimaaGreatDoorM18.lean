/- Contracts of the reference's Character at a letter, Symbol at a word, Identifier. Contract of the reference's proper. -/
import Derived.Test.YtknpigdpepmimaaGreatDoorM01
import Derived.Test.YtknpigdpepmimaaGreatDoorM15
import Derived.Test.YtknpigdpepmimaaGreatDoorM03
import Derived.Test.YtknpigdpepmimaaGreatDoorM17
namespace Go.Proofs.YtknpigdpepmimaaGreatDoor
open Go.RowKit
set_option maxHeartbeats 1000000 in
theorem char71_any (c : Nat) (w : World) (hc : c < 256) (h : isLn c = true) : Calls Tryz.prog 111 #[.int .u8 c] w fun e w' => e = .returned (.bool true) ∧ w = w' := by
  have HC := Lib.hid (letter72_nat c)
  have HL := Lib.hid h
  clear h
  go_enter Tryz.func111, Tryz.ntmps111
  go_wp2_with fail
  refine (HC.out _ hc).mono ?_
  rw [HL.out]
  rintro e w' ⟨rfl, rfl⟩
  go_wp2_with fail
  go_ret
  exact ⟨rfl, rfl⟩
theorem ident_of_word (s : ByteArray) (h : wordB s.data.toList = true) : (s.size = 1 → identB s.data.toList = true) ∧ identB s.data.toList = (!hasB kwds s.data.toList && !hasB accs s.data.toList) := by
  have e : identB s.data.toList = (!hasB kwds s.data.toList && !hasB accs s.data.toList) := by
    unfold identB; rw [h]; rfl
  refine ⟨fun h1 => ?_, e⟩
  rw [← len_list] at h1
  rw [e]
  obtain ⟨c, hl⟩ : ∃ c, s.data.toList = [c] := by
    cases hh : s.data.toList with
    | nil => rw [hh] at h1; simp at h1
    | cons c l => rw [hh] at h1; simp at h1; exact ⟨c, by rw [h1]⟩
  rw [hl]
  obtain ⟨k1, k2⟩ := kw_one c
  unfold hasB
  unfold kwB at k1
  unfold acB at k2
  rw [k1, k2]; rfl
theorem word_letter (s : ByteArray) (h : wordB s.data.toList = true) (k : Nat) (hk : k < s.size) : isLn s[k].toNat = true := by
  unfold wordB at h
  simp only [Bool.and_eq_true] at h
  have := List.all_eq_true.1 h.1.1 s[k] (by
    have e : s[k] = s.data.toList[k]'(by simpa using hk) := rfl
    rw [e]; exact List.getElem_mem _)
  exact this
theorem mk_list (s : ByteArray) : (⟨s.data.toList.toArray⟩ : ByteArray) = s := by cases s; simp
theorem in73B (B : Nat) (v : Value) (l : List (List UInt8)) (s : ByteArray) (w : World) (hv : SL w B v l) :
    Calls Tryz.prog 113 #[v, .string s] w fun r w' => r = .returned (.bool (hasB l s.data.toList)) ∧ w = w' := by
  have := in73_any B v l s.data.toList w hv
  rwa [mk_list] at this
set_option maxRecDepth 100000 in
set_option maxHeartbeats 2000000 in
theorem symbol51_word (s : ByteArray) (w : World) (h : wordB s.data.toList = true) :
    Calls Tryz.prog 65 #[.string s] w fun r w' => r = .returned (.bool (identB s.data.toList)) ∧ Below w.heap.size w w' := by
  have HI := Lib.hid (ident_of_word s h)
  have HL := Lib.hid (word_letter s h)
  have hsz : 1 ≤ s.size ∧ s.size ≤ 16 := by
    unfold wordB at h
    rw [len_list] at h
    simp only [Bool.and_eq_true, decide_eq_true_eq] at h
    omega
  obtain ⟨hs1, hs2⟩ := hsz
  clear h
  by_cases h1 : s.size = 1
  · have h1z : ((s.size : Int) == 1) = true := by simp [h1]
    have h0 : (0 : Int) < (s.size : Int) := by omega
    have h00 : 0 < s.size := by omega
    have HX := Lib.hid (HI.out.1 h1)
    have HC := Lib.hid (char71_any s[0].toNat w s[0].toNat_lt (HL.out 0 h00))
    clear h1
    go_enter Tryz.func65, Tryz.ntmps65
    go_wp2_with fail
    refine HC.out.mono ?_
    rintro e w' ⟨rfl, rfl⟩
    go_wp2_with fail
    go_ret
    rw [HX.out]
    exact ⟨rfl, Below.refl _ _⟩
  · have h1z : ((s.size : Int) == 1) = false := by simp; omega
    have HX := Lib.hid HI.out.2
    clear h1 HI
    go_enter Tryz.func65, Tryz.ntmps65
    go_wp2_with fail
    go_loop [3] (fun s3 => ∃ kk : Nat, kk ≤ s.size ∧ s3 = .int .i64 kk) (fun s3 => s.size - (intOf s3).toNat)
    case atStart => exact ⟨0, Nat.zero_le _, rfl⟩
    case round =>
      obtain ⟨kk, hkk, rfl⟩ := hrel
      by_cases hlt : kk < s.size
      · have hltz : (kk : Int) < (s.size : Int) := by omega
        have HC := Lib.hid (letter72_nat s[kk].toNat)
        have HLK := Lib.hid (HL.out kk hlt)
        go_wp2_with fail
        refine (HC.out _ s[kk].toNat_lt).mono ?_
        rw [HLK.out]
        rintro e w' ⟨rfl, rfl⟩
        go_wp2_with fail
        go_round
        case rel => exact ⟨kk + 1, by omega, by go_num⟩
        case measure => simp [intOf]; omega
      · have hltz : ¬ (kk : Int) < (s.size : Int) := by omega
        have hz2 : (2 : Int) ≤ (s.size : Int) := by
          have h1y := h1z
          rw [beq_eq_false_iff_ne] at h1y; omega
        have hz16 : (s.size : Int) ≤ 16 := by omega
        clear hlt hkk
        obtain ⟨k1, hk1⟩ : ∃ k, k = hasB kwds s.data.toList := ⟨_, rfl⟩
        obtain ⟨k2, hk2⟩ : ∃ k, k = hasB accs s.data.toList := ⟨_, rfl⟩
        rw [← hk1, ← hk2] at HX
        have HK1 := Lib.hid hk1
        have HK2 := Lib.hid hk2
        clear hk1 hk2
        cases k1 with
        | true =>
          go_wp2_with fail
          refine (kw74_any _).mono ?_
          rintro e w1 ⟨v1, rfl, hv1, hb1⟩
          have HV1 := Lib.hid hv1
          have HB1 := Lib.hid hb1
          clear hv1 hb1
          go_wp2_with fail
          refine (in73B _ _ kwds s w1 HV1.out).mono ?_
          rw [← HK1.out]
          rintro e w2 ⟨rfl, rfl⟩
          go_wp2_with fail
          go_ret
          rw [HX.out]
          exact ⟨rfl, HB1.out⟩
        | false =>
          go_wp2_with fail
          refine (kw74_any _).mono ?_
          rintro e w1 ⟨v1, rfl, hv1, hb1⟩
          have HV1 := Lib.hid hv1
          have HB1 := Lib.hid hb1
          clear hv1 hb1
          go_wp2_with fail
          refine (in73B _ _ kwds s w1 HV1.out).mono ?_
          rw [← HK1.out]
          rintro e w2 ⟨rfl, rfl⟩
          cases k2 with
          | true =>
            go_wp2_with fail
            refine (ac75_any _).mono ?_
            rintro e w3 ⟨v3, rfl, hv3, hb3⟩
            have HV3 := Lib.hid hv3
            have HB3 := Lib.hid (HB1.out.trans (hb3.mono HB1.out.size))
            clear hv3 hb3
            go_wp2_with fail
            refine (in73B _ _ accs s w3 HV3.out).mono ?_
            rw [← HK2.out]
            rintro e w4 ⟨rfl, rfl⟩
            go_wp2_with fail
            go_ret
            rw [HX.out]
            exact ⟨rfl, HB3.out⟩
          | false =>
            go_wp2_with fail
            refine (ac75_any _).mono ?_
            rintro e w3 ⟨v3, rfl, hv3, hb3⟩
            have HV3 := Lib.hid hv3
            have HB3 := Lib.hid (HB1.out.trans (hb3.mono HB1.out.size))
            clear hv3 hb3
            go_wp2_with fail
            refine (in73B _ _ accs s w3 HV3.out).mono ?_
            rw [← HK2.out]
            rintro e w4 ⟨rfl, rfl⟩
            go_wp2_with fail
            go_ret
            rw [HX.out]
            exact ⟨rfl, HB3.out⟩
set_option maxHeartbeats 1000000 in
theorem ident29_any (s : ByteArray) (w : World) (hs : s.size ≤ 1000) :
    Calls Tryz.prog 36 #[.string s] w fun r w' => r = .returned (.bool (identB s.data.toList)) ∧ Below w.heap.size w w' := by
  have HW := Lib.hid (letters50_any s w hs)
  have HS := Lib.hid (symbol51_word s w)
  cases h : wordB s.data.toList with
  | false =>
    have HX : Hid (identB s.data.toList = false) := by show identB s.data.toList = false; unfold identB; rw [h]; rfl
    rw [h] at HW
    clear h
    go_enter Tryz.func36, Tryz.ntmps36
    go_wp2_with fail
    refine HW.out.mono ?_
    rintro e w' ⟨rfl, rfl⟩
    go_wp2_with fail
    go_ret
    rw [HX.out]
    exact ⟨rfl, Below.refl _ _⟩
  | true =>
    have HS2 := Lib.hid (HS.out h)
    rw [h] at HW
    clear h
    go_enter Tryz.func36, Tryz.ntmps36
    go_wp2_with fail
    refine HW.out.mono ?_
    rintro e w' ⟨rfl, rfl⟩
    go_wp2_with fail
    refine HS2.out.mono ?_
    rintro e w' ⟨rfl, hb⟩
    have HB := Lib.hid hb
    clear hb
    go_wp2_with fail
    go_ret
    exact ⟨rfl, HB.out⟩
end Go.Proofs.YtknpigdpepmimaaGreatDoor

namespace Go.Proofs.YtknpigdpepmimaaGreatDoor
open Go.RowKit
theorem number79L (l : List UInt8) (w : World) (hs : l.length ≤ 1000) : Calls Tryz.prog 108 #[.string ⟨l.toArray⟩] w fun r w' => r = .returned (.bool (numB l)) ∧ w = w' := by
  have := number79_any ⟨l.toArray⟩ w (by rw [size_mk]; exact hs)
  simpa using this
theorem ident29L (l : List UInt8) (w : World) (hs : l.length ≤ 1000) : Calls Tryz.prog 36 #[.string ⟨l.toArray⟩] w fun r w' => r = .returned (.bool (identB l)) ∧ Below w.heap.size w w' := by
  have := ident29_any ⟨l.toArray⟩ w (by rw [size_mk]; exact hs)
  simpa using this
theorem letters50L (l : List UInt8) (w : World) (hs : l.length ≤ 1000) : Calls Tryz.prog 64 #[.string ⟨l.toArray⟩] w fun r w' => r = .returned (.bool (wordB l)) ∧ w = w' := by
  have := letters50_any ⟨l.toArray⟩ w (by rw [size_mk]; exact hs)
  simpa using this
theorem printableL (l : List UInt8) (lo most : Nat) (w : World) (hs : l.length ≤ 1000) :
    Calls Tryz.prog 109 #[.string ⟨l.toArray⟩, .int .u8 lo, .int .i64 most] w fun r w' => r = .returned (.bool (okS lo l && decide (l.length ≤ most))) ∧ w = w' := by
  have := printable_any ⟨l.toArray⟩ lo most w (by rw [size_mk]; exact hs)
  rw [size_mk] at this
  simpa using this
set_option maxRecDepth 100000 in
set_option maxHeartbeats 4000000 in
theorem proper_any (t : T) (A : Option Addr) (c : Nat) (w : World) (hl : Short t) (hcp : t.args.length ≤ c ∧ c ≤ 9223372036854775807) :
    Calls Tryz.prog 60 #[.agg (tv t A c)] w fun e w' => e = .returned (.bool (ownB t)) ∧ Below w.heap.size w w' := by
  have hb0 : Below w.heap.size w (w.alloc (.cells (tv t A c) 24)) := (Below.refl _ _).alloc (Nat.le_refl _) _
  have HB0 := Lib.hid hb0
  clear hb0
  have c0 : (w.alloc (.cells (tv t A c) 24)).cell? ⟨w.heap.size, 0, none⟩ = some (.int .i64 t.kind) := by simp [tv]
  have c1 : (w.alloc (.cells (tv t A c) 24)).cell? ⟨w.heap.size, 1, none⟩ = some (.string ⟨t.name.toArray⟩) := by simp [tv]
  have c2 : (w.alloc (.cells (tv t A c) 24)).cell? ⟨w.heap.size, 2, none⟩ = some (.string ⟨t.var.toArray⟩) := by simp [tv]
  have c3 : (w.alloc (.cells (tv t A c) 24)).cell? ⟨w.heap.size, 3, none⟩ = some (.slice A t.args.length c) := by simp [tv]
  have c4 : (w.alloc (.cells (tv t A c) 24)).cell? ⟨w.heap.size, 4, none⟩ = some (.string ⟨t.form.toArray⟩) := by simp [tv]
  generalize tv t A c = cs at *
  obtain ⟨l1, l2, l3⟩ := hl
  obtain ⟨hcp1, hcp2⟩ := hcp
  have hnl : t.args.length ≤ 9223372036854775807 := by omega
  have HL1 := Lib.hid l1
  have HL2 := Lib.hid l2
  have HL3 := Lib.hid l3
  have hlf : leafB t = (t.var.isEmpty && (t.form.isEmpty && t.args.isEmpty)) := rfl
  have hff : formB t = (okS 33 t.form && decide (t.form.length ≤ 16)) := rfl
  have HO : Hid (ownB t = if t.kind = 1 then leafB t && numB t.name else if t.kind = 2 then leafB t && identB t.name else if t.kind = 3 then leafB t && (okS 32 t.name && decide (t.name.length ≤ 200)) else if t.kind = 4 then formB t && wordB t.name && t.var.isEmpty else if t.kind = 5 then formB t && wordB t.name && identB t.var && !t.args.isEmpty else false) := rfl
  have HAE : Hid (t.args.isEmpty = decide (t.args.length = 0)) := by show t.args.isEmpty = _; cases t.args <;> simp
  rw [HAE.out] at hlf HO
  generalize ownB t = ow at *
  generalize leafB t = lf at *
  generalize formB t = ff at *
  generalize t.kind = k at *
  generalize t.name = nm at *
  generalize t.var = v at *
  generalize t.form = f at *
  generalize t.args.length = n at *
  clear l1 l2 l3 HAE
  have HLF := Lib.hid hlf
  have HFF := Lib.hid hff
  clear hlf hff
  go_enter Tryz.func60, Tryz.ntmps60
  go_upto_region 1 with (fail)
  go_cut [3] (fun s3 wx => s3 = .bool lf ∧ w.alloc (.cells cs 24) = wx)
  case first =>
    by_cases h0 : n = 0
    · have hz : ((n : Int) == 0) = true := by rw [beq_iff_eq]; omega
      have HZ := Lib.hid (decide_eq_true h0)
      clear h0
      cases v with
      | cons a v =>
        have HX : Hid (lf = false) := HLF.out.trans rfl
        go_wp2_with fail
        go_meet
        case rel => exact ⟨by rw [HX.out], rfl⟩
      | nil =>
        cases f with
        | cons a f =>
          have HX : Hid (lf = false) := HLF.out.trans rfl
          go_wp2_with fail
          go_meet
          case rel => exact ⟨by rw [HX.out], rfl⟩
        | nil =>
          have HX : Hid (lf = true) := HLF.out.trans (by rw [HZ.out]; rfl)
          go_wp2_with fail
          go_meet
          case rel => exact ⟨by rw [HX.out], rfl⟩
    · have hz : ((n : Int) == 0) = false := by rw [beq_eq_false_iff_ne]; omega
      have HX : Hid (lf = false) := HLF.out.trans (by rw [decide_eq_false h0]; simp)
      go_wp2_with fail
      go_meet
      case rel => exact ⟨by rw [HX.out], rfl⟩
  case rest =>
    obtain ⟨rfl, rfl⟩ := hcut
    have hls : w.heap.size < (w.alloc (.cells cs 24)).heap.size := by simp
    generalize hw1 : w.alloc (.cells cs 24) = w1 at *
    clear hw1
    by_cases k1 : k = 1
    · subst k1
      have HX := Lib.hid (HO.out.trans (if_pos rfl))
      cases lf with
      | false =>
        go_wp2_with fail
        go_ret
        rw [HX.out]
        exact ⟨rfl, HB0.out⟩
      | true =>
        go_wp2_with fail
        refine (number79L nm _ HL1.out).mono ?_
        obtain ⟨q, hq⟩ : ∃ q, q = numB nm := ⟨_, rfl⟩
        rw [← hq] at HX ⊢
        clear hq
        rintro e w2 ⟨rfl, rfl⟩
        go_wp2_with fail
        go_ret
        rw [HX.out]
        exact ⟨rfl, HB0.out⟩
    · have k1b : (k == 1) = false := by simpa using k1
      by_cases k2 : k = 2
      · subst k2
        have HX := Lib.hid ((HO.out.trans (if_neg k1)).trans (if_pos rfl))
        clear k1
        cases lf with
        | false =>
          go_wp2_with fail
          go_ret
          rw [HX.out]
          exact ⟨rfl, HB0.out⟩
        | true =>
          go_wp2_with fail
          refine (ident29L nm _ HL1.out).mono ?_
          obtain ⟨q, hq⟩ : ∃ q, q = identB nm := ⟨_, rfl⟩
          rw [← hq] at HX ⊢
          clear hq
          rintro e w2 ⟨rfl, hb2⟩
          have HB2 := Lib.hid (HB0.out.trans (hb2.mono HB0.out.size))
          clear hb2
          go_wp2_with fail
          go_ret
          rw [HX.out]
          exact ⟨rfl, HB2.out⟩
      · have k2b : (k == 2) = false := by simpa using k2
        by_cases k3 : k = 3
        · subst k3
          have HX := Lib.hid (((HO.out.trans (if_neg k1)).trans (if_neg k2)).trans (if_pos rfl))
          clear k1 k2
          cases lf with
          | false =>
            go_wp2_with fail
            go_ret
            rw [HX.out]
            exact ⟨rfl, HB0.out⟩
          | true =>
            go_wp2_with fail
            refine (printableL nm 32 200 _ HL1.out).mono ?_
            obtain ⟨q, hq⟩ : ∃ q, q = (okS 32 nm && decide (nm.length ≤ 200)) := ⟨_, rfl⟩
            rw [← hq] at HX ⊢
            clear hq
            rintro e w2 ⟨rfl, rfl⟩
            go_wp2_with fail
            go_ret
            rw [HX.out]
            exact ⟨rfl, HB0.out⟩
        · have k3b : (k == 3) = false := by simpa using k3
          by_cases k4 : k = 4
          · subst k4
            have HX := Lib.hid ((((HO.out.trans (if_neg k1)).trans (if_neg k2)).trans (if_neg k3)).trans (if_pos rfl))
            clear k1 k2 k3
            have HW := Lib.hid (letters50L nm w1 HL1.out)
            have HP := Lib.hid (printableL f 33 16 w1 HL3.out)
            rw [← HFF.out] at HP
            generalize wordB nm = q at *
            cases q with
            | false =>
              go_wp2_with fail
              refine HW.out.mono ?_
              rintro e w2 ⟨rfl, rfl⟩
              go_wp2_with fail
              go_ret
              rw [HX.out]
              exact ⟨by rw [Bool.and_false]; rfl, HB0.out⟩
            | true =>
              cases v with
              | cons a v =>
                go_wp2_with fail
                refine HW.out.mono ?_
                rintro e w2 ⟨rfl, rfl⟩
                go_wp2_with fail
                go_ret
                rw [HX.out]
                exact ⟨by rw [Bool.and_true]; simp, HB0.out⟩
              | nil =>
                go_wp2_with fail
                refine HW.out.mono ?_
                rintro e w2 ⟨rfl, rfl⟩
                go_wp2_with fail
                refine HP.out.mono ?_
                rintro e w2 ⟨rfl, rfl⟩
                go_wp2_with fail
                go_ret
                rw [HX.out]
                exact ⟨by simp, HB0.out⟩
          · have k4b : (k == 4) = false := by simpa using k4
            by_cases k5 : k = 5
            · subst k5
              have HX := Lib.hid (((((HO.out.trans (if_neg k1)).trans (if_neg k2)).trans (if_neg k3)).trans (if_neg k4)).trans (if_pos rfl))
              clear k1 k2 k3 k4
              have HW := Lib.hid (letters50L nm w1 HL1.out)
              have HI := Lib.hid (ident29L v w1 HL2.out)
              generalize wordB nm = q at *
              generalize identB v = r at *
              cases q with
              | false =>
                go_wp2_with fail
                refine HW.out.mono ?_
                rintro e w2 ⟨rfl, rfl⟩
                go_wp2_with fail
                go_ret
                rw [HX.out]
                exact ⟨by simp, HB0.out⟩
              | true =>
                cases r with
                | false =>
                  go_wp2_with fail
                  refine HW.out.mono ?_
                  rintro e w2 ⟨rfl, rfl⟩
                  go_wp2_with fail
                  refine HI.out.mono ?_
                  rintro e w2 ⟨rfl, hb2⟩
                  have HB2 := Lib.hid (HB0.out.trans (hb2.mono HB0.out.size))
                  clear hb2
                  go_wp2_with fail
                  go_ret
                  rw [HX.out]
                  exact ⟨by simp, HB2.out⟩
                | true =>
                  go_wp2_with fail
                  refine HW.out.mono ?_
                  rintro e w2 ⟨rfl, rfl⟩
                  go_wp2_with fail
                  refine HI.out.mono ?_
                  rintro e w2 ⟨rfl, hb2⟩
                  have HB2 := Lib.hid (HB0.out.trans (hb2.mono HB0.out.size))
                  have d3 := (hb2.cell (p := ⟨w.heap.size, 3, none⟩) hls).trans c3
                  have d4 := (hb2.cell (p := ⟨w.heap.size, 4, none⟩) hls).trans c4
                  have HP := Lib.hid (printableL f 33 16 w2 HL3.out)
                  rw [← HFF.out] at HP
                  clear hb2 c0 c1 c2 c3 c4
                  cases ff with
                  | false =>
                    go_wp2_with fail
                    refine HP.out.mono ?_
                    rintro e w3 ⟨rfl, rfl⟩
                    go_wp2_with fail
                    go_ret
                    rw [HX.out]
                    exact ⟨by simp, HB2.out⟩
                  | true =>
                    by_cases h0 : n = 0
                    · have hz : ¬ (0 : Int) < (n : Int) := by omega
                      have HZ := Lib.hid (decide_eq_true h0)
                      clear h0
                      go_wp2_with fail
                      refine HP.out.mono ?_
                      rintro e w3 ⟨rfl, rfl⟩
                      go_wp2_with fail
                      go_ret
                      have hn := of_decide_eq_true HZ.out
                      rw [HX.out]
                      exact ⟨by simp [hn], HB2.out⟩
                    · have hz : (0 : Int) < (n : Int) := by omega
                      have HZ := Lib.hid (decide_eq_false h0)
                      clear h0
                      go_wp2_with fail
                      refine HP.out.mono ?_
                      rintro e w3 ⟨rfl, rfl⟩
                      go_wp2_with fail
                      go_ret
                      have hn := of_decide_eq_false HZ.out
                      rw [HX.out]
                      have hn1 : 0 < n := by omega
                      exact ⟨by simp [hn, hn1], HB2.out⟩
            · have k5b : (k == 5) = false := by simpa using k5
              have HX := Lib.hid (((((HO.out.trans (if_neg k1)).trans (if_neg k2)).trans (if_neg k3)).trans (if_neg k4)).trans (if_neg k5))
              clear k1 k2 k3 k4 k5
              go_wp2_with fail
              go_ret
              rw [HX.out]
              exact ⟨rfl, HB0.out⟩
end Go.Proofs.YtknpigdpepmimaaGreatDoor
