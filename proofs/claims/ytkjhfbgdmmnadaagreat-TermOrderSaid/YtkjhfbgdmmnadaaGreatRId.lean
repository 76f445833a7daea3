/- Contracts of the reference's Character at a letter, Symbol at a word, Identifier. -/
import Derived.Test.YtkjhfbgdmmnadaaGreatRLf2
import Derived.Test.YtkjhfbgdmmnadaaGreatLeaf3
namespace Go.Proofs.YtkjhfbgdmmnadaaGreat
open Go.RowKit

set_option maxHeartbeats 1000000 in
theorem char71_any (c : Nat) (w : World) (hc : c < 256) (h : isLn c = true) : Calls Tryz.prog 61 #[.int .u8 c] w fun e w' => e = .returned (.bool true) ∧ w = w' := by
  have HC := Lib.hid (letter72_nat c)
  have HL := Lib.hid h
  clear h
  go_enter Tryz.func61, Tryz.ntmps61
  go_wp2_with fail
  refine (HC.out _ hc).mono ?_
  rw [HL.out]
  rintro e w' ⟨rfl, rfl⟩
  go_wp2_with fail
  go_ret
  exact ⟨rfl, rfl⟩
theorem ident_of_word (s : ByteArray) (h : wordB s.data.toList = true) : (s.size = 1 → identB s.data.toList = true) ∧ identB s.data.toList = (!hasB kwds s.data.toList && !hasB accs s.data.toList) := by
  have e : identB s.data.toList = (!hasB kwds s.data.toList && !hasB accs s.data.toList) := by
    unfold identB; rw [h]; rfl
  refine ⟨fun h1 => ?_, e⟩
  rw [← len_list] at h1
  rw [e]
  obtain ⟨c, hl⟩ : ∃ c, s.data.toList = [c] := by
    cases hh : s.data.toList with
    | nil => rw [hh] at h1; simp at h1
    | cons c l => rw [hh] at h1; simp at h1; exact ⟨c, by rw [h1]⟩
  rw [hl]
  obtain ⟨k1, k2⟩ := kw_one c
  unfold hasB
  unfold kwB at k1
  unfold acB at k2
  rw [k1, k2]; rfl
theorem word_letter (s : ByteArray) (h : wordB s.data.toList = true) (k : Nat) (hk : k < s.size) : isLn s[k].toNat = true := by
  unfold wordB at h
  simp only [Bool.and_eq_true] at h
  have := List.all_eq_true.1 h.1.1 s[k] (by
    have e : s[k] = s.data.toList[k]'(by simpa using hk) := rfl
    rw [e]; exact List.getElem_mem _)
  exact this
theorem mk_list (s : ByteArray) : (⟨s.data.toList.toArray⟩ : ByteArray) = s := by cases s; simp

theorem in73B (B : Nat) (v : Value) (l : List (List UInt8)) (s : ByteArray) (w : World) (hv : SL w B v l) :
    Calls Tryz.prog 63 #[v, .string s] w fun r w' => r = .returned (.bool (hasB l s.data.toList)) ∧ w = w' := by
  have := in73_any B v l s.data.toList w hv
  rwa [mk_list] at this

set_option maxRecDepth 100000 in
set_option maxHeartbeats 2000000 in
theorem symbol51_word (s : ByteArray) (w : World) (h : wordB s.data.toList = true) :
    Calls Tryz.prog 46 #[.string s] w fun r w' => r = .returned (.bool (identB s.data.toList)) ∧ Below w.heap.size w w' := by
  have HI := Lib.hid (ident_of_word s h)
  have HL := Lib.hid (word_letter s h)
  have hsz : 1 ≤ s.size ∧ s.size ≤ 16 := by
    unfold wordB at h
    rw [len_list] at h
    simp only [Bool.and_eq_true, decide_eq_true_eq] at h
    omega
  obtain ⟨hs1, hs2⟩ := hsz
  clear h
  by_cases h1 : s.size = 1
  · have h1z : ((s.size : Int) == 1) = true := by simp [h1]
    have h0 : (0 : Int) < (s.size : Int) := by omega
    have h00 : 0 < s.size := by omega
    have HX := Lib.hid (HI.out.1 h1)
    have HC := Lib.hid (char71_any s[0].toNat w s[0].toNat_lt (HL.out 0 h00))
    clear h1
    go_enter Tryz.func46, Tryz.ntmps46
    go_wp2_with fail
    refine HC.out.mono ?_
    rintro e w' ⟨rfl, rfl⟩
    go_wp2_with fail
    go_ret
    rw [HX.out]
    exact ⟨rfl, Below.refl _ _⟩
  · have h1z : ((s.size : Int) == 1) = false := by simp; omega
    have HX := Lib.hid HI.out.2
    clear h1 HI
    go_enter Tryz.func46, Tryz.ntmps46
    go_wp2_with fail
    go_loop [3] (fun s3 => ∃ kk : Nat, kk ≤ s.size ∧ s3 = .int .i64 kk) (fun s3 => s.size - (intOf s3).toNat)
    case atStart => exact ⟨0, Nat.zero_le _, rfl⟩
    case round =>
      obtain ⟨kk, hkk, rfl⟩ := hrel
      by_cases hlt : kk < s.size
      · have hltz : (kk : Int) < (s.size : Int) := by omega
        have HC := Lib.hid (letter72_nat s[kk].toNat)
        have HLK := Lib.hid (HL.out kk hlt)
        go_wp2_with fail
        refine (HC.out _ s[kk].toNat_lt).mono ?_
        rw [HLK.out]
        rintro e w' ⟨rfl, rfl⟩
        go_wp2_with fail
        go_round
        case rel => exact ⟨kk + 1, by omega, by go_num⟩
        case measure => simp [intOf]; omega
      · have hltz : ¬ (kk : Int) < (s.size : Int) := by omega
        have hz2 : (2 : Int) ≤ (s.size : Int) := by
          have h1y := h1z
          rw [beq_eq_false_iff_ne] at h1y; omega
        have hz16 : (s.size : Int) ≤ 16 := by omega
        clear hlt hkk
        obtain ⟨k1, hk1⟩ : ∃ k, k = hasB kwds s.data.toList := ⟨_, rfl⟩
        obtain ⟨k2, hk2⟩ : ∃ k, k = hasB accs s.data.toList := ⟨_, rfl⟩
        rw [← hk1, ← hk2] at HX
        have HK1 := Lib.hid hk1
        have HK2 := Lib.hid hk2
        clear hk1 hk2
        cases k1 with
        | true =>
          go_wp2_with fail
          refine (kw74_any _).mono ?_
          rintro e w1 ⟨v1, rfl, hv1, hb1⟩
          have HV1 := Lib.hid hv1
          have HB1 := Lib.hid hb1
          clear hv1 hb1
          go_wp2_with fail
          refine (in73B _ _ kwds s w1 HV1.out).mono ?_
          rw [← HK1.out]
          rintro e w2 ⟨rfl, rfl⟩
          go_wp2_with fail
          go_ret
          rw [HX.out]
          exact ⟨rfl, HB1.out⟩
        | false =>
          go_wp2_with fail
          refine (kw74_any _).mono ?_
          rintro e w1 ⟨v1, rfl, hv1, hb1⟩
          have HV1 := Lib.hid hv1
          have HB1 := Lib.hid hb1
          clear hv1 hb1
          go_wp2_with fail
          refine (in73B _ _ kwds s w1 HV1.out).mono ?_
          rw [← HK1.out]
          rintro e w2 ⟨rfl, rfl⟩
          cases k2 with
          | true =>
            go_wp2_with fail
            refine (ac75_any _).mono ?_
            rintro e w3 ⟨v3, rfl, hv3, hb3⟩
            have HV3 := Lib.hid hv3
            have HB3 := Lib.hid (HB1.out.trans (hb3.mono HB1.out.size))
            clear hv3 hb3
            go_wp2_with fail
            refine (in73B _ _ accs s w3 HV3.out).mono ?_
            rw [← HK2.out]
            rintro e w4 ⟨rfl, rfl⟩
            go_wp2_with fail
            go_ret
            rw [HX.out]
            exact ⟨rfl, HB3.out⟩
          | false =>
            go_wp2_with fail
            refine (ac75_any _).mono ?_
            rintro e w3 ⟨v3, rfl, hv3, hb3⟩
            have HV3 := Lib.hid hv3
            have HB3 := Lib.hid (HB1.out.trans (hb3.mono HB1.out.size))
            clear hv3 hb3
            go_wp2_with fail
            refine (in73B _ _ accs s w3 HV3.out).mono ?_
            rw [← HK2.out]
            rintro e w4 ⟨rfl, rfl⟩
            go_wp2_with fail
            go_ret
            rw [HX.out]
            exact ⟨rfl, HB3.out⟩
set_option maxHeartbeats 1000000 in
theorem ident29_any (s : ByteArray) (w : World) (hs : s.size ≤ 1000) :
    Calls Tryz.prog 32 #[.string s] w fun r w' => r = .returned (.bool (identB s.data.toList)) ∧ Below w.heap.size w w' := by
  have HW := Lib.hid (letters50_any s w hs)
  have HS := Lib.hid (symbol51_word s w)
  cases h : wordB s.data.toList with
  | false =>
    have HX : Hid (identB s.data.toList = false) := by show identB s.data.toList = false; unfold identB; rw [h]; rfl
    rw [h] at HW
    clear h
    go_enter Tryz.func32, Tryz.ntmps32
    go_wp2_with fail
    refine HW.out.mono ?_
    rintro e w' ⟨rfl, rfl⟩
    go_wp2_with fail
    go_ret
    rw [HX.out]
    exact ⟨rfl, Below.refl _ _⟩
  | true =>
    have HS2 := Lib.hid (HS.out h)
    rw [h] at HW
    clear h
    go_enter Tryz.func32, Tryz.ntmps32
    go_wp2_with fail
    refine HW.out.mono ?_
    rintro e w' ⟨rfl, rfl⟩
    go_wp2_with fail
    refine HS2.out.mono ?_
    rintro e w' ⟨rfl, hb⟩
    have HB := Lib.hid hb
    clear hb
    go_wp2_with fail
    go_ret
    exact ⟨rfl, HB.out⟩
end Go.Proofs.YtkjhfbgdmmnadaaGreat
