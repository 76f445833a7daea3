/- Contracts of Symbol at a text that begins with a letter, of Identifier, digits. -/
import Derived.Test.YtkjhfbgdmmnadaaGreatLeaf2
namespace Go.Proofs.YtkjhfbgdmmnadaaGreat
open Go.RowKit

def symB (l : List UInt8) : Bool := if l.length = 1 then true else decide (2 ≤ l.length) && decide (l.length ≤ 16) && lettB l && !kwB l && !acB l
theorem kw_one (c : UInt8) : kwB [c] = false ∧ acB [c] = false := by
  unfold kwB acB kwds accs
  simp
theorem ident_eq (c : UInt8) (l : List UInt8) : identB (c :: l) = (isL c && symB (c :: l)) := by
  unfold identB wordB symB
  cases l with
  | nil =>
    rw [if_pos (show [c].length = 1 from rfl)]
    obtain ⟨h1, h2⟩ := kw_one c
    unfold kwB at h1
    unfold acB at h2
    rw [h1, h2]
    simp
  | cons d l =>
    rw [if_neg (by simp)]
    show _ = (isL c && (decide (2 ≤ (c :: d :: l).length) && decide ((c :: d :: l).length ≤ 16) && (c :: d :: l).all isL && !kwds.contains (c :: d :: l) && !accs.contains (c :: d :: l)))
    generalize kwds.contains (c :: d :: l) = k
    generalize accs.contains (c :: d :: l) = a
    have e1 : decide (2 ≤ (c :: d :: l).length) = true := by simp
    have e2 : decide (1 ≤ (c :: d :: l).length) = true := by simp
    rw [e1, e2]
    generalize decide ((c :: d :: l).length ≤ 16) = m
    rw [List.all_cons]
    generalize (d :: l).all isL = t
    cases isL c <;> cases t <;> cases m <;> cases k <;> cases a <;> rfl

set_option maxHeartbeats 2000000 in
theorem symbol_any (s : ByteArray) (w : World) (hs : s.size ≤ 1000) (h0 : 0 < s.size) (hl : isL s[0] = true) :
    Calls Tryz.prog 35 #[.string s] w fun r w' => r = .returned (.bool (symB s.data.toList)) ∧ w = w' := by
  have HL := Lib.hid hl
  clear hl
  have HS : Hid (symB s.data.toList = if s.size = 1 then true else decide (2 ≤ s.size) && decide (s.size ≤ 16) && lettB s.data.toList && !kwB s.data.toList && !acB s.data.toList) := by show symB s.data.toList = _; unfold symB; rw [len_list]
  by_cases h1 : s.size = 1
  · have h1b : ((s.size : Int) == 1) = true := by rw [beq_iff_eq]; omega
    have HT : Hid (lettB s.data.toList = true) := all_yes isL s (fun j hj => by obtain rfl : j = 0 := by omega
                                                                                exact HL.out)
    have HX : Hid (symB s.data.toList = true) := HS.out.trans (if_pos h1)
    go_enter Tryz.func35, Tryz.ntmps35
    go_wp2_with fail
    refine (letters_any s _ hs).mono ?_
    rw [HT.out]
    rintro e w' ⟨rfl, rfl⟩
    go_wp2_with fail
    go_ret
    rw [HX.out]
    exact ⟨rfl, rfl⟩
  · have h1b : ((s.size : Int) == 1) = false := by rw [beq_eq_false_iff_ne]; omega
    have h2z : (2 : Int) ≤ (s.size : Int) := by omega
    have HX : Hid (symB s.data.toList = (decide (s.size ≤ 16) && lettB s.data.toList && !kwB s.data.toList && !acB s.data.toList)) := by
      show symB s.data.toList = _
      rw [HS.out, if_neg h1, decide_eq_true (by omega), Bool.true_and]
    clear HS
    by_cases h16 : s.size ≤ 16
    · have h16z : (s.size : Int) ≤ 16 := by omega
      rw [decide_eq_true h16, Bool.true_and] at HX
      cases ht : lettB s.data.toList with
      | false =>
        have HT := Lib.hid ht
        rw [ht] at HX
        clear ht
        go_enter Tryz.func35, Tryz.ntmps35
        go_wp2_with fail
        refine (letters_any s _ hs).mono ?_
        rw [HT.out]
        rintro e w' ⟨rfl, rfl⟩
        go_wp2_with fail
        go_ret
        rw [HX.out]
        exact ⟨rfl, rfl⟩
      | true =>
        have HT := Lib.hid ht
        rw [ht, Bool.true_and] at HX
        clear ht
        cases hk : kwB s.data.toList with
        | true =>
          have HK := Lib.hid hk
          rw [hk] at HX
          clear hk
          go_enter Tryz.func35, Tryz.ntmps35
          go_wp2_with fail
          refine (letters_any s _ hs).mono ?_
          rw [HT.out]
          rintro e w' ⟨rfl, rfl⟩
          go_wp2_with fail
          refine (keyword_any s _).mono ?_
          rw [HK.out]
          rintro e w' ⟨rfl, rfl⟩
          go_wp2_with fail
          go_ret
          rw [HX.out]
          exact ⟨rfl, rfl⟩
        | false =>
          have HK := Lib.hid hk
          rw [hk] at HX
          clear hk
          go_enter Tryz.func35, Tryz.ntmps35
          go_wp2_with fail
          refine (letters_any s _ hs).mono ?_
          rw [HT.out]
          rintro e w' ⟨rfl, rfl⟩
          go_wp2_with fail
          refine (keyword_any s _).mono ?_
          rw [HK.out]
          rintro e w' ⟨rfl, rfl⟩
          go_wp2_with fail
          refine (accent_any s _).mono ?_
          obtain ⟨b, hb⟩ : ∃ b, b = acB s.data.toList := ⟨_, rfl⟩
          rw [← hb] at HX ⊢
          clear hb
          rintro e w' ⟨rfl, rfl⟩
          go_wp2_with fail
          go_ret
          rw [HX.out]
          exact ⟨by simp, rfl⟩
    · have h16z : ¬ (s.size : Int) ≤ 16 := by omega
      rw [decide_eq_false h16] at HX
      go_enter Tryz.func35, Tryz.ntmps35
      go_wp2_with fail
      go_ret
      rw [HX.out]
      exact ⟨rfl, rfl⟩

set_option maxHeartbeats 2000000 in
theorem ident_any (s : ByteArray) (w : World) (hs : s.size ≤ 1000) :
    Calls Tryz.prog 24 #[.string s] w fun r w' => r = .returned (.bool (identB s.data.toList)) ∧ w = w' := by
  by_cases h0 : s.size = 0
  · have he : s.toList = [] := by rw [ByteArray.toList_eq]; exact List.eq_nil_of_length_eq_zero (by rw [len_list]; exact h0)
    have he2 : s.toList.isEmpty = true := by rw [he]; rfl
    have HX : Hid (identB s.data.toList = false) := by show identB s.data.toList = false; rw [← ByteArray.toList_eq, he]; rfl
    go_enter Tryz.func24, Tryz.ntmps24
    go_wp2_with fail
    go_ret
    rw [HX.out]
    exact ⟨rfl, rfl⟩
  · have hpos : 0 < s.size := by omega
    have hposz : (0 : Int) < (s.size : Int) := by omega
    obtain ⟨c, l, hcl⟩ : ∃ c l, s.data.toList = c :: l := by
      cases h : s.data.toList with
      | nil => have := len_list s; rw [h] at this; simp at this; omega
      | cons c l => exact ⟨c, l, rfl⟩
    have hc0 : s[0] = c := by
      have : s[0] = s.data.toList[0]'(by rw [len_list]; exact hpos) := rfl
      rw [this]; simp [hcl]
    have he2 : s.toList.isEmpty = false := by rw [ByteArray.toList_eq, hcl]; rfl
    have he3 : s.toList ≠ [] := by rw [ByteArray.toList_eq, hcl]; simp
    have HX : Hid (identB s.data.toList = (isL s[0] && symB s.data.toList)) := by show identB s.data.toList = _; rw [hcl, ident_eq, hc0]
    clear hcl hc0
    cases hl : isL s[0] with
    | false =>
      have HL := Lib.hid hl
      rw [hl] at HX
      clear hl
      go_enter Tryz.func24, Tryz.ntmps24
      go_wp2_with fail
      refine (letterC_any s[0] _).mono ?_
      rw [HL.out]
      rintro e w' ⟨rfl, rfl⟩
      go_wp2_with fail
      go_ret
      rw [HX.out]
      exact ⟨rfl, rfl⟩
    | true =>
      have HL := Lib.hid hl
      rw [hl, Bool.true_and] at HX
      clear hl
      go_enter Tryz.func24, Tryz.ntmps24
      go_wp2_with fail
      refine (letterC_any s[0] _).mono ?_
      rw [HL.out]
      rintro e w' ⟨rfl, rfl⟩
      go_wp2_with fail
      refine (symbol_any s _ hs hpos HL.out).mono ?_
      obtain ⟨b, hb⟩ : ∃ b, b = symB s.data.toList := ⟨_, rfl⟩
      rw [← hb] at HX ⊢
      clear hb
      rintro e w' ⟨rfl, rfl⟩
      go_wp2_with fail
      go_ret
      rw [HX.out]
      exact ⟨rfl, rfl⟩
end Go.Proofs.YtkjhfbgdmmnadaaGreat
