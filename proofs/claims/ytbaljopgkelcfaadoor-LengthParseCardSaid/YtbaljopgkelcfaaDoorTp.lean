/- Walks of LengthText and LengthParse. -/
import Derived.Test.YtbaljopgkelcfaaDoorRefParse
import Derived.Test.YtbaljopgkelcfaaDoorRefText
namespace Go.Proofs.YtbaljopgkelcfaaDoor
open Go.RowKit

theorem frac_len (r : Nat) : (fracL r).length ≤ 3 := by unfold fracL; exact Nat.le_trans (trim_len _ _) (by simp)
theorem txt_len (n : Int) : (txtL n).length ≤ 60 := by
  unfold txtL
  have hb : validL n = true → (bodyL n.natAbs).length ≤ 50 := fun h => by
    have hm := validL_of h
    have hd := dec_len (n.natAbs / 1000) (by omega)
    have hf := frac_len (n.natAbs % 1000)
    unfold bodyL
    split <;> simp <;> omega
  split
  · rename_i h
    have := hb h
    split <;> simp <;> omega
  · simp
theorem txt_no {n : Int} (h : validL n = false) : txtL n = [] := by unfold txtL; rw [h]; rfl

set_option maxHeartbeats 1000000 in
theorem lengthText_walk (n : Int) (w : World) (_hn : -9223372036854775808 ≤ n) (_hN : n ≤ 9223372036854775807) (ht : Tab w) (hm : Max w) :
    Calls Tryd.prog 8 #[.int .i64 n] w fun e w' => e = .returned (.bool true) ∧ Below w.heap.size w w' := by
  have HT := Lib.hid ht
  have HM := Lib.hid hm
  have hl := txt_len n
  clear ht hm
  cases hv : validL n with
  | false =>
    have HV := Lib.hid hv
    have HE := Lib.hid (txt_no hv)
    clear hv
    go_enter Tryd.func8, Tryd.ntmps8
    go_wp2_with fail
    refine (awake_any _ HT.out).mono ?_
    rintro e w1 ⟨rfl, hb1⟩
    have HB1 := Lib.hid hb1
    clear hb1
    go_wp2_with fail
    refine (text_any n _ (HT.out.below HB1.out)).mono ?_
    rw [HE.out]
    rintro e w2 ⟨rfl, hb2⟩
    have HB2 := Lib.hid (HB1.out.trans (hb2.mono HB1.out.size))
    clear hb2
    go_wp2_with fail
    refine (parse_any [] _ (by simp) (HM.out.below HB2.out)).mono ?_
    rw [parse_nil]
    rintro e w3 ⟨rfl, hb3⟩
    have HB3 := Lib.hid (HB2.out.trans (hb3.mono HB2.out.size))
    clear hb3
    go_wp2_with fail
    refine (refValid_any n _).mono ?_
    rw [HV.out]
    rintro e w' ⟨rfl, rfl⟩
    go_wp2
    go_ret
    exact ⟨rfl, HB3.out⟩
  | true =>
    have HV := Lib.hid hv
    have HP := Lib.hid (parse_text hv)
    clear hv
    go_enter Tryd.func8, Tryd.ntmps8
    go_wp2_with fail
    refine (awake_any _ HT.out).mono ?_
    rintro e w1 ⟨rfl, hb1⟩
    have HB1 := Lib.hid hb1
    clear hb1
    go_wp2_with fail
    refine (text_any n _ (HT.out.below HB1.out)).mono ?_
    rintro e w2 ⟨rfl, hb2⟩
    have HB2 := Lib.hid (HB1.out.trans (hb2.mono HB1.out.size))
    clear hb2
    go_wp2_with fail
    refine (parse_any (txtL n) _ hl (HM.out.below HB2.out)).mono ?_
    rw [HP.out]
    rintro e w3 ⟨rfl, hb3⟩
    have HB3 := Lib.hid (HB2.out.trans (hb3.mono HB2.out.size))
    clear hb3
    go_wp2_with fail
    refine (refValid_any n _).mono ?_
    rw [HV.out]
    rintro e w' ⟨rfl, rfl⟩
    go_wp2_with fail
    refine (refText_any n _).mono ?_
    rintro e w4 ⟨rfl, hb4⟩
    have HB4 := Lib.hid (HB3.out.trans (hb4.mono HB3.out.size))
    clear hb4 HP
    generalize txtL n = t at *
    go_wp2
    go_ret
    exact ⟨rfl, HB4.out⟩

set_option maxRecDepth 100000 in
set_option maxHeartbeats 1000000 in
theorem lp_walk (l : List UInt8) (w : World) (hl : l.length ≤ 40) (ht : Tab w) (hm : Max w) :
    Calls Tryd.prog 9 #[.string ⟨l.toArray⟩] w fun e w' => e = .returned (.bool true) ∧ Below w.heap.size w w' := by
  have HT := Lib.hid ht
  have HM := Lib.hid hm
  have hlz : ¬ (40 : Int) < ((⟨l.toArray⟩ : ByteArray).size : Int) := by rw [size_mk]; omega
  clear ht hm
  obtain ⟨⟨n, f⟩, hp⟩ : ∃ x, x = parseP l := ⟨_, rfl⟩
  have HP := Lib.hid hp
  clear hp
  obtain ⟨S, hS⟩ : ∃ S : ByteArray, S = ⟨l.toArray⟩ := ⟨_, rfl⟩
  rw [← hS] at hlz ⊢
  have HS := Lib.hid hS
  clear hS
  by_cases hf : f = 0
  · subst hf
    have HTX := Lib.hid (text_parse HP.out.symm)
    go_enter Tryd.func9, Tryd.ntmps9
    go_wp2_with fail
    refine (awake_any _ HT.out).mono ?_
    rintro e w1 ⟨rfl, hb1⟩
    have HB1 := Lib.hid hb1
    clear hb1
    go_wp2_with fail
    rw [HS.out]
    refine (parse_any l _ (by omega) (HM.out.below HB1.out)).mono ?_
    rw [← HP.out, ← HS.out]
    rintro e w3 ⟨rfl, hb3⟩
    have HB3 := Lib.hid (HB1.out.trans (hb3.mono HB1.out.size))
    clear hb3
    go_wp2_with fail
    rw [HS.out]
    refine (refParse_any l _ (by omega)).mono ?_
    rw [← HP.out, ← HS.out]
    rintro e w4 ⟨rfl, hb4⟩
    have HB4 := Lib.hid (HB3.out.trans (hb4.mono HB3.out.size))
    clear hb4
    go_wp2_with fail
    refine (text_any n _ (HT.out.below HB4.out)).mono ?_
    rw [HTX.out, ← HS.out]
    rintro e w5 ⟨rfl, hb5⟩
    have HB5 := Lib.hid (HB4.out.trans (hb5.mono HB4.out.size))
    clear hb5
    go_wp2
    go_ret
    exact ⟨rfl, HB5.out⟩
  · have hf' : (f == 0) = false := by simpa using hf
    have hf2 : (f != 0) = true := by simpa using hf
    clear hf
    go_enter Tryd.func9, Tryd.ntmps9
    go_wp2_with fail
    refine (awake_any _ HT.out).mono ?_
    rintro e w1 ⟨rfl, hb1⟩
    have HB1 := Lib.hid hb1
    clear hb1
    go_wp2_with fail
    rw [HS.out]
    refine (parse_any l _ (by omega) (HM.out.below HB1.out)).mono ?_
    rw [← HP.out, ← HS.out]
    rintro e w3 ⟨rfl, hb3⟩
    have HB3 := Lib.hid (HB1.out.trans (hb3.mono HB1.out.size))
    clear hb3
    go_wp2_with fail
    rw [HS.out]
    refine (refParse_any l _ (by omega)).mono ?_
    rw [← HP.out, ← HS.out]
    rintro e w4 ⟨rfl, hb4⟩
    have HB4 := Lib.hid (HB3.out.trans (hb4.mono HB3.out.size))
    clear hb4
    go_wp2_with fail
    go_ret
    exact ⟨rfl, HB4.out⟩
set_option maxHeartbeats 400000 in
theorem lp_long (s : ByteArray) (w : World) (hl : ¬ s.size ≤ 40) (ht : Tab w) :
    Calls Tryd.prog 9 #[.string s] w fun e w' => e = .returned (.bool true) ∧ Below w.heap.size w w' := by
  have HT := Lib.hid ht
  have hlz : (40 : Int) < (s.size : Int) := by omega
  clear ht
  go_enter Tryd.func9, Tryd.ntmps9
  go_wp2_with fail
  refine (awake_any _ HT.out).mono ?_
  rintro e w1 ⟨rfl, hb1⟩
  go_wp2
  go_ret
  exact ⟨rfl, hb1⟩
theorem lengthParse_walk (s : ByteArray) (w : World) (_hs : s.size ≤ maxLen) (ht : Tab w) (hm : Max w) :
    Calls Tryd.prog 9 #[.string s] w fun e w' => e = .returned (.bool true) ∧ Below w.heap.size w w' := by
  by_cases hl : s.size ≤ 40
  · have := lp_walk s.data.toList w (by rw [len_list]; exact hl) ht hm
    rw [Array.toArray_toList] at this
    exact this
  · exact lp_long s w hl ht
end Go.Proofs.YtbaljopgkelcfaaDoor
