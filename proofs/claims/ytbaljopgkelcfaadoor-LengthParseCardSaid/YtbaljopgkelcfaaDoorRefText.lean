/- Contract of the reference's Text. -/
import Derived.Test.YtbaljopgkelcfaaDoorDigW
namespace Go.Proofs.YtbaljopgkelcfaaDoor
open Go.RowKit

theorem ext3 (a b c : UInt8) : (⟨#[a, b, c]⟩ : ByteArray).extract 0 2 = ⟨#[a, b]⟩ := by
  apply ByteArray.ext
  simp
theorem ext2 (a b : UInt8) : (⟨#[a, b]⟩ : ByteArray).extract 0 1 = ⟨#[a]⟩ := by
  apply ByteArray.ext
  simp
theorem frac_ne {r : Nat} (h0 : 0 < r) (h : r < 1000) : ¬ (dig (r / 100) = 48 ∧ dig (r / 10 % 10) = 48 ∧ dig (r % 10) = 48) := by
  rintro ⟨h1, h2, h3⟩
  have e1 := congrArg UInt8.toNat h1
  have e2 := congrArg UInt8.toNat h2
  have e3 := congrArg UInt8.toNat h3
  have h48 : (48 : UInt8).toNat = 48 := rfl
  rw [dig_toNat (by omega), h48] at e1 e2 e3
  omega
theorem trim3 {a b c : UInt8} (h : (c == 48) = false) : Lib.trimRightB [a, b, c] 48 = [a, b, c] := by simp [Lib.trimRightB, h]
theorem trim2 {a b : UInt8} (h : (b == 48) = false) : Lib.trimRightB [a, b, 48] 48 = [a, b] := by simp [Lib.trimRightB, h]
theorem trim1 {a : UInt8} (h : (a == 48) = false) : Lib.trimRightB [a, 48, 48] 48 = [a] := by simp [Lib.trimRightB, h]
theorem u8_ne {c : UInt8} (h : c ≠ 48) : ((c.toNat : Int) == 48) = false := by
  simp; intro e; apply h; apply UInt8.toNat_inj.1; have : (48 : UInt8).toNat = 48 := rfl; omega


set_option maxHeartbeats 1000000 in
theorem rt_pz (m : Nat) (w : World) (hm : m ≤ 1073741824) (hr : m % 1000 = 0) :
    Calls Tryd.prog 25 #[.int .i64 (m : Int)] w fun e w' => e = .returned (.string ⟨(bodyL m).toArray⟩) ∧ Below w.heap.size w w' := by
  have HB := Lib.hid (body_z m hr)
  have hrb : ¬ 0 < (m : Int) % 1000 := by omega
  have HV : Hid (validL (m : Int) = true) := by show validL (m : Int) = true; rw [validL_iff]; omega
  have hq : m / 1000 ≤ m := Nat.div_le_self _ _
  have hl := dec_len (m / 1000) (by omega)
  have HA : Hid (((m : Int)).natAbs = m) := by show ((m : Int)).natAbs = m; omega
  have hneg : ¬ (m : Int) < 0 := by omega
  go_enter Tryd.func25, Tryd.ntmps25
  go_wp2_with fail
  refine (refValid_any _ _).mono ?_
  rw [HV.out]
  rintro e w' ⟨rfl, rfl⟩
  go_wp2_with fail
  refine (size_any (m : Int) _ (by omega) (by omega)).mono ?_
  rw [HA.out]
  rintro e w' ⟨rfl, rfl⟩
  go_wp2_with fail
  rw [show ((m : Int) / 1000) = ((m / 1000 : Nat) : Int) from by simp]
  refine (refDigits_any (m / 1000) (m / 1000) _ (Nat.le_refl _) (by omega)).mono ?_
  rintro e w1 ⟨rfl, hb1⟩
  have HB1 := Lib.hid hb1
  clear hb1
  go_wp2_with fail
  refine (size_any (m : Int) _ (by omega) (by omega)).mono ?_
  rw [HA.out]
  rintro e w' ⟨rfl, rfl⟩
  go_wp2
  go_ret
  refine ⟨?_, HB1.out⟩
  rw [HB.out, ← cat]
  rfl


set_option maxHeartbeats 2000000 in
theorem rt_pr (m : Nat) (w : World) (hm : m ≤ 1073741824) (hr : ¬ m % 1000 = 0) :
    Calls Tryd.prog 25 #[.int .i64 (m : Int)] w fun e w' => e = .returned (.string ⟨(bodyL m).toArray⟩) ∧ Below w.heap.size w w' := by
  have HB := Lib.hid (body_r m hr)
  have hrb : 0 < (m : Int) % 1000 := by omega
  have HNE := Lib.hid (frac_ne (r := m % 1000) (by omega) (Nat.mod_lt _ (by decide)))
  have HV : Hid (validL (m : Int) = true) := by show validL (m : Int) = true; rw [validL_iff]; omega
  have hq : m / 1000 ≤ m := Nat.div_le_self _ _
  have hl := dec_len (m / 1000) (by omega)
  have HA : Hid (((m : Int)).natAbs = m) := by show ((m : Int)).natAbs = m; omega
  have hneg : ¬ (m : Int) < 0 := by omega
  go_enter Tryd.func25, Tryd.ntmps25
  go_wp2_with fail
  refine (refValid_any _ _).mono ?_
  rw [HV.out]
  rintro e w' ⟨rfl, rfl⟩
  go_wp2_with fail
  refine (size_any (m : Int) _ (by omega) (by omega)).mono ?_
  rw [HA.out]
  rintro e w' ⟨rfl, rfl⟩
  go_wp2_with fail
  rw [show ((m : Int) / 1000) = ((m / 1000 : Nat) : Int) from by simp]
  refine (refDigits_any (m / 1000) (m / 1000) _ (Nat.le_refl _) (by omega)).mono ?_
  rintro e w1 ⟨rfl, hb1⟩
  have HB1 := Lib.hid hb1
  clear hb1
  go_wp2_with fail
  refine (size_any (m : Int) _ (by omega) (by omega)).mono ?_
  rw [HA.out]
  rintro e w' ⟨rfl, rfl⟩
  go_wp2_with fail
  rw [show (1000 + (m : Int) % 1000) = ((1000 + m % 1000 : Nat) : Int) from by simp]
  refine (refDigits_any (1000 + m % 1000) (1000 + m % 1000) _ (Nat.le_refl _) (by omega)).mono ?_
  rintro e w2 ⟨rfl, hb2⟩
  have HB2 := Lib.hid (HB1.out.trans (hb2.mono HB1.out.size))
  rw [dec4 (m % 1000) (Nat.mod_lt _ (by decide))]
  clear hb2 HB1
  obtain ⟨a, ha⟩ : ∃ a, a = dig (m % 1000 / 100) := ⟨_, rfl⟩
  obtain ⟨b, hb⟩ : ∃ b, b = dig (m % 1000 / 10 % 10) := ⟨_, rfl⟩
  obtain ⟨c, hc⟩ : ∃ c, c = dig (m % 1000 % 10) := ⟨_, rfl⟩
  rw [← ha, ← hb, ← hc] at HNE
  rw [← ha, ← hb, ← hc]
  have HF : Hid (fracL (m % 1000) = Lib.trimRightB [a, b, c] 48) := by show fracL (m % 1000) = _; rw [ha, hb, hc]; rfl
  have HE := ext4 49 a b c
  clear ha hb hc
  go_wp2_with fail
  clear HE
  have E3 := ext3 a b c
  have E2 := ext2 a b
  go_loopg [5] 3 (fun gg s5 wr => wr = w2 ∧ ((gg = 3 ∧ s5 = .string ⟨#[a, b, c]⟩) ∨ (gg = 2 ∧ s5 = .string ⟨#[a, b]⟩ ∧ Aside (c = 48)) ∨ (gg = 1 ∧ s5 = .string ⟨#[a]⟩ ∧ Aside (c = 48 ∧ b = 48))))
  case atStart => exact ⟨rfl, .inl ⟨rfl, rfl⟩⟩
  case round =>
    obtain ⟨rfl, hrel⟩ := hrel
    rcases hrel with ⟨rfl, rfl⟩ | ⟨rfl, rfl, H1⟩ | ⟨rfl, rfl, H1⟩
    · by_cases h : c = 48
      · subst h
        go_wp2_with fail
        go_roundg 2
        case measure => omega
        case rel => first | exact ⟨rfl, .inr (.inl ⟨rfl, rfl, rfl⟩)⟩ | exact ⟨rfl, .inr (.inl ⟨rfl, rfl, trivial⟩)⟩
      · have hh : ((((⟨#[a, b, c]⟩ : ByteArray)[2]'(by show 2 < 3; decide)).toNat : Int) == 48) = false := u8_ne h
        have HT := Lib.hid (trim3 (a := a) (b := b) (beq_eq_false_iff_ne.2 h))
        clear h
        go_wp2
        go_ret
        refine ⟨?_, HB2.out⟩
        rw [HB.out, HF.out, HT.out, show Lib.decDigits (m / 1000) ++ 46 :: [a, b, c] ++ [112, 116] = Lib.decDigits (m / 1000) ++ ([46] ++ [a, b, c]) ++ [112, 116] from by simp, ← cat, ← cat, ← cat]
        rfl
    · obtain rfl := H1.out
      by_cases h : b = 48
      · subst h
        go_wp2_with fail
        go_roundg 1
        case measure => omega
        case rel => first | exact ⟨rfl, .inr (.inr ⟨rfl, rfl, rfl, rfl⟩)⟩ | exact ⟨rfl, .inr (.inr ⟨rfl, rfl, trivial, rfl⟩)⟩ | exact ⟨rfl, .inr (.inr ⟨rfl, rfl, trivial, trivial⟩)⟩ | exact ⟨rfl, .inr (.inr ⟨rfl, rfl, trivial⟩)⟩
      · have hh : ((((⟨#[a, b]⟩ : ByteArray)[1]'(by show 1 < 2; decide)).toNat : Int) == 48) = false := u8_ne h
        have HT := Lib.hid (trim2 (a := a) (beq_eq_false_iff_ne.2 h))
        clear h
        go_wp2
        go_ret
        refine ⟨?_, HB2.out⟩
        rw [HB.out, HF.out, HT.out, show Lib.decDigits (m / 1000) ++ 46 :: [a, b] ++ [112, 116] = Lib.decDigits (m / 1000) ++ ([46] ++ [a, b]) ++ [112, 116] from by simp, ← cat, ← cat, ← cat]
        rfl
    · obtain ⟨rfl, rfl⟩ := H1.out
      have h : a ≠ 48 := fun e => HNE.out ⟨e, rfl, rfl⟩
      have hh : ((((⟨#[a]⟩ : ByteArray)[0]'(by show 0 < 1; decide)).toNat : Int) == 48) = false := u8_ne h
      have HT := Lib.hid (trim1 (beq_eq_false_iff_ne.2 h))
      clear h
      go_wp2
      go_ret
      refine ⟨?_, HB2.out⟩
      rw [HB.out, HF.out, HT.out, show Lib.decDigits (m / 1000) ++ 46 :: [a] ++ [112, 116] = Lib.decDigits (m / 1000) ++ ([46] ++ [a]) ++ [112, 116] from by simp, ← cat, ← cat, ← cat]
      rfl


set_option maxHeartbeats 1000000 in
theorem rt_nz (m : Nat) (w : World) (hm : m ≤ 1073741824) (hm0 : 0 < m) (hr : m % 1000 = 0) :
    Calls Tryd.prog 25 #[.int .i64 (-(m : Int))] w fun e w' => e = .returned (.string ⟨(45 :: bodyL m).toArray⟩) ∧ Below w.heap.size w w' := by
  have HB := Lib.hid (body_z m hr)
  have hrb : ¬ 0 < (m : Int) % 1000 := by omega
  have HV : Hid (validL (-(m : Int)) = true) := by show validL (-(m : Int)) = true; rw [validL_iff]; omega
  have hq : m / 1000 ≤ m := Nat.div_le_self _ _
  have hl := dec_len (m / 1000) (by omega)
  have HA : Hid (((-(m : Int))).natAbs = m) := by show ((-(m : Int))).natAbs = m; omega
  have hneg : -(m : Int) < 0 := by omega
  go_enter Tryd.func25, Tryd.ntmps25
  go_wp2_with fail
  refine (refValid_any _ _).mono ?_
  rw [HV.out]
  rintro e w' ⟨rfl, rfl⟩
  go_wp2_with fail
  refine (size_any (-(m : Int)) _ (by omega) (by omega)).mono ?_
  rw [HA.out]
  rintro e w' ⟨rfl, rfl⟩
  go_wp2_with fail
  rw [show ((m : Int) / 1000) = ((m / 1000 : Nat) : Int) from by simp]
  refine (refDigits_any (m / 1000) (m / 1000) _ (Nat.le_refl _) (by omega)).mono ?_
  rintro e w1 ⟨rfl, hb1⟩
  have HB1 := Lib.hid hb1
  clear hb1
  go_wp2_with fail
  refine (size_any (-(m : Int)) _ (by omega) (by omega)).mono ?_
  rw [HA.out]
  rintro e w' ⟨rfl, rfl⟩
  go_wp2
  go_ret
  refine ⟨?_, HB1.out⟩
  rw [HB.out, show 45 :: (Lib.decDigits (m / 1000) ++ [112, 116]) = [45] ++ Lib.decDigits (m / 1000) ++ [112, 116] from rfl, ← cat, ← cat]
  rfl


set_option maxHeartbeats 2000000 in
theorem rt_nr (m : Nat) (w : World) (hm : m ≤ 1073741824) (hm0 : 0 < m) (hr : ¬ m % 1000 = 0) :
    Calls Tryd.prog 25 #[.int .i64 (-(m : Int))] w fun e w' => e = .returned (.string ⟨(45 :: bodyL m).toArray⟩) ∧ Below w.heap.size w w' := by
  have HB := Lib.hid (body_r m hr)
  have hrb : 0 < (m : Int) % 1000 := by omega
  have HNE := Lib.hid (frac_ne (r := m % 1000) (by omega) (Nat.mod_lt _ (by decide)))
  have HV : Hid (validL (-(m : Int)) = true) := by show validL (-(m : Int)) = true; rw [validL_iff]; omega
  have hq : m / 1000 ≤ m := Nat.div_le_self _ _
  have hl := dec_len (m / 1000) (by omega)
  have HA : Hid (((-(m : Int))).natAbs = m) := by show ((-(m : Int))).natAbs = m; omega
  have hneg : -(m : Int) < 0 := by omega
  go_enter Tryd.func25, Tryd.ntmps25
  go_wp2_with fail
  refine (refValid_any _ _).mono ?_
  rw [HV.out]
  rintro e w' ⟨rfl, rfl⟩
  go_wp2_with fail
  refine (size_any (-(m : Int)) _ (by omega) (by omega)).mono ?_
  rw [HA.out]
  rintro e w' ⟨rfl, rfl⟩
  go_wp2_with fail
  rw [show ((m : Int) / 1000) = ((m / 1000 : Nat) : Int) from by simp]
  refine (refDigits_any (m / 1000) (m / 1000) _ (Nat.le_refl _) (by omega)).mono ?_
  rintro e w1 ⟨rfl, hb1⟩
  have HB1 := Lib.hid hb1
  clear hb1
  go_wp2_with fail
  refine (size_any (-(m : Int)) _ (by omega) (by omega)).mono ?_
  rw [HA.out]
  rintro e w' ⟨rfl, rfl⟩
  go_wp2_with fail
  rw [show (1000 + (m : Int) % 1000) = ((1000 + m % 1000 : Nat) : Int) from by simp]
  refine (refDigits_any (1000 + m % 1000) (1000 + m % 1000) _ (Nat.le_refl _) (by omega)).mono ?_
  rintro e w2 ⟨rfl, hb2⟩
  have HB2 := Lib.hid (HB1.out.trans (hb2.mono HB1.out.size))
  rw [dec4 (m % 1000) (Nat.mod_lt _ (by decide))]
  clear hb2 HB1
  obtain ⟨a, ha⟩ : ∃ a, a = dig (m % 1000 / 100) := ⟨_, rfl⟩
  obtain ⟨b, hb⟩ : ∃ b, b = dig (m % 1000 / 10 % 10) := ⟨_, rfl⟩
  obtain ⟨c, hc⟩ : ∃ c, c = dig (m % 1000 % 10) := ⟨_, rfl⟩
  rw [← ha, ← hb, ← hc] at HNE
  rw [← ha, ← hb, ← hc]
  have HF : Hid (fracL (m % 1000) = Lib.trimRightB [a, b, c] 48) := by show fracL (m % 1000) = _; rw [ha, hb, hc]; rfl
  have HE := ext4 49 a b c
  clear ha hb hc
  go_wp2_with fail
  clear HE
  have E3 := ext3 a b c
  have E2 := ext2 a b
  go_loopg [5] 3 (fun gg s5 wr => wr = w2 ∧ ((gg = 3 ∧ s5 = .string ⟨#[a, b, c]⟩) ∨ (gg = 2 ∧ s5 = .string ⟨#[a, b]⟩ ∧ Aside (c = 48)) ∨ (gg = 1 ∧ s5 = .string ⟨#[a]⟩ ∧ Aside (c = 48 ∧ b = 48))))
  case atStart => exact ⟨rfl, .inl ⟨rfl, rfl⟩⟩
  case round =>
    obtain ⟨rfl, hrel⟩ := hrel
    rcases hrel with ⟨rfl, rfl⟩ | ⟨rfl, rfl, H1⟩ | ⟨rfl, rfl, H1⟩
    · by_cases h : c = 48
      · subst h
        go_wp2_with fail
        go_roundg 2
        case measure => omega
        case rel => first | exact ⟨rfl, .inr (.inl ⟨rfl, rfl, rfl⟩)⟩ | exact ⟨rfl, .inr (.inl ⟨rfl, rfl, trivial⟩)⟩
      · have hh : ((((⟨#[a, b, c]⟩ : ByteArray)[2]'(by show 2 < 3; decide)).toNat : Int) == 48) = false := u8_ne h
        have HT := Lib.hid (trim3 (a := a) (b := b) (beq_eq_false_iff_ne.2 h))
        clear h
        go_wp2
        go_ret
        refine ⟨?_, HB2.out⟩
        rw [HB.out, HF.out, HT.out, show 45 :: (Lib.decDigits (m / 1000) ++ 46 :: [a, b, c] ++ [112, 116]) = [45] ++ Lib.decDigits (m / 1000) ++ ([46] ++ [a, b, c]) ++ [112, 116] from by simp, ← cat, ← cat, ← cat, ← cat]
        rfl
    · obtain rfl := H1.out
      by_cases h : b = 48
      · subst h
        go_wp2_with fail
        go_roundg 1
        case measure => omega
        case rel => first | exact ⟨rfl, .inr (.inr ⟨rfl, rfl, rfl, rfl⟩)⟩ | exact ⟨rfl, .inr (.inr ⟨rfl, rfl, trivial, rfl⟩)⟩ | exact ⟨rfl, .inr (.inr ⟨rfl, rfl, trivial, trivial⟩)⟩ | exact ⟨rfl, .inr (.inr ⟨rfl, rfl, trivial⟩)⟩
      · have hh : ((((⟨#[a, b]⟩ : ByteArray)[1]'(by show 1 < 2; decide)).toNat : Int) == 48) = false := u8_ne h
        have HT := Lib.hid (trim2 (a := a) (beq_eq_false_iff_ne.2 h))
        clear h
        go_wp2
        go_ret
        refine ⟨?_, HB2.out⟩
        rw [HB.out, HF.out, HT.out, show 45 :: (Lib.decDigits (m / 1000) ++ 46 :: [a, b] ++ [112, 116]) = [45] ++ Lib.decDigits (m / 1000) ++ ([46] ++ [a, b]) ++ [112, 116] from by simp, ← cat, ← cat, ← cat, ← cat]
        rfl
    · obtain ⟨rfl, rfl⟩ := H1.out
      have h : a ≠ 48 := fun e => HNE.out ⟨e, rfl, rfl⟩
      have hh : ((((⟨#[a]⟩ : ByteArray)[0]'(by show 0 < 1; decide)).toNat : Int) == 48) = false := u8_ne h
      have HT := Lib.hid (trim1 (beq_eq_false_iff_ne.2 h))
      clear h
      go_wp2
      go_ret
      refine ⟨?_, HB2.out⟩
      rw [HB.out, HF.out, HT.out, show 45 :: (Lib.decDigits (m / 1000) ++ 46 :: [a] ++ [112, 116]) = [45] ++ Lib.decDigits (m / 1000) ++ ([46] ++ [a]) ++ [112, 116] from by simp, ← cat, ← cat, ← cat, ← cat]
      rfl


set_option maxHeartbeats 400000 in
theorem rt_no (n : Int) (w : World) (hv : validL n = false) :
    Calls Tryd.prog 25 #[.int .i64 n] w fun e w' => e = .returned (.string ⟨#[]⟩) ∧ Below w.heap.size w w' := by
  have HV := Lib.hid hv
  clear hv
  go_enter Tryd.func25, Tryd.ntmps25
  go_wp2_with fail
  refine (refValid_any _ _).mono ?_
  rw [HV.out]
  rintro e w' ⟨rfl, rfl⟩
  go_wp2
  go_ret
  exact ⟨rfl, Below.refl _ _⟩
theorem refText_any (n : Int) (w : World) :
    Calls Tryd.prog 25 #[.int .i64 n] w fun e w' => e = .returned (.string ⟨(txtL n).toArray⟩) ∧ Below w.heap.size w w' := by
  cases hv : validL n with
  | false => unfold txtL; rw [hv]; exact rt_no n w hv
  | true =>
    obtain ⟨v1, v2⟩ := (validL_iff n).1 hv
    unfold txtL
    rw [hv, if_pos rfl]
    by_cases h : n < 0
    · rw [if_pos h]
      obtain ⟨m, rfl⟩ : ∃ m : Nat, n = -(m : Int) := ⟨n.natAbs, by omega⟩
      rw [show (-(m : Int)).natAbs = m from by omega]
      by_cases hr : m % 1000 = 0
      · exact rt_nz m w (by omega) (by omega) hr
      · exact rt_nr m w (by omega) (by omega) hr
    · rw [if_neg h]
      obtain ⟨m, rfl⟩ : ∃ m : Nat, n = (m : Int) := ⟨n.natAbs, by omega⟩
      rw [show ((m : Int)).natAbs = m from by omega]
      by_cases hr : m % 1000 = 0
      · exact rt_pz m w (by omega) hr
      · exact rt_pr m w (by omega) hr
end Go.Proofs.YtbaljopgkelcfaaDoor
