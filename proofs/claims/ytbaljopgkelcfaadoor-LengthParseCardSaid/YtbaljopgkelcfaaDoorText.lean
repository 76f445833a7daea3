/- Contracts of Text and of awake. -/
import Derived.Test.YtbaljopgkelcfaaDoorScale
import Derived.Test.YtbaljopgkelcfaaDoorShelf
import Derived.Lib.ItoaLen
import Derived.Lib.ItoaMem
import Derived.Laws.BytesString
namespace Go.Proofs.YtbaljopgkelcfaaDoor
open Go.RowKit

theorem glob : Tryd.prog.globalNamed "internal/strconv.uint64pow10" = some 1 := by kernel_rfl
/-- the table of powers of ten lies as its initialiser lays it -/
structure Tab (w : World) : Prop where
  tab : Lib.TabIs Tryd.prog w "internal/strconv.uint64pow10" .u64 Lib.pow10Tab
  lt : 1 < w.heap.size
theorem Tab.below {w w' : World} (h : Tab w) (hb : Below w.heap.size w w') : Tab w' :=
  ⟨var?_below hb glob h.lt h.tab, Nat.lt_of_lt_of_le h.lt hb.size⟩
theorem below_grow (w : World) (k : Nat) (os : Array Obj) : Below w.heap.size w (Sort.grow (w.drewN k) os) :=
  ⟨rfl, rfl, rfl, by simp [Sort.grow], fun i hi => by simp [Sort.grow, Array.getElem?_append, hi]⟩

theorem itoa_any (n : Int) (w : World) (h0 : -9223372036854775808 ≤ n) (h1 : n ≤ 9223372036854775807) (ht : Tab w) :
    Calls Tryd.prog 29 #[.int .i64 n] w fun e w' => e = .returned (.string ⟨(Lib.itoa n).toArray⟩) ∧ Below w.heap.size w w' :=
  (Tryd.strconv_Itoa n h0 h1 w ht.tab).mono fun _ _ ⟨he, k, os, hw⟩ => ⟨he, hw ▸ below_grow w k os⟩
theorem itoa_nat (n : Nat) (w : World) (h1 : n ≤ 9223372036854775807) (ht : Tab w) :
    Calls Tryd.prog 29 #[.int .i64 n] w fun e w' => e = .returned (.string ⟨(Lib.decDigits n).toArray⟩) ∧ Below w.heap.size w w' := by
  rw [← Lib.itoa_nonneg n]
  exact itoa_any n w (by omega) (by omega) ht
theorem cat (a b : List UInt8) : (⟨a.toArray⟩ : ByteArray) ++ ⟨b.toArray⟩ = ⟨(a ++ b).toArray⟩ := by
  apply ByteArray.ext
  rw [ByteArray.data_append]
  simp
theorem dec_len (n : Nat) (h : n ≤ 9223372036854775807) : (Lib.decDigits n).length ≤ 30 := by
  have := Lib.itoa_length_le (n : Int) (by omega) (by omega); rw [Lib.itoa_nonneg] at this; omega
theorem trim_any (l : List UInt8) (w : World) (hl : l.length ≤ 1000) :
    Calls Tryd.prog 30 #[.string ⟨l.toArray⟩, .string ⟨#[48]⟩] w fun e w' => e = .returned (.string ⟨(Lib.trimRightB l 48).toArray⟩) ∧ Below w.heap.size w w' :=
  (Tryd.strings_TrimRight_one ⟨l.toArray⟩ 48 (by decide) w (by simp [ByteArray.size]; omega)).mono fun _ _ ⟨he, hw⟩ => ⟨by simpa using he, hw ▸ Below.refl _ _⟩

theorem ext4 (z a b c : UInt8) : (⟨#[z, a, b, c]⟩ : ByteArray).extract 1 4 = ⟨[a, b, c].toArray⟩ := by
  apply ByteArray.ext
  simp
theorem trim_len (l : List UInt8) (c : UInt8) : (Lib.trimRightB l c).length ≤ l.length := by
  unfold Lib.trimRightB
  rw [List.length_reverse]
  exact Nat.le_trans (List.dropWhile_sublist _).length_le (Nat.le_of_eq List.length_reverse)
/-- the digits behind the point -/
def dig (k : Nat) : UInt8 := UInt8.ofNat (48 + k)
def fracL (r : Nat) : List UInt8 := Lib.trimRightB [dig (r / 100), dig (r / 10 % 10), dig (r % 10)] 48
theorem dec_step (n : Nat) (h : ¬ n < 10) : Lib.decDigits n = Lib.decDigits (n / 10) ++ [dig (n % 10)] := by
  conv => lhs; rw [Lib.decDigits]
  rw [dif_neg h]
  rfl
theorem dec4 (r : Nat) (h : r < 1000) : Lib.decDigits (1000 + r) = [49, dig (r / 100), dig (r / 10 % 10), dig (r % 10)] := by
  rw [dec_step _ (by omega), dec_step ((1000 + r) / 10) (by omega), dec_step ((1000 + r) / 10 / 10) (by omega), Lib.decDigits_one (by omega)]
  rw [show (1000 + r) / 10 / 10 / 10 = 1 from by omega, show (1000 + r) / 10 / 10 % 10 = r / 100 from by omega, show (1000 + r) / 10 % 10 = r / 10 % 10 from by omega, show (1000 + r) % 10 = r % 10 from by omega]
  rfl
def bodyL (m : Nat) : List UInt8 := if m % 1000 = 0 then Lib.decDigits (m / 1000) ++ [112, 116] else Lib.decDigits (m / 1000) ++ (46 :: fracL (m % 1000)) ++ [112, 116]
/-- the text of a length -/
def txtL (n : Int) : List UInt8 := if validL n then (if n < 0 then 45 :: bodyL n.natAbs else bodyL n.natAbs) else []
theorem body_z (m : Nat) (h : m % 1000 = 0) : bodyL m = Lib.decDigits (m / 1000) ++ [112, 116] := by unfold bodyL; rw [if_pos h]
theorem body_r (m : Nat) (h : ¬ m % 1000 = 0) : bodyL m = Lib.decDigits (m / 1000) ++ (46 :: fracL (m % 1000)) ++ [112, 116] := by unfold bodyL; rw [if_neg h]

set_option maxHeartbeats 1000000 in
theorem text_pz (m : Nat) (w : World) (ht : Tab w) (hm : m ≤ 1073741824) (hr : m % 1000 = 0) :
    Calls Tryd.prog 23 #[.int .i64 (m : Int)] w fun e w' => e = .returned (.string ⟨(bodyL m).toArray⟩) ∧ Below w.heap.size w w' := by
  have HB := Lib.hid (body_z m hr)
  have HV : Hid (validL (m : Int) = true) := by show validL (m : Int) = true; rw [validL_iff]; omega
  have hq : m / 1000 ≤ m := Nat.div_le_self _ _
  have hl := dec_len (m / 1000) (by omega)
  have HT := Lib.hid ht
  have hrb : ((m : Int) % 1000 == 0) = true := by simp; omega
  have hneg : ¬ (m : Int) < 0 := by omega
  clear ht
  go_enter Tryd.func23, Tryd.ntmps23
  go_wp2_with fail
  refine (valid_any _ _).mono ?_
  rw [HV.out]
  rintro e w' ⟨rfl, rfl⟩
  go_wp2_with fail
  rw [show ((m : Int) / 1000) = ((m / 1000 : Nat) : Int) from by simp]
  refine (itoa_nat (m / 1000) _ (by omega) HT.out).mono ?_
  rintro e w1 ⟨rfl, hb1⟩
  have HB1 := Lib.hid hb1
  clear hb1
  go_wp2
  go_ret
  refine ⟨?_, HB1.out⟩
  rw [HB.out, ← cat]
  rfl

set_option maxHeartbeats 1000000 in
theorem text_nz (m : Nat) (w : World) (ht : Tab w) (hm : m ≤ 1073741824) (hm0 : 0 < m) (hr : m % 1000 = 0) :
    Calls Tryd.prog 23 #[.int .i64 (-(m : Int))] w fun e w' => e = .returned (.string ⟨(45 :: bodyL m).toArray⟩) ∧ Below w.heap.size w w' := by
  have HB := Lib.hid (body_z m hr)
  have HV : Hid (validL (-(m : Int)) = true) := by show validL (-(m : Int)) = true; rw [validL_iff]; omega
  have hq : m / 1000 ≤ m := Nat.div_le_self _ _
  have hl := dec_len (m / 1000) (by omega)
  have HT := Lib.hid ht
  have hrb : ((m : Int) % 1000 == 0) = true := by simp; omega
  have hneg : -(m : Int) < 0 := by omega
  clear ht
  go_enter Tryd.func23, Tryd.ntmps23
  go_wp2_with fail
  refine (valid_any _ _).mono ?_
  rw [HV.out]
  rintro e w' ⟨rfl, rfl⟩
  go_wp2_with fail
  rw [show ((m : Int) / 1000) = ((m / 1000 : Nat) : Int) from by simp]
  refine (itoa_nat (m / 1000) _ (by omega) HT.out).mono ?_
  rintro e w1 ⟨rfl, hb1⟩
  have HB1 := Lib.hid hb1
  clear hb1
  go_wp2
  go_ret
  refine ⟨?_, HB1.out⟩
  rw [HB.out, show 45 :: (Lib.decDigits (m / 1000) ++ [112, 116]) = [45] ++ Lib.decDigits (m / 1000) ++ [112, 116] from rfl, ← cat, ← cat]
  rfl

set_option maxHeartbeats 1000000 in
theorem text_pr (m : Nat) (w : World) (ht : Tab w) (hm : m ≤ 1073741824) (hr : ¬ m % 1000 = 0) :
    Calls Tryd.prog 23 #[.int .i64 (m : Int)] w fun e w' => e = .returned (.string ⟨(bodyL m).toArray⟩) ∧ Below w.heap.size w w' := by
  have HB := Lib.hid (body_r m hr)
  have HV : Hid (validL (m : Int) = true) := by show validL (m : Int) = true; rw [validL_iff]; omega
  have hq : m / 1000 ≤ m := Nat.div_le_self _ _
  have hl := dec_len (m / 1000) (by omega)
  have HT := Lib.hid ht
  have hrb : ((m : Int) % 1000 == 0) = false := by simp; omega
  have hneg : ¬ (m : Int) < 0 := by omega
  clear ht
  go_enter Tryd.func23, Tryd.ntmps23
  go_wp2_with fail
  refine (valid_any _ _).mono ?_
  rw [HV.out]
  rintro e w' ⟨rfl, rfl⟩
  go_wp2_with fail
  rw [show ((m : Int) / 1000) = ((m / 1000 : Nat) : Int) from by simp]
  refine (itoa_nat (m / 1000) _ (by omega) HT.out).mono ?_
  rintro e w1 ⟨rfl, hb1⟩
  have HB1 := Lib.hid hb1
  clear hb1
  go_wp2_with fail
  rw [show (1000 + (m : Int) % 1000) = ((1000 + m % 1000 : Nat) : Int) from by simp]
  refine (itoa_nat (1000 + m % 1000) _ (by omega) (HT.out.below HB1.out)).mono ?_
  rintro e w2 ⟨rfl, hb2⟩
  have HB2 := Lib.hid hb2
  rw [dec4 (m % 1000) (Nat.mod_lt _ (by decide))]
  clear hb2
  obtain ⟨a, ha⟩ : ∃ a, a = dig (m % 1000 / 100) := ⟨_, rfl⟩
  obtain ⟨b, hb⟩ : ∃ b, b = dig (m % 1000 / 10 % 10) := ⟨_, rfl⟩
  obtain ⟨c, hc⟩ : ∃ c, c = dig (m % 1000 % 10) := ⟨_, rfl⟩
  rw [← ha, ← hb, ← hc]
  have HF : Hid (fracL (m % 1000) = Lib.trimRightB [a, b, c] 48) := by show fracL (m % 1000) = _; rw [ha, hb, hc]; rfl
  have hfl : (Lib.trimRightB [a, b, c] 48).length ≤ 3 := trim_len [a, b, c] 48
  have HE := Lib.hid (ext4 49 a b c)
  clear ha hb hc
  go_wp2_with fail
  rw [HE.out]
  refine (trim_any [a, b, c] _ (by simp)).mono ?_
  rw [← HF.out]
  rw [← HF.out] at hfl
  rintro e w3 ⟨rfl, hb3⟩
  have HB3 := Lib.hid hb3
  clear hb3
  obtain ⟨f, hf⟩ : ∃ f, f = fracL (m % 1000) := ⟨_, rfl⟩
  rw [← hf] at hfl ⊢
  have HFF := Lib.hid hf
  clear hf
  go_wp2
  go_ret
  refine ⟨?_, HB1.out.trans ((HB2.out.trans (HB3.out.mono HB2.out.size)).mono HB1.out.size)⟩
  rw [HB.out, ← HFF.out, show Lib.decDigits (m / 1000) ++ 46 :: f ++ [112, 116] = Lib.decDigits (m / 1000) ++ ([46] ++ f) ++ [112, 116] from by simp, ← cat, ← cat, ← cat]
  rfl

set_option maxHeartbeats 1000000 in
theorem text_nr (m : Nat) (w : World) (ht : Tab w) (hm : m ≤ 1073741824) (hm0 : 0 < m) (hr : ¬ m % 1000 = 0) :
    Calls Tryd.prog 23 #[.int .i64 (-(m : Int))] w fun e w' => e = .returned (.string ⟨(45 :: bodyL m).toArray⟩) ∧ Below w.heap.size w w' := by
  have HB := Lib.hid (body_r m hr)
  have HV : Hid (validL (-(m : Int)) = true) := by show validL (-(m : Int)) = true; rw [validL_iff]; omega
  have hq : m / 1000 ≤ m := Nat.div_le_self _ _
  have hl := dec_len (m / 1000) (by omega)
  have HT := Lib.hid ht
  have hrb : ((m : Int) % 1000 == 0) = false := by simp; omega
  have hneg : -(m : Int) < 0 := by omega
  clear ht
  go_enter Tryd.func23, Tryd.ntmps23
  go_wp2_with fail
  refine (valid_any _ _).mono ?_
  rw [HV.out]
  rintro e w' ⟨rfl, rfl⟩
  go_wp2_with fail
  rw [show ((m : Int) / 1000) = ((m / 1000 : Nat) : Int) from by simp]
  refine (itoa_nat (m / 1000) _ (by omega) HT.out).mono ?_
  rintro e w1 ⟨rfl, hb1⟩
  have HB1 := Lib.hid hb1
  clear hb1
  go_wp2_with fail
  rw [show (1000 + (m : Int) % 1000) = ((1000 + m % 1000 : Nat) : Int) from by simp]
  refine (itoa_nat (1000 + m % 1000) _ (by omega) (HT.out.below HB1.out)).mono ?_
  rintro e w2 ⟨rfl, hb2⟩
  have HB2 := Lib.hid hb2
  rw [dec4 (m % 1000) (Nat.mod_lt _ (by decide))]
  clear hb2
  obtain ⟨a, ha⟩ : ∃ a, a = dig (m % 1000 / 100) := ⟨_, rfl⟩
  obtain ⟨b, hb⟩ : ∃ b, b = dig (m % 1000 / 10 % 10) := ⟨_, rfl⟩
  obtain ⟨c, hc⟩ : ∃ c, c = dig (m % 1000 % 10) := ⟨_, rfl⟩
  rw [← ha, ← hb, ← hc]
  have HF : Hid (fracL (m % 1000) = Lib.trimRightB [a, b, c] 48) := by show fracL (m % 1000) = _; rw [ha, hb, hc]; rfl
  have hfl : (Lib.trimRightB [a, b, c] 48).length ≤ 3 := trim_len [a, b, c] 48
  have HE := Lib.hid (ext4 49 a b c)
  clear ha hb hc
  go_wp2_with fail
  rw [HE.out]
  refine (trim_any [a, b, c] _ (by simp)).mono ?_
  rw [← HF.out]
  rw [← HF.out] at hfl
  rintro e w3 ⟨rfl, hb3⟩
  have HB3 := Lib.hid hb3
  clear hb3
  obtain ⟨f, hf⟩ : ∃ f, f = fracL (m % 1000) := ⟨_, rfl⟩
  rw [← hf] at hfl ⊢
  have HFF := Lib.hid hf
  clear hf
  go_wp2
  go_ret
  refine ⟨?_, HB1.out.trans ((HB2.out.trans (HB3.out.mono HB2.out.size)).mono HB1.out.size)⟩
  rw [HB.out, ← HFF.out, show 45 :: (Lib.decDigits (m / 1000) ++ 46 :: f ++ [112, 116]) = [45] ++ Lib.decDigits (m / 1000) ++ ([46] ++ f) ++ [112, 116] from by simp, ← cat, ← cat, ← cat, ← cat]
  rfl

set_option maxHeartbeats 400000 in
theorem text_no (n : Int) (w : World) (hv : validL n = false) :
    Calls Tryd.prog 23 #[.int .i64 n] w fun e w' => e = .returned (.string ⟨#[]⟩) ∧ Below w.heap.size w w' := by
  have HV := Lib.hid hv
  clear hv
  go_enter Tryd.func23, Tryd.ntmps23
  go_wp2_with fail
  refine (valid_any _ _).mono ?_
  rw [HV.out]
  rintro e w' ⟨rfl, rfl⟩
  go_wp2
  go_ret
  exact ⟨rfl, Below.refl _ _⟩
theorem text_any (n : Int) (w : World) (ht : Tab w) :
    Calls Tryd.prog 23 #[.int .i64 n] w fun e w' => e = .returned (.string ⟨(txtL n).toArray⟩) ∧ Below w.heap.size w w' := by
  cases hv : validL n with
  | false => unfold txtL; rw [hv]; exact text_no n w hv
  | true =>
    obtain ⟨v1, v2⟩ := (validL_iff n).1 hv
    unfold txtL
    rw [hv, if_pos rfl]
    by_cases h : n < 0
    · rw [if_pos h]
      obtain ⟨m, rfl⟩ : ∃ m : Nat, n = -(m : Int) := ⟨n.natAbs, by omega⟩
      rw [show (-(m : Int)).natAbs = m from by omega]
      by_cases hr : m % 1000 = 0
      · exact text_nz m w ht (by omega) (by omega) hr
      · exact text_nr m w ht (by omega) (by omega) hr
    · rw [if_neg h]
      obtain ⟨m, rfl⟩ : ∃ m : Nat, n = (m : Int) := ⟨n.natAbs, by omega⟩
      rw [show ((m : Int)).natAbs = m from by omega]
      by_cases hr : m % 1000 = 0
      · exact text_pz m w ht (by omega) hr
      · exact text_pr m w ht (by omega) hr
theorem scale25 : scaleL 25 50 = 13 := by decide
theorem txt12 : txtL 12340 = [49, 50, 46, 51, 52, 112, 116] := by decide +kernel
set_option maxHeartbeats 400000 in
theorem awake_any (w : World) (ht : Tab w) : Calls Tryd.prog 10 #[] w fun e w' => e = .returned (.bool true) ∧ Below w.heap.size w w' := by
  go_enter Tryd.func10, Tryd.ntmps10
  go_wp2_with fail
  refine (scale_any 25 50 _ (by omega) (by omega)).mono ?_
  rw [scale25]
  rintro e w1 ⟨rfl, hb1⟩
  go_wp2_with fail
  refine (text_any 12340 _ (ht.below hb1)).mono ?_
  rw [txt12]
  rintro e w2 ⟨rfl, hb2⟩
  go_wp2
  go_ret
  exact ⟨rfl, hb1.trans (hb2.mono hb1.size)⟩
end Go.Proofs.YtbaljopgkelcfaaDoor
