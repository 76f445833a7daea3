/- Contract of the reference's Number. -/
import Derived.Test.YtkjhfbgdmmnadaaGreatRLf2
import Derived.Test.YtkjhfbgdmmnadaaGreatOwn
namespace Go.Proofs.YtkjhfbgdmmnadaaGreat
open Go.RowKit

theorem idx_no : ∀ l : List UInt8, (46 : UInt8) ∉ l → Lib.index l [46] = -1
  | [], _ => rfl
  | b :: l, h => by
    simp only [List.mem_cons, not_or] at h
    unfold Lib.index
    rw [idx_no l h.2, if_neg (by simp [List.isPrefixOf, h.1])]
    rfl
theorem idx_yes (b : List UInt8) : ∀ a : List UInt8, (46 : UInt8) ∉ a → Lib.index (a ++ 46 :: b) [46] = a.length
  | [], _ => by
    show Lib.index (46 :: b) [46] = _
    unfold Lib.index
    rw [if_pos (by simp [List.isPrefixOf])]
    rfl
  | c :: a, h => by
    simp only [List.mem_cons, not_or] at h
    show Lib.index (c :: (a ++ 46 :: b)) [46] = _
    unfold Lib.index
    rw [idx_yes b a h.2, if_neg (by simp [List.isPrefixOf, h.1])]
    have : ((a.length : Int) == -1) = false := by rw [beq_eq_false_iff_ne]; omega
    rw [this]
    simp
theorem cut_no (l : List UInt8) (h : (46 : UInt8) ∉ l) : Lib.cut l [46] = (l, [], false) := by
  unfold Lib.cut
  rw [idx_no l h, if_neg (by decide)]
theorem cut_yes (a b : List UInt8) (h : (46 : UInt8) ∉ a) : Lib.cut (a ++ 46 :: b) [46] = (a, b, true) := by
  unfold Lib.cut
  rw [idx_yes b a h, if_pos (by omega)]
  simp
theorem split46 : ∀ l : List UInt8, (46 : UInt8) ∉ l ∨ ∃ a b, l = a ++ 46 :: b ∧ (46 : UInt8) ∉ a
  | [] => .inl (by simp)
  | c :: l => by
    by_cases hc : c = 46
    · exact .inr ⟨[], l, by rw [hc]; rfl, by simp⟩
    · rcases split46 l with h | ⟨a, b, rfl, h⟩
      · exact .inl (by simp only [List.mem_cons, not_or]; exact ⟨fun e => hc e.symm, h⟩)
      · exact .inr ⟨c :: a, b, rfl, by simp only [List.mem_cons, not_or]; exact ⟨fun e => hc e.symm, h⟩⟩
def dots (l : List UInt8) : Nat := l.count 46
def okN (l : List UInt8) (j : Nat) (h : j < l.length) : Prop := isD l[j] = true ∨ (l[j] = 46 ∧ 0 < j ∧ j + 1 < l.length)
theorem isD46 : isD 46 = false := by decide
theorem all_of (p : UInt8 → Bool) (l : List UInt8) (h : ∀ j (hj : j < l.length), p l[j] = true) : l.all p = true := by
  rw [List.all_eq_true]
  intro x hx
  obtain ⟨j, hj, rfl⟩ := List.mem_iff_getElem.1 hx
  exact h j hj
theorem all_not (p : UInt8 → Bool) (l : List UInt8) (j : Nat) (hj : j < l.length) (h : p l[j] = false) : l.all p = false := by
  rw [List.all_eq_false]
  exact ⟨l[j], List.getElem_mem hj, by simp [h]⟩
theorem numB_all (l : List UInt8) (h : ∀ j (hj : j < l.length), okN l j hj) : numB l = (decide (0 < l.length) && decide (l.length ≤ 20) && decide (dots l ≤ 1)) := by
  unfold numB dots
  rcases split46 l with hn | ⟨a, b, rfl, hn⟩
  · rw [cut_no l hn]
    have h1 : l.all isD = true := all_of _ l (fun j hj => by
      rcases h j hj with h' | h'
      · exact h'
      · exact absurd (h'.1 ▸ List.getElem_mem hj) hn)
    have h2 : l.count 46 = 0 := List.count_eq_zero.2 hn
    rw [h2]
    unfold digs
    rw [h1]
    cases l with
    | nil => rfl
    | cons c l => simp
  · rw [cut_yes a b hn]
    have hlen : (a ++ 46 :: b).length = a.length + 1 + b.length := by simp; omega
    have ha : a.all isD = true := all_of _ a (fun j hj => by
      have hj' : j < (a ++ 46 :: b).length := by omega
      have e : (a ++ 46 :: b)[j] = a[j] := List.getElem_append_left hj
      rcases h j hj' with h' | h'
      · rw [e] at h'; exact h'
      · rw [e] at h'; exact absurd (h'.1 ▸ List.getElem_mem hj) hn)
    have hm : 0 < a.length ∧ a.length + 1 < (a ++ 46 :: b).length := by
      have hj' : a.length < (a ++ 46 :: b).length := by omega
      have e : (a ++ 46 :: b)[a.length] = 46 := by simp
      rcases h a.length hj' with h' | h'
      · rw [e, isD46] at h'; cases h'
      · exact h'.2
    have hc : (a ++ 46 :: b).count 46 = 1 + b.count 46 := by
      rw [List.count_append, List.count_cons_self, List.count_eq_zero.2 hn]; omega
    have hd : digs a = true := by
      unfold digs
      rw [ha]
      cases a with
      | nil => simp at hm
      | cons c a => rfl
    rw [hc, hd]
    by_cases hb : (46 : UInt8) ∈ b
    · have h1 : digs b = false := by
        obtain ⟨j, hj, e⟩ := List.mem_iff_getElem.1 hb
        unfold digs
        rw [all_not isD b j hj (by rw [e]; exact isD46)]; rfl
      have h2 : 0 < b.count 46 := List.count_pos_iff.2 hb
      rw [h1, decide_eq_false (show ¬ 1 + b.count 46 ≤ 1 by omega)]
      simp
    · have h1 : digs b = true := by
        unfold digs
        have : b.all isD = true := all_of _ b (fun j hj => by
          have hj' : a.length + 1 + j < (a ++ 46 :: b).length := by omega
          have e : (a ++ 46 :: b)[a.length + 1 + j] = b[j] := by
            rw [List.getElem_append_right (by omega)]
            simp only [show a.length + 1 + j - a.length = j + 1 from by omega, List.getElem_cons_succ]
          rcases h _ hj' with h' | h'
          · rw [e] at h'; exact h'
          · rw [e] at h'; exact absurd (h'.1 ▸ List.getElem_mem hj) hb)
        rw [this]
        cases b with
        | nil => simp at hm
        | cons c b => rfl
      rw [h1, List.count_eq_zero.2 hb, decide_eq_true (show 0 < (a ++ 46 :: b).length by omega)]
      simp
theorem numB_not (l : List UInt8) (j : Nat) (hj : j < l.length) (h : ¬ okN l j hj) : numB l = false := by
  have h1 : isD l[j] = false := by cases hd : isD l[j] with
    | false => rfl
    | true => exact absurd (.inl hd) h
  unfold numB
  rcases split46 l with hn | ⟨a, b, rfl, hn⟩
  · rw [cut_no l hn]
    unfold digs
    rw [all_not isD l j hj h1]; simp
  · rw [cut_yes a b hn]
    have hlen : (a ++ 46 :: b).length = a.length + 1 + b.length := by simp; omega
    unfold digs
    rcases Nat.lt_trichotomy j a.length with hl | hl | hl
    · have e : (a ++ 46 :: b)[j] = a[j] := List.getElem_append_left hl
      rw [e] at h1
      rw [all_not isD a j hl h1]; simp
    · have e : (a ++ 46 :: b)[j] = 46 := by subst hl; simp
      have hab : a = [] ∨ b = [] := by
        cases a with
        | nil => exact .inl rfl
        | cons c a => cases b with
          | nil => exact .inr rfl
          | cons d b => exact absurd (.inr ⟨e, by rw [hl]; simp, by rw [hl, hlen]; simp⟩) h
      rcases hab with rfl | rfl <;> simp
    · obtain ⟨i, rfl⟩ : ∃ i, j = a.length + 1 + i := ⟨j - a.length - 1, by omega⟩
      have hjb : i < b.length := by omega
      have e : (a ++ 46 :: b)[a.length + 1 + i] = b[i] := by
        rw [List.getElem_append_right (by omega)]
        simp only [show a.length + 1 + i - a.length = i + 1 from by omega, List.getElem_cons_succ]
      rw [e] at h1
      rw [all_not isD b _ hjb h1]; simp
theorem dots_snoc (s : ByteArray) (k : Nat) (hk : k < s.size) : dots (s.data.toList.take (k + 1)) = dots (s.data.toList.take k) + if s[k] = 46 then 1 else 0 := by
  unfold dots
  rw [List.take_succ_eq_append_getElem (by simpa using hk), List.count_append]
  congr 1
  show List.count 46 [s[k]] = _
  rw [List.count_cons]
  simp
set_option maxHeartbeats 2000000 in
theorem number79_any (s : ByteArray) (w : World) (hs : s.size ≤ 1000) :
    Calls Tryz.prog 42 #[.string s] w fun r w' => r = .returned (.bool (numB s.data.toList)) ∧ w = w' := by
  go_enter Tryz.func42, Tryz.ntmps42
  go_wp2_with fail
  go_loop [3, 4] (fun s3 s4 => ∃ kk pp : Nat, kk ≤ s.size ∧ pp ≤ kk ∧ s4 = .int .i64 kk ∧ s3 = .int .i64 pp ∧ Aside (pp = dots (s.data.toList.take kk)) ∧ Aside (∀ (j : Nat) (hj : j < s.data.toList.length), j < kk → okN s.data.toList j hj)) (fun _ s4 => s.size - (intOf s4).toNat)
  case atStart => exact ⟨0, 0, Nat.zero_le _, Nat.le_refl _, rfl, rfl, rfl, fun j _ hj => absurd hj (Nat.not_lt_zero _)⟩
  case round =>
    obtain ⟨kk, pp, hkk, hpk, rfl, rfl, HP, HA⟩ := hrel
    by_cases hlt : kk < s.size
    · have hltz : (kk : Int) < (s.size : Int) := by omega
      have hll : kk < s.data.toList.length := by rw [len_list]; exact hlt
      have HS := Lib.hid (dots_snoc s kk hlt)
      have HG : Hid (s.data.toList[kk] = s[kk]) := rfl
      have HLL := Lib.hid (len_list s)
      by_cases hin : s[kk].toNat = 46 ∧ 0 < kk ∧ kk + 1 < s.size
      · obtain ⟨h1, h2, h3⟩ := hin
        have hc46 : s[kk] = 46 := UInt8.toNat_inj.1 h1
        have h1z : ((s[kk].toNat : Int) == 46) = true := by simp [h1]
        have h2z : (0 : Int) < (kk : Int) := by omega
        have h3z : (kk : Int) < (s.size : Int) - 1 := by omega
        have HO : Hid (okN s.data.toList kk hll) := .inr ⟨HG.out.trans hc46, h2, by rw [HLL.out]; exact h3⟩
        have HPP : Hid (pp + 1 = dots (s.data.toList.take (kk + 1))) := by show _ = _; rw [HS.out, if_pos hc46, ← HP.out]
        clear h1 hc46 HS
        go_wp2_with fail
        go_round
        case rel =>
          refine ⟨kk + 1, pp + 1, by omega, by omega, by go_num, by go_num, HPP.out, (show Aside _ from fun j hj hjk => ?_)⟩
          by_cases ee : j = kk
          · subst ee; exact HO.out
          · exact HA.out j hj (by omega)
        case measure => simp [intOf]; omega
      · have HPS : Hid (isD s[kk] = true → pp = dots (s.data.toList.take (kk + 1))) := fun hd => by
          rw [HS.out, if_neg (fun e => by rw [e, isD46] at hd; cases hd), Nat.add_zero]; exact HP.out
        have HO : Hid (isD s[kk] = true → okN s.data.toList kk hll) := fun hd => .inl (by rw [HG.out]; exact hd)
        have HN : Hid (isD s[kk] = false → numB s.data.toList = false) := fun hd => numB_not _ kk hll (fun h' => by
          rcases h' with h' | h'
          · rw [HG.out, hd] at h'; cases h'
          · exact hin ⟨by have := h'.1; rw [HG.out] at this; rw [this]; rfl, h'.2.1, by have := h'.2.2; rw [HLL.out] at this; exact this⟩)
        have HI := Lib.hid hin
        have HDG : Hid (isD s[kk] = (decide (48 ≤ s[kk].toNat) && decide (s[kk].toNat ≤ 57))) := rfl
        have HC := Lib.hid (digit95_nat s[kk].toNat)
        clear hin HS
        go_upto_region 5 with (fail)
        go_cut [25, 4, 3] (fun s25 s4 s3 wx => s25 = .bool false ∧ s4 = .int .i64 kk ∧ s3 = .int .i64 pp ∧ w = wx)
        case first =>
          by_cases h1 : s[kk].toNat = 46
          · have h1z : ((s[kk].toNat : Int) == 46) = true := by simp [h1]
            by_cases h2 : 0 < kk
            · have h2z : (0 : Int) < (kk : Int) := by omega
              have h3z : ¬ (kk : Int) < (s.size : Int) - 1 := by have := HI.out; omega
              clear h1
              go_wp2_with fail
              go_meet
              case rel => exact ⟨rfl, rfl, rfl, rfl⟩
            · obtain rfl : kk = 0 := by omega
              clear h1
              go_wp2_with fail
              go_meet
              case rel => exact ⟨rfl, rfl, rfl, rfl⟩
          · have h1z : ((s[kk].toNat : Int) == 46) = false := by simp; omega
            go_wp2_with fail
            go_meet
            case rel => exact ⟨rfl, rfl, rfl, rfl⟩
        case rest =>
          obtain ⟨rfl, rfl, rfl, rfl⟩ := hcut
          cases hd : isD s[kk] with
          | false =>
            have HNN := Lib.hid (HN.out hd)
            have HD := Lib.hid (HDG.out.symm.trans hd)
            clear hd
            go_wp2_with fail
            refine (HC.out _ s[kk].toNat_lt).mono ?_
            rw [HD.out]
            rintro e w' ⟨rfl, rfl⟩
            go_wp2_with fail
            go_ret
            rw [HNN.out]
            exact ⟨rfl, rfl⟩
          | true =>
            have HPN := Lib.hid (HPS.out hd)
            have HON := Lib.hid (HO.out hd)
            have HD := Lib.hid (HDG.out.symm.trans hd)
            clear hd
            go_wp2_with fail
            refine (HC.out _ s[kk].toNat_lt).mono ?_
            rw [HD.out]
            rintro e w' ⟨rfl, rfl⟩
            go_wp2_with fail
            go_round
            case rel =>
              refine ⟨kk + 1, pp, by omega, by omega, by go_num, rfl, HPN.out, (show Aside _ from fun j hj hjk => ?_)⟩
              by_cases ee : j = kk
              · subst ee; exact HON.out
              · exact HA.out j hj (by omega)
            case measure => simp [intOf]; omega
    · have hltz : ¬ (kk : Int) < (s.size : Int) := by omega
      obtain rfl : kk = s.size := by omega
      have HX : Hid (numB s.data.toList = (decide (0 < s.size) && decide (s.size ≤ 20) && decide (pp ≤ 1))) := by
        show numB s.data.toList = _
        rw [numB_all _ (fun j hj => HA.out j hj (by rw [len_list] at hj; exact hj)), len_list, HP.out, List.take_of_length_le (by rw [len_list]; omega)]
      clear hlt HA HP
      by_cases h1 : 0 < s.size
      · have h1z : (0 : Int) < (s.size : Int) := by omega
        by_cases h2 : s.size ≤ 20
        · have h2z : (s.size : Int) ≤ 20 := by omega
          by_cases h3 : pp ≤ 1
          · have h3z : (pp : Int) ≤ 1 := by omega
            have HY : Hid (numB s.data.toList = true) := by show numB s.data.toList = true; rw [HX.out, decide_eq_true h1, decide_eq_true h2, decide_eq_true h3]; rfl
            clear HX
            go_wp2_with fail
            go_ret
            rw [HY.out]
            exact ⟨rfl, rfl⟩
          · have h3z : ¬ (pp : Int) ≤ 1 := by omega
            have HY : Hid (numB s.data.toList = false) := by show numB s.data.toList = false; rw [HX.out, decide_eq_false h3, Bool.and_false]
            clear HX
            go_wp2_with fail
            go_ret
            rw [HY.out]
            exact ⟨rfl, rfl⟩
        · have h2z : ¬ (s.size : Int) ≤ 20 := by omega
          have HY : Hid (numB s.data.toList = false) := by show numB s.data.toList = false; rw [HX.out, decide_eq_false h2, Bool.and_false]; rfl
          clear HX
          go_wp2_with fail
          go_ret
          rw [HY.out]
          exact ⟨rfl, rfl⟩
      · have h1z : ¬ (0 : Int) < (s.size : Int) := by omega
        have HY : Hid (numB s.data.toList = false) := by show numB s.data.toList = false; rw [HX.out, decide_eq_false h1]; rfl
        clear HX
        go_wp2_with fail
        go_ret
        rw [HY.out]
        exact ⟨rfl, rfl⟩
end Go.Proofs.YtkjhfbgdmmnadaaGreat
