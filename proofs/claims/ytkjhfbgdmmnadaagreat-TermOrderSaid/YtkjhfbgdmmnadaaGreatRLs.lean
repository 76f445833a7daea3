/- Contracts of the reference's Has, less, with, union, without. -/
import Derived.Test.YtkjhfbgdmmnadaaGreatRLf2
import Derived.Test.YtkjhfbgdmmnadaaGreatFr2
import Derived.Deep.AppendLies
import Derived.BigQuiet
namespace Go.Proofs.YtkjhfbgdmmnadaaGreat
open Go.RowKit

set_option maxHeartbeats 1000000 in
theorem has35_any (B : Nat) (v : Value) (l : List W8) (s : W8) (w : World) (hv : SL w B v l) :
    Calls Tryz.prog 12 #[v, .string ⟨s.toArray⟩] w fun r w' => r = .returned (.bool (hasB l s)) ∧ w = w' := by
  obtain ⟨A, c, rfl, ⟨hc1, hc2⟩, hcell⟩ := hv
  have HCELL := Lib.hid hcell
  clear hcell
  have hyl : l.length ≤ 9223372036854775807 := by omega
  go_enter Tryz.func12, Tryz.ntmps12
  go_wp2_with fail
  go_loop [5] (fun s3 => ∃ kk : Nat, kk ≤ l.length ∧ s3 = .int .i64 kk ∧ Aside (∀ (j : Nat) (hj : j < l.length), j < kk → l[j] ≠ s)) (fun s3 => l.length - (intOf s3).toNat)
  case atStart => exact ⟨0, Nat.zero_le _, rfl, fun j _ hj => absurd hj (Nat.not_lt_zero _)⟩
  case round =>
    obtain ⟨kk, hkk, rfl, HA⟩ := hrel
    by_cases hlt : kk < l.length
    · have hltz : (kk : Int) < (l.length : Int) := by omega
      obtain ⟨b, o, rfl, hb, hx⟩ := HCELL.out (by intro e; rw [e] at hlt; simp at hlt)
      have hck := hx kk hlt
      clear hx
      by_cases he : l[kk] = s
      · have HP : Hid (hasB l s = true) := contains_yes l s kk hlt he
        rw [he] at hck
        clear he
        go_wp2_with fail
        go_ret
        rw [HP.out]
        exact ⟨rfl, rfl⟩
      · have hb1 : (l[kk] == s) = false := by simpa using he
        have HE := Lib.hid he
        clear he
        go_wp2_with fail
        go_round
        case rel =>
          refine ⟨kk + 1, by omega, by go_num, (show Aside _ from fun j hj hjk => ?_)⟩
          by_cases ee : j = kk
          · subst ee; exact HE.out
          · exact HA.out j hj (by omega)
        case measure => simp [intOf]; omega
    · have hltz : ¬ (kk : Int) < (l.length : Int) := by omega
      have HP : Hid (hasB l s = false) := contains_no l s (fun j hj => HA.out j hj (by omega))
      go_wp2_with fail
      go_ret
      rw [HP.out]
      exact ⟨rfl, rfl⟩

theorem ltrN_rk (c : UInt8) (h : isL c = true) : ltrN c.toNat = rk c := by
  unfold isL at h
  simp at h
  unfold ltrN rk rkN
  split
  · rw [if_pos (by omega)]; omega
  · rw [if_pos (by omega), if_neg (by omega)]; omega
theorem word_L (s : ByteArray) (h : wordB s.data.toList = true) (k : Nat) (hk : k < s.size) : isL s[k] = true := by
  unfold wordB at h
  simp only [Bool.and_eq_true] at h
  exact List.all_eq_true.1 h.1.1 s[k] (by
    have e : s[k] = s.data.toList[k]'(by simpa using hk) := rfl
    rw [e]; exact List.getElem_mem _)
theorem letterR_any (c : UInt8) (h : isL c = true) (w : World) : Calls Tryz.prog 45 #[.int .u8 (c.toNat : Int)] w fun e w' => e = .returned (.int .i64 (rk c : Nat)) ∧ w' = w := by
  have := letter70_nat c.toNat w c.toNat_lt
  rw [ltrN_rk c h] at this
  exact this.mono fun _ _ ⟨a, b⟩ => ⟨a, b.symm⟩
theorem ltL_eq (s u : ByteArray) : ltL s.data.toList u.data.toList = if s.size = u.size then decide (cmpR s.data.toList u.data.toList < 0) else decide (s.size < u.size) := by
  unfold ltL
  rw [Bool.eq_iff_iff, decide_eq_true_eq, cmpL_lt, len_list, len_list]
  split
  · rw [decide_eq_true_eq]; omega
  · rw [decide_eq_true_eq]; omega

set_option maxRecDepth 100000 in
set_option maxHeartbeats 2000000 in
theorem less65_any (s u : ByteArray) (w : World) (hs : wordB s.data.toList = true) (hu : wordB u.data.toList = true) :
    Calls Tryz.prog 30 #[.string s, .string u] w fun e w' => e = .returned (.bool (ltL s.data.toList u.data.toList)) ∧ ∃ n, w' = w.drewN n := by
  have HL1 := Lib.hid (word_L s hs)
  have HL2 := Lib.hid (word_L u hu)
  have hsz : s.size ≤ 16 := by
    unfold wordB at hs
    rw [len_list] at hs
    simp only [Bool.and_eq_true, decide_eq_true_eq] at hs
    omega
  have hsz2 : u.size ≤ 16 := by
    unfold wordB at hu
    rw [len_list] at hu
    simp only [Bool.and_eq_true, decide_eq_true_eq] at hu
    omega
  have HC := Lib.hid (ltL_eq s u)
  clear hs hu
  by_cases hlen : s.size = u.size
  · have HX := Lib.hid (HC.out.trans (if_pos hlen))
    have HLE := Lib.hid hlen
    have hb1 : ((s.size : Int) != (u.size : Int)) = false := by rw [hlen]; simp
    clear hlen HC
    go_enter Tryz.func30, Tryz.ntmps30
    go_wp2_with fail
    go_loopg [5] s.size (fun gg s5 wr => ∃ k : Nat, k ≤ s.size ∧ s.size - k ≤ gg ∧ s5 = .int .i64 k ∧ Aside (cmpR s.data.toList u.data.toList = cmpR (s.data.toList.drop k) (u.data.toList.drop k)) ∧ ∃ n, wr = w.drewN n)
    case atStart => exact ⟨0, Nat.zero_le _, by omega, rfl, rfl, 0, rfl⟩
    case round =>
      obtain ⟨k, hk, hgg, rfl, HQ, n, rfl⟩ := hrel
      have HW0 : Hid (∃ m, w.drewN n = w.drewN m) := ⟨n, rfl⟩
      generalize w.drewN n = wr at HW0 ⊢
      by_cases hlt : k < s.size
      · have hltz : (k : Int) < (s.size : Int) := by omega
        have hlu : k < u.size := by have := HLE.out; omega
        have hluz : (k : Int) < (u.size : Int) := by omega
        have HD := Lib.hid (cmpR_at s u k hlt hlu)
        have HR1 := Lib.hid (HL1.out k hlt)
        have HR2 := Lib.hid (HL2.out k hlu)
        have HI := Lib.hid (fun h => rk_inj _ _ (HL1.out k hlt) (HL2.out k hlu) h)
        by_cases he : s[k] = u[k]
        · have HQ2 : Hid (cmpR s.data.toList u.data.toList = cmpR (s.data.toList.drop (k + 1)) (u.data.toList.drop (k + 1))) := HQ.out.trans (HD.out.trans (if_pos (by rw [he])))
          have hb2 : ((s[k].toNat : Int) != (u[k].toNat : Int)) = false := by rw [he]; simp
          have hb3 : ((s[k].toNat : Int) == (u[k].toNat : Int)) = true := by rw [he]; simp
          clear HD he
          go_wp2_with fail
          go_big_quiet (fail)
          have HW : Hid (∃ m, wr.drewN nq = w.drewN m) := by
            obtain ⟨m, hm⟩ := HW0.out
            exact ⟨m + nq, by rw [hm, World.drewN_drewN]⟩
          generalize wr.drewN nq = wn at HW ⊢
          clear HW0
          go_wp2_with fail
          go_roundg (s.size - (k + 1))
          case measure => omega
          exact ⟨k + 1, by omega, Nat.le_refl _, by go_num, HQ2.out, HW.out⟩
        · have hne : rk s[k] ≠ rk u[k] := fun h => he (HI.out h)
          have hnn : s[k].toNat ≠ u[k].toNat := fun h => he (UInt8.toNat_inj.1 h)
          have hb2 : ((s[k].toNat : Int) != (u[k].toNat : Int)) = true := by rw [bne_iff_ne]; omega
          have hb3 : ((s[k].toNat : Int) == (u[k].toNat : Int)) = false := by rw [beq_eq_false_iff_ne]; omega
          have HQ2 : Hid (ltL s.data.toList u.data.toList = decide ((rk s[k] : Int) < (rk u[k] : Int))) := by
            show ltL s.data.toList u.data.toList = _
            rw [HX.out, HQ.out, HD.out, if_neg hne, decide_eq_decide, cmpInt_lt]
          clear hne hnn he HD HI
          go_wp2_with fail
          go_big_quiet (fail)
          have HW : Hid (∃ m, wr.drewN nq = w.drewN m) := by
            obtain ⟨m, hm⟩ := HW0.out
            exact ⟨m + nq, by rw [hm, World.drewN_drewN]⟩
          generalize wr.drewN nq = wn at HW ⊢
          clear HW0
          go_wp2_with fail
          go_big_quiet ((go_at_call 45; exact Calls.quiet_of_same (letterR_any _ (by first | exact HR1.out | exact HR2.out) _)))
          have HW1 : Hid (∃ m, wn.drewN nq = w.drewN m) := by
            obtain ⟨m, hm⟩ := HW.out
            exact ⟨m + nq, by rw [hm, World.drewN_drewN]⟩
          generalize wn.drewN nq = wz at HW1 ⊢
          go_wp2_with fail
          go_ret
          rw [HQ2.out]
          refine ⟨ret_bool ?_, HW1.out⟩
          first | rfl | simp
      · have hltz : ¬ (k : Int) < (s.size : Int) := by omega
        have HY : Hid (ltL s.data.toList u.data.toList = false) := by
          show ltL s.data.toList u.data.toList = false
          rw [HX.out, HQ.out, List.drop_eq_nil_of_le (by rw [len_list]; omega)]
          unfold cmpR; rfl
        go_wp2_with fail
        go_ret
        rw [HY.out]
        exact ⟨rfl, HW0.out⟩
  · have HX : Hid (ltL s.data.toList u.data.toList = decide ((s.size : Int) < (u.size : Int))) := by
      show ltL s.data.toList u.data.toList = _
      rw [HC.out, if_neg hlen, decide_eq_decide]; omega
    have hb1 : ((s.size : Int) != (u.size : Int)) = true := by rw [bne_iff_ne]; omega
    have hb2 : ((s.size : Int) == (u.size : Int)) = false := by rw [beq_eq_false_iff_ne]; omega
    clear hlen HC
    go_enter Tryz.func30, Tryz.ntmps30
    go_wp2_with fail
    go_ret
    rw [HX.out]
    refine ⟨ret_bool ?_, 0, rfl⟩
    first | rfl | simp
end Go.Proofs.YtkjhfbgdmmnadaaGreat
