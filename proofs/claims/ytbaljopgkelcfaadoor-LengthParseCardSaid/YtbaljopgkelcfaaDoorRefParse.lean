/- Contract of the reference's Parse. -/
import Derived.Test.YtbaljopgkelcfaaDoorParse
import Derived.Deep.QuietTactic
import Derived.BigQuiet
import Derived.IntWalk
namespace Go.Proofs.YtbaljopgkelcfaaDoor
open Go.RowKit

theorem ext_list (s : ByteArray) (a b : Nat) : (s.extract a b).data.toList = (s.data.toList.take b).drop a := by
  rw [ByteArray.data_extract]; simp [List.drop_take]
theorem ext_take (s : ByteArray) (k : Nat) : (s.extract 0 k).data.toList = s.data.toList.take k := by rw [ext_list]; rfl
theorem ext_drop (s : ByteArray) (k : Nat) : (s.extract k s.size).data.toList = s.data.toList.drop k := by
  rw [ext_list, List.take_of_length_le (by rw [len_list]; exact Nat.le_refl _)]
theorem tk (l : List UInt8) : l.take (runD l) = l.takeWhile isD := by
  have h := tw_dw l
  unfold runD
  conv => lhs; rw [h]
  rw [List.take_left' (by rw [← h])]
theorem dk (l : List UInt8) : l.drop (runD l) = l.dropWhile isD := by
  have h := tw_dw l
  unfold runD
  conv => lhs; rw [h]
  rw [List.drop_left' (by rw [← h])]
theorem runD_le (s : ByteArray) : runD s.data.toList ≤ s.size := by
  rw [← len_list]; unfold runD
  have h := congrArg List.length (tw_dw s.data.toList)
  rw [List.length_append] at h; omega
theorem toNatC (c d : UInt8) : (some c == some d) = ((c.toNat : Int) == (d.toNat : Int)) := by
  rw [Bool.eq_iff_iff]
  simp
  constructor
  · intro h; rw [h]
  · intro h; apply UInt8.toNat_inj.1; omega
theorem eq_list (s : ByteArray) (l : List UInt8) : (s.toList = l) ↔ s.data.toList = l := by rw [ByteArray.toList_eq]
theorem badK_eq (s : ByteArray) : badK s.data.toList = (decide (s.size < 1) || (decide (3 < s.size) || (s.data.toList.getLast? == some 48))) := by
  unfold badK; rw [len_list, Bool.or_assoc]
theorem all_tw (l : List UInt8) (s : ByteArray) (h : s.data.toList = l.takeWhile isD) : ∀ c ∈ s.data.toList, isD c = true := by rw [h]; exact tw_all l
theorem u8_sub (d : Nat) (h : d ≤ 9) : IntKind.u8.wrap (48 + (d : Int) - 48) = (d : Int) := by
  simp [IntKind.wrap, IntKind.signed, IntKind.bits]; omega


set_option maxRecDepth 100000 in
set_option maxHeartbeats 16000000 in
theorem rparse_false (l : List UInt8) (B : ByteArray) (w1 : World) (hl : B.data.toList = l) (hsb : B.size ≤ 60) (h0 : 0 < B.size) (hh : ((B[0].toNat : Int) == 45) = false) :
    Calls Tryd.prog 26 #[.string B] w1 fun e w' => e = .returned (.tuple #[.int .i64 (parseR l).1, .int .i64 (parseR l).2]) ∧ Below w1.heap.size w1 w' := by
  have HL : Hid (parseR l = restR false B.data.toList) := by
    show parseR l = _
    unfold parseR
    rw [← hl, head_eq B h0, toNatC, show (((45 : UInt8).toNat : Nat) : Int) = 45 from rfl, hh]; rfl
  have h0z : (0 : Int) < (B.size : Int) := by omega
  clear hl
  go_enter Tryd.func26, Tryd.ntmps26
  go_wp2_with fail
  refine (run_any B _ (by unfold maxLen; omega)).mono ?_
  rintro e w' ⟨rfl, rfl⟩
  have hkl := runD_le B
  have hPl := ext_take B (runD B.data.toList)
  have hQl := ext_drop B (runD B.data.toList)
  rw [tk] at hPl
  rw [dk] at hQl
  have hHL := HL.out
  unfold restR at hHL
  rw [← hPl, ← hQl] at hHL
  have HPA := Lib.hid (all_tw _ _ hPl)
  clear hPl hQl HL
  have hps : (B.extract 0 (runD B.data.toList)).size = runD B.data.toList := by simp [ByteArray.size_extract]; omega
  have hqs : (B.extract (runD B.data.toList) B.size).size = B.size - runD B.data.toList := by simp [ByteArray.size_extract]
  generalize hk : runD B.data.toList = k at *
  have Hk := Lib.hid hk
  clear hk
  by_cases hk0 : k = 0
  · subst hk0
    have HR : Hid (parseR l = (0, 3)) := by show parseR l = _; rw [hHL]; rfl
    have HB : Hid (Below w1.heap.size w1 w1) := Lib.hid (Below.refl _ _)
    clear hHL HPA hps hqs
    go_wp2
    go_ret2
    rw [HR.out]
    exact ⟨rfl, HB.out⟩
  have hb0 : 0 < B.size := by omega
  have ek0 : ((k : Int) == 0) = false := by simp; omega
  rw [head_eq B hb0, toNat48, show (k == 0) = false from by simpa using hk0, Bool.false_or] at hHL
  by_cases hz : 1 < k ∧ ((B[0].toNat : Int) == 48) = true
  · obtain ⟨hz1, hz2⟩ := hz
    have hz1' : (1 : Int) < (k : Int) := by omega
    have HR : Hid (parseR l = (0, 3)) := by show parseR l = _; rw [hHL, hz2, decide_eq_true hz1]; rfl
    have HB : Hid (Below w1.heap.size w1 w1) := Lib.hid (Below.refl _ _)
    clear hHL HPA hps hqs
    go_wp2
    go_ret2
    rw [HR.out]
    exact ⟨rfl, HB.out⟩
  have hzz : (k : Int) ≤ 1 ∨ ((1 : Int) < (k : Int) ∧ ((B[0].toNat : Int) == 48) = false) := by
    by_cases h1 : 1 < k
    · right
      refine ⟨by omega, ?_⟩
      cases hh : ((B[0].toNat : Int) == 48) with
      | false => rfl
      | true => exact absurd ⟨h1, hh⟩ hz
    · left; omega
  have hbad : (decide (1 < k) && ((B[0].toNat : Int) == 48)) = false := by
    rcases hzz with h | ⟨_, h⟩
    · rw [decide_eq_false (by omega)]; rfl
    · rw [h, Bool.and_false]
  rw [hbad] at hHL
  have HHL : Hid (parseR l = afterR false (B.extract 0 k).data.toList (B.extract k B.size).data.toList) := hHL
  have hkz : (k : Int) ≤ (B.size : Int) := by omega
  have hkz0 : (0 : Int) ≤ (k : Int) := by omega
  have HPS := Lib.hid hps
  have HQS := Lib.hid hqs
  clear hHL hbad hz hps hqs
  rcases hzz with hz1 | ⟨hz1, hz2⟩
  all_goals
    go_wp2_with fail
    go_quiet (fail)
    have HB : Hid (Below w1.heap.size w1 (w1.drewN nq)) := Lib.hid (below_drewN w1 nq)
    generalize w1.drewN nq = w2 at *
    generalize B.extract 0 k = P at *
    generalize B.extract k B.size = Q at *
    have sP : P.size ≤ 60 := by have := HPS.out; omega
    have sQ : Q.size ≤ 60 := by have := HQS.out; omega
    clear HPS HQS
    by_cases hq : ∃ _h : 0 < Q.size, ((Q[0].toNat : Int) == 46) = true
    · obtain ⟨hq1, hq2⟩ := hq
      have hq1z : (1 : Int) ≤ (Q.size : Int) := by omega
      have hA : parseR l = if badK ((Q.extract 1 Q.size).data.toList.takeWhile isD) then (0, 3) else endR false P.data.toList ((Q.extract 1 Q.size).data.toList.takeWhile isD) ((Q.extract 1 Q.size).data.toList.dropWhile isD) := by
        rw [HHL.out]; unfold afterR
        rw [head_eq Q hq1, toNatC, show (((46 : UInt8).toNat : Nat) : Int) = 46 from rfl, hq2, ext_drop]
        simp
      have hes : (Q.extract 1 Q.size).size = Q.size - 1 := by simp [ByteArray.size_extract]
      have hT : runD (Q.extract 1 Q.size).data.toList ≤ Q.size - 1 := by have := runD_le (Q.extract 1 Q.size); omega
      have hFl : (Q.extract 1 (1 + runD (Q.extract 1 Q.size).data.toList)).data.toList = (Q.extract 1 Q.size).data.toList.takeWhile isD := by
        rw [← tk, ext_list, ext_drop, List.drop_take]; congr 1; omega
      have hRl : (Q.extract (1 + runD (Q.extract 1 Q.size).data.toList) Q.size).data.toList = (Q.extract 1 Q.size).data.toList.dropWhile isD := by
        rw [← dk, ext_drop, ext_drop, List.drop_drop]
      rw [← hFl, ← hRl] at hA
      have HFA := Lib.hid (all_tw _ _ hFl)
      have hfs : (Q.extract 1 (1 + runD (Q.extract 1 Q.size).data.toList)).size = runD (Q.extract 1 Q.size).data.toList := by rw [ByteArray.size_extract]; omega
      have HA := Lib.hid hA
      have HFS := Lib.hid hfs
      clear hA hFl hRl hfs HHL
      go_wp2_with fail
      refine (run_any (Q.extract 1 Q.size) _ (by unfold maxLen; omega)).mono ?_
      clear hes
      generalize runD (Q.extract 1 Q.size).data.toList = k2 at *
      rintro e w' ⟨rfl, rfl⟩
      have e1 : IntKind.i64.wrap (1 + (k2 : Int)) = 1 + (k2 : Int) := IntWalk.i64_in _ (by omega)
      have e2 : (0 : Int) ≤ 1 + (k2 : Int) := by omega
      have e3 : (1 + (k2 : Int)).toNat = 1 + k2 := by omega
      have e4 : 1 + (k2 : Int) ≤ (Q.size : Int) := by omega
      have e5 : (1 : Int) ≤ 1 + (k2 : Int) := by omega
      go_wp2_with fail
      go_quiet (fail)
      clear e1 e2 e3 e4 e5
      have HB2 : Hid (Below w1.heap.size w1 (w2.drewN nq)) := Lib.hid (HB.out.trans ((below_drewN w2 nq).mono HB.out.size))
      generalize w2.drewN nq = w3 at *
      clear HB
      have HB := HB2
      clear HB2
      generalize Q.extract 1 (1 + k2) = F at *
      generalize Q.extract (1 + k2) Q.size = R at *
      have sF : F.size ≤ 60 := by have := HFS.out; omega
      obtain rfl : F.size = k2 := HFS.out
      clear HFS hT
      by_cases hf1 : F.size < 1
      · have hf1z : (F.size : Int) < 1 := by omega
        have HR : Hid (parseR l = (0, 3)) := by show parseR l = _; rw [HA.out, badK_eq, decide_eq_true hf1]; rfl
        go_wp2
        go_ret2
        rw [HR.out]
        exact ⟨rfl, HB.out⟩
      have hf1z : ¬ (F.size : Int) < 1 := by omega
      by_cases hf3 : 3 < F.size
      · have hf3z : (3 : Int) < (F.size : Int) := by omega
        have HR : Hid (parseR l = (0, 3)) := by show parseR l = _; rw [HA.out, badK_eq, decide_eq_true hf3, Bool.true_or, Bool.or_true]; rfl
        go_wp2
        go_ret2
        rw [HR.out]
        exact ⟨rfl, HB.out⟩
      have hf3z : ¬ (3 : Int) < (F.size : Int) := by omega
      have hf0 : 0 < F.size := by omega
      have hf0z : (0 : Int) ≤ (F.size : Int) - 1 := by omega
      have hix : ((F.size : Int) - 1).toNat = F.size - 1 := by omega
      cases hla : ((F[F.size - 1].toNat : Int) == 48) with
      | true =>
        have HR : Hid (parseR l = (0, 3)) := by show parseR l = _; rw [HA.out, badK_eq, last_eq F hf0, toNat48, hla, Bool.or_true, Bool.or_true]; rfl
        go_wp2
        go_ret2
        rw [HR.out]
        exact ⟨rfl, HB.out⟩
      | false =>
        have HE : Hid (parseR l = endR false P.data.toList F.data.toList R.data.toList) := by
          show parseR l = _; rw [HA.out, badK_eq, last_eq F hf0, toNat48, hla, decide_eq_false hf1, decide_eq_false hf3]; rfl
        clear HA
        by_cases hpt : R.toList = [112, 116]
        · have HRP : Hid (R.data.toList = [112, 116]) := (eq_list _ _).1 hpt
          have HPP : Hid (parseR l = if 7 < P.data.toList.length then (0, 2) else fin false (P.data.toList ++ pad3 F.data.toList)) := by
            show parseR l = _; rw [HE.out]; unfold endR; rw [HRP.out]; simp
          clear HE
          by_cases h7 : 7 < P.size
          · have h7' : (7 : Int) < (P.size : Int) := by omega
            have HR : Hid (parseR l = (0, 2)) := by show parseR l = _; rw [HPP.out, if_pos (by rw [len_list]; exact h7)]
            go_wp2
            go_ret2
            rw [HR.out]
            exact ⟨rfl, HB.out⟩
          · have h7' : ¬ (7 : Int) < (P.size : Int) := by omega
            have hsz : (P ++ (F ++ (⟨#[48, 48, 48]⟩ : ByteArray)).extract 0 3).size = P.size + 3 := by
              rw [← len_list, pad_app, List.length_append, pad_len, len_list]
            have hall : ∀ (j : Nat) (hj : j < (P ++ (F ++ (⟨#[48, 48, 48]⟩ : ByteArray)).extract 0 3).size), isD (P ++ (F ++ (⟨#[48, 48, 48]⟩ : ByteArray)).extract 0 3)[j] = true := fun j hj => by
              have : (P ++ (F ++ (⟨#[48, 48, 48]⟩ : ByteArray)).extract 0 3)[j] ∈ (P ++ (F ++ (⟨#[48, 48, 48]⟩ : ByteArray)).extract 0 3).data.toList := by
                have e : (P ++ (F ++ (⟨#[48, 48, 48]⟩ : ByteArray)).extract 0 3)[j] = (P ++ (F ++ (⟨#[48, 48, 48]⟩ : ByteArray)).extract 0 3).data.toList[j]'(by rw [len_list]; exact hj) := rfl
                rw [e]; exact List.getElem_mem _
              rw [pad_app] at this
              rcases List.mem_append.1 this with h' | h'
              · exact HPA.out _ h'
              · exact pad_all _ HFA.out _ h'
            have HR : Hid (parseR l = fin false (P ++ (F ++ (⟨#[48, 48, 48]⟩ : ByteArray)).extract 0 3).data.toList) := by show parseR l = _; rw [HPP.out, if_neg (by rw [len_list]; exact h7), pad_app]
            have hp7 : P.size ≤ 7 := by omega
            clear HPP
            go_wp2_with fail
            obtain ⟨S, hS⟩ : ∃ S : ByteArray, S = (P ++ (F ++ (⟨#[48, 48, 48]⟩ : ByteArray)).extract 0 3) := ⟨_, rfl⟩
            rw [← hS] at hsz hall HR ⊢
            clear hS
            have HALL := Lib.hid hall
            have hS11 : S.size ≤ 11 := by omega
            clear hall hsz
            go_loopg [10, 12] S.size (fun gg s10 s12 wr => ∃ pos : Nat, pos ≤ S.size ∧ S.size - pos ≤ gg ∧ wr = w3 ∧ s12 = .int .i64 pos ∧ s10 = .int .i64 (valD (S.data.toList.take pos)))
            case atStart => exact ⟨0, Nat.zero_le _, by omega, rfl, rfl, rfl⟩
            case round =>
              obtain ⟨pos, hpos, hgg, rfl, rfl, rfl⟩ := hrel
              have hvl := take_lt S pos HALL.out
              have hp11 := pow_le11 (k := (S.data.toList.take pos).length) (by rw [List.length_take, len_list]; omega)
              by_cases hlt : pos < S.size
              · have hltz : (pos : Int) < (S.size : Int) := by omega
                have hd9 := HALL.out pos hlt
                unfold isD at hd9
                simp only [Bool.and_eq_true, decide_eq_true_eq] at hd9
                have HTV := Lib.hid (take_val S pos hlt)
                obtain ⟨v, hv⟩ : ∃ v, v = valD (S.data.toList.take pos) := ⟨_, rfl⟩
                rw [← hv] at hvl HTV ⊢
                have hvb : v ≤ 100000000000 := by omega
                clear hvl hp11 hv
                have hd0 : 48 ≤ (S[pos].toNat : Int) := by omega
                have hd1 : (S[pos].toNat : Int) ≤ 57 := by omega
                clear hd9
                go_wp2
                go_roundg (S.size - (pos + 1))
                case measure => omega
                case rel => exact ⟨pos + 1, by omega, by omega, rfl, by go_num, by rw [HTV.out]; congr 1; omega⟩
              · have hltz : ¬ (pos : Int) < (S.size : Int) := by omega
                obtain rfl : pos = S.size := by omega
                have HTA : Hid (S.data.toList.take S.size = S.data.toList) := by show S.data.toList.take S.size = _; rw [← len_list, List.take_length]
                rw [HTA.out] at hvl hp11 ⊢
                obtain ⟨v, hv⟩ : ∃ v, v = valD S.data.toList := ⟨_, rfl⟩
                unfold fin at HR
                rw [← hv] at hvl HR ⊢
                have hvb : v ≤ 100000000000 := by omega
                clear hvl hp11 hv HTA
                cases hval : validL (sgn false (v : Int)) with
                | true =>
                  have HVL := Lib.hid hval
                  rw [hval] at HR
                  clear hval
                  go_wp2_with fail
                  refine (refValid_any (sgn false (v : Int)) _).mono ?_
                  rw [HVL.out]
                  rintro e w' ⟨rfl, rfl⟩
                  go_wp2
                  go_ret2
                  rw [HR.out]
                  exact ⟨rfl, HB.out⟩
                | false =>
                  have HVL := Lib.hid hval
                  rw [hval] at HR
                  clear hval
                  go_wp2_with fail
                  refine (refValid_any (sgn false (v : Int)) _).mono ?_
                  rw [HVL.out]
                  rintro e w' ⟨rfl, rfl⟩
                  go_wp2
                  go_ret2
                  rw [HR.out]
                  exact ⟨rfl, HB.out⟩
        · have HR : Hid (parseR l = (0, 3)) := by
            show parseR l = _; rw [HE.out]
            exact (endR_or _ _ _ _).resolve_right fun e => hpt ((eq_list _ _).2 e)
          go_wp2
          go_ret2
          rw [HR.out]
          exact ⟨rfl, HB.out⟩
    · have hq' : ¬ 0 < Q.size ∨ (∃ _h : 0 < Q.size, ((Q[0].toNat : Int) == 46) = false) := by
        by_cases h : 0 < Q.size
        · right
          refine ⟨h, ?_⟩
          cases hh : ((Q[0].toNat : Int) == 46) with
          | false => rfl
          | true => exact absurd ⟨h, hh⟩ hq
        · exact .inl h
      have HE : Hid (parseR l = endR false P.data.toList (⟨#[]⟩ : ByteArray).data.toList Q.data.toList) := by
        show parseR l = _
        rw [HHL.out]; unfold afterR
        rw [if_neg]
        rcases hq' with h | ⟨h, h'⟩
        · have : Q.data.toList = [] := List.eq_nil_of_length_eq_zero (by rw [len_list]; omega)
          rw [this]; simp
        · rw [head_eq Q h, toNatC, show (((46 : UInt8).toNat : Nat) : Int) = 46 from rfl, h']; simp
      clear hq HHL
      rcases hq' with hq1 | ⟨hq1, hq2⟩
      all_goals
        by_cases hpt : Q.toList = [112, 116]
        · have HRP : Hid (Q.data.toList = [112, 116]) := (eq_list _ _).1 hpt
          have HPP : Hid (parseR l = if 7 < P.data.toList.length then (0, 2) else fin false (P.data.toList ++ pad3 (⟨#[]⟩ : ByteArray).data.toList)) := by
            show parseR l = _; rw [HE.out]; unfold endR; rw [HRP.out]; simp
          clear HE
          by_cases h7 : 7 < P.size
          · have h7' : (7 : Int) < (P.size : Int) := by omega
            have HR : Hid (parseR l = (0, 2)) := by show parseR l = _; rw [HPP.out, if_pos (by rw [len_list]; exact h7)]
            go_wp2
            go_ret2
            rw [HR.out]
            exact ⟨rfl, HB.out⟩
          · have h7' : ¬ (7 : Int) < (P.size : Int) := by omega
            have hsz : (P ++ ((⟨#[]⟩ : ByteArray) ++ (⟨#[48, 48, 48]⟩ : ByteArray)).extract 0 3).size = P.size + 3 := by
              rw [← len_list, pad_app, List.length_append, pad_len, len_list]
            have hall : ∀ (j : Nat) (hj : j < (P ++ ((⟨#[]⟩ : ByteArray) ++ (⟨#[48, 48, 48]⟩ : ByteArray)).extract 0 3).size), isD (P ++ ((⟨#[]⟩ : ByteArray) ++ (⟨#[48, 48, 48]⟩ : ByteArray)).extract 0 3)[j] = true := fun j hj => by
              have : (P ++ ((⟨#[]⟩ : ByteArray) ++ (⟨#[48, 48, 48]⟩ : ByteArray)).extract 0 3)[j] ∈ (P ++ ((⟨#[]⟩ : ByteArray) ++ (⟨#[48, 48, 48]⟩ : ByteArray)).extract 0 3).data.toList := by
                have e : (P ++ ((⟨#[]⟩ : ByteArray) ++ (⟨#[48, 48, 48]⟩ : ByteArray)).extract 0 3)[j] = (P ++ ((⟨#[]⟩ : ByteArray) ++ (⟨#[48, 48, 48]⟩ : ByteArray)).extract 0 3).data.toList[j]'(by rw [len_list]; exact hj) := rfl
                rw [e]; exact List.getElem_mem _
              rw [pad_app] at this
              rcases List.mem_append.1 this with h' | h'
              · exact HPA.out _ h'
              · exact pad_all _ (by simp) _ h'
            have HR : Hid (parseR l = fin false (P ++ ((⟨#[]⟩ : ByteArray) ++ (⟨#[48, 48, 48]⟩ : ByteArray)).extract 0 3).data.toList) := by show parseR l = _; rw [HPP.out, if_neg (by rw [len_list]; exact h7), pad_app]
            have hp7 : P.size ≤ 7 := by omega
            clear HPP
            go_wp2_with fail
            obtain ⟨S, hS⟩ : ∃ S : ByteArray, S = (P ++ ((⟨#[]⟩ : ByteArray) ++ (⟨#[48, 48, 48]⟩ : ByteArray)).extract 0 3) := ⟨_, rfl⟩
            rw [← hS] at hsz hall HR ⊢
            clear hS
            have HALL := Lib.hid hall
            have hS11 : S.size ≤ 11 := by omega
            clear hall hsz
            go_loopg [10, 12] S.size (fun gg s10 s12 wr => ∃ pos : Nat, pos ≤ S.size ∧ S.size - pos ≤ gg ∧ wr = w2 ∧ s12 = .int .i64 pos ∧ s10 = .int .i64 (valD (S.data.toList.take pos)))
            case atStart => exact ⟨0, Nat.zero_le _, by omega, rfl, rfl, rfl⟩
            case round =>
              obtain ⟨pos, hpos, hgg, rfl, rfl, rfl⟩ := hrel
              have hvl := take_lt S pos HALL.out
              have hp11 := pow_le11 (k := (S.data.toList.take pos).length) (by rw [List.length_take, len_list]; omega)
              by_cases hlt : pos < S.size
              · have hltz : (pos : Int) < (S.size : Int) := by omega
                have hd9 := HALL.out pos hlt
                unfold isD at hd9
                simp only [Bool.and_eq_true, decide_eq_true_eq] at hd9
                have HTV := Lib.hid (take_val S pos hlt)
                obtain ⟨v, hv⟩ : ∃ v, v = valD (S.data.toList.take pos) := ⟨_, rfl⟩
                rw [← hv] at hvl HTV ⊢
                have hvb : v ≤ 100000000000 := by omega
                clear hvl hp11 hv
                have hd0 : 48 ≤ (S[pos].toNat : Int) := by omega
                have hd1 : (S[pos].toNat : Int) ≤ 57 := by omega
                clear hd9
                go_wp2
                go_roundg (S.size - (pos + 1))
                case measure => omega
                case rel => exact ⟨pos + 1, by omega, by omega, rfl, by go_num, by rw [HTV.out]; congr 1; omega⟩
              · have hltz : ¬ (pos : Int) < (S.size : Int) := by omega
                obtain rfl : pos = S.size := by omega
                have HTA : Hid (S.data.toList.take S.size = S.data.toList) := by show S.data.toList.take S.size = _; rw [← len_list, List.take_length]
                rw [HTA.out] at hvl hp11 ⊢
                obtain ⟨v, hv⟩ : ∃ v, v = valD S.data.toList := ⟨_, rfl⟩
                unfold fin at HR
                rw [← hv] at hvl HR ⊢
                have hvb : v ≤ 100000000000 := by omega
                clear hvl hp11 hv HTA
                cases hval : validL (sgn false (v : Int)) with
                | true =>
                  have HVL := Lib.hid hval
                  rw [hval] at HR
                  clear hval
                  go_wp2_with fail
                  refine (refValid_any (sgn false (v : Int)) _).mono ?_
                  rw [HVL.out]
                  rintro e w' ⟨rfl, rfl⟩
                  go_wp2
                  go_ret2
                  rw [HR.out]
                  exact ⟨rfl, HB.out⟩
                | false =>
                  have HVL := Lib.hid hval
                  rw [hval] at HR
                  clear hval
                  go_wp2_with fail
                  refine (refValid_any (sgn false (v : Int)) _).mono ?_
                  rw [HVL.out]
                  rintro e w' ⟨rfl, rfl⟩
                  go_wp2
                  go_ret2
                  rw [HR.out]
                  exact ⟨rfl, HB.out⟩
        · have HR : Hid (parseR l = (0, 3)) := by
            show parseR l = _; rw [HE.out]
            exact (endR_or _ _ _ _).resolve_right fun e => hpt ((eq_list _ _).2 e)
          go_wp2
          go_ret2
          rw [HR.out]
          exact ⟨rfl, HB.out⟩


set_option maxRecDepth 100000 in
set_option maxHeartbeats 16000000 in
theorem rparse_true (l : List UInt8) (B : ByteArray) (w1 : World) (hl : B.data.toList = l) (hsb : B.size ≤ 60) (h0 : 0 < B.size) (hh : ((B[0].toNat : Int) == 45) = true) :
    Calls Tryd.prog 26 #[.string B] w1 fun e w' => e = .returned (.tuple #[.int .i64 (parseR l).1, .int .i64 (parseR l).2]) ∧ Below w1.heap.size w1 w' := by
  have HL : Hid (parseR l = restR true (B.extract 1 B.size).data.toList) := by
    show parseR l = _
    unfold parseR
    rw [← hl, head_eq B h0, toNatC, show (((45 : UInt8).toNat : Nat) : Int) = 45 from rfl, hh, ext_drop]
    simp
  have h0z : (0 : Int) < (B.size : Int) := by omega
  have h1z : (1 : Int) ≤ (B.size : Int) := by omega
  have hes : (B.extract 1 B.size).size = B.size - 1 := by simp [ByteArray.size_extract]
  have hsb2 : (B.extract 1 B.size).size ≤ 60 := by omega
  clear hl hes
  go_enter Tryd.func26, Tryd.ntmps26
  go_wp2_with fail
  generalize B.extract 1 B.size = B at *
  refine (run_any B _ (by unfold maxLen; omega)).mono ?_
  rintro e w' ⟨rfl, rfl⟩
  have hkl := runD_le B
  have hPl := ext_take B (runD B.data.toList)
  have hQl := ext_drop B (runD B.data.toList)
  rw [tk] at hPl
  rw [dk] at hQl
  have hHL := HL.out
  unfold restR at hHL
  rw [← hPl, ← hQl] at hHL
  have HPA := Lib.hid (all_tw _ _ hPl)
  clear hPl hQl HL
  have hps : (B.extract 0 (runD B.data.toList)).size = runD B.data.toList := by simp [ByteArray.size_extract]; omega
  have hqs : (B.extract (runD B.data.toList) B.size).size = B.size - runD B.data.toList := by simp [ByteArray.size_extract]
  generalize hk : runD B.data.toList = k at *
  have Hk := Lib.hid hk
  clear hk
  by_cases hk0 : k = 0
  · subst hk0
    have HR : Hid (parseR l = (0, 3)) := by show parseR l = _; rw [hHL]; rfl
    have HB : Hid (Below w1.heap.size w1 w1) := Lib.hid (Below.refl _ _)
    clear hHL HPA hps hqs
    go_wp2
    go_ret2
    rw [HR.out]
    exact ⟨rfl, HB.out⟩
  have hb0 : 0 < B.size := by omega
  have ek0 : ((k : Int) == 0) = false := by simp; omega
  rw [head_eq B hb0, toNat48, show (k == 0) = false from by simpa using hk0, Bool.false_or] at hHL
  by_cases hz : 1 < k ∧ ((B[0].toNat : Int) == 48) = true
  · obtain ⟨hz1, hz2⟩ := hz
    have hz1' : (1 : Int) < (k : Int) := by omega
    have HR : Hid (parseR l = (0, 3)) := by show parseR l = _; rw [hHL, hz2, decide_eq_true hz1]; rfl
    have HB : Hid (Below w1.heap.size w1 w1) := Lib.hid (Below.refl _ _)
    clear hHL HPA hps hqs
    go_wp2
    go_ret2
    rw [HR.out]
    exact ⟨rfl, HB.out⟩
  have hzz : (k : Int) ≤ 1 ∨ ((1 : Int) < (k : Int) ∧ ((B[0].toNat : Int) == 48) = false) := by
    by_cases h1 : 1 < k
    · right
      refine ⟨by omega, ?_⟩
      cases hh : ((B[0].toNat : Int) == 48) with
      | false => rfl
      | true => exact absurd ⟨h1, hh⟩ hz
    · left; omega
  have hbad : (decide (1 < k) && ((B[0].toNat : Int) == 48)) = false := by
    rcases hzz with h | ⟨_, h⟩
    · rw [decide_eq_false (by omega)]; rfl
    · rw [h, Bool.and_false]
  rw [hbad] at hHL
  have HHL : Hid (parseR l = afterR true (B.extract 0 k).data.toList (B.extract k B.size).data.toList) := hHL
  have hkz : (k : Int) ≤ (B.size : Int) := by omega
  have hkz0 : (0 : Int) ≤ (k : Int) := by omega
  have HPS := Lib.hid hps
  have HQS := Lib.hid hqs
  clear hHL hbad hz hps hqs
  rcases hzz with hz1 | ⟨hz1, hz2⟩
  all_goals
    go_wp2_with fail
    go_quiet (fail)
    have HB : Hid (Below w1.heap.size w1 (w1.drewN nq)) := Lib.hid (below_drewN w1 nq)
    generalize w1.drewN nq = w2 at *
    generalize B.extract 0 k = P at *
    generalize B.extract k B.size = Q at *
    have sP : P.size ≤ 60 := by have := HPS.out; omega
    have sQ : Q.size ≤ 60 := by have := HQS.out; omega
    clear HPS HQS
    by_cases hq : ∃ _h : 0 < Q.size, ((Q[0].toNat : Int) == 46) = true
    · obtain ⟨hq1, hq2⟩ := hq
      have hq1z : (1 : Int) ≤ (Q.size : Int) := by omega
      have hA : parseR l = if badK ((Q.extract 1 Q.size).data.toList.takeWhile isD) then (0, 3) else endR true P.data.toList ((Q.extract 1 Q.size).data.toList.takeWhile isD) ((Q.extract 1 Q.size).data.toList.dropWhile isD) := by
        rw [HHL.out]; unfold afterR
        rw [head_eq Q hq1, toNatC, show (((46 : UInt8).toNat : Nat) : Int) = 46 from rfl, hq2, ext_drop]
        simp
      have hes : (Q.extract 1 Q.size).size = Q.size - 1 := by simp [ByteArray.size_extract]
      have hT : runD (Q.extract 1 Q.size).data.toList ≤ Q.size - 1 := by have := runD_le (Q.extract 1 Q.size); omega
      have hFl : (Q.extract 1 (1 + runD (Q.extract 1 Q.size).data.toList)).data.toList = (Q.extract 1 Q.size).data.toList.takeWhile isD := by
        rw [← tk, ext_list, ext_drop, List.drop_take]; congr 1; omega
      have hRl : (Q.extract (1 + runD (Q.extract 1 Q.size).data.toList) Q.size).data.toList = (Q.extract 1 Q.size).data.toList.dropWhile isD := by
        rw [← dk, ext_drop, ext_drop, List.drop_drop]
      rw [← hFl, ← hRl] at hA
      have HFA := Lib.hid (all_tw _ _ hFl)
      have hfs : (Q.extract 1 (1 + runD (Q.extract 1 Q.size).data.toList)).size = runD (Q.extract 1 Q.size).data.toList := by rw [ByteArray.size_extract]; omega
      have HA := Lib.hid hA
      have HFS := Lib.hid hfs
      clear hA hFl hRl hfs HHL
      go_wp2_with fail
      refine (run_any (Q.extract 1 Q.size) _ (by unfold maxLen; omega)).mono ?_
      clear hes
      generalize runD (Q.extract 1 Q.size).data.toList = k2 at *
      rintro e w' ⟨rfl, rfl⟩
      have e1 : IntKind.i64.wrap (1 + (k2 : Int)) = 1 + (k2 : Int) := IntWalk.i64_in _ (by omega)
      have e2 : (0 : Int) ≤ 1 + (k2 : Int) := by omega
      have e3 : (1 + (k2 : Int)).toNat = 1 + k2 := by omega
      have e4 : 1 + (k2 : Int) ≤ (Q.size : Int) := by omega
      have e5 : (1 : Int) ≤ 1 + (k2 : Int) := by omega
      go_wp2_with fail
      go_quiet (fail)
      clear e1 e2 e3 e4 e5
      have HB2 : Hid (Below w1.heap.size w1 (w2.drewN nq)) := Lib.hid (HB.out.trans ((below_drewN w2 nq).mono HB.out.size))
      generalize w2.drewN nq = w3 at *
      clear HB
      have HB := HB2
      clear HB2
      generalize Q.extract 1 (1 + k2) = F at *
      generalize Q.extract (1 + k2) Q.size = R at *
      have sF : F.size ≤ 60 := by have := HFS.out; omega
      obtain rfl : F.size = k2 := HFS.out
      clear HFS hT
      by_cases hf1 : F.size < 1
      · have hf1z : (F.size : Int) < 1 := by omega
        have HR : Hid (parseR l = (0, 3)) := by show parseR l = _; rw [HA.out, badK_eq, decide_eq_true hf1]; rfl
        go_wp2
        go_ret2
        rw [HR.out]
        exact ⟨rfl, HB.out⟩
      have hf1z : ¬ (F.size : Int) < 1 := by omega
      by_cases hf3 : 3 < F.size
      · have hf3z : (3 : Int) < (F.size : Int) := by omega
        have HR : Hid (parseR l = (0, 3)) := by show parseR l = _; rw [HA.out, badK_eq, decide_eq_true hf3, Bool.true_or, Bool.or_true]; rfl
        go_wp2
        go_ret2
        rw [HR.out]
        exact ⟨rfl, HB.out⟩
      have hf3z : ¬ (3 : Int) < (F.size : Int) := by omega
      have hf0 : 0 < F.size := by omega
      have hf0z : (0 : Int) ≤ (F.size : Int) - 1 := by omega
      have hix : ((F.size : Int) - 1).toNat = F.size - 1 := by omega
      cases hla : ((F[F.size - 1].toNat : Int) == 48) with
      | true =>
        have HR : Hid (parseR l = (0, 3)) := by show parseR l = _; rw [HA.out, badK_eq, last_eq F hf0, toNat48, hla, Bool.or_true, Bool.or_true]; rfl
        go_wp2
        go_ret2
        rw [HR.out]
        exact ⟨rfl, HB.out⟩
      | false =>
        have HE : Hid (parseR l = endR true P.data.toList F.data.toList R.data.toList) := by
          show parseR l = _; rw [HA.out, badK_eq, last_eq F hf0, toNat48, hla, decide_eq_false hf1, decide_eq_false hf3]; rfl
        clear HA
        by_cases hpt : R.toList = [112, 116]
        · have HRP : Hid (R.data.toList = [112, 116]) := (eq_list _ _).1 hpt
          have HPP : Hid (parseR l = if 7 < P.data.toList.length then (0, 2) else fin true (P.data.toList ++ pad3 F.data.toList)) := by
            have e : F.data.toList.isEmpty = false := by
              cases h : F.data.toList with
              | nil => have := len_list F; rw [h] at this; simp at this; omega
              | cons _ _ => rfl
            show parseR l = _; rw [HE.out]; unfold endR; rw [HRP.out, e]; simp
          clear HE
          have hf0 : ¬ F.toList = [] := fun e => by
            have := len_list F; rw [(eq_list _ _).1 e] at this; simp at this; omega
          have hf0b : F.toList.isEmpty = false := by
            cases h : F.toList with
            | nil => exact absurd h hf0
            | cons _ _ => rfl
          by_cases hp0 : P.toList = [48]
          all_goals
            by_cases h7 : 7 < P.size
            · have h7' : (7 : Int) < (P.size : Int) := by omega
              have HR : Hid (parseR l = (0, 2)) := by show parseR l = _; rw [HPP.out, if_pos (by rw [len_list]; exact h7)]
              go_wp2
              go_ret2
              rw [HR.out]
              exact ⟨rfl, HB.out⟩
            · have h7' : ¬ (7 : Int) < (P.size : Int) := by omega
              have hsz : (P ++ (F ++ (⟨#[48, 48, 48]⟩ : ByteArray)).extract 0 3).size = P.size + 3 := by
                rw [← len_list, pad_app, List.length_append, pad_len, len_list]
              have hall : ∀ (j : Nat) (hj : j < (P ++ (F ++ (⟨#[48, 48, 48]⟩ : ByteArray)).extract 0 3).size), isD (P ++ (F ++ (⟨#[48, 48, 48]⟩ : ByteArray)).extract 0 3)[j] = true := fun j hj => by
                have : (P ++ (F ++ (⟨#[48, 48, 48]⟩ : ByteArray)).extract 0 3)[j] ∈ (P ++ (F ++ (⟨#[48, 48, 48]⟩ : ByteArray)).extract 0 3).data.toList := by
                  have e : (P ++ (F ++ (⟨#[48, 48, 48]⟩ : ByteArray)).extract 0 3)[j] = (P ++ (F ++ (⟨#[48, 48, 48]⟩ : ByteArray)).extract 0 3).data.toList[j]'(by rw [len_list]; exact hj) := rfl
                  rw [e]; exact List.getElem_mem _
                rw [pad_app] at this
                rcases List.mem_append.1 this with h' | h'
                · exact HPA.out _ h'
                · exact pad_all _ HFA.out _ h'
              have HR : Hid (parseR l = fin true (P ++ (F ++ (⟨#[48, 48, 48]⟩ : ByteArray)).extract 0 3).data.toList) := by show parseR l = _; rw [HPP.out, if_neg (by rw [len_list]; exact h7), pad_app]
              have hp7 : P.size ≤ 7 := by omega
              clear HPP
              go_wp2_with fail
              obtain ⟨S, hS⟩ : ∃ S : ByteArray, S = (P ++ (F ++ (⟨#[48, 48, 48]⟩ : ByteArray)).extract 0 3) := ⟨_, rfl⟩
              rw [← hS] at hsz hall HR ⊢
              clear hS
              have HALL := Lib.hid hall
              have hS11 : S.size ≤ 11 := by omega
              clear hall hsz
              go_loopg [10, 12] S.size (fun gg s10 s12 wr => ∃ pos : Nat, pos ≤ S.size ∧ S.size - pos ≤ gg ∧ wr = w3 ∧ s12 = .int .i64 pos ∧ s10 = .int .i64 (valD (S.data.toList.take pos)))
              case atStart => exact ⟨0, Nat.zero_le _, by omega, rfl, rfl, rfl⟩
              case round =>
                obtain ⟨pos, hpos, hgg, rfl, rfl, rfl⟩ := hrel
                have hvl := take_lt S pos HALL.out
                have hp11 := pow_le11 (k := (S.data.toList.take pos).length) (by rw [List.length_take, len_list]; omega)
                by_cases hlt : pos < S.size
                · have hltz : (pos : Int) < (S.size : Int) := by omega
                  have hd9 := HALL.out pos hlt
                  unfold isD at hd9
                  simp only [Bool.and_eq_true, decide_eq_true_eq] at hd9
                  have HTV := Lib.hid (take_val S pos hlt)
                  obtain ⟨v, hv⟩ : ∃ v, v = valD (S.data.toList.take pos) := ⟨_, rfl⟩
                  rw [← hv] at hvl HTV ⊢
                  have hvb : v ≤ 100000000000 := by omega
                  clear hvl hp11 hv
                  have hd0 : 48 ≤ (S[pos].toNat : Int) := by omega
                  have hd1 : (S[pos].toNat : Int) ≤ 57 := by omega
                  clear hd9
                  go_wp2
                  go_roundg (S.size - (pos + 1))
                  case measure => omega
                  case rel => exact ⟨pos + 1, by omega, by omega, rfl, by go_num, by rw [HTV.out]; congr 1; omega⟩
                · have hltz : ¬ (pos : Int) < (S.size : Int) := by omega
                  obtain rfl : pos = S.size := by omega
                  have HTA : Hid (S.data.toList.take S.size = S.data.toList) := by show S.data.toList.take S.size = _; rw [← len_list, List.take_length]
                  rw [HTA.out] at hvl hp11 ⊢
                  obtain ⟨v, hv⟩ : ∃ v, v = valD S.data.toList := ⟨_, rfl⟩
                  unfold fin at HR
                  rw [← hv] at hvl HR ⊢
                  have hvb : v ≤ 100000000000 := by omega
                  clear hvl hp11 hv HTA
                  cases hval : validL (sgn true (v : Int)) with
                  | true =>
                    have HVL := Lib.hid hval
                    rw [hval] at HR
                    clear hval
                    go_wp2_with fail
                    refine (refValid_any (sgn true (v : Int)) _).mono ?_
                    rw [HVL.out]
                    rintro e w' ⟨rfl, rfl⟩
                    go_wp2
                    go_ret2
                    rw [HR.out]
                    exact ⟨rfl, HB.out⟩
                  | false =>
                    have HVL := Lib.hid hval
                    rw [hval] at HR
                    clear hval
                    go_wp2_with fail
                    refine (refValid_any (sgn true (v : Int)) _).mono ?_
                    rw [HVL.out]
                    rintro e w' ⟨rfl, rfl⟩
                    go_wp2
                    go_ret2
                    rw [HR.out]
                    exact ⟨rfl, HB.out⟩
        · have HR : Hid (parseR l = (0, 3)) := by
            show parseR l = _; rw [HE.out]
            exact (endR_or _ _ _ _).resolve_right fun e => hpt ((eq_list _ _).2 e)
          go_wp2
          go_ret2
          rw [HR.out]
          exact ⟨rfl, HB.out⟩
    · have hq' : ¬ 0 < Q.size ∨ (∃ _h : 0 < Q.size, ((Q[0].toNat : Int) == 46) = false) := by
        by_cases h : 0 < Q.size
        · right
          refine ⟨h, ?_⟩
          cases hh : ((Q[0].toNat : Int) == 46) with
          | false => rfl
          | true => exact absurd ⟨h, hh⟩ hq
        · exact .inl h
      have HE : Hid (parseR l = endR true P.data.toList (⟨#[]⟩ : ByteArray).data.toList Q.data.toList) := by
        show parseR l = _
        rw [HHL.out]; unfold afterR
        rw [if_neg]
        rcases hq' with h | ⟨h, h'⟩
        · have : Q.data.toList = [] := List.eq_nil_of_length_eq_zero (by rw [len_list]; omega)
          rw [this]; simp
        · rw [head_eq Q h, toNatC, show (((46 : UInt8).toNat : Nat) : Int) = 46 from rfl, h']; simp
      clear hq HHL
      rcases hq' with hq1 | ⟨hq1, hq2⟩
      all_goals
        by_cases hpt : Q.toList = [112, 116]
        · have HRP : Hid (Q.data.toList = [112, 116]) := (eq_list _ _).1 hpt
          by_cases hp0 : P.toList = [48]
          · have HR : Hid (parseR l = (0, 3)) := by show parseR l = _; rw [HE.out]; unfold endR; rw [HRP.out, (eq_list _ _).1 hp0]; rfl
            go_wp2
            go_ret2
            rw [HR.out]
            exact ⟨rfl, HB.out⟩
          · have HPP : Hid (parseR l = if 7 < P.data.toList.length then (0, 2) else fin true (P.data.toList ++ pad3 (⟨#[]⟩ : ByteArray).data.toList)) := by
              have e : (P.data.toList == [48]) = false := beq_eq_false_iff_ne.2 fun e => hp0 ((eq_list _ _).2 e)
              show parseR l = _; rw [HE.out]; unfold endR; rw [HRP.out, e]; simp
            clear HE
            by_cases h7 : 7 < P.size
            · have h7' : (7 : Int) < (P.size : Int) := by omega
              have HR : Hid (parseR l = (0, 2)) := by show parseR l = _; rw [HPP.out, if_pos (by rw [len_list]; exact h7)]
              go_wp2
              go_ret2
              rw [HR.out]
              exact ⟨rfl, HB.out⟩
            · have h7' : ¬ (7 : Int) < (P.size : Int) := by omega
              have hsz : (P ++ ((⟨#[]⟩ : ByteArray) ++ (⟨#[48, 48, 48]⟩ : ByteArray)).extract 0 3).size = P.size + 3 := by
                rw [← len_list, pad_app, List.length_append, pad_len, len_list]
              have hall : ∀ (j : Nat) (hj : j < (P ++ ((⟨#[]⟩ : ByteArray) ++ (⟨#[48, 48, 48]⟩ : ByteArray)).extract 0 3).size), isD (P ++ ((⟨#[]⟩ : ByteArray) ++ (⟨#[48, 48, 48]⟩ : ByteArray)).extract 0 3)[j] = true := fun j hj => by
                have : (P ++ ((⟨#[]⟩ : ByteArray) ++ (⟨#[48, 48, 48]⟩ : ByteArray)).extract 0 3)[j] ∈ (P ++ ((⟨#[]⟩ : ByteArray) ++ (⟨#[48, 48, 48]⟩ : ByteArray)).extract 0 3).data.toList := by
                  have e : (P ++ ((⟨#[]⟩ : ByteArray) ++ (⟨#[48, 48, 48]⟩ : ByteArray)).extract 0 3)[j] = (P ++ ((⟨#[]⟩ : ByteArray) ++ (⟨#[48, 48, 48]⟩ : ByteArray)).extract 0 3).data.toList[j]'(by rw [len_list]; exact hj) := rfl
                  rw [e]; exact List.getElem_mem _
                rw [pad_app] at this
                rcases List.mem_append.1 this with h' | h'
                · exact HPA.out _ h'
                · exact pad_all _ (by simp) _ h'
              have HR : Hid (parseR l = fin true (P ++ ((⟨#[]⟩ : ByteArray) ++ (⟨#[48, 48, 48]⟩ : ByteArray)).extract 0 3).data.toList) := by show parseR l = _; rw [HPP.out, if_neg (by rw [len_list]; exact h7), pad_app]
              have hp7 : P.size ≤ 7 := by omega
              clear HPP
              go_wp2_with fail
              obtain ⟨S, hS⟩ : ∃ S : ByteArray, S = (P ++ ((⟨#[]⟩ : ByteArray) ++ (⟨#[48, 48, 48]⟩ : ByteArray)).extract 0 3) := ⟨_, rfl⟩
              rw [← hS] at hsz hall HR ⊢
              clear hS
              have HALL := Lib.hid hall
              have hS11 : S.size ≤ 11 := by omega
              clear hall hsz
              go_loopg [10, 12] S.size (fun gg s10 s12 wr => ∃ pos : Nat, pos ≤ S.size ∧ S.size - pos ≤ gg ∧ wr = w2 ∧ s12 = .int .i64 pos ∧ s10 = .int .i64 (valD (S.data.toList.take pos)))
              case atStart => exact ⟨0, Nat.zero_le _, by omega, rfl, rfl, rfl⟩
              case round =>
                obtain ⟨pos, hpos, hgg, rfl, rfl, rfl⟩ := hrel
                have hvl := take_lt S pos HALL.out
                have hp11 := pow_le11 (k := (S.data.toList.take pos).length) (by rw [List.length_take, len_list]; omega)
                by_cases hlt : pos < S.size
                · have hltz : (pos : Int) < (S.size : Int) := by omega
                  have hd9 := HALL.out pos hlt
                  unfold isD at hd9
                  simp only [Bool.and_eq_true, decide_eq_true_eq] at hd9
                  have HTV := Lib.hid (take_val S pos hlt)
                  obtain ⟨v, hv⟩ : ∃ v, v = valD (S.data.toList.take pos) := ⟨_, rfl⟩
                  rw [← hv] at hvl HTV ⊢
                  have hvb : v ≤ 100000000000 := by omega
                  clear hvl hp11 hv
                  have hd0 : 48 ≤ (S[pos].toNat : Int) := by omega
                  have hd1 : (S[pos].toNat : Int) ≤ 57 := by omega
                  clear hd9
                  go_wp2
                  go_roundg (S.size - (pos + 1))
                  case measure => omega
                  case rel => exact ⟨pos + 1, by omega, by omega, rfl, by go_num, by rw [HTV.out]; congr 1; omega⟩
                · have hltz : ¬ (pos : Int) < (S.size : Int) := by omega
                  obtain rfl : pos = S.size := by omega
                  have HTA : Hid (S.data.toList.take S.size = S.data.toList) := by show S.data.toList.take S.size = _; rw [← len_list, List.take_length]
                  rw [HTA.out] at hvl hp11 ⊢
                  obtain ⟨v, hv⟩ : ∃ v, v = valD S.data.toList := ⟨_, rfl⟩
                  unfold fin at HR
                  rw [← hv] at hvl HR ⊢
                  have hvb : v ≤ 100000000000 := by omega
                  clear hvl hp11 hv HTA
                  cases hval : validL (sgn true (v : Int)) with
                  | true =>
                    have HVL := Lib.hid hval
                    rw [hval] at HR
                    clear hval
                    go_wp2_with fail
                    refine (refValid_any (sgn true (v : Int)) _).mono ?_
                    rw [HVL.out]
                    rintro e w' ⟨rfl, rfl⟩
                    go_wp2
                    go_ret2
                    rw [HR.out]
                    exact ⟨rfl, HB.out⟩
                  | false =>
                    have HVL := Lib.hid hval
                    rw [hval] at HR
                    clear hval
                    go_wp2_with fail
                    refine (refValid_any (sgn true (v : Int)) _).mono ?_
                    rw [HVL.out]
                    rintro e w' ⟨rfl, rfl⟩
                    go_wp2
                    go_ret2
                    rw [HR.out]
                    exact ⟨rfl, HB.out⟩
        · have HR : Hid (parseR l = (0, 3)) := by
            show parseR l = _; rw [HE.out]
            exact (endR_or _ _ _ _).resolve_right fun e => hpt ((eq_list _ _).2 e)
          go_wp2
          go_ret2
          rw [HR.out]
          exact ⟨rfl, HB.out⟩


theorem refParse_any (l : List UInt8) (w : World) (hl : l.length ≤ 60) :
    Calls Tryd.prog 26 #[.string ⟨l.toArray⟩] w fun e w' => e = .returned (.tuple #[.int .i64 (parseP l).1, .int .i64 (parseP l).2]) ∧ Below w.heap.size w w' := by
  rw [parse_eq]
  by_cases h0 : 0 < (⟨l.toArray⟩ : ByteArray).size
  · cases hh : (((⟨l.toArray⟩ : ByteArray)[0].toNat : Int) == 45) with
    | false => exact rparse_false l _ w rfl (by rw [size_mk]; exact hl) h0 hh
    | true => exact rparse_true l _ w rfl (by rw [size_mk]; exact hl) h0 hh
  · have : l = [] := List.eq_nil_of_length_eq_zero (by rw [size_mk] at h0; omega)
    subst this
    go_enter Tryd.func26, Tryd.ntmps26
    go_wp2_with fail
    refine (runL_any [] _ (by simp)).mono ?_
    rw [show runD [] = 0 from rfl]
    rintro e w' ⟨rfl, rfl⟩
    go_wp2
    go_ret2
    exact ⟨rfl, Below.refl _ _⟩

end Go.Proofs.YtbaljopgkelcfaaDoor
