/- Contracts of the reference's Has, less, with, union, without. Contract of Fresh 26. Contract of the reference's Number. -/
import Derived.Deep.AppendLies
import Derived.BigQuiet
import Derived.Test.YtknpigdpepmimaaGreatDoorM15
import Derived.Test.YtknpigdpepmimaaGreatDoorM16
import Derived.Maps.OwnSet
import Derived.Test.YtknpigdpepmimaaGreatDoorM14
import Derived.Test.YtknpigdpepmimaaGreatDoorM03
namespace Go.Proofs.YtknpigdpepmimaaGreatDoor
open Go.RowKit
set_option maxHeartbeats 1000000 in
theorem has35_any (B : Nat) (v : Value) (l : List W8) (s : W8) (w : World) (hv : SL w B v l) :
    Calls Tryz.prog 16 #[v, .string ⟨s.toArray⟩] w fun r w' => r = .returned (.bool (hasB l s)) ∧ w = w' := by
  obtain ⟨A, c, rfl, ⟨hc1, hc2⟩, hcell⟩ := hv
  have HCELL := Lib.hid hcell
  clear hcell
  have hyl : l.length ≤ 9223372036854775807 := by omega
  go_enter Tryz.func16, Tryz.ntmps16
  go_wp2_with fail
  go_loop [5] (fun s3 => ∃ kk : Nat, kk ≤ l.length ∧ s3 = .int .i64 kk ∧ Aside (∀ (j : Nat) (hj : j < l.length), j < kk → l[j] ≠ s)) (fun s3 => l.length - (intOf s3).toNat)
  case atStart => exact ⟨0, Nat.zero_le _, rfl, fun j _ hj => absurd hj (Nat.not_lt_zero _)⟩
  case round =>
    obtain ⟨kk, hkk, rfl, HA⟩ := hrel
    by_cases hlt : kk < l.length
    · have hltz : (kk : Int) < (l.length : Int) := by omega
      obtain ⟨b, o, rfl, hb, hx⟩ := HCELL.out (by intro e; rw [e] at hlt; simp at hlt)
      have hck := hx kk hlt
      clear hx
      by_cases he : l[kk] = s
      · have HP : Hid (hasB l s = true) := contains_yes l s kk hlt he
        rw [he] at hck
        clear he
        go_wp2_with fail
        go_ret
        rw [HP.out]
        exact ⟨rfl, rfl⟩
      · have hb1 : (l[kk] == s) = false := by simpa using he
        have HE := Lib.hid he
        clear he
        go_wp2_with fail
        go_round
        case rel =>
          refine ⟨kk + 1, by omega, by go_num, (show Aside _ from fun j hj hjk => ?_)⟩
          by_cases ee : j = kk
          · subst ee; exact HE.out
          · exact HA.out j hj (by omega)
        case measure => simp [intOf]; omega
    · have hltz : ¬ (kk : Int) < (l.length : Int) := by omega
      have HP : Hid (hasB l s = false) := contains_no l s (fun j hj => HA.out j hj (by omega))
      go_wp2_with fail
      go_ret
      rw [HP.out]
      exact ⟨rfl, rfl⟩
theorem ltrN_rk (c : UInt8) (h : isL c = true) : ltrN c.toNat = rk c := by
  unfold isL at h
  simp at h
  unfold ltrN rk rkN
  split
  · rw [if_pos (by omega)]; omega
  · rw [if_pos (by omega), if_neg (by omega)]; omega
theorem word_L (s : ByteArray) (h : wordB s.data.toList = true) (k : Nat) (hk : k < s.size) : isL s[k] = true := by
  unfold wordB at h
  simp only [Bool.and_eq_true] at h
  exact List.all_eq_true.1 h.1.1 s[k] (by
    have e : s[k] = s.data.toList[k]'(by simpa using hk) := rfl
    rw [e]; exact List.getElem_mem _)
theorem letterR_any (c : UInt8) (h : isL c = true) (w : World) : Calls Tryz.prog 110 #[.int .u8 (c.toNat : Int)] w fun e w' => e = .returned (.int .i64 (rk c : Nat)) ∧ w' = w := by
  have := letter70_nat c.toNat w c.toNat_lt
  rw [ltrN_rk c h] at this
  exact this.mono fun _ _ ⟨a, b⟩ => ⟨a, b.symm⟩
theorem ltL_eq (s u : ByteArray) : ltL s.data.toList u.data.toList = if s.size = u.size then decide (cmpR s.data.toList u.data.toList < 0) else decide (s.size < u.size) := by
  unfold ltL
  rw [Bool.eq_iff_iff, decide_eq_true_eq, cmpL_lt, len_list, len_list]
  split
  · rw [decide_eq_true_eq]; omega
  · rw [decide_eq_true_eq]; omega
set_option maxRecDepth 100000 in
set_option maxHeartbeats 2000000 in
theorem less65_any (s u : ByteArray) (w : World) (hs : wordB s.data.toList = true) (hu : wordB u.data.toList = true) :
    Calls Tryz.prog 63 #[.string s, .string u] w fun e w' => e = .returned (.bool (ltL s.data.toList u.data.toList)) ∧ ∃ n, w' = w.drewN n := by
  have HL1 := Lib.hid (word_L s hs)
  have HL2 := Lib.hid (word_L u hu)
  have hsz : s.size ≤ 16 := by
    unfold wordB at hs
    rw [len_list] at hs
    simp only [Bool.and_eq_true, decide_eq_true_eq] at hs
    omega
  have hsz2 : u.size ≤ 16 := by
    unfold wordB at hu
    rw [len_list] at hu
    simp only [Bool.and_eq_true, decide_eq_true_eq] at hu
    omega
  have HC := Lib.hid (ltL_eq s u)
  clear hs hu
  by_cases hlen : s.size = u.size
  · have HX := Lib.hid (HC.out.trans (if_pos hlen))
    have HLE := Lib.hid hlen
    have hb1 : ((s.size : Int) != (u.size : Int)) = false := by rw [hlen]; simp
    clear hlen HC
    go_enter Tryz.func63, Tryz.ntmps63
    go_wp2_with fail
    go_loopg [5] s.size (fun gg s5 wr => ∃ k : Nat, k ≤ s.size ∧ s.size - k ≤ gg ∧ s5 = .int .i64 k ∧ Aside (cmpR s.data.toList u.data.toList = cmpR (s.data.toList.drop k) (u.data.toList.drop k)) ∧ ∃ n, wr = w.drewN n)
    case atStart => exact ⟨0, Nat.zero_le _, by omega, rfl, rfl, 0, rfl⟩
    case round =>
      obtain ⟨k, hk, hgg, rfl, HQ, n, rfl⟩ := hrel
      have HW0 : Hid (∃ m, w.drewN n = w.drewN m) := ⟨n, rfl⟩
      generalize w.drewN n = wr at HW0 ⊢
      by_cases hlt : k < s.size
      · have hltz : (k : Int) < (s.size : Int) := by omega
        have hlu : k < u.size := by have := HLE.out; omega
        have hluz : (k : Int) < (u.size : Int) := by omega
        have HD := Lib.hid (cmpR_at s u k hlt hlu)
        have HR1 := Lib.hid (HL1.out k hlt)
        have HR2 := Lib.hid (HL2.out k hlu)
        have HI := Lib.hid (fun h => rk_inj _ _ (HL1.out k hlt) (HL2.out k hlu) h)
        by_cases he : s[k] = u[k]
        · have HQ2 : Hid (cmpR s.data.toList u.data.toList = cmpR (s.data.toList.drop (k + 1)) (u.data.toList.drop (k + 1))) := HQ.out.trans (HD.out.trans (if_pos (by rw [he])))
          have hb2 : ((s[k].toNat : Int) != (u[k].toNat : Int)) = false := by rw [he]; simp
          have hb3 : ((s[k].toNat : Int) == (u[k].toNat : Int)) = true := by rw [he]; simp
          clear HD he
          go_wp2_with fail
          go_big_quiet (fail)
          have HW : Hid (∃ m, wr.drewN nq = w.drewN m) := by
            obtain ⟨m, hm⟩ := HW0.out
            exact ⟨m + nq, by rw [hm, World.drewN_drewN]⟩
          generalize wr.drewN nq = wn at HW ⊢
          clear HW0
          go_wp2_with fail
          go_roundg (s.size - (k + 1))
          case measure => omega
          exact ⟨k + 1, by omega, Nat.le_refl _, by go_num, HQ2.out, HW.out⟩
        · have hne : rk s[k] ≠ rk u[k] := fun h => he (HI.out h)
          have hnn : s[k].toNat ≠ u[k].toNat := fun h => he (UInt8.toNat_inj.1 h)
          have hb2 : ((s[k].toNat : Int) != (u[k].toNat : Int)) = true := by rw [bne_iff_ne]; omega
          have hb3 : ((s[k].toNat : Int) == (u[k].toNat : Int)) = false := by rw [beq_eq_false_iff_ne]; omega
          have HQ2 : Hid (ltL s.data.toList u.data.toList = decide ((rk s[k] : Int) < (rk u[k] : Int))) := by
            show ltL s.data.toList u.data.toList = _
            rw [HX.out, HQ.out, HD.out, if_neg hne, decide_eq_decide, cmpInt_lt]
          clear hne hnn he HD HI
          go_wp2_with fail
          go_big_quiet (fail)
          have HW : Hid (∃ m, wr.drewN nq = w.drewN m) := by
            obtain ⟨m, hm⟩ := HW0.out
            exact ⟨m + nq, by rw [hm, World.drewN_drewN]⟩
          generalize wr.drewN nq = wn at HW ⊢
          clear HW0
          go_wp2_with fail
          go_big_quiet ((go_at_call 110; exact Calls.quiet_of_same (letterR_any _ (by first | exact HR1.out | exact HR2.out) _)))
          have HW1 : Hid (∃ m, wn.drewN nq = w.drewN m) := by
            obtain ⟨m, hm⟩ := HW.out
            exact ⟨m + nq, by rw [hm, World.drewN_drewN]⟩
          generalize wn.drewN nq = wz at HW1 ⊢
          go_wp2_with fail
          go_ret
          rw [HQ2.out]
          refine ⟨ret_bool ?_, HW1.out⟩
          first | rfl | simp
      · have hltz : ¬ (k : Int) < (s.size : Int) := by omega
        have HY : Hid (ltL s.data.toList u.data.toList = false) := by
          show ltL s.data.toList u.data.toList = false
          rw [HX.out, HQ.out, List.drop_eq_nil_of_le (by rw [len_list]; omega)]
          unfold cmpR; rfl
        go_wp2_with fail
        go_ret
        rw [HY.out]
        exact ⟨rfl, HW0.out⟩
  · have HX : Hid (ltL s.data.toList u.data.toList = decide ((s.size : Int) < (u.size : Int))) := by
      show ltL s.data.toList u.data.toList = _
      rw [HC.out, if_neg hlen, decide_eq_decide]; omega
    have hb1 : ((s.size : Int) != (u.size : Int)) = true := by rw [bne_iff_ne]; omega
    have hb2 : ((s.size : Int) == (u.size : Int)) = false := by rw [beq_eq_false_iff_ne]; omega
    clear hlen HC
    go_enter Tryz.func63, Tryz.ntmps63
    go_wp2_with fail
    go_ret
    rw [HX.out]
    refine ⟨ret_bool ?_, 0, rfl⟩
    first | rfl | simp
end Go.Proofs.YtknpigdpepmimaaGreatDoor

namespace Go.Proofs.YtknpigdpepmimaaGreatDoor
open Go.RowKit Go.Maps
section
variable {H : Type}
theorem atKey_fold (u : DataW H) (k : Lit) (z : DataW H) : ∀ (acc : List Lit) (m : DataW H), IsMap m → (∀ x ∈ acc, WideAt.IsKeyLit x) → (acc.foldl (fun m x => m.put x u) m).atKey k z = if acc.any (fun x => x.sameKey k) then u else m.atKey k z
  | [], _, _, _ => by simp
  | x :: acc, m, hm, h => by
    have ih := atKey_fold u k z acc (m.put x u) (hm.put x u) (fun y hy => h y (List.mem_cons_of_mem _ hy))
    rw [List.foldl_cons, ih]
    by_cases hx : x.sameKey k = true
    · simp only [List.any_cons, hx, Bool.true_or, if_true]
      have hk : x = k := by
        rcases Classical.em (x = k) with h' | h'
        · exact h'
        · rw [sameKey_ne h'] at hx; cases hx
      subst hk
      rw [atKey_put_same hm (h x (List.mem_cons_self ..)) u z]
      simp
    · have hx' : x.sameKey k = false := by simpa using hx
      have hne : k ≠ x := by
        rintro rfl
        rw [WideAt.sameKey_self (h k (List.mem_cons_self ..))] at hx'
        cases hx'
      simp only [List.any_cons, hx', Bool.false_or, atKey_put_other hne]
theorem atKey_setOf (u : DataW H) (k : Lit) (z : DataW H) (acc : List Lit) (h : ∀ x ∈ acc, WideAt.IsKeyLit x) : (setOf u acc).atKey k z = if acc.any (fun x => x.sameKey k) then u else z := by
  unfold setOf
  rw [atKey_fold u k z acc _ isMap_empty h]
  rfl
end
theorem run_makeMap_hint {P : Program} (t k e : TypeId) (kd : IntKind) (n : Int) (ht : P.underlying t = some (.map k e)) (w : World) :
    (Instr.makeMap t (some (.int kd n))).run P w = .ok (.map (some w.heap.size)) (w.alloc (.map #[] 0)) := by
  simp [Instr.makeMap, run_underlying ht]; rfl
def keysW (l : List W8) : List Lit := l.map Lit.string
theorem keysW_isKey (l : List W8) : ∀ x ∈ keysW l, WideAt.IsKeyLit x := by
  intro x hx
  obtain ⟨e, _, rfl⟩ := List.mem_map.1 hx
  trivial
def setW (l : List W8) : DataW Unit := setOf (.lit (.bool true)) (keysW l)
theorem setW_at (l : List W8) (t : W8) : (setW l).atKey (.string t) (.lit (.bool false)) = .lit (.bool (l.contains t)) := by
  unfold setW
  rw [atKey_setOf _ _ _ _ (keysW_isKey l)]
  have : (keysW l).any (fun x => x.sameKey (.string t)) = l.contains t := by
    unfold keysW
    rw [List.any_map, List.contains_eq_any_beq]
    congr 1
    funext e
    simp only [Function.comp, Lit.sameKey]
    exact Bool.beq_comm
  rw [this]
  cases l.contains t <;> rfl
theorem setW_snoc (l : List W8) (k : Nat) (hk : k < l.length) : setW (l.take (k + 1)) = (setW (l.take k)).put (.string l[k]) (.lit (.bool true)) := by
  unfold setW keysW
  rw [List.take_succ_eq_append_getElem hk, List.map_append]
  exact setOf_snoc _ _ _
theorem mk_bytes (t : W8) : (⟨t.toArray⟩ : ByteArray).data.toList = t := rfl
theorem zero4 (w : World) : (zeroValue 4).run Tryz.prog w = .ok (.bool false) w := by kernel_rfl
theorem look_W {w : World} {B n : Nat} {l : List W8} (h : w.ownsMap Tryz.prog 9 (plainElem Tryz.prog 4) B n (setW l)) (t : W8) (ht : t.length ≤ maxLen) :
    (Instr.lookup 219 (.map (some B)) (.string ⟨t.toArray⟩) false).run Tryz.prog w = .ok (.bool (l.contains t)) w := by
  obtain ⟨v, ps, hrun, hv⟩ := h.lookup law9 Tryz.underlying219 (zero4 w) (plainElem_bool Tryz.underlying4 false) (Go.WideMaps.keyOf_string_mk (s := ⟨t.toArray⟩) Tryz.underlying9 (by rw [size_mk]; exact ht))
  rw [hrun]
  rw [mk_bytes, setW_at] at hv
  generalize l.contains t = b at *
  cases v <;> simp [plainElem, Tryz.underlying4] at hv
  rw [hv.1]
theorem om_bel {w w' : World} {B n : Nat} {D : DataW Unit} (h : w.ownsMap Tryz.prog 9 (plainElem Tryz.prog 4) B n D) (hb : Below w.heap.size w w') : w'.ownsMap Tryz.prog 9 (plainElem Tryz.prog 4) B n D := by
  have hl := h.lt
  obtain ⟨es, ck, hh, hr⟩ := h
  exact ⟨es, ck, (hb.block _ hl).trans hh, hr⟩
set_option maxRecDepth 100000 in
set_option maxHeartbeats 2000000 in
theorem fresh26_any (v : Value) (l : List W8) (w : World) (hv : SL w w.heap.size v l) (hl : l.length ≤ 2755) (hs : ∀ x ∈ l, x.length ≤ maxLen) :
    Calls Tryz.prog 157 #[v] w fun e w' => e = .returned (.string ⟨(freshL l).toArray⟩) ∧ Below w.heap.size w w' := by
  obtain ⟨A, c, rfl, ⟨hc1, hc2⟩, hcell⟩ := hv
  have HCELL := Lib.hid hcell
  have HS := Lib.hid hs
  have HM : Hid (1 ≤ freshN l ∧ freshN l ≤ 2756) := fresh_max hl
  have hmm := fun (n : Int) (w : World) => run_makeMap_hint (P := Tryz.prog) 219 9 4 .i64 n Tryz.underlying219 w
  have HP : Hid (plainElem (H := Unit) Tryz.prog 4 (.bool true) = some (.lit (.bool true), [])) := by show plainElem Tryz.prog 4 (.bool true) = _; simp [plainElem, Tryz.underlying4]
  clear hcell hs
  go_enter Tryz.func157, Tryz.ntmps157
  go_wp2_with fail
  go_loopg [5, 12] l.length (fun gg s5 s12 wr => ∃ i : Nat, i ≤ l.length ∧ l.length - i ≤ gg ∧ s12 = .int .i64 i ∧ Aside (wr.ownsMap Tryz.prog 9 (plainElem Tryz.prog 4) w.heap.size i (setW (l.take i))) ∧ Aside (Below w.heap.size w wr))
  case atStart => exact ⟨0, Nat.zero_le _, by omega, rfl, World.ownsMap_made w Tryz.prog 9 _, (Below.refl _ _).alloc (Nat.le_refl _) _⟩
  case round =>
    obtain ⟨i, hi, hgg, rfl, HO, HB⟩ := hrel
    by_cases hlt : i < l.length
    · have hltz : (i : Int) < (l.length : Int) := by omega
      obtain ⟨b, o, rfl, hb, hx⟩ := HCELL.out (by intro e; rw [e] at hlt; simp at hlt)
      have hck : wr.cell? ⟨b, o + i, none⟩ = some (.string ⟨l[i].toArray⟩) := (HB.out.cell (p := ⟨b, o + i, none⟩) hb).trans (hx i hlt)
      have HD := Lib.hid (setW_snoc l i hlt)
      have HK : Hid (keyOf Tryz.prog 9 (.string ⟨l[i].toArray⟩) = some (.string l[i])) := by
        have := Go.WideMaps.keyOf_string_mk (P := Tryz.prog) (k := 9) (s := ⟨l[i].toArray⟩) Tryz.underlying9 (by rw [size_mk]; exact HS.out _ (List.getElem_mem hlt))
        exact Lib.hid (by simpa using this)
      have HN : Hid (i < maxLen) := by show i < maxLen; unfold maxLen; omega
      clear hx
      generalize l[i] = y at *
      go_wp2_with ((at_mapUpdate; refine wpList_mapUpdate_own _ rfl _ _ _ 219 rfl 9 4 law9 Tryz.underlying219 _ w.heap.size i (setW (l.take i)) rfl HO.out HN.out _ _ (.string y) rfl rfl HK.out (.lit (.bool true)) [] HP.out ?_; intro w9 hown hgrow))
      have HO9 : Hid (w9.ownsMap Tryz.prog 9 (plainElem Tryz.prog 4) w.heap.size (i + 1) (setW (l.take (i + 1)))) := by rw [HD.out]; exact hown
      have HB9 : Hid (Below w.heap.size w w9) := HB.out.grown hgrow HB.out.size (fun k hk => by cases hk; exact Nat.le_refl _)
      clear hown hgrow
      go_wp2_with fail
      go_roundg (l.length - (i + 1))
      case measure => omega
      case rel => exact ⟨i + 1, by omega, by omega, by go_num, HO9.out, HB9.out⟩
    · have hltz : ¬ (i : Int) < (l.length : Int) := by omega
      have HO2 : Hid (wr.ownsMap Tryz.prog 9 (plainElem Tryz.prog 4) w.heap.size i (setW l)) := by have := HO.out; rwa [List.take_of_length_le (by omega)] at this
      clear HO HCELL
      go_wp2_with fail
      go_loopg [6] 2757 (fun gg s6 wx => ∃ n : Nat, 1 ≤ n ∧ n ≤ freshN l ∧ freshN l - n ≤ gg ∧ s6 = .string ⟨(wd n).toArray⟩ ∧ Aside (wx.ownsMap Tryz.prog 9 (plainElem Tryz.prog 4) w.heap.size i (setW l)) ∧ Aside (Below w.heap.size w wx))
      case atStart => exact ⟨1, Nat.le_refl _, HM.out.1, by have := HM.out.2; omega, by rw [wd_one], HO2, HB⟩
      case round =>
        obtain ⟨n, h1, h2, hgg2, rfl, HO3, HB3⟩ := hrel
        have h3 : n ≤ 2756 := Nat.le_trans h2 HM.out.2
        have hwl := (wd_len h1 h3).2
        have hlook := look_W HO3.out (wd n) (by unfold maxLen; omega)
        have HG : Hid (good l (wd n) = (identB (wd n) && !l.contains (wd n))) := rfl
        have HI := Lib.hid (fun ww => identL_any (wd n) ww (by omega))
        have HF := Lib.hid (fun ww => following_any (wd n) ww (by omega))
        have HW := Lib.hid (follow_wd n)
        rw [HW.out] at HF
        have HST := Lib.hid (fun h => fresh_stop hl h1 h2 h)
        have HGO := Lib.hid (fun h => fresh_go hl h2 h)
        clear hwl
        cases hc : l.contains (wd n) with
        | true =>
          rw [hc] at hlook HG
          have HX := Lib.hid (HGO.out (by rw [HG.out]; simp))
          clear hc HI HST HGO HG HW
          generalize wd n = y at *
          go_wp2_with fail
          refine (HF.out _).mono ?_
          rintro e w4 ⟨rfl, hb4⟩
          have HO4 := Lib.hid (om_bel HO3.out hb4)
          have HB4 := Lib.hid (HB3.out.trans (hb4.mono HB3.out.size))
          clear hb4
          go_wp2_with fail
          go_roundg (freshN l - (n + 1))
          case measure => have := HX.out; omega
          case rel => exact ⟨n + 1, by omega, HX.out, Nat.le_refl _, rfl, HO4.out, HB4.out⟩
        | false =>
          rw [hc] at hlook HG
          clear hc HW
          cases hid : identB (wd n) with
          | false =>
            rw [hid] at HI HG
            have HX := Lib.hid (HGO.out (by rw [HG.out]; rfl))
            clear hid HST HGO HG
            generalize wd n = y at *
            go_wp2_with fail
            refine (HI.out _).mono ?_
            rintro e w4 ⟨rfl, rfl⟩
            go_wp2_with fail
            refine (HF.out _).mono ?_
            rintro e w4 ⟨rfl, hb4⟩
            have HO4 := Lib.hid (om_bel HO3.out hb4)
            have HB4 := Lib.hid (HB3.out.trans (hb4.mono HB3.out.size))
            clear hb4
            go_wp2_with fail
            go_roundg (freshN l - (n + 1))
            case measure => have := HX.out; omega
            case rel => exact ⟨n + 1, by omega, HX.out, Nat.le_refl _, rfl, HO4.out, HB4.out⟩
          | true =>
            rw [hid] at HI HG
            have HX := Lib.hid (HST.out (by rw [HG.out]; rfl))
            clear hid HST HGO HG HF
            generalize wd n = y at *
            go_wp2_with fail
            refine (HI.out _).mono ?_
            rintro e w4 ⟨rfl, rfl⟩
            go_wp2_with fail
            go_ret
            rw [HX.out]
            exact ⟨rfl, HB3.out⟩
end Go.Proofs.YtknpigdpepmimaaGreatDoor

namespace Go.Proofs.YtknpigdpepmimaaGreatDoor
open Go.RowKit
theorem idx_no : ∀ l : List UInt8, (46 : UInt8) ∉ l → Lib.index l [46] = -1
  | [], _ => rfl
  | b :: l, h => by
    simp only [List.mem_cons, not_or] at h
    unfold Lib.index
    rw [idx_no l h.2, if_neg (by simp [List.isPrefixOf, h.1])]
    rfl
theorem idx_yes (b : List UInt8) : ∀ a : List UInt8, (46 : UInt8) ∉ a → Lib.index (a ++ 46 :: b) [46] = a.length
  | [], _ => by
    show Lib.index (46 :: b) [46] = _
    unfold Lib.index
    rw [if_pos (by simp [List.isPrefixOf])]
    rfl
  | c :: a, h => by
    simp only [List.mem_cons, not_or] at h
    show Lib.index (c :: (a ++ 46 :: b)) [46] = _
    unfold Lib.index
    rw [idx_yes b a h.2, if_neg (by simp [List.isPrefixOf, h.1])]
    have : ((a.length : Int) == -1) = false := by rw [beq_eq_false_iff_ne]; omega
    rw [this]
    simp
theorem cut_no (l : List UInt8) (h : (46 : UInt8) ∉ l) : Lib.cut l [46] = (l, [], false) := by
  unfold Lib.cut
  rw [idx_no l h, if_neg (by decide)]
theorem cut_yes (a b : List UInt8) (h : (46 : UInt8) ∉ a) : Lib.cut (a ++ 46 :: b) [46] = (a, b, true) := by
  unfold Lib.cut
  rw [idx_yes b a h, if_pos (by omega)]
  simp
theorem split46 : ∀ l : List UInt8, (46 : UInt8) ∉ l ∨ ∃ a b, l = a ++ 46 :: b ∧ (46 : UInt8) ∉ a
  | [] => .inl (by simp)
  | c :: l => by
    by_cases hc : c = 46
    · exact .inr ⟨[], l, by rw [hc]; rfl, by simp⟩
    · rcases split46 l with h | ⟨a, b, rfl, h⟩
      · exact .inl (by simp only [List.mem_cons, not_or]; exact ⟨fun e => hc e.symm, h⟩)
      · exact .inr ⟨c :: a, b, rfl, by simp only [List.mem_cons, not_or]; exact ⟨fun e => hc e.symm, h⟩⟩
def dots (l : List UInt8) : Nat := l.count 46
def okN (l : List UInt8) (j : Nat) (h : j < l.length) : Prop := isD l[j] = true ∨ (l[j] = 46 ∧ 0 < j ∧ j + 1 < l.length)
theorem isD46 : isD 46 = false := by decide
theorem all_of (p : UInt8 → Bool) (l : List UInt8) (h : ∀ j (hj : j < l.length), p l[j] = true) : l.all p = true := by
  rw [List.all_eq_true]
  intro x hx
  obtain ⟨j, hj, rfl⟩ := List.mem_iff_getElem.1 hx
  exact h j hj
theorem all_not (p : UInt8 → Bool) (l : List UInt8) (j : Nat) (hj : j < l.length) (h : p l[j] = false) : l.all p = false := by
  rw [List.all_eq_false]
  exact ⟨l[j], List.getElem_mem hj, by simp [h]⟩
theorem numB_all (l : List UInt8) (h : ∀ j (hj : j < l.length), okN l j hj) : numB l = (decide (0 < l.length) && decide (l.length ≤ 20) && decide (dots l ≤ 1)) := by
  unfold numB dots
  rcases split46 l with hn | ⟨a, b, rfl, hn⟩
  · rw [cut_no l hn]
    have h1 : l.all isD = true := all_of _ l (fun j hj => by
      rcases h j hj with h' | h'
      · exact h'
      · exact absurd (h'.1 ▸ List.getElem_mem hj) hn)
    have h2 : l.count 46 = 0 := List.count_eq_zero.2 hn
    rw [h2]
    unfold digs
    rw [h1]
    cases l with
    | nil => rfl
    | cons c l => simp
  · rw [cut_yes a b hn]
    have hlen : (a ++ 46 :: b).length = a.length + 1 + b.length := by simp; omega
    have ha : a.all isD = true := all_of _ a (fun j hj => by
      have hj' : j < (a ++ 46 :: b).length := by omega
      have e : (a ++ 46 :: b)[j] = a[j] := List.getElem_append_left hj
      rcases h j hj' with h' | h'
      · rw [e] at h'; exact h'
      · rw [e] at h'; exact absurd (h'.1 ▸ List.getElem_mem hj) hn)
    have hm : 0 < a.length ∧ a.length + 1 < (a ++ 46 :: b).length := by
      have hj' : a.length < (a ++ 46 :: b).length := by omega
      have e : (a ++ 46 :: b)[a.length] = 46 := by simp
      rcases h a.length hj' with h' | h'
      · rw [e, isD46] at h'; cases h'
      · exact h'.2
    have hc : (a ++ 46 :: b).count 46 = 1 + b.count 46 := by
      rw [List.count_append, List.count_cons_self, List.count_eq_zero.2 hn]; omega
    have hd : digs a = true := by
      unfold digs
      rw [ha]
      cases a with
      | nil => simp at hm
      | cons c a => rfl
    rw [hc, hd]
    by_cases hb : (46 : UInt8) ∈ b
    · have h1 : digs b = false := by
        obtain ⟨j, hj, e⟩ := List.mem_iff_getElem.1 hb
        unfold digs
        rw [all_not isD b j hj (by rw [e]; exact isD46)]; rfl
      have h2 : 0 < b.count 46 := List.count_pos_iff.2 hb
      rw [h1, decide_eq_false (show ¬ 1 + b.count 46 ≤ 1 by omega)]
      simp
    · have h1 : digs b = true := by
        unfold digs
        have : b.all isD = true := all_of _ b (fun j hj => by
          have hj' : a.length + 1 + j < (a ++ 46 :: b).length := by omega
          have e : (a ++ 46 :: b)[a.length + 1 + j] = b[j] := by
            rw [List.getElem_append_right (by omega)]
            simp only [show a.length + 1 + j - a.length = j + 1 from by omega, List.getElem_cons_succ]
          rcases h _ hj' with h' | h'
          · rw [e] at h'; exact h'
          · rw [e] at h'; exact absurd (h'.1 ▸ List.getElem_mem hj) hb)
        rw [this]
        cases b with
        | nil => simp at hm
        | cons c b => rfl
      rw [h1, List.count_eq_zero.2 hb, decide_eq_true (show 0 < (a ++ 46 :: b).length by omega)]
      simp
theorem numB_not (l : List UInt8) (j : Nat) (hj : j < l.length) (h : ¬ okN l j hj) : numB l = false := by
  have h1 : isD l[j] = false := by cases hd : isD l[j] with
    | false => rfl
    | true => exact absurd (.inl hd) h
  unfold numB
  rcases split46 l with hn | ⟨a, b, rfl, hn⟩
  · rw [cut_no l hn]
    unfold digs
    rw [all_not isD l j hj h1]; simp
  · rw [cut_yes a b hn]
    have hlen : (a ++ 46 :: b).length = a.length + 1 + b.length := by simp; omega
    unfold digs
    rcases Nat.lt_trichotomy j a.length with hl | hl | hl
    · have e : (a ++ 46 :: b)[j] = a[j] := List.getElem_append_left hl
      rw [e] at h1
      rw [all_not isD a j hl h1]; simp
    · have e : (a ++ 46 :: b)[j] = 46 := by subst hl; simp
      have hab : a = [] ∨ b = [] := by
        cases a with
        | nil => exact .inl rfl
        | cons c a => cases b with
          | nil => exact .inr rfl
          | cons d b => exact absurd (.inr ⟨e, by rw [hl]; simp, by rw [hl, hlen]; simp⟩) h
      rcases hab with rfl | rfl <;> simp
    · obtain ⟨i, rfl⟩ : ∃ i, j = a.length + 1 + i := ⟨j - a.length - 1, by omega⟩
      have hjb : i < b.length := by omega
      have e : (a ++ 46 :: b)[a.length + 1 + i] = b[i] := by
        rw [List.getElem_append_right (by omega)]
        simp only [show a.length + 1 + i - a.length = i + 1 from by omega, List.getElem_cons_succ]
      rw [e] at h1
      rw [all_not isD b _ hjb h1]; simp
theorem dots_snoc (s : ByteArray) (k : Nat) (hk : k < s.size) : dots (s.data.toList.take (k + 1)) = dots (s.data.toList.take k) + if s[k] = 46 then 1 else 0 := by
  unfold dots
  rw [List.take_succ_eq_append_getElem (by simpa using hk), List.count_append]
  congr 1
  show List.count 46 [s[k]] = _
  rw [List.count_cons]
  simp
set_option maxHeartbeats 2000000 in
theorem number79_any (s : ByteArray) (w : World) (hs : s.size ≤ 1000) :
    Calls Tryz.prog 108 #[.string s] w fun r w' => r = .returned (.bool (numB s.data.toList)) ∧ w = w' := by
  go_enter Tryz.func108, Tryz.ntmps108
  go_wp2_with fail
  go_loop [3, 4] (fun s3 s4 => ∃ kk pp : Nat, kk ≤ s.size ∧ pp ≤ kk ∧ s4 = .int .i64 kk ∧ s3 = .int .i64 pp ∧ Aside (pp = dots (s.data.toList.take kk)) ∧ Aside (∀ (j : Nat) (hj : j < s.data.toList.length), j < kk → okN s.data.toList j hj)) (fun _ s4 => s.size - (intOf s4).toNat)
  case atStart => exact ⟨0, 0, Nat.zero_le _, Nat.le_refl _, rfl, rfl, rfl, fun j _ hj => absurd hj (Nat.not_lt_zero _)⟩
  case round =>
    obtain ⟨kk, pp, hkk, hpk, rfl, rfl, HP, HA⟩ := hrel
    by_cases hlt : kk < s.size
    · have hltz : (kk : Int) < (s.size : Int) := by omega
      have hll : kk < s.data.toList.length := by rw [len_list]; exact hlt
      have HS := Lib.hid (dots_snoc s kk hlt)
      have HG : Hid (s.data.toList[kk] = s[kk]) := rfl
      have HLL := Lib.hid (len_list s)
      by_cases hin : s[kk].toNat = 46 ∧ 0 < kk ∧ kk + 1 < s.size
      · obtain ⟨h1, h2, h3⟩ := hin
        have hc46 : s[kk] = 46 := UInt8.toNat_inj.1 h1
        have h1z : ((s[kk].toNat : Int) == 46) = true := by simp [h1]
        have h2z : (0 : Int) < (kk : Int) := by omega
        have h3z : (kk : Int) < (s.size : Int) - 1 := by omega
        have HO : Hid (okN s.data.toList kk hll) := .inr ⟨HG.out.trans hc46, h2, by rw [HLL.out]; exact h3⟩
        have HPP : Hid (pp + 1 = dots (s.data.toList.take (kk + 1))) := by show _ = _; rw [HS.out, if_pos hc46, ← HP.out]
        clear h1 hc46 HS
        go_wp2_with fail
        go_round
        case rel =>
          refine ⟨kk + 1, pp + 1, by omega, by omega, by go_num, by go_num, HPP.out, (show Aside _ from fun j hj hjk => ?_)⟩
          by_cases ee : j = kk
          · subst ee; exact HO.out
          · exact HA.out j hj (by omega)
        case measure => simp [intOf]; omega
      · have HPS : Hid (isD s[kk] = true → pp = dots (s.data.toList.take (kk + 1))) := fun hd => by
          rw [HS.out, if_neg (fun e => by rw [e, isD46] at hd; cases hd), Nat.add_zero]; exact HP.out
        have HO : Hid (isD s[kk] = true → okN s.data.toList kk hll) := fun hd => .inl (by rw [HG.out]; exact hd)
        have HN : Hid (isD s[kk] = false → numB s.data.toList = false) := fun hd => numB_not _ kk hll (fun h' => by
          rcases h' with h' | h'
          · rw [HG.out, hd] at h'; cases h'
          · exact hin ⟨by have := h'.1; rw [HG.out] at this; rw [this]; rfl, h'.2.1, by have := h'.2.2; rw [HLL.out] at this; exact this⟩)
        have HI := Lib.hid hin
        have HDG : Hid (isD s[kk] = (decide (48 ≤ s[kk].toNat) && decide (s[kk].toNat ≤ 57))) := rfl
        have HC := Lib.hid (digit95_nat s[kk].toNat)
        clear hin HS
        go_upto_region 5 with (fail)
        go_cut [25, 4, 3] (fun s25 s4 s3 wx => s25 = .bool false ∧ s4 = .int .i64 kk ∧ s3 = .int .i64 pp ∧ w = wx)
        case first =>
          by_cases h1 : s[kk].toNat = 46
          · have h1z : ((s[kk].toNat : Int) == 46) = true := by simp [h1]
            by_cases h2 : 0 < kk
            · have h2z : (0 : Int) < (kk : Int) := by omega
              have h3z : ¬ (kk : Int) < (s.size : Int) - 1 := by have := HI.out; omega
              clear h1
              go_wp2_with fail
              go_meet
              case rel => exact ⟨rfl, rfl, rfl, rfl⟩
            · obtain rfl : kk = 0 := by omega
              clear h1
              go_wp2_with fail
              go_meet
              case rel => exact ⟨rfl, rfl, rfl, rfl⟩
          · have h1z : ((s[kk].toNat : Int) == 46) = false := by simp; omega
            go_wp2_with fail
            go_meet
            case rel => exact ⟨rfl, rfl, rfl, rfl⟩
        case rest =>
          obtain ⟨rfl, rfl, rfl, rfl⟩ := hcut
          cases hd : isD s[kk] with
          | false =>
            have HNN := Lib.hid (HN.out hd)
            have HD := Lib.hid (HDG.out.symm.trans hd)
            clear hd
            go_wp2_with fail
            refine (HC.out _ s[kk].toNat_lt).mono ?_
            rw [HD.out]
            rintro e w' ⟨rfl, rfl⟩
            go_wp2_with fail
            go_ret
            rw [HNN.out]
            exact ⟨rfl, rfl⟩
          | true =>
            have HPN := Lib.hid (HPS.out hd)
            have HON := Lib.hid (HO.out hd)
            have HD := Lib.hid (HDG.out.symm.trans hd)
            clear hd
            go_wp2_with fail
            refine (HC.out _ s[kk].toNat_lt).mono ?_
            rw [HD.out]
            rintro e w' ⟨rfl, rfl⟩
            go_wp2_with fail
            go_round
            case rel =>
              refine ⟨kk + 1, pp, by omega, by omega, by go_num, rfl, HPN.out, (show Aside _ from fun j hj hjk => ?_)⟩
              by_cases ee : j = kk
              · subst ee; exact HON.out
              · exact HA.out j hj (by omega)
            case measure => simp [intOf]; omega
    · have hltz : ¬ (kk : Int) < (s.size : Int) := by omega
      obtain rfl : kk = s.size := by omega
      have HX : Hid (numB s.data.toList = (decide (0 < s.size) && decide (s.size ≤ 20) && decide (pp ≤ 1))) := by
        show numB s.data.toList = _
        rw [numB_all _ (fun j hj => HA.out j hj (by rw [len_list] at hj; exact hj)), len_list, HP.out, List.take_of_length_le (by rw [len_list]; omega)]
      clear hlt HA HP
      by_cases h1 : 0 < s.size
      · have h1z : (0 : Int) < (s.size : Int) := by omega
        by_cases h2 : s.size ≤ 20
        · have h2z : (s.size : Int) ≤ 20 := by omega
          by_cases h3 : pp ≤ 1
          · have h3z : (pp : Int) ≤ 1 := by omega
            have HY : Hid (numB s.data.toList = true) := by show numB s.data.toList = true; rw [HX.out, decide_eq_true h1, decide_eq_true h2, decide_eq_true h3]; rfl
            clear HX
            go_wp2_with fail
            go_ret
            rw [HY.out]
            exact ⟨rfl, rfl⟩
          · have h3z : ¬ (pp : Int) ≤ 1 := by omega
            have HY : Hid (numB s.data.toList = false) := by show numB s.data.toList = false; rw [HX.out, decide_eq_false h3, Bool.and_false]
            clear HX
            go_wp2_with fail
            go_ret
            rw [HY.out]
            exact ⟨rfl, rfl⟩
        · have h2z : ¬ (s.size : Int) ≤ 20 := by omega
          have HY : Hid (numB s.data.toList = false) := by show numB s.data.toList = false; rw [HX.out, decide_eq_false h2, Bool.and_false]; rfl
          clear HX
          go_wp2_with fail
          go_ret
          rw [HY.out]
          exact ⟨rfl, rfl⟩
      · have h1z : ¬ (0 : Int) < (s.size : Int) := by omega
        have HY : Hid (numB s.data.toList = false) := by show numB s.data.toList = false; rw [HX.out, decide_eq_false h1]; rfl
        clear HX
        go_wp2_with fail
        go_ret
        rw [HY.out]
        exact ⟨rfl, rfl⟩
end Go.Proofs.YtknpigdpepmimaaGreatDoor
