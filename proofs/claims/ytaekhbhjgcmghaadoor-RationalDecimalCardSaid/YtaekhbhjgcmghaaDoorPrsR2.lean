/- Contract of the reference's reduced. -/
import Derived.Test.YtaekhbhjgcmghaaDoorPrsR
import Derived.Lib.ConvBytes
import Derived.Deep.CutBlock
import Derived.Deep.DeepCutAuto
namespace Go.Proofs.YtaekhbhjgcmghaaDoor
open Go.RowKit

theorem BR.conv (w : World) (l : List UInt8) : BR (Lib.bytesWorld w 5 ⟨l.toArray⟩) w.heap.size 0 l := by
  refine ⟨by rw [Lib.bytesWorld_size]; omega, fun j hj => ?_⟩
  have := Lib.bytesWorld_cell w 5 ⟨l.toArray⟩ j (by rw [size_mk]; exact hj)
  rw [Nat.zero_add, this]
  simp [hj]
theorem bytes_below (w : World) (s : ByteArray) : Below w.heap.size w (Lib.bytesWorld w 5 s) :=
  ⟨rfl, rfl, rfl, by rw [Lib.bytesWorld_size]; omega, fun i hi => Lib.bytesWorld_at_old w 5 s i hi⟩
theorem u8_sub (d : Nat) (h : d ≤ 9) : IntKind.u8.wrap (48 + (d : Int) - 48) = (d : Int) := by
  simp [IntKind.wrap, IntKind.signed, IntKind.bits]; omega
theorem last_at (l : List UInt8) (hpos : 0 < l.length) (p : Nat) (h : 10 % p = 0) (hd : ∀ c ∈ l, isD c = true) : valD l % p = (l[l.length - 1]'(by omega)).toNat % 48 % p := by
  obtain ⟨a, c, rfl⟩ : ∃ a c, l = a ++ [c] := ⟨l.dropLast, l.getLast (List.length_pos_iff.1 hpos), (List.dropLast_concat_getLast _).symm⟩
  have hc := (isD_iff c).1 (hd c (by simp))
  have e : (a ++ [c])[(a ++ [c]).length - 1]'(by simp) = c := by simp
  rw [e, val_snoc]
  have : c.toNat % 48 = c.toNat - 48 := by omega
  rw [this]
  obtain ⟨q, hq⟩ : ∃ q, 10 = p * q := ⟨10 / p, by have := Nat.div_add_mod 10 p; omega⟩
  rw [hq, Nat.mul_assoc, Nat.mul_add_mod]
/-- what is left of the digits of the reference -/
theorem ans_ref (v k : Nat) : mk ((num2 v k : Nat) : Int) ((2 ^ twos v k * 5 ^ fives v k : Nat) : Int) = ansQ v k := by
  obtain ⟨e1, e2, _⟩ := num2_spec v k
  have h10 : 0 < 10 ^ k := Nat.pow_pos (by decide)
  have hg : 0 < 2 ^ (k - twos v k) * 5 ^ (k - fives v k) := Nat.mul_pos (Nat.pow_pos (by decide)) (Nat.pow_pos (by decide))
  rw [ansQ_mk, ← mk_scale _ _ _ hg, ← e1, ← e2]
/-- what the reference finds out of the digits -/
structure Fnr (l : List UInt8) (k : Nat) (v t f : Nat) : Prop where
  val : v = num2 (valD l) k
  tw : t = twos (valD l) k
  fi : f = fives (valD l) k
section
variable {l : List UInt8} {kk v t f : Nat}
theorem Fnr.no_num (h : Fnr l kk v t f) (hn : 2147483647 < v) : ansQ (valD l) kk = ⟨0, 0, 2⟩ := ans_no_num (by rw [← h.val]; omega)
theorem Fnr.no_two (h : Fnr l kk v t f) {k : Nat} (hk : k ≤ t) (h2 : 2147483647 < 2 ^ k) : ansQ (valD l) kk = ⟨0, 0, 2⟩ := ans_no_den (pow_far h2 (by rw [← h.tw]; exact hk))
theorem Fnr.no_five (h : Fnr l kk v t f) {k : Nat} (hk : k ≤ f) (h2 : 2147483647 < 2 ^ t * 5 ^ k) : ansQ (valD l) kk = ⟨0, 0, 2⟩ := by
  rw [h.tw] at h2; exact ans_no_den (pow_far5 h2 (by rw [← h.fi]; exact hk))
theorem fnr_yes (h : Fnr l kk v t f) : mk ((v : Nat) : Int) ((2 ^ t * 5 ^ f : Nat) : Int) = ansQ (valD l) kk := by
  rw [h.val, h.tw, h.fi]
  exact ans_ref _ _
end
theorem take_valL (l : List UInt8) (k : Nat) (h : k < l.length) : valD (l.take (k + 1)) = 10 * valD (l.take k) + (l[k].toNat - 48) := by
  rw [List.take_succ_eq_append_getElem h, val_snoc]
theorem take_ltL (l : List UInt8) (k : Nat) (h : ∀ c ∈ l, isD c = true) : valD (l.take k) < 10 ^ (l.take k).length := val_lt _ fun c hc => h c (List.mem_of_mem_take hc)

set_option maxRecDepth 100000 in
set_option maxHeartbeats 1000000 in
theorem reduced_any (l : List UInt8) (kk : Nat) (w : World) (hl : l.length ≤ 100) (h1 : 0 < l.length) (hk60 : kk ≤ 60) (hd : ∀ c ∈ l, isD c = true) :
    Calls Tryd.prog 59 #[.string ⟨l.toArray⟩, .int .i64 kk] w fun e w' => e = .returned (ansQ (valD l) kk).val ∧ Below w.heap.size w w' := by
  have HD := Lib.hid hd
  have hcv := fun w => Lib.run_convert_string_bytes (P := Tryd.prog) w 9 92 5 ⟨l.toArray⟩ Tryd.underlying9 Tryd.underlying92 Tryd.underlying5
  have hsz : (⟨l.toArray⟩ : ByteArray).size = l.length := size_mk l
  rw [hsz] at hcv
  clear hd
  go_enter Tryd.func59, Tryd.ntmps59
  go_upto_region 3 with (fail)
  go_wp2_with fail
  go_loopg [6, 8] kk (fun gg s6 s8 wr => ∃ (k : Nat) (l' : List UInt8) (g off cap : Nat), k ≤ gg ∧ k ≤ kk ∧ s6 = .int .i64 k ∧ s8 = .slice (some ⟨g, off, none⟩) l'.length cap ∧ l'.length ≤ cap ∧ Aside (l'.length = l.length) ∧ Aside (BR wr g off l') ∧ Aside (∀ c ∈ l', isD c = true) ∧ Aside (shL 2 kk l = shL 2 k l') ∧ Aside (Below (w.alloc (.cells #[.int .i64 0, .int .i64 0] 28)).heap.size (w.alloc (.cells #[.int .i64 0, .int .i64 0] 28)) wr))
  case atStart => exact ⟨kk, l, w.heap.size + 1, 0, _, Nat.le_refl _, Nat.le_refl _, rfl, rfl, grownCap_ge _ _ _ _, rfl, by have := BR.conv (w.alloc (.cells #[.int .i64 0, .int .i64 0] 28)) l; rw [World.size_alloc] at this; exact this, HD.out, rfl, bytes_below _ _⟩
  case round =>
    obtain ⟨k, l', g, off, cap, hgg, hkk, rfl, rfl, hcap, HLL, HBR, HDD, HE, HB⟩ := hrel
    have hll := HLL.out
    have h100 : l'.length ≤ 100 := by omega
    have hne' : l' ≠ [] := fun e => by rw [e] at hll; simp at hll; omega
    have HNE' := Lib.hid hne'
    have hlz : 0 < l'.length := by omega
    have hl0 : l'.length - 1 < l'.length := by omega
    have HLA := Lib.hid (last_at l' hlz 2 (by decide) HDD.out)
    obtain ⟨h48, h57⟩ := (isD_iff _).1 (HDD.out (l'[l'.length - 1]) (List.getElem_mem hl0))
    have hcell := HBR.out.cell (l'.length - 1) hl0
    clear hne'
    obtain ⟨d, hdd⟩ : ∃ d : Nat, d = l'[l'.length - 1].toNat - 48 := ⟨_, rfl⟩
    have hd9 : d ≤ 9 := by omega
    have x1 : (l'[l'.length - 1].toNat : Int) = 48 + (d : Int) := by omega
    have HLD : Hid (valD l' % 2 = d % 2) := by
      show valD l' % 2 = d % 2
      rw [HLA.out]; congr 1; omega
    rw [x1] at hcell
    clear hdd h48 h57 x1 HLA
    have hu := u8_sub d hd9
    clear hll
    obtain ⟨n, hn⟩ : ∃ n, n = l'.length := ⟨_, rfl⟩
    rw [← hn] at hl0 hcell hcap h100 hlz ⊢
    have HN := Lib.hid hn
    clear hn
    go_upto_region 3 with (fail)
    go_cut [30] (fun c wx => c = .bool (decide (0 < k) && decide (d % 2 = 0)) ∧ wr = wx)
    case first =>
      by_cases hk0 : 0 < k
      · have hkz : (0 : Int) < (k : Int) := by omega
        by_cases hm : d % 2 = 0
        · have hmz : ((d : Int) % 2 == 0) = true := by rw [beq_iff_eq]; omega
          go_wp2_with fail
          go_meet
          case rel => exact ⟨by rw [decide_eq_true hk0, decide_eq_true hm]; rfl, rfl⟩
        · have hmz : ((d : Int) % 2 == 0) = false := by rw [beq_eq_false_iff_ne]; omega
          go_wp2_with fail
          go_meet
          case rel => exact ⟨by rw [decide_eq_true hk0, decide_eq_false hm]; rfl, rfl⟩
      · have hkz : ¬ (0 : Int) < (k : Int) := by omega
        go_wp2_with fail
        go_meet
        case rel => exact ⟨by rw [decide_eq_false hk0]; rfl, rfl⟩
    case rest =>
      obtain ⟨rfl, rfl⟩ := hcut
      clear hcell hu
      cases hb : (decide (0 < k) && decide (d % 2 = 0)) with
      | true =>
        simp only [Bool.and_eq_true, decide_eq_true_eq] at hb
        obtain ⟨hb1, hb2⟩ := hb
        have HM : Hid (valD l' % 2 = 0) := by show valD l' % 2 = 0; rw [HLD.out]; exact hb2
        obtain ⟨k, rfl⟩ : ∃ j, k = j + 1 := ⟨k - 1, by omega⟩
        rw [HN.out] at h100 ⊢
        go_wp2_with fail
        refine (divided_any l' 2 g off cap _ (by omega) (by decide) (by decide) HDD.out HNE'.out HBR.out).mono ?_
        rintro e w2 ⟨g2, cap2, rfl, hc2, hbr2, hb2⟩
        have HBR2 := Lib.hid hbr2
        have HB2 := Lib.hid (res2t HB.out hb2)
        have HL2 := Lib.hid (divL_len 2 l' 0)
        clear hbr2 hb2 HB HBR
        go_wp2_with fail
        go_roundg k
        case measure => omega
        case rel =>
          refine ⟨k, divL 2 0 l', g2, 0, cap2, Nat.le_refl _, by omega, by go_num, rfl, hc2, HL2.out.trans HLL.out, HBR2.out, divL_isD 2 (by decide) l' 0 (by decide) HDD.out, ?_, HB2.out⟩
          show shL 2 kk l = _
          rw [HE.out, shL, if_pos HM.out]
      | false =>
        have HX : Hid (shL 2 kk l = (l', k)) := by
          show shL 2 kk l = (l', k)
          rw [HE.out]
          cases k with
          | zero => rfl
          | succ k =>
            rw [shL, if_neg]
            intro h
            rw [HLD.out] at h
            rw [decide_eq_true (Nat.succ_pos k), decide_eq_true h] at hb
            cases hb
        clear hb HE HLD
        rw [HN.out] at hcap h100 ⊢
        clear HN
        go_wp2_with fail
        have HX1 := HX
        have HDD1 := HDD
        obtain ⟨N1, hN1⟩ : ∃ N, N = l' := ⟨_, rfl⟩
        obtain ⟨t, htt⟩ : ∃ t, t = k := ⟨_, rfl⟩
        have hkt : t ≤ kk := by omega
        rw [← hN1, ← htt] at HX1
        rw [← hN1] at HDD1 HDD HBR HLL h100 hcap ⊢
        rw [← htt]
        clear hN1 htt HX HNE' hl0 hlz
        go_loopg [7, 8] kk (fun gg s7 s8 wr => ∃ (k : Nat) (l' : List UInt8) (g off cap : Nat), k ≤ gg ∧ k ≤ kk ∧ s7 = .int .i64 k ∧ s8 = .slice (some ⟨g, off, none⟩) l'.length cap ∧ l'.length ≤ cap ∧ Aside (l'.length = l.length) ∧ Aside (BR wr g off l') ∧ Aside (∀ c ∈ l', isD c = true) ∧ Aside (shL 5 kk N1 = shL 5 k l') ∧ Aside (Below (w.alloc (.cells #[.int .i64 0, .int .i64 0] 28)).heap.size (w.alloc (.cells #[.int .i64 0, .int .i64 0] 28)) wr))
        case atStart => exact ⟨kk, N1, g, off, cap, Nat.le_refl _, Nat.le_refl _, rfl, rfl, hcap, HLL.out, HBR.out, HDD.out, rfl, HB.out⟩
        case round =>
          obtain ⟨k, l', g, off, cap, hgg, hkk, rfl, rfl, hcap, HLL, HBR, HDD, HE, HB⟩ := hrel
          have hll := HLL.out
          have h100 : l'.length ≤ 100 := by omega
          have hne' : l' ≠ [] := fun e => by rw [e] at hll; simp at hll; omega
          have HNE' := Lib.hid hne'
          have hlz : 0 < l'.length := by omega
          have hl0 : l'.length - 1 < l'.length := by omega
          have HLA := Lib.hid (last_at l' hlz 5 (by decide) HDD.out)
          obtain ⟨h48, h57⟩ := (isD_iff _).1 (HDD.out (l'[l'.length - 1]) (List.getElem_mem hl0))
          have hcell := HBR.out.cell (l'.length - 1) hl0
          clear hne'
          obtain ⟨d, hdd⟩ : ∃ d : Nat, d = l'[l'.length - 1].toNat - 48 := ⟨_, rfl⟩
          have hd9 : d ≤ 9 := by omega
          have x1 : (l'[l'.length - 1].toNat : Int) = 48 + (d : Int) := by omega
          have HLD : Hid (valD l' % 5 = d % 5) := by
            show valD l' % 5 = d % 5
            rw [HLA.out]; congr 1; omega
          rw [x1] at hcell
          clear hdd h48 h57 x1 HLA
          have hu := u8_sub d hd9
          clear hll
          obtain ⟨n, hn⟩ : ∃ n, n = l'.length := ⟨_, rfl⟩
          rw [← hn] at hl0 hcell hcap h100 hlz ⊢
          have HN := Lib.hid hn
          clear hn
          go_upto_region 6 with (fail)
          go_cut [47] (fun c wx => c = .bool (decide (0 < k) && decide (d % 5 = 0)) ∧ wr = wx)
          case first =>
            by_cases hk0 : 0 < k
            · have hkz : (0 : Int) < (k : Int) := by omega
              by_cases hm : d % 5 = 0
              · have hmz : ((d : Int) % 5 == 0) = true := by rw [beq_iff_eq]; omega
                go_wp2_with fail
                go_meet
                case rel => exact ⟨by rw [decide_eq_true hk0, decide_eq_true hm]; rfl, rfl⟩
              · have hmz : ((d : Int) % 5 == 0) = false := by rw [beq_eq_false_iff_ne]; omega
                go_wp2_with fail
                go_meet
                case rel => exact ⟨by rw [decide_eq_true hk0, decide_eq_false hm]; rfl, rfl⟩
            · have hkz : ¬ (0 : Int) < (k : Int) := by omega
              go_wp2_with fail
              go_meet
              case rel => exact ⟨by rw [decide_eq_false hk0]; rfl, rfl⟩
          case rest =>
            obtain ⟨rfl, rfl⟩ := hcut
            clear hcell hu
            cases hb : (decide (0 < k) && decide (d % 5 = 0)) with
            | true =>
              simp only [Bool.and_eq_true, decide_eq_true_eq] at hb
              obtain ⟨hb1, hb2⟩ := hb
              have HM : Hid (valD l' % 5 = 0) := by show valD l' % 5 = 0; rw [HLD.out]; exact hb2
              obtain ⟨k, rfl⟩ : ∃ j, k = j + 1 := ⟨k - 1, by omega⟩
              rw [HN.out] at h100 ⊢
              go_wp2_with fail
              refine (divided_any l' 5 g off cap _ (by omega) (by decide) (by decide) HDD.out HNE'.out HBR.out).mono ?_
              rintro e w2 ⟨g2, cap2, rfl, hc2, hbr2, hb2⟩
              have HBR2 := Lib.hid hbr2
              have HB2 := Lib.hid (res2t HB.out hb2)
              have HL2 := Lib.hid (divL_len 5 l' 0)
              clear hbr2 hb2 HB HBR
              go_wp2_with fail
              go_roundg k
              case measure => omega
              case rel =>
                refine ⟨k, divL 5 0 l', g2, 0, cap2, Nat.le_refl _, by omega, by go_num, rfl, hc2, HL2.out.trans HLL.out, HBR2.out, divL_isD 5 (by decide) l' 0 (by decide) HDD.out, ?_, HB2.out⟩
                show shL 5 kk N1 = _
                rw [HE.out, shL, if_pos HM.out]
            | false =>
              have HX : Hid (shL 5 kk N1 = (l', k)) := by
                show shL 5 kk N1 = (l', k)
                rw [HE.out]
                cases k with
                | zero => rfl
                | succ k =>
                  rw [shL, if_neg]
                  intro h
                  rw [HLD.out] at h
                  rw [decide_eq_true (Nat.succ_pos k), decide_eq_true h] at hb
                  cases hb
              clear hb HE HLD
              rw [HN.out] at hcap h100 ⊢
              clear HN
              go_wp2_with fail
              have HF : Hid (Fnr l kk (valD l') t k) := by
                show Fnr l kk (valD l') t k
                have s1 := shL_spec 2 (by decide) kk l HD.out
                have s2 := shL_spec 5 (by decide) kk N1 HDD1.out
                rw [HX1.out] at s1
                rw [HX.out] at s2
                simp only at s1 s2
                refine ⟨?_, ?_, ?_⟩
                · rw [s2.2.2.1, s1.2.2.1]; rfl
                · rw [s1.2.2.2]; rfl
                · rw [s2.2.2.2, s1.2.2.1]; rfl
              have ht : t ≤ 60 := by omega
              have hf : k ≤ 60 := by omega
              obtain ⟨v, hv⟩ : ∃ v, v = valD l' := ⟨_, rfl⟩
              rw [← hv] at HF
              have HV : Hid (valD l' = v) := hv.symm
              obtain ⟨N, hN⟩ : ∃ N, N = l' := ⟨_, rfl⟩
              rw [← hN] at HBR HDD HV hcap h100 HLL ⊢
              have hll := HLL.out
              clear HLL
              have hNl : N.length ≤ l.length ∧ l.length ≤ N.length := ⟨by omega, by omega⟩
              clear hll
              obtain ⟨f, hff⟩ : ∃ f, f = k := ⟨_, rfl⟩
              rw [← hff] at HF hf ⊢
              clear hv hN hff HX HX1 HDD1 hkk hgg HNE' hl0 hlz
              go_loopg [8] l.length (fun gg s8 wx => ∃ (l'' : List UInt8) (g off cap : Nat), l''.length ≤ gg ∧ s8 = .slice (some ⟨g, off, none⟩) l''.length cap ∧ l''.length ≤ cap ∧ 0 < l''.length ∧ l''.length ≤ l.length ∧ wr = wx ∧ Aside (BR wr g off l'') ∧ Aside (∀ c ∈ l'', isD c = true) ∧ Aside (valD l'' = v))
              case atStart => exact ⟨N, g, off, cap, by omega, rfl, hcap, by omega, by omega, rfl, HBR.out, HDD.out, HV.out⟩
              case round =>
                obtain ⟨l'', g, off, cap, hgg, rfl, hcap, hl0, hll2, rfl, HBR, HDD, HV⟩ := hrel
                have hcell := HBR.out.cell 0 hl0
                obtain ⟨n, hn⟩ : ∃ n, n = l''.length := ⟨_, rfl⟩
                obtain ⟨c0, hc0⟩ : ∃ c0, c0 = l''[0] := ⟨_, rfl⟩
                rw [← hc0] at hcell
                rw [← hn] at hcap hl0 hll2 hgg ⊢
                have HN := Lib.hid hn
                have HC := Lib.hid hc0
                clear hn hc0
                rw [Nat.add_zero] at hcell
                go_upto_region 9 with (fail)
                go_cut [60] (fun c wx => c = .bool (decide (1 < n) && (c0 == 48)) ∧ wr = wx)
                case first =>
                  by_cases hk0 : 1 < n
                  · have hkz : (1 : Int) < (n : Int) := by omega
                    cases hm : (c0 == 48)
                    case true =>
                      have hmz : ((c0.toNat : Int) == 48) = true := by rw [← hm]; exact toNatZ c0 48
                      go_wp2_with fail
                      go_meet
                      case rel => exact ⟨by rw [decide_eq_true hk0, hm]; rfl, rfl⟩
                    case false =>
                      have hmz : ((c0.toNat : Int) == 48) = false := by rw [← hm]; exact toNatZ c0 48
                      go_wp2_with fail
                      go_meet
                      case rel => exact ⟨by rw [decide_eq_true hk0, hm]; rfl, rfl⟩
                  · have hkz : ¬ (1 : Int) < (n : Int) := by omega
                    go_wp2_with fail
                    go_meet
                    case rel => exact ⟨by rw [decide_eq_false hk0]; rfl, rfl⟩
                case rest =>
                  obtain ⟨rfl, rfl⟩ := hcut
                  clear hcell
                  cases hb : (decide (1 < n) && (c0 == 48)) with
                  | true =>
                    simp only [Bool.and_eq_true, decide_eq_true_eq, beq_iff_eq] at hb
                    obtain ⟨hb1, rfl⟩ := hb
                    have hcz : ¬ (cap : Int) = 1 := by omega
                    have hcn : ¬ cap = 1 := by omega
                    obtain ⟨tl, htl⟩ : ∃ tl, l'' = 48 :: tl := by
                      cases l'' with
                      | nil => have := HN.out; simp at this; omega
                      | cons a tl => exact ⟨tl, by have := HC.out; simp at this; rw [← this]⟩
                    have hnt : n = tl.length + 1 := by rw [HN.out, htl]; simp
                    have HBRt : Hid (BR wr g (off + 1) tl) := by show BR wr g (off + 1) tl; have := HBR.out; rw [htl] at this; exact this.tail
                    have HDt : Hid (∀ c ∈ tl, isD c = true) := fun c hc => HDD.out c (by rw [htl]; simp [hc])
                    have HVt : Hid (valD tl = v) := by show valD tl = v; rw [← HV.out, htl, val_zero]
                    subst hnt
                    clear htl HBR HDD HV HN HC
                    go_wp2_with fail
                    go_roundg (tl.length)
                    case measure => omega
                    case rel => exact ⟨tl, g, off + 1, cap - 1, Nat.le_refl _, by first | rfl | (congr 1; omega) | (simp; omega), by omega, by omega, by omega, rfl, HBRt.out, HDt.out, HVt.out⟩
                  | false =>
                    have HH : Hid (10 < n → 10000000000 ≤ v) := fun h10 => by
                      have h1 : decide (1 < n) = true := decide_eq_true (by omega)
                      rw [h1, Bool.true_and, beq_eq_false_iff_ne] at hb
                      cases l'' with
                      | nil => have := HN.out; simp at this; omega
                      | cons a tl =>
                        have hca : c0 = a := by have := HC.out; simpa using this
                        have hg := val_ge a tl (HDD.out a (by simp)) (by rw [← hca]; exact hb)
                        have hlen : 10 ≤ tl.length := by have := HN.out; simp at this; omega
                        have h2 : 10 ^ 10 ≤ 10 ^ tl.length := Nat.pow_le_pow_right (by decide) hlen
                        have := HV.out
                        omega
                    clear hb HC
                    rw [HN.out] at hcap hl0 hll2 HH ⊢
                    clear HN
                    by_cases h10 : 10 < l''.length
                    · have h10z : (10 : Int) < (l''.length : Int) := by omega
                      have HR : Hid (ansQ (valD l) kk = ⟨0, 0, 2⟩) := HF.out.no_num (by have := HH.out h10; omega)
                      have HBX := HB
                      obtain ⟨⟨q0, q1⟩, qf, qs, hB1⟩ := res2 HBX.out
                      have HBB := Lib.hid hB1
                      clear hB1
                      go_wp2_with fail
                      refine bodyPost_ret (v := .tuple #[.agg #[.int .i64 0, .int .i64 0], .int .i64 2]) (by simp [results, Tryd.results59, go_sem, q0, q1]) rfl ⟨?_, ?_⟩
                      · rw [HR.out]; rfl
                      · exact (HBB.out.setCell (Nat.le_refl _) _).setCell (Nat.le_refl _) _
                    · have h10z : ¬ (10 : Int) < (l''.length : Int) := by omega
                      clear HH
                      go_wp2_with fail
                      go_loopg [9, 11] l''.length (fun gg s9 s11 wx => ∃ k : Nat, k ≤ l''.length ∧ l''.length - k ≤ gg ∧ wr = wx ∧ s11 = .int .i64 k ∧ s9 = .int .i64 (valD (l''.take k) : Nat))
                      case atStart => exact ⟨0, Nat.zero_le _, by omega, rfl, rfl, rfl⟩
                      case round =>
                        obtain ⟨k, hk, hgg3, rfl, rfl, rfl⟩ := hrel
                        have hvl := take_ltL l'' k HDD.out
                        have hp10 := pow_le10 (k := (l''.take k).length) (by rw [List.length_take]; omega)
                        by_cases hlt : k < l''.length
                        · have hltz : (k : Int) < (l''.length : Int) := by omega
                          obtain ⟨h48, h57⟩ := (isD_iff _).1 (HDD.out l''[k] (List.getElem_mem hlt))
                          have hcell := HBR.out.cell k hlt
                          have HTV := Lib.hid (take_valL l'' k hlt)
                          obtain ⟨v1, hv⟩ : ∃ v, v = valD (l''.take k) := ⟨_, rfl⟩
                          rw [← hv] at hvl HTV ⊢
                          have hvb : v1 ≤ 10000000000 := by omega
                          clear hvl hp10 hv
                          obtain ⟨d, hdd⟩ : ∃ d : Nat, d = l''[k].toNat - 48 := ⟨_, rfl⟩
                          rw [← hdd] at HTV
                          have x1 : (l''[k].toNat : Int) = 48 + (d : Int) := by omega
                          rw [x1] at hcell
                          have hd9 : d ≤ 9 := by omega
                          have hu := u8_sub d hd9
                          clear hdd h48 h57 x1
                          go_wp2_with fail
                          go_roundg (l''.length - (k + 1))
                          case measure => omega
                          case rel => exact ⟨k + 1, by omega, by omega, rfl, by go_num, by rw [HTV.out]; go_num⟩
                        · have hltz : ¬ (k : Int) < (l''.length : Int) := by omega
                          obtain rfl : k = l''.length := by omega
                          rw [List.take_length, HV.out] at hvl
                          rw [List.take_length] at hp10
                          rw [List.take_length, HV.out]
                          have hvb : v ≤ 10000000000 := by omega
                          clear hvl hp10 HBR HDD HV
                          go_wp2_with fail
                          go_loopg [10, 12] t (fun gg s10 s12 wx => ∃ k : Nat, k ≤ t ∧ t - k ≤ gg ∧ wr = wx ∧ s12 = .int .i64 k ∧ s10 = .int .i64 ((2 ^ k : Nat) : Int) ∧ 2 ^ k ≤ 2147483647)
                          case atStart => exact ⟨0, Nat.zero_le _, by omega, rfl, rfl, rfl, by decide⟩
                          case round =>
                            obtain ⟨k, hk, hgg4, rfl, rfl, rfl, hk2⟩ := hrel
                            by_cases hlt : k < t
                            · have hltz : (k : Int) < (t : Int) := by omega
                              have hpw : 2 ^ (k + 1) = 2 ^ k * 2 := Nat.pow_succ 2 k
                              by_cases hbig : 2147483647 < 2 ^ (k + 1)
                              · have HR : Hid (ansQ (valD l) kk = ⟨0, 0, 2⟩) := HF.out.no_two hlt hbig
                                obtain ⟨x, hx⟩ : ∃ x, x = 2 ^ k := ⟨_, rfl⟩
                                rw [hpw] at hbig
                                rw [← hx] at hbig hk2 ⊢
                                clear hpw hx
                                have hbz : (2147483647 : Int) < (x : Int) * 2 := by omega
                                have HBX := HB
                                obtain ⟨⟨q0, q1⟩, qf, qs, hB1⟩ := res2 HBX.out
                                have HBB := Lib.hid hB1
                                clear hB1
                                go_wp2_with fail
                                refine bodyPost_ret (v := .tuple #[.agg #[.int .i64 0, .int .i64 0], .int .i64 2]) (by simp [results, Tryd.results59, go_sem, q0, q1]) rfl ⟨?_, ?_⟩
                                · rw [HR.out]; rfl
                                · exact (HBB.out.setCell (Nat.le_refl _) _).setCell (Nat.le_refl _) _
                              · have HPW := Lib.hid hpw
                                obtain ⟨x, hx⟩ : ∃ x, x = 2 ^ k := ⟨_, rfl⟩
                                rw [hpw] at hbig
                                rw [← hx] at hbig hk2 HPW ⊢
                                clear hpw hx
                                have hbz : ¬ (2147483647 : Int) < (x : Int) * 2 := by omega
                                go_wp2_with fail
                                go_roundg (t - (k + 1))
                                case measure => omega
                                case rel => exact ⟨k + 1, by omega, by omega, rfl, by go_num, by rw [HPW.out]; go_num, by rw [HPW.out]; omega⟩
                            · have hltz : ¬ (k : Int) < (t : Int) := by omega
                              obtain rfl : k = t := by omega
                              go_wp2_with fail
                              go_loopg [10, 13] f (fun gg s10 s13 wx => ∃ j : Nat, j ≤ f ∧ f - j ≤ gg ∧ wr = wx ∧ s13 = .int .i64 j ∧ s10 = .int .i64 ((2 ^ k * 5 ^ j : Nat) : Int) ∧ 2 ^ k * 5 ^ j ≤ 2147483647)
                              case atStart => exact ⟨0, Nat.zero_le _, by omega, rfl, rfl, by simp, by simpa using hk2⟩
                              case round =>
                                obtain ⟨j, hj, hgg5, rfl, rfl, rfl, hj2⟩ := hrel
                                by_cases hlt2 : j < f
                                · have hltz2 : (j : Int) < (f : Int) := by omega
                                  have hpw : 2 ^ k * 5 ^ (j + 1) = 2 ^ k * 5 ^ j * 5 := by rw [Nat.pow_succ, Nat.mul_assoc]
                                  by_cases hbig : 2147483647 < 2 ^ k * 5 ^ (j + 1)
                                  · have HR : Hid (ansQ (valD l) kk = ⟨0, 0, 2⟩) := HF.out.no_five hlt2 hbig
                                    obtain ⟨x, hx⟩ : ∃ x, x = 2 ^ k * 5 ^ j := ⟨_, rfl⟩
                                    rw [hpw] at hbig
                                    rw [← hx] at hbig hj2 ⊢
                                    clear hpw hx hk2
                                    have hbz : (2147483647 : Int) < (x : Int) * 5 := by omega
                                    have HBX := HB
                                    obtain ⟨⟨q0, q1⟩, qf, qs, hB1⟩ := res2 HBX.out
                                    have HBB := Lib.hid hB1
                                    clear hB1
                                    go_wp2_with fail
                                    refine bodyPost_ret (v := .tuple #[.agg #[.int .i64 0, .int .i64 0], .int .i64 2]) (by simp [results, Tryd.results59, go_sem, q0, q1]) rfl ⟨?_, ?_⟩
                                    · rw [HR.out]; rfl
                                    · exact (HBB.out.setCell (Nat.le_refl _) _).setCell (Nat.le_refl _) _
                                  · have HPW := Lib.hid hpw
                                    obtain ⟨x, hx⟩ : ∃ x, x = 2 ^ k * 5 ^ j := ⟨_, rfl⟩
                                    rw [hpw] at hbig
                                    rw [← hx] at hbig hj2 HPW ⊢
                                    clear hpw hx hk2
                                    have hbz : ¬ (2147483647 : Int) < (x : Int) * 5 := by omega
                                    go_wp2_with fail
                                    go_roundg (f - (j + 1))
                                    case measure => omega
                                    case rel => exact ⟨j + 1, by omega, by omega, rfl, by go_num, by rw [HPW.out]; go_num, by rw [HPW.out]; omega⟩
                                · have hltz2 : ¬ (j : Int) < (f : Int) := by omega
                                  obtain rfl : j = f := by omega
                                  have HR : Hid (mk (v : Int) ((2 ^ k * 5 ^ j : Nat) : Int) = ansQ (valD l) kk) := fnr_yes HF.out
                                  obtain ⟨x, hx⟩ : ∃ x, x = 2 ^ k * 5 ^ j := ⟨_, rfl⟩
                                  rw [← hx] at hj2 HR ⊢
                                  clear hx hk2
                                  go_wp2_with fail
                                  refine (refMake_any (v : Int) (x : Int) _ (by omega) (by omega) (by omega) (by omega)).mono ?_
                                  rw [HR.out]
                                  rintro e w2 ⟨rfl, hb2⟩
                                  have HBX := Lib.hid (res2t HB.out hb2)
                                  clear hb2 HB
                                  obtain ⟨rr, hrr⟩ : ∃ r, r = ansQ (valD l) kk := ⟨_, rfl⟩
                                  rw [← hrr]
                                  have HRR := Lib.hid hrr
                                  clear hrr HR
                                  obtain ⟨rn, rd', re⟩ := rr
                                  simp only [Res.val]
                                  obtain ⟨⟨q0, q1⟩, qf, qs, hB1⟩ := res2 HBX.out
                                  have HBB := Lib.hid hB1
                                  clear hB1
                                  go_wp2_with fail
                                  refine bodyPost_ret (v := .tuple #[.agg #[.int .i64 rn, .int .i64 rd'], .int .i64 re]) (by simp [results, Tryd.results59, go_sem, q0, q1]) rfl ⟨?_, ?_⟩
                                  · rw [← HRR.out]; rfl
                                  · exact (HBB.out.setCell (Nat.le_refl _) _).setCell (Nat.le_refl _) _
end Go.Proofs.YtaekhbhjgcmghaaDoor
