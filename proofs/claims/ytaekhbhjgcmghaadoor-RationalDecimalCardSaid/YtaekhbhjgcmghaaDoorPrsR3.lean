/- Contract of the reference's Parse. -/
import Derived.Test.YtaekhbhjgcmghaaDoorPrsR2
namespace Go.Proofs.YtaekhbhjgcmghaaDoor
open Go.RowKit

def join (w r : List UInt8) (pt : Bool) : List UInt8 := if pt then w ++ 46 :: r else w
theorem join_cons (c : UInt8) (w r : List UInt8) (pt : Bool) : join (c :: w) r pt = c :: join w r pt := by cases pt <;> rfl
theorem join_cut (l : List UInt8) : l = join (Lib.cut l [46]).1 (Lib.cut l [46]).2.1 (Lib.cut l [46]).2.2 := by
  rcases cut_point l with ⟨w, r, e, e', _⟩ | ⟨e, _⟩
  · rw [e]; exact e'
  · rw [e]; rfl
theorem no_point {w : List UInt8} (h : digs w = true) : (46 : UInt8) ∉ w := fun hm => by
  have := ((digs_iff w).1 h).2 _ hm
  revert this; decide
theorem cut_join {w r : List UInt8} {pt : Bool} (h : digs w = true) (hr : pt = false → r = []) : Lib.cut (join w r pt) [46] = (w, r, pt) := by
  cases pt with
  | true => exact cut_unique (no_point h)
  | false =>
    rw [hr rfl]
    rcases cut_point w with ⟨a, b, _, e', _⟩ | ⟨e, _⟩
    · exact absurd (by rw [e']; simp) (no_point h)
    · exact e
/-- may a zero ahead be taken away? -/
def strip (S : ByteArray) : Bool := decide (1 < S.size) && (S.data.toList[0]? == some 48) && !(S.data.toList[1]? == some 46)
theorem get_some (S : ByteArray) (k : Nat) (h : k < S.size) : S.data.toList[k]? = some S[k] := by
  rw [List.getElem?_eq_getElem (by rw [len_list]; exact h)]; rfl
theorem some_beq (c d : UInt8) : (some c == some d) = ((c.toNat : Int) == (d.toNat : Int)) := by rw [toNatZ]; rfl
theorem strip_yes {S : ByteArray} {w r : List UInt8} {pt : Bool} (hj : S.data.toList = join w r pt) (hw : digs w = true) (h : strip S = true) : ∃ t, w = 48 :: t ∧ digs t = true ∧ (S.extract 1 S.size).data.toList = join t r pt := by
  unfold strip at h
  simp only [Bool.and_eq_true, decide_eq_true_eq, beq_iff_eq, Bool.not_eq_true', beq_eq_false_iff_ne] at h
  obtain ⟨⟨h1, h2⟩, h3⟩ := h
  obtain ⟨hne, hall⟩ := (digs_iff w).1 hw
  cases w with
  | nil => exact absurd rfl hne
  | cons c t =>
    rw [join_cons] at hj
    have hc : c = 48 := by rw [hj] at h2; simpa using h2
    subst hc
    refine ⟨t, rfl, ?_, by rw [ext_drop, hj]; rfl⟩
    rw [digs_iff]
    refine ⟨?_, fun x hx => hall x (by simp [hx])⟩
    rintro rfl
    cases pt with
    | true => rw [hj] at h3; simp [join] at h3
    | false =>
      have := len_list S
      rw [hj] at this
      simp [join] at this
      omega
theorem strip_no {S : ByteArray} {w r : List UInt8} {pt : Bool} (hj : S.data.toList = join w r pt) (hw : digs w = true) (h : strip S = false) (h10 : 10 < w.length) : 10000000000 ≤ valD w := by
  obtain ⟨hne, hall⟩ := (digs_iff w).1 hw
  cases w with
  | nil => exact absurd rfl hne
  | cons c t =>
    cases t with
    | nil => simp at h10
    | cons d t =>
      have hc : c ≠ 48 := by
        rintro rfl
        rw [join_cons, join_cons] at hj
        have hd : d ≠ 46 := fun e => by have := hall d (by simp); rw [e] at this; revert this; decide
        have hs : 1 < S.size := by rw [← len_list, hj]; simp
        unfold strip at h
        rw [hj, decide_eq_true hs] at h
        simp [hd] at h
      have := val_ge c (d :: t) (hall c (by simp)) hc
      have h2 : 10 ^ 10 ≤ 10 ^ (d :: t).length := Nat.pow_le_pow_right (by decide) (by simp at h10 ⊢; omega)
      omega
/-- may a zero behind be taken away? -/
def stripR (F : ByteArray) : Bool := decide (0 < F.size) && (F.data.toList.getLast? == some 48)
theorem last_some (F : ByteArray) (h : 0 < F.size) : F.data.toList.getLast? = some F[F.size - 1] := by
  have hl := len_list F
  rw [List.getLast?_eq_getElem?, List.getElem?_eq_getElem (by omega)]
  have : F[F.size - 1] = F.data.toList[F.size - 1]'(by omega) := rfl
  rw [this]
  congr 2
theorem stripR_yes {F : ByteArray} (h : stripR F = true) : F.data.toList = (F.extract 0 (F.size - 1)).data.toList ++ [48] := by
  unfold stripR at h
  simp only [Bool.and_eq_true, decide_eq_true_eq, beq_iff_eq] at h
  obtain ⟨a, ha⟩ := List.getLast?_eq_some_iff.1 h.2
  rw [ext_take, ha]
  have : F.size - 1 = a.length := by rw [← len_list, ha]; simp
  rw [this]; simp
theorem stripR_no {F : ByteArray} (h : stripR F = false) (h31 : 31 < F.size) : ∃ a c, F.data.toList = a ++ [c] ∧ c ≠ 48 := by
  have h0 : 0 < F.size := by omega
  have hl := last_some F h0
  obtain ⟨a, ha⟩ := List.getLast?_eq_some_iff.1 hl
  refine ⟨a, _, ha, fun e => ?_⟩
  unfold stripR at h
  rw [decide_eq_true h0, hl, e] at h
  simp at h
theorem decB_eq (l : List UInt8) : decB l = false ↔ (digs (Lib.cut l [46]).1 = false ∨ ((Lib.cut l [46]).2.2 = true ∧ digs (Lib.cut l [46]).2.1 = false)) := by
  unfold decB
  cases digs (Lib.cut l [46]).1 <;> cases (Lib.cut l [46]).2.2 <;> cases digs (Lib.cut l [46]).2.1 <;> simp
theorem catB (A B : ByteArray) : A ++ B = ⟨(A.data.toList ++ B.data.toList).toArray⟩ := by
  apply ByteArray.ext
  rw [ByteArray.data_append]
  simp

set_option maxRecDepth 100000 in
set_option maxHeartbeats 4000000 in
theorem rparse_any (s : ByteArray) (l : List UInt8) (w : World) (hsl : s.data.toList = l) (hs : s.size ≤ 60) :
    Calls Tryd.prog 40 #[.string s] w fun e w' => e = .returned (parseQ l).val ∧ Below w.heap.size w w' := by
  have hll : l.length = s.size := by rw [← hsl, len_list]
  have HQ0 : Hid (parseQ l = if 40 < l.length ∨ digs (Lib.cut l [46]).1 = false ∨ ((Lib.cut l [46]).2.2 = true ∧ digs (Lib.cut l [46]).2.1 = false) then ⟨0, 0, 3⟩ else decQ (Lib.cut l [46]).1 (Lib.cut l [46]).2.1) := rfl
  have HB1 : Hid (Below (w.alloc (.cells #[.int .i64 0, .int .i64 0] 28)).heap.size (w.alloc (.cells #[.int .i64 0, .int .i64 0] 28)) (w.alloc (.cells #[.int .i64 0, .int .i64 0] 28))) := Below.refl _ _
  have HLL := Lib.hid hll
  have HSL := Lib.hid hsl
  clear hll hsl
  by_cases h40 : 40 < s.size
  · have h40z : (40 : Int) < (s.size : Int) := by omega
    have HR : Hid (parseQ l = ⟨0, 0, 3⟩) := HQ0.out.trans (if_pos (.inl (by rw [HLL.out]; exact h40)))
    go_enter Tryd.func40, Tryd.ntmps40
    have HBX := HB1
    obtain ⟨⟨q0, q1⟩, qf, qs, hB1⟩ := res2 HBX.out
    have HBB := Lib.hid hB1
    clear hB1
    go_wp2_with fail
    refine bodyPost_ret (v := .tuple #[.agg #[.int .i64 0, .int .i64 0], .int .i64 3]) (by simp [results, Tryd.results40, go_sem, q0, q1]) rfl ⟨?_, ?_⟩
    · rw [HR.out]; rfl
    · first | exact HBB.out | exact (HBB.out.setCell (Nat.le_refl _) _).setCell (Nat.le_refl _) _
  · have h40z : ¬ (40 : Int) < (s.size : Int) := by omega
    have h40n : s.size ≤ 40 := by omega
    cases hd : decB l with
    | false =>
      have HD := Lib.hid hd
      have HR : Hid (parseQ l = ⟨0, 0, 3⟩) := HQ0.out.trans (if_pos (.inr ((decB_eq l).1 hd)))
      clear hd
      go_enter Tryd.func40, Tryd.ntmps40
      go_wp2_with fail
      refine (decimal_any s _ (by omega)).mono ?_
      rw [HSL.out, HD.out]
      rintro e w' ⟨rfl, rfl⟩
      have HBX := HB1
      obtain ⟨⟨q0, q1⟩, qf, qs, hB1⟩ := res2 HBX.out
      have HBB := Lib.hid hB1
      clear hB1
      go_wp2_with fail
      refine bodyPost_ret (v := .tuple #[.agg #[.int .i64 0, .int .i64 0], .int .i64 3]) (by simp [results, Tryd.results40, go_sem, q0, q1]) rfl ⟨?_, ?_⟩
      · rw [HR.out]; rfl
      · first | exact HBB.out | exact (HBB.out.setCell (Nat.le_refl _) _).setCell (Nat.le_refl _) _
    | true =>
      have hnd : ¬ (digs (Lib.cut l [46]).1 = false ∨ ((Lib.cut l [46]).2.2 = true ∧ digs (Lib.cut l [46]).2.1 = false)) := fun h => by rw [(decB_eq l).2 h] at hd; cases hd
      have HQ : Hid (parseQ l = decQ (Lib.cut l [46]).1 (Lib.cut l [46]).2.1) := HQ0.out.trans (if_neg (fun h => h.elim (fun h => by have := HLL.out; omega) hnd))
      have hj0 := join_cut l
      have hr0 := cut_rest l
      have HD := Lib.hid hd
      clear hd
      obtain ⟨⟨wh, re, pt⟩, hx⟩ : ∃ x, x = Lib.cut l [46] := ⟨_, rfl⟩
      rw [← hx] at HQ hnd hj0 hr0
      clear hx
      simp only at HQ hnd hj0 hr0
      have hdw : digs wh = true := by cases h : digs wh with | true => rfl | false => exact absurd (.inl h) hnd
      have HREd : Hid (∀ c ∈ re, isD c = true) := by
        show ∀ c ∈ re, isD c = true
        cases hp : pt with
        | false => rw [hr0 hp]; simp
        | true =>
          cases h : digs re with
          | true => exact ((digs_iff re).1 h).2
          | false => exact absurd (.inr ⟨hp, h⟩) hnd
      have HRE := Lib.hid hr0
      have HW0 := Lib.hid hdw
      have HJ0 : Hid (s.data.toList = join wh re pt) := by show s.data.toList = _; rw [HSL.out]; exact hj0
      clear hnd hj0 hr0 hdw HQ0
      go_enter Tryd.func40, Tryd.ntmps40
      go_wp2_with fail
      refine (decimal_any s _ (by omega)).mono ?_
      rw [HSL.out, HD.out]
      rintro e w' ⟨rfl, rfl⟩
      clear HSL HLL HD
      go_wp2_with fail
      go_loopg [0] s.size (fun gg s0 wx => ∃ (S : ByteArray) (wh' : List UInt8), s0 = .string S ∧ S.size ≤ gg ∧ S.size ≤ 40 ∧ w.alloc (.cells #[.int .i64 0, .int .i64 0] 28) = wx ∧ Aside (S.data.toList = join wh' re pt) ∧ Aside (digs wh' = true) ∧ Aside (decQ wh re = decQ wh' re))
      case atStart => exact ⟨s, wh, rfl, Nat.le_refl _, h40n, rfl, HJ0.out, HW0.out, Eq.refl _⟩
      case round =>
        obtain ⟨S, wh', rfl, hgg, hS40, hwx, HJ, HW, HDE⟩ := hrel
        have HWX := Lib.hid hwx
        have hS0 : 0 < S.size := by
          rw [← len_list, HJ.out]
          obtain ⟨hne, _⟩ := (digs_iff wh').1 HW.out
          cases wh' with
          | nil => exact absurd rfl hne
          | cons c t => rw [join_cons]; simp
        have hS0z : (0 : Int) < (S.size : Int) := by omega
        clear hwx
        go_upto_region 3 with (fail)
        go_cut [28] (fun c wx => c = .bool (strip S) ∧ wr = wx)
        case first =>
          by_cases h1 : 1 < S.size
          · have h1z : (1 : Int) < (S.size : Int) := by omega
            have hv : strip S = (((S[0].toNat : Int) == 48) && !((S[1].toNat : Int) == 46)) := by unfold strip; rw [decide_eq_true h1, get_some S 0 hS0, get_some S 1 h1, some_beq, some_beq]; rfl
            cases hm : ((S[0].toNat : Int) == 48) with
            | true =>
              cases hm2 : ((S[1].toNat : Int) == 46) with
              | true =>
                have hm3 : ((S[1].toNat : Int) != 46) = false := by unfold bne; rw [hm2]; rfl
                rw [hm, hm2] at hv
                have HV := Lib.hid hv
                clear hv
                go_wp2_with fail
                go_meet
                case rel => exact ⟨by rw [HV.out]; rfl, rfl⟩
              | false =>
                have hm3 : ((S[1].toNat : Int) != 46) = true := by unfold bne; rw [hm2]; rfl
                rw [hm, hm2] at hv
                have HV := Lib.hid hv
                clear hv
                go_wp2_with fail
                go_meet
                case rel => exact ⟨by rw [HV.out]; rfl, rfl⟩
            | false =>
              rw [hm] at hv
              have HV := Lib.hid hv
              clear hv
              go_wp2_with fail
              go_meet
              case rel => exact ⟨by rw [HV.out]; rfl, rfl⟩
          · have h1z : ¬ (1 : Int) < (S.size : Int) := by omega
            have HV : Hid (strip S = false) := by show strip S = false; unfold strip; rw [decide_eq_false h1]; rfl
            go_wp2_with fail
            go_meet
            case rel => exact ⟨by rw [HV.out], rfl⟩
        case rest =>
          obtain ⟨rfl, rfl⟩ := hcut
          cases hb : strip S with
          | true =>
            obtain ⟨t, ht, hdt, hjt⟩ := strip_yes HJ.out HW.out hb
            have h1 : 1 < S.size := by unfold strip at hb; simp only [Bool.and_eq_true, decide_eq_true_eq] at hb; exact hb.1.1
            have hes : (S.extract 1 S.size).size = S.size - 1 := by rw [ByteArray.size_extract]; omega
            have HES := Lib.hid hes
            have HJ2 := Lib.hid hjt
            have HW2 := Lib.hid hdt
            have HDE2 : Hid (decQ wh re = decQ t re) := by show decQ wh re = decQ t re; rw [HDE.out, ht, decQ_zero]
            clear hes hjt hdt hb ht HDE HJ HW
            go_wp2_with fail
            go_roundg (S.size - 1)
            case measure => omega
            case rel => exact ⟨S.extract 1 S.size, t, rfl, by rw [HES.out]; exact Nat.le_refl _, by rw [HES.out]; omega, HWX.out, HJ2.out, HW2.out, HDE2.out⟩
          | false =>
            have HNO : Hid (10 < wh'.length → 10000000000 ≤ valD wh') := strip_no HJ.out HW.out hb
            have HCJ : Hid (Lib.cut (join wh' re pt) [46] = (wh', re, pt)) := cut_join HW.out HRE.out
            have HPT : Hid (ptI S.data.toList = if pt then (wh'.length : Int) else -1) := by
              show ptI S.data.toList = _
              unfold ptI
              rw [HJ.out, HCJ.out]
            clear hb
            obtain ⟨w3, hw3⟩ : ∃ w3, w3 = wr := ⟨_, rfl⟩
            subst hw3
            have HB1 : Hid (Below (w.alloc (.cells #[.int .i64 0, .int .i64 0] 28)).heap.size (w.alloc (.cells #[.int .i64 0, .int .i64 0] 28)) w3) := by rw [HWX.out] at HB1 ⊢; exact HB1
            clear HWX
            go_wp2_with fail
            refine (point_any S _ (by omega)).mono ?_
            rw [HPT.out]
            rintro e w' ⟨rfl, rfl⟩
            go_upto_if 35 with (fail)
            go_cut [4, 5, 6, 33, 34, 35] (fun s4 s5 _ _ _ _ wx => ∃ A B : ByteArray, s4 = .string A ∧ s5 = .string B ∧ A.size ≤ 40 ∧ B.size ≤ 40 ∧ Aside (A.data.toList = wh') ∧ Aside (B.data.toList = re) ∧ Aside (Below (w.alloc (.cells #[.int .i64 0, .int .i64 0] 28)).heap.size (w.alloc (.cells #[.int .i64 0, .int .i64 0] 28)) wx))
            case first =>
              cases pt with
              | false =>
                have hpz : ¬ (0 : Int) ≤ -1 := by decide
                have HRE0 : Hid (re = []) := HRE.out rfl
                go_wp2_with fail
                go_meet
                case rel => exact ⟨S, ⟨#[]⟩, rfl, rfl, hS40, by decide, HJ.out, by rw [HRE0.out]; rfl, HB1.out⟩
              | true =>
                have hkS : wh'.length < S.size := by rw [← len_list, HJ.out]; simp [join]
                have HL : Hid ((S.extract 0 wh'.length).data.toList = wh') := by show (S.extract 0 wh'.length).data.toList = wh'; rw [ext_take, HJ.out]; simp [join]
                have HR2 : Hid ((S.extract (wh'.length + 1) S.size).data.toList = re) := by show (S.extract (wh'.length + 1) S.size).data.toList = re; rw [ext_drop, HJ.out]; simp [join]
                have e1 : (S.extract 0 wh'.length).size ≤ 40 := by rw [ByteArray.size_extract]; omega
                have e2 : (S.extract (wh'.length + 1) S.size).size ≤ 40 := by rw [ByteArray.size_extract]; omega
                obtain ⟨k, hk⟩ : ∃ k, k = wh'.length := ⟨_, rfl⟩
                rw [← hk] at hkS HL HR2 e1 e2 ⊢
                clear hk
                have E1 := Lib.hid e1
                have E2 := Lib.hid e2
                clear e1 e2
                go_wp2_with fail
                go_quiet (fail)
                go_wp2_with fail
                go_meet
                case rel => exact ⟨_, _, rfl, rfl, E1.out, E2.out, HL.out, HR2.out, belowN HB1.out _⟩
            case rest =>
              obtain ⟨A, B, rfl, rfl, hA40, hB40, HA, HBl, HB4⟩ := hcut
              obtain ⟨w4, hw4⟩ : ∃ w4, w4 = wc := ⟨_, rfl⟩
              subst hw4
              go_wp2_with fail
              go_loopg [5] B.size (fun gg s5 wx => ∃ F : ByteArray, s5 = .string F ∧ F.size ≤ gg ∧ F.size ≤ 40 ∧ w4 = wx ∧ Aside (decQ wh' F.data.toList = decQ wh' re) ∧ Aside (∀ c ∈ F.data.toList, isD c = true))
              case atStart => exact ⟨B, rfl, Nat.le_refl _, hB40, rfl, by rw [HBl.out]; exact Eq.refl _, by rw [HBl.out]; exact HREd.out⟩
              case round =>
                obtain ⟨F, rfl, hgg2, hF40, rfl, HFQ, HFD⟩ := hrel
                go_upto_region 9 with (fail)
                go_cut [53] (fun c wx => c = .bool (stripR F) ∧ w4 = wx)
                case first =>
                  by_cases h0 : 0 < F.size
                  · have h0z : (0 : Int) < (F.size : Int) := by omega
                    have hlast := last_some F h0
                    have hv : stripR F = ((F[F.size - 1].toNat : Int) == 48) := by unfold stripR; rw [decide_eq_true h0, hlast, some_beq]; rfl
                    cases hm : ((F[F.size - 1].toNat : Int) == 48) with
                    | true =>
                      have HV := Lib.hid (hv.trans hm)
                      clear hv hlast
                      go_wp2_with fail
                      go_meet
                      case rel => exact ⟨by rw [HV.out], rfl⟩
                    | false =>
                      have HV := Lib.hid (hv.trans hm)
                      clear hv hlast
                      go_wp2_with fail
                      go_meet
                      case rel => exact ⟨by rw [HV.out], rfl⟩
                  · have h0z : ¬ (0 : Int) < (F.size : Int) := by omega
                    have HV : Hid (stripR F = false) := by show stripR F = false; unfold stripR; rw [decide_eq_false h0]; rfl
                    go_wp2_with fail
                    go_meet
                    case rel => exact ⟨by rw [HV.out], rfl⟩
                case rest =>
                  obtain ⟨rfl, rfl⟩ := hcut
                  cases hb : stripR F with
                  | true =>
                    have h0 : 0 < F.size := by unfold stripR at hb; simp only [Bool.and_eq_true, decide_eq_true_eq] at hb; exact hb.1
                    have hsp := stripR_yes hb
                    have hes : (F.extract 0 (F.size - 1)).size = F.size - 1 := by rw [ByteArray.size_extract]; omega
                    have HFQ2 : Hid (decQ wh' (F.extract 0 (F.size - 1)).data.toList = decQ wh' re) := by
                      show decQ wh' (F.extract 0 (F.size - 1)).data.toList = decQ wh' re
                      rw [← HFQ.out]
                      conv => rhs; rw [hsp]
                      rw [decQ_snoc]
                    have HFD2 : Hid (∀ c ∈ (F.extract 0 (F.size - 1)).data.toList, isD c = true) := fun c hc => HFD.out c (by rw [hsp]; exact List.mem_append_left _ hc)
                    have HES := Lib.hid hes
                    clear hsp hb HFQ HFD hes
                    go_wp2_with fail
                    go_roundg (F.size - 1)
                    case measure => omega
                    case rel => exact ⟨F.extract 0 (F.size - 1), rfl, by rw [HES.out]; exact Nat.le_refl _, by rw [HES.out]; omega, rfl, HFQ2.out, HFD2.out⟩
                  | false =>
                    have hbH := Lib.hid hb
                    clear hb
                    by_cases hA10 : 10 < A.size
                    · have hAz : (10 : Int) < (A.size : Int) := by omega
                      have HR : Hid (parseQ l = ⟨0, 0, 2⟩) := by
                        show parseQ l = ⟨0, 0, 2⟩
                        rw [HQ.out, HDE.out]
                        exact decQ_far _ _ (HNO.out (by rw [← HA.out, len_list]; exact hA10))
                      have HBX := HB4
                      obtain ⟨⟨q0, q1⟩, qf, qs, hB1⟩ := res2 HBX.out
                      have HBB := Lib.hid hB1
                      clear hB1
                      go_wp2_with fail
                      refine bodyPost_ret (v := .tuple #[.agg #[.int .i64 0, .int .i64 0], .int .i64 2]) (by simp [results, Tryd.results40, go_sem, q0, q1]) rfl ⟨?_, ?_⟩
                      · rw [HR.out]; rfl
                      · first | exact HBB.out | exact (HBB.out.setCell (Nat.le_refl _) _).setCell (Nat.le_refl _) _
                    · have hAz : ¬ (10 : Int) < (A.size : Int) := by omega
                      by_cases hF31 : 31 < F.size
                      · have hFz : (31 : Int) < (F.size : Int) := by omega
                        have HR : Hid (parseQ l = ⟨0, 0, 2⟩) := by
                          show parseQ l = ⟨0, 0, 2⟩
                          rw [HQ.out, HDE.out, ← HFQ.out]
                          exact decQ_long _ _ HFD.out (by rw [len_list]; exact hF31) (stripR_no hbH.out hF31)
                        have HBX := HB4
                        obtain ⟨⟨q0, q1⟩, qf, qs, hB1⟩ := res2 HBX.out
                        have HBB := Lib.hid hB1
                        clear hB1
                        go_wp2_with fail
                        refine bodyPost_ret (v := .tuple #[.agg #[.int .i64 0, .int .i64 0], .int .i64 2]) (by simp [results, Tryd.results40, go_sem, q0, q1]) rfl ⟨?_, ?_⟩
                        · rw [HR.out]; rfl
                        · first | exact HBB.out | exact (HBB.out.setCell (Nat.le_refl _) _).setCell (Nat.le_refl _) _
                      · have hFz : ¬ (31 : Int) < (F.size : Int) := by omega
                        have HR : Hid (ansQ (valD (A.data.toList ++ F.data.toList)) F.size = parseQ l) := by
                          show ansQ (valD (A.data.toList ++ F.data.toList)) F.size = parseQ l
                          rw [HQ.out, HDE.out, ← HFQ.out, ansQ_mk, HA.out]
                          unfold decQ
                          rw [len_list]
                        have hcatB := catB A F
                        have HAD : Hid (∀ c ∈ A.data.toList ++ F.data.toList, isD c = true) := fun c hc => by
                          rcases List.mem_append.1 hc with h | h
                          · rw [HA.out] at h; exact ((digs_iff _).1 HW.out).2 c h
                          · exact HFD.out c h
                        have hAp : 0 < A.size := by
                          have := ((digs_iff _).1 HW.out).1
                          rw [← HA.out] at this
                          have := List.length_pos_iff.2 this
                          rw [len_list] at this; exact this
                        have HCB := Lib.hid hcatB
                        clear hcatB
                        go_wp2_with fail
                        rw [HCB.out]
                        refine (reduced_any (A.data.toList ++ F.data.toList) F.size _ (by rw [List.length_append, len_list, len_list]; omega) (by rw [List.length_append, len_list, len_list]; omega) (by omega) HAD.out).mono ?_
                        rw [HR.out]
                        rintro e w5 ⟨rfl, hb5⟩
                        have HBX := Lib.hid (res2t HB4.out hb5)
                        clear hb5
                        obtain ⟨rr, hrr⟩ : ∃ r, r = parseQ l := ⟨_, rfl⟩
                        rw [← hrr]
                        have HRR := Lib.hid hrr
                        clear hrr HR
                        obtain ⟨rn, rd', re'⟩ := rr
                        simp only [Res.val]
                        obtain ⟨⟨q0, q1⟩, qf, qs, hB1⟩ := res2 HBX.out
                        have HBB := Lib.hid hB1
                        clear hB1
                        go_wp2_with fail
                        refine bodyPost_ret (v := .tuple #[.agg #[.int .i64 rn, .int .i64 rd'], .int .i64 re']) (by simp [results, Tryd.results40, go_sem, q0, q1]) rfl ⟨?_, ?_⟩
                        · rw [← HRR.out]; rfl
                        · exact (HBB.out.setCell (Nat.le_refl _) _).setCell (Nat.le_refl _) _
end Go.Proofs.YtaekhbhjgcmghaaDoor
