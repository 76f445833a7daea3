/- Contract of Parse. -/
import Derived.Test.YtbaljopgkelcfaaDoorDigW
import Derived.Laws.RangeString
namespace Go.Proofs.YtbaljopgkelcfaaDoor
open Go.RowKit

/-- the library's variable internal/bytealg.MaxLen holds some integer -/
structure Max (w : World) : Prop where
  cell : ∃ m, w.cell? ⟨0, 0, none⟩ = some (.int .i64 m)
theorem Max.below {w w' : World} (h : Max w) (hb : Below w.heap.size w w') : Max w' := by
  obtain ⟨m, hm⟩ := h.cell
  have hlt : 0 < w.heap.size := World.block_lt_of_cell? w _ hm
  exact ⟨m, (hb.cell (p := ⟨0, 0, none⟩) hlt).trans hm⟩
theorem below_drewN (w : World) (n : Nat) : Below w.heap.size w (w.drewN n) := ⟨rfl, rfl, rfl, Nat.le_refl _, fun _ _ => rfl⟩

theorem cutSuffix_any (l : List UInt8) (w : World) (hl : l.length ≤ 60) :
    Calls Tryd.prog 31 #[.string ⟨l.toArray⟩, .string ⟨#[112, 116]⟩] w fun e w' => e = .returned (.tuple #[.string ⟨(Lib.trimSuffix l [112, 116]).toArray⟩, .bool (Lib.hasSuffix l [112, 116])]) ∧ w = w' :=
  (Tryd.strings_CutSuffix ⟨l.toArray⟩ ⟨#[112, 116]⟩ w (by rw [size_mk]; omega)).mono fun _ _ ⟨he, hw⟩ => ⟨by simpa using he, hw.symm⟩
theorem cutPrefix_any (l : List UInt8) (w : World) :
    Calls Tryd.prog 32 #[.string ⟨l.toArray⟩, .string ⟨#[45]⟩] w fun e w' => e = .returned (.tuple #[.string ⟨(Lib.trimPrefix l [45]).toArray⟩, .bool (Lib.hasPrefix l [45])]) ∧ w = w' :=
  (Tryd.strings_CutPrefix ⟨l.toArray⟩ ⟨#[45]⟩ w).mono fun _ _ ⟨he, hw⟩ => ⟨by simpa using he, hw.symm⟩
theorem cut_any (l : List UInt8) (w : World) (hl : l.length ≤ 60) (hm : Max w) :
    Calls Tryd.prog 33 #[.string ⟨l.toArray⟩, .string ⟨#[46]⟩] w fun e w' => e = .returned (.tuple #[.string ⟨(Lib.cut l [46]).1.toArray⟩, .string ⟨(Lib.cut l [46]).2.1.toArray⟩, .bool (Lib.cut l [46]).2.2]) ∧ Below w.heap.size w w' := by
  obtain ⟨m, hm⟩ := hm.cell
  exact (Tryd.strings_Cut ⟨l.toArray⟩ ⟨#[46]⟩ m w (by rw [size_mk]; omega) hm).mono fun _ _ ⟨he, n, hw⟩ => ⟨by simpa using he, hw ▸ below_drewN w n⟩

theorem trimS_len (l p : List UInt8) : (Lib.trimSuffix l p).length ≤ l.length := by
  unfold Lib.trimSuffix; split
  · rw [List.length_take]; omega
  · exact Nat.le_refl _
theorem trimP_len (l p : List UInt8) : (Lib.trimPrefix l p).length ≤ l.length := by
  unfold Lib.trimPrefix; split
  · rw [List.length_drop]; omega
  · exact Nat.le_refl _
theorem cut_len (l : List UInt8) : (Lib.cut l [46]).1.length ≤ l.length ∧ (Lib.cut l [46]).2.1.length ≤ l.length := by
  rcases cut_point l with ⟨w, r, e, rfl, _⟩ | ⟨e, _⟩
  · rw [e]; simp; omega
  · rw [e]; simp

set_option maxHeartbeats 1000000 in
theorem parse_no (l : List UInt8) (w : World) (hl : l.length ≤ 60) (hs : Lib.hasSuffix l [112, 116] = false) :
    Calls Tryd.prog 24 #[.string ⟨l.toArray⟩] w fun e w' => e = .returned (.tuple #[.int .i64 (parseP l).1, .int .i64 (parseP l).2]) ∧ Below w.heap.size w w' := by
  have HP : Hid (parseP l = (0, 3)) := by show parseP l = _; unfold parseP; rw [hs]; rfl
  have HS := Lib.hid hs
  clear hs
  go_enter Tryd.func24, Tryd.ntmps24
  go_wp2_with fail
  refine (cutSuffix_any l _ hl).mono ?_
  rw [HS.out]
  rintro e w' ⟨rfl, rfl⟩
  go_wp2
  go_ret2
  rw [HP.out]
  exact ⟨rfl, Below.refl _ _⟩

/-- what stands behind the point must be known as bytes -/
structure Parts (l : List UInt8) (ng : Bool) (W R : ByteArray) (pt : Bool) : Prop where
  suf : Lib.hasSuffix l [112, 116] = true
  val : parseP l = partsP ng W.data.toList R.data.toList pt
theorem parts_of (l : List UInt8) (hs : Lib.hasSuffix l [112, 116] = true) : parseP l = partsP (Lib.hasPrefix (Lib.trimSuffix l [112, 116]) [45]) (Lib.cut (Lib.trimPrefix (Lib.trimSuffix l [112, 116]) [45]) [46]).1 (Lib.cut (Lib.trimPrefix (Lib.trimSuffix l [112, 116]) [45]) [46]).2.1 (Lib.cut (Lib.trimPrefix (Lib.trimSuffix l [112, 116]) [45]) [46]).2.2 := by
  unfold parseP; rw [hs]; rfl

theorem isD_of (s : ByteArray) (h : digs s.data.toList = true) : ∀ (j : Nat) (hj : j < s.size), isD s[j] = true := fun j hj => by
  obtain ⟨_, hall⟩ := (digs_iff _).1 h
  exact hall _ (by have : s[j] = s.data.toList[j]'(by simpa using hj) := rfl; rw [this]; exact List.getElem_mem _)
theorem head_eq (s : ByteArray) (h : 0 < s.size) : s.data.toList.head? = some s[0] := by
  have hl : 0 < s.data.toList.length := by simpa using h
  rw [List.head?_eq_getElem?, List.getElem?_eq_getElem hl]; rfl
theorem last_eq (s : ByteArray) (h : 0 < s.size) : s.data.toList.getLast? = some s[s.size - 1] := by
  have hl : s.data.toList.length = s.size := by rw [Array.length_toList]; rfl
  rw [List.getLast?_eq_getElem?, List.getElem?_eq_getElem (by omega)]
  have : s[s.size - 1] = s.data.toList[s.size - 1]'(by omega) := rfl
  rw [this]
  congr 2
theorem len_list (s : ByteArray) : s.data.toList.length = s.size := by rw [Array.length_toList]; rfl
theorem toNat48 (c : UInt8) : (some c == some 48) = ((c.toNat : Int) == 48) := by
  rw [Bool.eq_iff_iff]
  simp
  constructor
  · intro h; rw [h]; rfl
  · intro h; apply UInt8.toNat_inj.1; have : (48 : UInt8).toNat = 48 := rfl; omega
theorem badW_eq (s : ByteArray) (h0 : 0 < s.size) (hd : digs s.data.toList = true) : badW s.data.toList = (decide (1 < s.size) && ((s[0].toNat : Int) == 48)) := by
  unfold badW
  rw [hd, head_eq s h0, toNat48, len_list]
  rfl
theorem badF_eq (s : ByteArray) (h0 : 0 < s.size) (hd : digs s.data.toList = true) : badF s.data.toList = (decide (3 < s.size) || ((s[s.size - 1].toNat : Int) == 48)) := by
  unfold badF
  rw [hd, last_eq s h0, toNat48, len_list]
  rfl
theorem digs_pos (s : ByteArray) (hd : digs s.data.toList = true) : 0 < s.size := by
  obtain ⟨hne, _⟩ := (digs_iff _).1 hd
  have h1 : s.data.toList.length ≠ 0 := fun e => hne (List.eq_nil_of_length_eq_zero e)
  rw [len_list] at h1; omega
theorem pad_app (W R : ByteArray) : (W ++ (R ++ (⟨#[48, 48, 48]⟩ : ByteArray)).extract 0 3).data.toList = W.data.toList ++ pad3 R.data.toList := by
  rw [ByteArray.data_append, ByteArray.data_extract, ByteArray.data_append]
  simp [pad3, List.take_append]
theorem pad_all (l : List UInt8) (h : ∀ c ∈ l, isD c = true) : ∀ c ∈ pad3 l, isD c = true := by
  intro c hc
  unfold pad3 at hc
  rcases List.mem_append.1 (List.mem_of_mem_take hc) with h' | h'
  · exact h c h'
  · simp at h'; rw [h']; decide
theorem take_val (s : ByteArray) (k : Nat) (h : k < s.size) : valD (s.data.toList.take (k + 1)) = 10 * valD (s.data.toList.take k) + (s[k].toNat - 48) := by
  rw [List.take_succ_eq_append_getElem (by simpa using h), val_snoc]; rfl
theorem take_lt (s : ByteArray) (k : Nat) (h : ∀ (j : Nat) (hj : j < s.size), isD s[j] = true) : valD (s.data.toList.take k) < 10 ^ (s.data.toList.take k).length := by
  refine val_lt _ fun c hc => ?_
  obtain ⟨j, hj, rfl⟩ := List.mem_iff_getElem.1 (List.mem_of_mem_take hc)
  exact h j (by simpa using hj)
theorem pow_le11 {k : Nat} (h : k ≤ 11) : 10 ^ k ≤ 100000000000 := by
  have := Nat.pow_le_pow_right (n := 10) (by decide) h
  simpa using this
theorem cut_rest (l : List UInt8) : (Lib.cut l [46]).2.2 = false → (Lib.cut l [46]).2.1 = [] := by
  rcases cut_point l with ⟨w, r, e, _, _⟩ | ⟨e, _⟩
  · rw [e]; intro h; cases h
  · rw [e]; intro _; rfl

set_option maxRecDepth 100000 in
set_option maxHeartbeats 16000000 in
theorem parse_yes (l : List UInt8) (w : World) (hl : l.length ≤ 60) (hm : Max w) (hs : Lib.hasSuffix l [112, 116] = true) :
    Calls Tryd.prog 24 #[.string ⟨l.toArray⟩] w fun e w' => e = .returned (.tuple #[.int .i64 (parseP l).1, .int .i64 (parseP l).2]) ∧ Below w.heap.size w w' := by
  have hp := parts_of l hs
  have HM := Lib.hid hm
  have HS := Lib.hid hs
  have l1 := trimS_len l [112, 116]
  have l2 := trimP_len (Lib.trimSuffix l [112, 116]) [45]
  have l3 := cut_len (Lib.trimPrefix (Lib.trimSuffix l [112, 116]) [45])
  have l4 := cut_rest (Lib.trimPrefix (Lib.trimSuffix l [112, 116]) [45])
  clear hm hs
  go_enter Tryd.func24, Tryd.ntmps24
  go_wp2_with fail
  refine (cutSuffix_any l _ hl).mono ?_
  rw [HS.out]
  rintro e w' ⟨rfl, rfl⟩
  generalize Lib.trimSuffix l [112, 116] = b at *
  go_wp2_with fail
  refine (cutPrefix_any b _).mono ?_
  rintro e w' ⟨rfl, rfl⟩
  generalize Lib.trimPrefix b [45] = c at *
  generalize Lib.hasPrefix b [45] = ng at *
  go_wp2_with fail
  refine (cut_any c _ (by omega) HM.out).mono ?_
  rintro e w1 ⟨rfl, hb1⟩
  obtain ⟨⟨wh, re, pt⟩, hx⟩ : ∃ x, x = Lib.cut c [46] := ⟨_, rfl⟩
  rw [← hx] at hp l3 l4 ⊢
  clear hx
  simp only at hp l3 l4 ⊢
  have HB := Lib.hid hb1
  obtain ⟨W, hW⟩ : ∃ W : ByteArray, W = ⟨wh.toArray⟩ := ⟨_, rfl⟩
  obtain ⟨R, hR⟩ : ∃ R : ByteArray, R = ⟨re.toArray⟩ := ⟨_, rfl⟩
  have eW : wh = W.data.toList := by rw [hW]
  have eR : re = R.data.toList := by rw [hR]
  rw [← hW, ← hR]
  have sW : W.size ≤ 60 := by rw [hW, size_mk]; omega
  have sR : R.size ≤ 60 := by rw [hR, size_mk]; omega
  rw [eW, eR] at hp
  rw [eR] at l4
  have HRE0 := Lib.hid l4
  have HP := Lib.hid hp
  clear hp hW hR eW eR l4 l3 l2 l1 hb1 HM HS
  cases hd : digs W.data.toList with
  | false =>
    have HR : Hid (parseP l = (0, 3)) := by show parseP l = _; rw [HP.out]; unfold partsP badW; rw [hd]; rfl
    have HD := Lib.hid hd
    clear hd
    go_wp2_with fail
    refine (digs_any W _ (by unfold maxLen; omega)).mono ?_
    rw [HD.out]
    rintro e w' ⟨rfl, rfl⟩
    go_wp2
    go_ret2
    rw [HR.out]
    exact ⟨rfl, HB.out⟩
  | true =>
    have HD := Lib.hid hd
    have h0 := digs_pos W hd
    clear hd
    go_wp2_with fail
    refine (digs_any W _ (by unfold maxLen; omega)).mono ?_
    rw [HD.out]
    rintro e w' ⟨rfl, rfl⟩
    by_cases hz : 1 < W.size ∧ ((W[0].toNat : Int) == 48) = true
    · obtain ⟨hz1, hz2⟩ := hz
      have hz1' : (1 : Int) < (W.size : Int) := by omega
      have HR : Hid (parseP l = (0, 3)) := by show parseP l = _; rw [HP.out]; unfold partsP; rw [badW_eq W h0 HD.out, hz2, decide_eq_true hz1]; rfl
      go_wp2
      go_ret2
      rw [HR.out]
      exact ⟨rfl, HB.out⟩
    have HBW : Hid (badW W.data.toList = false) := by
      show badW W.data.toList = false
      rw [badW_eq W h0 HD.out]
      by_cases h1 : 1 < W.size
      · have : ((W[0].toNat : Int) == 48) = false := by
          cases hh : ((W[0].toNat : Int) == 48) with
          | false => rfl
          | true => exact absurd ⟨h1, hh⟩ hz
        rw [this, Bool.and_false]
      · simp [h1]
    have hzz : (W.size : Int) ≤ 1 ∨ ((1 : Int) < (W.size : Int) ∧ ((W[0].toNat : Int) == 48) = false) := by
      by_cases h1 : 1 < W.size
      · right
        refine ⟨by omega, ?_⟩
        cases hh : ((W[0].toNat : Int) == 48) with
        | false => rfl
        | true => exact absurd ⟨h1, hh⟩ hz
      · left; omega
    clear hz
    rcases hzz with hz1 | ⟨hz1, hz2⟩
    all_goals
      cases pt with
      | true =>
        cases hdr : digs R.data.toList with
        | false =>
          have HR : Hid (parseP l = (0, 3)) := by show parseP l = _; rw [HP.out]; unfold partsP badF; rw [HBW.out, hdr]; rfl
          have HDR := Lib.hid hdr
          clear hdr
          go_wp2_with fail
          refine (digs_any R _ (by unfold maxLen; omega)).mono ?_
          rw [HDR.out]
          rintro e w' ⟨rfl, rfl⟩
          go_wp2
          go_ret2
          rw [HR.out]
          exact ⟨rfl, HB.out⟩
        | true =>
          have HDR := Lib.hid hdr
          have r0 := digs_pos R hdr
          have r0' : (0 : Int) ≤ (R.size : Int) - 1 := by omega
          clear hdr
          go_wp2_with fail
          refine (digs_any R _ (by unfold maxLen; omega)).mono ?_
          rw [HDR.out]
          rintro e w' ⟨rfl, rfl⟩
          by_cases h3 : 3 < R.size
          · have h3' : (3 : Int) < (R.size : Int) := by omega
            have HR : Hid (parseP l = (0, 3)) := by show parseP l = _; rw [HP.out]; unfold partsP; rw [HBW.out, badF_eq R r0 HDR.out, decide_eq_true h3]; rfl
            go_wp2
            go_ret2
            rw [HR.out]
            exact ⟨rfl, HB.out⟩
          have h3' : ¬ (3 : Int) < (R.size : Int) := by omega
          have hix : ((R.size : Int) - 1).toNat = R.size - 1 := by omega
          cases hla : ((R[R.size - 1].toNat : Int) == 48) with
          | true =>
            have HR : Hid (parseP l = (0, 3)) := by show parseP l = _; rw [HP.out]; unfold partsP; rw [HBW.out, badF_eq R r0 HDR.out, hla, Bool.or_true]; rfl
            go_wp2
            go_ret2
            rw [HR.out]
            exact ⟨rfl, HB.out⟩
          | false =>
            have HPP : Hid (parseP l = if 8 < W.data.toList.length then (0, 2) else fin ng (W.data.toList ++ pad3 R.data.toList)) := by
              show parseP l = _; rw [HP.out]; unfold partsP; rw [HBW.out, badF_eq R r0 HDR.out, hla, decide_eq_false h3]; simp
            cases ng with
            | false =>
              by_cases h8 : 8 < W.size
              · first
                | (exfalso; omega)
                | (have h8' : (8 : Int) < (W.size : Int) := by omega
                   have HR : Hid (parseP l = (0, 2)) := by show parseP l = _; rw [HPP.out, if_pos (by rw [len_list]; exact h8)]
                   go_wp2
                   go_ret2
                   rw [HR.out]
                   exact ⟨rfl, HB.out⟩)
              · have h8' : ¬ (8 : Int) < (W.size : Int) := by omega
                have h8n : W.size ≤ 8 := by omega
                have hsz : (W ++ (R ++ (⟨#[48, 48, 48]⟩ : ByteArray)).extract 0 3).size = W.size + 3 := by
                  rw [← len_list, pad_app, List.length_append, pad_len, len_list]
                have hall : ∀ (j : Nat) (hj : j < (W ++ (R ++ (⟨#[48, 48, 48]⟩ : ByteArray)).extract 0 3).size), isD (W ++ (R ++ (⟨#[48, 48, 48]⟩ : ByteArray)).extract 0 3)[j] = true := fun j hj => by
                  have : (W ++ (R ++ (⟨#[48, 48, 48]⟩ : ByteArray)).extract 0 3)[j] ∈ (W ++ (R ++ (⟨#[48, 48, 48]⟩ : ByteArray)).extract 0 3).data.toList := by
                    have e : (W ++ (R ++ (⟨#[48, 48, 48]⟩ : ByteArray)).extract 0 3)[j] = (W ++ (R ++ (⟨#[48, 48, 48]⟩ : ByteArray)).extract 0 3).data.toList[j]'(by rw [len_list]; exact hj) := rfl
                    rw [e]; exact List.getElem_mem _
                  rw [pad_app] at this
                  rcases List.mem_append.1 this with h' | h'
                  · exact ((digs_iff _).1 HD.out).2 _ h'
                  · exact pad_all _ ((digs_iff _).1 HDR.out).2 _ h'
                have HR : Hid (parseP l = fin false (W ++ (R ++ (⟨#[48, 48, 48]⟩ : ByteArray)).extract 0 3).data.toList) := by show parseP l = _; rw [HPP.out, if_neg (by rw [len_list]; exact h8), pad_app]
                clear HP HPP
                go_wp2_with fail
                obtain ⟨S, hS⟩ : ∃ S : ByteArray, S = W ++ (R ++ (⟨#[48, 48, 48]⟩ : ByteArray)).extract 0 3 := ⟨_, rfl⟩
                rw [← hS] at hsz hall HR ⊢
                clear hS
                have HALL := Lib.hid hall
                have hS11 : S.size ≤ 11 := by omega
                clear hall hsz
                go_loopg [10] S.size (fun gg s10 wr => ∃ pos : Nat, pos ≤ S.size ∧ S.size - pos ≤ gg ∧ wr = w1.iter S pos ∧ s10 = .int .i64 (valD (S.data.toList.take pos)))
                case atStart => exact ⟨0, Nat.zero_le _, by omega, rfl, rfl⟩
                case round =>
                  obtain ⟨pos, hpos, hgg, rfl, rfl⟩ := hrel
                  have hvl := take_lt S pos HALL.out
                  have hp11 := pow_le11 (k := (S.data.toList.take pos).length) (by rw [List.length_take, len_list]; omega)
                  by_cases hlt : pos < S.size
                  · have hd9 := HALL.out pos hlt
                    unfold isD at hd9
                    simp only [Bool.and_eq_true, decide_eq_true_eq] at hd9
                    have hnx := fun ty => run_next_ascii (P := Tryd.prog) w1 S pos ty hlt (by omega)
                    have HTV := Lib.hid (take_val S pos hlt)
                    obtain ⟨v, hv⟩ : ∃ v, v = valD (S.data.toList.take pos) := ⟨_, rfl⟩
                    rw [← hv] at hvl HTV ⊢
                    have hvb : v ≤ 100000000000 := by omega
                    clear hvl hp11 hv
                    obtain ⟨d, hdd⟩ : ∃ d : Nat, d = S[pos].toNat - 48 := ⟨_, rfl⟩
                    have hde : S[pos].toNat = 48 + d := by omega
                    have hdb : d ≤ 9 := by omega
                    rw [hde] at hnx
                    rw [← hdd] at HTV
                    clear hdd hde hd9
                    go_wp2
                    go_roundg (S.size - (pos + 1))
                    case measure => omega
                    case rel => exact ⟨pos + 1, by omega, by omega, rfl, by rw [HTV.out]; go_num⟩
                  · have hnx := fun ty => run_next_end (P := Tryd.prog) w1 S pos ty hlt
                    obtain rfl : pos = S.size := by omega
                    have HTA : Hid (S.data.toList.take S.size = S.data.toList) := by show S.data.toList.take S.size = _; rw [← len_list, List.take_length]
                    rw [HTA.out] at hvl hp11 ⊢
                    obtain ⟨v, hv⟩ : ∃ v, v = valD S.data.toList := ⟨_, rfl⟩
                    unfold fin at HR
                    rw [← hv] at hvl HR ⊢
                    have hvb : v ≤ 100000000000 := by omega
                    have HBE := Lib.hid (HB.out.alloc HB.out.size (.stringIter S S.size))
                    clear hvl hp11 hv HTA
                    cases hval : validL (sgn false (v : Int)) with
                    | true =>
                      have HVL := Lib.hid hval
                      rw [hval] at HR
                      clear hval
                      go_wp2_with fail
                      refine (valid_any (sgn false (v : Int)) _).mono ?_
                      rw [HVL.out]
                      rintro e w' ⟨rfl, rfl⟩
                      go_wp2
                      go_ret2
                      rw [HR.out]
                      exact ⟨rfl, HBE.out⟩
                    | false =>
                      have HVL := Lib.hid hval
                      rw [hval] at HR
                      clear hval
                      go_wp2_with fail
                      refine (valid_any (sgn false (v : Int)) _).mono ?_
                      rw [HVL.out]
                      rintro e w' ⟨rfl, rfl⟩
                      go_wp2
                      go_ret2
                      rw [HR.out]
                      exact ⟨rfl, HBE.out⟩
            | true =>
              by_cases hw0 : W.toList = [48]
              all_goals
                by_cases h8 : 8 < W.size
                · first
                  | (exfalso; omega)
                  | (have h8' : (8 : Int) < (W.size : Int) := by omega
                     have HR : Hid (parseP l = (0, 2)) := by show parseP l = _; rw [HPP.out, if_pos (by rw [len_list]; exact h8)]
                     go_wp2
                     go_ret2
                     rw [HR.out]
                     exact ⟨rfl, HB.out⟩)
                · have h8' : ¬ (8 : Int) < (W.size : Int) := by omega
                  have h8n : W.size ≤ 8 := by omega
                  have hsz : (W ++ (R ++ (⟨#[48, 48, 48]⟩ : ByteArray)).extract 0 3).size = W.size + 3 := by
                    rw [← len_list, pad_app, List.length_append, pad_len, len_list]
                  have hall : ∀ (j : Nat) (hj : j < (W ++ (R ++ (⟨#[48, 48, 48]⟩ : ByteArray)).extract 0 3).size), isD (W ++ (R ++ (⟨#[48, 48, 48]⟩ : ByteArray)).extract 0 3)[j] = true := fun j hj => by
                    have : (W ++ (R ++ (⟨#[48, 48, 48]⟩ : ByteArray)).extract 0 3)[j] ∈ (W ++ (R ++ (⟨#[48, 48, 48]⟩ : ByteArray)).extract 0 3).data.toList := by
                      have e : (W ++ (R ++ (⟨#[48, 48, 48]⟩ : ByteArray)).extract 0 3)[j] = (W ++ (R ++ (⟨#[48, 48, 48]⟩ : ByteArray)).extract 0 3).data.toList[j]'(by rw [len_list]; exact hj) := rfl
                      rw [e]; exact List.getElem_mem _
                    rw [pad_app] at this
                    rcases List.mem_append.1 this with h' | h'
                    · exact ((digs_iff _).1 HD.out).2 _ h'
                    · exact pad_all _ ((digs_iff _).1 HDR.out).2 _ h'
                  have HR : Hid (parseP l = fin true (W ++ (R ++ (⟨#[48, 48, 48]⟩ : ByteArray)).extract 0 3).data.toList) := by show parseP l = _; rw [HPP.out, if_neg (by rw [len_list]; exact h8), pad_app]
                  clear HP HPP
                  go_wp2_with fail
                  obtain ⟨S, hS⟩ : ∃ S : ByteArray, S = W ++ (R ++ (⟨#[48, 48, 48]⟩ : ByteArray)).extract 0 3 := ⟨_, rfl⟩
                  rw [← hS] at hsz hall HR ⊢
                  clear hS
                  have HALL := Lib.hid hall
                  have hS11 : S.size ≤ 11 := by omega
                  clear hall hsz
                  go_loopg [10] S.size (fun gg s10 wr => ∃ pos : Nat, pos ≤ S.size ∧ S.size - pos ≤ gg ∧ wr = w1.iter S pos ∧ s10 = .int .i64 (valD (S.data.toList.take pos)))
                  case atStart => exact ⟨0, Nat.zero_le _, by omega, rfl, rfl⟩
                  case round =>
                    obtain ⟨pos, hpos, hgg, rfl, rfl⟩ := hrel
                    have hvl := take_lt S pos HALL.out
                    have hp11 := pow_le11 (k := (S.data.toList.take pos).length) (by rw [List.length_take, len_list]; omega)
                    by_cases hlt : pos < S.size
                    · have hd9 := HALL.out pos hlt
                      unfold isD at hd9
                      simp only [Bool.and_eq_true, decide_eq_true_eq] at hd9
                      have hnx := fun ty => run_next_ascii (P := Tryd.prog) w1 S pos ty hlt (by omega)
                      have HTV := Lib.hid (take_val S pos hlt)
                      obtain ⟨v, hv⟩ : ∃ v, v = valD (S.data.toList.take pos) := ⟨_, rfl⟩
                      rw [← hv] at hvl HTV ⊢
                      have hvb : v ≤ 100000000000 := by omega
                      clear hvl hp11 hv
                      obtain ⟨d, hdd⟩ : ∃ d : Nat, d = S[pos].toNat - 48 := ⟨_, rfl⟩
                      have hde : S[pos].toNat = 48 + d := by omega
                      have hdb : d ≤ 9 := by omega
                      rw [hde] at hnx
                      rw [← hdd] at HTV
                      clear hdd hde hd9
                      go_wp2
                      go_roundg (S.size - (pos + 1))
                      case measure => omega
                      case rel => exact ⟨pos + 1, by omega, by omega, rfl, by rw [HTV.out]; go_num⟩
                    · have hnx := fun ty => run_next_end (P := Tryd.prog) w1 S pos ty hlt
                      obtain rfl : pos = S.size := by omega
                      have HTA : Hid (S.data.toList.take S.size = S.data.toList) := by show S.data.toList.take S.size = _; rw [← len_list, List.take_length]
                      rw [HTA.out] at hvl hp11 ⊢
                      obtain ⟨v, hv⟩ : ∃ v, v = valD S.data.toList := ⟨_, rfl⟩
                      unfold fin at HR
                      rw [← hv] at hvl HR ⊢
                      have hvb : v ≤ 100000000000 := by omega
                      have HBE := Lib.hid (HB.out.alloc HB.out.size (.stringIter S S.size))
                      clear hvl hp11 hv HTA
                      cases hval : validL (sgn true (v : Int)) with
                      | true =>
                        have HVL := Lib.hid hval
                        rw [hval] at HR
                        clear hval
                        go_wp2_with fail
                        refine (valid_any (sgn true (v : Int)) _).mono ?_
                        rw [HVL.out]
                        rintro e w' ⟨rfl, rfl⟩
                        go_wp2
                        go_ret2
                        rw [HR.out]
                        exact ⟨rfl, HBE.out⟩
                      | false =>
                        have HVL := Lib.hid hval
                        rw [hval] at HR
                        clear hval
                        go_wp2_with fail
                        refine (valid_any (sgn true (v : Int)) _).mono ?_
                        rw [HVL.out]
                        rintro e w' ⟨rfl, rfl⟩
                        go_wp2
                        go_ret2
                        rw [HR.out]
                        exact ⟨rfl, HBE.out⟩
      | false =>
        have HRE : Hid (∀ c ∈ R.data.toList, isD c = true) := by show ∀ c ∈ R.data.toList, isD c = true; rw [HRE0.out rfl]; simp
        clear HRE0
        cases ng with
        | false =>
          have HPP : Hid (parseP l = if 8 < W.data.toList.length then (0, 2) else fin false (W.data.toList ++ pad3 R.data.toList)) := by
            show parseP l = _; rw [HP.out]; unfold partsP; rw [HBW.out]; simp
          by_cases h8 : 8 < W.size
          · first
            | (exfalso; omega)
            | (have h8' : (8 : Int) < (W.size : Int) := by omega
               have HR : Hid (parseP l = (0, 2)) := by show parseP l = _; rw [HPP.out, if_pos (by rw [len_list]; exact h8)]
               go_wp2
               go_ret2
               rw [HR.out]
               exact ⟨rfl, HB.out⟩)
          · have h8' : ¬ (8 : Int) < (W.size : Int) := by omega
            have h8n : W.size ≤ 8 := by omega
            have hsz : (W ++ (R ++ (⟨#[48, 48, 48]⟩ : ByteArray)).extract 0 3).size = W.size + 3 := by
              rw [← len_list, pad_app, List.length_append, pad_len, len_list]
            have hall : ∀ (j : Nat) (hj : j < (W ++ (R ++ (⟨#[48, 48, 48]⟩ : ByteArray)).extract 0 3).size), isD (W ++ (R ++ (⟨#[48, 48, 48]⟩ : ByteArray)).extract 0 3)[j] = true := fun j hj => by
              have : (W ++ (R ++ (⟨#[48, 48, 48]⟩ : ByteArray)).extract 0 3)[j] ∈ (W ++ (R ++ (⟨#[48, 48, 48]⟩ : ByteArray)).extract 0 3).data.toList := by
                have e : (W ++ (R ++ (⟨#[48, 48, 48]⟩ : ByteArray)).extract 0 3)[j] = (W ++ (R ++ (⟨#[48, 48, 48]⟩ : ByteArray)).extract 0 3).data.toList[j]'(by rw [len_list]; exact hj) := rfl
                rw [e]; exact List.getElem_mem _
              rw [pad_app] at this
              rcases List.mem_append.1 this with h' | h'
              · exact ((digs_iff _).1 HD.out).2 _ h'
              · exact pad_all _ HRE.out _ h'
            have HR : Hid (parseP l = fin false (W ++ (R ++ (⟨#[48, 48, 48]⟩ : ByteArray)).extract 0 3).data.toList) := by show parseP l = _; rw [HPP.out, if_neg (by rw [len_list]; exact h8), pad_app]
            clear HP HPP
            go_wp2_with fail
            obtain ⟨S, hS⟩ : ∃ S : ByteArray, S = W ++ (R ++ (⟨#[48, 48, 48]⟩ : ByteArray)).extract 0 3 := ⟨_, rfl⟩
            rw [← hS] at hsz hall HR ⊢
            clear hS
            have HALL := Lib.hid hall
            have hS11 : S.size ≤ 11 := by omega
            clear hall hsz
            go_loopg [10] S.size (fun gg s10 wr => ∃ pos : Nat, pos ≤ S.size ∧ S.size - pos ≤ gg ∧ wr = w1.iter S pos ∧ s10 = .int .i64 (valD (S.data.toList.take pos)))
            case atStart => exact ⟨0, Nat.zero_le _, by omega, rfl, rfl⟩
            case round =>
              obtain ⟨pos, hpos, hgg, rfl, rfl⟩ := hrel
              have hvl := take_lt S pos HALL.out
              have hp11 := pow_le11 (k := (S.data.toList.take pos).length) (by rw [List.length_take, len_list]; omega)
              by_cases hlt : pos < S.size
              · have hd9 := HALL.out pos hlt
                unfold isD at hd9
                simp only [Bool.and_eq_true, decide_eq_true_eq] at hd9
                have hnx := fun ty => run_next_ascii (P := Tryd.prog) w1 S pos ty hlt (by omega)
                have HTV := Lib.hid (take_val S pos hlt)
                obtain ⟨v, hv⟩ : ∃ v, v = valD (S.data.toList.take pos) := ⟨_, rfl⟩
                rw [← hv] at hvl HTV ⊢
                have hvb : v ≤ 100000000000 := by omega
                clear hvl hp11 hv
                obtain ⟨d, hdd⟩ : ∃ d : Nat, d = S[pos].toNat - 48 := ⟨_, rfl⟩
                have hde : S[pos].toNat = 48 + d := by omega
                have hdb : d ≤ 9 := by omega
                rw [hde] at hnx
                rw [← hdd] at HTV
                clear hdd hde hd9
                go_wp2
                go_roundg (S.size - (pos + 1))
                case measure => omega
                case rel => exact ⟨pos + 1, by omega, by omega, rfl, by rw [HTV.out]; go_num⟩
              · have hnx := fun ty => run_next_end (P := Tryd.prog) w1 S pos ty hlt
                obtain rfl : pos = S.size := by omega
                have HTA : Hid (S.data.toList.take S.size = S.data.toList) := by show S.data.toList.take S.size = _; rw [← len_list, List.take_length]
                rw [HTA.out] at hvl hp11 ⊢
                obtain ⟨v, hv⟩ : ∃ v, v = valD S.data.toList := ⟨_, rfl⟩
                unfold fin at HR
                rw [← hv] at hvl HR ⊢
                have hvb : v ≤ 100000000000 := by omega
                have HBE := Lib.hid (HB.out.alloc HB.out.size (.stringIter S S.size))
                clear hvl hp11 hv HTA
                cases hval : validL (sgn false (v : Int)) with
                | true =>
                  have HVL := Lib.hid hval
                  rw [hval] at HR
                  clear hval
                  go_wp2_with fail
                  refine (valid_any (sgn false (v : Int)) _).mono ?_
                  rw [HVL.out]
                  rintro e w' ⟨rfl, rfl⟩
                  go_wp2
                  go_ret2
                  rw [HR.out]
                  exact ⟨rfl, HBE.out⟩
                | false =>
                  have HVL := Lib.hid hval
                  rw [hval] at HR
                  clear hval
                  go_wp2_with fail
                  refine (valid_any (sgn false (v : Int)) _).mono ?_
                  rw [HVL.out]
                  rintro e w' ⟨rfl, rfl⟩
                  go_wp2
                  go_ret2
                  rw [HR.out]
                  exact ⟨rfl, HBE.out⟩
        | true =>
          by_cases hw0 : W.toList = [48]
          · have HR : Hid (parseP l = (0, 3)) := by show parseP l = _; rw [HP.out]; unfold partsP; rw [HBW.out, show W.data.toList = [48] from by rw [← ByteArray.toList_eq]; exact hw0]; rfl
            go_wp2
            go_ret2
            rw [HR.out]
            exact ⟨rfl, HB.out⟩
          · have HPP : Hid (parseP l = if 8 < W.data.toList.length then (0, 2) else fin true (W.data.toList ++ pad3 R.data.toList)) := by
              show parseP l = _; rw [HP.out]; unfold partsP; rw [HBW.out, show (W.data.toList == [48]) = false from by rw [beq_eq_false_iff_ne]; exact fun e => hw0 (by rw [ByteArray.toList_eq]; exact e)]; simp
            by_cases h8 : 8 < W.size
            · first
              | (exfalso; omega)
              | (have h8' : (8 : Int) < (W.size : Int) := by omega
                 have HR : Hid (parseP l = (0, 2)) := by show parseP l = _; rw [HPP.out, if_pos (by rw [len_list]; exact h8)]
                 go_wp2
                 go_ret2
                 rw [HR.out]
                 exact ⟨rfl, HB.out⟩)
            · have h8' : ¬ (8 : Int) < (W.size : Int) := by omega
              have h8n : W.size ≤ 8 := by omega
              have hsz : (W ++ (R ++ (⟨#[48, 48, 48]⟩ : ByteArray)).extract 0 3).size = W.size + 3 := by
                rw [← len_list, pad_app, List.length_append, pad_len, len_list]
              have hall : ∀ (j : Nat) (hj : j < (W ++ (R ++ (⟨#[48, 48, 48]⟩ : ByteArray)).extract 0 3).size), isD (W ++ (R ++ (⟨#[48, 48, 48]⟩ : ByteArray)).extract 0 3)[j] = true := fun j hj => by
                have : (W ++ (R ++ (⟨#[48, 48, 48]⟩ : ByteArray)).extract 0 3)[j] ∈ (W ++ (R ++ (⟨#[48, 48, 48]⟩ : ByteArray)).extract 0 3).data.toList := by
                  have e : (W ++ (R ++ (⟨#[48, 48, 48]⟩ : ByteArray)).extract 0 3)[j] = (W ++ (R ++ (⟨#[48, 48, 48]⟩ : ByteArray)).extract 0 3).data.toList[j]'(by rw [len_list]; exact hj) := rfl
                  rw [e]; exact List.getElem_mem _
                rw [pad_app] at this
                rcases List.mem_append.1 this with h' | h'
                · exact ((digs_iff _).1 HD.out).2 _ h'
                · exact pad_all _ HRE.out _ h'
              have HR : Hid (parseP l = fin true (W ++ (R ++ (⟨#[48, 48, 48]⟩ : ByteArray)).extract 0 3).data.toList) := by show parseP l = _; rw [HPP.out, if_neg (by rw [len_list]; exact h8), pad_app]
              clear HP HPP
              go_wp2_with fail
              obtain ⟨S, hS⟩ : ∃ S : ByteArray, S = W ++ (R ++ (⟨#[48, 48, 48]⟩ : ByteArray)).extract 0 3 := ⟨_, rfl⟩
              rw [← hS] at hsz hall HR ⊢
              clear hS
              have HALL := Lib.hid hall
              have hS11 : S.size ≤ 11 := by omega
              clear hall hsz
              go_loopg [10] S.size (fun gg s10 wr => ∃ pos : Nat, pos ≤ S.size ∧ S.size - pos ≤ gg ∧ wr = w1.iter S pos ∧ s10 = .int .i64 (valD (S.data.toList.take pos)))
              case atStart => exact ⟨0, Nat.zero_le _, by omega, rfl, rfl⟩
              case round =>
                obtain ⟨pos, hpos, hgg, rfl, rfl⟩ := hrel
                have hvl := take_lt S pos HALL.out
                have hp11 := pow_le11 (k := (S.data.toList.take pos).length) (by rw [List.length_take, len_list]; omega)
                by_cases hlt : pos < S.size
                · have hd9 := HALL.out pos hlt
                  unfold isD at hd9
                  simp only [Bool.and_eq_true, decide_eq_true_eq] at hd9
                  have hnx := fun ty => run_next_ascii (P := Tryd.prog) w1 S pos ty hlt (by omega)
                  have HTV := Lib.hid (take_val S pos hlt)
                  obtain ⟨v, hv⟩ : ∃ v, v = valD (S.data.toList.take pos) := ⟨_, rfl⟩
                  rw [← hv] at hvl HTV ⊢
                  have hvb : v ≤ 100000000000 := by omega
                  clear hvl hp11 hv
                  obtain ⟨d, hdd⟩ : ∃ d : Nat, d = S[pos].toNat - 48 := ⟨_, rfl⟩
                  have hde : S[pos].toNat = 48 + d := by omega
                  have hdb : d ≤ 9 := by omega
                  rw [hde] at hnx
                  rw [← hdd] at HTV
                  clear hdd hde hd9
                  go_wp2
                  go_roundg (S.size - (pos + 1))
                  case measure => omega
                  case rel => exact ⟨pos + 1, by omega, by omega, rfl, by rw [HTV.out]; go_num⟩
                · have hnx := fun ty => run_next_end (P := Tryd.prog) w1 S pos ty hlt
                  obtain rfl : pos = S.size := by omega
                  have HTA : Hid (S.data.toList.take S.size = S.data.toList) := by show S.data.toList.take S.size = _; rw [← len_list, List.take_length]
                  rw [HTA.out] at hvl hp11 ⊢
                  obtain ⟨v, hv⟩ : ∃ v, v = valD S.data.toList := ⟨_, rfl⟩
                  unfold fin at HR
                  rw [← hv] at hvl HR ⊢
                  have hvb : v ≤ 100000000000 := by omega
                  have HBE := Lib.hid (HB.out.alloc HB.out.size (.stringIter S S.size))
                  clear hvl hp11 hv HTA
                  cases hval : validL (sgn true (v : Int)) with
                  | true =>
                    have HVL := Lib.hid hval
                    rw [hval] at HR
                    clear hval
                    go_wp2_with fail
                    refine (valid_any (sgn true (v : Int)) _).mono ?_
                    rw [HVL.out]
                    rintro e w' ⟨rfl, rfl⟩
                    go_wp2
                    go_ret2
                    rw [HR.out]
                    exact ⟨rfl, HBE.out⟩
                  | false =>
                    have HVL := Lib.hid hval
                    rw [hval] at HR
                    clear hval
                    go_wp2_with fail
                    refine (valid_any (sgn true (v : Int)) _).mono ?_
                    rw [HVL.out]
                    rintro e w' ⟨rfl, rfl⟩
                    go_wp2
                    go_ret2
                    rw [HR.out]
                    exact ⟨rfl, HBE.out⟩

theorem parse_any (l : List UInt8) (w : World) (hl : l.length ≤ 60) (hm : Max w) :
    Calls Tryd.prog 24 #[.string ⟨l.toArray⟩] w fun e w' => e = .returned (.tuple #[.int .i64 (parseP l).1, .int .i64 (parseP l).2]) ∧ Below w.heap.size w w' := by
  cases hs : Lib.hasSuffix l [112, 116] with
  | false => exact parse_no l w hl hs
  | true => exact parse_yes l w hl hm hs
end Go.Proofs.YtbaljopgkelcfaaDoor
