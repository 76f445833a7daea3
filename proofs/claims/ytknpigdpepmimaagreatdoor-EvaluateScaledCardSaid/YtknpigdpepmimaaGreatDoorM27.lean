/- Contracts of the two digits, of divide, shorten and small. -/
import Derived.OwnWalk
import Derived.Laws.IdiomStrings
import Derived.Deep.LoopGhost
import Derived.Test.YtknpigdpepmimaaGreatDoorM12
import Derived.Test.YtknpigdpepmimaaGreatDoorM26
namespace Go.Proofs.YtknpigdpepmimaaGreatDoor.Q
open Go.RowKit
theorem ret_bool' {a b : Bool} (h : a = b) : Ending.returned (.bool a) = .returned (.bool b) := by rw [h]
theorem digs_no (s : ByteArray) (k : Nat) (hk : k < s.size) (h : isD s[k] = false) : digs s.data.toList = false := by
  unfold digs
  rw [Bool.and_eq_false_iff]; left
  rw [List.all_eq_false]
  refine ⟨s[k], ?_, by simp [h]⟩
  have : s[k] = s.data.toList[k]'(by simpa using hk) := rfl
  rw [this]; exact List.getElem_mem _
theorem digs_yes (s : ByteArray) (h : ∀ (j : Nat) (hj : j < s.size), isD s[j] = true) : digs s.data.toList = !s.data.toList.isEmpty := by
  unfold digs
  have : s.data.toList.all isD = true := by
    rw [List.all_eq_true]
    intro x hx
    obtain ⟨j, hj, rfl⟩ := List.mem_iff_getElem.1 hx
    exact h j (by simpa using hj)
  rw [this, Bool.true_and]
theorem len_list (s : ByteArray) : s.data.toList.length = s.size := by rw [Array.length_toList]; rfl
theorem size_mk (l : List UInt8) : (⟨l.toArray⟩ : ByteArray).size = l.length := by simp [ByteArray.size]
theorem isD_of (s : ByteArray) (h : ∀ c ∈ s.data.toList, isD c = true) : ∀ (j : Nat) (hj : j < s.size), isD s[j] = true := fun j hj =>
  h _ (by have : s[j] = s.data.toList[j]'(by simpa using hj) := rfl; rw [this]; exact List.getElem_mem _)
set_option maxHeartbeats 1000000 in
theorem digs_any (s : ByteArray) (w : World) (hs : s.size ≤ 1000) :
    Calls Tryz.prog 127 #[.string s] w fun r w' => r = .returned (.bool (digs s.data.toList)) ∧ w = w' := by
  go_enter Tryz.func127, Tryz.ntmps127
  go_wp2
  go_loop [3] (fun s3 => ∃ kk : Nat, kk ≤ s.size ∧ s3 = .int .i64 kk ∧ Aside (∀ (j : Nat) (hj : j < s.size), j < kk → isD s[j] = true)) (fun s3 => s.size - (intOf s3).toNat)
  case atStart => exact ⟨0, Nat.zero_le _, rfl, fun j _ hj => absurd hj (Nat.not_lt_zero _)⟩
  case round =>
    obtain ⟨kk, hkk, rfl, HA⟩ := hrel
    by_cases hlt : kk < s.size
    · have hltz : (kk : Int) < (s.size : Int) := by omega
      by_cases h1 : s[kk].toNat < 48
      · have h1' : (s[kk].toNat : Int) < 48 := by omega
        have hp : Hid (digs s.data.toList = false) := digs_no s kk hlt (by simp [isD]; omega)
        go_wp2
        go_ret
        refine ⟨?_, rfl⟩
        rw [hp.out]; rfl
      · have h1' : ¬ (s[kk].toNat : Int) < 48 := by omega
        by_cases h2 : 57 < s[kk].toNat
        · have h2' : (57 : Int) < (s[kk].toNat : Int) := by omega
          have hp : Hid (digs s.data.toList = false) := digs_no s kk hlt (by simp [isD]; omega)
          go_wp2
          go_ret
          refine ⟨?_, rfl⟩
          rw [hp.out]; rfl
        · have h2' : ¬ (57 : Int) < (s[kk].toNat : Int) := by omega
          have hok : Hid (isD s[kk] = true) := by show isD s[kk] = true; simp [isD]; omega
          go_wp2
          go_round
          case rel =>
            refine ⟨kk + 1, by omega, by go_num, (show Aside _ from fun j hj hjk => ?_)⟩
            by_cases ee : j = kk
            · subst ee; exact hok.out
            · exact HA.out j hj (by omega)
          case measure => simp [intOf]; omega
    · have hltz : ¬ (kk : Int) < (s.size : Int) := by omega
      obtain rfl : kk = s.size := by omega
      have hp : Hid (digs s.data.toList = !s.data.toList.isEmpty) := digs_yes s (fun j hj => HA.out j hj hj)
      clear hlt HA
      go_wp2
      all_goals
        go_ret
        refine ⟨ret_bool' ?_, rfl⟩
        rw [hp.out]
        simp [ByteArray.toList_eq, *]
/-- bytes as cells -/
def bcells (l : List UInt8) : List Value := l.map fun b => Value.int .u8 (b.toNat : Int)
theorem byte_info : (Tryz.prog.info? 5).map (fun i => (i.zero, i.size, i.bytes)) = some (some (.int .u8 0), 1, 1) := by kernel_rfl
theorem take_div (p : Nat) (l : List UInt8) (k : Nat) (h : k < l.length) : divL p 0 (l.take (k + 1)) = divL p 0 (l.take k) ++ [dg ((10 * remL p 0 (l.take k) + (l[k].toNat - 48)) / p)] := by
  rw [List.take_succ_eq_append_getElem h, divL_snoc]
theorem take_rem (p : Nat) (l : List UInt8) (k : Nat) (h : k < l.length) : remL p 0 (l.take (k + 1)) = (10 * remL p 0 (l.take k) + (l[k].toNat - 48)) % p := by
  rw [List.take_succ_eq_append_getElem h, remL_snoc]
theorem conv_back (w : World) (g cap : Nat) (l : List UInt8) (base : Nat) (h : w.ownsRow base 5 1 (.slice (some ⟨g, 0, none⟩) l.length cap) l.length (bcells l)) :
    (convert 183 9 (.slice (some ⟨g, 0, none⟩) l.length cap)).run Tryz.prog w = .ok (.string ⟨l.toArray⟩) w := by
  refine run_convert_bytes_back w 183 9 5 ⟨g, 0, none⟩ cap l Tryz.underlying183 Tryz.underlying5 Tryz.underlying9 fun j hj => ?_
  exact h.cells (g := g) rfl j _ (by unfold bcells; simp [hj])
theorem nat_num (r d : Nat) : 10 * (r : Int) + (48 + (d : Int) - 48) = ((10 * r + d : Nat) : Int) := by omega
theorem byte_val (r d p : Nat) (h : (10 * r + d) / p ≤ 9) : wrap64 (48 + (10 * (r : Int) + (48 + (d : Int) - 48)) / (p : Int)) % 256 = ((dg ((10 * r + d) / p)).toNat : Int) := by
  rw [nat_num, ← Int.natCast_ediv, quo_toNat _ h]
  generalize (10 * r + d) / p = q at *
  have : wrap64 (48 + (q : Int)) = 48 + (q : Int) := by unfold wrap64; omega
  rw [this]; omega
theorem rem_val (r d p : Nat) : (10 * (r : Int) + (48 + (d : Int) - 48)) % (p : Int) = (((10 * r + d) % p : Nat) : Int) := by
  rw [nat_num, ← Int.natCast_emod]
set_option maxRecDepth 100000 in
set_option maxHeartbeats 2000000 in
theorem divide_any (s : ByteArray) (p : Nat) (w : World) (hs : s.size ≤ 1000) (hp : 2 ≤ p) (hp9 : p ≤ 9) (hd : ∀ c ∈ s.data.toList, isD c = true) :
    Calls Tryz.prog 170 #[.string s, .int .i64 p] w fun e w' => e = .returned (.tuple #[.string ⟨(divL p 0 s.data.toList).toArray⟩, .bool (decide (valD s.data.toList % p = 0))]) ∧ Below w.heap.size w w' := by
  obtain ⟨i0, hi0, hz0, hz1, hz2⟩ := info_parts byte_info
  have HV := Lib.hid (divL_val p (by omega) s.data.toList hd).2
  have HD := Lib.hid (isD_of s hd)
  have HI := Lib.hid (And.intro hi0 (And.intro hz0 (And.intro hz1 hz2)))
  clear hd hi0 hz0 hz1 hz2
  have hbb : i0.bytes * s.size ≤ 281474976710656 := by rw [HI.out.2.2.2]; omega
  have HBB := Lib.hid hbb
  clear hbb
  have hpz : (p : Int) ≠ 0 := by omega
  go_enter Tryz.func170, Tryz.ntmps170
  go_wp2_with (at_make; refine wpList_make_own _ rfl _ _ 183 rfl w.heap.size 5 i0 _ 1 Tryz.underlying183 HI.out.1 HI.out.2.1 HI.out.2.2.1 .i64 .i64 _ s.size rfl rfl rfl HBB.out ?c1 (Nat.le_refl _) ?_)
  case c1 => unfold maxLen; omega
  intro w1 hown hgrow
  have hB1 : Below w.heap.size w w1 := (Below.refl _ _).grown hgrow (Nat.le_refl _) (fun k hk => by cases hk)
  have HB1 := Lib.hid hB1
  have HO1 := Lib.hid hown
  clear hown hgrow hB1
  go_wp2_with fail
  go_loopg [6, 7, 8] s.size (fun gg s6 s7 s8 wr => ∃ k : Nat, k ≤ s.size ∧ s.size - k ≤ gg ∧ s8 = .int .i64 k ∧ s7 = .int .i64 (remL p 0 (s.data.toList.take k) : Nat) ∧ s6 = .slice (some ⟨w.heap.size, 0, none⟩) k s.size ∧ Aside (wr.ownsRow w.heap.size 5 1 (.slice (some ⟨w.heap.size, 0, none⟩) k s.size) k (bcells (divL p 0 (s.data.toList.take k)))) ∧ Aside (Below w.heap.size w wr))
  case atStart => exact ⟨0, Nat.zero_le _, by omega, rfl, rfl, rfl, HO1.out, HB1.out⟩
  case round =>
    obtain ⟨k, hk, hgg, rfl, rfl, rfl, HO, HB⟩ := hrel
    have hr := remL_lt p (by omega) (s.data.toList.take k) 0 (by omega)
    by_cases hlt : k < s.size
    · have hltz : (k : Int) < (s.size : Int) := by omega
      have hkl : k < s.data.toList.length := by rw [len_list]; exact hlt
      have HT := Lib.hid (And.intro (take_div p s.data.toList k hkl) (take_rem p s.data.toList k hkl))
      have hsk : s.data.toList[k] = s[k] := rfl
      rw [hsk] at HT
      obtain ⟨h48, h57⟩ := (isD_iff _).1 (HD.out k hlt)
      obtain ⟨r, hrr⟩ : ∃ r, r = remL p 0 (s.data.toList.take k) := ⟨_, rfl⟩
      rw [← hrr] at hr HT ⊢
      clear hrr hsk
      obtain ⟨d, hdd⟩ : ∃ d : Nat, d = s[k].toNat - 48 := ⟨_, rfl⟩
      have hde : s[k].toNat = 48 + d := by omega
      have hd9 : d ≤ 9 := by omega
      rw [← hdd] at HT
      have x1 : (s[k].toNat : Int) = 48 + (d : Int) := by omega
      clear hdd h48 h57
      have hq9 : (10 * r + d) / p ≤ 9 := quo_nat p _ (by omega) (by omega)
      have hrb : r ≤ 8 := by omega
      go_wp2_with (at_builtin; refine wpList_append_fits _ rfl _ _ 183 rfl w.heap.size 5 i0 1 Tryz.underlying183 HI.out.1 HI.out.2.2.1 w.heap.size k s.size _ rfl (HO.out.alloc _) ⟨wr.heap.size, 0, none⟩ 1 1 (bcells [dg ((10 * r + d) / p)]) rfl rfl ?c1 ?c2 ?c3 ?_)
      case c1 =>
        intro j u hu
        rw [byte_val r d p hq9]
        have hj : j < 1 := (List.getElem?_eq_some_iff.1 hu).1
        obtain rfl : j = 0 := by omega
        cases hu
        simp [Addr.add]
      case c2 => intro u hu; simp [bcells] at hu; subst hu; rfl
      case c3 => omega
      intro w2 hown hgrow
      have hs1 := HB.out.size
      have hB2 : Below w.heap.size w w2 := (HB.out.alloc HB.out.size _).grown hgrow (by simp; omega) (fun k' hk' => by cases hk'; exact Nat.le_refl _)
      have HB2 := Lib.hid hB2
      have HO2 : Hid (w2.ownsRow w.heap.size 5 1 (.slice (some ⟨w.heap.size, 0, none⟩) (k + 1) s.size) (k + 1) (bcells (divL p 0 (s.data.toList.take (k + 1))))) := by
        show w2.ownsRow w.heap.size 5 1 (.slice (some ⟨w.heap.size, 0, none⟩) (k + 1) s.size) (k + 1) (bcells (divL p 0 (s.data.toList.take (k + 1))))
        rw [HT.out.1]
        have : bcells (divL p 0 (s.data.toList.take k) ++ [dg ((10 * r + d) / p)]) = bcells (divL p 0 (s.data.toList.take k)) ++ bcells [dg ((10 * r + d) / p)] := by simp [bcells]
        rw [this]
        exact hown
      clear hown hgrow hB2 HB HO
      go_wp2
      go_roundg (s.size - (k + 1))
      case measure => omega
      case rel => exact ⟨k + 1, by omega, by omega, by go_num, by rw [HT.out.2, ← rem_val], rfl, HO2.out, HB2.out⟩
    · have hltz : ¬ (k : Int) < (s.size : Int) := by omega
      obtain rfl : k = s.size := by omega
      have htk : s.data.toList.take s.size = s.data.toList := by rw [← len_list, List.take_length]
      rw [htk] at hr HO ⊢
      rw [HV.out] at hr ⊢
      have hlen : (divL p 0 s.data.toList).length = s.size := by rw [divL_len, len_list]
      have hcv := conv_back wr w.heap.size s.size (divL p 0 s.data.toList) w.heap.size (by rw [hlen]; exact HO.out)
      rw [hlen] at hcv
      obtain ⟨m, hm⟩ : ∃ m, m = valD s.data.toList % p := ⟨_, rfl⟩
      rw [← hm] at hr ⊢
      have HMM := Lib.hid hm
      clear hm
      go_wp2
      go_ret2
      refine ⟨?_, HB.out⟩
      have hb0 : ((m : Int) == 0) = decide (m = 0) := by rw [Bool.eq_iff_iff]; simp
      rw [← HMM.out, ← hb0]
      rfl
theorem divideL_any (l : List UInt8) (p : Nat) (w : World) (hs : l.length ≤ 1000) (hp : 2 ≤ p) (hp9 : p ≤ 9) (hd : ∀ c ∈ l, isD c = true) :
    Calls Tryz.prog 170 #[.string ⟨l.toArray⟩, .int .i64 p] w fun e w' => e = .returned (.tuple #[.string ⟨(divL p 0 l).toArray⟩, .bool (decide (valD l % p = 0))]) ∧ Below w.heap.size w w' :=
  divide_any ⟨l.toArray⟩ p w (by rw [size_mk]; exact hs) hp hp9 (by simpa using hd)
set_option maxRecDepth 100000 in
set_option maxHeartbeats 2000000 in
theorem shorten_any (l : List UInt8) (p e : Nat) (w : World) (hs : l.length ≤ 1000) (he : e ≤ 1000) (hp : 2 ≤ p) (hp9 : p ≤ 9) (hd : ∀ c ∈ l, isD c = true) :
    Calls Tryz.prog 129 #[.string ⟨l.toArray⟩, .int .i64 p, .int .i64 e] w fun r w' => r = .returned (.tuple #[.string ⟨(shL p e l).1.toArray⟩, .int .i64 ((shL p e l).2 : Nat)]) ∧ Below w.heap.size w w' := by
  have HD := Lib.hid hd
  clear hd
  go_enter Tryz.func129, Tryz.ntmps129
  go_wp2_with fail
  go_loopg [0, 2] e (fun gg s0 s2 wr => ∃ (k : Nat) (l' : List UInt8), k ≤ gg ∧ k ≤ 1000 ∧ s2 = .int .i64 k ∧ s0 = .string ⟨l'.toArray⟩ ∧ l'.length ≤ 1000 ∧ Aside (∀ c ∈ l', isD c = true) ∧ Aside (shL p e l = shL p k l') ∧ Aside (Below w.heap.size w wr))
  case atStart => exact ⟨e, l, Nat.le_refl _, he, rfl, rfl, hs, HD.out, rfl, Below.refl _ _⟩
  case round =>
    obtain ⟨k, l', hgg, hk, rfl, rfl, hl', HD', HE, HB⟩ := hrel
    cases k with
    | zero =>
      go_wp2_with fail
      go_ret2
      refine ⟨?_, HB.out⟩
      rw [HE.out]
      rfl
    | succ k =>
      have hkz : (0 : Int) < ((k + 1 : Nat) : Int) := by omega
      cases hm : decide (valD l' % p = 0) with
      | true =>
        have HM := Lib.hid hm
        clear hm
        go_wp2_with fail
        refine (divideL_any l' p _ hl' hp hp9 HD'.out).mono ?_
        rw [HM.out]
        rintro r w1 ⟨rfl, hb1⟩
        have HB1 := Lib.hid (HB.out.trans (hb1.mono HB.out.size))
        clear hb1 HB
        go_wp2_with fail
        go_roundg k
        case measure => omega
        case rel =>
          refine ⟨k, divL p 0 l', Nat.le_refl _, by omega, by go_num, rfl, by rw [divL_len]; exact hl', divL_isD p (by omega) l' 0 (by omega) HD'.out, ?_, HB1.out⟩
          show shL p e l = _
          rw [HE.out, shL, if_pos (of_decide_eq_true HM.out)]
      | false =>
        have HM := Lib.hid hm
        clear hm
        have HE' : Hid (shL p e l = (l', k + 1)) := by show shL p e l = _; rw [HE.out, shL, if_neg (of_decide_eq_false HM.out)]
        go_wp2_with fail
        refine (divideL_any l' p _ hl' hp hp9 HD'.out).mono ?_
        rw [HM.out]
        rintro r w1 ⟨rfl, hb1⟩
        have HB1 := Lib.hid (HB.out.trans (hb1.mono HB.out.size))
        clear hb1 HB
        go_wp2_with fail
        go_ret2
        refine ⟨?_, HB1.out⟩
        rw [HE'.out]
        rfl
theorem trimB_eq (l : List UInt8) : Lib.trimLeftB l 48 = trimL l := rfl
theorem trimRB_eq (l : List UInt8) : Lib.trimRightB l 48 = trimR l := rfl
theorem trimLeft_any (l : List UInt8) (w : World) : Calls Tryz.prog 171 #[.string ⟨l.toArray⟩, .string ⟨#[48]⟩] w fun e w' => e = .returned (.string ⟨(trimL l).toArray⟩) ∧ w = w' :=
  (Tryz.strings_TrimLeft_one ⟨l.toArray⟩ 48 (by decide) w).mono fun _ _ ⟨he, hw⟩ => ⟨by simpa [trimB_eq] using he, hw.symm⟩
theorem trimRight_any (l : List UInt8) (w : World) (hl : l.length ≤ 1000) : Calls Tryz.prog 128 #[.string ⟨l.toArray⟩, .string ⟨#[48]⟩] w fun e w' => e = .returned (.string ⟨(trimR l).toArray⟩) ∧ w = w' :=
  (Tryz.strings_TrimRight_one ⟨l.toArray⟩ 48 (by decide) w (by rw [size_mk]; omega)).mono fun _ _ ⟨he, hw⟩ => ⟨by simpa [trimRB_eq] using he, hw.symm⟩
theorem trimL_len (l : List UInt8) : (trimL l).length ≤ l.length := (List.dropWhile_sublist _).length_le
theorem take_val (s : ByteArray) (k : Nat) (h : k < s.size) : valD (s.data.toList.take (k + 1)) = 10 * valD (s.data.toList.take k) + (s[k].toNat - 48) := by
  rw [List.take_succ_eq_append_getElem (by simpa using h), val_snoc]; rfl
theorem take_lt (s : ByteArray) (k : Nat) (h : ∀ (j : Nat) (hj : j < s.size), isD s[j] = true) : valD (s.data.toList.take k) < 10 ^ (s.data.toList.take k).length := by
  refine val_lt _ fun c hc => ?_
  obtain ⟨j, hj, rfl⟩ := List.mem_iff_getElem.1 (List.mem_of_mem_take hc)
  exact h j (by simpa using hj)
theorem pow_le10 {k : Nat} (h : k ≤ 10) : 10 ^ k ≤ 10000000000 := by
  have := Nat.pow_le_pow_right (show 0 < 10 by decide) h
  simpa using this
def smallN (l : List UInt8) : Nat := if 10 < (trimL l).length then 0 else valD l
set_option maxRecDepth 100000 in
set_option maxHeartbeats 2000000 in
theorem small_any (l : List UInt8) (w : World) (hl : l.length ≤ 1000) (hd : ∀ c ∈ l, isD c = true) :
    Calls Tryz.prog 130 #[.string ⟨l.toArray⟩] w fun e w' => e = .returned (.tuple #[.int .i64 (smallN l : Nat), .bool (decide (valD l ≤ 2147483647))]) ∧ w = w' := by
  have hlt := trimL_len l
  obtain ⟨S, hS⟩ : ∃ S : ByteArray, S = ⟨(trimL l).toArray⟩ := ⟨_, rfl⟩
  have hSl : S.size = (trimL l).length := by rw [hS, size_mk]
  have hSt : S.data.toList = trimL l := by rw [hS]
  have HSL := Lib.hid hSt
  have hS1 : S.size ≤ 1000 := by omega
  have HD : Hid (∀ (j : Nat) (hj : j < S.size), isD S[j] = true) := isD_of S (by rw [hSt]; exact fun c hc => hd c (trimL_sub l c hc))
  have HF := Lib.hid (val_far l hd)
  have HV := Lib.hid (trimL_val l)
  rw [← HSL.out] at HV
  have HSZ := Lib.hid hSl
  clear hd hSt hlt hSl
  go_enter Tryz.func130, Tryz.ntmps130
  go_wp2_with fail
  refine (trimLeft_any l _).mono ?_
  rw [← hS]
  clear hS
  rintro e w' ⟨rfl, rfl⟩
  by_cases h10 : 10 < S.size
  · have h10z : (10 : Int) < (S.size : Int) := by omega
    have HN : Hid (smallN l = 0) := by show smallN l = 0; unfold smallN; rw [if_pos (by rw [← HSZ.out]; exact h10)]
    have HX : Hid (decide (valD l ≤ 2147483647) = false) := by
      show decide (valD l ≤ 2147483647) = false
      have := HF.out (by rw [← HSZ.out]; exact h10)
      rw [decide_eq_false (by omega)]
    go_wp2_with fail
    go_ret2
    rw [HN.out, HX.out]
    exact ⟨rfl, rfl⟩
  · have h10z : ¬ (10 : Int) < (S.size : Int) := by omega
    have HN : Hid (smallN l = valD l) := by show smallN l = valD l; unfold smallN; rw [if_neg (by rw [← HSZ.out]; exact h10)]
    go_wp2_with fail
    go_loopg [4, 5] S.size (fun gg s4 s5 wr => ∃ k : Nat, k ≤ S.size ∧ S.size - k ≤ gg ∧ wr = w ∧ s5 = .int .i64 k ∧ s4 = .int .i64 (valD (S.data.toList.take k) : Nat))
    case atStart => exact ⟨0, Nat.zero_le _, by omega, rfl, rfl, rfl⟩
    case round =>
      obtain ⟨k, hk, hgg, rfl, rfl, rfl⟩ := hrel
      have hvl := take_lt S k HD.out
      have hp10 := pow_le10 (k := (S.data.toList.take k).length) (by rw [List.length_take, len_list]; omega)
      by_cases hlt : k < S.size
      · have hltz : (k : Int) < (S.size : Int) := by omega
        obtain ⟨h48, h57⟩ := (isD_iff _).1 (HD.out k hlt)
        have HTV := Lib.hid (take_val S k hlt)
        obtain ⟨v, hv⟩ : ∃ v, v = valD (S.data.toList.take k) := ⟨_, rfl⟩
        rw [← hv] at hvl HTV ⊢
        have hvb : v ≤ 10000000000 := by omega
        clear hvl hp10 hv
        obtain ⟨d, hdd⟩ : ∃ d : Nat, d = S[k].toNat - 48 := ⟨_, rfl⟩
        rw [← hdd] at HTV
        have x1 : (S[k].toNat : Int) = 48 + (d : Int) := by omega
        have hd9 : d ≤ 9 := by omega
        clear hdd h48 h57
        go_wp2
        go_roundg (S.size - (k + 1))
        case measure => omega
        case rel => exact ⟨k + 1, by omega, by omega, rfl, by go_num, by rw [HTV.out]; go_num⟩
      · have hltz : ¬ (k : Int) < (S.size : Int) := by omega
        obtain rfl : k = S.size := by omega
        have HTA : Hid (S.data.toList.take S.size = S.data.toList) := by show S.data.toList.take S.size = _; rw [← len_list, List.take_length]
        rw [HTA.out] at hvl hp10 ⊢
        rw [HV.out] at hvl ⊢
        obtain ⟨v, hv⟩ : ∃ v, v = valD l := ⟨_, rfl⟩
        rw [← hv] at HN ⊢
        have HVV := Lib.hid hv
        clear hv hvl hp10
        go_wp2
        go_ret2
        rw [HN.out, ← HVV.out]
        have hdd : decide (v ≤ 2147483647) = decide ((v : Int) ≤ 2147483647) := by rw [decide_eq_decide]; omega
        rw [hdd]
        exact ⟨rfl, rfl⟩
end Go.Proofs.YtknpigdpepmimaaGreatDoor.Q
