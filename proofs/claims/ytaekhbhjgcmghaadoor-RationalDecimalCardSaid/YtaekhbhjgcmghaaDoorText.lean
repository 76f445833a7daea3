/- Contracts of Digits, Number and of the two Texts. -/
import Derived.Test.YtaekhbhjgcmghaaDoorMake
import Derived.Test.YtaekhbhjgcmghaaDoorShelf
import Derived.Lib.ItoaLen
import Derived.Lib.ItoaMem
import Derived.Laws.BytesString
namespace Go.Proofs.YtaekhbhjgcmghaaDoor
open Go.RowKit

theorem glob : Tryd.prog.globalNamed "internal/strconv.uint64pow10" = some 1 := by kernel_rfl
/-- the table of powers of ten lies as its initialiser lays it -/
structure Tab (w : World) : Prop where
  tab : Lib.TabIs Tryd.prog w "internal/strconv.uint64pow10" .u64 Lib.pow10Tab
  lt : 1 < w.heap.size
theorem Tab.below {w w' : World} (h : Tab w) (hb : Below w.heap.size w w') : Tab w' :=
  ⟨var?_below hb glob h.lt h.tab, Nat.lt_of_lt_of_le h.lt hb.size⟩
theorem below_grow (w : World) (k : Nat) (os : Array Obj) : Below w.heap.size w (Sort.grow (w.drewN k) os) :=
  ⟨rfl, rfl, rfl, by simp [Sort.grow], fun i hi => by simp [Sort.grow, Array.getElem?_append, hi]⟩

theorem itoa_any (n : Int) (w : World) (h0 : -9223372036854775808 ≤ n) (h1 : n ≤ 9223372036854775807) (ht : Tab w) :
    Calls Tryd.prog 45 #[.int .i64 n] w fun e w' => e = .returned (.string ⟨(Lib.itoa n).toArray⟩) ∧ Below w.heap.size w w' :=
  (Tryd.strconv_Itoa n h0 h1 w ht.tab).mono fun _ _ ⟨he, k, os, hw⟩ => ⟨he, hw ▸ below_grow w k os⟩

theorem dec_ten (n : Nat) (h : ¬ n < 10) : Lib.decDigits n = Lib.decDigits (n / 10) ++ Lib.decDigits (n % 10) := by
  rw [Lib.decDigits_one (i := n % 10) (Nat.mod_lt _ (by decide))]
  conv => lhs; rw [Lib.decDigits]
  rw [dif_neg h]

/-- 'string([]byte{b})' -/
theorem conv_one (b : Int) (w : World) : (convert 92 9 (.slice (some ⟨w.heap.size, 0, none⟩) 1 1)).run Tryd.prog (w.alloc (.cells #[.int .u8 b] 5)) = .ok (.string ⟨#[UInt8.ofNat b.toNat]⟩) (w.alloc (.cells #[.int .u8 b] 5)) := by
  rw [run_convert_bytes_string _ 92 9 5 _ _ _ Tryd.underlying92 Tryd.underlying5 Tryd.underlying9]
  rw [run_bytesToString _ _ _ _ [b] (by simp [loadCells, go_sem])]
  rfl

theorem cat (a b : List UInt8) : (⟨a.toArray⟩ : ByteArray) ++ ⟨b.toArray⟩ = ⟨(a ++ b).toArray⟩ := by
  apply ByteArray.ext
  rw [ByteArray.data_append]
  simp

set_option maxHeartbeats 400000 in
theorem digit1 (n : Nat) (w : World) (h : n < 10) :
    Calls Tryd.prog 61 #[.int .i64 n] w fun e w' => e = .returned (.string ⟨(Lib.decDigits n).toArray⟩) ∧ Below w.heap.size w w' := by
  have hz : (n : Int) < 10 := by omega
  have hc := fun w => conv_one (48 + (n : Int)) w
  go_enter Tryd.func61, Tryd.ntmps61
  go_wp2_with fail
  go_ret
  refine ⟨?_, (Below.refl _ _).alloc (Nat.le_refl _) _⟩
  rw [Lib.decDigits_one h]
  rw [show (48 + n : Nat) = (48 + (n : Int)).toNat from by omega]
  rfl

set_option maxHeartbeats 400000 in
theorem digits_any (k : Nat) : ∀ (n : Nat) (w : World), n ≤ k → n ≤ 9223372036854775807 →
    Calls Tryd.prog 61 #[.int .i64 n] w fun e w' => e = .returned (.string ⟨(Lib.decDigits n).toArray⟩) ∧ Below w.heap.size w w' := by
  induction k with
  | zero => intro n w hk hN; exact digit1 n w (by omega)
  | succ k ih =>
    intro n w hk hN
    by_cases h : n < 10
    · exact digit1 n w h
    · have hz : ¬ (n : Int) < 10 := by omega
      have IH := Lib.hid ih
      have hl1 : (Lib.decDigits (n / 10)).length ≤ 30 := by have := Lib.itoa_length_le ((n / 10 : Nat) : Int) (by omega) (by omega); rw [Lib.itoa_nonneg] at this; omega
      have hl2 : (Lib.decDigits (n % 10)).length ≤ 30 := by have := Lib.itoa_length_le ((n % 10 : Nat) : Int) (by omega) (by omega); rw [Lib.itoa_nonneg] at this; omega
      have HD := Lib.hid (dec_ten n h)
      clear ih
      go_enter Tryd.func61, Tryd.ntmps61
      go_wp2_with fail
      rw [show ((n : Int) / 10) = ((n / 10 : Nat) : Int) from by simp]
      refine (IH.out (n / 10) _ (by omega) (by omega)).mono ?_
      rintro e w1 ⟨rfl, hb1⟩
      go_wp2_with fail
      rw [show ((n : Int) % 10) = ((n % 10 : Nat) : Int) from by simp]
      refine (digit1 (n % 10) _ (Nat.mod_lt _ (by decide))).mono ?_
      rintro e w2 ⟨rfl, hb2⟩
      have hB : Below w.heap.size w w2 := hb1.trans (hb2.mono hb1.size)
      clear hb1 hb2
      generalize Lib.decDigits (n / 10) = d1 at *
      generalize Lib.decDigits (n % 10) = d2 at *
      go_wp2
      go_ret
      refine ⟨?_, hB⟩
      rw [HD.out, ← cat]
      rfl

set_option maxHeartbeats 400000 in
theorem number_any (n : Int) (w : World) (h0 : -9223372036854775807 ≤ n) (h1 : n ≤ 9223372036854775807) :
    Calls Tryd.prog 46 #[.int .i64 n] w fun e w' => e = .returned (.string ⟨(Lib.itoa n).toArray⟩) ∧ Below w.heap.size w w' := by
  have hlen := Lib.itoa_length_le n (by omega) (by omega)
  by_cases h : n < 0
  · obtain ⟨u, rfl⟩ : ∃ u : Nat, n = -(u : Int) := ⟨n.natAbs, by omega⟩
    rw [Lib.itoa_neg u (by omega)] at hlen ⊢
    have hl : (Lib.decDigits u).length ≤ 30 := by simp at hlen; omega
    have HC : Hid ((⟨#[45]⟩ : ByteArray) ++ ⟨(Lib.decDigits u).toArray⟩ = ⟨(45 :: Lib.decDigits u).toArray⟩) := cat [45] (Lib.decDigits u)
    clear hlen
    go_enter Tryd.func46, Tryd.ntmps46
    go_wp2_with fail
    refine (digits_any u u _ (Nat.le_refl _) (by omega)).mono ?_
    rintro e w1 ⟨rfl, hb1⟩
    go_wp2
    go_ret
    refine ⟨?_, hb1⟩
    rw [← HC.out]
    rfl
  · obtain ⟨u, rfl⟩ : ∃ u : Nat, n = (u : Int) := ⟨n.natAbs, by omega⟩
    rw [Lib.itoa_nonneg u]
    clear hlen
    go_enter Tryd.func46, Tryd.ntmps46
    go_wp2_with fail
    refine (digits_any u u _ (Nat.le_refl _) (by omega)).mono ?_
    rintro e w1 ⟨rfl, hb1⟩
    go_wp2
    go_ret
    exact ⟨rfl, hb1⟩

/-- the text of a number -/
def txt (n d : Int) : List UInt8 := if validQ n d then (if d = 1 then Lib.itoa n else Lib.itoa n ++ [47] ++ Lib.itoa d) else []

set_option maxHeartbeats 1000000 in
theorem text_any (n d : Int) (w : World) (hn : -9223372036854775808 ≤ n) (hN : n ≤ 9223372036854775807) (hd : -9223372036854775808 ≤ d) (hD : d ≤ 9223372036854775807) (ht : Tab w) :
    Calls Tryd.prog 16 #[.agg #[.int .i64 n, .int .i64 d]] w fun e w' => e = .returned (.string ⟨(txt n d).toArray⟩) ∧ Below w.heap.size w w' := by
  have q0 : (w.alloc (.cells #[.int .i64 n, .int .i64 d] 24)).cell? ⟨w.heap.size, 0, none⟩ = some (.int .i64 n) := by simp
  have q1 : (w.alloc (.cells #[.int .i64 n, .int .i64 d] 24)).cell? ⟨w.heap.size, 1, none⟩ = some (.int .i64 d) := by simp
  have hbw : Hid (Below w.heap.size w (w.alloc (.cells #[.int .i64 n, .int .i64 d] 24))) := (Below.refl _ _).alloc (Nat.le_refl _) _
  have HTW := Lib.hid ht
  clear ht
  cases hv : validQ n d with
  | false =>
    have HT : Hid (txt n d = []) := by show txt n d = []; unfold txt; rw [hv]; rfl
    have HV := Lib.hid hv
    clear hv
    go_enter Tryd.func16, Tryd.ntmps16
    go_wp2_with fail
    refine (valid_any n d _ hn hN hd hD).mono ?_
    rw [HV.out]
    rintro e w1 ⟨rfl, hb1⟩
    obtain ⟨_, _, _, hB1⟩ := res2 hb1
    clear hb1
    go_wp2
    go_ret
    refine ⟨?_, hB1⟩
    rw [HT.out]
    rfl
  | true =>
    have HV := Lib.hid hv
    obtain ⟨h1, h2, h3, h4, _⟩ := (valid_iff n d).1 hv
    have hln := Lib.itoa_length_le n (by omega) (by omega)
    have hld := Lib.itoa_length_le d (by omega) (by omega)
    by_cases hd1 : d = 1
    · have HT : Hid (txt n d = Lib.itoa n) := by show txt n d = _; unfold txt; rw [hv, if_pos rfl, if_pos hd1]
      subst hd1
      clear hv
      go_enter Tryd.func16, Tryd.ntmps16
      go_wp2_with fail
      refine (valid_any n 1 _ hn hN hd hD).mono ?_
      rw [HV.out]
      rintro e w1 ⟨rfl, hb1⟩
      obtain ⟨⟨p0, p1⟩, _, _, hB1⟩ := res2 hb1
      have HB1 := Lib.hid hB1
      have hs1 := hB1.size
      clear hb1 hB1
      go_wp2_with fail
      refine (itoa_any n _ (by omega) (by omega) (HTW.out.below HB1.out)).mono ?_
      rintro e w2 ⟨rfl, hb2⟩
      have hB2 := HB1.out.trans (hb2.mono hs1)
      clear hb2
      go_wp2
      go_ret
      refine ⟨?_, hB2⟩
      rw [HT.out]
      rfl
    · have HT : Hid (txt n d = Lib.itoa n ++ [47] ++ Lib.itoa d) := by show txt n d = _; unfold txt; rw [hv, if_pos rfl, if_neg hd1]
      have hd1' : (d == 1) = false := by simpa using hd1
      clear hv
      go_enter Tryd.func16, Tryd.ntmps16
      go_wp2_with fail
      refine (valid_any n d _ hn hN hd hD).mono ?_
      rw [HV.out]
      rintro e w1 ⟨rfl, hb1⟩
      obtain ⟨⟨p0, p1⟩, _, _, hB1⟩ := res2 hb1
      have HB1 := Lib.hid hB1
      have hs1 := hB1.size
      clear hb1 hB1
      go_wp2
      have k0 := fun d os => cell_regrown p0 d os
      have k1 := fun d os => cell_regrown p1 d os
      have HTB := Lib.hid (HTW.out.below HB1.out)
      have cI := Lib.hid fun (x : Int) dd os (hx : -9223372036854775807 ≤ x) (hX : x ≤ 9223372036854775807) => Calls.regrown_of (itoa_any x (Sort.grow (redrawn w1 dd) os) (by omega) hX (HTB.out.below (below_regrown w1 dd os)))
      refine wp_region_quiet_below (by kernel_rfl) (by kernel_rfl) ?_
      repeat (first | go_big_quiet_step ((go_at_call 45; exact cI.out _ _ _ (by omega) (by omega))) | quiet_step ((go_at_call 45; exact cI.out _ _ _ (by omega) (by omega))))
      refine wpQuiet_nil ?_
      intro _ hw'
      obtain ⟨⟨dq, osq⟩, hw''⟩ := hw'
      subst hw''
      have hB2 := HB1.out.trans ((below_regrown w1 dq osq).mono hs1)
      clear cI k0 k1
      go_wp2
      go_ret
      refine ⟨?_, hB2⟩
      rw [HT.out, ← cat, ← cat]
      rfl

set_option maxHeartbeats 1000000 in
theorem refText_any (n d : Int) (w : World) (hn : -9223372036854775808 ≤ n) (hN : n ≤ 9223372036854775807) (hd : -9223372036854775808 ≤ d) (hD : d ≤ 9223372036854775807) :
    Calls Tryd.prog 17 #[.agg #[.int .i64 n, .int .i64 d]] w fun e w' => e = .returned (.string ⟨(txt n d).toArray⟩) ∧ Below w.heap.size w w' := by
  have q0 : (w.alloc (.cells #[.int .i64 n, .int .i64 d] 28)).cell? ⟨w.heap.size, 0, none⟩ = some (.int .i64 n) := by simp
  have q1 : (w.alloc (.cells #[.int .i64 n, .int .i64 d] 28)).cell? ⟨w.heap.size, 1, none⟩ = some (.int .i64 d) := by simp
  have hbw : Hid (Below w.heap.size w (w.alloc (.cells #[.int .i64 n, .int .i64 d] 28))) := (Below.refl _ _).alloc (Nat.le_refl _) _
  cases hv : validQ n d with
  | false =>
    have HT : Hid (txt n d = []) := by show txt n d = []; unfold txt; rw [hv]; rfl
    have HV := Lib.hid hv
    clear hv
    go_enter Tryd.func17, Tryd.ntmps17
    go_wp2_with fail
    refine (refValid_any n d _ hn hN hd hD).mono ?_
    rw [HV.out]
    rintro e w1 ⟨rfl, hb1⟩
    obtain ⟨_, _, _, hB1⟩ := res2 hb1
    clear hb1
    go_wp2
    go_ret
    refine ⟨?_, hB1⟩
    rw [HT.out]
    rfl
  | true =>
    have HV := Lib.hid hv
    obtain ⟨h1, h2, h3, h4, _⟩ := (valid_iff n d).1 hv
    have hln := Lib.itoa_length_le n (by omega) (by omega)
    have hld := Lib.itoa_length_le d (by omega) (by omega)
    by_cases hd1 : d = 1
    · have HT : Hid (txt n d = Lib.itoa n) := by show txt n d = _; unfold txt; rw [hv, if_pos rfl, if_pos hd1]
      subst hd1
      clear hv
      go_enter Tryd.func17, Tryd.ntmps17
      go_wp2_with fail
      refine (refValid_any n 1 _ hn hN hd hD).mono ?_
      rw [HV.out]
      rintro e w1 ⟨rfl, hb1⟩
      obtain ⟨⟨p0, p1⟩, _, _, hB1⟩ := res2 hb1
      have HB1 := Lib.hid hB1
      have hs1 := hB1.size
      clear hb1 hB1
      go_wp2_with fail
      refine (number_any n _ (by omega) (by omega)).mono ?_
      rintro e w2 ⟨rfl, hb2⟩
      have hB2 := HB1.out.trans (hb2.mono hs1)
      clear hb2
      go_wp2
      go_ret
      refine ⟨?_, hB2⟩
      rw [HT.out]
      rfl
    · have HT : Hid (txt n d = Lib.itoa n ++ [47] ++ Lib.itoa d) := by show txt n d = _; unfold txt; rw [hv, if_pos rfl, if_neg hd1]
      have hd1' : (d == 1) = false := by simpa using hd1
      clear hv
      go_enter Tryd.func17, Tryd.ntmps17
      go_wp2_with fail
      refine (refValid_any n d _ hn hN hd hD).mono ?_
      rw [HV.out]
      rintro e w1 ⟨rfl, hb1⟩
      obtain ⟨⟨p0, p1⟩, _, _, hB1⟩ := res2 hb1
      have HB1 := Lib.hid hB1
      have hs1 := hB1.size
      clear hb1 hB1
      go_wp2
      have k0 := fun d os => cell_regrown p0 d os
      have k1 := fun d os => cell_regrown p1 d os
      have cI := Lib.hid fun (x : Int) dd os (hx : -9223372036854775807 ≤ x) (hX : x ≤ 9223372036854775807) => Calls.regrown_of (number_any x (Sort.grow (redrawn w1 dd) os) (by omega) hX)
      refine wp_region_quiet_below (by kernel_rfl) (by kernel_rfl) ?_
      repeat (first | go_big_quiet_step ((go_at_call 46; exact cI.out _ _ _ (by omega) (by omega))) | quiet_step ((go_at_call 46; exact cI.out _ _ _ (by omega) (by omega))))
      refine wpQuiet_nil ?_
      intro _ hw'
      obtain ⟨⟨dq, osq⟩, hw''⟩ := hw'
      subst hw''
      have hB2 := HB1.out.trans ((below_regrown w1 dq osq).mono hs1)
      clear cI k0 k1
      go_wp2
      go_ret
      refine ⟨?_, hB2⟩
      rw [HT.out, ← cat, ← cat]
      rfl
end Go.Proofs.YtaekhbhjgcmghaaDoor
