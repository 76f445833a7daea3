/- Walk of RationalDecimal. -/
import Derived.Test.YtaekhbhjgcmghaaDoorPrsL
import Derived.Test.YtaekhbhjgcmghaaDoorNums
namespace Go.Proofs.YtaekhbhjgcmghaaDoor
open Go.ChangeShapes Go.WideShapes Go.ChangeAt Go.RowKit

theorem dec_one {i : Nat} (h : i < 10) : Lib.decDigits i = [dg i] := by rw [Lib.decDigits_one h]; rfl
theorem dec_props : ∀ (n : Nat), (∀ c ∈ Lib.decDigits n, isD c = true) ∧ Lib.decDigits n ≠ [] ∧ valD (Lib.decDigits n) = n := by
  intro n
  induction n using Nat.strongRecOn with
  | _ n ih =>
    have one : ∀ i, i < 10 → (∀ c ∈ Lib.decDigits i, isD c = true) ∧ Lib.decDigits i ≠ [] ∧ valD (Lib.decDigits i) = i := by
      intro i hi
      rw [dec_one hi]
      refine ⟨fun c hc => ?_, by simp, ?_⟩
      · obtain rfl : c = dg i := by simpa using hc
        rw [isD_iff, quo_toNat i (by omega)]; omega
      · have := val_snoc [] (dg i)
        rw [List.nil_append] at this
        rw [this, quo_toNat i (by omega), show valD [] = 0 from rfl]; omega
    by_cases h : n < 10
    · exact one n h
    · obtain ⟨h1, h2, h3⟩ := ih (n / 10) (by omega)
      obtain ⟨g1, g2, g3⟩ := one (n % 10) (Nat.mod_lt _ (by decide))
      rw [dec_ten n h]
      refine ⟨fun c hc => ?_, by simp [h2], ?_⟩
      · rcases List.mem_append.1 hc with h' | h'
        · exact h1 c h'
        · exact g1 c h'
      · rw [val_app, h3, g3, dec_one (Nat.mod_lt _ (by decide))]
        simp; omega
theorem dec_digs (n : Nat) : digs (Lib.decDigits n) = true := (digs_iff _).2 ⟨(dec_props n).2.1, (dec_props n).1⟩
theorem txt_nat (n : Nat) (h : n ≤ 65535) : txt (n : Int) 1 = Lib.decDigits n := by
  unfold txt
  have hv : validQ (n : Int) 1 = true := by
    rw [valid_iff]
    refine ⟨by decide, by decide, by omega, by omega, ?_⟩
    simp
  rw [hv, if_pos rfl, if_pos rfl, Lib.itoa_nonneg]
/-- the digits with zeros ahead -/
def zl (z n : Nat) : List UInt8 := List.replicate z 48 ++ Lib.decDigits n
theorem zl_succ (z n : Nat) : zl (z + 1) n = 48 :: zl z n := by unfold zl; rw [List.replicate_succ]; rfl
theorem zl_digs (z n : Nat) : digs (zl z n) = true := by
  rw [digs_iff]
  unfold zl
  refine ⟨by simp [(dec_props n).2.1], fun c hc => ?_⟩
  rcases List.mem_append.1 hc with h | h
  · rw [List.mem_replicate] at h; rw [h.2]; decide
  · exact (dec_props n).1 c h
theorem zl_val (z n : Nat) : valD (zl z n) = n := by
  induction z with
  | zero => unfold zl; simp [(dec_props n).2.2]
  | succ z ih => rw [zl_succ, val_zero, ih]
/-- a decimal is the sum of its parts -/
theorem dec_sum (a n z : Nat) (ha : a ≤ 65535) (hk : (mk (n : Int) ((10 ^ (zl z n).length : Nat) : Int)).err = 0) :
    op0 (mk (n : Int) ((10 ^ (zl z n).length : Nat) : Int)) ⟨(a : Int), 1, 0⟩ = decQ (Lib.decDigits a) (zl z n) := by
  unfold op0
  rw [if_pos ⟨hk, rfl⟩]
  obtain ⟨_, hv, he⟩ := mk_ok _ _ hk
  have hva : validQ (a : Int) 1 = true := by
    rw [valid_iff]
    refine ⟨by decide, by decide, by omega, by omega, by simp⟩
  unfold decQ
  rw [val_app, (dec_props a).2.2, zl_val]
  generalize mk (n : Int) ((10 ^ (zl z n).length : Nat) : Int) = r at *
  have h10 : 0 < 10 ^ (zl z n).length := Nat.pow_pos (by decide)
  generalize 10 ^ (zl z n).length = t at *
  obtain ⟨p, q, e⟩ := r
  simp only at *
  unfold addQ
  rw [hv, hva, if_pos (by rfl)]
  have hv' := (valid_iff p q).1 hv
  have hq0 : 0 < q := by omega
  have hp0 : 0 ≤ p := by
    rcases Int.lt_or_le p 0 with h | h
    · exfalso
      have h1 : p * (t : Int) < 0 := Int.mul_neg_of_neg_of_pos h (by omega)
      have h2 : 0 ≤ (n : Int) * q := Int.mul_nonneg (by omega) (by omega)
      omega
    · exact h
  obtain ⟨p', rfl⟩ : ∃ p' : Nat, p = (p' : Int) := ⟨p.toNat, by omega⟩
  obtain ⟨q', rfl⟩ : ∃ q' : Nat, q = (q' : Int) := ⟨q.toNat, by omega⟩
  have he' : p' * t = n * q' := by
    have : ((p' * t : Nat) : Int) = ((n * q' : Nat) : Int) := by rw [Int.natCast_mul, Int.natCast_mul]; exact he
    omega
  have e1 : (p' : Int) * 1 + (a : Int) * (q' : Int) = ((p' + a * q' : Nat) : Int) := by rw [Int.natCast_add, Int.natCast_mul]; omega
  have e2 : (q' : Int) * 1 = (q' : Int) := Int.mul_one _
  rw [e1, e2]
  refine mk_cross _ _ _ _ (by omega) h10 ?_
  rw [Nat.add_mul, he', Nat.add_mul]
  have : a * q' * t = a * t * q' := by rw [Nat.mul_assoc, Nat.mul_comm q' t, ← Nat.mul_assoc]
  omega
theorem parse_dec (a n z : Nat) (hl : (Lib.decDigits a).length + 1 + (zl z n).length ≤ 40) : parseQ (Lib.decDigits a ++ 46 :: zl z n) = decQ (Lib.decDigits a) (zl z n) := by
  unfold parseQ
  rw [cut_unique (no_point (dec_digs a)), if_neg]
  rintro (h | h | h)
  · simp at h; omega
  · rw [dec_digs] at h; cases h
  · rw [zl_digs] at h; cases h.2
theorem agree_self (x : Res) : agreeQ x x = true := by unfold agreeQ; simp
theorem agree_bad (x y : Res) (h : y.err ≠ 0) : agreeQ x y = true := by unfold agreeQ; simp [h]
theorem err_of_bad (x : Res) (y : Res) (h : x.err ≠ 0) : (op0 x y).err = 2 := by unfold op0; rw [if_neg (fun h' => h h'.1)]
/-- what the law asks of the four results -/
theorem dec_law (a n z : Nat) (ha : a ≤ 65535) :
    agreeQ (decQ (Lib.decDigits a) (zl z n)) (op0 (mk (n : Int) ((10 ^ (zl z n).length : Nat) : Int)) ⟨(a : Int), 1, 0⟩) = true ∧
    ((op0 (mk (n : Int) ((10 ^ (zl z n).length : Nat) : Int)) ⟨(a : Int), 1, 0⟩).err ≠ 0 ∨ (decQ (Lib.decDigits a) (zl z n)).err = 0) := by
  by_cases hk : (mk (n : Int) ((10 ^ (zl z n).length : Nat) : Int)).err = 0
  · rw [dec_sum a n z ha hk]
    refine ⟨agree_self _, ?_⟩
    by_cases h : (decQ (Lib.decDigits a) (zl z n)).err = 0
    · exact .inr h
    · exact .inl h
  · have := err_of_bad _ ⟨(a : Int), 1, 0⟩ hk
    exact ⟨agree_bad _ _ (by rw [this]; decide), .inl (by rw [this]; decide)⟩
theorem mk_bnds (n d : Int) : -9223372036854775808 ≤ (mk n d).num ∧ (mk n d).num ≤ 9223372036854775807 ∧ -9223372036854775808 ≤ (mk n d).den ∧ (mk n d).den ≤ 9223372036854775807 := by
  by_cases h : (mk n d).err = 0
  · obtain ⟨_, hv, _⟩ := mk_ok n d h
    obtain ⟨h1, h2, h3, h4, _⟩ := (valid_iff _ _).1 hv
    omega
  · obtain ⟨h1, h2⟩ := mk_bad n d h
    omega
theorem dec_lenk : ∀ (k n : Nat), n < 10 ^ (k + 1) → (Lib.decDigits n).length ≤ k + 1 := by
  intro k
  induction k with
  | zero => intro n h; rw [dec_one (by simpa using h)]; simp
  | succ k ih =>
    intro n h
    by_cases h1 : n < 10
    · rw [dec_one h1]; simp
    · rw [dec_ten n h1, List.length_append, dec_one (Nat.mod_lt _ (by decide))]
      have := ih (n / 10) (by rw [Nat.pow_succ] at h; omega)
      simp; omega
theorem dec_len (n : Nat) (h : n ≤ 65535) : (Lib.decDigits n).length ≤ 5 := dec_lenk 4 n (by have : (10 : Nat) ^ (4 + 1) = 100000 := by decide
                                                                                             omega)
theorem zl_len (z n : Nat) (hz : z < 3) (hn : n ≤ 65535) : (zl z n).length ≤ 7 := by
  unfold zl
  rw [List.length_append, List.length_replicate]
  have := dec_len n hn
  omega
theorem pow_le7 {k : Nat} (h : k ≤ 7) : 10 ^ k ≤ 10000000 := by
  have := Nat.pow_le_pow_right (show 0 < 10 by decide) h
  simpa using this
theorem mk_cons (c : UInt8) (l : List UInt8) : (⟨#[c]⟩ : ByteArray) ++ ⟨l.toArray⟩ = ⟨(c :: l).toArray⟩ := cat [c] l

set_option maxRecDepth 100000 in
set_option maxHeartbeats 4000000 in
theorem decimal_walk (a n z : Nat) (w : World) (ha : a ≤ 65535) (hn : n ≤ 65535) (hz : z ≤ 255) (ht : Tab w) (hm : Max w) :
    Calls Tryd.prog 11 #[.int .u16 a, .int .u16 n, .int .u8 z] w fun e w' => e = .returned (.bool true) ∧ Below w.heap.size w w' := by
  have HT := Lib.hid ht
  have HM := Lib.hid hm
  clear ht hm
  obtain ⟨y, hy⟩ : ∃ y : Nat, y = z % 3 := ⟨_, rfl⟩
  have hy3 : y < 3 := by omega
  have hyz : (z : Int) % 3 = (y : Int) := by omega
  have hlD := zl_len y n hy3 hn
  have hlA := dec_len a ha
  have hlN := dec_len n hn
  have HX := Lib.hid (dec_law a n y ha)
  have HPD := Lib.hid (parse_dec a n y (by omega))
  have HTA := Lib.hid (txt_nat a ha)
  have HTN := Lib.hid (txt_nat n hn)
  clear hy
  go_enter Tryd.func11, Tryd.ntmps11
  go_wp2_with fail
  refine (awake_any _ HT.out).mono ?_
  rintro e w1 ⟨rfl, hb1⟩
  have HB1 := Lib.hid hb1
  clear hb1
  go_wp2_with fail
  refine (refText_any (n : Int) 1 _ (by omega) (by omega) (by decide) (by decide)).mono ?_
  rw [HTN.out]
  rintro e w2 ⟨rfl, hb2⟩
  have HB2 := Lib.hid (HB1.out.trans (hb2.mono HB1.out.size))
  clear hb2 HB1
  go_wp2_with fail
  go_loopg [7, 9] y (fun gg s7 s9 wr => ∃ k : Nat, k ≤ y ∧ y - k ≤ gg ∧ w2 = wr ∧ s9 = .int .i64 k ∧ s7 = .string ⟨(zl k n).toArray⟩)
  case atStart => exact ⟨0, Nat.zero_le _, by omega, rfl, rfl, rfl⟩
  case round =>
    obtain ⟨k, hk, hgg, rfl, rfl, rfl⟩ := hrel
    by_cases hlt : k < y
    · have hltz : (k : Int) < (y : Int) := by omega
      have hkl := zl_len k n (by omega) hn
      have hsz : (⟨(zl k n).toArray⟩ : ByteArray).size = (zl k n).length := size_mk _
      have HC := Lib.hid (mk_cons 48 (zl k n))
      have HZ := Lib.hid (zl_succ k n)
      go_wp2_with fail
      go_roundg (y - (k + 1))
      case measure => omega
      case rel => exact ⟨k + 1, by omega, by omega, rfl, by go_num, by rw [HZ.out, ← HC.out]⟩
    · have hltz : ¬ (k : Int) < (y : Int) := by omega
      obtain rfl : k = y := by omega
      obtain ⟨D, hD⟩ : ∃ D, D = zl k n := ⟨_, rfl⟩
      rw [← hD] at hlD HX HPD ⊢
      clear hD
      have hsD : (⟨D.toArray⟩ : ByteArray).size = D.length := size_mk D
      go_wp2_with fail
      go_loopg [8, 10] D.length (fun gg s8 s10 wr => ∃ j : Nat, j ≤ D.length ∧ D.length - j ≤ gg ∧ w2 = wr ∧ s10 = .int .i64 j ∧ s8 = .int .i64 ((10 ^ j : Nat) : Int))
      case atStart => exact ⟨0, Nat.zero_le _, by omega, rfl, rfl, rfl⟩
      case round =>
        obtain ⟨j, hj, hgg2, rfl, rfl, rfl⟩ := hrel
        have hp7 := pow_le7 (k := j) (by omega)
        by_cases hlt2 : j < D.length
        · have hltz2 : (j : Int) < (D.length : Int) := by omega
          have HPW := Lib.hid (Nat.pow_succ 10 j)
          obtain ⟨x, hx⟩ : ∃ x, x = 10 ^ j := ⟨_, rfl⟩
          rw [← hx] at hp7 HPW ⊢
          clear hx
          go_wp2_with fail
          go_roundg (D.length - (j + 1))
          case measure => omega
          case rel => exact ⟨j + 1, by omega, by omega, rfl, by go_num, by rw [HPW.out]; go_num⟩
        · have hltz2 : ¬ (j : Int) < (D.length : Int) := by omega
          obtain rfl : j = D.length := by omega
          obtain ⟨t, htt⟩ : ∃ t, t = 10 ^ D.length := ⟨_, rfl⟩
          rw [← htt] at hp7 HX ⊢
          clear htt
          have hcA : (⟨(Lib.decDigits a).toArray⟩ : ByteArray).size = (Lib.decDigits a).length := size_mk _
          go_wp2_with fail
          refine (refText_any (a : Int) 1 _ (by omega) (by omega) (by decide) (by decide)).mono ?_
          rw [HTA.out]
          rintro e w3 ⟨rfl, hb3⟩
          have HB3 := Lib.hid (HB2.out.trans (hb3.mono HB2.out.size))
          clear hb3 HB2
          have HCAT : Hid ((⟨(Lib.decDigits a).toArray⟩ : ByteArray) ++ ⟨#[46]⟩ ++ ⟨D.toArray⟩ = ⟨(Lib.decDigits a ++ 46 :: D).toArray⟩) := by
            show (⟨(Lib.decDigits a).toArray⟩ : ByteArray) ++ ⟨#[46]⟩ ++ ⟨D.toArray⟩ = ⟨(Lib.decDigits a ++ 46 :: D).toArray⟩
            rw [show (⟨#[46]⟩ : ByteArray) = ⟨([46] : List UInt8).toArray⟩ from rfl, cat, cat, List.append_assoc]; rfl
          go_wp2_with fail
          rw [HCAT.out]
          refine (parse_any (Lib.decDigits a ++ 46 :: D) _ (by rw [List.length_append, List.length_cons]; omega) (HM.out.below HB3.out)).mono ?_
          rw [HPD.out]
          obtain ⟨⟨x0, x1, x2⟩, hxx⟩ : ∃ x, x = decQ (Lib.decDigits a) D := ⟨_, rfl⟩
          rw [← hxx] at HX ⊢
          clear hxx
          simp only [Res.val]
          rintro e w4 ⟨rfl, hb4⟩
          have HB4 := Lib.hid (HB3.out.trans (hb4.mono HB3.out.size))
          clear hb4 HB3
          go_wp2_with fail
          refine (make_any (n : Int) (t : Int) _ (by omega) (by omega) (by omega) (by omega)).mono ?_
          have hbm := mk_bnds (n : Int) (t : Int)
          obtain ⟨⟨m0, m1, m2⟩, hmm⟩ : ∃ x, x = mk (n : Int) (t : Int) := ⟨_, rfl⟩
          rw [← hmm] at HX hbm ⊢
          clear hmm
          simp only [Res.val] at hbm ⊢
          rintro e w5 ⟨rfl, hb5⟩
          obtain ⟨⟨q0, q1⟩, qf, qs, hB5⟩ := res2 hb5
          have HB5 := Lib.hid (HB4.out.trans (hB5.mono HB4.out.size))
          clear hb5 hB5 HB4
          have hlt5 : w4.heap.size < w5.heap.size := qs
          have k0 : (w5.alloc (.cells #[.int .i64 m0, .int .i64 m1] 24)).cell? ⟨w4.heap.size, 0, none⟩ = some (.int .i64 x0) := by
            rw [World.cell?_alloc_lt _ _ _ hlt5]; exact q0
          have k1 : (w5.alloc (.cells #[.int .i64 m0, .int .i64 m1] 24)).cell? ⟨w4.heap.size, 1, none⟩ = some (.int .i64 x1) := by
            rw [World.cell?_alloc_lt _ _ _ hlt5]; exact q1
          have HB5a : Hid (Below w.heap.size w (w5.alloc (.cells #[.int .i64 m0, .int .i64 m1] 24))) := HB5.out.alloc HB5.out.size _
          have hl6 : w4.heap.size < (w5.alloc (.cells #[.int .i64 m0, .int .i64 m1] 24)).heap.size := by simp; omega
          obtain ⟨hb_1, hb_2, hb_3, hb_4⟩ := hbm
          have K := Lib.hid (And.intro k0 k1)
          clear k0 k1 q0 q1 qf
          go_wp2_with fail
          refine (op0_any m0 m1 m2 (a : Int) 1 0 _ hb_1 hb_2 hb_3 hb_4 (by omega) (by omega) (by decide) (by decide)).mono ?_
          obtain ⟨⟨r0, r1, r2⟩, hrr⟩ : ∃ x, x = op0 ⟨m0, m1, m2⟩ ⟨(a : Int), 1, 0⟩ := ⟨_, rfl⟩
          rw [← hrr] at HX ⊢
          clear hrr
          simp only [Res.val]
          rintro e w6 ⟨rfl, hb6⟩
          have c0 := (hb6.cell (p := ⟨w4.heap.size, 0, none⟩) hl6).trans K.out.1
          have c1 := (hb6.cell (p := ⟨w4.heap.size, 1, none⟩) hl6).trans K.out.2
          have hl7 : w4.heap.size < w6.heap.size := Nat.lt_of_lt_of_le hl6 hb6.size
          have HB6 := Lib.hid (HB5a.out.trans (hb6.mono HB5a.out.size))
          have d0 : (w6.alloc (.cells #[.int .i64 r0, .int .i64 r1] 24)).cell? ⟨w4.heap.size, 0, none⟩ = some (.int .i64 x0) := by
            rw [World.cell?_alloc_lt _ _ _ hl7]; exact c0
          have d1 : (w6.alloc (.cells #[.int .i64 r0, .int .i64 r1] 24)).cell? ⟨w4.heap.size, 1, none⟩ = some (.int .i64 x1) := by
            rw [World.cell?_alloc_lt _ _ _ hl7]; exact c1
          have HB6a : Hid (Below w.heap.size w (w6.alloc (.cells #[.int .i64 r0, .int .i64 r1] 24))) := HB6.out.alloc HB6.out.size _
          clear hb6 HB5 HB5a HB6 K hl6 c0 c1
          go_wp2_with fail
          refine (agree_any x0 x1 x2 r0 r1 r2 _ HX.out.1).mono ?_
          rintro e w7 ⟨rfl, hb7⟩
          have HB7 := Lib.hid (HB6a.out.trans (hb7.mono HB6a.out.size))
          clear hb7 HB6a d0 d1
          by_cases hr : r2 = 0
          · have hx : x2 = 0 := by
              rcases HX.out.2 with h | h
              · exact absurd hr h
              · exact h
            subst hr hx
            go_wp2_with fail
            go_ret
            exact ⟨rfl, HB7.out⟩
          · have hr1 : (r2 == 0) = false := by simpa using hr
            have hr2 : (r2 != 0) = true := by simpa using hr
            clear hr
            go_wp2_with fail
            go_ret
            exact ⟨rfl, HB7.out⟩
theorem decimal_args (a n z : Int) (w : World) (ha : (Lit.int .u16 a).wf = true) (hn : (Lit.int .u16 n).wf = true) (hz : (Lit.int .u8 z).wf = true) (ht : Tab w) (hm : Max w) :
    Calls Tryd.prog 11 #[.int .u16 a, .int .u16 n, .int .u8 z] w fun e w' => e = .returned (.bool true) ∧ Below w.heap.size w w' := by
  simp [Lit.wf, IntKind.min, IntKind.max, IntKind.signed, IntKind.bits] at ha hn hz
  obtain ⟨a', rfl⟩ : ∃ a' : Nat, a = (a' : Int) := ⟨a.toNat, by omega⟩
  obtain ⟨n', rfl⟩ : ∃ n' : Nat, n = (n' : Int) := ⟨n.toNat, by omega⟩
  obtain ⟨z', rfl⟩ : ∃ z' : Nat, z = (z' : Int) := ⟨z.toNat, by omega⟩
  exact decimal_walk a' n' z' w (by omega) (by omega) (by omega) ht hm
end Go.Proofs.YtaekhbhjgcmghaaDoor
