/- A length's text and its reading undo each other: plain laws on lists of bytes. No walk. -/
import Derived.Test.YtbaljopgkelcfaaDoorPrs
import Derived.Test.YtbaljopgkelcfaaDoorText
namespace Go.Proofs.YtbaljopgkelcfaaDoor

theorem dig_toNat {k : Nat} (h : k < 10) : (dig k).toNat = 48 + k := by
  unfold dig; simp [UInt8.toNat_ofNat']; omega
theorem dig_isD {k : Nat} (h : k < 10) : isD (dig k) = true := by
  unfold isD; rw [dig_toNat h]; simp; omega
theorem isD_dig {c : UInt8} (h : isD c = true) : ∃ k, k < 10 ∧ c = dig k := by
  unfold isD at h
  simp only [Bool.and_eq_true, decide_eq_true_eq] at h
  refine ⟨c.toNat - 48, by omega, ?_⟩
  apply UInt8.toNat_inj.1
  rw [dig_toNat (by omega)]; omega
/-- without a zero ahead -/
def lead (w : List UInt8) : Prop := w = [48] ∨ ∃ c t, w = c :: t ∧ c ≠ 48
theorem lead_of {w : List UInt8} (h : badW w = false) : (∀ c ∈ w, isD c = true) ∧ lead w := by
  unfold badW at h
  simp only [Bool.or_eq_false_iff, Bool.not_eq_false', Bool.and_eq_false_imp, decide_eq_true_eq] at h
  obtain ⟨hd, hz⟩ := h
  obtain ⟨hne, hall⟩ := (digs_iff w).1 hd
  refine ⟨hall, ?_⟩
  match w, hne with
  | [c], _ =>
    by_cases hc : c = 48
    · exact .inl (by rw [hc])
    · exact .inr ⟨c, [], rfl, hc⟩
  | c :: d :: t, _ =>
    right
    refine ⟨c, d :: t, rfl, fun e => ?_⟩
    have := hz (by simp)
    rw [e] at this
    simp at this
theorem badW_of {w : List UInt8} (hall : ∀ c ∈ w, isD c = true) (h : lead w) : badW w = false := by
  unfold badW
  have hd : digs w = true := (digs_iff w).2 ⟨by rcases h with rfl | ⟨c, t, rfl, _⟩ <;> simp, hall⟩
  rw [hd]
  rcases h with rfl | ⟨c, t, rfl, hc⟩
  · rfl
  · simp [hc]
theorem dec_props : ∀ (n : Nat), (∀ c ∈ Lib.decDigits n, isD c = true) ∧ lead (Lib.decDigits n) ∧ valD (Lib.decDigits n) = n ∧ (1 ≤ n → ∃ c t, Lib.decDigits n = c :: t ∧ c ≠ 48) := by
  intro n
  induction n using Nat.strongRecOn with
  | _ n ih =>
    by_cases h : n < 10
    · rw [Lib.decDigits_one h]
      have e : (UInt8.ofNat (48 + n)) = dig n := rfl
      rw [e]
      have hv : valD [dig n] = n := by unfold valD; simp only [List.foldl_cons, List.foldl_nil]; rw [dig_toNat h]; omega
      have hc : 1 ≤ n → dig n ≠ 48 := fun h1 e => by
        have := congrArg UInt8.toNat e
        rw [dig_toNat h] at this
        have h48 : (48 : UInt8).toNat = 48 := rfl
        omega
      refine ⟨by intro c hc; rw [List.mem_singleton] at hc; rw [hc]; exact dig_isD h, ?_, hv, fun h1 => ⟨_, [], rfl, hc h1⟩⟩
      rcases Nat.eq_zero_or_pos n with h0 | h0
      · subst h0; exact .inl rfl
      · exact .inr ⟨_, [], rfl, hc h0⟩
    · obtain ⟨i1, i2, i3, i4⟩ := ih (n / 10) (by omega)
      rw [dec_step n h]
      obtain ⟨c, t, e, hc⟩ := i4 (by omega)
      refine ⟨?_, ?_, ?_, ?_⟩
      · intro x hx
        rcases List.mem_append.1 hx with hx | hx
        · exact i1 x hx
        · rw [List.mem_singleton] at hx; rw [hx]; exact dig_isD (Nat.mod_lt _ (by decide))
      · exact .inr ⟨c, t ++ [dig (n % 10)], by rw [e]; rfl, hc⟩
      · rw [val_snoc, i3, dig_toNat (Nat.mod_lt _ (by decide))]; omega
      · intro _; exact ⟨c, t ++ [dig (n % 10)], by rw [e]; rfl, hc⟩
theorem val_pos {c : UInt8} {t : List UInt8} (h : isD c = true) (hc : c ≠ 48) : 1 ≤ valD (c :: t) := by
  have := val_ge c t h hc
  have : 0 < 10 ^ t.length := Nat.pow_pos (by decide)
  omega
theorem dec_val : ∀ (k : Nat) (w : List UInt8), w.length = k → (∀ c ∈ w, isD c = true) → lead w → Lib.decDigits (valD w) = w := by
  intro k
  induction k with
  | zero => intro w hl _ h; rcases h with rfl | ⟨c, t, rfl, _⟩ <;> simp at hl
  | succ k ih =>
    intro w hl hall h
    rcases List.eq_nil_or_concat w with rfl | ⟨u, c, rfl⟩
    · simp at hl
    · rw [List.concat_eq_append] at *
      obtain ⟨d, hd, rfl⟩ := isD_dig (hall c (by simp))
      rw [val_snoc, dig_toNat hd]
      cases u with
      | nil => rw [show valD [] = 0 from rfl, Lib.decDigits_one (by omega)]; rw [show 10 * 0 + (48 + d - 48) = d from by omega]; rfl
      | cons x t =>
        have hx : x ≠ 48 := by
          rcases h with h | ⟨c, t', h, hc⟩
          · have := congrArg List.length h; simp at this
          · simp at h; rw [h.1]; exact hc
        have hp := val_pos (t := t) (hall x (by simp)) hx
        have := ih (x :: t) (by simpa using hl) (fun c hc => hall c (List.mem_append_left _ hc)) (.inr ⟨x, t, rfl, hx⟩)
        rw [dec_step _ (by omega), show (10 * valD (x :: t) + (48 + d - 48)) / 10 = valD (x :: t) from by omega, show (10 * valD (x :: t) + (48 + d - 48)) % 10 = d from by omega, this]
theorem len_dec {n k : Nat} (h : n < 10 ^ k) (hk : 1 ≤ k) : (Lib.decDigits n).length ≤ k := by
  obtain ⟨h1, h2, h3, h4⟩ := dec_props n
  rcases Nat.eq_zero_or_pos n with h0 | h0
  · subst h0; rw [Lib.decDigits_one (by omega)]; simpa using hk
  · obtain ⟨c, t, e, hc⟩ := h4 h0
    rw [e] at h1 h3 ⊢
    have := val_ge c t (h1 c (by simp)) hc
    rw [h3] at this
    have : 10 ^ t.length < 10 ^ k := by omega
    have := (Nat.pow_lt_pow_iff_right (by decide)).1 this
    simp; omega

/-- the digits behind the point -/
def fracOk (r : Nat) : Bool := !badF (fracL r) && (valD (pad3 (fracL r)) == r)
theorem frac_all : (List.range 1000).all (fun r => r == 0 || fracOk r) = true := by decide +kernel
theorem frac_props {r : Nat} (h0 : 0 < r) (h : r < 1000) : badF (fracL r) = false ∧ valD (pad3 (fracL r)) = r := by
  have := List.all_eq_true.1 frac_all r (List.mem_range.2 h)
  have h1 : (r == 0) = false := by simp; omega
  rw [h1, Bool.false_or] at this
  unfold fracOk at this
  simpa using this
def frac3 (x y z : Nat) : Bool := fracL (valD (pad3 [dig x, dig y, dig z])) == [dig x, dig y, dig z] && decide (0 < valD (pad3 [dig x, dig y, dig z]))
def frac2 (x y : Nat) : Bool := fracL (valD (pad3 [dig x, dig y])) == [dig x, dig y] && decide (0 < valD (pad3 [dig x, dig y]))
def frac1 (x : Nat) : Bool := fracL (valD (pad3 [dig x])) == [dig x] && decide (0 < valD (pad3 [dig x]))
theorem frac3_all : (List.range 10).all (fun x => (List.range 10).all fun y => (List.range 10).all fun z => z == 0 || frac3 x y z) = true := by decide +kernel
theorem frac2_all : (List.range 10).all (fun x => (List.range 10).all fun y => y == 0 || frac2 x y) = true := by decide +kernel
theorem frac1_all : (List.range 10).all (fun x => x == 0 || frac1 x) = true := by decide +kernel
theorem dig_zero {k : Nat} (h : (some (dig k) == some 48) = false) : (k == 0) = false := by
  cases k with
  | zero => exact absurd h (by decide)
  | succ k => rfl
theorem frac_val {f : List UInt8} (h : badF f = false) : fracL (valD (pad3 f)) = f ∧ 0 < valD (pad3 f) := by
  unfold badF at h
  simp only [Bool.or_eq_false_iff, Bool.not_eq_false', decide_eq_false_iff_not] at h
  obtain ⟨⟨hd, hl⟩, hz⟩ := h
  obtain ⟨hne, hall⟩ := (digs_iff f).1 hd
  match f, hne, hl with
  | [a], _, _ =>
    obtain ⟨x, hx, rfl⟩ := isD_dig (hall a (by simp))
    have := List.all_eq_true.1 frac1_all x (List.mem_range.2 hx)
    rw [dig_zero hz, Bool.false_or] at this
    unfold frac1 at this
    simpa using this
  | [a, b], _, _ =>
    obtain ⟨x, hx, rfl⟩ := isD_dig (hall a (by simp))
    obtain ⟨y, hy, rfl⟩ := isD_dig (hall b (by simp))
    have := List.all_eq_true.1 (List.all_eq_true.1 frac2_all x (List.mem_range.2 hx)) y (List.mem_range.2 hy)
    rw [dig_zero hz, Bool.false_or] at this
    unfold frac2 at this
    simpa using this
  | [a, b, c], _, _ =>
    obtain ⟨x, hx, rfl⟩ := isD_dig (hall a (by simp))
    obtain ⟨y, hy, rfl⟩ := isD_dig (hall b (by simp))
    obtain ⟨z, hz', rfl⟩ := isD_dig (hall c (by simp))
    have := List.all_eq_true.1 (List.all_eq_true.1 (List.all_eq_true.1 frac3_all x (List.mem_range.2 hx)) y (List.mem_range.2 hy)) z (List.mem_range.2 hz')
    rw [dig_zero hz, Bool.false_or] at this
    unfold frac3 at this
    simpa using this
  | a :: b :: c :: d :: t, _, hl => simp at hl

theorem no46 {w : List UInt8} (h : ∀ c ∈ w, isD c = true) : 46 ∉ w := fun hm => by have := h 46 hm; rw [isD_46] at this; cases this
theorem split_unique : ∀ {w w' r r' : List UInt8}, 46 ∉ w → 46 ∉ w' → w ++ 46 :: r = w' ++ 46 :: r' → w = w' ∧ r = r'
  | [], [], r, r', _, _, h => ⟨rfl, by simpa using h⟩
  | [], c :: t, r, r', _, h', h => by simp at h; exact absurd h.1 (fun e => h' (by simp [← e]))
  | c :: t, [], r, r', h', _, h => by simp at h; exact absurd h.1 (fun e => h' (by simp [e]))
  | c :: t, d :: u, r, r', h1, h2, h => by
    simp only [List.cons_append, List.cons.injEq] at h
    obtain ⟨rfl, h⟩ := h
    obtain ⟨rfl, rfl⟩ := split_unique (fun hm => h1 (by simp [hm])) (fun hm => h2 (by simp [hm])) h
    exact ⟨rfl, rfl⟩
theorem cut_at {w : List UInt8} (h : 46 ∉ w) (r : List UInt8) : Lib.cut (w ++ 46 :: r) [46] = (w, r, true) := by
  rcases cut_point (w ++ 46 :: r) with ⟨w', r', e, h1, h2⟩ | ⟨_, h2⟩
  · obtain ⟨rfl, rfl⟩ := split_unique h h2 h1
    exact e
  · exact absurd (by simp) h2
theorem cut_no {w : List UInt8} (h : 46 ∉ w) : Lib.cut w [46] = (w, [], false) := by
  rcases cut_point w with ⟨w', r', _, rfl, _⟩ | ⟨e, _⟩
  · exact absurd (by simp) h
  · exact e

theorem validL_of {n : Int} (h : validL n = true) : n.natAbs ≤ 1073741824 := by rw [validL_iff] at h; omega
/-- reading the text of the size of a length -/
theorem body_read (neg : Bool) (m : Nat) (hm : m ≤ 1073741824) (hneg : neg = true → 0 < m) : ∃ b, bodyL m = b ++ [112, 116] ∧ (∃ c t, b = c :: t ∧ c ≠ 45) ∧ bodyP neg b = (sgn neg m, 0) := by
  obtain ⟨d1, d2, d3, d4⟩ := dec_props (m / 1000)
  have hb : badW (Lib.decDigits (m / 1000)) = false := badW_of d1 d2
  have hl : (Lib.decDigits (m / 1000)).length ≤ 8 := len_dec (by omega) (by decide)
  have hne : ∃ c t, Lib.decDigits (m / 1000) = c :: t ∧ c ≠ 45 := by
    rcases d2 with h | ⟨c, t, h, _⟩
    · exact ⟨48, [], h, by decide⟩
    · refine ⟨c, t, h, fun e => ?_⟩
      have := d1 c (by rw [h]; simp)
      rw [e] at this; exact absurd this (by decide)
  have hv : ∀ v, v = m → validL (sgn neg ((v : Nat) : Int)) = true := fun v e => by rw [validL_iff]; unfold sgn; split <;> omega
  by_cases hr : m % 1000 = 0
  · refine ⟨Lib.decDigits (m / 1000), body_z m hr, hne, ?_⟩
    unfold bodyP
    rw [cut_no (no46 d1)]
    show partsP neg (Lib.decDigits (m / 1000)) [] false = _
    unfold partsP
    have e3 : (neg && Lib.decDigits (m / 1000) == [48] && !false) = false := by
      cases neg with
      | false => rfl
      | true =>
        have := hneg rfl
        obtain ⟨c, t, e, hc⟩ := d4 (by omega)
        rw [e]; simp [hc]
    rw [hb, e3, if_neg (by simp), if_neg (by simp), if_neg (by simp), if_neg (by omega)]
    have ev : valD (Lib.decDigits (m / 1000) ++ pad3 []) = m := by
      rw [val_app, d3, show pad3 [] = [48, 48, 48] from rfl, show valD [48, 48, 48] = 0 from by decide]
      simp; omega
    unfold fin
    rw [hv _ ev, ev]; rfl
  · obtain ⟨f1, f2⟩ := frac_props (r := m % 1000) (by omega) (Nat.mod_lt _ (by decide))
    refine ⟨Lib.decDigits (m / 1000) ++ 46 :: fracL (m % 1000), body_r m hr, ?_, ?_⟩
    · obtain ⟨c, t, e, hc⟩ := hne
      exact ⟨c, t ++ 46 :: fracL (m % 1000), by rw [e]; rfl, hc⟩
    unfold bodyP
    rw [cut_at (no46 d1)]
    show partsP neg (Lib.decDigits (m / 1000)) (fracL (m % 1000)) true = _
    unfold partsP
    rw [hb, f1, if_neg (by simp), if_neg (by simp), if_neg (by simp), if_neg (by omega)]
    have ev : valD (Lib.decDigits (m / 1000) ++ pad3 (fracL (m % 1000))) = m := by
      rw [val_app, d3, f2, pad_len]; omega
    unfold fin
    rw [hv _ ev, ev]; rfl
theorem parse_text {n : Int} (h : validL n = true) : parseP (txtL n) = (n, 0) := by
  have hm := validL_of h
  unfold txtL
  rw [if_pos h]
  by_cases hn : n < 0
  · rw [if_pos hn]
    obtain ⟨b, e, _, hp⟩ := body_read true n.natAbs hm (fun _ => by omega)
    rw [e]
    unfold parseP
    rw [← List.cons_append, if_pos (suffix_pt (45 :: b)).1, (suffix_pt (45 :: b)).2, show Lib.hasPrefix (45 :: b) [45] = true from by simp [Lib.hasPrefix], show Lib.trimPrefix (45 :: b) [45] = b from by simp [Lib.trimPrefix, Lib.hasPrefix], hp]
    unfold sgn
    rw [if_pos rfl, show -((n.natAbs : Nat) : Int) = n from by omega]
  · rw [if_neg hn]
    obtain ⟨b, e, ⟨c, t, eb, hc⟩, hp⟩ := body_read false n.natAbs hm (fun h => by cases h)
    rw [e]
    unfold parseP
    rw [if_pos (suffix_pt b).1, (suffix_pt b).2]
    have h1 : Lib.hasPrefix b [45] = false := by rw [eb]; simp only [Lib.hasPrefix, List.isPrefixOf, Bool.and_true, beq_eq_false_iff_ne]; exact fun e => hc e.symm
    have h2 : Lib.trimPrefix b [45] = b := by unfold Lib.trimPrefix; rw [h1]; rfl
    rw [h1, h2, hp]
    unfold sgn
    rw [if_neg (by simp), show ((n.natAbs : Nat) : Int) = n from by omega]
theorem parse_nil : parseP [] = (0, 3) := by decide

/-- the text of what was read from a body -/
theorem body_text {neg : Bool} {b : List UInt8} {n : Int} (h : bodyP neg b = (n, 0)) : validL n = true ∧ (n < 0 ↔ neg = true) ∧ bodyL n.natAbs = b ++ [112, 116] := by
  have key : ∀ w r point, partsP neg w r point = (n, 0) → badW w = false ∧ (point = true → badF r = false) ∧ ¬ (neg = true ∧ w = [48] ∧ point = false) ∧ n = sgn neg (valD (w ++ pad3 r)) ∧ validL n = true := by
    intro w r point hp
    unfold partsP at hp
    by_cases h1 : badW w = true
    · rw [if_pos h1] at hp; cases hp
    rw [if_neg h1] at hp
    by_cases h2 : (point && badF r) = true
    · rw [if_pos h2] at hp; cases hp
    rw [if_neg h2] at hp
    by_cases h3 : (neg && w == [48] && !point) = true
    · rw [if_pos h3] at hp; cases hp
    rw [if_neg h3] at hp
    by_cases h4 : 8 < w.length
    · rw [if_pos h4] at hp; cases hp
    rw [if_neg h4] at hp
    unfold fin at hp
    split at hp
    · rename_i hv
      simp only [Prod.mk.injEq, and_true] at hp
      subst hp
      refine ⟨by simpa using h1, fun e => ?_, ?_, rfl, hv⟩
      · subst e; simpa using h2
      · rintro ⟨rfl, rfl, rfl⟩; exact h3 rfl
    · cases hp
  unfold bodyP at h
  have fin1 : ∀ (w r : List UInt8), valD (pad3 r) < 1000 → (∀ c ∈ w, isD c = true) → lead w → n = sgn neg (valD (w ++ pad3 r)) → n.natAbs / 1000 = valD w ∧ n.natAbs % 1000 = valD (pad3 r) ∧ (n.natAbs = valD w * 1000 + valD (pad3 r)) := by
    intro w r hr _ _ hn
    have e : n.natAbs = valD w * 1000 + valD (pad3 r) := by
      rw [hn, val_app, pad_len]; unfold sgn; split <;> simp <;> omega
    exact ⟨by omega, by omega, e⟩
  rcases cut_point b with ⟨w, r, e, rfl, _⟩ | ⟨e, _⟩
  · rw [e] at h
    obtain ⟨k1, k2, k3, k4, k5⟩ := key w r true h
    obtain ⟨l1, l2⟩ := lead_of k1
    obtain ⟨f1, f2⟩ := frac_val (k2 rfl)
    have hf : valD (pad3 r) < 1000 := by
      have hb := k2 rfl
      unfold badF at hb
      simp only [Bool.or_eq_false_iff, Bool.not_eq_false', decide_eq_false_iff_not] at hb
      have := val_lt (pad3 r) (by
        intro c hc
        unfold pad3 at hc
        rcases List.mem_append.1 (List.mem_of_mem_take hc) with h' | h'
        · exact ((digs_iff r).1 hb.1.1).2 c h'
        · simp at h'; rw [h']; decide)
      rw [pad_len] at this
      omega
    obtain ⟨g1, g2, g3⟩ := fin1 w r hf l1 l2 k4
    refine ⟨k5, ?_, ?_⟩
    · rw [k4]; unfold sgn
      have : 0 < valD (w ++ pad3 r) := by rw [val_app]; omega
      cases neg <;> simp <;> omega
    · rw [body_r _ (by omega), g1, g2, dec_val _ w rfl l1 l2, f1]
  · rw [e] at h
    obtain ⟨k1, _, k3, k4, k5⟩ := key b [] false h
    obtain ⟨l1, l2⟩ := lead_of k1
    have hz : valD (pad3 []) = 0 := by decide
    obtain ⟨g1, g2, g3⟩ := fin1 b [] (by rw [hz]; decide) l1 l2 k4
    refine ⟨k5, ?_, ?_⟩
    · rw [k4, val_app, hz, pad_len]
      cases neg with
      | false => simp [sgn]; omega
      | true =>
        have : 1 ≤ valD b := by
          rcases l2 with h' | ⟨c, t, rfl, hc⟩
          · exact absurd ⟨rfl, h', rfl⟩ k3
          · exact val_pos (l1 c (by simp)) hc
        simp [sgn]; omega
    · rw [body_z _ (by omega), g1, dec_val _ b rfl l1 l2]
theorem text_parse {s : List UInt8} {n : Int} (h : parseP s = (n, 0)) : txtL n = s := by
  unfold parseP at h
  by_cases hs : Lib.hasSuffix s [112, 116] = true
  · rw [if_pos hs] at h
    obtain ⟨b, hb⟩ : ∃ b, b ++ [112, 116] = s := by unfold Lib.hasSuffix at hs; rw [List.isSuffixOf_iff_suffix] at hs; exact hs
    subst hb
    rw [(suffix_pt b).2] at h
    obtain ⟨h1, h2, h3⟩ := body_text h
    unfold txtL
    rw [if_pos h1]
    by_cases hp : Lib.hasPrefix b [45] = true
    · rw [if_pos (h2.2 hp), h3]
      obtain ⟨c, hc⟩ : ∃ c, [45] ++ c = b := by unfold Lib.hasPrefix at hp; rw [List.isPrefixOf_iff_prefix] at hp; exact hp
      subst hc
      unfold Lib.trimPrefix
      rw [if_pos hp]
      simp
    · rw [if_neg (fun hh => hp (h2.1 hh)), h3]
      unfold Lib.trimPrefix
      rw [if_neg hp]
  · rw [if_neg hs] at h; cases h
end Go.Proofs.YtbaljopgkelcfaaDoor
