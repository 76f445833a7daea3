/- Reading a length's text as plain functions on lists of bytes: the program's way, the reference's way, and that they agree. No program. -/
import Derived.Test.YtbaljopgkelcfaaDoorRnd
import Derived.Lib.IndexMore
import Derived.Lib.Strings
namespace Go.Proofs.YtbaljopgkelcfaaDoor

def isD (c : UInt8) : Bool := decide (48 ≤ c.toNat) && decide (c.toNat ≤ 57)
def digs (l : List UInt8) : Bool := l.all isD && !l.isEmpty
def valD (l : List UInt8) : Nat := l.foldl (fun n c => 10 * n + (c.toNat - 48)) 0
def pad3 (f : List UInt8) : List UInt8 := (f ++ [48, 48, 48]).take 3
def sgn (neg : Bool) (n : Int) : Int := if neg then -n else n
/-- the number with digits and a sign, or an error -/
def fin (neg : Bool) (ws : List UInt8) : Int × Int := if validL (sgn neg (valD ws)) then (sgn neg (valD ws), 0) else (0, 2)

def badW (l : List UInt8) : Bool := !digs l || (decide (1 < l.length) && l.head? == some 48)
def badF (l : List UInt8) : Bool := !digs l || decide (3 < l.length) || l.getLast? == some 48
def partsP (neg : Bool) (whole rest : List UInt8) (point : Bool) : Int × Int :=
  if badW whole then (0, 3) else if point && badF rest then (0, 3) else if neg && whole == [48] && !point then (0, 3)
  else if 8 < whole.length then (0, 2) else fin neg (whole ++ pad3 rest)
def bodyP (neg : Bool) (b : List UInt8) : Int × Int := partsP neg (Lib.cut b [46]).1 (Lib.cut b [46]).2.1 (Lib.cut b [46]).2.2
def parseP (s : List UInt8) : Int × Int :=
  if Lib.hasSuffix s [112, 116] then bodyP (Lib.hasPrefix (Lib.trimSuffix s [112, 116]) [45]) (Lib.trimPrefix (Lib.trimSuffix s [112, 116]) [45]) else (0, 3)

def runD (l : List UInt8) : Nat := (l.takeWhile isD).length
def endR (neg : Bool) (points frac rest : List UInt8) : Int × Int :=
  if rest != [112, 116] || (neg && points == [48] && frac.isEmpty) then (0, 3) else if 7 < points.length then (0, 2) else fin neg (points ++ pad3 frac)
def badK (frac : List UInt8) : Bool := decide (frac.length < 1) || decide (3 < frac.length) || frac.getLast? == some 48
def afterR (neg : Bool) (points rest : List UInt8) : Int × Int :=
  if rest.head? == some 46 then
    (if badK (rest.tail.takeWhile isD) then (0, 3) else endR neg points (rest.tail.takeWhile isD) (rest.tail.dropWhile isD))
  else endR neg points [] rest
def restR (neg : Bool) (s : List UInt8) : Int × Int :=
  if runD s == 0 || (decide (1 < runD s) && s.head? == some 48) then (0, 3) else afterR neg (s.takeWhile isD) (s.dropWhile isD)
def parseR (s : List UInt8) : Int × Int := if s.head? == some 45 then restR true s.tail else restR false s

theorem digs_iff (l : List UInt8) : digs l = true ↔ l ≠ [] ∧ ∀ c ∈ l, isD c = true := by
  unfold digs
  rw [Bool.and_eq_true, List.all_eq_true, and_comm]
  cases l <;> simp
theorem tw_dw (l : List UInt8) : l = l.takeWhile isD ++ l.dropWhile isD := (List.takeWhile_append_dropWhile).symm
theorem tw_all (l : List UInt8) : ∀ c ∈ l.takeWhile isD, isD c = true := by
  induction l with
  | nil => simp
  | cons a l ih =>
    rw [List.takeWhile_cons]
    split
    · intro c hc
      rcases List.mem_cons.1 hc with rfl | h
      · assumption
      · exact ih c h
    · simp
theorem tw_of_all {w : List UInt8} (h : ∀ c ∈ w, isD c = true) (x : List UInt8) (hx : x.takeWhile isD = []) : (w ++ x).takeWhile isD = w ∧ (w ++ x).dropWhile isD = x := by
  have h1 : (w ++ x).takeWhile isD = w := by rw [List.takeWhile_append_of_pos h, hx, List.append_nil]
  refine ⟨h1, ?_⟩
  have := tw_dw (w ++ x)
  rw [h1] at this
  exact (List.append_cancel_left this).symm
/-- where a list has a byte that is no digit -/
theorem dw_of_not {w : List UInt8} (h : ¬ ∀ c ∈ w, isD c = true) : ∃ d c t, w = d ++ c :: t ∧ (∀ x ∈ d, isD x = true) ∧ isD c = false := by
  induction w with
  | nil => exact absurd (by simp) h
  | cons a l ih =>
    cases ha : isD a with
    | false => exact ⟨[], a, l, rfl, by simp, ha⟩
    | true =>
      obtain ⟨d, c, t, rfl, hd, hc⟩ := ih (fun h' => h (by simp [ha]; simpa using h'))
      exact ⟨a :: d, c, t, rfl, by simpa [ha] using hd, hc⟩
theorem cut_point (b : List UInt8) : (∃ w r, Lib.cut b [46] = (w, r, true) ∧ b = w ++ 46 :: r ∧ 46 ∉ w) ∨ (Lib.cut b [46] = (b, [], false) ∧ 46 ∉ b) := by
  have occ : ∀ j (hj : j < b.length), b[j] = 46 → Lib.occAt b [46] j = true := fun j hj e => by
    unfold Lib.occAt; rw [List.drop_eq_getElem_cons hj, e]; simp
  unfold Lib.cut
  rcases Lib.index_spec b [46] with ⟨h1, h2⟩ | ⟨i, h1, h2, h3, h4⟩
  · right
    rw [h1, if_neg (by decide)]
    refine ⟨rfl, fun hm => ?_⟩
    obtain ⟨j, hj, e⟩ := List.mem_iff_getElem.1 hm
    have := h2 j (by omega)
    rw [occ j hj e] at this; cases this
  · left
    rw [h1, if_pos (by omega)]
    have hi : i < b.length := by
      rcases Lib.occAt_room h3 with h' | h'
      · simp at h'; omega
      · cases h'
    have hc : b[i] = 46 := by
      unfold Lib.occAt at h3; rw [List.drop_eq_getElem_cons hi] at h3; simp only [List.isPrefixOf, Bool.and_true, beq_iff_eq] at h3; exact h3.symm
    refine ⟨b.take i, b.drop (i + 1), by simp, ?_, fun hm => ?_⟩
    · rw [← hc, ← List.drop_eq_getElem_cons hi, List.take_append_drop]
    · obtain ⟨j, hj, e⟩ := List.mem_iff_getElem.1 hm
      have hji : j < i := by rw [List.length_take] at hj; omega
      rw [List.getElem_take] at e
      have := h4 j hji
      rw [occ j (by omega) e] at this; cases this

theorem val_snoc (l : List UInt8) (c : UInt8) : valD (l ++ [c]) = 10 * valD l + (c.toNat - 48) := by unfold valD; rw [List.foldl_append]; rfl
theorem val_app (l r : List UInt8) : valD (l ++ r) = valD l * 10 ^ r.length + valD r := by
  induction r generalizing l with
  | nil => simp [valD]
  | cons c r ih =>
    have e1 : l ++ c :: r = (l ++ [c]) ++ r := by simp
    have e2 : valD (c :: r) = valD ([c] ++ r) := rfl
    have h3 : valD [c] = c.toNat - 48 := by simp [valD]
    rw [e1, ih, e2, ih [c], val_snoc, h3, List.length_cons, Nat.pow_succ]
    grind
theorem val_lt (l : List UInt8) (h : ∀ c ∈ l, isD c = true) : valD l < 10 ^ l.length := by
  induction l with
  | nil => simp [valD]
  | cons c l ih =>
    have hc : isD c = true := h c (by simp)
    unfold isD at hc
    simp only [Bool.and_eq_true, decide_eq_true_eq] at hc
    have := ih (fun x hx => h x (by simp [hx]))
    rw [show c :: l = [c] ++ l from rfl, val_app, show valD [c] = c.toNat - 48 from by simp [valD], List.length_append, List.length_singleton, Nat.pow_add, Nat.pow_one]
    have h9 : c.toNat - 48 ≤ 9 := by omega
    have : (c.toNat - 48) * 10 ^ l.length ≤ 9 * 10 ^ l.length := Nat.mul_le_mul_right _ h9
    omega
theorem val_ge (c : UInt8) (l : List UInt8) (hc : isD c = true) (h : c ≠ 48) : 10 ^ l.length ≤ valD (c :: l) := by
  rw [show c :: l = [c] ++ l from rfl, val_app, show valD [c] = c.toNat - 48 from by simp [valD]]
  unfold isD at hc
  simp only [Bool.and_eq_true, decide_eq_true_eq] at hc
  have h0 : c.toNat ≠ 48 := fun e => h (by apply UInt8.toNat_inj.1; rw [e]; rfl)
  have : 1 ≤ c.toNat - 48 := by omega
  have := Nat.mul_le_mul_right (10 ^ l.length) this
  omega
theorem pad_len (f : List UInt8) : (pad3 f).length = 3 := by unfold pad3; simp

theorem fin_far (neg : Bool) {w : List UInt8} (hw : badW w = false) (hl : w.length = 8) (f : List UInt8) : fin neg (w ++ pad3 f) = (0, 2) := by
  unfold badW at hw
  simp only [Bool.or_eq_false_iff, Bool.not_eq_false', Bool.and_eq_false_imp, decide_eq_true_eq] at hw
  obtain ⟨hd, hz⟩ := hw
  have hz := hz (by omega)
  obtain ⟨_, hall⟩ := (digs_iff w).1 hd
  match w, hl with
  | c :: w', hl =>
    have hc : c ≠ 48 := fun e => by subst e; simp at hz
    have h1 := val_ge c w' (hall c (by simp)) hc
    have hl' : w'.length = 7 := by simpa using hl
    have h2 := val_app (c :: w') (pad3 f)
    rw [pad_len] at h2
    rw [hl'] at h1
    unfold fin
    have : validL (sgn neg ((valD (c :: w' ++ pad3 f) : Nat) : Int)) = false := by
      cases hv : validL (sgn neg ((valD (c :: w' ++ pad3 f) : Nat) : Int)) with
      | false => rfl
      | true =>
        rw [validL_iff] at hv
        have e7 : (10 : Nat) ^ 7 = 10000000 := by decide
        have e3 : (10 : Nat) ^ 3 = 1000 := by decide
        rw [e7] at h1
        rw [e3] at h2
        unfold sgn at hv
        split at hv <;> omega
    rw [this]; rfl

theorem endR_or (neg : Bool) (p f r : List UInt8) : endR neg p f r = (0, 3) ∨ r = [112, 116] := by
  unfold endR
  by_cases h : r = [112, 116]
  · exact .inr h
  · left; rw [if_pos (by simp [h])]
theorem afterR_or (neg : Bool) (p r : List UInt8) : afterR neg p r = (0, 3) ∨ ∃ q, r = q ++ [112, 116] := by
  unfold afterR
  split
  · rename_i hh
    split
    · exact .inl rfl
    · rcases endR_or neg p (r.tail.takeWhile isD) (r.tail.dropWhile isD) with h | h
      · exact .inl h
      · right
        match r, hh with
        | c :: r', _ => exact ⟨c :: r'.takeWhile isD, by have := tw_dw r'; simp only [List.tail_cons] at h; rw [h] at this; simpa using this⟩
  · rcases endR_or neg p [] r with h | h
    · exact .inl h
    · exact .inr ⟨[], by simpa using h⟩
theorem restR_or (neg : Bool) (s : List UInt8) : restR neg s = (0, 3) ∨ ∃ q, s = q ++ [112, 116] := by
  unfold restR
  split
  · exact .inl rfl
  · rcases afterR_or neg (s.takeWhile isD) (s.dropWhile isD) with h | ⟨q, h⟩
    · exact .inl h
    · right
      exact ⟨s.takeWhile isD ++ q, by have := tw_dw s; rw [h] at this; simpa using this⟩
theorem parseR_or (s : List UInt8) : parseR s = (0, 3) ∨ ∃ q, s = q ++ [112, 116] := by
  unfold parseR
  split
  · rename_i hh
    rcases restR_or true s.tail with h | ⟨q, h⟩
    · exact .inl h
    · match s, hh with
      | c :: s', _ => exact .inr ⟨c :: q, by simp only [List.tail_cons] at h; rw [h]; rfl⟩
  · exact restR_or false s

theorem isD_46 : isD 46 = false := by decide
theorem isD_112 : isD 112 = false := by decide
theorem tw_46 (x : List UInt8) : (46 :: x).takeWhile isD = [] := by rw [List.takeWhile_cons, isD_46]; rfl
theorem tw_pt : ([112, 116] : List UInt8).takeWhile isD = [] := by decide
theorem tw_no {c : UInt8} (h : isD c = false) (x : List UInt8) : (c :: x).takeWhile isD = [] := by rw [List.takeWhile_cons, h]; rfl
theorem head_app {w : List UInt8} (h : w ≠ []) (x : List UInt8) : (w ++ x).head? = w.head? := by cases w <;> simp_all

/-- the reference at a body with a byte in front of the point that is no digit -/
theorem restR_bad (neg : Bool) {d : List UInt8} {c : UInt8} (hd : ∀ x ∈ d, isD x = true) (hc : isD c = false) (h46 : c ≠ 46) (t x : List UInt8) (hx : 2 ≤ x.length) : restR neg (d ++ c :: (t ++ x)) = (0, 3) := by
  unfold restR
  split
  · rfl
  · obtain ⟨e1, e2⟩ := tw_of_all hd (c :: (t ++ x)) (tw_no hc _)
    rw [e1, e2]
    unfold afterR
    rw [if_neg (by simpa using h46)]
    rcases endR_or neg d [] (c :: (t ++ x)) with h | h
    · exact h
    · have := congrArg List.length h
      simp at this; omega
theorem restR_good (neg : Bool) {w : List UInt8} (h : digs w = true) (x : List UInt8) (hx : x.takeWhile isD = []) : restR neg (w ++ x) = if badW w then (0, 3) else afterR neg w x := by
  obtain ⟨hne, hall⟩ := (digs_iff w).1 h
  obtain ⟨e1, e2⟩ := tw_of_all hall x hx
  unfold restR runD
  rw [e1, e2, head_app hne]
  have h0 : (w.length == 0) = false := by cases w <;> simp_all
  unfold badW
  rw [h0, h]
  rfl
theorem main (neg : Bool) (b : List UInt8) : restR neg (b ++ [112, 116]) = bodyP neg b := by
  unfold bodyP
  rcases cut_point b with ⟨w, r, e, rfl, h46⟩ | ⟨e, h46⟩
  · rw [e]
    have el : w ++ 46 :: r ++ [112, 116] = w ++ 46 :: (r ++ [112, 116]) := by simp
    rw [el]
    unfold partsP
    by_cases hd : digs w = true
    · rw [restR_good neg hd _ (tw_46 _)]
      cases hb : badW w with
      | true => rfl
      | false =>
        simp only [Bool.false_eq_true, if_false, Bool.true_and, Bool.not_true, Bool.and_false]
        unfold afterR
        rw [if_pos (by rfl), List.tail_cons]
        by_cases hr : digs r = true
        · obtain ⟨hne, hall⟩ := (digs_iff r).1 hr
          obtain ⟨e1, e2⟩ := tw_of_all hall [112, 116] tw_pt
          rw [e1, e2]
          have hk : badK r = badF r := by
            unfold badK badF; rw [hr]
            have : decide (r.length < 1) = false := by cases r <;> simp_all
            rw [this]; rfl
          rw [hk]
          cases badF r with
          | true => rfl
          | false =>
            simp only [Bool.false_eq_true, if_false]
            unfold endR
            have hre : r.isEmpty = false := by cases r <;> simp_all
            rw [hre, Bool.and_false, if_neg (by simp)]
            by_cases h8 : 8 < w.length
            · rw [if_pos h8, if_pos (by omega)]
            · rw [if_neg h8]
              by_cases h7 : 7 < w.length
              · rw [if_pos h7, fin_far neg hb (by omega)]
              · rw [if_neg h7]
        · have hf : badF r = true := by unfold badF; simp [hr]
          rw [hf, if_pos rfl]
          split
          · rfl
          · rename_i hk
            by_cases hall : ∀ c ∈ r, isD c = true
            · have : r = [] := by
                cases r with
                | nil => rfl
                | cons a l => exact absurd ((digs_iff _).2 ⟨by simp, hall⟩) hr
              subst this
              exact absurd (by decide) hk
            · obtain ⟨d, c, t, rfl, hd', hc⟩ := dw_of_not hall
              have e3 : d ++ c :: t ++ [112, 116] = d ++ c :: (t ++ [112, 116]) := by simp
              rw [e3]
              obtain ⟨e1, e2⟩ := tw_of_all hd' (c :: (t ++ [112, 116])) (tw_no hc _)
              rw [e1, e2]
              rcases endR_or neg w d (c :: (t ++ [112, 116])) with h | h
              · exact h
              · have := congrArg List.length h
                simp at this
    · have hb : badW w = true := by unfold badW; simp [hd]
      rw [hb, if_pos rfl]
      by_cases hall : ∀ c ∈ w, isD c = true
      · have : w = [] := by
          cases w with
          | nil => rfl
          | cons a l => exact absurd ((digs_iff _).2 ⟨by simp, hall⟩) hd
        subst this
        unfold restR runD
        rw [List.nil_append, tw_46]; rfl
      · obtain ⟨d, c, t, rfl, hd', hc⟩ := dw_of_not hall
        have e3 : d ++ c :: t ++ 46 :: (r ++ [112, 116]) = d ++ c :: (t ++ 46 :: (r ++ [112, 116])) := by simp
        rw [e3]
        exact restR_bad neg hd' hc (fun e => h46 (by simp [e])) t _ (by simp)
  · rw [e]
    unfold partsP
    by_cases hd : digs b = true
    · rw [restR_good neg hd _ tw_pt]
      cases hb : badW b with
      | true => rfl
      | false =>
        simp only [Bool.false_eq_true, if_false, Bool.false_and, Bool.not_false, Bool.and_true]
        unfold afterR
        rw [if_neg (by decide)]
        unfold endR
        simp only [bne_self_eq_false, Bool.false_or, List.isEmpty_nil, Bool.and_true]
        split
        · rfl
        · by_cases h8 : 8 < b.length
          · rw [if_pos h8, if_pos (by omega)]
          · rw [if_neg h8]
            by_cases h7 : 7 < b.length
            · rw [if_pos h7, fin_far neg hb (by omega)]
            · rw [if_neg h7]
    · have hb : badW b = true := by unfold badW; simp [hd]
      rw [hb, if_pos rfl]
      by_cases hall : ∀ c ∈ b, isD c = true
      · have : b = [] := by
          cases b with
          | nil => rfl
          | cons a l => exact absurd ((digs_iff _).2 ⟨by simp, hall⟩) hd
        subst this
        unfold restR runD
        rw [List.nil_append, tw_pt]; rfl
      · obtain ⟨d, c, t, rfl, hd', hc⟩ := dw_of_not hall
        have e3 : d ++ c :: t ++ [112, 116] = d ++ c :: (t ++ [112, 116]) := by simp
        rw [e3]
        exact restR_bad neg hd' hc (fun e => h46 (by simp [e])) t _ (by simp)

theorem suffix_pt (b : List UInt8) : Lib.hasSuffix (b ++ [112, 116]) [112, 116] = true ∧ Lib.trimSuffix (b ++ [112, 116]) [112, 116] = b := by
  have h : Lib.hasSuffix (b ++ [112, 116]) [112, 116] = true := by unfold Lib.hasSuffix; rw [List.isSuffixOf_iff_suffix]; exact List.suffix_append _ _
  refine ⟨h, ?_⟩
  unfold Lib.trimSuffix
  rw [if_pos h]
  simp
/-- both ways of reading agree -/
theorem parse_eq (s : List UInt8) : parseP s = parseR s := by
  unfold parseP
  by_cases h : Lib.hasSuffix s [112, 116] = true
  · obtain ⟨b, hb⟩ : ∃ b, b ++ [112, 116] = s := by unfold Lib.hasSuffix at h; rw [List.isSuffixOf_iff_suffix] at h; exact h
    subst hb
    rw [if_pos h, (suffix_pt b).2]
    unfold parseR
    cases b with
    | nil =>
      rw [if_neg (by decide)]
      rw [show Lib.hasPrefix [] [45] = false from rfl, show Lib.trimPrefix [] [45] = [] from rfl]
      exact (main false []).symm
    | cons c b' =>
      by_cases hc : c = 45
      · subst hc
        rw [if_pos (by simp), show Lib.hasPrefix (45 :: b') [45] = true from by simp [Lib.hasPrefix], show Lib.trimPrefix (45 :: b') [45] = b' from by simp [Lib.trimPrefix, Lib.hasPrefix], List.cons_append, List.tail_cons]
        exact (main true b').symm
      · have hp : Lib.hasPrefix (c :: b') [45] = false := by simp only [Lib.hasPrefix, List.isPrefixOf, Bool.and_true, beq_eq_false_iff_ne]; exact fun e => hc e.symm
        rw [if_neg (by simpa using hc), hp, show Lib.trimPrefix (c :: b') [45] = c :: b' from by unfold Lib.trimPrefix; rw [hp]; rfl]
        exact (main false (c :: b')).symm
  · rw [if_neg h]
    rcases parseR_or s with h' | ⟨q, rfl⟩
    · exact h'.symm
    · exact absurd (suffix_pt q).1 h
end Go.Proofs.YtbaljopgkelcfaaDoor
