/- Contract of valid, Count, Valid. -/
import Derived.Test.YtkjhfbgdmmnadaaGreatOwn2
namespace Go.Proofs.YtkjhfbgdmmnadaaGreat
open Go.RowKit

mutual
/-- the program's count: is it valid so far, and how many subterms were counted -/
def vld : T → Nat → Bool × Nat
  | .mk k n v ys f, c => if 1000 < c + 1 ∨ ownB (.mk k n v ys f) = false then (false, c + 1) else vlds ys (c + 1)
def vlds : List T → Nat → Bool × Nat
  | [], c => (true, c)
  | t :: ts, c => if (vld t c).1 then vlds ts (vld t c).2 else (false, (vld t c).2)
end
theorem vld_eq (t : T) (c : Nat) : vld t c = if 1000 < c + 1 ∨ ownB t = false then (false, c + 1) else vlds t.args (c + 1) := by
  cases t with
  | mk k n v ys f => rw [vld]; rfl
mutual
theorem vld_le (t : T) (c : Nat) (h : (vld t c).1 = true) : (vld t c).2 ≤ 1000 ∧ c < (vld t c).2 := by
  cases t with
  | mk k n v ys f =>
    rw [vld] at h ⊢
    split
    · rename_i hc; rw [if_pos hc] at h; cases h
    · rename_i hc
      rw [if_neg hc] at h
      have h1 : c + 1 ≤ 1000 := by
        rcases Nat.lt_or_ge 1000 (c + 1) with h' | h'
        · exact absurd (.inl h') hc
        · exact h'
      have := vlds_le ys (c + 1) h1 h
      omega
theorem vlds_le (ts : List T) (c : Nat) (hc : c ≤ 1000) (h : (vlds ts c).1 = true) : (vlds ts c).2 ≤ 1000 ∧ c ≤ (vlds ts c).2 := by
  cases ts with
  | nil => rw [vlds]; exact ⟨hc, Nat.le_refl _⟩
  | cons t ts =>
    rw [vlds] at h ⊢
    cases hv : (vld t c).1 with
    | false => rw [hv] at h; simp at h
    | true =>
      rw [hv] at h
      simp only [if_true] at h ⊢
      have h1 := vld_le t c hv
      have h2 := vlds_le ts _ h1.1 h
      omega
end
mutual
/-- no long strings in a term -/
def SA : T → Prop | .mk k n v ys f => Short (.mk k n v ys f) ∧ SAs ys
def SAs : List T → Prop | [] => True | t :: ts => SA t ∧ SAs ts
end
theorem SA.parts {t : T} (h : SA t) : Short t ∧ SAs t.args := by
  cases t with
  | mk k n v ys f => rw [SA] at h; exact h
theorem SAs.mem {t : T} : ∀ {ts : List T}, SAs ts → t ∈ ts → SA t
  | [], _, h => by cases h
  | u :: ts, hs, h => by
    rw [SAs] at hs
    rcases List.mem_cons.1 h with rfl | h
    · exact hs.1
    · exact hs.2.mem h
/-- the cell of a count -/
structure CB (w : World) (cb : Nat) (c : Nat) : Prop where
  cell : w.cell? ⟨cb, 0, none⟩ = some (.int .i64 (c : Int))
  fr : w.frozen? ⟨cb, 0, none⟩ = false
  lt : cb < w.heap.size
/-- MaxLen below block B -/
structure MaxB (w : World) (B : Nat) : Prop where
  pos : 0 < B
  max : Max w
theorem MaxB.below {w w' : World} {B : Nat} (h : MaxB w B) (hb : Below B w w') : MaxB w' B := by
  obtain ⟨m, hm⟩ := h.max.cell
  exact ⟨h.pos, m, (hb.cell (p := ⟨0, 0, none⟩) h.pos).trans hm⟩
theorem TA.at_ {w : World} {B : Nat} {A : Option Addr} {ys : List T} (h : TA w B A ys) {i : Nat} (hi : i < ys.length) : ∃ b o, A = some ⟨b, o, none⟩ ∧ TR w B b (o + i * 5) ys[i] := by
  obtain ⟨b, o, hA, hs⟩ := h (by intro e; rw [e] at hi; simp at hi)
  exact ⟨b, o, hA, hs.at_ i _ (List.getElem?_eq_getElem hi)⟩
theorem below_set {B cb : Nat} {w0 w : World} (h : Below B w0 w) (hB : B ≤ cb) (v : Value) : Below B w0 (w.setCell ⟨cb, 0, none⟩ v) := h.setCell hB v
theorem below_drewNB {B : Nat} {w0 w : World} (h : Below B w0 w) (n : Nat) : Below B w0 (w.drewN n) := ⟨h.os, h.tape, h.output, h.size, h.block⟩

set_option maxRecDepth 100000 in
set_option maxHeartbeats 4000000 in
theorem valid_aux (N : Nat) : ∀ (t : T), t.size ≤ N → ∀ (b o cb c : Nat) (w : World), TR w cb b o t → SA t → MaxB w cb → CB w cb c → c ≤ 1000 →
    Calls Tryz.prog 47 #[.pointer (some ⟨b, o, none⟩), .pointer (some ⟨cb, 0, none⟩)] w fun e w' => e = .returned (.bool (vld t c).1) ∧ CB w' cb (vld t c).2 ∧ Below cb w w' := by
  induction N with
  | zero => intro t ht; exact absurd ht (by cases t; rw [T.size]; omega)
  | succ N ih =>
    intro t ht b o cb c w hr hs hm hc hc1
    have IH := Lib.hid ih
    clear ih
    have HV := Lib.hid (vld_eq t c)
    obtain ⟨hsh, hsa⟩ := hs.parts
    obtain ⟨q1, q2, q3⟩ := hc
    have hz : (c : Int) + 1 = ((c + 1 : Nat) : Int) := by omega
    -- behind the count
    have hB1 : Below cb w (w.setCell ⟨cb, 0, none⟩ (.int .i64 ((c : Int) + 1))) := below_set (Below.refl _ _) (Nat.le_refl _) _
    have hR1 := hr.below hB1
    have hM1 := hm.below hB1
    have hC1 : CB (w.setCell ⟨cb, 0, none⟩ (.int .i64 ((c : Int) + 1))) cb (c + 1) := ⟨by rw [← hz]; simp [go_sem, q1], by simpa using q2, by simpa using q3⟩
    have HS := Lib.hid (And.intro hsh hsa)
    have H1 := Lib.hid (And.intro hB1 (And.intro hR1 (And.intro hM1 hC1)))
    have HSZ : Hid (∀ u ∈ t.args, u.size ≤ N) := fun u hu => by have := size_arg hu; omega
    clear hr hs hm hsh hsa hB1 hR1 hM1 hC1 hz
    go_enter Tryz.func47, Tryz.ntmps47
    go_upto_region 2 with (fail)
    obtain ⟨w1, hw1⟩ : ∃ w1, w1 = w.setCell ⟨cb, 0, none⟩ (.int .i64 ((c : Int) + 1)) := ⟨_, rfl⟩
    rw [← hw1] at H1 ⊢
    clear hw1 q1 q2 q3
    obtain ⟨hB1, hR1, hM1, hC1⟩ := H1.out
    have q1 := hC1.cell
    have hltc := hC1.lt
    clear hB1 hC1
    by_cases hbig : 1000 < c + 1
    · have hbz : (1000 : Int) < ((c + 1 : Nat) : Int) := by omega
      have HX : Hid (vld t c = (false, c + 1)) := HV.out.trans (if_pos (.inl hbig))
      clear hR1 hM1
      go_wp2_with fail
      go_ret
      rw [HX.out]
      exact ⟨rfl, H1.out.2.2.2, H1.out.1⟩
    · have hbz : ¬ (1000 : Int) < ((c + 1 : Nat) : Int) := by omega
      have hRo := hR1.more (Nat.le_of_lt hltc)
      have HO := Lib.hid (own_any t b o w1 hRo HS.out.1 hM1.max)
      clear hRo hR1 hM1
      cases how : ownB t with
      | false =>
        have HOW := Lib.hid how
        have HX : Hid (vld t c = (false, c + 1)) := HV.out.trans (if_pos (.inr how))
        clear how
        go_wp2_with fail
        refine HO.out.mono ?_
        rw [HOW.out]
        rintro e w2 ⟨rfl, n2, rfl⟩
        go_wp2_with fail
        go_ret
        rw [HX.out]
        have h4 := H1.out.2.2.2
        exact ⟨rfl, ⟨h4.cell, h4.fr, h4.lt⟩, below_drewNB H1.out.1 _⟩
      | true =>
        have HOW := Lib.hid how
        have HX : Hid (vld t c = vlds t.args (c + 1)) := HV.out.trans (if_neg (fun h => h.elim (fun h => hbig h) (fun h => by rw [how] at h; cases h)))
        clear how
        go_wp2_with fail
        refine HO.out.mono ?_
        rw [HOW.out]
        rintro e w2 ⟨rfl, n2, rfl⟩
        have h4 := H1.out.2.2.2
        have HC2 : Hid (CB (w1.drewN n2) cb (c + 1)) := ⟨h4.cell, h4.fr, h4.lt⟩
        have HB2 := Lib.hid (below_drewNB H1.out.1 n2)
        have HR2 := Lib.hid (H1.out.2.1.below (below_drewNB (Below.refl _ _) n2))
        have HM2 := Lib.hid (H1.out.2.2.1.below (below_drewNB (Below.refl _ _) n2))
        clear HO h4 q1 hltc H1
        generalize w1.drewN n2 = w3 at *
        obtain ⟨_, _, _, _, _, A, cp, c3, ⟨hcp1, hcp2⟩, hTA⟩ := HR2.out.parts
        have HTA := Lib.hid hTA
        obtain ⟨ys, hys⟩ : ∃ ys, ys = t.args := ⟨_, rfl⟩
        rw [← hys] at HX HS HTA HSZ c3 hcp1
        clear hys hTA
        have hyl : ys.length ≤ 9223372036854775807 := by omega
        go_wp2_with fail
        go_loopg [25] ys.length (fun gg s25 wr => ∃ i ci : Nat, i ≤ ys.length ∧ ys.length - i ≤ gg ∧ s25 = .int .i64 i ∧ ci ≤ 1000 ∧ Aside (vlds ys (c + 1) = vlds (ys.drop i) ci) ∧ Aside (CB wr cb ci) ∧ Aside (Below cb w3 wr))
        case atStart => exact ⟨0, c + 1, Nat.zero_le _, by omega, rfl, by omega, rfl, HC2.out, Below.refl _ _⟩
        case round =>
          obtain ⟨i, ci, hi, hgg, rfl, hci, HE, HC, HB⟩ := hrel
          have HBw := Lib.hid (HB2.out.trans HB.out)
          by_cases hlt : i < ys.length
          · have hltz : (i : Int) < (ys.length : Int) := by omega
            have hTb : TA wr cb A ys := fun hne => by
              obtain ⟨b', o', hA, hs⟩ := HTA.out hne
              exact ⟨b', o', hA, hs.below HB.out⟩
            obtain ⟨b', o', rfl, hRi⟩ := hTb.at_ hlt
            have c3r : wr.cell? ⟨b, o + 3, none⟩ = some (.slice (some ⟨b', o', none⟩) ys.length cp) := (HB.out.cell (p := ⟨b, o + 3, none⟩) HR2.out.parts.1).trans c3
            have HD : Hid (vlds (ys.drop i) ci = if (vld ys[i] ci).1 then vlds (ys.drop (i + 1)) (vld ys[i] ci).2 else (false, (vld ys[i] ci).2)) := by
              show vlds (ys.drop i) ci = _
              rw [List.drop_eq_getElem_cons hlt, vlds]
            have HLE := Lib.hid (vld_le ys[i] ci)
            have HCall := Lib.hid (IH.out ys[i] (HSZ.out _ (List.getElem_mem hlt)) b' (o' + i * 5) cb ci wr hRi (HS.out.2.mem (List.getElem_mem hlt)) (HM2.out.below HB.out) HC.out hci)
            clear hTb hRi
            obtain ⟨r1, r2, hr⟩ : ∃ r1 r2, (r1, r2) = vld ys[i] ci := ⟨_, _, rfl⟩
            rw [← hr] at HD HLE HCall
            clear hr
            simp only at HD HLE HCall
            cases r1 with
            | false =>
              have HY : Hid (vld t c = (false, r2)) := by show vld t c = _; rw [HX.out, HE.out, HD.out]; rfl
              go_wp2_with fail
              refine HCall.out.mono ?_
              rintro e w4 ⟨rfl, hc4, hb4⟩
              have HC4 := Lib.hid hc4
              have HB4 := Lib.hid (HBw.out.trans hb4)
              clear hc4 hb4
              go_wp2_with fail
              go_ret
              rw [HY.out]
              exact ⟨rfl, HC4.out, HB4.out⟩
            | true =>
              have HY : Hid (vlds ys (c + 1) = vlds (ys.drop (i + 1)) r2) := by show vlds ys (c + 1) = _; rw [HE.out, HD.out]; rfl
              have hr2 : r2 ≤ 1000 := (HLE.out rfl).1
              go_wp2_with fail
              refine HCall.out.mono ?_
              rintro e w4 ⟨rfl, hc4, hb4⟩
              have HC4 := Lib.hid hc4
              have HB4 := Lib.hid (HB.out.trans hb4)
              clear hc4 hb4 HCall
              go_wp2_with fail
              go_roundg (ys.length - (i + 1))
              case measure => omega
              case rel => exact ⟨i + 1, r2, by omega, by omega, by go_num, hr2, HY.out, HC4.out, HB4.out⟩
          · have hltz : ¬ (i : Int) < (ys.length : Int) := by omega
            have HY : Hid (vld t c = (true, ci)) := by show vld t c = _; rw [HX.out, HE.out, List.drop_eq_nil_of_le (by omega), vlds]
            go_wp2_with fail
            go_ret
            rw [HY.out]
            exact ⟨rfl, HC.out, HBw.out⟩
end Go.Proofs.YtkjhfbgdmmnadaaGreat
