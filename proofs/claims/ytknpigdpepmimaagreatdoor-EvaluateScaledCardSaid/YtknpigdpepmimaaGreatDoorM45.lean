/- Contracts of At 24 and of the reference's At 25. Contract of occurs 93. Contract of the reference's At 25. -/
import Derived.Test.YtknpigdpepmimaaGreatDoorM20
import Derived.Test.YtknpigdpepmimaaGreatDoorM44
import Derived.Test.YtknpigdpepmimaaGreatDoorM05
import Derived.Test.YtknpigdpepmimaaGreatDoorM16
import Derived.RegionTactic
namespace Go.Proofs.YtknpigdpepmimaaGreatDoor
open Go.RowKit
def zT : T := .mk 0 [] [] [] []
/-- a slice of ints, its block below B -/
def PI (w : World) (B : Nat) (v : Value) (p : List Int) : Prop :=
  ∃ A c, v = .slice A p.length c ∧ (p.length ≤ c ∧ c ≤ 9223372036854775807) ∧ (p ≠ [] → ∃ b o, A = some ⟨b, o, none⟩ ∧ b < B ∧ ∀ j (h : j < p.length), w.cell? ⟨b, o + j, none⟩ = some (.int .i64 p[j]))
theorem PI.below {w w' : World} {B : Nat} {v : Value} {p : List Int} (h : PI w B v p) (hb : Below B w w') : PI w' B v p := by
  obtain ⟨A, c, h1, h2, h3⟩ := h
  refine ⟨A, c, h1, h2, fun hne => ?_⟩
  obtain ⟨b, o, h4, h5, h6⟩ := h3 hne
  exact ⟨b, o, h4, h5, fun j hj => (hb.cell (p := ⟨b, _, none⟩) h5).trans (h6 j hj)⟩
theorem PI.more {w : World} {B B' : Nat} {v : Value} {p : List Int} (h : PI w B v p) (hB : B ≤ B') : PI w B' v p := by
  obtain ⟨A, c, h1, h2, h3⟩ := h
  refine ⟨A, c, h1, h2, fun hne => ?_⟩
  obtain ⟨b, o, h4, h5, h6⟩ := h3 hne
  exact ⟨b, o, h4, by omega, h6⟩
theorem zT_tvs (w : World) (S : Nat → Prop) : TVS w S zT none 0 := ⟨⟨Nat.le_refl _, by omega⟩, fun h => absurd rfl h⟩
end Go.Proofs.YtknpigdpepmimaaGreatDoor

namespace Go.Proofs.YtknpigdpepmimaaGreatDoor
open Go.RowKit
mutual
def ocT (x : W8) : T → Bool
  | .mk k n v ys _ => if k = 2 then decide (n = x) else ocs x k v ys
def ocs (x : W8) (k : Int) (v : W8) : List T → Bool
  | [] => false
  | t :: ts => if k = 5 ∧ ts.length = 0 ∧ v = x then false else ocT x t || ocs x k v ts
end
theorem ocT_eq (x : W8) (t : T) : ocT x t = if t.kind = 2 then decide (t.name = x) else ocs x t.kind t.var t.args := by cases t; rw [ocT]; rfl
mutual
theorem ocT_iff (x : W8) (t : T) : ocT x t = true ↔ x ∈ frL t := by
  cases t with
  | mk k n v ys f =>
    rw [ocT, mem_frL]
    show _ ↔ (k = 2 ∧ x = n) ∨ (k ≠ 2 ∧ inArgs k v x ys)
    by_cases hk : k = 2
    · rw [if_pos hk]
      simp only [hk, decide_eq_true_eq, true_and, ne_eq, not_true, false_and, or_false]
      exact eq_comm
    · rw [if_neg hk, ocs_iff x k v ys]
      simp [hk]
theorem ocs_iff (x : W8) (k : Int) (v : W8) (ts : List T) : ocs x k v ts = true ↔ inArgs k v x ts := by
  cases ts with
  | nil => rw [ocs, inArgs]; simp
  | cons t ts =>
    rw [ocs, inArgs]
    by_cases h : k = 5 ∧ ts.length = 0 ∧ v = x
    · rw [if_pos h]
      have e : ts = [] := List.eq_nil_of_length_eq_zero h.2.1
      subst e
      constructor
      · intro h'; cases h'
      · rintro (⟨_, h'⟩ | h')
        · exact absurd ⟨h.1, rfl, h.2.2.symm⟩ h'
        · rw [inArgs] at h'; exact h'.elim
    · rw [if_neg h, Bool.or_eq_true, ocT_iff x t, ocs_iff x k v ts]
      have e : ¬ (k = 5 ∧ ts.length = 0 ∧ x = v) := fun h' => h ⟨h'.1, h'.2.1, h'.2.2.symm⟩
      simp only [e, not_false_eq_true, and_true]
end
theorem ocs_drop (x : W8) (k : Int) (v : W8) (ys : List T) (i : Nat) (hlt : i < ys.length) :
    ocs x k v (ys.drop i) = if k = 5 ∧ i + 1 = ys.length ∧ v = x then false else ocT x ys[i] || ocs x k v (ys.drop (i + 1)) := by
  rw [List.drop_eq_getElem_cons hlt, ocs]
  have e : (List.drop (i + 1) ys).length = 0 ↔ i + 1 = ys.length := by rw [List.length_drop]; omega
  simp only [e]
set_option maxRecDepth 100000 in
set_option maxHeartbeats 4000000 in
theorem occurs_aux (x : W8) (N : Nat) : ∀ (t : T), t.size ≤ N → ∀ (B b o : Nat) (w : World), TR w B b o t →
    Calls Tryz.prog 156 #[.pointer (some ⟨b, o, none⟩), .string ⟨x.toArray⟩] w fun e w' => e = .returned (.bool (ocT x t)) ∧ w = w' := by
  induction N with
  | zero => intro t ht; exact absurd ht (by cases t; rw [T.size]; omega)
  | succ N ih =>
    intro t ht B b o w hr
    have IH := Lib.hid ih
    clear ih
    have HE := Lib.hid (ocT_eq x t)
    obtain ⟨hbl, c0, c1, c2, c4, A, cp, c3, ⟨hcp1, hcp2⟩, hTA⟩ := hr.parts
    have HSZ : Hid (∀ u ∈ t.args, u.size ≤ N) := fun u hu => by have := size_arg hu; omega
    have HTA := Lib.hid hTA
    obtain ⟨ys, hys⟩ : ∃ ys, ys = t.args := ⟨_, rfl⟩
    rw [← hys] at HE HTA HSZ c3 hcp1
    have hyl : ys.length ≤ 9223372036854775807 := by omega
    clear hys hTA hr c4
    generalize t.kind = k at *
    generalize t.name = nm at *
    generalize t.var = v at *
    by_cases hk2 : k = 2
    · have hb1 : (k == 2) = true := by simp [hk2]
      have HX : Hid (ocT x t = decide (nm = x)) := HE.out.trans (if_pos hk2)
      clear hk2 HE
      by_cases hn : nm = x
      · have HY : Hid (ocT x t = true) := by show ocT x t = true; rw [HX.out, decide_eq_true hn]
        rw [hn] at c1
        clear hn HX
        go_enter Tryz.func156, Tryz.ntmps156
        go_wp2_with fail
        go_ret
        rw [HY.out]
        exact ⟨rfl, rfl⟩
      · have HY : Hid (ocT x t = false) := by show ocT x t = false; rw [HX.out, decide_eq_false hn]
        have hb2 : (nm == x) = false := by simpa using hn
        clear hn HX
        go_enter Tryz.func156, Tryz.ntmps156
        go_wp2_with fail
        go_ret
        rw [HY.out]
        exact ⟨rfl, rfl⟩
    · have hb1 : (k == 2) = false := by simpa using hk2
      have HX : Hid (ocT x t = ocs x k v ys) := HE.out.trans (if_neg hk2)
      clear hk2 HE c1
      go_enter Tryz.func156, Tryz.ntmps156
      go_wp2_with fail
      go_loop [22] (fun s22 => ∃ i : Nat, i ≤ ys.length ∧ s22 = .int .i64 i ∧ Aside (ocs x k v ys = ocs x k v (ys.drop i))) (fun s22 => ys.length - (intOf s22).toNat)
      case atStart => exact ⟨0, Nat.zero_le _, rfl, rfl⟩
      case round =>
        obtain ⟨i, hi, rfl, HQ⟩ := hrel
        by_cases hlt : i < ys.length
        · have hltz : (i : Int) < (ys.length : Int) := by omega
          have HD := Lib.hid (ocs_drop x k v ys i hlt)
          obtain ⟨b', o', rfl, hRi⟩ := TA.at_ HTA.out hlt
          have HCall := Lib.hid (IH.out ys[i] (HSZ.out _ (List.getElem_mem hlt)) B b' (o' + i * 5) w hRi)
          clear hRi
          generalize ocT x ys[i] = r at *
          go_upto_region 6 with (fail)
          go_cut [47, 5, 22] (fun s47 s5 s22 wx => s47 = .bool (decide (k = 5 ∧ i + 1 = ys.length ∧ v = x)) ∧ s5 = .int .i64 i ∧ s22 = .int .i64 i ∧ w = wx)
          case first =>
            by_cases hk : k = 5
            · have hb5 : (k == 5) = true := by simp [hk]
              by_cases he : i + 1 = ys.length
              · have hez : (i : Int) = (ys.length : Int) - 1 := by omega
                by_cases hvx : v = x
                · have HP : Hid (decide (k = 5 ∧ i + 1 = ys.length ∧ v = x) = true) := decide_eq_true ⟨hk, he, hvx⟩
                  rw [hvx] at c2
                  clear hk hvx
                  go_wp2_with fail
                  go_meet
                  case rel => exact ⟨by rw [HP.out], by rw [hez], by rw [hez], rfl⟩
                · have HP : Hid (decide (k = 5 ∧ i + 1 = ys.length ∧ v = x) = false) := decide_eq_false (fun h => hvx h.2.2)
                  have hb6 : (v == x) = false := by simpa using hvx
                  clear hk hvx
                  go_wp2_with fail
                  go_meet
                  case rel => exact ⟨by rw [HP.out], by rw [hez], by rw [hez], rfl⟩
              · have hez : ((i : Int) == (ys.length : Int) - 1) = false := by rw [beq_eq_false_iff_ne]; omega
                have hez2 : ¬ (i : Int) = (ys.length : Int) - 1 := by omega
                have HP : Hid (decide (k = 5 ∧ i + 1 = ys.length ∧ v = x) = false) := decide_eq_false (fun h => he h.2.1)
                clear hk
                go_wp2_with fail
                go_meet
                case rel => exact ⟨by rw [HP.out], rfl, rfl, rfl⟩
            · have hb5 : (k == 5) = false := by simp [hk]
              have HP : Hid (decide (k = 5 ∧ i + 1 = ys.length ∧ v = x) = false) := decide_eq_false (fun h => hk h.1)
              clear hk
              go_wp2_with fail
              go_meet
              case rel => exact ⟨by rw [HP.out], rfl, rfl, rfl⟩
          case rest =>
            obtain ⟨rfl, rfl, rfl, rfl⟩ := hcut
            by_cases hbd : k = 5 ∧ i + 1 = ys.length ∧ v = x
            · have HY : Hid (ocT x t = false) := by show ocT x t = false; rw [HX.out, HQ.out, HD.out, if_pos hbd]
              rw [decide_eq_true hbd]
              clear hbd
              go_wp2_with fail
              go_ret
              rw [HY.out]
              exact ⟨rfl, rfl⟩
            · have HD2 : Hid (ocs x k v (ys.drop i) = (r || ocs x k v (ys.drop (i + 1)))) := HD.out.trans (if_neg hbd)
              rw [decide_eq_false hbd]
              clear hbd HD
              cases r with
              | true =>
                have HY : Hid (ocT x t = true) := by show ocT x t = true; rw [HX.out, HQ.out, HD2.out]; rfl
                go_wp2_with fail
                refine HCall.out.mono ?_
                rintro e w4 ⟨rfl, rfl⟩
                go_wp2_with fail
                go_ret
                rw [HY.out]
                exact ⟨rfl, rfl⟩
              | false =>
                have HY : Hid (ocs x k v ys = ocs x k v (ys.drop (i + 1))) := by show _ = _; rw [HQ.out, HD2.out]; rfl
                go_wp2_with fail
                refine HCall.out.mono ?_
                rintro e w4 ⟨rfl, rfl⟩
                go_wp2_with fail
                go_round
                case rel => exact ⟨i + 1, by omega, by go_num, HY.out⟩
                case measure => simp [intOf]; omega
        · have hltz : ¬ (i : Int) < (ys.length : Int) := by omega
          have HY : Hid (ocT x t = false) := by show ocT x t = false; rw [HX.out, HQ.out, List.drop_eq_nil_of_le (by omega), ocs]
          go_wp2_with fail
          go_ret
          rw [HY.out]
          exact ⟨rfl, rfl⟩
theorem occurs_any (x : W8) (t : T) (B b o : Nat) (w : World) (hr : TR w B b o t) :
    Calls Tryz.prog 156 #[.pointer (some ⟨b, o, none⟩), .string ⟨x.toArray⟩] w fun e w' => e = .returned (.bool (ocT x t)) ∧ w = w' := occurs_aux x t.size t (Nat.le_refl _) B b o w hr
end Go.Proofs.YtknpigdpepmimaaGreatDoor

namespace Go.Proofs.YtknpigdpepmimaaGreatDoor
open Go.RowKit
theorem Bk.drew {w : World} {b : Nat} {v0 v1 v2 v3 v4 : Value} (h : Bk w b v0 v1 v2 v3 v4) : Bk w.drew b v0 v1 v2 v3 v4 := h
theorem TVS.drew {w : World} {S : Nat → Prop} {t : T} {A : Option Addr} {c : Nat} (h : TVS w S t A c) : TVS w.drew S t A c := h.keep (fun _ hk => ⟨hk, rfl⟩)
theorem Bk.set0 {w : World} {b : Nat} {v0 v1 v2 v3 v4 : Value} (h : Bk w b v0 v1 v2 v3 v4) (u : Value) : Bk (w.setCell ⟨b, 0, none⟩ u) b u v1 v2 v3 v4 := by
  unfold Bk at h ⊢
  show (w.heap.modify b _)[b]? = _
  rw [Array.getElem?_modify, if_pos rfl, h]
  rfl
theorem Bk.set1 {w : World} {b : Nat} {v0 v1 v2 v3 v4 : Value} (h : Bk w b v0 v1 v2 v3 v4) (u : Value) : Bk (w.setCell ⟨b, 1, none⟩ u) b v0 u v2 v3 v4 := by
  unfold Bk at h ⊢
  show (w.heap.modify b _)[b]? = _
  rw [Array.getElem?_modify, if_pos rfl, h]
  rfl
theorem Bk.set2 {w : World} {b : Nat} {v0 v1 v2 v3 v4 : Value} (h : Bk w b v0 v1 v2 v3 v4) (u : Value) : Bk (w.setCell ⟨b, 2, none⟩ u) b v0 v1 u v3 v4 := by
  unfold Bk at h ⊢
  show (w.heap.modify b _)[b]? = _
  rw [Array.getElem?_modify, if_pos rfl, h]
  rfl
theorem Bk.set4 {w : World} {b : Nat} {v0 v1 v2 v3 v4 : Value} (h : Bk w b v0 v1 v2 v3 v4) (u : Value) : Bk (w.setCell ⟨b, 4, none⟩ u) b v0 v1 v2 v3 u := by
  unfold Bk at h ⊢
  show (w.heap.modify b _)[b]? = _
  rw [Array.getElem?_modify, if_pos rfl, h]
  rfl
end Go.Proofs.YtknpigdpepmimaaGreatDoor
