/- Equality of terms; contract of the reference's Equal. -/
import Derived.Test.YtkjhfbgdmmnadaaFew
import Derived.Test.YtkjhfbgdmmnadaaPlB
import Derived.Lib.QuietBelow
import Derived.BigQuiet
namespace Go.Proofs.Ytkjhfbgdmmnadaa
open Go.RowKit

mutual
def eqT : T → T → Bool
  | .mk k n v ys f, u => decide (k = u.kind) && decide (n = u.name) && decide (v = u.var) && decide (f = u.form) && decide (ys.length = u.args.length) && eqTs ys u.args
def eqTs : List T → List T → Bool
  | [], _ => true
  | _ :: _, [] => true
  | t :: ts, u :: us => eqT t u && eqTs ts us
end
def headEq (t u : T) : Bool := decide (t.kind = u.kind) && decide (t.name = u.name) && decide (t.var = u.var) && decide (t.form = u.form) && decide (t.args.length = u.args.length)
theorem eqT_eq (t u : T) : eqT t u = (headEq t u && eqTs t.args u.args) := by
  cases t with
  | mk k n v ys f => rw [eqT]; rfl
mutual
theorem eqT_iff (t u : T) : eqT t u = true ↔ t = u := by
  cases t with
  | mk k n v ys f =>
    cases u with
    | mk k2 n2 v2 zs f2 =>
      rw [eqT]
      show (decide (k = k2) && decide (n = n2) && decide (v = v2) && decide (f = f2) && decide (ys.length = zs.length) && eqTs ys zs) = true ↔ _
      simp only [Bool.and_eq_true, decide_eq_true_eq]
      constructor
      · rintro ⟨⟨⟨⟨⟨h1, h2⟩, h3⟩, h4⟩, h5⟩, h6⟩
        rw [(eqTs_iff ys zs h5).1 h6, h1, h2, h3, h4]
      · intro h
        injection h with h1 h2 h3 h4 h5
        exact ⟨⟨⟨⟨⟨h1, h2⟩, h3⟩, h5⟩, by rw [h4]⟩, (eqTs_iff ys zs (by rw [h4])).2 h4⟩
theorem eqTs_iff (ts us : List T) (hl : ts.length = us.length) : eqTs ts us = true ↔ ts = us := by
  cases ts with
  | nil => cases us with
    | nil => rw [eqTs]; simp
    | cons u us => simp at hl
  | cons t ts => cases us with
    | nil => simp at hl
    | cons u us =>
      rw [eqTs, Bool.and_eq_true, eqT_iff t u, eqTs_iff ts us (by simpa using hl), List.cons.injEq]
end
theorem head_cases (t u : T) : (headEq t u = true ∧ t.kind = u.kind ∧ t.name = u.name ∧ t.var = u.var ∧ t.form = u.form ∧ t.args.length = u.args.length) ∨ headEq t u = false := by
  cases h : headEq t u with
  | false => exact .inr rfl
  | true =>
    unfold headEq at h
    simp only [Bool.and_eq_true, decide_eq_true_eq] at h
    exact .inl ⟨rfl, h.1.1.1.1, h.1.1.1.2, h.1.1.2, h.1.2, h.2⟩

set_option maxRecDepth 100000 in
set_option maxHeartbeats 4000000 in
theorem eq18_aux (N : Nat) : ∀ (t u : T), t.size ≤ N → ∀ (A : Option Addr) (c : Nat) (A' : Option Addr) (c' : Nat) (w : World), TV w w.heap.size t A c → TV w w.heap.size u A' c' →
    Calls Try.prog 18 #[.agg (tv t A c), .agg (tv u A' c')] w fun e w' => e = .returned (.bool (eqT t u)) ∧ Below w.heap.size w w' := by
  induction N with
  | zero => intro t u ht; exact absurd ht (by cases t; rw [T.size]; omega)
  | succ N ih =>
    intro t u ht A c A' c' w hv hv'
    have IH := Lib.hid ih
    clear ih
    have HE := Lib.hid (eqT_eq t u)
    have HSZ : Hid (∀ x ∈ t.args, x.size ≤ N) := fun x hu => by have := size_arg hu; omega
    have hb0 : Below w.heap.size w ((w.alloc (.cells (tv t A c) 24)).alloc (.cells (tv u A' c') 24)) := ((Below.refl _ _).alloc (Nat.le_refl _) _).alloc (by simp) _
    have HB0 := Lib.hid hb0
    have HTA : Hid (TA ((w.alloc (.cells (tv t A c) 24)).alloc (.cells (tv u A' c') 24)) w.heap.size A t.args) := hv.ar.below hb0
    have HTA' : Hid (TA ((w.alloc (.cells (tv t A c) 24)).alloc (.cells (tv u A' c') 24)) w.heap.size A' u.args) := hv'.ar.below hb0
    obtain ⟨hcp1, hcp2⟩ := hv.cap
    obtain ⟨hcq1, hcq2⟩ := hv'.cap
    have hl1 : t.args.length ≤ 9223372036854775807 := by omega
    have hl2 : u.args.length ≤ 9223372036854775807 := by omega
    have a0 : ((w.alloc (.cells (tv t A c) 24)).alloc (.cells (tv u A' c') 24)).cell? ⟨w.heap.size, 0, none⟩ = some (.int .i64 t.kind) := by simp [tv]
    have a1 : ((w.alloc (.cells (tv t A c) 24)).alloc (.cells (tv u A' c') 24)).cell? ⟨w.heap.size, 1, none⟩ = some (.string ⟨t.name.toArray⟩) := by simp [tv]
    have a2 : ((w.alloc (.cells (tv t A c) 24)).alloc (.cells (tv u A' c') 24)).cell? ⟨w.heap.size, 2, none⟩ = some (.string ⟨t.var.toArray⟩) := by simp [tv]
    have a3 : ((w.alloc (.cells (tv t A c) 24)).alloc (.cells (tv u A' c') 24)).cell? ⟨w.heap.size, 3, none⟩ = some (.slice A t.args.length c) := by simp [tv]
    have a4 : ((w.alloc (.cells (tv t A c) 24)).alloc (.cells (tv u A' c') 24)).cell? ⟨w.heap.size, 4, none⟩ = some (.string ⟨t.form.toArray⟩) := by simp [tv]
    have b0 : ((w.alloc (.cells (tv t A c) 24)).alloc (.cells (tv u A' c') 24)).cell? ⟨w.heap.size + 1, 0, none⟩ = some (.int .i64 u.kind) := by simp [tv]
    have b1 : ((w.alloc (.cells (tv t A c) 24)).alloc (.cells (tv u A' c') 24)).cell? ⟨w.heap.size + 1, 1, none⟩ = some (.string ⟨u.name.toArray⟩) := by simp [tv]
    have b2 : ((w.alloc (.cells (tv t A c) 24)).alloc (.cells (tv u A' c') 24)).cell? ⟨w.heap.size + 1, 2, none⟩ = some (.string ⟨u.var.toArray⟩) := by simp [tv]
    have b3 : ((w.alloc (.cells (tv t A c) 24)).alloc (.cells (tv u A' c') 24)).cell? ⟨w.heap.size + 1, 3, none⟩ = some (.slice A' u.args.length c') := by simp [tv]
    have b4 : ((w.alloc (.cells (tv t A c) 24)).alloc (.cells (tv u A' c') 24)).cell? ⟨w.heap.size + 1, 4, none⟩ = some (.string ⟨u.form.toArray⟩) := by simp [tv]
    have hls : w.heap.size + 1 < ((w.alloc (.cells (tv t A c) 24)).alloc (.cells (tv u A' c') 24)).heap.size := by simp
    clear hv hv' hb0
    have HW1 : Hid (((w.alloc (.cells (tv t A c) 24)).heap.size = w.heap.size + 1)) := by show _ = _; simp
    generalize tv t A c = cs at *
    generalize tv u A' c' = ds at *
    go_enter Try.func18, Try.ntmps18
    go_upto_region 1 with (fail)
    go_cut [40] (fun s40 wx => s40 = .bool (!headEq t u) ∧ (w.alloc (.cells cs 24)).alloc (.cells ds 24) = wx)
    case first =>
      clear HE HTA HTA' IH HSZ HB0
      have HH : Hid (headEq t u = (decide (t.kind = u.kind) && decide (t.name = u.name) && decide (t.var = u.var) && decide (t.form = u.form) && decide (t.args.length = u.args.length))) := rfl
      generalize headEq t u = h at *
      generalize t.kind = k at *
      generalize u.kind = k' at *
      generalize t.name = n at *
      generalize u.name = n' at *
      generalize t.var = v at *
      generalize u.var = v' at *
      generalize t.form = f at *
      generalize u.form = f' at *
      generalize t.args.length = m at *
      generalize u.args.length = m' at *
      by_cases e1 : k = k'
      · subst e1
        by_cases e2 : n = n'
        · subst e2
          by_cases e3 : v = v'
          · subst e3
            by_cases e4 : f = f'
            · subst e4
              by_cases e5 : m = m'
              · subst e5
                have HX : Hid (h = true) := by show h = true; rw [HH.out]; simp
                go_wp2_with fail
                go_meet
                case rel => exact ⟨by rw [HX.out]; rfl, rfl⟩
              · have hz : ((m : Int) != (m' : Int)) = true := by rw [bne_iff_ne]; omega
                have hz2 : ((m : Int) == (m' : Int)) = false := by rw [beq_eq_false_iff_ne]; omega
                have HX : Hid (h = false) := by show h = false; rw [HH.out, decide_eq_false e5]; simp
                clear e5
                go_wp2_with fail
                go_meet
                case rel => exact ⟨by rw [HX.out]; rfl, rfl⟩
            · have hz : (f != f') = true := by rw [bne_iff_ne]; exact e4
              have hz2 : (f == f') = false := by rw [beq_eq_false_iff_ne]; exact e4
              have HX : Hid (h = false) := by show h = false; rw [HH.out, decide_eq_false e4]; simp
              clear e4
              go_wp2_with fail
              go_meet
              case rel => exact ⟨by rw [HX.out]; rfl, rfl⟩
          · have hz : (v != v') = true := by rw [bne_iff_ne]; exact e3
            have hz2 : (v == v') = false := by rw [beq_eq_false_iff_ne]; exact e3
            have HX : Hid (h = false) := by show h = false; rw [HH.out, decide_eq_false e3]; simp
            clear e3
            go_wp2_with fail
            go_meet
            case rel => exact ⟨by rw [HX.out]; rfl, rfl⟩
        · have hz : (n != n') = true := by rw [bne_iff_ne]; exact e2
          have hz2 : (n == n') = false := by rw [beq_eq_false_iff_ne]; exact e2
          have HX : Hid (h = false) := by show h = false; rw [HH.out, decide_eq_false e2]; simp
          clear e2
          go_wp2_with fail
          go_meet
          case rel => exact ⟨by rw [HX.out]; rfl, rfl⟩
      · have hz : (k != k') = true := by rw [bne_iff_ne]; exact e1
        have hz2 : (k == k') = false := by rw [beq_eq_false_iff_ne]; exact e1
        have HX : Hid (h = false) := by show h = false; rw [HH.out, decide_eq_false e1]; simp
        clear e1
        go_wp2_with fail
        go_meet
        case rel => exact ⟨by rw [HX.out]; rfl, rfl⟩
    case rest =>
      obtain ⟨rfl, rfl⟩ := hcut
      clear a0 a1 a2 a4 b0 b1 b2 b4
      rcases head_cases t u with ⟨hh, _, _, _, _, e5⟩ | hh
      · have HX : Hid (eqT t u = eqTs t.args u.args) := by show _ = _; rw [HE.out, hh]; rfl
        rw [hh]
        clear hh HE
        rw [← e5] at b3
        obtain ⟨w1, hw1⟩ : ∃ w1, w1 = (w.alloc (.cells cs 24)).alloc (.cells ds 24) := ⟨_, rfl⟩
        rw [← hw1] at HB0 HTA HTA' a3 b3 hls ⊢
        clear hw1
        obtain ⟨ys, hys⟩ : ∃ ys, ys = t.args := ⟨_, rfl⟩
        obtain ⟨zs, hzs⟩ : ∃ zs, zs = u.args := ⟨_, rfl⟩
        rw [← hys] at HX HTA HSZ a3 b3 e5 hcp1 hl1
        rw [← hzs] at HX HTA' e5 hcq1 hl2
        have HLE := Lib.hid e5
        rw [← e5] at hcq1
        clear hys hzs e5 hl2
        go_wp2_with fail
        go_loopg [5] ys.length (fun gg s5 wr => ∃ (i : Nat), i ≤ ys.length ∧ ys.length - i ≤ gg ∧ s5 = .int .i64 i ∧ Aside (eqTs ys zs = eqTs (ys.drop i) (zs.drop i)) ∧ Aside (Below w1.heap.size w1 wr))
        case atStart => exact ⟨0, Nat.zero_le _, by omega, rfl, rfl, Below.refl _ _⟩
        case round =>
          obtain ⟨i, hi, hgg, rfl, HQ, HB⟩ := hrel
          have HBw := Lib.hid (HB0.out.trans (HB.out.mono HB0.out.size))
          have k3r : wr.cell? ⟨w.heap.size, 3, none⟩ = some (.slice A ys.length c) := (HB.out.cell (p := ⟨w.heap.size, 3, none⟩) (show w.heap.size < w1.heap.size by omega)).trans a3
          have j3r : wr.cell? ⟨w.heap.size + 1, 3, none⟩ = some (.slice A' ys.length c') := (HB.out.cell (p := ⟨w.heap.size + 1, 3, none⟩) hls).trans b3
          by_cases hlt : i < ys.length
          · have hltz : (i : Int) < (ys.length : Int) := by omega
            have hlt2 : i < zs.length := by have := HLE.out; omega
            obtain ⟨b', o', rfl, hRi⟩ := (HTA.out.below (HB.out.mono HB0.out.size)).at_ hlt
            obtain ⟨b'', o'', rfl, hRj⟩ := (HTA'.out.below (HB.out.mono HB0.out.size)).at_ hlt2
            obtain ⟨_, d0, d1, d2, d4, A2, c2, d3, hcp3, hTA2⟩ := hRi.parts
            obtain ⟨_, g0, g1, g2, g4, A3, c3, g3, hcp4, hTA3⟩ := hRj.parts
            have HTV : Hid (TV wr wr.heap.size ys[i] A2 c2) := ⟨hcp3, hTA2.more HBw.out.size⟩
            have HTV' : Hid (TV wr wr.heap.size zs[i] A3 c3) := ⟨hcp4, hTA3.more HBw.out.size⟩
            have HD : Hid (eqTs (ys.drop i) (zs.drop i) = (eqT ys[i] zs[i] && eqTs (ys.drop (i + 1)) (zs.drop (i + 1)))) := by
              show eqTs (ys.drop i) (zs.drop i) = _
              rw [List.drop_eq_getElem_cons hlt, List.drop_eq_getElem_cons (l := zs) hlt2, eqTs]
            have HCall := Lib.hid fun d os => Calls.regrown_of (IH.out ys[i] zs[i] (HSZ.out _ (List.getElem_mem hlt)) A2 c2 A3 c3 (Sort.grow (redrawn wr d) os) ((HTV.out.below (below_regrown wr d os)).more (below_regrown wr d os).size) ((HTV'.out.below (below_regrown wr d os)).more (below_regrown wr d os).size))
            clear hRi hRj hcp3 hTA2 HTV hcp4 hTA3 HTV'
            unfold tv at HCall
            generalize eqT ys[i] zs[i] = r at *
            generalize ys[i] = uu at *
            generalize zs[i] = vv at *
            have e0 := fun d os => cell_regrown k3r d os
            have e1 := fun d os => cell_regrown j3r d os
            have f0 := fun d os => cell_regrown d0 d os
            have f1 := fun d os => cell_regrown d1 d os
            have f2 := fun d os => cell_regrown d2 d os
            have f3 := fun d os => cell_regrown d3 d os
            have f4 := fun d os => cell_regrown d4 d os
            have h0 := fun d os => cell_regrown g0 d os
            have h1 := fun d os => cell_regrown g1 d os
            have h2 := fun d os => cell_regrown g2 d os
            have h3 := fun d os => cell_regrown g3 d os
            have h4 := fun d os => cell_regrown g4 d os
            go_wp2_with fail
            refine wp_region_quiet_below (by kernel_rfl) (by kernel_rfl) ?_
            repeat (first | go_big_quiet_step (exact HCall.out _ _) | quiet_step (exact HCall.out _ _))
            refine wpQuiet_nil ?_
            intro _ hw'
            obtain ⟨⟨dq, osq⟩, hw''⟩ := hw'
            subst hw''
            have HB2 := Lib.hid (HB.out.trans ((below_regrown wr dq osq).mono HB.out.size))
            have HBw2 := Lib.hid (HBw.out.trans ((below_regrown wr dq osq).mono HBw.out.size))
            clear e0 e1 f0 f1 f2 f3 f4 h0 h1 h2 h3 h4 d0 d1 d2 d3 d4 g0 g1 g2 g3 g4 k3r j3r HCall
            generalize Sort.grow (redrawn wr dq) osq = w4 at *
            cases r with
            | false =>
              have HY : Hid (eqT t u = false) := HX.out.trans (HQ.out.trans HD.out)
              go_wp2_with fail
              go_ret
              rw [HY.out]
              exact ⟨rfl, HBw2.out⟩
            | true =>
              have HY : Hid (eqTs ys zs = eqTs (ys.drop (i + 1)) (zs.drop (i + 1))) := HQ.out.trans HD.out
              go_wp2_with fail
              go_roundg (ys.length - (i + 1))
              case measure => omega
              case rel => exact ⟨i + 1, by omega, by omega, by go_num, HY.out, HB2.out⟩
          · have hltz : ¬ (i : Int) < (ys.length : Int) := by omega
            have HY : Hid (eqT t u = true) := by
              show eqT t u = true
              rw [HX.out, HQ.out, List.drop_eq_nil_of_le (by omega), eqTs]
            go_wp2_with fail
            go_ret
            rw [HY.out]
            exact ⟨rfl, HBw.out⟩
      · have HX : Hid (eqT t u = false) := by show _ = _; rw [HE.out, hh]; rfl
        rw [hh]
        clear hh HE
        go_wp2_with fail
        go_ret
        rw [HX.out]
        exact ⟨rfl, HB0.out⟩
theorem eq18_any (t u : T) (A : Option Addr) (c : Nat) (A' : Option Addr) (c' : Nat) (w : World) (hv : TV w w.heap.size t A c) (hv' : TV w w.heap.size u A' c') :
    Calls Try.prog 18 #[.agg (tv t A c), .agg (tv u A' c')] w fun e w' => e = .returned (.bool (eqT t u)) ∧ Below w.heap.size w w' := eq18_aux t.size t u (Nat.le_refl _) A c A' c' w hv hv'
end Go.Proofs.Ytkjhfbgdmmnadaa
