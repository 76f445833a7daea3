/- Contract of the reference's alike 53. Contract of the reference's Alpha 31. -/
import Derived.Test.YtkjhfbgdmmnadaaAlR
import Derived.Test.YtkjhfbgdmmnadaaLawK
import Derived.Lib.QuietBelow
import Derived.BigQuiet
namespace Go.Proofs.Ytkjhfbgdmmnadaa
open Go.RowKit

/-- what the two chains of alike read -/
theorem src_of {w : World} {v : Value} {x : List W8} {tv : W8} {b o : Nat} {k : Nat} (hx : BN w v x) (hl : x.length ≤ 100000) (hb : b < w.heap.size) (hc : w.cell? ⟨b, o + 2, none⟩ = some (.string ⟨tv.toArray⟩)) : Src w.heap.size ⟨k, v, x, tv, ⟨b, o + 2, none⟩⟩ w b o := by
  obtain ⟨A, c, rfl, ⟨_, _⟩, h3⟩ := hx.1
  refine ⟨⟨A, c, rfl, fun e => (hx.2 _ _ (by rw [e])), fun ad hA hxn => ?_⟩, rfl, ⟨hb, hc⟩, hl⟩
  obtain ⟨b1, o1, rfl, h4, h5⟩ := h3 hxn
  exact ⟨b1, o1, (Option.some.inj hA).symm, h4, h5⟩
theorem RA.bn {w : World} {n0 r : Nat} {v : Value} {xs : List W8} (h : RA w n0 r v xs) : ∃ A c, v = .slice A xs.length c ∧ BN w (.slice A xs.length c) xs := by
  obtain ⟨cap, rfl, h⟩ := h
  exact ⟨_, cap, rfl, RL.sl (B := n0) h, fun _ _ e => by injection e with e; cases e⟩

set_option maxRecDepth 100000 in
set_option maxHeartbeats 8000000 in
theorem alike_aux (N : Nat) : ∀ (t u : T), t.size ≤ N → ∀ (x y : List W8) (v1 v2 : Value) (A : Option Addr) (c : Nat) (A' : Option Addr) (c' : Nat) (w : World), TV w w.heap.size t A c → TV w w.heap.size u A' c' → BN w v1 x → BN w v2 y → x.length = y.length → x.length + t.size ≤ 100000 →
    Calls Try.prog 53 #[.agg (tv t A c), .agg (tv u A' c'), v1, v2] w fun e w' => e = .returned (.bool (alp x y t u)) ∧ Below w.heap.size w w' := by
  induction N with
  | zero => intro t u ht; exact absurd ht (by cases t; rw [T.size]; omega)
  | succ N ih =>
    intro t u ht x y v1 v2 A c A' c' w hv hv' hx hy hxy hz1
    have IH := Lib.hid ih
    clear ih
    have HSZ : Hid (∀ s ∈ t.args, s.size ≤ N ∧ s.size < t.size) := fun s hs => by have := size_arg hs; omega
    have hb0 : Below w.heap.size w ((w.alloc (.cells (tv t A c) 24)).alloc (.cells (tv u A' c') 24)) := ((Below.refl _ _).alloc (Nat.le_refl _) _).alloc (by simp) _
    have HB1 := Lib.hid hb0
    have HTA := Lib.hid fun w' (hb : Below w.heap.size w w') => hv.ar.below hb
    have HTA' := Lib.hid fun w' (hb : Below w.heap.size w w') => hv'.ar.below hb
    obtain ⟨hcp1, hcp2⟩ := hv.cap
    obtain ⟨hcq1, hcq2⟩ := hv'.cap
    have hl1 : t.args.length ≤ 9223372036854775807 := by omega
    have hl2 : u.args.length ≤ 9223372036854775807 := by omega
    have hs1 : (w.alloc (.cells (tv t A c) 24)).heap.size = w.heap.size + 1 := by simp
    have hbx' := bxd_new (w.alloc (.cells (tv t A c) 24)) u A' c'
    rw [hs1] at hbx'
    have HBX := Lib.hid (And.intro ((bxd_new w t A c).below ((Below.refl (w.alloc (.cells (tv t A c) 24)).heap.size _).alloc (Nat.le_refl _) (.cells (tv u A' c') 24)) (by simp)) hbx')
    have hls : ((w.alloc (.cells (tv t A c) 24)).alloc (.cells (tv u A' c') 24)).heap.size = w.heap.size + 2 := by simp
    obtain ⟨A1, q1, rfl, ⟨hq1, hq1'⟩, _⟩ := id hx.1
    obtain ⟨A2, q2, rfl, ⟨hq2, hq2'⟩, _⟩ := id hy.1
    have HX := Lib.hid hx
    have HY := Lib.hid hy
    have HXY := Lib.hid hxy
    have hz2 : y.length + t.size ≤ 100000 := by omega
    clear hx hy hv hv' hb0 hbx' hxy
    have HS1 := Lib.hid hs1
    clear hs1
    generalize tv t A c = cs at *
    generalize tv u A' c' = ds at *
    go_enter Try.func53, Try.ntmps53
    go_upto_region 1 with (fail)
    generalize hw1 : (w.alloc (.cells cs 24)).alloc (.cells ds 24) = w1 at *
    clear hw1 HS1
    obtain ⟨⟨k0, k1, k2, k3, k4⟩, ⟨j0, j1, j2, j3, j4⟩⟩ := HBX.out
    go_cut [34] (fun s34 wx => s34 = .bool (!head3 t u) ∧ w1 = wx)
    case first =>
      clear HTA HTA' IH HSZ HX HY HBX HB1
      have HH : Hid (head3 t u = (decide (t.kind = u.kind) && decide (t.form = u.form) && decide (t.args.length = u.args.length))) := rfl
      generalize head3 t u = h at *
      generalize t.kind = k at *
      generalize u.kind = k' at *
      generalize t.form = f at *
      generalize u.form = f' at *
      generalize t.args.length = m at *
      generalize u.args.length = m' at *
      by_cases e1 : k = k'
      · subst e1
        by_cases e4 : f = f'
        · subst e4
          by_cases e5 : m = m'
          · subst e5
            have HX : Hid (h = true) := by show h = true; rw [HH.out]; simp
            go_wp2_with fail
            go_meet
            case rel => exact ⟨by rw [HX.out]; rfl, rfl⟩
          · have hz : ((m : Int) != (m' : Int)) = true := by rw [bne_iff_ne]; omega
            have hz2 : ((m : Int) == (m' : Int)) = false := by rw [beq_eq_false_iff_ne]; omega
            have HX : Hid (h = false) := by show h = false; rw [HH.out, decide_eq_false e5]; simp
            clear e5
            go_wp2_with fail
            go_meet
            case rel => exact ⟨by rw [HX.out]; rfl, rfl⟩
        · have hz : (f != f') = true := by rw [bne_iff_ne]; exact e4
          have hz2 : (f == f') = false := by rw [beq_eq_false_iff_ne]; exact e4
          have HX : Hid (h = false) := by show h = false; rw [HH.out, decide_eq_false e4]; simp
          clear e4
          go_wp2_with fail
          go_meet
          case rel => exact ⟨by rw [HX.out]; rfl, rfl⟩
      · have hz : (k != k') = true := by rw [bne_iff_ne]; exact e1
        have hz2 : (k == k') = false := by rw [beq_eq_false_iff_ne]; exact e1
        have HX : Hid (h = false) := by show h = false; rw [HH.out, decide_eq_false e1]; simp
        clear e1
        go_wp2_with fail
        go_meet
        case rel => exact ⟨by rw [HX.out]; rfl, rfl⟩
    case rest =>
      obtain ⟨rfl, rfl⟩ := hcut
      clear k0 k1 k2 k3 k4 j0 j1 j2 j3 j4
      rcases head3_cases t u with ⟨hh, hk, hf, hm⟩ | hh
      · have HBX2 := HBX.out
        rw [hh]
        by_cases hk2 : t.kind = 2
        · have HE := Lib.hid (alp_var (x := x) (y := y) hh hk2)
          have hb2 : (t.kind == 2) = true := by simp [hk2]
          have c0x := HBX2.1.c0
          have c1x := HBX2.1.c1
          have d1x := HBX2.2.c1
          have HXc := Lib.hid (HX.out.reach HB1.out)
          have HYc := Lib.hid (HY.out.reach HB1.out)
          clear hh hk hf hm hk2 HBX2
          generalize t.kind = k at *
          generalize t.name = n at *
          generalize u.name = m at *
          have HP1 := Lib.hid fun d os => Calls.regrown_of ((last77_any (.slice A1 x.length q1) x n (Sort.grow (redrawn w1 d) os) (HXc.out.reach (below_regrown w1 d os)).1).mono (fun e w' h => And.intro h.1 (h.2 ▸ Below.refl _ _)))
          have HP2 := Lib.hid fun d os => Calls.regrown_of ((last77_any (.slice A2 y.length q2) y m (Sort.grow (redrawn w1 d) os) (HYc.out.reach (below_regrown w1 d os)).1).mono (fun e w' h => And.intro h.1 (h.2 ▸ Below.refl _ _)))
          have e1 := fun d os => cell_regrown c1x d os
          have e2 := fun d os => cell_regrown d1x d os
          go_wp2_with fail
          refine wp_region_quiet_below (by kernel_rfl) (by kernel_rfl) ?_
          repeat (first | go_big_quiet_step (first | (with_reducible exact HP1.out _ _) | (with_reducible exact HP2.out _ _)) | quiet_step (first | (with_reducible exact HP1.out _ _) | (with_reducible exact HP2.out _ _)))
          refine wpQuiet_nil ?_
          intro _ hw'
          obtain ⟨⟨dq, osq⟩, hw''⟩ := hw'
          subst hw''
          have HB2 := Lib.hid (HB1.out.trans ((below_regrown w1 dq osq).mono (by omega)))
          have c1r := e1 dq osq
          have d1r := e2 dq osq
          clear e1 e2 HP1 HP2 HXc HYc c1x d1x c0x
          generalize Sort.grow (redrawn w1 dq) osq = wr at *
          have HV : Hid (varB x y n m = (decide (lastL x n = lastL y m) && (decide (0 ≤ lastL x n) || decide (n = m)))) := by
            show varB x y n m = _
            unfold varB
            rw [decide_eq_decide.2 (lastL_eq HXY.out n m), decide_eq_decide.2 (lastL_pos (a := x) n)]
          generalize varB x y n m = vb at *
          generalize lastL x n = p at *
          generalize lastL y m = q at *
          by_cases e1 : p = q
          · by_cases e2 : 0 ≤ p
            · have HZ : Hid (alp x y t u = true) := HE.out.trans (by rw [HV.out, decide_eq_true e1, decide_eq_true e2]; rfl)
              subst e1
              go_wp2_with fail
              go_ret
              rw [HZ.out]
              exact ⟨rfl, HB2.out⟩
            · have hng : ¬ (0 ≤ p) := e2
              have hng2 : p < 0 := by omega
              have hng3 : decide (0 ≤ p) = false := decide_eq_false e2
              by_cases e3 : n = m
              · have HZ : Hid (alp x y t u = true) := HE.out.trans (by rw [HV.out, decide_eq_true e1, decide_eq_true e3]; simp)
                subst e1
                subst e3
                go_wp2_with fail
                go_ret
                rw [HZ.out]
                exact ⟨by simp, HB2.out⟩
              · have HZ : Hid (alp x y t u = false) := HE.out.trans (by rw [HV.out, decide_eq_false e2, decide_eq_false e3]; simp)
                have hb3 : (n == m) = false := by simpa using e3
                subst e1
                clear e3
                go_wp2_with fail
                go_ret
                rw [HZ.out]
                exact ⟨by simp, HB2.out⟩
          · have HZ : Hid (alp x y t u = false) := HE.out.trans (by rw [HV.out, decide_eq_false e1]; rfl)
            have hb3 : (p == q) = false := by simpa using e1
            clear e1
            go_wp2_with fail
            go_ret
            rw [HZ.out]
            exact ⟨rfl, HB2.out⟩
        · have HE := Lib.hid (alp_args (x := x) (y := y) hh hk2)
          have hb2 : (t.kind == 2) = false := by simpa using hk2
          have HCX := Lib.hid fun w' (hb : Below w1.heap.size w1 w') => And.intro (HBX.out.1.below hb (by omega)) (HBX.out.2.below hb (by omega))
          have HBW := Lib.hid fun w' (hb : Below w1.heap.size w1 w') => HB1.out.trans (hb.mono HB1.out.size)
          clear hh hf hk2 HBX
          obtain ⟨ys, hys⟩ : ∃ ys, ys = t.args := ⟨_, rfl⟩
          obtain ⟨zs, hzs⟩ : ∃ zs, zs = u.args := ⟨_, rfl⟩
          have c0x := HBX2.1.c0
          have c1x := HBX2.1.c1
          have d1x := HBX2.2.c1
          clear HBX2
          by_cases hnm : t.name = u.name
          · have HE2 : Hid (alp x y t u = alps x y t.kind t.var u.var ys zs) := HE.out.trans (by rw [decide_eq_true hnm, ← hys, ← hzs]; rfl)
            have HCY := Lib.hid fun w' (hb : Below w1.heap.size w1 w') => And.intro (HCX.out w' hb).1.c0 (And.intro (HCX.out w' hb).1.c2 (And.intro (HCX.out w' hb).1.c3 (And.intro (HCX.out w' hb).2.c2 (HCX.out w' hb).2.c3)))
            rw [← hys, ← hzs] at HCY
            rw [← hys] at HTA HSZ hcp1 hl1 hm
            rw [← hzs] at HTA' hcq1 hl2 hm
            rw [hnm] at c1x
            clear hys hzs HE HCX hnm hk
            generalize t.kind = k at *
            generalize u.name = n at *
            generalize t.var = va at *
            generalize u.var = uv at *
            have c3x := (HCY.out w1 (Below.refl _ _)).2.2.1
            go_wp2_with fail
            clear c3x c0x c1x d1x
            go_loopg [11, 12, 13] ys.length (fun gg s11 s12 s13 wr => ∃ i : Nat, i ≤ ys.length ∧ ys.length - i ≤ gg ∧ s11 = .int .i64 i ∧ Aside (alps x y k va uv ys zs = alps x y k va uv (ys.drop i) (zs.drop i)) ∧ Aside (Below w1.heap.size w1 wr))
            case atStart => exact ⟨0, Nat.zero_le _, by omega, rfl, rfl, Below.refl _ _⟩
            case round =>
              obtain ⟨i, hi, hgg, rfl, HQ, HB⟩ := hrel
              have HBw := Lib.hid (HBW.out wr HB.out)
              by_cases hlt : i < ys.length
              · have hltz : (i : Int) < (ys.length : Int) := by omega
                have hlt2 : i < zs.length := by omega
                have hltz2 : (i : Int) < (zs.length : Int) := by omega
                have HD := Lib.hid (alps_drop x y k va uv ys zs i hlt hlt2)
                have HM := Lib.hid hm
                clear hm
                obtain ⟨bi, oi, rfl, hRi⟩ := (HTA.out wr HBw.out).at_ hlt
                obtain ⟨bj, oj, rfl, hRj⟩ := (HTA'.out wr HBw.out).at_ hlt2
                have HRi := Lib.hid hRi
                have HRj := Lib.hid hRj
                have hzi := HSZ.out _ (List.getElem_mem hlt)
                clear hRi hRj
                obtain ⟨c0r, c2r, c3r, d2r, d3r⟩ := HCY.out wr HB.out
                have HXr := Lib.hid (HX.out.reach HBw.out)
                have HYr := Lib.hid (HY.out.reach HBw.out)
                go_upto_region 12 with (fail)
                go_cut [84] (fun s84 wx => s84 = .bool (decide (k = 5 ∧ i + 1 = ys.length)) ∧ wr = wx)
                case first =>
                  by_cases hk : k = 5
                  · have hb1 : (k == 5) = true := by simp [hk]
                    by_cases he : i + 1 = ys.length
                    · have hez : (i : Int) = (ys.length : Int) - 1 := by omega
                      have HP : Hid (decide (k = 5 ∧ i + 1 = ys.length) = true) := decide_eq_true ⟨hk, he⟩
                      clear hk
                      go_wp2_with fail
                      go_meet
                      case rel => exact ⟨by rw [HP.out], rfl⟩
                    · have hez : ¬ (i : Int) = (ys.length : Int) - 1 := by omega
                      have hez2 : ((i : Int) == (ys.length : Int) - 1) = false := by simpa using hez
                      have HP : Hid (decide (k = 5 ∧ i + 1 = ys.length) = false) := decide_eq_false (fun h => he h.2)
                      clear hk
                      go_wp2_with fail
                      go_meet
                      case rel => exact ⟨by rw [HP.out], rfl⟩
                  · have hb1 : (k == 5) = false := by simp [hk]
                    have HP : Hid (decide (k = 5 ∧ i + 1 = ys.length) = false) := decide_eq_false (fun h => hk h.1)
                    clear hk
                    go_wp2_with fail
                    go_meet
                    case rel => exact ⟨by rw [HP.out], rfl⟩
                case rest =>
                  obtain ⟨rfl, rfl⟩ := hcut
                  by_cases hbd : k = 5 ∧ i + 1 = ys.length
                  · rw [decide_eq_true hbd]
                    have HD2 : Hid (alps x y k va uv (ys.drop i) (zs.drop i) = (alp (x ++ [va]) (y ++ [uv]) ys[i] zs[i] && alps x y k va uv (ys.drop (i + 1)) (zs.drop (i + 1)))) := HD.out.trans (by rw [if_pos hbd])
                    clear hbd HD
                    have hsr := HBw.out.size
                    have hsr1 := HB.out.size
                    have HSx := src_of (k := 85) (o := 0) HXr.out (by omega) (show w.heap.size < wr.heap.size by omega) c2r
                    have HSy := src_of (k := 92) (o := 0) HYr.out (by omega) (show w.heap.size + 1 < wr.heap.size by omega) d2r
                    go_upto_region 13 with (fail)
                    go_cut [12, 13] (fun s12 s13 wx => (∃ r, RA wx wr.heap.size r s12 (x ++ [va])) ∧ (∃ r, RA wx wr.heap.size r s13 (y ++ [uv])) ∧ Aside (Below wr.heap.size wr wx))
                    case first =>
                      refine two_chains (n0 := wr.heap.size) (A := ⟨85, .slice A1 x.length q1, x, va, ⟨w.heap.size, 0 + 2, none⟩⟩) (B := ⟨92, .slice A2 y.length q2, y, uv, ⟨w.heap.size + 1, 0 + 2, none⟩⟩) (s1 := 2) (t1 := 4) (s2 := 3) (t2 := 5) (d1 := 12) (d2 := 13) _ wr (by kernel_rfl) (by kernel_rfl) (by kernel_rfl) ?_ ?_ ?_ ?_ (show 85 + 6 < 92 by decide) (show 92 + 6 < 113 by decide) (show 12 < 85 by decide) (show 13 < 85 by decide) (by decide) ⟨rfl, rfl, rfl, rfl⟩ rfl HSx HSy rfl rfl rfl rfl ?_
                      · exact ⟨⟨_, rfl, rfl, rfl, rfl⟩, ⟨_, rfl, rfl, rfl, rfl⟩, ⟨_, rfl, rfl, rfl, rfl, by kernel_rfl, by kernel_rfl⟩, ⟨_, rfl, rfl, rfl, rfl⟩, ⟨_, rfl, rfl, rfl, rfl, by kernel_rfl⟩, ⟨_, rfl, rfl, rfl, rfl, by kernel_rfl⟩, ⟨_, rfl, rfl, rfl, rfl, by kernel_rfl, by kernel_rfl⟩⟩
                      · exact ⟨⟨_, rfl, rfl, rfl, rfl⟩, ⟨_, rfl, rfl, rfl, rfl⟩, ⟨_, rfl, rfl, rfl, rfl, by kernel_rfl, by kernel_rfl⟩, ⟨_, rfl, rfl, rfl, rfl⟩, ⟨_, rfl, rfl, rfl, rfl, by kernel_rfl⟩, ⟨_, rfl, rfl, rfl, rfl, by kernel_rfl⟩, ⟨_, rfl, rfl, rfl, rfl, by kernel_rfl, by kernel_rfl⟩⟩
                      · exact ⟨_, rfl, rfl, rfl, rfl, by kernel_rfl⟩
                      · exact ⟨_, rfl, rfl, rfl, rfl, by kernel_rfl⟩
                      · intro a w' hs hd ho hr1 hr2 hb
                        have HR1 := Lib.hid hr1
                        have HR2 := Lib.hid hr2
                        have HB7 := Lib.hid hb
                        have hfb := fold_back [12, 13, 85, 86, 87, 88, 89, 90, 91, 92, 93, 94, 95, 96, 97, 98] _ a hs hd (fun j hj => ho j (outB_iff.2 (by
                          simp only [List.mem_cons, List.not_mem_nil, or_false, not_or] at hj
                          show j ≠ 12 ∧ j ≠ 13 ∧ ¬ (85 ≤ j ∧ j ≤ 92 + 6)
                          omega)))
                        simp only [List.foldl_cons, List.foldl_nil] at hfb
                        clear hs hd ho hr1 hr2 hb
                        generalize a.eval (.tmp 12) = x12 at *
                        generalize a.eval (.tmp 13) = x13 at *
                        generalize a.eval (.tmp 85) = x85 at *
                        generalize a.eval (.tmp 86) = x86 at *
                        generalize a.eval (.tmp 87) = x87 at *
                        generalize a.eval (.tmp 88) = x88 at *
                        generalize a.eval (.tmp 89) = x89 at *
                        generalize a.eval (.tmp 90) = x90 at *
                        generalize a.eval (.tmp 91) = x91 at *
                        generalize a.eval (.tmp 92) = x92 at *
                        generalize a.eval (.tmp 93) = x93 at *
                        generalize a.eval (.tmp 94) = x94 at *
                        generalize a.eval (.tmp 95) = x95 at *
                        generalize a.eval (.tmp 96) = x96 at *
                        generalize a.eval (.tmp 97) = x97 at *
                        generalize a.eval (.tmp 98) = x98 at *
                        rw [hfb]
                        clear hfb
                        go_wp2_with fail
                        go_meet
                        case rel => exact ⟨HR1.out, HR2.out, HB7.out⟩
                    case rest =>
                      obtain ⟨⟨r1, hR1⟩, ⟨r2, hR2⟩, HB17⟩ := hcut
                      obtain ⟨A17, c17, hv17, hbn17⟩ := hR1.bn
                      obtain ⟨A27, c27, hv27, hbn27⟩ := hR2.bn
                      have hzl : x.length + 1 = (x ++ [va]).length := by simp
                      have hzl2 : y.length + 1 = (y ++ [uv]).length := by simp
                      rw [← hzl] at hv17
                      rw [← hzl2] at hv27
                      have HZL := Lib.hid (And.intro hzl hzl2)
                      clear hzl hzl2
                      subst hv17
                      subst hv27
                      have HN17 := Lib.hid hbn17
                      have HN27 := Lib.hid hbn27
                      have HBc : Hid (Below w1.heap.size w1 wc) := HB.out.trans (HB17.out.mono HB.out.size)
                      clear hR1 hR2 hbn17 hbn27 HSx HSy c0r c2r c3r d2r d3r hsr hsr1
                      have HBv := Lib.hid (HBW.out wc HBc.out)
                      obtain ⟨c0s, c2s, c3s, d2s, d3s⟩ := HCY.out wc HBc.out
                      obtain ⟨_, a0, a1, a2, a4, A8, c8, a3, hcp3, hTA2⟩ := (HRi.out.below ((HB17.out).mono HBw.out.size)).parts
                      obtain ⟨_, g0, g1, g2, g4, A9, c9, g3, hcp4, hTA3⟩ := (HRj.out.below ((HB17.out).mono HBw.out.size)).parts
                      have HTV : Hid (TV wc wc.heap.size ys[i] A8 c8) := ⟨hcp3, hTA2.more HBv.out.size⟩
                      have HTV' : Hid (TV wc wc.heap.size zs[i] A9 c9) := ⟨hcp4, hTA3.more HBv.out.size⟩
                      have HXc : Hid (BN wc (.slice A17 (x ++ [va]).length c17) (x ++ [va])) := HN17.out
                      have HYc : Hid (BN wc (.slice A27 (y ++ [uv]).length c27) (y ++ [uv])) := HN27.out
                      have HCall := Lib.hid fun d os => Calls.regrown_of (IH.out ys[i] zs[i] hzi.1 (x ++ [va]) (y ++ [uv]) (.slice A17 (x ++ [va]).length c17) (.slice A27 (y ++ [uv]).length c27) A8 c8 A9 c9 (Sort.grow (redrawn wc d) os) ((HTV.out.below (below_regrown wc d os)).more (below_regrown wc d os).size) ((HTV'.out.below (below_regrown wc d os)).more (below_regrown wc d os).size) (HXc.out.reach (below_regrown wc d os)) (HYc.out.reach (below_regrown wc d os)) (by simp [HXY.out]) (by rw [List.length_append]; simp; omega))
                      clear hcp3 hTA2 hcp4 hTA3 HTV HTV' HRi HRj HXr HYr hzi HXc HYc
                      unfold tv at HCall
                      rw [← HZL.out.1, ← HZL.out.2] at HCall
                      have hz0 : (0 : Int) ≤ (i : Int) := by omega
                      generalize alp (x ++ [va]) (y ++ [uv]) ys[i] zs[i] = r at *
                      generalize ys[i] = uu at *
                      generalize zs[i] = vv at *
                      have e0 := fun d os => cell_regrown c3s d os
                      have e1 := fun d os => cell_regrown d3s d os
                      have f0 := fun d os => cell_regrown a0 d os
                      have f1 := fun d os => cell_regrown a1 d os
                      have f2 := fun d os => cell_regrown a2 d os
                      have f3 := fun d os => cell_regrown a3 d os
                      have f4 := fun d os => cell_regrown a4 d os
                      have h0 := fun d os => cell_regrown g0 d os
                      have h1 := fun d os => cell_regrown g1 d os
                      have h2 := fun d os => cell_regrown g2 d os
                      have h3 := fun d os => cell_regrown g3 d os
                      have h4 := fun d os => cell_regrown g4 d os
                      go_wp2_with fail
                      refine wp_region_quiet_below (by kernel_rfl) (by kernel_rfl) ?_
                      repeat (first | go_big_quiet_step (exact HCall.out _ _) | quiet_step (exact HCall.out _ _))
                      refine wpQuiet_nil ?_
                      intro _ hw'
                      obtain ⟨⟨dq, osq⟩, hw''⟩ := hw'
                      subst hw''
                      have HB2 := Lib.hid ((HBc.out).trans ((below_regrown wc dq osq).mono (HBc.out).size))
                      have HBw2 := Lib.hid (HBv.out.trans ((below_regrown wc dq osq).mono HBv.out.size))
                      clear e0 e1 f0 f1 f2 f3 f4 h0 h1 h2 h3 h4 a0 a1 a2 a3 a4 g0 g1 g2 g3 g4 c0s c2s c3s d2s d3s HCall
                      generalize Sort.grow (redrawn wc dq) osq = w4 at *
                      cases r with
                      | false =>
                        have HZ : Hid (alp x y t u = false) := HE2.out.trans (HQ.out.trans HD2.out)
                        go_wp2_with fail
                        go_ret
                        rw [HZ.out]
                        exact ⟨rfl, HBw2.out⟩
                      | true =>
                        have HZ : Hid (alps x y k va uv ys zs = alps x y k va uv (ys.drop (i + 1)) (zs.drop (i + 1))) := HQ.out.trans HD2.out
                        go_wp2_with fail
                        go_roundg (ys.length - (i + 1))
                        case measure => omega
                        case rel => exact ⟨i + 1, by omega, by omega, by go_num, HZ.out, HB2.out⟩
                  · rw [decide_eq_false hbd]
                    have HD2 : Hid (alps x y k va uv (ys.drop i) (zs.drop i) = (alp x y ys[i] zs[i] && alps x y k va uv (ys.drop (i + 1)) (zs.drop (i + 1)))) := HD.out.trans (by rw [if_neg hbd])
                    clear hbd HD c0r c2r c3r d2r d3r
                    have HBv := Lib.hid (HBW.out wr HB.out)
                    obtain ⟨c0s, c2s, c3s, d2s, d3s⟩ := HCY.out wr HB.out
                    obtain ⟨_, a0, a1, a2, a4, A8, c8, a3, hcp3, hTA2⟩ := (HRi.out.below ((Below.refl wr.heap.size wr).mono HBw.out.size)).parts
                    obtain ⟨_, g0, g1, g2, g4, A9, c9, g3, hcp4, hTA3⟩ := (HRj.out.below ((Below.refl wr.heap.size wr).mono HBw.out.size)).parts
                    have HTV : Hid (TV wr wr.heap.size ys[i] A8 c8) := ⟨hcp3, hTA2.more HBv.out.size⟩
                    have HTV' : Hid (TV wr wr.heap.size zs[i] A9 c9) := ⟨hcp4, hTA3.more HBv.out.size⟩
                    have HXc : Hid (BN wr (.slice A1 x.length q1) x) := HXr.out
                    have HYc : Hid (BN wr (.slice A2 y.length q2) y) := HYr.out
                    have HCall := Lib.hid fun d os => Calls.regrown_of (IH.out ys[i] zs[i] hzi.1 x y (.slice A1 x.length q1) (.slice A2 y.length q2) A8 c8 A9 c9 (Sort.grow (redrawn wr d) os) ((HTV.out.below (below_regrown wr d os)).more (below_regrown wr d os).size) ((HTV'.out.below (below_regrown wr d os)).more (below_regrown wr d os).size) (HXc.out.reach (below_regrown wr d os)) (HYc.out.reach (below_regrown wr d os)) HXY.out (by omega))
                    clear hcp3 hTA2 hcp4 hTA3 HTV HTV' HRi HRj HXr HYr hzi HXc HYc
                    unfold tv at HCall
                    have hz0 : (0 : Int) ≤ (i : Int) := by omega
                    generalize alp x y ys[i] zs[i] = r at *
                    generalize ys[i] = uu at *
                    generalize zs[i] = vv at *
                    have e0 := fun d os => cell_regrown c3s d os
                    have e1 := fun d os => cell_regrown d3s d os
                    have f0 := fun d os => cell_regrown a0 d os
                    have f1 := fun d os => cell_regrown a1 d os
                    have f2 := fun d os => cell_regrown a2 d os
                    have f3 := fun d os => cell_regrown a3 d os
                    have f4 := fun d os => cell_regrown a4 d os
                    have h0 := fun d os => cell_regrown g0 d os
                    have h1 := fun d os => cell_regrown g1 d os
                    have h2 := fun d os => cell_regrown g2 d os
                    have h3 := fun d os => cell_regrown g3 d os
                    have h4 := fun d os => cell_regrown g4 d os
                    go_wp2_with fail
                    refine wp_region_quiet_below (by kernel_rfl) (by kernel_rfl) ?_
                    repeat (first | go_big_quiet_step (exact HCall.out _ _) | quiet_step (exact HCall.out _ _))
                    refine wpQuiet_nil ?_
                    intro _ hw'
                    obtain ⟨⟨dq, osq⟩, hw''⟩ := hw'
                    subst hw''
                    have HB2 := Lib.hid ((HB.out).trans ((below_regrown wr dq osq).mono (HB.out).size))
                    have HBw2 := Lib.hid (HBv.out.trans ((below_regrown wr dq osq).mono HBv.out.size))
                    clear e0 e1 f0 f1 f2 f3 f4 h0 h1 h2 h3 h4 a0 a1 a2 a3 a4 g0 g1 g2 g3 g4 c0s c2s c3s d2s d3s HCall
                    generalize Sort.grow (redrawn wr dq) osq = w4 at *
                    cases r with
                    | false =>
                      have HZ : Hid (alp x y t u = false) := HE2.out.trans (HQ.out.trans HD2.out)
                      go_wp2_with fail
                      go_ret
                      rw [HZ.out]
                      exact ⟨rfl, HBw2.out⟩
                    | true =>
                      have HZ : Hid (alps x y k va uv ys zs = alps x y k va uv (ys.drop (i + 1)) (zs.drop (i + 1))) := HQ.out.trans HD2.out
                      go_wp2_with fail
                      go_roundg (ys.length - (i + 1))
                      case measure => omega
                      case rel => exact ⟨i + 1, by omega, by omega, by go_num, HZ.out, HB2.out⟩
              · have hltz : ¬ (i : Int) < (ys.length : Int) := by omega
                have HZ : Hid (alp x y t u = true) := by
                  show alp x y t u = true
                  rw [HE2.out, HQ.out, List.drop_eq_nil_of_le (by omega), alps]
                have c3r := (HCY.out wr HB.out).2.2.1
                go_wp2_with fail
                go_ret
                rw [HZ.out]
                exact ⟨rfl, HBw.out⟩
          · have HE2 : Hid (alp x y t u = false) := HE.out.trans (by rw [decide_eq_false hnm]; rfl)
            have hb1 : (t.name != u.name) = true := by rw [bne_iff_ne]; exact hnm
            have hb3 : (t.name == u.name) = false := by simpa using hnm
            clear hnm HE
            go_wp2_with fail
            go_ret
            rw [HE2.out]
            exact ⟨rfl, HB1.out⟩
      · have HE := Lib.hid (alp_no (x := x) (y := y) hh)
        rw [hh]
        clear hh
        go_wp2_with fail
        go_ret
        rw [HE.out]
        exact ⟨rfl, HB1.out⟩
end Go.Proofs.Ytkjhfbgdmmnadaa
