/- append(bound[:len(bound):len(bound)], v) at a step of a region that draws its order; append(append([]string{}, x..), v). Contract of the reference's last 77. Contract of alpha 52. Contract of Alpha 30. -/
import Derived.Test.YtkjhfbgdmmnadaaGreatRFs
import Derived.Test.YtkjhfbgdmmnadaaGreatAwk
import Derived.Test.YtkjhfbgdmmnadaaGreatLawK
import Derived.Laws.OwnMore
import Derived.Tactics
import Derived.Deep.RegionLaw
import Derived.Deep.RegionLawGrows
import Derived.Test.YtkjhfbgdmmnadaaGreatBnd
import Derived.Lib.QuietBelow
import Derived.BigQuiet
namespace Go.Proofs.YtkjhfbgdmmnadaaGreat
open Go.RowKit

theorem stepB {ops : Array Oper} {o : Oper} {a : Act} {K : Act → World → Prop} {Q : Exit → Act → World → Prop} {E : Prop} (w w1 : World) (g : Nat) (hba : Below w.heap.size w w1) (hgd : o.guard = none) (s x : Operand)
    (ho : o.op = .call { callee := .builtin .append, args := #[s, x], argTypes := #[30, 30] }) (A : Option Addr) (c : Nat) (zs : List W8) (y : W8) (hgc : w1.cell? ⟨g, 0, none⟩ = some (.string ⟨y.toArray⟩)) (hv : SL w w.heap.size (.slice A zs.length c) zs) (hn : A = none → zs = [])
    (hs : a.eval s = .slice A zs.length zs.length) (hx : a.eval x = .slice (some ⟨g, 0, none⟩) 1 1) (hl : zs.length ≤ 100000)
    (h : ∀ A7 c7 w7, (A7 = none → zs ++ [y] = []) → SL w7 w7.heap.size (.slice A7 (zs ++ [y]).length c7) (zs ++ [y]) → Below w.heap.size w w7 → K (a.put o.dst (.slice A7 (zs.length + 1) c7)) w7) :
    if Region.wanted o (yielded ops a.tmps) = true then Oper.wp Tryz.prog o a w1 K Q else E := by
  obtain ⟨i0, hi0, hz0, hz1, hz2⟩ := info_parts str_info
  have hv2 := hv.below hba
  obtain ⟨A', c', h1, h2, h3⟩ := hv2
  injection h1 with h1 _ h4
  subst h1 h4
  refine step_append_grows hgd s x 30 ho 9 i0 _ 1 16 Tryz.underlying30 hi0 hz0 hz1 hz2 rfl (by decide) A zs.length zs.length (zs.map encS) hs (fun e => ⟨by rw [hn e]; rfl, by rw [hn e]; rfl⟩) (by simp) (fun b hb j u hu => ?_) ⟨g, 0, none⟩ 1 1 [.string ⟨y.toArray⟩] hx rfl (fun j u hu => ?_) (fun u hu => ?_) (by omega) (by unfold maxLen; omega) (by omega) ?_
  · have hj : j < zs.length := by
      have := (List.getElem?_eq_some_iff.1 hu).1
      simpa using this
    obtain ⟨b2, o2, e1, _, e2⟩ := h3 (by intro e; rw [e] at hj; simp at hj)
    have e3 : b = ⟨b2, o2, none⟩ := Option.some.inj (hb.symm.trans e1)
    subst e3
    rw [addr_addF, e2 j hj]
    obtain ⟨_, hu'⟩ := List.getElem?_eq_some_iff.1 hu
    rw [List.getElem_map] at hu'
    rw [← hu']; rfl
  · cases j with
    | zero => simp at hu; subst hu; exact hgc
    | succ j => simp at hu
  · simp at hu; subst hu; rfl
  · intro v7 w7 hown7 hgrow7
    have hrow : RL w7 w1.heap.size v7 (zs ++ [y]) := by
      unfold RL
      rw [List.length_append, List.map_append]
      exact hown7
    obtain ⟨A7, c7, rfl, g1, g2⟩ := hrow.sl
    rw [List.length_append] 
    refine h A7 c7 w7 (fun e => ?_) ⟨A7, c7, rfl, g1, g2⟩ ?_
    · exfalso
      obtain ⟨b, o, e2, _⟩ := g2 (by simp)
      rw [e] at e2; cases e2
    · exact hba.grown hgrow7 hba.size (fun k hk => by cases hk)
end Go.Proofs.YtkjhfbgdmmnadaaGreat

namespace Go.Proofs.YtkjhfbgdmmnadaaGreat
open Go.RowKit

end Go.Proofs.YtkjhfbgdmmnadaaGreat

namespace Go.Proofs.YtkjhfbgdmmnadaaGreat
open Go.RowKit

/-- a slice of bound names: where it is nil, there are none -/
def BN (w : World) (v : Value) (l : List W8) : Prop := SL w w.heap.size v l ∧ ∀ n c, v = .slice none n c → l = [] ∧ c = 0
theorem BN.reach {w w' : World} {v : Value} {l : List W8} (h : BN w v l) (hb : Below w.heap.size w w') : BN w' v l := ⟨(h.1.below hb).more hb.size, h.2⟩
def head3 (t u : T) : Bool := decide (t.kind = u.kind) && decide (t.form = u.form) && decide (t.args.length = u.args.length)
theorem head3_cases (t u : T) : (head3 t u = true ∧ t.kind = u.kind ∧ t.form = u.form ∧ t.args.length = u.args.length) ∨ head3 t u = false := by
  cases h : head3 t u with
  | false => exact .inr rfl
  | true =>
    unfold head3 at h
    simp only [Bool.and_eq_true, decide_eq_true_eq] at h
    exact .inl ⟨rfl, h.1.1, h.1.2, h.2⟩
def varB (x y : List W8) (n m : W8) : Bool := decide (binL x n = binL y m) && (decide (0 ≤ binL x n) || decide (n = m))
theorem alp_no {x y : List W8} {t u : T} (h : head3 t u = false) : alp x y t u = false := by
  rw [alp_eq]; unfold head3 at h; rw [h]; rfl
theorem alp_var {x y : List W8} {t u : T} (h : head3 t u = true) (hk : t.kind = 2) : alp x y t u = varB x y t.name u.name := by
  rw [alp_eq]; unfold head3 at h; rw [h, if_pos hk]; rfl
theorem alp_args {x y : List W8} {t u : T} (h : head3 t u = true) (hk : t.kind ≠ 2) : alp x y t u = (decide (t.name = u.name) && alps x y t.kind t.var u.var t.args u.args) := by
  rw [alp_eq]; unfold head3 at h; rw [h, if_neg hk]; rfl
theorem alps_drop (x y : List W8) (k : Int) (v v' : W8) (ys zs : List T) (i : Nat) (h1 : i < ys.length) (h2 : i < zs.length) :
    alps x y k v v' (ys.drop i) (zs.drop i) = ((if k = 5 ∧ i + 1 = ys.length then alp (x ++ [v]) (y ++ [v']) ys[i] zs[i] else alp x y ys[i] zs[i]) && alps x y k v v' (ys.drop (i + 1)) (zs.drop (i + 1))) := by
  rw [List.drop_eq_getElem_cons h1, List.drop_eq_getElem_cons (l := zs) h2, alps]
  have e : (List.drop (i + 1) ys).length = 0 ↔ i + 1 = ys.length := by rw [List.length_drop]; omega
  simp only [e]

set_option maxRecDepth 100000 in
set_option maxHeartbeats 8000000 in
theorem alpha_aux (N : Nat) : ∀ (t u : T), t.size ≤ N → ∀ (x y : List W8) (v1 v2 : Value) (b o b' o' : Nat) (w : World), TR w w.heap.size b o t → TR w w.heap.size b' o' u → BN w v1 x → BN w v2 y → x.length + t.size ≤ 100000 → y.length + t.size ≤ 100000 →
    Calls Tryz.prog 27 #[.pointer (some ⟨b, o, none⟩), .pointer (some ⟨b', o', none⟩), v1, v2] w fun e w' => e = .returned (.bool (alp x y t u)) ∧ Below w.heap.size w w' := by
  induction N with
  | zero => intro t u ht; exact absurd ht (by cases t; rw [T.size]; omega)
  | succ N ih =>
    intro t u ht x y v1 v2 b o b' o' w hr hr' hx hy hz1 hz2
    have IH := Lib.hid ih
    clear ih
    have HSZ : Hid (∀ s ∈ t.args, s.size ≤ N ∧ s.size < t.size) := fun s hs => by have := size_arg hs; omega
    obtain ⟨hbl, c0, c1, c2, c4, A, cp, c3, ⟨hcp1, hcp2⟩, hTA⟩ := hr.parts
    obtain ⟨hbl', d0, d1, d2, d4, A', cq, d3, ⟨hcq1, hcq2⟩, hTA'⟩ := hr'.parts
    have hl1 : t.args.length ≤ 9223372036854775807 := by omega
    have hl2 : u.args.length ≤ 9223372036854775807 := by omega
    have HTA := Lib.hid hTA
    have HTA' := Lib.hid hTA'
    obtain ⟨A1, q1, rfl, ⟨hq1, hq1'⟩, _⟩ := id hx.1
    obtain ⟨A2, q2, rfl, ⟨hq2, hq2'⟩, _⟩ := id hy.1
    have HX := Lib.hid hx
    have HY := Lib.hid hy
    have HCC := Lib.hid (And.intro c1 (And.intro c2 c3))
    have HDD := Lib.hid (And.intro d1 (And.intro d2 d3))
    have HC0 := Lib.hid c0
    clear hTA hTA' hx hy hr hr'
    go_enter Tryz.func27, Tryz.ntmps27
    go_upto_region 1 with (fail)
    go_cut [46] (fun s46 wx => s46 = .bool (!head3 t u) ∧ Aside (Below w.heap.size w wx))
    case first =>
      clear HTA HTA' IH HSZ HX HY HCC HDD HC0
      have HH : Hid (head3 t u = (decide (t.kind = u.kind) && decide (t.form = u.form) && decide (t.args.length = u.args.length))) := rfl
      generalize head3 t u = h at *
      generalize t.kind = k at *
      generalize u.kind = k' at *
      generalize t.form = f at *
      generalize u.form = f' at *
      generalize t.args.length = m at *
      generalize u.args.length = m' at *
      by_cases e1 : k = k'
      · subst e1
        by_cases e4 : f = f'
        · subst e4
          by_cases e5 : m = m'
          · subst e5
            have HX : Hid (h = true) := by show h = true; rw [HH.out]; simp
            go_big_quiet (fail)
            go_wp2_with fail
            go_meet
            case rel => exact ⟨by rw [HX.out]; rfl, below_drewNB (Below.refl _ _) _⟩
          · have hz : ((m : Int) != (m' : Int)) = true := by rw [bne_iff_ne]; omega
            have hz2 : ((m : Int) == (m' : Int)) = false := by rw [beq_eq_false_iff_ne]; omega
            have HX : Hid (h = false) := by show h = false; rw [HH.out, decide_eq_false e5]; simp
            clear e5
            go_big_quiet (fail)
            go_wp2_with fail
            go_meet
            case rel => exact ⟨by rw [HX.out]; rfl, below_drewNB (Below.refl _ _) _⟩
        · have hz : (f != f') = true := by rw [bne_iff_ne]; exact e4
          have hz2 : (f == f') = false := by rw [beq_eq_false_iff_ne]; exact e4
          have HX : Hid (h = false) := by show h = false; rw [HH.out, decide_eq_false e4]; simp
          clear e4
          go_big_quiet (fail)
          go_wp2_with fail
          go_meet
          case rel => exact ⟨by rw [HX.out]; rfl, below_drewNB (Below.refl _ _) _⟩
      · have hz : (k != k') = true := by rw [bne_iff_ne]; exact e1
        have hz2 : (k == k') = false := by rw [beq_eq_false_iff_ne]; exact e1
        have HX : Hid (h = false) := by show h = false; rw [HH.out, decide_eq_false e1]; simp
        clear e1
        go_big_quiet (fail)
        go_wp2_with fail
        go_meet
        case rel => exact ⟨by rw [HX.out]; rfl, below_drewNB (Below.refl _ _) _⟩
    case rest =>
      obtain ⟨rfl, HB1⟩ := hcut
      have hs1 := HB1.out.size
      have c0x := (HB1.out.cell (p := ⟨b, o, none⟩) hbl).trans HC0.out
      clear c0 c1 c2 c3 c4 d0 d1 d2 d3 d4
      rcases head3_cases t u with ⟨hh, hk, hf, hm⟩ | hh
      · by_cases hk2 : t.kind = 2
        · have HE := Lib.hid (alp_var (x := x) (y := y) hh hk2)
          have hb2 : (t.kind == 2) = true := by simp [hk2]
          have c1x := (HB1.out.cell (p := ⟨b, o + 1, none⟩) hbl).trans HCC.out.1
          have d1x := (HB1.out.cell (p := ⟨b', o' + 1, none⟩) hbl').trans HDD.out.1
          have HXc := Lib.hid (HX.out.reach HB1.out)
          have HYc := Lib.hid (HY.out.reach HB1.out)
          rw [hh]
          clear hh hk hf hm hk2
          generalize t.kind = k at *
          generalize t.name = n at *
          generalize u.name = m at *
          have HP1 := Lib.hid fun d os => Calls.regrown_of (binder76_any (.slice A1 x.length q1) x n (Sort.grow (redrawn wc d) os) (HXc.out.reach (below_regrown wc d os)).1 (by omega))
          have HP2 := Lib.hid fun d os => Calls.regrown_of (binder76_any (.slice A2 y.length q2) y m (Sort.grow (redrawn wc d) os) (HYc.out.reach (below_regrown wc d os)).1 (by omega))
          have e1 := fun d os => cell_regrown c1x d os
          have e2 := fun d os => cell_regrown d1x d os
          go_wp2_with fail
          refine wp_region_quiet_below (by kernel_rfl) (by kernel_rfl) ?_
          repeat (first | go_big_quiet_step (first | (with_reducible exact HP1.out _ _) | (with_reducible exact HP2.out _ _)) | quiet_step (first | (with_reducible exact HP1.out _ _) | (with_reducible exact HP2.out _ _)))
          refine wpQuiet_nil ?_
          intro _ hw'
          obtain ⟨⟨dq, osq⟩, hw''⟩ := hw'
          subst hw''
          have HB2 := Lib.hid (HB1.out.trans ((below_regrown wc dq osq).mono hs1))
          have c1r := e1 dq osq
          have d1r := e2 dq osq
          clear e1 e2 HP1 HP2 HXc HYc c1x d1x c0x
          generalize Sort.grow (redrawn wc dq) osq = wr at *
          have HV : Hid (varB x y n m = (decide (binL x n = binL y m) && (decide (0 ≤ binL x n) || decide (n = m)))) := rfl
          generalize varB x y n m = vb at *
          generalize binL x n = p at *
          generalize binL y m = q at *
          by_cases e1 : p = q
          · by_cases e2 : 0 ≤ p
            · have HZ : Hid (alp x y t u = true) := HE.out.trans (by rw [HV.out, decide_eq_true e1, decide_eq_true e2]; rfl)
              subst e1
              go_wp2_with fail
              go_big_quiet (fail)
              go_wp2_with fail
              go_ret
              rw [HZ.out]
              exact ⟨rfl, below_drewNB HB2.out _⟩
            · have hng : ¬ (0 ≤ p) := e2
              have hng2 : p < 0 := by omega
              have hng3 : decide (0 ≤ p) = false := decide_eq_false e2
              by_cases e3 : n = m
              · have HZ : Hid (alp x y t u = true) := HE.out.trans (by rw [HV.out, decide_eq_true e1, decide_eq_true e3]; simp)
                subst e1
                subst e3
                go_wp2_with fail
                go_big_quiet (fail)
                go_wp2_with fail
                go_ret
                rw [HZ.out]
                exact ⟨by simp, below_drewNB HB2.out _⟩
              · have HZ : Hid (alp x y t u = false) := HE.out.trans (by rw [HV.out, decide_eq_false e2, decide_eq_false e3]; simp)
                have hb3 : (n == m) = false := by simpa using e3
                subst e1
                clear e3
                go_wp2_with fail
                go_big_quiet (fail)
                go_wp2_with fail
                go_ret
                rw [HZ.out]
                exact ⟨by simp, below_drewNB HB2.out _⟩
          · have HZ : Hid (alp x y t u = false) := HE.out.trans (by rw [HV.out, decide_eq_false e1]; rfl)
            have hb3 : (p == q) = false := by simpa using e1
            clear e1
            go_wp2_with fail
            go_big_quiet (fail)
            go_wp2_with fail
            go_ret
            rw [HZ.out]
            exact ⟨rfl, below_drewNB HB2.out _⟩
        · have HE := Lib.hid (alp_args (x := x) (y := y) hh hk2)
          have hb2 : (t.kind == 2) = false := by simpa using hk2
          have HCX := Lib.hid fun w' (hb : Below w.heap.size w w') => And.intro ((hb.cell (p := ⟨b, o, none⟩) hbl).trans HC0.out) (And.intro ((hb.cell (p := ⟨b, o + 1, none⟩) hbl).trans HCC.out.1) (And.intro ((hb.cell (p := ⟨b, o + 2, none⟩) hbl).trans HCC.out.2.1) ((hb.cell (p := ⟨b, o + 3, none⟩) hbl).trans HCC.out.2.2)))
          have HDX := Lib.hid fun w' (hb : Below w.heap.size w w') => And.intro ((hb.cell (p := ⟨b', o' + 1, none⟩) hbl').trans HDD.out.1) (And.intro ((hb.cell (p := ⟨b', o' + 2, none⟩) hbl').trans HDD.out.2.1) ((hb.cell (p := ⟨b', o' + 3, none⟩) hbl').trans HDD.out.2.2))
          rw [hh]
          clear hh hk hf hk2 HC0 HCC HDD
          obtain ⟨ys, hys⟩ : ∃ ys, ys = t.args := ⟨_, rfl⟩
          obtain ⟨zs, hzs⟩ : ∃ zs, zs = u.args := ⟨_, rfl⟩
          rw [← hys] at HE HTA HSZ HCX hcp1 hl1 hm
          rw [← hzs] at HE HTA' HDX hcq1 hl2 hm
          clear hys hzs
          generalize t.kind = k at *
          generalize t.name = n at *
          generalize u.name = m at *
          generalize t.var = tv at *
          generalize u.var = uv at *
          have c1x := (HCX.out wc HB1.out).2.1
          have d1x := (HDX.out wc HB1.out).1
          by_cases hnm : n = m
          · have HE2 : Hid (alp x y t u = alps x y k tv uv ys zs) := HE.out.trans (by rw [decide_eq_true hnm]; rfl)
            subst hnm
            clear HE
            go_wp2_with fail
            go_big_quiet (fail)
            have HBn := Lib.hid (below_drewNB HB1.out nq)
            clear HB1 hs1 c0x c1x d1x
            generalize wc.drewN nq = wn at *
            have c3n := (HCX.out wn HBn.out).2.2.2
            go_wp2_with fail
            clear c3n
            go_loopg [11, 12, 13, 96] ys.length (fun gg s11 s12 s13 s96 wr => ∃ i : Nat, i ≤ ys.length ∧ ys.length - i ≤ gg ∧ s96 = .int .i64 i ∧ Aside (alps x y k tv uv ys zs = alps x y k tv uv (ys.drop i) (zs.drop i)) ∧ Aside (Below w.heap.size w wr))
            case atStart => exact ⟨0, Nat.zero_le _, by omega, rfl, rfl, HBn⟩
            case round =>
              obtain ⟨i, hi, hgg, rfl, HQ, HB⟩ := hrel
              by_cases hlt : i < ys.length
              · have hltz : (i : Int) < (ys.length : Int) := by omega
                have hlt2 : i < zs.length := by omega
                have hltz2 : (i : Int) < (zs.length : Int) := by omega
                have HD := Lib.hid (alps_drop x y k tv uv ys zs i hlt hlt2)
                have HM := Lib.hid hm
                clear hm
                obtain ⟨bi, oi, rfl, hRi⟩ := (TA.below HTA.out HB.out).at_ hlt
                obtain ⟨bj, oj, rfl, hRj⟩ := (TA.below HTA'.out HB.out).at_ hlt2
                have HRi := Lib.hid (hRi.more HB.out.size)
                have HRj := Lib.hid (hRj.more HB.out.size)
                have hzi := HSZ.out _ (List.getElem_mem hlt)
                clear hRi hRj
                obtain ⟨c0r, c1r, c2r, c3r⟩ := HCX.out wr HB.out
                obtain ⟨d1r, d2r, d3r⟩ := HDX.out wr HB.out
                have HXr := Lib.hid (HX.out.reach HB.out)
                have HYr := Lib.hid (HY.out.reach HB.out)
                go_upto_region 12 with (fail)
                go_cut [115] (fun s115 wx => s115 = .bool (decide (k = 5 ∧ i + 1 = ys.length)) ∧ wr = wx)
                case first =>
                  by_cases hk : k = 5
                  · have hb1 : (k == 5) = true := by simp [hk]
                    by_cases he : i + 1 = ys.length
                    · have hez : (i : Int) = (ys.length : Int) - 1 := by omega
                      have HP : Hid (decide (k = 5 ∧ i + 1 = ys.length) = true) := decide_eq_true ⟨hk, he⟩
                      clear hk
                      go_wp2_with fail
                      go_meet
                      case rel => exact ⟨by rw [HP.out], rfl⟩
                    · have hez : ¬ (i : Int) = (ys.length : Int) - 1 := by omega
                      have hez2 : ((i : Int) == (ys.length : Int) - 1) = false := by simpa using hez
                      have HP : Hid (decide (k = 5 ∧ i + 1 = ys.length) = false) := decide_eq_false (fun h => he h.2)
                      clear hk
                      go_wp2_with fail
                      go_meet
                      case rel => exact ⟨by rw [HP.out], rfl⟩
                  · have hb1 : (k == 5) = false := by simp [hk]
                    have HP : Hid (decide (k = 5 ∧ i + 1 = ys.length) = false) := decide_eq_false (fun h => hk h.1)
                    clear hk
                    go_wp2_with fail
                    go_meet
                    case rel => exact ⟨by rw [HP.out], rfl⟩
                case rest =>
                  obtain ⟨rfl, rfl⟩ := hcut
                  by_cases hbd : k = 5 ∧ i + 1 = ys.length
                  · rw [decide_eq_true hbd]
                    have HD2 : Hid (alps x y k tv uv (ys.drop i) (zs.drop i) = (alp (x ++ [tv]) (y ++ [uv]) ys[i] zs[i] && alps x y k tv uv (ys.drop (i + 1)) (zs.drop (i + 1)))) := HD.out.trans (by rw [if_pos hbd])
                    clear hbd HD
                    have HN1 : Hid (A1 = none → x = []) := fun e => (HX.out.2 _ _ (by rw [e])).1
                    have HN2 : Hid (A2 = none → y = []) := fun e => (HY.out.2 _ _ (by rw [e])).1
                    go_upto_region 13 with (fail)
                    go_cut [12] (fun s12 wx => ∃ A7 c7, s12 = .slice A7 (x.length + 1) c7 ∧ Aside (BN wx (.slice A7 (x ++ [tv]).length c7) (x ++ [tv])) ∧ Aside (Below wr.heap.size wr wx))
                    case first =>
                      refine wp_region_noPanic ?_
                      go_region_held_law (fun w' => w'.cell? ⟨b, o + 2, none⟩ = some (.string ⟨tv.toArray⟩)) (first | exact c2r | exact c2s | go_keep) (first | (refine stepB wr _ wr.heap.size (by first | exact below_drF ((Below.refl _ _).alloc (Nat.le_refl _) _) | exact (Below.refl _ _).alloc (Nat.le_refl _) _) rfl (.tmp 121) (.tmp 126) rfl A1 q1 x tv (by first | exact (by simp) | rfl) HXr.out.1 HN1.out (by first | rfl | simp [Act.eval]) rfl (by omega) ?_; intro A7 c7 w7 hn7 hs7 hb7; have HS7 := Lib.hid hs7; have HB7 := Lib.hid hb7; have HN7 := Lib.hid hn7; have c2s : w7.cell? ⟨b, o + 2, none⟩ = some (.string ⟨tv.toArray⟩) := (hb7.cell (p := ⟨b, o + 2, none⟩) (World.block_lt_of_cell? wr _ c2r)).trans c2r; clear hn7 hs7 hb7))
                      all_goals
                        refine NoPanic.normal ?_
                        simp only [List.getElem_toArray, List.getElem_cons_succ, List.getElem_cons_zero]
                        go_wp2_with fail
                        go_meet
                        case rel => exact ⟨_, _, rfl, ⟨HS7.out, fun m1 m2 e => by injection e with e1 e2 e3; exact absurd (HN7.out e1) (by simp)⟩, HB7.out⟩
                    case rest =>
                      obtain ⟨A17, c17, rfl, HS17, HB17⟩ := hcut
                      have HBa := Lib.hid (HB.out.trans (HB17.out.mono HB.out.size))
                      have d2a := (HDX.out _ HBa.out).2.1
                      have HYa := Lib.hid (HYr.out.reach HB17.out)
                      have hzl : x.length + 1 = (x ++ [tv]).length := by simp
                      have hzl2 : y.length + 1 = (y ++ [uv]).length := by simp
                      have HZL := Lib.hid (And.intro hzl hzl2)
                      clear c0r c1r c2r c3r d1r d2r d3r hzl hzl2
                      rename World => wA
                      go_upto_region 14 with (fail)
                      go_cut [13] (fun s13 wx => ∃ A7 c7, s13 = .slice A7 (y.length + 1) c7 ∧ Aside (BN wx (.slice A7 (y ++ [uv]).length c7) (y ++ [uv])) ∧ Aside (Below wA.heap.size wA wx))
                      case first =>
                        refine wp_region_noPanic ?_
                        go_region_held_law (fun w' => w'.cell? ⟨b', o' + 2, none⟩ = some (.string ⟨uv.toArray⟩)) (first | exact d2a | exact c2s | go_keep) (first | (refine stepB wA _ wA.heap.size (by first | exact below_drF ((Below.refl _ _).alloc (Nat.le_refl _) _) | exact (Below.refl _ _).alloc (Nat.le_refl _) _) rfl (.tmp 133) (.tmp 138) rfl A2 q2 y uv (by first | exact (by simp) | rfl) HYa.out.1 HN2.out (by first | rfl | simp [Act.eval]) rfl (by omega) ?_; intro A7 c7 w7 hn7 hs7 hb7; have HS7 := Lib.hid hs7; have HB7 := Lib.hid hb7; have HN7 := Lib.hid hn7; have c2s : w7.cell? ⟨b', o' + 2, none⟩ = some (.string ⟨uv.toArray⟩) := (hb7.cell (p := ⟨b', o' + 2, none⟩) (World.block_lt_of_cell? wA _ d2a)).trans d2a; clear hn7 hs7 hb7))
                        all_goals
                          refine NoPanic.normal ?_
                          simp only [List.getElem_toArray, List.getElem_cons_succ, List.getElem_cons_zero]
                          go_wp2_with fail
                          go_meet
                          case rel => exact ⟨_, _, rfl, ⟨HS7.out, fun m1 m2 e => by injection e with e1 e2 e3; exact absurd (HN7.out e1) (by simp)⟩, HB7.out⟩
                      case rest =>
                        obtain ⟨A27, c27, rfl, HS27, HB27⟩ := hcut
                        have HBb := Lib.hid (HBa.out.trans (HB27.out.mono HBa.out.size))
                        obtain ⟨c0s, c1s, c2s, c3s⟩ := HCX.out wc HBb.out
                        obtain ⟨d1s, d2s, d3s⟩ := HDX.out wc HBb.out
                        have HBr : Hid (Below wr.heap.size wr wc) := HB17.out.trans (HB27.out.mono HB17.out.size)
                        have HXc := Lib.hid (HS17.out.reach HB27.out)
                        have HYc := Lib.hid HS27.out
                        have HCall := Lib.hid fun d os => Calls.regrown_of (IH.out ys[i] zs[i] hzi.1 (x ++ [tv]) (y ++ [uv]) (.slice A17 (x ++ [tv]).length c17) (.slice A27 (y ++ [uv]).length c27) bi (oi + i * 5) bj (oj + i * 5) (Sort.grow (redrawn wc d) os) (((HRi.out.below HBr.out).more HBr.out.size).below (below_regrown wc d os) |>.more (below_regrown wc d os).size) (((HRj.out.below HBr.out).more HBr.out.size).below (below_regrown wc d os) |>.more (below_regrown wc d os).size) (HXc.out.reach (below_regrown wc d os)) (HYc.out.reach (below_regrown wc d os)) (by rw [List.length_append]; simp; omega) (by rw [List.length_append]; simp; omega))
                        rw [← HZL.out.1, ← HZL.out.2] at HCall
                        clear HRi HRj HXr HYr hzi HXc HYc HS17 HS27 HYa d2a HBr HB17 HB27
                        have hz0 : (0 : Int) ≤ (i : Int) := by omega
                        generalize alp (x ++ [tv]) (y ++ [uv]) ys[i] zs[i] = r at *
                        have f3 := fun d os => cell_regrown c3s d os
                        have g3 := fun d os => cell_regrown d3s d os
                        go_wp2_with fail
                        refine wp_region_quiet_below (by kernel_rfl) (by kernel_rfl) ?_
                        repeat (first | go_big_quiet_step (exact HCall.out _ _) | quiet_step (exact HCall.out _ _))
                        refine wpQuiet_nil ?_
                        intro _ hw'
                        obtain ⟨⟨dq, osq⟩, hw''⟩ := hw'
                        subst hw''
                        have HB2 := Lib.hid (HBb.out.trans ((below_regrown wc dq osq).mono HBb.out.size))
                        clear f3 g3 c0s c1s c2s c3s d1s d2s d3s HCall
                        generalize Sort.grow (redrawn wc dq) osq = w4 at *
                        cases r with
                        | false =>
                          have HZ : Hid (alp x y t u = false) := HE2.out.trans (HQ.out.trans HD2.out)
                          go_wp2_with fail
                          go_ret
                          rw [HZ.out]
                          exact ⟨rfl, HB2.out⟩
                        | true =>
                          have HZ : Hid (alps x y k tv uv ys zs = alps x y k tv uv (ys.drop (i + 1)) (zs.drop (i + 1))) := HQ.out.trans HD2.out
                          go_wp2_with fail
                          go_roundg (ys.length - (i + 1))
                          case measure => omega
                          case rel => exact ⟨i + 1, by omega, by omega, by go_num, HZ.out, HB2.out⟩
                  · rw [decide_eq_false hbd]
                    have HD2 : Hid (alps x y k tv uv (ys.drop i) (zs.drop i) = (alp x y ys[i] zs[i] && alps x y k tv uv (ys.drop (i + 1)) (zs.drop (i + 1)))) := HD.out.trans (by rw [if_neg hbd])
                    have HCall := Lib.hid fun d os => Calls.regrown_of (IH.out ys[i] zs[i] hzi.1 x y (.slice A1 x.length q1) (.slice A2 y.length q2) bi (oi + i * 5) bj (oj + i * 5) (Sort.grow (redrawn wr d) os) ((HRi.out.below (below_regrown wr d os)).more (below_regrown wr d os).size) ((HRj.out.below (below_regrown wr d os)).more (below_regrown wr d os).size) (HXr.out.reach (below_regrown wr d os)) (HYr.out.reach (below_regrown wr d os)) (by omega) (by omega))
                    clear hbd HD HRi HRj HXr HYr hzi
                    have hz0 : (0 : Int) ≤ (i : Int) := by omega
                    generalize alp x y ys[i] zs[i] = r at *
                    have f3 := fun d os => cell_regrown c3r d os
                    have g3 := fun d os => cell_regrown d3r d os
                    go_wp2_with fail
                    refine wp_region_quiet_below (by kernel_rfl) (by kernel_rfl) ?_
                    repeat (first | go_big_quiet_step (exact HCall.out _ _) | quiet_step (exact HCall.out _ _))
                    refine wpQuiet_nil ?_
                    intro _ hw'
                    obtain ⟨⟨dq, osq⟩, hw''⟩ := hw'
                    subst hw''
                    have HB2 := Lib.hid (HB.out.trans ((below_regrown wr dq osq).mono HB.out.size))
                    clear f3 g3 c0r c1r c2r c3r d1r d2r d3r HCall
                    generalize Sort.grow (redrawn wr dq) osq = w4 at *
                    cases r with
                    | false =>
                      have HZ : Hid (alp x y t u = false) := HE2.out.trans (HQ.out.trans HD2.out)
                      go_wp2_with fail
                      go_ret
                      rw [HZ.out]
                      exact ⟨rfl, HB2.out⟩
                    | true =>
                      have HZ : Hid (alps x y k tv uv ys zs = alps x y k tv uv (ys.drop (i + 1)) (zs.drop (i + 1))) := HQ.out.trans HD2.out
                      go_wp2_with fail
                      go_roundg (ys.length - (i + 1))
                      case measure => omega
                      case rel => exact ⟨i + 1, by omega, by omega, by go_num, HZ.out, HB2.out⟩
              · have hltz : ¬ (i : Int) < (ys.length : Int) := by omega
                have HZ : Hid (alp x y t u = true) := by
                  show alp x y t u = true
                  rw [HE2.out, HQ.out, List.drop_eq_nil_of_le (by omega), alps]
                go_wp2_with fail
                go_ret
                rw [HZ.out]
                exact ⟨rfl, HB.out⟩
          · have HE2 : Hid (alp x y t u = false) := HE.out.trans (by rw [decide_eq_false hnm]; rfl)
            have hb1 : (n != m) = true := by rw [bne_iff_ne]; exact hnm
            have hb3 : (n == m) = false := by simpa using hnm
            clear hnm HE
            go_wp2_with fail
            go_big_quiet (fail)
            go_wp2_with fail
            go_ret
            rw [HE2.out]
            exact ⟨rfl, below_drewNB HB1.out _⟩
      · have HE := Lib.hid (alp_no (x := x) (y := y) hh)
        rw [hh]
        clear hh
        go_wp2_with fail
        go_ret
        rw [HE.out]
        exact ⟨rfl, HB1.out⟩
end Go.Proofs.YtkjhfbgdmmnadaaGreat

namespace Go.Proofs.YtkjhfbgdmmnadaaGreat
open Go.RowKit

theorem bn_nil (w : World) : BN w (.slice none 0 0) [] := ⟨⟨none, 0, rfl, ⟨Nat.le_refl _, by omega⟩, fun h => absurd rfl h⟩, fun _ _ e => by injection e with _ _ e; exact ⟨rfl, e.symm⟩⟩
set_option maxRecDepth 100000 in
set_option maxHeartbeats 2000000 in
theorem alpha30_any (t u : T) (A : Option Addr) (c : Nat) (A' : Option Addr) (c' : Nat) (w : World) (hv : TV w w.heap.size t A c) (hv' : TV w w.heap.size u A' c') (hs : SA t) (hs' : SA u) (hm : Max w) :
    Calls Tryz.prog 11 #[.agg (tv t A c), .agg (tv u A' c')] w fun e w' => e = .returned (.bool (alpB t u)) ∧ Below w.heap.size w w' := by
  have hb0 : Below w.heap.size w ((w.alloc (.cells (tv t A c) 24)).alloc (.cells (tv u A' c') 24)) := ((Below.refl _ _).alloc (Nat.le_refl _) _).alloc (by simp) _
  have HB0 := Lib.hid hb0
  have HV := Lib.hid fun w' (hb : Below w.heap.size w w') => hv.reach hb
  have HV' := Lib.hid fun w' (hb : Below w.heap.size w w') => hv'.reach hb
  have HM := Lib.hid fun w' (hb : Below w.heap.size w w') => hm.reach hb
  have HI := Lib.hid (tv_info t A c)
  have HI' := Lib.hid (tv_info u A' c')
  have HS := Lib.hid hs
  have HS' := Lib.hid hs'
  have hbx : TR ((w.alloc (.cells (tv t A c) 24)).alloc (.cells (tv u A' c') 24)) (w.heap.size + 2) w.heap.size 0 t :=
    ((hv.box).below (B := w.heap.size + 1) ((Below.refl _ _).alloc (by simp) _)).more (by omega)
  have hbx' : TR ((w.alloc (.cells (tv t A c) 24)).alloc (.cells (tv u A' c') 24)) (w.heap.size + 2) (w.heap.size + 1) 0 u := by
    have h1 : TV (w.alloc (.cells (tv t A c) 24)) (w.alloc (.cells (tv t A c) 24)).heap.size u A' c' := hv'.reach ((Below.refl _ _).alloc (Nat.le_refl _) _)
    have h2 := h1.box
    simpa using h2
  have HBX := Lib.hid (And.intro hbx hbx')
  have HF : Hid (((w.alloc (.cells (tv t A c) 24)).alloc (.cells (tv u A' c') 24)).heap[w.heap.size]? = some (.cells (tv t A c) 24)) := (Below.heap_alloc _ _ _ (by simp)).trans (blk_new _ _)
  have HF' : Hid (((w.alloc (.cells (tv t A c) 24)).alloc (.cells (tv u A' c') 24)).heap[w.heap.size + 1]? = some (.cells (tv u A' c') 24)) := by
    have := blk_new (w.alloc (.cells (tv t A c) 24)) (.cells (tv u A' c') 24)
    rwa [World.size_alloc] at this
  have HE : Hid (alpB t u = (validB t && validB u && alp [] [] t u)) := rfl
  have HC1 := Lib.hid fun w' (hb : Below w.heap.size w w') => validT_any t A c w' (HV.out w' hb) HS.out (HM.out w' hb)
  have HC2 := Lib.hid fun w' (hb : Below w.heap.size w w') => validT_any u A' c' w' (HV'.out w' hb) HS'.out (HM.out w' hb)
  have HZ1 : Hid (validB t = true → t.size ≤ 1000) := fun h => ((valid_iff t).1 h).2
  have HL : ((w.alloc (.cells (tv t A c) 24)).alloc (.cells (tv u A' c') 24)).heap.size = w.heap.size + 2 := by simp
  clear hv hv' hs hs' hm hb0 hbx hbx'
  generalize tv t A c = cs at *
  generalize hds : tv u A' c' = ds at *
  go_enter Tryz.func11, Tryz.ntmps11
  go_upto_region 1 with (fail)
  generalize (w.alloc (.cells cs 24)).alloc (.cells ds 24) = w1 at *
  go_wp2_with (with_reducible refine wpList_load_row rfl 24 (.tmp 2) rfl w.heap.size rfl 24 cs (0, 0) _ HF.out Tryz.underlying24 rfl HI.out ?_)
  refine (HC1.out _ HB0.out).mono ?_
  rintro e w2 ⟨rfl, hb2⟩
  have HB2 := Lib.hid (HB0.out.trans (hb2.mono HB0.out.size))
  have HBX2 := Lib.hid (And.intro (HBX.out.1.below (hb2.mono (by omega))) (HBX.out.2.below (hb2.mono (by omega))))
  have HF2 : Hid (w2.heap[w.heap.size + 1]? = some (.cells ds 24)) := (hb2.block _ (by omega)).trans HF'.out
  have hs2 := hb2.size
  clear hb2 HBX HF HF' HC1
  cases h1 : validB t with
  | false =>
    have HZ : Hid (alpB t u = false) := HE.out.trans (by rw [h1]; rfl)
    clear h1 HE HZ1
    go_wp2_with fail
    go_ret
    rw [HZ.out]
    exact ⟨rfl, HB2.out⟩
  | true =>
    have HE2 : Hid (alpB t u = (validB u && alp [] [] t u)) := HE.out.trans (by rw [h1]; rfl)
    have hz := HZ1.out h1
    clear h1 HE HZ1
    have hp := HBX2.out.2.parts
    have k0 := hp.2.1
    have k1 := hp.2.2.1
    have k2 := hp.2.2.2.1
    have k4 := hp.2.2.2.2.1
    clear hp
    have k3 : w2.cell? ⟨w.heap.size + 1, 3, none⟩ = some (.slice A' u.args.length c') := by
      unfold World.cell?
      rw [HF2.out, ← hds]
      rfl
    subst hds
    unfold tv at HC2
    go_wp2_with fail
    refine (HC2.out _ HB2.out).mono ?_
    rintro e w3 ⟨rfl, hb3⟩
    have HB3 := Lib.hid (HB2.out.trans (hb3.mono HB2.out.size))
    have hs3 := hb3.size
    have HCA := Lib.hid (alpha_aux t.size t u (Nat.le_refl _) [] [] (.slice none 0 0) (.slice none 0 0) w.heap.size 0 (w.heap.size + 1) 0 w3 ((HBX2.out.1.below (hb3.mono (by omega))).more (by omega)) ((HBX2.out.2.below (hb3.mono (by omega))).more (by omega)) (bn_nil _) (bn_nil _) (by simp; omega) (by simp; omega))
    clear hb3 HC2 HBX2 HF2
    cases h2 : validB u with
    | false =>
      have HZ : Hid (alpB t u = false) := HE2.out.trans (by rw [h2]; rfl)
      clear h2 HE2
      go_wp2_with fail
      go_ret
      rw [HZ.out]
      exact ⟨rfl, HB3.out⟩
    | true =>
      have HZ : Hid (alpB t u = alp [] [] t u) := HE2.out.trans (by rw [h2]; rfl)
      clear h2 HE2
      go_wp2_with fail
      refine HCA.out.mono ?_
      rintro e w4 ⟨rfl, hb4⟩
      have HB4 := Lib.hid (HB3.out.trans (hb4.mono HB3.out.size))
      clear hb4
      go_wp2_with fail
      go_ret
      rw [HZ.out]
      exact ⟨rfl, HB4.out⟩
end Go.Proofs.YtkjhfbgdmmnadaaGreat
