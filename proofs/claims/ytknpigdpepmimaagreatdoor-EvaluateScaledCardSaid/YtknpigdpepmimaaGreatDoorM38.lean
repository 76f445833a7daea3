/- What the laws' walks share: comparisons, awake 9. -/
import Derived.Test.YtknpigdpepmimaaGreatDoorM37
namespace Go.Proofs.YtknpigdpepmimaaGreatDoor
open Go.RowKit Go.Maps
set_option maxRecDepth 100000 in
set_option maxHeartbeats 2000000 in
theorem eq42' (n : Nat) (x : Dm) (w : World) : (Op.equalIn (n + 1 + 1) 42 (.agg #[.int .i64 x.a, .int .i64 x.b, .int .i64 x.c, .int .i64 x.d, .int .i64 x.e, .int .i64 x.f, .int .i64 x.g]) (.agg #[.int .i64 x.a, .int .i64 x.b, .int .i64 x.c, .int .i64 x.d, .int .i64 x.e, .int .i64 x.f, .int .i64 x.g])).run Tryz.prog w = .ok true w := by
  have u3 := Tryz.underlying3
  have a3 := Tryz.isAgg3
  have z3 := Tryz.sizeOf3
  obtain ⟨a, b, c, d, e, f, g⟩ := x
  rw [Op.equalIn]
  simp only [Sem.run_bind, run_underlying Tryz.underlying42, Result.andThen_ok]
  simp only [Std.Legacy.Range.forIn_eq_forIn_range', Std.Legacy.Range.size, Nat.sub_zero, Nat.add_sub_cancel, Nat.div_one, List.range'_succ, List.range'_zero, List.forIn_cons, List.forIn_nil]
  go_simp
set_option maxRecDepth 100000 in
set_option maxHeartbeats 2000000 in
theorem eq44 (v : V) (w : World) : (Op.equalIn 10000 44 (.agg #[.int .i64 v.num, .int .i64 v.den, .int .i64 v.dim.a, .int .i64 v.dim.b, .int .i64 v.dim.c, .int .i64 v.dim.d, .int .i64 v.dim.e, .int .i64 v.dim.f, .int .i64 v.dim.g]) (.agg #[.int .i64 v.num, .int .i64 v.den, .int .i64 v.dim.a, .int .i64 v.dim.b, .int .i64 v.dim.c, .int .i64 v.dim.d, .int .i64 v.dim.e, .int .i64 v.dim.f, .int .i64 v.dim.g])).run Tryz.prog w = .ok true w := by
  have u3 := Tryz.underlying3
  have a3 := Tryz.isAgg3
  have z3 := Tryz.sizeOf3
  have h := fun n w => eq42' n v.dim w
  obtain ⟨n, d, ⟨a, b, c, d4, e, f, g⟩⟩ := v
  dsimp only at h ⊢
  rw [show (10000 : Nat) = 9999 + 1 from rfl, Op.equalIn]
  simp only [Sem.run_bind, run_underlying Tryz.underlying44, Result.andThen_ok]
  go_simp
set_option maxRecDepth 100000 in
set_option maxHeartbeats 4000000 in
theorem same24_eq (a b : Value) (l : List Int) (w : World) (ha : BI w a l) (hb : BI w b l) : Calls Tryz.prog 24 #[a, b] w fun e w' => e = .returned (.bool true) ∧ Below w.heap.size w w' := by
  obtain ⟨⟨A, ca, rfl, ⟨hca1, hca2⟩, hA⟩, _⟩ := ha
  obtain ⟨⟨B, cb, rfl, ⟨hcb1, hcb2⟩, hB⟩, _⟩ := hb
  have hl : l.length ≤ 9223372036854775807 := by omega
  have HA := Lib.hid hA
  have HB := Lib.hid hB
  clear hA hB
  go_enter Tryz.func24, Tryz.ntmps24
  go_upto_region 4 with (fail)
  go_loopg [5] (l.length + 1) (fun gg s5 wr => ∃ i : Nat, i ≤ l.length ∧ l.length - i < gg ∧ s5 = .int .i64 (i : Int) ∧ Aside (Below w.heap.size w wr))
  case atStart => exact ⟨0, Nat.zero_le _, by omega, rfl, Below.refl _ _⟩
  case round =>
    obtain ⟨i, hi, hgg, rfl, HBr⟩ := hrel
    by_cases hlt : i < l.length
    · have hltz : (i : Int) < (l.length : Int) := by omega
      have hne : l ≠ [] := fun e => by rw [e] at hlt; simp at hlt
      obtain ⟨b1, o1, rfl, hb1, hc1⟩ := HA.out hne
      obtain ⟨b2, o2, rfl, hb2, hc2⟩ := HB.out hne
      have d1 := (HBr.out.cell (p := ⟨b1, o1 + i, none⟩) hb1).trans (hc1 i hlt)
      have d2 := (HBr.out.cell (p := ⟨b2, o2 + i, none⟩) hb2).trans (hc2 i hlt)
      have HA2 := Lib.hid hc1
      have HB2 := Lib.hid hc2
      clear hc1 hc2
      generalize l[i] = x at *
      go_wp2_with fail
      go_region
      all_goals
        go_wp2_with fail
        go_roundg (l.length - i)
        case measure => omega
        case rel => exact ⟨i + 1, by omega, by omega, by go_num, bel_dr HBr.out⟩
    · have hltz : ¬ (i : Int) < (l.length : Int) := by omega
      go_wp2_with fail
      go_ret
      exact ⟨rfl, HBr.out⟩
/-- 2 km -/
def kmT : T := .mk 4 [116, 105, 109, 101, 115] [] [.mk 1 [50] [] [] [], .mk 3 [107, 109] [] [] []] []
theorem km_value : valueR kmT [] [] = okR ⟨2000, 1, ⟨1, 0, 0, 0, 0, 0, 0⟩⟩ := by kernel_rfl
theorem km_SA : SA kmT := by
  unfold kmT
  simp [SA, SAs, Short, T.name, T.var, T.form]
theorem km_mem (w : World) : TRs (w.alloc (.cells #[.int .i64 1, .string ⟨#[50]⟩, .string ⟨#[]⟩, .slice none 0 0, .string ⟨#[]⟩, .int .i64 3, .string ⟨#[107, 109]⟩, .string ⟨#[]⟩, .slice none 0 0, .string ⟨#[]⟩] 24)) (w.heap.size + 1) w.heap.size 0 [.mk 1 [50] [] [] [], .mk 3 [107, 109] [] [] []] := by
  simp [TRs, TR]
  exact ⟨none, 0, ⟨rfl, rfl⟩, by omega⟩
set_option maxRecDepth 100000 in
set_option maxHeartbeats 4000000 in
theorem awake9_any (w : World) (hm : Max w) : Calls Tryz.prog 9 #[] w fun e w' => e = .returned (.bool true) ∧ Below w.heap.size w w' := by
  have hb1 := b1 w (.cells #[.int .i64 1, .string ⟨#[50]⟩, .string ⟨#[]⟩, .slice none 0 0, .string ⟨#[]⟩, .int .i64 3, .string ⟨#[107, 109]⟩, .string ⟨#[]⟩, .slice none 0 0, .string ⟨#[]⟩] 24)
  have hv : TV (w.alloc (.cells #[.int .i64 1, .string ⟨#[50]⟩, .string ⟨#[]⟩, .slice none 0 0, .string ⟨#[]⟩, .int .i64 3, .string ⟨#[107, 109]⟩, .string ⟨#[]⟩, .slice none 0 0, .string ⟨#[]⟩] 24)) (w.alloc (.cells #[.int .i64 1, .string ⟨#[50]⟩, .string ⟨#[]⟩, .slice none 0 0, .string ⟨#[]⟩, .int .i64 3, .string ⟨#[107, 109]⟩, .string ⟨#[]⟩, .slice none 0 0, .string ⟨#[]⟩] 24)).heap.size kmT (some ⟨w.heap.size, 0, none⟩) 2 :=
    ⟨⟨by decide, by decide⟩, fun _ => ⟨w.heap.size, 0, rfl, by rw [World.size_alloc]; exact km_mem w⟩⟩
  have HC := Lib.hid (value_any kmT (some ⟨w.heap.size, 0, none⟩) 2 (.slice none 0 0) (.slice none 0 0) [] [] _ hv km_SA (hm.below hb1) ⟨none, 0, rfl, ⟨Nat.le_refl _, by decide⟩, fun h => absurd rfl h⟩ ⟨none, 0, rfl, ⟨Nat.le_refl _, by decide⟩, fun h => absurd rfl h⟩ (fun x hx => by cases hx) (fun x hx => by cases hx))
  rw [km_value] at HC
  have HB := Lib.hid hb1
  clear hb1 hv hm
  unfold okR V.cells at HC
  unfold tv at HC
  dsimp only [kmT, T.kind, T.name, T.var, T.args, T.form, List.length_cons, List.length_nil] at HC
  go_enter Tryz.func9, Tryz.ntmps9
  go_wp2_with fail
  refine HC.out.mono ?_
  rintro e w2 ⟨q, rfl, hq, hb2⟩
  have HB2 := Lib.hid (bl_tr HB.out hb2)
  clear hb2 hq
  go_wp2_with fail
  go_ret
  exact ⟨rfl, bl_al HB2.out _⟩
/-- few: at most 100 subterms, at most 20 short names, at most 20 values -/
def fewE (t : T) (ns : List W8) (vs : List V) : Bool := ns.all (fun x => decide (x.length ≤ 100)) && (decide (0 ≤ lft t 100) && (decide (ns.length ≤ 20) && decide (vs.length ≤ 20)))
theorem fewE_SA {t : T} {ns : List W8} {vs : List V} (h : fewE t ns vs = true) : SA t ∧ (∀ x ∈ ns, x.length ≤ 100) ∧ ns.length ≤ 20 ∧ vs.length ≤ 20 := by
  unfold fewE at h
  simp only [Bool.and_eq_true, List.all_eq_true, decide_eq_true_eq] at h
  exact ⟨lft_SA t 100 h.2.1, h.1, h.2.2⟩
/-- a boxed room -/
structure Rmx (w : World) (b : Nat) (na vv : Value) : Prop where
  c0 : w.cell? ⟨b, 0, none⟩ = some na
  c1 : w.cell? ⟨b, 1, none⟩ = some vv
theorem Rmx.below {w w' : World} {B b : Nat} {na vv : Value} (h : Rmx w b na vv) (hb : Below B w w') (hlt : b < B) : Rmx w' b na vv :=
  ⟨(hb.cell (p := ⟨b, 0, none⟩) hlt).trans h.c0, (hb.cell (p := ⟨b, 1, none⟩) hlt).trans h.c1⟩
theorem rmx_new (w : World) (na vv : Value) : Rmx (w.alloc (.cells #[na, vv] 28)) w.heap.size na vv := ⟨by simp, by simp⟩
set_option maxRecDepth 100000 in
set_option maxHeartbeats 4000000 in
theorem few10_any (t : T) (A : Option Addr) (c : Nat) (An Av : Option Addr) (cn cv : Nat) (ns : List W8) (vs : List V) (w : World) (hv : TV w w.heap.size t A c) (hn : SL w w.heap.size (.slice An ns.length cn) ns) (hvl : vs.length ≤ 9223372036854775807) :
    Calls Tryz.prog 10 #[.agg (tv t A c), .agg #[.slice An ns.length cn, .slice Av vs.length cv]] w fun e w' => e = .returned (.bool (fewE t ns vs)) ∧ Below w.heap.size w w' := by
  have hb2 := b2 w (.cells (tv t A c) 24) (.cells #[.slice An ns.length cn, .slice Av vs.length cv] 28)
  have HB := Lib.hid hb2
  have HL := Lib.hid fun (wz : World) (hb : Below w.heap.size w wz) => left_aux t.size t (Nat.le_refl _) A c 100 wz (hv.reach hb) (by decide) (by decide)
  have hbx : Bxd ((w.alloc (.cells (tv t A c) 24)).alloc (.cells #[.slice An ns.length cn, .slice Av vs.length cv] 28)) w.heap.size t A c := (bxd_new w t A c).below (b1 (w.alloc (.cells (tv t A c) 24)) (.cells #[.slice An ns.length cn, .slice Av vs.length cv] 28)) (by rw [World.size_alloc]; omega)
  have HBX := Lib.hid hbx
  have hrm := rmx_new (w.alloc (.cells (tv t A c) 24)) (.slice An ns.length cn) (.slice Av vs.length cv)
  rw [World.size_alloc] at hrm
  have HRM := Lib.hid hrm
  obtain ⟨An', cn', e0, ⟨hcn1, hcn2⟩, hAn⟩ := hn
  injection e0 with e1 _ e3
  subst e1 e3
  have HN := Lib.hid hAn
  have hsz : ((w.alloc (.cells (tv t A c) 24)).alloc (.cells #[.slice An ns.length cn, .slice Av vs.length cv] 28)).heap.size = w.heap.size + 2 := by simp
  have HSZ := Lib.hid hsz
  have hnl : ns.length ≤ 9223372036854775807 := by omega
  clear hv hb2 hbx hrm hAn hsz
  unfold tv at HL
  generalize tv t A c = cs at *
  go_enter Tryz.func10, Tryz.ntmps10
  go_upto_region 2 with (fail)
  generalize (w.alloc (.cells cs 24)).alloc (.cells #[.slice An ns.length cn, .slice Av vs.length cv] 28) = w1 at *
  obtain ⟨r0, r1⟩ := HRM.out
  obtain ⟨k0, k1, k2, k3, k4⟩ := HBX.out
  have HL1 := Lib.hid (HL.out w1 HB.out)
  generalize hlf : lft t 100 = m at *
  have HLF := Lib.hid hlf
  clear hlf HL HBX HRM
  go_loopg [5] (ns.length + 1) (fun gg s5 wr => ∃ i : Nat, i ≤ ns.length ∧ ns.length - i < gg ∧ s5 = .int .i64 (i : Int) ∧ Aside (∀ x ∈ ns.take i, x.length ≤ 100) ∧ wr = w1)
  case atStart => exact ⟨0, Nat.zero_le _, by omega, rfl, (fun x hx => by cases hx), rfl⟩
  case round =>
    obtain ⟨i, hi, hgg, rfl, HT, rfl⟩ := hrel
    by_cases hlt : i < ns.length
    · have hltz : (i : Int) < (ns.length : Int) := by omega
      have hne : ns ≠ [] := fun e => by rw [e] at hlt; simp at hlt
      obtain ⟨b1', o1', rfl, hb1', hc1⟩ := HN.out hne
      have d1 := (HB.out.cell (p := ⟨b1', o1' + i, none⟩) hb1').trans (hc1 i hlt)
      have HTK : Hid (ns.take (i + 1) = ns.take i ++ [ns[i]]) := List.take_succ_eq_append_getElem hlt
      have HMEM : Hid (ns[i] ∈ ns) := List.getElem_mem hlt
      clear hc1
      generalize ns[i] = x at *
      have s0 : (⟨x.toArray⟩ : ByteArray).size = x.length := size_mk _
      by_cases hx : 100 < x.length
      · have hxz : (100 : Int) < (x.length : Int) := by omega
        have HF : Hid (fewE t ns vs = false) := by
          show _ = _
          unfold fewE
          have : ns.all (fun x => decide (x.length ≤ 100)) = false := by
            rw [List.all_eq_false]
            exact ⟨x, HMEM.out, by simp; omega⟩
          rw [this, Bool.false_and]
        go_wp2_with fail
        go_ret
        rw [HF.out]
        exact ⟨rfl, HB.out⟩
      · have hxz : ¬ (100 : Int) < (x.length : Int) := by omega
        have HT2 : Hid (∀ y ∈ ns.take (i + 1), y.length ≤ 100) := fun y hy => by
          rw [HTK.out] at hy
          rcases List.mem_append.1 hy with hy | hy
          · exact HT.out y hy
          · rw [List.mem_singleton] at hy; subst hy; omega
        go_wp2_with fail
        go_roundg (ns.length - i)
        case measure => omega
        case rel => exact ⟨i + 1, by omega, by omega, by go_num, HT2.out, rfl⟩
    · have hltz : ¬ (i : Int) < (ns.length : Int) := by omega
      have HALL : Hid (ns.all (fun x => decide (x.length ≤ 100)) = true) := by
        have h := HT.out
        rw [List.take_of_length_le (by omega)] at h
        show _ = _
        rw [List.all_eq_true]
        intro x hx
        simpa using h x hx
      go_wp2_with fail
      refine HL1.out.mono ?_
      rintro e w2 ⟨rfl, hb2⟩
      have HB2 := Lib.hid (bl_tr HB.out hb2)
      have hls : w.heap.size + 1 < wr.heap.size := by have := HSZ.out; omega
      have r0' := (hb2.cell (p := ⟨w.heap.size + 1, 0, none⟩) hls).trans r0
      have r1' := (hb2.cell (p := ⟨w.heap.size + 1, 1, none⟩) hls).trans r1
      have HF : Hid (fewE t ns vs = (decide (0 ≤ m) && (decide (ns.length ≤ 20) && decide (vs.length ≤ 20)))) := by
        show _ = _
        unfold fewE
        rw [HALL.out, HLF.out, Bool.true_and]
      clear hb2 r0 r1 k0 k1 k2 k3 k4
      by_cases h1 : 0 ≤ m
      · by_cases h2 : ns.length ≤ 20
        · have h2z : (ns.length : Int) ≤ 20 := by omega
          by_cases h3 : vs.length ≤ 20
          · have h3z : (vs.length : Int) ≤ 20 := by omega
            have HFF : Hid (fewE t ns vs = true) := HF.out.trans (by rw [decide_eq_true h1, decide_eq_true h2, decide_eq_true h3]; rfl)
            go_wp2_with fail
            go_ret
            rw [HFF.out]
            exact ⟨rfl, HB2.out⟩
          · have h3z : ¬ (vs.length : Int) ≤ 20 := by omega
            have HFF : Hid (fewE t ns vs = false) := HF.out.trans (by rw [decide_eq_false h3, Bool.and_false, Bool.and_false])
            go_wp2_with fail
            go_ret
            rw [HFF.out]
            exact ⟨by simp; omega, HB2.out⟩
        · have h2z : ¬ (ns.length : Int) ≤ 20 := by omega
          have HFF : Hid (fewE t ns vs = false) := HF.out.trans (by rw [decide_eq_false h2, Bool.false_and, Bool.and_false])
          go_wp2_with fail
          go_ret
          rw [HFF.out]
          exact ⟨rfl, HB2.out⟩
      · have HFF : Hid (fewE t ns vs = false) := HF.out.trans (by rw [decide_eq_false h1, Bool.false_and])
        go_wp2_with fail
        go_ret
        rw [HFF.out]
        exact ⟨rfl, HB2.out⟩
set_option maxRecDepth 100000 in
set_option maxHeartbeats 4000000 in
/-- agree: where both values are the same -/
theorem agree13_any (t : T) (A : Option Addr) (c : Nat) (u : T) (A' : Option Addr) (c' : Nat) (na vv na' vv' : Value) (ns ns' : List W8) (vs vs' : List V) (w : World) (hv : TV w w.heap.size t A c) (hv' : TV w w.heap.size u A' c') (hs : SA t) (hs' : SA u) (hm : Max w)
    (ha : SL w w.heap.size na ns) (hb : SV w vv vs) (ha' : SL w w.heap.size na' ns') (hb' : SV w vv' vs') (hsn : ∀ x ∈ ns, x.length ≤ 1000) (hsn' : ∀ x ∈ ns', x.length ≤ 1000) (hfit : ∀ x ∈ vs, x.fit) (hfit' : ∀ x ∈ vs', x.fit) (he : valueR u ns' vs' = valueR t ns vs) :
    Calls Tryz.prog 13 #[.agg (tv t A c), .agg #[na, vv], .agg (tv u A' c'), .agg #[na', vv']] w fun e w' => e = .returned (.bool true) ∧ Below w.heap.size w w' := by
  have hb3 := b3 w (.cells (tv t A c) 24) (.cells #[na, vv] 28) (.cells (tv u A' c') 24)
  have hb4 : Below w.heap.size w ((((w.alloc (.cells (tv t A c) 24)).alloc (.cells #[na, vv] 28)).alloc (.cells (tv u A' c') 24)).alloc (.cells #[na', vv'] 28)) := hb3.alloc (by simp; omega) _
  have HB := Lib.hid hb4
  have HV1 := Lib.hid fun (wz : World) (h : Below w.heap.size w wz) => value_any t A c na vv ns vs wz (hv.reach h) hs (hm.reach h) ((ha.below h).more h.size) (hb.reach h) hsn hfit
  have HV2 := Lib.hid fun (wz : World) (h : Below w.heap.size w wz) => value_any u A' c' na' vv' ns' vs' wz (hv'.reach h) hs' (hm.reach h) ((ha'.below h).more h.size) (hb'.reach h) hsn' hfit'
  have HX1 : Hid (Bxd ((((w.alloc (.cells (tv t A c) 24)).alloc (.cells #[na, vv] 28)).alloc (.cells (tv u A' c') 24)).alloc (.cells #[na', vv'] 28)) w.heap.size t A c) := (bxd_new w t A c).below (b3 (w.alloc (.cells (tv t A c) 24)) (.cells #[na, vv] 28) (.cells (tv u A' c') 24) (.cells #[na', vv'] 28)) (by simp)
  have HX2 : Hid (Rmx ((((w.alloc (.cells (tv t A c) 24)).alloc (.cells #[na, vv] 28)).alloc (.cells (tv u A' c') 24)).alloc (.cells #[na', vv'] 28)) (w.heap.size + 1) na vv) := by
    have h := (rmx_new (w.alloc (.cells (tv t A c) 24)) na vv).below (b2 ((w.alloc (.cells (tv t A c) 24)).alloc (.cells #[na, vv] 28)) (.cells (tv u A' c') 24) (.cells #[na', vv'] 28)) (by simp)
    rw [World.size_alloc] at h
    exact h
  have HX3 : Hid (Bxd ((((w.alloc (.cells (tv t A c) 24)).alloc (.cells #[na, vv] 28)).alloc (.cells (tv u A' c') 24)).alloc (.cells #[na', vv'] 28)) (w.heap.size + 1 + 1) u A' c') := by
    have h := (bxd_new ((w.alloc (.cells (tv t A c) 24)).alloc (.cells #[na, vv] 28)) u A' c').below (b1 _ (.cells #[na', vv'] 28)) (by simp)
    rw [World.size_alloc, World.size_alloc] at h
    exact h
  have HX4 : Hid (Rmx ((((w.alloc (.cells (tv t A c) 24)).alloc (.cells #[na, vv] 28)).alloc (.cells (tv u A' c') 24)).alloc (.cells #[na', vv'] 28)) (w.heap.size + 1 + 1 + 1) na' vv') := by
    have h := rmx_new (((w.alloc (.cells (tv t A c) 24)).alloc (.cells #[na, vv] 28)).alloc (.cells (tv u A' c') 24)) na' vv'
    rw [World.size_alloc, World.size_alloc, World.size_alloc] at h
    exact h
  have HSZ : Hid (((((w.alloc (.cells (tv t A c) 24)).alloc (.cells #[na, vv] 28)).alloc (.cells (tv u A' c') 24)).alloc (.cells #[na', vv'] 28)).heap.size = w.heap.size + 4) := by show _ = _; simp
  rw [he] at HV2
  clear hv hv' hs hs' hm ha hb ha' hb' hsn hsn' hfit hfit' he hb3 hb4
  unfold tv at HV1 HV2
  generalize valueR t ns vs = r at *
  unfold V.cells at HV1 HV2
  generalize tv t A c = cs at *
  generalize tv u A' c' = cs' at *
  go_enter Tryz.func13, Tryz.ntmps13
  go_upto_region 1 with (fail)
  generalize ((((w.alloc (.cells cs 24)).alloc (.cells #[na, vv] 28)).alloc (.cells cs' 24)).alloc (.cells #[na', vv'] 28)) = w1 at *
  obtain ⟨k0, k1, k2, k3, k4⟩ := HX1.out
  obtain ⟨r0, r1⟩ := HX2.out
  have HC1 := Lib.hid (HV1.out w1 HB.out)
  go_wp2_with fail
  refine HC1.out.mono ?_
  rintro e w2 ⟨q, rfl, hq, hb2⟩
  have hb3 := bl_tr hb2 (b1 w2 (.cells #[.int .i64 r.v.num, .int .i64 r.v.den, .int .i64 r.v.dim.a, .int .i64 r.v.dim.b, .int .i64 r.v.dim.c, .int .i64 r.v.dim.d, .int .i64 r.v.dim.e, .int .i64 r.v.dim.f, .int .i64 r.v.dim.g] 44))
  have HB3 := Lib.hid (bl_tr HB.out hb3)
  have hls : w.heap.size + 4 ≤ w1.heap.size := by have := HSZ.out; omega
  have HX3b := Lib.hid (HX3.out.below hb3 (by omega))
  have HX4b := Lib.hid (HX4.out.below hb3 (by omega))
  have HQ3 := Lib.hid (hq.1.reach (b1 w2 (.cells #[.int .i64 r.v.num, .int .i64 r.v.den, .int .i64 r.v.dim.a, .int .i64 r.v.dim.b, .int .i64 r.v.dim.c, .int .i64 r.v.dim.d, .int .i64 r.v.dim.e, .int .i64 r.v.dim.f, .int .i64 r.v.dim.g] 44)))
  have HK3 : Hid (K9 (w2.alloc (.cells #[.int .i64 r.v.num, .int .i64 r.v.den, .int .i64 r.v.dim.a, .int .i64 r.v.dim.b, .int .i64 r.v.dim.c, .int .i64 r.v.dim.d, .int .i64 r.v.dim.e, .int .i64 r.v.dim.f, .int .i64 r.v.dim.g] 44)) w2.heap.size r.v) := K9.new w2 r.v
  clear hq hb2 hb3 hls k0 k1 k2 k3 k4 r0 r1 HX1 HX2
  go_upto_region 2 with (fail)
  generalize w2.heap.size = m9 at *
  generalize w2.alloc (.cells #[.int .i64 r.v.num, .int .i64 r.v.den, .int .i64 r.v.dim.a, .int .i64 r.v.dim.b, .int .i64 r.v.dim.c, .int .i64 r.v.dim.d, .int .i64 r.v.dim.e, .int .i64 r.v.dim.f, .int .i64 r.v.dim.g] 44) = w3 at *
  obtain ⟨k0, k1, k2, k3, k4⟩ := HX3b.out
  obtain ⟨r0, r1⟩ := HX4b.out
  have HC2 := Lib.hid (HV2.out w3 HB3.out)
  go_wp2_with fail
  refine HC2.out.mono ?_
  rintro e w4 ⟨q', rfl, hq', hb4⟩
  have hb5 := bl_tr hb4 (b1 w4 (.cells #[.int .i64 r.v.num, .int .i64 r.v.den, .int .i64 r.v.dim.a, .int .i64 r.v.dim.b, .int .i64 r.v.dim.c, .int .i64 r.v.dim.d, .int .i64 r.v.dim.e, .int .i64 r.v.dim.f, .int .i64 r.v.dim.g] 44))
  have HB5 := Lib.hid (bl_tr HB3.out hb5)
  have HQ5 := Lib.hid (HQ3.out.reach hb5)
  have HQ5' := Lib.hid (hq'.1.reach (b1 w4 (.cells #[.int .i64 r.v.num, .int .i64 r.v.den, .int .i64 r.v.dim.a, .int .i64 r.v.dim.b, .int .i64 r.v.dim.c, .int .i64 r.v.dim.d, .int .i64 r.v.dim.e, .int .i64 r.v.dim.f, .int .i64 r.v.dim.g] 44)))
  have HK5 := Lib.hid (HK3.out.reach hb5)
  have HK5' : Hid (K9 (w4.alloc (.cells #[.int .i64 r.v.num, .int .i64 r.v.den, .int .i64 r.v.dim.a, .int .i64 r.v.dim.b, .int .i64 r.v.dim.c, .int .i64 r.v.dim.d, .int .i64 r.v.dim.e, .int .i64 r.v.dim.f, .int .i64 r.v.dim.g] 44)) w4.heap.size r.v) := K9.new w4 r.v
  clear hq' hb4 hb5 k0 k1 k2 k3 k4 r0 r1 HX3b HX4b HX3 HX4
  go_upto_region 3 with (fail)
  generalize w4.heap.size = m12 at *
  generalize w4.alloc (.cells #[.int .i64 r.v.num, .int .i64 r.v.den, .int .i64 r.v.dim.a, .int .i64 r.v.dim.b, .int .i64 r.v.dim.c, .int .i64 r.v.dim.d, .int .i64 r.v.dim.e, .int .i64 r.v.dim.f, .int .i64 r.v.dim.g] 44) = w5 at *
  obtain ⟨⟨⟨p0, p1⟩, p2, p3, p4, p5, p6, p7, p8⟩, _, _⟩ := HK5.out.cells
  obtain ⟨⟨⟨y0, y1⟩, y2, y3, y4, y5, y6, y7, y8⟩, _, _⟩ := HK5'.out.cells
  have hE := fun w' => eq44 r.v w'
  have HSM := Lib.hid (same24_eq q q' r.path w5 HQ5.out HQ5'.out)
  go_wp2_with fail
  refine HSM.out.mono ?_
  rintro e w6 ⟨rfl, hb6⟩
  have HB6 := Lib.hid (bl_tr HB5.out hb6)
  clear hb6
  go_wp2_with fail
  go_ret
  exact ⟨rfl, HB6.out⟩
end Go.Proofs.YtknpigdpepmimaaGreatDoor
