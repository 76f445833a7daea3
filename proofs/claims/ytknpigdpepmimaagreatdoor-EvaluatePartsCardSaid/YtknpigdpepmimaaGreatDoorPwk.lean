/- The walk of EvaluateParts. -/
import Derived.Test.YtknpigdpepmimaaGreatDoorM39
import Derived.Test.YtknpigdpepmimaaGreatDoorM47
import Derived.Test.YtknpigdpepmimaaGreatDoorPrr
import Derived.Deep.CutBlock
import Derived.Deep.DeepCutAuto
namespace Go.Proofs.YtknpigdpepmimaaGreatDoor
open Go.RowKit Go.Maps

/-- three boxed cells -/
structure Tmx (w : World) (b : Nat) (x y z : Value) : Prop where
  c0 : w.cell? ⟨b, 0, none⟩ = some x
  c1 : w.cell? ⟨b, 1, none⟩ = some y
  c2 : w.cell? ⟨b, 2, none⟩ = some z
theorem Tmx.below {w w' : World} {B b : Nat} {x y z : Value} (h : Tmx w b x y z) (hb : Below B w w') (hlt : b < B) : Tmx w' b x y z := ⟨(hb.cell (p := ⟨b, 0, none⟩) hlt).trans h.c0, (hb.cell (p := ⟨b, 1, none⟩) hlt).trans h.c1, (hb.cell (p := ⟨b, 2, none⟩) hlt).trans h.c2⟩
theorem tmx_new (w : World) (x y z : Value) (ty : TypeId) : Tmx (w.alloc (.cells #[x, y, z] ty)) w.heap.size x y z := ⟨by simp, by simp, by simp⟩
theorem varT_SA (x : W8) (h : x.length ≤ 1000) : SA (varT x) := by unfold varT; rw [SA, SAs]; exact ⟨⟨h, by show ([] : W8).length ≤ 1000; simp, by show ([] : W8).length ≤ 1000; simp⟩, trivial⟩
theorem partT_SA {n : W8} {m : T} (hn : n.length ≤ 1000) (h : SA m) : SA (partT n m) := by
  unfold partT
  rw [SA]
  refine ⟨⟨hn, by show ([105] : W8).length ≤ 1000; simp, by show ([] : W8).length ≤ 1000; simp⟩, ?_⟩
  rw [SAs, SAs, SAs, SAs]
  exact ⟨varT_SA _ (by unfold fromW; simp), varT_SA _ (by unfold tillW; simp), h, trivial⟩
theorem bothT_SA (n : W8) : SA (bothT n) := by
  unfold bothT
  rw [SA]
  refine ⟨⟨by show (ite _ _ _ : W8).length ≤ 1000; split <;> simp, by show ([] : W8).length ≤ 1000; simp, by show ([] : W8).length ≤ 1000; simp⟩, ?_⟩
  rw [SAs, SAs, SAs]
  exact ⟨varT_SA _ (by simp), varT_SA _ (by simp), trivial⟩
def nmK (i : Nat) : W8 := if i = 1 then prodW else sumW
def opK2 (i : Nat) : W8 := if i = 1 then [116, 105, 109, 101, 115] else [112, 108, 117, 115]
theorem nmK_or (i : Nat) : nmK i = sumW ∨ nmK i = prodW := by unfold nmK; split; exact .inr rfl; exact .inl rfl
theorem nmK_len (i : Nat) : (nmK i).length ≤ 1000 := by unfold nmK; split <;> simp [prodW, sumW]
theorem both_op (i : Nat) : (if nmK i = sumW then ([112, 108, 117, 115] : W8) else [116, 105, 109, 101, 115]) = opK2 i := by
  unfold nmK opK2
  by_cases h : i = 1
  · rw [if_pos h, if_pos h, if_neg (by decide)]
  · rw [if_neg h, if_neg h, if_pos rfl]
theorem ok_fit {v : V} (h : v.ok) : v.fit := by
  have h1 := h.bnd
  unfold V.fit
  omega
theorem free_no {t : T} {x : W8} (hv : validB t = true) (h : hasB (freeL t) x = false) : hasB (frL t) x = false := by
  unfold freeL at h
  rwa [if_pos hv] at h

set_option maxRecDepth 100000 in
set_option maxHeartbeats 4000000 in
theorem partsE_walk (t : T) (A : Option Addr) (c : Nat) (An Av : Option Addr) (cn cv : Nat) (ns : List W8) (vs : List V) (qa qk qb : Int) (w : World) (hv : TV w w.heap.size t A c) (hn : SL w w.heap.size (.slice An ns.length cn) ns) (hvv : SV w (.slice Av vs.length cv) vs) (hb : (-128 ≤ qa ∧ qa ≤ 127) ∧ (-128 ≤ qk ∧ qk ≤ 127) ∧ (-128 ≤ qb ∧ qb ≤ 127)) (hfit : ∀ x ∈ vs, x.fit) (hm : Max w)
    (hnil : (∀ l c', Value.slice An l cn = .slice none 0 c' → c' = 0) ∧ (∀ l c', Value.slice Av l cv = .slice none 0 c' → c' = 0)) :
    Calls Tryz.prog 5 #[.agg (tv t A c), .agg #[.slice An ns.length cn, .slice Av vs.length cv], .agg #[.int .i8 qa, .int .i8 qk, .int .i8 qb]] w fun e w' => e = .returned (.bool true) ∧ Below w.heap.size w w' := by
  have hb3 := b3 w (.cells (tv t A c) 24) (.cells #[.slice An ns.length cn, .slice Av vs.length cv] 28) (.cells #[.int .i8 qa, .int .i8 qk, .int .i8 qb] 47)
  have HB := Lib.hid hb3
  have HM := Lib.hid fun (wz : World) (h : Below w.heap.size w wz) => hm.reach h
  have HV := Lib.hid fun (wz : World) (h : Below w.heap.size w wz) => hv.reach h
  have HN := Lib.hid fun (wz : World) (h : Below w.heap.size w wz) => (hn.below h).more h.size
  have HVV := Lib.hid fun (wz : World) (h : Below w.heap.size w wz) => hvv.reach h
  have HX1 : Hid (Bxd (((w.alloc (.cells (tv t A c) 24)).alloc (.cells #[.slice An ns.length cn, .slice Av vs.length cv] 28)).alloc (.cells #[.int .i8 qa, .int .i8 qk, .int .i8 qb] 47)) w.heap.size t A c) := (bxd_new w t A c).below ((b1 _ _).trans ((b1 _ _).mono (by simp))) (by simp)
  have HX2 : Hid (Rmx (((w.alloc (.cells (tv t A c) 24)).alloc (.cells #[.slice An ns.length cn, .slice Av vs.length cv] 28)).alloc (.cells #[.int .i8 qa, .int .i8 qk, .int .i8 qb] 47)) (w.heap.size + 1) (.slice An ns.length cn) (.slice Av vs.length cv)) := by
    have h := (rmx_new (w.alloc (.cells (tv t A c) 24)) (.slice An ns.length cn) (.slice Av vs.length cv)).below (b1 _ (.cells #[.int .i8 qa, .int .i8 qk, .int .i8 qb] 47)) (by simp)
    rw [World.size_alloc] at h
    exact h
  have HX3 : Hid (Tmx (((w.alloc (.cells (tv t A c) 24)).alloc (.cells #[.slice An ns.length cn, .slice Av vs.length cv] 28)).alloc (.cells #[.int .i8 qa, .int .i8 qk, .int .i8 qb] 47)) (w.heap.size + 1 + 1) (.int .i8 qa) (.int .i8 qk) (.int .i8 qb)) := by
    have h := tmx_new ((w.alloc (.cells (tv t A c) 24)).alloc (.cells #[.slice An ns.length cn, .slice Av vs.length cv] 28)) (.int .i8 qa) (.int .i8 qk) (.int .i8 qb) 47
    rw [World.size_alloc, World.size_alloc] at h
    exact h
  have HSZ : Hid ((((w.alloc (.cells (tv t A c) 24)).alloc (.cells #[.slice An ns.length cn, .slice Av vs.length cv] 28)).alloc (.cells #[.int .i8 qa, .int .i8 qk, .int .i8 qb] 47)).heap.size = w.heap.size + 3) := by show _ = _; simp
  have HFW := Lib.hid fun (wz : World) (h : Below w.heap.size w wz) => few10_any t A c An Av cn cv ns vs wz (hv.reach h) ((hn.below h).more h.size) (by obtain ⟨_, _, e, h2, _⟩ := hvv; omega)
  have HFIT := Lib.hid hfit
  have hnl : ns.length ≤ 9223372036854775807 := by
    obtain ⟨A', c', e, h2, h3⟩ := hn
    omega
  have HNIL := Lib.hid hnil
  clear hv hn hvv hm hb3 hfit hnil
  unfold tv at HFW
  have HTV : Hid (tv t A c = #[.int .i64 t.kind, .string ⟨t.name.toArray⟩, .string ⟨t.var.toArray⟩, .slice A t.args.length c, .string ⟨t.form.toArray⟩]) := rfl
  go_enter Tryz.func5, Tryz.ntmps5
  go_upto_region 1 with (fail)
  generalize ((w.alloc (.cells (tv t A c) 24)).alloc (.cells #[.slice An ns.length cn, .slice Av vs.length cv] 28)).alloc (.cells #[.int .i8 qa, .int .i8 qk, .int .i8 qb] 47) = w1 at *
  go_wp2_with fail
  refine (awake9_any _ (HM.out _ HB.out)).mono ?_
  rintro e w2 ⟨rfl, hb2⟩
  have hls : w.heap.size + 3 ≤ w1.heap.size := by have := HSZ.out; omega
  have HB2 := Lib.hid (bl_tr HB.out hb2)
  have HX := Lib.hid fun (wz : World) (h : Below w2.heap.size w2 wz) => And.intro (HX1.out.below (bl_tr hb2 h) (by omega)) (And.intro (HX2.out.below (bl_tr hb2 h) (by omega)) (HX3.out.below (bl_tr hb2 h) (by omega)))
  clear HX1 HX2 HX3 hls hb2
  obtain ⟨⟨k0, k1, k2, k3, k4⟩, ⟨r0, r1⟩, ⟨s0, s1, s2⟩⟩ := HX.out w2 (Below.refl _ _)
  obtain ⟨⟨hqa1, hqa2⟩, ⟨hqk1, hqk2⟩, ⟨hqb1, hqb2⟩⟩ := hb
  go_upto_region 3 with (fail)
  go_cut [7, 8, 9] (fun s7 s8 s9 wx => s7 = .int .i64 qa ∧ s8 = .int .i64 qk ∧ s9 = .int .i64 qb ∧ Aside (Below w2.heap.size w2 wx))
  case first =>
    go_quiet (fail)
    go_wp2_with fail
    go_meet
    case rel => exact ⟨by first | rfl | go_num, by first | rfl | go_num, by first | rfl | go_num, Q.below_drewN w2 nq⟩
  case rest =>
    obtain ⟨rfl, rfl, rfl, HB23⟩ := hcut
    rename World => w3
    have HB3 := Lib.hid (bl_tr HB2.out HB23.out)
    clear k0 k1 k2 k3 k4 r0 r1 s0 s1 s2
    obtain ⟨⟨k0, k1, k2, k3, k4⟩, ⟨r0, r1⟩, _⟩ := HX.out w3 HB23.out
    have HC1 := Lib.hid (HFW.out w3 HB3.out)
    go_wp2_with fail
    refine HC1.out.mono ?_
    rintro e w4 ⟨rfl, hb4⟩
    have HB24 := Lib.hid (bl_tr HB23.out hb4)
    have HB4 := Lib.hid (bl_tr HB2.out HB24.out)
    clear hb4 HC1 HFW k0 k1 k2 k3 k4 r0 r1
    obtain ⟨⟨k0, k1, k2, k3, k4⟩, ⟨r0, r1⟩, _⟩ := HX.out w4 HB24.out
    cases hfe : fewE t ns vs with
    | false =>
      clear hfe
      go_wp2_with fail
      go_ret
      exact ⟨rfl, HB4.out⟩
    | true =>
      have HST := Lib.hid (fewE_SA hfe)
      clear hfe
      by_cases h1 : qk < qa
      · go_wp2_with fail
        go_ret
        exact ⟨rfl, HB4.out⟩
      · by_cases h2 : qb ≤ qk
        · go_wp2_with fail
          go_ret
          exact ⟨rfl, HB4.out⟩
        · have HC2 := Lib.hid (free21_any t A c w4 (HV.out _ HB4.out) HST.out.1)
          rw [HTV.out] at HC2
          go_wp2_with fail
          refine HC2.out.mono ?_
          rintro e w5 ⟨v5, rfl, hs5, hb5⟩
          have HH5 := Lib.hid (has35_any w5.heap.size v5 (freeL t) fromW w5 hs5)
          have HB25 := Lib.hid (bl_tr HB24.out hb5)
          have HB5 := Lib.hid (bl_tr HB2.out HB25.out)
          clear hs5 hb5 HC2 k0 k1 k2 k3 k4 r0 r1
          obtain ⟨⟨k0, k1, k2, k3, k4⟩, ⟨r0, r1⟩, _⟩ := HX.out w5 HB25.out
          unfold fromW at HH5
          go_wp2_with fail
          refine HH5.out.mono ?_
          rintro e w5' ⟨rfl, rfl⟩
          cases hf1 : hasB (freeL t) fromW with
          | true =>
            rw [show hasB (freeL t) [102, 114, 111, 109] = true from hf1]
            clear hf1
            go_wp2_with fail
            go_ret
            exact ⟨rfl, HB5.out⟩
          | false =>
            rw [show hasB (freeL t) [102, 114, 111, 109] = false from hf1]
            have HF1 := Lib.hid hf1
            clear hf1
            have HC3 := Lib.hid (free21_any t A c w5 (HV.out _ HB5.out) HST.out.1)
            rw [HTV.out] at HC3
            go_wp2_with fail
            refine HC3.out.mono ?_
            rintro e w6 ⟨v6, rfl, hs6, hb6⟩
            have HH6 := Lib.hid (has35_any w6.heap.size v6 (freeL t) tillW w6 hs6)
            have HB26 := Lib.hid (bl_tr HB25.out hb6)
            have HB6 := Lib.hid (bl_tr HB2.out HB26.out)
            clear hs6 hb6 HC3 k0 k1 k2 k3 k4 r0 r1
            obtain ⟨⟨k0, k1, k2, k3, k4⟩, ⟨r0, r1⟩, _⟩ := HX.out w6 HB26.out
            unfold tillW at HH6
            go_wp2_with fail
            refine HH6.out.mono ?_
            rintro e w6' ⟨rfl, rfl⟩
            cases hf2 : hasB (freeL t) tillW with
            | true =>
              rw [show hasB (freeL t) [116, 105, 108, 108] = true from hf2]
              clear hf2
              go_wp2_with fail
              go_ret
              exact ⟨rfl, HB6.out⟩
            | false =>
              rw [show hasB (freeL t) [116, 105, 108, 108] = false from hf2]
              have HF2 := Lib.hid hf2
              clear hf2
              have HNS : Hid (∀ x ∈ ns ++ [fromW, tillW], x.length ≤ 1000) := fun x hx => by
                rcases List.mem_append.1 hx with hx | hx
                · exact Nat.le_trans (HST.out.2.1 x hx) (by omega)
                · simp at hx; rcases hx with rfl | rfl <;> simp [fromW, tillW]
              have HNL : Hid (ns.length ≤ 1000) := by have := HST.out.2.2.1; show _ ≤ _; omega
              have HVL : Hid (vs.length ≤ 1000) := by have := HST.out.2.2.2; show _ ≤ _; omega
              go_upto_region 6 with (fail)
              have HB66 := Lib.hid (bl_tr HB6.out (b1 w6 (.cells #[] 9)))
              obtain ⟨_, ⟨q0, q1⟩, _⟩ := HX.out _ (bl_tr HB26.out (b1 w6 (.cells #[] 9)))
              go_wp2_with (at_builtin; refine app30x (w6.alloc (.cells #[] 9)) rfl (.tmp 60) (.tmp 62) rfl w6.heap.size w6.heap.size (rl_lit w6 w6.heap.size (Nat.le_refl _)) rfl (.slice An ns.length cn) ns rfl (HN.out _ HB66.out) (fun c' h => HNIL.out.1 _ c' h) HNL.out (b1 w6 _).size ?_)
              intro v7 w7 hrl hb7
              have HRL := Lib.hid hrl
              have HB67 : Hid (Below w6.heap.size w6 w7) := (b1 w6 (.cells #[] 9)).trans hb7
              clear hrl hb7 HB66 k0 k1 k2 k3 k4 r0 r1 q0 q1
              have hnl2 : ns.length ≤ 1000000 := by have := HNL.out; omega
              go_wp2_with (at_builtin; refine app30t w7 rfl (.tmp 63) (.tmp 64) rfl w6.heap.size v7 ns fromW tillW HRL.out rfl rfl hnl2 HB67.out.size ?_)
              intro v8 w8 hrl hb8
              have HSL := Lib.hid hrl.sl
              have HB68 := Lib.hid (HB67.out.trans hb8)
              have HB28 := Lib.hid (bl_tr HB26.out HB68.out)
              have HB8 := Lib.hid (bl_tr HB2.out HB28.out)
              clear hrl hb8 HRL HB67 hnl2 HB68
              go_upto_region 8 with (fail)
              have h1' : qa ≤ qk := by omega
              have h2' : qk < qb := by omega
              have HAB := Lib.hid (And.intro h1' h2')
              have HIQ : Hid (inQ qa ∧ inQ qk ∧ inQ qb ∧ inQ (qk + 1)) := by unfold inQ; exact ⟨⟨by omega, by omega⟩, ⟨by omega, by omega⟩, ⟨by omega, by omega⟩, by omega, by omega⟩
              have hwr : IntKind.i64.wrap (qk + 1) = qk + 1 := wrap_small (by omega)
              clear h1 h2 h1' h2'
              go_wp2_with fail
              go_loopg [11, 12, 13, 14, 15, 16, 17, 18, 19, 20, 21, 22, 23, 24] 2 (fun gg s11 s12 s13 s14 s15 s16 s17 s18 s19 s20 s21 s22 s23 s24 wr => ∃ i : Nat, i ≤ 2 ∧ 2 - i ≤ gg ∧ s11 = .int .i64 (i : Int) ∧ Aside (Below w8.heap.size w8 wr))
              case atStart => exact ⟨0, by omega, by omega, rfl, Below.refl _ _⟩
              case round =>
                obtain ⟨i, hi, hgg, rfl, HBR⟩ := hrel
                by_cases hlt : i < 2
                · have hltz : (i : Int) < 2 := by omega
                  go_upto_if 71 with fail
                  go_cut [12, 13] (fun s12 s13 wx => s12 = .string ⟨(nmK i).toArray⟩ ∧ s13 = .string ⟨(opK2 i).toArray⟩ ∧ wr = wx)
                  case first =>
                    by_cases hi1 : i = 1
                    · have hb1 : ((i : Int) == 1) = true := by subst hi1; rfl
                      have e1 : nmK i = prodW := if_pos hi1
                      have e2 : opK2 i = [116, 105, 109, 101, 115] := if_pos hi1
                      have E1 := Lib.hid e1
                      have E2 := Lib.hid e2
                      clear hi1 e1 e2
                      go_wp2_with fail
                      go_meet
                      case rel => exact ⟨by rw [E1.out]; rfl, by rw [E2.out], rfl⟩
                    · have hb1 : ((i : Int) == 1) = false := by rw [beq_eq_false_iff_ne]; omega
                      have e1 : nmK i = sumW := if_neg hi1
                      have e2 : opK2 i = [112, 108, 117, 115] := if_neg hi1
                      have E1 := Lib.hid e1
                      have E2 := Lib.hid e2
                      clear hi1 e1 e2
                      go_wp2_with fail
                      go_meet
                      case rel => exact ⟨by rw [E1.out]; rfl, by rw [E2.out], rfl⟩
                  case rest =>
                    obtain ⟨rfl, rfl, rfl⟩ := hcut
                    have HB2r := Lib.hid (bl_tr HB28.out HBR.out)
                    have HBr := Lib.hid (bl_tr HB2.out HB2r.out)
                    obtain ⟨⟨k0, k1, k2, k3, k4⟩, ⟨r0, r1⟩, _⟩ := HX.out wr HB2r.out
                    have HC := Lib.hid (func3_any (nmK i) t A c wr (HV.out _ HBr.out))
                    have HSU := Lib.hid (partT_SA (n := nmK i) (m := t) (nmK_len i) HST.out.1)
                    have HLAW : Hid ((valueR (partT (nmK i) t) (ns ++ [fromW, tillW]) (vs ++ [whV qa, whV qb])).e = 0 → (valueR (partT (nmK i) t) (ns ++ [fromW, tillW]) (vs ++ [whV qa, whV qk])).e = 0 → (valueR (partT (nmK i) t) (ns ++ [fromW, tillW]) (vs ++ [whV (qk + 1), whV qb])).e = 0 →
                        valueR (bothT (nmK i)) [[112], [113]] [(valueR (partT (nmK i) t) (ns ++ [fromW, tillW]) (vs ++ [whV qa, whV qk])).v, (valueR (partT (nmK i) t) (ns ++ [fromW, tillW]) (vs ++ [whV (qk + 1), whV qb])).v] = okR (valueR (partT (nmK i) t) (ns ++ [fromW, tillW]) (vs ++ [whV qa, whV qb])).v ∧
                        (valueR (partT (nmK i) t) (ns ++ [fromW, tillW]) (vs ++ [whV qa, whV qk])).v.fit ∧ (valueR (partT (nmK i) t) (ns ++ [fromW, tillW]) (vs ++ [whV (qk + 1), whV qb])).v.fit) := fun e1 e2 e3 => by
                      have hvt := valid_part (valueR_ok e1).2.1
                      exact ⟨parts_law (nmK_or i) HAB.out.1 HAB.out.2 HIQ.out.1 HIQ.out.2.2.1 (free_no hvt HF1.out) (free_no hvt HF2.out) e1 e2 e3, ok_fit (valueR_ok e2).2.2, ok_fit (valueR_ok e3).2.2⟩
                    unfold tv at HC
                    generalize hpu : partT (nmK i) t = u at *
                    clear hpu
                    go_upto_region 13 with (fail)
                    go_wp2_with fail
                    refine HC.out.mono ?_
                    rintro e wa ⟨A9, c9, rfl, htv, hba⟩
                    have hbb := bl_tr hba (b1 wa (.cells #[.int .i64 u.kind, .string ⟨u.name.toArray⟩, .string ⟨u.var.toArray⟩, .slice A9 u.args.length c9, .string ⟨u.form.toArray⟩] 24))
                    have HB2b := Lib.hid (bl_tr HB2r.out hbb)
                    have HBb := Lib.hid (bl_tr HB2.out HB2b.out)
                    have HB8b := Lib.hid (bl_tr HBR.out hbb)
                    have HTU := Lib.hid (htv.reach (b1 wa (.cells #[.int .i64 u.kind, .string ⟨u.name.toArray⟩, .string ⟨u.var.toArray⟩, .slice A9 u.args.length c9, .string ⟨u.form.toArray⟩] 24)))
                    have HBU : Hid (Bxd (wa.alloc (.cells #[.int .i64 u.kind, .string ⟨u.name.toArray⟩, .string ⟨u.var.toArray⟩, .slice A9 u.args.length c9, .string ⟨u.form.toArray⟩] 24)) wa.heap.size u A9 c9) := bxd_new wa u A9 c9
                    have HZU : Hid (wa.heap.size < (wa.alloc (.cells #[.int .i64 u.kind, .string ⟨u.name.toArray⟩, .string ⟨u.var.toArray⟩, .slice A9 u.args.length c9, .string ⟨u.form.toArray⟩] 24)).heap.size) := by show _ < _; simp
                    clear htv hba hbb HC k0 k1 k2 k3 k4 r0 r1
                    go_upto_region 14 with (fail)
                    generalize wa.heap.size = mu at *
                    generalize wa.alloc (.cells #[.int .i64 u.kind, .string ⟨u.name.toArray⟩, .string ⟨u.var.toArray⟩, .slice A9 u.args.length c9, .string ⟨u.form.toArray⟩] 24) = wb at *
                    have HXU := Lib.hid fun (wz : World) (h : Below wb.heap.size wb wz) => HBU.out.below h HZU.out
                    have HRUN := Lib.hid fun (x y : Int) (hxy : inQ x ∧ inQ y) (wz : World) (h : Below wb.heap.size wb wz) => run_any u A9 c9 v8 (.slice Av vs.length cv) (ns ++ [fromW, tillW]) vs x y wz (HTU.out.reach h) HSU.out (HM.out _ (bl_tr HBb.out h)) ((HSL.out.below (bl_tr HB8b.out h)).more (bl_tr HB8b.out h).size) (HVV.out _ (bl_tr HBb.out h)) (fun c' h => HNIL.out.2 _ c' h) HVL.out HNS.out HFIT.out hxy
                    have HR1 := Lib.hid (HRUN.out qa qb ⟨HIQ.out.1, HIQ.out.2.2.1⟩)
                    have HR2 := Lib.hid (HRUN.out qa qk ⟨HIQ.out.1, HIQ.out.2.1⟩)
                    have HR3 := Lib.hid (HRUN.out (qk + 1) qb ⟨HIQ.out.2.2.2, HIQ.out.2.2.1⟩)
                    clear HRUN
                    unfold tv V.cells at HR1 HR2 HR3
                    generalize valueR u (ns ++ [fromW, tillW]) (vs ++ [whV qa, whV qb]) = ra at *
                    generalize valueR u (ns ++ [fromW, tillW]) (vs ++ [whV qa, whV qk]) = rb at *
                    generalize valueR u (ns ++ [fromW, tillW]) (vs ++ [whV (qk + 1), whV qb]) = rc at *
                    have HBwb : Hid (Below wb.heap.size wb wb) := Below.refl _ _
                    obtain ⟨k0, k1, k2, k3, k4⟩ := HXU.out wb HBwb.out
                    obtain ⟨_, ⟨r0, r1⟩, _⟩ := HX.out wb (bl_tr HB2b.out HBwb.out)
                    go_upto_region 14 with (fail)
                    go_wp2_with fail
                    refine (HR1.out wb HBwb.out).mono ?_
                    rintro e wz ⟨rfl, hbz⟩
                    have hbn := bl_tr hbz (b1 wz (.cells #[.int .i64 ra.v.num, .int .i64 ra.v.den, .int .i64 ra.v.dim.a, .int .i64 ra.v.dim.b, .int .i64 ra.v.dim.c, .int .i64 ra.v.dim.d, .int .i64 ra.v.dim.e, .int .i64 ra.v.dim.f, .int .i64 ra.v.dim.g] 44))
                    have HBwc := Lib.hid (bl_tr HBwb.out hbn)
                    have Hrawc : Hid (K9 (wz.alloc (.cells #[.int .i64 ra.v.num, .int .i64 ra.v.den, .int .i64 ra.v.dim.a, .int .i64 ra.v.dim.b, .int .i64 ra.v.dim.c, .int .i64 ra.v.dim.d, .int .i64 ra.v.dim.e, .int .i64 ra.v.dim.f, .int .i64 ra.v.dim.g] 44)) wz.heap.size ra.v) := K9.new wz ra.v
                    clear hbz hbn k0 k1 k2 k3 k4 r0 r1 
                    go_upto_region 15 with (fail)
                    generalize wz.heap.size = mra at *
                    generalize wz.alloc (.cells #[.int .i64 ra.v.num, .int .i64 ra.v.den, .int .i64 ra.v.dim.a, .int .i64 ra.v.dim.b, .int .i64 ra.v.dim.c, .int .i64 ra.v.dim.d, .int .i64 ra.v.dim.e, .int .i64 ra.v.dim.f, .int .i64 ra.v.dim.g] 44) = wc at *
                    obtain ⟨k0, k1, k2, k3, k4⟩ := HXU.out wc HBwc.out
                    obtain ⟨_, ⟨r0, r1⟩, _⟩ := HX.out wc (bl_tr HB2b.out HBwc.out)
                    go_upto_region 15 with (fail)
                    go_wp2_with fail
                    refine (HR2.out wc HBwc.out).mono ?_
                    rintro e wz ⟨rfl, hbz⟩
                    have hbn := bl_tr hbz (b1 wz (.cells #[.int .i64 rb.v.num, .int .i64 rb.v.den, .int .i64 rb.v.dim.a, .int .i64 rb.v.dim.b, .int .i64 rb.v.dim.c, .int .i64 rb.v.dim.d, .int .i64 rb.v.dim.e, .int .i64 rb.v.dim.f, .int .i64 rb.v.dim.g] 44))
                    have HBwd := Lib.hid (bl_tr HBwc.out hbn)
                    have Hrawd : Hid (K9 (wz.alloc (.cells #[.int .i64 rb.v.num, .int .i64 rb.v.den, .int .i64 rb.v.dim.a, .int .i64 rb.v.dim.b, .int .i64 rb.v.dim.c, .int .i64 rb.v.dim.d, .int .i64 rb.v.dim.e, .int .i64 rb.v.dim.f, .int .i64 rb.v.dim.g] 44)) mra ra.v) := Hrawc.out.reach hbn
                    have Hrbwd : Hid (K9 (wz.alloc (.cells #[.int .i64 rb.v.num, .int .i64 rb.v.den, .int .i64 rb.v.dim.a, .int .i64 rb.v.dim.b, .int .i64 rb.v.dim.c, .int .i64 rb.v.dim.d, .int .i64 rb.v.dim.e, .int .i64 rb.v.dim.f, .int .i64 rb.v.dim.g] 44)) wz.heap.size rb.v) := K9.new wz rb.v
                    clear hbz hbn k0 k1 k2 k3 k4 r0 r1 Hrawc
                    go_upto_region 16 with (fail)
                    generalize wz.heap.size = mrb at *
                    generalize wz.alloc (.cells #[.int .i64 rb.v.num, .int .i64 rb.v.den, .int .i64 rb.v.dim.a, .int .i64 rb.v.dim.b, .int .i64 rb.v.dim.c, .int .i64 rb.v.dim.d, .int .i64 rb.v.dim.e, .int .i64 rb.v.dim.f, .int .i64 rb.v.dim.g] 44) = wd at *
                    obtain ⟨k0, k1, k2, k3, k4⟩ := HXU.out wd HBwd.out
                    obtain ⟨_, ⟨r0, r1⟩, _⟩ := HX.out wd (bl_tr HB2b.out HBwd.out)
                    go_upto_region 16 with (fail)
                    go_wp2_with fail
                    refine (HR3.out wd HBwd.out).mono ?_
                    rintro e wz ⟨rfl, hbz⟩
                    have hbn := bl_tr hbz (b1 wz (.cells #[.int .i64 rc.v.num, .int .i64 rc.v.den, .int .i64 rc.v.dim.a, .int .i64 rc.v.dim.b, .int .i64 rc.v.dim.c, .int .i64 rc.v.dim.d, .int .i64 rc.v.dim.e, .int .i64 rc.v.dim.f, .int .i64 rc.v.dim.g] 44))
                    have HBwe := Lib.hid (bl_tr HBwd.out hbn)
                    have Hrawe : Hid (K9 (wz.alloc (.cells #[.int .i64 rc.v.num, .int .i64 rc.v.den, .int .i64 rc.v.dim.a, .int .i64 rc.v.dim.b, .int .i64 rc.v.dim.c, .int .i64 rc.v.dim.d, .int .i64 rc.v.dim.e, .int .i64 rc.v.dim.f, .int .i64 rc.v.dim.g] 44)) mra ra.v) := Hrawd.out.reach hbn
                    have Hrbwe : Hid (K9 (wz.alloc (.cells #[.int .i64 rc.v.num, .int .i64 rc.v.den, .int .i64 rc.v.dim.a, .int .i64 rc.v.dim.b, .int .i64 rc.v.dim.c, .int .i64 rc.v.dim.d, .int .i64 rc.v.dim.e, .int .i64 rc.v.dim.f, .int .i64 rc.v.dim.g] 44)) mrb rb.v) := Hrbwd.out.reach hbn
                    have Hrcwe : Hid (K9 (wz.alloc (.cells #[.int .i64 rc.v.num, .int .i64 rc.v.den, .int .i64 rc.v.dim.a, .int .i64 rc.v.dim.b, .int .i64 rc.v.dim.c, .int .i64 rc.v.dim.d, .int .i64 rc.v.dim.e, .int .i64 rc.v.dim.f, .int .i64 rc.v.dim.g] 44)) wz.heap.size rc.v) := K9.new wz rc.v
                    clear hbz hbn k0 k1 k2 k3 k4 r0 r1 Hrawd Hrbwd
                    go_upto_region 17 with (fail)
                    generalize wz.heap.size = mrc at *
                    generalize wz.alloc (.cells #[.int .i64 rc.v.num, .int .i64 rc.v.den, .int .i64 rc.v.dim.a, .int .i64 rc.v.dim.b, .int .i64 rc.v.dim.c, .int .i64 rc.v.dim.d, .int .i64 rc.v.dim.e, .int .i64 rc.v.dim.f, .int .i64 rc.v.dim.g] 44) = we at *
                    go_cut [115] (fun s115 wx => s115 = .bool (!decide (ra.e = 0 ∧ rb.e = 0 ∧ rc.e = 0)) ∧ we = wx)
                    case first =>
                      by_cases g1 : ra.e = 0
                      · have q1 : (ra.e != 0) = false := by simp [g1]
                        by_cases g2 : rb.e = 0
                        · have q2 : (rb.e != 0) = false := by simp [g2]
                          by_cases g3 : rc.e = 0
                          · have q3 : (rc.e != 0) = false := by simp [g3]
                            have HP : Hid (decide (ra.e = 0 ∧ rb.e = 0 ∧ rc.e = 0) = true) := decide_eq_true ⟨g1, g2, g3⟩
                            (try clear g1); (try clear g2); (try clear g3)
                            go_wp2_with fail
                            go_meet
                            case rel => exact ⟨by rw [HP.out]; rfl, rfl⟩
                          · have q3 : (rc.e != 0) = true := by simpa using g3
                            have HP : Hid (decide (ra.e = 0 ∧ rb.e = 0 ∧ rc.e = 0) = false) := decide_eq_false (fun h => by first | exact g1 h.1 | exact g2 h.2.1 | exact g3 h.2.2)
                            (try clear g1); (try clear g2); (try clear g3)
                            go_wp2_with fail
                            go_meet
                            case rel => exact ⟨by rw [HP.out]; rfl, rfl⟩
                        · have q2 : (rb.e != 0) = true := by simpa using g2
                          have HP : Hid (decide (ra.e = 0 ∧ rb.e = 0 ∧ rc.e = 0) = false) := decide_eq_false (fun h => by first | exact g1 h.1 | exact g2 h.2.1 | exact g3 h.2.2)
                          (try clear g1); (try clear g2); (try clear g3)
                          go_wp2_with fail
                          go_meet
                          case rel => exact ⟨by rw [HP.out]; rfl, rfl⟩
                      · have q1 : (ra.e != 0) = true := by simpa using g1
                        have HP : Hid (decide (ra.e = 0 ∧ rb.e = 0 ∧ rc.e = 0) = false) := decide_eq_false (fun h => by first | exact g1 h.1 | exact g2 h.2.1 | exact g3 h.2.2)
                        (try clear g1); (try clear g2); (try clear g3)
                        go_wp2_with fail
                        go_meet
                        case rel => exact ⟨by rw [HP.out]; rfl, rfl⟩
                    case rest =>
                      obtain ⟨rfl, rfl⟩ := hcut
                      by_cases hz : ra.e = 0 ∧ rb.e = 0 ∧ rc.e = 0
                      · rw [decide_eq_true hz]
                        have HLF := Lib.hid (HLAW.out hz.1 hz.2.1 hz.2.2)
                        clear hz
                        have HU2 : Hid (tv (bothT (nmK i)) (some ⟨we.heap.size, 0, none⟩) 2 = #[.int .i64 4, .string ⟨(opK2 i).toArray⟩, .string ⟨#[]⟩, .slice (some ⟨we.heap.size, 0, none⟩) 2 2, .string ⟨#[]⟩]) := by
                          show tv _ _ _ = _
                          unfold bothT tv
                          rw [both_op]
                          rfl
                        have HBX2 : Hid (Bxd ((we.alloc (.cells #[.int .i64 2, .string ⟨#[112]⟩, .string ⟨#[]⟩, .slice none 0 0, .string ⟨#[]⟩, .int .i64 2, .string ⟨#[113]⟩, .string ⟨#[]⟩, .slice none 0 0, .string ⟨#[]⟩] 24)).alloc (.cells #[.int .i64 4, .string ⟨(opK2 i).toArray⟩, .string ⟨#[]⟩, .slice (some ⟨we.heap.size, 0, none⟩) 2 2, .string ⟨#[]⟩] 24)) (we.heap.size + 1) (bothT (nmK i)) (some ⟨we.heap.size, 0, none⟩) 2) := by
                          have h := bxd_new (we.alloc (.cells #[.int .i64 2, .string ⟨#[112]⟩, .string ⟨#[]⟩, .slice none 0 0, .string ⟨#[]⟩, .int .i64 2, .string ⟨#[113]⟩, .string ⟨#[]⟩, .slice none 0 0, .string ⟨#[]⟩] 24)) (bothT (nmK i)) (some ⟨we.heap.size, 0, none⟩) 2
                          rw [World.size_alloc, HU2.out] at h
                          exact h
                        have hbef := b2 we (.cells #[.int .i64 2, .string ⟨#[112]⟩, .string ⟨#[]⟩, .slice none 0 0, .string ⟨#[]⟩, .int .i64 2, .string ⟨#[113]⟩, .string ⟨#[]⟩, .slice none 0 0, .string ⟨#[]⟩] 24) (.cells #[.int .i64 4, .string ⟨(opK2 i).toArray⟩, .string ⟨#[]⟩, .slice (some ⟨we.heap.size, 0, none⟩) 2 2, .string ⟨#[]⟩] 24)
                        have HRW : Hid (((we.alloc (.cells #[.int .i64 2, .string ⟨#[112]⟩, .string ⟨#[]⟩, .slice none 0 0, .string ⟨#[]⟩, .int .i64 2, .string ⟨#[113]⟩, .string ⟨#[]⟩, .slice none 0 0, .string ⟨#[]⟩] 24)).alloc (.cells #[.int .i64 4, .string ⟨(opK2 i).toArray⟩, .string ⟨#[]⟩, .slice (some ⟨we.heap.size, 0, none⟩) 2 2, .string ⟨#[]⟩] 24)).heap[we.heap.size]? = some (.cells #[.int .i64 2, .string ⟨#[112]⟩, .string ⟨#[]⟩, .slice none 0 0, .string ⟨#[]⟩, .int .i64 2, .string ⟨#[113]⟩, .string ⟨#[]⟩, .slice none 0 0, .string ⟨#[]⟩] 24 (0, 0))) := (al_heap' _ _ _ (by rw [World.size_alloc]; exact Nat.lt_succ_self _)).trans (heap_alloc_new we _)
                        have HSF : Hid (((we.alloc (.cells #[.int .i64 2, .string ⟨#[112]⟩, .string ⟨#[]⟩, .slice none 0 0, .string ⟨#[]⟩, .int .i64 2, .string ⟨#[113]⟩, .string ⟨#[]⟩, .slice none 0 0, .string ⟨#[]⟩] 24)).alloc (.cells #[.int .i64 4, .string ⟨(opK2 i).toArray⟩, .string ⟨#[]⟩, .slice (some ⟨we.heap.size, 0, none⟩) 2 2, .string ⟨#[]⟩] 24)).heap.size = we.heap.size + 2) := by show _ = _; rw [World.size_alloc, World.size_alloc]
                        have HTB : Hid (TV ((we.alloc (.cells #[.int .i64 2, .string ⟨#[112]⟩, .string ⟨#[]⟩, .slice none 0 0, .string ⟨#[]⟩, .int .i64 2, .string ⟨#[113]⟩, .string ⟨#[]⟩, .slice none 0 0, .string ⟨#[]⟩] 24)).alloc (.cells #[.int .i64 4, .string ⟨(opK2 i).toArray⟩, .string ⟨#[]⟩, .slice (some ⟨we.heap.size, 0, none⟩) 2 2, .string ⟨#[]⟩] 24)) ((we.alloc (.cells #[.int .i64 2, .string ⟨#[112]⟩, .string ⟨#[]⟩, .slice none 0 0, .string ⟨#[]⟩, .int .i64 2, .string ⟨#[113]⟩, .string ⟨#[]⟩, .slice none 0 0, .string ⟨#[]⟩] 24)).alloc (.cells #[.int .i64 4, .string ⟨(opK2 i).toArray⟩, .string ⟨#[]⟩, .slice (some ⟨we.heap.size, 0, none⟩) 2 2, .string ⟨#[]⟩] 24)).heap.size (bothT (nmK i)) (some ⟨we.heap.size, 0, none⟩) 2) := ⟨⟨Nat.le_refl _, by omega⟩, fun _ => ⟨we.heap.size, 0, rfl, by
                          have hlt : we.heap.size < ((we.alloc (.cells #[.int .i64 2, .string ⟨#[112]⟩, .string ⟨#[]⟩, .slice none 0 0, .string ⟨#[]⟩, .int .i64 2, .string ⟨#[113]⟩, .string ⟨#[]⟩, .slice none 0 0, .string ⟨#[]⟩] 24)).alloc (.cells #[.int .i64 4, .string ⟨(opK2 i).toArray⟩, .string ⟨#[]⟩, .slice (some ⟨we.heap.size, 0, none⟩) 2 2, .string ⟨#[]⟩] 24)).heap.size := by have := HSF.out; omega
                          have hc := fun (o : Nat) (x : Value) (h : (#[.int .i64 2, .string ⟨#[112]⟩, .string ⟨#[]⟩, .slice none 0 0, .string ⟨#[]⟩, .int .i64 2, .string ⟨#[113]⟩, .string ⟨#[]⟩, .slice none 0 0, .string ⟨#[]⟩] : Array Value)[o]? = some x) => show ((we.alloc (.cells #[.int .i64 2, .string ⟨#[112]⟩, .string ⟨#[]⟩, .slice none 0 0, .string ⟨#[]⟩, .int .i64 2, .string ⟨#[113]⟩, .string ⟨#[]⟩, .slice none 0 0, .string ⟨#[]⟩] 24)).alloc (.cells #[.int .i64 4, .string ⟨(opK2 i).toArray⟩, .string ⟨#[]⟩, .slice (some ⟨we.heap.size, 0, none⟩) 2 2, .string ⟨#[]⟩] 24)).cell? ⟨we.heap.size, o, none⟩ = some x by simp only [World.cell?, HRW.out]; exact h
                          show TRs _ _ _ _ [varT [112], varT [113]]
                          unfold TRs TRs TRs
                          exact ⟨varT_tr hlt (hc 0 _ rfl) (hc 1 _ rfl) (hc 2 _ rfl) (hc 3 _ rfl) (hc 4 _ rfl), varT_tr hlt (hc 5 _ rfl) (hc 6 _ rfl) (hc 7 _ rfl) (hc 8 _ rfl) (hc 9 _ rfl), trivial⟩⟩⟩
                        have HBwf := Lib.hid (bl_tr HBwe.out hbef)
                        have HraF := Lib.hid (Hrawe.out.reach hbef)
                        have HrbF := Lib.hid (Hrbwe.out.reach hbef)
                        have HrcF := Lib.hid (Hrcwe.out.reach hbef)
                        have HSU2 := Lib.hid (bothT_SA (nmK i))
                        clear hbef HRW HU2 Hrawe Hrbwe Hrcwe
                        go_upto_region 19 with (fail)
                        generalize (we.alloc (.cells #[.int .i64 2, .string ⟨#[112]⟩, .string ⟨#[]⟩, .slice none 0 0, .string ⟨#[]⟩, .int .i64 2, .string ⟨#[113]⟩, .string ⟨#[]⟩, .slice none 0 0, .string ⟨#[]⟩] 24)).alloc (.cells #[.int .i64 4, .string ⟨(opK2 i).toArray⟩, .string ⟨#[]⟩, .slice (some ⟨we.heap.size, 0, none⟩) 2 2, .string ⟨#[]⟩] 24) = wf at *
                        generalize bothT (nmK i) = u2 at *
                        have hb1 := b1 wf (.cells #[.string ⟨#[112]⟩, .string ⟨#[113]⟩] 9)
                        obtain ⟨⟨⟨b0, b1'⟩, b2', b3', b4', b5', b6', b7', b8'⟩, _, _⟩ := (HrbF.out.reach hb1).cells
                        obtain ⟨⟨⟨c0, c1⟩, c2, c3, c4, c5, c6, c7, c8⟩, _, _⟩ := (HrcF.out.reach hb1).cells
                        obtain ⟨k0, k1, k2, k3, k4⟩ := HBX2.out
                        have HB19 := Lib.hid (b2 wf (.cells #[.string ⟨#[112]⟩, .string ⟨#[113]⟩] 9) (.cells #[.int .i64 rb.v.num, .int .i64 rb.v.den, .int .i64 rb.v.dim.a, .int .i64 rb.v.dim.b, .int .i64 rb.v.dim.c, .int .i64 rb.v.dim.d, .int .i64 rb.v.dim.e, .int .i64 rb.v.dim.f, .int .i64 rb.v.dim.g, .int .i64 rc.v.num, .int .i64 rc.v.den, .int .i64 rc.v.dim.a, .int .i64 rc.v.dim.b, .int .i64 rc.v.dim.c, .int .i64 rc.v.dim.d, .int .i64 rc.v.dim.e, .int .i64 rc.v.dim.f, .int .i64 rc.v.dim.g] 44))
                        have hnm : ((wf.alloc (.cells #[.string ⟨#[112]⟩, .string ⟨#[113]⟩] 9)).alloc (.cells #[.int .i64 rb.v.num, .int .i64 rb.v.den, .int .i64 rb.v.dim.a, .int .i64 rb.v.dim.b, .int .i64 rb.v.dim.c, .int .i64 rb.v.dim.d, .int .i64 rb.v.dim.e, .int .i64 rb.v.dim.f, .int .i64 rb.v.dim.g, .int .i64 rc.v.num, .int .i64 rc.v.den, .int .i64 rc.v.dim.a, .int .i64 rc.v.dim.b, .int .i64 rc.v.dim.c, .int .i64 rc.v.dim.d, .int .i64 rc.v.dim.e, .int .i64 rc.v.dim.f, .int .i64 rc.v.dim.g] 44)).heap[wf.heap.size]? = some (.cells #[.string ⟨#[112]⟩, .string ⟨#[113]⟩] 9 (0, 0)) := (al_heap' _ _ _ (by rw [World.size_alloc]; exact Nat.lt_succ_self _)).trans (heap_alloc_new wf _)
                        have hvl : ((wf.alloc (.cells #[.string ⟨#[112]⟩, .string ⟨#[113]⟩] 9)).alloc (.cells #[.int .i64 rb.v.num, .int .i64 rb.v.den, .int .i64 rb.v.dim.a, .int .i64 rb.v.dim.b, .int .i64 rb.v.dim.c, .int .i64 rb.v.dim.d, .int .i64 rb.v.dim.e, .int .i64 rb.v.dim.f, .int .i64 rb.v.dim.g, .int .i64 rc.v.num, .int .i64 rc.v.den, .int .i64 rc.v.dim.a, .int .i64 rc.v.dim.b, .int .i64 rc.v.dim.c, .int .i64 rc.v.dim.d, .int .i64 rc.v.dim.e, .int .i64 rc.v.dim.f, .int .i64 rc.v.dim.g] 44)).heap[wf.heap.size + 1]? = some (.cells #[.int .i64 rb.v.num, .int .i64 rb.v.den, .int .i64 rb.v.dim.a, .int .i64 rb.v.dim.b, .int .i64 rb.v.dim.c, .int .i64 rb.v.dim.d, .int .i64 rb.v.dim.e, .int .i64 rb.v.dim.f, .int .i64 rb.v.dim.g, .int .i64 rc.v.num, .int .i64 rc.v.den, .int .i64 rc.v.dim.a, .int .i64 rc.v.dim.b, .int .i64 rc.v.dim.c, .int .i64 rc.v.dim.d, .int .i64 rc.v.dim.e, .int .i64 rc.v.dim.f, .int .i64 rc.v.dim.g] 44 (0, 0)) := by
                          have h := heap_alloc_new (wf.alloc (.cells #[.string ⟨#[112]⟩, .string ⟨#[113]⟩] 9)) (.cells #[.int .i64 rb.v.num, .int .i64 rb.v.den, .int .i64 rb.v.dim.a, .int .i64 rb.v.dim.b, .int .i64 rb.v.dim.c, .int .i64 rb.v.dim.d, .int .i64 rb.v.dim.e, .int .i64 rb.v.dim.f, .int .i64 rb.v.dim.g, .int .i64 rc.v.num, .int .i64 rc.v.den, .int .i64 rc.v.dim.a, .int .i64 rc.v.dim.b, .int .i64 rc.v.dim.c, .int .i64 rc.v.dim.d, .int .i64 rc.v.dim.e, .int .i64 rc.v.dim.f, .int .i64 rc.v.dim.g] 44)
                          rw [World.size_alloc] at h
                          exact h
                        have HS19 : Hid (((wf.alloc (.cells #[.string ⟨#[112]⟩, .string ⟨#[113]⟩] 9)).alloc (.cells #[.int .i64 rb.v.num, .int .i64 rb.v.den, .int .i64 rb.v.dim.a, .int .i64 rb.v.dim.b, .int .i64 rb.v.dim.c, .int .i64 rb.v.dim.d, .int .i64 rb.v.dim.e, .int .i64 rb.v.dim.f, .int .i64 rb.v.dim.g, .int .i64 rc.v.num, .int .i64 rc.v.den, .int .i64 rc.v.dim.a, .int .i64 rc.v.dim.b, .int .i64 rc.v.dim.c, .int .i64 rc.v.dim.d, .int .i64 rc.v.dim.e, .int .i64 rc.v.dim.f, .int .i64 rc.v.dim.g] 44)).heap.size = wf.heap.size + 2) := by show _ = _; rw [World.size_alloc, World.size_alloc]
                        have HSL9 : Hid (SL ((wf.alloc (.cells #[.string ⟨#[112]⟩, .string ⟨#[113]⟩] 9)).alloc (.cells #[.int .i64 rb.v.num, .int .i64 rb.v.den, .int .i64 rb.v.dim.a, .int .i64 rb.v.dim.b, .int .i64 rb.v.dim.c, .int .i64 rb.v.dim.d, .int .i64 rb.v.dim.e, .int .i64 rb.v.dim.f, .int .i64 rb.v.dim.g, .int .i64 rc.v.num, .int .i64 rc.v.den, .int .i64 rc.v.dim.a, .int .i64 rc.v.dim.b, .int .i64 rc.v.dim.c, .int .i64 rc.v.dim.d, .int .i64 rc.v.dim.e, .int .i64 rc.v.dim.f, .int .i64 rc.v.dim.g] 44)) ((wf.alloc (.cells #[.string ⟨#[112]⟩, .string ⟨#[113]⟩] 9)).alloc (.cells #[.int .i64 rb.v.num, .int .i64 rb.v.den, .int .i64 rb.v.dim.a, .int .i64 rb.v.dim.b, .int .i64 rb.v.dim.c, .int .i64 rb.v.dim.d, .int .i64 rb.v.dim.e, .int .i64 rb.v.dim.f, .int .i64 rb.v.dim.g, .int .i64 rc.v.num, .int .i64 rc.v.den, .int .i64 rc.v.dim.a, .int .i64 rc.v.dim.b, .int .i64 rc.v.dim.c, .int .i64 rc.v.dim.d, .int .i64 rc.v.dim.e, .int .i64 rc.v.dim.f, .int .i64 rc.v.dim.g] 44)).heap.size (.slice (some ⟨wf.heap.size, 0, none⟩) 2 2) [[112], [113]]) := ⟨some ⟨wf.heap.size, 0, none⟩, 2, rfl, ⟨Nat.le_refl _, by omega⟩, fun _ => ⟨wf.heap.size, 0, rfl, by have := HS19.out; omega, fun j hj => by
                          rcases j with _ | _ | j
                          · simp only [World.cell?, hnm]; rfl
                          · simp only [World.cell?, hnm]; rfl
                          · have h2 : j + 1 + 1 < 2 := hj
                            omega⟩⟩
                        have HSV9 : Hid (SV ((wf.alloc (.cells #[.string ⟨#[112]⟩, .string ⟨#[113]⟩] 9)).alloc (.cells #[.int .i64 rb.v.num, .int .i64 rb.v.den, .int .i64 rb.v.dim.a, .int .i64 rb.v.dim.b, .int .i64 rb.v.dim.c, .int .i64 rb.v.dim.d, .int .i64 rb.v.dim.e, .int .i64 rb.v.dim.f, .int .i64 rb.v.dim.g, .int .i64 rc.v.num, .int .i64 rc.v.den, .int .i64 rc.v.dim.a, .int .i64 rc.v.dim.b, .int .i64 rc.v.dim.c, .int .i64 rc.v.dim.d, .int .i64 rc.v.dim.e, .int .i64 rc.v.dim.f, .int .i64 rc.v.dim.g] 44)) (.slice (some ⟨wf.heap.size + 1, 0, none⟩) 2 2) [rb.v, rc.v]) := ⟨some ⟨wf.heap.size + 1, 0, none⟩, 2, rfl, ⟨Nat.le_refl _, by omega⟩, fun _ => ⟨wf.heap.size + 1, 0, rfl, fun j hj => by
                          have h := two9c hvl
                          rcases j with _ | _ | j
                          · exact h.1
                          · exact h.2
                          · have h2 : j + 1 + 1 < 2 := hj
                            omega⟩⟩
                        have HVA := Lib.hid (value_any u2 (some ⟨we.heap.size, 0, none⟩) 2 (.slice (some ⟨wf.heap.size, 0, none⟩) 2 2) (.slice (some ⟨wf.heap.size + 1, 0, none⟩) 2 2) [[112], [113]] [rb.v, rc.v] ((wf.alloc (.cells #[.string ⟨#[112]⟩, .string ⟨#[113]⟩] 9)).alloc (.cells #[.int .i64 rb.v.num, .int .i64 rb.v.den, .int .i64 rb.v.dim.a, .int .i64 rb.v.dim.b, .int .i64 rb.v.dim.c, .int .i64 rb.v.dim.d, .int .i64 rb.v.dim.e, .int .i64 rb.v.dim.f, .int .i64 rb.v.dim.g, .int .i64 rc.v.num, .int .i64 rc.v.den, .int .i64 rc.v.dim.a, .int .i64 rc.v.dim.b, .int .i64 rc.v.dim.c, .int .i64 rc.v.dim.d, .int .i64 rc.v.dim.e, .int .i64 rc.v.dim.f, .int .i64 rc.v.dim.g] 44)) (HTB.out.reach HB19.out) HSU2.out (HM.out _ (bl_tr HBb.out (bl_tr HBwf.out HB19.out))) HSL9.out HSV9.out (fun x hx => by simp at hx; rcases hx with rfl | rfl <;> simp) (fun x hx => by simp at hx; rcases hx with rfl | rfl; exact HLF.out.2.1; exact HLF.out.2.2))
                        rw [HLF.out.1] at HVA
                        unfold okR at HVA
                        dsimp only at HVA
                        unfold tv V.cells at HVA
                        clear hnm hvl HSL9 HSV9 HTB
                        go_wp2_with fail
                        refine HVA.out.mono ?_
                        rintro e wz ⟨q, rfl, _, hbz⟩
                        have hbn := bl_tr hbz (b1 wz (.cells #[.int .i64 ra.v.num, .int .i64 ra.v.den, .int .i64 ra.v.dim.a, .int .i64 ra.v.dim.b, .int .i64 ra.v.dim.c, .int .i64 ra.v.dim.d, .int .i64 ra.v.dim.e, .int .i64 ra.v.dim.f, .int .i64 ra.v.dim.g] 44))
                        have HBg := Lib.hid (bl_tr HB19.out hbn)
                        have HraG := Lib.hid (HraF.out.reach HBg.out)
                        have HN2 : Hid (K9 (wz.alloc (.cells #[.int .i64 ra.v.num, .int .i64 ra.v.den, .int .i64 ra.v.dim.a, .int .i64 ra.v.dim.b, .int .i64 ra.v.dim.c, .int .i64 ra.v.dim.d, .int .i64 ra.v.dim.e, .int .i64 ra.v.dim.f, .int .i64 ra.v.dim.g] 44)) wz.heap.size ra.v) := K9.new wz ra.v
                        clear hbz hbn hb1 b0 b1' b2' b3' b4' b5' b6' b7' b8' c0 c1 c2 c3 c4 c5 c6 c7 c8 k0 k1 k2 k3 k4
                        go_upto_region 20 with (fail)
                        generalize wz.heap.size = mz at *
                        generalize wz.alloc (.cells #[.int .i64 ra.v.num, .int .i64 ra.v.den, .int .i64 ra.v.dim.a, .int .i64 ra.v.dim.b, .int .i64 ra.v.dim.c, .int .i64 ra.v.dim.d, .int .i64 ra.v.dim.e, .int .i64 ra.v.dim.f, .int .i64 ra.v.dim.g] 44) = wg at *
                        obtain ⟨⟨⟨p0, p1⟩, p2, p3, p4, p5, p6, p7, p8⟩, _, _⟩ := HraG.out.cells
                        obtain ⟨⟨⟨y0, y1⟩, y2, y3, y4, y5, y6, y7, y8⟩, _, _⟩ := HN2.out.cells
                        have hE := fun w' => eq44 ra.v w'
                        have HBn := Lib.hid (bl_tr HB8b.out (bl_tr HBwf.out HBg.out))
                        go_wp2_with fail
                        go_roundg (2 - (i + 1))
                        case measure => omega
                        case rel => exact ⟨i + 1, by omega, by omega, by go_num, HBn.out⟩
                      · rw [decide_eq_false hz]
                        have HBn := Lib.hid (bl_tr HB8b.out HBwe.out)
                        go_wp2_with fail
                        go_roundg (2 - (i + 1))
                        case measure => omega
                        case rel => exact ⟨i + 1, by omega, by omega, by go_num, HBn.out⟩
                · have hltz : ¬ (i : Int) < 2 := by omega
                  have HBf := Lib.hid (bl_tr HB8.out HBR.out)
                  go_wp2_with fail
                  go_ret
                  exact ⟨rfl, HBf.out⟩
end Go.Proofs.YtknpigdpepmimaaGreatDoor
