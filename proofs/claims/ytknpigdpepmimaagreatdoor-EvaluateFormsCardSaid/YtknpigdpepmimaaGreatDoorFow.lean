/- The walk of EvaluateForms. -/
import Derived.Test.YtknpigdpepmimaaGreatDoorM39
import Derived.Test.YtknpigdpepmimaaGreatDoorM40
import Derived.Test.YtknpigdpepmimaaGreatDoorM47
import Derived.Test.YtknpigdpepmimaaGreatDoorFit
import Derived.Test.YtknpigdpepmimaaGreatDoorBar
import Derived.Test.YtknpigdpepmimaaGreatDoorFst
import Derived.Deep.CutBlock
import Derived.Deep.DeepCutAuto
import Derived.Deep.RegionHeldLaw
namespace Go.Proofs.YtknpigdpepmimaaGreatDoor
open Go.RowKit Go.Maps

theorem sel_end (l : List W8) (E : Sc) : selE l (E.drop E.length) = [] := by unfold selE; simp
theorem sel_sub {l : List W8} {E : Sc} {x : W8 × V} (h : x ∈ selE l E) : x ∈ E := by
  unfold selE at h
  exact List.mem_reverse.1 (List.mem_filter.1 h).1

set_option maxRecDepth 100000 in
set_option maxHeartbeats 4000000 in
theorem formsE_walk (t : T) (A : Option Addr) (c : Nat) (An Av : Option Addr) (cn cv : Nat) (ns : List W8) (vs : List V) (w : World) (hv : TV w w.heap.size t A c) (hn : SL w w.heap.size (.slice An ns.length cn) ns) (hvv : SV w (.slice Av vs.length cv) vs) (hfit : ∀ x ∈ vs, x.fit) (hm : Max w) :
    Calls Tryz.prog 4 #[.agg (tv t A c), .agg #[.slice An ns.length cn, .slice Av vs.length cv]] w fun e w' => e = .returned (.bool true) ∧ Below w.heap.size w w' := by
  have hb3 := b2 w (.cells (tv t A c) 24) (.cells #[.slice An ns.length cn, .slice Av vs.length cv] 28)
  have HB := Lib.hid hb3
  have HM := Lib.hid fun (wz : World) (h : Below w.heap.size w wz) => hm.reach h
  have HV := Lib.hid fun (wz : World) (h : Below w.heap.size w wz) => hv.reach h
  have HN := Lib.hid fun (wz : World) (h : Below w.heap.size w wz) => (hn.below h).more h.size
  have HVV := Lib.hid fun (wz : World) (h : Below w.heap.size w wz) => hvv.reach h
  have HX1 : Hid (Bxd ((w.alloc (.cells (tv t A c) 24)).alloc (.cells #[.slice An ns.length cn, .slice Av vs.length cv] 28)) w.heap.size t A c) := (bxd_new w t A c).below (b1 _ _) (by simp)
  have HX2 : Hid (Rmx ((w.alloc (.cells (tv t A c) 24)).alloc (.cells #[.slice An ns.length cn, .slice Av vs.length cv] 28)) (w.heap.size + 1) (.slice An ns.length cn) (.slice Av vs.length cv)) := by
    have h := rmx_new (w.alloc (.cells (tv t A c) 24)) (.slice An ns.length cn) (.slice Av vs.length cv)
    rw [World.size_alloc] at h
    exact h
  have HSZ : Hid (((w.alloc (.cells (tv t A c) 24)).alloc (.cells #[.slice An ns.length cn, .slice Av vs.length cv] 28)).heap.size = w.heap.size + 2) := by show _ = _; simp
  have HFW := Lib.hid fun (wz : World) (h : Below w.heap.size w wz) => few10_any t A c An Av cn cv ns vs wz (hv.reach h) ((hn.below h).more h.size) (by obtain ⟨_, _, e, h2, _⟩ := hvv; omega)
  have HFT := Lib.hid fun (wz : World) (h : Below w.heap.size w wz) (hs : ∀ x ∈ ns, x.length ≤ 1000) => rfits_any (.slice An ns.length cn) (.slice Av vs.length cv) ns vs wz ((hn.below h).more h.size) (hvv.reach h) hs hfit
  have HFIT := Lib.hid hfit
  have HVC : Hid (vs ≠ [] → ∃ b o, Av = some ⟨b, o, none⟩ ∧ ∀ i (h : i < vs.length), C9 w b (o + i * 9) vs[i]) := by
    obtain ⟨A', c', e, h2, h3⟩ := hvv
    obtain ⟨rfl, _, rfl⟩ := Value.slice.inj e
    exact h3
  have HNC : Hid (ns ≠ [] → ∃ b o, An = some ⟨b, o, none⟩ ∧ b < w.heap.size ∧ ∀ i (h : i < ns.length), w.cell? ⟨b, o + i, none⟩ = some (.string ⟨ns[i].toArray⟩)) := by
    obtain ⟨A', c', e, h2, h3⟩ := hn
    obtain ⟨rfl, _, rfl⟩ := Value.slice.inj e
    exact h3
  have hnl : ns.length ≤ 9223372036854775807 := by
    obtain ⟨A', c', e, h2, h3⟩ := hn
    omega
  clear hv hn hvv hm hb3 hfit
  unfold tv at HFW
  have HTV : Hid (tv t A c = #[.int .i64 t.kind, .string ⟨t.name.toArray⟩, .string ⟨t.var.toArray⟩, .slice A t.args.length c, .string ⟨t.form.toArray⟩]) := rfl
  go_enter Tryz.func4, Tryz.ntmps4
  go_upto_region 1 with (fail)
  generalize (w.alloc (.cells (tv t A c) 24)).alloc (.cells #[.slice An ns.length cn, .slice Av vs.length cv] 28) = w1 at *
  go_wp2_with fail
  refine (awake9_any _ (HM.out _ HB.out)).mono ?_
  rintro e w2 ⟨rfl, hb2⟩
  have hls : w.heap.size + 2 ≤ w1.heap.size := by have := HSZ.out; omega
  have HB2 := Lib.hid (bl_tr HB.out hb2)
  have HX := Lib.hid fun (wz : World) (h : Below w2.heap.size w2 wz) => And.intro (HX1.out.below (bl_tr hb2 h) (by omega)) (HX2.out.below (bl_tr hb2 h) (by omega))
  have HZ2 : Hid (w.heap.size + 2 ≤ w2.heap.size) := Nat.le_trans hls hb2.size
  clear HX1 HX2 hls hb2
  obtain ⟨⟨k0, k1, k2, k3, k4⟩, ⟨r0, r1⟩⟩ := HX.out w2 (Below.refl _ _)
  have HC1 := Lib.hid (HFW.out w2 HB2.out)
  go_wp2_with fail
  refine HC1.out.mono ?_
  rintro e w3 ⟨rfl, hb3⟩
  have HB3 := Lib.hid (bl_tr HB2.out hb3)
  have HB23 := Lib.hid hb3
  clear hb3 k0 k1 k2 k3 k4 r0 r1 HC1
  obtain ⟨⟨k0, k1, k2, k3, k4⟩, ⟨r0, r1⟩⟩ := HX.out w3 HB23.out
  cases hfe : fewE t ns vs with
  | false =>
    clear hfe
    go_wp2_with fail
    go_ret
    exact ⟨rfl, HB3.out⟩
  | true =>
    have HST := Lib.hid (fewE_SA hfe)
    have HNS : Hid (∀ x ∈ ns, x.length ≤ 1000) := fun x hx => Nat.le_trans (HST.out.2.1 x hx) (by omega)
    have HF2 := Lib.hid (rvalid_any t A c w3 (HV.out _ HB3.out) HST.out.1)
    unfold tv at HF2
    clear hfe
    go_wp2_with fail
    refine HF2.out.mono ?_
    rintro e w4 ⟨rfl, hb4⟩
    have HB24 := Lib.hid (bl_tr HB23.out hb4)
    have HB4 := Lib.hid (bl_tr HB2.out HB24.out)
    clear hb4 HF2 k0 k1 k2 k3 k4 r0 r1
    obtain ⟨⟨k0, k1, k2, k3, k4⟩, ⟨r0, r1⟩⟩ := HX.out w4 HB24.out
    cases hvt : validB t with
    | false =>
      clear hvt
      go_wp2_with fail
      go_ret
      exact ⟨rfl, HB4.out⟩
    | true =>
      have HVT := Lib.hid hvt
      clear hvt
      have HC2 := Lib.hid (HFT.out w4 HB4.out HNS.out)
      clear HFW HFT
      go_wp2_with fail
      refine HC2.out.mono ?_
      rintro e w5 ⟨rfl, hb5⟩
      have HB25 := Lib.hid (bl_tr HB24.out hb5)
      have HB5 := Lib.hid (bl_tr HB2.out HB25.out)
      clear hb5 HC2 k0 k1 k2 k3 k4 r0 r1
      cases hev : envB ns vs with
      | false =>
        clear hev
        go_wp2_with fail
        go_ret
        exact ⟨rfl, HB5.out⟩
      | true =>
        have HEV := Lib.hid hev
        clear hev
        have HEQ := Lib.hid (envB_parts HEV.out).1.1
        have HLAW := Lib.hid (valueR_forms HVT.out HEV.out)
        have HFR : Hid (freeL t = frL t) := if_pos HVT.out
        rw [← HFR.out] at HLAW
        go_upto_region 6 with (fail)
        have HM0 : Hid ((w5.alloc (.cells #[.slice none 0 0, .slice none 0 0] 28)).heap[w5.heap.size]? = some (.cells #[.slice none 0 0, .slice none 0 0] 28 (0, 0))) := heap_alloc_new w5 _
        have HML : Hid (w5.heap.size < (w5.alloc (.cells #[.slice none 0 0, .slice none 0 0] 28)).heap.size) := by show _ < _; simp
        have HB56 := Lib.hid (b1 w5 (.cells #[.slice none 0 0, .slice none 0 0] 28))
        have HB26 := Lib.hid (bl_tr HB25.out HB56.out)
        have HB6 := Lib.hid (bl_tr HB2.out HB26.out)
        clear HB56
        generalize hm5 : w5.heap.size = m at *
        have HM5 : Hid (w2.heap.size ≤ m) := by have := HB25.out.size; show _ ≤ _; omega
        generalize w5.alloc (.cells #[.slice none 0 0, .slice none 0 0] 28) = w6 at *
        obtain ⟨⟨k0, k1, k2, k3, k4⟩, ⟨r0, r1⟩⟩ := HX.out w6 HB26.out
        have HC3 := Lib.hid (free21_any t A c w6 (HV.out _ HB6.out) HST.out.1)
        rw [HTV.out] at HC3
        go_wp2_with fail
        refine HC3.out.mono ?_
        rintro e w7 ⟨v7, rfl, hs7, hb7⟩
        have HS7 := Lib.hid hs7
        have HM7 : Hid (w7.heap[m]? = some (.cells #[.slice none 0 0, .slice none 0 0] 28 (0, 0))) := (hb7.block m HML.out).trans HM0.out
        have HL7 : Hid (m < w7.heap.size) := Nat.lt_of_lt_of_le HML.out hb7.size
        have HB27 := Lib.hid (bl_tr HB26.out hb7)
        have HB7 := Lib.hid (bl_tr HB2.out HB27.out)
        clear hs7 hb7 HC3 HM0 HML k0 k1 k2 k3 k4 r0 r1
        obtain ⟨⟨k0, k1, k2, k3, k4⟩, ⟨r0, r1⟩⟩ := HX.out w7 HB27.out
        have hwl : IntKind.i64.wrap ((ns.length : Int) - 1) = (ns.length : Int) - 1 := by have := HST.out.2.2.1; exact wrap_small (by omega)
        go_upto_region 8 with (fail)
        generalize freeL t = fl at *
        obtain ⟨E, hE⟩ : ∃ E, E = ns.zip vs := ⟨_, rfl⟩
        have hEl : E.length = ns.length := by rw [hE, List.length_zip]; have := HEQ.out; omega
        have HEl := Lib.hid hEl
        have HEi : Hid (∀ i (h : i < ns.length) (h2 : i < vs.length) (h3 : i < E.length), E[i] = (ns[i], vs[i])) := fun i h h2 h3 => by subst hE; simp
        have HEZ := Lib.hid hE
        rw [← hE] at HLAW
        clear hE hEl k0 k1 k2 k3 k4 r0 r1
        have HSE := Lib.hid (sel_end fl E)
        go_wp2_with fail
        go_loopg [7] ns.length (fun gg s7 wr => ∃ (i : Nat) (c0 c1 : Value) (ln : List W8) (lv : List V), i ≤ ns.length ∧ i ≤ gg ∧ s7 = .int .i64 ((i : Int) - 1) ∧ Aside (ln = (selE fl (E.drop i)).map (·.1) ∧ lv = (selE fl (E.drop i)).map (·.2)) ∧ Aside (FS m w7 wr c0 c1 c0 c1 ln lv))
        case atStart => exact ⟨ns.length, .slice none 0 0, .slice none 0 0, [], [], Nat.le_refl _, Nat.le_refl _, rfl, (by show [] = _ ∧ [] = _; rw [← HEl.out, HSE.out]; exact ⟨rfl, rfl⟩), FS.start HL7.out HM7.out⟩
        case round =>
          obtain ⟨i, c0, c1, ln, lv, hi, hgg, rfl, HLL, HFr⟩ := hrel
          have HB2r : Hid (Below w2.heap.size w2 wr) := HB27.out.trans (HFr.out.below.mono HM5.out)
          have HBr := Lib.hid (bl_tr HB2.out HB2r.out)
          obtain ⟨⟨k0, k1, k2, k3, k4⟩, ⟨r0, r1⟩⟩ := HX.out wr HB2r.out
          by_cases hlt : 0 < i
          · obtain ⟨j, rfl⟩ : ∃ j, i = j + 1 := ⟨i - 1, by omega⟩
            have hjz : ((j + 1 : Nat) : Int) - 1 = (j : Int) := by omega
            rw [hjz]
            clear hjz
            have hge : (0 : Int) ≤ (j : Int) := by omega
            have hj1 : j < ns.length := by omega
            have hj2 : j < vs.length := by have := HEQ.out; omega
            have hj3 : j < E.length := by have := HEl.out; omega
            have hwj : IntKind.i64.wrap ((j : Int) - 1) = (j : Int) - 1 := by have := HST.out.2.2.1; exact wrap_small (by omega)
            have HEX := Lib.hid (HEi.out j hj1 hj2 hj3)
            have HSP := Lib.hid (selE_step fl E j hj3)
            rw [HEX.out] at HSP
            obtain ⟨nb, no, rfl, hnb, hnc⟩ := HNC.out (by intro e; rw [e] at hj1; simp at hj1)
            obtain ⟨vb, vo, rfl, hvc⟩ := HVC.out (by intro e; rw [e] at hj2; simp at hj2)
            have HNB := Lib.hid hnb
            have HNCj := Lib.hid (hnc j hj1)
            have HVCj := Lib.hid (hvc j hj2)
            have hck : wr.cell? ⟨nb, no + j, none⟩ = some (.string ⟨ns[j].toArray⟩) := (HBr.out.cell (p := ⟨nb, no + j, none⟩) HNB.out).trans HNCj.out
            have HH := Lib.hid (has35_any w7.heap.size v7 fl ns[j] wr (HFr.out.sl HS7.out HM7.out))
            have HFJ := Lib.hid (HFIT.out vs[j] (List.getElem_mem _))
            clear hnc hvc hnb hlt
            generalize ns[j] = x at *
            generalize vs[j] = y at *
            go_upto_region 10 with (fail)
            go_wp2_with fail
            refine HH.out.mono ?_
            rintro e wr' ⟨rfl, rfl⟩
            cases hhs : hasB fl x with
            | false =>
              have HSQ := Lib.hid (HSP.out.trans (by rw [if_neg (show ¬ hasB fl x = true by rw [hhs]; simp), List.append_nil]))
              clear hhs
              go_wp2_with fail
              go_roundg j
              case measure => omega
              case rel => exact ⟨j, c0, c1, ln, lv, by omega, by omega, rfl, (by show _ ∧ _; rw [HSQ.out]; exact HLL.out), HFr.out⟩
            | true =>
              have HSQ := Lib.hid (HSP.out.trans (by rw [if_pos (show hasB fl x = true from hhs)]))
              clear hhs
              have hln : ln.length ≤ 1000 ∧ lv.length ≤ 1000 := by
                obtain ⟨e1, e2⟩ := HLL.out
                have h1 := selE_len fl (E.drop (j + 1))
                have h2 : (E.drop (j + 1)).length ≤ E.length := by rw [List.length_drop]; omega
                have h3 := HEl.out
                have h4 := HST.out.2.2.1
                rw [e1, e2, List.length_map, List.length_map]
                omega
              have HLN := Lib.hid hln
              clear hln
              have HXR := Lib.hid fun (wz : World) (h : Below m w7 wz) => HX.out wz (HB27.out.trans (h.mono HM5.out))
              have HCN := Lib.hid fun (wz : World) (h : Below m w7 wz) => ((bl_tr HB2.out (HB27.out.trans (h.mono HM5.out))).cell (p := ⟨nb, no + j, none⟩) HNB.out).trans HNCj.out
              have HCV := Lib.hid fun (wz : World) (h : Below m w7 wz) => HVCj.out.reach (bl_tr HB2.out (HB27.out.trans (h.mono HM5.out)))
              have HSS := Lib.hid (fun (wz : World) (a0 a1 : Value) (l1 : List W8) (l2 : List V) (h : FS m w7 wz c0 c1 a0 a1 l1 l2) => And.intro h.cells.1 (And.intro h.cells.2.1 (And.intro (HXR.out wz h.below).2.c0 (And.intro (HXR.out wz h.below).2.c1 (And.intro (HCN.out wz h.below) (And.intro (HCV.out wz h.below).1.1 (And.intro (HCV.out wz h.below).1.2 (HCV.out wz h.below).2)))))))
              have HG0 := Lib.hid HFr.out.drew
              have hS0 := HSS.out _ _ _ _ _ HG0.out
              obtain ⟨i0, hi0, hz0, hz1, hz2⟩ := info_parts str_info
              obtain ⟨i1, hi1, hy0, hy1, hy2⟩ := info_parts val_info
              clear hck k0 k1 k2 k3 k4 r0 r1
              go_upto_region 11 with (fail)
              refine wp_region_noPanic ?_
              refine wp_region_J 19 (fun w' => w'.cell? ⟨m, 0, none⟩ = some c0 ∧ w'.cell? ⟨m, 1, none⟩ = some c1 ∧ w'.cell? ⟨w.heap.size + 1, 0, none⟩ = some (.slice (some ⟨nb, no, none⟩) ns.length cn) ∧ w'.cell? ⟨w.heap.size + 1, 1, none⟩ = some (.slice (some ⟨vb, vo, none⟩) vs.length cv) ∧ w'.cell? ⟨nb, no + j, none⟩ = some (.string ⟨x.toArray⟩) ∧ w'.cell? ⟨vb, vo + j * 9, none⟩ = some (.int .i64 y.num) ∧ w'.cell? ⟨vb, vo + j * 9 + 1, none⟩ = some (.int .i64 y.den) ∧ w'.cell? ⟨vb, vo + j * 9 + 2, none⟩ = some (.int .i64 y.dim.a) ∧ w'.cell? ⟨vb, vo + j * 9 + 3, none⟩ = some (.int .i64 y.dim.b) ∧ w'.cell? ⟨vb, vo + j * 9 + 4, none⟩ = some (.int .i64 y.dim.c) ∧ w'.cell? ⟨vb, vo + j * 9 + 5, none⟩ = some (.int .i64 y.dim.d) ∧ w'.cell? ⟨vb, vo + j * 9 + 6, none⟩ = some (.int .i64 y.dim.e) ∧ w'.cell? ⟨vb, vo + j * 9 + 7, none⟩ = some (.int .i64 y.dim.f) ∧ w'.cell? ⟨vb, vo + j * 9 + 8, none⟩ = some (.int .i64 y.dim.g)) (by kernel_rfl) ?_
              simp only [List.size_toArray, List.length_cons, List.length_nil, Nat.zero_add, Nat.reduceAdd]
              refine wpAnyJ_take (i := 0) (v := ?va0) [19] rfl (by kernel_rfl) (by kernel_rfl) (by kernel_rfl) (by kernel_rfl) (by kernel_rfl) (by kernel_rfl) (by kernel_rfl) (fun _ _ _ h => h) (Or.inl ⟨by rfl, ?ha0⟩) hS0 ?ra0
              case ha0 => (intro w' hSw; (try dsimp only at hSw); go_simp; all_goals with_reducible rfl)
              try dsimp only [Act.put]
              refine wpAnyJ_take (i := 1) (v := ?va1) [19] rfl (by kernel_rfl) (by kernel_rfl) (by kernel_rfl) (by kernel_rfl) (by kernel_rfl) (by kernel_rfl) (by kernel_rfl) (fun _ _ _ h => h) (Or.inl ⟨by rfl, ?ha1⟩) hS0 ?ra1
              case ha1 => (intro w' hSw; (try dsimp only at hSw); go_simp; all_goals with_reducible rfl)
              try dsimp only [Act.put]
              refine wpAnyJ_take (i := 2) (v := ?va2) [19] rfl (by kernel_rfl) (by kernel_rfl) (by kernel_rfl) (by kernel_rfl) (by kernel_rfl) (by kernel_rfl) (by kernel_rfl) (fun _ _ _ h => h) (Or.inl ⟨by rfl, ?ha2⟩) hS0 ?ra2
              case ha2 => (intro w' hSw; (try dsimp only at hSw); go_simp; all_goals with_reducible rfl)
              try dsimp only [Act.put]
              refine wpAnyJ_take (i := 3) (v := ?va3) [19] rfl (by kernel_rfl) (by kernel_rfl) (by kernel_rfl) (by kernel_rfl) (by kernel_rfl) (by kernel_rfl) (by kernel_rfl) (fun _ _ _ h => h) (Or.inl ⟨by rfl, ?ha3⟩) hS0 ?ra3
              case ha3 => (intro w' hSw; (try dsimp only at hSw); go_simp; all_goals with_reducible rfl)
              try dsimp only [Act.put]
              refine wpAnyJ_take (i := 4) (v := ?va4) [19] rfl (by kernel_rfl) (by kernel_rfl) (by kernel_rfl) (by kernel_rfl) (by kernel_rfl) (by kernel_rfl) (by kernel_rfl) (fun _ _ _ h => h) (Or.inl ⟨by rfl, ?ha4⟩) hS0 ?ra4
              case ha4 => (intro w' hSw; (try dsimp only at hSw); go_simp; all_goals with_reducible rfl)
              try dsimp only [Act.put]
              refine wpAnyJ_take (i := 5) (v := ?va5) [19] rfl (by kernel_rfl) (by kernel_rfl) (by kernel_rfl) (by kernel_rfl) (by kernel_rfl) (by kernel_rfl) (by kernel_rfl) (fun _ _ _ h => h) (Or.inl ⟨by rfl, ?ha5⟩) hS0 ?ra5
              case ha5 => (intro w' hSw; (try dsimp only at hSw); go_simp; all_goals with_reducible rfl)
              try dsimp only [Act.put]
              refine wpAnyJ_take (i := 6) (v := ?va6) [19] rfl (by kernel_rfl) (by kernel_rfl) (by kernel_rfl) (by kernel_rfl) (by kernel_rfl) (by kernel_rfl) (by kernel_rfl) (fun _ _ _ h => h) (Or.inl ⟨by rfl, ?ha6⟩) hS0 ?ra6
              case ha6 => (intro w' hSw; (try dsimp only at hSw); go_simp; all_goals with_reducible rfl)
              try dsimp only [Act.put]
              refine wpAnyJ_take (i := 9) (v := ?va9) [19] rfl (by kernel_rfl) (by kernel_rfl) (by kernel_rfl) (by kernel_rfl) (by kernel_rfl) (by kernel_rfl) (by kernel_rfl) (fun _ _ _ h => h) (Or.inl ⟨by rfl, ?ha9⟩) hS0 ?ra9
              case ha9 => (intro w' hSw; (try dsimp only at hSw); go_simp; all_goals with_reducible rfl)
              try dsimp only [Act.put]
              refine wpAnyJ_take (i := 10) (v := ?va10) [19] rfl (by kernel_rfl) (by kernel_rfl) (by kernel_rfl) (by kernel_rfl) (by kernel_rfl) (by kernel_rfl) (by kernel_rfl) (fun _ _ _ h => h) (Or.inl ⟨by rfl, ?ha10⟩) hS0 ?ra10
              case ha10 => (intro w' hSw; (try dsimp only at hSw); go_simp; all_goals with_reducible rfl)
              try dsimp only [Act.put]
              refine wpAnyJ_take (i := 11) (v := ?va11) [12, 14, 15, 16, 17, 19] rfl (by kernel_rfl) (by kernel_rfl) (by kernel_rfl) (by kernel_rfl) (by kernel_rfl) (by kernel_rfl) (by kernel_rfl) (fun _ _ _ h => h) (Or.inl ⟨by rfl, ?ha11⟩) hS0 ?ra11
              case ha11 => (intro w' hSw; (try dsimp only at hSw); go_simp; all_goals with_reducible rfl)
              try dsimp only [Act.put]
              refine wpAnyJ_take (i := 12) (v := ?va12) [14, 15, 16, 17, 19] rfl (by kernel_rfl) (by kernel_rfl) (by kernel_rfl) (by kernel_rfl) (by kernel_rfl) (by kernel_rfl) (by kernel_rfl) (fun _ _ _ h => h) (Or.inl ⟨by rfl, ?ha12⟩) hS0 ?ra12
              case ha12 => (intro w' hSw; (try dsimp only at hSw); go_simp; all_goals with_reducible rfl)
              try dsimp only [Act.put]
              refine wpAnyJ_take (i := 13) (v := ?va13) [14, 15, 16, 17, 19] rfl (by kernel_rfl) (by kernel_rfl) (by kernel_rfl) (by kernel_rfl) (by kernel_rfl) (by kernel_rfl) (by kernel_rfl) (fun _ _ _ h => h) (Or.inl ⟨by rfl, ?ha13⟩) hS0 ?ra13
              case ha13 => (intro w' hSw; (try dsimp only at hSw); go_simp; all_goals with_reducible rfl)
              try dsimp only [Act.put]
              refine wpAnyJ_take (i := 14) (v := ?va14) [15, 16, 17, 19] rfl (by kernel_rfl) (by kernel_rfl) (by kernel_rfl) (by kernel_rfl) (by kernel_rfl) (by kernel_rfl) (by kernel_rfl) (fun _ _ _ h => h) (Or.inl ⟨by rfl, ?ha14⟩) hS0 ?ra14
              case ha14 => (intro w' hSw; (try dsimp only at hSw); go_simp; all_goals with_reducible rfl)
              try dsimp only [Act.put]
              refine wpAnyJ_take (i := 15) (v := ?va15) [16, 17, 19] rfl (by kernel_rfl) (by kernel_rfl) (by kernel_rfl) (by kernel_rfl) (by kernel_rfl) (by kernel_rfl) (by kernel_rfl) (fun _ _ _ h => h) (Or.inl ⟨by rfl, ?ha15⟩) hS0 ?ra15
              case ha15 => (intro w' hSw; (try dsimp only at hSw); go_simp; all_goals with_reducible rfl)
              try dsimp only [Act.put]
              clear hS0
              refine wpAnyJ_two (i := 7) (j := 16) (by kernel_rfl) rfl rfl ?_ ?_
              · skip
                intro K hK
                go_simp
                have HG1 := Lib.hid (HG0.out.alloc (.cells #[.string ⟨x.toArray⟩] 9))
                have HP7 := Lib.hid (Pd.new HG0.out #[.string ⟨x.toArray⟩] 9)
                refine hK.out _ _ (fun _ => HSS.out _ _ _ _ _ HG1.out) ?_
                clear hK K
                refine wpAnyJ_two (i := 8) (j := 16) (by kernel_rfl) rfl rfl ?_ ?_
                · skip
                  intro K hK
                  refine step_append_lies _ rfl _ _ 25 rfl w7.heap.size 9 i0 _ 1 16 Tryz.underlying25 hi0 hz0 hz1 hz2 rfl (by decide) c0 ln.length (ln.map encS) rfl HG1.out.hn ⟨wr.heap.size, 0, none⟩ 1 1 [.string ⟨x.toArray⟩] rfl rfl HP7.out.news (fun u hu => by simp at hu; subst hu; rfl) (by decide) (by have := HLN.out.1; unfold maxLen; omega) (by have := HLN.out.1; omega) HG1.out.hb.size _ rfl ?_
                  intro g7 cap7 wa hrow hgr hat hlt
                  have HG2 := Lib.hid (HG1.out.names (rl_row hrow) hgr hat)
                  refine hK.out _ _ (fun _ => HSS.out _ _ _ _ _ HG2.out) ?_
                  clear hK K hrow hgr hat hlt
                  have hS18 := HSS.out _ _ _ _ _ HG2.out
                  refine wpAnyJ_take (i := 18) (v := ?va18a) [19] rfl (by kernel_rfl) (by kernel_rfl) (by kernel_rfl) (by kernel_rfl) (by kernel_rfl) (by kernel_rfl) (by kernel_rfl) (fun _ _ _ h => h) (Or.inl ⟨by rfl, ?ha18a⟩) hS18 ?ra18a
                  case ha18a => (intro w' hSw; (try dsimp only at hSw); go_simp; all_goals with_reducible rfl)
                  try dsimp only [Act.put]
                  clear hS18
                  refine wpAnyJ_one (i := 16) (by kernel_rfl) rfl ?_
                  intro K hK
                  go_simp
                  have HG3 := Lib.hid (HG2.out.alloc (.cells y.cells 44))
                  have HP16 := Lib.hid (Pd.new HG2.out y.cells 44)
                  refine hK.out _ _ (fun _ => HSS.out _ _ _ _ _ HG3.out) ?_
                  clear hK K
                  refine wpAnyJ_one (i := 17) (by kernel_rfl) rfl ?_
                  intro K hK
                  refine step_append_lies _ rfl _ _ 26 rfl w7.heap.size 44 i1 _ 9 72 Tryz.underlying26 hi1 hy0 hy1 hy2 rfl (by decide) c1 lv.length (valC lv) rfl HG3.out.hv ⟨wa.heap.size, 0, none⟩ 1 1 y.cells.toList rfl rfl HP16.out.newv (val_one y) (by decide) (by have := HLN.out.2; unfold maxLen; omega) (by have := HLN.out.2; omega) HG3.out.hb.size _ rfl ?_
                  intro g8 cap8 wb hrow hgr hat hlt
                  have HG4 := Lib.hid (HG3.out.values (ov_row hrow) hgr hat)
                  refine hK.out _ _ (fun _ => HSS.out _ _ _ _ _ HG4.out) ?_
                  clear hK K hrow hgr hat hlt HP7 HP16
                  refine wpAnyJ_one (i := 19) (by kernel_rfl) rfl ?_
                  intro K hK
                  obtain ⟨e0, e1, ef⟩ := HG4.out.cells
                  have ef0 := ef 0
                  have ef1 := ef 1
                  go_simp
                  have HH2 := Lib.hid (HG4.out.set0 (.slice (some ⟨g7, 0, none⟩) (ln.length + 1) cap7))
                  refine hK.out _ _ (fun h => absurd h (by decide)) ?_
                  clear hK K e0 e1 ef ef0 ef1
                  refine wpAnyJ_one (i := 20) (by kernel_rfl) rfl ?_
                  intro K hK
                  go_simp
                  refine hK.out _ _ (fun h => absurd h (by decide)) ?_
                  clear hK K
                  refine wpAnyJ_one (i := 21) (by kernel_rfl) rfl ?_
                  intro K hK
                  obtain ⟨e0, e1, ef⟩ := HH2.out.cells
                  have ef0 := ef 0
                  have ef1 := ef 1
                  go_simp
                  have HH3 := Lib.hid (HH2.out.set1 (.slice (some ⟨g8, 0, none⟩) (lv.length + 1) cap8))
                  refine hK.out _ _ (fun h => absurd h (by decide)) ?_
                  clear hK K e0 e1 ef ef0 ef1
                  refine wpAnyJ_done (by kernel_rfl) ?_
                  refine NoPanic.normal ?_
                  have HLL2 : Hid (ln ++ [x] = (selE fl (E.drop j)).map (·.1) ∧ lv ++ [y] = (selE fl (E.drop j)).map (·.2)) := by
                    obtain ⟨e1, e2⟩ := HLL.out
                    rw [HSQ.out, List.map_append, List.map_append, ← e1, ← e2]
                    exact ⟨rfl, rfl⟩
                  go_wp2_with fail
                  go_roundg j
                  case measure => omega
                  case rel => exact ⟨j, _, _, ln ++ [x], lv ++ [y], by omega, by omega, rfl, HLL2.out, HH3.out⟩
                · skip
                  intro K hK
                  go_simp
                  have HG2 := Lib.hid (HG1.out.alloc (.cells y.cells 44))
                  have hpn := Pd.new HG1.out y.cells 44
                  rw [World.size_alloc] at hpn
                  have HP16 := Lib.hid hpn
                  clear hpn
                  have HP7 := Lib.hid (HP7.out.alloc (.cells y.cells 44))
                  refine hK.out _ _ (fun _ => HSS.out _ _ _ _ _ HG2.out) ?_
                  clear hK K
                  refine wpAnyJ_one (i := 8) (by kernel_rfl) rfl ?_
                  intro K hK
                  refine step_append_lies _ rfl _ _ 25 rfl w7.heap.size 9 i0 _ 1 16 Tryz.underlying25 hi0 hz0 hz1 hz2 rfl (by decide) c0 ln.length (ln.map encS) rfl HG2.out.hn ⟨wr.heap.size, 0, none⟩ 1 1 [.string ⟨x.toArray⟩] rfl rfl HP7.out.news (fun u hu => by simp at hu; subst hu; rfl) (by decide) (by have := HLN.out.1; unfold maxLen; omega) (by have := HLN.out.1; omega) HG2.out.hb.size _ rfl ?_
                  intro g7 cap7 wa hrow hgr hat hlt
                  have HG3 := Lib.hid (HG2.out.names (rl_row hrow) hgr hat)
                  have HP16 := Lib.hid (HP16.out.names (n := ln.length + 1) (c := cap7) hgr hat)
                  refine hK.out _ _ (fun _ => HSS.out _ _ _ _ _ HG3.out) ?_
                  clear hK K hrow hgr hat hlt
                  have hS18 := HSS.out _ _ _ _ _ HG3.out
                  refine wpAnyJ_take (i := 18) (v := ?va18b) [19] rfl (by kernel_rfl) (by kernel_rfl) (by kernel_rfl) (by kernel_rfl) (by kernel_rfl) (by kernel_rfl) (by kernel_rfl) (fun _ _ _ h => h) (Or.inl ⟨by rfl, ?ha18b⟩) hS18 ?ra18b
                  case ha18b => (intro w' hSw; (try dsimp only at hSw); go_simp; all_goals with_reducible rfl)
                  try dsimp only [Act.put]
                  clear hS18
                  refine wpAnyJ_one (i := 17) (by kernel_rfl) rfl ?_
                  intro K hK
                  refine step_append_lies _ rfl _ _ 26 rfl w7.heap.size 44 i1 _ 9 72 Tryz.underlying26 hi1 hy0 hy1 hy2 rfl (by decide) c1 lv.length (valC lv) rfl HG3.out.hv ⟨wr.heap.size + 1, 0, none⟩ 1 1 y.cells.toList rfl rfl HP16.out.newv (val_one y) (by decide) (by have := HLN.out.2; unfold maxLen; omega) (by have := HLN.out.2; omega) HG3.out.hb.size _ rfl ?_
                  intro g8 cap8 wb hrow hgr hat hlt
                  have HG4 := Lib.hid (HG3.out.values (ov_row hrow) hgr hat)
                  refine hK.out _ _ (fun _ => HSS.out _ _ _ _ _ HG4.out) ?_
                  clear hK K hrow hgr hat hlt HP7 HP16
                  refine wpAnyJ_one (i := 19) (by kernel_rfl) rfl ?_
                  intro K hK
                  obtain ⟨e0, e1, ef⟩ := HG4.out.cells
                  have ef0 := ef 0
                  have ef1 := ef 1
                  go_simp
                  have HH2 := Lib.hid (HG4.out.set0 (.slice (some ⟨g7, 0, none⟩) (ln.length + 1) cap7))
                  refine hK.out _ _ (fun h => absurd h (by decide)) ?_
                  clear hK K e0 e1 ef ef0 ef1
                  refine wpAnyJ_one (i := 20) (by kernel_rfl) rfl ?_
                  intro K hK
                  go_simp
                  refine hK.out _ _ (fun h => absurd h (by decide)) ?_
                  clear hK K
                  refine wpAnyJ_one (i := 21) (by kernel_rfl) rfl ?_
                  intro K hK
                  obtain ⟨e0, e1, ef⟩ := HH2.out.cells
                  have ef0 := ef 0
                  have ef1 := ef 1
                  go_simp
                  have HH3 := Lib.hid (HH2.out.set1 (.slice (some ⟨g8, 0, none⟩) (lv.length + 1) cap8))
                  refine hK.out _ _ (fun h => absurd h (by decide)) ?_
                  clear hK K e0 e1 ef ef0 ef1
                  refine wpAnyJ_done (by kernel_rfl) ?_
                  refine NoPanic.normal ?_
                  have HLL2 : Hid (ln ++ [x] = (selE fl (E.drop j)).map (·.1) ∧ lv ++ [y] = (selE fl (E.drop j)).map (·.2)) := by
                    obtain ⟨e1, e2⟩ := HLL.out
                    rw [HSQ.out, List.map_append, List.map_append, ← e1, ← e2]
                    exact ⟨rfl, rfl⟩
                  go_wp2_with fail
                  go_roundg j
                  case measure => omega
                  case rel => exact ⟨j, _, _, ln ++ [x], lv ++ [y], by omega, by omega, rfl, HLL2.out, HH3.out⟩
              · skip
                intro K hK
                go_simp
                have HG1 := Lib.hid (HG0.out.alloc (.cells y.cells 44))
                have HP16 := Lib.hid (Pd.new HG0.out y.cells 44)
                refine hK.out _ _ (fun _ => HSS.out _ _ _ _ _ HG1.out) ?_
                clear hK K
                refine wpAnyJ_one (i := 7) (by kernel_rfl) rfl ?_
                intro K hK
                go_simp
                have HG2 := Lib.hid (HG1.out.alloc (.cells #[.string ⟨x.toArray⟩] 9))
                have hpn := Pd.new HG1.out #[.string ⟨x.toArray⟩] 9
                rw [World.size_alloc] at hpn
                have HP7 := Lib.hid hpn
                clear hpn
                refine hK.out _ _ (fun _ => HSS.out _ _ _ _ _ HG2.out) ?_
                clear hK K
                have HP16 := Lib.hid (HP16.out.alloc (.cells #[.string ⟨x.toArray⟩] 9))
                refine wpAnyJ_one (i := 8) (by kernel_rfl) rfl ?_
                intro K hK
                refine step_append_lies _ rfl _ _ 25 rfl w7.heap.size 9 i0 _ 1 16 Tryz.underlying25 hi0 hz0 hz1 hz2 rfl (by decide) c0 ln.length (ln.map encS) rfl HG2.out.hn ⟨wr.heap.size + 1, 0, none⟩ 1 1 [.string ⟨x.toArray⟩] rfl rfl HP7.out.news (fun u hu => by simp at hu; subst hu; rfl) (by decide) (by have := HLN.out.1; unfold maxLen; omega) (by have := HLN.out.1; omega) HG2.out.hb.size _ rfl ?_
                intro g7 cap7 wa hrow hgr hat hlt
                have HG3 := Lib.hid (HG2.out.names (rl_row hrow) hgr hat)
                have HP16 := Lib.hid (HP16.out.names (n := ln.length + 1) (c := cap7) hgr hat)
                refine hK.out _ _ (fun _ => HSS.out _ _ _ _ _ HG3.out) ?_
                clear hK K hrow hgr hat hlt
                have hS18 := HSS.out _ _ _ _ _ HG3.out
                refine wpAnyJ_take (i := 18) (v := ?va18c) [19] rfl (by kernel_rfl) (by kernel_rfl) (by kernel_rfl) (by kernel_rfl) (by kernel_rfl) (by kernel_rfl) (by kernel_rfl) (fun _ _ _ h => h) (Or.inl ⟨by rfl, ?ha18c⟩) hS18 ?ra18c
                case ha18c => (intro w' hSw; (try dsimp only at hSw); go_simp; all_goals with_reducible rfl)
                try dsimp only [Act.put]
                clear hS18
                refine wpAnyJ_one (i := 17) (by kernel_rfl) rfl ?_
                intro K hK
                refine step_append_lies _ rfl _ _ 26 rfl w7.heap.size 44 i1 _ 9 72 Tryz.underlying26 hi1 hy0 hy1 hy2 rfl (by decide) c1 lv.length (valC lv) rfl HG3.out.hv ⟨wr.heap.size, 0, none⟩ 1 1 y.cells.toList rfl rfl HP16.out.newv (val_one y) (by decide) (by have := HLN.out.2; unfold maxLen; omega) (by have := HLN.out.2; omega) HG3.out.hb.size _ rfl ?_
                intro g8 cap8 wb hrow hgr hat hlt
                have HG4 := Lib.hid (HG3.out.values (ov_row hrow) hgr hat)
                refine hK.out _ _ (fun _ => HSS.out _ _ _ _ _ HG4.out) ?_
                clear hK K hrow hgr hat hlt HP7 HP16
                refine wpAnyJ_one (i := 19) (by kernel_rfl) rfl ?_
                intro K hK
                obtain ⟨e0, e1, ef⟩ := HG4.out.cells
                have ef0 := ef 0
                have ef1 := ef 1
                go_simp
                have HH2 := Lib.hid (HG4.out.set0 (.slice (some ⟨g7, 0, none⟩) (ln.length + 1) cap7))
                refine hK.out _ _ (fun h => absurd h (by decide)) ?_
                clear hK K e0 e1 ef ef0 ef1
                refine wpAnyJ_one (i := 20) (by kernel_rfl) rfl ?_
                intro K hK
                go_simp
                refine hK.out _ _ (fun h => absurd h (by decide)) ?_
                clear hK K
                refine wpAnyJ_one (i := 21) (by kernel_rfl) rfl ?_
                intro K hK
                obtain ⟨e0, e1, ef⟩ := HH2.out.cells
                have ef0 := ef 0
                have ef1 := ef 1
                go_simp
                have HH3 := Lib.hid (HH2.out.set1 (.slice (some ⟨g8, 0, none⟩) (lv.length + 1) cap8))
                refine hK.out _ _ (fun h => absurd h (by decide)) ?_
                clear hK K e0 e1 ef ef0 ef1
                refine wpAnyJ_done (by kernel_rfl) ?_
                refine NoPanic.normal ?_
                have HLL2 : Hid (ln ++ [x] = (selE fl (E.drop j)).map (·.1) ∧ lv ++ [y] = (selE fl (E.drop j)).map (·.2)) := by
                  obtain ⟨e1, e2⟩ := HLL.out
                  rw [HSQ.out, List.map_append, List.map_append, ← e1, ← e2]
                  exact ⟨rfl, rfl⟩
                go_wp2_with fail
                go_roundg j
                case measure => omega
                case rel => exact ⟨j, _, _, ln ++ [x], lv ++ [y], by omega, by omega, rfl, HLL2.out, HH3.out⟩
          · obtain rfl : i = 0 := by omega
            have hge : ¬ (0 : Int) ≤ ((0 : Nat) : Int) - 1 := by omega
            have hln : ln.length ≤ 1000 ∧ lv.length ≤ 1000 := by
              obtain ⟨e1, e2⟩ := HLL.out
              have h1 := selE_len fl (E.drop 0)
              have h3 := HEl.out
              have h4 := HST.out.2.2.1
              rw [List.drop_zero] at h1 e1 e2
              rw [e1, e2, List.length_map, List.length_map]
              omega
            have HLL0 : Hid (ln = (selE fl E).map (·.1) ∧ lv = (selE fl E).map (·.2)) := by have := HLL.out; rw [List.drop_zero] at this; exact this
            have HNS2 : Hid (∀ z ∈ ln, z.length ≤ 1000) := fun z hz => by
              rw [HLL0.out.1] at hz
              obtain ⟨q, hq, rfl⟩ := List.mem_map.1 hz
              have h1 := sel_sub hq
              rw [HEZ.out] at h1
              exact HNS.out _ (List.of_mem_zip h1).1
            have HFI2 : Hid (∀ z ∈ lv, z.fit) := fun z hz => by
              rw [HLL0.out.2] at hz
              obtain ⟨q, hq, rfl⟩ := List.mem_map.1 hz
              have h1 := sel_sub hq
              rw [HEZ.out] at h1
              exact HFIT.out _ (List.of_mem_zip h1).2
            rw [← HLL0.out.1, ← HLL0.out.2] at HLAW
            have HSLr := Lib.hid (RL.sl HFr.out.hn)
            have HSVr := Lib.hid (OV.sv HFr.out.hv)
            have HMLr := Lib.hid HFr.out.lt
            have HCr := Lib.hid HFr.out.cells
            obtain ⟨An', cn', rfl, hcn, _⟩ := HSLr.out
            obtain ⟨Av', cv', rfl, hcv, _⟩ := HSVr.out
            have HT17 := Lib.hid fun (wz : World) (h : Below wr.heap.size wr wz) => bare_any t (by have := ((valid_iff t).1 HVT.out).2; omega) A c wz (HV.out _ (bl_tr HBr.out h))
            unfold tv at HT17
            have HSAB := Lib.hid (wf_SA (valid_bare HVT.out))
            have HAG := Lib.hid fun (wz : World) (h : Below wr.heap.size wr wz) (A9 : Option Addr) (c9 : Nat) (hq : TV wz wz.heap.size (bareT t) A9 c9) => agree13_any t A c (bareT t) A9 c9 (.slice An ns.length cn) (.slice Av vs.length cv) (.slice An' ln.length cn') (.slice Av' lv.length cv') ns ln vs lv wz (HV.out _ (bl_tr HBr.out h)) hq HST.out.1 HSAB.out (HM.out _ (bl_tr HBr.out h)) (HN.out _ (bl_tr HBr.out h)) (HVV.out _ (bl_tr HBr.out h)) ((HSLr.out.below h).more h.size) (HSVr.out.reach h) HNS.out HNS2.out HFIT.out HFI2.out HLAW.out
            unfold tv at HAG
            have HKP := Lib.hid fun (wz : World) (h : Below wr.heap.size wr wz) => And.intro (HX.out wz (bl_tr HB2r.out h)).1.c0 (And.intro (HX.out wz (bl_tr HB2r.out h)).1.c1 (And.intro (HX.out wz (bl_tr HB2r.out h)).1.c2 (And.intro (HX.out wz (bl_tr HB2r.out h)).1.c3 (And.intro (HX.out wz (bl_tr HB2r.out h)).1.c4 (And.intro (HX.out wz (bl_tr HB2r.out h)).2.c0 (And.intro (HX.out wz (bl_tr HB2r.out h)).2.c1 (And.intro ((h.cell (p := ⟨m, 0, none⟩) HMLr.out).trans HCr.out.1) ((h.cell (p := ⟨m, 1, none⟩) HMLr.out).trans HCr.out.2.1))))))))
            generalize hbt : bareT t = bt at *
            clear hbt k0 k1 k2 k3 k4 r0 r1
            go_upto_region 12 with (fail)
            have HDR : Hid (Below wr.heap.size wr wr.drew) := bl_dr (Below.refl _ _)
            go_region_held_law (fun w' => w'.cell? ⟨w.heap.size, 0, none⟩ = some (.int .i64 t.kind) ∧ w'.cell? ⟨w.heap.size, 1, none⟩ = some (.string ⟨t.name.toArray⟩) ∧ w'.cell? ⟨w.heap.size, 2, none⟩ = some (.string ⟨t.var.toArray⟩) ∧ w'.cell? ⟨w.heap.size, 3, none⟩ = some (.slice A t.args.length c) ∧ w'.cell? ⟨w.heap.size, 4, none⟩ = some (.string ⟨t.form.toArray⟩) ∧ w'.cell? ⟨w.heap.size + 1, 0, none⟩ = some (.slice An ns.length cn) ∧ w'.cell? ⟨w.heap.size + 1, 1, none⟩ = some (.slice Av vs.length cv) ∧ w'.cell? ⟨m, 0, none⟩ = some (.slice An' ln.length cn') ∧ w'.cell? ⟨m, 1, none⟩ = some (.slice Av' lv.length cv')) (first | with_reducible exact HKP.out wr.drew HDR.out | with_reducible exact HKP.out wy hby | with_reducible exact HKP.out wx hbx) (first | (go_at_call 17; (with_reducible refine (HT17.out _ HDR.out).mono ?_); rintro r wx ⟨A9, c9, rfl, htx, hbx0⟩; have hbx : Below wr.heap.size wr wx := bl_tr HDR.out hbx0) | (go_at_call 13; (with_reducible refine (HAG.out _ hbx _ _ htx).mono ?_); rintro r wy ⟨rfl, hby0⟩; have hby : Below wr.heap.size wr wy := bl_tr hbx hby0))
            all_goals
              have HBf := Lib.hid (bl_tr HBr.out hby)
              go_wp2_with fail
              go_ret
              exact ⟨rfl, HBf.out⟩
end Go.Proofs.YtknpigdpepmimaaGreatDoor
