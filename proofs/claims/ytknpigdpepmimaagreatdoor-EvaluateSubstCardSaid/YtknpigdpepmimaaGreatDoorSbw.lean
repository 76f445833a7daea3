/- The walk of EvaluateSubst. -/
import Derived.Test.YtknpigdpepmimaaGreatDoorM39
import Derived.Test.YtknpigdpepmimaaGreatDoorM51
import Derived.Test.YtknpigdpepmimaaGreatDoorFit
import Derived.Test.YtknpigdpepmimaaGreatDoorVst
import Derived.Deep.CutBlock
import Derived.Deep.DeepCutAuto
import Derived.Deep.RegionHeldLaw
namespace Go.Proofs.YtknpigdpepmimaaGreatDoor
open Go.RowKit Go.Maps

theorem txt_nat (n : Nat) (h : n < 256) : Q.txt (n : Int) 1 = Lib.decDigits n := by
  have hv : Q.validQ (n : Int) 1 = true := (wh_ok (n := (n : Int)) (by omega)).1
  unfold Q.txt
  rw [if_pos hv, if_pos rfl]
  unfold Lib.itoa
  rw [if_neg (by omega)]
  rfl
theorem byT_SA (n : Nat) (h : n < 256) : SA (byT n) := wf_SA (num_fact h).2.1

theorem laid5 {W : World} {S : Nat → Prop} {b : Nat} {t : T} {A : Option Addr} {c : Nat} {v0 v1 v2 v3 v4 : Value} (hk : Bk W b v0 v1 v2 v3 v4) (hv : TVS W S t A c) (hS : ∀ k, S k → k < W.heap.size) (hb : ¬ S b) :
    Bxd (((((W.setCell ⟨b, 0, none⟩ (.int .i64 t.kind)).setCell ⟨b, 1, none⟩ (.string ⟨t.name.toArray⟩)).setCell ⟨b, 2, none⟩ (.string ⟨t.var.toArray⟩)).setCell ⟨b, 3, none⟩ (.slice A t.args.length c)).setCell ⟨b, 4, none⟩ (.string ⟨t.form.toArray⟩)) b t A c ∧ TV (((((W.setCell ⟨b, 0, none⟩ (.int .i64 t.kind)).setCell ⟨b, 1, none⟩ (.string ⟨t.name.toArray⟩)).setCell ⟨b, 2, none⟩ (.string ⟨t.var.toArray⟩)).setCell ⟨b, 3, none⟩ (.slice A t.args.length c)).setCell ⟨b, 4, none⟩ (.string ⟨t.form.toArray⟩)) (((((W.setCell ⟨b, 0, none⟩ (.int .i64 t.kind)).setCell ⟨b, 1, none⟩ (.string ⟨t.name.toArray⟩)).setCell ⟨b, 2, none⟩ (.string ⟨t.var.toArray⟩)).setCell ⟨b, 3, none⟩ (.slice A t.args.length c)).setCell ⟨b, 4, none⟩ (.string ⟨t.form.toArray⟩)).heap.size t A c ∧ b < (((((W.setCell ⟨b, 0, none⟩ (.int .i64 t.kind)).setCell ⟨b, 1, none⟩ (.string ⟨t.name.toArray⟩)).setCell ⟨b, 2, none⟩ (.string ⟨t.var.toArray⟩)).setCell ⟨b, 3, none⟩ (.slice A t.args.length c)).setCell ⟨b, 4, none⟩ (.string ⟨t.form.toArray⟩)).heap.size := by
  have h := (hk.set5 (.int .i64 t.kind) (.string ⟨t.name.toArray⟩) (.string ⟨t.var.toArray⟩) (.slice A t.args.length c) (.string ⟨t.form.toArray⟩)).cells
  refine ⟨⟨h.1.1, h.1.2.1, h.1.2.2.1, h.1.2.2.2.1, h.1.2.2.2.2⟩, (hv.set5 b _ _ _ _ _ hb).tv fun k hk' => ?_, h.2.2⟩
  rw [size_set5]; exact hS k hk'
theorem two_set {W : World} {b : Nat} {x y : Value} {ty : TypeId} (h : W.heap[b]? = some (.cells #[x, y] ty (0, 0))) (u v : Value) : Rmx ((W.setCell ⟨b, 0, none⟩ u).setCell ⟨b, 1, none⟩ v) b u v := by
  have c0 : W.cell? ⟨b, 0, none⟩ = some x := by simp [World.cell?, h]
  have c1 : W.cell? ⟨b, 1, none⟩ = some y := by simp [World.cell?, h]
  refine ⟨?_, ?_⟩
  · rw [World.cell?_setCell_other _ _ _ _ (adr_ne (by omega))]; exact World.cell?_setCell_same _ _ _ c0
  · refine World.cell?_setCell_same _ _ _ (u := y) ?_
    rw [World.cell?_setCell_other _ _ _ _ (adr_ne (by omega))]; exact c1
theorem two_heap (W : World) (b k : Nat) (u v : Value) (h : k ≠ b) : ((W.setCell ⟨b, 0, none⟩ u).setCell ⟨b, 1, none⟩ v).heap[k]? = W.heap[k]? := by
  rw [Below.heap_setCell _ _ _ _ h, Below.heap_setCell _ _ _ _ h]
theorem al_heap (W : World) (o : Obj) (k : Nat) (h : k < W.heap.size) : (W.alloc o).heap[k]? = W.heap[k]? := (b1 W o).block k h

set_option maxRecDepth 100000 in
set_option maxHeartbeats 4000000 in
theorem substE_walk (t : T) (A : Option Addr) (c : Nat) (An Av : Option Addr) (cn cv : Nat) (ns : List W8) (vs : List V) (n0 n1 : Nat) (w : World) (hv : TV w w.heap.size t A c) (hn : SL w w.heap.size (.slice An ns.length cn) ns) (hvv : SV w (.slice Av vs.length cv) vs) (hb : n0 ≤ 255 ∧ n1 ≤ 255) (hfit : ∀ x ∈ vs, x.fit) (hm : Max w) :
    Calls Tryz.prog 8 #[.agg (tv t A c), .agg #[.slice An ns.length cn, .slice Av vs.length cv], .agg #[.int .u8 n0, .int .u8 n1]] w fun e w' => e = .returned (.bool true) ∧ Below w.heap.size w w' := by
  have hb3 := b3 w (.cells (tv t A c) 24) (.cells #[.slice An ns.length cn, .slice Av vs.length cv] 28) (.cells #[.int .u8 n0, .int .u8 n1] 63)
  have HB := Lib.hid hb3
  have HM := Lib.hid fun (wz : World) (h : Below w.heap.size w wz) => hm.reach h
  have HV := Lib.hid fun (wz : World) (h : Below w.heap.size w wz) => hv.reach h
  have HN := Lib.hid fun (wz : World) (h : Below w.heap.size w wz) => (hn.below h).more h.size
  have HN0 := Lib.hid fun (wz : World) (h : Below w.heap.size w wz) => hn.below h
  have HVV := Lib.hid fun (wz : World) (h : Below w.heap.size w wz) => hvv.reach h
  have HX1 : Hid (Bxd (((w.alloc (.cells (tv t A c) 24)).alloc (.cells #[.slice An ns.length cn, .slice Av vs.length cv] 28)).alloc (.cells #[.int .u8 n0, .int .u8 n1] 63)) w.heap.size t A c) := (bxd_new w t A c).below ((b1 _ _).trans ((b1 _ _).mono (by simp))) (by simp)
  have HX2 : Hid (Rmx (((w.alloc (.cells (tv t A c) 24)).alloc (.cells #[.slice An ns.length cn, .slice Av vs.length cv] 28)).alloc (.cells #[.int .u8 n0, .int .u8 n1] 63)) (w.heap.size + 1) (.slice An ns.length cn) (.slice Av vs.length cv)) := by
    have h := (rmx_new (w.alloc (.cells (tv t A c) 24)) (.slice An ns.length cn) (.slice Av vs.length cv)).below (b1 _ (.cells #[.int .u8 n0, .int .u8 n1] 63)) (by simp)
    rw [World.size_alloc] at h
    exact h
  have HX3 : Hid (Rmx (((w.alloc (.cells (tv t A c) 24)).alloc (.cells #[.slice An ns.length cn, .slice Av vs.length cv] 28)).alloc (.cells #[.int .u8 n0, .int .u8 n1] 63)) (w.heap.size + 1 + 1) (.int .u8 n0) (.int .u8 n1)) := by
    have h := two_new ((w.alloc (.cells (tv t A c) 24)).alloc (.cells #[.slice An ns.length cn, .slice Av vs.length cv] 28)) (.int .u8 n0) (.int .u8 n1) 63
    rw [World.size_alloc, World.size_alloc] at h
    exact h
  have HSZ : Hid ((((w.alloc (.cells (tv t A c) 24)).alloc (.cells #[.slice An ns.length cn, .slice Av vs.length cv] 28)).alloc (.cells #[.int .u8 n0, .int .u8 n1] 63)).heap.size = w.heap.size + 3) := by show _ = _; simp
  have HFW := Lib.hid fun (wz : World) (h : Below w.heap.size w wz) => few10_any t A c An Av cn cv ns vs wz (hv.reach h) ((hn.below h).more h.size) (by obtain ⟨_, _, e, h2, _⟩ := hvv; omega)
  have HFT := Lib.hid fun (wz : World) (h : Below w.heap.size w wz) (hs : ∀ x ∈ ns, x.length ≤ 1000) => rfits_any (.slice An ns.length cn) (.slice Av vs.length cv) ns vs wz ((hn.below h).more h.size) (hvv.reach h) hs hfit
  have HFIT := Lib.hid hfit
  have HVC : Hid ((vs.length ≤ cv ∧ cv ≤ 9223372036854775807) ∧ (vs ≠ [] → ∃ b o, Av = some ⟨b, o, none⟩)) := by
    obtain ⟨A', c', e, h2, h3⟩ := hvv
    obtain ⟨rfl, _, rfl⟩ := Value.slice.inj e
    exact ⟨h2, fun hne => by obtain ⟨b, o, e, _⟩ := h3 hne; exact ⟨b, o, e⟩⟩
  have HNC : Hid (ns ≠ [] → ∃ b o, An = some ⟨b, o, none⟩ ∧ b < w.heap.size ∧ ∀ i (h : i < ns.length), w.cell? ⟨b, o + i, none⟩ = some (.string ⟨ns[i].toArray⟩)) := by
    obtain ⟨A', c', e, h2, h3⟩ := hn
    obtain ⟨rfl, _, rfl⟩ := Value.slice.inj e
    exact h3
  have hnl : ns.length ≤ 9223372036854775807 := by
    obtain ⟨A', c', e, h2, h3⟩ := hn
    omega
  clear hv hn hvv hm hb3 hfit
  unfold tv at HFW
  have HTV : Hid (tv t A c = #[.int .i64 t.kind, .string ⟨t.name.toArray⟩, .string ⟨t.var.toArray⟩, .slice A t.args.length c, .string ⟨t.form.toArray⟩]) := rfl
  go_enter Tryz.func8, Tryz.ntmps8
  go_upto_region 1 with (fail)
  generalize ((w.alloc (.cells (tv t A c) 24)).alloc (.cells #[.slice An ns.length cn, .slice Av vs.length cv] 28)).alloc (.cells #[.int .u8 n0, .int .u8 n1] 63) = w1 at *
  go_wp2_with fail
  refine (awake9_any _ (HM.out _ HB.out)).mono ?_
  rintro e w2 ⟨rfl, hb2⟩
  have hls : w.heap.size + 3 ≤ w1.heap.size := by have := HSZ.out; omega
  have HB2 := Lib.hid (bl_tr HB.out hb2)
  have HX := Lib.hid fun (wz : World) (h : Below w2.heap.size w2 wz) => And.intro (HX1.out.below (bl_tr hb2 h) (by omega)) (And.intro (HX2.out.below (bl_tr hb2 h) (by omega)) (HX3.out.below (bl_tr hb2 h) (by omega)))
  have HZ2 : Hid (w.heap.size + 3 ≤ w2.heap.size) := Nat.le_trans hls hb2.size
  clear HX1 HX2 HX3 hls hb2
  obtain ⟨⟨k0, k1, k2, k3, k4⟩, ⟨r0, r1⟩, ⟨s0, s1⟩⟩ := HX.out w2 (Below.refl _ _)
  have HC1 := Lib.hid (HFW.out w2 HB2.out)
  go_wp2_with fail
  refine HC1.out.mono ?_
  rintro e w3 ⟨rfl, hb3⟩
  have HB3 := Lib.hid (bl_tr HB2.out hb3)
  have HB23 := Lib.hid hb3
  clear hb3 k0 k1 k2 k3 k4 r0 r1 s0 s1 HC1
  obtain ⟨⟨k0, k1, k2, k3, k4⟩, ⟨r0, r1⟩, ⟨s0, s1⟩⟩ := HX.out w3 HB23.out
  cases hfe : fewE t ns vs with
  | false =>
    clear hfe
    go_wp2_with fail
    go_ret
    exact ⟨rfl, HB3.out⟩
  | true =>
    have HST := Lib.hid (fewE_SA hfe)
    have HNS : Hid (∀ x ∈ ns, x.length ≤ 1000) := fun x hx => Nat.le_trans (HST.out.2.1 x hx) (by omega)
    have HC2 := Lib.hid (HFT.out w3 HB3.out HNS.out)
    clear hfe HFW HFT
    go_wp2_with fail
    refine HC2.out.mono ?_
    rintro e w4 ⟨rfl, hb4⟩
    have HB24 := Lib.hid (bl_tr HB23.out hb4)
    have HB4 := Lib.hid (bl_tr HB2.out HB24.out)
    clear hb4 HC2 k0 k1 k2 k3 k4 r0 r1 s0 s1
    obtain ⟨⟨k0, k1, k2, k3, k4⟩, ⟨r0, r1⟩, ⟨s0, s1⟩⟩ := HX.out w4 HB24.out
    cases hev : envB ns vs with
    | false =>
      clear hev
      go_wp2_with fail
      go_ret
      exact ⟨rfl, HB4.out⟩
    | true =>
      have HEV := Lib.hid hev
      clear hev
      by_cases hz : ns.length = 0
      · have hzb : ((ns.length : Int) == 0) = true := by rw [hz]; rfl
        go_wp2_with fail
        go_ret
        exact ⟨rfl, HB4.out⟩
      · have hzb : ((ns.length : Int) == 0) = false := by rw [beq_eq_false_iff_ne]; omega
        have hnz : (ns.length : Int) ≠ 0 := by omega
        go_upto_region 6 with (fail)
        obtain ⟨k, hkd⟩ : ∃ k, k = n0 % ns.length := ⟨_, rfl⟩
        have hk : k < ns.length := by rw [hkd]; exact Nat.mod_lt _ (by omega)
        have hke : (n0 : Int) % (ns.length : Int) = (k : Int) := by rw [hkd]; exact (Int.natCast_emod _ _).symm
        rw [hke]
        clear hkd hke
        have hEq := (envB_parts HEV.out).1.1
        have hk2 : k < vs.length := by omega
        have HEQ := Lib.hid hEq
        clear hEq
        go_upto_region 7 with (fail)
        have HB45 := Lib.hid (b1 w4 (.cells #[.int .i64 n1, .int .i64 1] 64))
        have HB25 := Lib.hid (bl_tr HB24.out HB45.out)
        have HB5 := Lib.hid (bl_tr HB2.out HB25.out)
        have HQ5 : Hid (Rmx (w4.alloc (.cells #[.int .i64 n1, .int .i64 1] 64)) w4.heap.size (.int .i64 n1) (.int .i64 1)) := two_new w4 _ _ 64
        have HZ5 : Hid (w4.heap.size < (w4.alloc (.cells #[.int .i64 n1, .int .i64 1] 64)).heap.size) := by show _ < _; simp
        clear k0 k1 k2 k3 k4 r0 r1 s0 s1 HB45
        generalize w4.alloc (.cells #[.int .i64 n1, .int .i64 1] 64) = w5 at *
        obtain ⟨q0, q1⟩ := HQ5.out
        have HTX := Lib.hid (Q.refText_any n1 1 w5 (by omega) (by omega) (by omega) (by omega))
        rw [txt_nat n1 (by omega)] at HTX
        go_wp2_with fail
        refine HTX.out.mono ?_
        rintro e w6 ⟨rfl, hb6⟩
        have HQ6 : Hid (Rmx w6 w4.heap.size (.int .i64 n1) (.int .i64 1)) := HQ5.out.below hb6 HZ5.out
        have HZ6 : Hid (w4.heap.size < w6.heap.size) := Nat.lt_of_lt_of_le HZ5.out hb6.size
        have HB26 := Lib.hid (bl_tr HB25.out hb6)
        have HB6 := Lib.hid (bl_tr HB2.out HB26.out)
        clear hb6 HQ5 HZ5 q0 q1 HTX
        go_upto_region 8 with (fail)
        have HBX : Hid (Bxd (w6.alloc (.cells #[.int .i64 1, .string ⟨(Lib.decDigits n1).toArray⟩, .string ⟨#[]⟩, .slice none 0 0, .string ⟨#[]⟩] 24)) w6.heap.size (byT n1) none 0) := bxd_new w6 (byT n1) none 0
        have HB67 := Lib.hid (b1 w6 (.cells #[.int .i64 1, .string ⟨(Lib.decDigits n1).toArray⟩, .string ⟨#[]⟩, .slice none 0 0, .string ⟨#[]⟩] 24))
        have HB27 := Lib.hid (bl_tr HB26.out HB67.out)
        have HB7 := Lib.hid (bl_tr HB2.out HB27.out)
        have HQ7 : Hid (Rmx (w6.alloc (.cells #[.int .i64 1, .string ⟨(Lib.decDigits n1).toArray⟩, .string ⟨#[]⟩, .slice none 0 0, .string ⟨#[]⟩] 24)) w4.heap.size (.int .i64 n1) (.int .i64 1)) := HQ6.out.below HB67.out HZ6.out
        have HZ7 : Hid (w4.heap.size < (w6.alloc (.cells #[.int .i64 1, .string ⟨(Lib.decDigits n1).toArray⟩, .string ⟨#[]⟩, .slice none 0 0, .string ⟨#[]⟩] 24)).heap.size ∧ w6.heap.size < (w6.alloc (.cells #[.int .i64 1, .string ⟨(Lib.decDigits n1).toArray⟩, .string ⟨#[]⟩, .slice none 0 0, .string ⟨#[]⟩] 24)).heap.size) := by have := HZ6.out; constructor <;> simp <;> omega
        clear HB67 HQ6 HZ6
        generalize w6.alloc (.cells #[.int .i64 1, .string ⟨(Lib.decDigits n1).toArray⟩, .string ⟨#[]⟩, .slice none 0 0, .string ⟨#[]⟩] 24) = w7 at *
        obtain ⟨nb, no, rfl, hnb, hnc⟩ := HNC.out (by intro e; rw [e] at hz; exact hz rfl)
        have HK1 := Lib.hid (hnc k hk)
        have HID := Lib.hid (envB_ident HEV.out _ (List.getElem_mem hk))
        have HXL := Lib.hid (HNS.out _ (List.getElem_mem hk))
        have HSV := Lib.hid (subst_value (t := t) hk (show n1 < 256 by omega) · HEV.out)
        have HKN := Lib.hid hnb
        have HVS := Lib.hid fun (wz : World) (h : Below w7.heap.size w7 wz) => subst33_any t (byT n1) ns[k] A c none 0 wz (HV.out wz (bl_tr HB7.out h)) ⟨⟨Nat.le_refl _, by omega⟩, fun h => absurd rfl h⟩ HST.out.1 (byT_SA n1 (by omega)) HXL.out (HM.out wz (bl_tr HB7.out h))
        rw [show tv (byT n1) none 0 = #[.int .i64 1, .string ⟨(Lib.decDigits n1).toArray⟩, .string ⟨#[]⟩, .slice none 0 0, .string ⟨#[]⟩] from rfl, HTV.out] at HVS
        clear hnc HNC hnb
        generalize hx : ns[k] = x at *
        have HXE := Lib.hid hx
        clear hx
        have HKP := Lib.hid fun (wz : World) (h : Below w7.heap.size w7 wz) => And.intro (HX.out wz (bl_tr HB27.out h)).1.c0 (And.intro (HX.out wz (bl_tr HB27.out h)).1.c1 (And.intro (HX.out wz (bl_tr HB27.out h)).1.c2 (And.intro (HX.out wz (bl_tr HB27.out h)).1.c3 (And.intro (HX.out wz (bl_tr HB27.out h)).1.c4 (And.intro (HX.out wz (bl_tr HB27.out h)).2.1.1 (And.intro (((bl_tr HB7.out h).cell (p := ⟨nb, no + k, none⟩) HKN.out).trans HK1.out) (And.intro (HBX.out.below h HZ7.out.2).c0 (And.intro (HBX.out.below h HZ7.out.2).c1 (And.intro (HBX.out.below h HZ7.out.2).c2 (And.intro (HBX.out.below h HZ7.out.2).c3 (HBX.out.below h HZ7.out.2).c4))))))))))
        generalize hsb : sbT t x (byT n1) = sb at *
        have HSB := Lib.hid hsb
        clear hsb
        go_cut [10, 11] (fun s10 s11 wx => ∃ (m : Nat) (A9 : Option Addr) (c9 : Nat), s10 = .pointer (some ⟨m, 0, none⟩) ∧ s11 = .int .i64 sb.2 ∧ Aside (Bxd wx m sb.1 A9 c9) ∧ Aside (TV wx wx.heap.size sb.1 A9 c9) ∧ Aside (Below w7.heap.size w7 wx) ∧ Aside (m < wx.heap.size))
        case first =>
          go_region_held_law (fun w' => w'.cell? ⟨w.heap.size, 0, none⟩ = some (.int .i64 t.kind) ∧ w'.cell? ⟨w.heap.size, 1, none⟩ = some (.string ⟨t.name.toArray⟩) ∧ w'.cell? ⟨w.heap.size, 2, none⟩ = some (.string ⟨t.var.toArray⟩) ∧ w'.cell? ⟨w.heap.size, 3, none⟩ = some (.slice A t.args.length c) ∧ w'.cell? ⟨w.heap.size, 4, none⟩ = some (.string ⟨t.form.toArray⟩) ∧ w'.cell? ⟨w.heap.size + 1, 0, none⟩ = some (.slice (some ⟨nb, no, none⟩) ns.length cn) ∧ w'.cell? ⟨nb, no + k, none⟩ = some (.string ⟨x.toArray⟩) ∧ w'.cell? ⟨w6.heap.size, 0, none⟩ = some (.int .i64 1) ∧ w'.cell? ⟨w6.heap.size, 1, none⟩ = some (.string ⟨(Lib.decDigits n1).toArray⟩) ∧ w'.cell? ⟨w6.heap.size, 2, none⟩ = some (.string ⟨#[]⟩) ∧ w'.cell? ⟨w6.heap.size, 3, none⟩ = some (.slice none 0 0) ∧ w'.cell? ⟨w6.heap.size, 4, none⟩ = some (.string ⟨#[]⟩)) ((refine HKP.out _ ?_; repeat (first | with_reducible exact Below.refl _ _ | with_reducible apply bl_dr | with_reducible apply bl_al | with_reducible refine bl_st ?_ hk2 _ | with_reducible refine bl_tr ?_ (by assumption)))) ((go_at_call 28; (with_reducible refine (HVS.out _ (by show Below _ _ _; repeat (first | with_reducible exact Below.refl _ _ | with_reducible apply bl_dr | with_reducible apply bl_al))).mono ?_); rintro r wz ⟨A9, c9, rfl, hvz, hbz⟩; unfold tv; first | (have hk : Bk wz w7.heap.size (.int .i64 0) (.string ⟨#[]⟩) (.string ⟨#[]⟩) (.slice none 0 0) (.string ⟨#[]⟩) := Bk.reach (Bk.new w7.drew (.int .i64 0) (.string ⟨#[]⟩) (.string ⟨#[]⟩) (.slice none 0 0) (.string ⟨#[]⟩)) hbz; obtain ⟨⟨y0, y1, y2, y3, y4⟩, yf, yl⟩ := hk.cells; have hk2 : w7.heap.size ≤ w7.heap.size := Nat.le_refl _) | (have hk2 : w7.heap.size ≤ wz.heap.size := hbz.size)))
          · have h1 := (hvz.reach (fun k h => h.2) (b1 wz (.cells (tv sb.1 A9 c9) 24))).tv (B := (wz.alloc (.cells (tv sb.1 A9 c9) 24)).heap.size) (fun k h => by rw [World.size_alloc]; exact Nat.lt_succ_of_lt h.2)
            go_wp2_with fail
            go_meet
            case rel => exact ⟨wz.heap.size, A9, c9, rfl, rfl, bxd_new wz sb.1 A9 c9, h1, bl_al (bl_tr (bl_dr (Below.refl _ _)) hbz) _, by rw [World.size_alloc]; exact Nat.lt_succ_self _⟩
          · have h1 := laid5 hk hvz (fun k h => h.2) (fun h => by have h2 : (w7.alloc (.cells #[.int .i64 0, .string ⟨#[]⟩, .string ⟨#[]⟩, .slice none 0 0, .string ⟨#[]⟩] 24)).heap.size ≤ w7.heap.size := h.1; rw [World.size_alloc] at h2; omega)
            go_wp2_with fail
            go_meet
            case rel => exact ⟨w7.heap.size, A9, c9, rfl, rfl, h1.1, h1.2.1, below5s (bl_tr (bl_al (bl_dr (Below.refl _ _)) _) hbz) hk2 _ _ _ _ _, h1.2.2⟩
        case rest =>
          obtain ⟨m1, A9, c9, rfl, rfl, HBS, HTS, HB78, HMS⟩ := hcut
          rename World => w8
          have HB28 := Lib.hid (bl_tr HB27.out HB78.out)
          have HB8 := Lib.hid (bl_tr HB2.out HB28.out)
          have HQ8 : Hid (Rmx w8 w4.heap.size (.int .i64 n1) (.int .i64 1)) := HQ7.out.below HB78.out HZ7.out.1
          have HZ8 : Hid (w4.heap.size < w8.heap.size) := Nat.lt_of_lt_of_le HZ7.out.1 HB78.out.size
          clear HQ7 HZ7 HB78 HKP HVS HBX
          obtain ⟨⟨k0, k1, k2, k3, k4⟩, ⟨r0, r1⟩, _⟩ := HX.out w8 HB28.out
          cases hvt : validB t with
          | false =>
            have e := HSB.out.symm.trans (sub_bad (u := byT n1) (x := x) hvt)
            have HC3 := Lib.hid (rvalid_any t A c w8 (HV.out _ HB8.out) HST.out.1)
            rw [hvt, HTV.out] at HC3
            rw [show sb.2 = 1 by rw [e]]
            clear e hvt
            go_wp2_with fail
            refine HC3.out.mono ?_
            rintro e w9 ⟨rfl, hb9⟩
            have HB9 := Lib.hid (bl_tr HB8.out hb9)
            go_wp2_with fail
            go_ret
            exact ⟨rfl, HB9.out⟩
          | true =>
            have HG := Lib.hid (sub_good (x := x) (show n1 < 256 by omega) hvt HID.out)
            have HVAL := Lib.hid (HSV.out hvt)
            have HSE := Lib.hid (HSB.out.symm.trans HG.out.1)
            have HSA2 := Lib.hid (wf_SA HG.out.2)
            rw [show sb.2 = 0 by rw [HSE.out]]
            have HS1 : Hid (sb.1 = subT t x (byT n1)) := by show _ = _; rw [HSE.out]
            rw [← HS1.out] at HVAL HSA2
            clear HG HSE HSV hvt
            generalize sb.1 = u at *
            obtain ⟨vb, vo, rfl⟩ := HVC.out.2 (by intro e; rw [e] at hk2; simp at hk2)
            have HVL : Hid (vs.length ≤ 1000) := by have := HST.out.2.2.2; show _ ≤ _; omega
            have hvl : vs.length ≤ 9223372036854775807 := by have := HVL.out; omega
            have HKP := Lib.hid fun (wz : World) (h : Below w8.heap.size w8 wz) => And.intro (HX.out wz (bl_tr HB28.out h)).2.1.1 (HX.out wz (bl_tr HB28.out h)).2.1.2
            have HK9 := Lib.hid hk2
            clear hk2 k0 k1 k2 k3 k4
            go_upto_region 11 with (fail)
            go_cut [12] (fun s12 wx => ∃ m g cg : Nat, s12 = .pointer (some ⟨m, 0, none⟩) ∧ Aside (Rmx wx m (.slice (some ⟨nb, no, none⟩) ns.length cn) (.slice (some ⟨g, 0, none⟩) vs.length cg)) ∧ Aside (LV wx g vs) ∧ Aside (∃ cur, wx.heap[g]? = some (.cells cur 44 (0, 0))) ∧ Aside (vs.length ≤ cg ∧ cg ≤ 9223372036854775807) ∧ Aside (Below w8.heap.size w8 wx) ∧ Aside (g ≠ m ∧ w8.heap.size ≤ g ∧ g < wx.heap.size ∧ m < wx.heap.size))
            case first =>
              have OWN1 : Hid (OV ((w8.drew.alloc (.cells #[.slice none 0 0, .slice none 0 0] 28)).alloc (.cells #[] 44)) w8.heap.size (.slice (some ⟨w8.heap.size + 1, 0, none⟩) 0 0) []) := by
                have h := ov_lit (w8.drew.alloc (.cells #[.slice none 0 0, .slice none 0 0] 28)) w8.heap.size (by rw [World.size_alloc]; exact Nat.le_succ _)
                rw [World.size_alloc] at h
                exact h
              have HL1 : Hid (w8.heap.size < ((w8.drew.alloc (.cells #[.slice none 0 0, .slice none 0 0] 28)).alloc (.cells #[] 44)).heap.size) := by
                show _ < _
                rw [World.size_alloc, World.size_alloc]
                exact Nat.lt_succ_of_lt (Nat.lt_succ_self _)
              have HL2 : Hid (w8.heap.size + 1 < ((w8.drew.alloc (.cells #[] 44)).alloc (.cells #[.slice none 0 0, .slice none 0 0] 28)).heap.size) := by
                show _ < _
                rw [World.size_alloc, World.size_alloc]
                exact Nat.lt_succ_self _
              have HP1 : Hid (((w8.drew.alloc (.cells #[.slice none 0 0, .slice none 0 0] 28)).alloc (.cells #[] 44)).heap[w8.heap.size]? = some (.cells #[.slice none 0 0, .slice none 0 0] 28 (0, 0))) := (al_heap _ _ _ (by rw [World.size_alloc]; exact Nat.lt_succ_self _)).trans (heap_alloc_new w8.drew _)
              have HP2 : Hid (((w8.drew.alloc (.cells #[] 44)).alloc (.cells #[.slice none 0 0, .slice none 0 0] 28)).heap[w8.heap.size + 1]? = some (.cells #[.slice none 0 0, .slice none 0 0] 28 (0, 0))) := by
                have h := heap_alloc_new (w8.drew.alloc (.cells #[] 44)) (.cells #[.slice none 0 0, .slice none 0 0] 28)
                rw [World.size_alloc] at h
                exact h
              go_region_held_law (fun w' => w'.cell? ⟨w.heap.size + 1, 0, none⟩ = some (.slice (some ⟨nb, no, none⟩) ns.length cn) ∧ w'.cell? ⟨w.heap.size + 1, 1, none⟩ = some (.slice (some ⟨vb, vo, none⟩) vs.length cv)) ((refine HKP.out _ ?_; repeat (first | with_reducible exact Below.refl _ _ | with_reducible apply bl_dr | with_reducible apply bl_al | with_reducible refine bl_st ?_ hk2 _ | with_reducible assumption))) ((refine app26w _ rfl (.tmp 69) (.tmp 71) rfl w8.heap.size _ (by first | exact ov_lit w8.drew w8.heap.size (Nat.le_refl _) | exact OWN1.out | exact World.ownsRow.alloc (ov_lit w8.drew w8.heap.size (Nat.le_refl _)) _) rfl (.slice (some ⟨vb, vo, none⟩) vs.length cv) vs rfl (HVV.out _ (bl_tr HB8.out (by show Below _ _ _; repeat (first | with_reducible exact Below.refl _ _ | with_reducible apply bl_dr | with_reducible apply bl_al | with_reducible assumption)))) (fun c h => by cases h) HVL.out (Below.size (by show Below _ _ _; repeat (first | with_reducible exact Below.refl _ _ | with_reducible apply bl_dr | with_reducible apply bl_al | with_reducible assumption))) ?_; intro g7 c7 wz hov hgr hor; have hbz : Below w8.heap.size w8 wz := Below.grown (by show Below _ _ _; repeat (first | with_reducible exact Below.refl _ _ | with_reducible apply bl_dr | with_reducible apply bl_al | with_reducible assumption)) hgr (Below.size (by show Below _ _ _; repeat (first | with_reducible exact Below.refl _ _ | with_reducible apply bl_dr | with_reducible apply bl_al | with_reducible assumption))) (fun k hk => by have := Option.some.inj hk; omega); obtain ⟨hlv, hcc, _, hg8, hgz, hcur⟩ := hov.lv; first | (have hq : (w8.drew.alloc (.cells #[] 44)).grownBy wz (some w8.heap.size) := hgr; have hk2 : w8.heap.size ≤ wz.heap.size := hbz.size) | (have hk : wz.heap[w8.heap.size]? = some (.cells #[.slice none 0 0, .slice none 0 0] 28 (0, 0)) := (hgr.block _ HL1.out (fun e => by have := Option.some.inj e; omega)).trans (HP1.out); have y0 : wz.cell? ⟨w8.heap.size, 0, none⟩ = some (.slice none 0 0) := (by simp [World.cell?, hk]); have y1 : wz.cell? ⟨w8.heap.size, 1, none⟩ = some (.slice none 0 0) := (by simp [World.cell?, hk]); have yf : ∀ i, wz.frozen? ⟨w8.heap.size, i, none⟩ = false := (fun i => by simp [World.frozen?, hk]); have yf0 := yf 0; have yf1 := yf 1; have hk2 : w8.heap.size ≤ w8.heap.size := (by omega); have hne : g7 ≠ w8.heap.size := (by have g1 := HL1.out; have g2 := HL2.out; rcases hor with h | h <;> first | omega | (simp at h; omega))) | (have hk : wz.heap[w8.heap.size + 1]? = some (.cells #[.slice none 0 0, .slice none 0 0] 28 (0, 0)) := (hgr.block _ HL2.out (fun e => by have := Option.some.inj e; omega)).trans (HP2.out); have y0 : wz.cell? ⟨w8.heap.size + 1, 0, none⟩ = some (.slice none 0 0) := (by simp [World.cell?, hk]); have y1 : wz.cell? ⟨w8.heap.size + 1, 1, none⟩ = some (.slice none 0 0) := (by simp [World.cell?, hk]); have yf : ∀ i, wz.frozen? ⟨w8.heap.size + 1, i, none⟩ = false := (fun i => by simp [World.frozen?, hk]); have yf0 := yf 0; have yf1 := yf 1; have hk2 : w8.heap.size ≤ w8.heap.size + 1 := (by omega); have hne : g7 ≠ w8.heap.size + 1 := (by have g1 := HL1.out; have g2 := HL2.out; rcases hor with h | h <;> first | omega | (simp at h; omega)))))
              · go_wp2_with fail
                go_meet
                case rel => exact ⟨wz.heap.size, g7, c7, rfl, rmx_new wz _ _, hlv.block (al_heap wz _ g7 hgz), (by obtain ⟨cur, h⟩ := hcur; exact ⟨cur, (al_heap _ _ _ hgz).trans h⟩), hcc, bl_al hbz _, Nat.ne_of_lt hgz, hg8, (by rw [World.size_alloc]; exact Nat.lt_succ_of_lt hgz), (by rw [World.size_alloc]; exact Nat.lt_succ_self _)⟩
              · go_wp2_with fail
                go_meet
                case rel => exact ⟨w8.heap.size + 1, g7, c7, rfl, two_set hk _ _, hlv.block (two_heap _ _ _ _ _ hne), (by obtain ⟨cur, h⟩ := hcur; exact ⟨cur, (two_heap _ _ _ _ _ hne).trans h⟩), hcc, bl_st (bl_st hbz hk2 _) hk2 _, hne, hg8, (by rw [World.size_setCell, World.size_setCell]; exact hgz), (by rw [World.size_setCell, World.size_setCell]; exact (Array.getElem?_eq_some_iff.1 hk).1)⟩
              · go_wp2_with fail
                go_meet
                case rel => exact ⟨w8.heap.size, g7, c7, rfl, two_set hk _ _, hlv.block (two_heap _ _ _ _ _ hne), (by obtain ⟨cur, h⟩ := hcur; exact ⟨cur, (two_heap _ _ _ _ _ hne).trans h⟩), hcc, bl_st (bl_st hbz hk2 _) hk2 _, hne, hg8, (by rw [World.size_setCell, World.size_setCell]; exact hgz), (by rw [World.size_setCell, World.size_setCell]; exact (Array.getElem?_eq_some_iff.1 hk).1)⟩
            case rest =>
              obtain ⟨m2, g, cg, rfl, HR2, HLV, HCU, HCC, HB89, HNE⟩ := hcut
              rename World => w9
              clear HKP HN0
              have hk9 := HK9.out
              have HMK := Lib.hid fun wz => rmake_any n1 1 zD wz
              rw [show zD.cells = #[.int .i64 0, .int .i64 0, .int .i64 0, .int .i64 0, .int .i64 0, .int .i64 0, .int .i64 0] from rfl, show (V.mk (n1 : Int) 1 zD).cells = #[.int .i64 n1, .int .i64 1, .int .i64 0, .int .i64 0, .int .i64 0, .int .i64 0, .int .i64 0, .int .i64 0, .int .i64 0] from rfl] at HMK
              have HR9 : Hid (Rmx w9 w4.heap.size (.int .i64 n1) (.int .i64 1)) := HQ8.out.below HB89.out HZ8.out
              have hne4 : w4.heap.size ≠ g := by have := HNE.out.2.1; have := HZ8.out; omega
              have HZ9 : Hid (w4.heap.size < w9.heap.size) := Nat.lt_of_lt_of_le HZ8.out HB89.out.size
              have HKP := Lib.hid fun (wz : World) (h : Below w9.heap.size w9 wz) => And.intro (HR2.out.below h HNE.out.2.2.2).2 (And.intro (HR9.out.below h HZ9.out).1 (HR9.out.below h HZ9.out).2)
              have HN4 := Lib.hid hne4
              clear hne4
              have HFAR := Lib.hid fun (wz : World) (b o : Nat) (hb : b ≠ g) (v : V) => set9g_far wz g (k * 9) v ⟨b, o, none⟩ (fun k _ e => hb (congrArg Addr.block e))
              have HKS := Lib.hid fun (wz : World) (h : Below w9.heap.size w9 wz) => And.intro ((HFAR.out wz m2 1 HNE.out.1.symm (V.mk (n1 : Int) 1 zD)).trans (HKP.out wz h).1) (And.intro ((HFAR.out wz w4.heap.size 0 HN4.out (V.mk (n1 : Int) 1 zD)).trans (HKP.out wz h).2.1) ((HFAR.out wz w4.heap.size 1 HN4.out (V.mk (n1 : Int) 1 zD)).trans (HKP.out wz h).2.2))
              unfold set9g zD at HKS
              dsimp only at HKS
              have HDR : Hid (Below w9.heap.size w9 w9.drew) := bl_dr (Below.refl _ _)
              have HYC := Lib.hid fun (wz : World) (h : Below w9.heap.size w9 wz) => (HLV.out k hk9).reach h
              have HYF := Lib.hid fun (wz : World) (h : Below w9.heap.size w9 wz) (o : Nat) => show wz.frozen? ⟨g, o, none⟩ = false by
                obtain ⟨cur, hc⟩ := HCU.out
                have hc2 := (h.block g HNE.out.2.2.1).trans hc
                simp [World.frozen?, hc2]
              go_upto_region 12 with (fail)
              go_cut [12] (fun s12 wx => s12 = .pointer (some ⟨m2, 0, none⟩) ∧ Aside (Rmx wx m2 (.slice (some ⟨nb, no, none⟩) ns.length cn) (.slice (some ⟨g, 0, none⟩) vs.length cg)) ∧ Aside (SV wx (.slice (some ⟨g, 0, none⟩) vs.length cg) (vs.set k (whV n1))) ∧ Aside (Below w8.heap.size w8 wx))
              case first =>
                go_region_held_law (fun w' => w'.cell? ⟨m2, 1, none⟩ = some (.slice (some ⟨g, 0, none⟩) vs.length cg) ∧ w'.cell? ⟨w4.heap.size, 0, none⟩ = some (.int .i64 n1) ∧ w'.cell? ⟨w4.heap.size, 1, none⟩ = some (.int .i64 1)) (first | with_reducible exact HKP.out w9.drew HDR.out | with_reducible exact HKP.out wz hb9 | with_reducible exact HKS.out wz hb9) ((go_at_call 29; (with_reducible refine (HMK.out _).mono ?_); rintro r wz ⟨rfl, hbz⟩; have hb9 : Below w9.heap.size w9 wz := bl_tr (bl_dr (Below.refl _ _)) hbz; obtain ⟨⟨y0, y1⟩, y2, y3, y4, y5, y6, y7, y8⟩ := HYC.out wz hb9; have yf := HYF.out wz hb9; have yf0 := yf (k * 9); have yf1 := yf (k * 9 + 1); have yf2 := yf (k * 9 + 2); have yf3 := yf (k * 9 + 3); have yf4 := yf (k * 9 + 4); have yf5 := yf (k * 9 + 5); have yf6 := yf (k * 9 + 6); have yf7 := yf (k * 9 + 7); have yf8 := yf (k * 9 + 8)))
                all_goals
                  have hsv := (((HLV.out.block (hb9.block g HNE.out.2.2.1)).set k hk9 (whV n1)).sv (c := cg) (by rw [List.length_set]; exact HCC.out))
                  rw [List.length_set] at hsv
                  have hr2 := HR2.out.below hb9 HNE.out.2.2.2
                  have hr3 : Rmx (set9g wz g (k * 9) (whV n1)) m2 (.slice (some ⟨nb, no, none⟩) ns.length cn) (.slice (some ⟨g, 0, none⟩) vs.length cg) := ⟨(HFAR.out wz m2 0 HNE.out.1.symm _).trans hr2.1, (HFAR.out wz m2 1 HNE.out.1.symm _).trans hr2.2⟩
                  have hb10 := set9g_below (bl_tr HB89.out hb9) HNE.out.2.1 (k * 9) (whV n1)
                  clear y0 y1 y2 y3 y4 y5 y6 y7 y8 yf yf0 yf1 yf2 yf3 yf4 yf5 yf6 yf7 yf8
                  go_wp2_with fail
                  go_meet
                  case rel => exact ⟨rfl, hr3, hsv, hb10⟩
              case rest =>
                obtain ⟨rfl, HR3, HSV3, HB810⟩ := hcut
                rename World => w10
                have HB210 := Lib.hid (bl_tr HB28.out HB810.out)
                have HB10 := Lib.hid (bl_tr HB2.out HB210.out)
                obtain ⟨⟨k0, k1, k2, k3, k4⟩, ⟨r0, r1⟩, _⟩ := HX.out w10 HB210.out
                obtain ⟨j0, j1, j2, j3, j4⟩ := HBS.out.below HB810.out HMS.out
                obtain ⟨i0, i1⟩ := HR3.out
                have HF3 : Hid (∀ y ∈ vs.set k (whV n1), y.fit) := fun y hy => by
                  rcases List.mem_or_eq_of_mem_set hy with hy | rfl
                  · exact HFIT.out y hy
                  · unfold V.fit whV; dsimp only; omega
                have HAG := Lib.hid (agree13_any t A c u A9 c9 (.slice (some ⟨nb, no, none⟩) ns.length cn) (.slice (some ⟨g, 0, none⟩) vs.length cg) (.slice (some ⟨nb, no, none⟩) ns.length cn) (.slice (some ⟨g, 0, none⟩) vs.length cg) ns ns (vs.set k (whV n1)) (vs.set k (whV n1)) w10 (HV.out _ HB10.out) (HTS.out.reach HB810.out) HST.out.1 HSA2.out (HM.out _ HB10.out) (HN.out _ HB10.out) HSV3.out (HN.out _ HB10.out) HSV3.out HNS.out HNS.out HF3.out HF3.out HVAL.out)
                unfold tv at HAG
                go_wp2_with fail
                refine HAG.out.mono ?_
                rintro e w11 ⟨rfl, hb11⟩
                have HB11 := Lib.hid (bl_tr HB10.out hb11)
                go_wp2_with fail
                go_ret
                exact ⟨rfl, HB11.out⟩
end Go.Proofs.YtknpigdpepmimaaGreatDoor
