/- The walk of EvaluateAlpha. -/
import Derived.Test.YtknpigdpepmimaaGreatDoorM39
import Derived.Test.YtknpigdpepmimaaGreatDoorM49
namespace Go.Proofs.YtknpigdpepmimaaGreatDoor
open Go.RowKit Go.Maps
/-- terms with one meaning have one value -/
theorem valueR_alpha {t u : T} (ht : validB t = true) (hu : validB u = true) (h : sem (envZ []) 0 u = sem (envZ []) 0 t) (ns : List W8) (vs : List V) : valueR u ns vs = valueR t ns vs := by
  unfold valueR
  rw [if_pos ht, if_pos hu, ev_alpha ((valid_iff u).1 hu).1 ((valid_iff t).1 ht).1 h]
set_option maxRecDepth 100000 in
set_option maxHeartbeats 4000000 in
theorem alphaE_walk (t : T) (A : Option Addr) (c : Nat) (An Av : Option Addr) (cn cv : Nat) (ns : List W8) (vs : List V) (pv : Value) (path : List Int) (pk : Nat) (w : World) (hv : TV w w.heap.size t A c) (hn : SL w w.heap.size (.slice An ns.length cn) ns) (hvv : SV w (.slice Av vs.length cv) vs) (hp : PI w w.heap.size pv path) (hpk : pk ≤ 255) (hfit : ∀ x ∈ vs, x.fit) (hm : Max w) :
    Calls Tryz.prog 3 #[.agg (tv t A c), .agg #[.slice An ns.length cn, .slice Av vs.length cv], .agg #[pv, .int .u8 pk]] w fun e w' => e = .returned (.bool true) ∧ Below w.heap.size w w' := by
  have hb3 := b3 w (.cells (tv t A c) 24) (.cells #[.slice An ns.length cn, .slice Av vs.length cv] 28) (.cells #[pv, .int .u8 pk] 31)
  have HB := Lib.hid hb3
  have HM := Lib.hid fun (wz : World) (h : Below w.heap.size w wz) => hm.reach h
  have HV := Lib.hid fun (wz : World) (h : Below w.heap.size w wz) => hv.reach h
  have HN := Lib.hid fun (wz : World) (h : Below w.heap.size w wz) => (hn.below h).more h.size
  have HVV := Lib.hid fun (wz : World) (h : Below w.heap.size w wz) => hvv.reach h
  have HP := Lib.hid fun (wz : World) (h : Below w.heap.size w wz) => (hp.below h).more h.size
  have HX1 : Hid (Bxd (((w.alloc (.cells (tv t A c) 24)).alloc (.cells #[.slice An ns.length cn, .slice Av vs.length cv] 28)).alloc (.cells #[pv, .int .u8 pk] 31)) w.heap.size t A c) := (bxd_new w t A c).below (b2 (w.alloc (.cells (tv t A c) 24)) (.cells #[.slice An ns.length cn, .slice Av vs.length cv] 28) (.cells #[pv, .int .u8 pk] 31)) (by simp)
  have HX2 : Hid (Rmx (((w.alloc (.cells (tv t A c) 24)).alloc (.cells #[.slice An ns.length cn, .slice Av vs.length cv] 28)).alloc (.cells #[pv, .int .u8 pk] 31)) (w.heap.size + 1) (.slice An ns.length cn) (.slice Av vs.length cv)) := by
    have h := (rmx_new (w.alloc (.cells (tv t A c) 24)) (.slice An ns.length cn) (.slice Av vs.length cv)).below (b1 _ (.cells #[pv, .int .u8 pk] 31)) (by simp)
    rw [World.size_alloc] at h
    exact h
  have HX3 : Hid (Rmx (((w.alloc (.cells (tv t A c) 24)).alloc (.cells #[.slice An ns.length cn, .slice Av vs.length cv] 28)).alloc (.cells #[pv, .int .u8 pk] 31)) (w.heap.size + 1 + 1) pv (.int .u8 pk)) := by
    have h := two_new ((w.alloc (.cells (tv t A c) 24)).alloc (.cells #[.slice An ns.length cn, .slice Av vs.length cv] 28)) pv (.int .u8 pk) 31
    rw [World.size_alloc, World.size_alloc] at h
    exact h
  have HSZ : Hid ((((w.alloc (.cells (tv t A c) 24)).alloc (.cells #[.slice An ns.length cn, .slice Av vs.length cv] 28)).alloc (.cells #[pv, .int .u8 pk] 31)).heap.size = w.heap.size + 3) := by show _ = _; simp
  have HFW := Lib.hid fun (wz : World) (h : Below w.heap.size w wz) => few10_any t A c An Av cn cv ns vs wz (hv.reach h) ((hn.below h).more h.size) (by obtain ⟨_, _, e, h2, _⟩ := hvv; omega)
  have HFIT := Lib.hid hfit
  obtain ⟨P1, d1, rfl, ⟨hd11, hd12⟩, _⟩ := hp
  have hll : path.length ≤ 9223372036854775807 := by omega
  clear hv hn hvv hm hb3 hfit
  unfold tv at HFW
  have HTV : Hid (tv t A c = #[.int .i64 t.kind, .string ⟨t.name.toArray⟩, .string ⟨t.var.toArray⟩, .slice A t.args.length c, .string ⟨t.form.toArray⟩]) := rfl
  go_enter Tryz.func3, Tryz.ntmps3
  go_upto_region 1 with (fail)
  generalize (((w.alloc (.cells (tv t A c) 24)).alloc (.cells #[.slice An ns.length cn, .slice Av vs.length cv] 28)).alloc (.cells #[.slice P1 path.length d1, .int .u8 pk] 31)) = w1 at *
  go_wp2_with fail
  refine (awake9_any _ (HM.out _ HB.out)).mono ?_
  rintro e w2 ⟨rfl, hb2⟩
  have hls : w.heap.size + 3 ≤ w1.heap.size := by have := HSZ.out; omega
  have HB2 := Lib.hid (bl_tr HB.out hb2)
  have HX := Lib.hid fun (wz : World) (h : Below w2.heap.size w2 wz) => And.intro (HX1.out.below (bl_tr hb2 h) (by omega)) (And.intro (HX2.out.below (bl_tr hb2 h) (by omega)) (HX3.out.below (bl_tr hb2 h) (by omega)))
  clear HX1 HX2 HX3 hls
  obtain ⟨⟨k0, k1, k2, k3, k4⟩, ⟨r0, r1⟩, ⟨s0, s1⟩⟩ := HX.out w2 (Below.refl _ _)
  have HC1 := Lib.hid (HFW.out w2 HB2.out)
  go_wp2_with fail
  refine HC1.out.mono ?_
  rintro e w3 ⟨rfl, hb3⟩
  have HB3 := Lib.hid (bl_tr HB2.out hb3)
  have HB23 := Lib.hid hb3
  clear hb2 hb3 k0 k1 k2 k3 k4 r0 r1 s0 s1 HC1
  obtain ⟨⟨k0, k1, k2, k3, k4⟩, ⟨r0, r1⟩, ⟨s0, s1⟩⟩ := HX.out w3 HB23.out
  cases hfe : fewE t ns vs with
  | false =>
    clear hfe
    go_wp2_with fail
    go_ret
    exact ⟨rfl, HB3.out⟩
  | true =>
    have HST := Lib.hid (fewE_SA hfe)
    have HF2 := Lib.hid (rvalid_any t A c w3 (HV.out _ HB3.out) HST.out.1)
    unfold tv at HF2
    clear hfe
    go_wp2_with fail
    refine HF2.out.mono ?_
    rintro e w4 ⟨rfl, hb4⟩
    have HB24 := Lib.hid (bl_tr HB23.out hb4)
    have HB4 := Lib.hid (bl_tr HB2.out HB24.out)
    clear hb4 HF2 k0 k1 k2 k3 k4 r0 r1 s0 s1
    obtain ⟨⟨k0, k1, k2, k3, k4⟩, ⟨r0, r1⟩, ⟨s0, s1⟩⟩ := HX.out w4 HB24.out
    cases hvt : validB t with
    | false =>
      clear hvt
      go_wp2_with fail
      go_ret
      exact ⟨rfl, HB4.out⟩
    | true =>
      have HVT := Lib.hid hvt
      clear hvt
      by_cases hlong : 20 < path.length
      · have hlz : (20 : Int) < (path.length : Int) := by omega
        go_wp2_with fail
        go_ret
        exact ⟨rfl, HB4.out⟩
      · have hlz : ¬ (20 : Int) < (path.length : Int) := by omega
        have HC := Lib.hid (ren32_any path t pk HVT.out hpk A c (.slice P1 path.length d1) w4 (HV.out _ HB4.out) (HP.out _ HB4.out))
        unfold tv at HC
        go_upto_region 5 with (fail)
        go_wp2_with fail
        refine HC.out.mono ?_
        rintro e w5 ⟨A9, c9, rfl, hv5, hb5⟩
        have HRV := Lib.hid (ren_valid path t pk HVT.out)
        generalize ren path t pk = u at *
        have hb6 := bl_tr hb5 (b1 w5 (.cells #[.int .i64 u.kind, .string ⟨u.name.toArray⟩, .string ⟨u.var.toArray⟩, .slice A9 u.args.length c9, .string ⟨u.form.toArray⟩] 24))
        have HB26 := Lib.hid (bl_tr HB24.out hb6)
        have HB6 := Lib.hid (bl_tr HB2.out HB26.out)
        have HU6 := Lib.hid (hv5.reach (b1 w5 (.cells #[.int .i64 u.kind, .string ⟨u.name.toArray⟩, .string ⟨u.var.toArray⟩, .slice A9 u.args.length c9, .string ⟨u.form.toArray⟩] 24)))
        have HXU : Hid (Bxd (w5.alloc (.cells #[.int .i64 u.kind, .string ⟨u.name.toArray⟩, .string ⟨u.var.toArray⟩, .slice A9 u.args.length c9, .string ⟨u.form.toArray⟩] 24)) w5.heap.size u A9 c9) := bxd_new w5 u A9 c9
        clear hb5 hb6 hv5 k0 k1 k2 k3 k4 r0 r1 s0 s1
        go_upto_region 6 with (fail)
        generalize w5.heap.size = mu at *
        generalize w5.alloc (.cells #[.int .i64 u.kind, .string ⟨u.name.toArray⟩, .string ⟨u.var.toArray⟩, .slice A9 u.args.length c9, .string ⟨u.form.toArray⟩] 24) = w6 at *
        obtain ⟨⟨k0, k1, k2, k3, k4⟩, ⟨r0, r1⟩, ⟨s0, s1⟩⟩ := HX.out w6 HB26.out
        obtain ⟨j0, j1, j2, j3, j4⟩ := HXU.out
        have HAG := Lib.hid (agree13_any t A c u A9 c9 (.slice An ns.length cn) (.slice Av vs.length cv) (.slice An ns.length cn) (.slice Av vs.length cv) ns ns vs vs w6 (HV.out _ HB6.out) HU6.out HST.out.1 (wf_SA HRV.out.1) (HM.out _ HB6.out) (HN.out _ HB6.out) (HVV.out _ HB6.out) (HN.out _ HB6.out) (HVV.out _ HB6.out) (fun x hx => Nat.le_trans (HST.out.2.1 x hx) (by decide)) (fun x hx => Nat.le_trans (HST.out.2.1 x hx) (by decide)) HFIT.out HFIT.out (valueR_alpha HVT.out HRV.out.1 HRV.out.2 ns vs))
        unfold tv at HAG
        go_wp2_with fail
        refine HAG.out.mono ?_
        rintro e w7 ⟨rfl, hb7⟩
        have HB7 := Lib.hid (bl_tr HB6.out hb7)
        clear hb7 k0 k1 k2 k3 k4 r0 r1 s0 s1 j0 j1 j2 j3 j4
        go_wp2_with fail
        go_ret
        exact ⟨rfl, HB7.out⟩
end Go.Proofs.YtknpigdpepmimaaGreatDoor
