/- The walk of TermSubst. TermSubst returns true for every two terms and every string, and leaves its arguments as they were. No condition. -/
import Derived.Test.YtkjhfbgdmmnadaaSbs
import Derived.Test.YtkjhfbgdmmnadaaRss
import Derived.Test.YtkjhfbgdmmnadaaAtK
import Derived.Test.YtkjhfbgdmmnadaaREq
import Derived.Test.YtkjhfbgdmmnadaaEq17
import Derived.Test.YtkjhfbgdmmnadaaOpn
namespace Go.Proofs.Ytkjhfbgdmmnadaa
open Go.RowKit

set_option maxRecDepth 100000 in
set_option maxHeartbeats 4000000 in
theorem substl_walk (t : T) (A : Option Addr) (c : Nat) (s : ByteArray) (u : T) (A' : Option Addr) (c' : Nat) (w : World) (hv : TV w w.heap.size t A c) (_hs : s.size ≤ maxLen) (hv' : TV w w.heap.size u A' c') (hm : Max w) :
    Calls Try.prog 9 #[.agg (tv t A c), .string s, .agg (tv u A' c')] w fun e w' => e = .returned (.bool true) ∧ Below w.heap.size w w' := by
  obtain ⟨x, rfl⟩ : ∃ x : W8, s = ⟨x.toArray⟩ := ⟨s.data.toList, by cases s; simp⟩
  have hb1 : Below w.heap.size w (w.alloc (.cells (tv t A c) 24)) := (Below.refl _ _).alloc (Nat.le_refl _) _
  have hb0 : Below w.heap.size w ((w.alloc (.cells (tv t A c) 24)).alloc (.cells (tv u A' c') 24)) := hb1.alloc (by simp) _
  have HB0 := Lib.hid hb0
  have HV := Lib.hid fun w' (hb : Below w.heap.size w w') => hv.reach hb
  have HV' := Lib.hid fun w' (hb : Below w.heap.size w w') => hv'.reach hb
  have HM := Lib.hid fun w' (hb : Below w.heap.size w w') => hm.reach hb
  have hs1 : (w.alloc (.cells (tv t A c) 24)).heap.size = w.heap.size + 1 := by simp
  have hbx' := bxd_new (w.alloc (.cells (tv t A c) 24)) u A' c'
  rw [hs1] at hbx'
  have HBX := Lib.hid (And.intro ((bxd_new w t A c).below ((Below.refl (w.alloc (.cells (tv t A c) 24)).heap.size _).alloc (Nat.le_refl _) (.cells (tv u A' c') 24)) (by simp)) hbx')
  have hls : w.heap.size + 1 < ((w.alloc (.cells (tv t A c) 24)).alloc (.cells (tv u A' c') 24)).heap.size := by simp
  have HS1 := Lib.hid hs1
  have HTV : Hid (tv t A c = #[.int .i64 t.kind, .string ⟨t.name.toArray⟩, .string ⟨t.var.toArray⟩, .slice A t.args.length c, .string ⟨t.form.toArray⟩]) := rfl
  have HTV' : Hid (tv u A' c' = #[.int .i64 u.kind, .string ⟨u.name.toArray⟩, .string ⟨u.var.toArray⟩, .slice A' u.args.length c', .string ⟨u.form.toArray⟩]) := rfl
  clear hb0 hb1 hv hv' hm hbx' hs1
  go_enter Try.func9, Try.ntmps9
  go_wp2_with fail
  obtain ⟨w0, hw0⟩ : ∃ w0, w0 = (w.alloc (.cells (tv t A c) 24)).alloc (.cells (tv u A' c') 24) := ⟨_, rfl⟩
  rw [← hw0] at HB0 HBX hls ⊢
  clear hw0
  refine (awake11_any _ (HM.out _ HB0.out)).mono ?_
  rintro e w1 ⟨rfl, hb1⟩
  have HB1 := Lib.hid (HB0.out.trans (hb1.mono HB0.out.size))
  have HBX1 := Lib.hid (And.intro (HBX.out.1.below hb1 (by omega)) (HBX.out.2.below hb1 hls))
  have hls1 : w.heap.size + 1 < w1.heap.size := by have := hb1.size; omega
  have HF1 := Lib.hid (few_any t A c w1 (HV.out _ HB1.out))
  clear hb1 HB0 HBX hls
  unfold tv at HF1
  obtain ⟨⟨k0, k1, k2, k3, k4⟩, ⟨j0, j1, j2, j3, j4⟩⟩ := HBX1.out
  go_wp2_with fail
  refine HF1.out.mono ?_
  rintro e w2 ⟨rfl, hb2⟩
  have HB2 := Lib.hid (HB1.out.trans (hb2.mono HB1.out.size))
  have HBX2 := Lib.hid (And.intro (HBX1.out.1.below hb2 (by omega)) (HBX1.out.2.below hb2 hls1))
  have hls2 : w.heap.size + 1 < w2.heap.size := by have := hb2.size; omega
  have HF2 := Lib.hid (few_any u A' c' w2 (HV'.out _ HB2.out))
  clear hb2 HB1 HBX1 hls1 HF1 k0 k1 k2 k3 k4 j0 j1 j2 j3 j4
  unfold tv at HF2
  obtain ⟨⟨k0, k1, k2, k3, k4⟩, ⟨j0, j1, j2, j3, j4⟩⟩ := HBX2.out
  cases hfe : fewB t with
  | false =>
    clear hfe
    go_wp2_with fail
    go_ret
    exact ⟨rfl, HB2.out⟩
  | true =>
    have HFT := Lib.hid hfe
    clear hfe
    go_wp2_with fail
    refine HF2.out.mono ?_
    rintro e w3 ⟨rfl, hb3⟩
    have HB3 := Lib.hid (HB2.out.trans (hb3.mono HB2.out.size))
    have HBX3 := Lib.hid (And.intro (HBX2.out.1.below hb3 (by omega)) (HBX2.out.2.below hb3 hls2))
    have hls3 : w.heap.size + 1 < w3.heap.size := by have := hb3.size; omega
    clear hb3 HB2 HBX2 hls2 HF2 k0 k1 k2 k3 k4 j0 j1 j2 j3 j4
    cases hfe : fewB u with
    | false =>
      clear hfe
      go_wp2_with fail
      go_ret
      exact ⟨rfl, HB3.out⟩
    | true =>
      have HST := Lib.hid (few_SA' HFT.out)
      have HSU := Lib.hid (few_SA' hfe)
      clear hfe
      by_cases h100 : 100 < x.length
      · have h1z : (100 : Int) < (x.length : Int) := by omega
        go_wp2_with fail
        go_ret
        exact ⟨rfl, HB3.out⟩
      · have h1z : ¬ (100 : Int) < (x.length : Int) := by omega
        have HC33 := Lib.hid (subst33_any t u x A c A' c' w3 (HV.out _ HB3.out) (HV'.out _ HB3.out) HST.out HSU.out (by omega) (HM.out _ HB3.out))
        have HC34 := Lib.hid fun w' (hb : Below w3.heap.size w3 w') => subst34_any t u x A c A' c' w' (HV.out _ (HB3.out.trans (hb.mono HB3.out.size))) (HV'.out _ (HB3.out.trans (hb.mono HB3.out.size))) HST.out HSU.out (by omega) (HM.out _ (HB3.out.trans (hb.mono HB3.out.size)))
        generalize hrt : (sbT t x u).1 = rt at *
        generalize hre : (sbT t x u).2 = re at *
        clear hrt hre
        unfold tv at HC33 HC34
        obtain ⟨⟨k0, k1, k2, k3, k4⟩, ⟨j0, j1, j2, j3, j4⟩⟩ := HBX3.out
        go_upto_region 5 with (fail)
        go_wp2_with fail
        refine HC33.out.mono ?_
        rintro e w4 ⟨A4, c4, rfl, hv4, hb4⟩
        have HV4 := Lib.hid (hv4.tv (fun _ hk => hk.2))
        have HB34 := Lib.hid hb4
        clear hv4 hb4 HC33 k0 k1 k2 k3 k4 j0 j1 j2 j3 j4
        have HP5 := Lib.hid (post5_new HV4.out HB34.out)
        go_upto_region 6 with (fail)
        generalize w4.alloc (.cells #[.int .i64 rt.kind, .string ⟨rt.name.toArray⟩, .string ⟨rt.var.toArray⟩, .slice A4 rt.args.length c4, .string ⟨rt.form.toArray⟩] 24) = w5 at *
        obtain ⟨hbk, htv, hbl, hle⟩ := HP5.out
        have HBK := Lib.hid hbk
        have HTV5 := Lib.hid htv
        have HB5 := Lib.hid hbl
        obtain ⟨k0, k1, k2, k3, k4⟩ := keep5 HBX3.out.1 (by omega) hbl
        obtain ⟨j0, j1, j2, j3, j4⟩ := keep5 HBX3.out.2 hls3 hbl
        have HC := Lib.hid (HC34.out _ hbl)
        clear hbk htv hbl hle HP5 HC34 HV4 HB34
        go_wp2_with fail
        refine HC.out.mono ?_
        rintro e w6 ⟨A9, c9, rfl, hv9, hb9⟩
        have HB6 := Lib.hid (HB5.out.trans (hb9.mono HB5.out.size))
        have hba : Below w6.heap.size w6 (w6.alloc (.cells #[.int .i64 rt.kind, .string ⟨rt.name.toArray⟩, .string ⟨rt.var.toArray⟩, .slice A9 rt.args.length c9, .string ⟨rt.form.toArray⟩] 24)) := (Below.refl _ _).alloc (Nat.le_refl _) _
        have HB7 := Lib.hid (HB6.out.trans (hba.mono HB6.out.size))
        have HBK7 := Lib.hid ((HBK.out.reach hb9).reach hba)
        have HT7 := Lib.hid ((HTV5.out.reach hb9).reach hba)
        have HV7 := Lib.hid (hv9.reach hba)
        have HE := Lib.hid (eq18_any rt rt A4 c4 A9 c9 _ HT7.out HV7.out)
        have HSELF : Hid (eqT rt rt = true) := (eqT_iff rt rt).2 rfl
        rw [HSELF.out] at HE
        unfold tv at HE
        obtain ⟨⟨f0, f1, f2, f3, f4⟩, ff, fl⟩ := HBK7.out.cells
        clear hv9 hb9 hba k0 k1 k2 k3 k4 j0 j1 j2 j3 j4 HC
        unfold tv
        go_wp2_with fail
        refine HE.out.mono ?_
        rintro e w8 ⟨rfl, hb8⟩
        have HB8 := Lib.hid (HB7.out.trans (hb8.mono HB7.out.size))
        clear hb8
        go_wp2_with fail
        go_ret
        exact ⟨by simp, HB3.out.trans (HB8.out.mono HB3.out.size)⟩
end Go.Proofs.Ytkjhfbgdmmnadaa

namespace Go.Proofs.Ytkjhfbgdmmnadaa
open Go.ChangeShapes Go.WideShapes Go.ChangeAt Go.RowKit
open Go.ChangeMaps (open_string shut_string)

set_option maxRecDepth 100000 in
theorem substl_lifted (os : Os) (started : os.Started) (H : Type) (enc : TypeId × Value → H) :
    ReturnsInHanded {} Try.checked os 9 .any (Rows.termSubstSpec.pre6 enc Try.prog Try.f9 Rows.termSubstRow.domain false) (Rows.termSubstSpec.post enc Try.prog Try.f9 false true false false) := by
  refine handed6 (C := Try.checked) own started (by kernel_rfl) Try.func9
    (ChangeSpec.witness6 (enc := enc) (C := Try.checked) false ⟨#[], #[.agg #[.int .i64 0, .string ⟨#[]⟩, .string ⟨#[]⟩, .slice none 0 0, .string ⟨#[]⟩], .string ⟨#[]⟩, .agg #[.int .i64 0, .string ⟨#[]⟩, .string ⟨#[]⟩, .slice none 0 0, .string ⟨#[]⟩]], []⟩ 8 (by kernel_rfl) (by kernel_rfl) (by kernel_rfl) (by kernel_rfl)) ?_
  intro W base args ds gs before hval0 hW hsh
  have hval : ∀ (j : Nat) t v, Try.f9.params[j]? = some t → args[j]? = some v → Value.okWide Try.prog W .any base t v := hval0
  have hW' := hW
  obtain ⟨p, q, hA0, hV, rfl, hfz, hnd⟩ := hW
  have hA : DataW.TrodAll enc Try.prog W 0 (fun _ => true) true Try.f9.params.toList args.toList ds p := hA0
  rw [Try.params9] at hA hval
  obtain ⟨v0, vs0, d0, ds0, p0, q0, hargs, rfl, rfl, h0, r0⟩ := trodAll_cons hA
  obtain ⟨v1, vs1, d1, ds1, p1, q1, rfl, rfl, rfl, h1, r1⟩ := trodAll_cons r0
  obtain ⟨v2, vs2, d2, ds2, p2, q2, rfl, rfl, rfl, h2, r2⟩ := trodAll_cons r1
  obtain ⟨rfl, rfl, rfl⟩ := trodAll_nil r2
  obtain rfl : args = #[v0, v1, v2] := by cases args; simp_all
  obtain ⟨rfl, rfl⟩ := trodVars_none hV
  have k0 := h0
  have lt0 : ∀ x ∈ p0, x.block < W.heap.size := by obtain ⟨m, hm⟩ := k0; exact DataW.trod_lt m _ _ _ hm
  obtain ⟨t0, a0, c0, rfl, w0⟩ := open_termVal (hval 0 24 v0 rfl rfl) h0
  obtain ⟨s1, rfl, rfl, rfl, ws1⟩ := open_string Try.underlying9 (hval 1 9 v1 rfl rfl) h1
  have k2 := h2
  have lt2 : ∀ x ∈ p2, x.block < W.heap.size := by obtain ⟨m, hm⟩ := k2; exact DataW.trod_lt m _ _ _ hm
  obtain ⟨t2, a2, c2, rfl, w2⟩ := open_termVal (hval 2 24 v2 rfl rfl) h2
  clear hA0 hval0
  refine (substl_walk t0 a0 c0 s1 t2 a2 c2 W w0 ws1 w2 (max_of hsh)).mono fun e W' ⟨he, bel⟩ => ?_
  subst he
  exact ⟨_, rfl, _, _, _, [], _, [], hW', trodAll_mk1 (shut_bool Try.underlying4 _), (trodAll_cons_mk (Below.trod laidOut (by kernel_rfl) (of_decide_eq_true (by kernel_rfl)) k0 bel lt0) (trodAll_cons_mk (shut_string Try.underlying9 ws1) (trodAll_cons_mk (Below.trod laidOut (by kernel_rfl) (of_decide_eq_true (by kernel_rfl)) k2 bel lt2) trodAll_mk0))), rfl, bel.frame _, fun h => by cases h⟩

theorem substl_holds : Rows.TermSubstSaid :=
  OpenClaim.holds_of_wide 9 Try.f9 rfl rfl rfl rfl rfl rfl rfl ⟨rfl, rfl, rfl, rfl, rfl⟩ rfl rfl rfl rfl rfl (by kernel_rfl) Try.func9 (by kernel_rfl)
    (of_decide_eq_true (by kernel_rfl)) (by unfold Func.isWrapper; first | (rw [if_pos (by decide +kernel)]; kernel_rfl) | (rw [if_neg (by decide +kernel)]; exact ⟨rfl, rfl⟩))
    (fun os started H enc _ => substl_lifted os started H enc)
#print axioms substl_holds
end Go.Proofs.Ytkjhfbgdmmnadaa
