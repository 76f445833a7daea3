/- Contract of ref55.Fits 14. -/
import Derived.Test.YtknpigdpepmimaaGreatDoorRdm
import Derived.Lib.QuietBelow
namespace Go.Proofs.YtknpigdpepmimaaGreatDoor
open Go.RowKit Go.Maps Go.Sort

theorem SL.take {w : World} {B : Nat} {A : Option Addr} {c : Nat} {ns : List W8} (h : SL w B (.slice A ns.length c) ns) (i : Nat) (hi : i ≤ ns.length) : SL w B (.slice A i c) (ns.take i) := by
  obtain ⟨A', c', e, ⟨h1, h2⟩, h3⟩ := h
  obtain ⟨rfl, _, rfl⟩ := Value.slice.inj e
  have hl : (ns.take i).length = i := by rw [List.length_take]; omega
  refine ⟨A, c, by rw [hl], ⟨by omega, h2⟩, fun hne => ?_⟩
  obtain ⟨b, o, rfl, hb, hc⟩ := h3 (fun e => hne (by rw [e]; exact List.take_nil))
  refine ⟨b, o, rfl, hb, fun k hk => ?_⟩
  rw [List.getElem_take]
  exact hc k (by omega)
theorem has_lookup (x : W8) : ∀ (E : Sc), (E.lookup x).isSome = hasB (E.map (·.1)) x
  | [] => rfl
  | q :: E => by
    rw [List.lookup_cons, List.map_cons]
    by_cases h : x = q.1
    · rw [h]; simp [hasB]
    · have hb : (x == q.1) = false := by simpa using h
      rw [hb]
      dsimp only
      rw [has_lookup x E]
      simp [hasB, h]
theorem zip_take_fst (ns : List W8) (vs : List V) (h : ns.length = vs.length) (i : Nat) : ((ns.zip vs).take i).map (·.1) = ns.take i := by
  rw [List.map_take, List.map_fst_zip (by omega)]
set_option maxRecDepth 100000 in
set_option maxHeartbeats 4000000 in
theorem rfits_any (a v : Value) (ns : List W8) (vs : List V) (w : World) (ha : SL w w.heap.size a ns) (hv : SV w v vs) (hsn : ∀ x ∈ ns, x.length ≤ 1000) (hfit : ∀ x ∈ vs, x.fit) :
    Calls Tryz.prog 14 #[a, v] w fun e w' => e = .returned (.bool (envB ns vs)) ∧ Below w.heap.size w w' := by
  have hA0 := ha
  obtain ⟨A, ca, rfl, ⟨hca1, hca2⟩, hAc⟩ := ha
  obtain ⟨B, cb, rfl, ⟨hcb1, hcb2⟩, hBc⟩ := hv
  have HA0 := Lib.hid hA0
  have HA := Lib.hid hAc
  have HV := Lib.hid hBc
  have HF := Lib.hid hfit
  have HS := Lib.hid hsn
  clear hAc hBc hfit hsn hA0
  have hl1 : ns.length ≤ 9223372036854775807 := by omega
  have hl2 : vs.length ≤ 9223372036854775807 := by omega
  go_enter Tryz.func14, Tryz.ntmps14
  by_cases hlen : ns.length = vs.length ∧ ns.length ≤ 100
  · have HEB : Hid (envB ns vs = envOkB (ns.zip vs)) := by show _ = _; unfold envB; rw [decide_eq_true hlen, Bool.true_and]
    obtain ⟨hlen1, hlen2⟩ := hlen
    have hb1 : ((ns.length : Int) != (vs.length : Int)) = false := by simp [hlen1]
    have hb2 : ¬ (100 : Int) < (ns.length : Int) := by omega
    go_upto_region 4 with (fail)
    obtain ⟨E, hE⟩ : ∃ E, E = ns.zip vs := ⟨_, rfl⟩
    have hEl : E.length = ns.length := by rw [hE, List.length_zip]; omega
    have HEl := Lib.hid hEl
    have HEi : Hid (∀ i (h : i < ns.length) (h2 : i < vs.length) (h3 : i < E.length), E[i] = (ns[i], vs[i])) := fun i h h2 h3 => by subst hE; simp
    have HET : Hid (∀ i, (E.take i).map (·.1) = ns.take i) := fun i => by subst hE; exact zip_take_fst ns vs hlen1 i
    have HL1 := Lib.hid hlen1
    rw [← hE] at HEB
    clear hE hEl hlen1 hb1 hb2
    go_wp2_with fail
    go_loopg [5] 101 (fun gg s5 wr => ∃ i : Nat, i ≤ ns.length ∧ 101 - i ≤ gg ∧ s5 = .int .i64 (i : Int) ∧ Aside (envOkB (E.take i) = true) ∧ Aside (Below w.heap.size w wr))
    case atStart => exact ⟨0, Nat.zero_le _, by omega, rfl, rfl, Below.refl _ _⟩
    case round =>
      obtain ⟨i, hi, hgg, rfl, HOK, HBW⟩ := hrel
      by_cases hlt : i < ns.length
      · have hltz : (i : Int) < (ns.length : Int) := by omega
        have h2 : i < vs.length := by have := HL1.out; omega
        have h3 : i < E.length := by have := HEl.out; omega
        have h2z : (i : Int) < (vs.length : Int) := by omega
        have HP := Lib.hid (HA0.out.take i hi)
        obtain ⟨ba, oa, rfl, hba, hca⟩ := HA.out (by intro e; rw [e] at hlt; simp at hlt)
        obtain ⟨bv, ov, rfl, hcv⟩ := HV.out (by intro e; rw [e] at h2; simp at h2)
        have hck := (HBW.out.cell (p := ⟨ba, oa + i, none⟩) hba).trans (hca i hlt)
        have HC := Lib.hid ((hcv i h2).reach HBW.out)
        have HEX := Lib.hid (HEi.out i hlt h2 h3)
        have HSN := Lib.hid (envOk_snoc (E.take i) (ns[i], vs[i]))
        have HTK : Hid (E.take (i + 1) = E.take i ++ [(ns[i], vs[i])]) := by show _ = _; rw [List.take_succ_eq_append_getElem h3, HEX.out]
        have HSN2 : Hid (envOkB (E.take (i + 1)) = (!hasB (ns.take i) ns[i] && identB ns[i] && vs[i].okB)) := by show _ = _; rw [HTK.out, HSN.out, HOK.out, Bool.true_and]; dsimp only; rw [has_lookup, HET.out]
        have hnl : ns[i].length ≤ 1000 := HS.out _ (List.getElem_mem _)
        have hf := HF.out vs[i] (List.getElem_mem _)
        have CI := Lib.hid fun d os => Calls.regrown_of (ident29L ns[i] (grow (redrawn wr d) os) hnl)
        have CH := Lib.hid fun d os => Calls.regrown_of (Q.below_of_eq (has35_any w.heap.size (.slice (some ⟨ba, oa, none⟩) i ca) (ns.take i) ns[i] (grow (redrawn wr d) os) (HP.out.below (HBW.out.trans ((below_regrown wr d os).mono HBW.out.size)))))
        have CV := Lib.hid fun d os => Calls.regrown_of (rvv_any vs[i] (grow (redrawn wr d) os) hf)
        have HBAD : Hid ((!hasB (ns.take i) ns[i] && identB ns[i] && vs[i].okB) = false → envB ns vs = false) := fun hc => HEB.out.trans (by
          cases h : envOkB E with
          | false => rfl
          | true => have := envOk_take E (i + 1) h; rw [HSN2.out, hc] at this; cases this)
        clear hf hnl hca hcv HEX HSN HTK HP
        unfold V.cells at CV
        unfold V.okB at HSN2 HBAD
        generalize hasB (ns.take i) ns[i] = hh at *
        generalize ns[i] = x at *
        generalize vs[i] = y at *
        obtain ⟨⟨q0, q1⟩, q2, q3, q4, q5, q6, q7, q8⟩ := HC.out
        have j := fun d os => cell_regrown hck d os
        have j0 := fun d os => cell_regrown q0 d os
        have j1 := fun d os => cell_regrown q1 d os
        have j2 := fun d os => cell_regrown q2 d os
        have j3 := fun d os => cell_regrown q3 d os
        have j4 := fun d os => cell_regrown q4 d os
        have j5 := fun d os => cell_regrown q5 d os
        have j6 := fun d os => cell_regrown q6 d os
        have j7 := fun d os => cell_regrown q7 d os
        have j8 := fun d os => cell_regrown q8 d os
        clear hck q0 q1 q2 q3 q4 q5 q6 q7 q8 HC
        go_upto_region 6 with (fail)
        cases h1 : identB x with
        | false =>
          rw [h1] at CI
          have HR := Lib.hid (HBAD.out (by rw [h1]; cases hh <;> rfl))
          refine wp_region_quiet_below (by kernel_rfl) (by kernel_rfl) ?_
          repeat (first | go_big_quiet_step (first | (go_at_call 36; exact CI.out _ _) | (go_at_call 16; exact CH.out _ _) | (go_at_call 37; exact CV.out _ _)) | quiet_step (first | (go_at_call 36; exact CI.out _ _) | (go_at_call 16; exact CH.out _ _) | (go_at_call 37; exact CV.out _ _)))
          refine wpQuiet_nil ?_
          intro _ hw'
          obtain ⟨⟨dq, osq⟩, hw''⟩ := hw'
          subst hw''
          clear CI CH CV j j0 j1 j2 j3 j4 j5 j6 j7 j8
          have HB2 := Lib.hid (HBW.out.trans ((below_regrown wr dq osq).mono HBW.out.size))
          go_wp2_with fail
          go_ret
          rw [HR.out]
          exact ⟨rfl, HB2.out⟩
        | true =>
          rw [h1] at CI HSN2 HBAD
          cases hh with
          | true =>
            have HR := Lib.hid (HBAD.out rfl)
            refine wp_region_quiet_below (by kernel_rfl) (by kernel_rfl) ?_
            repeat (first | go_big_quiet_step (first | (go_at_call 36; exact CI.out _ _) | (go_at_call 16; exact CH.out _ _) | (go_at_call 37; exact CV.out _ _)) | quiet_step (first | (go_at_call 36; exact CI.out _ _) | (go_at_call 16; exact CH.out _ _) | (go_at_call 37; exact CV.out _ _)))
            refine wpQuiet_nil ?_
            intro _ hw'
            obtain ⟨⟨dq, osq⟩, hw''⟩ := hw'
            subst hw''
            clear CI CH CV j j0 j1 j2 j3 j4 j5 j6 j7 j8
            have HB2 := Lib.hid (HBW.out.trans ((below_regrown wr dq osq).mono HBW.out.size))
            go_wp2_with fail
            go_ret
            rw [HR.out]
            exact ⟨rfl, HB2.out⟩
          | false =>
            cases h3 : (Q.validQ y.num y.den && y.dim.ok) with
            | false =>
              rw [h3] at CV HBAD
              have HR := Lib.hid (HBAD.out rfl)
              refine wp_region_quiet_below (by kernel_rfl) (by kernel_rfl) ?_
              repeat (first | go_big_quiet_step (first | (go_at_call 36; exact CI.out _ _) | (go_at_call 16; exact CH.out _ _) | (go_at_call 37; exact CV.out _ _)) | quiet_step (first | (go_at_call 36; exact CI.out _ _) | (go_at_call 16; exact CH.out _ _) | (go_at_call 37; exact CV.out _ _)))
              refine wpQuiet_nil ?_
              intro _ hw'
              obtain ⟨⟨dq, osq⟩, hw''⟩ := hw'
              subst hw''
              clear CI CH CV j j0 j1 j2 j3 j4 j5 j6 j7 j8
              have HB2 := Lib.hid (HBW.out.trans ((below_regrown wr dq osq).mono HBW.out.size))
              go_wp2_with fail
              go_ret
              rw [HR.out]
              exact ⟨rfl, HB2.out⟩
            | true =>
              rw [h3] at CV HSN2
              refine wp_region_quiet_below (by kernel_rfl) (by kernel_rfl) ?_
              repeat (first | go_big_quiet_step (first | (go_at_call 36; exact CI.out _ _) | (go_at_call 16; exact CH.out _ _) | (go_at_call 37; exact CV.out _ _)) | quiet_step (first | (go_at_call 36; exact CI.out _ _) | (go_at_call 16; exact CH.out _ _) | (go_at_call 37; exact CV.out _ _)))
              refine wpQuiet_nil ?_
              intro _ hw'
              obtain ⟨⟨dq, osq⟩, hw''⟩ := hw'
              subst hw''
              clear CI CH CV j j0 j1 j2 j3 j4 j5 j6 j7 j8
              have HB2 := Lib.hid (HBW.out.trans ((below_regrown wr dq osq).mono HBW.out.size))
              go_wp2_with fail
              go_roundg (100 - i)
              case measure => omega
              case rel => exact ⟨i + 1, by omega, by omega, by go_num, HSN2.out, HB2.out⟩
      · have hltz : ¬ (i : Int) < (ns.length : Int) := by omega
        have hltz2 : ¬ (i : Int) < (vs.length : Int) := by have := HL1.out; omega
        have e : E.take i = E := List.take_of_length_le (by have := HEl.out; omega)
        have hok := HOK.out
        rw [e] at hok
        have HR : Hid (envB ns vs = true) := HEB.out.trans hok
        clear hok e
        go_wp2_with fail
        go_ret
        rw [HR.out]
        exact ⟨rfl, HBW.out⟩
  · have HR : Hid (envB ns vs = false) := by show _ = _; unfold envB; rw [decide_eq_false hlen, Bool.false_and]
    rw [HR.out]
    by_cases h1 : ns.length = vs.length
    · have hb1 : ((ns.length : Int) != (vs.length : Int)) = false := by simp [h1]
      have hb2 : (100 : Int) < (ns.length : Int) := by
        by_cases h2 : ns.length ≤ 100
        · exact absurd ⟨h1, h2⟩ hlen
        · omega
      clear hlen h1
      go_wp2_with fail
      go_ret
      exact ⟨rfl, Below.refl _ _⟩
    · have hb1 : ((ns.length : Int) != (vs.length : Int)) = true := by rw [bne_iff_ne]; omega
      clear hlen
      go_wp2_with fail
      go_ret
      exact ⟨rfl, Below.refl _ _⟩
end Go.Proofs.YtknpigdpepmimaaGreatDoor
