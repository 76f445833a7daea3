/- OpdictKeeps returns true for every slice of entries, every entry and every text, and leaves its arguments as they were. No condition. -/
import Derived.Test.YthhnbfndmjpdgaaPlain
import Derived.Test.YthhnbfndmjpdgaaWithLaw
import Derived.Lib.QuietBelow
namespace Go.Proofs.Ythhnbfndmjpdgaa
open Go.ChangeShapes Go.WideShapes Go.ChangeAt Go.RowKit
open Go.ChangeMaps (open_string shut_string)

theorem ER.reg {w : World} {A : Option Addr} {l : List Ent} (h : ER w w.heap.size A l) (d : Nat) (os : Array Obj) : ER (Sort.grow (redrawn w d) os) (Sort.grow (redrawn w d) os).heap.size A l :=
  (h.below (below_regrown w d os)).more (below_regrown w d os).size

set_option maxHeartbeats 400000 in
theorem keeps_long (A : Option Addr) (n cp : Nat) (e : Ent) (t : ByteArray) (w : World) (hn : 250 < n) (hm : n ≤ 9223372036854775807) :
    Calls Try.prog 7 #[.slice A n cp, .agg #[.string e.text, .int .i64 e.cls, .bool e.lim, .bool e.str], .string t] w fun r w' => r = .returned (.bool true) ∧ Below w.heap.size w w' := by
  have hz : (250 : Int) < (n : Int) := by omega
  go_enter Try.func7, Try.ntmps7
  go_wp2_with (go_at_call 9; refine (awake_any _).mono ?_; rintro e w' ⟨rfl, hb⟩)
  go_ret
  exact ⟨rfl, ((Below.refl _ _).alloc (Nat.le_refl _) _).trans (hb.mono (by simp))⟩

set_option maxHeartbeats 1000000 in
theorem keeps_err (A : Option Addr) (l : List Ent) (cp : Nat) (e : Ent) (t : ByteArray) (w : World) (hl : ER w w.heap.size A l) (hn : l.length ≤ 250) (hok : ∀ e ∈ l, e.text.size ≤ maxLen) (he : e.text.size ≤ maxLen) (n : Int) (hne : n ≠ 0) (hw : withR l e = ([], n)) :
    Calls Try.prog 7 #[.slice A l.length cp, .agg #[.string e.text, .int .i64 e.cls, .bool e.lim, .bool e.str], .string t] w fun r w' => r = .returned (.bool true) ∧ Below w.heap.size w w' := by
  have hlH := Lib.hid hl
  have HOK := Lib.hid hok
  have HW := Lib.hid hw
  have hz : ¬ (250 : Int) < (l.length : Int) := by omega
  have hne' : (n != 0) = true := by simpa using hne
  clear hl hok hw hne
  go_enter Try.func7, Try.ntmps7
  go_wp2_with fail
  refine (awake_any _).mono ?_
  rintro r w1 ⟨rfl, hb1⟩
  have hB1 : Below w.heap.size w w1 := ((Below.refl _ _).alloc (Nat.le_refl _) _).trans (hb1.mono (by simp))
  obtain ⟨⟨q0, q1, q2, q3⟩, qf, qs⟩ := res4 hb1
  have hs1 := hB1.size
  clear hb1
  go_wp2_with fail
  refine (with_any A l cp e _ ((hlH.out.below hB1).more hs1) hn HOK.out he).mono ?_
  rw [HW.out]
  rintro r w2 ⟨A2, c2, rfl, hE2, hb2⟩
  have hB2 := hB1.trans (hb2.mono hs1)
  clear hE2 hb2
  go_wp2
  go_ret
  exact ⟨rfl, hB2⟩

set_option maxHeartbeats 1000000 in
theorem keeps_ok (A : Option Addr) (l : List Ent) (cp : Nat) (e : Ent) (t : ByteArray) (w : World) (hl : ER w w.heap.size A l) (hn : l.length ≤ 250) (hok : ∀ e ∈ l, e.text.size ≤ maxLen) (he : e.text.size ≤ maxLen) (L : List Ent) (hw : withR l e = (L, 0)) :
    Calls Try.prog 7 #[.slice A l.length cp, .agg #[.string e.text, .int .i64 e.cls, .bool e.lim, .bool e.str], .string t] w fun r w' => r = .returned (.bool true) ∧ Below w.heap.size w w' := by
  obtain ⟨_, _, hvL, hwL, hfL, hkL, hmL⟩ := withR_ok l e L hw
  have hlH := Lib.hid hl
  have HOK := Lib.hid hok
  have HW := Lib.hid hw
  have HVL := Lib.hid hvL
  have HWL := Lib.hid hwL
  have HFL := Lib.hid hfL
  have HKL := Lib.hid hkL
  have HOKL : Hid (∀ x ∈ L, x.text.size ≤ maxLen) := fun x hx => by rcases hmL x hx with h | h; exact hok x h; rw [h]; exact he
  have hLn : L.length ≤ 200 := ((valid_iff L).1 hvL).1
  have hz : ¬ (250 : Int) < (l.length : Int) := by omega
  clear hl hok hw hvL hwL hfL hkL hmL
  go_enter Try.func7, Try.ntmps7
  go_wp2_with fail
  refine (awake_any _).mono ?_
  rintro r w1 ⟨rfl, hb1⟩
  have hB1 : Below w.heap.size w w1 := ((Below.refl _ _).alloc (Nat.le_refl _) _).trans (hb1.mono (by simp))
  obtain ⟨⟨q0, q1, q2, q3⟩, qf, qs⟩ := res4 hb1
  have hs1 := hB1.size
  go_wp2_with fail
  refine (with_any A l cp e _ ((hlH.out.below hB1).more hs1) hn HOK.out he).mono ?_
  rw [HW.out]
  rintro r w2 ⟨A2, c2, rfl, hE2, hb2⟩
  have hB2 := hB1.trans (hb2.mono hs1)
  have hb12 := hb1.trans (hb2.mono hb1.size)
  clear q0 q1 q2 q3 qf qs
  obtain ⟨⟨q0, q1, q2, q3⟩, qf, qs⟩ := res4 hb12
  have HE2 := Lib.hid hE2
  have hs2 := hB2.size
  clear hE2 hb2 hb1 hB1
  simp only
  go_wp2_with fail
  refine (with_any A2 L c2 e _ HE2.out (by omega) HOKL.out he).mono ?_
  rw [HWL.out]
  rintro r w3 ⟨A3, c3, rfl, hE3, hb3⟩
  have hB3 := hB2.trans (hb3.mono hs2)
  have hb13 := hb12.trans (hb3.mono hb12.size)
  clear q0 q1 q2 q3 qf qs
  obtain ⟨⟨q0, q1, q2, q3⟩, qf, qs⟩ := res4 hb13
  have HE3 := Lib.hid hE3
  have HE2' := Lib.hid ((HE2.out.below hb3).more hb3.size)
  have HB3 := Lib.hid hB3
  have Hb13 := Lib.hid hb13
  clear hE3 hb3 hB3 hb13 hb12
  simp only
  go_wp2_with fail
  have k0 := fun d os => cell_regrown q0 d os
  have k1 := fun d os => cell_regrown q1 d os
  have k2 := fun d os => cell_regrown q2 d os
  have k3 := fun d os => cell_regrown q3 d os
  have cS := Lib.hid fun d os => Calls.regrown_of (same_eq A2 A3 L c2 c3 (Sort.grow (redrawn w3 d) os) (HE2'.out.reg d os) (HE3.out.reg d os) (by omega))
  have cV := Lib.hid fun d os => Calls.regrown_of (valid_any A2 L c2 (Sort.grow (redrawn w3 d) os) (HE2'.out.reg d os) (by unfold maxLen; omega) HOKL.out)
  have cF := Lib.hid fun d os => Calls.regrown_of (find_any A2 L c2 e.text (Sort.grow (redrawn w3 d) os) (HE2'.out.reg d os) (by omega))
  simp only [HVL.out] at cV
  simp only [HFL.out, Ent.val] at cF
  refine wp_region_quiet_below (by kernel_rfl) (by kernel_rfl) ?_
  repeat (first | go_big_quiet_step (first | exact cS.out _ _ | exact cV.out _ _ | exact cF.out _ _) | quiet_step (first | exact cS.out _ _ | exact cV.out _ _ | exact cF.out _ _))
  refine wpQuiet_nil ?_
  intro _ hw'
  obtain ⟨⟨dq, osq⟩, hw''⟩ := hw'
  subst hw''
  clear cS cV cF
  obtain ⟨w4, hw4⟩ : ∃ w4 : World, w4 = Sort.grow (redrawn w3 dq) osq := ⟨_, rfl⟩
  have j0 := k0 dq osq
  have hb4 := below_regrown w3 dq osq
  rw [← hw4] at j0 hb4 ⊢
  clear hw4 k0 k1 k2 k3 q0 q1 q2 q3 qf qs
  have hs34 := hb4.size
  have hs3 := HB3.out.size
  have HB4 := Lib.hid (HB3.out.trans (hb4.mono hs3))
  have HE4 := Lib.hid ((HE2'.out.below hb4).more hs34)
  have HL4 := Lib.hid ((hlH.out.below HB4.out).more HB4.out.size)
  clear hb4
  cases ht : eqT t e.text with
  | true =>
    have ht' : (t.toList == e.text.toList) = true := ht
    clear ht
    go_wp2
    go_ret
    exact ⟨rfl, HB4.out⟩
  | false =>
    have ht' : (t.toList == e.text.toList) = false := ht
    have HF : Hid (find L t = find l t) := HKL.out t (fun h => by rw [h, eqT_refl] at ht; cases ht)
    clear ht
    go_wp2_with fail
    refine (find_any A2 L c2 t _ HE4.out (by omega)).mono ?_
    rintro r w5 ⟨rfl, hb5⟩
    have hs4 := HB4.out.size
    have HB5 := Lib.hid (HB4.out.trans (hb5.mono hs4))
    have hs5 := HB5.out.size
    clear hb5
    go_wp2_with fail
    refine (find_any A l cp t _ ((hlH.out.below HB5.out).more hs5) hn).mono ?_
    rintro r w6 ⟨rfl, hb6⟩
    have HB6 := Lib.hid (HB5.out.trans (hb6.mono hs5))
    clear hb6
    rw [HF.out]
    generalize find l t = ff
    obtain ⟨ft, fk, fl, fs⟩ := ff
    simp only [Ent.val]
    go_wp2
    go_ret
    exact ⟨ret_bool (by simp), HB6.out⟩

theorem keeps_walk (A : Option Addr) (l : List Ent) (cp : Nat) (e : Ent) (t : ByteArray) (w : World) (hl : ER w w.heap.size A l) (hm : l.length ≤ maxLen) (hok : ∀ e ∈ l, e.text.size ≤ maxLen) (_hnil : A = none → cp = 0) (he : e.text.size ≤ maxLen) :
    Calls Try.prog 7 #[.slice A l.length cp, .agg #[.string e.text, .int .i64 e.cls, .bool e.lim, .bool e.str], .string t] w fun r w' => r = .returned (.bool true) ∧ Below w.heap.size w w' := by
  by_cases h : l.length ≤ 250
  · by_cases h0 : (withR l e).2 = 0
    · exact keeps_ok A l cp e t w hl h hok he (withR l e).1 (by rw [← h0])
    · exact keeps_err A l cp e t w hl h hok he (withR l e).2 h0 (by rw [← withR_err l e h0])
  · exact keeps_long A _ cp e t w (by omega) (by unfold maxLen at hm; omega)

set_option maxRecDepth 100000 in
theorem keeps_lifted (os : Os) (started : os.Started) (H : Type) (enc : TypeId × Value → H) :
    ReturnsInHanded {} Try.checked os 7 .any (Rows.opdictKeepsSpec.pre6 enc Try.prog Try.f7 Rows.opdictKeepsRow.domain false) (Rows.opdictKeepsSpec.post enc Try.prog Try.f7 false true false false) := by
  refine returnsInHanded_of_change (C := Try.checked) own started (by kernel_rfl) Try.func7
    (ChangeSpec.witness6 (enc := enc) (C := Try.checked) false ⟨#[], #[.slice none 0 0, .agg #[.string ⟨#[]⟩, .int .i64 0, .bool false, .bool false], .string ⟨#[]⟩], []⟩ 8 (by kernel_rfl) (by kernel_rfl) (by kernel_rfl) (by kernel_rfl)) ?_
  intro W base args ds gs before hval0 hW hcnd _
  have hval : ∀ (j : Nat) t v, Try.f7.params[j]? = some t → args[j]? = some v → Value.okWide Try.prog W .any base t v := hval0
  have hW' := hW
  obtain ⟨p, q, hA0, hV, rfl, hfz, hnd⟩ := hW
  have hA : DataW.TrodAll enc Try.prog W 0 (fun _ => true) true Try.f7.params.toList args.toList ds p := hA0
  rw [Try.params7] at hA hval
  obtain ⟨v0, vs0, d0, ds0, p0, q0, hargs, rfl, rfl, h0, r0⟩ := trodAll_cons hA
  obtain ⟨v1, vs1, d1, ds1, p1, q1, rfl, rfl, rfl, h1, r1⟩ := trodAll_cons r0
  obtain ⟨v2, vs2, d2, ds2, p2, q2, rfl, rfl, rfl, h2, r2⟩ := trodAll_cons r1
  obtain ⟨rfl, rfl, rfl⟩ := trodAll_nil r2
  obtain rfl : args = #[v0, v1, v2] := by cases args; simp_all
  obtain ⟨rfl, rfl⟩ := trodVars_none hV
  obtain ⟨a0, len0, cap0, rfl⟩ := okWide_slice Try.underlying22 (hval 0 22 v0 rfl rfl)
  have k0 := h0
  have lt0 : ∀ x ∈ p0, x.block < W.heap.size := by obtain ⟨m, hm⟩ := k0; exact DataW.trod_lt m _ _ _ hm
  obtain ⟨l0, w0, rfl, hm0, hok0, hn0⟩ : ∃ l : List Ent, ER W W.heap.size a0 l ∧ len0 = l.length ∧ l.length ≤ maxLen ∧ (∀ e ∈ l, e.text.size ≤ maxLen) ∧ (a0 = none → cap0 = 0) := by
    obtain ⟨fuel, hf⟩ := h0
    have hf' := hf
    obtain ⟨A, l, c, hcs, hm, _, her, hk⟩ := open_ents hf
    have hz := open_nil hf'
    simp [Value.cells] at hcs hz
    obtain ⟨rfl, rfl, rfl⟩ := hcs
    exact ⟨l, her, rfl, hm, fun e he => (hk e he).2, hz⟩
  have k1 := h1
  have lt1 : ∀ x ∈ p1, x.block < W.heap.size := by obtain ⟨m, hm⟩ := k1; exact DataW.trod_lt m _ _ _ hm
  obtain ⟨e1, rfl, he1⟩ := open_entVal (hval 1 27 v1 rfl rfl) h1
  obtain ⟨s2, rfl, rfl, rfl, ws2⟩ := open_string Try.underlying9 (hval 2 9 v2 rfl rfl) h2
  clear hA0 hval0
  refine (keeps_walk a0 l0 cap0 e1 s2 W w0 hm0 hok0 hn0 he1).mono fun e W' ⟨he, bel⟩ => ?_
  subst he
  exact ⟨_, rfl, _, _, _, [], _, [], hW', trodAll_mk1 (shut_bool Try.underlying4 _), (trodAll_cons_mk (Below.trod laidOut (by kernel_rfl) (of_decide_eq_true (by kernel_rfl)) k0 bel lt0) (trodAll_cons_mk (Below.trod laidOut (by kernel_rfl) (of_decide_eq_true (by kernel_rfl)) k1 bel lt1) (trodAll_cons_mk (shut_string Try.underlying9 ws2) trodAll_mk0))), rfl, bel.frame _, fun h => by cases h⟩

theorem keeps_holds : Rows.OpdictKeepsSaid :=
  OpenClaim.holds_of_wide 7 Try.f7 rfl rfl rfl rfl rfl rfl rfl ⟨rfl, rfl, rfl, rfl, rfl⟩ rfl rfl rfl rfl rfl (by kernel_rfl) Try.func7 (by kernel_rfl)
    (of_decide_eq_true (by kernel_rfl)) (by unfold Func.isWrapper; first | (rw [if_pos (by decide +kernel)]; kernel_rfl) | (rw [if_neg (by decide +kernel)]; exact ⟨rfl, rfl⟩))
    (fun os started H enc _ => keeps_lifted os started H enc)
#print axioms keeps_holds
end Go.Proofs.Ythhnbfndmjpdgaa
