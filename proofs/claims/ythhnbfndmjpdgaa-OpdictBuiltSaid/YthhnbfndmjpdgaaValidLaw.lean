/- OpdictValid returns true for every slice of entries and leaves it as it was. No condition. -/
import Derived.Test.YthhnbfndmjpdgaaRefValid
import Derived.Test.YthhnbfndmjpdgaaOpen
namespace Go.Proofs.Ythhnbfndmjpdgaa
open Go.ChangeShapes Go.WideShapes Go.ChangeAt Go.RowKit

theorem valid_any (A : Option Addr) (l : List Ent) (cp : Nat) (w : World) (hl : ER w w.heap.size A l) (hm : l.length ≤ maxLen) (hok : ∀ e ∈ l, e.text.size ≤ maxLen) :
    Calls Try.prog 14 #[.slice A l.length cp] w fun e w' => e = .returned (.bool (validB l)) ∧ Below w.heap.size w w' := by
  by_cases h : l.length ≤ 200
  · exact valid_within A l cp w hl h hok
  · rw [valid_long l (by omega)]
    exact valid_over A _ cp w (by omega) (by unfold maxLen at hm; omega)

set_option maxHeartbeats 400000 in
theorem validLaw_walk (A : Option Addr) (l : List Ent) (cp : Nat) (w : World) (hl : ER w w.heap.size A l) (hm : l.length ≤ maxLen) (hok : ∀ e ∈ l, e.text.size ≤ maxLen) :
    Calls Try.prog 4 #[.slice A l.length cp] w fun e w' => e = .returned (.bool true) ∧ Below w.heap.size w w' := by
  have hlH := Lib.hid hl
  have HOK := Lib.hid hok
  have HM := Lib.hid hm
  unfold maxLen at hm
  clear hl hok
  by_cases hn : l.length ≤ 250
  · have hz : ¬ (250 : Int) < (l.length : Int) := by omega
    go_enter Try.func4, Try.ntmps4
    go_wp2_with fail
    refine (awake_any _).mono ?_
    rintro e w1 ⟨rfl, hb1⟩
    have H1 := Lib.hid (hlH.out.below hb1)
    have hs1 := hb1.size
    go_wp2_with fail
    refine (valid_any A l cp _ (H1.out.more hs1) HM.out HOK.out).mono ?_
    rintro e w2 ⟨rfl, hb2⟩
    have hB2 : Below w.heap.size w w2 := hb1.trans (hb2.mono hs1)
    have H2 := Lib.hid (hlH.out.below hB2)
    have hs2 := hB2.size
    go_wp2_with fail
    refine (refValid_any A l cp _ (H2.out.more hs2) hn HOK.out).mono ?_
    rintro e w3 ⟨rfl, hb3⟩
    have hB3 : Below w.heap.size w w3 := hB2.trans (hb3.mono hs2)
    generalize validB l = vb
    go_wp2
    go_ret
    exact ⟨ret_bool (by simp), hB3⟩
  · have hz : (250 : Int) < (l.length : Int) := by omega
    go_enter Try.func4, Try.ntmps4
    go_wp2_with (go_at_call 9; refine (awake_any _).mono ?_; rintro e w' ⟨rfl, hb⟩)
    go_ret
    exact ⟨rfl, hb⟩

set_option maxRecDepth 100000 in
theorem valid_lifted (os : Os) (started : os.Started) (H : Type) (enc : TypeId × Value → H) :
    ReturnsInHanded {} Try.checked os 4 .any (Rows.opdictValidSpec.pre6 enc Try.prog Try.f4 Rows.opdictValidRow.domain false) (Rows.opdictValidSpec.post enc Try.prog Try.f4 false true false false) := by
  refine returnsInHanded_of_change (C := Try.checked) own started (by kernel_rfl) Try.func4
    (ChangeSpec.witness6 (enc := enc) (C := Try.checked) false ⟨#[], #[.slice none 0 0], []⟩ 8 (by kernel_rfl) (by kernel_rfl) (by kernel_rfl) (by kernel_rfl)) ?_
  intro W base args ds gs before hval0 hW hcnd _
  have hval : ∀ (j : Nat) t v, Try.f4.params[j]? = some t → args[j]? = some v → Value.okWide Try.prog W .any base t v := hval0
  have hW' := hW
  obtain ⟨p, q, hA0, hV, rfl, hfz, hnd⟩ := hW
  have hA : DataW.TrodAll enc Try.prog W 0 (fun _ => true) true Try.f4.params.toList args.toList ds p := hA0
  rw [Try.params4] at hA hval
  obtain ⟨v0, vs0, d0, ds0, p0, q0, hargs, rfl, rfl, h0, r0⟩ := trodAll_cons hA
  obtain ⟨rfl, rfl, rfl⟩ := trodAll_nil r0
  obtain rfl : args = #[v0] := by cases args; simp_all
  obtain ⟨rfl, rfl⟩ := trodVars_none hV
  obtain ⟨a0, len0, cap0, rfl⟩ := okWide_slice Try.underlying22 (hval 0 22 v0 rfl rfl)
  have k0 := h0
  have lt0 : ∀ x ∈ p0, x.block < W.heap.size := by obtain ⟨m, hm⟩ := k0; exact DataW.trod_lt m _ _ _ hm
  obtain ⟨l, w0, rfl, hml, hok⟩ : ∃ l : List Ent, ER W W.heap.size a0 l ∧ len0 = l.length ∧ l.length ≤ maxLen ∧ ∀ e ∈ l, e.text.size ≤ maxLen := by
    obtain ⟨fuel, hf⟩ := h0
    obtain ⟨A, l, c, hcs, hm, _, her, hk⟩ := open_ents hf
    simp [Value.cells] at hcs
    obtain ⟨rfl, rfl, rfl⟩ := hcs
    exact ⟨l, her, rfl, hm, fun e he => (hk e he).2⟩
  clear hA0 hval0
  refine (validLaw_walk a0 l cap0 W w0 hml hok).mono fun e W' ⟨he, bel⟩ => ?_
  subst he
  exact ⟨_, rfl, _, _, _, [], _, [], hW', trodAll_mk1 (shut_bool Try.underlying4 _), (trodAll_cons_mk (Below.trod laidOut (by kernel_rfl) (of_decide_eq_true (by kernel_rfl)) k0 bel lt0) trodAll_mk0), rfl, bel.frame _, fun h => by cases h⟩

theorem valid_holds : Rows.OpdictValidSaid :=
  OpenClaim.holds_of_wide 4 Try.f4 rfl rfl rfl rfl rfl rfl rfl ⟨rfl, rfl, rfl, rfl, rfl⟩ rfl rfl rfl rfl rfl (by kernel_rfl) Try.func4 (by kernel_rfl)
    (of_decide_eq_true (by kernel_rfl)) (by unfold Func.isWrapper; first | (rw [if_pos (by decide +kernel)]; kernel_rfl) | (rw [if_neg (by decide +kernel)]; exact ⟨rfl, rfl⟩))
    (fun os started H enc _ => valid_lifted os started H enc)
#print axioms valid_holds
end Go.Proofs.Ythhnbfndmjpdgaa
