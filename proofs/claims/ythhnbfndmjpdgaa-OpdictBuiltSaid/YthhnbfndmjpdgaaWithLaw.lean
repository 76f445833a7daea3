/- OpdictWith returns true for every slice of entries and every entry, and leaves its arguments as they were. No condition. -/
import Derived.Test.YthhnbfndmjpdgaaSame
import Derived.Test.YthhnbfndmjpdgaaOpen2
namespace Go.Proofs.Ythhnbfndmjpdgaa
open Go.ChangeShapes Go.WideShapes Go.ChangeAt Go.RowKit
open Go.ChangeMaps (open_string shut_string)

theorem withR_len (l : List Ent) (e : Ent) : (withR l e).1.length ≤ l.length + 1 := by
  unfold withR
  split
  · split
    · simp
    · split <;> simp
  · simp

set_option maxHeartbeats 400000 in
theorem withLaw_long (A : Option Addr) (n cp : Nat) (e : Ent) (w : World) (hn : 250 < n) (hm : n ≤ 9223372036854775807) :
    Calls Try.prog 6 #[.slice A n cp, .agg #[.string e.text, .int .i64 e.cls, .bool e.lim, .bool e.str]] w fun r w' => r = .returned (.bool true) ∧ Below w.heap.size w w' := by
  have hz : (250 : Int) < (n : Int) := by omega
  go_enter Try.func6, Try.ntmps6
  go_wp2_with (go_at_call 9; refine (awake_any _).mono ?_; rintro e w' ⟨rfl, hb⟩)
  go_ret
  exact ⟨rfl, ((Below.refl _ _).alloc (Nat.le_refl _) _).trans (hb.mono (by simp))⟩

set_option maxHeartbeats 1000000 in
theorem withLaw_short (A : Option Addr) (l : List Ent) (cp : Nat) (e : Ent) (w : World) (hl : ER w w.heap.size A l) (hn : l.length ≤ 250) (hok : ∀ e ∈ l, e.text.size ≤ maxLen) (hnil : A = none → cp = 0) (he : e.text.size ≤ maxLen) :
    Calls Try.prog 6 #[.slice A l.length cp, .agg #[.string e.text, .int .i64 e.cls, .bool e.lim, .bool e.str]] w fun r w' => r = .returned (.bool true) ∧ Below w.heap.size w w' := by
  have hlH := Lib.hid hl
  have HOK := Lib.hid hok
  have HNIL := Lib.hid hnil
  have hz : ¬ (250 : Int) < (l.length : Int) := by omega
  have hwl := withR_len l e
  clear hl hok hnil
  go_enter Try.func6, Try.ntmps6
  go_wp2_with fail
  refine (awake_any _).mono ?_
  rintro r w1 ⟨rfl, hb1⟩
  have hB1 : Below w.heap.size w w1 := ((Below.refl _ _).alloc (Nat.le_refl _) _).trans (hb1.mono (by simp))
  have HB1 := Lib.hid hB1
  have hs1 := hB1.size
  have Hb1 := Lib.hid hb1
  clear hB1 hb1
  go_wp2_with (at_builtin; refine wpList_append_ents (B := w.heap.size) rfl _ _ rfl w1.heap.size _ 0 [] rfl (World.ownsRow_made w1 #[] 0 (Nat.le_refl _) (Nat.zero_le _) rfl) A l cp rfl ?c1 HNIL.out ?c2 ?c3 ?_)
  case c1 => exact (hlH.out.below HB1.out).below ((Below.refl _ _).alloc hs1 _)
  case c2 => omega
  case c3 => simp
  intro v w2 hown hgrow
  have hb2 : Below w1.heap.size w1 w2 := ((Below.refl _ _).alloc (Nat.le_refl _) _).grown hgrow (by simp) (fun k hk => by simp [Value.ownBlock] at hk; omega)
  have hown2 : w2.ownsRow w1.heap.size 27 4 v l.length (ecells l) := by simpa using hown
  obtain ⟨A2, c2, hveq, hE2, _⟩ := ER.of_own hown2
  subst hveq
  have hb12 := Hb1.out.trans (hb2.mono Hb1.out.size)
  have hB2 := HB1.out.trans (hb2.mono hs1)
  obtain ⟨⟨q0, q1, q2, q3⟩, qf, qs⟩ := res4 hb12
  have HE2 := Lib.hid hE2
  have Hb12 := Lib.hid hb12
  have HB2 := Lib.hid hB2
  have hs2 := hB2.size
  clear hown hgrow hown2 hE2 hb12 hB2 hb2
  go_wp2_with fail
  refine (with_any A2 l c2 e _ HE2.out hn HOK.out he).mono ?_
  rintro r w3 ⟨A3, c3, rfl, hE3, hb3⟩
  have hB3 := HB2.out.trans (hb3.mono hs2)
  have hb13 := Hb12.out.trans (hb3.mono Hb12.out.size)
  clear q0 q1 q2 q3 qf qs
  obtain ⟨⟨q0, q1, q2, q3⟩, qf, qs⟩ := res4 hb13
  have HE2' := Lib.hid (HE2.out.below hb3)
  have HE3 := Lib.hid hE3
  have hs23 := hb3.size
  have hs3 := hB3.size
  have HB3 := Lib.hid hB3
  clear hE3 hb3 hb13 hB3
  go_wp2_with fail
  refine (refWith_any A l cp e _ ((hlH.out.below HB3.out).more hs3) hn HOK.out he HNIL.out).mono ?_
  rintro r w4 ⟨A4, c4, rfl, hE4, hb4⟩
  have hB4 := HB3.out.trans (hb4.mono hs3)
  have HE3' := Lib.hid (HE3.out.below hb4)
  have HE2'' := Lib.hid ((HE2'.out.more hs23).below hb4)
  have HE4 := Lib.hid hE4
  have HB4 := Lib.hid hB4
  have hs34 := hb4.size
  have hs4 := hB4.size
  clear hE4 hb4 hB4
  generalize withR l e = rr at *
  obtain ⟨rl, rn⟩ := rr
  simp only at *
  go_wp2_with fail
  refine (same_eq A3 A4 rl c3 c4 _ (HE3'.out.more hs34) HE4.out (by omega)).mono ?_
  rintro r w5 ⟨rfl, hb5⟩
  have hB5 := HB4.out.trans (hb5.mono hs4)
  have HE2c := Lib.hid ((HE2''.out.more hs34).below hb5)
  have hs45 := hb5.size
  have hs5 := hB5.size
  have HB5 := Lib.hid hB5
  clear hb5 hB5
  go_wp2_with fail
  refine (same_eq A2 A l c2 cp _ (HE2c.out.more hs45) ((hlH.out.below HB5.out).more hs5) (by omega)).mono ?_
  rintro r w6 ⟨rfl, hb6⟩
  have hB6 := HB5.out.trans (hb6.mono hs5)
  go_wp2
  go_ret
  exact ⟨rfl, hB6⟩

theorem withLaw_walk (A : Option Addr) (l : List Ent) (cp : Nat) (e : Ent) (w : World) (hl : ER w w.heap.size A l) (hm : l.length ≤ maxLen) (hok : ∀ e ∈ l, e.text.size ≤ maxLen) (hnil : A = none → cp = 0) (he : e.text.size ≤ maxLen) :
    Calls Try.prog 6 #[.slice A l.length cp, .agg #[.string e.text, .int .i64 e.cls, .bool e.lim, .bool e.str]] w fun r w' => r = .returned (.bool true) ∧ Below w.heap.size w w' := by
  by_cases h : l.length ≤ 250
  · exact withLaw_short A l cp e w hl h hok hnil he
  · exact withLaw_long A _ cp e w (by omega) (by unfold maxLen at hm; omega)

set_option maxRecDepth 100000 in
theorem withLaw_lifted (os : Os) (started : os.Started) (H : Type) (enc : TypeId × Value → H) :
    ReturnsInHanded {} Try.checked os 6 .any (Rows.opdictWithSpec.pre6 enc Try.prog Try.f6 Rows.opdictWithRow.domain false) (Rows.opdictWithSpec.post enc Try.prog Try.f6 false true false false) := by
  refine returnsInHanded_of_change (C := Try.checked) own started (by kernel_rfl) Try.func6
    (ChangeSpec.witness6 (enc := enc) (C := Try.checked) false ⟨#[], #[.slice none 0 0, .agg #[.string ⟨#[]⟩, .int .i64 0, .bool false, .bool false]], []⟩ 8 (by kernel_rfl) (by kernel_rfl) (by kernel_rfl) (by kernel_rfl)) ?_
  intro W base args ds gs before hval0 hW hcnd _
  have hval : ∀ (j : Nat) t v, Try.f6.params[j]? = some t → args[j]? = some v → Value.okWide Try.prog W .any base t v := hval0
  have hW' := hW
  obtain ⟨p, q, hA0, hV, rfl, hfz, hnd⟩ := hW
  have hA : DataW.TrodAll enc Try.prog W 0 (fun _ => true) true Try.f6.params.toList args.toList ds p := hA0
  rw [Try.params6] at hA hval
  obtain ⟨v0, vs0, d0, ds0, p0, q0, hargs, rfl, rfl, h0, r0⟩ := trodAll_cons hA
  obtain ⟨v1, vs1, d1, ds1, p1, q1, rfl, rfl, rfl, h1, r1⟩ := trodAll_cons r0
  obtain ⟨rfl, rfl, rfl⟩ := trodAll_nil r1
  obtain rfl : args = #[v0, v1] := by cases args; simp_all
  obtain ⟨rfl, rfl⟩ := trodVars_none hV
  obtain ⟨a0, len0, cap0, rfl⟩ := okWide_slice Try.underlying22 (hval 0 22 v0 rfl rfl)
  have k0 := h0
  have lt0 : ∀ x ∈ p0, x.block < W.heap.size := by obtain ⟨m, hm⟩ := k0; exact DataW.trod_lt m _ _ _ hm
  obtain ⟨l0, w0, rfl, hm0, hok0, hn0⟩ : ∃ l : List Ent, ER W W.heap.size a0 l ∧ len0 = l.length ∧ l.length ≤ maxLen ∧ (∀ e ∈ l, e.text.size ≤ maxLen) ∧ (a0 = none → cap0 = 0) := by
    obtain ⟨fuel, hf⟩ := h0
    have hf' := hf
    obtain ⟨A, l, c, hcs, hm, _, her, hk⟩ := open_ents hf
    have hz := open_nil hf'
    simp [Value.cells] at hcs hz
    obtain ⟨rfl, rfl, rfl⟩ := hcs
    exact ⟨l, her, rfl, hm, fun e he => (hk e he).2, hz⟩
  have k1 := h1
  have lt1 : ∀ x ∈ p1, x.block < W.heap.size := by obtain ⟨m, hm⟩ := k1; exact DataW.trod_lt m _ _ _ hm
  obtain ⟨e1, rfl, he1⟩ := open_entVal (hval 1 27 v1 rfl rfl) h1
  clear hA0 hval0
  refine (withLaw_walk a0 l0 cap0 e1 W w0 hm0 hok0 hn0 he1).mono fun e W' ⟨he, bel⟩ => ?_
  subst he
  exact ⟨_, rfl, _, _, _, [], _, [], hW', trodAll_mk1 (shut_bool Try.underlying4 _), (trodAll_cons_mk (Below.trod laidOut (by kernel_rfl) (of_decide_eq_true (by kernel_rfl)) k0 bel lt0) (trodAll_cons_mk (Below.trod laidOut (by kernel_rfl) (of_decide_eq_true (by kernel_rfl)) k1 bel lt1) trodAll_mk0)), rfl, bel.frame _, fun h => by cases h⟩

theorem withLaw_holds : Rows.OpdictWithSaid :=
  OpenClaim.holds_of_wide 6 Try.f6 rfl rfl rfl rfl rfl rfl rfl ⟨rfl, rfl, rfl, rfl, rfl⟩ rfl rfl rfl rfl rfl (by kernel_rfl) Try.func6 (by kernel_rfl)
    (of_decide_eq_true (by kernel_rfl)) (by unfold Func.isWrapper; first | (rw [if_pos (by decide +kernel)]; kernel_rfl) | (rw [if_neg (by decide +kernel)]; exact ⟨rfl, rfl⟩))
    (fun os started H enc _ => withLaw_lifted os started H enc)
#print axioms withLaw_holds
end Go.Proofs.Ythhnbfndmjpdgaa
