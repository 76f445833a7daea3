/- OpdictOrder returns true for every slice of entries and every text, and leaves its arguments as they were. No condition. -/
import Derived.Test.YthhnbfndmjpdgaaRowsOf
import Derived.Test.YthhnbfndmjpdgaaValidLaw
namespace Go.Proofs.Ythhnbfndmjpdgaa
open Go.ChangeShapes Go.WideShapes Go.ChangeAt Go.RowKit
open Go.ChangeMaps (open_string shut_string)

theorem ent_info : (Try.prog.info? 27).map (fun i => (i.zero, i.size, i.bytes)) = some (some (.agg #[.string ⟨#[]⟩, .int .i64 0, .bool false, .bool false]), 4, 32) := by kernel_rfl

theorem own_ent_snoc {w' : World} {base : Nat} {v : Value} {L : List Ent} {k : Nat} (hk : k < L.length)
    (h : w'.ownsRow base 27 4 v (k + 1) (ecells (L.take k) ++ L[k].cells)) : w'.ownsRow base 27 4 v (k + 1) (ecells (L.take (k + 1))) := by
  rw [List.take_succ_eq_append_getElem hk, ecells_append, ecells_one]
  exact h

set_option maxHeartbeats 400000 in
theorem order_out (A : Option Addr) (l : List Ent) (cp : Nat) (x : ByteArray) (w : World) (hl : ER w w.heap.size A l) (hm : l.length ≤ maxLen) (hok : ∀ e ∈ l, e.text.size ≤ maxLen) (h : 250 < l.length ∨ validB l = false) :
    Calls Try.prog 5 #[.slice A l.length cp, .string x] w fun e w' => e = .returned (.bool true) ∧ Below w.heap.size w w' := by
  have hlH := Lib.hid hl
  have HOK := Lib.hid hok
  have HM := Lib.hid hm
  unfold maxLen at hm
  clear hl hok
  by_cases hn : l.length ≤ 250
  · have hv : Hid (validB l = false) := by
      rcases h with h | h
      · exact absurd h (by omega)
      · exact h
    clear h
    have hz : ¬ (250 : Int) < (l.length : Int) := by omega
    go_enter Try.func5, Try.ntmps5
    go_wp2_with fail
    refine (awake_any _).mono ?_
    rintro e w1 ⟨rfl, hb1⟩
    have H1 := Lib.hid (hlH.out.below hb1)
    have hs1 := hb1.size
    go_wp2_with fail
    refine (valid_any A l cp _ (H1.out.more hs1) HM.out HOK.out).mono ?_
    rw [hv.out]
    rintro e w2 ⟨rfl, hb2⟩
    have hB2 : Below w.heap.size w w2 := hb1.trans (hb2.mono hs1)
    go_wp2
    go_ret
    exact ⟨rfl, hB2⟩
  · have hz : (250 : Int) < (l.length : Int) := by omega
    clear h
    go_enter Try.func5, Try.ntmps5
    go_wp2_with (go_at_call 9; refine (awake_any _).mono ?_; rintro e w' ⟨rfl, hb⟩)
    go_ret
    exact ⟨rfl, hb⟩

set_option maxHeartbeats 1000000 in
theorem order_in (A : Option Addr) (l : List Ent) (cp : Nat) (x : ByteArray) (w : World) (hl : ER w w.heap.size A l) (hn : l.length ≤ 200) (hok : ∀ e ∈ l, e.text.size ≤ maxLen) (hval : validB l = true) :
    Calls Try.prog 5 #[.slice A l.length cp, .string x] w fun e w' => e = .returned (.bool true) ∧ Below w.heap.size w w' := by
  have hlH := Lib.hid hl
  have HOK := Lib.hid hok
  have HV := Lib.hid hval
  have hz : ¬ (250 : Int) < (l.length : Int) := by omega
  clear hl hok hval
  obtain ⟨L, hLe⟩ : ∃ L, L = l.reverse := ⟨_, rfl⟩
  have HL := Lib.hid hLe
  have HLl : Hid (L.length = l.length) := by show L.length = l.length; rw [hLe]; simp
  have hLn : L.length ≤ 200 := by rw [HLl.out]; exact hn
  have hLk : ∀ k, k ≤ l.length → k ≤ L.length := fun k h => by rw [HLl.out]; exact h
  clear hLe
  have HLk := Lib.hid hLk
  clear hLk
  obtain ⟨i0, hi0, hz0, hz1, hz2⟩ := info_parts ent_info
  go_enter Try.func5, Try.ntmps5
  go_wp2_with fail
  refine (awake_any _).mono ?_
  rintro e w1 ⟨rfl, hb1⟩
  have H1 := Lib.hid (hlH.out.below hb1)
  have hs1 := hb1.size
  go_wp2_with fail
  refine (valid_any A l cp _ (H1.out.more hs1) (by unfold maxLen; omega) HOK.out).mono ?_
  rw [HV.out]
  rintro e w2 ⟨rfl, hb2⟩
  have hB2 : Below w.heap.size w w2 := hb1.trans (hb2.mono hs1)
  clear hb1 hb2 hs1
  have hs2 := hB2.size
  have HB2 := Lib.hid hB2
  clear hB2
  go_wp2
  go_loopg [5, 6] l.length (fun gg s5 s6 wr => ∃ kk : Nat, ∃ ii : Int, kk ≤ l.length ∧ l.length - kk ≤ gg ∧ s6 = .int .i64 ii ∧ Aside (ii = (l.length : Int) - kk - 1) ∧ Aside (Below w.heap.size w wr) ∧ Aside (wr.ownsRow w.heap.size 27 4 s5 kk (ecells (L.take kk))))
  case atStart => exact ⟨0, _, Nat.zero_le _, by omega, rfl, (by show (_ : Int) = _; omega), HB2.out, World.ownsRow_nil _ _ _ _⟩
  case round =>
    obtain ⟨kk, ii, hkk, hg, rfl, HI, BW, OW⟩ := hrel
    have hWs := BW.out.size
    by_cases hlt : kk < l.length
    · obtain ⟨n, rfl⟩ : ∃ n : Nat, ii = n := ⟨ii.toNat, by have := HI.out; omega⟩
      have hnl : n < l.length := by have := HI.out; omega
      have hrev : Hid (∃ h : kk < L.length, L[kk] = l[n]) := ⟨by have := HLl.out; omega, by have h := HL.out; subst h; rw [List.getElem_reverse]; congr 1; have := HI.out; omega⟩
      have hz1' : (n : Int) < (l.length : Int) := by omega
      obtain ⟨b, off, rfl, hb, he⟩ := (hlH.out.below BW.out).at_ hnl
      obtain ⟨h0, h1, h2, h3⟩ := he
      have hbw : b < wr.heap.size := Nat.lt_of_lt_of_le hb BW.out.size
      go_wp2_with (at_builtin; refine wpList_append_own _ rfl _ _ 22 rfl w.heap.size 27 i0 _ 4 32 Try.underlying22 hi0 hz0 hz1 hz2 rfl (by decide) _ _ _ rfl (OW.out.alloc _) ⟨wr.heap.size, 0, none⟩ 1 1 l[n].cells rfl rfl ?c1 ?c2 ?c3 ?c4 ?c5 ?_)
      case c1 => intro j u hu; match j, hu with | 0, hu => (injection hu with hu; subst hu; simp [addr_add]) | 1, hu => (injection hu with hu; subst hu; simp [addr_add]) | 2, hu => (injection hu with hu; subst hu; simp [addr_add]) | 3, hu => (injection hu with hu; subst hu; simp [addr_add]) | (j + 4), hu => simp [Ent.cells] at hu
      case c2 => intro u hu; exact ecells_one' [l[n]] u (by rw [ecells_one]; exact hu)
      case c3 => unfold maxLen; omega
      case c4 => omega
      case c5 => simp; omega
      intro v' w3 hown' hgrow _
      have hB3 : Below w.heap.size w w3 := (BW.out.alloc hWs _).grown hgrow (by simp; omega) (fun k hk => (OW.out.lt k hk).1)
      have HB := Lib.hid hB3
      have HO : Hid (w3.ownsRow w.heap.size 27 4 v' (kk + 1) (ecells (L.take (kk + 1)))) := by
        obtain ⟨hk, hr⟩ := hrev.out
        exact own_ent_snoc hk (by rw [hr]; exact hown')
      clear hown' hgrow hB3
      go_wp2
      go_roundg (l.length - (kk + 1))
      case measure => omega
      case rel => exact ⟨kk + 1, _, by omega, by omega, rfl, (by have := HI.out; show (_ : Int) = _; omega), HB.out, HO.out⟩
    · obtain rfl : kk = l.length := by omega
      have hneg : ii < 0 := by have := HI.out; omega
      have hneg' : ¬ 0 ≤ ii := by omega
      have hown : wr.ownsRow w.heap.size 27 4 u5 L.length (ecells L) := by
        have h := OW.out
        rw [List.take_of_length_le (by rw [HLl.out]; exact Nat.le_refl _), ← HLl.out] at h
        exact h
      obtain ⟨A5, c5, hu5, hE5, _⟩ := ER.of_own hown
      have HE5 := Lib.hid hE5
      clear hown hE5
      have HBW := Lib.hid BW.out
      subst hu5
      go_wp2_with fail
      refine (valid_any A5 L c5 _ HE5.out (by unfold maxLen; omega) (fun e he => HOK.out e (by rw [HL.out] at he; simpa using he))).mono ?_
      rw [HL.out, valid_reverse l HV.out, ← HL.out]
      rintro e w4 ⟨rfl, hb4⟩
      have hB4 : Below w.heap.size w w4 := HBW.out.trans (hb4.mono hWs)
      have hE4 := Lib.hid (HE5.out.below hb4)
      have hs4 := hb4.size
      have hs4' := hB4.size
      go_wp2_with fail
      refine (find_any A l cp x _ ((hlH.out.below hB4).more hs4') (by omega)).mono ?_
      rintro e w5 ⟨rfl, hb5⟩
      have hB5 : Below w.heap.size w w5 := hB4.trans (hb5.mono hs4')
      have hE6 := Lib.hid ((hE4.out.more hs4).below hb5)
      have hs5 := hb5.size
      go_wp2_with fail
      refine (find_any A5 L c5 x _ (hE6.out.more hs5) (by omega)).mono ?_
      rw [HL.out, ← find_reverse l HV.out x, ← HL.out]
      rintro e w6 ⟨rfl, hb6⟩
      have hB6 : Below w.heap.size w w6 := hB5.trans (hb6.mono hB5.size)
      generalize find l x = ff
      obtain ⟨t, k, li, st⟩ := ff
      simp only [Ent.val]
      go_wp2
      go_ret
      exact ⟨ret_bool (by simp), hB6⟩

theorem order_walk (A : Option Addr) (l : List Ent) (cp : Nat) (x : ByteArray) (w : World) (hl : ER w w.heap.size A l) (hm : l.length ≤ maxLen) (hok : ∀ e ∈ l, e.text.size ≤ maxLen) :
    Calls Try.prog 5 #[.slice A l.length cp, .string x] w fun e w' => e = .returned (.bool true) ∧ Below w.heap.size w w' := by
  cases hv : validB l with
  | false => exact order_out A l cp x w hl hm hok (.inr hv)
  | true => exact order_in A l cp x w hl ((valid_iff l).1 hv).1 hok hv

set_option maxRecDepth 100000 in
theorem order_lifted (os : Os) (started : os.Started) (H : Type) (enc : TypeId × Value → H) :
    ReturnsInHanded {} Try.checked os 5 .any (Rows.opdictOrderSpec.pre6 enc Try.prog Try.f5 Rows.opdictOrderRow.domain false) (Rows.opdictOrderSpec.post enc Try.prog Try.f5 false true false false) := by
  refine returnsInHanded_of_change (C := Try.checked) own started (by kernel_rfl) Try.func5
    (ChangeSpec.witness6 (enc := enc) (C := Try.checked) false ⟨#[], #[.slice none 0 0, .string ⟨#[]⟩], []⟩ 8 (by kernel_rfl) (by kernel_rfl) (by kernel_rfl) (by kernel_rfl)) ?_
  intro W base args ds gs before hval0 hW hcnd _
  have hval : ∀ (j : Nat) t v, Try.f5.params[j]? = some t → args[j]? = some v → Value.okWide Try.prog W .any base t v := hval0
  have hW' := hW
  obtain ⟨p, q, hA0, hV, rfl, hfz, hnd⟩ := hW
  have hA : DataW.TrodAll enc Try.prog W 0 (fun _ => true) true Try.f5.params.toList args.toList ds p := hA0
  rw [Try.params5] at hA hval
  obtain ⟨v0, vs0, d0, ds0, p0, q0, hargs, rfl, rfl, h0, r0⟩ := trodAll_cons hA
  obtain ⟨v1, vs1, d1, ds1, p1, q1, rfl, rfl, rfl, h1, r1⟩ := trodAll_cons r0
  obtain ⟨rfl, rfl, rfl⟩ := trodAll_nil r1
  obtain rfl : args = #[v0, v1] := by cases args; simp_all
  obtain ⟨rfl, rfl⟩ := trodVars_none hV
  obtain ⟨a0, len0, cap0, rfl⟩ := okWide_slice Try.underlying22 (hval 0 22 v0 rfl rfl)
  have k0 := h0
  have lt0 : ∀ x ∈ p0, x.block < W.heap.size := by obtain ⟨m, hm⟩ := k0; exact DataW.trod_lt m _ _ _ hm
  obtain ⟨l, w0, rfl, hml, hok⟩ : ∃ l : List Ent, ER W W.heap.size a0 l ∧ len0 = l.length ∧ l.length ≤ maxLen ∧ ∀ e ∈ l, e.text.size ≤ maxLen := by
    obtain ⟨fuel, hf⟩ := h0
    obtain ⟨A, l, c, hcs, hm, _, her, hk⟩ := open_ents hf
    simp [Value.cells] at hcs
    obtain ⟨rfl, rfl, rfl⟩ := hcs
    exact ⟨l, her, rfl, hm, fun e he => (hk e he).2⟩
  obtain ⟨s1, rfl, rfl, rfl, ws1⟩ := open_string Try.underlying9 (hval 1 9 v1 rfl rfl) h1
  clear hA0 hval0
  refine (order_walk a0 l cap0 s1 W w0 hml hok).mono fun e W' ⟨he, bel⟩ => ?_
  subst he
  exact ⟨_, rfl, _, _, _, [], _, [], hW', trodAll_mk1 (shut_bool Try.underlying4 _), (trodAll_cons_mk (Below.trod laidOut (by kernel_rfl) (of_decide_eq_true (by kernel_rfl)) k0 bel lt0) (trodAll_cons_mk (shut_string Try.underlying9 ws1) trodAll_mk0)), rfl, bel.frame _, fun h => by cases h⟩

theorem order_holds : Rows.OpdictOrderSaid :=
  OpenClaim.holds_of_wide 5 Try.f5 rfl rfl rfl rfl rfl rfl rfl ⟨rfl, rfl, rfl, rfl, rfl⟩ rfl rfl rfl rfl rfl (by kernel_rfl) Try.func5 (by kernel_rfl)
    (of_decide_eq_true (by kernel_rfl)) (by unfold Func.isWrapper; first | (rw [if_pos (by decide +kernel)]; kernel_rfl) | (rw [if_neg (by decide +kernel)]; exact ⟨rfl, rfl⟩))
    (fun os started H enc _ => order_lifted os started H enc)
#print axioms order_holds
end Go.Proofs.Ythhnbfndmjpdgaa
