/- Walk of RationalParse; the tables of the library that its row lists. -/
import Derived.Test.YtaekhbhjgcmghaaDoorPrsR3
import Derived.Test.YtaekhbhjgcmghaaDoorMakeLaw
import Derived.Test.YtaekhbhjgcmghaaDoorLaid
import Derived.Shelf.Vars
import Derived.Handed
import Derived.Lay
namespace Go.Proofs.YtaekhbhjgcmghaaDoor
open Go.ChangeShapes Go.WideShapes Go.ChangeAt Go.RowKit

set_option maxHeartbeats 400000 in
theorem parseLaw_long (s : ByteArray) (w : World) (hl : ¬ s.size ≤ 60) (ht : Tab w) :
    Calls Tryd.prog 10 #[.string s] w fun e w' => e = .returned (.bool true) ∧ Below w.heap.size w w' := by
  have HT := Lib.hid ht
  have hlz : (60 : Int) < (s.size : Int) := by omega
  clear ht
  go_enter Tryd.func10, Tryd.ntmps10
  go_wp2_with fail
  refine (awake_any _ HT.out).mono ?_
  rintro e w1 ⟨rfl, hb1⟩
  go_wp2
  go_ret
  exact ⟨rfl, hb1⟩
set_option maxHeartbeats 1000000 in
theorem parseLaw_short (s : ByteArray) (w : World) (hl : s.size ≤ 60) (ht : Tab w) (hm : Max w) :
    Calls Tryd.prog 10 #[.string s] w fun e w' => e = .returned (.bool true) ∧ Below w.heap.size w w' := by
  have HT := Lib.hid ht
  have HM := Lib.hid hm
  have hlz : ¬ (60 : Int) < (s.size : Int) := by omega
  clear ht hm
  have HP := Lib.hid fun w1 (hm : Max w1) => parse_any s.data.toList w1 (by rw [len_list]; exact hl) hm
  have HS : Hid ((⟨s.data.toList.toArray⟩ : ByteArray) = s) := by show (⟨s.data.toList.toArray⟩ : ByteArray) = s; rw [Array.toArray_toList]
  rw [HS.out] at HP
  have HR := Lib.hid fun w1 => rparse_any s s.data.toList w1 rfl hl
  generalize parseQ s.data.toList = r at *
  obtain ⟨a, b, e0⟩ := r
  simp only [Res.val] at HP HR
  go_enter Tryd.func10, Tryd.ntmps10
  go_wp2_with fail
  refine (awake_any _ HT.out).mono ?_
  rintro e w1 ⟨rfl, hb1⟩
  have HB1 := Lib.hid hb1
  have HM1 := Lib.hid (HM.out.below hb1)
  clear hb1
  go_wp2_with fail
  refine (HP.out _ HM1.out).mono ?_
  rintro e w2 ⟨rfl, hb2⟩
  have HB2 := Lib.hid (HB1.out.trans (hb2.mono HB1.out.size))
  clear hb2 HB1
  go_wp2_with fail
  refine (HR.out _).mono ?_
  rintro e w3 ⟨rfl, hb3⟩
  obtain ⟨⟨q0, q1⟩, qf, qs, hB3⟩ := res2 hb3
  have HB3 := Lib.hid (HB2.out.trans (hB3.mono HB2.out.size))
  have hlt3 : w2.heap.size < w3.heap.size := qs
  clear hb3 hB3 HB2
  have k0 : (w3.alloc (.cells #[.int .i64 a, .int .i64 b] 28)).cell? ⟨w2.heap.size, 0, none⟩ = some (.int .i64 a) := by
    rw [World.cell?_alloc_lt _ _ _ hlt3]; exact q0
  have k1 : (w3.alloc (.cells #[.int .i64 a, .int .i64 b] 28)).cell? ⟨w2.heap.size, 1, none⟩ = some (.int .i64 b) := by
    rw [World.cell?_alloc_lt _ _ _ hlt3]; exact q1
  go_wp2_with fail
  refine (is_same a b e0 _).mono ?_
  rintro e w4 ⟨rfl, hb4⟩
  have HB4 := Lib.hid ((HB3.out.alloc HB3.out.size (.cells #[.int .i64 a, .int .i64 b] 28)).trans (hb4.mono (by have := HB3.out.size; simp; omega)))
  clear hb4
  go_wp2_with fail
  go_ret
  exact ⟨rfl, HB4.out⟩
theorem parseLaw_walk (s : ByteArray) (w : World) (_hs : s.size ≤ maxLen) (ht : Tab w) (hm : Max w) :
    Calls Tryd.prog 10 #[.string s] w fun e w' => e = .returned (.bool true) ∧ Below w.heap.size w w' := by
  by_cases hl : s.size ≤ 60
  · exact parseLaw_short s w hl ht hm
  · exact parseLaw_long s w hl ht

def laid5 : List (String × DataW Unit) := Rows.rationalParseRow.laid
theorem door_met5 (os : Os) (args : Array Value) : laidMetH Tryd.prog laid5 ((World.laidAll Tryd.prog os laid5).forCall (fun _ _ => 0) ⟨#[], args, []⟩).memory := by
  rw [MakeChecks.laidMetH_plain _ _ _ (by kernel_rfl)]
  exact laidMet_laidAll _ (by kernel_rfl) (by kernel_rfl)
theorem of_laid5 {W : World} (h : laidMetH Tryd.prog laid5 W) : Tab W := by
  rw [MakeChecks.laidMetH_plain _ _ _ (by kernel_rfl)] at h
  obtain ⟨ps, ⟨g0, t0, cs0, f0, p0, q0, hg0, ht0, hv0, hd0, ⟨g1, t1', cs1, f1, p1, q1, hg1, ht1, hv1, hd1, ⟨g2, t2, cs2, f2, p2, q2, hg2, ht2, hv2, hd2, _, _⟩, _⟩, _⟩, _, _⟩ := h
  obtain rfl := Option.some.inj (glob.symm.trans hg2)
  obtain rfl := Option.some.inj (t1.symm.trans ht2)
  have hc := Lib.cells_of_tab (k := .u64) (zs := Lib.pow10Tab) Tryd.underlying108 Tryd.underlying66 (by kernel_rfl) (by kernel_rfl) hd2
  have htab : Lib.TabIs Tryd.prog W "internal/strconv.uint64pow10" .u64 Lib.pow10Tab := by
    unfold Lib.TabIs
    rw [hv2, ← hc]
  refine ⟨htab, ?_⟩
  have hcell := htab.cell glob 0 (by decide)
  exact World.block_lt_of_cell? W _ hcell

theorem handed_shaped {H : Type} {enc : TypeId × Value → H} {a : Assume} {C : Checked} {os : Os} {f : FuncId} {fn : Func} {s : ChangeSpec} {conds : List PathCond} {apart fresh handsOn again : Bool} {X : World → Array Value → Prop}
    (hX : ∀ (w w' : World) (args : Array Value), w.heap = w'.heap → X w args → X w' args)
    (own : ownKnob C.prog.godebug = none) (started : os.Started) (noInit : C.prog.inits.idxOf? f = none) (hfn : C.prog.funcs[f]? = some fn)
    (witness : ∃ (w : World) (tape : Tape) (i : Input), w.os = os ∧ (w.forCall tape i).Shaped C.prog ∧ i.vars = [] ∧ Input.okWide C.prog (w.forCall tape i) .any w.heap.size f i ∧
      ((s.pre enc C.prog fn conds apart (w.forCall tape i).memory i.args ∧ X (w.forCall tape i).memory i.args) ∧ sizedMet enc C.prog fn (OpenSpec.ofChange s) apart (w.forCall tape i).memory i.args) ∧ a.holds C.prog (lone (Frame.enter C.prog f i.args .normal) [] (w.forCall tape i)))
    (contract : ∀ (W : World) (base : Nat) (args : Array Value) (ds gs : List (DataW H)) (before : List MemPlace),
      (∀ (j : Nat) t v, fn.params[j]? = some t → args[j]? = some v → Value.okWide C.prog W .any base t v) →
      DataW.Whole enc C.prog fn.params.toList s.vars apart W args.toList ds gs before →
      X W args → W.ShapedOpen C.prog →
      Calls C.prog f args W fun e W' => ∃ v, e = .returned v ∧ s.post enc C.prog fn apart fresh handsOn again W args v W') :
    ReturnsInHanded a C os f .any (fun w args => (s.pre enc C.prog fn conds apart w args ∧ X w args) ∧ sizedMet enc C.prog fn (OpenSpec.ofChange s) apart w args) (s.post enc C.prog fn apart fresh handsOn again) := by
  refine returnsInHanded_of_calls own started noInit witness ?_
  intro w tape i _ hsh _ hok hpre _
  obtain ⟨_, _, _, fn', hfn', _, _, _, _, hval⟩ := hok
  have e : fn' = fn := Option.some.inj (hfn'.symm.trans hfn)
  subst e
  obtain ⟨⟨⟨ds, gs, before, hw, _⟩, hx⟩, _⟩ := hpre
  refine (contract (w.forCall tape i) w.heap.size i.args ds gs before hval (DataW.Whole.of_heap (w' := w.forCall tape i) (by rfl) hw) (hX _ _ _ (by rfl) hx) hsh).mono fun e W' ⟨v, he, hp⟩ => ?_
  subst he
  exact ChangeSpec.post_blind hp

theorem max_of {W : World} (h : W.ShapedOpen Tryd.prog) : Max W := by
  obtain ⟨m, hm⟩ := Tryd.laysM145.s1_3 W h
  exact ⟨m, hm⟩
end Go.Proofs.YtaekhbhjgcmghaaDoor
