/- Arguments of the types Room, Site opened; the wrap of the rows. -/
import Derived.Test.YtknpigdpepmimaaGreatDoorTie
import Derived.LaidMore
import Derived.Stop.Joined
import Derived.Lib.LaidTab
import Derived.Lay
import Derived.Test.YtknpigdpepmimaaGreatDoorM38
import Derived.Test.YtknpigdpepmimaaGreatDoorM44
namespace Go.Proofs.YtknpigdpepmimaaGreatDoor
open Go.RowKit Go.ChangeShapes Go.WideShapes Go.ChangeAt Go.Deep
theorem handed_shaped {H : Type} {enc : TypeId × Value → H} {a : Assume} {C : Checked} {os : Os} {f : FuncId} {fn : Func} {s : ChangeSpec} {conds : List PathCond} {apart fresh handsOn again : Bool} {X : World → Array Value → Prop}
    (hX : ∀ (w w' : World) (args : Array Value), w.heap = w'.heap → X w args → X w' args)
    (own : ownKnob C.prog.godebug = none) (started : os.Started) (noInit : C.prog.inits.idxOf? f = none) (hfn : C.prog.funcs[f]? = some fn)
    (witness : ∃ (w : World) (tape : Tape) (i : Input), w.os = os ∧ (w.forCall tape i).Shaped C.prog ∧ i.vars = [] ∧ Input.okWide C.prog (w.forCall tape i) .any w.heap.size f i ∧
      ((s.pre enc C.prog fn conds apart (w.forCall tape i).memory i.args ∧ X (w.forCall tape i).memory i.args) ∧ sizedMet enc C.prog fn (OpenSpec.ofChange s) apart (w.forCall tape i).memory i.args) ∧ a.holds C.prog (lone (Frame.enter C.prog f i.args .normal) [] (w.forCall tape i)))
    (contract : ∀ (W : World) (base : Nat) (args : Array Value) (ds gs : List (DataW H)) (before : List MemPlace),
      (∀ (j : Nat) t v, fn.params[j]? = some t → args[j]? = some v → Value.okWide C.prog W .any base t v) →
      DataW.Whole enc C.prog fn.params.toList s.vars apart W args.toList ds gs before →
      X W args → W.ShapedOpen C.prog →
      Calls C.prog f args W fun e W' => ∃ v, e = .returned v ∧ s.post enc C.prog fn apart fresh handsOn again W args v W') :
    ReturnsInHanded a C os f .any (fun w args => (s.pre enc C.prog fn conds apart w args ∧ X w args) ∧ sizedMet enc C.prog fn (OpenSpec.ofChange s) apart w args) (s.post enc C.prog fn apart fresh handsOn again) := by
  refine returnsInHanded_of_calls own started noInit witness ?_
  intro w tape i _ hsh _ hok hpre _
  obtain ⟨_, _, _, fn', hfn', _, _, _, _, hval⟩ := hok
  have e : fn' = fn := Option.some.inj (hfn'.symm.trans hfn)
  subst e
  obtain ⟨⟨⟨ds, gs, before, hw, _⟩, hx⟩, _⟩ := hpre
  refine (contract (w.forCall tape i) w.heap.size i.args ds gs before hval (DataW.Whole.of_heap (w' := w.forCall tape i) (by rfl) hw) (hX _ _ _ (by rfl) hx) hsh).mono fun e W' ⟨v, he, hp⟩ => ?_
  subst he
  exact ChangeSpec.post_blind hp
theorem max_of {W : World} (h : W.ShapedOpen Tryz.prog) : Max W := by
  obtain ⟨m, hm⟩ := Tryz.laysM145.s1_3 W h
  exact ⟨m, hm⟩
def laidE : List (String × DataW Unit) := Rows.evaluateAlphaRow.laid
theorem door_met (os : Os) (args : Array Value) : laidMetH Tryz.prog laidE ((World.laidAll Tryz.prog os laidE).forCall (fun _ _ => 0) ⟨#[], args, []⟩).memory := by
  rw [MakeChecks.laidMetH_plain _ _ _ (by kernel_rfl)]
  exact laidMet_laidAll _ (by kernel_rfl) (by kernel_rfl)
theorem cells42 : Tryz.prog.cellsOf 42 = 7 := by kernel_rfl
theorem cells44 : Tryz.prog.cellsOf 44 = 9 := by kernel_rfl
theorem cells25 : Tryz.prog.cellsOf 25 = 1 := by kernel_rfl
theorem cells26 : Tryz.prog.cellsOf 26 = 1 := by kernel_rfl
theorem cells28 : Tryz.prog.cellsOf 28 = 2 := by kernel_rfl
theorem cells29 : Tryz.prog.cellsOf 29 = 1 := by kernel_rfl
theorem cells31 : Tryz.prog.cellsOf 31 = 2 := by kernel_rfl
theorem wf_i64 {n : Int} (h : (Lit.int .i64 n).wf = true) : -9223372036854775808 ≤ n ∧ n ≤ 9223372036854775807 := by
  simp [Lit.wf, IntKind.min, IntKind.max, IntKind.signed, IntKind.bits] at h
  exact h
theorem two' {α : Type} {l : List α} (h : l.length = 2) : ∃ a b, l = [a, b] := by
  match l, h with
  | [a, b], _ => exact ⟨a, b, rfl⟩
theorem three' {α : Type} {l : List α} (h : l.length = 3) : ∃ a b c, l = [a, b, c] := by
  match l, h with
  | [a, b, c], _ => exact ⟨a, b, c, rfl⟩
theorem seven' {α : Type} {l : List α} (h : l.length = 7) : ∃ a b c d e f g, l = [a, b, c, d, e, f, g] := by
  match l, h with
  | [a, b, c, d, e, f, g], _ => exact ⟨a, b, c, d, e, f, g, rfl⟩
theorem nine' {α : Type} {l : List α} (h : l.length = 9) : ∃ a b c d e f g i j, l = [a, b, c, d, e, f, g, i, j] := by
  match l, h with
  | [a, b, c, d, e, f, g, i, j], _ => exact ⟨a, b, c, d, e, f, g, i, j, rfl⟩
section
variable {H : Type} {enc : TypeId × Value → H} {w : World} {base : Nat} {spare : Nat → Bool} {held : Bool}
set_option maxRecDepth 100000 in
theorem open_value (fuel : Nat) (cs : List Value) (x : DataW H × List MemPlace) (h : DataW.trod enc Tryz.prog w base spare held fuel 44 cs = some x) : ∃ v : V, cs = v.cells.toList ∧ v.fit := by
  obtain ⟨xs, n, hn, hx, hcl, hxl, hfd⟩ := DataW.trod_struct Tryz.underlying44 h
  rw [cells44] at hcl
  obtain ⟨v0, v1, v2, v3, v4, v5, v6, v7, v8, rfl⟩ := nine' hcl
  obtain ⟨y0, y1, y2, rfl⟩ := three' hxl
  have f0 := hfd 0 _ rfl
  have f1 := hfd 1 _ rfl
  have f2 := hfd 2 _ rfl
  obtain ⟨k0, h0, _, hk0⟩ := DataW.trod_int Tryz.underlying3 f0
  obtain ⟨k1, h1, _, hk1⟩ := DataW.trod_int Tryz.underlying3 f1
  simp [cells3] at h0 h1
  subst h0 h1
  have f2' : DataW.trod enc Tryz.prog w base spare held n 42 [v2, v3, v4, v5, v6, v7, v8] = some y2 := by simpa [cells42] using f2
  obtain ⟨us, m, hm, hz, hcl2, hul, hfd2⟩ := DataW.trod_array Tryz.underlying42 f2'
  obtain ⟨z0, z1, z2, z3, z4, z5, z6, rfl⟩ := seven' hul
  have g0 := hfd2 0 (by omega)
  rw [cells3] at g0
  have g0' : DataW.trod enc Tryz.prog w base spare held m 3 [v2] = some z0 := g0
  obtain ⟨d0, e0, _, _⟩ := DataW.trod_int Tryz.underlying3 g0'
  simp at e0
  have g1 := hfd2 1 (by omega)
  rw [cells3] at g1
  have g1' : DataW.trod enc Tryz.prog w base spare held m 3 [v3] = some z1 := g1
  obtain ⟨d1, e1, _, _⟩ := DataW.trod_int Tryz.underlying3 g1'
  simp at e1
  have g2 := hfd2 2 (by omega)
  rw [cells3] at g2
  have g2' : DataW.trod enc Tryz.prog w base spare held m 3 [v4] = some z2 := g2
  obtain ⟨d2, e2, _, _⟩ := DataW.trod_int Tryz.underlying3 g2'
  simp at e2
  have g3 := hfd2 3 (by omega)
  rw [cells3] at g3
  have g3' : DataW.trod enc Tryz.prog w base spare held m 3 [v5] = some z3 := g3
  obtain ⟨d3, e3, _, _⟩ := DataW.trod_int Tryz.underlying3 g3'
  simp at e3
  have g4 := hfd2 4 (by omega)
  rw [cells3] at g4
  have g4' : DataW.trod enc Tryz.prog w base spare held m 3 [v6] = some z4 := g4
  obtain ⟨d4, e4, _, _⟩ := DataW.trod_int Tryz.underlying3 g4'
  simp at e4
  have g5 := hfd2 5 (by omega)
  rw [cells3] at g5
  have g5' : DataW.trod enc Tryz.prog w base spare held m 3 [v7] = some z5 := g5
  obtain ⟨d5, e5, _, _⟩ := DataW.trod_int Tryz.underlying3 g5'
  simp at e5
  have g6 := hfd2 6 (by omega)
  rw [cells3] at g6
  have g6' : DataW.trod enc Tryz.prog w base spare held m 3 [v8] = some z6 := g6
  obtain ⟨d6, e6, _, _⟩ := DataW.trod_int Tryz.underlying3 g6'
  simp at e6
  subst e0 e1 e2 e3 e4 e5 e6
  exact ⟨⟨k0, k1, ⟨d0, d1, d2, d3, d4, d5, d6⟩⟩, rfl, (wf_i64 hk0).1, (wf_i64 hk0).2, (wf_i64 hk1).1, (wf_i64 hk1).2⟩
set_option maxRecDepth 100000 in
theorem open_strs1 {fuel : Nat} {v : Value} {x : DataW H × List MemPlace} (hf : DataW.trod enc Tryz.prog w base spare held fuel 25 [v] = some x) : ∃ (A : Option Addr) (p : List W8) (c : Nat), v = .slice A p.length c ∧ SL w w.heap.size (.slice A p.length c) p := by
  rcases open_slice1 Tryz.underlying25 cells9 hf with ⟨hcs, _⟩ | ⟨a, len0, cap0, m, n, V, D, Pl, hcs, hb, hl, hm, hmm, hx, hi⟩
  · simp at hcs
    subst hcs
    exact ⟨none, [], 0, rfl, none, 0, rfl, ⟨Nat.le_refl _, by omega⟩, fun hne => absurd rfl hne⟩
  · simp at hcs
    subst hcs
    have hlm : len0 ≤ m := by rw [hmm]; split <;> omega
    have hex : ∀ i, ∃ x : List UInt8, i < len0 → w.cell? (a.add i) = some (.string ⟨x.toArray⟩) := by
      intro i
      by_cases hil : i < len0
      · obtain ⟨hc, ht⟩ := hi i (by omega)
        obtain ⟨s, hk, _, hsz⟩ := DataW.trod_string Tryz.underlying9 ht
        simp at hk
        exact ⟨s.data.toList, fun _ => by rw [hc, hk, mk_data]⟩
      · exact ⟨[], fun h => absurd h hil⟩
    obtain ⟨f, hff⟩ := Classical.axiomOfChoice hex
    have hlen : ((List.range len0).map f).length = len0 := by simp
    refine ⟨some a, (List.range len0).map f, cap0, by rw [hlen], some a, cap0, rfl, ⟨by rw [hlen]; exact hl, by unfold maxLen at hm; omega⟩, fun hne => ?_⟩
    have hpos : 0 < len0 := by
      rcases Nat.eq_zero_or_pos len0 with h0 | h0
      · subst h0; exact absurd rfl hne
      · exact h0
    have hsp := hff 0 hpos
    simp [Addr.add] at hsp
    have ha := addr_spot hsp
    refine ⟨a.block, a.off, by rw [← ha], World.block_lt_of_cell? w a hsp, fun j hj => ?_⟩
    have hj' : j < len0 := by rw [hlen] at hj; exact hj
    have := hff j hj'
    rw [ha, addr_add] at this
    rw [this]
    simp
set_option maxRecDepth 100000 in
theorem open_vals1 {fuel : Nat} {v : Value} {x : DataW H × List MemPlace} (hf : DataW.trod enc Tryz.prog w base spare held fuel 26 [v] = some x) : ∃ (A : Option Addr) (p : List V) (c : Nat), v = .slice A p.length c ∧ SV w (.slice A p.length c) p ∧ ∀ x ∈ p, x.fit := by
  rcases DataW.trod_slice Tryz.underlying26 hf with ⟨hv3, _⟩ | ⟨a, len, cap, elems, rest, m, hm, hv3, _, hb, hl, hcm, hel, hat, _⟩
  · simp at hv3
    subst hv3
    exact ⟨none, [], 0, rfl, ⟨none, 0, rfl, ⟨Nat.le_refl _, by omega⟩, fun hne => absurd rfl hne⟩, fun x hx => by cases hx⟩
  · simp at hv3
    subst hv3
    have hex : ∀ i, ∃ u : V, i < len → (∀ j y, u.cells.toList[j]? = some y → w.cell? ((a.add (i * 9)).add j) = some y) ∧ u.fit := by
      intro i
      by_cases hil : i < len
      · have hi := hat i hil
        have hie : ∃ e, elems[i]? = some e := ⟨_, List.getElem?_eq_getElem (by omega)⟩
        obtain ⟨e, hie⟩ := hie
        rw [hie, cells44] at hi
        obtain ⟨cs', hc, ht⟩ := Option.bind_eq_some_iff.1 hi
        obtain ⟨u, rfl, hfit⟩ := open_value m cs' e ht
        obtain ⟨_, _, hcell⟩ := World.cells?_some hc
        refine ⟨u, fun _ => ⟨fun j y hy => ?_, hfit⟩⟩
        have hj : j < 9 := by
          have := (List.getElem?_eq_some_iff.1 hy).1
          simpa [V.cells] using this
        rw [hcell j hj, hy]
      · exact ⟨zV, fun h => absurd h hil⟩
    obtain ⟨f, hff⟩ := Classical.axiomOfChoice hex
    have hlen : ((List.range len).map f).length = len := by simp
    refine ⟨some a, (List.range len).map f, cap, by rw [hlen], ⟨some a, cap, rfl, ⟨by rw [hlen]; exact hl, by unfold maxLen at hcm; omega⟩, fun hne => ?_⟩, fun x hx => ?_⟩
    · have hpos : 0 < len := by
        rcases Nat.eq_zero_or_pos len with h0 | h0
        · subst h0; exact absurd rfl hne
        · exact h0
      have hsp := (hff 0 hpos).1 0 _ rfl
      simp [Addr.add] at hsp
      have ha := addr_spot hsp
      refine ⟨a.block, a.off, by rw [← ha], fun i hi => ?_⟩
      have hi' : i < len := by rw [hlen] at hi; exact hi
      have key : ∀ j y, (f i).cells.toList[j]? = some y → w.cell? ⟨a.block, a.off + i * 9 + j, none⟩ = some y := fun j y hy => by
        have := (hff i hi').1 j y hy
        rw [ha, addr_add, addr_add] at this
        exact this
      have e : ((List.range len).map f)[i] = f i := by simp
      rw [e]
      exact ⟨⟨key 0 _ rfl, key 1 _ rfl⟩, key 2 _ rfl, key 3 _ rfl, key 4 _ rfl, key 5 _ rfl, key 6 _ rfl, key 7 _ rfl, key 8 _ rfl⟩
    · obtain ⟨i, hi2, rfl⟩ := List.mem_map.1 hx
      exact (hff i (List.mem_range.1 hi2)).2
set_option maxRecDepth 100000 in
theorem open_roomVal {r : Reach} {b0 : Nat} {v : Value} {d : DataW H} {q : List MemPlace} (hv : Value.okWide Tryz.prog w r b0 28 v) (h : DataW.Trod enc Tryz.prog w base spare held 28 v d q) :
    ∃ (An Av : Option Addr) (cn cv : Nat) (ns : List W8) (vs : List V), v = .agg #[.slice An ns.length cn, .slice Av vs.length cv] ∧ SL w w.heap.size (.slice An ns.length cn) ns ∧ SV w (.slice Av vs.length cv) vs ∧ ∀ x ∈ vs, x.fit := by
  obtain ⟨cs, rfl, hsz⟩ := okWide_struct Tryz.underlying28 hv
  obtain ⟨fuel, hf⟩ := h
  have hf' : DataW.trod enc Tryz.prog w base spare held fuel 28 cs.toList = some (d, q) := hf
  obtain ⟨xs, m, hm, hx, hcl, hxl, hfd⟩ := DataW.trod_struct Tryz.underlying28 hf'
  rw [cells28] at hcl
  obtain ⟨v1, v2, hcs⟩ := two' hcl
  obtain ⟨y0, y1, rfl⟩ := two' hxl
  have f0 := hfd 0 _ rfl
  have f1 := hfd 1 _ rfl
  rw [hcs] at f0 f1
  have f0' : DataW.trod enc Tryz.prog w base spare held m 25 [v1] = some y0 := by simpa [cells25] using f0
  have f1' : DataW.trod enc Tryz.prog w base spare held m 26 [v2] = some y1 := by simpa [cells26] using f1
  obtain ⟨An, ns, cn, rfl, hn⟩ := open_strs1 f0'
  obtain ⟨Av, vs, cv, rfl, hvv, hfit⟩ := open_vals1 f1'
  refine ⟨An, Av, cn, cv, ns, vs, ?_, hn, hvv, hfit⟩
  have : cs.toList = (#[.slice An ns.length cn, .slice Av vs.length cv] : Array Value).toList := by simpa using hcs
  rw [Array.ext' this]
theorem u8_nat' {n : Int} (h : (Lit.int .u8 n).wf = true) : ∃ p : Nat, n = (p : Int) ∧ p ≤ 255 := by
  simp [Lit.wf, IntKind.min, IntKind.max, IntKind.signed, IntKind.bits] at h
  exact ⟨n.toNat, by omega, by omega⟩
theorem cells5' : Tryz.prog.cellsOf 5 = 1 := by kernel_rfl
set_option maxRecDepth 100000 in
theorem slice_nil {fuel : Nat} {T e : TypeId} {v : Value} {x : DataW H × List MemPlace} (ht : Tryz.prog.underlying T = some (.slice e)) (hf : DataW.trod enc Tryz.prog w base spare held fuel T [v] = some x) {A : Option Addr} {l c : Nat} (he : v = .slice A l c) : ∀ l' c', Value.slice A l' c = .slice none 0 c' → c' = 0 := fun l' c' h => by
  obtain ⟨rfl, _, rfl⟩ := Value.slice.inj h
  rcases DataW.trod_slice ht hf with ⟨hv3, _⟩ | ⟨a, len, cap, elems, rest, m, hm, hv3, _⟩
  · rw [he] at hv3
    have := List.head_eq_of_cons_eq hv3
    injection this with _ _ h3
  · rw [he] at hv3
    have := List.head_eq_of_cons_eq hv3
    injection this with h1 _ _
    cases h1
set_option maxRecDepth 100000 in
theorem open_roomNil {r : Reach} {b0 : Nat} {v : Value} {d : DataW H} {q : List MemPlace} (hv : Value.okWide Tryz.prog w r b0 28 v) (h : DataW.Trod enc Tryz.prog w base spare held 28 v d q) {An Av : Option Addr} {l1 l2 cn cv : Nat} (he : v = .agg #[.slice An l1 cn, .slice Av l2 cv]) :
    (∀ l c', Value.slice An l cn = .slice none 0 c' → c' = 0) ∧ (∀ l c', Value.slice Av l cv = .slice none 0 c' → c' = 0) := by
  obtain ⟨cs, rfl, hsz⟩ := okWide_struct Tryz.underlying28 hv
  obtain ⟨fuel, hf⟩ := h
  have hf' : DataW.trod enc Tryz.prog w base spare held fuel 28 cs.toList = some (d, q) := hf
  obtain ⟨xs, m, hm, hx, hcl, hxl, hfd⟩ := DataW.trod_struct Tryz.underlying28 hf'
  have hcs : cs.toList = [.slice An l1 cn, .slice Av l2 cv] := by rw [Value.agg.inj he]
  obtain ⟨y0, y1, rfl⟩ := two' hxl
  have f0 := hfd 0 _ rfl
  have f1 := hfd 1 _ rfl
  rw [hcs] at f0 f1
  have f0' : DataW.trod enc Tryz.prog w base spare held m 25 [.slice An l1 cn] = some y0 := by simpa [cells25] using f0
  have f1' : DataW.trod enc Tryz.prog w base spare held m 26 [.slice Av l2 cv] = some y1 := by simpa [cells26] using f1
  exact ⟨slice_nil Tryz.underlying25 f0' rfl, slice_nil Tryz.underlying26 f1' rfl⟩
theorem i8_bnd {n : Int} (h : (Lit.int .i8 n).wf = true) : -128 ≤ n ∧ n ≤ 127 := by
  simp [Lit.wf, IntKind.min, IntKind.max, IntKind.signed, IntKind.bits] at h
  exact h
theorem list2 {α : Type} {l : List α} (h : l.length = 2) : ∃ x0 x1, l = [x0, x1] := by
  match l, h with
  | [x0, x1], _ => exact ⟨x0, x1, rfl⟩
set_option maxRecDepth 100000 in
theorem list3 {α : Type} {l : List α} (h : l.length = 3) : ∃ x0 x1 x2, l = [x0, x1, x2] := by
  match l, h with
  | [x0, x1, x2], _ => exact ⟨x0, x1, x2, rfl⟩
set_option maxRecDepth 100000 in
theorem open_three8 {r : Reach} {b0 : Nat} {v : Value} {d : DataW H} {q : List MemPlace} (hv : Value.okWide Tryz.prog w r b0 47 v) (h : DataW.Trod enc Tryz.prog w base spare held 47 v d q) :
    ∃ (k0 k1 k2 : Int), v = .agg #[.int .i8 k0, .int .i8 k1, .int .i8 k2] ∧ ((-128 ≤ k0 ∧ k0 ≤ 127) ∧ (-128 ≤ k1 ∧ k1 ≤ 127) ∧ (-128 ≤ k2 ∧ k2 ≤ 127)) := by
  simp only [Value.okWide, Tryz.underlying47] at hv
  obtain ⟨cs, rfl, _, _⟩ := hv
  obtain ⟨fuel, hf⟩ := h
  obtain ⟨xs, m, _, _, hcl, hl, hf⟩ := DataW.trod_array Tryz.underlying47 hf
  have cT : Tryz.prog.cellsOf 47 = 3 := by kernel_rfl
  have cE : Tryz.prog.cellsOf 46 = 1 := by kernel_rfl
  rw [cT] at hcl
  obtain ⟨v0, v1, v2, hcs⟩ := list3 hcl
  obtain ⟨y0, y1, y2, rfl⟩ := list3 hl
  have f0 := hf 0 (by omega)
  have f1 := hf 1 (by omega)
  have f2 := hf 2 (by omega)
  rw [hcs] at f0 f1 f2
  obtain ⟨z0, h0, _, w0⟩ := DataW.trod_int Tryz.underlying46 f0
  obtain ⟨z1, h1, _, w1⟩ := DataW.trod_int Tryz.underlying46 f1
  obtain ⟨z2, h2, _, w2⟩ := DataW.trod_int Tryz.underlying46 f2
  simp [cE] at h0 h1 h2
  have q0 := i8_bnd w0
  have q1 := i8_bnd w1
  have q2 := i8_bnd w2
  subst h0 h1 h2
  refine ⟨z0, z1, z2, ?_, q0, q1, q2⟩
  rw [show cs = #[.int .i8 z0, .int .i8 z1, .int .i8 z2] from Array.ext' (by simpa [Value.cells] using hcs)]
theorem list7 {α : Type} {l : List α} (h : l.length = 7) : ∃ x0 x1 x2 x3 x4 x5 x6, l = [x0, x1, x2, x3, x4, x5, x6] := by
  match l, h with
  | [x0, x1, x2, x3, x4, x5, x6], _ => exact ⟨x0, x1, x2, x3, x4, x5, x6, rfl⟩
set_option maxRecDepth 100000 in
theorem open_seven8 {r : Reach} {b0 : Nat} {v : Value} {d : DataW H} {q : List MemPlace} (hv : Value.okWide Tryz.prog w r b0 55 v) (h : DataW.Trod enc Tryz.prog w base spare held 55 v d q) :
    ∃ (k0 k1 k2 k3 k4 k5 k6 : Nat), v = .agg #[.int .u8 k0, .int .u8 k1, .int .u8 k2, .int .u8 k3, .int .u8 k4, .int .u8 k5, .int .u8 k6] ∧ (k0 ≤ 255 ∧ k1 ≤ 255 ∧ k2 ≤ 255 ∧ k3 ≤ 255 ∧ k4 ≤ 255 ∧ k5 ≤ 255 ∧ k6 ≤ 255) := by
  simp only [Value.okWide, Tryz.underlying55] at hv
  obtain ⟨cs, rfl, _, _⟩ := hv
  obtain ⟨fuel, hf⟩ := h
  obtain ⟨xs, m, _, _, hcl, hl, hf⟩ := DataW.trod_array Tryz.underlying55 hf
  have cT : Tryz.prog.cellsOf 55 = 7 := by kernel_rfl
  have cE : Tryz.prog.cellsOf 5 = 1 := by kernel_rfl
  rw [cT] at hcl
  obtain ⟨v0, v1, v2, v3, v4, v5, v6, hcs⟩ := list7 hcl
  obtain ⟨y0, y1, y2, y3, y4, y5, y6, rfl⟩ := list7 hl
  have f0 := hf 0 (by omega)
  have f1 := hf 1 (by omega)
  have f2 := hf 2 (by omega)
  have f3 := hf 3 (by omega)
  have f4 := hf 4 (by omega)
  have f5 := hf 5 (by omega)
  have f6 := hf 6 (by omega)
  rw [hcs] at f0 f1 f2 f3 f4 f5 f6
  obtain ⟨z0, h0, _, w0⟩ := DataW.trod_int Tryz.underlying5 f0
  obtain ⟨z1, h1, _, w1⟩ := DataW.trod_int Tryz.underlying5 f1
  obtain ⟨z2, h2, _, w2⟩ := DataW.trod_int Tryz.underlying5 f2
  obtain ⟨z3, h3, _, w3⟩ := DataW.trod_int Tryz.underlying5 f3
  obtain ⟨z4, h4, _, w4⟩ := DataW.trod_int Tryz.underlying5 f4
  obtain ⟨z5, h5, _, w5⟩ := DataW.trod_int Tryz.underlying5 f5
  obtain ⟨z6, h6, _, w6⟩ := DataW.trod_int Tryz.underlying5 f6
  simp [cE] at h0 h1 h2 h3 h4 h5 h6
  obtain ⟨k0, rfl, q0⟩ := u8_nat' w0
  obtain ⟨k1, rfl, q1⟩ := u8_nat' w1
  obtain ⟨k2, rfl, q2⟩ := u8_nat' w2
  obtain ⟨k3, rfl, q3⟩ := u8_nat' w3
  obtain ⟨k4, rfl, q4⟩ := u8_nat' w4
  obtain ⟨k5, rfl, q5⟩ := u8_nat' w5
  obtain ⟨k6, rfl, q6⟩ := u8_nat' w6
  subst h0 h1 h2 h3 h4 h5 h6
  refine ⟨k0, k1, k2, k3, k4, k5, k6, ?_, q0, q1, q2, q3, q4, q5, q6⟩
  rw [show cs = #[.int .u8 k0, .int .u8 k1, .int .u8 k2, .int .u8 k3, .int .u8 k4, .int .u8 k5, .int .u8 k6] from Array.ext' (by simpa [Value.cells] using hcs)]
end
end Go.Proofs.YtknpigdpepmimaaGreatDoor
