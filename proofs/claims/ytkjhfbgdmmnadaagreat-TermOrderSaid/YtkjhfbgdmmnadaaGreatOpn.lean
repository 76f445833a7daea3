/- An argument of type 'api.Term' opened to a term in memory; the wrap with the world's shape kept. -/
import Derived.Test.YtkjhfbgdmmnadaaGreatFew
import Derived.ProofKit
import Derived.OpenShut
import Derived.ShutString
import Derived.ChangeOld
import Derived.ChangeSame
import Derived.Deep.Slices
import Derived.Deep.Fields
import Derived.Handed
import Derived.Shelf.Vars
namespace Go.Proofs.YtkjhfbgdmmnadaaGreat
open Go.RowKit Go.ChangeShapes Go.WideShapes Go.ChangeAt Go.Deep

theorem own : ownKnob Tryz.prog.godebug = none := by kernel_rfl
theorem laidOut : laidOutB Tryz.prog = true := by kernel_rfl
theorem cells24 : Tryz.prog.cellsOf 24 = 5 := by kernel_rfl
theorem cells22 : Tryz.prog.cellsOf 22 = 1 := by kernel_rfl
theorem cells9 : Tryz.prog.cellsOf 9 = 1 := by kernel_rfl
theorem cells3 : Tryz.prog.cellsOf 3 = 1 := by kernel_rfl
theorem handed6 {H : Type} {enc : TypeId × Value → H} {a : Assume} {C : Checked} {os : Os} {f : FuncId} {fn : Func} {s : ChangeSpec} {conds : List PathCond} {apart fresh handsOn again : Bool}
    (own : ownKnob C.prog.godebug = none) (started : os.Started) (noInit : C.prog.inits.idxOf? f = none) (hfn : C.prog.funcs[f]? = some fn)
    (witness : ∃ (w : World) (tape : Tape) (i : Input), w.os = os ∧ (w.forCall tape i).Shaped C.prog ∧ i.vars = [] ∧ Input.okWide C.prog (w.forCall tape i) .any w.heap.size f i ∧
      s.pre6 enc C.prog fn conds apart (w.forCall tape i).memory i.args ∧ a.holds C.prog (lone (Frame.enter C.prog f i.args .normal) [] (w.forCall tape i)))
    (contract : ∀ (W : World) (base : Nat) (args : Array Value) (ds gs : List (DataW H)) (before : List MemPlace),
      (∀ (j : Nat) t v, fn.params[j]? = some t → args[j]? = some v → Value.okWide C.prog W .any base t v) →
      DataW.Whole enc C.prog fn.params.toList s.vars apart W args.toList ds gs before →
      W.ShapedOpen C.prog →
      Calls C.prog f args W fun e W' => ∃ v, e = .returned v ∧ s.post enc C.prog fn apart fresh handsOn again W args v W') :
    ReturnsInHanded a C os f .any (s.pre6 enc C.prog fn conds apart) (s.post enc C.prog fn apart fresh handsOn again) := by
  refine returnsInHanded_of_calls own started noInit witness ?_
  intro w tape i _ hsh _ hok hpre _
  obtain ⟨_, _, _, fn', hfn', _, _, _, _, hval⟩ := hok
  have e : fn' = fn := Option.some.inj (hfn'.symm.trans hfn)
  subst e
  obtain ⟨⟨ds, gs, before, hw, hc⟩, _⟩ := hpre
  refine (contract (w.forCall tape i) w.heap.size i.args ds gs before hval (DataW.Whole.of_heap (w' := w.forCall tape i) (by rfl) hw) hsh).mono fun e W' ⟨v, he, hp⟩ => ?_
  subst he
  exact ChangeSpec.post_blind hp
theorem max_of {W : World} (h : W.ShapedOpen Tryz.prog) : Max W := by
  obtain ⟨m, hm⟩ := Tryz.laysM145.s1_3 W h
  exact ⟨m, hm⟩

section
variable {H : Type} {enc : TypeId × Value → H} {w : World} {base : Nat} {spare : Nat → Bool} {held : Bool}

theorem five {α : Type} {l : List α} (h : l.length = 5) : ∃ a b c d e, l = [a, b, c, d, e] := by
  match l, h with
  | [a, b, c, d, e], _ => exact ⟨a, b, c, d, e, rfl⟩
theorem addr_spot {w : World} {a : Addr} {v : Value} (h : w.cell? a = some v) : a = ⟨a.block, a.off, none⟩ := by
  have := World.cell?_spot h
  cases a; simp_all
theorem addr_add (b o i : Nat) : (⟨b, o, none⟩ : Addr).add i = ⟨b, o + i, none⟩ := by
  unfold Addr.add; split
  · simp [*]
  · rfl
theorem mk_data (s : ByteArray) : (⟨s.data.toList.toArray⟩ : ByteArray) = s := by cases s; simp
theorem trs_of {B b : Nat} (w : World) : ∀ (ys : List T) (o : Nat), (∀ i t, ys[i]? = some t → TR w B b (o + i * 5) t) → TRs w B b o ys
  | [], o, _ => by unfold TRs; trivial
  | t :: ys, o, h => by
    unfold TRs
    refine ⟨by simpa using h 0 t rfl, trs_of w ys (o + 5) (fun i u hu => ?_)⟩
    have := h (i + 1) u (by simpa using hu)
    rwa [show o + (i + 1) * 5 = o + 5 + i * 5 from by omega] at this

/-- the five cells of one struct, read as a term -/
theorem open_term (N : Nat) : ∀ (fuel : Nat), fuel ≤ N → ∀ (cs : List Value) (x : DataW H × List MemPlace), DataW.trod enc Tryz.prog w base spare held fuel 24 cs = some x →
    ∃ (t : T) (A : Option Addr) (c : Nat), cs = (tv t A c).toList ∧ TV w w.heap.size t A c := by
  induction N with
  | zero =>
    intro fuel hf cs x h
    obtain ⟨xs, n, hn, _⟩ := DataW.trod_struct Tryz.underlying24 h
    omega
  | succ N ih =>
    intro fuel hf cs x h
    obtain ⟨xs, n, hn, hx, hcl, hxl, hfd⟩ := DataW.trod_struct Tryz.underlying24 h
    rw [cells24] at hcl
    obtain ⟨v0, v1, v2, v3, v4, rfl⟩ := five hcl
    obtain ⟨y0, y1, y2, y3, y4, rfl⟩ := five hxl
    have f0 := hfd 0 _ rfl
    have f1 := hfd 1 _ rfl
    have f2 := hfd 2 _ rfl
    have f3 := hfd 3 _ rfl
    have f4 := hfd 4 _ rfl
    obtain ⟨k, h0, _, hk⟩ := DataW.trod_int Tryz.underlying3 f0
    obtain ⟨s1, h1, _, hs1⟩ := DataW.trod_string Tryz.underlying9 f1
    obtain ⟨s2, h2, _, hs2⟩ := DataW.trod_string Tryz.underlying9 f2
    obtain ⟨s4, h4, _, hs4⟩ := DataW.trod_string Tryz.underlying9 f4
    simp [cells3] at h0
    simp [cells9] at h1 h2 h4
    subst h0 h1 h2 h4
    have f3' : DataW.trod enc Tryz.prog w base spare held n 22 [v3] = some y3 := by simpa [cells22] using f3
    rcases DataW.trod_slice Tryz.underlying22 f3' with ⟨hv3, _⟩ | ⟨a, len, cap, elems, rest, m, hm, hv3, _, hb, hl, hcm, hel, hat, _⟩
    · simp at hv3
      subst hv3
      refine ⟨.mk k s1.data.toList s2.data.toList [] s4.data.toList, none, 0, ?_, ⟨⟨Nat.le_refl _, by omega⟩, fun hne => absurd rfl hne⟩⟩
      show _ = [Value.int .i64 k, .string ⟨s1.data.toList.toArray⟩, .string ⟨s2.data.toList.toArray⟩, .slice none 0 0, .string ⟨s4.data.toList.toArray⟩]
      rw [mk_data, mk_data, mk_data]
    · simp at hv3
      subst hv3
      have hel2 : ∀ i, i < len → ∃ (u : T) (A' : Option Addr) (c' : Nat), TV w w.heap.size u A' c' ∧ ∀ j v, (tv u A' c').toList[j]? = some v → w.cell? ((a.add (i * 5)).add j) = some v := by
        intro i hil
        have hi := hat i hil
        have hie : ∃ e, elems[i]? = some e := ⟨_, List.getElem?_eq_getElem (by omega)⟩
        obtain ⟨e, hie⟩ := hie
        rw [hie, cells24] at hi
        obtain ⟨cs', hc, ht⟩ := Option.bind_eq_some_iff.1 hi
        obtain ⟨u, A', c', rfl, htv⟩ := ih m (by omega) cs' e ht
        obtain ⟨_, _, hcell⟩ := World.cells?_some hc
        refine ⟨u, A', c', htv, fun j v hv => ?_⟩
        have hj : j < 5 := by
          have := (List.getElem?_eq_some_iff.1 hv).1
          simpa [tv] using this
        rw [hcell j hj, hv]
      have hex : ∀ i, ∃ u : T, i < len → TR w w.heap.size a.block (a.off + i * 5) u ∧ a = ⟨a.block, a.off, none⟩ := by
        intro i
        by_cases hil : i < len
        · have ha : a = ⟨a.block, a.off, none⟩ := by
            obtain ⟨u0, A0, c0, _, h0⟩ := hel2 0 (by omega)
            have := h0 0 _ rfl
            simp [Addr.add] at this
            exact addr_spot this
          obtain ⟨u, A', c', htv, hk2⟩ := hel2 i hil
          have key : ∀ j v, (tv u A' c').toList[j]? = some v → w.cell? ⟨a.block, a.off + i * 5 + j, none⟩ = some v := by
            intro j v hv
            have := hk2 j v hv
            rw [ha, addr_add, addr_add] at this
            exact this
          exact ⟨u, fun _ => ⟨TR.of_parts (World.block_lt_of_cell? w ⟨a.block, a.off + i * 5 + 0, none⟩ (key 0 _ rfl)) (key 0 _ rfl) (key 1 _ rfl) (key 2 _ rfl) (key 3 _ rfl) (key 4 _ rfl) htv, ha⟩⟩
        · exact ⟨.mk 0 [] [] [] [], fun h => absurd h hil⟩
      obtain ⟨f, hff⟩ := Classical.axiomOfChoice hex
      refine ⟨.mk k s1.data.toList s2.data.toList ((List.range len).map f) s4.data.toList, some a, cap, ?_, ⟨⟨?_, ?_⟩, fun hne => ?_⟩⟩
      · show _ = [Value.int .i64 k, .string ⟨s1.data.toList.toArray⟩, .string ⟨s2.data.toList.toArray⟩, .slice (some a) ((List.range len).map f).length cap, .string ⟨s4.data.toList.toArray⟩]
        rw [mk_data, mk_data, mk_data, List.length_map, List.length_range]
      · show ((List.range len).map f).length ≤ cap
        rw [List.length_map, List.length_range]; exact hl
      · unfold maxLen at hcm; omega
      · have hpos : 0 < len := by
          rcases Nat.eq_zero_or_pos len with h0 | h0
          · subst h0; exact absurd rfl hne
          · exact h0
        have ha := (hff 0 hpos).2
        refine ⟨a.block, a.off, by rw [← ha], trs_of w _ a.off (fun i u hu => ?_)⟩
        have hil : i < len := by
          have hu' : ((List.range len).map f)[i]? = some u := hu
          have := (List.getElem?_eq_some_iff.1 hu').1
          simpa using this
        have he : f i = u := by
          have hu' : ((List.range len).map f)[i]? = some u := hu
          simpa [List.getElem?_map, List.getElem?_range hil] using hu'
        subst he
        exact (hff i hil).1
set_option maxRecDepth 100000 in
theorem open_termVal {r : Reach} {b0 : Nat} {v : Value} {d : DataW H} {p : List MemPlace} (hv : Value.okWide Tryz.prog w r b0 24 v) (h : DataW.Trod enc Tryz.prog w base spare held 24 v d p) :
    ∃ (t : T) (A : Option Addr) (c : Nat), v = .agg (tv t A c) ∧ TV w w.heap.size t A c := by
  obtain ⟨cs, rfl, hsz⟩ := okWide_struct Tryz.underlying24 hv
  obtain ⟨fuel, hf⟩ := h
  obtain ⟨t, A, c, he, htv⟩ := open_term fuel fuel (Nat.le_refl _) _ _ hf
  refine ⟨t, A, c, ?_, htv⟩
  have : cs.toList = (tv t A c).toList := by simpa [Value.cells] using he
  rw [Array.ext' this]
end
end Go.Proofs.YtkjhfbgdmmnadaaGreat
