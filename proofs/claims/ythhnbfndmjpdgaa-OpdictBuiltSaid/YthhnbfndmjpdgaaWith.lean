/- Contracts of slices.Clone and of With. -/
import Derived.Test.YthhnbfndmjpdgaaOrder
import Derived.Laws.OwnMore
namespace Go.Proofs.Ythhnbfndmjpdgaa
open Go.RowKit

theorem ecells_set : ∀ (l : List Ent) (i : Nat) (e : Ent), i < l.length →
    ecells (l.set i e) = ((((ecells l).set (i * 4) (.string e.text)).set (i * 4 + 1) (.int .i64 e.cls)).set (i * 4 + 2) (.bool e.lim)).set (i * 4 + 3) (.bool e.str) := by
  intro l
  induction l with
  | nil => intro i e h; simp at h
  | cons a l ih =>
    intro i e h
    have hc : ∀ (a : Ent) (l : List Ent), ecells (a :: l) = .string a.text :: .int .i64 a.cls :: .bool a.lim :: .bool a.str :: ecells l := fun a l => by simp [ecells, Ent.cells]
    cases i with
    | zero => rw [List.set_cons_zero, hc, hc]; rfl
    | succ i =>
      rw [List.set_cons_succ, hc, hc, ih i e (by simpa using h)]
      have h0 : (i + 1) * 4 = i * 4 + 1 + 1 + 1 + 1 := by omega
      have h1 : (i + 1) * 4 + 1 = i * 4 + 1 + 1 + 1 + 1 + 1 := by omega
      have h2 : (i + 1) * 4 + 2 = i * 4 + 2 + 1 + 1 + 1 + 1 := by omega
      have h3 : (i + 1) * 4 + 3 = i * 4 + 3 + 1 + 1 + 1 + 1 := by omega
      rw [h3, h2, h1, h0]
      simp only [List.set_cons_succ]

theorem ER.src {w : World} {B : Nat} {ad : Addr} {l : List Ent} (h : ER w B (some ad) l) : ∀ j u, (ecells l)[j]? = some u → w.cell? (ad.add j) = some u := by
  by_cases hl : l = []
  · subst hl; intro j u hu; simp [ecells] at hu
  · obtain ⟨b, off, ha, _⟩ := h hl
    cases ha
    exact h.cellsOf

theorem own_below {w w' : World} {base : Nat} {e : TypeId} {size n : Nat} {v : Value} {xs : List Value} (h : w.ownsRow base e size v n xs) (hb : Below w.heap.size w w') : w'.ownsRow base e size v n xs :=
  h.kept (row := none) ⟨hb.os, hb.tape, hb.output, hb.size, fun k hk _ => hb.block k hk⟩ (by cases v.ownBlock <;> simp)

/-- a call that returned a row of its own with the entries l -/
def RetOwn (w : World) (l : List Ent) (e : Ending) (w' : World) : Prop := ∃ v, e = .returned v ∧ w'.ownsRow w.heap.size 27 4 v l.length (ecells l) ∧ Below w.heap.size w w'

set_option maxHeartbeats 400000 in
theorem clone_any (A : Option Addr) (l : List Ent) (cp : Nat) (w : World) (hl : ER w w.heap.size A l) (hn : l.length ≤ 250) : Calls Try.prog 22 #[.slice A l.length cp] w (RetOwn w l) := by
  have hnil : ∀ (w : World) (a : Option Addr) (n c n' c' : Nat), (binOp .eql 22 (.slice a n c) (.slice none n' c')).run Try.prog w = .ok (.bool a.isNone) w := fun w a n c n' c' => Lib.run_eql_slice_nil w _ _ a n c n' c' Try.underlying22
  obtain ⟨i0, hi0, hz0, hz1, hz2⟩ := info_parts ent_info
  rcases A with _ | ad
  · have : l = [] := by
      rcases Classical.em (l = []) with h | h
      · exact h
      · obtain ⟨_, _, ha, _⟩ := hl h; cases ha
    subst this
    clear hl
    go_enter Try.func22, Try.ntmps22
    go_wp2
    go_ret
    exact ⟨_, rfl, World.ownsRow_nil _ _ _ _, Below.refl _ _⟩
  · have hlH := Lib.hid hl
    clear hl
    go_enter Try.func22, Try.ntmps22
    go_wp2_with (at_builtin; refine wpList_append_own _ rfl _ _ 22 rfl w.heap.size 27 i0 _ 4 32 Try.underlying22 hi0 hz0 hz1 hz2 rfl (by decide) _ 0 [] rfl (World.ownsRow_made w #[] 0 (Nat.le_refl _) (Nat.zero_le _) rfl) ad l.length cp (ecells l) rfl (ecells_len l) ?c1 (ecells_one' l) ?c3 ?c4 ?c5 ?_)
    case c1 => exact (hlH.out.below ((Below.refl _ _).alloc (Nat.le_refl _) _)).src
    case c3 => unfold maxLen; omega
    case c4 => omega
    case c5 => simp
    intro v' w1 hown' hgrow _
    have hB : Below w.heap.size w w1 := ((Below.refl _ _).alloc (Nat.le_refl _) _).grown hgrow (by simp) (fun k hk => by simp [Value.ownBlock] at hk; omega)
    have HB := Lib.hid hB
    have HO := Lib.hid hown'
    clear hB hown' hgrow
    go_wp2
    go_ret
    exact ⟨_, rfl, HO.out, HB.out⟩

/-- what With returns: a dictionary and an error's number -/
def withR (l : List Ent) (e : Ent) : List Ent × Int :=
  if validB l && proper e then (match fIdx? l e.text with | some i => (l.set i e, 0) | none => if l.length = 200 then ([], 6) else (l ++ [e], 0)) else ([], 1)
def RetWith (w : World) (r : List Ent × Int) (e : Ending) (w' : World) : Prop :=
  ∃ A c, e = .returned (.tuple #[.slice A r.1.length c, .int .i64 r.2]) ∧ ER w' w'.heap.size A r.1 ∧ Below w.heap.size w w'
theorem ret_none {w w' : World} {n : Int} (hb : Below w.heap.size w w') : RetWith w ([], n) (.returned (.tuple #[.slice none 0 0, .int .i64 n])) w' := ⟨none, 0, rfl, ER.nil, hb⟩
theorem ret_own {w w' : World} {base : Nat} {v : Value} {l : List Ent} {n : Int} (h : w'.ownsRow base 27 4 v l.length (ecells l)) (hb : Below w.heap.size w w') : RetWith w (l, n) (.returned (.tuple #[v, .int .i64 n])) w' := by
  obtain ⟨A, c, rfl, he, _⟩ := ER.of_own h
  exact ⟨A, c, rfl, he, hb⟩

set_option maxHeartbeats 1000000 in
theorem with_any (A : Option Addr) (l : List Ent) (cp : Nat) (e : Ent) (w : World) (hl : ER w w.heap.size A l) (hn : l.length ≤ 250) (hok : ∀ e ∈ l, e.text.size ≤ maxLen) (he : e.text.size ≤ maxLen) :
    Calls Try.prog 16 #[.slice A l.length cp, .agg #[.string e.text, .int .i64 e.cls, .bool e.lim, .bool e.str]] w (RetWith w (withR l e)) := by
  have hlH := Lib.hid hl
  have HOK := Lib.hid hok
  obtain ⟨i0, hi0, hz0, hz1, hz2⟩ := info_parts ent_info
  clear hl hok
  cases hv : validB l with
  | false =>
    have HR : Hid (withR l e = ([], 1)) := by show withR l e = ([], 1); unfold withR; rw [hv]; rfl
    have HV := Lib.hid hv
    clear hv
    go_enter Try.func16, Try.ntmps16
    go_wp2_with fail
    refine (valid_any A l cp _ ((hlH.out.below ((Below.refl _ _).alloc (Nat.le_refl _) _)).more (by simp)) (by unfold maxLen; omega) HOK.out).mono ?_
    rw [HV.out]
    rintro r w1 ⟨rfl, hb1⟩
    have hB1 : Below w.heap.size w w1 := ((Below.refl _ _).alloc (Nat.le_refl _) _).trans (hb1.mono (by simp))
    go_wp2
    go_ret2
    rw [HR.out]
    exact ret_none hB1
  | true =>
    have HV := Lib.hid hv
    clear hv
    go_enter Try.func16, Try.ntmps16
    go_wp2_with fail
    refine (valid_any A l cp _ ((hlH.out.below ((Below.refl _ _).alloc (Nat.le_refl _) _)).more (by simp)) (by unfold maxLen; omega) HOK.out).mono ?_
    rw [HV.out]
    rintro r w1 ⟨rfl, hb1⟩
    have hB1 : Below w.heap.size w w1 := ((Below.refl _ _).alloc (Nat.le_refl _) _).trans (hb1.mono (by simp))
    obtain ⟨⟨q0, q1, q2, q3⟩, qf, qs⟩ := res4 hb1
    go_wp2_with fail
    refine (entry_any e _ he).mono ?_
    rintro r w2 ⟨rfl, hb2⟩
    have hb12 := hb1.trans (hb2.mono hb1.size)
    have hB2 : Below w.heap.size w w2 := ((Below.refl _ _).alloc (Nat.le_refl _) _).trans (hb12.mono (by simp))
    have Hb12 := Lib.hid hb12
    clear q0 q1 q2 q3 qf qs hb1 hb2 hb12 hB1
    cases hp : proper e with
    | false =>
      have HR : Hid (withR l e = ([], 1)) := by show withR l e = ([], 1); unfold withR; rw [HV.out, hp]; rfl
      clear hp
      go_wp2
      go_ret2
      rw [HR.out]
      exact ret_none hB2
    | true =>
      have HP := Lib.hid hp
      clear hp
      have hs2 := hB2.size
      go_wp2_with fail
      refine (clone_any A l cp _ ((hlH.out.below hB2).more hs2) hn).mono ?_
      rintro r w3 ⟨v, rfl, hown, hb3⟩
      have hB3 : Below w.heap.size w w3 := hB2.trans (hb3.mono hs2)
      have hb13 := Hb12.out.trans (hb3.mono Hb12.out.size)
      obtain ⟨⟨q0, q1, q2, q3⟩, qf, qs⟩ := res4 hb13
      have Hown := Lib.hid hown
      have Hb13 := Lib.hid hb13
      have hs3 := hB3.size
      have hs23 := hb3.size
      have HB3 := Lib.hid hB3
      clear hown hb13 hb3 hB2 hB3
      cases hi : fIdx? l e.text with
      | some i =>
        obtain ⟨hil, _, _⟩ := find_hit l e.text i hi
        have HR : Hid (withR l e = (l.set i e, 0)) := by show withR l e = (l.set i e, 0); unfold withR; rw [HV.out, HP.out, hi]; rfl
        have HI := Lib.hid hi
        clear hi
        go_wp2_with fail
        refine (index_some A l cp e.text _ ((hlH.out.below HB3.out).more hs3) hn i HI.out).mono ?_
        rintro r w4 ⟨rfl, hb4⟩
        have hB4 : Below w.heap.size w w4 := HB3.out.trans (hb4.mono hs3)
        have hb14 := Hb13.out.trans (hb4.mono Hb13.out.size)
        have hown4 := own_below Hown.out hb4
        have HB4 := Lib.hid hB4
        clear q0 q1 q2 q3 qf qs hB4
        obtain ⟨⟨q0, q1, q2, q3⟩, qf, qs⟩ := res4 hb14
        obtain ⟨g, cap, hveq⟩ : ∃ g cap, v = .slice (some ⟨g, 0, none⟩) l.length cap := by
          rcases hown4.2 with ⟨_, h0⟩ | ⟨g, cap, _, h, _⟩
          · omega
          · exact ⟨g, cap, h⟩
        subst hveq
        have hgw := (hown4.lt g rfl).1
        have hgne : ¬ g = w.heap.size := by have := Hb12.out.size; simp at this; omega
        have hsz4 : l.length * 4 = (ecells l).length := (ecells_len l).symm
        have hzi : (i : Int) < (l.length : Int) := by omega
        have c0 : ∃ u, w4.cell? ⟨g, i * 4, none⟩ = some u := ⟨_, (hown4.cellAt (i * 4) (by omega)).trans (List.getElem?_eq_getElem (by omega))⟩
        have c1 : ∃ u, w4.cell? ⟨g, i * 4 + 1, none⟩ = some u := ⟨_, (hown4.cellAt (i * 4 + 1) (by omega)).trans (List.getElem?_eq_getElem (by omega))⟩
        have c2 : ∃ u, w4.cell? ⟨g, i * 4 + 2, none⟩ = some u := ⟨_, (hown4.cellAt (i * 4 + 2) (by omega)).trans (List.getElem?_eq_getElem (by omega))⟩
        have c3 : ∃ u, w4.cell? ⟨g, i * 4 + 3, none⟩ = some u := ⟨_, (hown4.cellAt (i * 4 + 3) (by omega)).trans (List.getElem?_eq_getElem (by omega))⟩
        obtain ⟨u0, c0⟩ := c0
        obtain ⟨u1, c1⟩ := c1
        obtain ⟨u2, c2⟩ := c2
        obtain ⟨u3, c3⟩ := c3
        have f0 := hown4.frozenAt (i * 4)
        have f1 := hown4.frozenAt (i * 4 + 1)
        have f2 := hown4.frozenAt (i * 4 + 2)
        have f3 := hown4.frozenAt (i * 4 + 3)
        have HO4 := Lib.hid hown4
        clear hown4 hsz4 hb4 hb14
        go_wp2
        go_ret2
        rw [HR.out]
        have s0 := HO4.out.stored (i * 4) (.string e.text)
        have s1 := s0.1.stored (i * 4 + 1) (.int .i64 e.cls)
        have s2 := s1.1.stored (i * 4 + 2) (.bool e.lim)
        have s3 := s2.1.stored (i * 4 + 3) (.bool e.str)
        rw [← ecells_set l i e hil] at s3
        have hgle : w.heap.size ≤ g := by omega
        refine ret_own (base := w2.heap.size) (l := l.set i e) ?_ ((((HB4.out.setCell hgle _).setCell hgle _).setCell hgle _).setCell hgle _)
        rw [List.length_set]
        exact s3.1
      | none =>
        have HI := Lib.hid hi
        clear hi
        go_wp2_with fail
        refine (index_none A l cp e.text _ ((hlH.out.below HB3.out).more hs3) hn HI.out).mono ?_
        rintro r w4 ⟨rfl, hb4⟩
        have hB4 : Below w.heap.size w w4 := HB3.out.trans (hb4.mono hs3)
        have hb14 := Hb13.out.trans (hb4.mono Hb13.out.size)
        have hown4 := own_below Hown.out hb4
        have HB4 := Lib.hid hB4
        clear q0 q1 q2 q3 qf qs hB4
        obtain ⟨⟨q0, q1, q2, q3⟩, qf, qs⟩ := res4 hb14
        have HO4 := Lib.hid hown4
        have hs4 := HB4.out.size
        have hs24 : w2.heap.size ≤ w4.heap.size := Nat.le_trans hs23 hb4.size
        clear hown4 hb4 hb14
        by_cases h200 : l.length = 200
        · have hz : ((l.length : Int) == 200) = true := by simp; omega
          have HR : Hid (withR l e = ([], 6)) := by show withR l e = ([], 6); unfold withR; rw [HV.out, HP.out, HI.out]; simp [h200]
          have H200 := Lib.hid h200
          clear h200
          go_wp2
          go_ret2
          rw [HR.out]
          exact ret_none HB4.out
        · have hz : ((l.length : Int) == 200) = false := by simp; omega
          have HR : Hid (withR l e = (l ++ [e], 0)) := by show withR l e = (l ++ [e], 0); unfold withR; rw [HV.out, HP.out, HI.out]; simp [h200]
          clear h200
          go_wp2_with (at_builtin; refine wpList_append_own _ rfl _ _ 22 rfl w2.heap.size 27 i0 _ 4 32 Try.underlying22 hi0 hz0 hz1 hz2 rfl (by decide) _ _ _ rfl (HO4.out.alloc _) ⟨w4.heap.size, 0, none⟩ 1 1 e.cells rfl rfl ?c1 ?c2 ?c3 ?c4 ?c5 ?_)
          case c1 => intro j u hu; match j, hu with | 0, hu => (injection hu with hu; subst hu; simp [addr_add]) | 1, hu => (injection hu with hu; subst hu; simp [addr_add]) | 2, hu => (injection hu with hu; subst hu; simp [addr_add]) | 3, hu => (injection hu with hu; subst hu; simp [addr_add]) | (j + 4), hu => simp [Ent.cells] at hu
          case c2 => intro u hu; exact ecells_one' [e] u (by rw [ecells_one]; exact hu)
          case c3 => unfold maxLen; omega
          case c4 => omega
          case c5 => simp; omega
          intro v' w5 hown' hgrow _
          have hB5 : Below w.heap.size w w5 := (HB4.out.alloc hs4 _).grown hgrow (by simp; omega) (fun k hk => by have := (HO4.out.lt k hk).1; omega)
          have HB5 := Lib.hid hB5
          have HO5 : Hid (w5.ownsRow w2.heap.size 27 4 v' (l ++ [e]).length (ecells (l ++ [e]))) := by
            show w5.ownsRow w2.heap.size 27 4 v' (l ++ [e]).length (ecells (l ++ [e]))
            rw [ecells_append, ecells_one, List.length_append]
            exact hown'
          clear hB5 hown' hgrow
          go_wp2
          go_ret2
          rw [HR.out]
          exact ret_own HO5.out HB5.out
end Go.Proofs.Ythhnbfndmjpdgaa
