/- Contract of Same at two slices with the same entries; contract of the reference's With. -/
import Derived.Test.YthhnbfndmjpdgaaWith
import Derived.Laws.AppendOwnNone
namespace Go.Proofs.Ythhnbfndmjpdgaa
open Go.RowKit

set_option maxHeartbeats 1000000 in
theorem same_eq (A B : Option Addr) (l : List Ent) (cp cq : Nat) (w : World) (hA : ER w w.heap.size A l) (hB : ER w w.heap.size B l) (hn : l.length ≤ 251) :
    Calls Try.prog 18 #[.slice A l.length cp, .slice B l.length cq] w fun e w' => e = .returned (.bool true) ∧ Below w.heap.size w w' := by
  have HA := Lib.hid hA
  have HB := Lib.hid hB
  clear hA hB
  go_enter Try.func18, Try.ntmps18
  go_wp2
  go_loopg [5] l.length (fun gg s5 wr => ∃ kk : Nat, kk ≤ l.length ∧ l.length - kk ≤ gg ∧ s5 = .int .i64 kk ∧ Aside (∃ n, wr = w.drewN n))
  case atStart => exact ⟨0, Nat.zero_le _, by omega, rfl, ⟨0, rfl⟩⟩
  case round =>
    obtain ⟨kk, hkk, hg, rfl, DW⟩ := hrel
    obtain ⟨nd, rfl⟩ := DW.out
    clear DW
    by_cases hlt : kk < l.length
    · have hltz : (kk : Int) < (l.length : Int) := by omega
      obtain ⟨b2, o2, rfl, hlt2, ⟨a0, a1, a2, a3⟩⟩ := HA.out.at_ hlt
      obtain ⟨b3, o3, rfl, hlt3, ⟨d0, d1, d2, d3⟩⟩ := HB.out.at_ hlt
      go_wp2
      go_quiet (fail)
      go_wp2
      go_roundg (l.length - (kk + 1))
      case measure => omega
      case rel => exact ⟨kk + 1, by omega, by omega, by go_num, ⟨_, rfl⟩⟩
    · have hltz : ¬ (kk : Int) < (l.length : Int) := by omega
      obtain rfl : kk = l.length := by omega
      go_wp2
      go_ret
      exact ⟨rfl, belowN (Below.refl _ _) _⟩

theorem own_drewN {w : World} {base : Nat} {e : TypeId} {size n : Nat} {v : Value} {xs : List Value} (h : w.ownsRow base e size v n xs) (k : Nat) : (w.drewN k).ownsRow base e size v n xs := h

/-- append of a slice of entries, nil or not, onto a row that the call owns -/
theorem wpList_append_ents {w : World} {B : Nat} {ops : Array Oper} {rest : List Oper} {o : Oper} {a : Act} {Q : Exit → Act → World → Prop} (hgd : o.guard = none) (s x : Operand)
    (ho : o.op = .call { callee := .builtin .append, args := #[s, x], argTypes := #[22, 22] }) (base : Nat) (v : Value) (n : Nat) (xs : List Value) (hs : a.eval s = v) (hown : w.ownsRow base 27 4 v n xs)
    (A : Option Addr) (l : List Ent) (cp : Nat) (hx : a.eval x = .slice A l.length cp) (hl : ER w B A l) (hnil : A = none → cp = 0) (hn : n + l.length ≤ 1000) (hbase : base ≤ w.heap.size)
    (h : ∀ v' w', w'.ownsRow base 27 4 v' (n + l.length) (xs ++ ecells l) → w.grownBy w' v.ownBlock → wpList Try.prog ops Q rest (a.put o.dst v') w') : wpList Try.prog ops Q (o :: rest) a w := by
  obtain ⟨i0, hi0, hz0, hz1, hz2⟩ := info_parts ent_info
  rcases A with _ | ad
  · have : l = [] := by
      rcases Classical.em (l = []) with h | h
      · exact h
      · obtain ⟨_, _, ha, _⟩ := hl h; cases ha
    subst this
    obtain rfl := hnil rfl
    refine wpList_append_own_none hgd s x 22 ho base 27 i0 4 Try.underlying22 hi0 v n xs hs hown hx (h v w ?_ (World.grownBy.refl w _))
    simpa [ecells] using hown
  · exact wpList_append_own _ hgd s x 22 ho base 27 i0 _ 4 32 Try.underlying22 hi0 hz0 hz1 hz2 rfl (by decide) v n xs hs hown ad l.length cp (ecells l) hx (ecells_len l) hl.src (ecells_one' l) (by unfold maxLen; omega) (by omega) hbase (fun v' w' h1 h2 _ => h v' w' h1 h2)

set_option maxHeartbeats 1000000 in
theorem refWith_any (A : Option Addr) (l : List Ent) (cp : Nat) (e : Ent) (w : World) (hl : ER w w.heap.size A l) (hn : l.length ≤ 250) (hok : ∀ e ∈ l, e.text.size ≤ maxLen) (he : e.text.size ≤ maxLen) (hnil : A = none → cp = 0) :
    Calls Try.prog 17 #[.slice A l.length cp, .agg #[.string e.text, .int .i64 e.cls, .bool e.lim, .bool e.str]] w (RetWith w (withR l e)) := by
  have hlH := Lib.hid hl
  have HOK := Lib.hid hok
  have HNIL := Lib.hid hnil
  obtain ⟨i0, hi0, hz0, hz1, hz2⟩ := info_parts ent_info
  clear hl hok hnil
  cases hv : validB l with
  | false =>
    have HR : Hid (withR l e = ([], 1)) := by show withR l e = ([], 1); unfold withR; rw [hv]; rfl
    have HV := Lib.hid hv
    clear hv
    go_enter Try.func17, Try.ntmps17
    go_wp2_with fail
    refine (refValid_any A l cp _ ((hlH.out.below ((Below.refl _ _).alloc (Nat.le_refl _) _)).more (by simp)) hn HOK.out).mono ?_
    rw [HV.out]
    rintro r w1 ⟨rfl, hb1⟩
    have hB1 : Below w.heap.size w w1 := ((Below.refl _ _).alloc (Nat.le_refl _) _).trans (hb1.mono (by simp))
    go_wp2
    go_ret2
    rw [HR.out]
    exact ret_none hB1
  | true =>
    have HV := Lib.hid hv
    clear hv
    go_enter Try.func17, Try.ntmps17
    go_wp2_with fail
    refine (refValid_any A l cp _ ((hlH.out.below ((Below.refl _ _).alloc (Nat.le_refl _) _)).more (by simp)) hn HOK.out).mono ?_
    rw [HV.out]
    rintro r w1 ⟨rfl, hb1⟩
    have hB1 : Below w.heap.size w w1 := ((Below.refl _ _).alloc (Nat.le_refl _) _).trans (hb1.mono (by simp))
    obtain ⟨⟨q0, q1, q2, q3⟩, qf, qs⟩ := res4 hb1
    go_wp2_with fail
    refine (refProper_any e _ he).mono ?_
    rintro r w2 ⟨rfl, hb2⟩
    have hb12 := hb1.trans (hb2.mono hb1.size)
    have hB2 : Below w.heap.size w w2 := ((Below.refl _ _).alloc (Nat.le_refl _) _).trans (hb12.mono (by simp))
    have Hb12 := Lib.hid hb12
    have hs12 : w.heap.size + 1 ≤ w2.heap.size := by have := hb12.size; simpa using this
    clear q0 q1 q2 q3 qf qs hb1 hb2 hb12 hB1
    cases hp : proper e with
    | false =>
      have HR : Hid (withR l e = ([], 1)) := by show withR l e = ([], 1); unfold withR; rw [HV.out, hp]; rfl
      clear hp
      go_wp2
      go_ret2
      rw [HR.out]
      exact ret_none hB2
    | true =>
      have HP := Lib.hid hp
      clear hp
      have hs2 := hB2.size
      have HB2 := Lib.hid hB2
      clear hB2
      go_wp2_with (at_builtin; refine wpList_append_ents (B := w.heap.size) rfl _ _ rfl w2.heap.size _ 0 [] rfl (World.ownsRow_made w2 #[] 0 (Nat.le_refl _) (Nat.zero_le _) rfl) A l cp rfl ?c1 HNIL.out ?c2 ?c3 ?_)
      case c1 => exact (hlH.out.below HB2.out).below ((Below.refl _ _).alloc hs2 _)
      case c2 => omega
      case c3 => simp
      intro v w3 hown hgrow
      have hb3 : Below w2.heap.size w2 w3 := ((Below.refl _ _).alloc (Nat.le_refl _) _).grown hgrow (by simp) (fun k hk => by simp [Value.ownBlock] at hk; omega)
      have hown3 : w3.ownsRow w2.heap.size 27 4 v l.length (ecells l) := by simpa using hown
      clear hown hgrow
      obtain ⟨A3, c3, hveq, hE3, _⟩ := ER.of_own hown3
      subst hveq
      have hb13 := Hb12.out.trans (hb3.mono Hb12.out.size)
      obtain ⟨⟨q0, q1, q2, q3⟩, qf, qs⟩ := res4 hb13
      have HB3 := Lib.hid (HB2.out.trans (hb3.mono hs2))
      have HO3 := Lib.hid hown3
      have HE3 := Lib.hid hE3
      have hs23 := hb3.size
      have hs3 := HB3.out.size
      clear hown3 hE3 hb3 hb13
      go_wp2
      go_loopg [7] l.length (fun gg s7 wr => ∃ kk : Nat, kk ≤ l.length ∧ l.length - kk ≤ gg ∧ s7 = .int .i64 kk ∧ Aside (∃ n, wr = w3.drewN n) ∧ Aside (∀ j f, j < kk → l[j]? = some f → eqT f.text e.text = false))
      case atStart => exact ⟨0, Nat.zero_le _, by omega, rfl, ⟨0, rfl⟩, fun j f hj => absurd hj (Nat.not_lt_zero _)⟩
      case round =>
        obtain ⟨kk, hkk, hg, rfl, DW, HA⟩ := hrel
        obtain ⟨nd, rfl⟩ := DW.out
        clear DW
        by_cases hlt : kk < l.length
        · have hltz : (kk : Int) < (l.length : Int) := by omega
          obtain ⟨g, cap, hveq⟩ : ∃ g cap, A3 = some ⟨g, 0, none⟩ ∧ c3 = cap := by
            rcases HO3.out.2 with ⟨_, h0⟩ | ⟨g, cap, _, h, _⟩
            · omega
            · simp at h; exact ⟨g, cap, h.1, h.2⟩
          obtain ⟨rfl, rfl⟩ := hveq
          have hgw := (HO3.out.lt g rfl).1
          have hgne : ¬ g = w.heap.size := by omega
          obtain ⟨b2, o2, ha2, _, ⟨a0, _, _, _⟩⟩ := HE3.out.at_ hlt
          simp at ha2
          obtain ⟨rfl, rfl⟩ := ha2
          rw [Nat.zero_add] at a0
          cases hq : eqT l[kk].text e.text with
          | true =>
            have HI := Lib.hid (fIdx_hit l e.text kk hlt hq HA.out)
            have HR : Hid (withR l e = (l.set kk e, 0)) := by show withR l e = (l.set kk e, 0); unfold withR; rw [HV.out, HP.out, HI.out]; rfl
            have hq2 : (l[kk].text.toList == e.text.toList) = true := hq
            clear hq
            have hsz4 : l.length * 4 = (ecells l).length := (ecells_len l).symm
            have c1 : ∃ u, w3.cell? ⟨g, kk * 4 + 1, none⟩ = some u := ⟨_, (HO3.out.cellAt (kk * 4 + 1) (by omega)).trans (List.getElem?_eq_getElem (by omega))⟩
            have c2 : ∃ u, w3.cell? ⟨g, kk * 4 + 2, none⟩ = some u := ⟨_, (HO3.out.cellAt (kk * 4 + 2) (by omega)).trans (List.getElem?_eq_getElem (by omega))⟩
            have c3' : ∃ u, w3.cell? ⟨g, kk * 4 + 3, none⟩ = some u := ⟨_, (HO3.out.cellAt (kk * 4 + 3) (by omega)).trans (List.getElem?_eq_getElem (by omega))⟩
            obtain ⟨u1, c1⟩ := c1
            obtain ⟨u2, c2⟩ := c2
            obtain ⟨u3, c3'⟩ := c3'
            have f0 := HO3.out.frozenAt (kk * 4)
            have f1 := HO3.out.frozenAt (kk * 4 + 1)
            have f2 := HO3.out.frozenAt (kk * 4 + 2)
            have f3 := HO3.out.frozenAt (kk * 4 + 3)
            clear hsz4
            go_wp2
            go_quiet (fail)
            go_wp2
            go_ret2
            rw [HR.out]
            have s0 := (own_drewN HO3.out (nd + nq)).stored (kk * 4) (.string e.text)
            have s1 := s0.1.stored (kk * 4 + 1) (.int .i64 e.cls)
            have s2 := s1.1.stored (kk * 4 + 2) (.bool e.lim)
            have s3 := s2.1.stored (kk * 4 + 3) (.bool e.str)
            rw [← ecells_set l kk e hlt] at s3
            have hgle : w.heap.size ≤ g := by omega
            refine ret_own (base := w2.heap.size) (l := l.set kk e) ?_ (((((belowN HB3.out (nd + nq)).setCell hgle _).setCell hgle _).setCell hgle _).setCell hgle _)
            rw [List.length_set]
            exact s3.1
          | false =>
            have Hq := Lib.hid hq
            have hq2 : (l[kk].text.toList == e.text.toList) = false := hq
            clear hq
            go_wp2
            go_quiet (fail)
            go_wp2
            go_roundg (l.length - (kk + 1))
            case measure => omega
            case rel =>
              refine ⟨kk + 1, by omega, by omega, by go_num, ⟨_, rfl⟩, (show Aside _ from fun j f hj hf => ?_)⟩
              by_cases ee : j = kk
              · subst ee
                rw [List.getElem?_eq_getElem hlt] at hf
                cases hf
                exact Hq.out
              · exact HA.out j f (by omega) hf
        · have hltz : ¬ (kk : Int) < (l.length : Int) := by omega
          obtain rfl : kk = l.length := by omega
          have HI := Lib.hid (fIdx_miss l e.text HA.out)
          obtain ⟨wx, hwx⟩ : ∃ wx : World, wx = w3.drewN nd := ⟨_, rfl⟩
          have p0 : wx.cell? ⟨w.heap.size, 0, none⟩ = some (.string e.text) := by rw [hwx]; exact q0
          have p1 : wx.cell? ⟨w.heap.size, 1, none⟩ = some (.int .i64 e.cls) := by rw [hwx]; exact q1
          have p2 : wx.cell? ⟨w.heap.size, 2, none⟩ = some (.bool e.lim) := by rw [hwx]; exact q2
          have p3 : wx.cell? ⟨w.heap.size, 3, none⟩ = some (.bool e.str) := by rw [hwx]; exact q3
          have HOx : Hid (wx.ownsRow w2.heap.size 27 4 (.slice A3 l.length c3) l.length (ecells l)) := by rw [hwx]; exact own_drewN HO3.out nd
          have HBx : Hid (Below w.heap.size w wx) := by rw [hwx]; exact belowN HB3.out nd
          have hsx : w2.heap.size ≤ wx.heap.size := by rw [hwx]; exact hs23
          have hsx' : w.heap.size ≤ wx.heap.size := by rw [hwx]; exact hs3
          rw [← hwx]
          clear hwx q0 q1 q2 q3 qf qs HE3 HO3 HB3 hs23 hs3
          by_cases h200 : l.length = 200
          · have hz : ((l.length : Int) == 200) = true := by simp; omega
            have HR : Hid (withR l e = ([], 6)) := by show withR l e = ([], 6); unfold withR; rw [HV.out, HP.out, HI.out]; simp [h200]
            have H200 := Lib.hid h200
            clear h200
            go_wp2
            go_ret2
            rw [HR.out]
            exact ret_none HBx.out
          · have hz : ((l.length : Int) == 200) = false := by simp; omega
            have HR : Hid (withR l e = (l ++ [e], 0)) := by show withR l e = (l ++ [e], 0); unfold withR; rw [HV.out, HP.out, HI.out]; simp [h200]
            clear h200
            go_wp2_with (at_builtin; refine wpList_append_own _ rfl _ _ 22 rfl w2.heap.size 27 i0 _ 4 32 Try.underlying22 hi0 hz0 hz1 hz2 rfl (by decide) _ _ _ rfl (HOx.out.alloc _) ⟨wx.heap.size, 0, none⟩ 1 1 e.cells rfl rfl ?c1 ?c2 ?c3 ?c4 ?c5 ?_)
            case c1 => intro j u hu; match j, hu with | 0, hu => (injection hu with hu; subst hu; simp) | 1, hu => (injection hu with hu; subst hu; simp) | 2, hu => (injection hu with hu; subst hu; simp) | 3, hu => (injection hu with hu; subst hu; simp) | (j + 4), hu => simp [Ent.cells] at hu
            case c2 => intro u hu; exact ecells_one' [e] u (by rw [ecells_one]; exact hu)
            case c3 => unfold maxLen; omega
            case c4 => omega
            case c5 => omega
            intro v' w5 hown' hgrow _
            have hB5 : Below w.heap.size w w5 := (HBx.out.alloc hsx' _).grown hgrow (by simp; omega) (fun k hk => by have := (HOx.out.lt k hk).1; omega)
            have HB5 := Lib.hid hB5
            have HO5 : Hid (w5.ownsRow w2.heap.size 27 4 v' (l ++ [e]).length (ecells (l ++ [e]))) := by
              show w5.ownsRow w2.heap.size 27 4 v' (l ++ [e]).length (ecells (l ++ [e]))
              rw [ecells_append, ecells_one, List.length_append]
              exact hown'
            clear hB5 hown' hgrow
            go_wp2
            go_ret2
            rw [HR.out]
            exact ret_own HO5.out HB5.out
end Go.Proofs.Ythhnbfndmjpdgaa
