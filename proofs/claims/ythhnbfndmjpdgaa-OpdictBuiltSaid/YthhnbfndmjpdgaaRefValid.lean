/- Contract of the reference's Valid; the walk of the law OpdictValid. -/
import Derived.Test.YthhnbfndmjpdgaaValid
namespace Go.Proofs.Ythhnbfndmjpdgaa
open Go.RowKit Go.Maps

theorem belowN {B : Nat} {a w : World} (h : Below B a w) (n : Nat) : Below B a (w.drewN n) := ⟨h.os, h.tape, h.output, h.size, h.block⟩

set_option maxHeartbeats 1000000 in
theorem refValid_any (A : Option Addr) (l : List Ent) (cp : Nat) (w : World) (hl : ER w w.heap.size A l) (hn : l.length ≤ 250) (hok : ∀ e ∈ l, e.text.size ≤ maxLen) :
    Calls Try.prog 15 #[.slice A l.length cp] w fun e w' => e = .returned (.bool (validB l)) ∧ Below w.heap.size w w' := by
  have hlH := Lib.hid hl
  have HOK := Lib.hid hok
  clear hl hok
  go_enter Try.func15, Try.ntmps15
  go_wp2
  go_loopg [3] l.length (fun gg s3 wr => ∃ kk : Nat, kk ≤ l.length ∧ l.length - kk ≤ gg ∧ s3 = .int .i64 kk ∧ Aside (Below w.heap.size w wr) ∧ Aside (∀ j, j < kk → okAt l j = true))
  case atStart => exact ⟨0, Nat.zero_le _, by omega, rfl, Below.refl _ _, fun j hj => absurd hj (Nat.not_lt_zero _)⟩
  case round =>
    obtain ⟨kk, hkk, hg, rfl, BW, HA⟩ := hrel
    by_cases hlt : kk < l.length
    · have hltz : (kk : Int) < (l.length : Int) := by omega
      obtain ⟨b, off, rfl, hb, he⟩ := (hlH.out.below BW.out).at_ hlt
      obtain ⟨h0, h1, h2, h3⟩ := he
      have hbw : b < wr.heap.size := Nat.lt_of_lt_of_le hb BW.out.size
      have hWs := BW.out.size
      have hsz : l[kk].text.size ≤ maxLen := HOK.out _ (List.getElem_mem _)
      go_wp2_with fail
      refine (refProper_any l[kk] _ hsz).mono ?_
      rintro e w1 ⟨rfl, hb1⟩
      have hBw1 := Lib.hid (BW.out.trans (hb1.mono hWs))
      clear hb1 h0 h1 h2 h3
      cases hp : proper l[kk] with
      | false =>
        have HP := Lib.hid hp
        clear hp
        have hv : Hid (validB l = false) := valid_no l kk hlt (by rw [okAt_eq l kk hlt, HP.out]; rfl)
        go_wp2
        go_ret
        exact ⟨ret_bool hv.out.symm, hBw1.out⟩
      | true =>
        have HP := Lib.hid hp
        clear hp
        have HL1 := Lib.hid (hlH.out.below hBw1.out)
        obtain ⟨b', off', hA, _, ⟨k0, _, _, _⟩⟩ := HL1.out.at_ hlt
        cases hA
        obtain ⟨wo, hwo⟩ : ∃ wo : World, wo = wr := ⟨_, rfl⟩
        clear hwo
        go_wp2
        go_loopg [4] kk (fun gg s4 wr => ∃ jj : Nat, jj ≤ kk ∧ kk - jj ≤ gg ∧ s4 = .int .i64 jj ∧ Aside (∃ n, wr = w1.drewN n) ∧ Aside (∀ j e, j < jj → l[j]? = some e → eqT e.text l[kk].text = false))
        case atStart => exact ⟨0, Nat.zero_le _, by omega, rfl, ⟨0, rfl⟩, fun j e hj => absurd hj (Nat.not_lt_zero _)⟩
        case round =>
          obtain ⟨jj, hjj, hgj, rfl, DW, HJ⟩ := hrel
          obtain ⟨nd, rfl⟩ := DW.out
          clear DW
          by_cases hjlt : jj < kk
          · have hjz : (jj : Int) < (kk : Int) := by omega
            have hjl : jj < l.length := by omega
            have hjlz : (jj : Int) < (l.length : Int) := by omega
            obtain ⟨b'', off'', hA', _, ⟨j0, _, _, _⟩⟩ := HL1.out.at_ hjl
            cases hA'
            go_wp2
            cases hq : eqT l[jj].text l[kk].text with
            | true =>
              have hv : Hid (validB l = false) := valid_no l kk hlt (by rw [okAt_eq l kk hlt, seen_take_yes l kk _ jj hjlt hjl hq]; simp)
              have hq2 : (l[jj].text.toList == l[kk].text.toList) = true := hq
              clear hq
              go_quiet (fail)
              go_wp2
              go_ret
              exact ⟨ret_bool hv.out.symm, belowN (belowN hBw1.out _) _⟩
            | false =>
              have Hq := Lib.hid hq
              have hq2 : (l[jj].text.toList == l[kk].text.toList) = false := hq
              clear hq
              go_quiet (fail)
              go_wp2
              go_roundg (kk - (jj + 1))
              case measure => omega
              case rel =>
                refine ⟨jj + 1, by omega, by omega, by go_num, ⟨_, rfl⟩, (show Aside _ from fun j e hj he => ?_)⟩
                by_cases ee : j = jj
                · subst ee
                  rw [List.getElem?_eq_getElem hjl] at he
                  cases he
                  exact Hq.out
                · exact HJ.out j e (by omega) he
          · have hjz : ¬ (jj : Int) < (kk : Int) := by omega
            obtain rfl : jj = kk := by omega
            have hv : Hid (okAt l jj = true) := by show okAt l jj = true; rw [okAt_eq l jj hlt, HP.out, seen_take_no l jj _ HJ.out]; rfl
            go_wp2
            go_roundg (l.length - (jj + 1))
            case measure => omega
            case rel =>
              refine ⟨jj + 1, by omega, by omega, by go_num, belowN hBw1.out _, (show Aside _ from fun j hj => ?_)⟩
              by_cases ee : j = jj
              · subst ee; exact hv.out
              · exact HA.out j (by omega)
    · have hltz : ¬ (kk : Int) < (l.length : Int) := by omega
      obtain rfl : kk = l.length := by omega
      have hv : Hid (validB l = decide (l.length ≤ 200)) := valid_end l HA.out
      go_wp2
      go_ret
      refine ⟨ret_bool ?_, BW.out⟩
      rw [hv.out]
      rw [Bool.eq_iff_iff]; simp; try omega
end Go.Proofs.Ythhnbfndmjpdgaa
