/- Contracts of Valid and of the reference's Valid. -/
import Derived.Test.YthhnbfndmjpdgaaSeen
import Derived.Deep.QuietTactic
import Derived.BigQuiet
namespace Go.Proofs.Ythhnbfndmjpdgaa
open Go.RowKit Go.Maps

theorem run_makeMap_hint {P : Program} (t k e : TypeId) (kd : IntKind) (n : Int) (ht : P.underlying t = some (.map k e)) (w : World) :
    (Instr.makeMap t (some (.int kd n))).run P w = .ok (.map (some w.heap.size)) (w.alloc (.map #[] 0)) := by
  simp [Instr.makeMap, run_underlying ht]; rfl

set_option maxHeartbeats 400000 in
theorem valid_over (A : Option Addr) (n cp : Nat) (w : World) (hn : 200 < n) (hm : n ≤ 9223372036854775807) :
    Calls Try.prog 14 #[.slice A n cp] w fun e w' => e = .returned (.bool false) ∧ Below w.heap.size w w' := by
  go_enter Try.func14, Try.ntmps14
  go_wp2
  go_ret
  exact ⟨rfl, Below.refl _ _⟩

set_option maxHeartbeats 1000000 in
theorem valid_within (A : Option Addr) (l : List Ent) (cp : Nat) (w : World) (hl : ER w w.heap.size A l) (hn : l.length ≤ 200) (hok : ∀ e ∈ l, e.text.size ≤ maxLen) :
    Calls Try.prog 14 #[.slice A l.length cp] w fun e w' => e = .returned (.bool (validB l)) ∧ Below w.heap.size w w' := by
  have hlH := Lib.hid hl
  have HOK := Lib.hid hok
  clear hl hok
  have hmm := fun (n : Int) (w : World) => run_makeMap_hint (P := Try.prog) 39 9 4 .i64 n Try.underlying39 w
  go_enter Try.func14, Try.ntmps14
  go_wp2
  clear hmm
  go_loopg [14] l.length (fun gg s14 wr => ∃ kk : Nat, kk ≤ l.length ∧ l.length - kk ≤ gg ∧ s14 = .int .i64 kk ∧ Aside (Below w.heap.size w wr) ∧ Aside (wr.ownsMap Try.prog 9 (plainElem Try.prog 4) w.heap.size kk (seenD (l.take kk))) ∧ Aside (∀ j, j < kk → okAt l j = true))
  case atStart => exact ⟨0, Nat.zero_le _, by omega, rfl, (Below.refl _ _).alloc (Nat.le_refl _) _, World.ownsMap_made _ _ _ _, fun j hj => absurd hj (Nat.not_lt_zero _)⟩
  case round =>
    obtain ⟨kk, hkk, hg, rfl, BW, OM, HA⟩ := hrel
    by_cases hlt : kk < l.length
    · have hltz : (kk : Int) < (l.length : Int) := by omega
      obtain ⟨b, off, rfl, hb, he⟩ := (hlH.out.below BW.out).at_ hlt
      obtain ⟨h0, h1, h2, h3⟩ := he
      have hbw : b < wr.heap.size := Nat.lt_of_lt_of_le hb BW.out.size
      have hWs := BW.out.size
      have hsz : l[kk].text.size ≤ maxLen := HOK.out _ (List.getElem_mem _)
      have hOlt := OM.out.lt
      go_wp2_with fail
      refine (entry_any l[kk] _ hsz).mono ?_
      rintro e w1 ⟨rfl, hb1⟩
      obtain ⟨⟨q0, q1, q2, q3⟩, qf, qs⟩ := res4 hb1
      have hb1' : Below wr.heap.size wr w1 := ((Below.refl _ _).alloc (Nat.le_refl _) _).trans (hb1.mono (by simp))
      have hBw1 := Lib.hid (BW.out.trans (hb1'.mono hWs))
      have OM1 : w1.ownsMap Try.prog 9 (plainElem Try.prog 4) w.heap.size kk (seenD (l.take kk)) := by
        obtain ⟨es, ck, hh, hr⟩ := OM.out
        exact ⟨es, ck, (hb1'.block _ hOlt).trans hh, hr⟩
      have hlook := look_seen OM1 l[kk].text hsz
      have OM1H := Lib.hid OM1
      clear OM1 hb1'
      cases hp : proper l[kk] with
      | false =>
        have HP := Lib.hid hp
        clear hp
        have hv : Hid (validB l = false) := valid_no l kk hlt (by rw [okAt_eq l kk hlt, HP.out]; rfl)
        clear hlook
        go_wp2
        go_ret
        exact ⟨ret_bool hv.out.symm, hBw1.out⟩
      | true =>
        have HP := Lib.hid hp
        clear hp
        cases hs : seenB (l.take kk) l[kk].text with
        | true =>
          have hv : Hid (validB l = false) := valid_no l kk hlt (by rw [okAt_eq l kk hlt, HP.out, hs]; rfl)
          rw [hs] at hlook
          clear hs
          go_wp2
          go_ret
          exact ⟨ret_bool hv.out.symm, hBw1.out⟩
        | false =>
          have hv : Hid (okAt l kk = true) := by show okAt l kk = true; rw [okAt_eq l kk hlt, HP.out, hs]; rfl
          rw [hs] at hlook
          clear hs
          go_wp2_with (at_mapUpdate; refine wpList_mapUpdate_own _ rfl _ _ _ 39 rfl 9 4 law9 Try.underlying39 _ w.heap.size kk _ rfl OM1H.out (by unfold maxLen; omega) _ _ _ rfl rfl (Go.WideMaps.keyOf_string_mk Try.underlying9 hsz) _ [] (plainElem_bool Try.underlying4 true) ?_; intro w2 hown2 hgrow2)
          have HM2 : Hid (w2.ownsMap Try.prog 9 (plainElem Try.prog 4) w.heap.size (kk + 1) (seenD (l.take (kk + 1)))) := by
            show w2.ownsMap Try.prog 9 (plainElem Try.prog 4) w.heap.size (kk + 1) (seenD (l.take (kk + 1)))
            rw [seen_snoc l kk hlt]; exact hown2
          have HB2 := Lib.hid (hBw1.out.grown hgrow2 hBw1.out.size (fun k hk => by injection hk with hk; omega))
          clear hown2 hgrow2
          go_wp2
          go_roundg (l.length - (kk + 1))
          case measure => omega
          case rel =>
            refine ⟨kk + 1, by omega, by omega, by go_num, HB2.out, HM2.out, (show Aside _ from fun j hj => ?_)⟩
            by_cases ee : j = kk
            · subst ee; exact hv.out
            · exact HA.out j (by omega)
    · have hltz : ¬ (kk : Int) < (l.length : Int) := by omega
      obtain rfl : kk = l.length := by omega
      have hv : Hid (validB l = true) := (valid_end l HA.out).trans (decide_eq_true hn)
      go_wp2
      go_ret
      exact ⟨ret_bool hv.out.symm, BW.out⟩
end Go.Proofs.Ythhnbfndmjpdgaa
