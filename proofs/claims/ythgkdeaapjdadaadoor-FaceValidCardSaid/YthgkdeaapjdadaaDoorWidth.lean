/- Contract of the maker's width. -/
import Derived.Test.YthgkdeaapjdadaaDoorGreek
import Derived.Deep.QuietTactic
import Derived.BigQuiet
import Derived.Outline
namespace Go.Proofs.YthgkdeaapjdadaaDoor
open Go.RowKit

def findG (l : List Gl) (n : List UInt8) : Option Gl := l.find? (fun g => g.name == n)
def widthL (l : List Gl) (n : List UInt8) : Int × Int := match findG l n with | some g => (g.w, g.it) | none => (0, 0)
theorem find_hit (l : List Gl) (n : List UInt8) (i : Nat) (hi : i < l.length) (h : l[i].name = n) (hn : ∀ j e, j < i → l[j]? = some e → e.name ≠ n) : findG l n = some l[i] := by
  unfold findG
  rw [List.find?_eq_some_iff_getElem]
  refine ⟨by simpa using h, i, hi, rfl, fun j hj => ?_⟩
  have := hn j l[j] hj (List.getElem?_eq_getElem (by omega))
  simpa using this
theorem find_miss (l : List Gl) (n : List UInt8) (hn : ∀ (j : Nat) e, j < l.length → l[j]? = some e → e.name ≠ n) : findG l n = none := by
  unfold findG
  rw [List.find?_eq_none]
  intro x hx
  obtain ⟨j, hj, rfl⟩ := List.mem_iff_getElem.1 hx
  have := hn j _ hj (List.getElem?_eq_getElem hj)
  simpa using this

theorem below_drewN (w : World) (n : Nat) : Below w.heap.size w (w.drewN n) := ⟨rfl, rfl, rfl, Nat.le_refl _, fun _ _ => rfl⟩
set_option maxRecDepth 100000 in
set_option maxHeartbeats 2000000 in
theorem width_any (n : List UInt8) (l : List Gl) (b : Nat) (w : World) (hm : Mk w b l) (hl : l.length ≤ 1000) :
    Calls Tryd.prog 50 #[.pointer (some ⟨b, 0, none⟩), .string ⟨n.toArray⟩] w fun e w' => e = .returned (.tuple #[.int .i64 (widthL l n).1, .int .i64 (widthL l n).2]) ∧ Below w.heap.size w w' := by
  obtain ⟨v, hc, ho⟩ := hm.ex
  have hlt := hm.lt
  obtain ⟨A, c, rfl, hg, _⟩ := GR.of_own ho
  have HG := Lib.hid hg
  clear ho hg hm
  go_enter Tryd.func50, Tryd.ntmps50
  go_wp2_with fail
  go_loopg [13, 7] l.length (fun gg s13 _ wr => ∃ k : Nat, k ≤ l.length ∧ l.length - k ≤ gg ∧ s13 = .int .i64 k ∧ Aside (Below w.heap.size w wr) ∧ Aside (∀ j e, j < k → l[j]? = some e → e.name ≠ n))
  case atStart => exact ⟨0, Nat.zero_le _, by omega, rfl, Below.refl _ w, fun j e hj => absurd hj (Nat.not_lt_zero _)⟩
  case round =>
    obtain ⟨k, hk, hgg, rfl, BW, HA⟩ := hrel
    have hs := BW.out.size
    by_cases hkl : k < l.length
    · have hltz : (k : Int) < (l.length : Int) := by omega
      obtain ⟨bb, off, rfl, hbb, he⟩ := (HG.out.below BW.out).at_ hkl
      obtain ⟨h0, h1, h2, h3, h4, h5⟩ := he
      by_cases hn : l[k].name = n
      · have HW : Hid (widthL l n = (l[k].w, l[k].it)) := by show widthL l n = _; unfold widthL; rw [find_hit l n k hkl hn HA.out]
        have hn' : (l[k].name == n) = true := by simpa using hn
        clear hn
        have HB2 := Lib.hid (BW.out.alloc hs (.cells #[.string ⟨l[k].name.toArray⟩, .int .i64 l[k].w, .int .i64 l[k].h, .int .i64 l[k].d, .int .i64 l[k].it, .int .i64 l[k].at_] 32))
        go_wp2_with fail
        go_quiet (fail)
        go_wp2_with fail
        go_ret2
        rw [HW.out]
        exact ⟨rfl, HB2.out.trans ((below_drewN _ nq).mono HB2.out.size)⟩
      · have hn' : (l[k].name == n) = false := by simpa using hn
        have HN := Lib.hid hn
        clear hn
        go_wp2_with fail
        go_roundg (l.length - (k + 1))
        case measure => omega
        case rel =>
          refine ⟨k + 1, by omega, by omega, by go_num, BW.out.alloc hs _, (show Aside _ from fun j e hj he => ?_)⟩
          by_cases ee : j = k
          · subst ee
            rw [List.getElem?_eq_getElem hkl] at he
            cases he
            exact HN.out
          · exact HA.out j e (by omega) he
    · have hltz : ¬ (k : Int) < (l.length : Int) := by omega
      obtain rfl : k = l.length := by omega
      have HW : Hid (widthL l n = (0, 0)) := by show widthL l n = _; unfold widthL; rw [find_miss l n HA.out]
      go_wp2
      go_ret2
      rw [HW.out]
      exact ⟨rfl, BW.out⟩
end Go.Proofs.YthgkdeaapjdadaaDoor
