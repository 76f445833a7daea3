/- Contracts of digits, Number and own. -/
import Derived.Test.YtkjhfbgdmmnadaaGreatTree
import Derived.Test.YtkjhfbgdmmnadaaGreatShelf
import Derived.Lib.IndexMore
import Derived.Lib.Strings
import Derived.Deep.CutBlock
import Derived.Deep.DeepCutAuto
namespace Go.Proofs.YtkjhfbgdmmnadaaGreat
open Go.RowKit

def isD (c : UInt8) : Bool := decide (48 ≤ c.toNat) && decide (c.toNat ≤ 57)
def digs (l : List UInt8) : Bool := l.all isD && !l.isEmpty
set_option maxHeartbeats 1000000 in
theorem digs_any (s : ByteArray) (w : World) (hs : s.size ≤ 1000) :
    Calls Tryz.prog 86 #[.string s] w fun r w' => r = .returned (.bool (digs s.data.toList)) ∧ w = w' := by
  go_enter Tryz.func86, Tryz.ntmps86
  go_wp2
  go_loop [3] (fun s3 => ∃ kk : Nat, kk ≤ s.size ∧ s3 = .int .i64 kk ∧ Aside (∀ (j : Nat) (hj : j < s.size), j < kk → isD s[j] = true)) (fun s3 => s.size - (intOf s3).toNat)
  case atStart => exact ⟨0, Nat.zero_le _, rfl, fun j _ hj => absurd hj (Nat.not_lt_zero _)⟩
  case round =>
    obtain ⟨kk, hkk, rfl, HA⟩ := hrel
    by_cases hlt : kk < s.size
    · have hltz : (kk : Int) < (s.size : Int) := by omega
      by_cases h1 : s[kk].toNat < 48
      · have h1' : (s[kk].toNat : Int) < 48 := by omega
        have hp : Hid (digs s.data.toList = false) := by show digs s.data.toList = false; unfold digs; rw [all_no isD s kk hlt (by simp [isD]; omega)]; rfl
        go_wp2
        go_ret
        rw [hp.out]
        exact ⟨rfl, rfl⟩
      · have h1' : ¬ (s[kk].toNat : Int) < 48 := by omega
        by_cases h2 : 57 < s[kk].toNat
        · have h2' : (57 : Int) < (s[kk].toNat : Int) := by omega
          have hp : Hid (digs s.data.toList = false) := by show digs s.data.toList = false; unfold digs; rw [all_no isD s kk hlt (by simp [isD]; omega)]; rfl
          go_wp2
          go_ret
          rw [hp.out]
          exact ⟨rfl, rfl⟩
        · have h2' : ¬ (57 : Int) < (s[kk].toNat : Int) := by omega
          have hok : Hid (isD s[kk] = true) := by show isD s[kk] = true; simp [isD]; omega
          go_wp2
          go_round
          case rel =>
            refine ⟨kk + 1, by omega, by go_num, (show Aside _ from fun j hj hjk => ?_)⟩
            by_cases ee : j = kk
            · subst ee; exact hok.out
            · exact HA.out j hj (by omega)
          case measure => simp [intOf]; omega
    · have hltz : ¬ (kk : Int) < (s.size : Int) := by omega
      obtain rfl : kk = s.size := by omega
      have hp : Hid (digs s.data.toList = !s.data.toList.isEmpty) := by show digs s.data.toList = _; unfold digs; rw [all_yes isD s (fun j hj => HA.out j hj hj), Bool.true_and]
      clear hlt HA
      go_wp2
      all_goals
        go_ret
        refine ⟨ret_bool ?_, rfl⟩
        rw [hp.out]
        simp [ByteArray.toList_eq, *]
theorem digsL_any (l : List UInt8) (w : World) (hl : l.length ≤ 1000) :
    Calls Tryz.prog 86 #[.string ⟨l.toArray⟩] w fun r w' => r = .returned (.bool (digs l)) ∧ w = w' := by
  have := digs_any ⟨l.toArray⟩ w (by rw [size_mk]; exact hl)
  simpa using this

/-- the library's variable internal/bytealg.MaxLen holds some integer -/
structure Max (w : World) : Prop where
  cell : ∃ m, w.cell? ⟨0, 0, none⟩ = some (.int .i64 m)
theorem Max.below {w w' : World} (h : Max w) (hb : Below w.heap.size w w') : Max w' := by
  obtain ⟨m, hm⟩ := h.cell
  have hlt : 0 < w.heap.size := World.block_lt_of_cell? w _ hm
  exact ⟨m, (hb.cell (p := ⟨0, 0, none⟩) hlt).trans hm⟩
theorem cut_any (l : List UInt8) (w : World) (hl : l.length ≤ 1000) (hm : Max w) :
    Calls Tryz.prog 85 #[.string ⟨l.toArray⟩, .string ⟨#[46]⟩] w fun e w' => e = .returned (.tuple #[.string ⟨(Lib.cut l [46]).1.toArray⟩, .string ⟨(Lib.cut l [46]).2.1.toArray⟩, .bool (Lib.cut l [46]).2.2]) ∧ ∃ n, w' = w.drewN n := by
  obtain ⟨m, hm⟩ := hm.cell
  exact (Tryz.strings_Cut ⟨l.toArray⟩ ⟨#[46]⟩ m w (by rw [size_mk]; omega) hm).mono fun _ _ ⟨he, n, hw⟩ => ⟨by simpa using he, n, hw⟩
theorem cut_len (l : List UInt8) : (Lib.cut l [46]).1.length ≤ l.length ∧ (Lib.cut l [46]).2.1.length ≤ l.length := by
  unfold Lib.cut
  split
  · simp; omega
  · simp
def numB (l : List UInt8) : Bool := decide (l.length ≤ 20) && digs (Lib.cut l [46]).1 && (!(Lib.cut l [46]).2.2 || digs (Lib.cut l [46]).2.1)

set_option maxHeartbeats 2000000 in
theorem number_any (l : List UInt8) (w : World) (hl : l.length ≤ 1000) (hm : Max w) :
    Calls Tryz.prog 78 #[.string ⟨l.toArray⟩] w fun e w' => e = .returned (.bool (numB l)) ∧ ∃ n, w' = w.drewN n := by
  have HM := Lib.hid hm
  clear hm
  have l3 := cut_len l
  have hsz : (⟨l.toArray⟩ : ByteArray).size = l.length := size_mk l
  have HN : Hid (numB l = (decide (l.length ≤ 20) && digs (Lib.cut l [46]).1 && (!(Lib.cut l [46]).2.2 || digs (Lib.cut l [46]).2.1))) := rfl
  go_enter Tryz.func78, Tryz.ntmps78
  go_wp2_with fail
  refine (cut_any l _ hl HM.out).mono ?_
  obtain ⟨⟨wh, re, pt⟩, hx⟩ : ∃ x, x = Lib.cut l [46] := ⟨_, rfl⟩
  rw [← hx] at HN l3 ⊢
  clear hx
  simp only at HN l3 ⊢
  rintro e w1 ⟨rfl, n1, rfl⟩
  by_cases h20 : l.length ≤ 20
  · have h20z : (l.length : Int) ≤ 20 := by omega
    rw [decide_eq_true h20, Bool.true_and] at HN
    cases hd : digs wh with
    | false =>
      have HD := Lib.hid hd
      rw [hd] at HN
      clear hd
      go_wp2_with fail
      refine (digsL_any wh _ (by omega)).mono ?_
      rw [HD.out]
      rintro e w' ⟨rfl, rfl⟩
      go_wp2_with fail
      go_ret
      rw [HN.out]
      exact ⟨rfl, n1, rfl⟩
    | true =>
      have HD := Lib.hid hd
      rw [hd, Bool.true_and] at HN
      clear hd
      cases pt with
      | false =>
        go_wp2_with fail
        refine (digsL_any wh _ (by omega)).mono ?_
        rw [HD.out]
        rintro e w' ⟨rfl, rfl⟩
        go_wp2_with fail
        go_ret
        rw [HN.out]
        exact ⟨rfl, n1, rfl⟩
      | true =>
        go_wp2_with fail
        refine (digsL_any wh _ (by omega)).mono ?_
        rw [HD.out]
        rintro e w' ⟨rfl, rfl⟩
        go_wp2_with fail
        refine (digsL_any re _ (by omega)).mono ?_
        obtain ⟨b, hb⟩ : ∃ b, b = digs re := ⟨_, rfl⟩
        rw [← hb] at HN ⊢
        clear hb
        rintro e w' ⟨rfl, rfl⟩
        go_wp2_with fail
        go_ret
        rw [HN.out]
        exact ⟨rfl, n1, rfl⟩
  · have h20z : ¬ (l.length : Int) ≤ 20 := by omega
    rw [decide_eq_false h20] at HN
    go_wp2_with fail
    go_ret
    rw [HN.out]
    exact ⟨rfl, n1, rfl⟩
end Go.Proofs.YtkjhfbgdmmnadaaGreat
