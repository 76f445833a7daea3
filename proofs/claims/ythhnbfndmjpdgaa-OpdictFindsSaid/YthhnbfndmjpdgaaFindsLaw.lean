/- The walk of the law OpdictFinds: it returns true and leaves what was there. -/
import Derived.Test.YthhnbfndmjpdgaaOf
import Derived.Deep.QuietTactic
import Derived.BigQuiet
namespace Go.Proofs.Ythhnbfndmjpdgaa
open Go.RowKit

theorem below_drewN {B : Nat} {a w : World} (h : Below B a w) (n : Nat) : Below B a (w.drewN n) := ⟨h.os, h.tape, h.output, h.size, h.block⟩

set_option maxHeartbeats 400000 in
theorem finds_long (A : Option Addr) (n cp : Nat) (x : ByteArray) (c : Int) (w : World) (hn : 250 < n) (hm : n ≤ 9223372036854775807) :
    Calls Try.prog 3 #[.slice A n cp, .string x, .int .i64 c] w fun e w' => e = .returned (.bool true) ∧ Below w.heap.size w w' := by
  go_enter Try.func3, Try.ntmps3
  go_wp2_with (go_at_call 9; refine (awake_any _).mono ?_; rintro e w' ⟨rfl, hb⟩)
  go_ret
  exact ⟨rfl, hb⟩

set_option maxHeartbeats 1000000 in
theorem finds_short (A : Option Addr) (l : List Ent) (cp : Nat) (x : ByteArray) (c : Int) (w : World) (hl : ER w w.heap.size A l) (hn : l.length ≤ 250) :
    Calls Try.prog 3 #[.slice A l.length cp, .string x, .int .i64 c] w fun e w' => e = .returned (.bool true) ∧ Below w.heap.size w w' := by
  have hlH := Lib.hid hl
  clear hl
  go_enter Try.func3, Try.ntmps3
  go_wp2_with fail
  refine (awake_any _).mono ?_
  rintro e w1 ⟨rfl, hb1⟩
  have H1 := Lib.hid (hlH.out.below hb1)
  have hs1 := hb1.size
  go_wp2_with fail
  refine (of_any A l cp c _ (H1.out.more hs1) hn).mono ?_
  rintro e w2 ⟨A2, c2, rfl, hr2, hb2⟩
  have hB2 : Below w.heap.size w w2 := hb1.trans (hb2.mono hs1)
  have H2 := Lib.hid (hlH.out.below hB2)
  have hs2 := hB2.size
  go_wp2_with fail
  refine (refOf_any A l cp c _ (H2.out.more hs2) hn).mono ?_
  rintro e w3 ⟨A3, c3, rfl, hr3, hb3⟩
  have hB3 : Below w.heap.size w w3 := hB2.trans (hb3.mono hs2)
  have H3 := Lib.hid (hlH.out.below hB3)
  have hs3 := hB3.size
  have hR2 := Lib.hid (hr2.below hb3)
  have hR3 := Lib.hid hr3
  clear hr2 hr3
  go_wp2_with fail
  refine (find_any A l cp x _ (H3.out.more hs3) hn).mono ?_
  rintro e w4 ⟨rfl, hb4⟩
  have hB4 : Below w.heap.size w w4 := hB3.trans (hb4.mono hs3)
  have H4 := Lib.hid (hlH.out.below hB4)
  have hs4 := hB4.size
  go_wp2_with fail
  refine (refFind_any A l cp x _ (H4.out.more hs4) hn).mono ?_
  rintro e w5 ⟨rfl, hb5⟩
  have hB5 : Below w.heap.size w w5 := hB4.trans (hb5.mono hs4)
  have hB35 : Below w3.heap.size w3 w5 := hb4.trans (hb5.mono hb4.size)
  have R2 := Lib.hid (hR2.out.below (hB35.mono hb3.size))
  have R3 := Lib.hid (hR3.out.below hB35)
  have hsz2 : w2.heap.size ≤ w5.heap.size := Nat.le_trans hb3.size hB35.size
  have hsz3 : w3.heap.size ≤ w5.heap.size := hB35.size
  have hlen : (ofC l c).length ≤ 250 := Nat.le_trans (ofC_len _ _) hn
  clear hb1 hb2 hb3 hb4 hb5 hB2 hB3 hB4 hB35 hR2 hR3
  generalize find l x = ff
  obtain ⟨t, k, li, st⟩ := ff
  simp only [Ent.val]
  generalize ofC l c = L at *
  go_wp2
  go_loopg [9] L.length (fun gg s9 wr => ∃ kk : Nat, kk ≤ L.length ∧ L.length - kk ≤ gg ∧ s9 = .int .i64 kk ∧ Aside (∃ n, wr = w5.drewN n))
  case atStart => exact ⟨0, Nat.zero_le _, by omega, rfl, ⟨0, rfl⟩⟩
  case round =>
    obtain ⟨kk, hkk, hg, rfl, DW⟩ := hrel
    obtain ⟨nd, rfl⟩ := DW.out
    clear DW
    by_cases hlt : kk < L.length
    · have hltz : (kk : Int) < (L.length : Int) := by omega
      obtain ⟨b2, o2, rfl, hlt2, hc2⟩ := R2.out.at_ hlt
      obtain ⟨b3, o3, rfl, hlt3, hc3⟩ := R3.out.at_ hlt
      have hdr := Lib.hid hB5
      clear hB5
      go_wp2
      go_quiet (fail)
      go_wp2
      go_roundg (L.length - (kk + 1))
      case measure => omega
      case rel => exact ⟨kk + 1, by omega, by omega, by go_num, ⟨_, rfl⟩⟩
    · have hltz : ¬ (kk : Int) < (L.length : Int) := by omega
      obtain rfl : kk = L.length := by omega
      go_wp2
      go_ret
      exact ⟨rfl, below_drewN hB5 _⟩
end Go.Proofs.Ythhnbfndmjpdgaa
