/- Contracts of Of and of the reference's Of. -/
import Derived.Test.YthhnbfndmjpdgaaFind2
namespace Go.Proofs.Ythhnbfndmjpdgaa
open Go.RowKit

/-- a slice value that begins at A holds the strings l, below block B -/
def SR (w : World) (B : Nat) (A : Option Addr) (l : List ByteArray) : Prop :=
  l ≠ [] → ∃ b off, A = some ⟨b, off, none⟩ ∧ b < B ∧ ∀ i s, l[i]? = some s → w.cell? ⟨b, off + i, none⟩ = some (.string s)
theorem SR.below {w w' : World} {B : Nat} {A : Option Addr} {l : List ByteArray} (h : SR w B A l) (hb : Below B w w') : SR w' B A l := fun hl => by
  obtain ⟨b, off, ha, hlt, hc⟩ := h hl
  exact ⟨b, off, ha, hlt, fun i s hs => (hb.cell (p := ⟨b, off + i, none⟩) hlt).trans (hc i s hs)⟩
theorem SR.at_ {w : World} {B : Nat} {A : Option Addr} {l : List ByteArray} (h : SR w B A l) {i : Nat} (hi : i < l.length) : ∃ b off, A = some ⟨b, off, none⟩ ∧ b < B ∧ w.cell? ⟨b, off + i, none⟩ = some (.string l[i]) := by
  obtain ⟨b, off, ha, hb, hc⟩ := h (by intro h; simp [h] at hi)
  exact ⟨b, off, ha, hb, hc i _ (List.getElem?_eq_getElem hi)⟩
/-- a call that returned a new slice with the strings l -/
def RetStrs (w : World) (l : List ByteArray) (e : Ending) (w' : World) : Prop := ∃ A c, e = .returned (.slice A l.length c) ∧ SR w' w'.heap.size A l ∧ Below w.heap.size w w'

theorem addr_add (b o i : Nat) : (⟨b, o, none⟩ : Addr).add i = ⟨b, o + i, none⟩ := by
  unfold Addr.add; split
  · simp [*]
  · rfl
theorem SR.of_own {w : World} {base : Nat} {v : Value} {l : List ByteArray} (h : w.ownsRow base 9 1 v l.length (strs l)) : ∃ A c, v = .slice A l.length c ∧ SR w w.heap.size A l := by
  have h0 := h
  rcases h.2 with ⟨rfl, hn⟩ | ⟨g, cap, cur, rfl, hb, hh, _⟩
  · have : l = [] := List.eq_nil_of_length_eq_zero hn
    subst this
    exact ⟨_, _, rfl, fun h => absurd rfl h⟩
  · refine ⟨_, _, rfl, fun _ => ⟨g, 0, rfl, (h0.lt g rfl).2, fun i s hs => ?_⟩⟩
    have := h0.cells (g := g) rfl i (.string s) (by simp [strs, hs])
    rwa [addr_add] at this

theorem own_snoc {w' : World} {base : Nat} {v : Value} {l : List Ent} {c : Int} {k : Nat} (hk : k < l.length) (hq : (l[k].cls == c) = true)
    (h : w'.ownsRow base 9 1 v ((ofC (l.take k) c).length + 1) (strs (ofC (l.take k) c) ++ [.string l[k].text])) : w'.ownsRow base 9 1 v (ofC (l.take (k + 1)) c).length (strs (ofC (l.take (k + 1)) c)) := by
  rw [ofC_take_succ l c k hk, if_pos hq, strs_snoc, List.length_append]
  exact h
theorem own_same {w' : World} {base : Nat} {v : Value} {l : List Ent} {c : Int} {k : Nat} (hk : k < l.length) (hq : (l[k].cls == c) = false)
    (h : w'.ownsRow base 9 1 v (ofC (l.take k) c).length (strs (ofC (l.take k) c))) : w'.ownsRow base 9 1 v (ofC (l.take (k + 1)) c).length (strs (ofC (l.take (k + 1)) c)) := by
  rw [ofC_take_succ l c k hk, if_neg (by simp [hq]), List.append_nil]
  exact h
theorem own_end {w' : World} {w : World} {base : Nat} {v : Value} {l : List Ent} {c : Int} (h : w'.ownsRow base 9 1 v (ofC (l.take l.length) c).length (strs (ofC (l.take l.length) c))) (hb : Below w.heap.size w w') :
    RetStrs w (ofC l c) (.returned v) w' := by
  rw [List.take_length] at h
  obtain ⟨A, cp, rfl, hs⟩ := SR.of_own h
  exact ⟨A, cp, rfl, hs, hb⟩
theorem ofC_take_len (l : List Ent) (c : Int) (k : Nat) (hk : k ≤ 250) : (ofC (l.take k) c).length ≤ 250 :=
  Nat.le_trans (ofC_len _ _) (by rw [List.length_take]; omega)

set_option maxHeartbeats 1000000 in
theorem of_any (A : Option Addr) (l : List Ent) (cp : Nat) (c : Int) (w : World) (hl : ER w w.heap.size A l) (hn : l.length ≤ 250) :
    Calls Try.prog 10 #[.slice A l.length cp, .int .i64 c] w (RetStrs w (ofC l c)) := by
  have hlH := Lib.hid hl
  clear hl
  obtain ⟨i0, hi0, hz0, hz1, hz2⟩ := info_parts str_info
  go_enter Try.func10, Try.ntmps10
  go_wp2
  go_loopg [5, 10] l.length (fun gg s5 s10 wr => ∃ kk : Nat, kk ≤ l.length ∧ l.length - kk ≤ gg ∧ s10 = .int .i64 kk ∧ Aside (Below w.heap.size w wr) ∧ Aside (wr.ownsRow w.heap.size 9 1 s5 (ofC (l.take kk) c).length (strs (ofC (l.take kk) c))))
  case atStart => exact ⟨0, Nat.zero_le _, by omega, rfl, Below.refl _ w, World.ownsRow_nil _ _ _ _⟩
  case round =>
    obtain ⟨kk, hkk, hg, rfl, BW, OW⟩ := hrel
    by_cases hlt : kk < l.length
    · have hltz : (kk : Int) < (l.length : Int) := by omega
      obtain ⟨b, off, rfl, hb, he⟩ := (hlH.out.below BW.out).at_ hlt
      obtain ⟨h0, h1, h2, h3⟩ := he
      have hbw : b < wr.heap.size := Nat.lt_of_lt_of_le hb BW.out.size
      have hlen := ofC_take_len l c kk (by omega)
      have hWs := BW.out.size
      cases hq : (l[kk].cls == c) with
      | true =>
        have Hq := Lib.hid hq
        go_wp2_with (at_builtin; refine wpList_append_own _ rfl _ _ 24 rfl w.heap.size 9 i0 _ 1 16 Try.underlying24 hi0 hz0 hz1 hz2 rfl (by decide) _ _ _ rfl ((OW.out.alloc _).alloc _) ⟨wr.heap.size + 1, 0, none⟩ 1 1 [.string l[kk].text] rfl rfl ?c1 ?c2 ?c3 ?c4 ?c5 ?_)
        case c1 => intro j u hu; match j, hu with | 0, hu => (injection hu with hu; subst hu; simp [addr_add]) | (j + 1), hu => simp at hu
        case c2 => intro u hu; simp at hu; subst hu; rfl
        case c3 => unfold maxLen; omega
        case c4 => omega
        case c5 => simp; omega
        intro v' w1 hown' hgrow _
        have hB1 : Below w.heap.size w w1 := ((BW.out.alloc hWs _).alloc (by simp; omega) _).grown hgrow (by simp; omega) (fun k hk => (OW.out.lt k hk).1)
        have HB := Lib.hid hB1
        have HO := Lib.hid (own_snoc hlt Hq.out hown')
        clear hown' hgrow hB1
        go_wp2
        go_roundg (l.length - (kk + 1))
        case measure => omega
        case rel => exact ⟨kk + 1, by omega, by omega, by go_num, HB.out, HO.out⟩
      | false =>
        have Hq := Lib.hid hq
        go_wp2
        go_roundg (l.length - (kk + 1))
        case measure => omega
        case rel => exact ⟨kk + 1, by omega, by omega, by go_num, BW.out.alloc hWs _, own_same hlt Hq.out (OW.out.alloc _)⟩
    · have hltz : ¬ (kk : Int) < (l.length : Int) := by omega
      obtain rfl : kk = l.length := by omega
      go_wp2
      go_ret
      exact own_end OW.out BW.out

set_option maxHeartbeats 1000000 in
theorem refOf_any (A : Option Addr) (l : List Ent) (cp : Nat) (c : Int) (w : World) (hl : ER w w.heap.size A l) (hn : l.length ≤ 250) :
    Calls Try.prog 11 #[.slice A l.length cp, .int .i64 c] w (RetStrs w (ofC l c)) := by
  have hlH := Lib.hid hl
  clear hl
  obtain ⟨i0, hi0, hz0, hz1, hz2⟩ := info_parts str_info
  go_enter Try.func11, Try.ntmps11
  go_wp2
  go_loopg [5, 6] l.length (fun gg s5 s10 wr => ∃ kk : Nat, kk ≤ l.length ∧ l.length - kk ≤ gg ∧ s10 = .int .i64 kk ∧ Aside (Below w.heap.size w wr) ∧ Aside (wr.ownsRow w.heap.size 9 1 s5 (ofC (l.take kk) c).length (strs (ofC (l.take kk) c))))
  case atStart => exact ⟨0, Nat.zero_le _, by omega, rfl, Below.refl _ w, World.ownsRow_nil _ _ _ _⟩
  case round =>
    obtain ⟨kk, hkk, hg, rfl, BW, OW⟩ := hrel
    by_cases hlt : kk < l.length
    · have hltz : (kk : Int) < (l.length : Int) := by omega
      obtain ⟨b, off, rfl, hb, he⟩ := (hlH.out.below BW.out).at_ hlt
      obtain ⟨h0, h1, h2, h3⟩ := he
      have hbw : b < wr.heap.size := Nat.lt_of_lt_of_le hb BW.out.size
      have hlen := ofC_take_len l c kk (by omega)
      have hWs := BW.out.size
      cases hq : (l[kk].cls == c) with
      | true =>
        have Hq := Lib.hid hq
        go_wp2_with (at_builtin; refine wpList_append_own _ rfl _ _ 24 rfl w.heap.size 9 i0 _ 1 16 Try.underlying24 hi0 hz0 hz1 hz2 rfl (by decide) _ _ _ rfl (OW.out.alloc _) ⟨wr.heap.size, 0, none⟩ 1 1 [.string l[kk].text] rfl rfl ?c1 ?c2 ?c3 ?c4 ?c5 ?_)
        case c1 => intro j u hu; match j, hu with | 0, hu => (injection hu with hu; subst hu; simp [addr_add]) | (j + 1), hu => simp at hu
        case c2 => intro u hu; simp at hu; subst hu; rfl
        case c3 => unfold maxLen; omega
        case c4 => omega
        case c5 => simp; omega
        intro v' w1 hown' hgrow _
        have hB1 : Below w.heap.size w w1 := (BW.out.alloc hWs _).grown hgrow (by simp; omega) (fun k hk => (OW.out.lt k hk).1)
        have HB := Lib.hid hB1
        have HO := Lib.hid (own_snoc hlt Hq.out hown')
        clear hown' hgrow hB1
        go_wp2
        go_roundg (l.length - (kk + 1))
        case measure => omega
        case rel => exact ⟨kk + 1, by omega, by omega, by go_num, HB.out, HO.out⟩
      | false =>
        have Hq := Lib.hid hq
        go_wp2
        go_roundg (l.length - (kk + 1))
        case measure => omega
        case rel => exact ⟨kk + 1, by omega, by omega, by go_num, BW.out, own_same hlt Hq.out OW.out⟩
    · have hltz : ¬ (kk : Int) < (l.length : Int) := by omega
      obtain rfl : kk = l.length := by omega
      go_wp2
      go_ret
      exact own_end OW.out BW.out
end Go.Proofs.Ythhnbfndmjpdgaa
