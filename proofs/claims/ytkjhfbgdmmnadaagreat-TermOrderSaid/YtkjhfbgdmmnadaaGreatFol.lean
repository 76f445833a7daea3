/- Contract of following 47. -/
import Derived.Test.YtkjhfbgdmmnadaaGreatPlC
import Derived.Laws.IdiomStrings
namespace Go.Proofs.YtkjhfbgdmmnadaaGreat
open Go.RowKit

/-- a block of bytes of the call's own -/
def BY (w : World) (b : Nat) (l : List UInt8) : Prop := (∀ j (h : j < l.length), w.cell? ⟨b, j, none⟩ = some (.int .u8 (l[j].toNat : Int))) ∧ ∀ j, j < l.length → w.frozen? ⟨b, j, none⟩ = false
theorem BY.set {w : World} {b : Nat} {l : List UInt8} (h : BY w b l) (i : Nat) (c : UInt8) (hi : i < l.length) : BY (w.setCell ⟨b, i, none⟩ (.int .u8 (c.toNat : Int))) b (l.set i c) := by
  refine ⟨fun j hj => ?_, fun j hj => ?_⟩
  · by_cases e : i = j
    · subst e
      rw [World.cell?_setCell_same _ _ _ (h.1 i hi)]
      simp
    · rw [World.cell?_setCell_other _ _ _ _ (by intro h'; injection h' with _ h2; exact e h2), h.1 j (by rw [List.length_set] at hj; exact hj)]
      simp [List.getElem_set_ne e]
  · rw [List.length_set] at hj
    rw [World.frozen?_setCell]; exact h.2 j hj
theorem folR_z (m : Nat) (r : List UInt8) : folR (List.replicate m 90 ++ r) = List.replicate m 97 ++ folR r := by
  induction m with
  | zero => rfl
  | succ m ih => rw [List.replicate_succ, List.cons_append, folR, if_pos (by decide), ih]; rfl
theorem follow_z (x : List UInt8) (m : Nat) : follow (x ++ List.replicate m 90) = follow x ++ List.replicate m 97 := by
  unfold follow
  rw [List.reverse_append, List.reverse_replicate, folR_z, List.reverse_append, List.reverse_replicate]
theorem follow_c (x : List UInt8) (c : UInt8) (h : c.toNat ≠ 90) : follow (x ++ [c]) = x ++ [if c.toNat = 122 then 65 else c + 1] := by
  unfold follow
  rw [List.reverse_append, List.reverse_singleton, List.singleton_append, folR, if_neg h]
  split <;> simp
theorem by_new (w : World) (s : List UInt8) (cap e : Nat) : BY (w.alloc (.cells (bytesRow ⟨s.toArray⟩ cap) e ((bytesRow ⟨s.toArray⟩ cap).size, (bytesRow ⟨s.toArray⟩ cap).size + 1))) w.heap.size s := by
  refine ⟨fun j hj => ?_, fun j hj => ?_⟩
  · rw [World.cell?_alloc_mark, bytesRow_at _ _ _ (by simpa using hj)]; simp
  · rw [World.frozen?_alloc_mark]
    have : s.length ≤ (bytesRow ⟨s.toArray⟩ cap).size := by unfold bytesRow; simp
    simp; omega
/-- the bytes when the last n - p ones were Z -/
def zat (s : List UInt8) (p : Nat) : List UInt8 := s.take p ++ List.replicate (s.length - p) 97
theorem zat_len (s : List UInt8) (p : Nat) (h : p ≤ s.length) : (zat s p).length = s.length := by unfold zat; simp; omega
theorem zat_at (s : List UInt8) (p : Nat) (h : p < s.length) (h2 : p < (zat s (p + 1)).length) : (zat s (p + 1))[p] = s[p] := by
  have : (zat s (p + 1))[p]? = some s[p] := by
    unfold zat
    rw [List.getElem?_append_left (by simp; omega)]
    simp [h]
  rw [List.getElem?_eq_getElem h2] at this
  exact Option.some.inj this
theorem zat_all (s : List UInt8) : zat s s.length = s := by unfold zat; simp
theorem zat_set (s : List UInt8) (p : Nat) (h : p < s.length) (c : UInt8) : (zat s (p + 1)).set p c = s.take p ++ [c] ++ List.replicate (s.length - (p + 1)) 97 := by
  unfold zat
  have e : s.take (p + 1) = s.take p ++ [s[p]] := List.take_succ_eq_append_getElem h
  rw [e, List.append_assoc, List.append_assoc, List.set_append_right _ _ (by simp; omega)]
  congr 1
  simp [Nat.min_eq_left (Nat.le_of_lt h)]
theorem zat_z (s : List UInt8) (p : Nat) (h : p < s.length) : (zat s (p + 1)).set p 97 = zat s p := by
  rw [zat_set s p h]
  unfold zat
  rw [show s.length - p = (s.length - (p + 1)) + 1 from by omega, List.replicate_succ, List.append_assoc]; rfl
/-- what is known of s: from p on there are only Zs -/
def Zs (s : List UInt8) (p : Nat) : Prop := s = s.take p ++ List.replicate (s.length - p) 90
theorem Zs.next {s : List UInt8} {p : Nat} (h : Zs s (p + 1)) (hp : p < s.length) (hc : s[p].toNat = 90) : Zs s p := by
  have e : s.take (p + 1) = s.take p ++ [s[p]] := List.take_succ_eq_append_getElem hp
  have hc' : s[p] = 90 := UInt8.toNat_inj.1 hc
  unfold Zs at h ⊢
  rw [e, hc', List.append_assoc] at h
  rw [show s.length - p = (s.length - (p + 1)) + 1 from by omega, List.replicate_succ]
  exact h
theorem follow_at {s : List UInt8} {p : Nat} (h : Zs s (p + 1)) (hp : p < s.length) (hc : s[p].toNat ≠ 90) : follow s = (zat s (p + 1)).set p (if s[p].toNat = 122 then 65 else s[p] + 1) := by
  have e : s.take (p + 1) = s.take p ++ [s[p]] := List.take_succ_eq_append_getElem hp
  unfold Zs at h
  conv => lhs; rw [h]
  rw [follow_z, e, follow_c _ _ hc, zat_set s p hp]
theorem follow_end {s : List UInt8} (h : Zs s 0) : follow s = 97 :: zat s 0 := by
  unfold Zs at h
  conv => lhs; rw [h]
  rw [follow_z]
  unfold zat
  simp [follow, folR]
theorem push_a (l : List UInt8) : (⟨#[97]⟩ : ByteArray) ++ ⟨l.toArray⟩ = ⟨(97 :: l).toArray⟩ := by
  apply ByteArray.ext; simp
theorem below_drF {B : Nat} {w0 w : World} (h : Below B w0 w) : Below B w0 w.drew := ⟨h.os, h.tape, h.output, h.size, h.block⟩
theorem addr_addF (b o i : Nat) : (⟨b, o, none⟩ : Addr).add i = ⟨b, o + i, none⟩ := by
  unfold Addr.add; split
  · simp [*]
  · rfl
theorem u8_succ (c : UInt8) : (c + 1).toNat = (c.toNat + 1) % 256 := by rw [UInt8.toNat_add]; rfl

set_option maxRecDepth 100000 in
set_option maxHeartbeats 2000000 in
theorem following_any (s : List UInt8) (w : World) (hl : s.length ≤ 1000) :
    Calls Tryz.prog 68 #[.string ⟨s.toArray⟩] w fun e w' => e = .returned (.string ⟨(follow s).toArray⟩) ∧ Below w.heap.size w w' := by
  have hconv := run_bytes_of_string (P := Tryz.prog) w 9 88 5 ⟨s.toArray⟩ Tryz.underlying9 Tryz.underlying88 Tryz.underlying5
  have hB := by_new w.drew s (grownCap w (⟨s.toArray⟩ : ByteArray).size 0 5) 5
  have hsz : (⟨s.toArray⟩ : ByteArray).size = s.length := by simp [ByteArray.size]
  rw [hsz] at hconv hB
  generalize hC : bytesRow ⟨s.toArray⟩ (grownCap w s.length 0 5) = C at hconv hB
  generalize grownCap w s.length 0 5 = cap at *
  have HB := Lib.hid hB
  clear hB hC hsz
  go_enter Tryz.func68, Tryz.ntmps68
  go_wp2_with fail
  go_loopg [4] s.length (fun gg s4 wr => ∃ (p : Nat), p ≤ s.length ∧ p ≤ gg ∧ s4 = .int .i64 ((p : Int) - 1) ∧ Aside (Zs s p) ∧ Aside (BY wr w.heap.size (zat s p)) ∧ Aside (Below w.heap.size w wr))
  case atStart => exact ⟨s.length, Nat.le_refl _, Nat.le_refl _, rfl, by show Zs s s.length; unfold Zs; simp, by show BY _ _ (zat s s.length); rw [zat_all]; exact HB.out, (below_drF (Below.refl _ _)).alloc (Nat.le_refl _) _⟩
  case round =>
    obtain ⟨p, hp, hgg, rfl, HZ, HBY, HW⟩ := hrel
    rcases p with _ | p
    · have hn : ¬ (0 : Int) ≤ ((0 : Nat) : Int) - 1 := by omega
      have HY := Lib.hid (follow_end HZ.out)
      have hback := run_convert_bytes_back (P := Tryz.prog) wr 88 9 5 ⟨w.heap.size, 0, none⟩ cap (zat s 0) Tryz.underlying88 Tryz.underlying5 Tryz.underlying9 (fun j hj => by rw [addr_addF, Nat.zero_add]; exact HBY.out.1 j hj)
      rw [zat_len s 0 (Nat.zero_le _)] at hback
      have hnl : ¬ 9223372036854775807 < 1 + (zat s 0).length := by rw [zat_len s 0 (Nat.zero_le _)]; omega
      go_wp2_with fail
      go_ret
      rw [HY.out, ← push_a]
      exact ⟨rfl, HW.out⟩
    · have hpz : ((p + 1 : Nat) : Int) - 1 = (p : Int) := by omega
      rw [hpz]
      have h0 : (0 : Int) ≤ (p : Int) := by omega
      have hlt : (p : Int) < (s.length : Int) := by omega
      have hps : p < s.length := by omega
      have hzl := zat_len s (p + 1) hp
      have hck := HBY.out.1 p (by rw [hzl]; exact hps)
      have hfr := HBY.out.2 p (by rw [hzl]; exact hps)
      rw [zat_at s p hps] at hck
      by_cases h90 : s[p].toNat = 90
      · have hb1 : ((s[p].toNat : Int) == 90) = true := by rw [beq_iff_eq]; omega
        have HZ2 := Lib.hid (HZ.out.next hps h90)
        have HB2 := HBY.out.set p 97 (by rw [hzl]; exact hps)
        rw [zat_z s p hps] at HB2
        have HB2 := Lib.hid HB2
        have HW2 := Lib.hid (HW.out.setCell (p := ⟨w.heap.size, p, none⟩) (Nat.le_refl _) (.int .u8 ((97 : UInt8).toNat : Int)))
        clear h90
        generalize s[p].toNat = c at *
        go_wp2_with fail
        go_roundg p
        case measure => omega
        case rel => exact ⟨p, by omega, Nat.le_refl _, rfl, HZ2.out, HB2.out, HW2.out⟩
      · have hb1 : ((s[p].toNat : Int) == 90) = false := by rw [beq_eq_false_iff_ne]; omega
        have HY := Lib.hid (follow_at HZ.out hps h90)
        have hps2 : p < (zat s (p + 1)).length := by rw [hzl]; exact hps
        by_cases h122 : s[p].toNat = 122
        · have hb2 : ((s[p].toNat : Int) == 122) = true := by rw [beq_iff_eq]; omega
          have HX : Hid (follow s = (zat s (p + 1)).set p 65) := by show follow s = _; rw [HY.out, if_pos h122]
          have HB2 := HBY.out.set p 65 hps2
          have hback := run_convert_bytes_back (P := Tryz.prog) (wr.setCell ⟨w.heap.size, p, none⟩ (.int .u8 65)) 88 9 5 ⟨w.heap.size, 0, none⟩ cap ((zat s (p + 1)).set p 65) Tryz.underlying88 Tryz.underlying5 Tryz.underlying9 (fun j hj => by rw [addr_addF, Nat.zero_add]; exact HB2.1 j hj)
          rw [List.length_set, hzl, ← HX.out] at hback
          have HW2 := Lib.hid (HW.out.setCell (p := ⟨w.heap.size, p, none⟩) (Nat.le_refl _) (.int .u8 ((65 : UInt8).toNat : Int)))
          clear h90 h122 HB2 HBY HX HY
          generalize s[p].toNat = c at *
          go_wp2_with fail
          go_ret
          exact ⟨rfl, HW2.out⟩
        · have hb2 : ((s[p].toNat : Int) == 122) = false := by rw [beq_eq_false_iff_ne]; omega
          have HX : Hid (follow s = (zat s (p + 1)).set p (s[p] + 1)) := by show follow s = _; rw [HY.out, if_neg h122]
          have HB2 := HBY.out.set p (s[p] + 1) hps2
          have hback := run_convert_bytes_back (P := Tryz.prog) (wr.setCell ⟨w.heap.size, p, none⟩ (.int .u8 ((s[p] + 1).toNat : Int))) 88 9 5 ⟨w.heap.size, 0, none⟩ cap ((zat s (p + 1)).set p (s[p] + 1)) Tryz.underlying88 Tryz.underlying5 Tryz.underlying9 (fun j hj => by rw [addr_addF, Nat.zero_add]; exact HB2.1 j hj)
          rw [List.length_set, hzl, ← HX.out] at hback
          have HW2 := Lib.hid (HW.out.setCell (p := ⟨w.heap.size, p, none⟩) (Nat.le_refl _) (.int .u8 ((s[p] + 1).toNat : Int)))
          have hu : (((s[p] + 1).toNat : Nat) : Int) = ((s[p].toNat : Int) + 1) % 256 := by rw [u8_succ]; omega
          have hlt2 := s[p].toNat_lt
          rw [hu] at hback HW2
          clear h90 h122 HB2 HBY HX HY hu
          generalize s[p].toNat = c at *
          go_wp2_with fail
          go_ret
          exact ⟨rfl, HW2.out⟩
end Go.Proofs.YtkjhfbgdmmnadaaGreat
