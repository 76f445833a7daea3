/- free$1 59: marks a free name. -/
import Derived.Test.YtkjhfbgdmmnadaaGreatSrd
import Derived.Maps.Own
import Derived.Maps.Keyed
namespace Go.Proofs.YtkjhfbgdmmnadaaGreat
open Go.RowKit Go.Maps Go.Sort Go.Shelf

theorem key_nm (nm : ByteArray) (h : nm.size ≤ 1000) : keyOf Tryz.prog 9 (.string nm) = some (.string nm.data.toList) :=
  Go.WideMaps.keyOf_string_mk (P := Tryz.prog) (k := 9) Tryz.underlying9 (by unfold maxLen; omega)
theorem law9 : Keyed Tryz.prog 9 := string_keyed Tryz.underlying9

/-- a slice of bound names -/
def BR (w : World) (v : Value) (zs : List ByteArray) : Prop :=
  ∃ p c, v = .slice p zs.length c ∧ zs.length ≤ 1000000 ∧ (zs = [] ∨ ∃ b off, p = some ⟨b, off, none⟩ ∧ ∀ j, j < zs.length → w.cell? ⟨b, off + j, none⟩ = some (.string (zs.getD j ByteArray.empty)))

theorem contains_any (v : Value) (zs : List ByteArray) (x : ByteArray) (w : World) (h : BR w v zs) :
    Calls Tryz.prog 40 #[v, .string x] w fun e w' => e = .returned (.bool (Lib.containsS zs x)) ∧ w' = w := by
  obtain ⟨p, c, rfl, hl, h⟩ := h
  rcases h with rfl | ⟨b, off, rfl, hc⟩
  · exact Tryz.slices_Contains_string_empty p c x w
  · have := Tryz.slices_Contains_string b off zs.length c zs x w (Nat.le_refl _) (by omega) hc
    rwa [List.take_length] at this

def mark {H : Type} (D : DataW H) (zs : List ByteArray) (nm : ByteArray) : DataW H :=
  if Lib.containsS zs nm = true then D else D.put (.string nm.data.toList) (.lit (.bool true))

set_option maxRecDepth 100000 in
set_option maxHeartbeats 2000000 in
theorem free1_any {H : Type} (nm : ByteArray) (hnm : nm.size ≤ 1000) (v : Value) (zs : List ByteArray) (w : World) (hv : BR w v zs) (cb mb n : Nat) (D : DataW H)
    (hcell : w.cell? ⟨cb, 0, none⟩ = some (.map (some mb))) (hown : w.ownsMap Tryz.prog 9 (plainElem Tryz.prog 4) mb n D) (hn : n < maxLen) :
    Calls Tryz.prog 39 #[.string nm, v, .pointer (some ⟨cb, 0, none⟩)] w fun e w' => e = .returned (.tuple #[]) ∧ w'.ownsMap Tryz.prog 9 (plainElem Tryz.prog 4) mb (n + 1) (mark D zs nm) ∧ w.grownBy w' (some mb) := by
  have HO := Lib.hid hown
  have HC := Lib.hid (contains_any v zs nm w hv)
  have HK := Lib.hid (key_nm nm hnm)
  have HP : Hid (plainElem (H := H) Tryz.prog 4 (.bool true) = some (.lit (.bool true), [])) := by show plainElem Tryz.prog 4 (.bool true) = _; simp [plainElem, Tryz.underlying4]
  clear hown hv
  by_cases h : Lib.containsS zs nm = true
  · have HM : Hid (mark D zs nm = D) := if_pos h
    rw [h] at HC
    clear h
    go_enter Tryz.func39, Tryz.ntmps39
    go_wp2_with (go_at_call 40; refine HC.out.mono ?_; rintro e w' ⟨rfl, rfl⟩)
    go_end0
    rw [HM.out]
    exact ⟨rfl, HO.out.mono (by omega), World.grownBy.refl _ _⟩
  · have HM : Hid (mark D zs nm = D.put (.string nm.data.toList) (.lit (.bool true))) := if_neg h
    rw [Bool.not_eq_true] at h
    rw [h] at HC
    clear h
    go_enter Tryz.func39, Tryz.ntmps39
    go_wp2_with (first
      | (at_mapUpdate; refine wpList_mapUpdate_own _ rfl _ _ _ 60 rfl 9 4 law9 Tryz.underlying60 _ mb n D rfl HO.out hn _ _ (.string nm.data.toList) rfl rfl HK.out (.lit (.bool true)) [] HP.out ?_; intro w9 hown hgrow)
      | (go_at_call 40; refine HC.out.mono ?_; rintro e w' ⟨rfl, rfl⟩))
    have HO9 := Lib.hid hown
    have HG9 := Lib.hid hgrow
    clear hown hgrow
    go_wp2_with fail
    go_end0
    rw [HM.out]
    exact ⟨rfl, HO9.out, HG9.out⟩
end Go.Proofs.YtkjhfbgdmmnadaaGreat
