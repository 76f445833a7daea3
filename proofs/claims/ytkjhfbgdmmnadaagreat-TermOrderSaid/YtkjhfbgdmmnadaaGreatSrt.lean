/- The order of words is strict, weak and total on letters; slices.SortFunc at words with compare. -/
import Derived.Test.YtkjhfbgdmmnadaaGreatCmp
import Derived.Shelf.SlSortCmp.NoneTotal
namespace Go.Proofs.YtkjhfbgdmmnadaaGreat
open Go.RowKit Go.Sort Go.Shelf

theorem cmpInt_lt (x y : Int) : Lib.compareInt x y < 0 ↔ x < y := by
  unfold Lib.compareInt
  by_cases h1 : x < y
  · simp [h1]
  · by_cases h2 : y < x <;> simp [h1, h2]
theorem cmpR_lt (a b : UInt8) (x y : List UInt8) : cmpR (a :: x) (b :: y) < 0 ↔ (rk a < rk b ∨ (rk a = rk b ∧ cmpR x y < 0)) := by
  rw [cmpR]
  by_cases h : rk a = rk b
  · rw [if_pos h]; omega
  · rw [if_neg h, cmpInt_lt]; omega
theorem cmpR_self : ∀ x, cmpR x x = 0
  | [] => by unfold cmpR; rfl
  | a :: x => by rw [cmpR, if_pos rfl]; exact cmpR_self x
theorem cmpR_trans : ∀ x y z : List UInt8, x.length = y.length → y.length = z.length → cmpR x y < 0 → cmpR y z < 0 → cmpR x z < 0
  | [], _, _ => fun _ _ h => by unfold cmpR at h; simp at h
  | _ :: _, [], _ => fun h => by simp at h
  | _ :: _, _ :: _, [] => fun _ h => by simp at h
  | a :: x, b :: y, c :: z => fun h1 h2 h3 h4 => by
    have ih := cmpR_trans x y z (by simpa using h1) (by simpa using h2)
    rw [cmpR_lt] at *
    omega
theorem cmpR_ntrans : ∀ x y z : List UInt8, x.length = y.length → y.length = z.length → ¬ cmpR x y < 0 → ¬ cmpR y z < 0 → ¬ cmpR x z < 0
  | [], _, _ => fun _ _ _ _ h => by unfold cmpR at h; simp at h
  | _ :: _, [], _ => fun h => by simp at h
  | _ :: _, _ :: _, [] => fun _ h => by simp at h
  | a :: x, b :: y, c :: z => fun h1 h2 h3 h4 => by
    have ih := cmpR_ntrans x y z (by simpa using h1) (by simpa using h2)
    rw [cmpR_lt] at *
    omega
theorem rk_inj (a b : UInt8) (ha : isL a = true) (hb : isL b = true) (h : rk a = rk b) : a = b := by
  have h2 : a.toNat = b.toNat := by
    unfold isL at ha hb
    unfold rk rkN at h
    simp at ha hb
    split at h <;> split at h <;> omega
  exact UInt8.toNat_inj.1 h2
theorem cmpR_tot : ∀ x y : List UInt8, x.length = y.length → x.all isL = true → y.all isL = true → ¬ cmpR x y < 0 → ¬ cmpR y x < 0 → x = y
  | [], [] => fun _ _ _ _ _ => rfl
  | [], _ :: _ => fun h => by simp at h
  | _ :: _, [] => fun h => by simp at h
  | a :: x, b :: y => fun h1 h2 h3 h4 h5 => by
    simp only [List.all_cons, Bool.and_eq_true] at h2 h3
    rw [cmpR_lt] at h4 h5
    have hr : rk a = rk b := by omega
    rw [rk_inj a b h2.1 h3.1 hr, cmpR_tot x y (by simpa using h1) h2.2 h3.2 (by omega) (by omega)]
theorem cmpL_lt (x y : List UInt8) : cmpL x y < 0 ↔ (x.length < y.length ∨ (x.length = y.length ∧ cmpR x y < 0)) := by
  unfold cmpL
  by_cases h : x.length = y.length
  · rw [if_pos h]; omega
  · rw [if_neg h, cmpInt_lt]; omega

/-- a word: one to sixteen letters -/
abbrev Wd := {l : List UInt8 // wordB l = true}
instance : Inhabited Wd := ⟨⟨[97], by decide⟩⟩
def encW (x : Wd) : Value := .string ⟨x.1.toArray⟩
def cmpW (x y : Wd) : Int := cmpL x.1 y.1
theorem Wd.len (x : Wd) : x.1.length ≤ 16 := by have h := x.2; unfold wordB at h; simp at h; omega
theorem Wd.all (x : Wd) : x.1.all isL = true := by have h := x.2; unfold wordB at h; simp only [Bool.and_eq_true] at h; exact h.1.1

theorem swoW : SWO (ltOf cmpW) where
  irrefl x := by
    unfold ltOf cmpW
    have := cmpL_lt x.1 x.1
    have := cmpR_self x.1
    simp only [decide_eq_false_iff_not]; omega
  trans x y z h1 h2 := by
    unfold ltOf cmpW at *
    simp only [decide_eq_true_eq] at *
    have ih := cmpR_trans x.1 y.1 z.1
    rw [cmpL_lt] at *
    omega
  ntrans x y z h1 h2 := by
    unfold ltOf cmpW at *
    simp only [decide_eq_false_iff_not] at *
    have ih := cmpR_ntrans x.1 y.1 z.1
    rw [cmpL_lt] at *
    omega
theorem totW (x y : Wd) (h1 : ltOf cmpW x y = false) (h2 : ltOf cmpW y x = false) : x = y := by
  unfold ltOf cmpW at *
  simp only [decide_eq_false_iff_not] at *
  rw [cmpL_lt] at *
  exact Subtype.ext (cmpR_tot x.1 y.1 (by omega) x.all y.all (by omega) (by omega))

theorem compareW (x y : Wd) (w : World) : Calls Tryz.prog 59 #[encW x, encW y] w fun e w' => e = .returned (.int .i64 (cmpW x y)) ∧ ∃ n, w' = w.drewN n :=
  compare_any ⟨x.1.toArray⟩ ⟨y.1.toArray⟩ w (by have := x.len; show x.1.toArray.size ≤ 1000; rw [List.size_toArray]; omega)

/-- the words in their order -/
def sortW (l : List Wd) : List Wd := l.mergeSort fun x y => !(ltOf cmpW) y x

theorem sortFunc_any (blk off cap : Nat) (d : Array Wd) (w : World) (hH : Holds encW w blk off d) (hblk : blk < w.heap.size) (hsz : d.size < 4611686018427387904) :
    Calls Tryz.prog 72 #[.slice (some ⟨blk, off, none⟩) d.size cap, .func (.func 59) #[] #[]] w fun e w' =>
      e = .returned (.tuple #[]) ∧ ∃ n os, w' = sortWorld encW w blk off n (sortW d.toList).toArray os := by
  have eg : ∀ args w, (callFunc 59 args).run Tryz.prog w = .ok (.enter 59 args) w := enters_of Tryz.func59 (by kernel_rfl) rfl
  have hc : CmpReads Tryz.prog 59 #[] encW cmpW blk off d.size w := fun _ _ _ _ x y => compareW x y _
  exact Any.slices_SortFunc_total Tryz.sortf86 encW (fun _ => rfl) cmpW swoW 59 #[] blk off cap d w eg hc.lays hH hblk hsz totW
theorem sortFunc_none (p : Option Addr) (cap : Nat) (fv : Value) (w : World) :
    Calls Tryz.prog 72 #[.slice p 0 cap, fv] w fun e w' => e = .returned (.tuple #[]) ∧ w' = w :=
  AnyF.slices_SortFunc_none (ρ := Tryz.sortf86_ren) { Tryz.sortf86 with } p cap fv w
end Go.Proofs.YtkjhfbgdmmnadaaGreat
