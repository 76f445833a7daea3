/- Contracts of rank and compare; the order of identifiers. The order of words is strict, weak and total on letters; slices.SortFunc at words with compare. Plain: lists of names in their order: insertion, union, one list for one set. Plain: valid terms, their sizes, their free names. -/
import Derived.Deep.QuietTactic
import Derived.BigQuiet
import Derived.IntWalk
import Derived.Test.YtknpigdpepmimaaGreatDoorM03
import Derived.Shelf.SlSortCmp.NoneTotal
namespace Go.Proofs.YtknpigdpepmimaaGreatDoor
open Go.RowKit
def rkN (c : Nat) : Nat := if 97 ≤ c then c - 97 else (c + 191) % 256 + 26
def rk (c : UInt8) : Nat := rkN c.toNat
set_option maxHeartbeats 1000000 in
theorem rank_nat (c : Nat) (w : World) (hc : c < 256) : Calls Tryz.prog 236 #[.int .u8 (c : Int)] w fun e w' => e = .returned (.int .i64 (rkN c : Nat)) ∧ w' = w := by
  by_cases h : 97 ≤ c
  · have hz : (97 : Int) ≤ (c : Int) := by omega
    have HR : Hid (rkN c = c - 97) := if_pos h
    go_enter Tryz.func236, Tryz.ntmps236
    go_wp2_with fail
    go_ret
    rw [HR.out]
    refine ⟨?_, rfl⟩
    show Ending.returned (.int .i64 ((c : Int) - 97)) = _
    congr 2; omega
  · have hz : ¬ (97 : Int) ≤ (c : Int) := by omega
    have HR : Hid (rkN c = (c + 191) % 256 + 26) := if_neg h
    go_enter Tryz.func236, Tryz.ntmps236
    go_wp2_with fail
    go_ret
    rw [HR.out]
    refine ⟨?_, rfl⟩
    show Ending.returned (.int .i64 (((c : Int) - 65) % 256 + 26)) = _
    congr 2; omega
theorem rank_any (c : UInt8) (w : World) : Calls Tryz.prog 236 #[.int .u8 (c.toNat : Int)] w fun e w' => e = .returned (.int .i64 (rk c : Nat)) ∧ w' = w := rank_nat c.toNat w c.toNat_lt
def cmpR : List UInt8 → List UInt8 → Int
  | a :: x, b :: y => if rk a = rk b then cmpR x y else Lib.compareInt (rk a) (rk b)
  | _, _ => 0
def cmpL (x y : List UInt8) : Int := if x.length = y.length then cmpR x y else Lib.compareInt x.length y.length
theorem cmpInt_self (x : Int) : Lib.compareInt x x = 0 := by unfold Lib.compareInt; simp
theorem cmpInt_ne {x y : Int} (h : x ≠ y) : Lib.compareInt x y ≠ 0 := by unfold Lib.compareInt; split; omega; split <;> omega
theorem cmpR_at (s u : ByteArray) (k : Nat) (hk : k < s.size) (hu : k < u.size) : cmpR (s.data.toList.drop k) (u.data.toList.drop k) = if rk s[k] = rk u[k] then cmpR (s.data.toList.drop (k + 1)) (u.data.toList.drop (k + 1)) else Lib.compareInt (rk s[k]) (rk u[k]) := by
  rw [List.drop_eq_getElem_cons (by rw [len_list]; exact hk), List.drop_eq_getElem_cons (l := u.data.toList) (by rw [len_list]; exact hu), cmpR]
  rfl
theorem compareI_any (x y : Int) (w : World) : Calls Tryz.prog 235 #[.int .i64 x, .int .i64 y] w fun e w' => e = .returned (.int .i64 (Lib.compareInt x y)) ∧ w' = w := Tryz.cmp_Compare_int x y w
set_option maxRecDepth 100000 in
set_option maxHeartbeats 2000000 in
theorem compare_any (s u : ByteArray) (w : World) (hs : s.size ≤ 1000) :
    Calls Tryz.prog 217 #[.string s, .string u] w fun e w' => e = .returned (.int .i64 (cmpL s.data.toList u.data.toList)) ∧ ∃ n, w' = w.drewN n := by
  have HC : Hid (cmpL s.data.toList u.data.toList = if s.size = u.size then cmpR s.data.toList u.data.toList else Lib.compareInt s.size u.size) := by show cmpL _ _ = _; unfold cmpL; rw [len_list, len_list]
  by_cases hlen : s.size = u.size
  · have HX := Lib.hid (HC.out.trans (if_pos hlen))
    have HZ : Hid (Lib.compareInt (s.size : Int) (u.size : Int) = 0) := by show Lib.compareInt (s.size : Int) (u.size : Int) = 0; rw [hlen]; exact cmpInt_self _
    have HLE := Lib.hid hlen
    clear hlen HC
    go_enter Tryz.func217, Tryz.ntmps217
    go_wp2_with fail
    refine (compareI_any _ _ _).mono ?_
    rw [HZ.out]
    rintro e w' ⟨rfl, hw⟩
    rw [hw]
    clear hw
    go_wp2_with fail
    go_loopg [6] s.size (fun gg s6 wr => ∃ k : Nat, k ≤ s.size ∧ s.size - k ≤ gg ∧ s6 = .int .i64 k ∧ Aside (cmpR s.data.toList u.data.toList = cmpR (s.data.toList.drop k) (u.data.toList.drop k)) ∧ ∃ n, wr = w.drewN n)
    case atStart => exact ⟨0, Nat.zero_le _, by omega, rfl, rfl, 0, rfl⟩
    case round =>
      obtain ⟨k, hk, hgg, rfl, HQ, n, rfl⟩ := hrel
      by_cases hlt : k < s.size
      · have hltz : (k : Int) < (s.size : Int) := by omega
        have hlu : k < u.size := by have := HLE.out; omega
        have hluz : (k : Int) < (u.size : Int) := by omega
        have HD := Lib.hid (cmpR_at s u k hlt hlu)
        have HW0 : Hid (∃ m, w.drewN n = w.drewN m) := ⟨n, rfl⟩
        generalize w.drewN n = wr at HW0 ⊢
        go_wp2_with fail
        go_big_quiet (first | (go_at_call 236; exact Calls.quiet_of_same (rank_any _ _)) | (go_at_call 235; exact Calls.quiet_of_same (compareI_any _ _ _)))
        have HW : Hid (∃ m, wr.drewN nq = w.drewN m) := by
          obtain ⟨m, hm⟩ := HW0.out
          exact ⟨m + nq, by rw [hm, World.drewN_drewN]⟩
        generalize wr.drewN nq = wn at HW ⊢
        clear HW0
        by_cases he : rk s[k] = rk u[k]
        · have HQ2 : Hid (cmpR s.data.toList u.data.toList = cmpR (s.data.toList.drop (k + 1)) (u.data.toList.drop (k + 1))) := HQ.out.trans (HD.out.trans (if_pos he))
          have HZ2 : Hid (Lib.compareInt (rk s[k] : Int) (rk u[k] : Int) = 0) := by show Lib.compareInt (rk s[k] : Int) (rk u[k] : Int) = 0; rw [he]; exact cmpInt_self _
          rw [HZ2.out]
          clear HD he
          go_wp2_with fail
          go_roundg (s.size - (k + 1))
          case measure => omega
          exact ⟨k + 1, by omega, Nat.le_refl _, by go_num, HQ2.out, HW.out⟩
        · have HQ2 : Hid (cmpL s.data.toList u.data.toList = Lib.compareInt (rk s[k] : Int) (rk u[k] : Int)) := HX.out.trans (HQ.out.trans (HD.out.trans (if_neg he)))
          have hne := cmpInt_ne (x := (rk s[k] : Int)) (y := (rk u[k] : Int)) (by omega)
          generalize Lib.compareInt (rk s[k] : Int) (rk u[k] : Int) = x at hne HQ2 ⊢
          have hb1 : (x == 0) = false := by simpa using hne
          have hb2 : (x != 0) = true := by simpa using hne
          clear hne he HD
          go_wp2_with fail
          go_ret
          rw [HQ2.out]
          exact ⟨rfl, HW.out⟩
      · have hltz : ¬ (k : Int) < (s.size : Int) := by omega
        have HY : Hid (cmpL s.data.toList u.data.toList = 0) := by
          show cmpL s.data.toList u.data.toList = 0
          rw [HX.out, HQ.out, List.drop_eq_nil_of_le (by rw [len_list]; omega)]
          unfold cmpR; rfl
        go_wp2_with fail
        go_ret
        rw [HY.out]
        exact ⟨rfl, n, rfl⟩
  · have HX := Lib.hid (HC.out.trans (if_neg hlen))
    have hne := cmpInt_ne (x := (s.size : Int)) (y := (u.size : Int)) (by omega)
    obtain ⟨x, hx⟩ : ∃ x, x = Lib.compareInt (s.size : Int) (u.size : Int) := ⟨_, rfl⟩
    have HXX := Lib.hid hx
    rw [← hx] at hne HX
    have hb1 : (x == 0) = false := by simpa using hne
    have hb2 : (x != 0) = true := by simpa using hne
    clear hlen HC hx hne
    go_enter Tryz.func217, Tryz.ntmps217
    go_wp2_with fail
    refine (compareI_any _ _ _).mono ?_
    rw [← HXX.out]
    rintro e w' ⟨rfl, hw⟩
    rw [hw]
    clear hw
    go_wp2_with fail
    go_ret
    rw [HX.out]
    exact ⟨rfl, 0, rfl⟩
end Go.Proofs.YtknpigdpepmimaaGreatDoor

namespace Go.Proofs.YtknpigdpepmimaaGreatDoor
open Go.RowKit Go.Sort Go.Shelf
theorem cmpInt_lt (x y : Int) : Lib.compareInt x y < 0 ↔ x < y := by
  unfold Lib.compareInt
  by_cases h1 : x < y
  · simp [h1]
  · by_cases h2 : y < x <;> simp [h1, h2]
theorem cmpR_lt (a b : UInt8) (x y : List UInt8) : cmpR (a :: x) (b :: y) < 0 ↔ (rk a < rk b ∨ (rk a = rk b ∧ cmpR x y < 0)) := by
  rw [cmpR]
  by_cases h : rk a = rk b
  · rw [if_pos h]; omega
  · rw [if_neg h, cmpInt_lt]; omega
theorem cmpR_self : ∀ x, cmpR x x = 0
  | [] => by unfold cmpR; rfl
  | a :: x => by rw [cmpR, if_pos rfl]; exact cmpR_self x
theorem cmpR_trans : ∀ x y z : List UInt8, x.length = y.length → y.length = z.length → cmpR x y < 0 → cmpR y z < 0 → cmpR x z < 0
  | [], _, _ => fun _ _ h => by unfold cmpR at h; simp at h
  | _ :: _, [], _ => fun h => by simp at h
  | _ :: _, _ :: _, [] => fun _ h => by simp at h
  | a :: x, b :: y, c :: z => fun h1 h2 h3 h4 => by
    have ih := cmpR_trans x y z (by simpa using h1) (by simpa using h2)
    rw [cmpR_lt] at *
    omega
theorem cmpR_ntrans : ∀ x y z : List UInt8, x.length = y.length → y.length = z.length → ¬ cmpR x y < 0 → ¬ cmpR y z < 0 → ¬ cmpR x z < 0
  | [], _, _ => fun _ _ _ _ h => by unfold cmpR at h; simp at h
  | _ :: _, [], _ => fun h => by simp at h
  | _ :: _, _ :: _, [] => fun _ h => by simp at h
  | a :: x, b :: y, c :: z => fun h1 h2 h3 h4 => by
    have ih := cmpR_ntrans x y z (by simpa using h1) (by simpa using h2)
    rw [cmpR_lt] at *
    omega
theorem rk_inj (a b : UInt8) (ha : isL a = true) (hb : isL b = true) (h : rk a = rk b) : a = b := by
  have h2 : a.toNat = b.toNat := by
    unfold isL at ha hb
    unfold rk rkN at h
    simp at ha hb
    split at h <;> split at h <;> omega
  exact UInt8.toNat_inj.1 h2
theorem cmpR_tot : ∀ x y : List UInt8, x.length = y.length → x.all isL = true → y.all isL = true → ¬ cmpR x y < 0 → ¬ cmpR y x < 0 → x = y
  | [], [] => fun _ _ _ _ _ => rfl
  | [], _ :: _ => fun h => by simp at h
  | _ :: _, [] => fun h => by simp at h
  | a :: x, b :: y => fun h1 h2 h3 h4 h5 => by
    simp only [List.all_cons, Bool.and_eq_true] at h2 h3
    rw [cmpR_lt] at h4 h5
    have hr : rk a = rk b := by omega
    rw [rk_inj a b h2.1 h3.1 hr, cmpR_tot x y (by simpa using h1) h2.2 h3.2 (by omega) (by omega)]
theorem cmpL_lt (x y : List UInt8) : cmpL x y < 0 ↔ (x.length < y.length ∨ (x.length = y.length ∧ cmpR x y < 0)) := by
  unfold cmpL
  by_cases h : x.length = y.length
  · rw [if_pos h]; omega
  · rw [if_neg h, cmpInt_lt]; omega
/-- a word: one to sixteen letters -/
abbrev Wd := {l : List UInt8 // wordB l = true}
instance : Inhabited Wd := ⟨⟨[97], by decide⟩⟩
def encW (x : Wd) : Value := .string ⟨x.1.toArray⟩
def cmpW (x y : Wd) : Int := cmpL x.1 y.1
theorem Wd.len (x : Wd) : x.1.length ≤ 16 := by have h := x.2; unfold wordB at h; simp at h; omega
theorem Wd.all (x : Wd) : x.1.all isL = true := by have h := x.2; unfold wordB at h; simp only [Bool.and_eq_true] at h; exact h.1.1
theorem swoW : SWO (ltOf cmpW) where
  irrefl x := by
    unfold ltOf cmpW
    have := cmpL_lt x.1 x.1
    have := cmpR_self x.1
    simp only [decide_eq_false_iff_not]; omega
  trans x y z h1 h2 := by
    unfold ltOf cmpW at *
    simp only [decide_eq_true_eq] at *
    have ih := cmpR_trans x.1 y.1 z.1
    rw [cmpL_lt] at *
    omega
  ntrans x y z h1 h2 := by
    unfold ltOf cmpW at *
    simp only [decide_eq_false_iff_not] at *
    have ih := cmpR_ntrans x.1 y.1 z.1
    rw [cmpL_lt] at *
    omega
theorem totW (x y : Wd) (h1 : ltOf cmpW x y = false) (h2 : ltOf cmpW y x = false) : x = y := by
  unfold ltOf cmpW at *
  simp only [decide_eq_false_iff_not] at *
  rw [cmpL_lt] at *
  exact Subtype.ext (cmpR_tot x.1 y.1 (by omega) x.all y.all (by omega) (by omega))
theorem compareW (x y : Wd) (w : World) : Calls Tryz.prog 217 #[encW x, encW y] w fun e w' => e = .returned (.int .i64 (cmpW x y)) ∧ ∃ n, w' = w.drewN n :=
  compare_any ⟨x.1.toArray⟩ ⟨y.1.toArray⟩ w (by have := x.len; show x.1.toArray.size ≤ 1000; rw [List.size_toArray]; omega)
/-- the words in their order -/
def sortW (l : List Wd) : List Wd := l.mergeSort fun x y => !(ltOf cmpW) y x
theorem sortFunc_any (blk off cap : Nat) (d : Array Wd) (w : World) (hH : Holds encW w blk off d) (hblk : blk < w.heap.size) (hsz : d.size < 4611686018427387904) :
    Calls Tryz.prog 233 #[.slice (some ⟨blk, off, none⟩) d.size cap, .func (.func 217) #[] #[]] w fun e w' =>
      e = .returned (.tuple #[]) ∧ ∃ n os, w' = sortWorld encW w blk off n (sortW d.toList).toArray os := by
  have eg : ∀ args w, (callFunc 217 args).run Tryz.prog w = .ok (.enter 217 args) w := enters_of Tryz.func217 (by kernel_rfl) rfl
  have hc : CmpReads Tryz.prog 217 #[] encW cmpW blk off d.size w := fun _ _ _ _ x y => compareW x y _
  exact Any.slices_SortFunc_total Tryz.sortf86 encW (fun _ => rfl) cmpW swoW 217 #[] blk off cap d w eg hc.lays hH hblk hsz totW
theorem sortFunc_none (p : Option Addr) (cap : Nat) (fv : Value) (w : World) :
    Calls Tryz.prog 233 #[.slice p 0 cap, fv] w fun e w' => e = .returned (.tuple #[]) ∧ w' = w :=
  AnyF.slices_SortFunc_none (ρ := Tryz.sortf86_ren) { Tryz.sortf86 with } p cap fv w
end Go.Proofs.YtknpigdpepmimaaGreatDoor

namespace Go.Proofs.YtknpigdpepmimaaGreatDoor
abbrev W8 := List UInt8
/-- the order of names -/
def ltL (a b : W8) : Bool := decide (cmpL a b < 0)
def insL (s : W8) : List W8 → List W8
  | [] => [s]
  | a :: l => if ltL s a then s :: a :: l else a :: insL s l
def withL (l : List W8) (s : W8) : List W8 := if l.contains s then l else insL s l
def unionL (a b : List W8) : List W8 := b.foldl withL a
def withoutL (l : List W8) (s : W8) : List W8 := l.filter (· != s)
theorem mem_insL {x s : W8} : ∀ {l : List W8}, x ∈ insL s l ↔ x = s ∨ x ∈ l
  | [] => by simp [insL]
  | a :: l => by
    rw [insL]
    split
    · simp
    · have ih := mem_insL (x := x) (s := s) (l := l)
      rw [List.mem_cons, ih, List.mem_cons]
      constructor
      · rintro (h | h | h)
        · exact .inr (.inl h)
        · exact .inl h
        · exact .inr (.inr h)
      · rintro (h | h | h)
        · exact .inr (.inl h)
        · exact .inl h
        · exact .inr (.inr h)
theorem mem_withL {x s : W8} {l : List W8} : x ∈ withL l s ↔ x = s ∨ x ∈ l := by
  unfold withL
  split
  · rename_i h
    have : s ∈ l := by simpa using h
    constructor
    · exact .inr
    · rintro (rfl | h)
      · exact this
      · exact h
  · exact mem_insL
theorem mem_unionL {x : W8} : ∀ {b a : List W8}, x ∈ unionL a b ↔ x ∈ a ∨ x ∈ b
  | [], a => by simp [unionL]
  | s :: b, a => by
    have ih := mem_unionL (x := x) (b := b) (a := withL a s)
    unfold unionL at ih ⊢
    rw [List.foldl_cons, ih, mem_withL, List.mem_cons]
    constructor
    · rintro ((h | h) | h)
      · exact .inr (.inl h)
      · exact .inl h
      · exact .inr (.inr h)
    · rintro (h | h | h)
      · exact .inl (.inr h)
      · exact .inl (.inl h)
      · exact .inr h
theorem mem_withoutL {x s : W8} {l : List W8} : x ∈ withoutL l s ↔ x ∈ l ∧ x ≠ s := by
  unfold withoutL; simp
theorem word_all {x : W8} (h : wordB x = true) : x.all isL = true := by
  unfold wordB at h; simp only [Bool.and_eq_true] at h; exact h.1.1
theorem ltL_irrefl (x : W8) : ltL x x = false := by
  unfold ltL
  have := cmpL_lt x x
  have := cmpR_self x
  simp only [decide_eq_false_iff_not]; omega
theorem ltL_trans {x y z : W8} (h1 : ltL x y = true) (h2 : ltL y z = true) : ltL x z = true := by
  unfold ltL at *
  simp only [decide_eq_true_eq] at *
  have ih := cmpR_trans x y z
  rw [cmpL_lt] at *
  omega
theorem ltL_tot {x y : W8} (hx : wordB x = true) (hy : wordB y = true) (h1 : ltL x y = false) (h2 : ltL y x = false) : x = y := by
  unfold ltL at *
  simp only [decide_eq_false_iff_not] at *
  rw [cmpL_lt] at *
  exact cmpR_tot x y (by omega) (word_all hx) (word_all hy) (by omega) (by omega)
/-- words in their order, each once -/
def Srtd (l : List W8) : Prop := l.Pairwise fun a b => ltL a b = true
def Wds (l : List W8) : Prop := ∀ x ∈ l, wordB x = true
theorem Wds.with {l : List W8} (h : Wds l) {s : W8} (hs : wordB s = true) : Wds (withL l s) := fun x hx => by
  rcases mem_withL.1 hx with rfl | hx
  · exact hs
  · exact h x hx
theorem srtd_ins {s : W8} (hs : wordB s = true) : ∀ {l : List W8}, Wds l → Srtd l → s ∉ l → Srtd (insL s l)
  | [], _, _, _ => by unfold insL Srtd; simp
  | a :: l, hw, h, hn => by
    unfold Srtd at h ⊢
    rw [List.pairwise_cons] at h
    rw [insL]
    split
    · rename_i hlt
      rw [List.pairwise_cons]
      refine ⟨fun x hx => ?_, List.pairwise_cons.2 h⟩
      rcases List.mem_cons.1 hx with rfl | hx
      · exact hlt
      · exact ltL_trans hlt (h.1 x hx)
    · rename_i hlt
      rw [List.pairwise_cons]
      refine ⟨fun x hx => ?_, srtd_ins hs (fun x hx => hw x (List.mem_cons_of_mem _ hx)) h.2 (fun h' => hn (List.mem_cons_of_mem _ h'))⟩
      rcases mem_insL.1 hx with rfl | hx
      · cases hl : ltL a x with
        | true => rfl
        | false => exact absurd (ltL_tot (hw a List.mem_cons_self) hs hl (by simpa using hlt)) (fun e => hn (by rw [e]; exact List.mem_cons_self))
      · exact h.1 x hx
theorem srtd_with {s : W8} (hs : wordB s = true) {l : List W8} (hw : Wds l) (h : Srtd l) : Srtd (withL l s) := by
  unfold withL
  split
  · exact h
  · rename_i hn
    exact srtd_ins hs hw h (by simpa using hn)
theorem srtd_union : ∀ {b a : List W8}, Wds a → Srtd a → Wds b → Srtd (unionL a b) ∧ Wds (unionL a b)
  | [], a, ha, h, _ => by unfold unionL; exact ⟨h, ha⟩
  | s :: b, a, ha, h, hb => by
    have hs := hb s List.mem_cons_self
    have := srtd_union (b := b) (a := withL a s) (ha.with hs) (srtd_with hs ha h) (fun x hx => hb x (List.mem_cons_of_mem _ hx))
    unfold unionL at this ⊢
    rw [List.foldl_cons]
    exact this
theorem srtd_ext : ∀ {a b : List W8}, Srtd a → Srtd b → (∀ x, x ∈ a ↔ x ∈ b) → a = b
  | [], [], _, _, _ => rfl
  | [], y :: b, _, _, h => by have := (h y).2 List.mem_cons_self; cases this
  | x :: a, [], _, _, h => by have := (h x).1 List.mem_cons_self; cases this
  | x :: a, y :: b, ha, hb, h => by
    have ha' : Srtd (x :: a) := ha
    have hb' : Srtd (y :: b) := hb
    unfold Srtd at ha hb
    rw [List.pairwise_cons] at ha hb
    have hxy : x = y := by
      rcases List.mem_cons.1 ((h x).1 List.mem_cons_self) with e | hx
      · exact e
      · rcases List.mem_cons.1 ((h y).2 List.mem_cons_self) with e | hy
        · exact e.symm
        · have := ltL_trans (hb.1 x hx) (ha.1 y hy)
          rw [ltL_irrefl] at this; cases this
    subst hxy
    rw [srtd_ext (a := a) (b := b) ha.2 hb.2 (fun z => ?_)]
    have hz := h z
    rw [List.mem_cons, List.mem_cons] at hz
    constructor
    · intro hm
      rcases hz.1 (.inr hm) with rfl | h'
      · have := ha.1 z hm; rw [ltL_irrefl] at this; cases this
      · exact h'
    · intro hm
      rcases hz.2 (.inr hm) with rfl | h'
      · have := hb.1 z hm; rw [ltL_irrefl] at this; cases this
      · exact h'
/-- the sorted keys of a set are the one list in order -/
theorem sortW_srtd (ws : List Wd) (hn : (ws.map (·.1)).Nodup) : Srtd ((sortW ws).map (·.1)) ∧ (∀ x, x ∈ (sortW ws).map (·.1) ↔ x ∈ ws.map (·.1)) := by
  have hp : (sortW ws).Perm ws := List.mergeSort_perm ws _
  have hpm := hp.map (fun x : Wd => x.1)
  refine ⟨?_, fun x => hpm.mem_iff⟩
  have hs : (sortW ws).Pairwise fun x y => (!(ltOf cmpW) y x) = true := by
    refine List.pairwise_mergeSort (fun a b c h1 h2 => ?_) (fun a b => ?_) ws
    · have := cmpR_ntrans c.1 b.1 a.1
      unfold ltOf cmpW at *
      simp only [Bool.not_eq_true', decide_eq_false_iff_not] at *
      rw [cmpL_lt] at *
      omega
    · have := @ltL_trans a.1 b.1 a.1
      have h0 := ltL_irrefl a.1
      unfold ltL at this h0
      unfold ltOf cmpW
      simp only [Bool.or_eq_true, Bool.not_eq_true', decide_eq_false_iff_not, decide_eq_true_eq] at *
      by_cases h : cmpL b.1 a.1 < 0
      · right; intro h'; have := this h' h; omega
      · left; exact h
  have hn2 : ((sortW ws).map (fun x : Wd => x.1)).Nodup := hpm.nodup_iff.2 hn
  unfold Srtd
  rw [List.pairwise_map]
  unfold List.Nodup at hn2
  rw [List.pairwise_map] at hn2
  refine List.Pairwise.imp₂ (fun a b h1 h2 => ?_) hs hn2
  cases hl : ltL a.1 b.1 with
  | true => rfl
  | false =>
    refine absurd (ltL_tot a.2 b.2 hl ?_) h2
    unfold ltOf cmpW at h1
    unfold ltL
    simp only [Bool.not_eq_true'] at h1
    exact h1
end Go.Proofs.YtknpigdpepmimaaGreatDoor

namespace Go.Proofs.YtknpigdpepmimaaGreatDoor
mutual
/-- each subterm is valid but for the number of all -/
def WF : T → Prop | .mk k n v ys f => ownB (.mk k n v ys f) = true ∧ WFs ys
def WFs : List T → Prop | [] => True | t :: ts => WF t ∧ WFs ts
end
theorem WF.parts {t : T} (h : WF t) : ownB t = true ∧ WFs t.args := by
  cases t with
  | mk k n v ys f => rw [WF] at h; exact h
theorem WF.of {t : T} (h : ownB t = true) (hs : WFs t.args) : WF t := by
  cases t with
  | mk k n v ys f => rw [WF]; exact ⟨h, hs⟩
theorem WFs.mem : ∀ {ts : List T}, WFs ts → ∀ {u}, u ∈ ts → WF u
  | [], _, _, h => by cases h
  | t :: ts, hs, u, h => by
    rw [WFs] at hs
    rcases List.mem_cons.1 h with rfl | h
    · exact hs.1
    · exact hs.2.mem h
theorem WFs.of : ∀ {ts : List T}, (∀ u ∈ ts, WF u) → WFs ts
  | [], _ => by rw [WFs]; trivial
  | t :: ts, h => by rw [WFs]; exact ⟨h t List.mem_cons_self, WFs.of fun u hu => h u (List.mem_cons_of_mem _ hu)⟩
theorem size_eq (t : T) : t.size = 1 + sizes t.args := by cases t; rw [T.size]; rfl
theorem size_pos (t : T) : 1 ≤ t.size := by rw [size_eq]; omega
mutual
theorem vld_wf (t : T) (c : Nat) (h : (vld t c).1 = true) : WF t ∧ (vld t c).2 = c + t.size := by
  cases t with
  | mk k n v ys f =>
    rw [vld] at h ⊢
    split
    · rename_i hc; rw [if_pos hc] at h; cases h
    · rename_i hc
      rw [if_neg hc] at h
      have ih := vlds_wf ys (c + 1) h
      rw [WF, T.size]
      refine ⟨⟨?_, ih.1⟩, by rw [ih.2]; omega⟩
      cases ho : ownB (.mk k n v ys f) with
      | true => rfl
      | false => exact absurd (.inr ho) hc
theorem vlds_wf (ts : List T) (c : Nat) (h : (vlds ts c).1 = true) : WFs ts ∧ (vlds ts c).2 = c + sizes ts := by
  cases ts with
  | nil => rw [vlds, WFs, sizes]; exact ⟨trivial, rfl⟩
  | cons t ts =>
    rw [vlds] at h ⊢
    cases hv : (vld t c).1 with
    | false => rw [hv] at h; simp at h
    | true =>
      rw [hv] at h
      simp only [if_true] at h ⊢
      have h1 := vld_wf t c hv
      have h2 := vlds_wf ts _ h
      rw [WFs, sizes]
      exact ⟨⟨h1.1, h2.1⟩, by rw [h2.2, h1.2]; omega⟩
end
mutual
theorem vld_of (t : T) (c : Nat) (h : WF t) (hc : c + t.size ≤ 1000) : vld t c = (true, c + t.size) := by
  cases t with
  | mk k n v ys f =>
    rw [WF] at h
    rw [T.size] at hc ⊢
    rw [vld, if_neg (fun h' => h'.elim (fun h' => by omega) (fun h' => by rw [h.1] at h'; cases h')), vlds_of ys (c + 1) h.2 (by omega)]
    congr 1; omega
theorem vlds_of (ts : List T) (c : Nat) (h : WFs ts) (hc : c + sizes ts ≤ 1000) : vlds ts c = (true, c + sizes ts) := by
  cases ts with
  | nil => rw [vlds, sizes]; rfl
  | cons t ts =>
    rw [WFs] at h
    rw [sizes] at hc ⊢
    rw [vlds, vld_of t c h.1 (by omega)]
    simp only [if_true]
    rw [vlds_of ts _ h.2 (by omega)]
    congr 1; omega
end
theorem valid_iff (t : T) : validB t = true ↔ WF t ∧ t.size ≤ 1000 := by
  unfold validB
  constructor
  · intro h
    have h1 := vld_wf t 0 h
    have := vld_le t 0 h
    exact ⟨h1.1, by omega⟩
  · rintro ⟨h1, h2⟩
    rw [vld_of t 0 h1 (by omega)]
mutual
/-- the reference's count: -1 if the term is not valid -/
def sizR : T → Int
  | .mk k n v ys f => if ownB (.mk k n v ys f) = false ∨ 1000 < ys.length then -1 else sizRs ys 1
def sizRs : List T → Int → Int
  | [], m => m
  | t :: ts, m => if sizR t < 0 ∨ 1000 < m + sizR t then -1 else sizRs ts (m + sizR t)
end
theorem sizR_eq (t : T) : sizR t = if ownB t = false ∨ 1000 < t.args.length then -1 else sizRs t.args 1 := by
  cases t with
  | mk k n v ys f => rw [sizR]; rfl
theorem len_sizes : ∀ ts : List T, ts.length ≤ sizes ts
  | [] => by simp
  | t :: ts => by have := len_sizes ts; have := size_pos t; rw [sizes]; simp; omega
mutual
theorem sizR_val (t : T) : (sizR t = -1 ∧ ¬ (WF t ∧ t.size ≤ 1000)) ∨ (sizR t = t.size ∧ WF t ∧ t.size ≤ 1000) := by
  cases t with
  | mk k n v ys f =>
    rw [sizR, WF, T.size]
    split
    · rename_i h
      refine .inl ⟨rfl, fun h' => ?_⟩
      rcases h with h | h
      · rw [h'.1.1] at h; cases h
      · have := len_sizes ys; omega
    · rename_i h
      have ho : ownB (.mk k n v ys f) = true := by
        cases ho : ownB (.mk k n v ys f) with
        | true => rfl
        | false => exact absurd (.inl ho) h
      rcases sizRs_val ys 1 (by omega) (by omega) with ⟨h1, h2⟩ | ⟨h1, h2, h3⟩
      · exact .inl ⟨h1, fun h' => h2 ⟨h'.1.2, by omega⟩⟩
      · exact .inr ⟨by rw [h1]; omega, ⟨ho, h2⟩, by omega⟩
theorem sizRs_val (ts : List T) (m : Int) (hm : 0 ≤ m) (hm2 : m ≤ 1000) : (sizRs ts m = -1 ∧ ¬ (WFs ts ∧ m + sizes ts ≤ 1000)) ∨ (sizRs ts m = m + sizes ts ∧ WFs ts ∧ m + sizes ts ≤ 1000) := by
  cases ts with
  | nil => rw [sizRs, WFs, sizes]; exact .inr ⟨by omega, trivial, by omega⟩
  | cons t ts =>
    have hp := size_pos t
    rw [sizRs, WFs, sizes]
    rcases sizR_val t with ⟨h1, h2⟩ | ⟨h1, h2, h3⟩
    · rw [if_pos (.inl (by omega))]
      exact .inl ⟨rfl, fun h' => h2 ⟨h'.1.1, by omega⟩⟩
    · rw [h1]
      split
      · exact .inl ⟨rfl, fun h' => by omega⟩
      · rcases sizRs_val ts (m + t.size) (by omega) (by omega) with ⟨h4, h5⟩ | ⟨h4, h5, h6⟩
        · exact .inl ⟨h4, fun h' => h5 ⟨h'.1.2, by omega⟩⟩
        · exact .inr ⟨by rw [h4]; omega, ⟨h2, h5⟩, by omega⟩
end
theorem sizR_valid (t : T) : sizR t = if validB t = true then (t.size : Int) else -1 := by
  rcases sizR_val t with ⟨h1, h2⟩ | ⟨h1, h2⟩
  · rw [h1, if_neg (fun h => h2 ((valid_iff t).1 h))]
  · rw [h1, if_pos ((valid_iff t).2 h2)]
mutual
/-- the names that occur free, in their order -/
def frL : T → List W8
  | .mk k n v ys _ => if k = 2 then [n] else frLs k v ys []
def frLs (k : Int) (v : W8) : List T → List W8 → List W8
  | [], out => out
  | t :: ts, out => frLs k v ts (unionL out (if k = 5 ∧ ts.length = 0 then withoutL (frL t) v else frL t))
end
theorem frL_eq (t : T) : frL t = if t.kind = 2 then [t.name] else frLs t.kind t.var t.args [] := by
  cases t with
  | mk k n v ys f => rw [frL]; rfl
/-- x occurs free in one of the arguments, of a node of that kind with that bound variable -/
def inArgs (k : Int) (v x : W8) : List T → Prop
  | [] => False
  | t :: ts => (x ∈ frL t ∧ ¬ (k = 5 ∧ ts.length = 0 ∧ x = v)) ∨ inArgs k v x ts
theorem mem_frLs {k : Int} {v x : W8} : ∀ {ts : List T} {out : List W8}, x ∈ frLs k v ts out ↔ x ∈ out ∨ inArgs k v x ts
  | [], out => by rw [frLs]; simp [inArgs]
  | t :: ts, out => by
    rw [frLs, mem_frLs, mem_unionL, inArgs]
    have e : x ∈ (if k = 5 ∧ ts.length = 0 then withoutL (frL t) v else frL t) ↔ (x ∈ frL t ∧ ¬ (k = 5 ∧ ts.length = 0 ∧ x = v)) := by
      split
      · rename_i h
        rw [mem_withoutL]
        constructor
        · rintro ⟨h1, h2⟩; exact ⟨h1, fun h' => h2 h'.2.2⟩
        · rintro ⟨h1, h2⟩; exact ⟨h1, fun h' => h2 ⟨h.1, h.2, h'⟩⟩
      · rename_i h
        constructor
        · intro h1; exact ⟨h1, fun h' => h ⟨h'.1, h'.2.1⟩⟩
        · exact fun h => h.1
    rw [e]
    constructor
    · rintro ((h | h) | h)
      · exact .inl h
      · exact .inr (.inl h)
      · exact .inr (.inr h)
    · rintro (h | (h | h))
      · exact .inl (.inl h)
      · exact .inl (.inr h)
      · exact .inr h
theorem mem_frL {x : W8} (t : T) : x ∈ frL t ↔ (t.kind = 2 ∧ x = t.name) ∨ (t.kind ≠ 2 ∧ inArgs t.kind t.var x t.args) := by
  rw [frL_eq]
  split
  · rename_i h; simp [h]
  · rename_i h; rw [mem_frLs]; simp [h]
theorem own_var {t : T} (h : ownB t = true) (hk : t.kind = 2) : identB t.name = true ∧ t.args = [] ∧ t.var = [] ∧ t.form = [] := by
  unfold ownB at h
  rw [if_neg (by omega), if_pos hk] at h
  unfold leafB at h
  simp only [Bool.and_eq_true, List.isEmpty_iff] at h
  exact ⟨h.2, h.1.2.2, h.1.1, h.1.2.1⟩
theorem own_bind {t : T} (h : ownB t = true) (hk : t.kind = 5) : identB t.var = true ∧ t.args ≠ [] := by
  unfold ownB at h
  rw [if_neg (by omega), if_neg (by omega), if_neg (by omega), if_neg (by omega), if_pos hk] at h
  simp only [Bool.and_eq_true, Bool.not_eq_true', List.isEmpty_eq_false_iff] at h
  exact ⟨h.1.2, h.2⟩
theorem ident_word {x : W8} (h : identB x = true) : wordB x = true := by
  unfold identB at h; simp only [Bool.and_eq_true] at h; exact h.1.1
mutual
theorem frL_ok (t : T) (h : WF t) : Srtd (frL t) ∧ ∀ x ∈ frL t, identB x = true := by
  cases t with
  | mk k n v ys f =>
    have hp := h.parts
    rw [frL]
    split
    · rename_i hk
      refine ⟨by unfold Srtd; simp, fun x hx => ?_⟩
      rw [List.mem_singleton] at hx
      rw [hx]; exact (own_var hp.1 hk).1
    · exact frLs_ok k v ys [] hp.2 (by unfold Srtd; simp) (by simp)
theorem frLs_ok (k : Int) (v : W8) (ts : List T) (out : List W8) (h : WFs ts) (h1 : Srtd out) (h2 : ∀ x ∈ out, identB x = true) : Srtd (frLs k v ts out) ∧ ∀ x ∈ frLs k v ts out, identB x = true := by
  cases ts with
  | nil => rw [frLs]; exact ⟨h1, h2⟩
  | cons t ts =>
    rw [WFs] at h
    have ih := frL_ok t h.1
    have hw : ∀ x ∈ (if k = 5 ∧ ts.length = 0 then withoutL (frL t) v else frL t), identB x = true := fun x hx => by
      split at hx
      · exact ih.2 x (mem_withoutL.1 hx).1
      · exact ih.2 x hx
    have hu := srtd_union (a := out) (b := if k = 5 ∧ ts.length = 0 then withoutL (frL t) v else frL t) (fun x hx => ident_word (h2 x hx)) h1 (fun x hx => ident_word (hw x hx))
    rw [frLs]
    refine frLs_ok k v ts _ h.2 hu.1 (fun x hx => ?_)
    rcases mem_unionL.1 hx with hx | hx
    · exact h2 x hx
    · exact hw x hx
end
mutual
theorem frL_len (t : T) : (frL t).length ≤ t.size := by
  cases t with
  | mk k n v ys f =>
    rw [frL, T.size]
    split
    · simp
    · have := frLs_len k v ys []; simp at this; omega
theorem frLs_len (k : Int) (v : W8) (ts : List T) (out : List W8) : (frLs k v ts out).length ≤ out.length + sizes ts := by
  cases ts with
  | nil => rw [frLs, sizes]; omega
  | cons t ts =>
    have h1 := frL_len t
    have h2 := frLs_len k v ts (unionL out (if k = 5 ∧ ts.length = 0 then withoutL (frL t) v else frL t))
    have hw : ∀ (l : List W8) (s : W8), (withL l s).length ≤ l.length + 1 := fun l s => by
      unfold withL
      split
      · omega
      · have : ∀ l : List W8, (insL s l).length = l.length + 1 := fun l => by
          induction l with
          | nil => simp [insL]
          | cons a l ih => rw [insL]; split <;> simp [ih]
        rw [this]; omega
    have hu : ∀ (b a : List W8), (unionL a b).length ≤ a.length + b.length := fun b => by
      induction b with
      | nil => intro a; simp [unionL]
      | cons s b ih =>
        intro a
        have h := ih (withL a s)
        have := hw a s
        unfold unionL at h ⊢
        rw [List.foldl_cons]
        simp only [List.length_cons]; omega
    have hx := hu (if k = 5 ∧ ts.length = 0 then withoutL (frL t) v else frL t) out
    have hi : (if k = 5 ∧ ts.length = 0 then withoutL (frL t) v else frL t).length ≤ (frL t).length := by
      split
      · exact List.length_filter_le _ _
      · omega
    rw [frLs, sizes]; omega
end
end Go.Proofs.YtknpigdpepmimaaGreatDoor
