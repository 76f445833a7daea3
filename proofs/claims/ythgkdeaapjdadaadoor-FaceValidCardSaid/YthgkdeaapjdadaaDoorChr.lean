/- Contract of the maker's character. -/
import Derived.Test.YthgkdeaapjdadaaDoorAdd
import Derived.Test.YthgkdeaapjdadaaDoorShelf
import Derived.Laws.Runes
namespace Go.Proofs.YthgkdeaapjdadaaDoor
open Go.RowKit

def inS (s : List UInt8) (c : Nat) : Bool := decide (0 ≤ Lib.indexByte s c.toUInt8)
def s1 : List UInt8 := [98, 100, 102, 104, 107, 108, 116, 105, 106]
def s2 : List UInt8 := [103, 106, 112, 113, 121]
def s3 : List UInt8 := [40, 41, 91, 93, 123, 125, 124, 47, 60, 62]
def wd (c : Nat) : Int := 400 + 10 * (7 * (c : Int) % 31)
def ital (c : Nat) : Int := 10 * (3 * (c : Int) % 7)
/-- the glyph of a character -/
def chr (c : Nat) : Gl :=
  if 97 ≤ c ∧ c ≤ 122 then glOf [c.toUInt8] (wd c) (if inS s1 c then 694 else 431) (if inS s2 c then 194 else 0) (ital c)
  else if 65 ≤ c ∧ c ≤ 90 then glOf [c.toUInt8] (wd c) 683 0 (ital c)
  else if 48 ≤ c ∧ c ≤ 57 then glOf [c.toUInt8] 500 644 0 0
  else if inS s3 c then glOf [c.toUInt8] 389 750 250 0
  else glOf [c.toUInt8] (wd c) 583 83 0

theorem contains_any (s : List UInt8) (c : Nat) (w : World) (h : c < 128) :
    Calls Tryd.prog 49 #[.string ⟨s.toArray⟩, .int .i32 (c : Int)] w fun e w' => e = .returned (.bool (inS s c)) ∧ w = w' :=
  (Tryd.strings_ContainsRune_ascii ⟨s.toArray⟩ (c : Int) w (by omega) (by omega)).mono fun _ _ ⟨he, hw⟩ => ⟨by simpa [inS] using he, hw.symm⟩
theorem enc_ascii (c : Nat) (h : c < 128) : Utf8.encode (c : Int) = ⟨[c.toUInt8].toArray⟩ := by
  have hall : (List.range 128).all (fun c => decide (Utf8.encode (c : Int) = ⟨[c.toUInt8].toArray⟩)) = true := by decide +kernel
  have := List.all_eq_true.1 hall c (List.mem_range.2 h)
  simpa using this
theorem wd_bnd (c : Nat) : 0 ≤ 400 + 10 * (7 * (c : Int) % 31) ∧ 400 + 10 * (7 * (c : Int) % 31) ≤ 100000 := by omega


set_option maxRecDepth 100000 in
set_option maxHeartbeats 2000000 in
theorem chr_low (c : Nat) (l : List Gl) (b B : Nat) (w : World) (h1 : 97 ≤ c) (h2 : c ≤ 122) (hm : Mk w b l) (hl : l.length ≤ 1000) (hB : B ≤ b) :
    Calls Tryd.prog 37 #[.pointer (some ⟨b, 0, none⟩), .int .i32 (c : Int)] w (RetMk w b B (l ++ [chr c])) := by
  have HC : Hid (chr c = glOf [c.toUInt8] (wd c) (if inS s1 c then 694 else 431) (if inS s2 c then 194 else 0) (ital c)) := by show chr c = _; unfold chr; rw [if_pos ⟨h1, h2⟩]
  have HM := Lib.hid hm
  clear hm
  have z1 : (97 : Int) ≤ (c : Int) := by omega
  have z2 : (c : Int) ≤ 122 := by omega
  go_enter Tryd.func37, Tryd.ntmps37
  go_wp2_with fail
  refine (contains_any s1 c _ (by omega)).mono ?_
  rintro e w' ⟨rfl, rfl⟩
  cases e1 : inS s1 c
  case false =>
    rw [e1] at HC
    clear e1
    go_wp2_with fail
    refine (contains_any s2 c _ (by omega)).mono ?_
    rintro e w' ⟨rfl, rfl⟩
    cases e2 : inS s2 c
    case false =>
      rw [e2] at HC
      clear e2
      go_wp2_with fail
      rw [enc_ascii c (by omega)]
      refine (add_any [c.toUInt8] (400 + 10 * (7 * (c : Int) % 31)) 431 0 (10 * (3 * (c : Int) % 7)) l b B _ (by omega) (by omega) HM.out hl hB).mono ?_
      rintro e w' ⟨rfl, hM, hb⟩
      have HR := Lib.hid (And.intro hM hb)
      clear hM hb
      go_wp2
      go_end0
      refine ⟨rfl, ?_, HR.out.2⟩
      rw [HC.out]
      exact HR.out.1
    case true =>
      rw [e2] at HC
      clear e2
      go_wp2_with fail
      rw [enc_ascii c (by omega)]
      refine (add_any [c.toUInt8] (400 + 10 * (7 * (c : Int) % 31)) 431 194 (10 * (3 * (c : Int) % 7)) l b B _ (by omega) (by omega) HM.out hl hB).mono ?_
      rintro e w' ⟨rfl, hM, hb⟩
      have HR := Lib.hid (And.intro hM hb)
      clear hM hb
      go_wp2
      go_end0
      refine ⟨rfl, ?_, HR.out.2⟩
      rw [HC.out]
      exact HR.out.1
  case true =>
    rw [e1] at HC
    clear e1
    go_wp2_with fail
    refine (contains_any s2 c _ (by omega)).mono ?_
    rintro e w' ⟨rfl, rfl⟩
    cases e2 : inS s2 c
    case false =>
      rw [e2] at HC
      clear e2
      go_wp2_with fail
      rw [enc_ascii c (by omega)]
      refine (add_any [c.toUInt8] (400 + 10 * (7 * (c : Int) % 31)) 694 0 (10 * (3 * (c : Int) % 7)) l b B _ (by omega) (by omega) HM.out hl hB).mono ?_
      rintro e w' ⟨rfl, hM, hb⟩
      have HR := Lib.hid (And.intro hM hb)
      clear hM hb
      go_wp2
      go_end0
      refine ⟨rfl, ?_, HR.out.2⟩
      rw [HC.out]
      exact HR.out.1
    case true =>
      rw [e2] at HC
      clear e2
      go_wp2_with fail
      rw [enc_ascii c (by omega)]
      refine (add_any [c.toUInt8] (400 + 10 * (7 * (c : Int) % 31)) 694 194 (10 * (3 * (c : Int) % 7)) l b B _ (by omega) (by omega) HM.out hl hB).mono ?_
      rintro e w' ⟨rfl, hM, hb⟩
      have HR := Lib.hid (And.intro hM hb)
      clear hM hb
      go_wp2
      go_end0
      refine ⟨rfl, ?_, HR.out.2⟩
      rw [HC.out]
      exact HR.out.1


set_option maxRecDepth 100000 in
set_option maxHeartbeats 2000000 in
theorem chr_up (c : Nat) (l : List Gl) (b B : Nat) (w : World) (h1 : 65 ≤ c) (h2 : c ≤ 90) (hm : Mk w b l) (hl : l.length ≤ 1000) (hB : B ≤ b) :
    Calls Tryd.prog 37 #[.pointer (some ⟨b, 0, none⟩), .int .i32 (c : Int)] w (RetMk w b B (l ++ [chr c])) := by
  have HC : Hid (chr c = glOf [c.toUInt8] (wd c) 683 0 (ital c)) := by show chr c = _; unfold chr; rw [if_neg (by omega), if_pos ⟨h1, h2⟩]
  have HM := Lib.hid hm
  clear hm
  have z0 : ¬ (97 : Int) ≤ (c : Int) := by omega
  have z1 : (65 : Int) ≤ (c : Int) := by omega
  have z2 : (c : Int) ≤ 90 := by omega
  go_enter Tryd.func37, Tryd.ntmps37
  go_wp2_with fail
  rw [enc_ascii c (by omega)]
  refine (add_any [c.toUInt8] (400 + 10 * (7 * (c : Int) % 31)) 683 0 (10 * (3 * (c : Int) % 7)) l b B _ (by omega) (by omega) HM.out hl hB).mono ?_
  rintro e w' ⟨rfl, hM, hb⟩
  have HR := Lib.hid (And.intro hM hb)
  clear hM hb
  go_wp2
  go_end0
  refine ⟨rfl, ?_, HR.out.2⟩
  rw [HC.out]
  exact HR.out.1

set_option maxRecDepth 100000 in
set_option maxHeartbeats 2000000 in
theorem chr_dig (c : Nat) (l : List Gl) (b B : Nat) (w : World) (h1 : 48 ≤ c) (h2 : c ≤ 57) (hm : Mk w b l) (hl : l.length ≤ 1000) (hB : B ≤ b) :
    Calls Tryd.prog 37 #[.pointer (some ⟨b, 0, none⟩), .int .i32 (c : Int)] w (RetMk w b B (l ++ [chr c])) := by
  have HC : Hid (chr c = glOf [c.toUInt8] 500 644 0 0) := by show chr c = _; unfold chr; rw [if_neg (by omega), if_neg (by omega), if_pos ⟨h1, h2⟩]
  have HM := Lib.hid hm
  clear hm
  have z0 : ¬ (97 : Int) ≤ (c : Int) := by omega
  have z3 : ¬ (65 : Int) ≤ (c : Int) := by omega
  have z1 : (48 : Int) ≤ (c : Int) := by omega
  have z2 : (c : Int) ≤ 57 := by omega
  go_enter Tryd.func37, Tryd.ntmps37
  go_wp2_with fail
  rw [enc_ascii c (by omega)]
  refine (add_any [c.toUInt8] (500) 644 0 (0) l b B _ (by omega) (by omega) HM.out hl hB).mono ?_
  rintro e w' ⟨rfl, hM, hb⟩
  have HR := Lib.hid (And.intro hM hb)
  clear hM hb
  go_wp2
  go_end0
  refine ⟨rfl, ?_, HR.out.2⟩
  rw [HC.out]
  exact HR.out.1

set_option maxRecDepth 100000 in
set_option maxHeartbeats 2000000 in
theorem chr_o1 (c : Nat) (l : List Gl) (b B : Nat) (w : World) (h1 : 33 ≤ c) (h2 : c < 48) (hm : Mk w b l) (hl : l.length ≤ 1000) (hB : B ≤ b) :
    Calls Tryd.prog 37 #[.pointer (some ⟨b, 0, none⟩), .int .i32 (c : Int)] w (RetMk w b B (l ++ [chr c])) := by
  have HC : Hid (chr c = if inS s3 c then glOf [c.toUInt8] 389 750 250 0 else glOf [c.toUInt8] (wd c) 583 83 0) := by show chr c = _; unfold chr; rw [if_neg (by omega), if_neg (by omega), if_neg (by omega)]
  have HM := Lib.hid hm
  clear hm
  have z0 : ¬ (97 : Int) ≤ (c : Int) := by omega
  have z1 : ¬ (65 : Int) ≤ (c : Int) := by omega
  have z2 : ¬ (48 : Int) ≤ (c : Int) := by omega
  go_enter Tryd.func37, Tryd.ntmps37
  go_wp2_with fail
  refine (contains_any s3 c _ (by omega)).mono ?_
  rintro e w' ⟨rfl, rfl⟩
  cases e1 : inS s3 c
  case false =>
    rw [e1] at HC
    clear e1
    go_wp2_with fail
    rw [enc_ascii c (by omega)]
    refine (add_any [c.toUInt8] (400 + 10 * (7 * (c : Int) % 31)) 583 83 (0) l b B _ (by omega) (by omega) HM.out hl hB).mono ?_
    rintro e w' ⟨rfl, hM, hb⟩
    have HR := Lib.hid (And.intro hM hb)
    clear hM hb
    go_wp2
    go_end0
    refine ⟨rfl, ?_, HR.out.2⟩
    rw [HC.out]
    exact HR.out.1
  case true =>
    rw [e1] at HC
    clear e1
    go_wp2_with fail
    rw [enc_ascii c (by omega)]
    refine (add_any [c.toUInt8] (389) 750 250 (0) l b B _ (by omega) (by omega) HM.out hl hB).mono ?_
    rintro e w' ⟨rfl, hM, hb⟩
    have HR := Lib.hid (And.intro hM hb)
    clear hM hb
    go_wp2
    go_end0
    refine ⟨rfl, ?_, HR.out.2⟩
    rw [HC.out]
    exact HR.out.1

set_option maxRecDepth 100000 in
set_option maxHeartbeats 2000000 in
theorem chr_o2 (c : Nat) (l : List Gl) (b B : Nat) (w : World) (h1 : 57 < c) (h2 : c < 65) (hm : Mk w b l) (hl : l.length ≤ 1000) (hB : B ≤ b) :
    Calls Tryd.prog 37 #[.pointer (some ⟨b, 0, none⟩), .int .i32 (c : Int)] w (RetMk w b B (l ++ [chr c])) := by
  have HC : Hid (chr c = if inS s3 c then glOf [c.toUInt8] 389 750 250 0 else glOf [c.toUInt8] (wd c) 583 83 0) := by show chr c = _; unfold chr; rw [if_neg (by omega), if_neg (by omega), if_neg (by omega)]
  have HM := Lib.hid hm
  clear hm
  have z0 : ¬ (97 : Int) ≤ (c : Int) := by omega
  have z1 : ¬ (65 : Int) ≤ (c : Int) := by omega
  have z2 : (48 : Int) ≤ (c : Int) := by omega
  have z3 : ¬ (c : Int) ≤ 57 := by omega
  go_enter Tryd.func37, Tryd.ntmps37
  go_wp2_with fail
  refine (contains_any s3 c _ (by omega)).mono ?_
  rintro e w' ⟨rfl, rfl⟩
  cases e1 : inS s3 c
  case false =>
    rw [e1] at HC
    clear e1
    go_wp2_with fail
    rw [enc_ascii c (by omega)]
    refine (add_any [c.toUInt8] (400 + 10 * (7 * (c : Int) % 31)) 583 83 (0) l b B _ (by omega) (by omega) HM.out hl hB).mono ?_
    rintro e w' ⟨rfl, hM, hb⟩
    have HR := Lib.hid (And.intro hM hb)
    clear hM hb
    go_wp2
    go_end0
    refine ⟨rfl, ?_, HR.out.2⟩
    rw [HC.out]
    exact HR.out.1
  case true =>
    rw [e1] at HC
    clear e1
    go_wp2_with fail
    rw [enc_ascii c (by omega)]
    refine (add_any [c.toUInt8] (389) 750 250 (0) l b B _ (by omega) (by omega) HM.out hl hB).mono ?_
    rintro e w' ⟨rfl, hM, hb⟩
    have HR := Lib.hid (And.intro hM hb)
    clear hM hb
    go_wp2
    go_end0
    refine ⟨rfl, ?_, HR.out.2⟩
    rw [HC.out]
    exact HR.out.1

set_option maxRecDepth 100000 in
set_option maxHeartbeats 2000000 in
theorem chr_o3 (c : Nat) (l : List Gl) (b B : Nat) (w : World) (h1 : 90 < c) (h2 : c < 97) (hm : Mk w b l) (hl : l.length ≤ 1000) (hB : B ≤ b) :
    Calls Tryd.prog 37 #[.pointer (some ⟨b, 0, none⟩), .int .i32 (c : Int)] w (RetMk w b B (l ++ [chr c])) := by
  have HC : Hid (chr c = if inS s3 c then glOf [c.toUInt8] 389 750 250 0 else glOf [c.toUInt8] (wd c) 583 83 0) := by show chr c = _; unfold chr; rw [if_neg (by omega), if_neg (by omega), if_neg (by omega)]
  have HM := Lib.hid hm
  clear hm
  have z0 : ¬ (97 : Int) ≤ (c : Int) := by omega
  have z1 : (65 : Int) ≤ (c : Int) := by omega
  have z2 : ¬ (c : Int) ≤ 90 := by omega
  have z3 : (48 : Int) ≤ (c : Int) := by omega
  have z4 : ¬ (c : Int) ≤ 57 := by omega
  go_enter Tryd.func37, Tryd.ntmps37
  go_wp2_with fail
  refine (contains_any s3 c _ (by omega)).mono ?_
  rintro e w' ⟨rfl, rfl⟩
  cases e1 : inS s3 c
  case false =>
    rw [e1] at HC
    clear e1
    go_wp2_with fail
    rw [enc_ascii c (by omega)]
    refine (add_any [c.toUInt8] (400 + 10 * (7 * (c : Int) % 31)) 583 83 (0) l b B _ (by omega) (by omega) HM.out hl hB).mono ?_
    rintro e w' ⟨rfl, hM, hb⟩
    have HR := Lib.hid (And.intro hM hb)
    clear hM hb
    go_wp2
    go_end0
    refine ⟨rfl, ?_, HR.out.2⟩
    rw [HC.out]
    exact HR.out.1
  case true =>
    rw [e1] at HC
    clear e1
    go_wp2_with fail
    rw [enc_ascii c (by omega)]
    refine (add_any [c.toUInt8] (389) 750 250 (0) l b B _ (by omega) (by omega) HM.out hl hB).mono ?_
    rintro e w' ⟨rfl, hM, hb⟩
    have HR := Lib.hid (And.intro hM hb)
    clear hM hb
    go_wp2
    go_end0
    refine ⟨rfl, ?_, HR.out.2⟩
    rw [HC.out]
    exact HR.out.1

set_option maxRecDepth 100000 in
set_option maxHeartbeats 2000000 in
theorem chr_o4 (c : Nat) (l : List Gl) (b B : Nat) (w : World) (h1 : 122 < c) (h2 : c ≤ 126) (hm : Mk w b l) (hl : l.length ≤ 1000) (hB : B ≤ b) :
    Calls Tryd.prog 37 #[.pointer (some ⟨b, 0, none⟩), .int .i32 (c : Int)] w (RetMk w b B (l ++ [chr c])) := by
  have HC : Hid (chr c = if inS s3 c then glOf [c.toUInt8] 389 750 250 0 else glOf [c.toUInt8] (wd c) 583 83 0) := by show chr c = _; unfold chr; rw [if_neg (by omega), if_neg (by omega), if_neg (by omega)]
  have HM := Lib.hid hm
  clear hm
  have z0 : (97 : Int) ≤ (c : Int) := by omega
  have z1 : ¬ (c : Int) ≤ 122 := by omega
  have z2 : (65 : Int) ≤ (c : Int) := by omega
  have z3 : ¬ (c : Int) ≤ 90 := by omega
  have z4 : (48 : Int) ≤ (c : Int) := by omega
  have z5 : ¬ (c : Int) ≤ 57 := by omega
  go_enter Tryd.func37, Tryd.ntmps37
  go_wp2_with fail
  refine (contains_any s3 c _ (by omega)).mono ?_
  rintro e w' ⟨rfl, rfl⟩
  cases e1 : inS s3 c
  case false =>
    rw [e1] at HC
    clear e1
    go_wp2_with fail
    rw [enc_ascii c (by omega)]
    refine (add_any [c.toUInt8] (400 + 10 * (7 * (c : Int) % 31)) 583 83 (0) l b B _ (by omega) (by omega) HM.out hl hB).mono ?_
    rintro e w' ⟨rfl, hM, hb⟩
    have HR := Lib.hid (And.intro hM hb)
    clear hM hb
    go_wp2
    go_end0
    refine ⟨rfl, ?_, HR.out.2⟩
    rw [HC.out]
    exact HR.out.1
  case true =>
    rw [e1] at HC
    clear e1
    go_wp2_with fail
    rw [enc_ascii c (by omega)]
    refine (add_any [c.toUInt8] (389) 750 250 (0) l b B _ (by omega) (by omega) HM.out hl hB).mono ?_
    rintro e w' ⟨rfl, hM, hb⟩
    have HR := Lib.hid (And.intro hM hb)
    clear hM hb
    go_wp2
    go_end0
    refine ⟨rfl, ?_, HR.out.2⟩
    rw [HC.out]
    exact HR.out.1


theorem chr_any (c : Nat) (l : List Gl) (b B : Nat) (w : World) (h1 : 33 ≤ c) (h2 : c ≤ 126) (hm : Mk w b l) (hl : l.length ≤ 1000) (hB : B ≤ b) :
    Calls Tryd.prog 37 #[.pointer (some ⟨b, 0, none⟩), .int .i32 (c : Int)] w (RetMk w b B (l ++ [chr c])) := by
  by_cases a1 : c < 48
  · exact chr_o1 c l b B w h1 a1 hm hl hB
  by_cases a2 : c ≤ 57
  · exact chr_dig c l b B w (by omega) a2 hm hl hB
  by_cases a3 : c < 65
  · exact chr_o2 c l b B w (by omega) a3 hm hl hB
  by_cases a4 : c ≤ 90
  · exact chr_up c l b B w (by omega) a4 hm hl hB
  by_cases a5 : c < 97
  · exact chr_o3 c l b B w (by omega) a5 hm hl hB
  by_cases a6 : c ≤ 122
  · exact chr_low c l b B w (by omega) a6 hm hl hB
  · exact chr_o4 c l b B w (by omega) h2 hm hl hB
end Go.Proofs.YthgkdeaapjdadaaDoor
