/- Contract of the reference's character. -/
import Derived.Test.YthgkdeaapjdadaaDoorRefC
import Derived.Test.YthgkdeaapjdadaaDoorComplete
namespace Go.Proofs.YthgkdeaapjdadaaDoor
open Go.RowKit

/-- the glyph of a character, as the reference lays it -/
def rchr (c : Nat) : Gl :=
  if 97 ≤ c ∧ c ≤ 122 then ⟨[c.toUInt8], wd c, if hasB s1 c then 694 else 431, if hasB s2 c then 194 else 0, ital c, 0⟩
  else if 65 ≤ c ∧ c ≤ 90 then ⟨[c.toUInt8], wd c, 683, 0, ital c, 0⟩
  else if 48 ≤ c ∧ c ≤ 57 then ⟨[c.toUInt8], 500, 644, 0, 0, 0⟩
  else if hasB s3 c then ⟨[c.toUInt8], 389, 750, 250, 0, 0⟩
  else ⟨[c.toUInt8], wd c, 583, 83, 0, 0⟩


set_option maxRecDepth 100000 in
set_option maxHeartbeats 2000000 in
theorem rchr_low (c : Nat) (w : World) (h1 : 97 ≤ c) (h2 : c ≤ 122) :
    Calls Tryd.prog 53 #[.int .u8 (c : Int)] w fun e w' => e = .returned (rchr c).val ∧ Below w.heap.size w w' := by
  have HC : Hid (rchr c = ⟨[c.toUInt8], wd c, if hasB s1 c then 694 else 431, if hasB s2 c then 194 else 0, ital c, 0⟩) := by show rchr c = _; unfold rchr; rw [if_pos ⟨h1, h2⟩]
  have hcv := conv_one (c : Int) (w.alloc (.cells #[.string ⟨#[]⟩, .int .i64 0, .int .i64 0, .int .i64 0, .int .i64 0, .int .i64 0] 32))
  rw [World.size_alloc] at hcv
  obtain ⟨u, hu⟩ : ∃ u, u = UInt8.ofNat (c : Int).toNat := ⟨_, rfl⟩
  have HU : Hid (c.toUInt8 = u) := by show c.toUInt8 = u; rw [hu]; rfl
  rw [← hu] at hcv
  clear hu
  have z1 : (97 : Int) ≤ (c : Int) := by omega
  have z2 : (c : Int) ≤ 122 := by omega
  go_enter Tryd.func53, Tryd.ntmps53
  go_wp2_with fail
  refine (hasL_any s1 c _ (by decide)).mono ?_
  rintro e w' ⟨rfl, rfl⟩
  cases e1 : hasB s1 c
  case false =>
    rw [e1] at HC
    clear e1
    go_wp2_with fail
    refine (hasL_any s2 c _ (by decide)).mono ?_
    rintro e w' ⟨rfl, rfl⟩
    cases e2 : hasB s2 c
    case false =>
      rw [e2] at HC
      clear e2
      go_wp2_with fail
      refine bodyPost_ret (v := (Gl.mk [u] (400 + 10 * (7 * (c : Int) % 31)) 431 0 (10 * (3 * (c : Int) % 7)) 0).val) (by simp [results, Tryd.results53, go_sem]; rfl) rfl ⟨?_, ?_⟩
      · rw [HC.out, HU.out] <;> rfl
      · exact (((Below.refl _ _).alloc (Nat.le_refl _) _).alloc (by simp) _).alloc (by simp; omega) _
    case true =>
      rw [e2] at HC
      clear e2
      go_wp2_with fail
      refine bodyPost_ret (v := (Gl.mk [u] (400 + 10 * (7 * (c : Int) % 31)) 431 194 (10 * (3 * (c : Int) % 7)) 0).val) (by simp [results, Tryd.results53, go_sem]; rfl) rfl ⟨?_, ?_⟩
      · rw [HC.out, HU.out] <;> rfl
      · exact (((Below.refl _ _).alloc (Nat.le_refl _) _).alloc (by simp) _).alloc (by simp; omega) _
  case true =>
    rw [e1] at HC
    clear e1
    go_wp2_with fail
    refine (hasL_any s2 c _ (by decide)).mono ?_
    rintro e w' ⟨rfl, rfl⟩
    cases e2 : hasB s2 c
    case false =>
      rw [e2] at HC
      clear e2
      go_wp2_with fail
      refine bodyPost_ret (v := (Gl.mk [u] (400 + 10 * (7 * (c : Int) % 31)) 694 0 (10 * (3 * (c : Int) % 7)) 0).val) (by simp [results, Tryd.results53, go_sem]; rfl) rfl ⟨?_, ?_⟩
      · rw [HC.out, HU.out] <;> rfl
      · exact (((Below.refl _ _).alloc (Nat.le_refl _) _).alloc (by simp) _).alloc (by simp; omega) _
    case true =>
      rw [e2] at HC
      clear e2
      go_wp2_with fail
      refine bodyPost_ret (v := (Gl.mk [u] (400 + 10 * (7 * (c : Int) % 31)) 694 194 (10 * (3 * (c : Int) % 7)) 0).val) (by simp [results, Tryd.results53, go_sem]; rfl) rfl ⟨?_, ?_⟩
      · rw [HC.out, HU.out] <;> rfl
      · exact (((Below.refl _ _).alloc (Nat.le_refl _) _).alloc (by simp) _).alloc (by simp; omega) _


set_option maxRecDepth 100000 in
set_option maxHeartbeats 2000000 in
theorem rchr_up (c : Nat) (w : World) (h1 : 65 ≤ c) (h2 : c ≤ 90) :
    Calls Tryd.prog 53 #[.int .u8 (c : Int)] w fun e w' => e = .returned (rchr c).val ∧ Below w.heap.size w w' := by
  have HC : Hid (rchr c = ⟨[c.toUInt8], wd c, 683, 0, ital c, 0⟩) := by show rchr c = _; unfold rchr; rw [if_neg (by omega), if_pos ⟨h1, h2⟩]
  have hcv := conv_one (c : Int) (w.alloc (.cells #[.string ⟨#[]⟩, .int .i64 0, .int .i64 0, .int .i64 0, .int .i64 0, .int .i64 0] 32))
  rw [World.size_alloc] at hcv
  obtain ⟨u, hu⟩ : ∃ u, u = UInt8.ofNat (c : Int).toNat := ⟨_, rfl⟩
  have HU : Hid (c.toUInt8 = u) := by show c.toUInt8 = u; rw [hu]; rfl
  rw [← hu] at hcv
  clear hu
  have z0 : ¬ (97 : Int) ≤ (c : Int) := by omega
  have z1 : (65 : Int) ≤ (c : Int) := by omega
  have z2 : (c : Int) ≤ 90 := by omega
  go_enter Tryd.func53, Tryd.ntmps53
  go_wp2_with fail
  refine bodyPost_ret (v := (Gl.mk [u] (400 + 10 * (7 * (c : Int) % 31)) 683 0 (10 * (3 * (c : Int) % 7)) 0).val) (by simp [results, Tryd.results53, go_sem]; rfl) rfl ⟨?_, ?_⟩
  · rw [HC.out, HU.out] <;> rfl
  · exact (((Below.refl _ _).alloc (Nat.le_refl _) _).alloc (by simp) _).alloc (by simp; omega) _

set_option maxRecDepth 100000 in
set_option maxHeartbeats 2000000 in
theorem rchr_dig (c : Nat) (w : World) (h1 : 48 ≤ c) (h2 : c ≤ 57) :
    Calls Tryd.prog 53 #[.int .u8 (c : Int)] w fun e w' => e = .returned (rchr c).val ∧ Below w.heap.size w w' := by
  have HC : Hid (rchr c = ⟨[c.toUInt8], 500, 644, 0, 0, 0⟩) := by show rchr c = _; unfold rchr; rw [if_neg (by omega), if_neg (by omega), if_pos ⟨h1, h2⟩]
  have hcv := conv_one (c : Int) (w.alloc (.cells #[.string ⟨#[]⟩, .int .i64 0, .int .i64 0, .int .i64 0, .int .i64 0, .int .i64 0] 32))
  rw [World.size_alloc] at hcv
  obtain ⟨u, hu⟩ : ∃ u, u = UInt8.ofNat (c : Int).toNat := ⟨_, rfl⟩
  have HU : Hid (c.toUInt8 = u) := by show c.toUInt8 = u; rw [hu]; rfl
  rw [← hu] at hcv
  clear hu
  have z0 : ¬ (97 : Int) ≤ (c : Int) := by omega
  have z3 : ¬ (65 : Int) ≤ (c : Int) := by omega
  have z1 : (48 : Int) ≤ (c : Int) := by omega
  have z2 : (c : Int) ≤ 57 := by omega
  go_enter Tryd.func53, Tryd.ntmps53
  go_wp2_with fail
  refine bodyPost_ret (v := (Gl.mk [u] (500) 644 0 (0) 0).val) (by simp [results, Tryd.results53, go_sem]; rfl) rfl ⟨?_, ?_⟩
  · rw [HC.out, HU.out] <;> rfl
  · exact (((Below.refl _ _).alloc (Nat.le_refl _) _).alloc (by simp) _).alloc (by simp; omega) _

set_option maxRecDepth 100000 in
set_option maxHeartbeats 2000000 in
theorem rchr_o1 (c : Nat) (w : World) (h1 : 33 ≤ c) (h2 : c < 48) :
    Calls Tryd.prog 53 #[.int .u8 (c : Int)] w fun e w' => e = .returned (rchr c).val ∧ Below w.heap.size w w' := by
  have HC : Hid (rchr c = if hasB s3 c then ⟨[c.toUInt8], 389, 750, 250, 0, 0⟩ else ⟨[c.toUInt8], wd c, 583, 83, 0, 0⟩) := by show rchr c = _; unfold rchr; rw [if_neg (by omega), if_neg (by omega), if_neg (by omega)]
  have hcv := conv_one (c : Int) (w.alloc (.cells #[.string ⟨#[]⟩, .int .i64 0, .int .i64 0, .int .i64 0, .int .i64 0, .int .i64 0] 32))
  rw [World.size_alloc] at hcv
  obtain ⟨u, hu⟩ : ∃ u, u = UInt8.ofNat (c : Int).toNat := ⟨_, rfl⟩
  have HU : Hid (c.toUInt8 = u) := by show c.toUInt8 = u; rw [hu]; rfl
  rw [← hu] at hcv
  clear hu
  have z0 : ¬ (97 : Int) ≤ (c : Int) := by omega
  have z1 : ¬ (65 : Int) ≤ (c : Int) := by omega
  have z2 : ¬ (48 : Int) ≤ (c : Int) := by omega
  go_enter Tryd.func53, Tryd.ntmps53
  go_wp2_with fail
  refine (hasL_any s3 c _ (by decide)).mono ?_
  rintro e w' ⟨rfl, rfl⟩
  cases e1 : hasB s3 c
  case false =>
    rw [e1] at HC
    clear e1
    go_wp2_with fail
    refine bodyPost_ret (v := (Gl.mk [u] (400 + 10 * (7 * (c : Int) % 31)) 583 83 (0) 0).val) (by simp [results, Tryd.results53, go_sem]; rfl) rfl ⟨?_, ?_⟩
    · rw [HC.out, HU.out] <;> rfl
    · exact (((Below.refl _ _).alloc (Nat.le_refl _) _).alloc (by simp) _).alloc (by simp; omega) _
  case true =>
    rw [e1] at HC
    clear e1
    go_wp2_with fail
    refine bodyPost_ret (v := (Gl.mk [u] (389) 750 250 (0) 0).val) (by simp [results, Tryd.results53, go_sem]; rfl) rfl ⟨?_, ?_⟩
    · rw [HC.out, HU.out] <;> rfl
    · exact (((Below.refl _ _).alloc (Nat.le_refl _) _).alloc (by simp) _).alloc (by simp; omega) _

set_option maxRecDepth 100000 in
set_option maxHeartbeats 2000000 in
theorem rchr_o2 (c : Nat) (w : World) (h1 : 57 < c) (h2 : c < 65) :
    Calls Tryd.prog 53 #[.int .u8 (c : Int)] w fun e w' => e = .returned (rchr c).val ∧ Below w.heap.size w w' := by
  have HC : Hid (rchr c = if hasB s3 c then ⟨[c.toUInt8], 389, 750, 250, 0, 0⟩ else ⟨[c.toUInt8], wd c, 583, 83, 0, 0⟩) := by show rchr c = _; unfold rchr; rw [if_neg (by omega), if_neg (by omega), if_neg (by omega)]
  have hcv := conv_one (c : Int) (w.alloc (.cells #[.string ⟨#[]⟩, .int .i64 0, .int .i64 0, .int .i64 0, .int .i64 0, .int .i64 0] 32))
  rw [World.size_alloc] at hcv
  obtain ⟨u, hu⟩ : ∃ u, u = UInt8.ofNat (c : Int).toNat := ⟨_, rfl⟩
  have HU : Hid (c.toUInt8 = u) := by show c.toUInt8 = u; rw [hu]; rfl
  rw [← hu] at hcv
  clear hu
  have z0 : ¬ (97 : Int) ≤ (c : Int) := by omega
  have z1 : ¬ (65 : Int) ≤ (c : Int) := by omega
  have z2 : (48 : Int) ≤ (c : Int) := by omega
  have z3 : ¬ (c : Int) ≤ 57 := by omega
  go_enter Tryd.func53, Tryd.ntmps53
  go_wp2_with fail
  refine (hasL_any s3 c _ (by decide)).mono ?_
  rintro e w' ⟨rfl, rfl⟩
  cases e1 : hasB s3 c
  case false =>
    rw [e1] at HC
    clear e1
    go_wp2_with fail
    refine bodyPost_ret (v := (Gl.mk [u] (400 + 10 * (7 * (c : Int) % 31)) 583 83 (0) 0).val) (by simp [results, Tryd.results53, go_sem]; rfl) rfl ⟨?_, ?_⟩
    · rw [HC.out, HU.out] <;> rfl
    · exact (((Below.refl _ _).alloc (Nat.le_refl _) _).alloc (by simp) _).alloc (by simp; omega) _
  case true =>
    rw [e1] at HC
    clear e1
    go_wp2_with fail
    refine bodyPost_ret (v := (Gl.mk [u] (389) 750 250 (0) 0).val) (by simp [results, Tryd.results53, go_sem]; rfl) rfl ⟨?_, ?_⟩
    · rw [HC.out, HU.out] <;> rfl
    · exact (((Below.refl _ _).alloc (Nat.le_refl _) _).alloc (by simp) _).alloc (by simp; omega) _

set_option maxRecDepth 100000 in
set_option maxHeartbeats 2000000 in
theorem rchr_o3 (c : Nat) (w : World) (h1 : 90 < c) (h2 : c < 97) :
    Calls Tryd.prog 53 #[.int .u8 (c : Int)] w fun e w' => e = .returned (rchr c).val ∧ Below w.heap.size w w' := by
  have HC : Hid (rchr c = if hasB s3 c then ⟨[c.toUInt8], 389, 750, 250, 0, 0⟩ else ⟨[c.toUInt8], wd c, 583, 83, 0, 0⟩) := by show rchr c = _; unfold rchr; rw [if_neg (by omega), if_neg (by omega), if_neg (by omega)]
  have hcv := conv_one (c : Int) (w.alloc (.cells #[.string ⟨#[]⟩, .int .i64 0, .int .i64 0, .int .i64 0, .int .i64 0, .int .i64 0] 32))
  rw [World.size_alloc] at hcv
  obtain ⟨u, hu⟩ : ∃ u, u = UInt8.ofNat (c : Int).toNat := ⟨_, rfl⟩
  have HU : Hid (c.toUInt8 = u) := by show c.toUInt8 = u; rw [hu]; rfl
  rw [← hu] at hcv
  clear hu
  have z0 : ¬ (97 : Int) ≤ (c : Int) := by omega
  have z1 : (65 : Int) ≤ (c : Int) := by omega
  have z2 : ¬ (c : Int) ≤ 90 := by omega
  have z3 : (48 : Int) ≤ (c : Int) := by omega
  have z4 : ¬ (c : Int) ≤ 57 := by omega
  go_enter Tryd.func53, Tryd.ntmps53
  go_wp2_with fail
  refine (hasL_any s3 c _ (by decide)).mono ?_
  rintro e w' ⟨rfl, rfl⟩
  cases e1 : hasB s3 c
  case false =>
    rw [e1] at HC
    clear e1
    go_wp2_with fail
    refine bodyPost_ret (v := (Gl.mk [u] (400 + 10 * (7 * (c : Int) % 31)) 583 83 (0) 0).val) (by simp [results, Tryd.results53, go_sem]; rfl) rfl ⟨?_, ?_⟩
    · rw [HC.out, HU.out] <;> rfl
    · exact (((Below.refl _ _).alloc (Nat.le_refl _) _).alloc (by simp) _).alloc (by simp; omega) _
  case true =>
    rw [e1] at HC
    clear e1
    go_wp2_with fail
    refine bodyPost_ret (v := (Gl.mk [u] (389) 750 250 (0) 0).val) (by simp [results, Tryd.results53, go_sem]; rfl) rfl ⟨?_, ?_⟩
    · rw [HC.out, HU.out] <;> rfl
    · exact (((Below.refl _ _).alloc (Nat.le_refl _) _).alloc (by simp) _).alloc (by simp; omega) _

set_option maxRecDepth 100000 in
set_option maxHeartbeats 2000000 in
theorem rchr_o4 (c : Nat) (w : World) (h1 : 122 < c) (h2 : c ≤ 126) :
    Calls Tryd.prog 53 #[.int .u8 (c : Int)] w fun e w' => e = .returned (rchr c).val ∧ Below w.heap.size w w' := by
  have HC : Hid (rchr c = if hasB s3 c then ⟨[c.toUInt8], 389, 750, 250, 0, 0⟩ else ⟨[c.toUInt8], wd c, 583, 83, 0, 0⟩) := by show rchr c = _; unfold rchr; rw [if_neg (by omega), if_neg (by omega), if_neg (by omega)]
  have hcv := conv_one (c : Int) (w.alloc (.cells #[.string ⟨#[]⟩, .int .i64 0, .int .i64 0, .int .i64 0, .int .i64 0, .int .i64 0] 32))
  rw [World.size_alloc] at hcv
  obtain ⟨u, hu⟩ : ∃ u, u = UInt8.ofNat (c : Int).toNat := ⟨_, rfl⟩
  have HU : Hid (c.toUInt8 = u) := by show c.toUInt8 = u; rw [hu]; rfl
  rw [← hu] at hcv
  clear hu
  have z0 : (97 : Int) ≤ (c : Int) := by omega
  have z1 : ¬ (c : Int) ≤ 122 := by omega
  have z2 : (65 : Int) ≤ (c : Int) := by omega
  have z3 : ¬ (c : Int) ≤ 90 := by omega
  have z4 : (48 : Int) ≤ (c : Int) := by omega
  have z5 : ¬ (c : Int) ≤ 57 := by omega
  go_enter Tryd.func53, Tryd.ntmps53
  go_wp2_with fail
  refine (hasL_any s3 c _ (by decide)).mono ?_
  rintro e w' ⟨rfl, rfl⟩
  cases e1 : hasB s3 c
  case false =>
    rw [e1] at HC
    clear e1
    go_wp2_with fail
    refine bodyPost_ret (v := (Gl.mk [u] (400 + 10 * (7 * (c : Int) % 31)) 583 83 (0) 0).val) (by simp [results, Tryd.results53, go_sem]; rfl) rfl ⟨?_, ?_⟩
    · rw [HC.out, HU.out] <;> rfl
    · exact (((Below.refl _ _).alloc (Nat.le_refl _) _).alloc (by simp) _).alloc (by simp; omega) _
  case true =>
    rw [e1] at HC
    clear e1
    go_wp2_with fail
    refine bodyPost_ret (v := (Gl.mk [u] (389) 750 250 (0) 0).val) (by simp [results, Tryd.results53, go_sem]; rfl) rfl ⟨?_, ?_⟩
    · rw [HC.out, HU.out] <;> rfl
    · exact (((Below.refl _ _).alloc (Nat.le_refl _) _).alloc (by simp) _).alloc (by simp; omega) _


theorem rchr_any (c : Nat) (w : World) (h1 : 33 ≤ c) (h2 : c ≤ 126) :
    Calls Tryd.prog 53 #[.int .u8 (c : Int)] w fun e w' => e = .returned (rchr c).val ∧ Below w.heap.size w w' := by
  by_cases a1 : c < 48
  · exact rchr_o1 c w h1 a1
  by_cases a2 : c ≤ 57
  · exact rchr_dig c w (by omega) a2
  by_cases a3 : c < 65
  · exact rchr_o2 c w (by omega) a3
  by_cases a4 : c ≤ 90
  · exact rchr_up c w (by omega) a4
  by_cases a5 : c < 97
  · exact rchr_o3 c w (by omega) a5
  by_cases a6 : c ≤ 122
  · exact rchr_low c w (by omega) a6
  · exact rchr_o4 c w (by omega) h2
end Go.Proofs.YthgkdeaapjdadaaDoor
