/- Contract of the maker's greek. -/
import Derived.Test.YthgkdeaapjdadaaDoorChr
namespace Go.Proofs.YthgkdeaapjdadaaDoor
open Go.RowKit

theorem cell_blk {w : World} {b : Nat} {cs : Array Value} {t : TypeId} {fr : Nat × Nat} (h : w.heap[b]? = some (.cells cs t fr)) (k : Nat) : w.cell? ⟨b, k, none⟩ = cs[k]? := by
  simp [World.cell?, h]
theorem blk_new (w : World) (o : Obj) : (w.alloc o).heap[w.heap.size]? = some o := by
  show (w.heap.push o)[w.heap.size]? = _
  simp
theorem Mk.alloc {w : World} {b : Nat} {l : List Gl} (h : Mk w b l) (o : Obj) : Mk (w.alloc o) b l := h.below ((Below.refl _ _).alloc (Nat.le_refl _) _)
theorem Keep.alloc {b : Nat} {w0 w : World} (h : Keep b w0 w) (o : Obj) : Keep b w0 (w.alloc o) := h.trans (Keep.of_below ((Below.refl _ _).alloc (Nat.le_refl _) _))
/-- a block of another type is kept -/
theorem Keep.blk {b k : Nat} {w w' : World} {cs : Array Value} {t : TypeId} {fr : Nat × Nat} (h : Keep b w w') (hk : w.heap[k]? = some (.cells cs t fr)) (hb : k ≠ b) (ht : t ≠ 32) : w'.heap[k]? = some (.cells cs t fr) := by
  have hlt : k < w.heap.size := by
    rcases Nat.lt_or_ge k w.heap.size with h' | h'
    · exact h'
    · rw [Array.getElem?_eq_none h'] at hk; cases hk
  rw [h.2 k hlt hb (fun cs' fr' e => by rw [hk] at e; cases e; exact ht rfl)]; exact hk

def greekL : List Gl := [glOf [97, 108, 112, 104, 97] 480 431 0 20, glOf [98, 101, 116, 97] 495 694 194 20, glOf [103, 97, 109, 109, 97] 510 431 194 20, glOf [100, 101, 108, 116, 97] 525 694 0 20, glOf [101, 112, 115, 105, 108, 111, 110] 540 431 0 20, glOf [116, 104, 101, 116, 97] 555 694 0 20, glOf [108, 97, 109, 98, 100, 97] 570 694 0 20, glOf [109, 117] 585 431 194 20, glOf [112, 105] 600 431 0 20, glOf [114, 104, 111] 615 431 194 20, glOf [115, 105, 103, 109, 97] 630 431 0 20, glOf [116, 97, 117] 645 431 0 20, glOf [112, 104, 105] 660 431 194 20, glOf [111, 109, 101, 103, 97] 675 431 0 20]
def greekC : Array Value := #[.string ⟨#[97, 108, 112, 104, 97]⟩, .string ⟨#[98, 101, 116, 97]⟩, .string ⟨#[103, 97, 109, 109, 97]⟩, .string ⟨#[100, 101, 108, 116, 97]⟩, .string ⟨#[101, 112, 115, 105, 108, 111, 110]⟩, .string ⟨#[116, 104, 101, 116, 97]⟩, .string ⟨#[108, 97, 109, 98, 100, 97]⟩, .string ⟨#[109, 117]⟩, .string ⟨#[112, 105]⟩, .string ⟨#[114, 104, 111]⟩, .string ⟨#[115, 105, 103, 109, 97]⟩, .string ⟨#[116, 97, 117]⟩, .string ⟨#[112, 104, 105]⟩, .string ⟨#[111, 109, 101, 103, 97]⟩]

set_option maxRecDepth 100000 in
set_option maxHeartbeats 8000000 in
theorem greek_any (l : List Gl) (b B : Nat) (w : World) (hm : Mk w b l) (hl : l.length ≤ 500) (hB : B ≤ b) :
    Calls Tryd.prog 38 #[.pointer (some ⟨b, 0, none⟩)] w (RetMk w b B (l ++ greekL)) := by
  have hlt := hm.lt
  have HM := Lib.hid (hm.alloc (.cells greekC 9))
  have HK := Lib.hid ((Keep.refl b w).alloc (.cells greekC 9))
  have HBl := Lib.hid (blk_new w (.cells greekC 9))
  have HB : Hid (Below B w (w.alloc (.cells greekC 9))) := Lib.hid ((Below.refl _ _).alloc (by omega) _)
  have nb : w.heap.size ≠ b := by omega
  clear hm
  unfold greekC at HM HK HBl HB
  go_enter Tryd.func38, Tryd.ntmps38
  go_wp2_with fail
  go_loopg [10] 14 (fun gg s10 wr => ∃ k : Nat, k ≤ 14 ∧ 14 - k ≤ gg ∧ s10 = .int .i64 k ∧ Aside (Mk wr b (l ++ greekL.take k)) ∧ Aside (Below B w wr) ∧ Aside (Keep b w wr) ∧ Aside (wr.heap[w.heap.size]? = some (.cells #[.string ⟨#[97, 108, 112, 104, 97]⟩, .string ⟨#[98, 101, 116, 97]⟩, .string ⟨#[103, 97, 109, 109, 97]⟩, .string ⟨#[100, 101, 108, 116, 97]⟩, .string ⟨#[101, 112, 115, 105, 108, 111, 110]⟩, .string ⟨#[116, 104, 101, 116, 97]⟩, .string ⟨#[108, 97, 109, 98, 100, 97]⟩, .string ⟨#[109, 117]⟩, .string ⟨#[112, 105]⟩, .string ⟨#[114, 104, 111]⟩, .string ⟨#[115, 105, 103, 109, 97]⟩, .string ⟨#[116, 97, 117]⟩, .string ⟨#[112, 104, 105]⟩, .string ⟨#[111, 109, 101, 103, 97]⟩] 9)))
  case atStart => exact ⟨0, by omega, by omega, rfl, by show Mk _ b (l ++ []); rw [List.append_nil]; exact HM.out, HB.out, HK.out, HBl.out⟩
  case round =>
    obtain ⟨k, hk, hgg, rfl, HMr, HBr, HKr, HNr⟩ := hrel
    clear HM HK HBl HB
    by_cases hlt : k < 14
    · have hc := cell_blk HNr.out k
      have hk14 : k = 0 ∨ k = 1 ∨ k = 2 ∨ k = 3 ∨ k = 4 ∨ k = 5 ∨ k = 6 ∨ k = 7 ∨ k = 8 ∨ k = 9 ∨ k = 10 ∨ k = 11 ∨ k = 12 ∨ k = 13 := by omega
      rcases hk14 with rfl | rfl | rfl | rfl | rfl | rfl | rfl | rfl | rfl | rfl | rfl | rfl | rfl | rfl

      · replace hc : wr.cell? ⟨w.heap.size, 0, none⟩ = some (.string ⟨#[97, 108, 112, 104, 97]⟩) := hc
        go_wp2_with fail
        refine (add_any [97, 108, 112, 104, 97] 480 431 0 20 _ b B _ (by omega) (by omega) HMr.out (by simp [greekL]; omega) hB).mono ?_
        rintro e w2 ⟨rfl, hM2, hb2, hk2⟩
        have HR := Lib.hid (And.intro hM2 (And.intro hb2 hk2))
        clear hM2 hb2 hk2
        go_wp2_with fail
        go_roundg 13
        case measure => omega
        case rel => exact ⟨1, by omega, by omega, rfl, (by have := HR.out.1; rw [List.append_assoc] at this; exact this), HBr.out.trans HR.out.2.1, HKr.out.trans HR.out.2.2, HR.out.2.2.blk HNr.out nb (by decide)⟩
      · replace hc : wr.cell? ⟨w.heap.size, 1, none⟩ = some (.string ⟨#[98, 101, 116, 97]⟩) := hc
        go_wp2_with fail
        refine (add_any [98, 101, 116, 97] 495 694 194 20 _ b B _ (by omega) (by omega) HMr.out (by simp [greekL]; omega) hB).mono ?_
        rintro e w2 ⟨rfl, hM2, hb2, hk2⟩
        have HR := Lib.hid (And.intro hM2 (And.intro hb2 hk2))
        clear hM2 hb2 hk2
        go_wp2_with fail
        go_roundg 12
        case measure => omega
        case rel => exact ⟨2, by omega, by omega, rfl, (by have := HR.out.1; rw [List.append_assoc] at this; exact this), HBr.out.trans HR.out.2.1, HKr.out.trans HR.out.2.2, HR.out.2.2.blk HNr.out nb (by decide)⟩
      · replace hc : wr.cell? ⟨w.heap.size, 2, none⟩ = some (.string ⟨#[103, 97, 109, 109, 97]⟩) := hc
        go_wp2_with fail
        refine (add_any [103, 97, 109, 109, 97] 510 431 194 20 _ b B _ (by omega) (by omega) HMr.out (by simp [greekL]; omega) hB).mono ?_
        rintro e w2 ⟨rfl, hM2, hb2, hk2⟩
        have HR := Lib.hid (And.intro hM2 (And.intro hb2 hk2))
        clear hM2 hb2 hk2
        go_wp2_with fail
        go_roundg 11
        case measure => omega
        case rel => exact ⟨3, by omega, by omega, rfl, (by have := HR.out.1; rw [List.append_assoc] at this; exact this), HBr.out.trans HR.out.2.1, HKr.out.trans HR.out.2.2, HR.out.2.2.blk HNr.out nb (by decide)⟩
      · replace hc : wr.cell? ⟨w.heap.size, 3, none⟩ = some (.string ⟨#[100, 101, 108, 116, 97]⟩) := hc
        go_wp2_with fail
        refine (add_any [100, 101, 108, 116, 97] 525 694 0 20 _ b B _ (by omega) (by omega) HMr.out (by simp [greekL]; omega) hB).mono ?_
        rintro e w2 ⟨rfl, hM2, hb2, hk2⟩
        have HR := Lib.hid (And.intro hM2 (And.intro hb2 hk2))
        clear hM2 hb2 hk2
        go_wp2_with fail
        go_roundg 10
        case measure => omega
        case rel => exact ⟨4, by omega, by omega, rfl, (by have := HR.out.1; rw [List.append_assoc] at this; exact this), HBr.out.trans HR.out.2.1, HKr.out.trans HR.out.2.2, HR.out.2.2.blk HNr.out nb (by decide)⟩
      · replace hc : wr.cell? ⟨w.heap.size, 4, none⟩ = some (.string ⟨#[101, 112, 115, 105, 108, 111, 110]⟩) := hc
        go_wp2_with fail
        refine (add_any [101, 112, 115, 105, 108, 111, 110] 540 431 0 20 _ b B _ (by omega) (by omega) HMr.out (by simp [greekL]; omega) hB).mono ?_
        rintro e w2 ⟨rfl, hM2, hb2, hk2⟩
        have HR := Lib.hid (And.intro hM2 (And.intro hb2 hk2))
        clear hM2 hb2 hk2
        go_wp2_with fail
        go_roundg 9
        case measure => omega
        case rel => exact ⟨5, by omega, by omega, rfl, (by have := HR.out.1; rw [List.append_assoc] at this; exact this), HBr.out.trans HR.out.2.1, HKr.out.trans HR.out.2.2, HR.out.2.2.blk HNr.out nb (by decide)⟩
      · replace hc : wr.cell? ⟨w.heap.size, 5, none⟩ = some (.string ⟨#[116, 104, 101, 116, 97]⟩) := hc
        go_wp2_with fail
        refine (add_any [116, 104, 101, 116, 97] 555 694 0 20 _ b B _ (by omega) (by omega) HMr.out (by simp [greekL]; omega) hB).mono ?_
        rintro e w2 ⟨rfl, hM2, hb2, hk2⟩
        have HR := Lib.hid (And.intro hM2 (And.intro hb2 hk2))
        clear hM2 hb2 hk2
        go_wp2_with fail
        go_roundg 8
        case measure => omega
        case rel => exact ⟨6, by omega, by omega, rfl, (by have := HR.out.1; rw [List.append_assoc] at this; exact this), HBr.out.trans HR.out.2.1, HKr.out.trans HR.out.2.2, HR.out.2.2.blk HNr.out nb (by decide)⟩
      · replace hc : wr.cell? ⟨w.heap.size, 6, none⟩ = some (.string ⟨#[108, 97, 109, 98, 100, 97]⟩) := hc
        go_wp2_with fail
        refine (add_any [108, 97, 109, 98, 100, 97] 570 694 0 20 _ b B _ (by omega) (by omega) HMr.out (by simp [greekL]; omega) hB).mono ?_
        rintro e w2 ⟨rfl, hM2, hb2, hk2⟩
        have HR := Lib.hid (And.intro hM2 (And.intro hb2 hk2))
        clear hM2 hb2 hk2
        go_wp2_with fail
        go_roundg 7
        case measure => omega
        case rel => exact ⟨7, by omega, by omega, rfl, (by have := HR.out.1; rw [List.append_assoc] at this; exact this), HBr.out.trans HR.out.2.1, HKr.out.trans HR.out.2.2, HR.out.2.2.blk HNr.out nb (by decide)⟩
      · replace hc : wr.cell? ⟨w.heap.size, 7, none⟩ = some (.string ⟨#[109, 117]⟩) := hc
        go_wp2_with fail
        refine (add_any [109, 117] 585 431 194 20 _ b B _ (by omega) (by omega) HMr.out (by simp [greekL]; omega) hB).mono ?_
        rintro e w2 ⟨rfl, hM2, hb2, hk2⟩
        have HR := Lib.hid (And.intro hM2 (And.intro hb2 hk2))
        clear hM2 hb2 hk2
        go_wp2_with fail
        go_roundg 6
        case measure => omega
        case rel => exact ⟨8, by omega, by omega, rfl, (by have := HR.out.1; rw [List.append_assoc] at this; exact this), HBr.out.trans HR.out.2.1, HKr.out.trans HR.out.2.2, HR.out.2.2.blk HNr.out nb (by decide)⟩
      · replace hc : wr.cell? ⟨w.heap.size, 8, none⟩ = some (.string ⟨#[112, 105]⟩) := hc
        go_wp2_with fail
        refine (add_any [112, 105] 600 431 0 20 _ b B _ (by omega) (by omega) HMr.out (by simp [greekL]; omega) hB).mono ?_
        rintro e w2 ⟨rfl, hM2, hb2, hk2⟩
        have HR := Lib.hid (And.intro hM2 (And.intro hb2 hk2))
        clear hM2 hb2 hk2
        go_wp2_with fail
        go_roundg 5
        case measure => omega
        case rel => exact ⟨9, by omega, by omega, rfl, (by have := HR.out.1; rw [List.append_assoc] at this; exact this), HBr.out.trans HR.out.2.1, HKr.out.trans HR.out.2.2, HR.out.2.2.blk HNr.out nb (by decide)⟩
      · replace hc : wr.cell? ⟨w.heap.size, 9, none⟩ = some (.string ⟨#[114, 104, 111]⟩) := hc
        go_wp2_with fail
        refine (add_any [114, 104, 111] 615 431 194 20 _ b B _ (by omega) (by omega) HMr.out (by simp [greekL]; omega) hB).mono ?_
        rintro e w2 ⟨rfl, hM2, hb2, hk2⟩
        have HR := Lib.hid (And.intro hM2 (And.intro hb2 hk2))
        clear hM2 hb2 hk2
        go_wp2_with fail
        go_roundg 4
        case measure => omega
        case rel => exact ⟨10, by omega, by omega, rfl, (by have := HR.out.1; rw [List.append_assoc] at this; exact this), HBr.out.trans HR.out.2.1, HKr.out.trans HR.out.2.2, HR.out.2.2.blk HNr.out nb (by decide)⟩
      · replace hc : wr.cell? ⟨w.heap.size, 10, none⟩ = some (.string ⟨#[115, 105, 103, 109, 97]⟩) := hc
        go_wp2_with fail
        refine (add_any [115, 105, 103, 109, 97] 630 431 0 20 _ b B _ (by omega) (by omega) HMr.out (by simp [greekL]; omega) hB).mono ?_
        rintro e w2 ⟨rfl, hM2, hb2, hk2⟩
        have HR := Lib.hid (And.intro hM2 (And.intro hb2 hk2))
        clear hM2 hb2 hk2
        go_wp2_with fail
        go_roundg 3
        case measure => omega
        case rel => exact ⟨11, by omega, by omega, rfl, (by have := HR.out.1; rw [List.append_assoc] at this; exact this), HBr.out.trans HR.out.2.1, HKr.out.trans HR.out.2.2, HR.out.2.2.blk HNr.out nb (by decide)⟩
      · replace hc : wr.cell? ⟨w.heap.size, 11, none⟩ = some (.string ⟨#[116, 97, 117]⟩) := hc
        go_wp2_with fail
        refine (add_any [116, 97, 117] 645 431 0 20 _ b B _ (by omega) (by omega) HMr.out (by simp [greekL]; omega) hB).mono ?_
        rintro e w2 ⟨rfl, hM2, hb2, hk2⟩
        have HR := Lib.hid (And.intro hM2 (And.intro hb2 hk2))
        clear hM2 hb2 hk2
        go_wp2_with fail
        go_roundg 2
        case measure => omega
        case rel => exact ⟨12, by omega, by omega, rfl, (by have := HR.out.1; rw [List.append_assoc] at this; exact this), HBr.out.trans HR.out.2.1, HKr.out.trans HR.out.2.2, HR.out.2.2.blk HNr.out nb (by decide)⟩
      · replace hc : wr.cell? ⟨w.heap.size, 12, none⟩ = some (.string ⟨#[112, 104, 105]⟩) := hc
        go_wp2_with fail
        refine (add_any [112, 104, 105] 660 431 194 20 _ b B _ (by omega) (by omega) HMr.out (by simp [greekL]; omega) hB).mono ?_
        rintro e w2 ⟨rfl, hM2, hb2, hk2⟩
        have HR := Lib.hid (And.intro hM2 (And.intro hb2 hk2))
        clear hM2 hb2 hk2
        go_wp2_with fail
        go_roundg 1
        case measure => omega
        case rel => exact ⟨13, by omega, by omega, rfl, (by have := HR.out.1; rw [List.append_assoc] at this; exact this), HBr.out.trans HR.out.2.1, HKr.out.trans HR.out.2.2, HR.out.2.2.blk HNr.out nb (by decide)⟩
      · replace hc : wr.cell? ⟨w.heap.size, 13, none⟩ = some (.string ⟨#[111, 109, 101, 103, 97]⟩) := hc
        go_wp2_with fail
        refine (add_any [111, 109, 101, 103, 97] 675 431 0 20 _ b B _ (by omega) (by omega) HMr.out (by simp [greekL]; omega) hB).mono ?_
        rintro e w2 ⟨rfl, hM2, hb2, hk2⟩
        have HR := Lib.hid (And.intro hM2 (And.intro hb2 hk2))
        clear hM2 hb2 hk2
        go_wp2_with fail
        go_roundg 0
        case measure => omega
        case rel => exact ⟨14, by omega, by omega, rfl, (by have := HR.out.1; rw [List.append_assoc] at this; exact this), HBr.out.trans HR.out.2.1, HKr.out.trans HR.out.2.2, HR.out.2.2.blk HNr.out nb (by decide)⟩
    · obtain rfl : k = 14 := by omega
      go_wp2_with fail
      go_end0
      exact ⟨rfl, HMr.out, HBr.out, HKr.out⟩
end Go.Proofs.YthgkdeaapjdadaaDoor
