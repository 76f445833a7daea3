/- Walk of FaceComplete. -/
import Derived.Test.YthgkdeaapjdadaaDoorFind
import Derived.Test.YthgkdeaapjdadaaDoorLaid
import Derived.Laws.BytesString
namespace Go.Proofs.YthgkdeaapjdadaaDoor
open Go.RowKit

theorem comp_all : (List.range 256).all (fun c => (findG GF [UInt8.ofNat c]).isSome == decide (33 ≤ c ∧ c ≤ 126)) = true := by decide +kernel
theorem comp (c : Nat) (h : c < 256) : (findG GF [UInt8.ofNat c]).isSome = decide (33 ≤ c ∧ c ≤ 126) := by
  have := List.all_eq_true.1 comp_all c (List.mem_range.2 h)
  simpa using this
theorem has_x : (findG GF [120]).isSome = true := by decide +kernel
/-- 'string([]byte{b})' -/
theorem conv_one (b : Int) (w : World) : (convert 38 9 (.slice (some ⟨w.heap.size, 0, none⟩) 1 1)).run Tryd.prog (w.alloc (.cells #[.int .u8 b] 5)) = .ok (.string ⟨#[UInt8.ofNat b.toNat]⟩) (w.alloc (.cells #[.int .u8 b] 5)) := by
  rw [run_convert_bytes_string _ 38 9 5 _ _ _ Tryd.underlying38 Tryd.underlying5 Tryd.underlying9]
  rw [run_bytesToString _ _ _ _ [b] (by simp [loadCells, go_sem])]
  rfl
set_option maxRecDepth 100000 in
set_option maxHeartbeats 2000000 in
theorem complete_walk (n : Int) (w : World) (hw : (Lit.int .u8 n).wf = true) (_ht : Tab w) :
    Calls Tryd.prog 5 #[.int .u8 n] w fun e w' => e = .returned (.bool true) ∧ Below w.heap.size w w' := by
  obtain ⟨h0, h1⟩ := wf_u8 hw
  obtain ⟨c, rfl⟩ : ∃ c : Nat, n = (c : Int) := ⟨n.toNat, by omega⟩
  have hc256 : c < 256 := by omega
  have HC := Lib.hid (comp c hc256)
  have hc := fun w => conv_one (c : Int) w
  have HB0 : Hid (Below w.heap.size w (w.alloc (.cells #[.int .u8 (c : Int)] 5))) := Lib.hid ((Below.refl _ _).alloc (Nat.le_refl _) _)
  obtain ⟨u, hu⟩ : ∃ u, u = UInt8.ofNat (c : Int).toNat := ⟨_, rfl⟩
  have hu' : u = UInt8.ofNat c := hu
  rw [← hu] at hc
  rw [← hu'] at HC
  clear hu hu' hw
  go_enter Tryd.func5, Tryd.ntmps5
  go_wp2_with fail
  refine (glyph_any [u] _).mono ?_
  rw [HC.out]
  rintro e w1 ⟨rfl, hb1⟩
  have HB1 := Lib.hid (HB0.out.trans (hb1.mono HB0.out.size))
  have hs1 := HB1.out.size
  clear hb1 hc HB0
  generalize findV GF [u] = g
  obtain ⟨gn, ga, gb, gc, gd, ge⟩ := g
  simp only [Gl.val]
  go_wp2_with fail
  refine (glyph_any [120] _).mono ?_
  rw [has_x]
  rintro e w2 ⟨rfl, hb2⟩
  have HB2 := Lib.hid ((HB1.out.alloc hs1 _).trans (hb2.mono (by simp; omega)))
  have hs2 := HB2.out.size
  clear hb2
  generalize findV GF [120] = g
  obtain ⟨gn', ga', gb', gc', gd', ge'⟩ := g
  simp only [Gl.val]
  by_cases a1 : 33 ≤ c
  · have a1z : (33 : Int) ≤ (c : Int) := by omega
    by_cases a2 : c ≤ 126
    · have a2z : (c : Int) ≤ 126 := by omega
      rw [decide_eq_true (And.intro a1 a2)]
      go_wp2_with fail
      go_ret
      exact ⟨rfl, HB2.out.alloc hs2 _⟩
    · have a2z : ¬ (c : Int) ≤ 126 := by omega
      rw [decide_eq_false (show ¬ (33 ≤ c ∧ c ≤ 126) from fun h => a2 h.2)]
      go_wp2_with fail
      go_ret
      exact ⟨rfl, HB2.out.alloc hs2 _⟩
  · have a1z : ¬ (33 : Int) ≤ (c : Int) := by omega
    rw [decide_eq_false (show ¬ (33 ≤ c ∧ c ≤ 126) from fun h => a1 h.1)]
    go_wp2_with fail
    go_ret
    exact ⟨rfl, HB2.out.alloc hs2 _⟩
end Go.Proofs.YthgkdeaapjdadaaDoor
