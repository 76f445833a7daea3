/- Contract of the maker's add. -/
import Derived.Test.YthgkdeaapjdadaaDoorGl
namespace Go.Proofs.YthgkdeaapjdadaaDoor
open Go.RowKit

set_option maxRecDepth 100000 in
set_option maxHeartbeats 1000000 in
theorem add_any (n : List UInt8) (W H D I : Int) (l : List Gl) (b B : Nat) (w : World) (hW : 0 ≤ W) (hW' : W ≤ 100000) (hm : Mk w b l) (hl : l.length ≤ 1000) (hB : B ≤ b) :
    Calls Tryd.prog 39 #[.pointer (some ⟨b, 0, none⟩), .string ⟨n.toArray⟩, .int .i64 W, .int .i64 H, .int .i64 D, .int .i64 I] w (RetMk w b B (l ++ [glOf n W H D I])) := by
  obtain ⟨i0, hi0, hz0, hz1, hz2⟩ := info_parts gl_info
  obtain ⟨v, hc, ho⟩ := hm.ex
  have hf := hm.fr
  have hlt := hm.lt
  have HO := Lib.hid ho
  clear ho hm
  go_enter Tryd.func39, Tryd.ntmps39
  go_wp2_with (at_builtin; refine wpList_append_own _ rfl _ _ 24 rfl (b + 1) 32 i0 _ 6 56 Tryd.underlying24 hi0 hz0 hz1 hz2 rfl (by decide) _ _ _ rfl (HO.out.alloc _) ⟨w.heap.size, 0, none⟩ 1 1 (glOf n W H D I).cells rfl rfl ?c1 ?c2 ?c3 ?c4 ?c5 ?_)
  case c1 => exact (GlAt.new w n W H D I (W / 2) 32).src
  case c2 => intro u hu; exact gcells_oneCell [glOf n W H D I] u (by rw [gcells_one]; exact hu)
  case c3 => unfold maxLen; omega
  case c4 => omega
  case c5 => simp; omega
  intro v' w5 hown' hgrow _
  have hB5 : Below B w w5 := ((Below.refl _ _).alloc (by omega) _).grown hgrow (by simp; omega) (fun k hk => by have := (HO.out.lt k hk).1; omega)
  have hB6 : Below (b + 1) w w5 := ((Below.refl _ _).alloc (by omega) _).grown hgrow (by simp; omega) (fun k hk => by have := (HO.out.lt k hk).1; omega)
  have hK5 : Keep b w w5 := by
    refine ⟨hB5.size, fun k hk hkb ht => ?_⟩
    have h1 : (w.alloc (.cells #[.string ⟨n.toArray⟩, .int .i64 W, .int .i64 H, .int .i64 D, .int .i64 I, .int .i64 (W / 2)] 32)).heap[k]? = w.heap[k]? := Below.heap_alloc _ _ _ hk
    refine (hgrow.block k (by simp; omega) fun e => ?_).trans h1
    obtain ⟨cs, fr, he⟩ := own_type HO.out e.symm
    exact ht cs fr he
  have HK5 := Lib.hid hK5
  clear hK5
  have hc5 : w5.cell? ⟨b, 0, none⟩ = some v := (hB6.cell (p := ⟨b, 0, none⟩) (Nat.lt_succ_self b)).trans hc
  have hf5 : w5.frozen? ⟨b, 0, none⟩ = false := (hB6.frozen (p := ⟨b, 0, none⟩) (Nat.lt_succ_self b)).trans hf
  have hs5 := hB5.size
  have HB5 := Lib.hid hB5
  have HO5 : Hid (w5.ownsRow (b + 1) 32 6 v' (l ++ [glOf n W H D I]).length (gcells (l ++ [glOf n W H D I]))) := by
    show w5.ownsRow (b + 1) 32 6 v' (l ++ [glOf n W H D I]).length (gcells (l ++ [glOf n W H D I]))
    rw [gcells_append, gcells_one, List.length_append]
    exact hown'
  clear hB5 hB6 hown' hgrow hc hf
  obtain ⟨A', c', hv', _, _⟩ := GR.of_own HO5.out
  subst hv'
  go_wp2
  go_end0
  refine ⟨rfl, ⟨⟨.slice A' (l ++ [glOf n W H D I]).length c', by simp [go_sem, hc5], ?_⟩, by simpa using hf5, ?_⟩, HB5.out.setCell hB _, ?_⟩
  · exact own_set HO5.out _
  · simp; omega
  · refine HK5.out.trans ⟨by simp, fun k _ hkb _ => Below.heap_setCell _ _ _ _ hkb⟩
end Go.Proofs.YthgkdeaapjdadaaDoor
