/- Contract of run 19. -/
import Derived.Test.YtknpigdpepmimaaGreatDoorPrt
namespace Go.Proofs.YtknpigdpepmimaaGreatDoor
open Go.RowKit Go.Maps

set_option maxRecDepth 100000 in
set_option maxHeartbeats 4000000 in
theorem run_any (t : T) (A : Option Addr) (c : Nat) (na vv : Value) (ns : List W8) (vs : List V) (a b : Int) (w : World) (hv : TV w w.heap.size t A c) (hs : SA t) (hm : Max w) (ha : SL w w.heap.size na ns) (hvv : SV w vv vs) (hz : ∀ c, vv = .slice none 0 c → c = 0) (hl : vs.length ≤ 1000)
    (hsn : ∀ x ∈ ns, x.length ≤ 1000) (hfit : ∀ x ∈ vs, x.fit) (hab : inQ a ∧ inQ b) :
    Calls Tryz.prog 19 #[.agg (tv t A c), na, vv, .int .i64 a, .int .i64 b] w fun e w' => e = .returned (.tuple #[.agg (valueR t ns (vs ++ [whV a, whV b])).v.cells, .int .i64 (valueR t ns (vs ++ [whV a, whV b])).e]) ∧ Below w.heap.size w w' := by
  have HB := Lib.hid (b2 w (.cells (tv t A c) 24) (.cells #[.int .i64 0, .int .i64 0, .int .i64 0, .int .i64 0, .int .i64 0, .int .i64 0, .int .i64 0, .int .i64 0, .int .i64 0] 44))
  have HX : Hid (Bxd ((w.alloc (.cells (tv t A c) 24)).alloc (.cells #[.int .i64 0, .int .i64 0, .int .i64 0, .int .i64 0, .int .i64 0, .int .i64 0, .int .i64 0, .int .i64 0, .int .i64 0] 44)) w.heap.size t A c) := (bxd_new w t A c).below (b1 _ _) (by simp)
  have HK : Hid (K9 ((w.alloc (.cells (tv t A c) 24)).alloc (.cells #[.int .i64 0, .int .i64 0, .int .i64 0, .int .i64 0, .int .i64 0, .int .i64 0, .int .i64 0, .int .i64 0, .int .i64 0] 44)) (w.heap.size + 1) zV) := by
    have h := K9.new (w.alloc (.cells (tv t A c) 24)) zV
    rw [World.size_alloc] at h
    exact h
  have HS : Hid (((w.alloc (.cells (tv t A c) 24)).alloc (.cells #[.int .i64 0, .int .i64 0, .int .i64 0, .int .i64 0, .int .i64 0, .int .i64 0, .int .i64 0, .int .i64 0, .int .i64 0] 44)).heap.size = w.heap.size + 2) := by show _ = _; simp
  have HF : Hid (∀ x ∈ vs ++ [whV a, whV b], x.fit) := fun x hx => by
    rcases List.mem_append.1 hx with hx | hx
    · exact hfit x hx
    · obtain ⟨h1, h2⟩ := hab
      unfold inQ at h1 h2
      simp at hx
      rcases hx with rfl | rfl <;> (unfold V.fit whV; dsimp only; omega)
  have HVA := Lib.hid fun (wz : World) (h : Below w.heap.size w wz) (vq : Value) (hq : SV wz vq (vs ++ [whV a, whV b])) => value_any t A c na vq ns (vs ++ [whV a, whV b]) wz (hv.reach h) hs (hm.reach h) ((ha.below h).more h.size) hq hsn HF.out
  have HSV := Lib.hid fun (wz : World) (h : Below w.heap.size w wz) => hvv.reach h
  have HZ := Lib.hid hz
  have HL := Lib.hid hl
  clear hv hs hm ha hvv hz hl hsn hfit hab HF
  generalize valueR t ns (vs ++ [whV a, whV b]) = r at *
  unfold tv V.cells at HVA
  unfold V.cells
  generalize tv t A c = cs at *
  go_enter Tryz.func19, Tryz.ntmps19
  go_upto_region 1 with (fail)
  generalize (w.alloc (.cells cs 24)).alloc (.cells #[.int .i64 0, .int .i64 0, .int .i64 0, .int .i64 0, .int .i64 0, .int .i64 0, .int .i64 0, .int .i64 0, .int .i64 0] 44) = w1 at *
  have HB1 := Lib.hid (bl_tr HB.out (b1 w1 (.cells #[] 44)))
  go_wp2_with (at_builtin; refine app26l (w1.alloc (.cells #[] 44)) rfl (.tmp 16) (.tmp 17) rfl w1.heap.size w1.heap.size (ov_lit w1 w1.heap.size (Nat.le_refl _)) rfl vv vs rfl (HSV.out _ HB1.out) HZ.out HL.out (b1 w1 _).size ?_)
  intro v7 w7 hov hb7
  have HOV := Lib.hid hov
  have HB7 : Hid (Below w1.heap.size w1 w7) := (b1 w1 (.cells #[] 44)).trans hb7
  clear hov hb7
  go_wp2_with (at_builtin; refine app26t w7 rfl (.tmp 18) (.tmp 23) rfl w1.heap.size v7 vs (whV a) (whV b) HOV.out rfl rfl HL.out HB7.out.size ?_)
  intro v8 w8 hov hb8
  have HSV8 := Lib.hid hov.sv
  have HB18 := Lib.hid (HB7.out.trans hb8)
  have HB8 := Lib.hid (bl_tr HB.out HB18.out)
  have HX8 := Lib.hid (HX.out.below HB18.out (by have := HS.out; omega))
  have HK8 := Lib.hid (HK.out.below HB18.out (by have := HS.out; omega))
  have HS8 : Hid (w.heap.size + 2 ≤ w8.heap.size) := by have := HS.out; have := HB18.out.size; show _ ≤ _; omega
  clear hov hb8 HOV HB7 HB1 HX HK HS
  go_upto_region 2 with (fail)
  have HC := Lib.hid (HVA.out w8 HB8.out v8 HSV8.out)
  obtain ⟨k0, k1, k2, k3, k4⟩ := HX8.out
  go_wp2_with fail
  refine HC.out.mono ?_
  rintro e w9 ⟨q, rfl, _, hb9⟩
  have hb10 := bl_tr hb9 (b1 w9 (.cells #[.int .i64 r.v.num, .int .i64 r.v.den, .int .i64 r.v.dim.a, .int .i64 r.v.dim.b, .int .i64 r.v.dim.c, .int .i64 r.v.dim.d, .int .i64 r.v.dim.e, .int .i64 r.v.dim.f, .int .i64 r.v.dim.g] 44))
  have HB10 := Lib.hid (bl_tr HB8.out hb10)
  have HK10 := Lib.hid (HK8.out.reach hb10)
  have HN10 : Hid (K9 (w9.alloc (.cells #[.int .i64 r.v.num, .int .i64 r.v.den, .int .i64 r.v.dim.a, .int .i64 r.v.dim.b, .int .i64 r.v.dim.c, .int .i64 r.v.dim.d, .int .i64 r.v.dim.e, .int .i64 r.v.dim.f, .int .i64 r.v.dim.g] 44)) w9.heap.size r.v) := K9.new w9 r.v
  have hne : w9.heap.size ≠ w.heap.size + 1 := by have := HS8.out; have := hb9.size; omega
  have HNE := Lib.hid hne
  clear hb9 hb10 hne k0 k1 k2 k3 k4 HC
  go_upto_region 3 with (fail)
  generalize w9.heap.size = m9 at *
  generalize w9.alloc (.cells #[.int .i64 r.v.num, .int .i64 r.v.den, .int .i64 r.v.dim.a, .int .i64 r.v.dim.b, .int .i64 r.v.dim.c, .int .i64 r.v.dim.d, .int .i64 r.v.dim.e, .int .i64 r.v.dim.f, .int .i64 r.v.dim.g] 44) = w10 at *
  obtain ⟨⟨⟨p0, p1⟩, p2, p3, p4, p5, p6, p7, p8⟩, _, _⟩ := HN10.out.cells
  obtain ⟨⟨⟨z0, z1⟩, z2, z3, z4, z5, z6, z7, z8⟩, zf, _⟩ := HK10.out.cells
  go_wp2_with fail
  refine bodyPost_ret (v := .tuple #[.agg #[.int .i64 r.v.num, .int .i64 r.v.den, .int .i64 r.v.dim.a, .int .i64 r.v.dim.b, .int .i64 r.v.dim.c, .int .i64 r.v.dim.d, .int .i64 r.v.dim.e, .int .i64 r.v.dim.f, .int .i64 r.v.dim.g], .int .i64 r.e]) (by simp [results, Tryz.results19, go_sem, z0, z1, z2, z3, z4, z5, z6, z7, z8]) rfl ⟨rfl, ?_⟩
  exact below9 HB10.out (b := w.heap.size + 1) (Nat.le_succ _) r.v
end Go.Proofs.YtknpigdpepmimaaGreatDoor
