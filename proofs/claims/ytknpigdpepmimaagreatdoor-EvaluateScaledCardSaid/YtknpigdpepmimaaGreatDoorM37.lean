/- Contract of evaluate.Value 20. How many subterms are left: contract of left 30. -/
import Derived.Test.YtknpigdpepmimaaGreatDoorM35
import Derived.Test.YtknpigdpepmimaaGreatDoorM36
import Derived.Test.YtknpigdpepmimaaGreatDoorM20
namespace Go.Proofs.YtknpigdpepmimaaGreatDoor
open Go.RowKit Go.Maps
/-- what Value returns -/
def valueR (t : T) (ns : List W8) (vs : List V) : R := if envB ns vs = true then (if validB t = true then (ev t (ns.zip vs) 0).1 else erR 1) else erR 1
theorem env_ok {ns : List W8} {vs : List V} (h : envB ns vs = true) : Sc.ok (ns.zip vs) := fun p hp => by
  unfold envB envOkB at h
  simp only [Bool.and_eq_true, List.all_eq_true] at h
  exact (V.okB_iff _).1 (h.2.1 p hp).2
theorem set9_size (w : World) (b : Nat) (v : V) : (set9 w b v).heap.size = w.heap.size := by
  unfold set9
  simp
theorem BO.set9 {w : World} {B : Nat} {v : Value} {l : List Int} (h : BO w B v l) {b : Nat} (hb : b < B) (y : V) : BO (set9 w b y) B v l :=
  ⟨h.1.keep fun b' o n c e hlt => ⟨by rw [set9_size]; exact hlt, set9_other _ _ _ _ (by have := h.2 b' o n c e; omega)⟩, h.2⟩
theorem five_cells {w : World} {b : Nat} {x0 x1 x2 x3 x4 : Value} {ty : TypeId} (h : w.heap[b]? = some (.cells #[x0, x1, x2, x3, x4] ty (0, 0))) : w.cell? ⟨b, 0, none⟩ = some x0 ∧ w.cell? ⟨b, 1, none⟩ = some x1 ∧ w.cell? ⟨b, 2, none⟩ = some x2 ∧ w.cell? ⟨b, 3, none⟩ = some x3 ∧ w.cell? ⟨b, 4, none⟩ = some x4 := by
  refine ⟨?_, ?_, ?_, ?_, ?_⟩ <;> simp [World.cell?, h]
set_option maxRecDepth 100000 in
set_option maxHeartbeats 4000000 in
theorem value_any (t : T) (A : Option Addr) (ca : Nat) (na vv : Value) (ns : List W8) (vs : List V) (w : World) (hv : TV w w.heap.size t A ca) (hs : SA t) (hm : Max w) (ha : SL w w.heap.size na ns) (hvv : SV w vv vs) (hsn : ∀ x ∈ ns, x.length ≤ 1000) (hfit : ∀ x ∈ vs, x.fit) :
    Calls Tryz.prog 20 #[.agg (tv t A ca), na, vv] w fun e w' => ∃ q, e = .returned (.tuple #[.agg (valueR t ns vs).v.cells, q, .int .i64 (valueR t ns vs).e]) ∧ BO w' w.heap.size q (valueR t ns vs).path ∧ Below w.heap.size w w' := by
  have HTB := Lib.hid hv.box
  have hb2 := b2 w (.cells #[.int .i64 t.kind, .string ⟨t.name.toArray⟩, .string ⟨t.var.toArray⟩, .slice A t.args.length ca, .string ⟨t.form.toArray⟩] 24) (.cells #[.int .i64 0, .int .i64 0, .int .i64 0, .int .i64 0, .int .i64 0, .int .i64 0, .int .i64 0, .int .i64 0, .int .i64 0] 44)
  have HB2 := Lib.hid hb2
  have HK : Hid (K9 ((w.alloc (.cells #[.int .i64 t.kind, .string ⟨t.name.toArray⟩, .string ⟨t.var.toArray⟩, .slice A t.args.length ca, .string ⟨t.form.toArray⟩] 24)).alloc (.cells #[.int .i64 0, .int .i64 0, .int .i64 0, .int .i64 0, .int .i64 0, .int .i64 0, .int .i64 0, .int .i64 0, .int .i64 0] 44)) (w.heap.size + 1) zV) := by
    have h := K9.new (w.alloc (.cells #[.int .i64 t.kind, .string ⟨t.name.toArray⟩, .string ⟨t.var.toArray⟩, .slice A t.args.length ca, .string ⟨t.form.toArray⟩] 24)) zV
    rw [World.size_alloc] at h
    exact h
  have HT2 : Hid (TR ((w.alloc (.cells #[.int .i64 t.kind, .string ⟨t.name.toArray⟩, .string ⟨t.var.toArray⟩, .slice A t.args.length ca, .string ⟨t.form.toArray⟩] 24)).alloc (.cells #[.int .i64 0, .int .i64 0, .int .i64 0, .int .i64 0, .int .i64 0, .int .i64 0, .int .i64 0, .int .i64 0, .int .i64 0] 44)) (w.heap.size + 1) w.heap.size 0 t) := hv.box.below ((Below.refl _ _).alloc (by rw [World.size_alloc]; exact Nat.le_refl _) _)
  have HV2 : Hid (TV ((w.alloc (.cells #[.int .i64 t.kind, .string ⟨t.name.toArray⟩, .string ⟨t.var.toArray⟩, .slice A t.args.length ca, .string ⟨t.form.toArray⟩] 24)).alloc (.cells #[.int .i64 0, .int .i64 0, .int .i64 0, .int .i64 0, .int .i64 0, .int .i64 0, .int .i64 0, .int .i64 0, .int .i64 0] 44)) w.heap.size t A ca) := hv.below hb2
  have HM2 : Hid (Max ((w.alloc (.cells #[.int .i64 t.kind, .string ⟨t.name.toArray⟩, .string ⟨t.var.toArray⟩, .slice A t.args.length ca, .string ⟨t.form.toArray⟩] 24)).alloc (.cells #[.int .i64 0, .int .i64 0, .int .i64 0, .int .i64 0, .int .i64 0, .int .i64 0, .int .i64 0, .int .i64 0, .int .i64 0] 44))) := hm.below hb2
  have HE2 : Hid (∀ wz : World, Below ((w.alloc (.cells #[.int .i64 t.kind, .string ⟨t.name.toArray⟩, .string ⟨t.var.toArray⟩, .slice A t.args.length ca, .string ⟨t.form.toArray⟩] 24)).alloc (.cells #[.int .i64 0, .int .i64 0, .int .i64 0, .int .i64 0, .int .i64 0, .int .i64 0, .int .i64 0, .int .i64 0, .int .i64 0] 44)).heap.size ((w.alloc (.cells #[.int .i64 t.kind, .string ⟨t.name.toArray⟩, .string ⟨t.var.toArray⟩, .slice A t.args.length ca, .string ⟨t.form.toArray⟩] 24)).alloc (.cells #[.int .i64 0, .int .i64 0, .int .i64 0, .int .i64 0, .int .i64 0, .int .i64 0, .int .i64 0, .int .i64 0, .int .i64 0] 44)) wz → Calls Tryz.prog 38 #[na, vv] wz fun e w' => Below wz.heap.size wz w' ∧ ((envB ns vs = true ∧ e = .returned (.tuple #[.map (some wz.heap.size), .bool true]) ∧ EnvM w' wz.heap.size (ns.zip vs)) ∨ (envB ns vs = false ∧ e = .returned (.tuple #[.map none, .bool false])))) := fun wz hbz => environment_any na vv ns vs wz ((ha.below (hb2.trans (hbz.mono hb2.size))).more (Nat.le_trans hb2.size hbz.size)) ((hvv.reach hb2).reach hbz) hsn hfit
  have HS2 : Hid (((w.alloc (.cells #[.int .i64 t.kind, .string ⟨t.name.toArray⟩, .string ⟨t.var.toArray⟩, .slice A t.args.length ca, .string ⟨t.form.toArray⟩] 24)).alloc (.cells #[.int .i64 0, .int .i64 0, .int .i64 0, .int .i64 0, .int .i64 0, .int .i64 0, .int .i64 0, .int .i64 0, .int .i64 0] 44)).heap.size = w.heap.size + 2) := by show _ = _; simp
  have HSA := Lib.hid hs
  clear hv hs hm ha hvv hsn hfit hb2 HTB
  have HC0 : Hid (((w.alloc (.cells #[.int .i64 t.kind, .string ⟨t.name.toArray⟩, .string ⟨t.var.toArray⟩, .slice A t.args.length ca, .string ⟨t.form.toArray⟩] 24)).alloc (.cells #[.int .i64 0, .int .i64 0, .int .i64 0, .int .i64 0, .int .i64 0, .int .i64 0, .int .i64 0, .int .i64 0, .int .i64 0] 44)).heap[w.heap.size]? = some (.cells #[.int .i64 t.kind, .string ⟨t.name.toArray⟩, .string ⟨t.var.toArray⟩, .slice A t.args.length ca, .string ⟨t.form.toArray⟩] 24 (0, 0))) := ((b1 (w.alloc (.cells #[.int .i64 t.kind, .string ⟨t.name.toArray⟩, .string ⟨t.var.toArray⟩, .slice A t.args.length ca, .string ⟨t.form.toArray⟩] 24)) (.cells #[.int .i64 0, .int .i64 0, .int .i64 0, .int .i64 0, .int .i64 0, .int .i64 0, .int .i64 0, .int .i64 0, .int .i64 0] 44)).block _ (by rw [World.size_alloc]; omega)).trans (heap_alloc_new w (.cells #[.int .i64 t.kind, .string ⟨t.name.toArray⟩, .string ⟨t.var.toArray⟩, .slice A t.args.length ca, .string ⟨t.form.toArray⟩] 24))
  unfold tv
  go_enter Tryz.func20, Tryz.ntmps20
  go_upto_region 1 with (fail)
  generalize (w.alloc (.cells #[.int .i64 t.kind, .string ⟨t.name.toArray⟩, .string ⟨t.var.toArray⟩, .slice A t.args.length ca, .string ⟨t.form.toArray⟩] 24)).alloc (.cells #[.int .i64 0, .int .i64 0, .int .i64 0, .int .i64 0, .int .i64 0, .int .i64 0, .int .i64 0, .int .i64 0, .int .i64 0] 44) = w2 at *
  have HC2 : Hid (w2.heap[w.heap.size]? = some (.cells #[.int .i64 t.kind, .string ⟨t.name.toArray⟩, .string ⟨t.var.toArray⟩, .slice A t.args.length ca, .string ⟨t.form.toArray⟩] 24 (0, 0))) := HC0.out
  go_wp2_with fail
  refine (HE2.out w2 (Below.refl _ _)).mono ?_
  rintro e w3 ⟨hb3, hor⟩
  have hle3 : w.heap.size + 2 ≤ w2.heap.size := by have h := HS2.out; omega
  have HB3 := Lib.hid (bl_tr HB2.out hb3)
  have HK3 := Lib.hid (HK.out.reach hb3)
  have HC3 : Hid (w3.heap[w.heap.size]? = some (.cells #[.int .i64 t.kind, .string ⟨t.name.toArray⟩, .string ⟨t.var.toArray⟩, .slice A t.args.length ca, .string ⟨t.form.toArray⟩] 24 (0, 0))) := (hb3.block _ (by omega)).trans HC2.out
  have HT3 : Hid (TR w3 (w.heap.size + 1) w.heap.size 0 t) := HT2.out.below (hb3.mono (by omega))
  have HV3 : Hid (TV w3 w3.heap.size t A ca) := (HV2.out.below (hb3.mono (by omega))).more (by have := hb3.size; omega)
  have HM3 : Hid (Max w3) := HM2.out.below hb3
  have HS3 : Hid (w.heap.size + 2 ≤ w3.heap.size) := Nat.le_trans hle3 hb3.size
  have HN2 : Hid (w2.heap.size < w3.heap.size ∨ envB ns vs = false) := by
    rcases hor with ⟨_, _, h⟩ | ⟨h, _⟩
    · exact .inl h.own.lt
    · exact .inr h
  clear hb3 hle3
  rcases hor with ⟨he, rfl, hem⟩ | ⟨he, rfl⟩
  · have HEB := Lib.hid he
    have HEM := Lib.hid hem
    have HVA := Lib.hid (validT_any t A ca w3 HV3.out HSA.out HM3.out)
    unfold tv at HVA
    clear he hem
    obtain ⟨⟩ : True := trivial
    obtain ⟨c0, c1, c2, c3, c4⟩ := five_cells HC3.out
    go_wp2_with fail
    refine HVA.out.mono ?_
    rintro e w4 ⟨rfl, hb4⟩
    have HB4 := Lib.hid (bl_tr HB3.out hb4)
    have HK4 := Lib.hid (HK3.out.reach hb4)
    have HT4 : Hid (TR w4 (w.heap.size + 1) w.heap.size 0 t) := HT3.out.below (hb4.mono (by have := HS3.out; omega))
    have HEM4 : Hid (EnvM w4 w2.heap.size (ns.zip vs)) := HEM.out.block (hb4.block _ HEM.out.own.lt)
    have HM4 : Hid (Max w4) := HM3.out.below hb4
    have HS4 : Hid (w.heap.size + 2 ≤ w4.heap.size) := Nat.le_trans HS3.out hb4.size
    have HN4 : Hid (w2.heap.size < w4.heap.size) := HEM4.out.own.lt
    clear hb4 c0 c1 c2 c3 c4
    cases hvb : validB t with
    | false =>
      have HR : Hid (valueR t ns vs = erR 1) := by show _ = _; unfold valueR; rw [if_pos HEB.out, hvb]; rfl
      clear hvb
      obtain ⟨⟨⟨z0, z1⟩, z2, z3, z4, z5, z6, z7, z8⟩, zf, _⟩ := HK4.out.cells
      go_wp2_with fail
      rw [HR.out]
      refine bodyPost_ret (v := .tuple #[.agg zV.cells, .slice none 0 0, .int .i64 1]) (by simp [results, Tryz.results20, go_sem, V.cells, zV, zD, z0, z1, z2, z3, z4, z5, z6, z7, z8]) rfl ⟨_, rfl, (BO.nil _ w.heap.size), ?_⟩
      exact below9 HB4.out (b := w.heap.size + 1) (Nat.le_succ _) zV
    | true =>
      have HVB := Lib.hid hvb
      clear hvb
      go_wp2_with fail
      refine (operations_any _).mono ?_
      rintro e w5 ⟨rfl, hom, hb5⟩
      have hb6 := bl_tr hb5 (b1 w5 (.cells #[.map (some w2.heap.size), .map (some w4.heap.size), .int .i64 0] 84))
      have HB6 := Lib.hid (bl_tr HB4.out hb6)
      have HK6 := Lib.hid (HK4.out.reach hb6)
      have hwf := ((valid_iff t).1 HVB.out).1
      obtain ⟨E, hE⟩ : ∃ E, ns.zip vs = E := ⟨_, rfl⟩
      have hokE : Sc.ok E := hE ▸ env_ok HEB.out
      have hemE : EnvM w4 w2.heap.size E := hE ▸ HEM4.out
      have hs5 := hb5.size
      have hcx : Cx (w5.alloc (.cells #[.map (some w2.heap.size), .map (some w4.heap.size), .int .i64 0] 84)) w5.heap.size w2.heap.size w4.heap.size (w.heap.size + 1) E 0 :=
        ⟨heap_alloc_new w5 (.cells #[.map (some w2.heap.size), .map (some w4.heap.size), .int .i64 0] 84), hemE.block (hb6.block _ HN4.out), own_block hom ((b1 w5 _).block _ hom.lt), by have := HS4.out; omega, by have := HN4.out; omega, by have := hom.lt; omega, HM4.out.below hb6, Nat.succ_pos _⟩
      have HTL := Lib.hid (term_all find_c 2000 (Nat.le_refl _) t (Nat.le_trans ((valid_iff t).1 HVB.out).2 (by decide)) hwf [] (.pointer none) 0 w.heap.size 0 (w5.alloc (.cells #[.map (some w2.heap.size), .map (some w4.heap.size), .int .i64 0] 84)) (Nat.zero_le _) hokE (HT4.out.below (hb6.mono (by have := HS4.out; omega))) hcx rfl)
      rw [List.nil_append] at HTL
      have HR : Hid (valueR t ns vs = (ev t E 0).1) := by show _ = _; unfold valueR; rw [if_pos HEB.out, if_pos HVB.out, hE]
      have HX6 : Hid (w.heap.size + 2 ≤ w5.heap.size ∧ w5.heap.size < (w5.alloc (.cells #[.map (some w2.heap.size), .map (some w4.heap.size), .int .i64 0] 84)).heap.size) := ⟨by have := HS4.out; omega, by rw [World.size_alloc]; omega⟩
      have HB60 := Lib.hid hb6
      clear hb6 hwf hs5 hcx hom hb5 hE hokE hemE
      generalize ev t E 0 = g at *
      obtain ⟨r, c2⟩ := g
      unfold Left at HTL
      dsimp only at HTL HR
      go_upto_region 5 with (fail)
      generalize w5.heap.size = xb at *
      generalize w5.alloc (.cells #[.map (some w2.heap.size), .map (some w4.heap.size), .int .i64 0] 84) = w6 at *
      go_wp2_with fail
      refine HTL.out.mono ?_
      rintro e w7 ⟨q, rfl, hq, hg7, he7⟩
      obtain ⟨A5, c5, rfl⟩ : ∃ A c, q = .slice A r.path.length c := by obtain ⟨⟨⟨A, c, h1, _⟩, _⟩, _⟩ := hq; exact ⟨A, c, h1⟩
      unfold R.cells
      have hb8 := b1 w7 (.cells #[.int .i64 r.v.num, .int .i64 r.v.den, .int .i64 r.v.dim.a, .int .i64 r.v.dim.b, .int .i64 r.v.dim.c, .int .i64 r.v.dim.d, .int .i64 r.v.dim.e, .int .i64 r.v.dim.f, .int .i64 r.v.dim.g, .slice A5 r.path.length c5, .int .i64 r.e] 86)
      have HM8 : Hid (K11 (w7.alloc (.cells #[.int .i64 r.v.num, .int .i64 r.v.den, .int .i64 r.v.dim.a, .int .i64 r.v.dim.b, .int .i64 r.v.dim.c, .int .i64 r.v.dim.d, .int .i64 r.v.dim.e, .int .i64 r.v.dim.f, .int .i64 r.v.dim.g, .slice A5 r.path.length c5, .int .i64 r.e] 86)) w7.heap.size r (.slice A5 r.path.length c5)) := K11.new w7 r _
      have HK8 : Hid (K9 (w7.alloc (.cells #[.int .i64 r.v.num, .int .i64 r.v.den, .int .i64 r.v.dim.a, .int .i64 r.v.dim.b, .int .i64 r.v.dim.c, .int .i64 r.v.dim.d, .int .i64 r.v.dim.e, .int .i64 r.v.dim.f, .int .i64 r.v.dim.g, .slice A5 r.path.length c5, .int .i64 r.e] 86)) (w.heap.size + 1) zV) := (hb8.block _ (by have h1 := HX6.out; have h2 := hg7.size; omega)).trans ((hg7.block _ (by have h1 := HX6.out; omega) (fun e => by have h0 := Option.some.inj e; have h1 := HX6.out; omega)).trans HK6.out)
      have HQ8 : Hid (BO (w7.alloc (.cells #[.int .i64 r.v.num, .int .i64 r.v.den, .int .i64 r.v.dim.a, .int .i64 r.v.dim.b, .int .i64 r.v.dim.c, .int .i64 r.v.dim.d, .int .i64 r.v.dim.e, .int .i64 r.v.dim.f, .int .i64 r.v.dim.g, .slice A5 r.path.length c5, .int .i64 r.e] 86)) (w.heap.size + 2) (.slice A5 r.path.length c5) r.path) := (hq.reach hb8).less (by have h1 := HX6.out; omega)
      have HB8 : Hid (Below w.heap.size w (w7.alloc (.cells #[.int .i64 r.v.num, .int .i64 r.v.den, .int .i64 r.v.dim.a, .int .i64 r.v.dim.b, .int .i64 r.v.dim.c, .int .i64 r.v.dim.d, .int .i64 r.v.dim.e, .int .i64 r.v.dim.f, .int .i64 r.v.dim.g, .slice A5 r.path.length c5, .int .i64 r.e] 86))) := by
        have h0 := HB6.out
        refine Below.trans ⟨hg7.os.trans h0.os, hg7.tape.trans h0.tape, hg7.output.trans h0.output, Nat.le_trans h0.size hg7.size, fun k hk => (hg7.block k (by have h1 := h0.size; omega) (fun e => by have h2 := Option.some.inj e; have h1 := HX6.out; omega)).trans (h0.block k hk)⟩ (hb8.mono (by have h1 := HX6.out; have h2 := hg7.size; omega))
      have HN8 : Hid (w.heap.size + 1 < w7.heap.size) := by have h1 := HX6.out; have h2 := hg7.size; show _ < _; omega
      clear hb8 hq hg7 he7
      go_upto_region 6 with (fail)
      have hne8 : w7.heap.size ≠ w.heap.size + 1 := by have := HN8.out; omega
      generalize w7.alloc (.cells #[.int .i64 r.v.num, .int .i64 r.v.den, .int .i64 r.v.dim.a, .int .i64 r.v.dim.b, .int .i64 r.v.dim.c, .int .i64 r.v.dim.d, .int .i64 r.v.dim.e, .int .i64 r.v.dim.f, .int .i64 r.v.dim.g, .slice A5 r.path.length c5, .int .i64 r.e] 86) = w8 at *
      generalize w7.heap.size = m at *
      obtain ⟨⟨m0, m1, m2, m3, m4, m5, m6, m7, m8, m9, m10⟩, mf, _⟩ := HM8.out.cells
      obtain ⟨⟨⟨z0, z1⟩, z2, z3, z4, z5, z6, z7, z8⟩, zf, _⟩ := HK8.out.cells
      go_region
      all_goals
        go_wp2_with fail
        rw [HR.out]
        refine bodyPost_ret (v := .tuple #[.agg r.v.cells, .slice A5 r.path.length c5, .int .i64 r.e]) (by simp [results, Tryz.results20, go_sem, V.cells, z0, z1, z2, z3, z4, z5, z6, z7, z8]) rfl ⟨_, rfl, ?_⟩
        exact ⟨BO.dr ((HQ8.out.set9 (b := w.heap.size + 1) (by omega) r.v).less (by omega)), bl_dr (below9 HB8.out (b := w.heap.size + 1) (Nat.le_succ _) r.v)⟩
  · have HR : Hid (valueR t ns vs = erR 1) := by show _ = _; unfold valueR; rw [if_neg (by rw [he]; decide)]
    obtain ⟨⟨⟨z0, z1⟩, z2, z3, z4, z5, z6, z7, z8⟩, zf, _⟩ := HK3.out.cells
    go_wp2_with fail
    rw [HR.out]
    refine bodyPost_ret (v := .tuple #[.agg zV.cells, .slice none 0 0, .int .i64 1]) (by simp [results, Tryz.results20, go_sem, V.cells, zV, zD, z0, z1, z2, z3, z4, z5, z6, z7, z8]) rfl ⟨_, rfl, (BO.nil _ w.heap.size), ?_⟩
    exact below9 HB3.out (b := w.heap.size + 1) (Nat.le_succ _) zV
end Go.Proofs.YtknpigdpepmimaaGreatDoor

namespace Go.Proofs.YtknpigdpepmimaaGreatDoor
open Go.RowKit Go.Maps
mutual
def lft : T → Int → Int
  | .mk _ n v ys f, m => if 300 < n.length ∨ 300 < v.length ∨ 300 < f.length then -1 else lfts ys (m - 1)
def lfts : List T → Int → Int
  | [], m => m
  | t :: ts, m => if 0 ≤ m then lfts ts (lft t m) else m
end
theorem lft_eq (t : T) (m : Int) : lft t m = if 300 < t.name.length ∨ 300 < t.var.length ∨ 300 < t.form.length then -1 else lfts t.args (m - 1) := by
  cases t with
  | mk k n v ys f => rw [lft]; rfl
mutual
theorem lft_le (t : T) (m : Int) (hm : 0 ≤ m) : -1 ≤ lft t m ∧ lft t m < m := by
  cases t with
  | mk k n v ys f =>
    rw [lft]
    split
    · omega
    · have := lfts_le ys (m - 1) (by omega); omega
theorem lfts_le (ts : List T) (m : Int) (hm : -1 ≤ m) : -1 ≤ lfts ts m ∧ lfts ts m ≤ m := by
  cases ts with
  | nil => rw [lfts]; omega
  | cons t ts =>
    rw [lfts]
    split
    · rename_i h
      have h1 := lft_le t m h
      have h2 := lfts_le ts (lft t m) h1.1
      omega
    · omega
end
mutual
theorem lft_SA (t : T) (m : Int) (h : 0 ≤ lft t m) : SA t := by
  cases t with
  | mk k n v ys f =>
    rw [lft] at h
    rw [SA]
    split at h
    · omega
    · rename_i hc
      refine ⟨⟨?_, ?_, ?_⟩, lfts_SA ys (m - 1) h⟩
      · show n.length ≤ 1000
        rcases Nat.lt_or_ge 300 n.length with h' | h'
        · exact absurd (.inl h') hc
        · omega
      · show v.length ≤ 1000
        rcases Nat.lt_or_ge 300 v.length with h' | h'
        · exact absurd (.inr (.inl h')) hc
        · omega
      · show f.length ≤ 1000
        rcases Nat.lt_or_ge 300 f.length with h' | h'
        · exact absurd (.inr (.inr h')) hc
        · omega
theorem lfts_SA (ts : List T) (m : Int) (h : 0 ≤ lfts ts m) : SAs ts := by
  cases ts with
  | nil => rw [SAs]; trivial
  | cons t ts =>
    rw [lfts] at h
    rw [SAs]
    split at h
    · rename_i hm
      have h2 := lfts_SA ts _ h
      refine ⟨lft_SA t m ?_, h2⟩
      have h3 := lft_le t m hm
      have h4 := lfts_le ts _ h3.1
      omega
    · omega
end
set_option maxRecDepth 100000 in
set_option maxHeartbeats 4000000 in
theorem left_aux (N : Nat) : ∀ (t : T), t.size ≤ N → ∀ (A : Option Addr) (c : Nat) (m : Int) (w : World), TV w w.heap.size t A c → 0 ≤ m → m ≤ 200 →
    Calls Tryz.prog 30 #[.agg (tv t A c), .int .i64 m] w fun e w' => e = .returned (.int .i64 (lft t m)) ∧ Below w.heap.size w w' := by
  induction N with
  | zero => intro t ht; exact absurd ht (by cases t; rw [T.size]; omega)
  | succ N ih =>
    intro t ht A c m w hv hm0 hm2
    have IH := Lib.hid ih
    clear ih
    have HE := Lib.hid (lft_eq t m)
    have hb0 : Below w.heap.size w (w.alloc (.cells (tv t A c) 24)) := (Below.refl _ _).alloc (Nat.le_refl _) _
    have HB0 := Lib.hid hb0
    have hR := hv.box
    have HTA : Hid (TA (w.alloc (.cells (tv t A c) 24)) w.heap.size A t.args) := hv.ar.below hb0
    have HSZ : Hid (∀ u ∈ t.args, u.size ≤ N) := fun u hu => by have := size_arg hu; omega
    obtain ⟨hcp1, hcp2⟩ := hv.cap
    have k0 : (w.alloc (.cells (tv t A c) 24)).cell? ⟨w.heap.size, 1, none⟩ = some (.string ⟨t.name.toArray⟩) := by simp [tv]
    have k1 : (w.alloc (.cells (tv t A c) 24)).cell? ⟨w.heap.size, 2, none⟩ = some (.string ⟨t.var.toArray⟩) := by simp [tv]
    have k3 : (w.alloc (.cells (tv t A c) 24)).cell? ⟨w.heap.size, 3, none⟩ = some (.slice A t.args.length c) := by simp [tv]
    have k4 : (w.alloc (.cells (tv t A c) 24)).cell? ⟨w.heap.size, 4, none⟩ = some (.string ⟨t.form.toArray⟩) := by simp [tv]
    have s0 : (⟨t.name.toArray⟩ : ByteArray).size = t.name.length := size_mk _
    have s1 : (⟨t.var.toArray⟩ : ByteArray).size = t.var.length := size_mk _
    have s4 : (⟨t.form.toArray⟩ : ByteArray).size = t.form.length := size_mk _
    generalize tv t A c = cs at *
    generalize t.name = nm at *
    generalize t.var = v at *
    generalize t.form = f at *
    obtain ⟨ys, hys⟩ : ∃ ys, ys = t.args := ⟨_, rfl⟩
    rw [← hys] at HE HTA HSZ k3 hcp1
    clear hys hv hb0 hR
    have hyl : ys.length ≤ 9223372036854775807 := by omega
    go_enter Tryz.func30, Tryz.ntmps30
    go_upto_region 2 with (fail)
    go_cut [23] (fun s23 wx => s23 = .bool (decide (300 < nm.length ∨ 300 < v.length ∨ 300 < f.length)) ∧ w.alloc (.cells cs 24) = wx)
    case first =>
      by_cases h1 : 300 < nm.length
      · have h1z : (300 : Int) < (nm.length : Int) := by omega
        have HX : Hid (decide (300 < nm.length ∨ 300 < v.length ∨ 300 < f.length) = true) := decide_eq_true (.inl h1)
        go_wp2_with fail
        go_meet
        case rel => exact ⟨by rw [HX.out], rfl⟩
      · have h1z : ¬ (300 : Int) < (nm.length : Int) := by omega
        by_cases h2 : 300 < v.length
        · have h2z : (300 : Int) < (v.length : Int) := by omega
          have HX : Hid (decide (300 < nm.length ∨ 300 < v.length ∨ 300 < f.length) = true) := decide_eq_true (.inr (.inl h2))
          go_wp2_with fail
          go_meet
          case rel => exact ⟨by rw [HX.out], rfl⟩
        · have h2z : ¬ (300 : Int) < (v.length : Int) := by omega
          by_cases h3 : 300 < f.length
          · have h3z : (300 : Int) < (f.length : Int) := by omega
            have HX : Hid (decide (300 < nm.length ∨ 300 < v.length ∨ 300 < f.length) = true) := decide_eq_true (.inr (.inr h3))
            go_wp2_with fail
            go_meet
            case rel => exact ⟨by rw [HX.out], rfl⟩
          · have h3z : ¬ (300 : Int) < (f.length : Int) := by omega
            have HX : Hid (decide (300 < nm.length ∨ 300 < v.length ∨ 300 < f.length) = false) := decide_eq_false (by omega)
            go_wp2_with fail
            go_meet
            case rel => exact ⟨by rw [HX.out], rfl⟩
    case rest =>
      obtain ⟨rfl, rfl⟩ := hcut
      clear k0 k1 k4 s0 s1 s4
      by_cases hlong : 300 < nm.length ∨ 300 < v.length ∨ 300 < f.length
      · have HX := Lib.hid (HE.out.trans (if_pos hlong))
        rw [decide_eq_true hlong]
        clear hlong
        go_wp2_with fail
        go_ret
        rw [HX.out]
        exact ⟨rfl, HB0.out⟩
      · have HX := Lib.hid (HE.out.trans (if_neg hlong))
        rw [decide_eq_false hlong]
        clear hlong HE
        go_wp2_with fail
        obtain ⟨w1, hw1⟩ : ∃ w1, w1 = w.alloc (.cells cs 24) := ⟨_, rfl⟩
        have hFl : w.heap.size < w1.heap.size := by rw [hw1]; simp
        rw [← hw1] at HB0 HTA k3 ⊢
        clear hw1
        go_loopg [1, 5] ys.length (fun gg s1 s5 wr => ∃ (i : Nat) (mi : Int), i ≤ ys.length ∧ ys.length - i ≤ gg ∧ s5 = .int .i64 i ∧ s1 = .int .i64 mi ∧ -1 ≤ mi ∧ mi ≤ 200 ∧ Aside (lfts ys (m - 1) = lfts (ys.drop i) mi) ∧ Aside (Below w1.heap.size w1 wr))
        case atStart => exact ⟨0, m - 1, Nat.zero_le _, by omega, rfl, rfl, by omega, by omega, rfl, Below.refl _ _⟩
        case round =>
          obtain ⟨i, mi, hi, hgg, rfl, rfl, hmi1, hmi2, HQ, HB⟩ := hrel
          have HBw := Lib.hid (HB0.out.trans (HB.out.mono HB0.out.size))
          have k3r : wr.cell? ⟨w.heap.size, 3, none⟩ = some (.slice A ys.length c) := (HB.out.cell (p := ⟨w.heap.size, 3, none⟩) hFl).trans k3
          go_upto_region 5 with (fail)
          go_cut [32] (fun s32 wx => s32 = .bool (decide (i < ys.length) && decide (0 ≤ mi)) ∧ wr = wx)
          case first =>
            by_cases hlt : i < ys.length
            · have hltz : (i : Int) < (ys.length : Int) := by omega
              by_cases h0 : 0 ≤ mi
              · go_wp2_with fail
                go_meet
                case rel => exact ⟨by rw [decide_eq_true hlt, decide_eq_true h0]; rfl, rfl⟩
              · go_wp2_with fail
                go_meet
                case rel => exact ⟨by rw [decide_eq_true hlt, decide_eq_false (show ¬ 0 ≤ mi by omega)]; rfl, rfl⟩
            · have hltz : ¬ (i : Int) < (ys.length : Int) := by omega
              go_wp2_with fail
              go_meet
              case rel => exact ⟨by rw [decide_eq_false hlt]; rfl, rfl⟩
          case rest =>
            obtain ⟨rfl, rfl⟩ := hcut
            by_cases hgo : i < ys.length ∧ 0 ≤ mi
            · obtain ⟨hlt, h0⟩ := hgo
              rw [decide_eq_true hlt, decide_eq_true h0]
              obtain ⟨b', o', rfl, hRi⟩ := (HTA.out.below (HB.out.mono HB0.out.size)).at_ hlt
              obtain ⟨_, d0, d1, d2, d4, A2, c2, d3, hcp3, hTA2⟩ := hRi.parts
              have HTV : Hid (TV wr wr.heap.size ys[i] A2 c2) := ⟨hcp3, hTA2.more HBw.out.size⟩
              have HD : Hid (lfts (ys.drop i) mi = lfts (ys.drop (i + 1)) (lft ys[i] mi)) := by
                show lfts (ys.drop i) mi = _
                rw [List.drop_eq_getElem_cons hlt, lfts, if_pos h0]
              have hle := lft_le ys[i] mi h0
              have HCall := Lib.hid (IH.out ys[i] (HSZ.out _ (List.getElem_mem hlt)) A2 c2 mi wr HTV.out h0 hmi2)
              clear hRi hcp3 hTA2 HTV
              unfold tv at HCall
              generalize lft ys[i] mi = r at *
              generalize ys[i] = u at *
              have hltz : (i : Int) < (ys.length : Int) := by omega
              go_wp2_with fail
              refine HCall.out.mono ?_
              rintro e w2 ⟨rfl, hb2⟩
              have HB2 := Lib.hid (HB.out.trans (hb2.mono HB.out.size))
              clear hb2 HCall d0 d1 d2 d3 d4
              go_wp2_with fail
              go_roundg (ys.length - (i + 1))
              case measure => omega
              case rel => exact ⟨i + 1, r, by omega, by omega, by go_num, rfl, by omega, by omega, HQ.out.trans HD.out, HB2.out⟩
            · have HF : Hid ((decide (i < ys.length) && decide (0 ≤ mi)) = false) := by
                show (decide (i < ys.length) && decide (0 ≤ mi)) = false
                by_cases hlt : i < ys.length
                · rw [decide_eq_false (fun h0 => hgo ⟨hlt, h0⟩), Bool.and_false]
                · rw [decide_eq_false hlt]; rfl
              have HR : Hid (lft t m = mi) := by
                show lft t m = mi
                rw [HX.out, HQ.out]
                by_cases hlt : i < ys.length
                · rw [List.drop_eq_getElem_cons hlt, lfts, if_neg (fun h0 => hgo ⟨hlt, h0⟩)]
                · rw [List.drop_eq_nil_of_le (by omega), lfts]
              rw [HF.out]
              clear hgo
              go_wp2_with fail
              go_ret
              rw [HR.out]
              exact ⟨rfl, HBw.out⟩
end Go.Proofs.YtknpigdpepmimaaGreatDoor
