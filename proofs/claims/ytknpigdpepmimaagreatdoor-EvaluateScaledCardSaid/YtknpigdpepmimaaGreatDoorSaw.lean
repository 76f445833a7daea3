/- The walk of EvaluateScaled. -/
import Derived.Test.YtknpigdpepmimaaGreatDoorM39
import Derived.Test.YtknpigdpepmimaaGreatDoorTxt
import Derived.Test.YtknpigdpepmimaaGreatDoorRsw
import Derived.Test.YtknpigdpepmimaaGreatDoorFst
import Derived.Deep.CutBlock
import Derived.Deep.DeepCutAuto
import Derived.Deep.RegionHeldLaw
namespace Go.Proofs.YtknpigdpepmimaaGreatDoor
open Go.RowKit Go.Maps

def pfOf (n0 n1 n2 n3 n4 n5 n6 : Nat) : Pf := ⟨1 + n0 % 12, 1 + n1 % 12, 1 + n2 % 12, 1 + n3 % 12, 1 + n4 % 12, 1 + n5 % 12, 1 + n6 % 12, ⟨by omega, by omega⟩, ⟨by omega, by omega⟩, ⟨by omega, by omega⟩, ⟨by omega, by omega⟩, ⟨by omega, by omega⟩, ⟨by omega, by omega⟩, ⟨by omega, by omega⟩⟩
/-- the array with its first i factors -/
def M14 (w : World) (b : Nat) (p : Pf) (i : Nat) : Prop := w.heap[b]? = some (.cells #[.int .i64 (if 0 < i then ((p.a : Nat) : Int) else 0), .int .i64 (if 0 < i then 1 else 0), .int .i64 (if 1 < i then ((p.b : Nat) : Int) else 0), .int .i64 (if 1 < i then 1 else 0), .int .i64 (if 2 < i then ((p.c : Nat) : Int) else 0), .int .i64 (if 2 < i then 1 else 0), .int .i64 (if 3 < i then ((p.d : Nat) : Int) else 0), .int .i64 (if 3 < i then 1 else 0), .int .i64 (if 4 < i then ((p.e : Nat) : Int) else 0), .int .i64 (if 4 < i then 1 else 0), .int .i64 (if 5 < i then ((p.f : Nat) : Int) else 0), .int .i64 (if 5 < i then 1 else 0), .int .i64 (if 6 < i then ((p.g : Nat) : Int) else 0), .int .i64 (if 6 < i then 1 else 0)] 58 (0, 0))
theorem one_mod {w : World} {b : Nat} {cs : Array Value} {ty : TypeId} (h : w.heap[b]? = some (.cells cs ty (0, 0))) (o : Nat) (u : Value) : (w.setCell ⟨b, o, none⟩ u).heap[b]? = some (.cells (cs.setIfInBounds o u) ty (0, 0)) := by
  show (w.heap.modify b _)[b]? = _
  rw [Array.getElem?_modify, if_pos rfl, h]
  rfl
theorem K9.set9v {w : World} {b : Nat} {u : V} (h : K9 w b u) (v : V) : K9 (set9 w b v) b v := by
  have h0 : w.heap[b]? = some (.cells #[.int .i64 u.num, .int .i64 u.den, .int .i64 u.dim.a, .int .i64 u.dim.b, .int .i64 u.dim.c, .int .i64 u.dim.d, .int .i64 u.dim.e, .int .i64 u.dim.f, .int .i64 u.dim.g] 44 (0, 0)) := h
  have h1 : (w.setCell ⟨b, 0, none⟩ (.int .i64 v.num)).heap[b]? = some (.cells #[.int .i64 v.num, .int .i64 u.den, .int .i64 u.dim.a, .int .i64 u.dim.b, .int .i64 u.dim.c, .int .i64 u.dim.d, .int .i64 u.dim.e, .int .i64 u.dim.f, .int .i64 u.dim.g] 44 (0, 0)) := one_mod h0 0 (.int .i64 v.num)
  have h2 : ((w.setCell ⟨b, 0, none⟩ (.int .i64 v.num)).setCell ⟨b, 1, none⟩ (.int .i64 v.den)).heap[b]? = some (.cells #[.int .i64 v.num, .int .i64 v.den, .int .i64 u.dim.a, .int .i64 u.dim.b, .int .i64 u.dim.c, .int .i64 u.dim.d, .int .i64 u.dim.e, .int .i64 u.dim.f, .int .i64 u.dim.g] 44 (0, 0)) := one_mod h1 1 (.int .i64 v.den)
  have h3 : (((w.setCell ⟨b, 0, none⟩ (.int .i64 v.num)).setCell ⟨b, 1, none⟩ (.int .i64 v.den)).setCell ⟨b, 2, none⟩ (.int .i64 v.dim.a)).heap[b]? = some (.cells #[.int .i64 v.num, .int .i64 v.den, .int .i64 v.dim.a, .int .i64 u.dim.b, .int .i64 u.dim.c, .int .i64 u.dim.d, .int .i64 u.dim.e, .int .i64 u.dim.f, .int .i64 u.dim.g] 44 (0, 0)) := one_mod h2 2 (.int .i64 v.dim.a)
  have h4 : ((((w.setCell ⟨b, 0, none⟩ (.int .i64 v.num)).setCell ⟨b, 1, none⟩ (.int .i64 v.den)).setCell ⟨b, 2, none⟩ (.int .i64 v.dim.a)).setCell ⟨b, 3, none⟩ (.int .i64 v.dim.b)).heap[b]? = some (.cells #[.int .i64 v.num, .int .i64 v.den, .int .i64 v.dim.a, .int .i64 v.dim.b, .int .i64 u.dim.c, .int .i64 u.dim.d, .int .i64 u.dim.e, .int .i64 u.dim.f, .int .i64 u.dim.g] 44 (0, 0)) := one_mod h3 3 (.int .i64 v.dim.b)
  have h5 : (((((w.setCell ⟨b, 0, none⟩ (.int .i64 v.num)).setCell ⟨b, 1, none⟩ (.int .i64 v.den)).setCell ⟨b, 2, none⟩ (.int .i64 v.dim.a)).setCell ⟨b, 3, none⟩ (.int .i64 v.dim.b)).setCell ⟨b, 4, none⟩ (.int .i64 v.dim.c)).heap[b]? = some (.cells #[.int .i64 v.num, .int .i64 v.den, .int .i64 v.dim.a, .int .i64 v.dim.b, .int .i64 v.dim.c, .int .i64 u.dim.d, .int .i64 u.dim.e, .int .i64 u.dim.f, .int .i64 u.dim.g] 44 (0, 0)) := one_mod h4 4 (.int .i64 v.dim.c)
  have h6 : ((((((w.setCell ⟨b, 0, none⟩ (.int .i64 v.num)).setCell ⟨b, 1, none⟩ (.int .i64 v.den)).setCell ⟨b, 2, none⟩ (.int .i64 v.dim.a)).setCell ⟨b, 3, none⟩ (.int .i64 v.dim.b)).setCell ⟨b, 4, none⟩ (.int .i64 v.dim.c)).setCell ⟨b, 5, none⟩ (.int .i64 v.dim.d)).heap[b]? = some (.cells #[.int .i64 v.num, .int .i64 v.den, .int .i64 v.dim.a, .int .i64 v.dim.b, .int .i64 v.dim.c, .int .i64 v.dim.d, .int .i64 u.dim.e, .int .i64 u.dim.f, .int .i64 u.dim.g] 44 (0, 0)) := one_mod h5 5 (.int .i64 v.dim.d)
  have h7 : (((((((w.setCell ⟨b, 0, none⟩ (.int .i64 v.num)).setCell ⟨b, 1, none⟩ (.int .i64 v.den)).setCell ⟨b, 2, none⟩ (.int .i64 v.dim.a)).setCell ⟨b, 3, none⟩ (.int .i64 v.dim.b)).setCell ⟨b, 4, none⟩ (.int .i64 v.dim.c)).setCell ⟨b, 5, none⟩ (.int .i64 v.dim.d)).setCell ⟨b, 6, none⟩ (.int .i64 v.dim.e)).heap[b]? = some (.cells #[.int .i64 v.num, .int .i64 v.den, .int .i64 v.dim.a, .int .i64 v.dim.b, .int .i64 v.dim.c, .int .i64 v.dim.d, .int .i64 v.dim.e, .int .i64 u.dim.f, .int .i64 u.dim.g] 44 (0, 0)) := one_mod h6 6 (.int .i64 v.dim.e)
  have h8 : ((((((((w.setCell ⟨b, 0, none⟩ (.int .i64 v.num)).setCell ⟨b, 1, none⟩ (.int .i64 v.den)).setCell ⟨b, 2, none⟩ (.int .i64 v.dim.a)).setCell ⟨b, 3, none⟩ (.int .i64 v.dim.b)).setCell ⟨b, 4, none⟩ (.int .i64 v.dim.c)).setCell ⟨b, 5, none⟩ (.int .i64 v.dim.d)).setCell ⟨b, 6, none⟩ (.int .i64 v.dim.e)).setCell ⟨b, 7, none⟩ (.int .i64 v.dim.f)).heap[b]? = some (.cells #[.int .i64 v.num, .int .i64 v.den, .int .i64 v.dim.a, .int .i64 v.dim.b, .int .i64 v.dim.c, .int .i64 v.dim.d, .int .i64 v.dim.e, .int .i64 v.dim.f, .int .i64 u.dim.g] 44 (0, 0)) := one_mod h7 7 (.int .i64 v.dim.f)
  have h9 : (((((((((w.setCell ⟨b, 0, none⟩ (.int .i64 v.num)).setCell ⟨b, 1, none⟩ (.int .i64 v.den)).setCell ⟨b, 2, none⟩ (.int .i64 v.dim.a)).setCell ⟨b, 3, none⟩ (.int .i64 v.dim.b)).setCell ⟨b, 4, none⟩ (.int .i64 v.dim.c)).setCell ⟨b, 5, none⟩ (.int .i64 v.dim.d)).setCell ⟨b, 6, none⟩ (.int .i64 v.dim.e)).setCell ⟨b, 7, none⟩ (.int .i64 v.dim.f)).setCell ⟨b, 8, none⟩ (.int .i64 v.dim.g)).heap[b]? = some (.cells #[.int .i64 v.num, .int .i64 v.den, .int .i64 v.dim.a, .int .i64 v.dim.b, .int .i64 v.dim.c, .int .i64 v.dim.d, .int .i64 v.dim.e, .int .i64 v.dim.f, .int .i64 v.dim.g] 44 (0, 0)) := one_mod h8 8 (.int .i64 v.dim.g)
  exact h9
theorem FS.reach {m : Nat} {w0 w w' : World} {c0 c1 vn vv : Value} {ln : List W8} {lv : List V} (h : FS m w0 w c0 c1 vn vv ln lv) (hb : Below w.heap.size w w') : FS m w0 w' c0 c1 vn vv ln lv :=
  ⟨h.hm, gb_tr h.hb (gb_below (row := none) hb) (fun k hk => by cases hk), (hb.block m h.lt).trans h.ht, World.ownsRow.kept h.hn (gb_below (row := none) hb) (by cases vn.ownBlock <;> simp), World.ownsRow.kept h.hv (gb_below (row := none) hb) (by cases vv.ownBlock <;> simp), h.hd⟩
theorem scl_take {F : Fs} {vs lv : List V} {i : Nat} {a : V} (h : SclL F (vs.take i) lv) (hi : i < vs.length) (ha : Scl F vs[i] a) : SclL F (vs.take (i + 1)) (lv ++ [a]) := by
  rw [List.take_succ_eq_append_getElem hi]
  exact SclL.snoc ha h
theorem scl_fit {F : Fs} {l m : List V} (h : SclL F l m) : ∀ x ∈ m, x.fit := fun x hx => by
  have h1 := (SclL.ok h x hx).bnd
  unfold V.fit
  omega
theorem sub_eq {F : Fs} {v a b : V} (h1 : Scl F v a) (h2 : Scl F v b) : a = b := by
  refine qv_inj h1.1 h2.1 (h1.2.1.trans h2.2.1.symm) ?_
  have e1 := h1.2.2
  have e2 := h2.2.2
  have := F.P_ne v.dim
  grind

set_option maxRecDepth 100000 in
set_option maxHeartbeats 4000000 in
theorem scaledE_walk (t : T) (A : Option Addr) (c : Nat) (An Av : Option Addr) (cn cv : Nat) (ns : List W8) (vs : List V) (n0 n1 n2 n3 n4 n5 n6 : Nat) (w : World) (hv : TV w w.heap.size t A c) (hn : SL w w.heap.size (.slice An ns.length cn) ns) (hvv : SV w (.slice Av vs.length cv) vs) (hb : n0 ≤ 255 ∧ n1 ≤ 255 ∧ n2 ≤ 255 ∧ n3 ≤ 255 ∧ n4 ≤ 255 ∧ n5 ≤ 255 ∧ n6 ≤ 255) (hfit : ∀ x ∈ vs, x.fit) (hm : Max w) :
    Calls Tryz.prog 6 #[.agg (tv t A c), .agg #[.slice An ns.length cn, .slice Av vs.length cv], .agg #[.int .u8 (n0 : Nat), .int .u8 (n1 : Nat), .int .u8 (n2 : Nat), .int .u8 (n3 : Nat), .int .u8 (n4 : Nat), .int .u8 (n5 : Nat), .int .u8 (n6 : Nat)]] w fun e w' => e = .returned (.bool true) ∧ Below w.heap.size w w' := by
  have hb3 := b3 w (.cells (tv t A c) 24) (.cells #[.slice An ns.length cn, .slice Av vs.length cv] 28) (.cells #[.int .u8 (n0 : Nat), .int .u8 (n1 : Nat), .int .u8 (n2 : Nat), .int .u8 (n3 : Nat), .int .u8 (n4 : Nat), .int .u8 (n5 : Nat), .int .u8 (n6 : Nat)] 55)
  have HB := Lib.hid hb3
  have HM := Lib.hid fun (wz : World) (h : Below w.heap.size w wz) => hm.reach h
  have HV := Lib.hid fun (wz : World) (h : Below w.heap.size w wz) => hv.reach h
  have HN := Lib.hid fun (wz : World) (h : Below w.heap.size w wz) => (hn.below h).more h.size
  have HVV := Lib.hid fun (wz : World) (h : Below w.heap.size w wz) => hvv.reach h
  have HX1 : Hid (Bxd (((w.alloc (.cells (tv t A c) 24)).alloc (.cells #[.slice An ns.length cn, .slice Av vs.length cv] 28)).alloc (.cells #[.int .u8 (n0 : Nat), .int .u8 (n1 : Nat), .int .u8 (n2 : Nat), .int .u8 (n3 : Nat), .int .u8 (n4 : Nat), .int .u8 (n5 : Nat), .int .u8 (n6 : Nat)] 55)) w.heap.size t A c) := (bxd_new w t A c).below ((b1 _ _).trans ((b1 _ _).mono (by simp))) (by simp)
  have HX2 : Hid (Rmx (((w.alloc (.cells (tv t A c) 24)).alloc (.cells #[.slice An ns.length cn, .slice Av vs.length cv] 28)).alloc (.cells #[.int .u8 (n0 : Nat), .int .u8 (n1 : Nat), .int .u8 (n2 : Nat), .int .u8 (n3 : Nat), .int .u8 (n4 : Nat), .int .u8 (n5 : Nat), .int .u8 (n6 : Nat)] 55)) (w.heap.size + 1) (.slice An ns.length cn) (.slice Av vs.length cv)) := by
    have h := (rmx_new (w.alloc (.cells (tv t A c) 24)) (.slice An ns.length cn) (.slice Av vs.length cv)).below (b1 _ (.cells #[.int .u8 (n0 : Nat), .int .u8 (n1 : Nat), .int .u8 (n2 : Nat), .int .u8 (n3 : Nat), .int .u8 (n4 : Nat), .int .u8 (n5 : Nat), .int .u8 (n6 : Nat)] 55)) (by simp)
    rw [World.size_alloc] at h
    exact h
  have HX3 : Hid ((((w.alloc (.cells (tv t A c) 24)).alloc (.cells #[.slice An ns.length cn, .slice Av vs.length cv] 28)).alloc (.cells #[.int .u8 (n0 : Nat), .int .u8 (n1 : Nat), .int .u8 (n2 : Nat), .int .u8 (n3 : Nat), .int .u8 (n4 : Nat), .int .u8 (n5 : Nat), .int .u8 (n6 : Nat)] 55)).heap[w.heap.size + 1 + 1]? = some (.cells #[.int .u8 (n0 : Nat), .int .u8 (n1 : Nat), .int .u8 (n2 : Nat), .int .u8 (n3 : Nat), .int .u8 (n4 : Nat), .int .u8 (n5 : Nat), .int .u8 (n6 : Nat)] 55 (0, 0))) := by
    have h := heap_alloc_new ((w.alloc (.cells (tv t A c) 24)).alloc (.cells #[.slice An ns.length cn, .slice Av vs.length cv] 28)) (.cells #[.int .u8 (n0 : Nat), .int .u8 (n1 : Nat), .int .u8 (n2 : Nat), .int .u8 (n3 : Nat), .int .u8 (n4 : Nat), .int .u8 (n5 : Nat), .int .u8 (n6 : Nat)] 55)
    rw [World.size_alloc, World.size_alloc] at h
    exact h
  have HSZ : Hid ((((w.alloc (.cells (tv t A c) 24)).alloc (.cells #[.slice An ns.length cn, .slice Av vs.length cv] 28)).alloc (.cells #[.int .u8 (n0 : Nat), .int .u8 (n1 : Nat), .int .u8 (n2 : Nat), .int .u8 (n3 : Nat), .int .u8 (n4 : Nat), .int .u8 (n5 : Nat), .int .u8 (n6 : Nat)] 55)).heap.size = w.heap.size + 3) := by show _ = _; simp
  have HFW := Lib.hid fun (wz : World) (h : Below w.heap.size w wz) => few10_any t A c An Av cn cv ns vs wz (hv.reach h) ((hn.below h).more h.size) (by obtain ⟨_, _, e, h2, _⟩ := hvv; omega)
  have HFIT := Lib.hid hfit
  have HVC : Hid (vs ≠ [] → ∃ b o, Av = some ⟨b, o, none⟩ ∧ ∀ i (h : i < vs.length), C9 w b (o + i * 9) vs[i]) := by
    obtain ⟨A', c', e, h2, h3⟩ := hvv
    obtain ⟨rfl, _, rfl⟩ := Value.slice.inj e
    exact h3
  have hnl : ns.length ≤ 9223372036854775807 := by
    obtain ⟨A', c', e, h2, h3⟩ := hn
    omega
  clear hv hn hvv hm hb3 hfit
  unfold tv at HFW
  have HTV : Hid (tv t A c = #[.int .i64 t.kind, .string ⟨t.name.toArray⟩, .string ⟨t.var.toArray⟩, .slice A t.args.length c, .string ⟨t.form.toArray⟩]) := rfl
  obtain ⟨hn0, hn1, hn2, hn3, hn4, hn5, hn6⟩ := hb
  go_enter Tryz.func6, Tryz.ntmps6
  go_upto_region 1 with (fail)
  generalize ((w.alloc (.cells (tv t A c) 24)).alloc (.cells #[.slice An ns.length cn, .slice Av vs.length cv] 28)).alloc (.cells #[.int .u8 (n0 : Nat), .int .u8 (n1 : Nat), .int .u8 (n2 : Nat), .int .u8 (n3 : Nat), .int .u8 (n4 : Nat), .int .u8 (n5 : Nat), .int .u8 (n6 : Nat)] 55) = w1 at *
  go_wp2_with fail
  refine (awake9_any _ (HM.out _ HB.out)).mono ?_
  rintro e w2 ⟨rfl, hb2⟩
  have hls : w.heap.size + 3 ≤ w1.heap.size := by have := HSZ.out; omega
  have HB2 := Lib.hid (bl_tr HB.out hb2)
  have HX := Lib.hid fun (wz : World) (h : Below w2.heap.size w2 wz) => And.intro (HX1.out.below (bl_tr hb2 h) (by omega)) (And.intro (HX2.out.below (bl_tr hb2 h) (by omega)) (((bl_tr hb2 h).block (w.heap.size + 1 + 1) (by omega)).trans HX3.out))
  clear HX1 HX2 HX3 hls hb2
  obtain ⟨⟨k0, k1, k2, k3, k4⟩, ⟨r0, r1⟩, _⟩ := HX.out w2 (Below.refl _ _)
  have HC1 := Lib.hid (HFW.out w2 HB2.out)
  go_wp2_with fail
  refine HC1.out.mono ?_
  rintro e w3 ⟨rfl, hb3⟩
  have HB3 := Lib.hid (bl_tr HB2.out hb3)
  have HB23 := Lib.hid hb3
  clear hb3 k0 k1 k2 k3 k4 r0 r1 HC1
  obtain ⟨⟨k0, k1, k2, k3, k4⟩, ⟨r0, r1⟩, _⟩ := HX.out w3 HB23.out
  cases hfe : fewE t ns vs with
  | false =>
    clear hfe
    go_wp2_with fail
    go_ret
    exact ⟨rfl, HB3.out⟩
  | true =>
    have HST := Lib.hid (fewE_SA hfe)
    have HNS : Hid (∀ x ∈ ns, x.length ≤ 1000) := fun x hx => Nat.le_trans (HST.out.2.1 x hx) (by omega)
    have HT2 := Lib.hid (texts_any t A c w3 (HV.out _ HB3.out))
    unfold tv at HT2
    clear hfe HFW
    go_wp2_with fail
    refine HT2.out.mono ?_
    rintro e w4 ⟨rfl, hb4⟩
    have HB24 := Lib.hid (bl_tr HB23.out hb4)
    have HB4 := Lib.hid (bl_tr HB2.out HB24.out)
    clear hb4 HT2 k0 k1 k2 k3 k4 r0 r1
    obtain ⟨⟨k0, k1, k2, k3, k4⟩, ⟨r0, r1⟩, _⟩ := HX.out w4 HB24.out
    cases htx : txB t with
    | true =>
      clear htx
      go_wp2_with fail
      go_ret
      exact ⟨rfl, HB4.out⟩
    | false =>
      have HTX := Lib.hid htx
      clear htx
      have HVA := Lib.hid (value_any t A c (.slice An ns.length cn) (.slice Av vs.length cv) ns vs w4 (HV.out _ HB4.out) HST.out.1 (HM.out _ HB4.out) (HN.out _ HB4.out) (HVV.out _ HB4.out) HNS.out HFIT.out)
      have HSCL := Lib.hid fun (vs' : List V) (hs : SclL (pfOf n0 n1 n2 n3 n4 n5 n6).F vs vs') (he : (valueR t ns vs).e = 0) => valueR_scl HTX.out hs he
      have HVOK := Lib.hid fun (he : (valueR t ns vs).e = 0) => (valueR_ok he).2.2
      unfold tv V.cells at HVA
      generalize valueR t ns vs = ra at *
      go_wp2_with fail
      refine HVA.out.mono ?_
      rintro e wz ⟨q, rfl, _, hbz⟩
      have hbn := bl_tr hbz (b1 wz (.cells #[.int .i64 ra.v.num, .int .i64 ra.v.den, .int .i64 ra.v.dim.a, .int .i64 ra.v.dim.b, .int .i64 ra.v.dim.c, .int .i64 ra.v.dim.d, .int .i64 ra.v.dim.e, .int .i64 ra.v.dim.f, .int .i64 ra.v.dim.g] 44))
      have HB45 := Lib.hid hbn
      have HK5 : Hid (K9 (wz.alloc (.cells #[.int .i64 ra.v.num, .int .i64 ra.v.den, .int .i64 ra.v.dim.a, .int .i64 ra.v.dim.b, .int .i64 ra.v.dim.c, .int .i64 ra.v.dim.d, .int .i64 ra.v.dim.e, .int .i64 ra.v.dim.f, .int .i64 ra.v.dim.g] 44)) wz.heap.size ra.v) := K9.new wz ra.v
      clear hbz hbn HVA k0 k1 k2 k3 k4 r0 r1
      go_upto_region 6 with (fail)
      generalize wz.heap.size = m7 at *
      generalize wz.alloc (.cells #[.int .i64 ra.v.num, .int .i64 ra.v.den, .int .i64 ra.v.dim.a, .int .i64 ra.v.dim.b, .int .i64 ra.v.dim.c, .int .i64 ra.v.dim.d, .int .i64 ra.v.dim.e, .int .i64 ra.v.dim.f, .int .i64 ra.v.dim.g] 44) = w5 at *
      have HB25 := Lib.hid (bl_tr HB24.out HB45.out)
      have HB5 := Lib.hid (bl_tr HB2.out HB25.out)
      by_cases hae : ra.e = 0
      · have haeb : (ra.e != 0) = false := by simp [hae]
        have HAE := Lib.hid hae
        clear hae
        have HB56 := Lib.hid (b1 w5 (.cells #[.int .i64 0, .int .i64 0, .int .i64 0, .int .i64 0, .int .i64 0, .int .i64 0, .int .i64 0, .int .i64 0, .int .i64 0, .int .i64 0, .int .i64 0, .int .i64 0, .int .i64 0, .int .i64 0] 58))
        have HK6 := Lib.hid (HK5.out.reach HB56.out)
        have HM6 : Hid (M14 (w5.alloc (.cells #[.int .i64 0, .int .i64 0, .int .i64 0, .int .i64 0, .int .i64 0, .int .i64 0, .int .i64 0, .int .i64 0, .int .i64 0, .int .i64 0, .int .i64 0, .int .i64 0, .int .i64 0, .int .i64 0] 58)) w5.heap.size (pfOf n0 n1 n2 n3 n4 n5 n6) 0) := heap_alloc_new w5 (.cells #[.int .i64 0, .int .i64 0, .int .i64 0, .int .i64 0, .int .i64 0, .int .i64 0, .int .i64 0, .int .i64 0, .int .i64 0, .int .i64 0, .int .i64 0, .int .i64 0, .int .i64 0, .int .i64 0] 58)
        have HL6 : Hid (w5.heap.size < (w5.alloc (.cells #[.int .i64 0, .int .i64 0, .int .i64 0, .int .i64 0, .int .i64 0, .int .i64 0, .int .i64 0, .int .i64 0, .int .i64 0, .int .i64 0, .int .i64 0, .int .i64 0, .int .i64 0, .int .i64 0] 58)).heap.size) := by show _ < _; simp
        have HB26 := Lib.hid (bl_tr HB25.out HB56.out)
        have HNE := Lib.hid (Nat.ne_of_lt HK5.out.cells.2.2)
        have HLE : Hid (w2.heap.size ≤ w5.heap.size) := HB25.out.size
        clear HB56 HK5 haeb
        have haeb : (ra.e != 0) = false := by simp [HAE.out]
        go_upto_region 10 with (fail)
        generalize w5.heap.size = m10 at *
        generalize w5.alloc (.cells #[.int .i64 0, .int .i64 0, .int .i64 0, .int .i64 0, .int .i64 0, .int .i64 0, .int .i64 0, .int .i64 0, .int .i64 0, .int .i64 0, .int .i64 0, .int .i64 0, .int .i64 0, .int .i64 0] 58) = w6 at *
        go_wp2_with fail
        go_loopg [11] 7 (fun gg s11 wr => ∃ i : Nat, i ≤ 7 ∧ 7 - i ≤ gg ∧ s11 = .int .i64 i ∧ Aside (M14 wr m10 (pfOf n0 n1 n2 n3 n4 n5 n6) i) ∧ Aside (K9 wr m7 ra.v) ∧ Aside (Below w2.heap.size w2 wr))
        case atStart => exact ⟨0, by omega, by omega, rfl, HM6.out, HK6.out, HB26.out⟩
        case round =>
          obtain ⟨i, hi, hgg, rfl, HMr, HKr, HBr⟩ := hrel
          obtain ⟨_, _, h55⟩ := HX.out wr HBr.out
          have HA := Lib.hid h55
          clear h55
          by_cases hlt : i < 7
          · have hltz : (i : Int) < 7 := by omega
            rcases (show i = 0 ∨ i = 1 ∨ i = 2 ∨ i = 3 ∨ i = 4 ∨ i = 5 ∨ i = 6 by omega) with rfl | rfl | rfl | rfl | rfl | rfl | rfl
            · have hk := HMr.out
              unfold M14 at hk
              have c0 : wr.cell? ⟨m10, 0, none⟩ = some (.int .i64 0) := by simp [World.cell?, hk]
              have c1 : wr.cell? ⟨m10, 1, none⟩ = some (.int .i64 0) := by simp [World.cell?, hk]
              have cf0 : wr.frozen? ⟨m10, 0, none⟩ = false := by simp [World.frozen?, hk]
              have cf1 : wr.frozen? ⟨m10, 1, none⟩ = false := by simp [World.frozen?, hk]
              have a0 : wr.cell? ⟨w.heap.size + 1 + 1, 0, none⟩ = some (.int .u8 (n0 : Nat)) := by simp [World.cell?, HA.out]
              have hwi : IntKind.i64.wrap (1 + ((n0 : Nat) : Int) % 12) = 1 + ((n0 : Nat) : Int) % 12 := wrap_small (by omega)
              have HN2 : Hid (M14 ((wr.setCell ⟨m10, 0, none⟩ (.int .i64 (1 + ((n0 : Nat) : Int) % 12))).setCell ⟨m10, 1, none⟩ (.int .i64 1)) m10 (pfOf n0 n1 n2 n3 n4 n5 n6) 1) := (one_mod (one_mod hk 0 _) 1 _).trans rfl
              have HK2 := Lib.hid ((HKr.out.other (b' := m10) (o := 0) (.int .i64 (1 + ((n0 : Nat) : Int) % 12)) HNE.out).other (b' := m10) (o := 1) (.int .i64 1) HNE.out)
              have HB2r := Lib.hid (bl_st (i := 1) (bl_st (i := 0) HBr.out HLE.out (.int .i64 (1 + ((n0 : Nat) : Int) % 12))) HLE.out (.int .i64 1))
              clear hk
              go_wp2_with fail
              go_roundg 6
              case measure => omega
              case rel => exact ⟨1, by omega, by omega, by go_num, HN2.out, HK2.out, HB2r.out⟩
            · have hk := HMr.out
              unfold M14 at hk
              have c0 : wr.cell? ⟨m10, 2, none⟩ = some (.int .i64 0) := by simp [World.cell?, hk]
              have c1 : wr.cell? ⟨m10, 3, none⟩ = some (.int .i64 0) := by simp [World.cell?, hk]
              have cf0 : wr.frozen? ⟨m10, 2, none⟩ = false := by simp [World.frozen?, hk]
              have cf1 : wr.frozen? ⟨m10, 3, none⟩ = false := by simp [World.frozen?, hk]
              have a0 : wr.cell? ⟨w.heap.size + 1 + 1, 1, none⟩ = some (.int .u8 (n1 : Nat)) := by simp [World.cell?, HA.out]
              have hwi : IntKind.i64.wrap (1 + ((n1 : Nat) : Int) % 12) = 1 + ((n1 : Nat) : Int) % 12 := wrap_small (by omega)
              have HN2 : Hid (M14 ((wr.setCell ⟨m10, 2, none⟩ (.int .i64 (1 + ((n1 : Nat) : Int) % 12))).setCell ⟨m10, 3, none⟩ (.int .i64 1)) m10 (pfOf n0 n1 n2 n3 n4 n5 n6) 2) := (one_mod (one_mod hk 2 _) 3 _).trans rfl
              have HK2 := Lib.hid ((HKr.out.other (b' := m10) (o := 2) (.int .i64 (1 + ((n1 : Nat) : Int) % 12)) HNE.out).other (b' := m10) (o := 3) (.int .i64 1) HNE.out)
              have HB2r := Lib.hid (bl_st (i := 3) (bl_st (i := 2) HBr.out HLE.out (.int .i64 (1 + ((n1 : Nat) : Int) % 12))) HLE.out (.int .i64 1))
              clear hk
              go_wp2_with fail
              go_roundg 5
              case measure => omega
              case rel => exact ⟨2, by omega, by omega, by go_num, HN2.out, HK2.out, HB2r.out⟩
            · have hk := HMr.out
              unfold M14 at hk
              have c0 : wr.cell? ⟨m10, 4, none⟩ = some (.int .i64 0) := by simp [World.cell?, hk]
              have c1 : wr.cell? ⟨m10, 5, none⟩ = some (.int .i64 0) := by simp [World.cell?, hk]
              have cf0 : wr.frozen? ⟨m10, 4, none⟩ = false := by simp [World.frozen?, hk]
              have cf1 : wr.frozen? ⟨m10, 5, none⟩ = false := by simp [World.frozen?, hk]
              have a0 : wr.cell? ⟨w.heap.size + 1 + 1, 2, none⟩ = some (.int .u8 (n2 : Nat)) := by simp [World.cell?, HA.out]
              have hwi : IntKind.i64.wrap (1 + ((n2 : Nat) : Int) % 12) = 1 + ((n2 : Nat) : Int) % 12 := wrap_small (by omega)
              have HN2 : Hid (M14 ((wr.setCell ⟨m10, 4, none⟩ (.int .i64 (1 + ((n2 : Nat) : Int) % 12))).setCell ⟨m10, 5, none⟩ (.int .i64 1)) m10 (pfOf n0 n1 n2 n3 n4 n5 n6) 3) := (one_mod (one_mod hk 4 _) 5 _).trans rfl
              have HK2 := Lib.hid ((HKr.out.other (b' := m10) (o := 4) (.int .i64 (1 + ((n2 : Nat) : Int) % 12)) HNE.out).other (b' := m10) (o := 5) (.int .i64 1) HNE.out)
              have HB2r := Lib.hid (bl_st (i := 5) (bl_st (i := 4) HBr.out HLE.out (.int .i64 (1 + ((n2 : Nat) : Int) % 12))) HLE.out (.int .i64 1))
              clear hk
              go_wp2_with fail
              go_roundg 4
              case measure => omega
              case rel => exact ⟨3, by omega, by omega, by go_num, HN2.out, HK2.out, HB2r.out⟩
            · have hk := HMr.out
              unfold M14 at hk
              have c0 : wr.cell? ⟨m10, 6, none⟩ = some (.int .i64 0) := by simp [World.cell?, hk]
              have c1 : wr.cell? ⟨m10, 7, none⟩ = some (.int .i64 0) := by simp [World.cell?, hk]
              have cf0 : wr.frozen? ⟨m10, 6, none⟩ = false := by simp [World.frozen?, hk]
              have cf1 : wr.frozen? ⟨m10, 7, none⟩ = false := by simp [World.frozen?, hk]
              have a0 : wr.cell? ⟨w.heap.size + 1 + 1, 3, none⟩ = some (.int .u8 (n3 : Nat)) := by simp [World.cell?, HA.out]
              have hwi : IntKind.i64.wrap (1 + ((n3 : Nat) : Int) % 12) = 1 + ((n3 : Nat) : Int) % 12 := wrap_small (by omega)
              have HN2 : Hid (M14 ((wr.setCell ⟨m10, 6, none⟩ (.int .i64 (1 + ((n3 : Nat) : Int) % 12))).setCell ⟨m10, 7, none⟩ (.int .i64 1)) m10 (pfOf n0 n1 n2 n3 n4 n5 n6) 4) := (one_mod (one_mod hk 6 _) 7 _).trans rfl
              have HK2 := Lib.hid ((HKr.out.other (b' := m10) (o := 6) (.int .i64 (1 + ((n3 : Nat) : Int) % 12)) HNE.out).other (b' := m10) (o := 7) (.int .i64 1) HNE.out)
              have HB2r := Lib.hid (bl_st (i := 7) (bl_st (i := 6) HBr.out HLE.out (.int .i64 (1 + ((n3 : Nat) : Int) % 12))) HLE.out (.int .i64 1))
              clear hk
              go_wp2_with fail
              go_roundg 3
              case measure => omega
              case rel => exact ⟨4, by omega, by omega, by go_num, HN2.out, HK2.out, HB2r.out⟩
            · have hk := HMr.out
              unfold M14 at hk
              have c0 : wr.cell? ⟨m10, 8, none⟩ = some (.int .i64 0) := by simp [World.cell?, hk]
              have c1 : wr.cell? ⟨m10, 9, none⟩ = some (.int .i64 0) := by simp [World.cell?, hk]
              have cf0 : wr.frozen? ⟨m10, 8, none⟩ = false := by simp [World.frozen?, hk]
              have cf1 : wr.frozen? ⟨m10, 9, none⟩ = false := by simp [World.frozen?, hk]
              have a0 : wr.cell? ⟨w.heap.size + 1 + 1, 4, none⟩ = some (.int .u8 (n4 : Nat)) := by simp [World.cell?, HA.out]
              have hwi : IntKind.i64.wrap (1 + ((n4 : Nat) : Int) % 12) = 1 + ((n4 : Nat) : Int) % 12 := wrap_small (by omega)
              have HN2 : Hid (M14 ((wr.setCell ⟨m10, 8, none⟩ (.int .i64 (1 + ((n4 : Nat) : Int) % 12))).setCell ⟨m10, 9, none⟩ (.int .i64 1)) m10 (pfOf n0 n1 n2 n3 n4 n5 n6) 5) := (one_mod (one_mod hk 8 _) 9 _).trans rfl
              have HK2 := Lib.hid ((HKr.out.other (b' := m10) (o := 8) (.int .i64 (1 + ((n4 : Nat) : Int) % 12)) HNE.out).other (b' := m10) (o := 9) (.int .i64 1) HNE.out)
              have HB2r := Lib.hid (bl_st (i := 9) (bl_st (i := 8) HBr.out HLE.out (.int .i64 (1 + ((n4 : Nat) : Int) % 12))) HLE.out (.int .i64 1))
              clear hk
              go_wp2_with fail
              go_roundg 2
              case measure => omega
              case rel => exact ⟨5, by omega, by omega, by go_num, HN2.out, HK2.out, HB2r.out⟩
            · have hk := HMr.out
              unfold M14 at hk
              have c0 : wr.cell? ⟨m10, 10, none⟩ = some (.int .i64 0) := by simp [World.cell?, hk]
              have c1 : wr.cell? ⟨m10, 11, none⟩ = some (.int .i64 0) := by simp [World.cell?, hk]
              have cf0 : wr.frozen? ⟨m10, 10, none⟩ = false := by simp [World.frozen?, hk]
              have cf1 : wr.frozen? ⟨m10, 11, none⟩ = false := by simp [World.frozen?, hk]
              have a0 : wr.cell? ⟨w.heap.size + 1 + 1, 5, none⟩ = some (.int .u8 (n5 : Nat)) := by simp [World.cell?, HA.out]
              have hwi : IntKind.i64.wrap (1 + ((n5 : Nat) : Int) % 12) = 1 + ((n5 : Nat) : Int) % 12 := wrap_small (by omega)
              have HN2 : Hid (M14 ((wr.setCell ⟨m10, 10, none⟩ (.int .i64 (1 + ((n5 : Nat) : Int) % 12))).setCell ⟨m10, 11, none⟩ (.int .i64 1)) m10 (pfOf n0 n1 n2 n3 n4 n5 n6) 6) := (one_mod (one_mod hk 10 _) 11 _).trans rfl
              have HK2 := Lib.hid ((HKr.out.other (b' := m10) (o := 10) (.int .i64 (1 + ((n5 : Nat) : Int) % 12)) HNE.out).other (b' := m10) (o := 11) (.int .i64 1) HNE.out)
              have HB2r := Lib.hid (bl_st (i := 11) (bl_st (i := 10) HBr.out HLE.out (.int .i64 (1 + ((n5 : Nat) : Int) % 12))) HLE.out (.int .i64 1))
              clear hk
              go_wp2_with fail
              go_roundg 1
              case measure => omega
              case rel => exact ⟨6, by omega, by omega, by go_num, HN2.out, HK2.out, HB2r.out⟩
            · have hk := HMr.out
              unfold M14 at hk
              have c0 : wr.cell? ⟨m10, 12, none⟩ = some (.int .i64 0) := by simp [World.cell?, hk]
              have c1 : wr.cell? ⟨m10, 13, none⟩ = some (.int .i64 0) := by simp [World.cell?, hk]
              have cf0 : wr.frozen? ⟨m10, 12, none⟩ = false := by simp [World.frozen?, hk]
              have cf1 : wr.frozen? ⟨m10, 13, none⟩ = false := by simp [World.frozen?, hk]
              have a0 : wr.cell? ⟨w.heap.size + 1 + 1, 6, none⟩ = some (.int .u8 (n6 : Nat)) := by simp [World.cell?, HA.out]
              have hwi : IntKind.i64.wrap (1 + ((n6 : Nat) : Int) % 12) = 1 + ((n6 : Nat) : Int) % 12 := wrap_small (by omega)
              have HN2 : Hid (M14 ((wr.setCell ⟨m10, 12, none⟩ (.int .i64 (1 + ((n6 : Nat) : Int) % 12))).setCell ⟨m10, 13, none⟩ (.int .i64 1)) m10 (pfOf n0 n1 n2 n3 n4 n5 n6) 7) := (one_mod (one_mod hk 12 _) 13 _).trans rfl
              have HK2 := Lib.hid ((HKr.out.other (b' := m10) (o := 12) (.int .i64 (1 + ((n6 : Nat) : Int) % 12)) HNE.out).other (b' := m10) (o := 13) (.int .i64 1) HNE.out)
              have HB2r := Lib.hid (bl_st (i := 13) (bl_st (i := 12) HBr.out HLE.out (.int .i64 (1 + ((n6 : Nat) : Int) % 12))) HLE.out (.int .i64 1))
              clear hk
              go_wp2_with fail
              go_roundg 0
              case measure => omega
              case rel => exact ⟨7, by omega, by omega, by go_num, HN2.out, HK2.out, HB2r.out⟩
          · have hltz : ¬ (i : Int) < 7 := by omega
            obtain rfl : i = 7 := by omega
            have hm14 : K14 wr m10 (pfOf n0 n1 n2 n3 n4 n5 n6) := HMr.out
            generalize pfOf n0 n1 n2 n3 n4 n5 n6 = p at *
            obtain ⟨_, ⟨r0, r1⟩, _⟩ := HX.out wr HBr.out
            have HLm : Hid (m10 < wr.heap.size ∧ m7 < wr.heap.size) := ⟨(Array.getElem?_eq_some_iff.1 hm14).1, HKr.out.cells.2.2⟩
            have HB7 := Lib.hid (bl_tr HBr.out (b1 wr (.cells #[.slice An ns.length cn, .slice none 0 0] 28)))
            have HD0 : Hid (K9 (wr.alloc (.cells #[.slice An ns.length cn, .slice none 0 0] 28)) m7 ra.v ∧ K14 (wr.alloc (.cells #[.slice An ns.length cn, .slice none 0 0] 28)) m10 p) := ⟨HKr.out.reach (b1 wr _), ((b1 wr _).block m10 HLm.out.1).trans hm14⟩
            have HFS : Hid (FS wr.heap.size (wr.alloc (.cells #[.slice An ns.length cn, .slice none 0 0] 28)) (wr.alloc (.cells #[.slice An ns.length cn, .slice none 0 0] 28)) (.slice An ns.length cn) (.slice none 0 0) (.slice none 0 0) (.slice none 0 0) [] []) := ⟨by rw [World.size_alloc]; exact Nat.lt_succ_self _, ⟨rfl, rfl, rfl, Nat.le_refl _, fun _ _ _ => rfl⟩, heap_alloc_new wr _, World.ownsRow_nil _ _ _ _, ov_nil _ _, fun k hk => by cases hk⟩
            have HL2 : Hid (w2.heap.size ≤ wr.heap.size) := HBr.out.size
            clear hm14 hgg hi hlt
            go_upto_region 15 with (fail)
            generalize wr.heap.size = m12 at *
            generalize wr.alloc (.cells #[.slice An ns.length cn, .slice none 0 0] 28) = w7 at *
            clear r0 r1 hltz
            have HD7 := Lib.hid fun (wx : World) (h : Below m12 w7 wx) => And.intro (HD0.out.1.below h HLm.out.2) (show K14 wx m10 p from (h.block m10 HLm.out.1).trans HD0.out.2)
            have HX7 := Lib.hid fun (wx : World) (h : Below m12 w7 wx) => (show Below w2.heap.size w2 wx from HB7.out.trans (h.mono HL2.out))
            have hvl : vs.length ≤ 9223372036854775807 := by have := HST.out.2.2.2; omega
            go_wp2_with fail
            go_loopg [13, 14, 15] vs.length (fun gg s13 s14 s15 wr => ∃ (i : Nat) (c1 : Value) (lv : List V), i ≤ vs.length ∧ vs.length - i ≤ gg ∧ s13 = .int .i64 (i : Int) ∧ Aside (SclL p.F (vs.take i) lv) ∧ Aside (FS m12 w7 wr (.slice An ns.length cn) c1 (.slice none 0 0) c1 [] lv))
            case atStart => exact ⟨0, .slice none 0 0, [], Nat.zero_le _, by omega, rfl, (by show SclL _ (List.take 0 vs) []; rw [List.take_zero]; trivial), HFS.out⟩
            case round =>
              obtain ⟨i, c1, lv, hi, hgg, rfl, HSC, HF⟩ := hrel
              have HB2i := Lib.hid (HX7.out wr HF.out.below)
              have HBi := Lib.hid (bl_tr HB2.out HB2i.out)
              obtain ⟨_, ⟨r0, r1⟩, _⟩ := HX.out wr HB2i.out
              by_cases hlt : i < vs.length
              · have hltz : (i : Int) < (vs.length : Int) := by omega
                obtain ⟨vb, vo, rfl, hvc⟩ := HVC.out (by intro e; rw [e] at hlt; simp at hlt)
                have HVC1 := Lib.hid (hvc i hlt)
                have HRS := Lib.hid fun wz => resc_any vs[i] p wz (HFIT.out _ (List.getElem_mem hlt))
                have HTK := Lib.hid fun (a : V) (ha : Scl p.F vs[i] a) => scl_take HSC.out hlt ha
                have HLL := Lib.hid (SclL.len HSC.out)
                unfold V.cells Pf.cells at HRS
                generalize vs[i] = y at *
                have HLV : Hid (lv.length ≤ 1000) := by have h1 := HLL.out; rw [List.length_take] at h1; have := HST.out.2.2.2; show _ ≤ _; omega
                have HKP := Lib.hid fun (wz : World) (h : Below wr.heap.size wr wz) => And.intro (HX.out wz (bl_tr HB2i.out h)).2.1.c1 (And.intro (HVC1.out.reach (bl_tr HBi.out h)).1.1 (And.intro (HVC1.out.reach (bl_tr HBi.out h)).1.2 (And.intro (HVC1.out.reach (bl_tr HBi.out h)).2.1 (And.intro (HVC1.out.reach (bl_tr HBi.out h)).2.2.1 (And.intro (HVC1.out.reach (bl_tr HBi.out h)).2.2.2.1 (And.intro (HVC1.out.reach (bl_tr HBi.out h)).2.2.2.2.1 (And.intro (HVC1.out.reach (bl_tr HBi.out h)).2.2.2.2.2.1 (And.intro (HVC1.out.reach (bl_tr HBi.out h)).2.2.2.2.2.2.1 (And.intro (HVC1.out.reach (bl_tr HBi.out h)).2.2.2.2.2.2.2 (HD7.out wz (HF.out.below.trans (h.mono (Nat.le_of_lt HF.out.lt)))).2.cells)))))))))
                have HDR : Hid (Below wr.heap.size wr wr.drew) := bl_dr (Below.refl _ _)
                have HDA : Hid (Below wr.heap.size wr (wr.drew.alloc (.cells #[.int .i64 0, .int .i64 0, .int .i64 0, .int .i64 0, .int .i64 0, .int .i64 0, .int .i64 0, .int .i64 0, .int .i64 0] 44))) := bl_al (bl_dr (Below.refl _ _)) _
                clear hvc
                go_upto_region 17 with (fail)
                go_cut [14, 15] (fun s14 s15 wx => ∃ (m14 : Nat) (v' : V) (e : Int), s14 = .pointer (some ⟨m14, 0, none⟩) ∧ s15 = .int .i64 e ∧ Aside (e = 0 → Scl p.F y v') ∧ Aside (K9 wx m14 v') ∧ Aside (Below wr.heap.size wr wx))
                case first =>
                  go_region_held_law (fun w' => w'.cell? ⟨w.heap.size + 1, 1, none⟩ = some (.slice (some ⟨vb, vo, none⟩) vs.length cv) ∧ w'.cell? ⟨vb, vo + i * 9, none⟩ = some (.int .i64 y.num) ∧ w'.cell? ⟨vb, vo + i * 9 + 1, none⟩ = some (.int .i64 y.den) ∧ w'.cell? ⟨vb, vo + i * 9 + 2, none⟩ = some (.int .i64 y.dim.a) ∧ w'.cell? ⟨vb, vo + i * 9 + 3, none⟩ = some (.int .i64 y.dim.b) ∧ w'.cell? ⟨vb, vo + i * 9 + 4, none⟩ = some (.int .i64 y.dim.c) ∧ w'.cell? ⟨vb, vo + i * 9 + 5, none⟩ = some (.int .i64 y.dim.d) ∧ w'.cell? ⟨vb, vo + i * 9 + 6, none⟩ = some (.int .i64 y.dim.e) ∧ w'.cell? ⟨vb, vo + i * 9 + 7, none⟩ = some (.int .i64 y.dim.f) ∧ w'.cell? ⟨vb, vo + i * 9 + 8, none⟩ = some (.int .i64 y.dim.g) ∧ w'.cell? ⟨m10, 0, none⟩ = some (.int .i64 (p.a : Nat)) ∧ w'.cell? ⟨m10, 1, none⟩ = some (.int .i64 1) ∧ w'.cell? ⟨m10, 2, none⟩ = some (.int .i64 (p.b : Nat)) ∧ w'.cell? ⟨m10, 3, none⟩ = some (.int .i64 1) ∧ w'.cell? ⟨m10, 4, none⟩ = some (.int .i64 (p.c : Nat)) ∧ w'.cell? ⟨m10, 5, none⟩ = some (.int .i64 1) ∧ w'.cell? ⟨m10, 6, none⟩ = some (.int .i64 (p.d : Nat)) ∧ w'.cell? ⟨m10, 7, none⟩ = some (.int .i64 1) ∧ w'.cell? ⟨m10, 8, none⟩ = some (.int .i64 (p.e : Nat)) ∧ w'.cell? ⟨m10, 9, none⟩ = some (.int .i64 1) ∧ w'.cell? ⟨m10, 10, none⟩ = some (.int .i64 (p.f : Nat)) ∧ w'.cell? ⟨m10, 11, none⟩ = some (.int .i64 1) ∧ w'.cell? ⟨m10, 12, none⟩ = some (.int .i64 (p.g : Nat)) ∧ w'.cell? ⟨m10, 13, none⟩ = some (.int .i64 1)) ((refine HKP.out _ ?_; repeat (first | with_reducible exact Below.refl _ _ | with_reducible apply bl_dr | with_reducible apply bl_al | with_reducible refine bl_st ?_ hk2 _ | with_reducible refine bl_tr ?_ (by assumption)))) ((go_at_call 22; (with_reducible refine (HRS.out _).mono ?_); rintro r wz ⟨v', e, rfl, hsc, hbz⟩; first | (have hk : K9 wz wr.heap.size zV := K9.reach (K9.new wr.drew zV) hbz; obtain ⟨⟨⟨y0, y1⟩, y2, y3, y4, y5, y6, y7, y8⟩, yf, yl⟩ := hk.cells; have hk2 : wr.heap.size ≤ wr.heap.size := Nat.le_refl _) | (have hk2 : wr.heap.size ≤ wz.heap.size := hbz.size)))
                  · go_wp2_with fail
                    go_meet
                    case rel => exact ⟨wz.heap.size, v', e, rfl, rfl, hsc, K9.new wz v', bl_al (bl_tr HDR.out hbz) _⟩
                  · go_wp2_with fail
                    go_meet
                    case rel => exact ⟨wr.heap.size, v', e, rfl, rfl, hsc, hk.set9v v', below9 (bl_tr HDA.out hbz) hk2 v'⟩
                case rest =>
                  obtain ⟨m14, v', e, rfl, rfl, HSCv, HK14, HBr2⟩ := hcut
                  rename World => wx
                  have HFx := Lib.hid (HF.out.reach HBr2.out)
                  have HB2x := Lib.hid (HX7.out wx HFx.out.below)
                  have HBx := Lib.hid (bl_tr HB2.out HB2x.out)
                  clear r0 r1
                  by_cases he : e = 0
                  · have heb : (e != 0) = false := by simp [he]
                    have HSN := Lib.hid (HTK.out v' (HSCv.out he))
                    have HFa := Lib.hid (HFx.out.alloc (.cells v'.cells 44))
                    have HPd := Lib.hid (Pd.new HFx.out v'.cells 44)
                    obtain ⟨⟨⟨y0, y1⟩, y2, y3, y4, y5, y6, y7, y8⟩, _, _⟩ := HK14.out.cells
                    obtain ⟨e0, e1, ef⟩ := HFx.out.cells
                    obtain ⟨i1, hi1, hy0, hy1, hy2⟩ := info_parts val_info
                    clear he HKP HDR HDA HRS
                    go_wp2_with (at_builtin; refine wpList_append_lies _ rfl (.tmp 79) (.tmp 81) 26 rfl w7.heap.size 44 i1 _ 9 72 Tryz.underlying26 hi1 hy0 hy1 hy2 rfl (by decide) c1 lv.length (valC lv) rfl HFa.out.hv ⟨wx.heap.size, 0, none⟩ 1 1 v'.cells.toList rfl rfl HPd.out.newv (val_one v') (by decide) (by have := HLV.out; unfold maxLen; omega) (by have := HLV.out; omega) HFa.out.hb.size _ rfl ?_)
                    intro g8 cap8 wb hrow hgr hat hlt8
                    have HFb := Lib.hid (HFa.out.values (ov_row hrow) hgr (by rw [World.size_alloc]; exact hat))
                    have HFc := Lib.hid (HFb.out.set1 (.slice (some ⟨g8, 0, none⟩) (lv.length + 1) cap8))
                    clear hrow hgr hat hlt8 y0 y1 y2 y3 y4 y5 y6 y7 y8 e0 e1 ef
                    obtain ⟨e0, e1, ef⟩ := HFb.out.cells
                    have ef0 := ef 0
                    have ef1 := ef 1
                    go_wp2_with fail
                    go_roundg (vs.length - (i + 1))
                    case measure => omega
                    case rel => exact ⟨i + 1, _, lv ++ [v'], by omega, by omega, by go_num, HSN.out, HFc.out⟩
                  · have heb : (e != 0) = true := by simpa using he
                    clear he
                    go_wp2_with fail
                    go_ret
                    exact ⟨rfl, HBx.out⟩
              · have hltz : ¬ (i : Int) < (vs.length : Int) := by omega
                have HSF : Hid (SclL p.F vs lv) := by
                  have h := HSC.out
                  rw [List.take_of_length_le (by omega)] at h
                  exact h
                have HSVr := Lib.hid (OV.sv HF.out.hv)
                have HFIL := Lib.hid (scl_fit HSF.out)
                have HS2 := Lib.hid (HSCL.out lv HSF.out HAE.out)
                have HOKa := Lib.hid (HVOK.out HAE.out)
                have HRS := Lib.hid fun wz => resc_any ra.v p wz (by have h := HOKa.out.bnd; exact ⟨h.1, h.2.1, h.2.2.1, h.2.2.2⟩)
                obtain ⟨Av', cv', rfl, hcv, _⟩ := HSVr.out
                have HVB := Lib.hid (value_any t A c (.slice An ns.length cn) (.slice Av' lv.length cv') ns lv wr (HV.out _ HBi.out) HST.out.1 (HM.out _ HBi.out) (HN.out _ HBi.out) HSVr.out HNS.out HFIL.out)
                unfold tv V.cells at HVB
                unfold V.cells Pf.cells at HRS
                generalize valueR t ns lv = rb at *
                obtain ⟨⟨k0, k1, k2, k3, k4⟩, _, _⟩ := HX.out wr HB2i.out
                obtain ⟨e0, e1, ef⟩ := HF.out.cells
                clear hlt hi hgg
                go_upto_region 21 with (fail)
                go_wp2_with fail
                refine HVB.out.mono ?_
                rintro r wz ⟨q, rfl, _, hbz⟩
                have HBn := Lib.hid (bl_tr hbz (b1 wz (.cells #[.int .i64 rb.v.num, .int .i64 rb.v.den, .int .i64 rb.v.dim.a, .int .i64 rb.v.dim.b, .int .i64 rb.v.dim.c, .int .i64 rb.v.dim.d, .int .i64 rb.v.dim.e, .int .i64 rb.v.dim.f, .int .i64 rb.v.dim.g] 44)))
                have HKn : Hid (K9 (wz.alloc (.cells #[.int .i64 rb.v.num, .int .i64 rb.v.den, .int .i64 rb.v.dim.a, .int .i64 rb.v.dim.b, .int .i64 rb.v.dim.c, .int .i64 rb.v.dim.d, .int .i64 rb.v.dim.e, .int .i64 rb.v.dim.f, .int .i64 rb.v.dim.g] 44)) wz.heap.size rb.v) := K9.new wz rb.v
                clear hbz k0 k1 k2 k3 k4 e0 e1 ef r0 r1
                go_upto_region 22 with (fail)
                generalize wz.heap.size = m16 at *
                generalize wz.alloc (.cells #[.int .i64 rb.v.num, .int .i64 rb.v.den, .int .i64 rb.v.dim.a, .int .i64 rb.v.dim.b, .int .i64 rb.v.dim.c, .int .i64 rb.v.dim.d, .int .i64 rb.v.dim.e, .int .i64 rb.v.dim.f, .int .i64 rb.v.dim.g] 44) = w8 at *
                have HD8 := Lib.hid (HD7.out w8 (HF.out.below.trans (HBn.out.mono (Nat.le_of_lt HF.out.lt))))
                obtain ⟨⟨⟨p0, p1⟩, p2, p3, p4, p5, p6, p7, p8⟩, _, _⟩ := HD8.out.1.cells
                obtain ⟨g0, g1, g2, g3, g4, g5, g6, g7, g8, g9, g10, g11, g12, g13⟩ := HD8.out.2.cells
                go_wp2_with fail
                refine (HRS.out w8).mono ?_
                rintro r wy ⟨vq, h, rfl, HSQ, hby⟩
                have HBy := Lib.hid (bl_tr HBi.out (bl_tr HBn.out (bl_tr hby (b1 wy (.cells #[.int .i64 vq.num, .int .i64 vq.den, .int .i64 vq.dim.a, .int .i64 vq.dim.b, .int .i64 vq.dim.c, .int .i64 vq.dim.d, .int .i64 vq.dim.e, .int .i64 vq.dim.f, .int .i64 vq.dim.g] 44)))))
                have HKy : Hid (K9 (wy.alloc (.cells #[.int .i64 vq.num, .int .i64 vq.den, .int .i64 vq.dim.a, .int .i64 vq.dim.b, .int .i64 vq.dim.c, .int .i64 vq.dim.d, .int .i64 vq.dim.e, .int .i64 vq.dim.f, .int .i64 vq.dim.g] 44)) wy.heap.size vq) := K9.new wy vq
                have HKm := Lib.hid (HKn.out.reach (bl_tr hby (b1 wy (.cells #[.int .i64 vq.num, .int .i64 vq.den, .int .i64 vq.dim.a, .int .i64 vq.dim.b, .int .i64 vq.dim.c, .int .i64 vq.dim.d, .int .i64 vq.dim.e, .int .i64 vq.dim.f, .int .i64 vq.dim.g] 44))))
                clear hby p0 p1 p2 p3 p4 p5 p6 p7 p8 g0 g1 g2 g3 g4 g5 g6 g7 g8 g9 g10 g11 g12 g13
                go_upto_region 23 with (fail)
                generalize wy.heap.size = m19 at *
                generalize wy.alloc (.cells #[.int .i64 vq.num, .int .i64 vq.den, .int .i64 vq.dim.a, .int .i64 vq.dim.b, .int .i64 vq.dim.c, .int .i64 vq.dim.d, .int .i64 vq.dim.e, .int .i64 vq.dim.f, .int .i64 vq.dim.g] 44) = w9 at *
                by_cases hb0 : rb.e = 0
                · have hbb : (rb.e != 0) = false := by simp [hb0]
                  have hbc : (rb.e == 0) = true := by simp [hb0]
                  have HSR : Hid (Scl p.F ra.v rb.v) := by
                    rcases HS2.out with h17 | h17
                    · rw [hb0] at h17; cases h17
                    · exact h17.2
                  by_cases hh : h = 0
                  · have hhb : (h != 0) = false := by simp [hh]
                    obtain rfl := sub_eq HSR.out (HSQ hh)
                    clear hb0 hh HSQ
                    obtain ⟨⟨⟨p0, p1⟩, p2, p3, p4, p5, p6, p7, p8⟩, _, _⟩ := HKy.out.cells
                    obtain ⟨⟨⟨y0, y1⟩, y2, y3, y4, y5, y6, y7, y8⟩, _, _⟩ := HKm.out.cells
                    have hE := fun w' => eq44 rb.v w'
                    go_wp2_with fail
                    go_ret
                    exact ⟨rfl, HBy.out⟩
                  · have hhb : (h != 0) = true := by simpa using hh
                    clear hb0 hh HSQ
                    go_wp2_with fail
                    go_ret
                    exact ⟨rfl, HBy.out⟩
                · have hbb : (rb.e != 0) = true := by simpa using hb0
                  have hbc : (rb.e == 17) = true := by
                    rcases HS2.out with h17 | h17
                    · simpa using h17
                    · exact absurd h17.1 hb0
                  clear hb0 HSQ
                  go_wp2_with fail
                  go_ret
                  exact ⟨rfl, HBy.out⟩
      · have haeb : (ra.e != 0) = true := by simpa using hae
        clear hae
        go_wp2_with fail
        go_ret
        exact ⟨rfl, HB5.out⟩
end Go.Proofs.YtknpigdpepmimaaGreatDoor
