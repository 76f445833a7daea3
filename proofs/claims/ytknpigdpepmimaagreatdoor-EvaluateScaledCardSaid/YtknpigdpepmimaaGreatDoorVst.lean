/- Slices of values: a store at a place, append([]Value{}, l...); contract of ref53.Make 29. -/
import Derived.Test.YtknpigdpepmimaaGreatDoorM28
import Derived.Deep.AppendLies
import Derived.Laws.AppendOwnNone
import Derived.Laws.OwnMore
import Derived.Deep.RegionLaw
import Derived.OwnWalk
namespace Go.Proofs.YtknpigdpepmimaaGreatDoor
open Go.RowKit Go.Maps

/-- nine cells stored at an offset -/
def set9g (w : World) (g o : Nat) (v : V) : World := ((((((((w.setCell ⟨g, o, none⟩ (.int .i64 v.num)).setCell ⟨g, o + 1, none⟩ (.int .i64 v.den)).setCell ⟨g, o + 2, none⟩ (.int .i64 v.dim.a)).setCell ⟨g, o + 3, none⟩ (.int .i64 v.dim.b)).setCell ⟨g, o + 4, none⟩ (.int .i64 v.dim.c)).setCell ⟨g, o + 5, none⟩ (.int .i64 v.dim.d)).setCell ⟨g, o + 6, none⟩ (.int .i64 v.dim.e)).setCell ⟨g, o + 7, none⟩ (.int .i64 v.dim.f)).setCell ⟨g, o + 8, none⟩ (.int .i64 v.dim.g)
theorem set9g_far (w : World) (g o : Nat) (v : V) (q : Addr) (h : ∀ k, k < 9 → q ≠ ⟨g, o + k, none⟩) : (set9g w g o v).cell? q = w.cell? q := by
  unfold set9g
  rw [World.cell?_setCell_other _ _ _ _ (h 8 (by omega)).symm, World.cell?_setCell_other _ _ _ _ (h 7 (by omega)).symm, World.cell?_setCell_other _ _ _ _ (h 6 (by omega)).symm, World.cell?_setCell_other _ _ _ _ (h 5 (by omega)).symm, World.cell?_setCell_other _ _ _ _ (h 4 (by omega)).symm, World.cell?_setCell_other _ _ _ _ (h 3 (by omega)).symm, World.cell?_setCell_other _ _ _ _ (h 2 (by omega)).symm, World.cell?_setCell_other _ _ _ _ (h 1 (by omega)).symm, World.cell?_setCell_other _ _ _ _ (show (⟨g, o, none⟩ : Addr) ≠ q from (h 0 (by omega)).symm)]
theorem set9g_heap (w : World) (g o : Nat) (v : V) (k : Nat) (h : k ≠ g) : (set9g w g o v).heap[k]? = w.heap[k]? := by
  unfold set9g
  rw [Below.heap_setCell _ _ _ _ h, Below.heap_setCell _ _ _ _ h, Below.heap_setCell _ _ _ _ h, Below.heap_setCell _ _ _ _ h, Below.heap_setCell _ _ _ _ h, Below.heap_setCell _ _ _ _ h, Below.heap_setCell _ _ _ _ h, Below.heap_setCell _ _ _ _ h, Below.heap_setCell _ _ _ _ h]
theorem set9g_size (w : World) (g o : Nat) (v : V) : (set9g w g o v).heap.size = w.heap.size := by unfold set9g; simp
theorem set9g_below {w w' : World} {B g : Nat} (h : Below B w w') (hg : B ≤ g) (o : Nat) (v : V) : Below B w (set9g w' g o v) := by
  unfold set9g
  exact (((((((((h.setCell (p := ⟨g, o, none⟩) hg _).setCell (p := ⟨g, o + 1, none⟩) hg _).setCell (p := ⟨g, o + 2, none⟩) hg _).setCell (p := ⟨g, o + 3, none⟩) hg _).setCell (p := ⟨g, o + 4, none⟩) hg _).setCell (p := ⟨g, o + 5, none⟩) hg _).setCell (p := ⟨g, o + 6, none⟩) hg _).setCell (p := ⟨g, o + 7, none⟩) hg _).setCell (p := ⟨g, o + 8, none⟩) hg _)
theorem adr_ne {g o o' : Nat} (h : o ≠ o') : (⟨g, o, none⟩ : Addr) ≠ ⟨g, o', none⟩ := fun e => h (congrArg Addr.off e)
theorem C9.set9g {w : World} {g o : Nat} {u : V} (h : C9 w g o u) (v : V) : C9 (set9g w g o v) g o v := by
  obtain ⟨⟨h0, h1⟩, h2, h3, h4, h5, h6, h7, h8⟩ := h
  unfold Go.Proofs.YtknpigdpepmimaaGreatDoor.set9g
  refine ⟨⟨?_, ?_⟩, ?_, ?_, ?_, ?_, ?_, ?_, ?_⟩
  · rw [World.cell?_setCell_other _ _ _ _ (adr_ne (by omega)), World.cell?_setCell_other _ _ _ _ (adr_ne (by omega)), World.cell?_setCell_other _ _ _ _ (adr_ne (by omega)), World.cell?_setCell_other _ _ _ _ (adr_ne (by omega)), World.cell?_setCell_other _ _ _ _ (adr_ne (by omega)), World.cell?_setCell_other _ _ _ _ (adr_ne (by omega)), World.cell?_setCell_other _ _ _ _ (adr_ne (by omega)), World.cell?_setCell_other _ _ _ _ (adr_ne (by omega))]
    exact World.cell?_setCell_same _ _ _ h0
  · rw [World.cell?_setCell_other _ _ _ _ (adr_ne (by omega)), World.cell?_setCell_other _ _ _ _ (adr_ne (by omega)), World.cell?_setCell_other _ _ _ _ (adr_ne (by omega)), World.cell?_setCell_other _ _ _ _ (adr_ne (by omega)), World.cell?_setCell_other _ _ _ _ (adr_ne (by omega)), World.cell?_setCell_other _ _ _ _ (adr_ne (by omega)), World.cell?_setCell_other _ _ _ _ (adr_ne (by omega))]
    refine World.cell?_setCell_same _ _ _ (u := .int .i64 u.den) ?_; (rw [World.cell?_setCell_other _ _ _ _ (adr_ne (by omega))]; exact h1)
  · rw [World.cell?_setCell_other _ _ _ _ (adr_ne (by omega)), World.cell?_setCell_other _ _ _ _ (adr_ne (by omega)), World.cell?_setCell_other _ _ _ _ (adr_ne (by omega)), World.cell?_setCell_other _ _ _ _ (adr_ne (by omega)), World.cell?_setCell_other _ _ _ _ (adr_ne (by omega)), World.cell?_setCell_other _ _ _ _ (adr_ne (by omega))]
    refine World.cell?_setCell_same _ _ _ (u := .int .i64 u.dim.a) ?_; (rw [World.cell?_setCell_other _ _ _ _ (adr_ne (by omega)), World.cell?_setCell_other _ _ _ _ (adr_ne (by omega))]; exact h2)
  · rw [World.cell?_setCell_other _ _ _ _ (adr_ne (by omega)), World.cell?_setCell_other _ _ _ _ (adr_ne (by omega)), World.cell?_setCell_other _ _ _ _ (adr_ne (by omega)), World.cell?_setCell_other _ _ _ _ (adr_ne (by omega)), World.cell?_setCell_other _ _ _ _ (adr_ne (by omega))]
    refine World.cell?_setCell_same _ _ _ (u := .int .i64 u.dim.b) ?_; (rw [World.cell?_setCell_other _ _ _ _ (adr_ne (by omega)), World.cell?_setCell_other _ _ _ _ (adr_ne (by omega)), World.cell?_setCell_other _ _ _ _ (adr_ne (by omega))]; exact h3)
  · rw [World.cell?_setCell_other _ _ _ _ (adr_ne (by omega)), World.cell?_setCell_other _ _ _ _ (adr_ne (by omega)), World.cell?_setCell_other _ _ _ _ (adr_ne (by omega)), World.cell?_setCell_other _ _ _ _ (adr_ne (by omega))]
    refine World.cell?_setCell_same _ _ _ (u := .int .i64 u.dim.c) ?_; (rw [World.cell?_setCell_other _ _ _ _ (adr_ne (by omega)), World.cell?_setCell_other _ _ _ _ (adr_ne (by omega)), World.cell?_setCell_other _ _ _ _ (adr_ne (by omega)), World.cell?_setCell_other _ _ _ _ (adr_ne (by omega))]; exact h4)
  · rw [World.cell?_setCell_other _ _ _ _ (adr_ne (by omega)), World.cell?_setCell_other _ _ _ _ (adr_ne (by omega)), World.cell?_setCell_other _ _ _ _ (adr_ne (by omega))]
    refine World.cell?_setCell_same _ _ _ (u := .int .i64 u.dim.d) ?_; (rw [World.cell?_setCell_other _ _ _ _ (adr_ne (by omega)), World.cell?_setCell_other _ _ _ _ (adr_ne (by omega)), World.cell?_setCell_other _ _ _ _ (adr_ne (by omega)), World.cell?_setCell_other _ _ _ _ (adr_ne (by omega)), World.cell?_setCell_other _ _ _ _ (adr_ne (by omega))]; exact h5)
  · rw [World.cell?_setCell_other _ _ _ _ (adr_ne (by omega)), World.cell?_setCell_other _ _ _ _ (adr_ne (by omega))]
    refine World.cell?_setCell_same _ _ _ (u := .int .i64 u.dim.e) ?_; (rw [World.cell?_setCell_other _ _ _ _ (adr_ne (by omega)), World.cell?_setCell_other _ _ _ _ (adr_ne (by omega)), World.cell?_setCell_other _ _ _ _ (adr_ne (by omega)), World.cell?_setCell_other _ _ _ _ (adr_ne (by omega)), World.cell?_setCell_other _ _ _ _ (adr_ne (by omega)), World.cell?_setCell_other _ _ _ _ (adr_ne (by omega))]; exact h6)
  · rw [World.cell?_setCell_other _ _ _ _ (adr_ne (by omega))]
    refine World.cell?_setCell_same _ _ _ (u := .int .i64 u.dim.f) ?_; (rw [World.cell?_setCell_other _ _ _ _ (adr_ne (by omega)), World.cell?_setCell_other _ _ _ _ (adr_ne (by omega)), World.cell?_setCell_other _ _ _ _ (adr_ne (by omega)), World.cell?_setCell_other _ _ _ _ (adr_ne (by omega)), World.cell?_setCell_other _ _ _ _ (adr_ne (by omega)), World.cell?_setCell_other _ _ _ _ (adr_ne (by omega)), World.cell?_setCell_other _ _ _ _ (adr_ne (by omega))]; exact h7)
  · refine World.cell?_setCell_same _ _ _ (u := .int .i64 u.dim.g) ?_; (rw [World.cell?_setCell_other _ _ _ _ (adr_ne (by omega)), World.cell?_setCell_other _ _ _ _ (adr_ne (by omega)), World.cell?_setCell_other _ _ _ _ (adr_ne (by omega)), World.cell?_setCell_other _ _ _ _ (adr_ne (by omega)), World.cell?_setCell_other _ _ _ _ (adr_ne (by omega)), World.cell?_setCell_other _ _ _ _ (adr_ne (by omega)), World.cell?_setCell_other _ _ _ _ (adr_ne (by omega)), World.cell?_setCell_other _ _ _ _ (adr_ne (by omega))]; exact h8)
theorem C9.far {w : World} {g o o' : Nat} {u : V} (h : C9 w g o u) (v : V) (hf : o + 9 ≤ o' ∨ o' + 9 ≤ o) : C9 (Go.Proofs.YtknpigdpepmimaaGreatDoor.set9g w g o' v) g o u := by
  obtain ⟨⟨h0, h1⟩, h2, h3, h4, h5, h6, h7, h8⟩ := h
  have hh := fun j (hj : j < 9) => set9g_far w g o' v ⟨g, o + j, none⟩ (fun k hk => adr_ne (by omega))
  exact ⟨⟨(hh 0 (by omega)).trans h0, (hh 1 (by omega)).trans h1⟩, (hh 2 (by omega)).trans h2, (hh 3 (by omega)).trans h3, (hh 4 (by omega)).trans h4, (hh 5 (by omega)).trans h5, (hh 6 (by omega)).trans h6, (hh 7 (by omega)).trans h7, (hh 8 (by omega)).trans h8⟩
/-- the values lie one after the other from the start of a block on -/
def LV (w : World) (g : Nat) (l : List V) : Prop := ∀ i (h : i < l.length), C9 w g (i * 9) l[i]
theorem LV.set {w : World} {g : Nat} {l : List V} (h : LV w g l) (n : Nat) (hn : n < l.length) (v : V) : LV (set9g w g (n * 9) v) g (l.set n v) := fun i hi => by
  have hi2 : i < l.length := by rw [List.length_set] at hi; exact hi
  by_cases e : i = n
  · subst e
    rw [List.getElem_set_self]
    exact (h i hi2).set9g v
  · rw [List.getElem_set_ne (Ne.symm e)]
    exact (h i hi2).far v (by omega)
theorem LV.block {w w' : World} {g : Nat} {l : List V} (h : LV w g l) (hb : w'.heap[g]? = w.heap[g]?) : LV w' g l := fun i hi => (h i hi).block hb
theorem LV.sv {w : World} {g c : Nat} {l : List V} (h : LV w g l) (hc : l.length ≤ c ∧ c ≤ 9223372036854775807) : SV w (.slice (some ⟨g, 0, none⟩) l.length c) l :=
  ⟨some ⟨g, 0, none⟩, c, rfl, hc, fun _ => ⟨g, 0, rfl, fun i hi => by rw [Nat.zero_add]; exact h i hi⟩⟩
theorem OV.lv {w : World} {B g n c : Nat} {l : List V} (h : OV w B (.slice (some ⟨g, 0, none⟩) n c) l) : LV w g l ∧ (l.length ≤ c ∧ c ≤ 9223372036854775807) ∧ n = l.length ∧ B ≤ g ∧ g < w.heap.size ∧ ∃ cur, w.heap[g]? = some (.cells cur 44 (0, 0)) := by
  have hs := h.sv
  obtain ⟨A, c', e, hc, hcell⟩ := hs
  have hlt := h.lt g rfl
  obtain ⟨e1, e2, e3⟩ := Value.slice.inj e
  subst e2 e3
  refine ⟨fun i hi => ?_, hc, rfl, hlt.1, hlt.2, ?_⟩
  · obtain ⟨b, o, eA, hh⟩ := hcell (by intro e; rw [e] at hi; simp at hi)
    rw [eA] at e1
    have e4 := Option.some.inj e1
    injection e4 with e5 e6 _
    subst e5 e6
    have := hh i hi
    rwa [Nat.zero_add] at this
  · rcases h.2 with ⟨hq, _⟩ | ⟨g2, cap2, cur, he, q1, q2, q3⟩
    · cases hq
    · have hge : g = g2 := Option.some.inj (congrArg Value.ownBlock he)
      subst hge
      exact ⟨cur, q2⟩
theorem valC_len9 : ∀ l : List V, (valC l).length = l.length * 9
  | [] => rfl
  | x :: l => by
    show (x.cells.toList ++ valC l).length = _
    rw [List.length_append, valC_len9 l, List.length_cons, show x.cells.toList.length = 9 from rfl]; omega
theorem valC_get : ∀ (l : List V) (j : Nat) (u : Value), (valC l)[j]? = some u → ∃ i, ∃ h : i < l.length, ∃ k, k < 9 ∧ j = i * 9 + k ∧ l[i].cells.toList[k]? = some u
  | [], j, u, h => by simp [valC] at h
  | x :: l, j, u, h => by
    have h' : (x.cells.toList ++ valC l)[j]? = some u := h
    have e : x.cells.toList.length = 9 := rfl
    rcases Nat.lt_or_ge j 9 with hj | hj
    · rw [List.getElem?_append_left (by omega)] at h'
      exact ⟨0, by simp, j, hj, by omega, h'⟩
    · rw [List.getElem?_append_right (by omega), e] at h'
      obtain ⟨i, hi, k, hk, e2, e3⟩ := valC_get l (j - 9) u h'
      exact ⟨i + 1, by simp; omega, k, hk, by omega, e3⟩
theorem C9.at_ {w : World} {b o k : Nat} {v : V} {u : Value} (hc : C9 w b o v) (hk : k < 9) (hu : v.cells.toList[k]? = some u) : w.cell? ⟨b, o + k, none⟩ = some u := by
  obtain ⟨⟨c0, c1⟩, c2, c3, c4, c5, c6, c7, c8⟩ := hc
  rcases (show k = 0 ∨ k = 1 ∨ k = 2 ∨ k = 3 ∨ k = 4 ∨ k = 5 ∨ k = 6 ∨ k = 7 ∨ k = 8 by omega) with rfl | rfl | rfl | rfl | rfl | rfl | rfl | rfl | rfl
  · exact c0.trans hu
  · exact c1.trans hu
  · exact c2.trans hu
  · exact c3.trans hu
  · exact c4.trans hu
  · exact c5.trans hu
  · exact c6.trans hu
  · exact c7.trans hu
  · exact c8.trans hu
theorem ov_lit (w : World) (B : Nat) (hB : B ≤ w.heap.size) : OV (w.alloc (.cells #[] 44)) B (.slice (some ⟨w.heap.size, 0, none⟩) 0 0) [] := World.ownsRow_lit w #[] 0 hB (by unfold maxLen; omega) rfl
/-- append([]Value{}, l...) -/
theorem app26w {ops : Array Oper} {o : Oper} {a : Act} {K : Act → World → Prop} {Q : Exit → Act → World → Prop} {E : Prop} (w : World) (hgd : o.guard = none) (s x : Operand)
    (ho : o.op = .call { callee := .builtin .append, args := #[s, x], argTypes := #[26, 26] }) (B g : Nat) (hown : OV w B (.slice (some ⟨g, 0, none⟩) 0 0) []) (hs : a.eval s = .slice (some ⟨g, 0, none⟩) 0 0)
    (v : Value) (p : List V) (hx : a.eval x = v) (hv : SV w v p) (hz : ∀ c, v = .slice none 0 c → c = 0) (hl : p.length ≤ 1000) (hB : B ≤ w.heap.size)
    (h : ∀ g7 c7 w7, OV w7 B (.slice (some ⟨g7, 0, none⟩) p.length c7) p → w.grownBy w7 (some g) → (g7 = g ∨ g7 = w.heap.size) → K (a.put o.dst (.slice (some ⟨g7, 0, none⟩) p.length c7)) w7) : if Region.wanted o (yielded ops a.tmps) = true then Oper.wp Tryz.prog o a w K Q else E := by
  obtain ⟨i0, hi0, hz0, hz1, hz2⟩ := info_parts val_info
  obtain ⟨PA, c, rfl, hc, hcell⟩ := hv
  have hrefl : w.grownBy w (some g) := ⟨rfl, rfl, rfl, Nat.le_refl _, fun _ _ _ => rfl⟩
  by_cases hp : p = []
  · subst hp
    have hw : Region.wanted o (yielded ops a.tmps) = true := by simp [Region.wanted, hgd]
    cases PA with
    | none =>
      obtain rfl := hz c rfl
      rw [if_pos hw]
      have hrun := run_append_owned_none (P := Tryz.prog) (w := w) B 26 o.type 44 i0 9 Tryz.underlying26 hi0 (.slice (some ⟨g, 0, none⟩) 0 0) 0 [] hown
      have hx' : a.eval x = .slice none 0 0 := hx
      unfold Oper.wp
      simp [execOp, ho, resolve, invoke, builtin, hs, hx', hrun, Result.andThen]
      exact h g 0 w hown hrefl (.inl rfl)
    | some ad =>
      refine step_append_room hgd s x 26 ho 44 i0 9 Tryz.underlying26 hi0 hz1 g 0 0 0 hs ad 0 c [] hx rfl (fun j u hu => by simp at hu) (by simp) (Nat.le_refl _) (fun j hj => by simp at hj) ?_
      have e : w.setCells g (0 + 0 * 9) [] = w := by simp [World.setCells]
      rw [e]
      exact h g 0 w hown hrefl (.inl rfl)
  · obtain ⟨b, q, rfl, hcells⟩ := hcell hp
    have hpos : 0 < p.length := List.length_pos_iff.2 hp
    refine step_append_lies _ hgd s x 26 ho B 44 i0 _ 9 72 Tryz.underlying26 hi0 hz0 hz1 hz2 rfl (by decide) _ 0 [] hs hown ⟨b, q, none⟩ p.length c (valC p) hx (valC_len9 p) (fun j u hu => ?_) (fun u hu => ?_) hpos (by unfold maxLen; omega) (by omega) hB _ rfl ?_
    · obtain ⟨i, hi, k, hk, rfl, hu'⟩ := valC_get p j u hu
      rw [addr_addF, show q + (i * 9 + k) = q + i * 9 + k from by omega]
      exact (hcells i hi).at_ hk hu'
    · obtain ⟨y, _, hy⟩ := List.mem_flatMap.1 hu
      exact val_one y u hy
    · intro g7 cap7 w7 hown7 hgrow7 hat7 _
      rw [Nat.zero_add] at hown7 ⊢
      rw [List.nil_append] at hown7
      refine h g7 cap7 w7 hown7 hgrow7 ?_
      rcases hat7 with e | e
      · exact .inl (Option.some.inj e).symm
      · exact .inr e

set_option maxRecDepth 100000 in
set_option maxHeartbeats 2000000 in
theorem rmake_any (n d : Int) (x : Dm) (w : World) : Calls Tryz.prog 29 #[.agg #[.int .i64 n, .int .i64 d], .agg x.cells] w fun r w' => r = .returned (.agg (V.mk n d x).cells) ∧ Below w.heap.size w w' := by
  have HB := Lib.hid (b3 w (.cells #[.int .i64 n, .int .i64 d] 64) (.cells #[.int .i64 x.a, .int .i64 x.b, .int .i64 x.c, .int .i64 x.d, .int .i64 x.e, .int .i64 x.f, .int .i64 x.g] 42) (.cells #[.int .i64 0, .int .i64 0, .int .i64 0, .int .i64 0, .int .i64 0, .int .i64 0, .int .i64 0, .int .i64 0, .int .i64 0] 44))
  have hk1 : (((w.alloc (.cells #[.int .i64 n, .int .i64 d] 64)).alloc (.cells #[.int .i64 x.a, .int .i64 x.b, .int .i64 x.c, .int .i64 x.d, .int .i64 x.e, .int .i64 x.f, .int .i64 x.g] 42)).alloc (.cells #[.int .i64 0, .int .i64 0, .int .i64 0, .int .i64 0, .int .i64 0, .int .i64 0, .int .i64 0, .int .i64 0, .int .i64 0] 44)).heap[w.heap.size]? = some (.cells #[.int .i64 n, .int .i64 d] 64 (0, 0)) := ((b1 _ _).block w.heap.size (by simp; omega)).trans (((b1 _ _).block w.heap.size (by simp)).trans (heap_alloc_new w _))
  have hk2 := (K7.new (w.alloc (.cells #[.int .i64 n, .int .i64 d] 64)) x).reach (b1 _ (.cells #[.int .i64 0, .int .i64 0, .int .i64 0, .int .i64 0, .int .i64 0, .int .i64 0, .int .i64 0, .int .i64 0, .int .i64 0] 44))
  have hk3 : K9 (((w.alloc (.cells #[.int .i64 n, .int .i64 d] 64)).alloc (.cells #[.int .i64 x.a, .int .i64 x.b, .int .i64 x.c, .int .i64 x.d, .int .i64 x.e, .int .i64 x.f, .int .i64 x.g] 42)).alloc (.cells #[.int .i64 0, .int .i64 0, .int .i64 0, .int .i64 0, .int .i64 0, .int .i64 0, .int .i64 0, .int .i64 0, .int .i64 0] 44)) (w.heap.size + 1 + 1) zV := by
    have := K9.new ((w.alloc (.cells #[.int .i64 n, .int .i64 d] 64)).alloc (.cells #[.int .i64 x.a, .int .i64 x.b, .int .i64 x.c, .int .i64 x.d, .int .i64 x.e, .int .i64 x.f, .int .i64 x.g] 42)) zV
    rw [World.size_alloc, World.size_alloc] at this
    exact this
  rw [World.size_alloc] at hk2
  have HK1 := Lib.hid hk1
  have HK2 := Lib.hid hk2
  have HK3 := Lib.hid hk3
  clear hk1 hk2 hk3
  unfold Dm.cells
  go_enter Tryz.func29, Tryz.ntmps29
  go_upto_region 1 with (fail)
  generalize ((w.alloc (.cells #[.int .i64 n, .int .i64 d] 64)).alloc (.cells #[.int .i64 x.a, .int .i64 x.b, .int .i64 x.c, .int .i64 x.d, .int .i64 x.e, .int .i64 x.f, .int .i64 x.g] 42)).alloc (.cells #[.int .i64 0, .int .i64 0, .int .i64 0, .int .i64 0, .int .i64 0, .int .i64 0, .int .i64 0, .int .i64 0, .int .i64 0] 44) = w1 at *
  have k0 : w1.cell? ⟨w.heap.size, 0, none⟩ = some (.int .i64 n) := by simp [World.cell?, HK1.out]
  have k1 : w1.cell? ⟨w.heap.size, 1, none⟩ = some (.int .i64 d) := by simp [World.cell?, HK1.out]
  obtain ⟨⟨p0, p1, p2, p3, p4, p5, p6⟩, _, _⟩ := HK2.out.cells
  obtain ⟨⟨⟨z0, z1⟩, z2, z3, z4, z5, z6, z7, z8⟩, zf, _⟩ := HK3.out.cells
  go_wp2_with fail
  refine bodyPost_ret (v := .agg (V.cells ⟨n, d, x⟩)) (by simp [results, Tryz.results29, go_sem, V.cells, z0, z1, z2, z3, z4, z5, z6, z7, z8]) rfl ⟨rfl, ?_⟩
  exact below9 HB.out (b := w.heap.size + 1 + 1) (by omega) ⟨n, d, x⟩
end Go.Proofs.YtknpigdpepmimaaGreatDoor
