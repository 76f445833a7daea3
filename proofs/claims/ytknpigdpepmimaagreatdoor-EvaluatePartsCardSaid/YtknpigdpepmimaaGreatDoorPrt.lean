/- Appends of whole slices and of two elements; contracts of func3 18, run 19. -/
import Derived.Test.YtknpigdpepmimaaGreatDoorM38
import Derived.Test.YtknpigdpepmimaaGreatDoorM43
import Derived.Test.YtknpigdpepmimaaGreatDoorM44
import Derived.Test.YtknpigdpepmimaaGreatDoorVst
namespace Go.Proofs.YtknpigdpepmimaaGreatDoor
open Go.RowKit Go.Maps

/-- append([]string{}, p...), the row kept -/
theorem app30x {ops : Array Oper} {rest : List Oper} {o : Oper} {a : Act} {Q : Exit → Act → World → Prop} (w : World) (hgd : o.guard = none) (s x : Operand)
    (ho : o.op = .call { callee := .builtin .append, args := #[s, x], argTypes := #[25, 25] }) (B g : Nat) (hown : RL w B (.slice (some ⟨g, 0, none⟩) 0 0) []) (hs : a.eval s = .slice (some ⟨g, 0, none⟩) 0 0)
    (v : Value) (p : List W8) (hx : a.eval x = v) (hv : SL w w.heap.size v p) (hz : ∀ c, v = .slice none 0 c → c = 0) (hl : p.length ≤ 1000) (hB : B ≤ w.heap.size)
    (h : ∀ v7 w7, RL w7 B v7 p → Below B w w7 → wpList Tryz.prog ops Q rest (a.put o.dst v7) w7) : wpList Tryz.prog ops Q (o :: rest) a w := by
  refine wpList_plain hgd fun K hK => ?_
  have hw : Region.wanted o (yielded ops a.tmps) = true := by simp [Region.wanted, hgd]
  obtain ⟨i0, hi0, hz0, hz1, hz2⟩ := info_parts str_info
  obtain ⟨PA, c, rfl, hc, hcell⟩ := hv
  have key : if Region.wanted o (yielded ops a.tmps) = true then Oper.wp Tryz.prog o a w K Q else False := by
    by_cases hp : p = []
    · subst hp
      cases PA with
      | none =>
        obtain rfl := hz c rfl
        rw [if_pos hw]
        have hrun := run_append_owned_none (P := Tryz.prog) (w := w) B 25 o.type 9 i0 1 Tryz.underlying25 hi0 (.slice (some ⟨g, 0, none⟩) 0 0) 0 [] hown
        have hx' : a.eval x = .slice none 0 0 := hx
        unfold Oper.wp
        simp [execOp, ho, resolve, invoke, builtin, hs, hx', hrun, Result.andThen]
        exact hK _ _ (h _ w hown (Below.refl _ _))
      | some ad =>
        refine step_append_room hgd s x 25 ho 9 i0 1 Tryz.underlying25 hi0 hz1 g 0 0 0 hs ad 0 c [] hx rfl (fun j u hu => by simp at hu) (by simp) (Nat.le_refl _) (fun j hj => by simp at hj) ?_
        have e : w.setCells g (0 + 0 * 1) [] = w := by simp [World.setCells]
        rw [e]
        exact hK _ _ (h _ w hown (Below.refl _ _))
    · obtain ⟨b, q, rfl, _, hcells⟩ := hcell hp
      have hpos : 0 < p.length := List.length_pos_iff.2 hp
      refine step_append_lies _ hgd s x 25 ho B 9 i0 _ 1 16 Tryz.underlying25 hi0 hz0 hz1 hz2 rfl (by decide) _ 0 [] hs hown ⟨b, q, none⟩ p.length c (p.map encS) hx (by simp) (fun j u hu => ?_) (fun u hu => ?_) hpos (by unfold maxLen; omega) (by omega) hB _ rfl ?_
      · obtain ⟨hj, hu'⟩ := List.getElem?_eq_some_iff.1 hu
        have hj' : j < p.length := by simpa using hj
        rw [List.getElem_map] at hu'
        subst hu'
        rw [addr_addF]
        exact hcells j hj'
      · obtain ⟨y, _, rfl⟩ := List.mem_map.1 hu
        rfl
      · intro g7 cap7 w7 hown7 hgrow7 _ _
        rw [Nat.zero_add] at hown7 ⊢
        rw [List.nil_append] at hown7
        exact hK _ _ (h _ w7 hown7 ((Below.refl B w).grown hgrow7 hB (fun k hk => (hown.lt k hk).1)))
  rwa [if_pos hw] at key
theorem rl_lit (w : World) (B : Nat) (hB : B ≤ w.heap.size) : RL (w.alloc (.cells #[] 9)) B (.slice (some ⟨w.heap.size, 0, none⟩) 0 0) [] := World.ownsRow_lit w #[] 0 hB (by unfold maxLen; omega) rfl
/-- two strings appended -/
theorem app30t {ops : Array Oper} {rest : List Oper} {o : Oper} {a : Act} {Q : Exit → Act → World → Prop} (w : World) (hgd : o.guard = none) (s x : Operand)
    (ho : o.op = .call { callee := .builtin .append, args := #[s, x], argTypes := #[25, 25] }) (B : Nat) (v : Value) (l : List W8) (y z : W8) (hown : RL w B v l) (hs : a.eval s = v)
    (hx : a.eval x = .slice (some ⟨w.heap.size, 0, none⟩) 2 2) (hl : l.length ≤ 1000000) (hB : B ≤ w.heap.size)
    (h : ∀ v' w', RL w' B v' (l ++ [y, z]) → Below B w w' → wpList Tryz.prog ops Q rest (a.put o.dst v') w') : wpList Tryz.prog ops Q (o :: rest) a (w.alloc (.cells #[.string ⟨y.toArray⟩, .string ⟨z.toArray⟩] 9)) := by
  obtain ⟨i0, hi0, hz0, hz1, hz2⟩ := info_parts str_info
  have hown' : (w.alloc (.cells #[.string ⟨y.toArray⟩, .string ⟨z.toArray⟩] 9)).ownsRow B 9 1 v l.length (l.map encS) := World.ownsRow.alloc hown _
  refine wpList_append_lies _ hgd s x 25 ho B 9 i0 _ 1 16 Tryz.underlying25 hi0 hz0 hz1 hz2 rfl (by decide) v l.length _ hs hown' ⟨w.heap.size, 0, none⟩ 2 2 [.string ⟨y.toArray⟩, .string ⟨z.toArray⟩] hx rfl (fun j u hu => ?_) (fun u hu => ?_) (by decide) (by unfold maxLen; omega) (by omega) (by simp; omega) _ rfl ?_
  · rcases j with _ | _ | j
    · simp at hu; subst hu; simp [go_sem]
    · simp at hu; subst hu; simp [go_sem]
    · simp at hu
  · simp at hu; rcases hu with rfl | rfl <;> rfl
  · intro g cap w' h1 h2 _ _
    refine h _ w' ?_ ?_
    · unfold RL
      rw [List.length_append, List.map_append]
      exact h1
    · exact ((Below.refl B w).alloc hB _).grown h2 (by simp; omega) (fun k hk => (hown'.lt k hk).1)
/-- append([]Value{}, p...) -/
theorem app26l {ops : Array Oper} {rest : List Oper} {o : Oper} {a : Act} {Q : Exit → Act → World → Prop} (w : World) (hgd : o.guard = none) (s x : Operand)
    (ho : o.op = .call { callee := .builtin .append, args := #[s, x], argTypes := #[26, 26] }) (B g : Nat) (hown : OV w B (.slice (some ⟨g, 0, none⟩) 0 0) []) (hs : a.eval s = .slice (some ⟨g, 0, none⟩) 0 0)
    (v : Value) (p : List V) (hx : a.eval x = v) (hv : SV w v p) (hz : ∀ c, v = .slice none 0 c → c = 0) (hl : p.length ≤ 1000) (hB : B ≤ w.heap.size)
    (h : ∀ v7 w7, OV w7 B v7 p → Below B w w7 → wpList Tryz.prog ops Q rest (a.put o.dst v7) w7) : wpList Tryz.prog ops Q (o :: rest) a w := by
  refine wpList_plain hgd fun K hK => ?_
  have hw : Region.wanted o (yielded ops a.tmps) = true := by simp [Region.wanted, hgd]
  have := app26w (ops := ops) (K := K) (Q := Q) (E := False) w hgd s x ho B g hown hs v p hx hv hz hl hB (fun g7 c7 w7 h1 h2 _ => hK _ _ (h _ w7 h1 ((Below.refl B w).grown h2 hB (fun k hk => (hown.lt k hk).1))))
  rwa [if_pos hw] at this
theorem two9c {w : World} {b : Nat} {x y : V} (h : w.heap[b]? = some (.cells #[.int .i64 x.num, .int .i64 x.den, .int .i64 x.dim.a, .int .i64 x.dim.b, .int .i64 x.dim.c, .int .i64 x.dim.d, .int .i64 x.dim.e, .int .i64 x.dim.f, .int .i64 x.dim.g, .int .i64 y.num, .int .i64 y.den, .int .i64 y.dim.a, .int .i64 y.dim.b, .int .i64 y.dim.c, .int .i64 y.dim.d, .int .i64 y.dim.e, .int .i64 y.dim.f, .int .i64 y.dim.g] 44 (0, 0))) : C9 w b 0 x ∧ C9 w b 9 y := by
  refine ⟨⟨⟨?_, ?_⟩, ?_, ?_, ?_, ?_, ?_, ?_, ?_⟩, ⟨⟨?_, ?_⟩, ?_, ?_, ?_, ?_, ?_, ?_, ?_⟩⟩ <;> simp [World.cell?, h]
/-- two values appended -/
theorem app26t {ops : Array Oper} {rest : List Oper} {o : Oper} {a : Act} {Q : Exit → Act → World → Prop} (w : World) (hgd : o.guard = none) (s x : Operand)
    (ho : o.op = .call { callee := .builtin .append, args := #[s, x], argTypes := #[26, 26] }) (B : Nat) (v : Value) (l : List V) (y z : V) (hown : OV w B v l) (hs : a.eval s = v)
    (hx : a.eval x = .slice (some ⟨w.heap.size, 0, none⟩) 2 2) (hl : l.length ≤ 1000) (hB : B ≤ w.heap.size)
    (h : ∀ v' w', OV w' B v' (l ++ [y, z]) → Below B w w' → wpList Tryz.prog ops Q rest (a.put o.dst v') w') : wpList Tryz.prog ops Q (o :: rest) a (w.alloc (.cells #[.int .i64 y.num, .int .i64 y.den, .int .i64 y.dim.a, .int .i64 y.dim.b, .int .i64 y.dim.c, .int .i64 y.dim.d, .int .i64 y.dim.e, .int .i64 y.dim.f, .int .i64 y.dim.g, .int .i64 z.num, .int .i64 z.den, .int .i64 z.dim.a, .int .i64 z.dim.b, .int .i64 z.dim.c, .int .i64 z.dim.d, .int .i64 z.dim.e, .int .i64 z.dim.f, .int .i64 z.dim.g] 44)) := by
  obtain ⟨i0, hi0, hz0, hz1, hz2⟩ := info_parts val_info
  have hown' : (w.alloc (.cells #[.int .i64 y.num, .int .i64 y.den, .int .i64 y.dim.a, .int .i64 y.dim.b, .int .i64 y.dim.c, .int .i64 y.dim.d, .int .i64 y.dim.e, .int .i64 y.dim.f, .int .i64 y.dim.g, .int .i64 z.num, .int .i64 z.den, .int .i64 z.dim.a, .int .i64 z.dim.b, .int .i64 z.dim.c, .int .i64 z.dim.d, .int .i64 z.dim.e, .int .i64 z.dim.f, .int .i64 z.dim.g] 44)).ownsRow B 44 9 v l.length (valC l) := World.ownsRow.alloc hown _
  have hc := two9c (heap_alloc_new w (.cells #[.int .i64 y.num, .int .i64 y.den, .int .i64 y.dim.a, .int .i64 y.dim.b, .int .i64 y.dim.c, .int .i64 y.dim.d, .int .i64 y.dim.e, .int .i64 y.dim.f, .int .i64 y.dim.g, .int .i64 z.num, .int .i64 z.den, .int .i64 z.dim.a, .int .i64 z.dim.b, .int .i64 z.dim.c, .int .i64 z.dim.d, .int .i64 z.dim.e, .int .i64 z.dim.f, .int .i64 z.dim.g] 44))
  refine wpList_append_lies _ hgd s x 26 ho B 44 i0 _ 9 72 Tryz.underlying26 hi0 hz0 hz1 hz2 rfl (by decide) v l.length _ hs hown' ⟨w.heap.size, 0, none⟩ 2 2 (valC [y, z]) hx (valC_len9 _) (fun j u hu => ?_) (fun u hu => ?_) (by decide) (by unfold maxLen; omega) (by omega) (by simp; omega) _ rfl ?_
  · obtain ⟨i, hi, k, hk, rfl, hu'⟩ := valC_get [y, z] j u hu
    rw [addr_addF, Nat.zero_add]
    rcases i with _ | _ | i
    · have := hc.1.at_ hk hu'
      rwa [show 0 * 9 + k = 0 + k from by omega]
    · have := hc.2.at_ hk hu'
      rwa [show (0 + 1) * 9 + k = 9 + k from by omega]
    · have h2 : i + 1 + 1 < 2 := hi
      omega
  · obtain ⟨q, _, hq⟩ := List.mem_flatMap.1 hu
    exact val_one q u hq
  · intro g cap w' h1 h2 _ _
    refine h _ w' ?_ ?_
    · unfold OV
      rw [List.length_append, show valC (l ++ [y, z]) = valC l ++ valC [y, z] from by unfold valC; rw [List.flatMap_append]]
      exact h1
    · exact ((Below.refl B w).alloc hB _).grown h2 (by simp; omega) (fun k hk => (hown'.lt k hk).1)
theorem al_heap' (W : World) (o : Obj) (k : Nat) (h : k < W.heap.size) : (W.alloc o).heap[k]? = W.heap[k]? := (b1 W o).block k h
theorem below5p {B : Nat} {w0 W : World} (h : Below B w0 W) {b : Nat} (hb : B ≤ b) (a0 a1 a2 a3 a4 : Value) : Below B w0 (((((W.setCell ⟨b, 0, none⟩ a0).setCell ⟨b, 1, none⟩ a1).setCell ⟨b, 2, none⟩ a2).setCell ⟨b, 3, none⟩ a3).setCell ⟨b, 4, none⟩ a4) :=
  ((((h.setCell (p := ⟨b, 0, none⟩) hb _).setCell (p := ⟨b, 1, none⟩) hb _).setCell (p := ⟨b, 2, none⟩) hb _).setCell (p := ⟨b, 3, none⟩) hb _).setCell (p := ⟨b, 4, none⟩) hb _
theorem varT_tr {w : World} {B b o : Nat} {x : W8} (hb : b < B) (c0 : w.cell? ⟨b, o, none⟩ = some (.int .i64 2)) (c1 : w.cell? ⟨b, o + 1, none⟩ = some (.string ⟨x.toArray⟩)) (c2 : w.cell? ⟨b, o + 2, none⟩ = some (.string ⟨#[]⟩))
    (c3 : w.cell? ⟨b, o + 3, none⟩ = some (.slice none 0 0)) (c4 : w.cell? ⟨b, o + 4, none⟩ = some (.string ⟨#[]⟩)) : TR w B b o (varT x) :=
  TR.of_parts hb c0 c1 c2 c3 c4 ⟨⟨Nat.le_refl _, by omega⟩, fun h => absurd rfl h⟩

set_option maxRecDepth 100000 in
set_option maxHeartbeats 4000000 in
theorem func3_any (n : W8) (m : T) (A : Option Addr) (c : Nat) (w : World) (hv : TV w w.heap.size m A c) :
    Calls Tryz.prog 18 #[.string ⟨n.toArray⟩, .agg (tv m A c)] w fun e w' => ∃ A9 c9, e = .returned (.agg (tv (partT n m) A9 c9)) ∧ TV w' w'.heap.size (partT n m) A9 c9 ∧ Below w.heap.size w w' := by
  have HB := Lib.hid (b2 w (.cells (tv m A c) 24) (.cells #[.int .i64 0, .string ⟨#[]⟩, .string ⟨#[]⟩, .slice none 0 0, .string ⟨#[]⟩] 24))
  have HV0 := Lib.hid hv
  have HV := Lib.hid fun (wz : World) (h : Below w.heap.size w wz) => hv.reach h
  have HX : Hid (Bxd ((w.alloc (.cells (tv m A c) 24)).alloc (.cells #[.int .i64 0, .string ⟨#[]⟩, .string ⟨#[]⟩, .slice none 0 0, .string ⟨#[]⟩] 24)) w.heap.size m A c) := (bxd_new w m A c).below (b1 _ _) (by simp)
  have hz : ((w.alloc (.cells (tv m A c) 24)).alloc (.cells #[.int .i64 0, .string ⟨#[]⟩, .string ⟨#[]⟩, .slice none 0 0, .string ⟨#[]⟩] 24)).heap[w.heap.size + 1]? = some (.cells #[.int .i64 0, .string ⟨#[]⟩, .string ⟨#[]⟩, .slice none 0 0, .string ⟨#[]⟩] 24 (0, 0)) := by
    have h := heap_alloc_new (w.alloc (.cells (tv m A c) 24)) (.cells #[.int .i64 0, .string ⟨#[]⟩, .string ⟨#[]⟩, .slice none 0 0, .string ⟨#[]⟩] 24)
    rwa [World.size_alloc] at h
  have HZ := Lib.hid hz
  have HS : Hid (((w.alloc (.cells (tv m A c) 24)).alloc (.cells #[.int .i64 0, .string ⟨#[]⟩, .string ⟨#[]⟩, .slice none 0 0, .string ⟨#[]⟩] 24)).heap.size = w.heap.size + 2) := by show _ = _; simp
  clear hv hz
  generalize tv m A c = cs at *
  go_enter Tryz.func18, Tryz.ntmps18
  go_upto_region 1 with (fail)
  generalize (w.alloc (.cells cs 24)).alloc (.cells #[.int .i64 0, .string ⟨#[]⟩, .string ⟨#[]⟩, .slice none 0 0, .string ⟨#[]⟩] 24) = w1 at *
  obtain ⟨k0, k1, k2, k3, k4⟩ := HX.out
  have HN := Lib.hid (heap_alloc_new w1 (.cells #[.int .i64 2, .string ⟨#[102, 114, 111, 109]⟩, .string ⟨#[]⟩, .slice none 0 0, .string ⟨#[]⟩, .int .i64 2, .string ⟨#[116, 105, 108, 108]⟩, .string ⟨#[]⟩, .slice none 0 0, .string ⟨#[]⟩, .int .i64 m.kind, .string ⟨m.name.toArray⟩, .string ⟨m.var.toArray⟩, .slice A m.args.length c, .string ⟨m.form.toArray⟩] 24))
  have HB2 := Lib.hid (bl_tr HB.out (b1 w1 (.cells #[.int .i64 2, .string ⟨#[102, 114, 111, 109]⟩, .string ⟨#[]⟩, .slice none 0 0, .string ⟨#[]⟩, .int .i64 2, .string ⟨#[116, 105, 108, 108]⟩, .string ⟨#[]⟩, .slice none 0 0, .string ⟨#[]⟩, .int .i64 m.kind, .string ⟨m.name.toArray⟩, .string ⟨m.var.toArray⟩, .slice A m.args.length c, .string ⟨m.form.toArray⟩] 24)))
  have HZ2 : Hid ((w1.alloc (.cells #[.int .i64 2, .string ⟨#[102, 114, 111, 109]⟩, .string ⟨#[]⟩, .slice none 0 0, .string ⟨#[]⟩, .int .i64 2, .string ⟨#[116, 105, 108, 108]⟩, .string ⟨#[]⟩, .slice none 0 0, .string ⟨#[]⟩, .int .i64 m.kind, .string ⟨m.name.toArray⟩, .string ⟨m.var.toArray⟩, .slice A m.args.length c, .string ⟨m.form.toArray⟩] 24)).heap[w.heap.size + 1]? = some (.cells #[.int .i64 0, .string ⟨#[]⟩, .string ⟨#[]⟩, .slice none 0 0, .string ⟨#[]⟩] 24 (0, 0))) := (al_heap' w1 _ _ (by have := HS.out; omega)).trans HZ.out
  have HS2 : Hid (w1.heap.size < (w1.alloc (.cells #[.int .i64 2, .string ⟨#[102, 114, 111, 109]⟩, .string ⟨#[]⟩, .slice none 0 0, .string ⟨#[]⟩, .int .i64 2, .string ⟨#[116, 105, 108, 108]⟩, .string ⟨#[]⟩, .slice none 0 0, .string ⟨#[]⟩, .int .i64 m.kind, .string ⟨m.name.toArray⟩, .string ⟨m.var.toArray⟩, .slice A m.args.length c, .string ⟨m.form.toArray⟩] 24)).heap.size) := by show _ < _; simp
  have z0 : (w1.alloc (.cells #[.int .i64 2, .string ⟨#[102, 114, 111, 109]⟩, .string ⟨#[]⟩, .slice none 0 0, .string ⟨#[]⟩, .int .i64 2, .string ⟨#[116, 105, 108, 108]⟩, .string ⟨#[]⟩, .slice none 0 0, .string ⟨#[]⟩, .int .i64 m.kind, .string ⟨m.name.toArray⟩, .string ⟨m.var.toArray⟩, .slice A m.args.length c, .string ⟨m.form.toArray⟩] 24)).cell? ⟨w.heap.size + 1, 0, none⟩ = some (.int .i64 0) := by simp only [World.cell?, HZ2.out]; rfl
  have z1 : (w1.alloc (.cells #[.int .i64 2, .string ⟨#[102, 114, 111, 109]⟩, .string ⟨#[]⟩, .slice none 0 0, .string ⟨#[]⟩, .int .i64 2, .string ⟨#[116, 105, 108, 108]⟩, .string ⟨#[]⟩, .slice none 0 0, .string ⟨#[]⟩, .int .i64 m.kind, .string ⟨m.name.toArray⟩, .string ⟨m.var.toArray⟩, .slice A m.args.length c, .string ⟨m.form.toArray⟩] 24)).cell? ⟨w.heap.size + 1, 1, none⟩ = some (.string ⟨#[]⟩) := by simp only [World.cell?, HZ2.out]; rfl
  have z2 : (w1.alloc (.cells #[.int .i64 2, .string ⟨#[102, 114, 111, 109]⟩, .string ⟨#[]⟩, .slice none 0 0, .string ⟨#[]⟩, .int .i64 2, .string ⟨#[116, 105, 108, 108]⟩, .string ⟨#[]⟩, .slice none 0 0, .string ⟨#[]⟩, .int .i64 m.kind, .string ⟨m.name.toArray⟩, .string ⟨m.var.toArray⟩, .slice A m.args.length c, .string ⟨m.form.toArray⟩] 24)).cell? ⟨w.heap.size + 1, 2, none⟩ = some (.string ⟨#[]⟩) := by simp only [World.cell?, HZ2.out]; rfl
  have z3 : (w1.alloc (.cells #[.int .i64 2, .string ⟨#[102, 114, 111, 109]⟩, .string ⟨#[]⟩, .slice none 0 0, .string ⟨#[]⟩, .int .i64 2, .string ⟨#[116, 105, 108, 108]⟩, .string ⟨#[]⟩, .slice none 0 0, .string ⟨#[]⟩, .int .i64 m.kind, .string ⟨m.name.toArray⟩, .string ⟨m.var.toArray⟩, .slice A m.args.length c, .string ⟨m.form.toArray⟩] 24)).cell? ⟨w.heap.size + 1, 3, none⟩ = some (.slice none 0 0) := by simp only [World.cell?, HZ2.out]; rfl
  have z4 : (w1.alloc (.cells #[.int .i64 2, .string ⟨#[102, 114, 111, 109]⟩, .string ⟨#[]⟩, .slice none 0 0, .string ⟨#[]⟩, .int .i64 2, .string ⟨#[116, 105, 108, 108]⟩, .string ⟨#[]⟩, .slice none 0 0, .string ⟨#[]⟩, .int .i64 m.kind, .string ⟨m.name.toArray⟩, .string ⟨m.var.toArray⟩, .slice A m.args.length c, .string ⟨m.form.toArray⟩] 24)).cell? ⟨w.heap.size + 1, 4, none⟩ = some (.string ⟨#[]⟩) := by simp only [World.cell?, HZ2.out]; rfl
  have zf : ∀ i, (w1.alloc (.cells #[.int .i64 2, .string ⟨#[102, 114, 111, 109]⟩, .string ⟨#[]⟩, .slice none 0 0, .string ⟨#[]⟩, .int .i64 2, .string ⟨#[116, 105, 108, 108]⟩, .string ⟨#[]⟩, .slice none 0 0, .string ⟨#[]⟩, .int .i64 m.kind, .string ⟨m.name.toArray⟩, .string ⟨m.var.toArray⟩, .slice A m.args.length c, .string ⟨m.form.toArray⟩] 24)).frozen? ⟨w.heap.size + 1, i, none⟩ = false := fun i => by simp only [World.frozen?, HZ2.out]; rfl
  have zf0 := zf 0
  have zf1 := zf 1
  have zf2 := zf 2
  have zf3 := zf 3
  have zf4 := zf 4
  have HT : Hid (TVS (w1.alloc (.cells #[.int .i64 2, .string ⟨#[102, 114, 111, 109]⟩, .string ⟨#[]⟩, .slice none 0 0, .string ⟨#[]⟩, .int .i64 2, .string ⟨#[116, 105, 108, 108]⟩, .string ⟨#[]⟩, .slice none 0 0, .string ⟨#[]⟩, .int .i64 m.kind, .string ⟨m.name.toArray⟩, .string ⟨m.var.toArray⟩, .slice A m.args.length c, .string ⟨m.form.toArray⟩] 24)) (fun k => k < w.heap.size ∨ k = w1.heap.size) (partT n m) (some ⟨w1.heap.size, 0, none⟩) 3) := ⟨⟨Nat.le_refl _, by omega⟩, fun _ => ⟨w1.heap.size, 0, rfl, by
    have hm : TVS (w1.alloc (.cells #[.int .i64 2, .string ⟨#[102, 114, 111, 109]⟩, .string ⟨#[]⟩, .slice none 0 0, .string ⟨#[]⟩, .int .i64 2, .string ⟨#[116, 105, 108, 108]⟩, .string ⟨#[]⟩, .slice none 0 0, .string ⟨#[]⟩, .int .i64 m.kind, .string ⟨m.name.toArray⟩, .string ⟨m.var.toArray⟩, .slice A m.args.length c, .string ⟨m.form.toArray⟩] 24)) (fun k => k < w.heap.size ∨ k = w1.heap.size) m A c := (HV0.out.set.keep fun k hk => ⟨.inl hk, HB2.out.block k hk⟩)
    have hc := fun (o : Nat) (u : Value) (h : (#[.int .i64 2, .string ⟨#[102, 114, 111, 109]⟩, .string ⟨#[]⟩, .slice none 0 0, .string ⟨#[]⟩, .int .i64 2, .string ⟨#[116, 105, 108, 108]⟩, .string ⟨#[]⟩, .slice none 0 0, .string ⟨#[]⟩, .int .i64 m.kind, .string ⟨m.name.toArray⟩, .string ⟨m.var.toArray⟩, .slice A m.args.length c, .string ⟨m.form.toArray⟩] : Array Value)[o]? = some u) => show (w1.alloc (.cells #[.int .i64 2, .string ⟨#[102, 114, 111, 109]⟩, .string ⟨#[]⟩, .slice none 0 0, .string ⟨#[]⟩, .int .i64 2, .string ⟨#[116, 105, 108, 108]⟩, .string ⟨#[]⟩, .slice none 0 0, .string ⟨#[]⟩, .int .i64 m.kind, .string ⟨m.name.toArray⟩, .string ⟨m.var.toArray⟩, .slice A m.args.length c, .string ⟨m.form.toArray⟩] 24)).cell? ⟨w1.heap.size, o, none⟩ = some u by simp only [World.cell?, HN.out]; exact h
    show TRSs _ _ _ _ [varT fromW, varT tillW, m]
    unfold TRSs TRSs TRSs TRSs
    exact ⟨TRS.of_parts (t := varT fromW) (.inr rfl) (hc 0 _ rfl) (hc 1 _ rfl) (hc 2 _ rfl) (A := none) (c := 0) (hc 3 _ rfl) (hc 4 _ rfl) ⟨⟨Nat.le_refl _, by omega⟩, fun h => absurd rfl h⟩,
      TRS.of_parts (t := varT tillW) (.inr rfl) (hc 5 _ rfl) (hc 6 _ rfl) (hc 7 _ rfl) (A := none) (c := 0) (hc 8 _ rfl) (hc 9 _ rfl) ⟨⟨Nat.le_refl _, by omega⟩, fun h => absurd rfl h⟩,
      TRS.of_parts (t := m) (.inr rfl) (hc 10 _ rfl) (hc 11 _ rfl) (hc 12 _ rfl) (hc 13 _ rfl) (hc 14 _ rfl) hm, trivial⟩⟩⟩
  have hsb : ¬ (w.heap.size + 1 < w.heap.size ∨ w.heap.size + 1 = w1.heap.size) := by have := HS.out; omega
  have HSB := Lib.hid hsb
  have HSS : Hid (w.heap.size ≤ w1.heap.size) := by have := HS.out; show _ ≤ _; omega
  clear hsb HN HV HX HZ
  go_wp2_with fail
  generalize w1.alloc (.cells #[.int .i64 2, .string ⟨#[102, 114, 111, 109]⟩, .string ⟨#[]⟩, .slice none 0 0, .string ⟨#[]⟩, .int .i64 2, .string ⟨#[116, 105, 108, 108]⟩, .string ⟨#[]⟩, .slice none 0 0, .string ⟨#[]⟩, .int .i64 m.kind, .string ⟨m.name.toArray⟩, .string ⟨m.var.toArray⟩, .slice A m.args.length c, .string ⟨m.form.toArray⟩] 24) = w2 at *
  refine bodyPost_ret (v := .agg (tv (partT n m) (some ⟨w1.heap.size, 0, none⟩) 3)) (by simp [results, Tryz.results18, go_sem, tv, partT, T.kind, T.name, T.var, T.args, T.form, z0, z1, z2, z3, z4]) rfl ⟨some ⟨w1.heap.size, 0, none⟩, 3, rfl, (((((HT.out.set _ 0 _ HSB.out).set _ 1 _ HSB.out).set _ 2 _ HSB.out).set _ 3 _ HSB.out).set _ 4 _ HSB.out).tv fun k hk => ?_, below5p HB2.out (Nat.le_succ _) _ _ _ _ _⟩
  simp only [World.size_setCell]
  have := HS2.out
  have := HSS.out
  omega

end Go.Proofs.YtknpigdpepmimaaGreatDoor
