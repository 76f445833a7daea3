/- Plain: the free identifiers of a substitution. One term appended to a list whose first array is full and stays as it is. The walk of TermFree. -/
import Derived.Test.YtkjhfbgdmmnadaaPlF
import Derived.Test.YtkjhfbgdmmnadaaSbs
import Derived.Test.YtkjhfbgdmmnadaaRss
import Derived.Deep.RegionLawGrows
import Derived.Test.YtkjhfbgdmmnadaaAtK
import Derived.Test.YtkjhfbgdmmnadaaREq
import Derived.Test.YtkjhfbgdmmnadaaNamL
import Derived.Test.YtkjhfbgdmmnadaaEq17
namespace Go.Proofs.Ytkjhfbgdmmnadaa

def listW : W8 := [108, 105, 115, 116]
def varsT (l : List W8) : List T := l.map vrT
/-- the term whose free names are asked -/
def listT (u : T) (l : List W8) : T := .mk 4 listW [] (u :: varsT l) []
theorem inArgs_vars (y : W8) : ∀ l : List W8, inArgs 4 [] y (varsT l) ↔ y ∈ l
  | [] => by unfold varsT; rw [List.map_nil, inArgs]; simp
  | a :: l => by
    have ih := inArgs_vars y l
    unfold varsT at *
    rw [List.map_cons, inArgs, ih, vrT_fr]
    simp
theorem mem_list (u : T) (l : List W8) (y : W8) : y ∈ frL (listT u l) ↔ y ∈ frL u ∨ y ∈ l := by
  unfold listT
  rw [mem_frL]
  show ((4 : Int) = 2 ∧ _) ∨ ((4 : Int) ≠ 2 ∧ inArgs 4 [] y (u :: varsT l)) ↔ _
  rw [inArgs, inArgs_vars]
  simp
theorem sizes_vars : ∀ l : List W8, sizes (varsT l) = l.length
  | [] => by unfold varsT; rw [List.map_nil, sizes]; rfl
  | a :: l => by
    have ih := sizes_vars l
    unfold varsT at *
    rw [List.map_cons, sizes, ih, vrT_size, List.length_cons]; omega
theorem WFs_vars : ∀ l : List W8, (∀ x ∈ l, identB x = true) → WFs (varsT l)
  | [], _ => by unfold varsT; rw [List.map_nil, WFs]; trivial
  | a :: l, h => by
    have ih := WFs_vars l (fun x hx => h x (List.mem_cons_of_mem _ hx))
    unfold varsT at *
    rw [List.map_cons, WFs]
    exact ⟨vrT_wf (h a List.mem_cons_self), ih⟩
theorem listT_wf {u : T} {l : List W8} (hu : WF u) (hl : ∀ x ∈ l, identB x = true) : WF (listT u l) := by
  refine WF.of ?_ ?_
  · rw [ownB, if_neg (show ¬ (listT u l).kind = 1 from (by show ¬ (4 : Int) = 1; decide)), if_neg (show ¬ (listT u l).kind = 2 from (by show ¬ (4 : Int) = 2; decide)), if_neg (show ¬ (listT u l).kind = 3 from (by show ¬ (4 : Int) = 3; decide)), if_pos (show (listT u l).kind = 4 from rfl)]
    rfl
  show WFs (u :: varsT l)
  rw [WFs]
  exact ⟨hu, WFs_vars l hl⟩
theorem listT_size (u : T) (l : List W8) : (listT u l).size = 1 + u.size + l.length := by
  unfold listT
  rw [T.size, sizes, sizes_vars]; omega
theorem free_law {t u : T} {x : W8} (hok : okSub t x u = true) (hx : x ∈ frL t) : frL (subT t x u) = frL (listT u (withoutL (frL t) x)) := by
  unfold okSub at hok
  simp only [Bool.and_eq_true] at hok
  obtain ⟨⟨ht, hu⟩, _⟩ := hok
  have hwt := ((valid_iff t).1 ht).1
  have hwu := ((valid_iff u).1 hu).1
  refine srtd_ext (frL_ok _ (subT_wf x ht hu)).1 (frL_ok _ (listT_wf hwu (fun y hy => (frL_ok t hwt).2 y (mem_withoutL.1 hy).1))).1 (fun y => ?_)
  rw [mem_list, mem_withoutL]
  have := mem_sub t.size t x y u (Nat.le_refl _) (sub_bound ht hu)
  show y ∈ frL (sub t.size t x u) ↔ _
  rw [this]
  constructor
  · rintro (h | h)
    · exact .inr h
    · exact .inl h.2
  · rintro (h | h)
    · exact .inr ⟨hx, h⟩
    · exact .inl h
theorem subT_same {t u : T} {x : W8} (hok : okSub t x u = true) (hx : x ∉ frL t) : subT t x u = t := by
  unfold okSub at hok
  simp only [Bool.and_eq_true] at hok
  exact sub_id t.size t x u ((valid_iff t).1 hok.1.1).1 (Nat.le_refl _) hx
theorem sbT_cases (t : T) (x : W8) (u : T) : (sbT t x u).2 ≠ 0 ∨ ((sbT t x u).2 = 0 ∧ okSub t x u = true ∧ validB (subT t x u) = true ∧ (sbT t x u).1 = subT t x u) := by
  unfold sbT
  by_cases h : okSub t x u = true
  · rw [if_pos h]
    by_cases h2 : validB (subT t x u) = true
    · rw [if_pos h2]; exact .inr ⟨rfl, h, h2, rfl⟩
    · rw [if_neg h2]; exact .inl (by decide)
  · rw [if_neg h]; exact .inl (by decide)
theorem okSub_valid {t u : T} {x : W8} (h : okSub t x u = true) : validB t = true ∧ validB u = true ∧ identB x = true := by
  unfold okSub at h
  simp only [Bool.and_eq_true] at h
  exact ⟨h.1.1, h.1.2, h.2⟩

end Go.Proofs.Ytkjhfbgdmmnadaa

namespace Go.Proofs.Ytkjhfbgdmmnadaa
open Go.RowKit

/-- the row's array is full and lies at K, or it is a new one -/
def Fst (K D n : Nat) (v : Value) : Prop := v = .slice (some ⟨K, 0, none⟩) n n ∨ ∃ g, v.ownBlock = some g ∧ D ≤ g
theorem row24 {w : World} {base n : Nat} {v : Value} {xs : List Value} (h : w.ownsRow base 24 5 v (n + 1) xs) : ∃ g cap, v = .slice (some ⟨g, 0, none⟩) (n + 1) cap ∧ base ≤ g ∧ g < w.heap.size := by
  rcases h.2 with ⟨_, h2⟩ | ⟨g, cap, cur, rfl, h1, h2, _⟩
  · omega
  · exact ⟨g, cap, rfl, h1, (Array.getElem?_eq_some_iff.1 h2).1⟩
theorem stepV {ops : Array Oper} {o : Oper} {a : Act} {K' : Act → World → Prop} {Q : Exit → Act → World → Prop} {E : Prop} (w : World) (hgd : o.guard = none) (s x : Operand)
    (ho : o.op = .call { callee := .builtin .append, args := #[s, x], argTypes := #[22, 22] }) (K D kb : Nat) (v : Value) (l : List TX) (y : TX) (hown : w.ownsRow K 24 5 v l.length (txc l)) (hf : Fst K D l.length v) (hD : D ≤ w.heap.size) (hK : K ≤ w.heap.size)
    (hs : a.eval s = v) (hx : a.eval x = .slice (some ⟨kb, 0, none⟩) 1 1) (hy : ∀ j u, y.cells[j]? = some u → w.cell? (Addr.add ⟨kb, 0, none⟩ j) = some u) (hl : l.length ≤ 100000)
    (h : ∀ g cap w7, w7.ownsRow K 24 5 (.slice (some ⟨g, 0, none⟩) (l.length + 1) cap) (l.length + 1) (txc l ++ y.cells) → D ≤ g → g < w7.heap.size → (∀ k, k < D → w7.heap[k]? = w.heap[k]?) → w.grownBy w7 v.ownBlock → (v.ownBlock = some g ∨ w.heap.size ≤ g) → K' (a.put o.dst (.slice (some ⟨g, 0, none⟩) (l.length + 1) cap)) w7) :
    if Region.wanted o (yielded ops a.tmps) = true then Oper.wp Try.prog o a w K' Q else E := by
  obtain ⟨i0, hi0, hz0, hz1, hz2⟩ := info_parts term_info
  rcases hf with rfl | ⟨g0, hg0, hgD⟩
  · have hcell : ∀ b, (some ⟨K, 0, none⟩ : Option Addr) = some b → ∀ j u, (txc l)[j]? = some u → w.cell? (b.add j) = some u := fun b hb j u hu => by
      rw [← Option.some.inj hb]
      rcases hown.2 with ⟨h1, _⟩ | ⟨g, cap, cur, h1, _, h3, _, _, _, h7⟩
      · exact Value.noConfusion h1 (fun e _ _ => by simp at e)
      · have e : K = g := by
          have e1 : (some ⟨K, 0, none⟩ : Option Addr) = some ⟨g, 0, none⟩ := Value.noConfusion h1 (fun e _ _ => e)
          have e2 := Option.some.inj e1
          exact congrArg Addr.block e2
        rw [← e] at h3
        have hj : j < l.length * 5 := by
          have := (List.getElem?_eq_some_iff.1 hu).1
          rwa [txc_len] at this
        have e1 : (cur.toList.take (l.length * 5))[j]? = (txc l)[j]? := by rw [h7]
        rw [List.getElem?_take_of_lt hj, hu] at e1
        rw [addr_addF, Nat.zero_add]
        simp only [World.cell?, h3, Option.isSome_none, Bool.false_eq_true, if_false]
        rw [← Array.getElem?_toList]; exact e1
    refine step_append_grows hgd s x 22 ho 24 i0 _ 5 80 Try.underlying22 hi0 hz0 hz1 hz2 rfl (by decide) (some ⟨K, 0, none⟩) l.length l.length (txc l) hs (fun e => by cases e) (txc_len l) hcell ⟨kb, 0, none⟩ 1 1 y.cells hx rfl hy (tx_one y) (by omega) (by unfold maxLen; omega) (by omega) ?_
    intro v7 w7 hown7 hg7
    obtain ⟨g, cap, rfl, hgb, hgl⟩ := row24 hown7
    exact h g cap w7 (World.ownsRow.mono hown7 hK) (by omega) hgl (fun k hk => hg7.block k (by omega) (by simp)) ⟨hg7.os, hg7.tape, hg7.output, hg7.size, fun k hk _ => hg7.block k hk (by simp)⟩ (.inr hgb)
  · refine step_append_lies _ hgd s x 22 ho K 24 i0 _ 5 80 Try.underlying22 hi0 hz0 hz1 hz2 rfl (by decide) v l.length (txc l) hs hown ⟨kb, 0, none⟩ 1 1 y.cells hx rfl hy (tx_one y) (by decide) (by unfold maxLen; omega) (by omega) hK _ rfl ?_
    intro g cap w7 hown7 hg7 hat7 hlt7
    refine h g cap w7 hown7 ?_ hlt7 (fun k hk => hg7.block k (by omega) (fun e => by rw [hg0] at e; injection e with e; omega)) hg7 (hat7.imp id (fun e => by omega))
    rcases hat7 with h1 | h1
    · rw [hg0] at h1; injection h1 with h1; omega
    · omega
theorem SL.cells {w w' : World} {B : Nat} {v : Value} {l : List W8} (h : SL w B v l) (hc : ∀ b o s, b < B → w.cell? ⟨b, o, none⟩ = some (.string s) → w'.cell? ⟨b, o, none⟩ = some (.string s)) : SL w' B v l := by
  obtain ⟨A, c, h1, h2, h3⟩ := h
  refine ⟨A, c, h1, h2, fun hne => ?_⟩
  obtain ⟨b, o, h4, h5, h6⟩ := h3 hne
  exact ⟨b, o, h4, h5, fun j hj => hc _ _ _ h5 (h6 j hj)⟩
theorem OT.setne {Z : Nat → Prop} {w : World} {B cb o : Nat} {v u : Value} {l : List TX} (h : OT Z w B v l) (hv : v.ownBlock ≠ some cb) (hZ : ¬ Z cb) : OT Z (w.setCell ⟨cb, o, none⟩ u) B v l := by
  have hg : w.grownBy (w.setCell ⟨cb, o, none⟩ u) (some cb) := ⟨rfl, rfl, rfl, by simp, fun k _ hne => Below.heap_setCell _ _ _ _ (fun e => hne (by rw [e]))⟩
  refine ⟨World.ownsRow.kept h.1 hg ?_, fun x hx => (h.2 x hx).keep (fun k hk => ⟨⟨hk.1, by simpa using hk.2.1, hk.2.2⟩, hg.block k hk.2.1 (fun e => hZ (by injection e with e; rw [← e]; exact hk.1))⟩)⟩
  cases hv' : v.ownBlock with
  | none => exact .inl rfl
  | some k => right; intro e; exact hv (by rw [hv', e])
theorem OT.weak {Z Z' : Nat → Prop} {w : World} {B : Nat} {v : Value} {l : List TX} (h : OT Z w B v l) (hZ : ∀ k, Z k → Z' k) : OT Z' w B v l :=
  ⟨h.1, fun x hx => (h.2 x hx).keep (fun k hk => ⟨⟨hZ k hk.1, hk.2⟩, rfl⟩)⟩
end Go.Proofs.Ytkjhfbgdmmnadaa

namespace Go.Proofs.Ytkjhfbgdmmnadaa
open Go.RowKit

set_option maxRecDepth 100000 in
set_option maxHeartbeats 4000000 in
theorem freel_walk (t : T) (A : Option Addr) (c : Nat) (s : ByteArray) (u : T) (A' : Option Addr) (c' : Nat) (w : World) (hv : TV w w.heap.size t A c) (_hs : s.size ≤ maxLen) (hv' : TV w w.heap.size u A' c') (hm : Max w) :
    Calls Try.prog 10 #[.agg (tv t A c), .string s, .agg (tv u A' c')] w fun e w' => e = .returned (.bool true) ∧ Below w.heap.size w w' := by
  obtain ⟨x, rfl⟩ : ∃ x : W8, s = ⟨x.toArray⟩ := ⟨s.data.toList, by cases s; simp⟩
  have hb1 : Below w.heap.size w (w.alloc (.cells (tv t A c) 24)) := (Below.refl _ _).alloc (Nat.le_refl _) _
  have hb0 : Below w.heap.size w ((w.alloc (.cells (tv t A c) 24)).alloc (.cells (tv u A' c') 24)) := hb1.alloc (by simp) _
  have HB0 := Lib.hid hb0
  have HV := Lib.hid fun w' (hb : Below w.heap.size w w') => hv.reach hb
  have HV' := Lib.hid fun w' (hb : Below w.heap.size w w') => hv'.reach hb
  have HM := Lib.hid fun w' (hb : Below w.heap.size w w') => hm.reach hb
  have hs1 : (w.alloc (.cells (tv t A c) 24)).heap.size = w.heap.size + 1 := by simp
  have hbx' := bxd_new (w.alloc (.cells (tv t A c) 24)) u A' c'
  rw [hs1] at hbx'
  have HBX := Lib.hid (And.intro ((bxd_new w t A c).below ((Below.refl (w.alloc (.cells (tv t A c) 24)).heap.size _).alloc (Nat.le_refl _) (.cells (tv u A' c') 24)) (by simp)) hbx')
  have hls : w.heap.size + 1 < ((w.alloc (.cells (tv t A c) 24)).alloc (.cells (tv u A' c') 24)).heap.size := by simp
  have HS1 := Lib.hid hs1
  have HTV : Hid (tv t A c = #[.int .i64 t.kind, .string ⟨t.name.toArray⟩, .string ⟨t.var.toArray⟩, .slice A t.args.length c, .string ⟨t.form.toArray⟩]) := rfl
  have HTV' : Hid (tv u A' c' = #[.int .i64 u.kind, .string ⟨u.name.toArray⟩, .string ⟨u.var.toArray⟩, .slice A' u.args.length c', .string ⟨u.form.toArray⟩]) := rfl
  clear hb0 hb1 hv hv' hm hbx' hs1
  go_enter Try.func10, Try.ntmps10
  go_wp2_with fail
  obtain ⟨w0, hw0⟩ : ∃ w0, w0 = (w.alloc (.cells (tv t A c) 24)).alloc (.cells (tv u A' c') 24) := ⟨_, rfl⟩
  rw [← hw0] at HB0 HBX hls ⊢
  clear hw0
  refine (awake11_any _ (HM.out _ HB0.out)).mono ?_
  rintro e w1 ⟨rfl, hb1⟩
  have HB1 := Lib.hid (HB0.out.trans (hb1.mono HB0.out.size))
  have HBX1 := Lib.hid (And.intro (HBX.out.1.below hb1 (by omega)) (HBX.out.2.below hb1 hls))
  have hls1 : w.heap.size + 1 < w1.heap.size := by have := hb1.size; omega
  have HF1 := Lib.hid (few_any t A c w1 (HV.out _ HB1.out))
  clear hb1 HB0 HBX hls
  unfold tv at HF1
  obtain ⟨⟨k0, k1, k2, k3, k4⟩, ⟨j0, j1, j2, j3, j4⟩⟩ := HBX1.out
  go_wp2_with fail
  refine HF1.out.mono ?_
  rintro e w2 ⟨rfl, hb2⟩
  have HB2 := Lib.hid (HB1.out.trans (hb2.mono HB1.out.size))
  have HBX2 := Lib.hid (And.intro (HBX1.out.1.below hb2 (by omega)) (HBX1.out.2.below hb2 hls1))
  have hls2 : w.heap.size + 1 < w2.heap.size := by have := hb2.size; omega
  have HF2 := Lib.hid (few_any u A' c' w2 (HV'.out _ HB2.out))
  clear hb2 HB1 HBX1 hls1 HF1 k0 k1 k2 k3 k4 j0 j1 j2 j3 j4
  unfold tv at HF2
  obtain ⟨⟨k0, k1, k2, k3, k4⟩, ⟨j0, j1, j2, j3, j4⟩⟩ := HBX2.out
  cases hfe : fewB t with
  | false =>
    clear hfe
    go_wp2_with fail
    go_ret
    exact ⟨rfl, HB2.out⟩
  | true =>
    have HFT := Lib.hid hfe
    clear hfe
    go_wp2_with fail
    refine HF2.out.mono ?_
    rintro e w3 ⟨rfl, hb3⟩
    have HB3 := Lib.hid (HB2.out.trans (hb3.mono HB2.out.size))
    have HBX3 := Lib.hid (And.intro (HBX2.out.1.below hb3 (by omega)) (HBX2.out.2.below hb3 hls2))
    have hls3 : w.heap.size + 1 < w3.heap.size := by have := hb3.size; omega
    clear hb3 HB2 HBX2 hls2 HF2 k0 k1 k2 k3 k4 j0 j1 j2 j3 j4
    cases hfe : fewB u with
    | false =>
      clear hfe
      go_wp2_with fail
      go_ret
      exact ⟨rfl, HB3.out⟩
    | true =>
      have HST := Lib.hid (few_SA' HFT.out)
      have HSU := Lib.hid (few_SA' hfe)
      have HZT : Hid (t.size ≤ 200 ∧ u.size ≤ 200) := ⟨few_size HFT.out, few_size hfe⟩
      clear hfe
      by_cases h100 : 100 < x.length
      · have h1z : (100 : Int) < (x.length : Int) := by omega
        go_wp2_with fail
        go_ret
        exact ⟨rfl, HB3.out⟩
      · have h1z : ¬ (100 : Int) < (x.length : Int) := by omega
        have HC33 := Lib.hid (subst33_any t u x A c A' c' w3 (HV.out _ HB3.out) (HV'.out _ HB3.out) HST.out HSU.out (by omega) (HM.out _ HB3.out))
        have hcs := sbT_cases t x u
        generalize hrt : (sbT t x u).1 = rt at *
        generalize hre : (sbT t x u).2 = re at *
        have HCS := Lib.hid hcs
        clear hrt hre hcs
        unfold tv at HC33
        obtain ⟨⟨k0, k1, k2, k3, k4⟩, ⟨j0, j1, j2, j3, j4⟩⟩ := HBX3.out
        go_upto_region 5 with (fail)
        go_wp2_with fail
        refine HC33.out.mono ?_
        rintro e w4 ⟨A4, c4, rfl, hv4, hb4⟩
        have HV4 := Lib.hid (hv4.tv (fun _ hk => hk.2))
        have HB34 := Lib.hid hb4
        clear hv4 hb4 HC33 k0 k1 k2 k3 k4 j0 j1 j2 j3 j4
        have HP5 := Lib.hid (post5_new HV4.out HB34.out)
        have HZ45 : Hid (w3.heap.size ≤ w4.heap.size) := HB34.out.size
        go_upto_region 6 with (fail)
        obtain ⟨bz, hbz⟩ : ∃ bz, bz = w4.heap.size := ⟨_, rfl⟩
        rw [← hbz] at HP5 HZ45 ⊢
        generalize w4.alloc (.cells #[.int .i64 rt.kind, .string ⟨rt.name.toArray⟩, .string ⟨rt.var.toArray⟩, .slice A4 rt.args.length c4, .string ⟨rt.form.toArray⟩] 24) = w5 at *
        clear hbz HV4 HB34
        rcases HCS.out with hre | ⟨rfl, hok, hvr, hrt⟩
        · have hb0 : (re != 0) = true := by simpa using hre
          have hb00 : (re == 0) = false := by simpa using hre
          have HB5 := Lib.hid (HB3.out.trans (HP5.out.2.2.1.mono HB3.out.size))
          clear HCS
          go_wp2_with fail
          go_ret
          exact ⟨rfl, HB5.out⟩
        · have HOK := Lib.hid (And.intro hok (And.intro hvr hrt))
          have HVV := Lib.hid (okSub_valid hok)
          obtain ⟨hbk, htv, hbl, hle⟩ := HP5.out
          have HBK := Lib.hid hbk
          have HTV5 := Lib.hid htv
          have HB35 := Lib.hid hbl
          have HB5 := Lib.hid (HB3.out.trans (hbl.mono HB3.out.size))
          have HLE := Lib.hid hle
          have HKX := Lib.hid fun w' (hb : Below w5.heap.size w5 w') => keep5 HBX3.out.1 (by omega) (HB35.out.trans (hb.mono HB35.out.size))
          have HKU := Lib.hid fun w' (hb : Below w5.heap.size w5 w') => keep5 HBX3.out.2 hls3 (HB35.out.trans (hb.mono HB35.out.size))
          have HVT := Lib.hid fun w' (hb : Below w5.heap.size w5 w') => HV.out w' (HB5.out.trans (hb.mono HB5.out.size))
          have HVU := Lib.hid fun w' (hb : Below w5.heap.size w5 w') => HV'.out w' (HB5.out.trans (hb.mono HB5.out.size))
          have HMM := Lib.hid fun w' (hb : Below w5.heap.size w5 w') => HM.out w' (HB5.out.trans (hb.mono HB5.out.size))
          have HFT5 : Hid (freeL t = frL t) := if_pos HVV.out.1
          have HC21 := Lib.hid fun w' (hb : Below w5.heap.size w5 w') => free21_any t A c w' (HVT.out w' hb) HST.out
          rw [HFT5.out] at HC21
          unfold tv at HC21
          clear HCS hok hvr hrt hbk htv hbl hle HP5 HV HV' HM HBX3 HB35
          obtain ⟨k0, k1, k2, k3, k4⟩ := HKX.out w5 (Below.refl _ _)
          go_wp2_with fail
          refine (HC21.out _ (Below.refl _ _)).mono ?_
          rintro e w6 ⟨v6, rfl, hs6, hb6⟩
          have HB6 := Lib.hid hb6
          have HH := Lib.hid (has35_any _ _ (frL t) x w6 hs6)
          have HHE : Hid (hasB (frL t) x = decide (x ∈ frL t)) := by show (frL t).contains x = _; rw [List.contains_eq_mem]
          rw [HHE.out] at HH
          clear hs6 hb6 k0 k1 k2 k3 k4 HHE
          go_wp2_with fail
          refine HH.out.mono ?_
          rintro e w7 ⟨rfl, rfl⟩
          by_cases hx : x ∈ frL t
          · have HLAW : Hid (frL rt = frL (listT u (withoutL (frL t) x))) := by show frL rt = _; rw [HOK.out.2.2]; exact free_law HOK.out.1 hx
            rw [decide_eq_true hx]
            clear hx HH
            obtain ⟨j0, j1, j2, j3, j4⟩ := HKU.out w6 HB6.out
            have HB8 : Hid (Below w6.heap.size w6 ((w6.alloc (.cells #[.int .i64 u.kind, .string ⟨u.name.toArray⟩, .string ⟨u.var.toArray⟩, .slice A' u.args.length c', .string ⟨u.form.toArray⟩] 24)).alloc (.cells #[.int .i64 4, .string ⟨#[108, 105, 115, 116]⟩, .string ⟨#[]⟩, .slice (some ⟨w6.heap.size, 0, none⟩) 1 1, .string ⟨#[]⟩] 24))) := ((Below.refl _ _).alloc (Nat.le_refl _) _).alloc (by simp) _
            have HS8 : Hid (((w6.alloc (.cells #[.int .i64 u.kind, .string ⟨u.name.toArray⟩, .string ⟨u.var.toArray⟩, .slice A' u.args.length c', .string ⟨u.form.toArray⟩] 24)).alloc (.cells #[.int .i64 4, .string ⟨#[108, 105, 115, 116]⟩, .string ⟨#[]⟩, .slice (some ⟨w6.heap.size, 0, none⟩) 1 1, .string ⟨#[]⟩] 24)).heap.size = w6.heap.size + 2) := by show _ = _; simp
            have hk8 := Bk.new (w6.alloc (.cells #[.int .i64 u.kind, .string ⟨u.name.toArray⟩, .string ⟨u.var.toArray⟩, .slice A' u.args.length c', .string ⟨u.form.toArray⟩] 24)) (.int .i64 4) (.string ⟨#[108, 105, 115, 116]⟩) (.string ⟨#[]⟩) (.slice (some ⟨w6.heap.size, 0, none⟩) 1 1) (.string ⟨#[]⟩)
            rw [World.size_alloc] at hk8
            have HK8 := Lib.hid hk8
            have HO8 : Hid (OT (fun k => k < w6.heap.size) ((w6.alloc (.cells #[.int .i64 u.kind, .string ⟨u.name.toArray⟩, .string ⟨u.var.toArray⟩, .slice A' u.args.length c', .string ⟨u.form.toArray⟩] 24)).alloc (.cells #[.int .i64 4, .string ⟨#[108, 105, 115, 116]⟩, .string ⟨#[]⟩, .slice (some ⟨w6.heap.size, 0, none⟩) 1 1, .string ⟨#[]⟩] 24)) w6.heap.size (.slice (some ⟨w6.heap.size, 0, none⟩) 1 1) [TX.mk u A' c']) := by
              refine ⟨World.ownsRow.alloc (World.ownsRow_lit (base := w6.heap.size) (e := 24) (size := 5) w6 #[.int .i64 u.kind, .string ⟨u.name.toArray⟩, .string ⟨u.var.toArray⟩, .slice A' u.args.length c', .string ⟨u.form.toArray⟩] 1 (Nat.le_refl _) (by unfold maxLen; omega) rfl) _, fun y hy => ?_⟩
              rw [List.mem_singleton] at hy
              subst hy
              exact ((HVU.out w6 HB6.out).set).keep (fun k hk => ⟨⟨hk, by have := HB8.out.size; have h' : k < w6.heap.size := hk; omega, fun e => by have h' : k < w6.heap.size := hk; simp [Value.ownBlock] at e; omega⟩, HB8.out.block k hk⟩)
            clear hk8
            go_upto_region 11 with (fail)
            generalize (w6.alloc (.cells #[.int .i64 u.kind, .string ⟨u.name.toArray⟩, .string ⟨u.var.toArray⟩, .slice A' u.args.length c', .string ⟨u.form.toArray⟩] 24)).alloc (.cells #[.int .i64 4, .string ⟨#[108, 105, 115, 116]⟩, .string ⟨#[]⟩, .slice (some ⟨w6.heap.size, 0, none⟩) 1 1, .string ⟨#[]⟩] 24) = w8 at *
            have HB58 := Lib.hid (HB6.out.trans (HB8.out.mono HB6.out.size))
            obtain ⟨k0, k1, k2, k3, k4⟩ := HKX.out w8 HB58.out
            clear j0 j1 j2 j3 j4
            go_wp2_with fail
            refine (HC21.out _ HB58.out).mono ?_
            rintro e w9 ⟨v9, rfl, hs9, hb9⟩
            have HB9 := Lib.hid (HB58.out.trans (hb9.mono HB58.out.size))
            have HO9 := Lib.hid (HO8.out.bel hb9)
            have HK9 := Lib.hid (HK8.out.reach hb9)
            have HS9 : Hid (w6.heap.size + 2 ≤ w9.heap.size) := by have := hb9.size; have := HS8.out; show _ ≤ _; omega
            have HSL9 := Lib.hid hs9
            obtain ⟨A9, c9, rfl, ⟨hc91, hc92⟩, _⟩ := id hs9
            have HFI : Hid (∀ y ∈ frL t, identB y = true) := (frL_ok t ((valid_iff t).1 HVV.out.1).1).2
            have HFL : Hid ((frL t).length ≤ 200) := by have := frL_len t; have := HZT.out.1; show _ ≤ _; omega
            have hfl : (frL t).length ≤ 9223372036854775807 := by have := HFL.out; omega
            clear hs9 hb9 HO8 HK8 HB8 k0 k1 k2 k3 k4 HC21
            generalize frL t = fr at *
            go_wp2_with fail
            go_loopg [11] fr.length (fun gg s11 wr => ∃ (i : Nat) (v : Value) (l : List TX), i ≤ fr.length ∧ fr.length - i ≤ gg ∧ s11 = .int .i64 i ∧ Aside (l.map TX.t = u :: varsT (withoutL (fr.take i) x)) ∧ Aside (l.length ≤ i + 1) ∧ Aside (OT (fun k => k < w6.heap.size) wr w6.heap.size v l) ∧ Aside (Fst w6.heap.size w9.heap.size l.length v) ∧ Aside (Bk wr (w6.heap.size + 1) (.int .i64 4) (.string ⟨#[108, 105, 115, 116]⟩) (.string ⟨#[]⟩) v (.string ⟨#[]⟩)) ∧ Aside (SL wr w9.heap.size (.slice A9 fr.length c9) fr) ∧ Aside (Below w5.heap.size w5 wr) ∧ Aside (w9.heap.size ≤ wr.heap.size))
            case atStart => exact ⟨0, _, [TX.mk u A' c'], Nat.zero_le _, by omega, rfl, rfl, Nat.le_refl _, HO9.out, .inl rfl, HK9.out, HSL9.out, HB9.out, Nat.le_refl _⟩
            case round =>
              obtain ⟨i, v, l, hi, hgg, rfl, HM, HL, HO, HF, HK, HSL, HB, HS⟩ := hrel
              by_cases hlt : i < fr.length
              · have hltz : (i : Int) < (fr.length : Int) := by omega
                obtain ⟨Ax, cx, hax, _, hcell⟩ := HSL.out
                obtain ⟨b, o, hab, hb, hxx⟩ := hcell (by intro e; rw [e] at hlt; simp at hlt)
                have ha9 : A9 = some ⟨b, o, none⟩ := by injection hax with h1 _ _; rw [h1]; exact hab
                subst ha9
                have hck := hxx i hlt
                have HWS := Lib.hid (without_snoc fr x i hlt)
                clear hax hcell hab hxx
                generalize fr[i] = y at *
                by_cases hyx : y = x
                · have hb1 : (y != x) = false := by simp [hyx]
                  have hb2 : (y == x) = true := by simpa using hyx
                  have HM2 : Hid (l.map TX.t = u :: varsT (withoutL (fr.take (i + 1)) x)) := by show _ = _; rw [HM.out, HWS.out, if_pos hyx, List.append_nil]
                  clear hyx
                  go_wp2_with fail
                  go_roundg (fr.length - (i + 1))
                  case measure => omega
                  case rel => exact ⟨i + 1, v, l, by omega, by omega, by go_num, HM2.out, (by show l.length ≤ _; have := HL.out; omega), HO.out, HF.out, HK.out, HSL.out, HB.out, HS.out⟩
                · have hb1 : (y != x) = true := by simpa using hyx
                  have hb2 : (y == x) = false := by simpa using hyx
                  have HM2 : Hid ((l ++ [TX.mk (vrT y) none 0]).map TX.t = u :: varsT (withoutL (fr.take (i + 1)) x)) := by
                    show (l ++ [TX.mk (vrT y) none 0]).map TX.t = _
                    rw [List.map_append, HM.out, HWS.out, if_neg hyx]
                    unfold varsT
                    rw [List.map_append]; rfl
                  clear hyx HWS
                  have HLL : Hid (l.length ≤ 300) := by have := HL.out; have := HFL.out; show _ ≤ _; omega
                  have hcb := HK.out.cells.1.2.2.2.1
                  have HKP := Lib.hid fun w' (hbw : Below w9.heap.size wr w') => And.intro ((hbw.cell (p := ⟨w6.heap.size + 1, 3, none⟩) (show w6.heap.size + 1 < w9.heap.size by have := HS9.out; omega)).trans hcb) ((hbw.cell (p := ⟨b, o + i, none⟩) hb).trans hck)
                  clear hcb
                  go_upto_region 16 with (fail)
                  refine wp_region_noPanic ?_
                  refine wp_region_L 10 (fun w' => w'.cell? ⟨w6.heap.size + 1, 3, none⟩ = some v ∧ w'.cell? ⟨b, o + i, none⟩ = some (.string ⟨y.toArray⟩)) (by kernel_rfl) ?_
                  have hS0 := HKP.out _ (below_dr (Below.refl _ _))
                  simp only [List.size_toArray, List.length_cons, List.length_nil, Nat.zero_add, Nat.reduceAdd]
                  refine wpAnyL_take (i := 0) (v := ?vf0) rfl (by kernel_rfl) (by kernel_rfl) (by kernel_rfl) (by kernel_rfl) (fun _ _ _ h => h) (Or.inl ⟨by rfl, ?hf0⟩) hS0 ?rf0
                  case hf0 => (intro w' hSw; (try dsimp only at hSw); go_simp; all_goals with_reducible rfl)
                  try dsimp only [Act.put]
                  refine wpAnyL_take (i := 1) (v := ?vf1) rfl (by kernel_rfl) (by kernel_rfl) (by kernel_rfl) (by kernel_rfl) (fun _ _ _ h => h) (Or.inl ⟨by rfl, ?hf1⟩) hS0 ?rf1
                  case hf1 => (intro w' hSw; (try dsimp only at hSw); go_simp; all_goals with_reducible rfl)
                  try dsimp only [Act.put]
                  refine wpAnyL_take (i := 2) (v := ?vf2) rfl (by kernel_rfl) (by kernel_rfl) (by kernel_rfl) (by kernel_rfl) (fun _ _ _ h => h) (Or.inl ⟨by rfl, ?hf2⟩) hS0 ?rf2
                  case hf2 => (intro w' hSw; (try dsimp only at hSw); go_simp; all_goals with_reducible rfl)
                  try dsimp only [Act.put]
                  refine wpAnyL_take (i := 3) (v := ?vf3) rfl (by kernel_rfl) (by kernel_rfl) (by kernel_rfl) (by kernel_rfl) (fun _ _ _ h => h) (Or.inl ⟨by rfl, ?hf3⟩) hS0 ?rf3
                  case hf3 => (intro w' hSw; (try dsimp only at hSw); go_simp; all_goals with_reducible rfl)
                  try dsimp only [Act.put]
                  refine wpAnyL_take (i := 4) (v := ?vf4) rfl (by kernel_rfl) (by kernel_rfl) (by kernel_rfl) (by kernel_rfl) (fun _ _ _ h => h) (Or.inl ⟨by rfl, ?hf4⟩) hS0 ?rf4
                  case hf4 => (intro w' hSw; (try dsimp only at hSw); go_simp; all_goals with_reducible rfl)
                  try dsimp only [Act.put]
                  refine wpAnyL_take (i := 5) (v := ?vf5) rfl (by kernel_rfl) (by kernel_rfl) (by kernel_rfl) (by kernel_rfl) (fun _ _ _ h => h) (Or.inl ⟨by rfl, ?hf5⟩) hS0 ?rf5
                  case hf5 => (intro w' hSw; (try dsimp only at hSw); go_simp; all_goals with_reducible rfl)
                  try dsimp only [Act.put]
                  refine wpAnyL_take (i := 6) (v := ?vf6) rfl (by kernel_rfl) (by kernel_rfl) (by kernel_rfl) (by kernel_rfl) (fun _ _ _ h => h) (Or.inl ⟨by rfl, ?hf6⟩) hS0 ?rf6
                  case hf6 => (intro w' hSw; (try dsimp only at hSw); go_simp; all_goals with_reducible rfl)
                  try dsimp only [Act.put]
                  refine wpAnyL_step (i := 7) (by kernel_rfl) rfl ?_
                  intro K hK
                  go_simp
                  have HBX : Hid (Below wr.heap.size wr (wr.drew.alloc (.cells #[.int .i64 2, .string ⟨y.toArray⟩, .string ⟨#[]⟩, .slice none 0 0, .string ⟨#[]⟩] 24))) := (below_dr (Below.refl _ _)).alloc (Nat.le_refl _) _
                  refine hK.out _ _ (HKP.out _ (HBX.out.mono HS.out)) (fun _ => ?_)
                  clear hK K
                  refine wpAnyL_step (i := 8) (by kernel_rfl) rfl ?_
                  intro K hK
                  refine stepV (wr.drew.alloc (.cells #[.int .i64 2, .string ⟨y.toArray⟩, .string ⟨#[]⟩, .slice none 0 0, .string ⟨#[]⟩] 24)) rfl _ _ rfl w6.heap.size w9.heap.size wr.heap.size v l (TX.mk (vrT y) none 0) (HO.out.bel HBX.out).1 HF.out (Nat.le_trans HS.out HBX.out.size) (by have := HS.out; have := HS9.out; have := HBX.out.size; omega) rfl rfl (tx_new wr.drew (TX.mk (vrT y) none 0)) (by have := HLL.out; omega) ?_
                  intro g7 cap7 w7 hown7 hgD hgl hkeep hgrow hat
                  have HB97 : Hid (Below w9.heap.size wr w7) := ⟨hgrow.os.trans HBX.out.os, hgrow.tape.trans HBX.out.tape, hgrow.output.trans HBX.out.output, Nat.le_trans HBX.out.size hgrow.size, fun k hk => (hkeep k hk).trans (HBX.out.block k (Nat.lt_of_lt_of_le hk HS.out))⟩
                  have HO7 := Lib.hid ((HO.out.bel HBX.out).snoc (x := TX.mk (vrT y) none 0) ⟨⟨Nat.le_refl _, (show (0 : Nat) ≤ 9223372036854775807 by omega)⟩, fun h => absurd rfl h⟩ hown7 hgrow hat)
                  have HGD := Lib.hid (And.intro hgD hgl)
                  refine hK.out _ _ (HKP.out _ HB97.out) (fun _ => ?_)
                  have HK7 := Lib.hid (HK.out.below HB97.out (by have := HS9.out; omega))
                  clear hK K hown7 hgD hgl hkeep hgrow hat
                  refine wpAnyL_step (i := 9) (by kernel_rfl) rfl ?_
                  intro K hK
                  go_simp
                  refine hK.out _ _ (HKP.out _ HB97.out) (fun _ => ?_)
                  clear hK K
                  have m37 := HK7.out.cells.1.2.2.2.1
                  have mf7 := HK7.out.cells.2.1 3
                  refine wpAnyL_last (by kernel_rfl) rfl (by kernel_rfl) ?_
                  intro K hK
                  go_simp
                  refine hK.out _ _ ?_
                  refine NoPanic.normal ?_
                  clear hK K mf7
                  have HN7 : Hid ((Value.slice (some ⟨g7, 0, none⟩) (l.length + 1) cap7).ownBlock = some g7) := rfl
                  have HL8 : Hid ((l ++ [TX.mk (vrT y) none 0]).length = l.length + 1) := by show _ = _; simp
                  have HO8 : Hid (OT (fun k => k < w6.heap.size) (w7.setCell ⟨w6.heap.size + 1, 3, none⟩ (.slice (some ⟨g7, 0, none⟩) (l.length + 1) cap7)) w6.heap.size (.slice (some ⟨g7, 0, none⟩) (l.length + 1) cap7) (l ++ [TX.mk (vrT y) none 0])) := HO7.out.setne (fun e => by rw [HN7.out] at e; injection e with e; have := HGD.out.1; have := HS9.out; omega) (by omega)
                  have HK8 := Lib.hid (HK7.out.set3 (.slice (some ⟨g7, 0, none⟩) (l.length + 1) cap7))
                  have HSL8 : Hid (SL (w7.setCell ⟨w6.heap.size + 1, 3, none⟩ (.slice (some ⟨g7, 0, none⟩) (l.length + 1) cap7)) w9.heap.size (.slice (some ⟨b, o, none⟩) fr.length c9) fr) := by
                    refine SL.cells (HSL.out.below HB97.out) (fun b' o' s' hb' hc' => ?_)
                    rw [World.cell?_setCell_other _ _ _ _ (fun e => by
                      rw [← e, m37] at hc'
                      have hv := Option.some.inj hc'
                      rcases HF.out with h1 | ⟨g, h1, _⟩
                      · rw [hv] at h1; cases h1
                      · rw [hv] at h1; cases h1), hc']
                  have HB8 : Hid (Below w5.heap.size w5 (w7.setCell ⟨w6.heap.size + 1, 3, none⟩ (.slice (some ⟨g7, 0, none⟩) (l.length + 1) cap7))) := (HB.out.trans (HB97.out.mono (by have := HB58.out.size; have := HB9.out.size; omega))).setCell (p := ⟨w6.heap.size + 1, 3, none⟩) (by have := HB6.out.size; show _ ≤ w6.heap.size + 1; omega) _
                  have HS8 : Hid (w9.heap.size ≤ (w7.setCell ⟨w6.heap.size + 1, 3, none⟩ (.slice (some ⟨g7, 0, none⟩) (l.length + 1) cap7)).heap.size) := by show _ ≤ _; rw [World.size_setCell]; have := HB97.out.size; have := HS.out; omega
                  have HF8 : Hid (Fst w6.heap.size w9.heap.size (l ++ [TX.mk (vrT y) none 0]).length (.slice (some ⟨g7, 0, none⟩) (l.length + 1) cap7)) := .inr ⟨g7, rfl, HGD.out.1⟩
                  clear m37 HK7 HO7 HKP HBX
                  go_wp2_with fail
                  go_roundg (fr.length - (i + 1))
                  case measure => omega
                  case rel => exact ⟨i + 1, .slice (some ⟨g7, 0, none⟩) (l.length + 1) cap7, l ++ [TX.mk (vrT y) none 0], by omega, by omega, by go_num, HM2.out, (by show (l ++ [TX.mk (vrT y) none 0]).length ≤ _; rw [HL8.out]; have := HL.out; omega), HO8.out, HF8.out, HK8.out, HSL8.out, HB8.out, HS8.out⟩
              · have hltz : ¬ (i : Int) < (fr.length : Int) := by omega
                have hlz : fr.take i = fr := List.take_of_length_le (by omega)
                obtain ⟨A8, c8, rfl, hc8, hta8⟩ := (HO.out.weak (Z' := fun _ => True) (fun _ _ => trivial)).trs (fun _ _ => trivial)
                have hmt : l.map TX.t = u :: varsT (withoutL fr x) := by rw [HM.out, hlz]
                have hle : l.length = (u :: varsT (withoutL fr x)).length := by rw [← hmt, List.length_map]
                rw [hmt] at hta8
                rw [hle] at hc8 HK
                have HWL : Hid (∀ y ∈ withoutL fr x, identB y = true) := fun y hy => HFI.out y (mem_withoutL.1 hy).1
                have HWN : Hid ((withoutL fr x).length ≤ 200) := by have := without_le fr x; have := HFL.out; show _ ≤ _; omega
                have HTL : Hid (TV wr wr.heap.size (listT u (withoutL fr x)) A8 c8) := (TVS.mk (S := fun k => True ∧ k < wr.heap.size) (t := listT u (withoutL fr x)) hc8 hta8).tv (fun k hk => hk.2)
                have HWF : Hid (WF (listT u (withoutL fr x))) := listT_wf ((valid_iff u).1 HVV.out.2.1).1 HWL.out
                have HVL : Hid (validB (listT u (withoutL fr x)) = true) := (valid_iff _).2 ⟨HWF.out, by rw [listT_size]; have := HWN.out; have := HZT.out.2; omega⟩
                have HFL2 : Hid (freeL (listT u (withoutL fr x)) = frL (listT u (withoutL fr x))) := if_pos HVL.out
                have HFR : Hid (freeL rt = frL (listT u (withoutL fr x))) := (if_pos (by rw [HOK.out.2.2]; exact HOK.out.2.1)).trans HLAW.out
                have HSR : Hid (SA rt) := by rw [HOK.out.2.2]; exact WF.sa _ (subT_wf x HVV.out.1 HVV.out.2.1)
                have HBKr := Lib.hid (HBK.out.reach HB.out)
                have HTVr := Lib.hid fun w' (hb : Below wr.heap.size wr w') => HTV5.out.reach (HB.out.trans (hb.mono HB.out.size))
                have HTLr := Lib.hid fun w' (hb : Below wr.heap.size wr w') => HTL.out.reach hb
                have HC20 := Lib.hid fun w' (hb : Below wr.heap.size wr w') => free20_any rt A4 c4 w' (HTVr.out w' hb) HSR.out (HMM.out _ (HB.out.trans (hb.mono HB.out.size)))
                have HC21 := Lib.hid fun w' (hb : Below wr.heap.size wr w') => free21_any (listT u (withoutL fr x)) A8 c8 w' (HTLr.out w' hb) (WF.sa _ HWF.out)
                rw [HFR.out] at HC20
                rw [HFL2.out] at HC21
                have HE2 : Hid (tv (listT u (withoutL fr x)) A8 c8 = #[.int .i64 4, .string ⟨#[108, 105, 115, 116]⟩, .string ⟨#[]⟩, .slice A8 (u :: varsT (withoutL fr x)).length c8, .string ⟨#[]⟩]) := rfl
                rw [HE2.out] at HC21
                unfold tv at HC20
                have HSF := Lib.hid (same_self (frL (listT u (withoutL fr x))))
                generalize frL (listT u (withoutL fr x)) = lf at *
                generalize (u :: varsT (withoutL fr x)).length = n5 at *
                have HKP := Lib.hid fun w' (hb : Below wr.heap.size wr w') => And.intro (HBKr.out.reach hb).cells.1 (HK.out.reach hb).cells.1
                clear HM HO HF HSL hmt hle hc8 hta8 HTL HVL HFR HE2 hlz HLAW
                go_wp2_with fail
                refine wp_region_noPanic ?_
                go_region_held_law (fun w' => (w'.cell? ⟨bz, 0, none⟩ = some (.int .i64 rt.kind) ∧ w'.cell? ⟨bz, 1, none⟩ = some (.string ⟨rt.name.toArray⟩) ∧ w'.cell? ⟨bz, 2, none⟩ = some (.string ⟨rt.var.toArray⟩) ∧ w'.cell? ⟨bz, 3, none⟩ = some (.slice A4 rt.args.length c4) ∧ w'.cell? ⟨bz, 4, none⟩ = some (.string ⟨rt.form.toArray⟩)) ∧ w'.cell? ⟨w6.heap.size + 1, 0, none⟩ = some (.int .i64 4) ∧ w'.cell? ⟨w6.heap.size + 1, 1, none⟩ = some (.string ⟨#[108, 105, 115, 116]⟩) ∧ w'.cell? ⟨w6.heap.size + 1, 2, none⟩ = some (.string ⟨#[]⟩) ∧ w'.cell? ⟨w6.heap.size + 1, 3, none⟩ = some (.slice A8 n5 c8) ∧ w'.cell? ⟨w6.heap.size + 1, 4, none⟩ = some (.string ⟨#[]⟩))
                  (first
                    | exact HKP.out _ (below_dr (Below.refl _ _))
                    | exact HKP.out _ HBs1.out
                    | exact HKP.out _ HBf2.out
                    | exact HKP.out _ HBf1.out)
                  (first
                    | (go_at_call 20; first
                        | ((with_reducible refine (HC20.out _ (below_dr (Below.refl wr.heap.size wr))).mono ?_); rintro e wa ⟨va, rfl, hra, hba⟩; have HSa := Lib.hid hra.sl; have HBa := Lib.hid hba; have HBf1 := Lib.hid (((below_dr (Below.refl wr.heap.size wr))).trans (hba.mono ((below_dr (Below.refl wr.heap.size wr))).size)); clear hra hba)
                        | ((with_reducible refine (HC20.out _ HBf1.out).mono ?_); rintro e wa ⟨va, rfl, hra, hba⟩; have HSa := Lib.hid hra.sl; have HBa := Lib.hid hba; have HBf2 := Lib.hid (HBf1.out.trans (hba.mono HBf1.out.size)); clear hra hba))
                    | (go_at_call 21; first
                        | ((with_reducible refine (HC21.out _ (below_dr (Below.refl wr.heap.size wr))).mono ?_); rintro e wb ⟨vb, rfl, hrb, hbb⟩; have HSb := Lib.hid hrb; have HBb := Lib.hid hbb; have HBf1 := Lib.hid (((below_dr (Below.refl wr.heap.size wr))).trans (hbb.mono ((below_dr (Below.refl wr.heap.size wr))).size)); clear hrb hbb)
                        | ((with_reducible refine (HC21.out _ HBf1.out).mono ?_); rintro e wb ⟨vb, rfl, hrb, hbb⟩; have HSb := Lib.hid hrb; have HBb := Lib.hid hbb; have HBf2 := Lib.hid (HBf1.out.trans (hbb.mono HBf1.out.size)); clear hrb hbb))
                    | (go_at_call 19; (with_reducible refine (same19_any va vb lf lf _ (by first | exact HSa.out | exact SL.reach HSa.out HBb.out) (by first | exact HSb.out | exact SL.reach HSb.out HBa.out)).mono ?_); rw [HSF.out]; rintro e wx ⟨rfl, nx, rfl⟩; have HBs1 := Lib.hid (HBf2.out.trans ((below_dn _ nx).mono HBf2.out.size))))
                all_goals
                  refine NoPanic.normal ?_
                  go_wp2_with fail
                  go_ret
                  exact ⟨rfl, HB5.out.trans ((HB.out.trans (HBs1.out.mono (by have := HB.out.size; omega))).mono HB5.out.size)⟩
          · have HSAME : Hid (rt = t) := HOK.out.2.2.trans (subT_same HOK.out.1 hx)
            rw [decide_eq_false hx]
            clear hx HH
            obtain ⟨k0, k1, k2, k3, k4⟩ := HKX.out w6 HB6.out
            have HBK6 := Lib.hid (HBK.out.reach HB6.out)
            obtain ⟨⟨f0, f1, f2, f3, f4⟩, ff, fl⟩ := HBK6.out.cells
            have HE := Lib.hid (eq18_any t rt A c A4 c4 w6 (HVT.out _ HB6.out) (HTV5.out.reach HB6.out))
            have HEQ : Hid (eqT t rt = true) := (eqT_iff t rt).2 HSAME.out.symm
            rw [HEQ.out] at HE
            unfold tv at HE
            go_wp2_with fail
            refine HE.out.mono ?_
            rintro e w8 ⟨rfl, hb8⟩
            go_wp2_with fail
            go_ret
            exact ⟨rfl, HB5.out.trans ((HB6.out.trans (hb8.mono HB6.out.size)).mono HB5.out.size)⟩
end Go.Proofs.Ytkjhfbgdmmnadaa
