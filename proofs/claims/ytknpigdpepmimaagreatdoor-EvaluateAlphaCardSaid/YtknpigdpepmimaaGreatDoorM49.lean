/- A copied list of terms, one of which is overwritten; contract of the reference's Rename 32. An argument of type '[2]Site' opened to two paths and two numbers. The walk of TermRenamed. -/
import Derived.Lib.QuietBelow
import Derived.BigQuiet
import Derived.Deep.RegionHeldLaw
import Derived.Laws.OwnMore
import Derived.Tactics
import Derived.Test.YtknpigdpepmimaaGreatDoorM03
import Derived.Test.YtknpigdpepmimaaGreatDoorM04
import Derived.Test.YtknpigdpepmimaaGreatDoorM05
import Derived.Test.YtknpigdpepmimaaGreatDoorM16
import Derived.Test.YtknpigdpepmimaaGreatDoorM19
import Derived.Test.YtknpigdpepmimaaGreatDoorM20
import Derived.Test.YtknpigdpepmimaaGreatDoorM44
import Derived.Test.YtknpigdpepmimaaGreatDoorM45
import Derived.Test.YtknpigdpepmimaaGreatDoorM47
import Derived.Test.YtknpigdpepmimaaGreatDoorM48
namespace Go.Proofs.YtknpigdpepmimaaGreatDoor
open Go.RowKit
/-- the list l lies in block g from its start on; its terms' blocks are of S -/
def LR (w : World) (S : Nat → Prop) (g : Nat) (l : List TX) : Prop :=
  ∀ i (x : TX), l[i]? = some x → (∀ j v, x.cells[j]? = some v → w.cell? ⟨g, i * 5 + j, none⟩ = some v) ∧ TVS w S x.t x.A x.c
theorem txc_get : ∀ (l : List TX) (i : Nat) (x : TX), l[i]? = some x → ∀ j v, x.cells[j]? = some v → (txc l)[i * 5 + j]? = some v
  | [], i, x, h, _, _, _ => by simp at h
  | y :: l, 0, x, h, j, v, hv => by
    have e : y = x := Option.some.inj h
    show (y.cells ++ txc l)[0 * 5 + j]? = some v
    rw [e, Nat.zero_mul, Nat.zero_add, List.getElem?_append_left (List.getElem?_eq_some_iff.1 hv).1]; exact hv
  | y :: l, i + 1, x, h, j, v, hv => by
    have ih := txc_get l i x h j v hv
    show (y.cells ++ txc l)[(i + 1) * 5 + j]? = some v
    rw [List.getElem?_append_right (by rw [tx_len]; omega), tx_len, show (i + 1) * 5 + j - 5 = i * 5 + j from by omega]; exact ih
theorem lr_src {w : World} {S : Nat → Prop} {b : Nat} : ∀ (ys : List T) (o : Nat), TRSs w S b o ys →
    ∃ l : List TX, l.map TX.t = ys ∧ (∀ j u, (txc l)[j]? = some u → w.cell? ⟨b, o + j, none⟩ = some u) ∧ ∀ x ∈ l, TVS w S x.t x.A x.c
  | [], o, _ => ⟨[], rfl, fun j u h => by simp [txc] at h, by simp⟩
  | t :: ts, o, h => by
    rw [TRSs] at h
    obtain ⟨l, h1, h2, h3⟩ := lr_src ts (o + 5) h.2
    obtain ⟨_, c0, c1, c2, c4, A, c, c3, hv⟩ := h.1.parts
    refine ⟨⟨t, A, c⟩ :: l, by rw [List.map_cons, h1], fun j u hu => ?_, fun x hx => ?_⟩
    · have hu' : ((TX.mk t A c).cells ++ txc l)[j]? = some u := hu
      by_cases hj : j < 5
      · rw [List.getElem?_append_left (by rw [tx_len]; exact hj)] at hu'
        rcases j with _ | _ | _ | _ | _ | j
        · exact c0.trans hu'
        · exact c1.trans hu'
        · exact c2.trans hu'
        · exact c3.trans hu'
        · exact c4.trans hu'
        · omega
      · rw [List.getElem?_append_right (by rw [tx_len]; omega), tx_len] at hu'
        have := h2 (j - 5) u hu'
        rwa [show o + 5 + (j - 5) = o + j from by omega] at this
    · rcases List.mem_cons.1 hx with rfl | hx
      · exact hv
      · exact h3 x hx
theorem lr_trss {w : World} {S S' : Nat → Prop} {g : Nat} (hS : ∀ k, S k → S' k) (hg : S' g) : ∀ (l : List TX) (n : Nat),
    (∀ i (x : TX), l[i]? = some x → (∀ j v, x.cells[j]? = some v → w.cell? ⟨g, (n + i) * 5 + j, none⟩ = some v) ∧ TVS w S x.t x.A x.c) → TRSs w S' g (n * 5) (l.map TX.t)
  | [], _, _ => by rw [List.map_nil, TRSs]; trivial
  | x :: l, n, h => by
    rw [List.map_cons, TRSs]
    have h0 := h 0 x rfl
    refine ⟨TRS.of_parts (A := x.A) (c := x.c) hg (h0.1 0 _ rfl) (h0.1 1 _ rfl) (h0.1 2 _ rfl) (h0.1 3 _ rfl) (h0.1 4 _ rfl) (h0.2.wider hS), ?_⟩
    have := lr_trss hS hg l (n + 1) (fun i y hy => by
      have := h (i + 1) y hy
      rwa [show n + (i + 1) = n + 1 + i from by omega] at this)
    rwa [show (n + 1) * 5 = n * 5 + 5 from by omega] at this
theorem LR.tas {w : World} {S S' : Nat → Prop} {g : Nat} {l : List TX} (h : LR w S g l) (hS : ∀ k, S k → S' k) (hg : S' g) : TAS w S' (some ⟨g, 0, none⟩) (l.map TX.t) :=
  fun _ => ⟨g, 0, rfl, by
    have := lr_trss hS hg l 0 (fun i x hx => by rw [Nat.zero_add]; exact h i x hx)
    rwa [Nat.zero_mul] at this⟩
theorem LR.reach {w w' : World} {S : Nat → Prop} {B g : Nat} {l : List TX} (h : LR w S g l) (hb : Below B w w') (hg : g < B) (hS : ∀ k, S k → k < B) : LR w' S g l := fun i x hx =>
  ⟨fun j v hv => (hb.cell (p := ⟨g, _, none⟩) hg).trans ((h i x hx).1 j v hv), (h i x hx).2.keep (fun k hk => ⟨hk, hb.block k (hS k hk)⟩)⟩
theorem LR.other {w : World} {S : Nat → Prop} {g b o : Nat} {l : List TX} (h : LR w S g l) (u : Value) (hne : b ≠ g) (hS : ¬ S b) : LR (w.setCell ⟨b, o, none⟩ u) S g l := fun i x hx =>
  ⟨fun j v hv => (World.cell?_setCell_other _ _ _ _ (fun e => hne (congrArg Addr.block e))).trans ((h i x hx).1 j v hv), (h i x hx).2.set b o u hS⟩
theorem LR.wider {w : World} {S S' : Nat → Prop} {g : Nat} {l : List TX} (h : LR w S g l) (hS : ∀ k, S k → S' k) : LR w S' g l := fun i x hx => ⟨(h i x hx).1, (h i x hx).2.wider hS⟩
/-- five cells stored at place i -/
def set5g (w : World) (g o : Nat) (a0 a1 a2 a3 a4 : Value) : World := ((((w.setCell ⟨g, o, none⟩ a0).setCell ⟨g, o + 1, none⟩ a1).setCell ⟨g, o + 2, none⟩ a2).setCell ⟨g, o + 3, none⟩ a3).setCell ⟨g, o + 4, none⟩ a4
theorem set5g_far (w : World) (g o : Nat) (a0 a1 a2 a3 a4 : Value) (q : Addr) (h : ∀ k, k < 5 → q ≠ ⟨g, o + k, none⟩) : (set5g w g o a0 a1 a2 a3 a4).cell? q = w.cell? q := by
  unfold set5g
  rw [World.cell?_setCell_other _ _ _ _ (h 4 (by omega)).symm, World.cell?_setCell_other _ _ _ _ (h 3 (by omega)).symm, World.cell?_setCell_other _ _ _ _ (h 2 (by omega)).symm, World.cell?_setCell_other _ _ _ _ (h 1 (by omega)).symm, World.cell?_setCell_other _ _ _ _ (show (⟨g, o, none⟩ : Addr) ≠ q from (h 0 (by omega)).symm)]
theorem set5g_heap (w : World) (g o : Nat) (a0 a1 a2 a3 a4 : Value) (k : Nat) (h : k ≠ g) : (set5g w g o a0 a1 a2 a3 a4).heap[k]? = w.heap[k]? := by
  unfold set5g
  rw [Below.heap_setCell _ _ _ _ h, Below.heap_setCell _ _ _ _ h, Below.heap_setCell _ _ _ _ h, Below.heap_setCell _ _ _ _ h, Below.heap_setCell _ _ _ _ h]
theorem ad_ne {g o o' : Nat} (h : o ≠ o') : (⟨g, o, none⟩ : Addr) ≠ ⟨g, o', none⟩ := fun e => h (congrArg Addr.off e)
theorem set5g_at {w : World} {g o : Nat} {u0 u1 u2 u3 u4 : Value} (a0 a1 a2 a3 a4 : Value) (h0 : w.cell? ⟨g, o, none⟩ = some u0) (h1 : w.cell? ⟨g, o + 1, none⟩ = some u1) (h2 : w.cell? ⟨g, o + 2, none⟩ = some u2) (h3 : w.cell? ⟨g, o + 3, none⟩ = some u3) (h4 : w.cell? ⟨g, o + 4, none⟩ = some u4) :
    (set5g w g o a0 a1 a2 a3 a4).cell? ⟨g, o, none⟩ = some a0 ∧ (set5g w g o a0 a1 a2 a3 a4).cell? ⟨g, o + 1, none⟩ = some a1 ∧ (set5g w g o a0 a1 a2 a3 a4).cell? ⟨g, o + 2, none⟩ = some a2 ∧ (set5g w g o a0 a1 a2 a3 a4).cell? ⟨g, o + 3, none⟩ = some a3 ∧ (set5g w g o a0 a1 a2 a3 a4).cell? ⟨g, o + 4, none⟩ = some a4 := by
  unfold set5g
  refine ⟨?_, ?_, ?_, ?_, ?_⟩
  · rw [World.cell?_setCell_other _ _ _ _ (ad_ne (by omega)), World.cell?_setCell_other _ _ _ _ (ad_ne (by omega)), World.cell?_setCell_other _ _ _ _ (ad_ne (by omega)), World.cell?_setCell_other _ _ _ _ (ad_ne (by omega))]
    exact World.cell?_setCell_same _ _ _ h0
  · rw [World.cell?_setCell_other _ _ _ _ (ad_ne (by omega)), World.cell?_setCell_other _ _ _ _ (ad_ne (by omega)), World.cell?_setCell_other _ _ _ _ (ad_ne (by omega))]
    refine World.cell?_setCell_same _ _ _ (u := u1) ?_
    rw [World.cell?_setCell_other _ _ _ _ (ad_ne (by omega))]; exact h1
  · rw [World.cell?_setCell_other _ _ _ _ (ad_ne (by omega)), World.cell?_setCell_other _ _ _ _ (ad_ne (by omega))]
    refine World.cell?_setCell_same _ _ _ (u := u2) ?_
    rw [World.cell?_setCell_other _ _ _ _ (ad_ne (by omega)), World.cell?_setCell_other _ _ _ _ (ad_ne (by omega))]; exact h2
  · rw [World.cell?_setCell_other _ _ _ _ (ad_ne (by omega))]
    refine World.cell?_setCell_same _ _ _ (u := u3) ?_
    rw [World.cell?_setCell_other _ _ _ _ (ad_ne (by omega)), World.cell?_setCell_other _ _ _ _ (ad_ne (by omega)), World.cell?_setCell_other _ _ _ _ (ad_ne (by omega))]; exact h3
  · refine World.cell?_setCell_same _ _ _ (u := u4) ?_
    rw [World.cell?_setCell_other _ _ _ _ (ad_ne (by omega)), World.cell?_setCell_other _ _ _ _ (ad_ne (by omega)), World.cell?_setCell_other _ _ _ _ (ad_ne (by omega)), World.cell?_setCell_other _ _ _ _ (ad_ne (by omega))]; exact h4
theorem LR.set {w : World} {S : Nat → Prop} {g : Nat} {l : List TX} (h : LR w S g l) (hS : ¬ S g) (x : TX) (hx : TVS w S x.t x.A x.c) (n : Nat) (hn : n < l.length) :
    LR (set5g w g (n * 5) (.int .i64 x.t.kind) (.string ⟨x.t.name.toArray⟩) (.string ⟨x.t.var.toArray⟩) (.slice x.A x.t.args.length x.c) (.string ⟨x.t.form.toArray⟩)) S g (l.set n x) := by
  have hk : ∀ {s : T} {A : Option Addr} {c : Nat}, TVS w S s A c → TVS (set5g w g (n * 5) (.int .i64 x.t.kind) (.string ⟨x.t.name.toArray⟩) (.string ⟨x.t.var.toArray⟩) (.slice x.A x.t.args.length x.c) (.string ⟨x.t.form.toArray⟩)) S s A c :=
    fun h => h.keep (fun k hk => ⟨hk, set5g_heap _ _ _ _ _ _ _ _ k (fun e => hS (e ▸ hk))⟩)
  obtain ⟨y, hy⟩ : ∃ y, l[n]? = some y := ⟨_, List.getElem?_eq_getElem hn⟩
  obtain ⟨hc, _⟩ := h n y hy
  have h5 := set5g_at (.int .i64 x.t.kind) (.string ⟨x.t.name.toArray⟩) (.string ⟨x.t.var.toArray⟩) (.slice x.A x.t.args.length x.c) (.string ⟨x.t.form.toArray⟩) (hc 0 _ rfl) (hc 1 _ rfl) (hc 2 _ rfl) (hc 3 _ rfl) (hc 4 _ rfl)
  intro i z hz
  by_cases e : i = n
  · subst e
    rw [List.getElem?_set_self hn] at hz
    have e : x = z := Option.some.inj hz
    subst e
    refine ⟨fun j v hv => ?_, hk hx⟩
    rcases j with _ | _ | _ | _ | _ | j
    · exact h5.1.trans hv
    · exact h5.2.1.trans hv
    · exact h5.2.2.1.trans hv
    · exact h5.2.2.2.1.trans hv
    · exact h5.2.2.2.2.trans hv
    · have := (List.getElem?_eq_some_iff.1 hv).1
      rw [tx_len] at this; omega
  · rw [List.getElem?_set_ne (Ne.symm e)] at hz
    obtain ⟨h1, h2⟩ := h i z hz
    refine ⟨fun j v hv => ?_, hk h2⟩
    have hj := (List.getElem?_eq_some_iff.1 hv).1
    rw [tx_len] at hj
    rw [set5g_far _ _ _ _ _ _ _ _ _ (fun k hk => ad_ne (by omega))]
    exact h1 j v hv
theorem map_set (l : List TX) (n : Nat) (x : TX) : (l.set n x).map TX.t = (l.map TX.t).set n x.t := List.map_set
theorem frozen_not {w : World} {g : Nat} {cur : Array Value} {t : TypeId} (h : w.heap[g]? = some (.cells cur t (0, 0))) (o : Nat) : w.frozen? ⟨g, o, none⟩ = false := by
  simp [World.frozen?, h]
/-- append([]Term{}, ys...) -/
theorem app22 {ops : Array Oper} {rest : List Oper} {o : Oper} {a : Act} {Q : Exit → Act → World → Prop} {S : Nat → Prop} (w : World) (hgd : o.guard = none) (s x : Operand)
    (ho : o.op = .call { callee := .builtin .append, args := #[s, x], argTypes := #[22, 22] }) (hs : a.eval s = .slice (some ⟨w.heap.size, 0, none⟩) 0 0) {A : Option Addr} {n c : Nat} {ys : List T} (hx : a.eval x = .slice A n c) (hn : n = ys.length)
    (hys : TAS w S A ys) (hne : ys ≠ []) (hlen : ys.length ≤ 100000) (hSB : ∀ k, S k → k < w.heap.size)
    (h : ∀ g cap l w', l.map TX.t = ys → LR w' S g l → w.heap.size ≤ g → g < w'.heap.size → (ys.length ≤ cap ∧ cap ≤ 9223372036854775807) → (∃ cur, w'.heap[g]? = some (.cells cur 24 (0, 0))) → Below w.heap.size w w' → wpList Tryz.prog ops Q rest (a.put o.dst (.slice (some ⟨g, 0, none⟩) ys.length cap)) w') :
    wpList Tryz.prog ops Q (o :: rest) a (w.alloc (.cells #[] 24)) := by
  obtain ⟨i0, hi0, hz0, hz1, hz2⟩ := info_parts term_info
  obtain ⟨b, q, rfl, hts⟩ := hys hne
  obtain ⟨l, h1, h2, h3⟩ := lr_src ys q hts
  have hl : l.length = ys.length := by rw [← h1, List.length_map]
  have hp : 0 < ys.length := List.length_pos_iff.2 hne
  have hb : Below w.heap.size w (w.alloc (.cells #[] 24)) := (Below.refl _ _).alloc (Nat.le_refl _) _
  have hbl : b < w.heap.size := by
    cases ys with
    | nil => exact absurd rfl hne
    | cons y ys => rw [TRSs] at hts; exact hSB _ hts.1.parts.1
  have hown : (w.alloc (.cells #[] 24)).ownsRow w.heap.size 24 5 (.slice (some ⟨w.heap.size, 0, none⟩) 0 0) 0 [] := World.ownsRow_lit w #[] 0 (Nat.le_refl _) (by unfold maxLen; omega) rfl
  subst hn
  refine wpList_append_lies _ hgd s x 22 ho w.heap.size 24 i0 _ 5 80 Tryz.underlying22 hi0 hz0 hz1 hz2 rfl (by decide) (.slice (some ⟨w.heap.size, 0, none⟩) 0 0) 0 [] hs hown ⟨b, q, none⟩ ys.length c (txc l) hx (by rw [txc_len, hl]) (fun j u hu => ?_) (fun u hu => ?_) hp (by unfold maxLen; omega) (by omega) hb.size _ rfl ?_
  · rw [addr_addF]; exact (hb.cell (p := ⟨b, _, none⟩) hbl).trans (h2 j u hu)
  · obtain ⟨y, _, hy⟩ := List.mem_flatMap.1 hu
    exact tx_one y u hy
  · intro g cap w' hr hgr hat hlt
    rw [Nat.zero_add, List.nil_append] at hr
    rw [Nat.zero_add]
    have hbw : Below w.heap.size w w' := hb.grown hgr hb.size (fun k hk => by have : k = w.heap.size := (Option.some.inj hk).symm; omega)
    have hg : w.heap.size ≤ g := by
      rcases hat with e | e
      · have : w.heap.size = g := Option.some.inj e
        omega
      · have := hb.size; omega
    obtain ⟨_, hq | ⟨g2, cap2, cur, he, e1, e2, e3, e4, e5, e6⟩⟩ := hr
    · exact absurd hq.2 (by omega)
    · have hge : g = g2 := Option.some.inj (congrArg Value.ownBlock he)
      have hce : cap = cap2 := congrArg (fun v => match v with | Value.slice _ _ c => c | _ => 0) he
      refine h g cap l w' h1 (fun i x hx => ⟨fun j v hv => ?_, (h3 x (List.mem_of_getElem? hx)).keep (fun k hk => ⟨hk, hbw.block k (hSB k hk)⟩)⟩) hg hlt ⟨by rw [hce]; exact e3, by rw [hce]; unfold maxLen at e4; exact e4⟩ ⟨cur, by rw [hge]; exact e2⟩ hbw
      have ht := txc_get l i x hx j v hv
      have hj := (List.getElem?_eq_some_iff.1 ht).1
      rw [txc_len, hl] at hj
      have e7 : (cur.toList.take (ys.length * 5))[i * 5 + j]? = (txc l)[i * 5 + j]? := by rw [e6]
      rw [List.getElem?_take_of_lt hj, ht] at e7
      rw [hge]
      simp only [World.cell?, e2, Option.isSome_none, Bool.false_eq_true, if_false]
      rw [← Array.getElem?_toList]; exact e7
theorem lastT_get : ∀ ts : List T, ts ≠ [] → ts[ts.length - 1]? = some (lastT ts)
  | [], h => absurd rfl h
  | [t], _ => rfl
  | t :: u :: ts, _ => by
    rw [lastT, ← lastT_get (u :: ts) (by simp)]; rfl
theorem lastF_set (f : T → T) : ∀ ts : List T, ts ≠ [] → lastF f ts = ts.set (ts.length - 1) (f (lastT ts))
  | [], h => absurd rfl h
  | [t], _ => rfl
  | t :: u :: ts, _ => by
    rw [lastF, lastF_set f (u :: ts) (by simp)]; rfl
theorem more_snoc (l : List W8) : ∀ n : Nat, moreL (n + 1) l = withL (moreL n l) (freshL (moreL n l))
  | 0 => rfl
  | n + 1 => by
    have h : ∀ (n : Nat) (l : List W8), moreL (n + 1) l = moreL n (withL l (freshL l)) := fun _ _ => rfl
    rw [h (n + 1) l, more_snoc _ n, h n l]
theorem more_wds : ∀ (n : Nat) (l : List W8), Wds l → l.length + n ≤ 2755 → Wds (moreL n l)
  | 0, _, h, _ => h
  | n + 1, l, h, hz => by
    rw [more_snoc]
    have := moreL_len n l
    exact (more_wds n l h (by omega)).with (ident_word (fresh_ident _ (by omega)))
/-- what Rename does at a path -/
def RenC (path : List Int) : Prop := ∀ (t : T) (p : Nat), WF t → t.size ≤ 2600 → p ≤ 255 → ∀ (S : Nat → Prop) (A : Option Addr) (c : Nat) (v : Value) (w : World), (∀ k, S k → k < w.heap.size) → TVS w S t A c → PI w w.heap.size v path →
  Calls Tryz.prog 12 #[.agg (tv t A c), v, .int .i64 p] w fun e w' => ∃ A9 c9, e = .returned (.agg (tv (ren path t p) A9 c9)) ∧ TVS w' (Nw S w w') (ren path t p) A9 c9 ∧ Below w.heap.size w w'
theorem ren_go (i : Nat) (path : List Int) (t : T) (p : Nat) (h : i < t.args.length) : ren ((i : Int) :: path) t p = .mk t.kind t.name t.var (t.args.set i (ren path t.args[i] p)) t.form := by
  rw [ren, dif_pos ⟨Int.natCast_nonneg i, by omega⟩]; rfl
theorem ren_not (i : Int) (path : List Int) (t : T) (p : Nat) (h : ¬ (0 ≤ i ∧ i < t.args.length)) : ren (i :: path) t p = t := by
  rw [ren, dif_neg h]
set_option maxRecDepth 100000 in
set_option maxHeartbeats 4000000 in
theorem ren32_cons (i : Int) (path : List Int) (ih : RenC path) : RenC (i :: path) := by
  intro t p hw hz hp255 S A c v w hS ht hp
  have IH := Lib.hid ih
  have hb1 : Below w.heap.size w ((w.alloc (.cells (tv t A c) 24)).alloc (.cells #[.int .i64 0, .string ⟨#[]⟩, .string ⟨#[]⟩, .slice none 0 0, .string ⟨#[]⟩] 24)) := ((Below.refl _ _).alloc (Nat.le_refl _) _).alloc (by simp) _
  have hs1 : ((w.alloc (.cells (tv t A c) 24)).alloc (.cells #[.int .i64 0, .string ⟨#[]⟩, .string ⟨#[]⟩, .slice none 0 0, .string ⟨#[]⟩] 24)).heap.size = w.heap.size + 2 := by simp
  have hk1 := (Bk.new' w t A c).reach ((Below.refl _ _).alloc (Nat.le_refl _) (.cells #[.int .i64 0, .string ⟨#[]⟩, .string ⟨#[]⟩, .slice none 0 0, .string ⟨#[]⟩] 24))
  have hz1 := Bk.new (w.alloc (.cells (tv t A c) 24)) (.int .i64 0) (.string ⟨#[]⟩) (.string ⟨#[]⟩) (.slice none 0 0) (.string ⟨#[]⟩)
  rw [World.size_alloc] at hz1
  have HB1 := Lib.hid hb1
  have HS1 := Lib.hid hs1
  have HK1 := Lib.hid hk1
  have HZ1 := Lib.hid hz1
  have HT := Lib.hid ht
  have HP := Lib.hid (And.intro hw (And.intro hz (And.intro hp255 hS)))
  have HPI := Lib.hid hp
  obtain ⟨PA, pc, rfl, ⟨hpc1, hpc2⟩, hpcell⟩ := hp
  obtain ⟨pb, po, rfl, hpb, hpx⟩ := hpcell (by simp)
  have HC0 : Hid (∀ w', Below w.heap.size w w' → w'.cell? ⟨pb, po, none⟩ = some (.int .i64 i)) := fun w' hb => (hb.cell (p := ⟨pb, po, none⟩) hpb).trans (hpx 0 (by simp))
  obtain ⟨PT, hPT⟩ : ∃ PT : Option Addr, (if pc = 1 then some (⟨pb, po, none⟩ : Addr) else some ⟨pb, po + 1, none⟩) = PT := ⟨_, rfl⟩
  have HPT : Hid (∀ w', Below w.heap.size w w' → PI w' w'.heap.size (.slice PT (path.length + 1 - 1) (pc - 1)) path) := fun w' hb =>
    ⟨_, _, by rw [Nat.add_sub_cancel], ⟨by simp at hpc1; omega, by omega⟩, fun hne => ⟨pb, po + 1, hPT.symm.trans (if_neg (by have := List.length_pos_iff.2 hne; simp at hpc1; omega)), Nat.lt_of_lt_of_le hpb hb.size, fun j hj => by
      have := (hb.cell (p := ⟨pb, po + (j + 1), none⟩) hpb).trans (hpx (j + 1) (by simp; omega))
      rw [show po + 1 + j = po + (j + 1) from by omega]; exact this⟩⟩
  have HLP : Hid (path.length + 1 ≤ pc) := hpc1
  have HPE := Lib.hid hPT
  have hpl : path.length + 1 ≤ 9223372036854775807 := by have : (i :: path).length = path.length + 1 := rfl; omega
  have hpz : (0 : Int) < ((path.length + 1 : Nat) : Int) := by omega
  have hpo : (1 : Int) ≤ ((path.length + 1 : Nat) : Int) := by omega
  have HLE : Hid ((i :: path).length = path.length + 1) := rfl
  obtain ⟨hca1, hca2⟩ := ht.cap
  have hal : t.args.length ≤ 9223372036854775807 := by omega
  clear ih hb1 hs1 hk1 hz1 ht hw hz hp255 hS hpcell hpx HPI hPT
  generalize tv t A c = cs at *
  rw [HLE.out]
  generalize path.length + 1 = m at *
  go_enter Tryz.func12, Tryz.ntmps12
  go_upto_region 1 with (fail)
  generalize (w.alloc (.cells cs 24)).alloc (.cells #[.int .i64 0, .string ⟨#[]⟩, .string ⟨#[]⟩, .slice none 0 0, .string ⟨#[]⟩] 24) = w1 at *
  obtain ⟨⟨k0, k1, k2, k3, k4⟩, _, _⟩ := HK1.out.cells
  have hck := HC0.out w1 HB1.out
  by_cases h0 : i < 0
  · have HY : Hid (ren (i :: path) t p = t) := ren_not i path t p (by omega)
    go_wp2_with fail
    go_big_quiet (fail)
    have HBn := Lib.hid (below_drewNB HB1.out nq)
    have HKn : Hid (Bk (w1.drewN nq) w.heap.size (.int .i64 t.kind) (.string ⟨t.name.toArray⟩) (.string ⟨t.var.toArray⟩) (.slice A t.args.length c) (.string ⟨t.form.toArray⟩)) := HK1.out
    have HZn : Hid (Bk (w1.drewN nq) (w.heap.size + 1) (.int .i64 0) (.string ⟨#[]⟩) (.string ⟨#[]⟩) (.slice none 0 0) (.string ⟨#[]⟩)) := HZ1.out
    clear k0 k1 k2 k3 k4 hck
    generalize w1.drewN nq = wn at *
    obtain ⟨⟨k0, k1, k2, k3, k4⟩, _, _⟩ := HKn.out.cells
    obtain ⟨⟨q0, q1, q2, q3, q4⟩, qf, ql⟩ := HZn.out.cells
    go_wp2_with fail
    rw [HY.out]
    exact bodyPost_ret (v := .agg (tv t A c)) (by simp [results, Tryz.results12, go_sem, tv, q0, q1, q2, q3, q4]) rfl ⟨A, c, rfl, ((HT.out.reach HP.out.2.2.2 HBn.out).set5 (w.heap.size + 1) _ _ _ _ _ (fun h => by have := HP.out.2.2.2 _ h; omega)).wider (fun k hk => .inl hk), below5s HBn.out (by omega) _ _ _ _ _⟩
  · by_cases h1 : i < t.args.length
    · have h1z : ¬ (t.args.length : Int) ≤ i := by omega
      have hd0 : decide (i < 0) = false := decide_eq_false h0
      go_wp2_with fail
      go_big_quiet (fail)
      obtain ⟨n, rfl⟩ : ∃ n : Nat, i = (n : Int) := ⟨i.toNat, by omega⟩
      have hn : n < t.args.length := by omega
      have HY := Lib.hid (ren_go n path t p hn)
      have HWS : Hid (WF t.args[n] ∧ t.args[n].size ≤ 2600) := ⟨(HP.out.1.parts.2).mem (List.getElem_mem hn), by have := size_arg (List.getElem_mem hn); have := HP.out.2.1; omega⟩
      have HBn := Lib.hid (below_drewNB HB1.out nq)
      have HSn : Hid ((w1.drewN nq).heap.size = w.heap.size + 2) := HS1.out
      have HKn : Hid (Bk (w1.drewN nq) w.heap.size (.int .i64 t.kind) (.string ⟨t.name.toArray⟩) (.string ⟨t.var.toArray⟩) (.slice A t.args.length c) (.string ⟨t.form.toArray⟩)) := HK1.out
      have HZn : Hid (Bk (w1.drewN nq) (w.heap.size + 1) (.int .i64 0) (.string ⟨#[]⟩) (.string ⟨#[]⟩) (.slice none 0 0) (.string ⟨#[]⟩)) := HZ1.out
      clear k0 k1 k2 k3 k4 hck HB1 HS1 HK1 HZ1
      generalize w1.drewN nq = wn at *
      obtain ⟨⟨k0, k1, k2, k3, k4⟩, _, _⟩ := HKn.out.cells
      go_upto_region 5 with (fail)
      have hb2 : Below w.heap.size w (wn.alloc (.cells #[.int .i64 t.kind, .string ⟨t.name.toArray⟩, .string ⟨t.var.toArray⟩, .slice A t.args.length c, .string ⟨t.form.toArray⟩] 24)) := HBn.out.alloc HBn.out.size _
      have hr2 : Below wn.heap.size wn (wn.alloc (.cells #[.int .i64 t.kind, .string ⟨t.name.toArray⟩, .string ⟨t.var.toArray⟩, .slice A t.args.length c, .string ⟨t.form.toArray⟩] 24)) := (Below.refl _ _).alloc (Nat.le_refl _) _
      have ho2 := Bk.new wn (.int .i64 t.kind) (.string ⟨t.name.toArray⟩) (.string ⟨t.var.toArray⟩) (.slice A t.args.length c) (.string ⟨t.form.toArray⟩)
      have hk2 := HKn.out.reach hr2
      have hz2 := HZn.out.reach hr2
      have hs2 : (wn.alloc (.cells #[.int .i64 t.kind, .string ⟨t.name.toArray⟩, .string ⟨t.var.toArray⟩, .slice A t.args.length c, .string ⟨t.form.toArray⟩] 24)).heap.size = w.heap.size + 3 := by rw [World.size_alloc, HSn.out]
      rw [HSn.out] at ho2 ⊢
      have HB2 := Lib.hid hb2
      have HO2 := Lib.hid ho2
      have HK2 := Lib.hid hk2
      have HZ2 := Lib.hid hz2
      have HS2 := Lib.hid hs2
      clear hb2 hr2 ho2 hk2 hz2 hs2 k0 k1 k2 k3 k4 HKn HZn HSn HBn
      generalize wn.alloc (.cells #[.int .i64 t.kind, .string ⟨t.name.toArray⟩, .string ⟨t.var.toArray⟩, .slice A t.args.length c, .string ⟨t.form.toArray⟩] 24) = w2 at *
      obtain ⟨⟨k0, k1, k2, k3, k4⟩, _, _⟩ := HK2.out.cells
      have HA2 := Lib.hid (HT.out.reach HP.out.2.2.2 HB2.out).ar
      have HNE : Hid (t.args ≠ []) := fun e => by rw [e] at hn; simp at hn
      have HLN : Hid (t.args.length ≤ 100000) := by have := len_sizes t.args; have := size_eq t; have := HP.out.2.1; show _ ≤ _; omega
      have HS3 : Hid (∀ k, S k → k < w2.heap.size) := fun k hk => by have := HP.out.2.2.2 k hk; have := HS2.out; omega
      go_wp2_with (at_builtin; refine app22 w2 rfl _ _ rfl rfl rfl rfl HA2.out HNE.out HLN.out HS3.out ?_)
      intro g cap l w3 hl hlr hg hg3 hcap1 hcap2 cur hcur hb3
      have HL := Lib.hid hl
      have HR3 := Lib.hid hlr
      have HG := Lib.hid (And.intro hg hg3)
      have HCP := Lib.hid (And.intro hcap1 hcap2)
      have HB3 := Lib.hid hb3
      have HO3 := Lib.hid (HO2.out.reach hb3)
      have HK3 := Lib.hid (HK2.out.reach hb3)
      have HZ3 := Lib.hid (HZ2.out.reach hb3)
      have HFR := Lib.hid hcur
      clear hl hlr hg hg3 hcap1 hcap2 hcur k0 k1 k2 k3 k4
      obtain ⟨⟨o0, o1, o2, o3, o4⟩, of, ol⟩ := HO3.out.cells
      have of3 := of 3
      go_upto_region 6 with (fail)
      have HO4 := Lib.hid (HO3.out.set3 (.slice (some ⟨g, 0, none⟩) t.args.length cap))
      have HGO : Hid (g ≠ w.heap.size + 2) := by have := HG.out.1; have := HS2.out; show _ ≠ _; omega
      have HR4 := Lib.hid (HR3.out.other (b := w.heap.size + 2) (o := 3) (.slice (some ⟨g, 0, none⟩) t.args.length cap) HGO.out.symm (fun h => by have := HP.out.2.2.2 _ h; omega))
      have HK4 := Lib.hid (HK3.out.other (b' := w.heap.size + 2) (o := 3) (.slice (some ⟨g, 0, none⟩) t.args.length cap) (by omega))
      have HZ4 := Lib.hid (HZ3.out.other (b' := w.heap.size + 2) (o := 3) (.slice (some ⟨g, 0, none⟩) t.args.length cap) (by omega))
      have HB4 : Hid (Below w.heap.size w (w3.setCell ⟨w.heap.size + 2, 3, none⟩ (.slice (some ⟨g, 0, none⟩) t.args.length cap))) := (HB2.out.trans (HB3.out.mono HB2.out.size)).setCell (p := ⟨w.heap.size + 2, 3, none⟩) (Nat.le_add_right _ _) _
      have HF4 : Hid ((w3.setCell ⟨w.heap.size + 2, 3, none⟩ (.slice (some ⟨g, 0, none⟩) t.args.length cap)).heap[g]? = some (.cells cur 24 (0, 0))) := (Below.heap_setCell w3 ⟨w.heap.size + 2, 3, none⟩ _ g HGO.out).trans HFR.out
      have HG4 : Hid (g < (w3.setCell ⟨w.heap.size + 2, 3, none⟩ (.slice (some ⟨g, 0, none⟩) t.args.length cap)).heap.size) := by show _ < _; rw [World.size_setCell]; exact HG.out.2
      clear o0 o1 o2 o3 o4 of ol of3 HO3 HR3 HK3 HZ3
      generalize w3.setCell ⟨w.heap.size + 2, 3, none⟩ (.slice (some ⟨g, 0, none⟩) t.args.length cap) = w4 at *
      obtain ⟨b1, o1, hA1, hR1⟩ := (HT.out.reach HP.out.2.2.2 HB4.out).ar.at_ hn
      obtain ⟨hbS, c0, c1, c2, c4, A5, c5, c3, hv5⟩ := hR1.parts
      have HC0p := Lib.hid (HC0.out w4 HB4.out)
      have HPc := Lib.hid (And.intro c0 (And.intro c1 (And.intro c2 (And.intro c3 c4))))
      have HV5 := Lib.hid hv5
      have HS4 : Hid (∀ k, S k → k < w4.heap.size) := fun k hk => Nat.lt_of_lt_of_le (HP.out.2.2.2 k hk) HB4.out.size
      have HPB : Hid (pb < w4.heap.size ∧ b1 < w4.heap.size) := ⟨Nat.lt_of_lt_of_le hpb HB4.out.size, HS4.out _ hbS⟩
      have HZN : Hid (n < t.args.length) := hn
      have HAA : Hid (A = some ⟨b1, o1, none⟩) := hA1
      rw [HAA.out] at HK4
      generalize t.args[n] = u at *
      have HCL : Hid (∀ w', Below w4.heap.size w4 w' → Calls Tryz.prog 12 #[.agg (tv u A5 c5), .slice PT (m - 1) (pc - 1), .int .i64 p] w' fun e w9 => ∃ A9 c9, e = .returned (.agg (tv (ren path u p) A9 c9)) ∧ TVS w9 (Nw S w' w9) (ren path u p) A9 c9 ∧ Below w'.heap.size w' w9) :=
        fun w' hb => IH.out u p HWS.out.1 HWS.out.2 HP.out.2.2.1 S A5 c5 _ w' (fun k hk => Nat.lt_of_lt_of_le (HS4.out k hk) hb.size) (HV5.out.reach HS4.out hb) (HPT.out w' (HB4.out.trans (hb.mono HB4.out.size)))
      unfold tv at HCL
      generalize ren path u p = r at *
      have HKP := Lib.hid fun w' (hb : Below w4.heap.size w4 w') => And.intro ((HO4.out.reach hb).cells.1.2.2.2.1) (And.intro ((HK4.out.reach hb).cells.1.2.2.2.1) (And.intro ((hb.cell (p := ⟨pb, po, none⟩) HPB.out.1).trans HC0p.out) (And.intro ((hb.cell (p := ⟨b1, o1 + n * 5, none⟩) HPB.out.2).trans HPc.out.1) (And.intro ((hb.cell (p := ⟨b1, o1 + n * 5 + 1, none⟩) HPB.out.2).trans HPc.out.2.1) (And.intro ((hb.cell (p := ⟨b1, o1 + n * 5 + 2, none⟩) HPB.out.2).trans HPc.out.2.2.1) (And.intro ((hb.cell (p := ⟨b1, o1 + n * 5 + 3, none⟩) HPB.out.2).trans HPc.out.2.2.2.1) ((hb.cell (p := ⟨b1, o1 + n * 5 + 4, none⟩) HPB.out.2).trans HPc.out.2.2.2.2)))))))
      clear hA1 hR1 hbS c0 c1 c2 c3 c4 hv5 IH HPT HC0
      have hnz : (n : Int) < (t.args.length : Int) := by omega
      have hn0 : ¬ (n : Int) < 0 := by omega
      refine wp_region_noPanic ?_
      refine wp_region_L 17 (fun w' => w'.cell? ⟨w.heap.size + 2, 3, none⟩ = some (.slice (some ⟨g, 0, none⟩) t.args.length cap) ∧ w'.cell? ⟨w.heap.size, 3, none⟩ = some (.slice (some ⟨b1, o1, none⟩) t.args.length c) ∧ w'.cell? ⟨pb, po, none⟩ = some (.int .i64 n) ∧ w'.cell? ⟨b1, o1 + n * 5, none⟩ = some (.int .i64 u.kind) ∧ w'.cell? ⟨b1, o1 + n * 5 + 1, none⟩ = some (.string ⟨u.name.toArray⟩) ∧ w'.cell? ⟨b1, o1 + n * 5 + 2, none⟩ = some (.string ⟨u.var.toArray⟩) ∧ w'.cell? ⟨b1, o1 + n * 5 + 3, none⟩ = some (.slice A5 u.args.length c5) ∧ w'.cell? ⟨b1, o1 + n * 5 + 4, none⟩ = some (.string ⟨u.form.toArray⟩)) (by kernel_rfl) ?_
      have hS0 := HKP.out _ (below_dr (Below.refl _ _))
      simp only [List.size_toArray, List.length_cons, List.length_nil, Nat.zero_add, Nat.reduceAdd]
      refine wpAnyL_take (i := 0) (v := ?vr0) rfl (by kernel_rfl) (by kernel_rfl) (by kernel_rfl) (by kernel_rfl) (fun _ _ _ h => h) (Or.inl ⟨by rfl, ?hr0⟩) hS0 ?rr0
      case hr0 => (intro w' hSw; (try dsimp only at hSw); go_simp; all_goals with_reducible rfl)
      try dsimp only [Act.put]
      refine wpAnyL_take (i := 1) (v := ?vr1) rfl (by kernel_rfl) (by kernel_rfl) (by kernel_rfl) (by kernel_rfl) (fun _ _ _ h => h) (Or.inl ⟨by rfl, ?hr1⟩) hS0 ?rr1
      case hr1 => (intro w' hSw; (try dsimp only at hSw); go_simp; all_goals with_reducible rfl)
      try dsimp only [Act.put]
      refine wpAnyL_take (i := 2) (v := ?vr2) rfl (by kernel_rfl) (by kernel_rfl) (by kernel_rfl) (by kernel_rfl) (fun _ _ _ h => h) (Or.inl ⟨by rfl, ?hr2⟩) hS0 ?rr2
      case hr2 => (intro w' hSw; (try dsimp only at hSw); go_simp; all_goals with_reducible rfl)
      try dsimp only [Act.put]
      refine wpAnyL_take (i := 3) (v := ?vr3) rfl (by kernel_rfl) (by kernel_rfl) (by kernel_rfl) (by kernel_rfl) (fun _ _ _ h => h) (Or.inl ⟨by rfl, ?hr3⟩) hS0 ?rr3
      case hr3 => (intro w' hSw; (try dsimp only at hSw); go_simp; all_goals with_reducible rfl)
      try dsimp only [Act.put]
      refine wpAnyL_take (i := 4) (v := ?vr4) rfl (by kernel_rfl) (by kernel_rfl) (by kernel_rfl) (by kernel_rfl) (fun _ _ _ h => h) (Or.inl ⟨by rfl, ?hr4⟩) hS0 ?rr4
      case hr4 => (intro w' hSw; (try dsimp only at hSw); go_simp; all_goals with_reducible rfl)
      try dsimp only [Act.put]
      refine wpAnyL_take (i := 5) (v := ?vr5) rfl (by kernel_rfl) (by kernel_rfl) (by kernel_rfl) (by kernel_rfl) (fun _ _ _ h => h) (Or.inl ⟨by rfl, ?hr5⟩) hS0 ?rr5
      case hr5 => (intro w' hSw; (try dsimp only at hSw); go_simp; all_goals with_reducible rfl)
      try dsimp only [Act.put]
      refine wpAnyL_take (i := 6) (v := ?vr6) rfl (by kernel_rfl) (by kernel_rfl) (by kernel_rfl) (by kernel_rfl) (fun _ _ _ h => h) (Or.inl ⟨by rfl, ?hr6⟩) hS0 ?rr6
      case hr6 => (intro w' hSw; (try dsimp only at hSw); go_simp; all_goals with_reducible rfl)
      try dsimp only [Act.put]
      refine wpAnyL_take (i := 7) (v := ?vr7) rfl (by kernel_rfl) (by kernel_rfl) (by kernel_rfl) (by kernel_rfl) (fun _ _ _ h => h) (Or.inl ⟨by rfl, ?hr7⟩) hS0 ?rr7
      case hr7 => (intro w' hSw; (try dsimp only at hSw); go_simp; all_goals with_reducible rfl)
      try dsimp only [Act.put]
      refine wpAnyL_take (i := 8) (v := ?vr8) rfl (by kernel_rfl) (by kernel_rfl) (by kernel_rfl) (by kernel_rfl) (fun _ _ _ h => h) (Or.inl ⟨by rfl, ?hr8⟩) hS0 ?rr8
      case hr8 => (intro w' hSw; (try dsimp only at hSw); go_simp; all_goals with_reducible rfl)
      try dsimp only [Act.put]
      refine wpAnyL_take (i := 9) (v := ?vr9) rfl (by kernel_rfl) (by kernel_rfl) (by kernel_rfl) (by kernel_rfl) (fun _ _ _ h => h) (Or.inl ⟨by rfl, ?hr9⟩) hS0 ?rr9
      case hr9 => (intro w' hSw; (try dsimp only at hSw); go_simp; all_goals with_reducible rfl)
      try dsimp only [Act.put]
      refine wpAnyL_take (i := 10) (v := ?vr10) rfl (by kernel_rfl) (by kernel_rfl) (by kernel_rfl) (by kernel_rfl) (fun _ _ _ h => h) (Or.inl ⟨by rfl, ?hr10⟩) hS0 ?rr10
      case hr10 => (intro w' hSw; (try dsimp only at hSw); go_simp; all_goals with_reducible rfl)
      try dsimp only [Act.put]
      refine wpAnyL_take (i := 11) (v := ?vr11) rfl (by kernel_rfl) (by kernel_rfl) (by kernel_rfl) (by kernel_rfl) (fun _ _ _ h => h) (Or.inl ⟨by rfl, ?hr11⟩) hS0 ?rr11
      case hr11 => (intro w' hSw; (try dsimp only at hSw); go_simp; all_goals with_reducible rfl)
      try dsimp only [Act.put]
      refine wpAnyL_take (i := 12) (v := ?vr12) rfl (by kernel_rfl) (by kernel_rfl) (by kernel_rfl) (by kernel_rfl) (fun _ _ _ h => h) (Or.inl ⟨by rfl, ?hr12⟩) hS0 ?rr12
      case hr12 => (intro w' hSw; (try dsimp only at hSw); go_simp; all_goals with_reducible rfl)
      try dsimp only [Act.put]
      refine wpAnyL_take (i := 13) (v := ?vr13) rfl (by kernel_rfl) (by kernel_rfl) (by kernel_rfl) (by kernel_rfl) (fun _ _ _ h => h) (Or.inl ⟨by rfl, ?hr13⟩) hS0 ?rr13
      case hr13 => (intro w' hSw; (try dsimp only at hSw); go_simp; rw [HPE.out])
      try dsimp only [Act.put]
      refine wpAnyL_take (i := 14) (v := ?vr14) rfl (by kernel_rfl) (by kernel_rfl) (by kernel_rfl) (by kernel_rfl) (fun _ _ _ h => h) (Or.inl ⟨by rfl, ?hr14⟩) hS0 ?rr14
      case hr14 => (intro w' hSw; (try dsimp only at hSw); go_simp; all_goals with_reducible rfl)
      try dsimp only [Act.put]
      refine wpAnyL_step (i := 15) (by kernel_rfl) rfl ?_
      intro K hK
      go_simp
      go_wp2_with (go_at_call 12; (refine (HCL.out _ (below_dr (Below.refl w4.heap.size w4))).mono ?_); rintro e wc ⟨A9, c9, rfl, hv9, hb9⟩)
      have hb9w : Below w4.heap.size w4 wc := (below_dr (Below.refl w4.heap.size w4)).trans hb9
      have HV9 := Lib.hid hv9
      have HB9 := Lib.hid hb9w
      refine hK.out _ _ (HKP.out _ hb9w) (fun _ => ?_)
      refine wpAnyL_step (i := 16) (by kernel_rfl) rfl ?_
      intro K hK
      go_simp
      refine hK.out _ _ (HKP.out _ hb9w) (fun _ => ?_)
      clear hK K hv9 hb9 hb9w
      have HR9 := Lib.hid (HR4.out.reach HB9.out HG4.out HS4.out)
      have HG9 : Hid (g < wc.heap.size) := Nat.lt_of_lt_of_le HG4.out HB9.out.size
      have HO9 := Lib.hid (HO4.out.reach HB9.out)
      have HZ9 := Lib.hid (HZ4.out.reach HB9.out)
      have HLL : Hid (l.length = t.args.length) := by have := congrArg List.length HL.out; rwa [List.length_map] at this
      obtain ⟨y, hy⟩ : ∃ y, l[n]? = some y := ⟨_, List.getElem?_eq_getElem (by have := HLL.out; omega)⟩
      have HYc := Lib.hid (HR9.out n y hy).1
      have y0 := HYc.out 0 _ rfl
      have y1 := HYc.out 1 _ rfl
      have y2 := HYc.out 2 _ rfl
      have y3 := HYc.out 3 _ rfl
      have y4 := HYc.out 4 _ rfl
      rw [Nat.add_zero] at y0
      have HF9 := Lib.hid (frozen_not ((HB9.out.block g HG4.out).trans HF4.out))
      have f0 := HF9.out (n * 5)
      have f1 := HF9.out (n * 5 + 1)
      have f2 := HF9.out (n * 5 + 2)
      have f3 := HF9.out (n * 5 + 3)
      have f4 := HF9.out (n * 5 + 4)
      refine wpAnyL_last (by kernel_rfl) rfl (by kernel_rfl) ?_
      intro K hK
      go_simp
      refine hK.out _ _ ?_
      refine NoPanic.normal ?_
      clear hK K
      have hSg : ¬ Nw S w4.drew wc g := fun h => by
        rcases h with h | h
        · have := HP.out.2.2.2 _ h; have := HG.out.1; have := HS2.out; omega
        · have h1 : w4.heap.size ≤ g := h.1
          have := HG4.out; omega
      have hlr := (HR9.out.wider (S' := Nw S w4.drew wc) (fun k hk => .inl hk)).set hSg ⟨r, A9, c9⟩ HV9.out n (by have := HLL.out; omega)
      have hb10 : Below w.heap.size w (set5g wc g (n * 5) (.int .i64 r.kind) (.string ⟨r.name.toArray⟩) (.string ⟨r.var.toArray⟩) (.slice A9 r.args.length c9) (.string ⟨r.form.toArray⟩)) := by
        unfold set5g
        have hb := HB4.out.trans (HB9.out.mono HB4.out.size)
        have hle : w.heap.size ≤ g := by have := HG.out.1; have := HS2.out; omega
        exact ((((hb.setCell (p := ⟨g, _, none⟩) hle _).setCell (p := ⟨g, _, none⟩) hle _).setCell (p := ⟨g, _, none⟩) hle _).setCell (p := ⟨g, _, none⟩) hle _).setCell (p := ⟨g, _, none⟩) hle _
      have hz10 : Bk (set5g wc g (n * 5) (.int .i64 r.kind) (.string ⟨r.name.toArray⟩) (.string ⟨r.var.toArray⟩) (.slice A9 r.args.length c9) (.string ⟨r.form.toArray⟩)) (w.heap.size + 1) (.int .i64 0) (.string ⟨#[]⟩) (.string ⟨#[]⟩) (.slice none 0 0) (.string ⟨#[]⟩) := (set5g_heap _ _ _ _ _ _ _ _ _ (by have := HG.out.1; have := HS2.out; omega)).trans HZ9.out
      have ho10 : Bk (set5g wc g (n * 5) (.int .i64 r.kind) (.string ⟨r.name.toArray⟩) (.string ⟨r.var.toArray⟩) (.slice A9 r.args.length c9) (.string ⟨r.form.toArray⟩)) (w.heap.size + 2) (.int .i64 t.kind) (.string ⟨t.name.toArray⟩) (.string ⟨t.var.toArray⟩) (.slice (some ⟨g, 0, none⟩) t.args.length cap) (.string ⟨t.form.toArray⟩) := (set5g_heap _ _ _ _ _ _ _ _ _ HGO.out.symm).trans HO9.out
      have hsz : wc.heap.size = (set5g wc g (n * 5) (.int .i64 r.kind) (.string ⟨r.name.toArray⟩) (.string ⟨r.var.toArray⟩) (.slice A9 r.args.length c9) (.string ⟨r.form.toArray⟩)).heap.size := by unfold set5g; simp
      have hwe : (((((wc.setCell ⟨g, n * 5, none⟩ (.int .i64 r.kind)).setCell ⟨g, n * 5 + 1, none⟩ (.string ⟨r.name.toArray⟩)).setCell ⟨g, n * 5 + 2, none⟩ (.string ⟨r.var.toArray⟩)).setCell ⟨g, n * 5 + 3, none⟩ (.slice A9 r.args.length c9)).setCell ⟨g, n * 5 + 4, none⟩ (.string ⟨r.form.toArray⟩)) = set5g wc g (n * 5) (.int .i64 r.kind) (.string ⟨r.name.toArray⟩) (.string ⟨r.var.toArray⟩) (.slice A9 r.args.length c9) (.string ⟨r.form.toArray⟩) := rfl
      rw [hwe]
      generalize set5g wc g (n * 5) (.int .i64 r.kind) (.string ⟨r.name.toArray⟩) (.string ⟨r.var.toArray⟩) (.slice A9 r.args.length c9) (.string ⟨r.form.toArray⟩) = w10 at *
      have HR10 := Lib.hid hlr
      have HB10 := Lib.hid hb10
      have HZ10 := Lib.hid hz10
      have HO10 := Lib.hid ho10
      have HSZ := Lib.hid (And.intro hsz hSg)
      clear hlr hb10 hz10 ho10 hsz hwe hSg y0 y1 y2 y3 y4 f0 f1 f2 f3 f4 HKP HCL hS0
      obtain ⟨⟨o0, o1, o2, o3, o4⟩, _, _⟩ := HO10.out.cells
      obtain ⟨⟨q0, q1, q2, q3, q4⟩, qf, ql⟩ := HZ10.out.cells
      go_wp2_with fail
      rw [HY.out]
      exact bodyPost_ret (v := .agg (tv (.mk t.kind t.name t.var (t.args.set n r) t.form) (some ⟨g, 0, none⟩) cap)) (by simp [results, Tryz.results12, go_sem, tv, T.kind, T.name, T.var, T.args, T.form, List.length_set, q0, q1, q2, q3, q4]) rfl ⟨_, _, rfl, (TVS.set5 (S := fun k => Nw S w4.drew wc k ∨ k = g) (TVS.mk (by show (t.args.set n r).length ≤ cap ∧ _; rw [List.length_set]; exact HCP.out) (by
        have h := HR10.out.tas (S' := fun k => Nw S w4.drew wc k ∨ k = g) (fun k hk => .inl hk) (.inr rfl)
        rw [map_set, HL.out] at h; exact h)) (w.heap.size + 1) _ _ _ _ _ (fun h => by
          have h4 := HB4.out.size
          have h2 := HS2.out
          have hg := HG.out.1
          have h3 : w2.heap.size ≤ w4.heap.size := Nat.le_trans hg (Nat.le_of_lt HG4.out)
          rcases h with (h | h) | h
          · have := HP.out.2.2.2 _ h; omega
          · have h1 : w4.heap.size ≤ w.heap.size + 1 := h.1
            omega
          · omega)).wider (fun k hk => by
          rcases hk with (h | h) | h
          · exact .inl h
          · exact .inr ⟨Nat.le_trans HB4.out.size h.1, by rw [size_set5, ← HSZ.out.1]; exact h.2⟩
          · refine .inr ⟨by have := HG.out.1; have := HS2.out; omega, ?_⟩
            rw [size_set5, ← HSZ.out.1, h]; exact HG9.out), below5s HB10.out (by omega) _ _ _ _ _⟩
    · have HY : Hid (ren (i :: path) t p = t) := ren_not i path t p (by omega)
      have h1z : (t.args.length : Int) ≤ i := by omega
      have hd0 : decide (i < 0) = false := decide_eq_false h0
      go_wp2_with fail
      go_big_quiet (fail)
      have HBn := Lib.hid (below_drewNB HB1.out nq)
      have HKn : Hid (Bk (w1.drewN nq) w.heap.size (.int .i64 t.kind) (.string ⟨t.name.toArray⟩) (.string ⟨t.var.toArray⟩) (.slice A t.args.length c) (.string ⟨t.form.toArray⟩)) := HK1.out
      have HZn : Hid (Bk (w1.drewN nq) (w.heap.size + 1) (.int .i64 0) (.string ⟨#[]⟩) (.string ⟨#[]⟩) (.slice none 0 0) (.string ⟨#[]⟩)) := HZ1.out
      clear k0 k1 k2 k3 k4 hck
      generalize w1.drewN nq = wn at *
      obtain ⟨⟨k0, k1, k2, k3, k4⟩, _, _⟩ := HKn.out.cells
      obtain ⟨⟨q0, q1, q2, q3, q4⟩, qf, ql⟩ := HZn.out.cells
      go_wp2_with fail
      rw [HY.out]
      exact bodyPost_ret (v := .agg (tv t A c)) (by simp [results, Tryz.results12, go_sem, tv, q0, q1, q2, q3, q4]) rfl ⟨A, c, rfl, ((HT.out.reach HP.out.2.2.2 HBn.out).set5 (w.heap.size + 1) _ _ _ _ _ (fun h => by have := HP.out.2.2.2 _ h; omega)).wider (fun k hk => .inl hk), below5s HBn.out (by omega) _ _ _ _ _⟩
theorem ren_nil_not (t : T) (p : Nat) (h : t.kind ≠ 5) : ren [] t p = t := by
  rw [ren, if_neg h]
theorem ren_nil_go (t : T) (p n : Nat) (hk : t.kind = 5) (hn : t.args.length = n + 1) : ren [] t p = .mk t.kind t.name (pickW (t.args[n]'(by omega)) p) (t.args.set n (sub (t.args[n]'(by omega)).size (t.args[n]'(by omega)) t.var (vrT (pickW (t.args[n]'(by omega)) p)))) t.form := by
  have hne : t.args ≠ [] := fun e => by rw [e] at hn; simp at hn
  have hlt : n < t.args.length := by omega
  have e : lastT t.args = t.args[n] := by
    have := lastT_get t.args hne
    rw [hn, Nat.add_sub_cancel, List.getElem?_eq_getElem hlt] at this
    exact (Option.some.inj this).symm
  rw [ren, if_pos hk, lastF_set _ _ hne, show t.args.length - 1 = n from by omega, ← e, hk]
set_option maxRecDepth 100000 in
set_option maxHeartbeats 1500000 in
theorem ren32_nil : RenC [] := by
  intro t p hw hz hp255 S A c v w hS ht hp
  have hb1 : Below w.heap.size w ((w.alloc (.cells (tv t A c) 24)).alloc (.cells #[.int .i64 0, .string ⟨#[]⟩, .string ⟨#[]⟩, .slice none 0 0, .string ⟨#[]⟩] 24)) := ((Below.refl _ _).alloc (Nat.le_refl _) _).alloc (by simp) _
  have hs1 : ((w.alloc (.cells (tv t A c) 24)).alloc (.cells #[.int .i64 0, .string ⟨#[]⟩, .string ⟨#[]⟩, .slice none 0 0, .string ⟨#[]⟩] 24)).heap.size = w.heap.size + 2 := by simp
  have hk1 := (Bk.new' w t A c).reach ((Below.refl _ _).alloc (Nat.le_refl _) (.cells #[.int .i64 0, .string ⟨#[]⟩, .string ⟨#[]⟩, .slice none 0 0, .string ⟨#[]⟩] 24))
  have hz1 := Bk.new (w.alloc (.cells (tv t A c) 24)) (.int .i64 0) (.string ⟨#[]⟩) (.string ⟨#[]⟩) (.slice none 0 0) (.string ⟨#[]⟩)
  rw [World.size_alloc] at hz1
  have HB1 := Lib.hid hb1
  have HS1 := Lib.hid hs1
  have HK1 := Lib.hid hk1
  have HZ1 := Lib.hid hz1
  have HT := Lib.hid ht
  have HP := Lib.hid (And.intro hw (And.intro hz (And.intro hp255 hS)))
  obtain ⟨PA, pc, rfl, ⟨hpc1, hpc2⟩, _⟩ := hp
  have HLE : Hid (([] : List Int).length = 0) := rfl
  obtain ⟨hca1, hca2⟩ := ht.cap
  have hal : t.args.length ≤ 9223372036854775807 := by omega
  clear hb1 hs1 hk1 hz1 ht hw hz hp255 hS
  generalize tv t A c = cs at *
  rw [HLE.out]
  go_enter Tryz.func12, Tryz.ntmps12
  go_upto_region 1 with (fail)
  generalize (w.alloc (.cells cs 24)).alloc (.cells #[.int .i64 0, .string ⟨#[]⟩, .string ⟨#[]⟩, .slice none 0 0, .string ⟨#[]⟩] 24) = w1 at *
  obtain ⟨⟨k0, k1, k2, k3, k4⟩, _, _⟩ := HK1.out.cells
  by_cases hk5 : t.kind = 5
  · have hb5 : (t.kind != 5) = false := by simp [hk5]
    obtain ⟨n, hn⟩ : ∃ n, t.args.length = n + 1 := ⟨t.args.length - 1, by have := List.length_pos_iff.2 (own_bind HP.out.1.parts.1 hk5).2; omega⟩
    have HN := Lib.hid hn
    have hlt : n < t.args.length := by omega
    have HY : Hid (ren [] t p = .mk t.kind t.name (pickW t.args[n] p) (t.args.set n (sub t.args[n].size t.args[n] t.var (vrT (pickW t.args[n] p)))) t.form) := ren_nil_go t p n hk5 hn
    have HVI := Lib.hid (own_bind HP.out.1.parts.1 hk5).1
    have HWS : Hid (WF t.args[n] ∧ t.args[n].size < t.size) := ⟨(HP.out.1.parts.2).mem (List.getElem_mem hlt), size_arg (List.getElem_mem hlt)⟩
    have HNE : Hid (t.args ≠ []) := (own_bind HP.out.1.parts.1 hk5).2
    clear hn hk5
    go_upto_region 11 with (fail)
    have hb2 : Below w.heap.size w (w1.alloc (.cells #[.int .i64 t.kind, .string ⟨t.name.toArray⟩, .string ⟨t.var.toArray⟩, .slice A t.args.length c, .string ⟨t.form.toArray⟩] 24)) := HB1.out.alloc HB1.out.size _
    have hr2 : Below w1.heap.size w1 (w1.alloc (.cells #[.int .i64 t.kind, .string ⟨t.name.toArray⟩, .string ⟨t.var.toArray⟩, .slice A t.args.length c, .string ⟨t.form.toArray⟩] 24)) := (Below.refl _ _).alloc (Nat.le_refl _) _
    have ho2 := Bk.new w1 (.int .i64 t.kind) (.string ⟨t.name.toArray⟩) (.string ⟨t.var.toArray⟩) (.slice A t.args.length c) (.string ⟨t.form.toArray⟩)
    have hk2 := HK1.out.reach hr2
    have hz2 := HZ1.out.reach hr2
    have hs2 : (w1.alloc (.cells #[.int .i64 t.kind, .string ⟨t.name.toArray⟩, .string ⟨t.var.toArray⟩, .slice A t.args.length c, .string ⟨t.form.toArray⟩] 24)).heap.size = w.heap.size + 3 := by rw [World.size_alloc, HS1.out]
    rw [HS1.out] at ho2 ⊢
    have HB2 := Lib.hid hb2
    have HO2 := Lib.hid ho2
    have HK2 := Lib.hid hk2
    have HZ2 := Lib.hid hz2
    have HS2 := Lib.hid hs2
    clear hb2 hr2 ho2 hk2 hz2 hs2 k0 k1 k2 k3 k4 HK1 HZ1 HS1 HB1
    generalize w1.alloc (.cells #[.int .i64 t.kind, .string ⟨t.name.toArray⟩, .string ⟨t.var.toArray⟩, .slice A t.args.length c, .string ⟨t.form.toArray⟩] 24) = w2 at *
    obtain ⟨⟨k0, k1, k2, k3, k4⟩, _, _⟩ := HK2.out.cells
    have HA2 := Lib.hid (HT.out.reach HP.out.2.2.2 HB2.out).ar
    have HLN : Hid (t.args.length ≤ 100000) := by have := len_sizes t.args; have := size_eq t; have := HP.out.2.1; show _ ≤ _; omega
    have HS3 : Hid (∀ k, S k → k < w2.heap.size) := fun k hk => by have := HP.out.2.2.2 k hk; have := HS2.out; omega
    go_wp2_with (at_builtin; refine app22 w2 rfl _ _ rfl rfl rfl rfl HA2.out HNE.out HLN.out HS3.out ?_)
    intro g cap l w3 hl hlr hg hg3 hcap1 hcap2 cur hcur hb3
    have HL := Lib.hid hl
    have HR3 := Lib.hid hlr
    have HG := Lib.hid (And.intro hg hg3)
    have HCP := Lib.hid (And.intro hcap1 hcap2)
    have HB3 := Lib.hid hb3
    have HO3 := Lib.hid (HO2.out.reach hb3)
    have HK3 := Lib.hid (HK2.out.reach hb3)
    have HZ3 := Lib.hid (HZ2.out.reach hb3)
    have HFR := Lib.hid hcur
    clear hl hlr hg hg3 hcap1 hcap2 hcur k0 k1 k2 k3 k4
    obtain ⟨⟨o0, o1, o2, o3, o4⟩, of, ol⟩ := HO3.out.cells
    have of3 := of 3
    go_upto_region 12 with (fail)
    have HO4 := Lib.hid (HO3.out.set3 (.slice (some ⟨g, 0, none⟩) t.args.length cap))
    have HGO : Hid (g ≠ w.heap.size + 2) := by have := HG.out.1; have := HS2.out; show _ ≠ _; omega
    have HR4 := Lib.hid (HR3.out.other (b := w.heap.size + 2) (o := 3) (.slice (some ⟨g, 0, none⟩) t.args.length cap) HGO.out.symm (fun h => by have := HP.out.2.2.2 _ h; omega))
    have HK4 := Lib.hid (HK3.out.other (b' := w.heap.size + 2) (o := 3) (.slice (some ⟨g, 0, none⟩) t.args.length cap) (by omega))
    have HZ4 := Lib.hid (HZ3.out.other (b' := w.heap.size + 2) (o := 3) (.slice (some ⟨g, 0, none⟩) t.args.length cap) (by omega))
    have HB4 : Hid (Below w.heap.size w (w3.setCell ⟨w.heap.size + 2, 3, none⟩ (.slice (some ⟨g, 0, none⟩) t.args.length cap))) := (HB2.out.trans (HB3.out.mono HB2.out.size)).setCell (p := ⟨w.heap.size + 2, 3, none⟩) (Nat.le_add_right _ _) _
    have HF4 : Hid ((w3.setCell ⟨w.heap.size + 2, 3, none⟩ (.slice (some ⟨g, 0, none⟩) t.args.length cap)).heap[g]? = some (.cells cur 24 (0, 0))) := (Below.heap_setCell w3 ⟨w.heap.size + 2, 3, none⟩ _ g HGO.out).trans HFR.out
    have HG4 : Hid (g < (w3.setCell ⟨w.heap.size + 2, 3, none⟩ (.slice (some ⟨g, 0, none⟩) t.args.length cap)).heap.size) := by show _ < _; rw [World.size_setCell]; exact HG.out.2
    clear o0 o1 o2 o3 o4 of ol of3 HO3 HR3 HK3 HZ3
    generalize w3.setCell ⟨w.heap.size + 2, 3, none⟩ (.slice (some ⟨g, 0, none⟩) t.args.length cap) = w4 at *
    have HLT : Hid (n < t.args.length) := by have := HN.out; show _ < _; omega
    obtain ⟨b1, o1, hA1, hR1⟩ := (HT.out.reach HP.out.2.2.2 HB4.out).ar.at_ HLT.out
    obtain ⟨hbS, c0, c1, c2, c4, A5, c5, c3, hv5⟩ := hR1.parts
    have HV5 := Lib.hid hv5
    have HS4 : Hid (∀ k, S k → k < w4.heap.size) := fun k hk => Nat.lt_of_lt_of_le (HP.out.2.2.2 k hk) HB4.out.size
    have HAA : Hid (A = some ⟨b1, o1, none⟩) := hA1
    rw [HAA.out] at HK4
    clear hA1 hR1 hbS hv5
    generalize t.args[n] = u at *
    obtain ⟨⟨k0, k1, k2, k3, k4⟩, _, _⟩ := HK4.out.cells
    have hsub : (t.args.length : Int) - 1 = (n : Int) := by have := HN.out; omega
    have hnz : (n : Int) < (t.args.length : Int) := by have := HN.out; omega
    have hn0 : (0 : Int) ≤ (n : Int) := by omega
    go_upto_region 13 with (fail)
    have HB45 : Hid (Below w4.heap.size w4 (w4.alloc (.cells #[.int .i64 u.kind, .string ⟨u.name.toArray⟩, .string ⟨u.var.toArray⟩, .slice A5 u.args.length c5, .string ⟨u.form.toArray⟩] 24))) := (Below.refl _ _).alloc (Nat.le_refl _) _
    have HU5 : Hid (Bk (w4.alloc (.cells #[.int .i64 u.kind, .string ⟨u.name.toArray⟩, .string ⟨u.var.toArray⟩, .slice A5 u.args.length c5, .string ⟨u.form.toArray⟩] 24)) w4.heap.size (.int .i64 u.kind) (.string ⟨u.name.toArray⟩) (.string ⟨u.var.toArray⟩) (.slice A5 u.args.length c5) (.string ⟨u.form.toArray⟩)) := Bk.new w4 _ _ _ _ _
    have HB5 := Lib.hid (HB4.out.trans (HB45.out.mono HB4.out.size))
    have HO5 := Lib.hid (HO4.out.reach HB45.out)
    have HK5 := Lib.hid (HK4.out.reach HB45.out)
    have HZ5 := Lib.hid (HZ4.out.reach HB45.out)
    have HR5 := Lib.hid (HR4.out.reach HB45.out HG4.out HS4.out)
    have HF5 := Lib.hid ((HB45.out.block g HG4.out).trans HF4.out)
    have HV6 := Lib.hid (HV5.out.reach HS4.out HB45.out)
    have HS5 : Hid (∀ k, S k → k < (w4.alloc (.cells #[.int .i64 u.kind, .string ⟨u.name.toArray⟩, .string ⟨u.var.toArray⟩, .slice A5 u.args.length c5, .string ⟨u.form.toArray⟩] 24)).heap.size) := fun k hk => Nat.lt_of_lt_of_le (HS4.out k hk) HB45.out.size
    obtain ⟨bb, hbb⟩ : ∃ bb, bb = w4.heap.size := ⟨_, rfl⟩
    have HG5 : Hid (g < bb ∧ w.heap.size + 2 < bb ∧ bb < (w4.alloc (.cells #[.int .i64 u.kind, .string ⟨u.name.toArray⟩, .string ⟨u.var.toArray⟩, .slice A5 u.args.length c5, .string ⟨u.form.toArray⟩] 24)).heap.size) := ⟨by rw [hbb]; exact HG4.out, by rw [hbb]; exact HO4.out.cells.2.2, by rw [hbb]; exact HU5.out.cells.2.2⟩
    rw [← hbb] at HU5 ⊢
    clear hbb HB45 HO4 HK4 HZ4 HR4 HF4 HS4 HG4 HV5 HB4 k0 k1 k2 k3 k4 c0 c1 c2 c3 c4
    generalize (w4.alloc (.cells #[.int .i64 u.kind, .string ⟨u.name.toArray⟩, .string ⟨u.var.toArray⟩, .slice A5 u.args.length c5, .string ⟨u.form.toArray⟩] 24)) = w5 at *
    have HUZ : Hid (u.size ≤ 2600) := by have := HWS.out.2; have := HP.out.2.1; show _ ≤ _; omega
    have HC41 := Lib.hid (free41_any u A5 c5 w5 (HV6.out.tv HS5.out) HWS.out.1 (by have := HUZ.out; omega))
    have HFW : Hid (Wds (frL u)) := fun x hx => ident_word ((frL_ok u HWS.out.1).2 x hx)
    have HFL : Hid ((frL u).length ≤ 2600) := by have := frL_len u; have := HUZ.out; show _ ≤ _; omega
    have HNM : Hid (pickW u p = freshL (moreL (p % 5) (frL u))) := rfl
    unfold tv at HC41
    generalize frL u = fr at *
    obtain ⟨⟨u0, u1, u2, u3, u4⟩, _, _⟩ := HU5.out.cells
    go_wp2_with fail
    refine HC41.out.mono ?_
    rintro e w6 ⟨v6, rfl, hs6, hb6⟩
    have HL6 := Lib.hid hs6
    have HB6 := Lib.hid hb6
    have hrem : (p : Int).tmod 5 = ((p % 5 : Nat) : Int) := (Int.ofNat_tmod p 5).symm
    have HR : Hid (p % 5 ≤ 4) := by show _ ≤ _; omega
    clear hs6 hb6 HC41 u0 u1 u2 u3 u4
    generalize p % 5 = q at *
    go_wp2_with fail
    go_loopg [10, 11] q (fun gg s10 s11 wr => ∃ (i : Nat), i ≤ q ∧ q - i ≤ gg ∧ s11 = .int .i64 i ∧ Aside (SL wr wr.heap.size s10 (moreL i fr)) ∧ Aside (Below w5.heap.size w5 wr))
    case atStart => exact ⟨0, Nat.zero_le _, by omega, rfl, HL6.out, HB6.out⟩
    case round =>
      obtain ⟨i, hi, hgg, rfl, HL7, HB7⟩ := hrel
      have HML : Hid ((moreL i fr).length ≤ 2700) := by have := moreL_len i fr; have := HFL.out; have := HR.out; show _ ≤ _; omega
      have HMW := Lib.hid (more_wds i fr HFW.out (by have := HFL.out; have := HR.out; omega))
      have HC27 := Lib.hid (fresh27_any _ (moreL i fr) wr HL7.out (by have := HML.out; omega))
      by_cases hlt : i < q
      · have hltz : (i : Int) < (q : Int) := by omega
        have HMS := Lib.hid (more_snoc fr i)
        have HFI : Hid (wordB (freshL (moreL i fr)) = true) := ident_word (fresh_ident _ (by have := HML.out; omega))
        generalize moreL i fr = ml at *
        generalize freshL ml = fm at *
        go_wp2_with fail
        refine HC27.out.mono ?_
        rintro e w8 ⟨rfl, hb8⟩
        have HB8 := Lib.hid hb8
        go_wp2_with fail
        refine (with44_any _ ml fm w8 ((HL7.out.below HB8.out).more HB8.out.size) (by have := HML.out; omega) HMW.out HFI.out).mono ?_
        rintro e w9 ⟨v9, rfl, hs9, hb9⟩
        have HL9 : Hid (SL w9 w9.heap.size v9 (moreL (i + 1) fr)) := by rw [HMS.out]; exact hs9
        have HB9 := Lib.hid (HB7.out.trans ((HB8.out.trans (hb9.mono HB8.out.size)).mono HB7.out.size))
        clear hs9 hb9
        have hq4 : q ≤ 4 := HR.out
        go_wp2_with fail
        go_roundg (q - (i + 1))
        case measure => omega
        case rel => exact ⟨i + 1, by omega, by omega, by go_num, HL9.out, HB9.out⟩
      · have hltz : ¬ (i : Int) < (q : Int) := by omega
        have hiq : i = q := by omega
        have HNI : Hid (identB (pickW u p) = true) := (pick_spec u p (by have := HUZ.out; omega)).1
        rw [hiq, ← HNM.out] at HC27
        clear HNM HMW HML HL7 HL6 HFL HFW hiq
        generalize pickW u p = nm at *
        go_wp2_with fail
        refine HC27.out.mono ?_
        rintro e w8 ⟨rfl, hb8⟩
        have HB8 := Lib.hid (HB7.out.trans (hb8.mono HB7.out.size))
        have HO8 := Lib.hid (HO5.out.reach HB8.out)
        have HK8 := Lib.hid ((HK5.out.reach HB8.out).other (b' := w.heap.size + 2) (o := 2) (.string ⟨nm.toArray⟩) (by omega))
        have HZ8 := Lib.hid ((HZ5.out.reach HB8.out).other (b' := w.heap.size + 2) (o := 2) (.string ⟨nm.toArray⟩) (by omega))
        have HU8 := Lib.hid ((HU5.out.reach HB8.out).other (b' := w.heap.size + 2) (o := 2) (.string ⟨nm.toArray⟩) (by have := HG5.out.2.1; omega))
        have HNS : Hid (¬ S (w.heap.size + 2)) := fun h => by have := HP.out.2.2.2 _ h; omega
        have HG8 : Hid (g < w5.heap.size) := Nat.lt_trans HG5.out.1 HG5.out.2.2
        have HR8 := Lib.hid ((HR5.out.reach HB8.out HG8.out HS5.out).other (b := w.heap.size + 2) (o := 2) (.string ⟨nm.toArray⟩) HGO.out.symm HNS.out)
        have HF8 : Hid ((w8.setCell ⟨w.heap.size + 2, 2, none⟩ (.string ⟨nm.toArray⟩)).heap[g]? = some (.cells cur 24 (0, 0))) := (Below.heap_setCell w8 ⟨w.heap.size + 2, 2, none⟩ _ g HGO.out).trans ((HB8.out.block g HG8.out).trans HF5.out)
        have HV8 := Lib.hid ((HV6.out.reach HS5.out HB8.out).set (w.heap.size + 2) 2 (.string ⟨nm.toArray⟩) HNS.out)
        have HO9 := Lib.hid (HO8.out.set2 (.string ⟨nm.toArray⟩))
        have HB9 : Hid (Below w.heap.size w (w8.setCell ⟨w.heap.size + 2, 2, none⟩ (.string ⟨nm.toArray⟩))) := (HB5.out.trans (HB8.out.mono HB5.out.size)).setCell (p := ⟨w.heap.size + 2, 2, none⟩) (Nat.le_add_right _ _) _
        have HSZ8 : Hid (w5.heap.size ≤ (w8.setCell ⟨w.heap.size + 2, 2, none⟩ (.string ⟨nm.toArray⟩)).heap.size) := by show _ ≤ _; rw [World.size_setCell]; exact HB8.out.size
        obtain ⟨⟨o0, o1, o2, o3, o4⟩, of, ol⟩ := HO8.out.cells
        have of2 := of 2
        clear hb8 HC27
        go_upto_region 19 with (fail)
        clear o0 o1 o2 o3 o4 of ol of2 HO8 HO5 HK5 HZ5 HU5 HR5 HF5 HV6 HB5 HB8 HB7 HB6
        generalize w8.setCell ⟨w.heap.size + 2, 2, none⟩ (.string ⟨nm.toArray⟩) = w9 at *
        have HS9 : Hid (∀ k, S k → k < w9.heap.size) := fun k hk => Nat.lt_of_lt_of_le (HS5.out k hk) HSZ8.out
        have HG9 : Hid (g < w9.heap.size) := Nat.lt_of_lt_of_le HG8.out HSZ8.out
        have HCL := Lib.hid fun w' (hb : Below w9.heap.size w9 w') => rsubst_aux u.size u (vrT nm) t.var (Nat.le_refl _) HWS.out.1 (vrT_wf HNI.out) (by rw [vrT_size]; have := HUZ.out; omega) HVI.out S A5 c5 none 0 w' (fun k hk => Nat.lt_of_lt_of_le (HS9.out k hk) hb.size) (HV8.out.reach HS9.out hb) ⟨⟨Nat.le_refl _, (show (0 : Nat) ≤ 9223372036854775807 by omega)⟩, fun h => absurd rfl h⟩
        have HE2 : Hid (tv (vrT nm) none 0 = #[.int .i64 2, .string ⟨nm.toArray⟩, .string ⟨#[]⟩, .slice none 0 0, .string ⟨#[]⟩]) := rfl
        rw [HE2.out] at HCL
        unfold tv at HCL
        generalize sub u.size u t.var (vrT nm) = r at *
        have HKP := Lib.hid fun w' (hb : Below w9.heap.size w9 w') => And.intro ((HO9.out.reach hb).cells.1.2.2.2.1) (And.intro ((HO9.out.reach hb).cells.1.2.2.1) (And.intro ((HK8.out.reach hb).cells.1.2.2.1) ((HU8.out.reach hb).cells.1)))
        refine wp_region_noPanic ?_
        refine wp_region_L 14 (fun w' => w'.cell? ⟨w.heap.size + 2, 3, none⟩ = some (.slice (some ⟨g, 0, none⟩) t.args.length cap) ∧ w'.cell? ⟨w.heap.size + 2, 2, none⟩ = some (.string ⟨nm.toArray⟩) ∧ w'.cell? ⟨w.heap.size, 2, none⟩ = some (.string ⟨t.var.toArray⟩) ∧ w'.cell? ⟨bb, 0, none⟩ = some (.int .i64 u.kind) ∧ w'.cell? ⟨bb, 1, none⟩ = some (.string ⟨u.name.toArray⟩) ∧ w'.cell? ⟨bb, 2, none⟩ = some (.string ⟨u.var.toArray⟩) ∧ w'.cell? ⟨bb, 3, none⟩ = some (.slice A5 u.args.length c5) ∧ w'.cell? ⟨bb, 4, none⟩ = some (.string ⟨u.form.toArray⟩)) (by kernel_rfl) ?_
        have hwr : IntKind.i64.wrap (n : Int) = (n : Int) := by rw [IntKind.wrap_i64]; have := HN.out; omega
        have hS0 := HKP.out _ (below_dr (Below.refl _ _))
        simp only [List.size_toArray, List.length_cons, List.length_nil, Nat.zero_add, Nat.reduceAdd]
        refine wpAnyL_take (i := 0) (v := ?vr0) rfl (by kernel_rfl) (by kernel_rfl) (by kernel_rfl) (by kernel_rfl) (fun _ _ _ h => h) (Or.inl ⟨by rfl, ?hr0⟩) hS0 ?rr0
        case hr0 => (intro w' hSw; (try dsimp only at hSw); go_simp; all_goals with_reducible rfl)
        try dsimp only [Act.put]
        refine wpAnyL_take (i := 1) (v := ?vr1) rfl (by kernel_rfl) (by kernel_rfl) (by kernel_rfl) (by kernel_rfl) (fun _ _ _ h => h) (Or.inl ⟨by rfl, ?hr1⟩) hS0 ?rr1
        case hr1 => (intro w' hSw; (try dsimp only at hSw); go_simp; all_goals with_reducible rfl)
        try dsimp only [Act.put]
        refine wpAnyL_take (i := 2) (v := ?vr2) rfl (by kernel_rfl) (by kernel_rfl) (by kernel_rfl) (by kernel_rfl) (fun _ _ _ h => h) (Or.inl ⟨by rfl, ?hr2⟩) hS0 ?rr2
        case hr2 => (intro w' hSw; (try dsimp only at hSw); go_simp; all_goals with_reducible rfl)
        try dsimp only [Act.put]
        refine wpAnyL_take (i := 3) (v := ?vr3) rfl (by kernel_rfl) (by kernel_rfl) (by kernel_rfl) (by kernel_rfl) (fun _ _ _ h => h) (Or.inl ⟨by rfl, ?hr3⟩) hS0 ?rr3
        case hr3 => (intro w' hSw; (try dsimp only at hSw); go_simp; all_goals with_reducible rfl)
        try dsimp only [Act.put]
        refine wpAnyL_take (i := 4) (v := ?vr4) rfl (by kernel_rfl) (by kernel_rfl) (by kernel_rfl) (by kernel_rfl) (fun _ _ _ h => h) (Or.inl ⟨by rfl, ?hr4⟩) hS0 ?rr4
        case hr4 => (intro w' hSw; (try dsimp only at hSw); go_simp; all_goals with_reducible rfl)
        try dsimp only [Act.put]
        refine wpAnyL_take (i := 5) (v := ?vr5) rfl (by kernel_rfl) (by kernel_rfl) (by kernel_rfl) (by kernel_rfl) (fun _ _ _ h => h) (Or.inl ⟨by rfl, ?hr5⟩) hS0 ?rr5
        case hr5 => (intro w' hSw; (try dsimp only at hSw); go_simp; all_goals with_reducible rfl)
        try dsimp only [Act.put]
        refine wpAnyL_take (i := 6) (v := ?vr6) rfl (by kernel_rfl) (by kernel_rfl) (by kernel_rfl) (by kernel_rfl) (fun _ _ _ h => h) (Or.inl ⟨by rfl, ?hr6⟩) hS0 ?rr6
        case hr6 => (intro w' hSw; (try dsimp only at hSw); go_simp; all_goals with_reducible rfl)
        try dsimp only [Act.put]
        refine wpAnyL_take (i := 7) (v := ?vr7) rfl (by kernel_rfl) (by kernel_rfl) (by kernel_rfl) (by kernel_rfl) (fun _ _ _ h => h) (Or.inl ⟨by rfl, ?hr7⟩) hS0 ?rr7
        case hr7 => (intro w' hSw; (try dsimp only at hSw); go_simp; all_goals with_reducible rfl)
        try dsimp only [Act.put]
        refine wpAnyL_take (i := 8) (v := ?vr8) rfl (by kernel_rfl) (by kernel_rfl) (by kernel_rfl) (by kernel_rfl) (fun _ _ _ h => h) (Or.inl ⟨by rfl, ?hr8⟩) hS0 ?rr8
        case hr8 => (intro w' hSw; (try dsimp only at hSw); go_simp; all_goals with_reducible rfl)
        try dsimp only [Act.put]
        refine wpAnyL_take (i := 9) (v := ?vr9) rfl (by kernel_rfl) (by kernel_rfl) (by kernel_rfl) (by kernel_rfl) (fun _ _ _ h => h) (Or.inl ⟨by rfl, ?hr9⟩) hS0 ?rr9
        case hr9 => (intro w' hSw; (try dsimp only at hSw); go_simp; all_goals with_reducible rfl)
        try dsimp only [Act.put]
        refine wpAnyL_take (i := 10) (v := ?vr10) rfl (by kernel_rfl) (by kernel_rfl) (by kernel_rfl) (by kernel_rfl) (fun _ _ _ h => h) (Or.inl ⟨by rfl, ?hr10⟩) hS0 ?rr10
        case hr10 => (intro w' hSw; (try dsimp only at hSw); go_simp; all_goals with_reducible rfl)
        try dsimp only [Act.put]
        refine wpAnyL_take (i := 11) (v := ?vr11) rfl (by kernel_rfl) (by kernel_rfl) (by kernel_rfl) (by kernel_rfl) (fun _ _ _ h => h) (Or.inl ⟨by rfl, ?hr11⟩) hS0 ?rr11
        case hr11 => (intro w' hSw; (try dsimp only at hSw); go_simp; all_goals with_reducible rfl)
        try dsimp only [Act.put]
        refine wpAnyL_step (i := 12) (by kernel_rfl) rfl ?_
        intro K hK
        go_simp
        go_wp2_with (go_at_call 35; (refine (HCL.out _ (below_dr (Below.refl w9.heap.size w9))).mono ?_); rintro e wc ⟨A9, c9, rfl, hv9, hb9⟩)
        have hb9w : Below w9.heap.size w9 wc := (below_dr (Below.refl w9.heap.size w9)).trans hb9
        have HV9 := Lib.hid hv9
        have HBc := Lib.hid hb9w
        refine hK.out _ _ (HKP.out _ hb9w) (fun _ => ?_)
        clear hK K hv9 hb9 
        refine wpAnyL_step (i := 13) (by kernel_rfl) rfl ?_
        intro K hK
        go_simp
        refine hK.out _ _ (HKP.out _ hb9w) (fun _ => ?_)
        clear hK K hb9w
        have HRc := Lib.hid (HR8.out.reach HBc.out HG9.out HS9.out)
        have HGc : Hid (g < wc.heap.size) := Nat.lt_of_lt_of_le HG9.out HBc.out.size
        have HOc := Lib.hid (HO9.out.reach HBc.out)
        have HZc := Lib.hid (HZ8.out.reach HBc.out)
        have HLL : Hid (l.length = t.args.length) := by have := congrArg List.length HL.out; rwa [List.length_map] at this
        obtain ⟨y, hy⟩ : ∃ y, l[n]? = some y := ⟨_, List.getElem?_eq_getElem (by have := HLL.out; omega)⟩
        have HYc := Lib.hid (HRc.out n y hy).1
        have y0 := HYc.out 0 _ rfl
        have y1 := HYc.out 1 _ rfl
        have y2 := HYc.out 2 _ rfl
        have y3 := HYc.out 3 _ rfl
        have y4 := HYc.out 4 _ rfl
        rw [Nat.add_zero] at y0
        have HFc := Lib.hid (frozen_not ((HBc.out.block g HG9.out).trans HF8.out))
        have f0 := HFc.out (n * 5)
        have f1 := HFc.out (n * 5 + 1)
        have f2 := HFc.out (n * 5 + 2)
        have f3 := HFc.out (n * 5 + 3)
        have f4 := HFc.out (n * 5 + 4)
        refine wpAnyL_last (by kernel_rfl) rfl (by kernel_rfl) ?_
        intro K hK
        go_simp
        refine hK.out _ _ ?_
        refine NoPanic.normal ?_
        clear hK K
        have hSg : ¬ Nw S w9.drew wc g := fun h => by
          rcases h with h | h
          · have := HP.out.2.2.2 _ h; have := HG.out.1; have := HS2.out; omega
          · have h1 : w9.heap.size ≤ g := h.1
            have := HG9.out; omega
        have hlr := (HRc.out.wider (S' := Nw S w9.drew wc) (fun k hk => .inl hk)).set hSg ⟨r, A9, c9⟩ HV9.out n (by have := HLL.out; omega)
        have hb10 : Below w.heap.size w (set5g wc g (n * 5) (.int .i64 r.kind) (.string ⟨r.name.toArray⟩) (.string ⟨r.var.toArray⟩) (.slice A9 r.args.length c9) (.string ⟨r.form.toArray⟩)) := by
          unfold set5g
          have hb := HB9.out.trans (HBc.out.mono HB9.out.size)
          have hle : w.heap.size ≤ g := by have := HG.out.1; have := HS2.out; omega
          exact ((((hb.setCell (p := ⟨g, _, none⟩) hle _).setCell (p := ⟨g, _, none⟩) hle _).setCell (p := ⟨g, _, none⟩) hle _).setCell (p := ⟨g, _, none⟩) hle _).setCell (p := ⟨g, _, none⟩) hle _
        have hz10 : Bk (set5g wc g (n * 5) (.int .i64 r.kind) (.string ⟨r.name.toArray⟩) (.string ⟨r.var.toArray⟩) (.slice A9 r.args.length c9) (.string ⟨r.form.toArray⟩)) (w.heap.size + 1) (.int .i64 0) (.string ⟨#[]⟩) (.string ⟨#[]⟩) (.slice none 0 0) (.string ⟨#[]⟩) := (set5g_heap _ _ _ _ _ _ _ _ _ (by have := HG.out.1; have := HS2.out; omega)).trans HZc.out
        have ho10 : Bk (set5g wc g (n * 5) (.int .i64 r.kind) (.string ⟨r.name.toArray⟩) (.string ⟨r.var.toArray⟩) (.slice A9 r.args.length c9) (.string ⟨r.form.toArray⟩)) (w.heap.size + 2) (.int .i64 t.kind) (.string ⟨t.name.toArray⟩) (.string ⟨nm.toArray⟩) (.slice (some ⟨g, 0, none⟩) t.args.length cap) (.string ⟨t.form.toArray⟩) := (set5g_heap _ _ _ _ _ _ _ _ _ HGO.out.symm).trans HOc.out
        have hsz : wc.heap.size = (set5g wc g (n * 5) (.int .i64 r.kind) (.string ⟨r.name.toArray⟩) (.string ⟨r.var.toArray⟩) (.slice A9 r.args.length c9) (.string ⟨r.form.toArray⟩)).heap.size := by unfold set5g; simp
        have hwe : (((((wc.setCell ⟨g, n * 5, none⟩ (.int .i64 r.kind)).setCell ⟨g, n * 5 + 1, none⟩ (.string ⟨r.name.toArray⟩)).setCell ⟨g, n * 5 + 2, none⟩ (.string ⟨r.var.toArray⟩)).setCell ⟨g, n * 5 + 3, none⟩ (.slice A9 r.args.length c9)).setCell ⟨g, n * 5 + 4, none⟩ (.string ⟨r.form.toArray⟩)) = set5g wc g (n * 5) (.int .i64 r.kind) (.string ⟨r.name.toArray⟩) (.string ⟨r.var.toArray⟩) (.slice A9 r.args.length c9) (.string ⟨r.form.toArray⟩) := rfl
        rw [hwe]
        generalize set5g wc g (n * 5) (.int .i64 r.kind) (.string ⟨r.name.toArray⟩) (.string ⟨r.var.toArray⟩) (.slice A9 r.args.length c9) (.string ⟨r.form.toArray⟩) = w10 at *
        have HR10 := Lib.hid hlr
        have HB10 := Lib.hid hb10
        have HZ10 := Lib.hid hz10
        have HO10 := Lib.hid ho10
        have HSZ := Lib.hid (And.intro hsz hSg)
        clear hlr hb10 hz10 ho10 hsz hwe hSg y0 y1 y2 y3 y4 f0 f1 f2 f3 f4 HKP HCL hS0
        obtain ⟨⟨o0, o1, o2, o3, o4⟩, _, _⟩ := HO10.out.cells
        obtain ⟨⟨q0, q1, q2, q3, q4⟩, qf, ql⟩ := HZ10.out.cells
        go_wp2_with fail
        rw [HY.out]
        exact bodyPost_ret (v := .agg (tv (.mk t.kind t.name nm (t.args.set n r) t.form) (some ⟨g, 0, none⟩) cap)) (by simp [results, Tryz.results12, go_sem, tv, T.kind, T.name, T.var, T.args, T.form, List.length_set, q0, q1, q2, q3, q4]) rfl ⟨_, _, rfl, (TVS.set5 (S := fun k => Nw S w9.drew wc k ∨ k = g) (TVS.mk (by show (t.args.set n r).length ≤ cap ∧ _; rw [List.length_set]; exact HCP.out) (by
          have h := HR10.out.tas (S' := fun k => Nw S w9.drew wc k ∨ k = g) (fun k hk => .inl hk) (.inr rfl)
          rw [map_set, HL.out] at h; exact h)) (w.heap.size + 1) _ _ _ _ _ (fun h => by
            have h4 := HB9.out.size
            have h2 := HS2.out
            have hg := HG.out.1
            have h3 : w2.heap.size ≤ w9.heap.size := Nat.le_trans hg (Nat.le_of_lt HG9.out)
            rcases h with (h | h) | h
            · have := HP.out.2.2.2 _ h; omega
            · have h1 : w9.heap.size ≤ w.heap.size + 1 := h.1
              omega
            · omega)).wider (fun k hk => by
            rcases hk with (h | h) | h
            · exact .inl h
            · exact .inr ⟨Nat.le_trans HB9.out.size h.1, by rw [size_set5, ← HSZ.out.1]; exact h.2⟩
            · refine .inr ⟨by have := HG.out.1; have := HS2.out; omega, ?_⟩
              rw [size_set5, ← HSZ.out.1, h]; exact HGc.out), below5s HB10.out (by omega) _ _ _ _ _⟩
  · have hb5 : (t.kind != 5) = true := by simp [hk5]
    have HY : Hid (ren [] t p = t) := ren_nil_not t p hk5
    obtain ⟨⟨q0, q1, q2, q3, q4⟩, qf, ql⟩ := HZ1.out.cells
    clear hk5
    go_wp2_with fail
    rw [HY.out]
    exact bodyPost_ret (v := .agg (tv t A c)) (by simp [results, Tryz.results12, go_sem, tv, q0, q1, q2, q3, q4]) rfl ⟨A, c, rfl, ((HT.out.reach HP.out.2.2.2 HB1.out).set5 (w.heap.size + 1) _ _ _ _ _ (fun h => by have := HP.out.2.2.2 _ h; omega)).wider (fun k hk => .inl hk), below5s HB1.out (by omega) _ _ _ _ _⟩
theorem ren32_all : ∀ path : List Int, RenC path
  | [] => ren32_nil
  | i :: path => ren32_cons i path (ren32_all path)
/-- Rename of a valid term -/
theorem ren32_any (path : List Int) (t : T) (p : Nat) (h : validB t = true) (hp : p ≤ 255) (A : Option Addr) (c : Nat) (v : Value) (w : World) (hv : TV w w.heap.size t A c) (hpi : PI w w.heap.size v path) :
    Calls Tryz.prog 12 #[.agg (tv t A c), v, .int .i64 p] w fun e w' => ∃ A9 c9, e = .returned (.agg (tv (ren path t p) A9 c9)) ∧ TV w' w'.heap.size (ren path t p) A9 c9 ∧ Below w.heap.size w w' := by
  refine (ren32_all path t p ((valid_iff t).1 h).1 (by have := ((valid_iff t).1 h).2; omega) hp (fun k => k < w.heap.size) A c v w (fun _ hk => hk) hv.set hpi).mono ?_
  rintro e w' ⟨A9, c9, h1, h2, h3⟩
  exact ⟨A9, c9, h1, h2.tv (fun k hk => hk.elim (fun h => Nat.lt_of_lt_of_le h h3.size) (fun h => h.2)), h3⟩
end Go.Proofs.YtknpigdpepmimaaGreatDoor
namespace Go.Proofs.YtknpigdpepmimaaGreatDoor
open Go.RowKit Go.ChangeShapes Go.WideShapes Go.ChangeAt Go.Deep
section
variable {H : Type} {enc : TypeId × Value → H} {w : World} {base : Nat} {spare : Nat → Bool} {held : Bool}
set_option maxRecDepth 100000 in
theorem open_ints1 {fuel : Nat} {v : Value} {x : DataW H × List MemPlace} (hf : DataW.trod enc Tryz.prog w base spare held fuel 29 [v] = some x) : ∃ p : List Int, PI w w.heap.size v p := by
  rcases open_slice1 Tryz.underlying29 cells3 hf with ⟨hcs, _⟩ | ⟨a, len0, cap0, m, n, V, D, Pl, hcs, hb, hl, hm, hmm, hx, hi⟩
  · simp at hcs
    subst hcs
    exact ⟨[], none, 0, rfl, ⟨Nat.le_refl _, by omega⟩, fun hne => absurd rfl hne⟩
  · simp at hcs
    subst hcs
    have hlm : len0 ≤ m := by rw [hmm]; split <;> omega
    have hex : ∀ i, ∃ x : Int, i < len0 → w.cell? (a.add i) = some (.int .i64 x) := by
      intro i
      by_cases hil : i < len0
      · obtain ⟨hc, ht⟩ := hi i (by omega)
        obtain ⟨k, hk, _, _⟩ := DataW.trod_int Tryz.underlying3 ht
        simp at hk
        exact ⟨k, fun _ => by rw [hc, hk]⟩
      · exact ⟨0, fun h => absurd h hil⟩
    obtain ⟨f, hff⟩ := Classical.axiomOfChoice hex
    have hlen : ((List.range len0).map f).length = len0 := by simp
    refine ⟨(List.range len0).map f, some a, cap0, by rw [hlen], ⟨by rw [hlen]; exact hl, by unfold maxLen at hm; omega⟩, fun hne => ?_⟩
    have hpos : 0 < len0 := by
      rcases Nat.eq_zero_or_pos len0 with h0 | h0
      · subst h0; exact absurd rfl hne
      · exact h0
    have hsp := hff 0 hpos
    simp [Addr.add] at hsp
    have ha := addr_spot hsp
    refine ⟨a.block, a.off, by rw [← ha], World.block_lt_of_cell? w a hsp, fun j hj => ?_⟩
    have hj' : j < len0 := by rw [hlen] at hj; exact hj
    have := hff j hj'
    rw [ha, addr_add] at this
    rw [this]
    simp
end
end Go.Proofs.YtknpigdpepmimaaGreatDoor
namespace Go.Proofs.YtknpigdpepmimaaGreatDoor
open Go.RowKit
end Go.Proofs.YtknpigdpepmimaaGreatDoor
