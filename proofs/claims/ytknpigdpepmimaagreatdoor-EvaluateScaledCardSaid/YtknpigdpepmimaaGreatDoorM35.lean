/- Contract of bind 82 at other names; contracts of term 41 and bind 82 by induction. A region that draws its order: operations that are quiet in a class of worlds, in whatever order, and then a tail in one forced order. The order of a large region that draws, checked by three small tables of numbers. -/
import Derived.Test.YtknpigdpepmimaaGreatDoorM33
import Derived.Test.YtknpigdpepmimaaGreatDoorM34
import Derived.Lib.QuietBelow
import Derived.BigQuiet
import Derived.StillTail
import Derived.Deep.Quiet
import Derived.Test.YtknpigdpepmimaaGreatDoorM14
namespace Go.Proofs.YtknpigdpepmimaaGreatDoor
open Go.RowKit Go.Maps
set_option maxRecDepth 100000 in
set_option maxHeartbeats 4000000 in
theorem bind_else {xb nb ob B0 : Nat} {E : Sc} {N : Nat} (IH : TermC xb nb ob B0 E N) (t : T) (hw : WF t) (hk : t.kind = 5) (hn1 : ¬ t.name = sumW) (hn2 : ¬ t.name = prodW) (s : Sc) (p : Value) (c b o : Nat) (w : World) (hok : (s ++ E).ok) (ht : TR w B0 b o t) (hx : Cx w xb nb ob B0 E c) (hs : SCP w (SS w xb) s p) :
    Calls Tryz.prog 82 #[.pointer (some ⟨xb, 0, none⟩), .pointer (some ⟨b, o, none⟩), p] w fun e w' => Left w w' xb nb ob (ev t (s ++ E) c) e := by
  obtain ⟨p, rfl⟩ : ∃ q, p = .pointer q := by
    cases s with
    | nil => exact ⟨none, hs⟩
    | cons x s => obtain ⟨b, q, e, _⟩ := hs; exact ⟨_, e⟩
  have HO := Lib.hid (own_short' hw.parts.1)
  obtain ⟨hb, d0, d1, d2, d4, A, ca, d3, hca, hta⟩ := ht.parts
  have hbx : b ≠ xb := by have := hx.hB; omega
  have hbw : b < w.heap.size := by have := hx.hB; have := hx.xlt; omega
  have HB := Lib.hid (b1 w (.cells #[.int .i64 0, .int .i64 0, .int .i64 0, .int .i64 0, .int .i64 0, .int .i64 0, .int .i64 0, .int .i64 0, .int .i64 0, .slice none 0 0, .int .i64 0] 86))
  have HK := Lib.hid (K11.zero w)
  have HX := Lib.hid (hx.reach HB.out)
  have HX0 := Lib.hid hx.xlt
  have HIH := Lib.hid IH
  have HOKs := Lib.hid hok
  have HWH := Lib.hid fun n w => whole_any n w
  unfold V.cells whV zD at HWH
  have HG : Hid (ev t (s ++ E) c = bindG t.name (evs t.args (s ++ E)) (evh t.args t.var (s ++ E)) c) := by show _ = _; rw [ev_eq, hk]; rfl
  unfold Left
  go_enter Tryz.func82, Tryz.ntmps82
  go_upto_region 1 with (fail)
  generalize w.alloc (.cells #[.int .i64 0, .int .i64 0, .int .i64 0, .int .i64 0, .int .i64 0, .int .i64 0, .int .i64 0, .int .i64 0, .int .i64 0, .slice none 0 0, .int .i64 0] 86) = w1 at *
  go_wp2_with fail
  refine (HWH.out 0 _).mono ?_
  rintro e w2 ⟨rfl, hb2⟩
  go_upto_region 2 with (fail)
  have hb3 := bl_tr hb2 (b1 w2 (.cells #[.int .i64 0, .int .i64 1, .int .i64 0, .int .i64 0, .int .i64 0, .int .i64 0, .int .i64 0, .int .i64 0, .int .i64 0] 44))
  have hb03 := bl_tr HB.out hb3
  have hk8 : (w2.alloc (.cells #[.int .i64 0, .int .i64 1, .int .i64 0, .int .i64 0, .int .i64 0, .int .i64 0, .int .i64 0, .int .i64 0, .int .i64 0] 44)).heap[w2.heap.size]? = some (.cells (whV 0).cells 44 (0, 0)) := heap_alloc_new w2 _
  have hs1 : w.heap.size < w1.heap.size := HK.out.cells.2.2
  have hs2 := hb2.size
  have hli : LJ w (w2.alloc (.cells #[.int .i64 0, .int .i64 1, .int .i64 0, .int .i64 0, .int .i64 0, .int .i64 0, .int .i64 0, .int .i64 0, .int .i64 0] 44)) xb nb ob B0 (w2.alloc (.cells #[.int .i64 0, .int .i64 1, .int .i64 0, .int .i64 0, .int .i64 0, .int .i64 0, .int .i64 0, .int .i64 0, .int .i64 0] 44)).heap.size E s (.pointer p) b o w2.heap.size (.cells (whV 0).cells 44 (0, 0)) A ca t.args c :=
    ⟨hx.reach hb03, hs.keep (fun k hk => ⟨hk, hb03.block k hk.2⟩), HK.out.reach hb3, hk8, (hb03.cell (p := ⟨b, o + 3, none⟩) hbw).trans d3, (fun hne => by
      obtain ⟨b', o', e, h⟩ := hta hne
      exact ⟨b', o', e, h.below (hx.term (grown_of_below hb03 _))⟩), grown_of_below hb03 _, by have := hx.xlt; omega, hbx, ⟨hx.nlt, hx.olt, hx.xlt, hbw, by simp, by simp; omega, Nat.le_refl _⟩⟩
  have HTR := Lib.hid (ht.below (hx.term (grown_of_below hb03 _)))
  have HLJ := Lib.hid hli
  have HM8 : Hid (w.heap.size < w2.heap.size) := Nat.lt_of_lt_of_le hs1 hs2
  have HD1 := Lib.hid ((hb03.cell (p := ⟨b, o + 1, none⟩) hbw).trans d1)
  have HD2 := Lib.hid ((hb03.cell (p := ⟨b, o + 2, none⟩) hbw).trans d2)
  have HVL := Lib.hid (var_short hw.parts.1)
  have HBW := Lib.hid hbw
  clear hb2 hb3 hb03 hk8 hs1 hs2 hli d0 d1 d2 d3 d4 hta hx hs ht hb hok IH hbw
  generalize w2.heap.size = mb at *
  generalize w2.alloc (.cells #[.int .i64 0, .int .i64 1, .int .i64 0, .int .i64 0, .int .i64 0, .int .i64 0, .int .i64 0, .int .i64 0, .int .i64 0] 44) = w3 at *
  have hd1 := HD1.out
  generalize t.name = n at *
  have hb1 : (n == [115, 117, 109]) = false := by simpa [sumW] using hn1
  have hb2 : (n == [112, 114, 111, 100]) = false := by simpa [prodW] using hn2
  have HG2 : Hid (ev t (s ++ E) c = (erR 15, c)) := by
    show _ = _
    rw [HG.out]; unfold bindG; rw [if_neg (fun h => h.elim hn1 hn2)]
  clear hn1 hn2
  obtain ⟨⟨z0, z1, z2, z3, z4, z5, z6, z7, z8, z9, z10⟩, zf, _⟩ := HLJ.out.k6.cells
  go_wp2_with fail
  rw [HG2.out]
  refine bodyPost_ret (v := .agg (R.cells (erR 15) (.slice none 0 0))) (by simp [results, Tryz.results82, go_sem, R.cells, erR, zV, zD, z0, z1, z2, z3, z4, z5, z6, z7, z8, z9, z10]) rfl ⟨_, rfl, ((BO.nil w3 (w.heap.size + 1)).set11 (Nat.lt_succ_self _) (erR 15) (.slice none 0 0)).less (Nat.le_succ _), grown11 HLJ.out.gr (erR 15) (.slice none 0 0), eb11 ⟨HLJ.out.cx.eb, HX0.out⟩ (erR 15) (.slice none 0 0)⟩
theorem bind_all {xb nb ob B0 : Nat} {E : Sc} {N : Nat} (IH : TermC xb nb ob B0 E N) (hN : N ≤ 2000) : BindC xb nb ob B0 E (N + 1) := fun t hz hw hk s p c b o w hc hok ht hx hs => by
  by_cases h1 : t.name = sumW
  · exact bind_sum IH t hz hw hk hN h1 s p c b o w hc hok ht hx hs
  · by_cases h2 : t.name = prodW
    · exact bind_prod IH t hz hw hk hN h2 s p c b o w hc hok ht hx hs
    · exact bind_else IH t hw hk h1 h2 s p c b o w hok ht hx hs
set_option maxRecDepth 100000 in
set_option maxHeartbeats 4000000 in
theorem term_bind {xb nb ob B0 : Nat} {E : Sc} {M : Nat} (HBC : BindC xb nb ob B0 E M) (t : T) (hz : t.size ≤ M) (hw : WF t) (hk : t.kind = 5) (s : Sc) (p : Value) (c b o : Nat) (w : World) (hc : c ≤ 2000) (hok : (s ++ E).ok) (ht : TR w B0 b o t) (hx : Cx w xb nb ob B0 E c) (hs : SCP w (SS w xb) s p) :
    Calls Tryz.prog 41 #[.pointer (some ⟨xb, 0, none⟩), .pointer (some ⟨b, o, none⟩), p] w fun e w' => Left w w' xb nb ob (ev t (s ++ E) c) e := by
  obtain ⟨hb, d0, d1, d2, d4, A, ca, d3, hca, hta⟩ := ht.parts
  have hbw : b < w.heap.size := by have := hx.hB; have := hx.xlt; omega
  have HB := Lib.hid (b1 w (.cells #[.int .i64 0, .int .i64 0, .int .i64 0, .int .i64 0, .int .i64 0, .int .i64 0, .int .i64 0, .int .i64 0, .int .i64 0, .slice none 0 0, .int .i64 0] 86))
  have HK := Lib.hid (K11.zero w)
  have HX0 := Lib.hid hx.xlt
  have HD0 := Lib.hid ((HB.out.cell (p := ⟨b, o, none⟩) hbw).trans d0)
  have HBI := Lib.hid (HBC t hz hw hk s p c b o _ hc hok (ht.below (hx.term (grown_of_below HB.out _))) (hx.reach HB.out) (hs.step (grown_of_below HB.out _)))
  rw [hk] at HD0
  have hd0 := HD0.out
  clear d0 d1 d2 d3 d4 hta hca hx hs ht hb hbw hok hc hw hz hk HBC
  have hs1 : w.heap.size < (w.alloc (.cells #[.int .i64 0, .int .i64 0, .int .i64 0, .int .i64 0, .int .i64 0, .int .i64 0, .int .i64 0, .int .i64 0, .int .i64 0, .slice none 0 0, .int .i64 0] 86)).heap.size := by simp
  have HS1 := Lib.hid hs1
  clear hs1
  generalize ev t (s ++ E) c = g at *
  obtain ⟨r, c2⟩ := g
  unfold Left
  go_enter Tryz.func41, Tryz.ntmps41
  go_upto_region 1 with (fail)
  generalize w.alloc (.cells #[.int .i64 0, .int .i64 0, .int .i64 0, .int .i64 0, .int .i64 0, .int .i64 0, .int .i64 0, .int .i64 0, .int .i64 0, .slice none 0 0, .int .i64 0] 86) = w1 at *
  go_wp2_with fail
  refine HBI.out.mono ?_
  rintro e w2 ⟨q, rfl, hq, hg2, he2⟩
  dsimp only at hq he2
  obtain ⟨A5, c5, rfl⟩ : ∃ A c, q = .slice A r.path.length c := by obtain ⟨⟨⟨A, c, h1, _⟩, _⟩, _⟩ := hq; exact ⟨A, c, h1⟩
  have HK2 : Hid (K11 w2 w.heap.size zR (.slice none 0 0)) := (hg2.block w.heap.size HS1.out (fun e => by have h1 := Option.some.inj e; have h2 := HX0.out; omega)).trans HK.out
  have HQ2 := Lib.hid hq
  have HG2 : Hid (w.grownBy w2 (some xb)) := grown_tr (grown_of_below HB.out _) hg2
  have HE2 := Lib.hid he2
  clear hq hg2 he2 hd0 HBI
  obtain ⟨⟨z0, z1, z2, z3, z4, z5, z6, z7, z8, z9, z10⟩, zf, _⟩ := HK2.out.cells
  dsimp only
  unfold R.cells
  go_wp2_with fail
  refine bodyPost_ret (v := .agg (R.cells r (.slice A5 r.path.length c5))) (by simp [results, Tryz.results41, go_sem, R.cells, z0, z1, z2, z3, z4, z5, z6, z7, z8, z9, z10]) rfl ⟨_, rfl, (((show BO w2 (w.heap.size + 1) (.slice A5 r.path.length c5) r.path from HQ2.out.less HS1.out)).set11 (Nat.lt_succ_self _) r (.slice A5 r.path.length c5)).less (Nat.le_succ _), grown11 HG2.out r (.slice A5 r.path.length c5), eb11 ⟨HE2.out, HX0.out⟩ r (.slice A5 r.path.length c5)⟩
/-- term's contract -/
theorem term_all (HF : FindC) {xb nb ob B0 : Nat} {E : Sc} : ∀ N : Nat, N ≤ 2000 → TermC xb nb ob B0 E N
  | 0, _ => fun t hz => by have := size_pos t; omega
  | N + 1, hN => fun t hz hw s p c b o w hc hok ht hx hs => by
    have IH := term_all HF (xb := xb) (nb := nb) (ob := ob) (B0 := B0) (E := E) N (by omega)
    rcases kind_cases hw.parts.1 with h | h | h | h | h
    · exact term_leaf HF t hw (.inl h) s p c b o w ht hx hs
    · exact term_leaf HF t hw (.inr (.inl h)) s p c b o w ht hx hs
    · exact term_leaf HF t hw (.inr (.inr h)) s p c b o w ht hx hs
    · exact term_apply IH t hz hw h (by omega) s p c b o w hc hok ht hx hs
    · exact term_bind (bind_all IH (by omega)) t hz hw h s p c b o w hc hok ht hx hs
end Go.Proofs.YtknpigdpepmimaaGreatDoor

namespace Go.Proofs.YtknpigdpepmimaaGreatDoor
open Go.RowKit
section
variable {P : Program} {ops : Array Oper} {md : Region.Mode} {C : World → Prop}
/-- f operations of the head come up, each quiet in the class; then L -/
def HeadQ (P : Program) (md : Region.Mode) (ops : Array Oper) (C : World → Prop) (n : Nat) (L : Array Bool → Act → Prop) : Nat → Array Bool → Act → Prop
  | 0, d, a => L d a
  | f + 1, d, a => Region.ready md ops d ≠ [] ∧ ∀ i ∈ Region.ready md ops d, i < n ∧ qOp P ops C i (HeadQ P md ops C n L f (d.setIfInBounds i true)) a
theorem HeadQ.wp {n g : Nat} {L : Array Bool → Act → Prop} {Q : Exit → Act → World → Prop} (hL : ∀ d a w, C w → L d a → wpAny P md ops Q g d a w) (f : Nat) :
    ∀ (d : Array Bool) (a : Act) (w : World), C w → HeadQ P md ops C n L f d a → wpAny P md ops Q (f + g) d a w := by
  induction f with
  | zero => intro d a w hw h; rw [Nat.zero_add]; exact hL d a w hw h
  | succ f ih =>
    intro d a w hw h
    rw [show f + 1 + g = f + g + 1 from by omega]
    exact ⟨fun e => absurd e h.1, fun i hi => wpOp_of_qOp hw (fun a' w' hw' h' => ih _ a' w' hw' h') (h.2 i hi).2⟩
/-- an operation of the head that may come up may be taken first -/
theorem HeadQ.take {n i : Nat} {oi : Oper} {v : Value} {L : Array Bool → Act → Prop} (hi : ops[i]? = some oi) (hsel : ∀ (j : Nat) (o : Oper) cs b, ops[j]? = some o → o.op ≠ .select cs b)
    (hs : Region.sinkB md ops n = true) (hc : Region.chainB md ops n = true) (hn : n < ops.size) (hin : i < n) (hL : ∀ d a, L d a → ∀ j ∈ Region.ready md ops d, n ≤ j) (f : Nat) :
    ∀ (d : Array Bool) (a : Act), HeadInv md ops n d →
      (∀ j oj, ops[j]? = some oj → j ≠ i → d.getD j true = false → (∀ e ∈ oj.after, Region.binds md e = true → e.on ≠ i) → oi.apart ops oj = true) →
      i ∈ Region.ready md ops d → YieldsIn P ops C oi v a → HeadQ P md ops C n L f (d.setIfInBounds i true) (a.put oi.dst v) → HeadQ P md ops C n L (f + 1) d a := by
  induction f with
  | zero =>
    intro d a inv _ hr hy H
    have hun := (mem_ready.1 hr).1
    refine ⟨List.ne_nil_of_mem hr, fun j hj => ?_⟩
    have hjn : j < n := Nat.lt_of_not_le fun h => tail_waits hs hc hn inv _ i rfl hin hun j h hj
    refine ⟨hjn, ?_⟩
    by_cases e : j = i
    · subst e; exact hy.qOp hi H
    · exact absurd (hL _ _ H j (ready_mono hj e)) (Nat.not_le.2 hjn)
  | succ f ih =>
    intro d a inv hfree hr hy H
    have hun := (mem_ready.1 hr).1
    refine ⟨List.ne_nil_of_mem hr, fun j hj => ?_⟩
    have hjn : j < n := Nat.lt_of_not_le fun h => tail_waits hs hc hn inv _ i rfl hin hun j h hj
    refine ⟨hjn, ?_⟩
    by_cases e : j = i
    · subst e; exact hy.qOp hi H
    · obtain ⟨hjun, oj, hoj, hall⟩ := mem_ready.1 hj
      have hno : ∀ x ∈ oj.after, Region.binds md x = true → x.on ≠ i := fun x hx hb e' => by
        have h1 := hall x hx hb
        rw [e', getD_both hun] at h1
        cases h1
      have h2 := qOp_put hoj (hfree j oj hoj e hjun hno) (fun cs b => hsel i oi cs b hi) (fun cs b => hsel j oj cs b hoj) hy (H.2 j (ready_mono hj e)).2
      refine qOp_mono (fun a' h3 => ih (d.setIfInBounds j true) a' (inv.set hj hjn) (fun k ok hk hki hu hno' => hfree k ok hk hki ?_ hno') (ready_mono hr (Ne.symm e)) h3.1 ?_) h2
      · by_cases ejk : j = k
        · subst ejk; exact hjun
        · rwa [getD_set_ne true ejk] at hu
      · rw [Array.setIfInBounds_comm _ _ e]; exact h3.2
theorem HeadQ.lex {n g : Nat} {K : Act → Prop} (hsel : Region.noSelect ops = true) (hs : Region.sinkB md ops n = true) (hc : Region.chainB md ops n = true) (hn : n < ops.size) (l : List Oper) :
    ∀ (k : Nat) (d : Array Bool) (a : Act), (∀ j, j < l.length → l[j]? = ops[k + j]?) → k + l.length = n → HeadInv md ops n d → Region.lexHead md ops g l.length k d = true → wpQuiet P ops C K l a →
      HeadQ P md ops C n (fun d' a' => Region.seqB md ops g n d' = true ∧ K a') l.length d a := by
  induction l with
  | nil =>
    intro k d a _ hk _ hB h
    obtain rfl : k = n := by simpa using hk
    exact ⟨by simpa [Region.lexHead] using hB, h⟩
  | cons o l ih =>
    intro k d a hl hk inv hB h
    have h0 : ops[k]? = some o := by simpa using (hl 0 (by simp)).symm
    simp only [List.length_cons, Region.lexHead, Bool.and_eq_true] at hB
    have hkn : k < n := by simp only [List.length_cons] at hk; omega
    have hr : k ∈ Region.ready md ops d := by simpa using hB.1.1
    obtain ⟨v, hy, hK⟩ := yieldsIn_of_qOp h0 (show qOp P ops C k (wpQuiet P ops C K l) a by unfold qOp; simp only [h0]; exact h)
    refine HeadQ.take h0 (Region.noSelect_spec hsel) hs hc hn hkn (fun d' a' hL => seqB_ready hL.1) l.length d a inv (Region.free_spec h0 hB.1.2) hr hy ?_
    exact ih (k + 1) _ _ (fun j hj => by have := hl (j + 1) (by simp; omega); simpa [Nat.add_assoc, Nat.add_comm 1 j] using this) (by simp only [List.length_cons] at hk; omega) (inv.set hr hkn) hB.2 hK
theorem wp_region_quiet_tail {id : Nat} {Q : Exit → Act → World → Prop} {a : Act} {w : World} {l : List Oper} (n : Nat) (hm : P.follows .mixedOrders = true) (hB : Region.lexTailB .any l.toArray n = true) (hC : C { w with drawn := w.drawn + 1 })
    (h : wpQuiet P l.toArray C (fun a' => ∀ w', C w' → wpList P l.toArray Q (l.drop n) a' w') (l.take n) a) : (Code.region id l.toArray true).wp P Q a w := by
  simp only [Region.lexTailB, Bool.and_eq_true, decide_eq_true_eq] at hB
  obtain ⟨⟨⟨⟨hsel, hn⟩, hs⟩, hc⟩, hlex⟩ := hB
  have hn' : n < l.length := by simpa using hn
  have ht : (l.take n).length = n := by simp; omega
  have hd : (l.drop n).length = l.toArray.size - n := by simp
  have inv : HeadInv .any l.toArray n (Array.replicate l.toArray.size false) :=
    ⟨by simp, fun j oj _ hl => (by rw [getD_replicate_false] at hl; cases hl), fun t _ ht => getD_in (by simpa using ht) (getD_replicate_false _ _)⟩
  have H := HeadQ.lex (md := .any) (g := l.toArray.size - n) hsel hs hc hn (l.take n) 0 _ a (fun j hj => by
    have hj' : j < n := by rw [ht] at hj; exact hj
    simp [hj']) (by simpa using ht) inv (by rw [ht]; exact hlex) h
  refine wp_region_any hm ?_
  have R := HeadQ.wp (Q := Q) (g := l.toArray.size - n) (fun d a' w' hw' hL => by
    have := wpAny_of_seq (md := .any) (Q' := Q) (l.drop n) n d a' w' (fun j => by simp [List.getElem?_drop]) (by rw [hd]; exact hL.1) (hL.2 w' hw')
    rwa [hd] at this) _ _ _ _ hC H
  rwa [ht, show n + (l.toArray.size - n) = l.toArray.size from by omega] at R
end
end Go.Proofs.YtknpigdpepmimaaGreatDoor

namespace Go.Proofs.YtknpigdpepmimaaGreatDoor
open Go.RowKit
section
variable {ops : Array Oper}
/-- what an operation waits for, writes, looks at -/
def rowT (ops : Array Oper) (o : Oper) : List Nat × Nat × List Nat :=
  ((o.after.toList.filter (Region.binds .any)).map (·.on), (match o.dst with | some d => d + 1 | none => 0), (o.looksAt ops).map (· + 1))
def inT (n : Nat) : List Nat → Bool
  | [] => false
  | x :: l => Nat.beq x n || inT n l
def notT (n : Nat) (l : List Nat) : Bool := Nat.beq n 0 || !inT n l
def apT (r s : List Nat × Nat × List Nat) : Bool := notT r.2.1 s.2.2 && notT r.2.1 [s.2.1] && notT s.2.1 r.2.2
def lowT (k : Nat) : List Nat → Bool
  | [] => true
  | x :: l => Nat.ble (x + 1) k && lowT k l
/-- each later one waits for this one, or they are apart -/
def tabGo : List (List Nat × Nat × List Nat) → Nat → Bool
  | [], _ => true
  | r :: rs, k => lowT k r.1 && rs.all (fun s => inT k s.1 || apT r s) && tabGo rs (k + 1)
/-- each but the last is waited for -/
def sinkT : List (List Nat × Nat × List Nat) → Nat → Bool
  | [], _ => true
  | _ :: rs, k => (rs.isEmpty || rs.any (fun s => inT k s.1)) && sinkT rs (k + 1)
/-- each of the tail waits for the one before it -/
def chT : List (List Nat × Nat × List Nat) → Nat → Bool
  | [], _ => true
  | r :: rs, k => inT k r.1 && chT rs (k + 1)
theorem inT_iff (n : Nat) (l : List Nat) : inT n l = true ↔ n ∈ l := by
  induction l with
  | nil => simp [inT]
  | cons x l ih => simp only [inT, Bool.or_eq_true, Nat.beq_eq, ih, List.mem_cons]; constructor <;> (rintro (h | h) <;> simp [h])
theorem lowT_iff (k : Nat) (l : List Nat) : lowT k l = true ↔ ∀ x ∈ l, x < k := by
  induction l with
  | nil => simp [lowT]
  | cons x l ih => simp only [lowT, Bool.and_eq_true, Nat.ble_eq, ih, List.forall_mem_cons]; exact Iff.rfl
theorem tabGo_low : ∀ (T : List (List Nat × Nat × List Nat)) (m : Nat), tabGo T m = true → ∀ k r, T[k]? = some r → ∀ x ∈ r.1, x < m + k
  | [], _, _, k, r, h => by simp at h
  | r :: rs, m, hB, 0, r', h => by
    obtain rfl : r = r' := by simpa using h
    simp only [tabGo, Bool.and_eq_true] at hB
    exact (lowT_iff _ _).1 hB.1.1
  | r :: rs, m, hB, k + 1, r', h => by
    simp only [tabGo, Bool.and_eq_true] at hB
    have := tabGo_low rs (m + 1) hB.2 k r' (by simpa using h)
    intro x hx
    have := this x hx
    omega
theorem tabGo_ap : ∀ (T : List (List Nat × Nat × List Nat)) (m : Nat), tabGo T m = true → ∀ k j r s, k < j → T[k]? = some r → T[j]? = some s → m + k ∈ s.1 ∨ apT r s = true
  | [], _, _, k, _, r, _, _, h, _ => by simp at h
  | r :: rs, m, hB, 0, j, r', s, hj, h, h2 => by
    obtain rfl : r = r' := by simpa using h
    simp only [tabGo, Bool.and_eq_true, List.all_eq_true] at hB
    obtain ⟨j, rfl⟩ : ∃ i, j = i + 1 := ⟨j - 1, by omega⟩
    have := hB.1.2 s (List.mem_of_getElem? (by simpa using h2))
    rw [Bool.or_eq_true, inT_iff] at this
    exact this
  | r :: rs, m, hB, k + 1, j, r', s, hj, h, h2 => by
    simp only [tabGo, Bool.and_eq_true] at hB
    obtain ⟨j, rfl⟩ : ∃ i, j = i + 1 := ⟨j - 1, by omega⟩
    have := tabGo_ap rs (m + 1) hB.2 k j r' s (by omega) (by simpa using h) (by simpa using h2)
    rwa [show m + (k + 1) = m + 1 + k from by omega]
theorem sinkT_at : ∀ (T : List (List Nat × Nat × List Nat)) (m : Nat), sinkT T m = true → ∀ k, k + 1 < T.length → ∃ j s, k < j ∧ T[j]? = some s ∧ m + k ∈ s.1
  | [], _, _, k, h => by simp at h
  | r :: rs, m, hB, 0, h => by
    simp only [sinkT, Bool.and_eq_true, Bool.or_eq_true, List.any_eq_true] at hB
    rcases hB.1 with h1 | ⟨s, hs, h1⟩
    · have : rs = [] := by simpa using h1
      subst this; simp at h
    · obtain ⟨j, hj⟩ := List.getElem?_of_mem hs
      exact ⟨j + 1, s, by omega, by simpa using hj, (inT_iff _ _).1 h1⟩
  | r :: rs, m, hB, k + 1, h => by
    simp only [sinkT, Bool.and_eq_true] at hB
    obtain ⟨j, s, h1, h2, h3⟩ := sinkT_at rs (m + 1) hB.2 k (by simpa using h)
    exact ⟨j + 1, s, by omega, by simpa using h2, by rwa [show m + (k + 1) = m + 1 + k from by omega]⟩
theorem chT_at : ∀ (T : List (List Nat × Nat × List Nat)) (m : Nat), chT T m = true → ∀ k r, T[k]? = some r → m + k ∈ r.1
  | [], _, _, k, r, h => by simp at h
  | r :: rs, m, hB, 0, r', h => by
    obtain rfl : r = r' := by simpa using h
    simp only [chT, Bool.and_eq_true] at hB
    exact (inT_iff _ _).1 hB.1
  | r :: rs, m, hB, k + 1, r', h => by
    simp only [chT, Bool.and_eq_true] at hB
    have := chT_at rs (m + 1) hB.2 k r' (by simpa using h)
    rwa [show m + (k + 1) = m + 1 + k from by omega]
theorem rowT_at (T : List (List Nat × Nat × List Nat)) (hT : ops.toList.map (rowT ops) = T) {k : Nat} {o : Oper} (h : ops[k]? = some o) : T[k]? = some (rowT ops o) := by
  subst hT
  simp [h]
theorem rowT_waits {o : Oper} {k : Nat} : k ∈ (rowT ops o).1 ↔ ∃ e ∈ o.after, Region.binds .any e = true ∧ e.on = k := by
  unfold rowT
  simp only [List.mem_map, List.mem_filter, Array.mem_toList_iff]
  constructor
  · rintro ⟨e, ⟨h1, h2⟩, h3⟩; exact ⟨e, h1, h2, h3⟩
  · rintro ⟨e, h1, h2, h3⟩; exact ⟨e, ⟨h1, h2⟩, h3⟩
theorem notT_spec {n : Nat} {l : List Nat} (h : notT (n + 1) l = true) : n + 1 ∉ l := fun hm => by
  unfold notT at h
  rw [(inT_iff _ _).2 hm] at h
  simp [Nat.beq] at h
theorem apT_spec {o p : Oper} (h : apT (rowT ops o) (rowT ops p) = true) : o.apart ops p = true := by
  unfold apT at h
  simp only [Bool.and_eq_true] at h
  obtain ⟨⟨h1, h2⟩, h3⟩ := h
  have L : ∀ (q : Oper) (d : Nat), d + 1 ∉ (rowT ops q).2.2 → (q.looksAt ops).contains d = false := fun q d hn => by
    rw [Bool.eq_false_iff]
    intro hc
    have hm : d ∈ q.looksAt ops := by simpa using hc
    exact hn (List.mem_map_of_mem (f := (· + 1)) hm)
  unfold Oper.apart
  rw [Bool.and_eq_true]
  constructor
  · cases hd : o.dst with
    | none => rfl
    | some d =>
      have e1 : (rowT ops o).2.1 = d + 1 := by unfold rowT; simp [hd]
      rw [e1] at h1 h2
      simp only [L p d (notT_spec h1), Bool.not_false, Bool.true_and, bne_iff_ne, ne_eq]
      intro hp
      have e2 : (rowT ops p).2.1 = d + 1 := by unfold rowT; simp [hp]
      exact notT_spec h2 (by rw [e2]; simp)
  · cases hd : p.dst with
    | none => rfl
    | some d =>
      have e1 : (rowT ops p).2.1 = d + 1 := by unfold rowT; simp [hd]
      rw [e1] at h3
      show (!(o.looksAt ops).contains d) = true
      rw [L o d (notT_spec h3)]; rfl
/-- the first k are listed -/
structure Pre (ops : Array Oper) (k : Nat) (l : Array Bool) : Prop where
  size : l.size = ops.size
  at_ : ∀ i, i < ops.size → ∀ b, l.getD i b = decide (i < k)
theorem Pre.set {k : Nat} {l : Array Bool} (h : Pre ops k l) (hk : k < ops.size) : Pre ops (k + 1) (l.setIfInBounds k true) := by
  refine ⟨by simp [h.size], fun i hi b => ?_⟩
  have hs := h.size
  by_cases e : i = k
  · subst e
    have : i < l.size := by omega
    simp [this]
  · have := h.at_ i hi b
    have hil : i < l.size := by omega
    simp only [Array.getD, Array.size_setIfInBounds, hil, dif_pos] at this ⊢
    simp only [Array.getInternal_eq_getElem] at this ⊢
    rw [Array.getElem_setIfInBounds_ne hil (Ne.symm e), this]
    exact decide_eq_decide.2 (by omega)
theorem lexTail_of_tab (T : List (List Nat × Nat × List Nat)) (hT : ops.toList.map (rowT ops) = T) (hs : Region.noSelect ops = true) (hg : tabGo T 0 = true) (n : Nat) (hk : sinkT (T.take (n + 1)) 0 = true) (hc : chT (T.drop (n + 1)) n = true) (hn : n < ops.size) : Region.lexTailB .any ops n = true := by
  have hTl : T.length = ops.size := by rw [← hT]; simp
  have hlow : ∀ k o, ops[k]? = some o → ∀ e ∈ o.after, Region.binds .any e = true → e.on < k := fun k o ho e he hb => by
    have := tabGo_low T 0 hg k _ (rowT_at T hT ho) e.on (rowT_waits.2 ⟨e, he, hb, rfl⟩)
    omega
  have hchain : ∀ j o, n < j → ops[j]? = some o → ∃ e ∈ o.after, Region.binds .any e = true ∧ e.on = j - 1 := fun j o hj ho => by
    have h1 := rowT_at T hT ho
    have h2 := chT_at (T.drop (n + 1)) n hc (j - (n + 1)) (rowT ops o) (by rw [List.getElem?_drop, show n + 1 + (j - (n + 1)) = j from by omega]; exact h1)
    rw [show n + (j - (n + 1)) = j - 1 from by omega, rowT_waits] at h2
    exact h2
  have hready : ∀ (k : Nat) (l : Array Bool) (i : Nat), Pre ops k l → i < ops.size → k ≤ i → (∀ o, ops[i]? = some o → ∀ e ∈ o.after, Region.binds .any e = true → e.on < k) → i ∈ Region.ready .any ops l := fun k l i hp hi hki hw => by
    unfold Region.ready
    rw [List.mem_filter]
    refine ⟨List.mem_range.2 hi, ?_⟩
    rw [hp.at_ i hi true, decide_eq_false (by omega), Array.getElem?_eq_getElem hi]
    simp only [Bool.not_false, Bool.true_and, Option.map_some, Option.getD_some]
    rw [Array.all_eq_true_iff_forall_mem]
    intro e he
    by_cases hb : Region.binds .any e = true
    · have h1 := hw _ (Array.getElem?_eq_getElem hi) e he hb
      rw [hp.at_ e.on (by omega) false, decide_eq_true h1]; simp
    · simp [hb]
  have hfin : ∀ k l, n ≤ k → k < ops.size → Pre ops k l → Region.ready .any ops l = [k] := fun k l hnk hks hp => by
    have hmem : k ∈ Region.ready .any ops l := hready k l k hp hks (Nat.le_refl _) (hlow k)
    have hall : ∀ i ∈ Region.ready .any ops l, i = k := fun i hi => by
      obtain ⟨hun, oi, hoi, hall⟩ := mem_ready.1 hi
      have his := (Array.getElem?_eq_some_iff.1 hoi).1
      rw [hp.at_ i his true] at hun
      have hki : k ≤ i := by simpa using hun
      rcases Nat.eq_or_lt_of_le hki with h | h
      · exact h.symm
      · obtain ⟨e, he, hb, ho⟩ := hchain i oi (by omega) hoi
        have h1 := hall e he hb
        rw [hp.at_ e.on (by omega) false, ho] at h1
        have : i - 1 < k := by simpa using h1
        omega
    unfold Region.ready at hmem hall ⊢
    have hnd : ((List.range ops.size).filter (fun i => !l.getD i true && ((ops[i]?).map (·.after.all fun e => !Region.binds .any e || l.getD e.on false)).getD false)).Nodup := (List.nodup_range).filter _
    generalize (List.range ops.size).filter (fun i => !l.getD i true && ((ops[i]?).map (·.after.all fun e => !Region.binds .any e || l.getD e.on false)).getD false) = R at *
    match R, hmem, hall, hnd with
    | [x], _, hall, _ => rw [hall x (by simp)]
    | x :: y :: R, _, hall, hnd =>
      exfalso
      have e1 := hall x (by simp)
      have e2 := hall y (by simp)
      rw [List.nodup_cons] at hnd
      exact hnd.1 (by rw [e1, e2]; simp)
  have hend : ∀ l, Pre ops ops.size l → Region.ready .any ops l = [] := fun l hp => by
    unfold Region.ready
    rw [List.filter_eq_nil_iff]
    intro i hi
    have hi' := List.mem_range.1 hi
    rw [hp.at_ i (by omega) true, decide_eq_true (by omega)]; simp
  have hseq : ∀ (g k : Nat) (l : Array Bool), k + g = ops.size → n ≤ k → Pre ops k l → Region.seqB .any ops g k l = true := by
    intro g
    induction g with
    | zero =>
      intro k l hkg hnk hp
      rw [Nat.add_zero] at hkg
      subst hkg
      simp only [Region.seqB, List.isEmpty_iff]
      exact hend l hp
    | succ g ih =>
      intro k l hkg hnk hp
      simp only [Region.seqB, Bool.and_eq_true, decide_eq_true_eq]
      exact ⟨hfin k l hnk (by omega) hp, ih (k + 1) _ (by omega) (by omega) (hp.set (by omega))⟩
  have hhead : ∀ (f k : Nat) (l : Array Bool), k + f = n → Pre ops k l → Region.lexHead .any ops (ops.size - n) f k l = true := by
    intro f
    induction f with
    | zero =>
      intro k l hkn hp
      obtain rfl : k = n := by omega
      simp only [Region.lexHead]
      exact hseq _ k l (by omega) (Nat.le_refl _) hp
    | succ f ih =>
      intro k l hkn hp
      simp only [Region.lexHead, Bool.and_eq_true]
      have hklt : k < ops.size := by omega
      refine ⟨⟨?_, ?_⟩, ih (k + 1) _ (by omega) (hp.set hklt)⟩
      · simpa using hready k l k hp hklt (Nat.le_refl _) (hlow k)
      · unfold Region.free
        rw [Array.getElem?_eq_getElem hklt]
        simp only [List.all_eq_true, List.mem_range]
        intro j hj
        rw [hp.at_ j hj true, Array.getElem?_eq_getElem hj]
        simp only [Bool.or_eq_true, beq_iff_eq, decide_eq_true_eq]
        rcases Nat.lt_trichotomy j k with h | h | h
        · exact .inl (.inr h)
        · exact .inl (.inl h)
        · right
          rcases tabGo_ap T 0 hg k j _ _ h (rowT_at T hT (Array.getElem?_eq_getElem hklt)) (rowT_at T hT (Array.getElem?_eq_getElem hj)) with h1 | h1
          · rw [Nat.zero_add, rowT_waits] at h1
            obtain ⟨e, he, hb, ho⟩ := h1
            left
            rw [Array.any_eq_true']
            exact ⟨e, he, by simp [hb, ho]⟩
          · exact .inr (apT_spec h1)
  have hpre : Pre ops 0 (Array.replicate ops.size false) := ⟨by simp, fun i hi b => by simp [Array.getD, hi]⟩
  have hwait : ∀ i j s, i < ops.size → T[j]? = some s → i ∈ s.1 → j < ops.size ∧ Region.waitsFor .any ops j i = true := fun i j s hi h2 h3 => by
    have hj : j < ops.size := by
      have := (List.getElem?_eq_some_iff.1 h2).1
      omega
    refine ⟨hj, ?_⟩
    have e := rowT_at T hT (Array.getElem?_eq_getElem hj)
    rw [e] at h2
    obtain rfl := Option.some.inj h2
    rw [rowT_waits] at h3
    unfold Region.waitsFor
    rw [Array.getElem?_eq_getElem hj]
    obtain ⟨e, he, hb, ho⟩ := h3
    simp only
    rw [Array.any_eq_true']
    exact ⟨e, he, by simp [hb, ho]⟩
  unfold Region.lexTailB
  simp only [Bool.and_eq_true, decide_eq_true_eq]
  refine ⟨⟨⟨⟨hs, hn⟩, ?_⟩, ?_⟩, hhead n 0 _ (by omega) hpre⟩
  · unfold Region.sinkB
    simp only [List.all_eq_true, List.mem_range, List.any_eq_true, Bool.and_eq_true, decide_eq_true_eq]
    intro i hi
    obtain ⟨j, s, h1, h2, h3⟩ := sinkT_at (T.take (n + 1)) 0 hk i (by rw [List.length_take]; omega)
    have hjn : j < n + 1 := by
      have := (List.getElem?_eq_some_iff.1 h2).1
      rw [List.length_take] at this
      omega
    rw [List.getElem?_take, if_pos hjn] at h2
    rw [Nat.zero_add] at h3
    exact ⟨j, hjn, h1, (hwait i j s (by omega) h2 h3).2⟩
  · unfold Region.chainB
    simp only [List.all_eq_true, List.mem_range, Bool.or_eq_true, decide_eq_true_eq]
    intro t ht
    rcases Nat.lt_or_ge n t with h | h
    · right
      obtain ⟨e, he, hb, ho⟩ := hchain t _ h (Array.getElem?_eq_getElem ht)
      exact (hwait (t - 1) t _ (by omega) (rowT_at T hT (Array.getElem?_eq_getElem ht)) (rowT_waits.2 ⟨e, he, hb, ho⟩)).2
    · exact .inl h
end
end Go.Proofs.YtknpigdpepmimaaGreatDoor
