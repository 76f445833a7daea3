/- Contract of term 41, out of its own for smaller terms and of bind's. -/
import Derived.Laws.EntriesVeiled
import Derived.Deep.CutBlock
import Derived.Deep.DeepCutAuto
import Derived.Test.YtknpigdpepmimaaGreatDoorM28
namespace Go.Proofs.YtknpigdpepmimaaGreatDoor
open Go.RowKit Go.Maps
theorem grown11 {w w1 : World} {xb : Nat} (h : w.grownBy w1 (some xb)) (r : R) (p : Value) : w.grownBy (set11 w1 w.heap.size r p) (some xb) := by
  have hb := below11 (B := 0) (Below.refl 0 w1) (Nat.zero_le w.heap.size) r p
  exact ⟨hb.os.trans h.os, hb.tape.trans h.tape, hb.output.trans h.output, Nat.le_trans h.size hb.size, fun k hk hne => (set11_other _ _ _ _ _ (by omega)).trans (h.block k hk hne)⟩
theorem eb11 {w w1 : World} {xb nb ob c : Nat} (h : EB w1 xb nb ob c ∧ xb < w.heap.size) (r : R) (p : Value) : EB (set11 w1 w.heap.size r p) xb nb ob c :=
  (set11_other _ _ _ _ _ (by omega)).trans h.1
/-- what is left behind by an evaluation: the value or the failure, and the count -/
def Left (w w' : World) (xb nb ob : Nat) (g : R × Nat) (e : Ending) : Prop := ∃ q, e = .returned (.agg (g.1.cells q)) ∧ BO w' w.heap.size q g.1.path ∧ w.grownBy w' (some xb) ∧ EB w' xb nb ob g.2
/-- what unit.Find does -/
def FindC : Prop := ∀ (n : W8) (w : World), n.length ≤ 1000 → Calls Tryz.prog 81 #[.string ⟨n.toArray⟩] w fun e w' => e = .returned (.tuple #[.agg ((unitTab.lookup n).getD zV).cells, .bool (unitTab.lookup n).isSome]) ∧ Below w.heap.size w w'
def TermC (xb nb ob B0 : Nat) (E : Sc) (N : Nat) : Prop := ∀ (t : T), t.size ≤ N → WF t → ∀ (s : Sc) (p : Value) (c b o : Nat) (w : World), c ≤ 2000 → (s ++ E).ok → TR w B0 b o t → Cx w xb nb ob B0 E c → SCP w (SS w xb) s p →
  Calls Tryz.prog 41 #[.pointer (some ⟨xb, 0, none⟩), .pointer (some ⟨b, o, none⟩), p] w fun e w' => Left w w' xb nb ob (ev t (s ++ E) c) e
def BindC (xb nb ob B0 : Nat) (E : Sc) (N : Nat) : Prop := ∀ (t : T), t.size ≤ N → WF t → t.kind = 5 → ∀ (s : Sc) (p : Value) (c b o : Nat) (w : World), c ≤ 2000 → (s ++ E).ok → TR w B0 b o t → Cx w xb nb ob B0 E c → SCP w (SS w xb) s p →
  Calls Tryz.prog 82 #[.pointer (some ⟨xb, 0, none⟩), .pointer (some ⟨b, o, none⟩), p] w fun e w' => Left w w' xb nb ob (ev t (s ++ E) c) e
theorem kind_cases {t : T} (h : ownB t = true) : t.kind = 1 ∨ t.kind = 2 ∨ t.kind = 3 ∨ t.kind = 4 ∨ t.kind = 5 := by
  cases t with
  | mk k n v ys f =>
    rw [ownB_mk] at h
    show k = 1 ∨ k = 2 ∨ k = 3 ∨ k = 4 ∨ k = 5
    by_cases h1 : k = 1
    · exact .inl h1
    rw [if_neg h1] at h
    by_cases h2 : k = 2
    · exact .inr (.inl h2)
    rw [if_neg h2] at h
    by_cases h3 : k = 3
    · exact .inr (.inr (.inl h3))
    rw [if_neg h3] at h
    by_cases h4 : k = 4
    · exact .inr (.inr (.inr (.inl h4)))
    rw [if_neg h4] at h
    by_cases h5 : k = 5
    · exact .inr (.inr (.inr (.inr h5)))
    rw [if_neg h5] at h
    cases h
theorem own_short' {t : T} (h : ownB t = true) : t.name.length ≤ 200 ∧ (t.kind = 1 → t.name.length ≤ 20) := by
  cases t with
  | mk k n v ys f =>
    rw [ownB_mk] at h
    show n.length ≤ 200 ∧ (k = 1 → n.length ≤ 20)
    have hw : ∀ {x : W8}, wordB x = true → x.length ≤ 16 := fun {x} hx => by unfold wordB at hx; simp at hx; exact hx.2
    by_cases h1 : k = 1
    · rw [if_pos h1] at h; unfold numB at h; simp at h
      have : n.length ≤ 20 := by omega
      exact ⟨by omega, fun _ => this⟩
    rw [if_neg h1] at h
    refine ⟨?_, fun e => absurd e h1⟩
    by_cases h2 : k = 2
    · rw [if_pos h2] at h; rw [Bool.and_eq_true] at h; have := hw (ident_word h.2); omega
    rw [if_neg h2] at h
    by_cases h3 : k = 3
    · rw [if_pos h3] at h; simp at h; omega
    rw [if_neg h3] at h
    by_cases h4 : k = 4
    · rw [if_pos h4] at h; rw [Bool.and_eq_true, Bool.and_eq_true] at h; have := hw h.1.2; omega
    rw [if_neg h4] at h
    by_cases h5 : k = 5
    · rw [if_pos h5] at h; rw [Bool.and_eq_true, Bool.and_eq_true, Bool.and_eq_true] at h; have := hw h.1.1.2; omega
    rw [if_neg h5] at h; cases h
set_option maxRecDepth 100000 in
set_option maxHeartbeats 4000000 in
theorem term_leaf {xb nb ob B0 : Nat} {E : Sc} (HF : FindC) (t : T) (hw : WF t) (hk : t.kind = 1 ∨ t.kind = 2 ∨ t.kind = 3) (s : Sc) (p : Value) (c b o : Nat) (w : World) (ht : TR w B0 b o t) (hx : Cx w xb nb ob B0 E c) (hs : SCP w (SS w xb) s p) :
    Calls Tryz.prog 41 #[.pointer (some ⟨xb, 0, none⟩), .pointer (some ⟨b, o, none⟩), p] w fun e w' => Left w w' xb nb ob (ev t (s ++ E) c) e := by
  have HO := Lib.hid (own_short' hw.parts.1)
  obtain ⟨hb, d0, d1, d2, d4, A, ca, d3, hca, hta⟩ := ht.parts
  have hbw : b < w.heap.size := by have := hx.hB; have := hx.xlt; omega
  have hne : b ≠ w.heap.size := by omega
  have HB := Lib.hid (b1 w (.cells #[.int .i64 0, .int .i64 0, .int .i64 0, .int .i64 0, .int .i64 0, .int .i64 0, .int .i64 0, .int .i64 0, .int .i64 0, .slice none 0 0, .int .i64 0] 86))
  have HK := Lib.hid (K11.zero w)
  have HX := Lib.hid (hx.reach HB.out)
  have HX0 := Lib.hid hx.xlt
  have HS : Hid (SCP (w.alloc (.cells #[.int .i64 0, .int .i64 0, .int .i64 0, .int .i64 0, .int .i64 0, .int .i64 0, .int .i64 0, .int .i64 0, .int .i64 0, .slice none 0 0, .int .i64 0] 86)) (SS (w.alloc (.cells #[.int .i64 0, .int .i64 0, .int .i64 0, .int .i64 0, .int .i64 0, .int .i64 0, .int .i64 0, .int .i64 0, .int .i64 0, .slice none 0 0, .int .i64 0] 86)) xb) s p) := hs.step (grown_of_below HB.out _)
  have HEV : Hid (ev t (s ++ E) c = stepN t.kind t.name (lkR (s ++ E) t.name) (evs t.args (s ++ E)) (evh t.args t.var (s ++ E)) c) := by show _ = _; rw [ev_eq]
  have HD0 := Lib.hid ((HB.out.cell (p := ⟨b, o, none⟩) hbw).trans d0)
  have HD1 := Lib.hid ((HB.out.cell (p := ⟨b, o + 1, none⟩) hbw).trans d1)
  clear d0 d1 d2 d3 d4 hta hca hx hs ht hb hbw hne
  have hd0 := HD0.out
  have hd1 := HD1.out
  generalize t.name = n at *
  generalize ev t (s ++ E) c = g at *
  unfold Left
  go_enter Tryz.func41, Tryz.ntmps41
  go_upto_region 1 with (fail)
  generalize w.alloc (.cells #[.int .i64 0, .int .i64 0, .int .i64 0, .int .i64 0, .int .i64 0, .int .i64 0, .int .i64 0, .int .i64 0, .int .i64 0, .slice none 0 0, .int .i64 0] 86) = w1 at *
  obtain ⟨⟨z0, z1, z2, z3, z4, z5, z6, z7, z8, z9, z10⟩, zf, _⟩ := HK.out.cells
  rcases hk with hk | hk | hk
  · -- a number
    rw [hk] at hd0 HEV
    have HG : Hid (g = (numR' n, c)) := HEV.out
    have HP := Lib.hid (Q.parse_any n w1 (by have := HO.out.2 hk; omega) ⟨HX.out.mx.cell⟩)
    clear HEV hk
    unfold numR' at HG
    generalize Q.parseQ n = q at *
    obtain ⟨qn, qd, qe⟩ := q
    unfold Q.Res.val at HP
    have HJ := Lib.hid fun w => join_any qn qd qe zD 0 w
    generalize joinQ ⟨qn, qd, qe⟩ zD 0 = j at *
    obtain ⟨jv, je⟩ := j
    unfold Dm.cells zD V.cells at HJ
    clear z0 z1 z2 z3 z4 z5 z6 z7 z8 z9 z10 zf
    go_wp2_with fail
    refine HP.out.mono ?_
    rintro e w2 ⟨rfl, hb2⟩
    have HB3 := Lib.hid (bl_tr hb2 (b1 w2 (.cells #[.int .i64 qn, .int .i64 qd] 57)))
    have HM := Lib.hid (K2.new w2 qn qd)
    go_upto_region 4 with (fail)
    generalize w2.alloc (.cells #[.int .i64 qn, .int .i64 qd] 57) = w3 at *
    clear hd0 hd1 hb2
    obtain ⟨⟨m0, m1⟩, _, _⟩ := HM.out.cells
    go_wp2_with fail
    refine (HJ.out _).mono ?_
    rintro e w4 ⟨rfl, hb4⟩
    have HB5 := Lib.hid (bl_tr (bl_tr HB3.out hb4) (b1 w4 (.cells #[.int .i64 jv.num, .int .i64 jv.den, .int .i64 jv.dim.a, .int .i64 jv.dim.b, .int .i64 jv.dim.c, .int .i64 jv.dim.d, .int .i64 jv.dim.e, .int .i64 jv.dim.f, .int .i64 jv.dim.g] 44)))
    have HM9 : Hid (K9 (w4.alloc (.cells #[.int .i64 jv.num, .int .i64 jv.den, .int .i64 jv.dim.a, .int .i64 jv.dim.b, .int .i64 jv.dim.c, .int .i64 jv.dim.d, .int .i64 jv.dim.e, .int .i64 jv.dim.f, .int .i64 jv.dim.g] 44)) w4.heap.size jv) := K9.new w4 jv
    go_upto_region 5 with (fail)
    generalize w4.alloc (.cells #[.int .i64 jv.num, .int .i64 jv.den, .int .i64 jv.dim.a, .int .i64 jv.dim.b, .int .i64 jv.dim.c, .int .i64 jv.dim.d, .int .i64 jv.dim.e, .int .i64 jv.dim.f, .int .i64 jv.dim.g] 44) = w5 at *
    clear m0 m1 hb4
    have HK5 := Lib.hid (HK.out.reach HB5.out)
    have HX5 := Lib.hid (HX.out.reach HB5.out)
    have HB1 := Lib.hid (bl_tr HB.out HB5.out)
    obtain ⟨⟨⟨m0, m1⟩, m2, m3, m4, m5, m6, m7, m8⟩, _, _⟩ := HM9.out.cells
    obtain ⟨⟨z0, z1, z2, z3, z4, z5, z6, z7, z8, z9, z10⟩, zf, _⟩ := HK5.out.cells
    go_wp2_with fail
    rw [HG.out]
    refine bodyPost_ret (v := .agg (R.cells (R.mk jv [] je) (.slice none 0 0))) (by simp [results, Tryz.results41, go_sem, R.cells, z0, z1, z2, z3, z4, z5, z6, z7, z8, z9, z10]) rfl ⟨_, rfl, ((BO.nil w5 (w.heap.size + 1)).set11 (Nat.lt_succ_self _) (R.mk jv [] je) (.slice none 0 0)).less (Nat.le_succ _), grown11 (grown_of_below HB1.out _) (R.mk jv [] je) (.slice none 0 0), eb11 ⟨HX5.out.eb, HX0.out⟩ (R.mk jv [] je) (.slice none 0 0)⟩
  · -- a variable
    rw [hk] at hd0 HEV
    have HG : Hid (g = (lkR (s ++ E) n, c)) := HEV.out
    have HV := Lib.hid (variable_any xb nb ob c E s (SS w1 xb) p n w1 HX.out.eb HX.out.env HS.out (fun k hk => hk.2) (by have := HO.out.1; omega) HX.out.nlt)
    have HPT : Hid ((lkR (s ++ E) n).path = []) := List.eq_nil_of_length_eq_zero (Nat.le_zero.1 (lookR_path _ _))
    clear HEV hk
    generalize lkR (s ++ E) n = r at *
    unfold R.cells at HV
    clear z0 z1 z2 z3 z4 z5 z6 z7 z8 z9 z10 zf
    go_wp2_with fail
    refine HV.out.mono ?_
    rintro e w2 ⟨rfl, hb2⟩
    have HK2 := Lib.hid (HK.out.reach hb2)
    have HX2 := Lib.hid (HX.out.reach hb2)
    have HB2 := Lib.hid (bl_tr HB.out hb2)
    clear hb2 hd0 hd1
    obtain ⟨⟨z0, z1, z2, z3, z4, z5, z6, z7, z8, z9, z10⟩, zf, _⟩ := HK2.out.cells
    go_wp2_with fail
    rw [HG.out]
    refine bodyPost_ret (v := .agg (R.cells r (.slice none 0 0))) (by simp [results, Tryz.results41, go_sem, R.cells, z0, z1, z2, z3, z4, z5, z6, z7, z8, z9, z10]) rfl ⟨_, rfl, (((show BO w2 (w.heap.size + 1) (.slice none 0 0) r.path from by rw [HPT.out]; exact BO.nil w2 (w.heap.size + 1))).set11 (Nat.lt_succ_self _) r (.slice none 0 0)).less (Nat.le_succ _), grown11 (grown_of_below HB2.out _) r (.slice none 0 0), eb11 ⟨HX2.out.eb, HX0.out⟩ r (.slice none 0 0)⟩
  · -- a unit
    rw [hk] at hd0 HEV
    have HG : Hid (g = (unitR n, c)) := HEV.out
    have HV := Lib.hid (HF n w1 (by have := HO.out.1; omega))
    clear HEV hk
    unfold unitR lookR at HG
    dsimp only at HG
    generalize unitTab.lookup n = ol at *
    clear z0 z1 z2 z3 z4 z5 z6 z7 z8 z9 z10 zf
    cases ol with
    | none =>
      dsimp only [Option.getD_none, Option.isSome_none] at HV
      unfold V.cells zV zD at HV
      go_wp2_with fail
      refine HV.out.mono ?_
      rintro e w2 ⟨rfl, hb2⟩
      have HB3 := Lib.hid (bl_tr hb2 (b1 w2 (.cells #[.int .i64 0, .int .i64 0, .int .i64 0, .int .i64 0, .int .i64 0, .int .i64 0, .int .i64 0, .int .i64 0, .int .i64 0] 44)))
      go_upto_region 10 with (fail)
      generalize w2.alloc (.cells #[.int .i64 0, .int .i64 0, .int .i64 0, .int .i64 0, .int .i64 0, .int .i64 0, .int .i64 0, .int .i64 0, .int .i64 0] 44) = w3 at *
      have HK3 := Lib.hid (HK.out.reach HB3.out)
      have HX3 := Lib.hid (HX.out.reach HB3.out)
      have HB1 := Lib.hid (bl_tr HB.out HB3.out)
      clear hb2 hd0 hd1
      obtain ⟨⟨z0, z1, z2, z3, z4, z5, z6, z7, z8, z9, z10⟩, zf, _⟩ := HK3.out.cells
      go_wp2_with fail
      rw [HG.out]
      refine bodyPost_ret (v := .agg (R.cells (erR 11) (.slice none 0 0))) (by simp [results, Tryz.results41, go_sem, R.cells, erR, zV, zD, z0, z1, z2, z3, z4, z5, z6, z7, z8, z9, z10]) rfl ⟨_, rfl, ((BO.nil w3 (w.heap.size + 1)).set11 (Nat.lt_succ_self _) (erR 11) (.slice none 0 0)).less (Nat.le_succ _), grown11 (grown_of_below HB1.out _) (erR 11) (.slice none 0 0), eb11 ⟨HX3.out.eb, HX0.out⟩ (erR 11) (.slice none 0 0)⟩
    | some v =>
      dsimp only [Option.getD_some, Option.isSome_some] at HV
      unfold V.cells at HV
      go_wp2_with fail
      refine HV.out.mono ?_
      rintro e w2 ⟨rfl, hb2⟩
      have HB3 := Lib.hid (bl_tr hb2 (b1 w2 (.cells #[.int .i64 v.num, .int .i64 v.den, .int .i64 v.dim.a, .int .i64 v.dim.b, .int .i64 v.dim.c, .int .i64 v.dim.d, .int .i64 v.dim.e, .int .i64 v.dim.f, .int .i64 v.dim.g] 44)))
      have HM9 : Hid (K9 (w2.alloc (.cells #[.int .i64 v.num, .int .i64 v.den, .int .i64 v.dim.a, .int .i64 v.dim.b, .int .i64 v.dim.c, .int .i64 v.dim.d, .int .i64 v.dim.e, .int .i64 v.dim.f, .int .i64 v.dim.g] 44)) w2.heap.size v) := K9.new w2 v
      go_upto_region 10 with (fail)
      generalize w2.alloc (.cells #[.int .i64 v.num, .int .i64 v.den, .int .i64 v.dim.a, .int .i64 v.dim.b, .int .i64 v.dim.c, .int .i64 v.dim.d, .int .i64 v.dim.e, .int .i64 v.dim.f, .int .i64 v.dim.g] 44) = w3 at *
      have HK3 := Lib.hid (HK.out.reach HB3.out)
      have HX3 := Lib.hid (HX.out.reach HB3.out)
      have HB1 := Lib.hid (bl_tr HB.out HB3.out)
      clear hb2 hd0 hd1
      obtain ⟨⟨⟨m0, m1⟩, m2, m3, m4, m5, m6, m7, m8⟩, _, _⟩ := HM9.out.cells
      obtain ⟨⟨z0, z1, z2, z3, z4, z5, z6, z7, z8, z9, z10⟩, zf, _⟩ := HK3.out.cells
      go_wp2_with fail
      rw [HG.out]
      refine bodyPost_ret (v := .agg (R.cells (okR v) (.slice none 0 0))) (by simp [results, Tryz.results41, go_sem, R.cells, okR, z0, z1, z2, z3, z4, z5, z6, z7, z8, z9, z10]) rfl ⟨_, rfl, ((BO.nil w3 (w.heap.size + 1)).set11 (Nat.lt_succ_self _) (okR v) (.slice none 0 0)).less (Nat.le_succ _), grown11 (grown_of_below HB1.out _) (okR v) (.slice none 0 0), eb11 ⟨HX3.out.eb, HX0.out⟩ (okR v) (.slice none 0 0)⟩
end Go.Proofs.YtknpigdpepmimaaGreatDoor
