/- Contract of clone 46. -/
import Derived.Test.YtkjhfbgdmmnadaaGreatRow
import Derived.Test.YtkjhfbgdmmnadaaGreatEq17
namespace Go.Proofs.YtkjhfbgdmmnadaaGreat
open Go.RowKit

theorem OT.set {Z : Nat → Prop} {w : World} {B cb o : Nat} {v u : Value} {l : List TX} (h : OT Z w B v l) (hcb : cb < B) (hZ : ¬ Z cb) : OT Z (w.setCell ⟨cb, o, none⟩ u) B v l := by
  have hg : w.grownBy (w.setCell ⟨cb, o, none⟩ u) (some cb) := ⟨rfl, rfl, rfl, by simp, fun k _ hne => Below.heap_setCell _ _ _ _ (fun e => hne (by rw [e]))⟩
  refine ⟨World.ownsRow.kept h.1 hg ?_, fun x hx => (h.2 x hx).keep (fun k hk => ⟨⟨hk.1, by simpa using hk.2.1, hk.2.2⟩, hg.block k hk.2.1 (fun e => hZ (by injection e with e; rw [← e]; exact hk.1))⟩)⟩
  cases hv : v.ownBlock with
  | none => exact .inl rfl
  | some k => right; intro e; cases e; have := (h.lt cb hv).1; omega

theorem TVS.set {w : World} {S : Nat → Prop} {t : T} {A : Option Addr} {c : Nat} (h : TVS w S t A c) (b o : Nat) (u : Value) (hb : ¬ S b) : TVS (w.setCell ⟨b, o, none⟩ u) S t A c :=
  h.keep (fun k hk => ⟨hk, Below.heap_setCell w ⟨b, o, none⟩ u k (fun e => hb (by rw [← show k = b from e]; exact hk))⟩)
/-- behind an append of one term -/
theorem ot_append {Z : Nat → Prop} {wc w7 : World} {B g cap : Nat} {v : Value} {l : List TX} {x : TX} (ob : Obj) (hO : OT Z wc B v l) (hx : TVS wc (Zo Z wc v) x.t x.A x.c) (hown : w7.ownsRow B 24 5 (.slice (some ⟨g, 0, none⟩) (l.length + 1) cap) (l.length + 1) (txc l ++ x.cells))
    (hg : (wc.alloc ob).grownBy w7 v.ownBlock) (hat : v.ownBlock = some g ∨ g = (wc.alloc ob).heap.size) (hB : B ≤ wc.heap.size) :
    OT Z w7 B (.slice (some ⟨g, 0, none⟩) (l.length + 1) cap) (l ++ [x]) ∧ Below B wc w7 ∧ ∀ b, b < wc.heap.size → v.ownBlock ≠ some b → w7.heap[b]? = wc.heap[b]? := by
  have hba : Below wc.heap.size wc (wc.alloc ob) := (Below.refl _ wc).alloc (Nat.le_refl _) ob
  have hO2 := hO.bel hba
  have hx2 : TVS (wc.alloc ob) (Zo Z (wc.alloc ob) v) x.t x.A x.c := hx.keep (fun k hk => ⟨⟨hk.1, Nat.lt_of_lt_of_le hk.2.1 hba.size, hk.2.2⟩, hba.block k hk.2.1⟩)
  refine ⟨hO2.snoc hx2 hown hg (hat.imp id (fun e => by rw [e]; exact Nat.le_refl _)), ?_, fun b hb hne => ?_⟩
  · exact ((Below.refl B wc).alloc hB ob).grown hg (by have := hba.size; omega) (fun k hk => (hO2.lt k hk).1)
  · rw [hg.block b (Nat.lt_of_lt_of_le hb hba.size) (fun e => hne e.symm)]; exact hba.block b hb
/-- a struct of the call's own, known whole -/
def Bk (w : World) (b : Nat) (v0 v1 v2 v3 v4 : Value) : Prop := w.heap[b]? = some (.cells #[v0, v1, v2, v3, v4] 24 (0, 0))
theorem Bk.cells {w : World} {b : Nat} {v0 v1 v2 v3 v4 : Value} (h : Bk w b v0 v1 v2 v3 v4) :
    (w.cell? ⟨b, 0, none⟩ = some v0 ∧ w.cell? ⟨b, 1, none⟩ = some v1 ∧ w.cell? ⟨b, 2, none⟩ = some v2 ∧ w.cell? ⟨b, 3, none⟩ = some v3 ∧ w.cell? ⟨b, 4, none⟩ = some v4) ∧ (∀ i, w.frozen? ⟨b, i, none⟩ = false) ∧ b < w.heap.size := by
  unfold Bk at h
  refine ⟨⟨?_, ?_, ?_, ?_, ?_⟩, fun i => ?_, (Array.getElem?_eq_some_iff.1 h).1⟩ <;> simp [World.cell?, World.frozen?, h]
theorem Bk.below {w w' : World} {B b : Nat} {v0 v1 v2 v3 v4 : Value} (h : Bk w b v0 v1 v2 v3 v4) (hb : Below B w w') (hlt : b < B) : Bk w' b v0 v1 v2 v3 v4 := (hb.block b hlt).trans h
theorem Bk.reach {w w' : World} {b : Nat} {v0 v1 v2 v3 v4 : Value} (h : Bk w b v0 v1 v2 v3 v4) (hb : Below w.heap.size w w') : Bk w' b v0 v1 v2 v3 v4 := h.below hb h.cells.2.2
theorem Bk.new (w : World) (v0 v1 v2 v3 v4 : Value) : Bk (w.alloc (.cells #[v0, v1, v2, v3, v4] 24)) w.heap.size v0 v1 v2 v3 v4 := blk_new _ _
theorem Bk.set3 {w : World} {b : Nat} {v0 v1 v2 v3 v4 : Value} (h : Bk w b v0 v1 v2 v3 v4) (u : Value) : Bk (w.setCell ⟨b, 3, none⟩ u) b v0 v1 v2 u v4 := by
  unfold Bk at h ⊢
  show (w.heap.modify b _)[b]? = _
  rw [Array.getElem?_modify, if_pos rfl, h]
  rfl
theorem Bk.other {w : World} {b b' o : Nat} {v0 v1 v2 v3 v4 : Value} (h : Bk w b v0 v1 v2 v3 v4) (u : Value) (hne : b ≠ b') : Bk (w.setCell ⟨b', o, none⟩ u) b v0 v1 v2 v3 v4 := (Below.heap_setCell w ⟨b', o, none⟩ u b (fun e => hne e)).trans h

set_option maxRecDepth 100000 in
set_option maxHeartbeats 4000000 in
theorem clone_aux (N : Nat) : ∀ (t : T), t.size ≤ N → ∀ (b o : Nat) (w : World), TR w w.heap.size b o t → t.size ≤ 100000 →
    Calls Tryz.prog 26 #[.pointer (some ⟨b, o, none⟩)] w fun e w' => ∃ A c, e = .returned (.agg (tv t A c)) ∧ TVS w' (fun k => w.heap.size ≤ k ∧ k < w'.heap.size) t A c ∧ Below w.heap.size w w' := by
  induction N with
  | zero => intro t ht; exact absurd ht (by cases t; rw [T.size]; omega)
  | succ N ih =>
    intro t ht b o w hr hz
    have IH := Lib.hid ih
    clear ih
    obtain ⟨hbl, a0, a1, a2, a4, A, cp, a3, ⟨hcp1, hcp2⟩, hTA⟩ := hr.parts
    have HSZ : Hid (∀ u ∈ t.args, u.size ≤ N ∧ u.size ≤ 100000) := fun u hu => by have := size_arg hu; omega
    have HLS : Hid (t.args.length ≤ 100000) := by have := len_sizes t.args; have := size_eq t; show _ ≤ 100000; omega
    have HTA := Lib.hid hTA
    have hyl : t.args.length ≤ 9223372036854775807 := by omega
    clear hr hTA
    obtain ⟨ys, hys⟩ : ∃ ys, ys = t.args := ⟨_, rfl⟩
    have HYS := Lib.hid hys
    rw [← hys] at HTA HSZ HLS a3 hcp1 hyl
    clear hys
    go_enter Tryz.func26, Tryz.ntmps26
    go_wp2_with fail
    have HB0 : Hid (Below w.heap.size w ((w.alloc (.cells #[.int .i64 0, .string ⟨#[]⟩, .string ⟨#[]⟩, .slice none 0 0, .string ⟨#[]⟩] 24)).alloc (.cells #[.int .i64 t.kind, .string ⟨t.name.toArray⟩, .string ⟨t.var.toArray⟩, .slice none 0 0, .string ⟨t.form.toArray⟩] 24))) := ((Below.refl _ _).alloc (Nat.le_refl _) _).alloc (by simp) _
    have HR0 : Hid (Bk ((w.alloc (.cells #[.int .i64 0, .string ⟨#[]⟩, .string ⟨#[]⟩, .slice none 0 0, .string ⟨#[]⟩] 24)).alloc (.cells #[.int .i64 t.kind, .string ⟨t.name.toArray⟩, .string ⟨t.var.toArray⟩, .slice none 0 0, .string ⟨t.form.toArray⟩] 24)) w.heap.size (.int .i64 0) (.string ⟨#[]⟩) (.string ⟨#[]⟩) (.slice none 0 0) (.string ⟨#[]⟩)) := (Bk.new w _ _ _ _ _).reach ((Below.refl _ _).alloc (Nat.le_refl _) _)
    have HC0 : Hid (Bk ((w.alloc (.cells #[.int .i64 0, .string ⟨#[]⟩, .string ⟨#[]⟩, .slice none 0 0, .string ⟨#[]⟩] 24)).alloc (.cells #[.int .i64 t.kind, .string ⟨t.name.toArray⟩, .string ⟨t.var.toArray⟩, .slice none 0 0, .string ⟨t.form.toArray⟩] 24)) (w.heap.size + 1) (.int .i64 t.kind) (.string ⟨t.name.toArray⟩) (.string ⟨t.var.toArray⟩) (.slice none 0 0) (.string ⟨t.form.toArray⟩)) := by
      have := Bk.new (w.alloc (.cells #[.int .i64 0, .string ⟨#[]⟩, .string ⟨#[]⟩, .slice none 0 0, .string ⟨#[]⟩] 24)) (.int .i64 t.kind) (.string ⟨t.name.toArray⟩) (.string ⟨t.var.toArray⟩) (.slice none 0 0) (.string ⟨t.form.toArray⟩)
      have e : (w.alloc (.cells #[.int .i64 0, .string ⟨#[]⟩, .string ⟨#[]⟩, .slice none 0 0, .string ⟨#[]⟩] 24)).heap.size = w.heap.size + 1 := by simp
      rw [e] at this
      exact this
    generalize (w.alloc (.cells #[.int .i64 0, .string ⟨#[]⟩, .string ⟨#[]⟩, .slice none 0 0, .string ⟨#[]⟩] 24)).alloc (.cells #[.int .i64 t.kind, .string ⟨t.name.toArray⟩, .string ⟨t.var.toArray⟩, .slice none 0 0, .string ⟨t.form.toArray⟩] 24) = w0 at *
    have HCA := Lib.hid (And.intro a0 (And.intro a1 (And.intro a2 a4)))
    clear a0 a1 a2 a4
    go_loopg [14] ys.length (fun gg s14 wr => ∃ (v : Value) (l : List TX), l.length ≤ ys.length ∧ ys.length - l.length ≤ gg ∧ s14 = .int .i64 l.length ∧ Aside (l.map TX.t = ys.take l.length) ∧ Aside (OT (fun k => w.heap.size + 2 ≤ k) wr (w.heap.size + 2) v l) ∧ Aside (Bk wr w.heap.size (.int .i64 0) (.string ⟨#[]⟩) (.string ⟨#[]⟩) (.slice none 0 0) (.string ⟨#[]⟩)) ∧ Aside (Bk wr (w.heap.size + 1) (.int .i64 t.kind) (.string ⟨t.name.toArray⟩) (.string ⟨t.var.toArray⟩) v (.string ⟨t.form.toArray⟩)) ∧ Aside (Below w.heap.size w wr))
    case atStart => exact ⟨.slice none 0 0, [], Nat.zero_le _, by simp, rfl, rfl, ot_nil _ _ _, HR0.out, HC0.out, HB0.out⟩
    case round =>
      obtain ⟨v, l, hi, hgg, rfl, HM, HO, HR, HC, HB⟩ := hrel
      have x3 := (HB.out.cell (p := ⟨b, o + 3, none⟩) hbl).trans a3
      by_cases hlt : l.length < ys.length
      · obtain ⟨⟨m0, m1, m2, m3, m4⟩, mf, ml⟩ := HC.out.cells
        have hltz : (l.length : Int) < (ys.length : Int) := by omega
        obtain ⟨b1, o1, rfl, hR1⟩ := (TA.below HTA.out HB.out).at_ hlt
        have hm := List.getElem_mem hlt
        have HCL := Lib.hid fun w' (hb : Below wr.heap.size wr w') => IH.out ys[l.length] (HSZ.out _ hm).1 b1 (o1 + l.length * 5) w' ((hR1.more HB.out.size).below hb |>.more hb.size) (HSZ.out _ hm).2
        unfold tv at HCL
        have HMT : Hid (ys.take (l.length + 1) = ys.take l.length ++ [ys[l.length]]) := List.take_succ_eq_append_getElem hlt
        have hll : l.length ≤ 100000 := by have := HLS.out; omega
        have mf3 := mf 3
        have HML := Lib.hid ml
        clear hR1 hm mf ml m0 m1 m2 m4
        generalize ys[l.length] = u at *
        go_upto_region 6 with (fail)
        obtain ⟨i0, hi0, hz0, hz1, hz2⟩ := info_parts term_info
        refine wp_region_noPanic ?_
        go_region_law (first
          | (go_simp; go_at_call 26; ((with_reducible refine (HCL.out _ (below_dr (Below.refl wr.heap.size wr))).mono ?_); rintro e wc ⟨A5, c5, rfl, hv5, hb5⟩; have HV5 := Lib.hid hv5; have HB5 : Hid (Below wr.heap.size wr wc) := (below_dr (Below.refl wr.heap.size wr)).trans hb5; have x3c := (HB5.out.cell (p := ⟨b, o + 3, none⟩) (Nat.lt_of_lt_of_le hbl HB.out.size)).trans x3; have HC5 := Lib.hid (HC.out.reach HB5.out); have m3c := HC5.out.cells.1.2.2.2.1; have m3a : (wc.alloc (.cells #[.int .i64 u.kind, .string ⟨u.name.toArray⟩, .string ⟨u.var.toArray⟩, .slice A5 u.args.length c5, .string ⟨u.form.toArray⟩] 24)).cell? ⟨w.heap.size + 1, 3, none⟩ = some v := (HC5.out.reach ((Below.refl _ _).alloc (Nat.le_refl _) _)).cells.1.2.2.2.1; clear hv5 hb5))
          | (refine step_append_lies _ rfl _ _ 22 rfl (w.heap.size + 2) 24 i0 _ 5 80 Tryz.underlying22 hi0 hz0 hz1 hz2 rfl (by decide) v l.length (txc l) rfl (World.ownsRow.alloc (HO.out.bel HB5.out).1 _) ⟨wc.heap.size, 0, none⟩ 1 1 (TX.cells ⟨u, A5, c5⟩) rfl rfl (tx_new wc ⟨u, A5, c5⟩) (tx_one _) (by decide) (by unfold maxLen; omega) (by omega) (by have := HB5.out.size; have := HML.out; simp; omega) _ rfl ?_; intro g7 cap7 w7 hown7 hgrow7 hat7 hlt7
             have hap := ot_append (x := ⟨u, A5, c5⟩) _ (HO.out.bel HB5.out) (HV5.out.keep (fun k hk => ⟨⟨by have h1 : wr.heap.size ≤ k := hk.1; have := HML.out; show w.heap.size + 2 ≤ k; omega, hk.2, fun e => by have h1 : wr.heap.size ≤ k := hk.1; have := (HO.out.lt k e).2; omega⟩, rfl⟩)) hown7 hgrow7 hat7 (by have := HB5.out.size; have := HML.out; omega)
             have HO7 := Lib.hid hap.1
             have HB7 : Hid (Below (w.heap.size + 2) wr w7) := (HB5.out.mono (by have := HML.out; omega)).trans hap.2.1
             have HC7 : Hid (Bk w7 (w.heap.size + 1) (.int .i64 t.kind) (.string ⟨t.name.toArray⟩) (.string ⟨t.var.toArray⟩) v (.string ⟨t.form.toArray⟩)) := HC.out.below HB7.out (by omega)
             have HR7 : Hid (Bk w7 w.heap.size (.int .i64 0) (.string ⟨#[]⟩) (.string ⟨#[]⟩) (.slice none 0 0) (.string ⟨#[]⟩)) := HR.out.below HB7.out (by omega)
             have m37 := HC7.out.cells.1.2.2.2.1
             have mf7 := HC7.out.cells.2.1 3
             clear hap hown7 hgrow7 hat7 hlt7))
        all_goals
          refine NoPanic.normal ?_
          have HO8 := Lib.hid (HO7.out.set (cb := w.heap.size + 1) (o := 3) (u := .slice (some ⟨g7, 0, none⟩) (l.length + 1) cap7) (by omega) (by omega))
          have HC8 := Lib.hid (HC7.out.set3 (.slice (some ⟨g7, 0, none⟩) (l.length + 1) cap7))
          have HR8 := Lib.hid (HR7.out.other (b' := w.heap.size + 1) (o := 3) (.slice (some ⟨g7, 0, none⟩) (l.length + 1) cap7) (by omega))
          have HB8 : Hid (Below w.heap.size w (w7.setCell ⟨w.heap.size + 1, 3, none⟩ (.slice (some ⟨g7, 0, none⟩) (l.length + 1) cap7))) := ((HB.out).trans (HB7.out.mono (by omega))).setCell (p := ⟨w.heap.size + 1, 3, none⟩) (by simp) _
          have HM8 : Hid ((l ++ [TX.mk u A5 c5]).map TX.t = ys.take (l ++ [TX.mk u A5 c5]).length) := by
            show (l ++ [TX.mk u A5 c5]).map TX.t = _
            rw [List.map_append, List.length_append, HM.out]
            show _ = ys.take (l.length + 1)
            rw [HMT.out]; rfl
          have hl8 : (l ++ [TX.mk u A5 c5]).length = l.length + 1 := by simp
          have HL8 := Lib.hid hl8
          clear hl8
          go_wp2_with fail
          go_roundg (ys.length - (l.length + 1))
          case measure => omega
          case rel => exact ⟨.slice (some ⟨g7, 0, none⟩) (l.length + 1) cap7, l ++ [TX.mk u A5 c5], by rw [HL8.out]; omega, by rw [HL8.out]; omega, by rw [HL8.out]; go_num, HM8.out, HO8.out, HR8.out, HC8.out, HB8.out⟩
      · have hltz : ¬ (l.length : Int) < (ys.length : Int) := by omega
        obtain ⟨A9, c9, rfl, hc9, hta9⟩ := HO.out.trs (fun k hk => hk)
        have hmt : l.map TX.t = t.args := by rw [HM.out, ← HYS.out, List.take_of_length_le (by omega)]
        have hle : l.length = t.args.length := by rw [← hmt, List.length_map]
        rw [hmt] at hta9
        rw [hle] at hc9
        have HV9 : Hid (TVS wr (fun k => w.heap.size + 2 ≤ k ∧ k < wr.heap.size) t A9 c9) := TVS.mk hc9 hta9
        rw [hle] at HC
        obtain ⟨⟨m0, m1, m2, m3, m4⟩, mf, ml⟩ := HC.out.cells
        obtain ⟨⟨q0, q1, q2, q3, q4⟩, qf, ql⟩ := HR.out.cells
        have HLE := Lib.hid hle
        clear hle hta9 hc9 hmt HO HM
        go_wp2_with fail
        have hnb : ¬ (w.heap.size + 2 ≤ w.heap.size ∧ w.heap.size < wr.heap.size) := by omega
        refine bodyPost_ret (v := .agg (tv t A9 c9)) (by simp [results, Tryz.results26, go_sem, tv, q0, q1, q2, q3, q4]) rfl ⟨A9, c9, rfl, ?_, ?_⟩
        · exact (((((HV9.out.set _ 0 _ hnb).set _ 1 _ hnb).set _ 2 _ hnb).set _ 3 _ hnb).set _ 4 _ hnb).keep (fun k hk => ⟨⟨by have := hk.1; omega, by have := hk.2; simpa using this⟩, rfl⟩)
        · exact ((((HB.out.setCell (p := ⟨w.heap.size, 0, none⟩) (Nat.le_refl _) _).setCell (p := ⟨w.heap.size, 1, none⟩) (Nat.le_refl _) _).setCell (p := ⟨w.heap.size, 2, none⟩) (Nat.le_refl _) _).setCell (p := ⟨w.heap.size, 3, none⟩) (Nat.le_refl _) _).setCell (p := ⟨w.heap.size, 4, none⟩) (Nat.le_refl _) _
end Go.Proofs.YtkjhfbgdmmnadaaGreat
