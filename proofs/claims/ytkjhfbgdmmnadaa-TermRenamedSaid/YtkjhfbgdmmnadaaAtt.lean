/- Contracts of At 24 and of the reference's At 25. -/
import Derived.Test.YtkjhfbgdmmnadaaCln
import Derived.Test.YtkjhfbgdmmnadaaLawK
namespace Go.Proofs.Ytkjhfbgdmmnadaa
open Go.RowKit

def zT : T := .mk 0 [] [] [] []
def nthA (ts : List T) (i : Int) : Option T := if i < 0 then none else ts[i.toNat]?
def goT : T → List Int → T × Int
  | t, [] => (t, 0)
  | t, i :: p => match nthA t.args i with
    | some u => goT u p
    | none => (zT, 2)
theorem nthA_neg (ts : List T) (i : Int) (h : i < 0) : nthA ts i = none := if_pos h
theorem nthA_big (ts : List T) (i : Int) (h : ¬ i < ts.length) : nthA ts i = none := by
  unfold nthA
  split
  · rfl
  · exact List.getElem?_eq_none (by omega)
theorem nthA_at (ts : List T) (n : Nat) (h : n < ts.length) : nthA ts (n : Int) = some ts[n] := by
  unfold nthA
  rw [if_neg (by omega)]
  exact List.getElem?_eq_getElem h
def atT (t : T) (p : List Int) : T × Int := if validB t = true then goT t p else (zT, 1)
/-- a slice of ints, its block below B -/
def PI (w : World) (B : Nat) (v : Value) (p : List Int) : Prop :=
  ∃ A c, v = .slice A p.length c ∧ (p.length ≤ c ∧ c ≤ 9223372036854775807) ∧ (p ≠ [] → ∃ b o, A = some ⟨b, o, none⟩ ∧ b < B ∧ ∀ j (h : j < p.length), w.cell? ⟨b, o + j, none⟩ = some (.int .i64 p[j]))
theorem PI.below {w w' : World} {B : Nat} {v : Value} {p : List Int} (h : PI w B v p) (hb : Below B w w') : PI w' B v p := by
  obtain ⟨A, c, h1, h2, h3⟩ := h
  refine ⟨A, c, h1, h2, fun hne => ?_⟩
  obtain ⟨b, o, h4, h5, h6⟩ := h3 hne
  exact ⟨b, o, h4, h5, fun j hj => (hb.cell (p := ⟨b, _, none⟩) h5).trans (h6 j hj)⟩
theorem PI.more {w : World} {B B' : Nat} {v : Value} {p : List Int} (h : PI w B v p) (hB : B ≤ B') : PI w B' v p := by
  obtain ⟨A, c, h1, h2, h3⟩ := h
  refine ⟨A, c, h1, h2, fun hne => ?_⟩
  obtain ⟨b, o, h4, h5, h6⟩ := h3 hne
  exact ⟨b, o, h4, by omega, h6⟩
def stepT (o : Option T) (p : List Int) : T × Int := match o with | some u => goT u p | none => (zT, 2)
theorem goT_cons (t : T) (p : List Int) (i : Nat) (hi : i < p.length) : goT t (p.drop i) = stepT (nthA t.args p[i]) (p.drop (i + 1)) := by
  rw [List.drop_eq_getElem_cons hi, goT]; rfl
theorem goT_nil (t : T) (p : List Int) (i : Nat) (hi : p.length ≤ i) : goT t (p.drop i) = (t, 0) := by
  rw [List.drop_eq_nil_of_le hi, goT]
theorem zT_tvs (w : World) (S : Nat → Prop) : TVS w S zT none 0 := ⟨⟨Nat.le_refl _, by omega⟩, fun h => absurd rfl h⟩
theorem zT_tv (w : World) (B : Nat) : TV w B zT none 0 := ⟨⟨Nat.le_refl _, by omega⟩, fun h => absurd rfl h⟩

set_option maxRecDepth 100000 in
set_option maxHeartbeats 4000000 in
theorem at24_any (t : T) (A : Option Addr) (c : Nat) (v : Value) (p : List Int) (w : World) (hv : TV w w.heap.size t A c) (hp : PI w w.heap.size v p) (hs : SA t) (hm : Max w) :
    Calls Try.prog 24 #[.agg (tv t A c), v] w fun e w' => ∃ A' c', e = .returned (.tuple #[.agg (tv (atT t p).1 A' c'), .int .i64 (atT t p).2]) ∧ TVS w' (fun k => w.heap.size ≤ k ∧ k < w'.heap.size) (atT t p).1 A' c' ∧ Below w.heap.size w w' := by
  have hb1 : Below w.heap.size w (w.alloc (.cells (tv t A c) 24)) := (Below.refl _ _).alloc (Nat.le_refl _) _
  have hb0 : Below w.heap.size w ((w.alloc (.cells (tv t A c) 24)).alloc (.cells #[.int .i64 0, .string ⟨#[]⟩, .string ⟨#[]⟩, .slice none 0 0, .string ⟨#[]⟩] 24)) := hb1.alloc (by simp) _
  have hs2 : ((w.alloc (.cells (tv t A c) 24)).alloc (.cells #[.int .i64 0, .string ⟨#[]⟩, .string ⟨#[]⟩, .slice none 0 0, .string ⟨#[]⟩] 24)).heap.size = w.heap.size + 2 := by simp
  have hs1 : (w.alloc (.cells (tv t A c) 24)).heap.size = w.heap.size + 1 := by simp
  have HC := Lib.hid (validT_any t A c _ (hv.reach hb0) hs (hm.reach hb0))
  have hbx : TR ((w.alloc (.cells (tv t A c) 24)).alloc (.cells #[.int .i64 0, .string ⟨#[]⟩, .string ⟨#[]⟩, .slice none 0 0, .string ⟨#[]⟩] 24)) (w.heap.size + 1) w.heap.size 0 t := hv.box.below ((Below.refl _ _).alloc (by rw [hs1]; exact Nat.le_refl _) _)
  have HRB := Lib.hid (Bk.new (w.alloc (.cells (tv t A c) 24)) (.int .i64 0) (.string ⟨#[]⟩) (.string ⟨#[]⟩) (.slice none 0 0) (.string ⟨#[]⟩))
  rw [hs1] at HRB
  have HF : Hid (((w.alloc (.cells (tv t A c) 24)).alloc (.cells #[.int .i64 0, .string ⟨#[]⟩, .string ⟨#[]⟩, .slice none 0 0, .string ⟨#[]⟩] 24)).heap[w.heap.size]? = some (.cells (tv t A c) 24)) := (Below.heap_alloc _ _ _ (by simp)).trans (blk_new _ _)
  have HBX := Lib.hid hbx
  have HI := Lib.hid (tv_info t A c)
  have HB0 := Lib.hid hb0
  have HS2 := Lib.hid hs2
  have HPI := Lib.hid hp
  obtain ⟨PA, pc, rfl, ⟨hpc1, hpc2⟩, hpcell⟩ := hp
  have HPC := Lib.hid hpcell
  have hpl : p.length ≤ 9223372036854775807 := by omega
  have HE : Hid (atT t p = if validB t = true then goT t p else (zT, 1)) := rfl
  have HVI := Lib.hid (valid_iff t)
  have HS1 := Lib.hid hs1
  clear hv hs hm hbx hb0 hb1 hs2 hpcell hs1
  generalize tv t A c = cs at *
  go_enter Try.func24, Try.ntmps24
  go_wp2_with (with_reducible refine wpList_load_row rfl 24 (.tmp 2) rfl w.heap.size rfl 24 cs (0, 0) _ HF.out Try.underlying24 rfl HI.out ?_)
  generalize (w.alloc (.cells cs 24)).alloc (.cells #[.int .i64 0, .string ⟨#[]⟩, .string ⟨#[]⟩, .slice none 0 0, .string ⟨#[]⟩] 24) = w0 at *
  refine HC.out.mono ?_
  rintro e w1 ⟨rfl, hb1⟩
  have HB1 := Lib.hid (HB0.out.trans (hb1.mono HB0.out.size))
  have HBX1 := Lib.hid (HBX.out.below (hb1.mono (by rw [HS2.out]; omega)))
  have HR1 := Lib.hid (HRB.out.reach hb1)
  have HSZ1 : Hid (w.heap.size + 2 ≤ w1.heap.size) := by have := hb1.size; rw [HS2.out] at this; exact this
  clear hb1 HC HRB HF HBX HB0
  have hnb : w.heap.size + 1 < w1.heap.size := by have := HSZ1.out; omega
  cases hvb : validB t with
  | false =>
    have HX : Hid (atT t p = (zT, 1)) := HE.out.trans (if_neg (by rw [hvb]; decide))
    obtain ⟨⟨q0, q1, q2, q3, q4⟩, qf, ql⟩ := HR1.out.cells
    clear hvb
    go_wp2_with fail
    rw [HX.out]
    refine bodyPost_ret (v := .tuple #[.agg (tv zT none 0), .int .i64 1]) (by simp [results, Try.results24, go_sem, tv, zT, T.kind, T.name, T.var, T.args, T.form, q0, q1, q2, q3, q4]) rfl ⟨none, 0, rfl, zT_tvs _ _, ?_⟩
    exact (((((HB1.out.setCell (p := ⟨w.heap.size + 1, 0, none⟩) (by simp) _).setCell (p := ⟨w.heap.size + 1, 1, none⟩) (by simp) _).setCell (p := ⟨w.heap.size + 1, 2, none⟩) (by simp) _).setCell (p := ⟨w.heap.size + 1, 3, none⟩) (by simp) _).setCell (p := ⟨w.heap.size + 1, 4, none⟩) (by simp) _)
  | true =>
    have HX : Hid (atT t p = goT t p) := HE.out.trans (if_pos hvb)
    have hzt : t.size ≤ 1000 := ((HVI.out).1 hvb).2
    clear hvb
    go_wp2_with fail
    go_loopg [6, 15] p.length (fun gg s6 s15 wr => ∃ (i b o : Nat) (s : T), i ≤ p.length ∧ p.length - i ≤ gg ∧ s15 = .int .i64 i ∧ s6 = .pointer (some ⟨b, o, none⟩) ∧ s.size ≤ 1000 ∧ Aside (TR w1 (w.heap.size + 1) b o s) ∧ Aside (goT t p = goT s (p.drop i)) ∧ wr = w1)
    case atStart => exact ⟨0, w.heap.size, 0, t, Nat.zero_le _, by omega, rfl, rfl, hzt, HBX1.out, rfl, rfl⟩
    case round =>
      obtain ⟨i, b, o, s, hi, hgg, rfl, rfl, hzs, HT, HG, rfl⟩ := hrel
      by_cases hlt : i < p.length
      · have hltz : (i : Int) < (p.length : Int) := by omega
        obtain ⟨pb, po, rfl, hpb, hpx⟩ := HPC.out (by intro e; rw [e] at hlt; simp at hlt)
        have hck : wr.cell? ⟨pb, po + i, none⟩ = some (.int .i64 p[i]) := (HB1.out.cell (p := ⟨pb, po + i, none⟩) hpb).trans (hpx i hlt)
        obtain ⟨hbl, a0, a1, a2, a4, A1, n1, a3, ⟨hcp1, hcp2⟩, hTA⟩ := HT.out.parts
        have HTA := Lib.hid hTA
        have HD := Lib.hid (goT_cons s p i hlt)
        have hsl : s.args.length ≤ 9223372036854775807 := by omega
        have HSS := Lib.hid (fun (u : T) (hu : u ∈ s.args) => size_arg (t := s) hu)
        obtain ⟨⟨q0, q1, q2, q3, q4⟩, qf, ql⟩ := HR1.out.cells
        clear hpx hTA a0 a1 a2 a4
        generalize p[i] = x at *
        by_cases h0 : x < 0
        · have HY : Hid (atT t p = (zT, 2)) := by show atT t p = _; rw [HX.out, HG.out, HD.out, nthA_neg _ _ h0]; rfl
          clear HD
          go_wp2_with fail
          rw [HY.out]
          refine bodyPost_ret (v := .tuple #[.agg (tv zT none 0), .int .i64 2]) (by simp [results, Try.results24, go_sem, tv, zT, T.kind, T.name, T.var, T.args, T.form, q0, q1, q2, q3, q4]) rfl ⟨none, 0, rfl, zT_tvs _ _, ?_⟩
          exact (((((HB1.out.setCell (p := ⟨w.heap.size + 1, 0, none⟩) (by simp) _).setCell (p := ⟨w.heap.size + 1, 1, none⟩) (by simp) _).setCell (p := ⟨w.heap.size + 1, 2, none⟩) (by simp) _).setCell (p := ⟨w.heap.size + 1, 3, none⟩) (by simp) _).setCell (p := ⟨w.heap.size + 1, 4, none⟩) (by simp) _)
        · by_cases h1 : x < s.args.length
          · have h1z : ¬ (s.args.length : Int) ≤ x := by omega
            have hxn : x.toNat < s.args.length := by omega
            obtain ⟨n, rfl⟩ : ∃ n : Nat, x = (n : Int) := ⟨x.toNat, by omega⟩
            have hns : n < s.args.length := by omega
            have HY : Hid (goT t p = goT s.args[n] (p.drop (i + 1))) := by
              show goT t p = _
              rw [HG.out, HD.out, nthA_at _ n hns]; rfl
            obtain ⟨b1, o1, rfl, hR1⟩ := TA.at_ HTA.out hns
            have HR2 := Lib.hid hR1
            have hzz : s.args[n].size ≤ 1000 := by have := HSS.out _ (List.getElem_mem hns); omega
            clear HD hR1
            go_wp2_with fail
            go_roundg (p.length - (i + 1))
            case measure => omega
            case rel => exact ⟨i + 1, b1, o1 + n * 5, s.args[n], by omega, by omega, by go_num, rfl, hzz, HR2.out, HY.out, rfl⟩
          · have HY : Hid (atT t p = (zT, 2)) := by show atT t p = _; rw [HX.out, HG.out, HD.out, nthA_big _ _ h1]; rfl
            have h1z : (s.args.length : Int) ≤ x := by omega
            clear HD
            go_wp2_with fail
            rw [HY.out]
            refine bodyPost_ret (v := .tuple #[.agg (tv zT none 0), .int .i64 2]) (by simp [results, Try.results24, go_sem, tv, zT, T.kind, T.name, T.var, T.args, T.form, q0, q1, q2, q3, q4]) rfl ⟨none, 0, rfl, zT_tvs _ _, ?_⟩
            exact (((((HB1.out.setCell (p := ⟨w.heap.size + 1, 0, none⟩) (by simp) _).setCell (p := ⟨w.heap.size + 1, 1, none⟩) (by simp) _).setCell (p := ⟨w.heap.size + 1, 2, none⟩) (by simp) _).setCell (p := ⟨w.heap.size + 1, 3, none⟩) (by simp) _).setCell (p := ⟨w.heap.size + 1, 4, none⟩) (by simp) _)
      · have hltz : ¬ (i : Int) < (p.length : Int) := by omega
        have HY : Hid (atT t p = (s, 0)) := by show atT t p = _; rw [HX.out, HG.out, goT_nil s p i (by omega)]
        have HCL := Lib.hid (clone_aux s.size s (Nat.le_refl _) b o wr (HT.out.more (by omega)) (by omega))
        go_wp2_with fail
        refine HCL.out.mono ?_
        rintro e w2 ⟨A5, c5, rfl, hv5, hb5⟩
        have HV5 := Lib.hid hv5
        have HB5 := Lib.hid (HB1.out.trans (hb5.mono HB1.out.size))
        have HR5 := Lib.hid (HR1.out.reach hb5)
        have hnb5 : ¬ (wr.heap.size ≤ w.heap.size + 1 ∧ w.heap.size + 1 < w2.heap.size) := by have := HSZ1.out; omega
        obtain ⟨⟨q0, q1, q2, q3, q4⟩, qf, ql⟩ := HR5.out.cells
        clear hv5 hb5 HCL
        unfold tv
        go_wp2_with fail
        rw [HY.out]
        refine bodyPost_ret (v := .tuple #[.agg (tv s A5 c5), .int .i64 0]) (by simp [results, Try.results24, go_sem, tv, q0, q1, q2, q3, q4]) rfl ⟨A5, c5, rfl, ?_, ?_⟩
        · exact (((((HV5.out.set _ 0 _ hnb5).set _ 1 _ hnb5).set _ 2 _ hnb5).set _ 3 _ hnb5).set _ 4 _ hnb5).keep (fun k hk => ⟨⟨by have := hk.1; have := HSZ1.out; omega, by simpa using hk.2⟩, rfl⟩)
        · exact (((((HB5.out.setCell (p := ⟨w.heap.size + 1, 0, none⟩) (by simp) _).setCell (p := ⟨w.heap.size + 1, 1, none⟩) (by simp) _).setCell (p := ⟨w.heap.size + 1, 2, none⟩) (by simp) _).setCell (p := ⟨w.heap.size + 1, 3, none⟩) (by simp) _).setCell (p := ⟨w.heap.size + 1, 4, none⟩) (by simp) _)
end Go.Proofs.Ytkjhfbgdmmnadaa
