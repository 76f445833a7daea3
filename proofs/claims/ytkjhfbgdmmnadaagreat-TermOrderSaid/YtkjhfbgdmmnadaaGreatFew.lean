/- Contracts of Valid, left, few. -/
import Derived.Test.YtkjhfbgdmmnadaaGreatCnt
import Derived.Laws.Tables
namespace Go.Proofs.YtkjhfbgdmmnadaaGreat
open Go.RowKit

theorem blk_new (w : World) (o : Obj) : (w.alloc o).heap[w.heap.size]? = some o := heap_alloc_new w o
theorem tv_info (t : T) (A : Option Addr) (c : Nat) : (Tryz.prog.info? 24).map (·.size) = some (tv t A c).size := by show _ = some 5; kernel_rfl
theorem cnt_pos (t : T) : decide (0 < cntT t) = validB t := by
  unfold cntT validB
  cases h : (vld t 0).1 with
  | false => simp
  | true => have := vld_le t 0 h; simp; omega

set_option maxHeartbeats 1000000 in
theorem validT_any (t : T) (A : Option Addr) (c : Nat) (w : World) (hv : TV w w.heap.size t A c) (hs : SA t) (hm : Max w) :
    Calls Tryz.prog 23 #[.agg (tv t A c)] w fun e w' => e = .returned (.bool (validB t)) ∧ Below w.heap.size w w' := by
  have hb0 : Below w.heap.size w (w.alloc (.cells (tv t A c) 24)) := (Below.refl _ _).alloc (Nat.le_refl _) _
  have HB0 := Lib.hid hb0
  have HC := Lib.hid (count_any t A c _ ((hv.below hb0).more hb0.size) hs (hm.below hb0))
  have HP := Lib.hid (cnt_pos t)
  have HI := Lib.hid (tv_info t A c)
  clear hv hs hm hb0
  generalize tv t A c = cs at *
  generalize cntT t = n at *
  have HF : Hid ((w.alloc (.cells cs 24)).heap[w.heap.size]? = some (.cells cs 24)) := blk_new _ _
  go_enter Tryz.func23, Tryz.ntmps23
  go_wp2_with (with_reducible refine wpList_load_row rfl 24 (.tmp 1) rfl w.heap.size rfl 24 cs (0, 0) _ HF.out Tryz.underlying24 rfl HI.out ?_)
  refine HC.out.mono ?_
  rintro e w1 ⟨rfl, hb1⟩
  have HB1 := Lib.hid (HB0.out.trans (hb1.mono HB0.out.size))
  clear hb1
  have hd : decide ((0 : Int) < (n : Int)) = validB t := by rw [← HP.out, decide_eq_decide]; omega
  have HD := Lib.hid hd
  clear hd
  go_wp2_with fail
  go_ret
  rw [← HD.out]
  exact ⟨by simp, HB1.out⟩

mutual
def lft : T → Int → Int
  | .mk _ n v ys f, m => if 300 < n.length ∨ 300 < v.length ∨ 300 < f.length then -1 else lfts ys (m - 1)
def lfts : List T → Int → Int
  | [], m => m
  | t :: ts, m => if 0 ≤ m then lfts ts (lft t m) else m
end
theorem lft_eq (t : T) (m : Int) : lft t m = if 300 < t.name.length ∨ 300 < t.var.length ∨ 300 < t.form.length then -1 else lfts t.args (m - 1) := by
  cases t with
  | mk k n v ys f => rw [lft]; rfl
mutual
theorem lft_le (t : T) (m : Int) (hm : 0 ≤ m) : -1 ≤ lft t m ∧ lft t m < m := by
  cases t with
  | mk k n v ys f =>
    rw [lft]
    split
    · omega
    · have := lfts_le ys (m - 1) (by omega); omega
theorem lfts_le (ts : List T) (m : Int) (hm : -1 ≤ m) : -1 ≤ lfts ts m ∧ lfts ts m ≤ m := by
  cases ts with
  | nil => rw [lfts]; omega
  | cons t ts =>
    rw [lfts]
    split
    · rename_i h
      have h1 := lft_le t m h
      have h2 := lfts_le ts (lft t m) h1.1
      omega
    · omega
end
mutual
theorem lft_SA (t : T) (m : Int) (h : 0 ≤ lft t m) : SA t := by
  cases t with
  | mk k n v ys f =>
    rw [lft] at h
    rw [SA]
    split at h
    · omega
    · rename_i hc
      refine ⟨⟨?_, ?_, ?_⟩, lfts_SA ys (m - 1) h⟩
      · show n.length ≤ 1000
        rcases Nat.lt_or_ge 300 n.length with h' | h'
        · exact absurd (.inl h') hc
        · omega
      · show v.length ≤ 1000
        rcases Nat.lt_or_ge 300 v.length with h' | h'
        · exact absurd (.inr (.inl h')) hc
        · omega
      · show f.length ≤ 1000
        rcases Nat.lt_or_ge 300 f.length with h' | h'
        · exact absurd (.inr (.inr h')) hc
        · omega
theorem lfts_SA (ts : List T) (m : Int) (h : 0 ≤ lfts ts m) : SAs ts := by
  cases ts with
  | nil => rw [SAs]; trivial
  | cons t ts =>
    rw [lfts] at h
    rw [SAs]
    split at h
    · rename_i hm
      have h2 := lfts_SA ts _ h
      refine ⟨lft_SA t m ?_, h2⟩
      have h3 := lft_le t m hm
      have h4 := lfts_le ts _ h3.1
      omega
    · omega
end
def fewB (t : T) : Bool := decide (0 ≤ lft t 200)

set_option maxRecDepth 100000 in
set_option maxHeartbeats 4000000 in
theorem left_aux (N : Nat) : ∀ (t : T), t.size ≤ N → ∀ (A : Option Addr) (c : Nat) (m : Int) (w : World), TV w w.heap.size t A c → 0 ≤ m → m ≤ 200 →
    Calls Tryz.prog 16 #[.agg (tv t A c), .int .i64 m] w fun e w' => e = .returned (.int .i64 (lft t m)) ∧ Below w.heap.size w w' := by
  induction N with
  | zero => intro t ht; exact absurd ht (by cases t; rw [T.size]; omega)
  | succ N ih =>
    intro t ht A c m w hv hm0 hm2
    have IH := Lib.hid ih
    clear ih
    have HE := Lib.hid (lft_eq t m)
    have hb0 : Below w.heap.size w (w.alloc (.cells (tv t A c) 24)) := (Below.refl _ _).alloc (Nat.le_refl _) _
    have HB0 := Lib.hid hb0
    have hR := hv.box
    have HTA : Hid (TA (w.alloc (.cells (tv t A c) 24)) w.heap.size A t.args) := hv.ar.below hb0
    have HSZ : Hid (∀ u ∈ t.args, u.size ≤ N) := fun u hu => by have := size_arg hu; omega
    obtain ⟨hcp1, hcp2⟩ := hv.cap
    have k0 : (w.alloc (.cells (tv t A c) 24)).cell? ⟨w.heap.size, 1, none⟩ = some (.string ⟨t.name.toArray⟩) := by simp [tv]
    have k1 : (w.alloc (.cells (tv t A c) 24)).cell? ⟨w.heap.size, 2, none⟩ = some (.string ⟨t.var.toArray⟩) := by simp [tv]
    have k3 : (w.alloc (.cells (tv t A c) 24)).cell? ⟨w.heap.size, 3, none⟩ = some (.slice A t.args.length c) := by simp [tv]
    have k4 : (w.alloc (.cells (tv t A c) 24)).cell? ⟨w.heap.size, 4, none⟩ = some (.string ⟨t.form.toArray⟩) := by simp [tv]
    have s0 : (⟨t.name.toArray⟩ : ByteArray).size = t.name.length := size_mk _
    have s1 : (⟨t.var.toArray⟩ : ByteArray).size = t.var.length := size_mk _
    have s4 : (⟨t.form.toArray⟩ : ByteArray).size = t.form.length := size_mk _
    generalize tv t A c = cs at *
    generalize t.name = nm at *
    generalize t.var = v at *
    generalize t.form = f at *
    obtain ⟨ys, hys⟩ : ∃ ys, ys = t.args := ⟨_, rfl⟩
    rw [← hys] at HE HTA HSZ k3 hcp1
    clear hys hv hb0 hR
    have hyl : ys.length ≤ 9223372036854775807 := by omega
    go_enter Tryz.func16, Tryz.ntmps16
    go_upto_region 2 with (fail)
    go_cut [23] (fun s23 wx => s23 = .bool (decide (300 < nm.length ∨ 300 < v.length ∨ 300 < f.length)) ∧ w.alloc (.cells cs 24) = wx)
    case first =>
      by_cases h1 : 300 < nm.length
      · have h1z : (300 : Int) < (nm.length : Int) := by omega
        have HX : Hid (decide (300 < nm.length ∨ 300 < v.length ∨ 300 < f.length) = true) := decide_eq_true (.inl h1)
        go_wp2_with fail
        go_meet
        case rel => exact ⟨by rw [HX.out], rfl⟩
      · have h1z : ¬ (300 : Int) < (nm.length : Int) := by omega
        by_cases h2 : 300 < v.length
        · have h2z : (300 : Int) < (v.length : Int) := by omega
          have HX : Hid (decide (300 < nm.length ∨ 300 < v.length ∨ 300 < f.length) = true) := decide_eq_true (.inr (.inl h2))
          go_wp2_with fail
          go_meet
          case rel => exact ⟨by rw [HX.out], rfl⟩
        · have h2z : ¬ (300 : Int) < (v.length : Int) := by omega
          by_cases h3 : 300 < f.length
          · have h3z : (300 : Int) < (f.length : Int) := by omega
            have HX : Hid (decide (300 < nm.length ∨ 300 < v.length ∨ 300 < f.length) = true) := decide_eq_true (.inr (.inr h3))
            go_wp2_with fail
            go_meet
            case rel => exact ⟨by rw [HX.out], rfl⟩
          · have h3z : ¬ (300 : Int) < (f.length : Int) := by omega
            have HX : Hid (decide (300 < nm.length ∨ 300 < v.length ∨ 300 < f.length) = false) := decide_eq_false (by omega)
            go_wp2_with fail
            go_meet
            case rel => exact ⟨by rw [HX.out], rfl⟩
    case rest =>
      obtain ⟨rfl, rfl⟩ := hcut
      clear k0 k1 k4 s0 s1 s4
      by_cases hlong : 300 < nm.length ∨ 300 < v.length ∨ 300 < f.length
      · have HX := Lib.hid (HE.out.trans (if_pos hlong))
        rw [decide_eq_true hlong]
        clear hlong
        go_wp2_with fail
        go_ret
        rw [HX.out]
        exact ⟨rfl, HB0.out⟩
      · have HX := Lib.hid (HE.out.trans (if_neg hlong))
        rw [decide_eq_false hlong]
        clear hlong HE
        go_wp2_with fail
        obtain ⟨w1, hw1⟩ : ∃ w1, w1 = w.alloc (.cells cs 24) := ⟨_, rfl⟩
        have hFl : w.heap.size < w1.heap.size := by rw [hw1]; simp
        rw [← hw1] at HB0 HTA k3 ⊢
        clear hw1
        go_loopg [1, 5] ys.length (fun gg s1 s5 wr => ∃ (i : Nat) (mi : Int), i ≤ ys.length ∧ ys.length - i ≤ gg ∧ s5 = .int .i64 i ∧ s1 = .int .i64 mi ∧ -1 ≤ mi ∧ mi ≤ 200 ∧ Aside (lfts ys (m - 1) = lfts (ys.drop i) mi) ∧ Aside (Below w1.heap.size w1 wr))
        case atStart => exact ⟨0, m - 1, Nat.zero_le _, by omega, rfl, rfl, by omega, by omega, rfl, Below.refl _ _⟩
        case round =>
          obtain ⟨i, mi, hi, hgg, rfl, rfl, hmi1, hmi2, HQ, HB⟩ := hrel
          have HBw := Lib.hid (HB0.out.trans (HB.out.mono HB0.out.size))
          have k3r : wr.cell? ⟨w.heap.size, 3, none⟩ = some (.slice A ys.length c) := (HB.out.cell (p := ⟨w.heap.size, 3, none⟩) hFl).trans k3
          go_upto_region 5 with (fail)
          go_cut [32] (fun s32 wx => s32 = .bool (decide (i < ys.length) && decide (0 ≤ mi)) ∧ wr = wx)
          case first =>
            by_cases hlt : i < ys.length
            · have hltz : (i : Int) < (ys.length : Int) := by omega
              by_cases h0 : 0 ≤ mi
              · go_wp2_with fail
                go_meet
                case rel => exact ⟨by rw [decide_eq_true hlt, decide_eq_true h0]; rfl, rfl⟩
              · go_wp2_with fail
                go_meet
                case rel => exact ⟨by rw [decide_eq_true hlt, decide_eq_false (show ¬ 0 ≤ mi by omega)]; rfl, rfl⟩
            · have hltz : ¬ (i : Int) < (ys.length : Int) := by omega
              go_wp2_with fail
              go_meet
              case rel => exact ⟨by rw [decide_eq_false hlt]; rfl, rfl⟩
          case rest =>
            obtain ⟨rfl, rfl⟩ := hcut
            by_cases hgo : i < ys.length ∧ 0 ≤ mi
            · obtain ⟨hlt, h0⟩ := hgo
              rw [decide_eq_true hlt, decide_eq_true h0]
              obtain ⟨b', o', rfl, hRi⟩ := (HTA.out.below (HB.out.mono HB0.out.size)).at_ hlt
              obtain ⟨_, d0, d1, d2, d4, A2, c2, d3, hcp3, hTA2⟩ := hRi.parts
              have HTV : Hid (TV wr wr.heap.size ys[i] A2 c2) := ⟨hcp3, hTA2.more HBw.out.size⟩
              have HD : Hid (lfts (ys.drop i) mi = lfts (ys.drop (i + 1)) (lft ys[i] mi)) := by
                show lfts (ys.drop i) mi = _
                rw [List.drop_eq_getElem_cons hlt, lfts, if_pos h0]
              have hle := lft_le ys[i] mi h0
              have HCall := Lib.hid (IH.out ys[i] (HSZ.out _ (List.getElem_mem hlt)) A2 c2 mi wr HTV.out h0 hmi2)
              clear hRi hcp3 hTA2 HTV
              unfold tv at HCall
              generalize lft ys[i] mi = r at *
              generalize ys[i] = u at *
              have hltz : (i : Int) < (ys.length : Int) := by omega
              go_wp2_with fail
              refine HCall.out.mono ?_
              rintro e w2 ⟨rfl, hb2⟩
              have HB2 := Lib.hid (HB.out.trans (hb2.mono HB.out.size))
              clear hb2 HCall d0 d1 d2 d3 d4
              go_wp2_with fail
              go_roundg (ys.length - (i + 1))
              case measure => omega
              case rel => exact ⟨i + 1, r, by omega, by omega, by go_num, rfl, by omega, by omega, HQ.out.trans HD.out, HB2.out⟩
            · have HF : Hid ((decide (i < ys.length) && decide (0 ≤ mi)) = false) := by
                show (decide (i < ys.length) && decide (0 ≤ mi)) = false
                by_cases hlt : i < ys.length
                · rw [decide_eq_false (fun h0 => hgo ⟨hlt, h0⟩), Bool.and_false]
                · rw [decide_eq_false hlt]; rfl
              have HR : Hid (lft t m = mi) := by
                show lft t m = mi
                rw [HX.out, HQ.out]
                by_cases hlt : i < ys.length
                · rw [List.drop_eq_getElem_cons hlt, lfts, if_neg (fun h0 => hgo ⟨hlt, h0⟩)]
                · rw [List.drop_eq_nil_of_le (by omega), lfts]
              rw [HF.out]
              clear hgo
              go_wp2_with fail
              go_ret
              rw [HR.out]
              exact ⟨rfl, HBw.out⟩

set_option maxHeartbeats 1000000 in
theorem few_any (t : T) (A : Option Addr) (c : Nat) (w : World) (hv : TV w w.heap.size t A c) :
    Calls Tryz.prog 6 #[.agg (tv t A c)] w fun e w' => e = .returned (.bool (fewB t)) ∧ Below w.heap.size w w' := by
  have hb0 : Below w.heap.size w (w.alloc (.cells (tv t A c) 24)) := (Below.refl _ _).alloc (Nat.le_refl _) _
  have HB0 := Lib.hid hb0
  have HC := Lib.hid (left_aux t.size t (Nat.le_refl _) A c 200 _ ((hv.below hb0).more hb0.size) (by decide) (by decide))
  have HP : Hid (fewB t = decide (0 ≤ lft t 200)) := rfl
  have HI := Lib.hid (tv_info t A c)
  clear hv hb0
  generalize tv t A c = cs at *
  generalize lft t 200 = n at *
  have HF : Hid ((w.alloc (.cells cs 24)).heap[w.heap.size]? = some (.cells cs 24)) := blk_new _ _
  go_enter Tryz.func6, Tryz.ntmps6
  go_wp2_with (with_reducible refine wpList_load_row rfl 24 (.tmp 1) rfl w.heap.size rfl 24 cs (0, 0) _ HF.out Tryz.underlying24 rfl HI.out ?_)
  refine HC.out.mono ?_
  rintro e w1 ⟨rfl, hb1⟩
  have HB1 := Lib.hid (HB0.out.trans (hb1.mono HB0.out.size))
  clear hb1
  go_wp2_with fail
  go_ret
  rw [HP.out]
  exact ⟨rfl, HB1.out⟩
end Go.Proofs.YtkjhfbgdmmnadaaGreat
