/- Contracts of the reference's free, Free. -/
import Derived.Test.YtknpigdpepmimaaGreatDoorM19
namespace Go.Proofs.YtknpigdpepmimaaGreatDoor
open Go.RowKit
theorem SL.reach {w w' : World} {v : Value} {l : List W8} (h : SL w w.heap.size v l) (hb : Below w.heap.size w w') : SL w' w'.heap.size v l := (h.below hb).more hb.size
theorem sl_nil (w : World) (B : Nat) : SL w B (.slice none 0 0) [] := ⟨none, 0, rfl, ⟨Nat.le_refl _, by omega⟩, fun h => absurd rfl h⟩
theorem no_mem : ∀ x ∈ ([] : List W8), identB x = true := by simp
theorem frLs_drop (k : Int) (v : W8) (ys : List T) (i : Nat) (hlt : i < ys.length) (out : List W8) :
    frLs k v (ys.drop i) out = frLs k v (ys.drop (i + 1)) (unionL out (if k = 5 ∧ i + 1 = ys.length then withoutL (frL ys[i]) v else frL ys[i])) := by
  rw [List.drop_eq_getElem_cons hlt, frLs]
  have e : (List.drop (i + 1) ys).length = 0 ↔ i + 1 = ys.length := by rw [List.length_drop]; omega
  simp only [e]
theorem union_len (b a : List W8) : (unionL a b).length ≤ a.length + b.length := by
  induction b generalizing a with
  | nil => simp [unionL]
  | cons s b ih =>
    have h := ih (withL a s)
    have := withL_len a s
    unfold unionL at h ⊢
    rw [List.foldl_cons]
    simp only [List.length_cons]; omega
theorem without_le (l : List W8) (s : W8) : (withoutL l s).length ≤ l.length := List.length_filter_le _ _
set_option maxRecDepth 100000 in
set_option maxHeartbeats 4000000 in
theorem free41_aux (N : Nat) : ∀ (t : T), t.size ≤ N → ∀ (A : Option Addr) (c : Nat) (w : World), TV w w.heap.size t A c → WF t → t.size ≤ 200000 →
    Calls Tryz.prog 32 #[.agg (tv t A c)] w fun e w' => ∃ v, e = .returned v ∧ SL w' w'.heap.size v (frL t) ∧ Below w.heap.size w w' := by
  induction N with
  | zero => intro t ht; exact absurd ht (by cases t; rw [T.size]; omega)
  | succ N ih =>
    intro t ht A c w hv hw hz
    have IH := Lib.hid ih
    clear ih
    have HE := Lib.hid (frL_eq t)
    have HWS := Lib.hid hw.parts.2
    have hb0 : Below w.heap.size w (w.alloc (.cells (tv t A c) 24)) := (Below.refl _ _).alloc (Nat.le_refl _) _
    have HB0 := Lib.hid hb0
    have HTA : Hid (TA (w.alloc (.cells (tv t A c) 24)) w.heap.size A t.args) := hv.ar.below hb0
    have HSZ : Hid (∀ u ∈ t.args, u.size ≤ N ∧ u.size ≤ 200000) := fun u hu => by have := size_arg hu; omega
    have HSS : Hid (sizes t.args ≤ 200000) := by have := size_eq t; show sizes t.args ≤ 200000; omega
    obtain ⟨hcp1, hcp2⟩ := hv.cap
    have k0 : (w.alloc (.cells (tv t A c) 24)).cell? ⟨w.heap.size, 0, none⟩ = some (.int .i64 t.kind) := by simp [tv]
    have k1 : (w.alloc (.cells (tv t A c) 24)).cell? ⟨w.heap.size, 1, none⟩ = some (.string ⟨t.name.toArray⟩) := by simp [tv]
    have k2 : (w.alloc (.cells (tv t A c) 24)).cell? ⟨w.heap.size, 2, none⟩ = some (.string ⟨t.var.toArray⟩) := by simp [tv]
    have k3 : (w.alloc (.cells (tv t A c) 24)).cell? ⟨w.heap.size, 3, none⟩ = some (.slice A t.args.length c) := by simp [tv]
    generalize tv t A c = cs at *
    obtain ⟨ys, hys⟩ : ∃ ys, ys = t.args := ⟨_, rfl⟩
    rw [← hys] at HE HTA HSZ HSS HWS k3 hcp1
    clear hys hv hb0 hw
    have hyl : ys.length ≤ 9223372036854775807 := by omega
    have hls : w.heap.size < (w.alloc (.cells cs 24)).heap.size := by simp
    generalize t.kind = k at *
    generalize t.var = v at *
    generalize t.name = nm at *
    by_cases hk2 : k = 2
    · have hb1 : (k == 2) = true := by simp [hk2]
      have HX : Hid (frL t = [nm]) := HE.out.trans (if_pos hk2)
      clear hk2 HE
      go_enter Tryz.func32, Tryz.ntmps32
      go_wp2_with fail
      go_ret
      rw [HX.out]
      refine ⟨_, rfl, ⟨some ⟨(w.alloc (.cells cs 24)).heap.size, 0, none⟩, 1, by simp, ⟨Nat.le_refl _, by omega⟩, fun _ => ⟨_, 0, rfl, by simp, fun j hj => ?_⟩⟩, HB0.out.alloc HB0.out.size _⟩
      have hj0 : j = 0 := by simp at hj; exact hj
      subst hj0
      simp
    · have hb1 : (k == 2) = false := by simpa using hk2
      have HX : Hid (frL t = frLs k v ys []) := HE.out.trans (if_neg hk2)
      clear hk2 HE k1
      go_enter Tryz.func32, Tryz.ntmps32
      go_wp2_with fail
      obtain ⟨w1, hw1⟩ : ∃ w1, w1 = w.alloc (.cells cs 24) := ⟨_, rfl⟩
      rw [← hw1] at HB0 HTA k0 k2 k3 hls ⊢
      clear hw1
      go_loopg [3, 4, 5] ys.length (fun gg s3 s4 s5 wr => ∃ (i : Nat) (out : List W8), i ≤ ys.length ∧ ys.length - i ≤ gg ∧ s4 = .int .i64 i ∧ Aside (out.length + sizes (ys.drop i) ≤ 200000) ∧ Aside (frLs k v ys [] = frLs k v (ys.drop i) out) ∧ Aside (∀ x ∈ out, identB x = true) ∧ Aside (SL wr wr.heap.size s3 out) ∧ Aside (Below w1.heap.size w1 wr))
      case atStart => exact ⟨0, [], Nat.zero_le _, by omega, rfl, by have := HSS.out; show 0 + sizes ys ≤ 200000; omega, rfl, no_mem, sl_nil _ _, Below.refl _ _⟩
      case round =>
        obtain ⟨i, out, hi, hgg, rfl, HN, HQ, HO, HA, HB⟩ := hrel
        have HBw := Lib.hid (HB0.out.trans (HB.out.mono HB0.out.size))
        have k3r : wr.cell? ⟨w.heap.size, 3, none⟩ = some (.slice A ys.length c) := (HB.out.cell (p := ⟨w.heap.size, 3, none⟩) hls).trans k3
        by_cases hlt : i < ys.length
        · have hltz : (i : Int) < (ys.length : Int) := by omega
          have HD := Lib.hid (frLs_drop k v ys i hlt out)
          obtain ⟨b', o', rfl, hRi⟩ := (HTA.out.below (HB.out.mono HB0.out.size)).at_ hlt
          obtain ⟨_, d0, d1, d2, d4, A2, c2, d3, hcp3, hTA2⟩ := hRi.parts
          have HTV : Hid (TV wr wr.heap.size ys[i] A2 c2) := ⟨hcp3, hTA2.more HBw.out.size⟩
          have hm := List.getElem_mem hlt
          have HCall := Lib.hid (IH.out ys[i] (HSZ.out _ hm).1 A2 c2 wr HTV.out (HWS.out.mem hm) (HSZ.out _ hm).2)
          have HID := Lib.hid (frL_ok ys[i] (HWS.out.mem hm)).2
          have HLN := Lib.hid (frL_len ys[i])
          have HZS : Hid (sizes (ys.drop i) = ys[i].size + sizes (ys.drop (i + 1))) := by show sizes (ys.drop i) = _; rw [List.drop_eq_getElem_cons hlt, sizes]
          have HZ2 := Lib.hid (HSZ.out _ hm).2
          clear hRi hcp3 hTA2 HTV hm
          unfold tv at HCall
          generalize frL ys[i] = fi at *
          generalize ys[i] = u at *
          go_wp2_with fail
          refine HCall.out.mono ?_
          rintro e w2 ⟨v2, rfl, hs2, hb2⟩
          have HS2 := Lib.hid hs2
          have HB2 := Lib.hid (HB.out.trans (hb2.mono HB.out.size))
          have HA2 := Lib.hid (SL.reach HA.out hb2)
          have h0r : w2.cell? ⟨w.heap.size, 0, none⟩ = some (.int .i64 k) := (HB2.out.cell (p := ⟨w.heap.size, 0, none⟩) hls).trans k0
          have h2r : w2.cell? ⟨w.heap.size, 2, none⟩ = some (.string ⟨v.toArray⟩) := (HB2.out.cell (p := ⟨w.heap.size, 2, none⟩) hls).trans k2
          have h3r : w2.cell? ⟨w.heap.size, 3, none⟩ = some (.slice (some ⟨b', o', none⟩) ys.length c) := (HB2.out.cell (p := ⟨w.heap.size, 3, none⟩) hls).trans k3
          clear hs2 hb2 HCall d0 d1 d2 d3 d4 k3r HA HB HBw
          go_upto_region 8 with (fail)
          go_cut [35] (fun s35 wx => s35 = .bool (decide (k = 5 ∧ i + 1 = ys.length)) ∧ w2 = wx)
          case first =>
            by_cases hk : k = 5
            · have hb1 : (k == 5) = true := by simp [hk]
              by_cases he : i + 1 = ys.length
              · have hez : (i : Int) = (ys.length : Int) - 1 := by omega
                have HP : Hid (decide (k = 5 ∧ i + 1 = ys.length) = true) := decide_eq_true ⟨hk, he⟩
                clear hk
                go_wp2_with fail
                go_meet
                case rel => exact ⟨by rw [HP.out], rfl⟩
              · have hez : ¬ (i : Int) = (ys.length : Int) - 1 := by omega
                have HP : Hid (decide (k = 5 ∧ i + 1 = ys.length) = false) := decide_eq_false (fun h => he h.2)
                clear hk
                go_wp2_with fail
                go_meet
                case rel => exact ⟨by rw [HP.out, show ((i : Int) == (ys.length : Int) - 1) = false from by simpa using hez], rfl⟩
            · have hb1 : (k == 5) = false := by simp [hk]
              have HP : Hid (decide (k = 5 ∧ i + 1 = ys.length) = false) := decide_eq_false (fun h => hk h.1)
              clear hk
              go_wp2_with fail
              go_meet
              case rel => exact ⟨by rw [HP.out], rfl⟩
          case rest =>
            obtain ⟨rfl, rfl⟩ := hcut
            by_cases hbd : k = 5 ∧ i + 1 = ys.length
            · have hbb := decide_eq_true hbd
              rw [hbb]
              have HQ2 := Lib.hid (HQ.out.trans HD.out)
              rw [if_pos hbd] at HQ2
              clear hbd hbb HD HQ
              have HC := Lib.hid (without61_any v2 fi v w2 HS2.out (by have := HLN.out; have := HZ2.out; omega))
              have HW3 := Lib.hid (without_le fi v)
              have HID3 : Hid (∀ x ∈ withoutL fi v, identB x = true) := fun x hx => HID.out x (mem_withoutL.1 hx).1
              generalize withoutL fi v = fj at *
              go_wp2_with fail
              refine HC.out.mono ?_
              rintro e w3 ⟨v3, rfl, hs3, hb3⟩
              have HA3 := Lib.hid (SL.reach HA2.out hb3)
              have HB3 := Lib.hid (HB2.out.trans (hb3.mono HB2.out.size))
              have HC4 := Lib.hid (union45_any _ v3 out fj w3 HA3.out hs3 (by have := HN.out; have := HZS.out; have := HLN.out; have := HW3.out; omega) (fun x hx => ident_word (HO.out x hx)) (fun x hx => ident_word (HID3.out x hx)))
              clear hs3 hb3 HC
              go_wp2_with fail
              refine HC4.out.mono ?_
              rintro e w4 ⟨v4, rfl, hs4, hb4⟩
              have HS4 := Lib.hid hs4
              have HB4 := Lib.hid (HB3.out.trans (hb4.mono HB3.out.size))
              have HN4 : Hid ((unionL out fj).length + sizes (ys.drop (i + 1)) ≤ 200000) := by have := union_len fj out; have := HN.out; have := HZS.out; have := HLN.out; have := HW3.out; show _ ≤ _; omega
              have HO4 : Hid (∀ x ∈ unionL out fj, identB x = true) := fun x hx => (mem_unionL.1 hx).elim (HO.out x) (HID3.out x)
              clear hs4 hb4 HC4
              go_wp2_with fail
              go_roundg (ys.length - (i + 1))
              case measure => omega
              case rel => exact ⟨i + 1, _, by omega, by omega, by go_num, HN4.out, HQ2.out, HO4.out, HS4.out, HB4.out⟩
            · have hbb := decide_eq_false hbd
              rw [hbb]
              have HQ2 := Lib.hid (HQ.out.trans HD.out)
              rw [if_neg hbd] at HQ2
              clear hbd hbb HD HQ
              have HC4 := Lib.hid (union45_any _ v2 out fi w2 HA2.out HS2.out (by have := HN.out; have := HZS.out; have := HLN.out; omega) (fun x hx => ident_word (HO.out x hx)) (fun x hx => ident_word (HID.out x hx)))
              go_wp2_with fail
              refine HC4.out.mono ?_
              rintro e w4 ⟨v4, rfl, hs4, hb4⟩
              have HS4 := Lib.hid hs4
              have HB4 := Lib.hid (HB2.out.trans (hb4.mono HB2.out.size))
              have HN4 : Hid ((unionL out fi).length + sizes (ys.drop (i + 1)) ≤ 200000) := by have := union_len fi out; have := HN.out; have := HZS.out; have := HLN.out; show _ ≤ _; omega
              have HO4 : Hid (∀ x ∈ unionL out fi, identB x = true) := fun x hx => (mem_unionL.1 hx).elim (HO.out x) (HID.out x)
              clear hs4 hb4 HC4
              go_wp2_with fail
              go_roundg (ys.length - (i + 1))
              case measure => omega
              case rel => exact ⟨i + 1, _, by omega, by omega, by go_num, HN4.out, HQ2.out, HO4.out, HS4.out, HB4.out⟩
        · have hltz : ¬ (i : Int) < (ys.length : Int) := by omega
          have HY : Hid (frL t = out) := by
            show frL t = out
            rw [HX.out, HQ.out, List.drop_eq_nil_of_le (by omega), frLs]
          go_wp2_with fail
          go_ret
          rw [HY.out]
          exact ⟨_, rfl, HA.out, HBw.out⟩
theorem free41_any (t : T) (A : Option Addr) (c : Nat) (w : World) (hv : TV w w.heap.size t A c) (hw : WF t) (hz : t.size ≤ 200000) :
    Calls Tryz.prog 32 #[.agg (tv t A c)] w fun e w' => ∃ v, e = .returned v ∧ SL w' w'.heap.size v (frL t) ∧ Below w.heap.size w w' := free41_aux t.size t (Nat.le_refl _) A c w hv hw hz
set_option maxRecDepth 100000 in
set_option maxHeartbeats 2000000 in
theorem free21_any (t : T) (A : Option Addr) (c : Nat) (w : World) (hv : TV w w.heap.size t A c) (hs : SA t) :
    Calls Tryz.prog 15 #[.agg (tv t A c)] w fun e w' => ∃ v, e = .returned v ∧ SL w' w'.heap.size v (freeL t) ∧ Below w.heap.size w w' := by
  have hb0 : Below w.heap.size w (w.alloc (.cells (tv t A c) 24)) := (Below.refl _ _).alloc (Nat.le_refl _) _
  have HB0 := Lib.hid hb0
  have HV1 := Lib.hid ((hv.below hb0).more hb0.size)
  have HC := Lib.hid (rvalid_any t A c _ HV1.out hs)
  have HF2 := Lib.hid (free41_any t A c)
  have HI := Lib.hid (tv_info t A c)
  clear hv hs hb0
  have HVG : Hid (∀ w1, Below (w.alloc (.cells (tv t A c) 24)).heap.size (w.alloc (.cells (tv t A c) 24)) w1 → TV w1 w1.heap.size t A c) := fun w1 hb => (HV1.out.below hb).more hb.size
  clear HV1
  generalize tv t A c = cs at *
  have HF : Hid ((w.alloc (.cells cs 24)).heap[w.heap.size]? = some (.cells cs 24)) := blk_new _ _
  have hls : w.heap.size < (w.alloc (.cells cs 24)).heap.size := by simp
  go_enter Tryz.func15, Tryz.ntmps15
  go_wp2_with (with_reducible refine wpList_load_row rfl 24 (.tmp 1) rfl w.heap.size rfl 24 cs (0, 0) _ HF.out Tryz.underlying24 rfl HI.out ?_)
  refine HC.out.mono ?_
  rintro e w1 ⟨rfl, hb1⟩
  have HB1 := Lib.hid (HB0.out.trans (hb1.mono HB0.out.size))
  have HF1 : Hid (w1.heap[w.heap.size]? = some (.cells cs 24)) := (hb1.block _ hls).trans HF.out
  have HV2 := Lib.hid (HVG.out w1 hb1)
  clear hb1 HC HVG
  cases hvb : validB t with
  | false =>
    have HX : Hid (freeL t = []) := if_neg (by rw [hvb]; decide)
    clear hvb
    go_wp2_with fail
    go_ret
    rw [HX.out]
    exact ⟨_, rfl, sl_nil _ _, HB1.out⟩
  | true =>
    have HX : Hid (freeL t = frL t) := if_pos hvb
    have hvi := (valid_iff t).1 hvb
    have HC2 := Lib.hid (HF2.out w1 HV2.out hvi.1 (by omega))
    clear hvb hvi
    go_wp2_with (with_reducible refine wpList_load_row rfl 24 (.tmp 1) rfl w.heap.size rfl 24 cs (0, 0) _ HF1.out Tryz.underlying24 rfl HI.out ?_)
    refine HC2.out.mono ?_
    rintro e w2 ⟨v, rfl, hrow, hb2⟩
    have HR2 := Lib.hid hrow
    have HB2 := Lib.hid (HB1.out.trans (hb2.mono HB1.out.size))
    clear hrow hb2
    go_wp2_with fail
    go_ret
    rw [HX.out]
    exact ⟨v, rfl, HR2.out, HB2.out⟩
end Go.Proofs.YtknpigdpepmimaaGreatDoor
