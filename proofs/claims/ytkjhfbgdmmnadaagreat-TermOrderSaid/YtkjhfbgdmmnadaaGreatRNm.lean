/- Contracts of the reference's Names, and of same 19. -/
import Derived.Test.YtkjhfbgdmmnadaaGreatRFr
import Derived.Test.YtkjhfbgdmmnadaaGreatNms
namespace Go.Proofs.YtkjhfbgdmmnadaaGreat
open Go.RowKit

set_option maxRecDepth 100000 in
set_option maxHeartbeats 4000000 in
theorem names23_aux (N : Nat) : ∀ (t : T), t.size ≤ N → ∀ (A : Option Addr) (c : Nat) (w : World), TV w w.heap.size t A c → SA t → validB t = true →
    Calls Tryz.prog 8 #[.agg (tv t A c)] w fun e w' => ∃ v, e = .returned v ∧ RL w' w.heap.size v (nmT t) ∧ Below w.heap.size w w' := by
  induction N with
  | zero => intro t ht; exact absurd ht (by cases t; rw [T.size]; omega)
  | succ N ih =>
    intro t ht A c w hv hs hvb
    have IH := Lib.hid ih
    clear ih
    have hvi := (valid_iff t).1 hvb
    have HE := Lib.hid (nmT_eq t)
    have HWS := Lib.hid hvi.1.parts.2
    have HOWN := Lib.hid hvi.1.parts.1
    obtain ⟨hsh, hsa⟩ := hs.parts
    have HSA := Lib.hid hsa
    have hb0 : Below w.heap.size w (w.alloc (.cells (tv t A c) 24)) := (Below.refl _ _).alloc (Nat.le_refl _) _
    have HB0 := Lib.hid hb0
    have HV1 := Lib.hid ((hv.below hb0).more hb0.size)
    have HC := Lib.hid (rvalid_any t A c _ HV1.out hs)
    rw [hvb] at HC
    have HI := Lib.hid (tv_info t A c)
    have HTA : Hid (TA (w.alloc (.cells (tv t A c) 24)) w.heap.size A t.args) := hv.ar.below hb0
    have HSZ : Hid (∀ u ∈ t.args, u.size ≤ N ∧ u.size ≤ 1000) := fun u hu => by have := size_arg hu; omega
    have HSS : Hid (1 + sizes t.args ≤ 1000) := by have := size_eq t; show _ ≤ 1000; omega
    obtain ⟨hcp1, hcp2⟩ := hv.cap
    have k0 : (w.alloc (.cells (tv t A c) 24)).cell? ⟨w.heap.size, 0, none⟩ = some (.int .i64 t.kind) := by simp [tv]
    have k1 : (w.alloc (.cells (tv t A c) 24)).cell? ⟨w.heap.size, 1, none⟩ = some (.string ⟨t.name.toArray⟩) := by simp [tv]
    have k2 : (w.alloc (.cells (tv t A c) 24)).cell? ⟨w.heap.size, 2, none⟩ = some (.string ⟨t.var.toArray⟩) := by simp [tv]
    have k3 : (w.alloc (.cells (tv t A c) 24)).cell? ⟨w.heap.size, 3, none⟩ = some (.slice A t.args.length c) := by simp [tv]
    have HIDN : Hid ((t.kind = 2 → wordB t.name = true) ∧ (t.kind = 5 → wordB t.var = true)) := ⟨fun h => ident_word (own_var HOWN.out h).1, fun h => ident_word (own_bind HOWN.out h).1⟩
    clear HV1
    generalize tv t A c = cs at *
    obtain ⟨ys, hys⟩ : ∃ ys, ys = t.args := ⟨_, rfl⟩
    rw [← hys] at HE HTA HSZ HSS HWS HSA k3 hcp1
    clear hys hv hb0 hvi hsh hsa hs hvb HOWN
    have hyl : ys.length ≤ 9223372036854775807 := by omega
    have HF : Hid ((w.alloc (.cells cs 24)).heap[w.heap.size]? = some (.cells cs 24)) := blk_new _ _
    have hls : w.heap.size < (w.alloc (.cells cs 24)).heap.size := by simp
    generalize t.kind = k at *
    generalize t.var = v at *
    generalize t.name = nm at *
    go_enter Tryz.func8, Tryz.ntmps8
    go_wp2_with (with_reducible refine wpList_load_row rfl 24 (.tmp 1) rfl w.heap.size rfl 24 cs (0, 0) _ HF.out Tryz.underlying24 rfl HI.out ?_)
    refine HC.out.mono ?_
    rintro e w1 ⟨rfl, hb1⟩
    have HB1 := Lib.hid (HB0.out.trans (hb1.mono HB0.out.size))
    have HTA1 := Lib.hid (HTA.out.below (hb1.mono HB0.out.size))
    have g0 := (hb1.cell (p := ⟨w.heap.size, 0, none⟩) hls).trans k0
    have g1 := (hb1.cell (p := ⟨w.heap.size, 1, none⟩) hls).trans k1
    have g2 := (hb1.cell (p := ⟨w.heap.size, 2, none⟩) hls).trans k2
    have g3 := (hb1.cell (p := ⟨w.heap.size, 3, none⟩) hls).trans k3
    have hls1 : w.heap.size < w1.heap.size := by have := hb1.size; omega
    clear hb1 HB0 HTA k0 k1 k2 k3 HF hls HC
    generalize w.alloc (.cells cs 24) = w0 at *
    obtain ⟨l1, hl1⟩ : ∃ l1 : List W8, l1 = if k = 2 then [nm] else [] := ⟨_, rfl⟩
    have HL1 := Lib.hid hl1
    clear hl1
    go_upto_if 10 with (fail)
    go_cut [3] (fun s3 wx => Aside (RL wx w.heap.size s3 l1) ∧ Aside (Below w1.heap.size w1 wx))
    case first =>
      by_cases hk2 : k = 2
      · have hb1 : (k == 2) = true := by simp [hk2]
        have HH : Hid (l1 = withL [] nm) := HL1.out.trans (if_pos hk2)
        have HWD := Lib.hid (HIDN.out.1 hk2)
        have HC1 := Lib.hid (with44_own (.slice none 0 0) [] nm w1 (sl_nil _ _) (by simp) (by intro x hx; cases hx) HWD.out)
        clear hk2
        go_wp2_with fail
        refine HC1.out.mono ?_
        rintro e w2 ⟨v2, rfl, ho2, _, hb2⟩
        have hs2 := (show RL w1 w.heap.size (.slice none 0 0) [] from World.ownsRow_nil _ _ _ _).next hb2 (Nat.le_of_lt hls1) ho2
        rw [← HH.out] at hs2
        have HS2 := Lib.hid hs2
        have HB2 := Lib.hid hb2
        clear hs2 hb2 HC1 ho2
        go_wp2_with fail
        go_meet
        case rel => exact ⟨HS2.out, HB2.out⟩
      · have hb1 : (k == 2) = false := by simpa using hk2
        have HH : Hid (l1 = []) := HL1.out.trans (if_neg hk2)
        clear hk2
        go_wp2_with fail
        go_meet
        case rel => exact ⟨by rw [HH.out]; exact World.ownsRow_nil _ _ _ _, Below.refl _ _⟩
    case rest =>
      obtain ⟨HSa, HBa⟩ := hcut
      have q0 := (HBa.out.cell (p := ⟨w.heap.size, 0, none⟩) hls1).trans g0
      have q2 := (HBa.out.cell (p := ⟨w.heap.size, 2, none⟩) hls1).trans g2
      have HH3 := Lib.hid g3
      clear g0 g1 g2 g3
      have HL2 : Hid (hdL k nm v = if k = 5 then withL l1 v else l1) := by
        show hdL k nm v = _
        unfold hdL
        rw [HL1.out]
        by_cases h2 : k = 2
        · rw [if_pos h2, if_pos h2, if_neg (by omega)]
        · rw [if_neg h2, if_neg h2]
          by_cases h5 : k = 5
          · rw [if_pos h5, if_pos h5]; rfl
          · rw [if_neg h5, if_neg h5]
      have HLL : Hid (l1.length ≤ 1 ∧ ∀ x ∈ l1, wordB x = true) := by
        show l1.length ≤ 1 ∧ ∀ x ∈ l1, wordB x = true
        rw [HL1.out]
        by_cases h2 : k = 2
        · rw [if_pos h2]; exact ⟨by simp, fun x hx => by rw [List.mem_singleton] at hx; rw [hx]; exact HIDN.out.1 h2⟩
        · rw [if_neg h2]; exact ⟨by simp, by simp⟩
      have HO2 : Hid (∀ x ∈ hdL k nm v, wordB x = true) := fun x hx => by
        unfold hdL at hx
        by_cases h2 : k = 2
        · rw [if_pos h2, List.mem_singleton] at hx; rw [hx]; exact HIDN.out.1 h2
        · rw [if_neg h2] at hx
          by_cases h5 : k = 5
          · rw [if_pos h5, List.mem_singleton] at hx; rw [hx]; exact HIDN.out.2 h5
          · rw [if_neg h5] at hx; cases hx
      have HN2 : Hid ((hdL k nm v).length ≤ 1) := by
        show (hdL k nm v).length ≤ 1
        unfold hdL; split; simp; split <;> simp
      go_upto_if 17 with (fail)
      go_cut [3] (fun s3 wx => Aside (RL wx w.heap.size s3 (hdL k nm v)) ∧ Aside (Below w1.heap.size w1 wx))
      case first =>
        by_cases hk5 : k = 5
        · have hb1 : (k == 5) = true := by simp [hk5]
          have HH : Hid (hdL k nm v = withL l1 v) := HL2.out.trans (if_pos hk5)
          have HWD := Lib.hid (HIDN.out.2 hk5)
          have HC1 := Lib.hid (with44_own _ l1 v _ HSa.out.sl (by have := HLL.out.1; omega) HLL.out.2 HWD.out)
          clear hk5
          go_wp2_with fail
          refine HC1.out.mono ?_
          rintro e w2 ⟨v2, rfl, ho2, _, hb2⟩
          have hs2 := HSa.out.next hb2 (by have := HBa.out.size; omega) ho2
          rw [← HH.out] at hs2
          have HS2 := Lib.hid hs2
          have HB2 := Lib.hid (HBa.out.trans (hb2.mono HBa.out.size))
          clear hs2 hb2 HC1 ho2
          go_wp2_with fail
          go_meet
          case rel => exact ⟨HS2.out, HB2.out⟩
        · have hb1 : (k == 5) = false := by simpa using hk5
          have HH : Hid (hdL k nm v = l1) := HL2.out.trans (if_neg hk5)
          clear hk5
          go_wp2_with fail
          go_meet
          case rel => exact ⟨by rw [HH.out]; exact HSa.out, HBa.out⟩
      case rest =>
        obtain ⟨HSb, HBb⟩ := hcut
        clear HSa HBa HL1 HL2 HLL q0 q2
        generalize hdL k nm v = l2 at *
        go_wp2_with fail
        go_loopg [3, 4] ys.length (fun gg s3 s4 wr => ∃ (i : Nat) (out : List W8), i ≤ ys.length ∧ ys.length - i ≤ gg ∧ s4 = .int .i64 i ∧ Aside (out.length + sizes (ys.drop i) ≤ 1000) ∧ Aside (nmTs ys l2 = nmTs (ys.drop i) out) ∧ Aside (∀ x ∈ out, wordB x = true) ∧ Aside (RL wr w.heap.size s3 out) ∧ Aside (Below w1.heap.size w1 wr))
        case atStart => exact ⟨0, l2, Nat.zero_le _, by omega, rfl, by have := HSS.out; have := HN2.out; show l2.length + sizes ys ≤ 1000; omega, rfl, HO2.out, HSb.out, HBb.out⟩
        case round =>
          obtain ⟨i, out, hi, hgg, rfl, HN, HQ, HO, HA, HB⟩ := hrel
          have HBw := Lib.hid (HB1.out.trans (HB.out.mono HB1.out.size))
          have k3r := (HB.out.cell (p := ⟨w.heap.size, 3, none⟩) hls1).trans HH3.out
          by_cases hlt : i < ys.length
          · have hltz : (i : Int) < (ys.length : Int) := by omega
            have HD : Hid (nmTs (ys.drop i) out = nmTs (ys.drop (i + 1)) (unionL out (nmT ys[i]))) := by
              show nmTs (ys.drop i) out = _
              rw [List.drop_eq_getElem_cons hlt, nmTs]
            obtain ⟨b', o', rfl, hRi⟩ := (HTA1.out.below (HB.out.mono HB1.out.size)).at_ hlt
            obtain ⟨_, d0, d1, d2, d4, A2, c2, d3, hcp3, hTA2⟩ := hRi.parts
            have hm := List.getElem_mem hlt
            have hvu : validB ys[i] = true := (valid_iff _).2 ⟨HWS.out.mem hm, (HSZ.out _ hm).2⟩
            have HCall := Lib.hid (IH.out ys[i] (HSZ.out _ hm).1 A2 c2 _ ⟨hcp3, hTA2.more HBw.out.size⟩ (HSA.out.mem hm) hvu)
            have HID := Lib.hid (nmT_ok ys[i] (HWS.out.mem hm)).2
            have HLN := Lib.hid (nmT_len ys[i])
            have HZS : Hid (sizes (ys.drop i) = ys[i].size + sizes (ys.drop (i + 1))) := by show sizes (ys.drop i) = _; rw [List.drop_eq_getElem_cons hlt, sizes]
            clear hRi hcp3 hTA2 hm hvu
            unfold tv at HCall
            generalize nmT ys[i] = fi at *
            generalize ys[i] = u at *
            go_wp2_with fail
            refine HCall.out.mono ?_
            rintro e w2 ⟨v2, rfl, hs2, hb2⟩
            have HB2 := Lib.hid (HB.out.trans (hb2.mono HB.out.size))
            have HA2 := Lib.hid (HA.out.bel hb2)
            have HSZ2 : Hid (w.heap.size ≤ w2.heap.size) := by have := HB2.out.size; show _ ≤ _; omega
            have HC4 := Lib.hid (union45_own _ v2 out fi w2 HA2.out.sl hs2.sl (by have := HN.out; have := HZS.out; have := HLN.out; omega) HO.out (fun x hx => ident_word (HID.out x hx)))
            clear hs2 hb2 HCall d0 d1 d2 d3 d4 k3r HA HB HBw
            go_wp2_with fail
            refine HC4.out.mono ?_
            rintro e w4 ⟨v4, rfl, ho4, _, hb4⟩
            have HS4 := Lib.hid (HA2.out.next hb4 HSZ2.out ho4)
            have HB4 := Lib.hid (HB2.out.trans (hb4.mono HB2.out.size))
            have HN4 : Hid ((unionL out fi).length + sizes (ys.drop (i + 1)) ≤ 1000) := by have := union_len fi out; have := HN.out; have := HZS.out; have := HLN.out; show _ ≤ _; omega
            have HO4 : Hid (∀ x ∈ unionL out fi, wordB x = true) := fun x hx => (mem_unionL.1 hx).elim (HO.out x) (fun h => ident_word (HID.out x h))
            have HQ4 := Lib.hid (HQ.out.trans HD.out)
            clear hb4 HC4 ho4 HA2 HSZ2
            generalize unionL out fi = out4 at *
            go_wp2_with fail
            go_roundg (ys.length - (i + 1))
            case measure => omega
            case rel => exact ⟨i + 1, out4, by omega, by omega, by go_num, HN4.out, HQ4.out, HO4.out, HS4.out, HB4.out⟩
          · have hltz : ¬ (i : Int) < (ys.length : Int) := by omega
            have HY : Hid (nmT t = out) := by
              show nmT t = out
              rw [HE.out, HQ.out, List.drop_eq_nil_of_le (by omega), nmTs]
            go_wp2_with fail
            go_ret
            rw [HY.out]
            exact ⟨_, rfl, HA.out, HBw.out⟩
set_option maxRecDepth 100000 in
set_option maxHeartbeats 2000000 in
theorem names23_no (t : T) (A : Option Addr) (c : Nat) (w : World) (hv : TV w w.heap.size t A c) (hs : SA t) (hvb : validB t = false) :
    Calls Tryz.prog 8 #[.agg (tv t A c)] w fun e w' => ∃ v, e = .returned v ∧ RL w' w.heap.size v [] ∧ Below w.heap.size w w' := by
  have hb0 : Below w.heap.size w (w.alloc (.cells (tv t A c) 24)) := (Below.refl _ _).alloc (Nat.le_refl _) _
  have HB0 := Lib.hid hb0
  have HC := Lib.hid (rvalid_any t A c _ ((hv.below hb0).more hb0.size) hs)
  rw [hvb] at HC
  have HI := Lib.hid (tv_info t A c)
  clear hv hs hb0 hvb
  generalize tv t A c = cs at *
  have HF : Hid ((w.alloc (.cells cs 24)).heap[w.heap.size]? = some (.cells cs 24)) := blk_new _ _
  go_enter Tryz.func8, Tryz.ntmps8
  go_wp2_with (with_reducible refine wpList_load_row rfl 24 (.tmp 1) rfl w.heap.size rfl 24 cs (0, 0) _ HF.out Tryz.underlying24 rfl HI.out ?_)
  refine HC.out.mono ?_
  rintro e w1 ⟨rfl, hb1⟩
  have HB1 := Lib.hid (HB0.out.trans (hb1.mono HB0.out.size))
  clear hb1 HC
  go_wp2_with fail
  go_ret
  exact ⟨_, rfl, World.ownsRow_nil _ _ _ _, HB1.out⟩
theorem names23_any (t : T) (A : Option Addr) (c : Nat) (w : World) (hv : TV w w.heap.size t A c) (hs : SA t) :
    Calls Tryz.prog 8 #[.agg (tv t A c)] w fun e w' => ∃ v, e = .returned v ∧ RL w' w.heap.size v (namesL t) ∧ Below w.heap.size w w' := by
  unfold namesL
  cases hvb : validB t with
  | true => exact names23_aux t.size t (Nat.le_refl _) A c w hv hs hvb
  | false => exact names23_no t A c w hv hs hvb

end Go.Proofs.YtkjhfbgdmmnadaaGreat
