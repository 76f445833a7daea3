/- names 42, Names 22; the names of a term in their order. -/
import Derived.Test.YtkjhfbgdmmnadaaFr2
import Derived.Test.YtkjhfbgdmmnadaaPlF
namespace Go.Proofs.Ytkjhfbgdmmnadaa
open Go.RowKit Go.Maps Go.Sort Go.Shelf

def hdL (k : Int) (n v : W8) : List W8 := if k = 2 then [n] else if k = 5 then [v] else []
mutual
/-- all names of a term, in their order -/
def nmT : T → List W8 | .mk k n v ys _ => nmTs ys (hdL k n v)
def nmTs : List T → List W8 → List W8
  | [], out => out
  | t :: ts, out => nmTs ts (unionL out (nmT t))
end
theorem nmT_eq (t : T) : nmT t = nmTs t.args (hdL t.kind t.name t.var) := by cases t; rw [nmT]; rfl
def putS {H : Type} (D : DataW H) (x : W8) : DataW H := D.put (.string x) (.lit (.bool true))
def hdD {H : Type} (k : Int) (n v : W8) (D : DataW H) : DataW H := if k = 2 then putS D n else if k = 5 then putS D v else D
mutual
def nms {H : Type} : T → DataW H → DataW H | .mk k n v ys _, D => nmss ys (hdD k n v D)
def nmss {H : Type} : List T → DataW H → DataW H
  | [], D => D
  | t :: ts, D => nmss ts (nms t D)
end
theorem nms_eq {H : Type} (t : T) (D : DataW H) : nms t D = nmss t.args (hdD t.kind t.name t.var D) := by cases t; rw [nms]; rfl
theorem hdD_map {H : Type} {D : DataW H} (hD : IsMap D) (k : Int) (n v : W8) : IsMap (hdD k n v D) := by
  unfold hdD putS; split
  · exact hD.put _ _
  · split
    · exact hD.put _ _
    · exact hD
theorem has_hdD {H : Type} {D : DataW H} (hD : IsMap D) (k : Int) (n v x : W8) : hasK (hdD k n v D) x = true ↔ hasK D x = true ∨ x ∈ hdL k n v := by
  unfold hdD hdL putS
  split
  · rw [has_put hD, List.mem_singleton]; exact Or.comm
  · split
    · rw [has_put hD, List.mem_singleton]; exact Or.comm
    · simp
mutual
theorem nms_map {H : Type} (t : T) (D : DataW H) (hD : IsMap D) : IsMap (nms t D) := by
  cases t with
  | mk k n v ys f => rw [nms]; exact nmss_map ys _ (hdD_map hD _ _ _)
theorem nmss_map {H : Type} (ts : List T) (D : DataW H) (hD : IsMap D) : IsMap (nmss ts D) := by
  cases ts with
  | nil => rw [nmss]; exact hD
  | cons t ts => rw [nmss]; exact nmss_map ts _ (nms_map t D hD)
end
theorem mem_nmTs_out {x : W8} : ∀ (ts : List T) (out : List W8), x ∈ nmTs ts out ↔ x ∈ out ∨ x ∈ nmTs ts []
  | [], out => by rw [nmTs, nmTs]; simp
  | t :: ts, out => by
    rw [nmTs, nmTs, mem_nmTs_out ts (unionL out (nmT t)), mem_nmTs_out ts (unionL [] (nmT t)), mem_unionL, mem_unionL]
    simp [or_assoc]
mutual
theorem has_nms {H : Type} (t : T) (D : DataW H) (hD : IsMap D) (x : W8) : hasK (nms t D) x = true ↔ hasK D x = true ∨ x ∈ nmT t := by
  cases t with
  | mk k n v ys f =>
    rw [nms, has_nmss ys _ (hdD_map hD _ _ _) x, has_hdD hD, nmT, mem_nmTs_out ys (hdL k n v), or_assoc]
theorem has_nmss {H : Type} (ts : List T) (D : DataW H) (hD : IsMap D) (x : W8) : hasK (nmss ts D) x = true ↔ hasK D x = true ∨ x ∈ nmTs ts [] := by
  cases ts with
  | nil => rw [nmss, nmTs]; simp
  | cons t ts =>
    rw [nmss, has_nmss ts _ (nms_map t D hD) x, has_nms t D hD x, nmTs, mem_nmTs_out ts (unionL [] (nmT t)), mem_unionL, or_assoc]
    simp
end
mutual
theorem nmT_ok (t : T) (h : WF t) : Srtd (nmT t) ∧ ∀ x ∈ nmT t, identB x = true := by
  cases t with
  | mk k n v ys f =>
    have hp := h.parts
    rw [nmT]
    refine nmTs_ok ys _ hp.2 ?_ ?_
    · unfold hdL Srtd
      split
      · simp
      · split <;> simp
    · intro x hx
      unfold hdL at hx
      split at hx
      · rename_i hk
        rw [List.mem_singleton] at hx
        rw [hx]; exact (own_var hp.1 hk).1
      · split at hx
        · rename_i hk
          rw [List.mem_singleton] at hx
          rw [hx]; exact (own_bind hp.1 hk).1
        · cases hx
theorem nmTs_ok (ts : List T) (out : List W8) (h : WFs ts) (h1 : Srtd out) (h2 : ∀ x ∈ out, identB x = true) : Srtd (nmTs ts out) ∧ ∀ x ∈ nmTs ts out, identB x = true := by
  cases ts with
  | nil => rw [nmTs]; exact ⟨h1, h2⟩
  | cons t ts =>
    rw [WFs] at h
    have ih := nmT_ok t h.1
    have hu := srtd_union (a := out) (b := nmT t) (fun x hx => ident_word (h2 x hx)) h1 (fun x hx => ident_word (ih.2 x hx))
    rw [nmTs]
    refine nmTs_ok ts _ h.2 hu.1 (fun x hx => ?_)
    rcases mem_unionL.1 hx with hx | hx
    · exact h2 x hx
    · exact ih.2 x hx
end
theorem unionL_len (b : List W8) : ∀ a : List W8, (unionL a b).length ≤ a.length + b.length := by
  induction b with
  | nil => intro a; simp [unionL]
  | cons s b ih =>
    intro a
    have h := ih (withL a s)
    have := withL_len a s
    unfold unionL at h ⊢
    rw [List.foldl_cons]
    simp only [List.length_cons]; omega
mutual
theorem nmT_len (t : T) : (nmT t).length ≤ t.size := by
  cases t with
  | mk k n v ys f =>
    have h := nmTs_len ys (hdL k n v)
    have : (hdL k n v).length ≤ 1 := by unfold hdL; split; simp; split <;> simp
    rw [nmT, T.size]; omega
theorem nmTs_len (ts : List T) (out : List W8) : (nmTs ts out).length ≤ out.length + sizes ts := by
  cases ts with
  | nil => rw [nmTs, sizes]; omega
  | cons t ts =>
    have h1 := nmT_len t
    have h2 := nmTs_len ts (unionL out (nmT t))
    have h3 := unionL_len (nmT t) out
    rw [nmTs, sizes]; omega
end
/-- Names: the names of a valid term, else none -/
def namesL (t : T) : List W8 := if validB t = true then nmT t else []

set_option maxRecDepth 100000 in
set_option maxHeartbeats 4000000 in
theorem names_aux {H : Type} (mb : Nat) (N : Nat) : ∀ (t : T), t.size ≤ N → ∀ (b o n : Nat) (D : DataW H) (w : World), TR w mb b o t → SA t → w.ownsMap Try.prog 9 (plainElem Try.prog 4) mb n D →
    n + t.size ≤ 100000 →
    Calls Try.prog 42 #[.pointer (some ⟨b, o, none⟩), .map (some mb)] w fun e w' => e = .returned (.tuple #[]) ∧ w'.ownsMap Try.prog 9 (plainElem Try.prog 4) mb (n + t.size) (nms t D) ∧ w.grownBy w' (some mb) := by
  induction N with
  | zero => intro t ht; exact absurd ht (by cases t; rw [T.size]; omega)
  | succ N ih =>
    intro t ht b o n D w hr hs hown hz2
    have IH := Lib.hid ih
    clear ih
    have HV := Lib.hid (nms_eq t D)
    obtain ⟨hsh, hsa⟩ := hs.parts
    have hml := hown.lt
    obtain ⟨hbl, c0, c1, c2, c4, A, cp, c3, hcp, hTA⟩ := hr.parts
    have HSZ : Hid (∀ u ∈ t.args, u.size ≤ N) := fun u hu => by have := size_arg hu; omega
    have hts : 1 ≤ t.size := size_pos t
    have HK1 := Lib.hid (key_nm ⟨t.name.toArray⟩ (by simp [ByteArray.size]; exact hsh.1))
    have HK2 := Lib.hid (key_nm ⟨t.var.toArray⟩ (by simp [ByteArray.size]; exact hsh.2.1))
    have HP : Hid (plainElem (H := H) Try.prog 4 (.bool true) = some (.lit (.bool true), [])) := by show plainElem Try.prog 4 (.bool true) = _; simp [plainElem, Try.underlying4]
    have HTA := Lib.hid hTA
    have HS := Lib.hid hsa
    have HO := Lib.hid hown
    have HC := Lib.hid (And.intro c2 c3)
    have HN : Hid (n < maxLen) := by show n < maxLen; unfold maxLen; omega
    clear hTA hsh hsa hs hr c3 c4 hown
    go_enter Try.func42, Try.ntmps42
    go_upto_block 0 with (fail)
    go_cut [9] (fun _ wx => Aside (wx.ownsMap Try.prog 9 (plainElem Try.prog 4) mb (n + 1) (hdD t.kind t.name t.var D)) ∧ Aside (w.grownBy wx (some mb)))
    case first =>
      by_cases hk : t.kind = 2
      · have hb1 : (t.kind == 2) = true := by simp [hk]
        have HE : Hid (hdD t.kind t.name t.var D = D.put (.string t.name) (.lit (.bool true))) := if_pos hk
        clear hk
        go_wp2_with ((at_mapUpdate; refine wpList_mapUpdate_own _ rfl _ _ _ 55 rfl 9 4 law9 Try.underlying55 _ mb n D rfl HO.out HN.out _ _ (.string t.name) rfl rfl HK1.out (.lit (.bool true)) [] HP.out ?_; intro w9 hown hgrow))
        have HO9 := Lib.hid hown
        have HG9 := Lib.hid hgrow
        clear hown hgrow
        go_wp2_with fail
        go_meet
        case rel => exact ⟨by rw [HE.out]; exact HO9.out, HG9.out⟩
      · have hb1 : (t.kind == 2) = false := by simp [hk]
        by_cases hk5 : t.kind = 5
        · have hb5 : (t.kind == 5) = true := by simp [hk5]
          have HE : Hid (hdD t.kind t.name t.var D = D.put (.string t.var) (.lit (.bool true))) := (if_neg hk).trans (if_pos hk5)
          clear hk hk5
          go_wp2_with ((at_mapUpdate; refine wpList_mapUpdate_own _ rfl _ _ _ 55 rfl 9 4 law9 Try.underlying55 _ mb n D rfl HO.out HN.out _ _ (.string t.var) rfl rfl HK2.out (.lit (.bool true)) [] HP.out ?_; intro w9 hown hgrow))
          have HO9 := Lib.hid hown
          have HG9 := Lib.hid hgrow
          clear hown hgrow
          go_wp2_with fail
          go_meet
          case rel => exact ⟨by rw [HE.out]; exact HO9.out, HG9.out⟩
        · have hb5 : (t.kind == 5) = false := by simp [hk5]
          have HE : Hid (hdD t.kind t.name t.var D = D) := (if_neg hk).trans (if_neg hk5)
          clear hk hk5
          go_wp2_with fail
          go_meet
          case rel => exact ⟨by rw [HE.out]; exact HO.out.mono (by omega), World.grownBy.refl _ _⟩
    case rest =>
      obtain ⟨hOa, hGa⟩ := hcut
      have hB := below_grown (Nat.le_of_lt hml) hGa.out
      have c3 := (hB.cell (p := ⟨b, o + 3, none⟩) hbl).trans HC.out.2
      obtain ⟨D1, hD1⟩ : ∃ D1, D1 = hdD t.kind t.name t.var D := ⟨_, rfl⟩
      rw [← hD1] at HV hOa
      obtain ⟨ys, hys⟩ : ∃ ys, ys = t.args := ⟨_, rfl⟩
      have HSI : Hid (t.size = 1 + sizes ys) := by show t.size = 1 + sizes ys; rw [hys]; exact size_eq t
      rw [← hys] at HV HS HTA HSZ c3 hcp HC
      have hyl : ys.length ≤ 9223372036854775807 := by omega
      clear hys hD1 hB c0 c1 c2
      go_wp2_with fail
      go_loopg [28] ys.length (fun gg s28 wr => ∃ (i ni : Nat) (Di : DataW H), i ≤ ys.length ∧ ys.length - i ≤ gg ∧ s28 = .int .i64 i ∧ Aside (ni + sizes (ys.drop i) = n + t.size) ∧ Aside (nmss ys D1 = nmss (ys.drop i) Di) ∧ Aside (wr.ownsMap Try.prog 9 (plainElem Try.prog 4) mb ni Di) ∧ Aside (w.grownBy wr (some mb)))
      case atStart => exact ⟨0, n + 1, D1, Nat.zero_le _, by omega, rfl, by have := HSI.out; show n + 1 + sizes ys = n + t.size; omega, rfl, hOa, hGa⟩
      case round =>
        obtain ⟨i, ni, Di, hi, hgg, rfl, HN, HE, HVi, HGi⟩ := hrel
        by_cases hlt : i < ys.length
        · have hltz : (i : Int) < (ys.length : Int) := by omega
          have hBi := below_grown (Nat.le_of_lt hml) HGi.out
          obtain ⟨b', o', rfl, hRi⟩ := TA.at_ (w := wr) (fun hne => by
            obtain ⟨b', o', hA, hs⟩ := HTA.out hne
            exact ⟨b', o', hA, hs.below hBi⟩) hlt
          have c3r := (hBi.cell (p := ⟨b, o + 3, none⟩) hbl).trans HC.out.2
          have HZ : Hid (sizes (ys.drop i) = ys[i].size + sizes (ys.drop (i + 1))) := by show sizes (ys.drop i) = _; rw [List.drop_eq_getElem_cons hlt, sizes]
          have HD : Hid (nmss (ys.drop i) Di = nmss (ys.drop (i + 1)) (nms ys[i] Di)) := by
            show nmss (ys.drop i) Di = _
            rw [List.drop_eq_getElem_cons hlt, nmss]
          have hm := List.getElem_mem hlt
          have HCall := Lib.hid (IH.out ys[i] (HSZ.out _ hm) b' (o' + i * 5) ni Di wr hRi (HS.out.mem hm) HVi.out (by have := HZ.out; have := HN.out; omega))
          clear hBi hRi hm
          go_wp2_with fail
          refine HCall.out.mono ?_
          rintro e w4 ⟨rfl, hv4, hg4⟩
          have HV4 := Lib.hid hv4
          have HG4 := Lib.hid (World.grownBy.trans HGi.out hg4)
          clear hv4 hg4 HCall
          go_wp2_with fail
          go_roundg (ys.length - (i + 1))
          case measure => omega
          case rel => exact ⟨i + 1, ni + ys[i].size, _, by omega, by omega, by go_num, (by have := HN.out; have := HZ.out; show _ = _; omega), HE.out.trans HD.out, HV4.out, HG4.out⟩
        · have hltz : ¬ (i : Int) < (ys.length : Int) := by omega
          have HY : Hid (nms t D = Di ∧ n + t.size = ni) := by
            refine ⟨?_, ?_⟩
            · rw [HV.out, HE.out, List.drop_eq_nil_of_le (by omega), nmss]
            · have := HN.out; rw [List.drop_eq_nil_of_le (by omega), sizes] at this; omega
          go_wp2_with fail
          go_end0
          rw [HY.out.1, HY.out.2]
          exact ⟨rfl, HVi.out, HGi.out⟩

set_option maxRecDepth 100000 in
set_option maxHeartbeats 2000000 in
theorem names22_any (t : T) (A : Option Addr) (c : Nat) (w : World) (hv : TV w w.heap.size t A c) (hs : SA t) (hm : Max w) :
    Calls Try.prog 22 #[.agg (tv t A c)] w fun e w' => ∃ v, e = .returned v ∧ RL w' w.heap.size v (namesL t) ∧ Below w.heap.size w w' := by
  have hb0 : Below w.heap.size w (w.alloc (.cells (tv t A c) 24)) := (Below.refl _ _).alloc (Nat.le_refl _) _
  have HB0 := Lib.hid hb0
  have hbox := hv.box
  have HBX := Lib.hid hbox
  have HC := Lib.hid (validT_any t A c _ ((hv.below hb0).more hb0.size) hs (hm.below hb0))
  have HI := Lib.hid (tv_info t A c)
  have HS := Lib.hid hs
  clear hv hs hb0 hm hbox
  generalize tv t A c = cs at *
  have HF : Hid ((w.alloc (.cells cs 24)).heap[w.heap.size]? = some (.cells cs 24)) := blk_new _ _
  have HSZ : Hid ((w.alloc (.cells cs 24)).heap.size = w.heap.size + 1) := by show _ = _; simp
  have hmm := fun (w : World) => run_makeMap (P := Try.prog) 55 w
  go_enter Try.func22, Try.ntmps22
  go_wp2_with (with_reducible refine wpList_load_row rfl 24 (.tmp 1) rfl w.heap.size rfl 24 cs (0, 0) _ HF.out Try.underlying24 rfl HI.out ?_)
  refine HC.out.mono ?_
  rintro e w1 ⟨rfl, hb1⟩
  have HB1 := Lib.hid (HB0.out.trans (hb1.mono HB0.out.size))
  have HR1 := Lib.hid ((HBX.out.below (hb1.mono (by rw [HSZ.out]; omega))).more (show w.heap.size + 1 ≤ w1.heap.size by have := hb1.size; rw [HSZ.out] at this; exact this))
  clear hb1 HC
  cases hvb : validB t with
  | false =>
    have HX : Hid (namesL t = []) := if_neg (by rw [hvb]; decide)
    clear hvb
    go_wp2_with fail
    go_ret
    rw [HX.out]
    exact ⟨_, rfl, World.ownsRow_nil _ _ _ _, HB1.out⟩
  | true =>
    have HX : Hid (namesL t = nmT t) := if_pos hvb
    have hvi := (valid_iff t).1 hvb
    have hb2 : Below w1.heap.size w1 (w1.alloc (.map #[] 0)) := (Below.refl _ _).alloc (Nat.le_refl _) _
    have HC2 := Lib.hid (names_aux (H := Unit) w1.heap.size t.size t (Nat.le_refl _) w.heap.size 0 0 (.map []) (w1.alloc (.map #[] 0)) (HR1.out.below hb2) HS.out (World.ownsMap_made w1 Try.prog 9 _) (by omega))
    have HB2 := Lib.hid hb2
    have HL := Lib.hid (nmT_ok t hvi.1)
    have HLN : Hid ((nmT t).length ≤ 100000) := by have := nmT_len t; show _ ≤ _; omega
    have HM : Hid (∀ x, x ∈ nmT t ↔ hasK (nms (H := Unit) t (.map [])) x = true) := fun x => by
      rw [has_nms t _ isMap_empty x]
      simp [hasK, Maps.has]
    have HS2 : Hid (w1.heap.size + 1 = (w1.alloc (.map #[] 0)).heap.size) := by show _ = _; simp
    clear hvb hvi hb2
    go_wp2_with fail
    generalize w1.alloc (.map #[] 0) = w2 at *
    refine HC2.out.mono ?_
    rintro e w3 ⟨rfl, hv3, hg3⟩
    have HB3 := Lib.hid (HB2.out.trans (below_grown (by have := HS2.out; omega) hg3))
    have HC3 := Lib.hid (sorted_list (H := Unit) w1.heap.size _ _ _ w3 (nmT t) hv3 HL.out.1 (fun x hx => ident_word (HL.out.2 x hx)) HLN.out HM.out)
    clear hv3 hg3 HC2
    go_wp2_with fail
    refine HC3.out.mono ?_
    rintro e w4 ⟨v, rfl, hrow, _, hb4⟩
    have HB13 := Lib.hid (HB1.out.trans (HB3.out.mono HB1.out.size))
    have HR := Lib.hid (hrow.mono HB13.out.size)
    have HB4 := Lib.hid (HB13.out.trans (hb4.mono HB13.out.size))
    clear hrow hb4 HC3
    go_wp2_with fail
    go_ret
    rw [HX.out]
    exact ⟨v, rfl, HR.out, HB4.out⟩
end Go.Proofs.Ytkjhfbgdmmnadaa
