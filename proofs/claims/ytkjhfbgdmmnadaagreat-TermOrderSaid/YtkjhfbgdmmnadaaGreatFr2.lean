/- free 40 and Free 20: the free names in their order. -/
import Derived.Test.YtkjhfbgdmmnadaaGreatVis
import Derived.Test.YtkjhfbgdmmnadaaGreatPlB
import Derived.Test.YtkjhfbgdmmnadaaGreatRLf
import Derived.Maps.OwnSet
import Derived.Carry
namespace Go.Proofs.YtkjhfbgdmmnadaaGreat
open Go.RowKit Go.Maps Go.Sort Go.Shelf

def hasK {H : Type} (D : DataW H) (x : W8) : Bool := Maps.has D (.string x)
theorem has_put {H : Type} {D : DataW H} (hD : IsMap D) (x y : W8) (d : DataW H) : hasK (D.put (.string y) d) x = true ↔ x = y ∨ hasK D x = true := by
  unfold hasK
  by_cases h : x = y
  · subst h
    rw [has_put_same hD (by trivial)]
    simp
  · rw [has_put_other (fun e => h (by injection e))]
    simp [h]
theorem mk_inj {a b : W8} (h : (⟨a.toArray⟩ : ByteArray) = ⟨b.toArray⟩) : a = b := by
  injection h with h
  simpa using h
theorem mark_map {H : Type} {D : DataW H} (hD : IsMap D) (zs : List ByteArray) (nm : ByteArray) : IsMap (mark D zs nm) := by
  unfold mark; split
  · exact hD
  · exact hD.put _ _
theorem has_mark {H : Type} {D : DataW H} (hD : IsMap D) (zs : List ByteArray) (n x : W8) :
    hasK (mark D zs ⟨n.toArray⟩) x = true ↔ hasK D x = true ∨ (x = n ∧ (⟨x.toArray⟩ : ByteArray) ∉ zs) := by
  unfold mark
  by_cases hc : Lib.containsS zs ⟨n.toArray⟩ = true
  · rw [if_pos hc]
    rw [Lib.containsS_iff] at hc
    constructor
    · exact .inl
    · rintro (h | ⟨rfl, h⟩)
      · exact h
      · exact absurd hc h
  · rw [if_neg hc]
    rw [Lib.containsS_iff] at hc
    show hasK (D.put (.string n.toArray.toList) _) x = true ↔ _
    rw [List.toList_toArray, has_put hD]
    constructor
    · rintro (rfl | h)
      · exact .inr ⟨rfl, hc⟩
      · exact .inl h
    · rintro (h | ⟨rfl, _⟩)
      · exact .inr h
      · exact .inl rfl
mutual
theorem vis_map {H : Type} (t : T) (zs : List ByteArray) (D : DataW H) (hD : IsMap D) : IsMap (vis t zs D) := by
  cases t with
  | mk k n v ys f =>
    rw [vis]
    refine viss_map k _ zs ys _ ?_
    split
    · exact mark_map hD _ _
    · exact hD
theorem viss_map {H : Type} (k : Int) (v : ByteArray) (zs : List ByteArray) (ts : List T) (D : DataW H) (hD : IsMap D) : IsMap (viss k v zs ts D) := by
  cases ts with
  | nil => rw [viss]; exact hD
  | cons t ts => rw [viss]; exact viss_map k v zs ts _ (vis_map t _ D hD)
end
mutual
theorem has_vis {H : Type} (t : T) (hw : WF t) (zs : List ByteArray) (D : DataW H) (hD : IsMap D) (x : W8) :
    hasK (vis t zs D) x = true ↔ hasK D x = true ∨ (x ∈ frL t ∧ (⟨x.toArray⟩ : ByteArray) ∉ zs) := by
  cases t with
  | mk k n v ys f =>
    have hp := hw.parts
    rw [vis]
    by_cases hk : k = 2
    · have e : ys = [] := (own_var (t := .mk k n v ys f) hp.1 hk).2.1
      rw [e, viss, if_pos hk, has_mark hD, frL, if_pos hk, List.mem_singleton]
    · rw [if_neg hk, has_viss k v ys hp.2 zs D hD x, mem_frL]
      have hk' : ¬ (T.mk k n v ys f).kind = 2 := hk
      simp only [hk', false_and, false_or, ne_eq, not_false_eq_true, true_and]
      exact Iff.rfl
theorem has_viss {H : Type} (k : Int) (v : W8) (ts : List T) (hw : WFs ts) (zs : List ByteArray) (D : DataW H) (hD : IsMap D) (x : W8) :
    hasK (viss k ⟨v.toArray⟩ zs ts D) x = true ↔ hasK D x = true ∨ (inArgs k v x ts ∧ (⟨x.toArray⟩ : ByteArray) ∉ zs) := by
  cases ts with
  | nil => rw [viss]; simp [inArgs]
  | cons t ts =>
    rw [WFs] at hw
    rw [viss, has_viss k v ts hw.2 zs _ (vis_map t _ D hD) x, has_vis t hw.1 _ D hD x, inArgs]
    have e : (⟨x.toArray⟩ : ByteArray) ∉ (if k = 5 ∧ ts.length = 0 then zs ++ [⟨v.toArray⟩] else zs) ↔ ((⟨x.toArray⟩ : ByteArray) ∉ zs ∧ ¬ (k = 5 ∧ ts.length = 0 ∧ x = v)) := by
      by_cases hl : k = 5 ∧ ts.length = 0
      · rw [if_pos hl]
        simp only [List.mem_append, List.mem_singleton, not_or]
        constructor
        · rintro ⟨h1, h2⟩
          exact ⟨h1, fun h => h2 (by rw [h.2.2])⟩
        · rintro ⟨h1, h2⟩
          exact ⟨h1, fun h => h2 ⟨hl.1, hl.2, mk_inj h⟩⟩
      · rw [if_neg hl]
        constructor
        · exact fun h => ⟨h, fun h' => hl ⟨h'.1, h'.2.1⟩⟩
        · exact fun h => h.1
    rw [e]
    constructor
    · rintro ((h | ⟨h1, h2, h3⟩) | ⟨h1, h2⟩)
      · exact .inl h
      · exact .inr ⟨.inl ⟨h1, h3⟩, h2⟩
      · exact .inr ⟨.inr h1, h2⟩
    · rintro (h | ⟨⟨h1, h3⟩ | h1, h2⟩)
      · exact .inl (.inl h)
      · exact .inl (.inr ⟨h1, h2, h3⟩)
      · exact .inr ⟨h1, h2⟩
end
theorem srtd_nodup {l : List W8} (h : Srtd l) : l.Nodup := by
  unfold Srtd at h
  refine List.Pairwise.imp (fun {a b} hab => ?_) h
  rintro rfl
  rw [ltL_irrefl] at hab; cases hab
/-- the keys of a map that the walk holds -/
theorem perm_of_has {H : Type} {R : Value → Option (DataW H × List MemPlace)} {w : World} {b n : Nat} {D : DataW H} (hown : w.ownsMap Tryz.prog 9 R b n D) {ss : List W8} (hnd : ss.Nodup) (hm : ∀ x, x ∈ ss ↔ hasK D x = true) : ss.Perm (strKeys D) := by
  obtain ⟨es, hD, hpw, _⟩ := hown.entries law9
  obtain ⟨es', hD', hko⟩ := hown.keysOf
  obtain rfl : es = es' := by rw [hD] at hD'; simpa using hD'
  subst hD
  exact perm_strKeys hpw (fun p hp => by obtain ⟨v, hv⟩ := hko p hp; obtain ⟨x, _, hx, _⟩ := Maps.keyOf_str Tryz.underlying9 hv; exact ⟨x, hx⟩) hnd hm
/-- a fresh slice of names -/
def encS (x : W8) : Value := .string ⟨x.toArray⟩
def RL (w : World) (B : Nat) (v : Value) (l : List W8) : Prop := w.ownsRow B 9 1 v l.length (l.map encS)
theorem RL.sl {w : World} {B : Nat} {v : Value} {l : List W8} (h : RL w B v l) : SL w w.heap.size v l := by
  rcases h.2 with ⟨rfl, hz⟩ | ⟨g, cap, cur, rfl, h1, h2, h3, h4, h5, h6⟩
  · have e : l = [] := List.eq_nil_of_length_eq_zero hz
    subst e
    exact ⟨none, 0, rfl, ⟨by simp, by omega⟩, fun hne => absurd rfl hne⟩
  · refine ⟨some ⟨g, 0, none⟩, cap, rfl, ⟨h3, by unfold maxLen at h4; omega⟩, fun _ => ⟨g, 0, rfl, (Array.getElem?_eq_some_iff.1 h2).1, fun j hj => ?_⟩⟩
    have e1 : (cur.toList.take (l.length * 1))[j]? = (l.map encS)[j]? := by rw [h6]
    rw [List.getElem?_take_of_lt (by omega)] at e1
    simp only [World.cell?, h2, Option.isSome_none, Bool.false_eq_true, if_false, Nat.zero_add]
    rw [← Array.getElem?_toList, e1]
    simp [hj, encS]
theorem RL.mono {w : World} {B B' : Nat} {v : Value} {l : List W8} (h : RL w B v l) (hb : B' ≤ B) : RL w B' v l := World.ownsRow.mono h hb

/-- sorted at the map of a set of words: the one list in their order -/
theorem sorted_list {H : Type} (b nn : Nat) (D0 : DataW H) (R : Value → Option (DataW H × List MemPlace)) (w : World) (l : List W8) (hown : w.ownsMap Tryz.prog 9 R b nn D0) (hl : Srtd l) (hw : Wds l) (hlen : l.length ≤ 100000) (hm : ∀ x, x ∈ l ↔ hasK D0 x = true) :
    Calls Tryz.prog 41 #[.map (some b)] w fun e w' => ∃ v, e = .returned v ∧ RL w' w.heap.size v l ∧ (v = .slice none 0 0 ↔ l = []) ∧ Below w.heap.size w w' := by
  have hp := perm_of_has hown (srtd_nodup hl) hm
  have hsz : Maps.size D0 ≤ 100000 := by
    obtain ⟨es, hD, _⟩ := hown.entries law9
    have := hp.length_eq
    subst hD
    show es.length ≤ 100000
    have e : (strKeys (.map es)).length = es.length := by show (es.map _).length = _; rw [List.length_map]
    omega
  refine (sorted_any b nn D0 R w hown (by unfold maxLen; omega) (by omega) (fun x hx => hw x (hp.mem_iff.2 hx))).mono ?_
  rintro e w' ⟨v, ws, rfl, hpw, hrow, hnil, hb⟩
  have hnd : (ws.map (·.1)).Nodup := (hpw.trans hp.symm).nodup_iff.2 (srtd_nodup hl)
  have hs := sortW_srtd ws hnd
  have e1 : (sortW ws).map (·.1) = l := srtd_ext hs.1 hl (fun x => by rw [hs.2 x, hpw.mem_iff, ← hp.mem_iff])
  have e2 : ws.length = l.length := by rw [← e1, List.length_map, sortW_len]
  have e3 : (sortW ws).map encW = l.map encS := by rw [← e1, List.map_map]; rfl
  refine ⟨v, rfl, ?_, ?_, hb⟩
  · unfold RL; rw [← e2, ← e3]; exact hrow
  · rw [hnil]
    constructor
    · rintro rfl; exact List.eq_nil_of_length_eq_zero e2.symm
    · rintro rfl; exact List.eq_nil_of_length_eq_zero e2

set_option maxRecDepth 100000 in
set_option maxHeartbeats 2000000 in
theorem free40_any (t : T) (b o : Nat) (w : World) (hr : TR w w.heap.size b o t) (hw : WF t) (hs : SA t) (hz : t.size ≤ 90000) :
    Calls Tryz.prog 28 #[.pointer (some ⟨b, o, none⟩)] w fun e w' => ∃ v, e = .returned v ∧ RL w' w.heap.size v (frL t) ∧ (v = .slice none 0 0 ↔ frL t = []) ∧ Below w.heap.size w w' := by
  have hb2 : Below w.heap.size w ((w.alloc (.map #[] 0)).alloc (.cells #[.map (some w.heap.size)] 60)) := ((Below.refl _ _).alloc (Nat.le_refl _) _).alloc (by simp) _
  have hvs : VS (H := Unit) ((w.alloc (.map #[] 0)).alloc (.cells #[.map (some w.heap.size)] 60)) w.heap.size (w.heap.size + 1) 0 (.map []) :=
    ⟨(World.ownsMap_made w Tryz.prog 9 _).alloc _, by simp, by omega, by simp⟩
  have HV := Lib.hid (visit_aux (H := Unit) w.heap.size (w.heap.size + 1) t.size t (Nat.le_refl _) b o 0 (.slice none 0 0) [] (.map []) _ (hr.below hb2) hs (.inl ⟨rfl, rfl⟩) hvs (by simp; omega) (by omega))
  have HB2 := Lib.hid hb2
  have HM : Hid (∀ x, x ∈ frL t ↔ hasK (vis (H := Unit) t [] (.map [])) x = true) := fun x => by
    rw [has_vis t hw [] _ isMap_empty x]
    simp [hasK, Maps.has]
  have HL := Lib.hid (frL_ok t hw)
  have HLN := Lib.hid (frL_len t)
  have HS2 : Hid (w.heap.size + 2 = ((w.alloc (.map #[] 0)).alloc (.cells #[.map (some w.heap.size)] 60)).heap.size) := by show _ = _; simp
  clear hr hw hs hb2 hvs
  have hmm := fun (w : World) => run_makeMap (P := Tryz.prog) 60 w
  go_enter Tryz.func28, Tryz.ntmps28
  go_wp2_with fail
  generalize (w.alloc (.map #[] 0)).alloc (.cells #[.map (some w.heap.size)] 60) = w2 at *
  refine HV.out.mono ?_
  rintro e w3 ⟨rfl, hv3, hg3⟩
  have c3 := hv3.cell
  have HB3 := Lib.hid (HB2.out.trans (below_grown (by have := HB2.out.size; omega) hg3))
  have HC := Lib.hid (sorted_list (H := Unit) w.heap.size _ _ _ w3 (frL t) hv3.own HL.out.1 (fun x hx => ident_word (HL.out.2 x hx)) (by have := HLN.out; omega) HM.out)
  have HSZ3 := Lib.hid HB3.out.size
  clear hv3 hg3 HV
  go_wp2_with fail
  refine HC.out.mono ?_
  rintro e w4 ⟨v, rfl, hrow, hnil, hb4⟩
  have HR := Lib.hid hrow
  have HN := Lib.hid hnil
  have HB4 := Lib.hid (HB3.out.trans (hb4.mono HSZ3.out))
  clear hrow hnil hb4 HC
  go_wp2_with fail
  go_ret
  exact ⟨v, rfl, HR.out.mono HSZ3.out, HN.out, HB4.out⟩
/-- Free: the free names of a valid term, else none -/
def freeL (t : T) : List W8 := if validB t = true then frL t else []

set_option maxRecDepth 100000 in
set_option maxHeartbeats 2000000 in
theorem free20_any (t : T) (A : Option Addr) (c : Nat) (w : World) (hv : TV w w.heap.size t A c) (hs : SA t) (hm : Max w) :
    Calls Tryz.prog 14 #[.agg (tv t A c)] w fun e w' => ∃ v, e = .returned v ∧ RL w' w.heap.size v (freeL t) ∧ Below w.heap.size w w' := by
  have hb0 : Below w.heap.size w (w.alloc (.cells (tv t A c) 24)) := (Below.refl _ _).alloc (Nat.le_refl _) _
  have HB0 := Lib.hid hb0
  have hbox := hv.box
  have HBX := Lib.hid hbox
  have HC := Lib.hid (validT_any t A c _ ((hv.below hb0).more hb0.size) hs (hm.below hb0))
  have HI := Lib.hid (tv_info t A c)
  have HS := Lib.hid hs
  clear hv hs hb0 hm hbox
  generalize tv t A c = cs at *
  have HF : Hid ((w.alloc (.cells cs 24)).heap[w.heap.size]? = some (.cells cs 24)) := blk_new _ _
  have HSZ : Hid ((w.alloc (.cells cs 24)).heap.size = w.heap.size + 1) := by show _ = _; simp
  go_enter Tryz.func14, Tryz.ntmps14
  go_wp2_with (with_reducible refine wpList_load_row rfl 24 (.tmp 1) rfl w.heap.size rfl 24 cs (0, 0) _ HF.out Tryz.underlying24 rfl HI.out ?_)
  refine HC.out.mono ?_
  rintro e w1 ⟨rfl, hb1⟩
  have HB1 := Lib.hid (HB0.out.trans (hb1.mono HB0.out.size))
  have HR1 := Lib.hid ((HBX.out.below (hb1.mono (by rw [HSZ.out]; omega))).more (show w.heap.size + 1 ≤ w1.heap.size by have := hb1.size; rw [HSZ.out] at this; exact this))
  clear hb1 HC
  cases hvb : validB t with
  | false =>
    have HX : Hid (freeL t = []) := if_neg (by rw [hvb]; decide)
    clear hvb
    go_wp2_with fail
    go_ret
    rw [HX.out]
    exact ⟨_, rfl, World.ownsRow_nil _ _ _ _, HB1.out⟩
  | true =>
    have HX : Hid (freeL t = frL t) := if_pos hvb
    have hvi := (valid_iff t).1 hvb
    have HC2 := Lib.hid (free40_any t w.heap.size 0 w1 HR1.out hvi.1 HS.out (by omega))
    clear hvb hvi
    go_wp2_with fail
    refine HC2.out.mono ?_
    rintro e w2 ⟨v, rfl, hrow, _, hb2⟩
    have HR2 := Lib.hid (hrow.mono HB1.out.size)
    have HB2 := Lib.hid (HB1.out.trans (hb2.mono HB1.out.size))
    clear hrow hb2
    go_wp2_with fail
    go_ret
    rw [HX.out]
    exact ⟨v, rfl, HR2.out, HB2.out⟩
end Go.Proofs.YtkjhfbgdmmnadaaGreat
