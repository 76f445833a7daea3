/- visit 58 with free$1: marks the free names of a term. free 40 and Free 20: the free names in their order. -/
import Derived.Deep.RegionLawGrows
import Derived.Maps.AppendAt
import Derived.Deep.RegionHeldLaw
import Derived.Deep.RegionHeld3
import Derived.Test.YtknpigdpepmimaaGreatDoorM15
import Derived.Maps.OwnSet
import Derived.Carry
import Derived.Test.YtknpigdpepmimaaGreatDoorM04
import Derived.Test.YtknpigdpepmimaaGreatDoorM14
namespace Go.Proofs.YtknpigdpepmimaaGreatDoor
open Go.RowKit Go.Maps Go.Sort Go.Shelf
/-- the bound names, in a block of their own -/
def BV (w : World) (mb : Nat) (v : Value) (zs : List ByteArray) : Prop :=
  (v = .slice none 0 0 ∧ zs = []) ∨ ∃ b c, v = .slice (some ⟨b, 0, none⟩) zs.length c ∧ b ≠ mb ∧ b < w.heap.size ∧ zs.length ≤ c ∧ c ≤ maxLen ∧ ∀ j, j < zs.length → w.cell? ⟨b, j, none⟩ = some (.string (zs.getD j ByteArray.empty))
theorem BV.br {w : World} {mb : Nat} {v : Value} {zs : List ByteArray} (h : BV w mb v zs) (hl : zs.length ≤ 1000000) : BR w v zs := by
  rcases h with ⟨rfl, rfl⟩ | ⟨b, c, rfl, _, _, _, _, hc⟩
  · exact ⟨none, 0, rfl, hl, .inl rfl⟩
  · exact ⟨some ⟨b, 0, none⟩, c, rfl, hl, .inr ⟨b, 0, rfl, fun j hj => by rw [Nat.zero_add]; exact hc j hj⟩⟩
theorem cell_of_block {w w' : World} {b : Nat} (h : w'.heap[b]? = w.heap[b]?) (o : Nat) : w'.cell? ⟨b, o, none⟩ = w.cell? ⟨b, o, none⟩ := by
  simp only [World.cell?, h]
theorem BV.kept {w w' : World} {mb : Nat} {v : Value} {zs : List ByteArray} (h : BV w mb v zs) (hg : w.grownBy w' (some mb)) : BV w' mb v zs := by
  rcases h with h | ⟨b, c, rfl, h1, h2, h3, h4, hc⟩
  · exact .inl h
  · have hb := hg.block b h2 (fun e => h1 (Option.some.inj e))
    exact .inr ⟨b, c, rfl, h1, Nat.lt_of_lt_of_le h2 hg.size, h3, h4, fun j hj => (cell_of_block hb j).trans (hc j hj)⟩
theorem below_grown {w w' : World} {mb : Nat} (hl : mb ≤ w.heap.size) (hg : w.grownBy w' (some mb)) : Below mb w w' :=
  ⟨hg.os, hg.tape, hg.output, hg.size, fun k hk => hg.block k (by omega) (fun e => by have := Option.some.inj e; omega)⟩
theorem str_info : (Tryz.prog.info? 9).map (fun i => (i.zero, i.size, i.bytes)) = some (some (.string ⟨#[]⟩), 1, 16) := by kernel_rfl
theorem BV.of_row {w : World} {mb base : Nat} {v : Value} {zs : List ByteArray} (h : w.ownsRow base 9 1 v zs.length (zs.map Value.string)) (hb : mb < base) : BV w mb v zs := by
  obtain ⟨hl, h⟩ := h
  rcases h with ⟨rfl, hz⟩ | ⟨g, cap, cur, rfl, h1, h2, h3, h4, h5, h6⟩
  · exact .inl ⟨rfl, List.eq_nil_of_length_eq_zero hz⟩
  · refine .inr ⟨g, cap, rfl, by omega, (Array.getElem?_eq_some_iff.1 h2).1, h3, h4, fun j hj => ?_⟩
    have e1 : (cur.toList.take (zs.length * 1))[j]? = (zs.map Value.string)[j]? := by rw [h6]
    rw [List.getElem?_take_of_lt (by omega)] at e1
    simp only [World.cell?, h2, Option.isSome_none, Bool.false_eq_true, if_false]
    rw [← Array.getElem?_toList, e1]
    simp [List.getD_eq_getElem?_getD, hj]
theorem row_form {w : World} {base n : Nat} {v : Value} {xs : List Value} (h : w.ownsRow base 9 1 v (n + 1) xs) : ∃ g cap, v = .slice (some ⟨g, 0, none⟩) (n + 1) cap := by
  rcases h.2 with ⟨_, hz⟩ | ⟨g, cap, _, rfl, _⟩
  · omega
  · exact ⟨g, cap, rfl⟩
mutual
def vis {H : Type} : T → List ByteArray → DataW H → DataW H
  | .mk k n v ys _, zs, D => viss k ⟨v.toArray⟩ zs ys (if k = 2 then mark D zs ⟨n.toArray⟩ else D)
def viss {H : Type} (k : Int) (v : ByteArray) (zs : List ByteArray) : List T → DataW H → DataW H
  | [], D => D
  | t :: ts, D => viss k v zs ts (vis t (if k = 5 ∧ ts.length = 0 then zs ++ [v] else zs) D)
end
theorem vis_eq {H : Type} (t : T) (zs : List ByteArray) (D : DataW H) : vis t zs D = viss t.kind ⟨t.var.toArray⟩ zs t.args (if t.kind = 2 then mark D zs ⟨t.name.toArray⟩ else D) := by
  cases t with
  | mk k n v ys f => rw [vis]; rfl
/-- what the walk knows of the world -/
structure VS {H : Type} (w : World) (mb cb n : Nat) (D : DataW H) : Prop where
  own : w.ownsMap Tryz.prog 9 (plainElem Tryz.prog 4) mb n D
  cell : w.cell? ⟨cb, 0, none⟩ = some (.map (some mb))
  ne : cb ≠ mb
  lt : cb < w.heap.size
theorem VS.kept {H : Type} {w w' : World} {mb cb n n' : Nat} {D D' : DataW H} (h : VS w mb cb n D) (hg : w.grownBy w' (some mb)) (ho : w'.ownsMap Tryz.prog 9 (plainElem Tryz.prog 4) mb n' D') : VS w' mb cb n' D' :=
  ⟨ho, (cell_of_block (hg.block cb h.lt (fun e => h.ne (Option.some.inj e))) 0).trans h.cell, h.ne, Nat.lt_of_lt_of_le h.lt hg.size⟩
set_option maxRecDepth 100000 in
set_option maxHeartbeats 4000000 in
theorem visit_aux {H : Type} (mb cb : Nat) (N : Nat) : ∀ (t : T), t.size ≤ N → ∀ (b o n : Nat) (v : Value) (zs : List ByteArray) (D : DataW H) (w : World), TR w mb b o t → SA t → BV w mb v zs → VS w mb cb n D →
    zs.length + t.size ≤ 100000 → n + t.size ≤ 100000 →
    Calls Tryz.prog 192 #[.pointer (some ⟨b, o, none⟩), v, .func (.func 193) #[] #[.pointer (some ⟨cb, 0, none⟩)]] w fun e w' => e = .returned (.tuple #[]) ∧ VS w' mb cb (n + t.size) (vis t zs D) ∧ w.grownBy w' (some mb) := by
  induction N with
  | zero => intro t ht; exact absurd ht (by cases t; rw [T.size]; omega)
  | succ N ih =>
    intro t ht b o n v zs D w hr hs hv hvs hz1 hz2
    have IH := Lib.hid ih
    clear ih
    have HV := Lib.hid (vis_eq t zs D)
    obtain ⟨hsh, hsa⟩ := hs.parts
    have hml := hvs.own.lt
    obtain ⟨hbl, c0, c1, c2, c4, A, cp, c3, hcp, hTA⟩ := hr.parts
    have HSZ : Hid (∀ u ∈ t.args, u.size ≤ N) := fun u hu => by have := size_arg hu; omega
    have hts : 1 ≤ t.size := by cases t; rw [T.size]; omega
    have HF := Lib.hid (free1_any ⟨t.name.toArray⟩ (by simp [ByteArray.size]; exact hsh.1) v zs w (hv.br (by omega)) cb mb n D hvs.cell hvs.own (by unfold maxLen; omega))
    have HTA := Lib.hid hTA
    have HS := Lib.hid (And.intro hsh hsa)
    have HVS := Lib.hid hvs
    have HBV := Lib.hid hv
    have HC := Lib.hid (And.intro c2 c3)
    have HC0 := Lib.hid c0
    clear hTA hsh hsa hvs hv hs hr c2 c3 c4
    go_enter Tryz.func192, Tryz.ntmps192
    go_upto_if 12 with fail
    go_cut [13] (fun _ wx => Aside (VS wx mb cb (n + 1) (if t.kind = 2 then mark D zs ⟨t.name.toArray⟩ else D)) ∧ Aside (w.grownBy wx (some mb)))
    case first =>
      by_cases hk : t.kind = 2
      · have hb1 : (t.kind == 2) = true := by simp [hk]
        have HE : Hid ((if t.kind = 2 then mark D zs ⟨t.name.toArray⟩ else D) = mark D zs ⟨t.name.toArray⟩) := if_pos hk
        clear hk
        go_wp2_with (go_at_call 193; refine HF.out.mono ?_; rintro e w' ⟨rfl, ho, hg⟩)
        go_meet
        case rel => exact ⟨by rw [HE.out]; exact HVS.out.kept hg ho, hg⟩
      · have hb1 : (t.kind == 2) = false := by simp [hk]
        have HE : Hid ((if t.kind = 2 then mark D zs ⟨t.name.toArray⟩ else D) = D) := if_neg hk
        clear hk
        go_wp2_with fail
        go_meet
        case rel => exact ⟨by rw [HE.out]; exact HVS.out.kept (World.grownBy.refl _ _) (HVS.out.own.mono (by omega)), World.grownBy.refl _ _⟩
    case rest =>
      obtain ⟨hVa, hGa⟩ := hcut
      have hB := below_grown (Nat.le_of_lt hml) hGa.out
      have c3 := (hB.cell (p := ⟨b, o + 3, none⟩) hbl).trans HC.out.2
      obtain ⟨D1, hD1⟩ : ∃ D1, D1 = (if t.kind = 2 then mark D zs ⟨t.name.toArray⟩ else D) := ⟨_, rfl⟩
      rw [← hD1] at HV hVa
      obtain ⟨ys, hys⟩ : ∃ ys, ys = t.args := ⟨_, rfl⟩
      have HSI : Hid (t.size = 1 + sizes ys) := by show t.size = 1 + sizes ys; rw [hys]; cases t; rw [T.size]; rfl
      rw [← hys] at HV HS HTA HSZ c3 hcp HC
      have hyl : ys.length ≤ 9223372036854775807 := by omega
      clear hys hD1 hB c0 c1 HF
      go_wp2_with fail
      go_loopg [25] ys.length (fun gg s25 wr => ∃ (i ni : Nat) (Di : DataW H), i ≤ ys.length ∧ ys.length - i ≤ gg ∧ s25 = .int .i64 i ∧ Aside (ni + sizes (ys.drop i) = n + t.size) ∧ Aside (viss t.kind ⟨t.var.toArray⟩ zs ys D1 = viss t.kind ⟨t.var.toArray⟩ zs (ys.drop i) Di) ∧ Aside (VS wr mb cb ni Di) ∧ Aside (w.grownBy wr (some mb)))
      case atStart => exact ⟨0, n + 1, D1, Nat.zero_le _, by omega, rfl, by have := HSI.out; show n + 1 + sizes ys = n + t.size; omega, rfl, hVa, hGa⟩
      case round =>
        obtain ⟨i, ni, Di, hi, hgg, rfl, HN, HE, HVi, HGi⟩ := hrel
        by_cases hlt : i < ys.length
        · have hltz : (i : Int) < (ys.length : Int) := by omega
          have hBi := below_grown (Nat.le_of_lt hml) HGi.out
          obtain ⟨b', o', rfl, hRi⟩ := TA.at_ (w := wr) (fun hne => by
            obtain ⟨b', o', hA, hs⟩ := HTA.out hne
            exact ⟨b', o', hA, hs.below hBi⟩) hlt
          have HR := Lib.hid hRi
          have c0r := (hBi.cell (p := ⟨b, o, none⟩) hbl).trans HC0.out
          have c3r := (hBi.cell (p := ⟨b, o + 3, none⟩) hbl).trans HC.out.2
          have HC2 := Lib.hid ((hBi.cell (p := ⟨b, o + 2, none⟩) hbl).trans HC.out.1)
          have HBi := Lib.hid (HBV.out.kept HGi.out)
          have HZ : Hid (sizes (ys.drop i) = ys[i].size + sizes (ys.drop (i + 1))) := by show sizes (ys.drop i) = _; rw [List.drop_eq_getElem_cons hlt, sizes]
          have HD : Hid (viss t.kind ⟨t.var.toArray⟩ zs (ys.drop i) Di = viss t.kind ⟨t.var.toArray⟩ zs (ys.drop (i + 1)) (vis ys[i] (if t.kind = 5 ∧ i + 1 = ys.length then zs ++ [⟨t.var.toArray⟩] else zs) Di)) := by
            show viss t.kind ⟨t.var.toArray⟩ zs (ys.drop i) Di = _
            rw [List.drop_eq_getElem_cons hlt, viss]
            have e : (List.drop (i + 1) ys).length = 0 ↔ i + 1 = ys.length := by rw [List.length_drop]; omega
            simp only [e]
          clear hBi hRi
          go_upto_region 6 with (fail)
          go_cut [43] (fun s43 wx => s43 = .bool (decide (t.kind = 5 ∧ i + 1 = ys.length)) ∧ wr = wx)
          case first =>
            by_cases hk : t.kind = 5
            · have hb1 : (t.kind == 5) = true := by simp [hk]
              by_cases he : i + 1 = ys.length
              · have hez : (i : Int) = (ys.length : Int) - 1 := by omega
                have HP : Hid (decide (t.kind = 5 ∧ i + 1 = ys.length) = true) := decide_eq_true ⟨hk, he⟩
                clear hk
                go_wp2_with fail
                go_meet
                case rel => exact ⟨by rw [HP.out], rfl⟩
              · have hez : ¬ (i : Int) = (ys.length : Int) - 1 := by omega
                have HP : Hid (decide (t.kind = 5 ∧ i + 1 = ys.length) = false) := decide_eq_false (fun h => he h.2)
                clear hk
                go_wp2_with fail
                go_meet
                case rel => exact ⟨by rw [HP.out, show ((i : Int) == (ys.length : Int) - 1) = false from by simpa using hez], rfl⟩
            · have hb1 : (t.kind == 5) = false := by simp [hk]
              have HP : Hid (decide (t.kind = 5 ∧ i + 1 = ys.length) = false) := decide_eq_false (fun h => hk h.1)
              clear hk
              go_wp2_with fail
              go_meet
              case rel => exact ⟨by rw [HP.out], rfl⟩
          case rest =>
            obtain ⟨rfl, rfl⟩ := hcut
            by_cases hbd : t.kind = 5 ∧ i + 1 = ys.length
            · have hbb := decide_eq_true hbd
              rw [hbb]
              rw [if_pos hbd] at HD
              clear hbd hbb
              go_upto_region 7 with (fail)
              go_cut [7] (fun s7 wx => Aside (BV wx mb s7 (zs ++ [⟨t.var.toArray⟩])) ∧ Aside (wr.grownBy wx none))
              case first =>
                obtain ⟨i0, hi0, hz0, hz1, hz2⟩ := info_parts str_info
                have c2r := HC2.out
                have hwl : mb < wr.heap.size := HVi.out.own.lt
                rcases HBi.out with ⟨rfl, hzs⟩ | ⟨bb, cc, rfl, hb1, hb2, hb3, hb4, hb5⟩
                · have hzl : zs.length = 0 := by rw [hzs]; rfl
                  refine wp_region_noPanic ?_
                  go_region_held_law (fun w' => w'.cell? ⟨b, o + 2, none⟩ = some (.string ⟨t.var.toArray⟩)) (first | exact c2r | exact c2s | go_keep) (first | (refine step_append_grows rfl (.tmp 49) (.tmp 54) 25 rfl 9 i0 _ 1 16 Tryz.underlying25 hi0 hz0 hz1 hz2 rfl (by decide) none zs.length 0 (zs.map Value.string) (by first | rfl | simp [Act.eval, hzs]) (fun _ => ⟨by rw [hzs]; rfl, rfl⟩) (by simp) (fun b hb => by cases hb) ⟨wr.heap.size, 0, none⟩ 1 1 [.string ⟨t.var.toArray⟩] rfl rfl (fun j u hu => by cases j with | zero => (simp at hu; subst hu; simp [go_sem]) | succ j => simp at hu) (fun u hu => by simp at hu; subst hu; rfl) (by omega) (by unfold maxLen; omega) (by omega) ?_; intro v7 w7 hown7 hgrow7; obtain ⟨g7, cap7, rfl⟩ := row_form hown7; have HB7 : Hid (BV w7 mb (.slice (some ⟨g7, 0, none⟩) (zs.length + 1) cap7) (zs ++ [⟨t.var.toArray⟩])) := BV.of_row (base := wr.heap.size + 1) (by simpa using hown7) (by omega); have HG7 : Hid (wr.grownBy w7 none) := World.grownBy.trans (b := wr.alloc (.cells #[.string ⟨t.var.toArray⟩] 9)) ⟨rfl, rfl, rfl, by simp, fun k hk _ => Below.heap_alloc _ _ k hk⟩ ⟨hgrow7.os, hgrow7.tape, hgrow7.output, hgrow7.size, fun k hk hne => hgrow7.block k hk hne⟩; have c2s : w7.cell? ⟨b, o + 2, none⟩ = some (.string ⟨t.var.toArray⟩) := (cell_of_block (HG7.out.block b (by omega) (by simp)) _).trans HC2.out; clear hown7 hgrow7))
                  all_goals
                    refine NoPanic.normal ?_
                    simp only [List.getElem_toArray, List.getElem_cons_succ, List.getElem_cons_zero]
                    go_wp2_with fail
                    go_meet
                    case rel => exact ⟨(by have h := HB7.out; rw [hzl] at h; exact h), HG7.out⟩
                · have hold : ∀ j u, (zs.map Value.string)[j]? = some u → (wr.alloc (.cells #[.string ⟨t.var.toArray⟩] 9)).cell? (Addr.add ⟨bb, 0, none⟩ j) = some u := fun j u hu => by
                    have hj : j < zs.length := by
                      have := (List.getElem?_eq_some_iff.1 hu).1
                      simpa using this
                    have h1 := hb5 j hj
                    have h2 : u = .string (zs.getD j ByteArray.empty) := by
                      simp [hj] at hu
                      rw [← hu]; simp [List.getD_eq_getElem?_getD, hj]
                    rw [h2, ← h1]
                    simp only [Addr.add, Nat.zero_add]
                    by_cases hj0 : j = 0
                    · rw [if_pos hj0, hj0]; exact cell_of_block (Below.heap_alloc _ _ bb hb2) 0
                    · rw [if_neg hj0]; exact cell_of_block (Below.heap_alloc _ _ bb hb2) j
                  have hzle : zs.length ≤ 9223372036854775807 := by omega
                  clear hb5
                  refine wp_region_noPanic ?_
                  go_region_held_law (fun w' => w'.cell? ⟨b, o + 2, none⟩ = some (.string ⟨t.var.toArray⟩)) (first | exact c2r | exact c2s | go_keep) (first | (refine step_append_grows rfl (.tmp 49) (.tmp 54) 25 rfl 9 i0 _ 1 16 Tryz.underlying25 hi0 hz0 hz1 hz2 rfl (by decide) (some ⟨bb, 0, none⟩) zs.length zs.length (zs.map Value.string) (by first | rfl | simp [Act.eval]) (fun h => by cases h) (by simp) (fun b hb j u hu => by cases hb; exact hold j u hu) ⟨wr.heap.size, 0, none⟩ 1 1 [.string ⟨t.var.toArray⟩] rfl rfl (fun j u hu => by cases j with | zero => (simp at hu; subst hu; simp [go_sem]) | succ j => simp at hu) (fun u hu => by simp at hu; subst hu; rfl) (by omega) (by unfold maxLen; omega) (by omega) ?_; intro v7 w7 hown7 hgrow7; obtain ⟨g7, cap7, rfl⟩ := row_form hown7; have HB7 : Hid (BV w7 mb (.slice (some ⟨g7, 0, none⟩) (zs.length + 1) cap7) (zs ++ [⟨t.var.toArray⟩])) := BV.of_row (base := wr.heap.size + 1) (by simpa using hown7) (by omega); have HG7 : Hid (wr.grownBy w7 none) := World.grownBy.trans (b := wr.alloc (.cells #[.string ⟨t.var.toArray⟩] 9)) ⟨rfl, rfl, rfl, by simp, fun k hk _ => Below.heap_alloc _ _ k hk⟩ ⟨hgrow7.os, hgrow7.tape, hgrow7.output, hgrow7.size, fun k hk hne => hgrow7.block k hk hne⟩; have c2s : w7.cell? ⟨b, o + 2, none⟩ = some (.string ⟨t.var.toArray⟩) := (cell_of_block (HG7.out.block b (by omega) (by simp)) _).trans HC2.out; clear hown7 hgrow7))
                  all_goals
                    refine NoPanic.normal ?_
                    simp only [List.getElem_toArray, List.getElem_cons_succ, List.getElem_cons_zero]
                    go_wp2_with fail
                    go_meet
                    case rel => exact ⟨HB7.out, HG7.out⟩
              case rest =>
                obtain ⟨hB7, hG7⟩ := hcut
                have hG8 : wr.grownBy wc (some mb) := ⟨hG7.out.os, hG7.out.tape, hG7.out.output, hG7.out.size, fun k hk _ => hG7.out.block k hk (by simp)⟩
                have HGc := Lib.hid (World.grownBy.trans HGi.out hG8)
                have hBc := below_grown (Nat.le_of_lt hml) HGc.out
                have c3c := (hBc.cell (p := ⟨b, o + 3, none⟩) hbl).trans HC.out.2
                have HCall := Lib.hid (IH.out ys[i] (HSZ.out _ (List.getElem_mem hlt)) b' (o' + i * 5) ni _ _ Di wc (HR.out.below (below_grown (Nat.le_of_lt HVi.out.own.lt) hG8)) (HS.out.2.mem (List.getElem_mem hlt)) hB7.out (HVi.out.kept hG8 (HVi.out.own.kept hG7.out (by simp))) (by have := HZ.out; have := HN.out; have := HSI.out; have := size_mem (List.getElem_mem hlt); rw [List.length_append]; simp only [List.length_cons, List.length_nil]; omega) (by have := HZ.out; have := HN.out; omega))
                clear hBc hG8 hG7 hB7
                go_wp2_with fail
                refine HCall.out.mono ?_
                rintro e w4 ⟨rfl, hv4, hg4⟩
                have HV4 := Lib.hid hv4
                have HG4 := Lib.hid (World.grownBy.trans HGc.out hg4)
                clear hv4 hg4 HCall
                go_wp2_with fail
                go_roundg (ys.length - (i + 1))
                case measure => omega
                case rel => exact ⟨i + 1, ni + ys[i].size, _, by omega, by omega, by go_num, (by have := HN.out; have := HZ.out; show _ = _; omega), HE.out.trans HD.out, HV4.out, HG4.out⟩
            · have hbb := decide_eq_false hbd
              rw [hbb]
              rw [if_neg hbd] at HD
              have HCall := Lib.hid (IH.out ys[i] (HSZ.out _ (List.getElem_mem hlt)) b' (o' + i * 5) ni v zs Di wr HR.out (HS.out.2.mem (List.getElem_mem hlt)) HBi.out HVi.out (by have := HZ.out; have := HN.out; have := HSI.out; have := size_mem (List.getElem_mem hlt); omega) (by have := HZ.out; have := HN.out; omega))
              clear hbb hbd
              go_wp2_with fail
              refine HCall.out.mono ?_
              rintro e w4 ⟨rfl, hv4, hg4⟩
              have HV4 := Lib.hid hv4
              have HG4 := Lib.hid (World.grownBy.trans HGi.out hg4)
              clear hv4 hg4 HCall
              go_wp2_with fail
              go_roundg (ys.length - (i + 1))
              case measure => omega
              case rel => exact ⟨i + 1, ni + ys[i].size, _, by omega, by omega, by go_num, (by have := HN.out; have := HZ.out; show _ = _; omega), HE.out.trans HD.out, HV4.out, HG4.out⟩
        · have hltz : ¬ (i : Int) < (ys.length : Int) := by omega
          have HY : Hid (vis t zs D = Di ∧ n + t.size = ni) := by
            refine ⟨?_, ?_⟩
            · rw [HV.out, HE.out, List.drop_eq_nil_of_le (by omega), viss]
            · have := HN.out; rw [List.drop_eq_nil_of_le (by omega), sizes] at this; omega
          go_wp2_with fail
          go_end0
          rw [HY.out.1, HY.out.2]
          exact ⟨rfl, HVi.out, HGi.out⟩
end Go.Proofs.YtknpigdpepmimaaGreatDoor

namespace Go.Proofs.YtknpigdpepmimaaGreatDoor
open Go.RowKit Go.Maps Go.Sort Go.Shelf
def hasK {H : Type} (D : DataW H) (x : W8) : Bool := Maps.has D (.string x)
theorem has_put {H : Type} {D : DataW H} (hD : IsMap D) (x y : W8) (d : DataW H) : hasK (D.put (.string y) d) x = true ↔ x = y ∨ hasK D x = true := by
  unfold hasK
  by_cases h : x = y
  · subst h
    rw [has_put_same hD (by trivial)]
    simp
  · rw [has_put_other (fun e => h (by injection e))]
    simp [h]
theorem mk_inj {a b : W8} (h : (⟨a.toArray⟩ : ByteArray) = ⟨b.toArray⟩) : a = b := by
  injection h with h
  simpa using h
theorem mark_map {H : Type} {D : DataW H} (hD : IsMap D) (zs : List ByteArray) (nm : ByteArray) : IsMap (mark D zs nm) := by
  unfold mark; split
  · exact hD
  · exact hD.put _ _
theorem has_mark {H : Type} {D : DataW H} (hD : IsMap D) (zs : List ByteArray) (n x : W8) :
    hasK (mark D zs ⟨n.toArray⟩) x = true ↔ hasK D x = true ∨ (x = n ∧ (⟨x.toArray⟩ : ByteArray) ∉ zs) := by
  unfold mark
  by_cases hc : Lib.containsS zs ⟨n.toArray⟩ = true
  · rw [if_pos hc]
    rw [Lib.containsS_iff] at hc
    constructor
    · exact .inl
    · rintro (h | ⟨rfl, h⟩)
      · exact h
      · exact absurd hc h
  · rw [if_neg hc]
    rw [Lib.containsS_iff] at hc
    show hasK (D.put (.string n.toArray.toList) _) x = true ↔ _
    rw [List.toList_toArray, has_put hD]
    constructor
    · rintro (rfl | h)
      · exact .inr ⟨rfl, hc⟩
      · exact .inl h
    · rintro (h | ⟨rfl, _⟩)
      · exact .inr h
      · exact .inl rfl
mutual
theorem vis_map {H : Type} (t : T) (zs : List ByteArray) (D : DataW H) (hD : IsMap D) : IsMap (vis t zs D) := by
  cases t with
  | mk k n v ys f =>
    rw [vis]
    refine viss_map k _ zs ys _ ?_
    split
    · exact mark_map hD _ _
    · exact hD
theorem viss_map {H : Type} (k : Int) (v : ByteArray) (zs : List ByteArray) (ts : List T) (D : DataW H) (hD : IsMap D) : IsMap (viss k v zs ts D) := by
  cases ts with
  | nil => rw [viss]; exact hD
  | cons t ts => rw [viss]; exact viss_map k v zs ts _ (vis_map t _ D hD)
end
mutual
theorem has_vis {H : Type} (t : T) (hw : WF t) (zs : List ByteArray) (D : DataW H) (hD : IsMap D) (x : W8) :
    hasK (vis t zs D) x = true ↔ hasK D x = true ∨ (x ∈ frL t ∧ (⟨x.toArray⟩ : ByteArray) ∉ zs) := by
  cases t with
  | mk k n v ys f =>
    have hp := hw.parts
    rw [vis]
    by_cases hk : k = 2
    · have e : ys = [] := (own_var (t := .mk k n v ys f) hp.1 hk).2.1
      rw [e, viss, if_pos hk, has_mark hD, frL, if_pos hk, List.mem_singleton]
    · rw [if_neg hk, has_viss k v ys hp.2 zs D hD x, mem_frL]
      have hk' : ¬ (T.mk k n v ys f).kind = 2 := hk
      simp only [hk', false_and, false_or, ne_eq, not_false_eq_true, true_and]
      exact Iff.rfl
theorem has_viss {H : Type} (k : Int) (v : W8) (ts : List T) (hw : WFs ts) (zs : List ByteArray) (D : DataW H) (hD : IsMap D) (x : W8) :
    hasK (viss k ⟨v.toArray⟩ zs ts D) x = true ↔ hasK D x = true ∨ (inArgs k v x ts ∧ (⟨x.toArray⟩ : ByteArray) ∉ zs) := by
  cases ts with
  | nil => rw [viss]; simp [inArgs]
  | cons t ts =>
    rw [WFs] at hw
    rw [viss, has_viss k v ts hw.2 zs _ (vis_map t _ D hD) x, has_vis t hw.1 _ D hD x, inArgs]
    have e : (⟨x.toArray⟩ : ByteArray) ∉ (if k = 5 ∧ ts.length = 0 then zs ++ [⟨v.toArray⟩] else zs) ↔ ((⟨x.toArray⟩ : ByteArray) ∉ zs ∧ ¬ (k = 5 ∧ ts.length = 0 ∧ x = v)) := by
      by_cases hl : k = 5 ∧ ts.length = 0
      · rw [if_pos hl]
        simp only [List.mem_append, List.mem_singleton, not_or]
        constructor
        · rintro ⟨h1, h2⟩
          exact ⟨h1, fun h => h2 (by rw [h.2.2])⟩
        · rintro ⟨h1, h2⟩
          exact ⟨h1, fun h => h2 ⟨hl.1, hl.2, mk_inj h⟩⟩
      · rw [if_neg hl]
        constructor
        · exact fun h => ⟨h, fun h' => hl ⟨h'.1, h'.2.1⟩⟩
        · exact fun h => h.1
    rw [e]
    constructor
    · rintro ((h | ⟨h1, h2, h3⟩) | ⟨h1, h2⟩)
      · exact .inl h
      · exact .inr ⟨.inl ⟨h1, h3⟩, h2⟩
      · exact .inr ⟨.inr h1, h2⟩
    · rintro (h | ⟨⟨h1, h3⟩ | h1, h2⟩)
      · exact .inl (.inl h)
      · exact .inl (.inr ⟨h1, h2, h3⟩)
      · exact .inr ⟨h1, h2⟩
end
theorem srtd_nodup {l : List W8} (h : Srtd l) : l.Nodup := by
  unfold Srtd at h
  refine List.Pairwise.imp (fun {a b} hab => ?_) h
  rintro rfl
  rw [ltL_irrefl] at hab; cases hab
/-- the keys of a map that the walk holds -/
theorem perm_of_has {H : Type} {R : Value → Option (DataW H × List MemPlace)} {w : World} {b n : Nat} {D : DataW H} (hown : w.ownsMap Tryz.prog 9 R b n D) {ss : List W8} (hnd : ss.Nodup) (hm : ∀ x, x ∈ ss ↔ hasK D x = true) : ss.Perm (strKeys D) := by
  obtain ⟨es, hD, hpw, _⟩ := hown.entries law9
  obtain ⟨es', hD', hko⟩ := hown.keysOf
  obtain rfl : es = es' := by rw [hD] at hD'; simpa using hD'
  subst hD
  exact perm_strKeys hpw (fun p hp => by obtain ⟨v, hv⟩ := hko p hp; obtain ⟨x, _, hx, _⟩ := Maps.keyOf_str Tryz.underlying9 hv; exact ⟨x, hx⟩) hnd hm
/-- a fresh slice of names -/
def encS (x : W8) : Value := .string ⟨x.toArray⟩
def RL (w : World) (B : Nat) (v : Value) (l : List W8) : Prop := w.ownsRow B 9 1 v l.length (l.map encS)
theorem RL.sl {w : World} {B : Nat} {v : Value} {l : List W8} (h : RL w B v l) : SL w w.heap.size v l := by
  rcases h.2 with ⟨rfl, hz⟩ | ⟨g, cap, cur, rfl, h1, h2, h3, h4, h5, h6⟩
  · have e : l = [] := List.eq_nil_of_length_eq_zero hz
    subst e
    exact ⟨none, 0, rfl, ⟨by simp, by omega⟩, fun hne => absurd rfl hne⟩
  · refine ⟨some ⟨g, 0, none⟩, cap, rfl, ⟨h3, by unfold maxLen at h4; omega⟩, fun _ => ⟨g, 0, rfl, (Array.getElem?_eq_some_iff.1 h2).1, fun j hj => ?_⟩⟩
    have e1 : (cur.toList.take (l.length * 1))[j]? = (l.map encS)[j]? := by rw [h6]
    rw [List.getElem?_take_of_lt (by omega)] at e1
    simp only [World.cell?, h2, Option.isSome_none, Bool.false_eq_true, if_false, Nat.zero_add]
    rw [← Array.getElem?_toList, e1]
    simp [hj, encS]
theorem RL.mono {w : World} {B B' : Nat} {v : Value} {l : List W8} (h : RL w B v l) (hb : B' ≤ B) : RL w B' v l := World.ownsRow.mono h hb
/-- sorted at the map of a set of words: the one list in their order -/
theorem sorted_list {H : Type} (b nn : Nat) (D0 : DataW H) (R : Value → Option (DataW H × List MemPlace)) (w : World) (l : List W8) (hown : w.ownsMap Tryz.prog 9 R b nn D0) (hl : Srtd l) (hw : Wds l) (hlen : l.length ≤ 100000) (hm : ∀ x, x ∈ l ↔ hasK D0 x = true) :
    Calls Tryz.prog 195 #[.map (some b)] w fun e w' => ∃ v, e = .returned v ∧ RL w' w.heap.size v l ∧ (v = .slice none 0 0 ↔ l = []) ∧ Below w.heap.size w w' := by
  have hp := perm_of_has hown (srtd_nodup hl) hm
  have hsz : Maps.size D0 ≤ 100000 := by
    obtain ⟨es, hD, _⟩ := hown.entries law9
    have := hp.length_eq
    subst hD
    show es.length ≤ 100000
    have e : (strKeys (.map es)).length = es.length := by show (es.map _).length = _; rw [List.length_map]
    omega
  refine (sorted_any b nn D0 R w hown (by unfold maxLen; omega) (by omega) (fun x hx => hw x (hp.mem_iff.2 hx))).mono ?_
  rintro e w' ⟨v, ws, rfl, hpw, hrow, hnil, hb⟩
  have hnd : (ws.map (·.1)).Nodup := (hpw.trans hp.symm).nodup_iff.2 (srtd_nodup hl)
  have hs := sortW_srtd ws hnd
  have e1 : (sortW ws).map (·.1) = l := srtd_ext hs.1 hl (fun x => by rw [hs.2 x, hpw.mem_iff, ← hp.mem_iff])
  have e2 : ws.length = l.length := by rw [← e1, List.length_map, sortW_len]
  have e3 : (sortW ws).map encW = l.map encS := by rw [← e1, List.map_map]; rfl
  refine ⟨v, rfl, ?_, ?_, hb⟩
  · unfold RL; rw [← e2, ← e3]; exact hrow
  · rw [hnil]
    constructor
    · rintro rfl; exact List.eq_nil_of_length_eq_zero e2.symm
    · rintro rfl; exact List.eq_nil_of_length_eq_zero e2
set_option maxRecDepth 100000 in
set_option maxHeartbeats 2000000 in
theorem free40_any (t : T) (b o : Nat) (w : World) (hr : TR w w.heap.size b o t) (hw : WF t) (hs : SA t) (hz : t.size ≤ 90000) :
    Calls Tryz.prog 159 #[.pointer (some ⟨b, o, none⟩)] w fun e w' => ∃ v, e = .returned v ∧ RL w' w.heap.size v (frL t) ∧ (v = .slice none 0 0 ↔ frL t = []) ∧ Below w.heap.size w w' := by
  have hb2 : Below w.heap.size w ((w.alloc (.map #[] 0)).alloc (.cells #[.map (some w.heap.size)] 219)) := ((Below.refl _ _).alloc (Nat.le_refl _) _).alloc (by simp) _
  have hvs : VS (H := Unit) ((w.alloc (.map #[] 0)).alloc (.cells #[.map (some w.heap.size)] 219)) w.heap.size (w.heap.size + 1) 0 (.map []) :=
    ⟨(World.ownsMap_made w Tryz.prog 9 _).alloc _, by simp, by omega, by simp⟩
  have HV := Lib.hid (visit_aux (H := Unit) w.heap.size (w.heap.size + 1) t.size t (Nat.le_refl _) b o 0 (.slice none 0 0) [] (.map []) _ (hr.below hb2) hs (.inl ⟨rfl, rfl⟩) hvs (by simp; omega) (by omega))
  have HB2 := Lib.hid hb2
  have HM : Hid (∀ x, x ∈ frL t ↔ hasK (vis (H := Unit) t [] (.map [])) x = true) := fun x => by
    rw [has_vis t hw [] _ isMap_empty x]
    simp [hasK, Maps.has]
  have HL := Lib.hid (frL_ok t hw)
  have HLN := Lib.hid (frL_len t)
  have HS2 : Hid (w.heap.size + 2 = ((w.alloc (.map #[] 0)).alloc (.cells #[.map (some w.heap.size)] 219)).heap.size) := by show _ = _; simp
  clear hr hw hs hb2 hvs
  have hmm := fun (w : World) => run_makeMap (P := Tryz.prog) 219 w
  go_enter Tryz.func159, Tryz.ntmps159
  go_wp2_with fail
  generalize (w.alloc (.map #[] 0)).alloc (.cells #[.map (some w.heap.size)] 219) = w2 at *
  refine HV.out.mono ?_
  rintro e w3 ⟨rfl, hv3, hg3⟩
  have c3 := hv3.cell
  have HB3 := Lib.hid (HB2.out.trans (below_grown (by have := HB2.out.size; omega) hg3))
  have HC := Lib.hid (sorted_list (H := Unit) w.heap.size _ _ _ w3 (frL t) hv3.own HL.out.1 (fun x hx => ident_word (HL.out.2 x hx)) (by have := HLN.out; omega) HM.out)
  have HSZ3 := Lib.hid HB3.out.size
  clear hv3 hg3 HV
  go_wp2_with fail
  refine HC.out.mono ?_
  rintro e w4 ⟨v, rfl, hrow, hnil, hb4⟩
  have HR := Lib.hid hrow
  have HN := Lib.hid hnil
  have HB4 := Lib.hid (HB3.out.trans (hb4.mono HSZ3.out))
  clear hrow hnil hb4 HC
  go_wp2_with fail
  go_ret
  exact ⟨v, rfl, HR.out.mono HSZ3.out, HN.out, HB4.out⟩
/-- Free: the free names of a valid term, else none -/
def freeL (t : T) : List W8 := if validB t = true then frL t else []
end Go.Proofs.YtknpigdpepmimaaGreatDoor
