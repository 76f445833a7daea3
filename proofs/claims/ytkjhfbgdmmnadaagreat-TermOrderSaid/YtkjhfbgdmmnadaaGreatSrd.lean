/- slices.SortedFunc 62 at an iterator of words; sorted 43 at a map of words. -/
import Derived.Test.YtkjhfbgdmmnadaaGreatSrt
import Derived.Shelf.SlIter.Collect
import Derived.RangeFuncBound
import Derived.Sort.OwnSorted
import Derived.Deep.Onto
namespace Go.Proofs.YtkjhfbgdmmnadaaGreat
open Go.RowKit Go.Maps Go.Sort Go.Shelf

theorem words_of : ∀ ss : List (List UInt8), (∀ l ∈ ss, wordB l = true) → ∃ ws : List Wd, ss = ws.map (·.1)
  | [], _ => ⟨[], rfl⟩
  | a :: l, h => by
    obtain ⟨ws, hw⟩ := words_of l (fun x hx => h x (List.mem_cons_of_mem _ hx))
    exact ⟨⟨a, h a List.mem_cons_self⟩ :: ws, by subst hw; rfl⟩
theorem putRow_W (w : World) (b o : Nat) (l : List Wd) : putRow encW w b o l.toArray = putRow encStr w b o (l.map (·.1)).toArray := by
  unfold putRow
  congr 1
  funext c
  unfold putCells
  congr 1
  funext k x
  by_cases h : o ≤ k ∧ k < o + l.length
  · rw [if_pos (by simpa using h), if_pos (by simpa using h)]
    have hk : k - o < l.length := by omega
    rw [getElem!_pos _ _ (by simpa using hk), getElem!_pos _ _ (by simpa using hk)]
    simp [encW]
  · rw [if_neg (by simpa using h), if_neg (by simpa using h)]
theorem sortWorld_W (w : World) (b o n : Nat) (l : List Wd) (os : Array Obj) : sortWorld encW w b o n l.toArray os = grow (putRow encStr (Sort.ahead w n) b o (l.map (·.1)).toArray) os := by
  unfold sortWorld; rw [putRow_W]
theorem holds_W {w : World} {b o : Nat} {l : List Wd} (h : Holds encStr w b o (l.map (·.1)).toArray) : Holds encW w b o l.toArray := by
  intro j hj
  have hj' : j < l.length := by simpa using hj
  have := h j (by simpa using hj)
  rw [getElem!_pos _ _ (by simpa using hj)] at this
  rw [getElem!_pos _ _ (by simpa using hj)]
  simpa [encW] using this
theorem sortW_len (l : List Wd) : (sortW l).length = l.length := by unfold sortW; exact List.length_mergeSort l

set_option maxRecDepth 100000 in
set_option maxHeartbeats 2000000 in
theorem sortedFunc_any (S : List (List UInt8) → Prop) (N : Nat) (hN : N ≤ maxLen) (hNb : N * 16 ≤ 140737488355328) (hW : ∀ ss, S ss → ∀ l ∈ ss, wordB l = true) (lb : Array Value) (w : World) (hseq : SeqGives Fence.wide 1 Tryz.prog 73 lb encStr S N w) :
    Calls Tryz.prog 57 #[.func (.func 73) #[] lb, .func (.func 59) #[] #[]] w fun e w' => ∃ (v : Value) (ws : List Wd), e = .returned v ∧ S (ws.map (·.1)) ∧
      w'.ownsRow w.heap.size 9 1 v ws.length ((sortW ws).map encW) ∧ (v = .slice none 0 0 ↔ ws = []) ∧ Below w.heap.size w w' := by
  have eg : ∀ args w, (callFunc 73 args).run Tryz.prog w = .ok (.enter 73 args) w := enters_of Tryz.func73 (by kernel_rfl) rfl
  have hcol := Lib.hid (callsIn_wide.1 (AnyZ.collect_in Tryz.collect85 Fence.wide 3 trivial trivial rfl (by omega) 73 lb trivial eg _ N hN hNb w hseq.bounded))
  clear hseq
  go_enter Tryz.func57, Tryz.ntmps57
  go_wp2_with (go_at_call 71; refine hcol.out.mono ?_; rintro e W ⟨v, ss, rfl, ⟨hS, hlen⟩, hrow, hnil, hb⟩)
  rw [show Tryz.collect85_ren.t 26 = 9 from rfl] at hrow
  obtain ⟨ws, rfl⟩ := words_of ss (hW ss hS)
  have HS := Lib.hid hS
  have HN := Lib.hid hnil
  have HB := Lib.hid hb
  clear hS hnil hb hcol
  rcases hrow.2 with ⟨rfl, hz⟩ | ⟨gb, cap, cur, rfl, hbase, hgb, r1, r2, r3, r4⟩
  · have hss : ws = [] := List.eq_nil_of_length_eq_zero (by simpa using hz)
    subst hss
    have HR := Lib.hid hrow
    clear hrow hz
    go_wp2_with (go_at_call 72; refine (sortFunc_none none 0 _ W).mono ?_; rintro e w' ⟨rfl, rfl⟩)
    go_ret
    exact ⟨.slice none 0 0, [], rfl, HS.out, by simpa [sortW] using HR.out, by simp, HB.out⟩
  · have hH : Hid (Holds encW W gb 0 ws.toArray) := holds_W (holds_of_block hgb (by simpa using r4))
    have hgl : gb < W.heap.size := (Array.getElem?_eq_some_iff.1 hgb).1
    have hsz : ws.toArray.size < 4611686018427387904 := by simp at hlen ⊢; omega
    have hll : (List.map (fun x : Wd => x.1) ws).length = ws.toArray.size := by simp
    have cS := Lib.hid (sortFunc_any gb 0 cap ws.toArray W hH.out hgl hsz)
    have HO : ∀ n os, (sortWorld encW W gb 0 n (sortW ws).toArray os).ownsRow w.heap.size 9 1 (.slice (some ⟨gb, 0, none⟩) ws.length cap) ws.length ((sortW ws).map encW) ∧ Below w.heap.size w (sortWorld encW W gb 0 n (sortW ws).toArray os) := fun n os => by
      rw [sortWorld_W]
      have h1 := ownsRow_sorted (n := n) (os := os) (ss := ws.map (·.1)) (ts := (sortW ws).map (·.1)) (by simp [sortW_len]) hbase hgb r1 r2 r3
      refine ⟨?_, HB.out.grown (grownBy_sorted _) HB.out.size (fun j hj => by cases hj; exact hbase)⟩
      have h2 : ((sortW ws).map (·.1)).map encStr = (sortW ws).map encW := by rw [List.map_map]; rfl
      rw [h2] at h1
      simpa using h1
    have HOH := Lib.hid HO
    rw [hll] at HN ⊢
    clear HO hrow r1 r2 r3 r4 hgb hbase hlen hll
    go_wp2_with (go_at_call 72; refine cS.out.mono ?_; rintro e w' ⟨rfl, nn, os, rfl⟩)
    go_ret
    refine ⟨_, ws, rfl, HS.out, (HOH.out nn os).1, ?_, (HOH.out nn os).2⟩
    refine Iff.intro (fun hx => nomatch hx) (fun hx => ?_)
    have hy := HN.out.2 (by rw [hx]; rfl)
    exact nomatch hy

set_option maxRecDepth 100000 in
set_option maxHeartbeats 2000000 in
/-- sorted at a map of words: a new slice that holds its keys in their order. -/
theorem sorted_any {H : Type} (b nn : Nat) (D0 : DataW H) (R : Value → Option (DataW H × List MemPlace)) (w : World) (hown : w.ownsMap Tryz.prog 9 R b nn D0) (hmax : Maps.size D0 ≤ maxLen) (hbytes : Maps.size D0 * 16 ≤ 140737488355328)
    (hW : ∀ l ∈ strKeys D0, wordB l = true) :
    Calls Tryz.prog 41 #[.map (some b)] w fun e w' => ∃ (v : Value) (ws : List Wd), e = .returned v ∧ (ws.map (·.1)).Perm (strKeys D0) ∧
      w'.ownsRow w.heap.size 9 1 v ws.length ((sortW ws).map encW) ∧ (v = .slice none 0 0 ↔ ws = []) ∧ Below w.heap.size w w' := by
  have hbl := hown.lt
  have hseq : SeqGives Fence.wide 1 Tryz.prog 73 #[.pointer (some ⟨w.heap.size, 0, none⟩)] encStr (fun ss => ss.Perm (strKeys D0)) (Maps.size D0) (w.alloc (.cells #[.map (some b)] 60)) :=
    AnyZ.keys_gives (ρ := Tryz.keys63_ren) { Tryz.keys63 with } Fence.wide _ trivial rfl (by omega) w.heap.size b nn D0 _ (by simp) (by simp) (by
      obtain ⟨es, clock, hb, Ft, hs, hD⟩ := hown
      exact ⟨es, clock, (Below.heap_alloc _ _ b hbl).trans hb, Ft, hs, hD⟩)
  have hk := Lib.hid (callsIn_wide.1 (AnyZ.keys_in Tryz.keys63 Fence.wide 5 trivial rfl (some b) w))
  have hs := Lib.hid (sortedFunc_any _ _ hmax hbytes (fun ss h l hl => hW l (h.mem_iff.1 hl)) _ _ hseq)
  have hba : Hid (Below w.heap.size w (w.alloc (.cells #[.map (some b)] 60))) := (Below.refl _ w).alloc (Nat.le_refl _) _
  have hsz : Hid (w.heap.size ≤ (w.alloc (.cells #[.map (some b)] 60)).heap.size) := by simp [Hid]
  generalize hgen : w.alloc (.cells #[.map (some b)] 60) = wa at *
  clear hseq hown
  go_enter Tryz.func41, Tryz.ntmps41
  go_wp2_with (first
    | (go_at_call 58; refine hk.out.mono ?_; rintro e w' ⟨rfl, rfl⟩; rw [show w.alloc (.cells #[.map (some b)] (Tryz.keys63_ren.t 23)) = wa from hgen])
    | (go_at_call 57; refine hs.out.mono ?_; rintro e w' ⟨v, ws, rfl, hS, hrow, hnil, hb⟩))
  go_ret
  exact ⟨v, ws, rfl, hS, hrow.mono hsz.out, hnil, hba.out.trans (hb.mono hsz.out)⟩
end Go.Proofs.YtkjhfbgdmmnadaaGreat
