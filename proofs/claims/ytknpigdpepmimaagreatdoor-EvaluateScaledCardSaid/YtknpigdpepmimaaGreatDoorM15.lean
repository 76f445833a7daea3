/- Contracts of the reference's Letters, printable, In, Keywords, Accents, Symbol at a word, Identifier. slices.SortedFunc 62 at an iterator of words; sorted 43 at a map of words. free$1 59: marks a free name. -/
import Derived.Test.YtknpigdpepmimaaGreatDoorM01
import Derived.Test.YtknpigdpepmimaaGreatDoorM14
import Derived.Shelf.SlIter.Collect
import Derived.RangeFuncBound
import Derived.Sort.OwnSorted
import Derived.Deep.Onto
import Derived.Test.YtknpigdpepmimaaGreatDoorM04
import Derived.Maps.Own
import Derived.Maps.Keyed
namespace Go.Proofs.YtknpigdpepmimaaGreatDoor
open Go.RowKit
theorem ltrN_isL (c : UInt8) : (isL c = true → 0 ≤ ltrN c.toNat) ∧ (isL c = false → ltrN c.toNat < 0) := by
  unfold isL ltrN
  by_cases h1 : 97 ≤ c.toNat ∧ c.toNat ≤ 122
  · rw [if_pos h1]; simp; omega
  · rw [if_neg h1]
    by_cases h2 : 65 ≤ c.toNat ∧ c.toNat ≤ 90
    · rw [if_pos h2]; simp; omega
    · rw [if_neg h2]; simp; omega
set_option maxHeartbeats 1000000 in
theorem letters50_any (s : ByteArray) (w : World) (hs : s.size ≤ 1000) :
    Calls Tryz.prog 64 #[.string s] w fun r w' => r = .returned (.bool (wordB s.data.toList)) ∧ w = w' := by
  go_enter Tryz.func64, Tryz.ntmps64
  go_wp2_with fail
  go_loop [3] (fun s3 => ∃ kk : Nat, kk ≤ s.size ∧ s3 = .int .i64 kk ∧ Aside (∀ (j : Nat) (hj : j < s.size), j < kk → isL s[j] = true)) (fun s3 => s.size - (intOf s3).toNat)
  case atStart => exact ⟨0, Nat.zero_le _, rfl, fun j _ hj => absurd hj (Nat.not_lt_zero _)⟩
  case round =>
    obtain ⟨kk, hkk, rfl, HA⟩ := hrel
    by_cases hlt : kk < s.size
    · have hltz : (kk : Int) < (s.size : Int) := by omega
      have HZ := Lib.hid (ltrN_isL s[kk])
      have HC := Lib.hid (letter70_nat s[kk].toNat)
      generalize ltrN s[kk].toNat = x at *
      cases hl : isL s[kk] with
      | false =>
        have HL := Lib.hid hl
        have HP : Hid (wordB s.data.toList = false) := by show wordB s.data.toList = false; unfold wordB; rw [all_no isL s kk hlt hl]; rfl
        have hx := HZ.out.2 hl
        clear hl
        go_wp2_with fail
        refine (HC.out _ s[kk].toNat_lt).mono ?_
        rintro e w' ⟨rfl, rfl⟩
        go_wp2_with fail
        go_ret
        rw [HP.out]
        exact ⟨rfl, rfl⟩
      | true =>
        have HL := Lib.hid hl
        have hx := HZ.out.1 hl
        have hxn : ¬ x < 0 := by omega
        clear hl
        go_wp2_with fail
        refine (HC.out _ s[kk].toNat_lt).mono ?_
        rintro e w' ⟨rfl, rfl⟩
        go_wp2_with fail
        go_round
        case rel =>
          refine ⟨kk + 1, by omega, by go_num, (show Aside _ from fun j hj hjk => ?_)⟩
          by_cases ee : j = kk
          · subst ee; exact HL.out
          · exact HA.out j hj (by omega)
        case measure => simp [intOf]; omega
    · have hltz : ¬ (kk : Int) < (s.size : Int) := by omega
      obtain rfl : kk = s.size := by omega
      have HP : Hid (wordB s.data.toList = (decide (1 ≤ s.size) && decide (s.size ≤ 16))) := by
        show wordB s.data.toList = _
        unfold wordB
        rw [all_yes isL s (fun j hj => HA.out j hj hj), len_list, Bool.true_and]
      clear hlt HA
      by_cases h1 : 1 ≤ s.size
      · have h1z : (1 : Int) ≤ (s.size : Int) := by omega
        by_cases h2 : s.size ≤ 16
        · have h2z : (s.size : Int) ≤ 16 := by omega
          have HX : Hid (wordB s.data.toList = true) := by show wordB s.data.toList = true; rw [HP.out, decide_eq_true h1, decide_eq_true h2]; rfl
          clear HP
          go_wp2_with fail
          go_ret
          rw [HX.out]
          exact ⟨rfl, rfl⟩
        · have h2z : ¬ (s.size : Int) ≤ 16 := by omega
          have HX : Hid (wordB s.data.toList = false) := by show wordB s.data.toList = false; rw [HP.out, decide_eq_false h2, Bool.and_false]
          clear HP
          go_wp2_with fail
          go_ret
          rw [HX.out]
          exact ⟨rfl, rfl⟩
      · have h1z : ¬ (1 : Int) ≤ (s.size : Int) := by omega
        have HX : Hid (wordB s.data.toList = false) := by show wordB s.data.toList = false; rw [HP.out, decide_eq_false h1]; rfl
        clear HP
        go_wp2_with fail
        go_ret
        rw [HX.out]
        exact ⟨rfl, rfl⟩
set_option maxHeartbeats 1000000 in
theorem printable_any (s : ByteArray) (lo most : Nat) (w : World) (hs : s.size ≤ 1000) :
    Calls Tryz.prog 109 #[.string s, .int .u8 lo, .int .i64 most] w fun r w' => r = .returned (.bool (okS lo s.data.toList && decide (s.size ≤ most))) ∧ w = w' := by
  go_enter Tryz.func109, Tryz.ntmps109
  go_wp2_with fail
  go_loop [7] (fun s3 => ∃ kk : Nat, kk ≤ s.size ∧ s3 = .int .i64 kk ∧ Aside (∀ (j : Nat) (hj : j < s.size), j < kk → lo ≤ s[j].toNat ∧ s[j].toNat ≤ 126)) (fun s3 => s.size - (intOf s3).toNat)
  case atStart => exact ⟨0, Nat.zero_le _, rfl, fun j _ hj => absurd hj (Nat.not_lt_zero _)⟩
  case round =>
    obtain ⟨kk, hkk, rfl, HA⟩ := hrel
    by_cases hlt : kk < s.size
    · have hltz : (kk : Int) < (s.size : Int) := by omega
      by_cases h1 : s[kk].toNat < lo
      · have h1' : (s[kk].toNat : Int) < (lo : Int) := by omega
        have HP : Hid (okS lo s.data.toList = false) := all_no _ s kk hlt (by simp; omega)
        go_wp2_with fail
        go_ret
        rw [HP.out]
        exact ⟨rfl, rfl⟩
      · have h1' : ¬ (s[kk].toNat : Int) < (lo : Int) := by omega
        by_cases h2 : 126 < s[kk].toNat
        · have h2' : (126 : Int) < (s[kk].toNat : Int) := by omega
          have HP : Hid (okS lo s.data.toList = false) := all_no _ s kk hlt (by simp; omega)
          go_wp2_with fail
          go_ret
          rw [HP.out]
          exact ⟨rfl, rfl⟩
        · have h2' : ¬ (126 : Int) < (s[kk].toNat : Int) := by omega
          have hok : Hid (lo ≤ s[kk].toNat ∧ s[kk].toNat ≤ 126) := ⟨by omega, by omega⟩
          go_wp2_with fail
          go_round
          case rel =>
            refine ⟨kk + 1, by omega, by go_num, (show Aside _ from fun j hj hjk => ?_)⟩
            by_cases ee : j = kk
            · subst ee; exact hok.out
            · exact HA.out j hj (by omega)
          case measure => simp [intOf]; omega
    · have hltz : ¬ (kk : Int) < (s.size : Int) := by omega
      obtain rfl : kk = s.size := by omega
      have HP : Hid (okS lo s.data.toList = true) := all_yes _ s (fun j hj => by have := HA.out j hj hj; simp; exact this)
      clear hlt HA
      have hdec : decide (s.size ≤ most) = decide ((s.size : Int) ≤ (most : Int)) := by rw [decide_eq_decide]; omega
      have HDEC := Lib.hid hdec
      clear hdec
      go_wp2_with fail
      go_ret
      rw [HP.out, HDEC.out]
      exact ⟨by rw [Bool.true_and]; rfl, rfl⟩
/-- a list has a string -/
def hasB (l : List (List UInt8)) (s : List UInt8) : Bool := l.contains s
/-- a search of a list of strings, by a loop -/
theorem contains_no (l : List (List UInt8)) (s : List UInt8) (h : ∀ j (hj : j < l.length), l[j] ≠ s) : hasB l s = false := by
  show l.contains s = false
  cases hc : l.contains s with
  | false => rfl
  | true =>
    have hm : s ∈ l := by simpa using hc
    obtain ⟨j, hj, e⟩ := List.mem_iff_getElem.1 hm
    exact absurd e (h j hj)
theorem contains_yes (l : List (List UInt8)) (s : List UInt8) (j : Nat) (hj : j < l.length) (h : l[j] = s) : hasB l s = true := by
  have : s ∈ l := h ▸ List.getElem_mem hj
  show l.contains s = true
  simpa using this
set_option maxHeartbeats 1000000 in
theorem in73_any (B : Nat) (v : Value) (l : List (List UInt8)) (s : List UInt8) (w : World) (hv : SL w B v l) :
    Calls Tryz.prog 113 #[v, .string ⟨s.toArray⟩] w fun r w' => r = .returned (.bool (hasB l s)) ∧ w = w' := by
  obtain ⟨A, c, rfl, ⟨hc1, hc2⟩, hcell⟩ := hv
  have HCELL := Lib.hid hcell
  clear hcell
  have hyl : l.length ≤ 9223372036854775807 := by omega
  go_enter Tryz.func113, Tryz.ntmps113
  go_wp2_with fail
  go_loop [5] (fun s3 => ∃ kk : Nat, kk ≤ l.length ∧ s3 = .int .i64 kk ∧ Aside (∀ (j : Nat) (hj : j < l.length), j < kk → l[j] ≠ s)) (fun s3 => l.length - (intOf s3).toNat)
  case atStart => exact ⟨0, Nat.zero_le _, rfl, fun j _ hj => absurd hj (Nat.not_lt_zero _)⟩
  case round =>
    obtain ⟨kk, hkk, rfl, HA⟩ := hrel
    by_cases hlt : kk < l.length
    · have hltz : (kk : Int) < (l.length : Int) := by omega
      obtain ⟨b, o, rfl, hb, hx⟩ := HCELL.out (by intro e; rw [e] at hlt; simp at hlt)
      have hck := hx kk hlt
      clear hx
      by_cases he : l[kk] = s
      · have HP : Hid (hasB l s = true) := contains_yes l s kk hlt he
        rw [he] at hck
        clear he
        go_wp2_with fail
        go_ret
        rw [HP.out]
        exact ⟨rfl, rfl⟩
      · have hb1 : (l[kk] == s) = false := by simpa using he
        have HE := Lib.hid he
        clear he
        go_wp2_with fail
        go_round
        case rel =>
          refine ⟨kk + 1, by omega, by go_num, (show Aside _ from fun j hj hjk => ?_)⟩
          by_cases ee : j = kk
          · subst ee; exact HE.out
          · exact HA.out j hj (by omega)
        case measure => simp [intOf]; omega
    · have hltz : ¬ (kk : Int) < (l.length : Int) := by omega
      have HP : Hid (hasB l s = false) := contains_no l s (fun j hj => HA.out j hj (by omega))
      go_wp2_with fail
      go_ret
      rw [HP.out]
      exact ⟨rfl, rfl⟩
set_option maxHeartbeats 1000000 in
theorem kw74_any (w : World) : Calls Tryz.prog 114 #[] w fun e w' => ∃ v, e = .returned v ∧ SL w' (w.heap.size + 1) v kwds ∧ Below w.heap.size w w' := by
  go_enter Tryz.func114, Tryz.ntmps114
  go_wp2_with fail
  go_ret
  refine ⟨_, rfl, ⟨some ⟨w.heap.size, 0, none⟩, 4, rfl, ⟨by decide, by decide⟩, fun _ => ⟨w.heap.size, 0, rfl, by omega, fun j hj => ?_⟩⟩, (Below.refl _ _).alloc (Nat.le_refl _) _⟩
  have hj4 : j < 4 := hj
  rcases j with _ | _ | _ | _ | j <;> first | (simp [kwds]; done) | omega
set_option maxHeartbeats 1000000 in
theorem ac75_any (w : World) : Calls Tryz.prog 115 #[] w fun e w' => ∃ v, e = .returned v ∧ SL w' (w.heap.size + 1) v accs ∧ Below w.heap.size w w' := by
  go_enter Tryz.func115, Tryz.ntmps115
  go_wp2_with fail
  go_ret
  refine ⟨_, rfl, ⟨some ⟨w.heap.size, 0, none⟩, 6, rfl, ⟨by decide, by decide⟩, fun _ => ⟨w.heap.size, 0, rfl, by omega, fun j hj => ?_⟩⟩, (Below.refl _ _).alloc (Nat.le_refl _) _⟩
  have hj4 : j < 6 := hj
  rcases j with _ | _ | _ | _ | _ | _ | j <;> first | (simp [accs]; done) | omega
end Go.Proofs.YtknpigdpepmimaaGreatDoor

namespace Go.Proofs.YtknpigdpepmimaaGreatDoor
open Go.RowKit Go.Maps Go.Sort Go.Shelf
theorem words_of : ∀ ss : List (List UInt8), (∀ l ∈ ss, wordB l = true) → ∃ ws : List Wd, ss = ws.map (·.1)
  | [], _ => ⟨[], rfl⟩
  | a :: l, h => by
    obtain ⟨ws, hw⟩ := words_of l (fun x hx => h x (List.mem_cons_of_mem _ hx))
    exact ⟨⟨a, h a List.mem_cons_self⟩ :: ws, by subst hw; rfl⟩
theorem putRow_W (w : World) (b o : Nat) (l : List Wd) : putRow encW w b o l.toArray = putRow encStr w b o (l.map (·.1)).toArray := by
  unfold putRow
  congr 1
  funext c
  unfold putCells
  congr 1
  funext k x
  by_cases h : o ≤ k ∧ k < o + l.length
  · rw [if_pos (by simpa using h), if_pos (by simpa using h)]
    have hk : k - o < l.length := by omega
    rw [getElem!_pos _ _ (by simpa using hk), getElem!_pos _ _ (by simpa using hk)]
    simp [encW]
  · rw [if_neg (by simpa using h), if_neg (by simpa using h)]
theorem sortWorld_W (w : World) (b o n : Nat) (l : List Wd) (os : Array Obj) : sortWorld encW w b o n l.toArray os = grow (putRow encStr (Sort.ahead w n) b o (l.map (·.1)).toArray) os := by
  unfold sortWorld; rw [putRow_W]
theorem holds_W {w : World} {b o : Nat} {l : List Wd} (h : Holds encStr w b o (l.map (·.1)).toArray) : Holds encW w b o l.toArray := by
  intro j hj
  have hj' : j < l.length := by simpa using hj
  have := h j (by simpa using hj)
  rw [getElem!_pos _ _ (by simpa using hj)] at this
  rw [getElem!_pos _ _ (by simpa using hj)]
  simpa [encW] using this
theorem sortW_len (l : List Wd) : (sortW l).length = l.length := by unfold sortW; exact List.length_mergeSort l
set_option maxRecDepth 100000 in
set_option maxHeartbeats 2000000 in
theorem sortedFunc_any (S : List (List UInt8) → Prop) (N : Nat) (hN : N ≤ maxLen) (hNb : N * 16 ≤ 140737488355328) (hW : ∀ ss, S ss → ∀ l ∈ ss, wordB l = true) (lb : Array Value) (w : World) (hseq : SeqGives Fence.wide 1 Tryz.prog 234 lb encStr S N w) :
    Calls Tryz.prog 215 #[.func (.func 234) #[] lb, .func (.func 217) #[] #[]] w fun e w' => ∃ (v : Value) (ws : List Wd), e = .returned v ∧ S (ws.map (·.1)) ∧
      w'.ownsRow w.heap.size 9 1 v ws.length ((sortW ws).map encW) ∧ (v = .slice none 0 0 ↔ ws = []) ∧ Below w.heap.size w w' := by
  have eg : ∀ args w, (callFunc 234 args).run Tryz.prog w = .ok (.enter 234 args) w := enters_of Tryz.func234 (by kernel_rfl) rfl
  have hcol := Lib.hid (callsIn_wide.1 (AnyZ.collect_in Tryz.collect85 Fence.wide 3 trivial trivial rfl (by omega) 234 lb trivial eg _ N hN hNb w hseq.bounded))
  clear hseq
  go_enter Tryz.func215, Tryz.ntmps215
  go_wp2_with (go_at_call 232; refine hcol.out.mono ?_; rintro e W ⟨v, ss, rfl, ⟨hS, hlen⟩, hrow, hnil, hb⟩)
  rw [show Tryz.collect85_ren.t 26 = 9 from rfl] at hrow
  obtain ⟨ws, rfl⟩ := words_of ss (hW ss hS)
  have HS := Lib.hid hS
  have HN := Lib.hid hnil
  have HB := Lib.hid hb
  clear hS hnil hb hcol
  rcases hrow.2 with ⟨rfl, hz⟩ | ⟨gb, cap, cur, rfl, hbase, hgb, r1, r2, r3, r4⟩
  · have hss : ws = [] := List.eq_nil_of_length_eq_zero (by simpa using hz)
    subst hss
    have HR := Lib.hid hrow
    clear hrow hz
    go_wp2_with (go_at_call 233; refine (sortFunc_none none 0 _ W).mono ?_; rintro e w' ⟨rfl, rfl⟩)
    go_ret
    exact ⟨.slice none 0 0, [], rfl, HS.out, by simpa [sortW] using HR.out, by simp, HB.out⟩
  · have hH : Hid (Holds encW W gb 0 ws.toArray) := holds_W (holds_of_block hgb (by simpa using r4))
    have hgl : gb < W.heap.size := (Array.getElem?_eq_some_iff.1 hgb).1
    have hsz : ws.toArray.size < 4611686018427387904 := by simp at hlen ⊢; omega
    have hll : (List.map (fun x : Wd => x.1) ws).length = ws.toArray.size := by simp
    have cS := Lib.hid (sortFunc_any gb 0 cap ws.toArray W hH.out hgl hsz)
    have HO : ∀ n os, (sortWorld encW W gb 0 n (sortW ws).toArray os).ownsRow w.heap.size 9 1 (.slice (some ⟨gb, 0, none⟩) ws.length cap) ws.length ((sortW ws).map encW) ∧ Below w.heap.size w (sortWorld encW W gb 0 n (sortW ws).toArray os) := fun n os => by
      rw [sortWorld_W]
      have h1 := ownsRow_sorted (n := n) (os := os) (ss := ws.map (·.1)) (ts := (sortW ws).map (·.1)) (by simp [sortW_len]) hbase hgb r1 r2 r3
      refine ⟨?_, HB.out.grown (grownBy_sorted _) HB.out.size (fun j hj => by cases hj; exact hbase)⟩
      have h2 : ((sortW ws).map (·.1)).map encStr = (sortW ws).map encW := by rw [List.map_map]; rfl
      rw [h2] at h1
      simpa using h1
    have HOH := Lib.hid HO
    rw [hll] at HN ⊢
    clear HO hrow r1 r2 r3 r4 hgb hbase hlen hll
    go_wp2_with (go_at_call 233; refine cS.out.mono ?_; rintro e w' ⟨rfl, nn, os, rfl⟩)
    go_ret
    refine ⟨_, ws, rfl, HS.out, (HOH.out nn os).1, ?_, (HOH.out nn os).2⟩
    refine Iff.intro (fun hx => nomatch hx) (fun hx => ?_)
    have hy := HN.out.2 (by rw [hx]; rfl)
    exact nomatch hy
set_option maxRecDepth 100000 in
set_option maxHeartbeats 2000000 in
/-- sorted at a map of words: a new slice that holds its keys in their order. -/
theorem sorted_any {H : Type} (b nn : Nat) (D0 : DataW H) (R : Value → Option (DataW H × List MemPlace)) (w : World) (hown : w.ownsMap Tryz.prog 9 R b nn D0) (hmax : Maps.size D0 ≤ maxLen) (hbytes : Maps.size D0 * 16 ≤ 140737488355328)
    (hW : ∀ l ∈ strKeys D0, wordB l = true) :
    Calls Tryz.prog 195 #[.map (some b)] w fun e w' => ∃ (v : Value) (ws : List Wd), e = .returned v ∧ (ws.map (·.1)).Perm (strKeys D0) ∧
      w'.ownsRow w.heap.size 9 1 v ws.length ((sortW ws).map encW) ∧ (v = .slice none 0 0 ↔ ws = []) ∧ Below w.heap.size w w' := by
  have hbl := hown.lt
  have hseq : SeqGives Fence.wide 1 Tryz.prog 234 #[.pointer (some ⟨w.heap.size, 0, none⟩)] encStr (fun ss => ss.Perm (strKeys D0)) (Maps.size D0) (w.alloc (.cells #[.map (some b)] 219)) :=
    AnyZ.keys_gives (ρ := Tryz.keys63_ren) { Tryz.keys63 with } Fence.wide _ trivial rfl (by omega) w.heap.size b nn D0 _ (by simp) (by simp) (by
      obtain ⟨es, clock, hb, Ft, hs, hD⟩ := hown
      exact ⟨es, clock, (Below.heap_alloc _ _ b hbl).trans hb, Ft, hs, hD⟩)
  have hk := Lib.hid (callsIn_wide.1 (AnyZ.keys_in Tryz.keys63 Fence.wide 5 trivial rfl (some b) w))
  have hs := Lib.hid (sortedFunc_any _ _ hmax hbytes (fun ss h l hl => hW l (h.mem_iff.1 hl)) _ _ hseq)
  have hba : Hid (Below w.heap.size w (w.alloc (.cells #[.map (some b)] 219))) := (Below.refl _ w).alloc (Nat.le_refl _) _
  have hsz : Hid (w.heap.size ≤ (w.alloc (.cells #[.map (some b)] 219)).heap.size) := by simp [Hid]
  generalize hgen : w.alloc (.cells #[.map (some b)] 219) = wa at *
  clear hseq hown
  go_enter Tryz.func195, Tryz.ntmps195
  go_wp2_with (first
    | (go_at_call 216; refine hk.out.mono ?_; rintro e w' ⟨rfl, rfl⟩; rw [show w.alloc (.cells #[.map (some b)] (Tryz.keys63_ren.t 23)) = wa from hgen])
    | (go_at_call 215; refine hs.out.mono ?_; rintro e w' ⟨v, ws, rfl, hS, hrow, hnil, hb⟩))
  go_ret
  exact ⟨v, ws, rfl, hS, hrow.mono hsz.out, hnil, hba.out.trans (hb.mono hsz.out)⟩
end Go.Proofs.YtknpigdpepmimaaGreatDoor

namespace Go.Proofs.YtknpigdpepmimaaGreatDoor
open Go.RowKit Go.Maps Go.Sort Go.Shelf
theorem key_nm (nm : ByteArray) (h : nm.size ≤ 1000) : keyOf Tryz.prog 9 (.string nm) = some (.string nm.data.toList) :=
  Go.WideMaps.keyOf_string_mk (P := Tryz.prog) (k := 9) Tryz.underlying9 (by unfold maxLen; omega)
theorem law9 : Keyed Tryz.prog 9 := string_keyed Tryz.underlying9
/-- a slice of bound names -/
def BR (w : World) (v : Value) (zs : List ByteArray) : Prop :=
  ∃ p c, v = .slice p zs.length c ∧ zs.length ≤ 1000000 ∧ (zs = [] ∨ ∃ b off, p = some ⟨b, off, none⟩ ∧ ∀ j, j < zs.length → w.cell? ⟨b, off + j, none⟩ = some (.string (zs.getD j ByteArray.empty)))
theorem contains_any (v : Value) (zs : List ByteArray) (x : ByteArray) (w : World) (h : BR w v zs) :
    Calls Tryz.prog 194 #[v, .string x] w fun e w' => e = .returned (.bool (Lib.containsS zs x)) ∧ w' = w := by
  obtain ⟨p, c, rfl, hl, h⟩ := h
  rcases h with rfl | ⟨b, off, rfl, hc⟩
  · exact Tryz.slices_Contains_string_empty p c x w
  · have := Tryz.slices_Contains_string b off zs.length c zs x w (Nat.le_refl _) (by omega) hc
    rwa [List.take_length] at this
def mark {H : Type} (D : DataW H) (zs : List ByteArray) (nm : ByteArray) : DataW H :=
  if Lib.containsS zs nm = true then D else D.put (.string nm.data.toList) (.lit (.bool true))
set_option maxRecDepth 100000 in
set_option maxHeartbeats 2000000 in
theorem free1_any {H : Type} (nm : ByteArray) (hnm : nm.size ≤ 1000) (v : Value) (zs : List ByteArray) (w : World) (hv : BR w v zs) (cb mb n : Nat) (D : DataW H)
    (hcell : w.cell? ⟨cb, 0, none⟩ = some (.map (some mb))) (hown : w.ownsMap Tryz.prog 9 (plainElem Tryz.prog 4) mb n D) (hn : n < maxLen) :
    Calls Tryz.prog 193 #[.string nm, v, .pointer (some ⟨cb, 0, none⟩)] w fun e w' => e = .returned (.tuple #[]) ∧ w'.ownsMap Tryz.prog 9 (plainElem Tryz.prog 4) mb (n + 1) (mark D zs nm) ∧ w.grownBy w' (some mb) := by
  have HO := Lib.hid hown
  have HC := Lib.hid (contains_any v zs nm w hv)
  have HK := Lib.hid (key_nm nm hnm)
  have HP : Hid (plainElem (H := H) Tryz.prog 4 (.bool true) = some (.lit (.bool true), [])) := by show plainElem Tryz.prog 4 (.bool true) = _; simp [plainElem, Tryz.underlying4]
  clear hown hv
  by_cases h : Lib.containsS zs nm = true
  · have HM : Hid (mark D zs nm = D) := if_pos h
    rw [h] at HC
    clear h
    go_enter Tryz.func193, Tryz.ntmps193
    go_wp2_with (go_at_call 194; refine HC.out.mono ?_; rintro e w' ⟨rfl, rfl⟩)
    go_end0
    rw [HM.out]
    exact ⟨rfl, HO.out.mono (by omega), World.grownBy.refl _ _⟩
  · have HM : Hid (mark D zs nm = D.put (.string nm.data.toList) (.lit (.bool true))) := if_neg h
    rw [Bool.not_eq_true] at h
    rw [h] at HC
    clear h
    go_enter Tryz.func193, Tryz.ntmps193
    go_wp2_with (first
      | (at_mapUpdate; refine wpList_mapUpdate_own _ rfl _ _ _ 219 rfl 9 4 law9 Tryz.underlying219 _ mb n D rfl HO.out hn _ _ (.string nm.data.toList) rfl rfl HK.out (.lit (.bool true)) [] HP.out ?_; intro w9 hown hgrow)
      | (go_at_call 194; refine HC.out.mono ?_; rintro e w' ⟨rfl, rfl⟩))
    have HO9 := Lib.hid hown
    have HG9 := Lib.hid hgrow
    clear hown hgrow
    go_wp2_with fail
    go_end0
    rw [HM.out]
    exact ⟨rfl, HO9.out, HG9.out⟩
end Go.Proofs.YtknpigdpepmimaaGreatDoor
