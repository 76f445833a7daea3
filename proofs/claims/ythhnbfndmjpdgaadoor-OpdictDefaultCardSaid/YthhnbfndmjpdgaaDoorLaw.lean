/- Contracts of the reference's Find and Same and of awake (as in the seat of layer 8), and the walk of OpdictDefault. -/
import Derived.Test.YthhnbfndmjpdgaaDoorRefDef
import Derived.Deep.QuietTactic
import Derived.BigQuiet
import Derived.RegionTactic
namespace Go.Proofs.YthhnbfndmjpdgaaDoor.Od
open Go.RowKit
set_option maxHeartbeats 400000 in
theorem refFind_any (A : Option Addr) (l : List Ent) (c : Nat) (x : ByteArray) (w : World) (hl : ER w w.heap.size A l) (hn : l.length ≤ 250) :
    Calls Tryd.prog 9 #[.slice A l.length c, .string x] w fun e w' => e = .returned (find l x).val ∧ Below w.heap.size w w' := by
  have hlH := Lib.hid hl
  clear hl
  go_enter Tryd.func9, Tryd.ntmps9
  go_wp2
  go_loop [5] (fun s5 => ∃ kk : Nat, kk ≤ l.length ∧ s5 = .int .i64 kk ∧ Aside (∀ j e, j < kk → l[j]? = some e → eqT e.text x = false)) (fun s5 => l.length - (intOf s5).toNat)
  case atStart => exact ⟨0, Nat.zero_le _, rfl, fun j e hj => absurd hj (Nat.not_lt_zero _)⟩
  case round =>
    obtain ⟨kk, hkk, rfl, HA⟩ := hrel
    by_cases hlt : kk < l.length
    · have hltz : (kk : Int) < (l.length : Int) := by omega
      obtain ⟨b, off, rfl, hb, he⟩ := hlH.out.at_ hlt
      obtain ⟨h0, h1, h2, h3⟩ := he
      cases hq : eqT l[kk].text x with
      | true =>
        have Hq := Lib.hid hq
        have hq2 : (l[kk].text.toList == x.toList) = true := hq
        clear hq
        go_wp2
        refine bodyPost_ret (v := l[kk].val) (by simp [results, Tryd.results9, go_sem]; rfl) rfl ⟨?_, ?_⟩
        · obtain ⟨_, h, _⟩ := find_hit l x kk (fIdx_hit l x kk hlt Hq.out HA.out)
          rw [h]
        · exact (Below.refl _ _).alloc (Nat.le_refl _) _
      | false =>
        have Hq := Lib.hid hq
        have hq2 : (l[kk].text.toList == x.toList) = false := hq
        clear hq
        go_wp2
        go_round
        case rel =>
          refine ⟨kk + 1, by omega, by go_num, (show Aside _ from fun j e hj he => ?_)⟩
          by_cases ee : j = kk
          · subst ee
            rw [List.getElem?_eq_getElem hlt] at he
            cases he
            exact Hq.out
          · exact HA.out j e (by omega) he
        case measure => simp [intOf]; omega
    · have hltz : ¬ (kk : Int) < (l.length : Int) := by omega
      obtain rfl : kk = l.length := by omega
      go_wp2
      refine bodyPost_ret (v := .agg #[.string x, .int .i64 0, .bool false, .bool false]) (by simp [results, Tryd.results9, go_sem]) rfl ⟨?_, ?_⟩
      · rw [find_miss l x (fIdx_miss l x HA.out)]; rfl
      · exact (Below.refl _ _).alloc (Nat.le_refl _) _

def eqEnt : Ent := ⟨⟨#[61]⟩, 3, false, false⟩
theorem find_eqEnt : find [eqEnt] ⟨#[61]⟩ = eqEnt := by
  have : eqT eqEnt.text ⟨#[61]⟩ = true := by decide +kernel
  simp [find, this]

set_option maxHeartbeats 400000 in
theorem awake_any (w : World) : Calls Tryd.prog 4 #[] w fun e w' => e = .returned (.bool true) ∧ Below w.heap.size w w' := by
  go_enter Tryd.func4, Tryd.ntmps4
  go_wp2_with fail
  refine (find_any _ [eqEnt] _ _ _ ?_ (by simp)).mono ?_
  · refine fun _ => ⟨w.heap.size, 0, rfl, by simp, fun i e he => ?_⟩
    match i, he with
    | 0, he => cases he; exact ⟨by simp [eqEnt], by simp [eqEnt], by simp [eqEnt], by simp [eqEnt]⟩
    | (i + 1), he => simp at he
  rw [find_eqEnt]
  rintro e w' ⟨rfl, hb⟩
  simp only [eqEnt, Ent.val]
  go_wp2
  go_ret
  refine ⟨by rfl, ((Below.refl _ _).alloc (Nat.le_refl _) _).trans (hb.mono (by simp))⟩




theorem belowN {B : Nat} {a w : World} (h : Below B a w) (n : Nat) : Below B a (w.drewN n) := h.trans ⟨rfl, rfl, rfl, Nat.le_refl _, fun _ _ => rfl⟩
set_option maxHeartbeats 1000000 in
theorem same_eq (A B : Option Addr) (l : List Ent) (cp cq : Nat) (w : World) (hA : ER w w.heap.size A l) (hB : ER w w.heap.size B l) (hn : l.length ≤ 251) :
    Calls Tryd.prog 6 #[.slice A l.length cp, .slice B l.length cq] w fun e w' => e = .returned (.bool true) ∧ Below w.heap.size w w' := by
  have HA := Lib.hid hA
  have HB := Lib.hid hB
  clear hA hB
  go_enter Tryd.func6, Tryd.ntmps6
  go_wp2
  go_loopg [5] l.length (fun gg s5 wr => ∃ kk : Nat, kk ≤ l.length ∧ l.length - kk ≤ gg ∧ s5 = .int .i64 kk ∧ Aside (∃ n, wr = w.drewN n))
  case atStart => exact ⟨0, Nat.zero_le _, by omega, rfl, ⟨0, rfl⟩⟩
  case round =>
    obtain ⟨kk, hkk, hg, rfl, DW⟩ := hrel
    obtain ⟨nd, rfl⟩ := DW.out
    clear DW
    by_cases hlt : kk < l.length
    · have hltz : (kk : Int) < (l.length : Int) := by omega
      obtain ⟨b2, o2, rfl, hlt2, ⟨a0, a1, a2, a3⟩⟩ := HA.out.at_ hlt
      obtain ⟨b3, o3, rfl, hlt3, ⟨d0, d1, d2, d3⟩⟩ := HB.out.at_ hlt
      go_wp2
      go_quiet (fail)
      go_wp2
      go_roundg (l.length - (kk + 1))
      case measure => omega
      case rel => exact ⟨kk + 1, by omega, by omega, by go_num, ⟨_, rfl⟩⟩
    · have hltz : ¬ (kk : Int) < (l.length : Int) := by omega
      obtain rfl : kk = l.length := by omega
      go_wp2
      go_ret
      exact ⟨rfl, belowN (Below.refl _ _) _⟩

end Go.Proofs.YthhnbfndmjpdgaaDoor.Od
namespace Go.Proofs.YthhnbfndmjpdgaaDoor
open Go.RowKit
def toE (e : En) : Od.Ent := ⟨⟨e.text.toArray⟩, e.cls, e.lim, e.str⟩
theorem er_of_own {w : World} {base : Nat} {A : Option Addr} {c n : Nat} {l : List En} (h : w.ownsRow base 27 4 (.slice A n c) n (ncells l)) (hn : l.length = n) : Od.ER w w.heap.size A (l.map toE) := by
  have h0 := h
  rcases h.2 with ⟨_, hz⟩ | ⟨g, cap, cur, hv, hb, hh, hnc, _⟩
  · have : l = [] := List.eq_nil_of_length_eq_zero (by omega)
    subst this
    exact Od.ER.nil
  · cases hv
    refine fun _ => ⟨g, 0, rfl, (h0.lt g rfl).2, fun i e he => ?_⟩
    rw [List.getElem?_map] at he
    cases hi : l[i]? with
    | none => rw [hi] at he; cases he
    | some a =>
      rw [hi] at he
      cases he
      have key : ∀ j v, j < 4 → a.cells[j]? = some v → w.cell? ⟨g, 0 + i * 4 + j, none⟩ = some v := by
        intro j v hj hv
        have := h0.cells (g := g) rfl (i * 4 + j) v (by rw [ncells_at l i j a hi hj]; exact hv)
        rw [addr_add'] at this
        rw [← this, Nat.add_assoc]
      exact ⟨key 0 _ (by omega) rfl, key 1 _ (by omega) rfl, key 2 _ (by omega) rfl, key 3 _ (by omega) rfl⟩
theorem df_len : DF.length = 35 := by decide +kernel

set_option maxRecDepth 100000 in
set_option maxHeartbeats 4000000 in
theorem default_walk (x : ByteArray) (n : Int) (w : World) (_hx : x.size ≤ maxLen) (_hn : -9223372036854775808 ≤ n) (_hN : n ≤ 9223372036854775807) (ht : Spc w) :
    Calls Tryd.prog 3 #[.string x, .int .i64 n] w fun e w' => e = .returned (.bool true) ∧ Below w.heap.size w w' := by
  have HT := Lib.hid ht
  have HM : Hid ((DF.map toE).length = 35) := by show _ = 35; rw [List.length_map, df_len]
  clear ht
  go_enter Tryd.func3, Tryd.ntmps3
  go_wp2_with fail
  refine (Od.awake_any _).mono ?_
  rintro e w1 ⟨rfl, hb1⟩
  have HB1 := Lib.hid hb1
  have hs1 := hb1.size
  clear hb1
  go_wp2_with fail
  refine (default_any _ (HT.out.below HB1.out)).mono ?_
  rintro e w2 ⟨v2, rfl, ho2, hb2⟩
  rw [df_len] at ho2
  obtain ⟨A2, c2, rfl⟩ := own_slice ho2
  have HO2 := Lib.hid (own_mono ho2 hs1)
  have HB2 := Lib.hid (HB1.out.trans (hb2.mono hs1))
  have hs2 := HB2.out.size
  clear ho2 hb2
  go_wp2_with fail
  refine (refDefault_any _).mono ?_
  rintro e w3 ⟨v3, rfl, ho3, hb3⟩
  rw [df_len] at ho3
  obtain ⟨A3, c3, rfl⟩ := own_slice ho3
  have HO2' := Lib.hid (own_below HO2.out hb3)
  have HE2 := Lib.hid (er_of_own HO2'.out df_len)
  have HE3 := Lib.hid (er_of_own ho3 df_len)
  have HB3 := Lib.hid (HB2.out.trans (hb3.mono hs2))
  have hs3 := HB3.out.size
  clear ho3 hb3
  go_wp2_with fail
  have hsame := Od.same_eq A2 A3 (DF.map toE) c2 c3 w3 HE2.out HE3.out (by rw [HM.out]; decide)
  rw [HM.out] at hsame
  refine hsame.mono ?_
  clear hsame
  rintro e w4 ⟨rfl, hb4⟩
  have HO4 := Lib.hid (own_below HO2'.out hb4)
  have HB4 := Lib.hid (HB3.out.trans (hb4.mono hs3))
  have hxl : (ncells DF).length = 140 := by rw [ncells_len, df_len]
  obtain ⟨g, rfl⟩ : ∃ g, A2 = some ⟨g, 0, none⟩ := by
    rcases HO4.out.2 with ⟨_, h0⟩ | ⟨g, cap, _, h', _⟩
    · cases h0
    · cases h'; exact ⟨g, rfl⟩
  have hgl := (HO4.out.lt g rfl).1
  generalize ncells DF = X0 at *
  clear hb4 HO2 HO2' HE2 HE3 HB1 HB2 HB3
  go_wp2_with fail
  go_loopg [6] 35 (fun gg s6 wr => ∃ (i : Nat) (X : List Value), i ≤ 35 ∧ 35 - i ≤ gg ∧ s6 = .int .i64 i ∧ Aside (X.length = 140 ∧ wr.ownsRow w.heap.size 27 4 (.slice (some ⟨g, 0, none⟩) 35 c2) 35 X) ∧ Aside (Below w.heap.size w wr))
  case atStart => exact ⟨0, X0, by omega, by omega, rfl, ⟨hxl, HO4.out⟩, HB4.out⟩
  case round =>
    obtain ⟨i, X, hi, hgg, rfl, HX, HBr⟩ := hrel
    clear HO4 HB4 hxl
    by_cases hil : i < 35
    · have hiz : (i : Int) < 35 := by omega
      have hXl := HX.out.1
      obtain ⟨u, hu⟩ : ∃ u, wr.cell? ⟨g, i * 4 + 1, none⟩ = some u := ⟨_, (HX.out.2.cellAt (i * 4 + 1) (by omega)).trans (List.getElem?_eq_getElem (by omega))⟩
      have hfz := HX.out.2.frozenAt (i * 4 + 1)
      have HS := Lib.hid (HX.out.2.stored (i * 4 + 1) (.int .i64 n))
      go_wp2_with fail
      go_roundg (35 - (i + 1))
      case measure => omega
      case rel => exact ⟨i + 1, X.set (i * 4 + 1) (.int .i64 n), by omega, by omega, by go_num, ⟨by rw [List.length_set]; exact hXl, HS.out.1⟩, HBr.out.setCell hgl _⟩
    · have hiz : ¬ (i : Int) < 35 := by omega
      obtain ⟨w5, hw5⟩ : ∃ w5 : World, w5 = wr := ⟨_, rfl⟩
      rw [← hw5] at HBr ⊢
      have hs5 := HBr.out.size
      clear hw5 HX
      go_wp2_with fail
      refine (default_any _ (HT.out.below HBr.out)).mono ?_
      rintro e w6 ⟨v6, rfl, ho6, hb6⟩
      rw [df_len] at ho6
      obtain ⟨A6, c6, rfl⟩ := own_slice ho6
      have HE6 := Lib.hid (er_of_own ho6 df_len)
      have HB6 := Lib.hid (HBr.out.trans (hb6.mono hs5))
      have hs6 := HB6.out.size
      clear ho6 hb6
      go_wp2_with fail
      have hf := Od.find_any A6 (DF.map toE) c6 x w6 HE6.out (by rw [HM.out]; decide)
      rw [HM.out] at hf
      refine hf.mono ?_
      clear hf
      rintro e w7 ⟨rfl, hb7⟩
      have HB7 := Lib.hid (HB6.out.trans (hb7.mono hs6))
      have hs7 := HB7.out.size
      clear hb7
      generalize hfd : Od.find (DF.map toE) x = fd
      have HFD := Lib.hid hfd
      clear hfd
      obtain ⟨ft, fc, fm, fs⟩ := fd
      simp only [Od.Ent.val]
      go_wp2_with fail
      refine (refDefault_any _).mono ?_
      rintro e w8 ⟨v8, rfl, ho8, hb8⟩
      rw [df_len] at ho8
      obtain ⟨A8, c8, rfl⟩ := own_slice ho8
      have HE8 := Lib.hid (er_of_own ho8 df_len)
      have HB8 := Lib.hid (HB7.out.trans (hb8.mono hs7))
      have hs8 := HB8.out.size
      clear ho8 hb8
      go_wp2_with fail
      have hf := Od.refFind_any A8 (DF.map toE) c8 x w8 HE8.out (by rw [HM.out]; decide)
      rw [HM.out, HFD.out] at hf
      refine hf.mono ?_
      clear hf
      rintro e w9 ⟨rfl, hb9⟩
      have HB9 := Lib.hid (HB8.out.trans (hb9.mono hs8))
      clear hb9
      simp only [Od.Ent.val]
      go_wp2_with fail
      go_ret
      exact ⟨by simp, HB9.out⟩
end Go.Proofs.YthhnbfndmjpdgaaDoor
