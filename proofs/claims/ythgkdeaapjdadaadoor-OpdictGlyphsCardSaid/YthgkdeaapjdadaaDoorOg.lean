/- Walk of OpdictGlyphs. -/
import Derived.Test.YthgkdeaapjdadaaDoorOdFind
namespace Go.Proofs.YthgkdeaapjdadaaDoor
open Go.RowKit

def Od.eqEnt : Od.Ent := ⟨⟨#[61]⟩, 3, false, false⟩
theorem Od.find_eqEnt : Od.find [Od.eqEnt] ⟨#[61]⟩ = Od.eqEnt := by
  unfold Od.find
  rw [List.find?_cons_of_pos (by simp [Od.eqEnt, Od.eqT])]
  rfl
set_option maxHeartbeats 1000000 in
theorem od_awake (w : World) : Calls Tryd.prog 20 #[] w fun e w' => e = .returned (.bool true) ∧ Below w.heap.size w w' := by
  go_enter Tryd.func20, Tryd.ntmps20
  go_wp2_with fail
  refine (Od.find_any _ [Od.eqEnt] _ _ _ ?_ (by simp)).mono ?_
  · refine fun _ => ⟨w.heap.size, 0, rfl, by simp, fun i e he => ?_⟩
    match i, he with
    | 0, he => cases he; exact ⟨by simp [Od.eqEnt], by simp [Od.eqEnt], by simp [Od.eqEnt], by simp [Od.eqEnt]⟩
    | (i + 1), he => simp at he
  rw [Od.find_eqEnt]
  rintro e w' ⟨rfl, hb⟩
  simp only [Od.eqEnt, Od.Ent.val]
  go_wp2
  go_ret
  refine ⟨by rfl, ((Below.refl _ _).alloc (Nat.le_refl _) _).trans (hb.mono (by simp))⟩

def fnsN : List (List UInt8) := [[108, 105, 109], [109, 97, 120], [109, 105, 110], [115, 105, 110], [99, 111, 115], [116, 97, 110], [108, 111, 103], [108, 110], [101, 120, 112]]
def want (t : List UInt8) (k : Nat) : Bool := (fnsN.take k).all (fun f => f != t)
theorem want_succ (t : List UInt8) (k : Nat) (h : k < fnsN.length) : want t (k + 1) = (want t k && (fnsN[k] != t)) := by
  unfold want; rw [List.take_succ_eq_append_getElem h, List.all_append]; simp
theorem df_len : DF.length = 35 := by decide +kernel
theorem og_all : (List.range 35).all (fun m => (findG GF (DF.getD m ⟨[], 0, false, false⟩).text).isSome == want (DF.getD m ⟨[], 0, false, false⟩).text 9) = true := by decide +kernel
theorem og (m : Nat) (h : m < DF.length) : (findG GF DF[m].text).isSome = want DF[m].text 9 := by
  have := List.all_eq_true.1 og_all m (List.mem_range.2 (by rw [df_len] at h; exact h))
  rw [show DF.getD m ⟨[], 0, false, false⟩ = DF[m] from by simp [List.getD, h]] at this
  simpa using this
set_option maxRecDepth 100000 in
set_option maxHeartbeats 4000000 in
theorem og_walk (n : Int) (w : World) (hw : (Lit.int .u8 n).wf = true) (ht : Spc w) :
    Calls Tryd.prog 9 #[.int .u8 n] w fun e w' => e = .returned (.bool true) ∧ Below w.heap.size w w' := by
  obtain ⟨h0, h1⟩ := wf_u8 hw
  obtain ⟨c, rfl⟩ : ∃ c : Nat, n = (c : Int) := ⟨n.toNat, by omega⟩
  have HT := Lib.hid ht
  clear hw ht
  go_enter Tryd.func9, Tryd.ntmps9
  go_wp2_with fail
  refine (od_awake _).mono ?_
  rintro e w1 ⟨rfl, hb1⟩
  have HB1 := Lib.hid hb1
  have hs1 := hb1.size
  have HT1 := Lib.hid (HT.out.below hb1)
  have hbf : Below w1.heap.size w1 (w1.alloc (.cells (strC fnsN) 9)) := (Below.refl _ _).alloc (Nat.le_refl _) _
  have HT2 := Lib.hid (HT1.out.below hbf)
  have HN := Lib.hid (blk_new w1 (.cells (strC fnsN) 9))
  have HB2 := Lib.hid (hb1.trans (hbf.mono hs1))
  clear hb1 hbf
  go_wp2_with fail
  refine (default_any _ HT2.out).mono ?_
  rintro e w3 ⟨v, rfl, ho, hb3⟩
  have HB3 := Lib.hid (HB2.out.trans (hb3.mono HB2.out.size))
  have HN3 : Hid (w3.heap[w1.heap.size]? = some (.cells (strC fnsN) 9)) := (hb3.block _ (blk_lt HN.out)).trans HN.out
  have hs3 := HB3.out.size
  have hs13 : w1.heap.size < w3.heap.size := blk_lt HN3.out
  have hmo : c % 35 < DF.length := by rw [df_len]; exact Nat.mod_lt _ (by decide)
  have HOG := Lib.hid (og (c % 35) hmo)
  rw [df_len] at ho
  obtain ⟨A, cp, rfl⟩ := own_slice ho
  obtain ⟨g, rfl⟩ : ∃ g, A = some ⟨g, 0, none⟩ := by
    rcases ho.2 with ⟨_, h0⟩ | ⟨g, cap, _, h', _⟩
    · cases h0
    · cases h'; exact ⟨g, rfl⟩
  have hc : w3.cell? ⟨g, c % 35 * 4, none⟩ = some (.string ⟨DF[c % 35].text.toArray⟩) := by
    have h35 : c % 35 < 35 := Nat.mod_lt _ (by decide)
    rw [ho.cellAt (c % 35 * 4) (by omega)]
    exact ncells_at DF (c % 35) 0 DF[c % 35] (List.getElem?_eq_getElem hmo) (by omega)
  obtain ⟨t, htt⟩ : ∃ t, t = DF[c % 35].text := ⟨_, rfl⟩
  rw [← htt] at hc HOG
  have hm35 : c % 35 < 35 := Nat.mod_lt _ (by decide)
  have hmz : (c : Int) % 35 < 35 := by omega
  have hmz0 : 0 ≤ (c : Int) % 35 := by omega
  clear htt hb3 ho hmo HB1 HB2 HT1 HT2 HN
  go_wp2_with fail
  clear hc
  go_loopg [6, 7] 9 (fun gg s6 s7 wr => ∃ k : Nat, k ≤ 9 ∧ 9 - k ≤ gg ∧ s7 = .int .i64 k ∧ s6 = .bool (want t k) ∧ wr = w3)
  case atStart => exact ⟨0, by omega, by omega, rfl, rfl, rfl⟩
  case round =>
    obtain ⟨k, hk, hgg, rfl, rfl, rfl⟩ := hrel
    by_cases hkl : k < 9
    · have hkz : (k : Int) < 9 := by omega
      have hc := (cell_blk HN3.out k).trans (strC_at fnsN k hkl)
      have HW := Lib.hid (want_succ t k hkl)
      obtain ⟨f, hf⟩ : ∃ f, f = fnsN[k] := ⟨_, rfl⟩
      rw [← hf] at hc HW
      clear hf
      cases hwk : want t k with
      | false =>
        rw [hwk] at HW
        go_wp2_with fail
        go_roundg (9 - (k + 1))
        case measure => omega
        case rel => exact ⟨k + 1, by omega, by omega, by go_num, (by rw [HW.out]; rfl), rfl⟩
      | true =>
        rw [hwk] at HW
        cases hfe : (f == t) with
        | true =>
          have hfn : (f != t) = false := by simp [bne, hfe]
          rw [hfn] at HW
          go_wp2_with fail
          go_roundg (9 - (k + 1))
          case measure => omega
          case rel => exact ⟨k + 1, by omega, by omega, by go_num, (by rw [HW.out]; rfl), rfl⟩
        | false =>
          have hfn : (f != t) = true := by simp [bne, hfe]
          rw [hfn] at HW
          go_wp2_with fail
          go_roundg (9 - (k + 1))
          case measure => omega
          case rel => exact ⟨k + 1, by omega, by omega, by go_num, (by rw [HW.out]; rfl), rfl⟩
    · have hkz : ¬ (k : Int) < 9 := by omega
      obtain rfl : k = 9 := by omega
      go_wp2_with fail
      refine (glyph_any t _).mono ?_
      rw [HOG.out]
      rintro e w4 ⟨rfl, hb4⟩
      have HB4 := Lib.hid (HB3.out.trans (hb4.mono hs3))
      have hs4 := HB4.out.size
      clear hb4
      generalize findV GF t = gl at *
      obtain ⟨gn, ga, gh, gd, gi, gt⟩ := gl
      simp only [Gl.val]
      generalize want t 9 = wt at *
      go_wp2_with fail
      go_ret
      exact ⟨by simp, HB4.out.alloc hs4 _⟩
end Go.Proofs.YthgkdeaapjdadaaDoor
