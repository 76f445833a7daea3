/- Contracts of the reference's with, union, without. Contract of the reference's Fresh 27. sum 36, awake 11. Contracts of the reference's size, Valid, Count. -/
import Derived.Test.YtknpigdpepmimaaGreatDoorM05
import Derived.Test.YtknpigdpepmimaaGreatDoorM17
import Derived.Test.YtknpigdpepmimaaGreatDoorM18
import Derived.Test.YtknpigdpepmimaaGreatDoorM16
import Derived.Test.YtknpigdpepmimaaGreatDoorM03
import Derived.Test.YtknpigdpepmimaaGreatDoorM04
namespace Go.Proofs.YtknpigdpepmimaaGreatDoor
open Go.RowKit
/-- one name appended to a slice that the call made -/
theorem app30 {ops : Array Oper} {rest : List Oper} {o : Oper} {a : Act} {Q : Exit → Act → World → Prop} (w : World) (hgd : o.guard = none) (s x : Operand)
    (ho : o.op = .call { callee := .builtin .append, args := #[s, x], argTypes := #[25, 25] }) (B : Nat) (v : Value) (l : List W8) (y : W8) (hown : RL w B v l) (hs : a.eval s = v)
    (hx : a.eval x = .slice (some ⟨w.heap.size, 0, none⟩) 1 1) (hl : l.length ≤ 1000000) (hB : B ≤ w.heap.size)
    (h : ∀ v' w', RL w' B v' (l ++ [y]) → Below B w w' → wpList Tryz.prog ops Q rest (a.put o.dst v') w') : wpList Tryz.prog ops Q (o :: rest) a (w.alloc (.cells #[.string ⟨y.toArray⟩] 9)) := by
  obtain ⟨i0, hi0, hz0, hz1, hz2⟩ := info_parts str_info
  have hown' : (w.alloc (.cells #[.string ⟨y.toArray⟩] 9)).ownsRow B 9 1 v l.length (l.map encS) := World.ownsRow.alloc hown _
  refine wpList_append_lies _ hgd s x 25 ho B 9 i0 _ 1 16 Tryz.underlying25 hi0 hz0 hz1 hz2 rfl (by decide) v l.length _ hs hown' ⟨w.heap.size, 0, none⟩ 1 1 [.string ⟨y.toArray⟩] hx rfl (fun j u hu => ?_) (fun u hu => ?_) (by decide) (by unfold maxLen; omega) (by omega) (by simp; omega) _ rfl ?_
  · cases j with
    | zero => simp at hu; subst hu; simp [go_sem]
    | succ j => simp at hu
  · simp at hu; subst hu; rfl
  · intro g cap w' h1 h2 _ _
    refine h _ w' ?_ ?_
    · unfold RL
      rw [List.length_append, List.map_append]
      exact h1
    · exact ((Below.refl B w).alloc hB _).grown h2 (by simp; omega) (fun k hk => (hown'.lt k hk).1)
theorem RL.bel {w w' : World} {B : Nat} {v : Value} {l : List W8} (h : RL w B v l) (hb : Below w.heap.size w w') : RL w' B v l :=
  World.ownsRow.kept h (row := none) ⟨hb.os, hb.tape, hb.output, hb.size, fun k hk _ => hb.block k hk⟩ (by cases v.ownBlock <;> simp)
def OL (d : Bool) (n i : Nat) : Prop := n ≤ i ∨ (d = true ∧ n ≤ i + 1)
def pickL (d : Bool) (a b : List W8) : List W8 := match d with | true => a | false => b
theorem pickL_t (a b : List W8) : pickL true a b = a := rfl
theorem pickL_f (a b : List W8) : pickL false a b = b := rfl
set_option maxRecDepth 100000 in
set_option maxHeartbeats 2000000 in
theorem with44_any (v : Value) (l : List W8) (s : W8) (w : World) (hv : SL w w.heap.size v l) (hl : l.length ≤ 900000) (hw : Wds l) (hs : wordB s = true) :
    Calls Tryz.prog 33 #[v, .string ⟨s.toArray⟩] w fun e w' => ∃ v', e = .returned v' ∧ SL w' w'.heap.size v' (withL l s) ∧ Below w.heap.size w w' := by
  have HH := Lib.hid (has35_any _ v l s w hv)
  have HV := Lib.hid hv
  have HW := Lib.hid hw
  have HS := Lib.hid hs
  have HE : Hid (withL l s = if hasB l s = true then l else insL s l) := rfl
  clear hw hs
  cases hh : hasB l s with
  | true =>
    have HX : Hid (withL l s = l) := by show withL l s = l; rw [HE.out, hh]; rfl
    rw [hh] at HH
    clear hh HE hv
    go_enter Tryz.func33, Tryz.ntmps33
    go_wp2_with fail
    refine HH.out.mono ?_
    rintro e w1 ⟨rfl, rfl⟩
    go_wp2_with fail
    go_ret
    rw [HX.out]
    exact ⟨v, rfl, HV.out, Below.refl _ _⟩
  | false =>
    have HX : Hid (withL l s = insL s l) := by show withL l s = insL s l; rw [HE.out, hh]; rfl
    rw [hh] at HH
    obtain ⟨A, c, rfl, ⟨hc1, hc2⟩, hcell⟩ := hv
    have HCELL := Lib.hid hcell
    clear hh HE hcell
    go_enter Tryz.func33, Tryz.ntmps33
    go_wp2_with fail
    refine HH.out.mono ?_
    rintro e w1 ⟨rfl, rfl⟩
    go_wp2_with fail
    go_loopg [5, 6, 7] l.length (fun gg s5 s6 s7 wr => ∃ (i : Nat) (out : List W8) (d : Bool), i ≤ l.length ∧ l.length - i ≤ gg ∧ s7 = .int .i64 i ∧ s6 = .bool d ∧ Aside (OL d out.length i) ∧ Aside (insL s l = pickL d (out ++ l.drop i) (out ++ insL s (l.drop i))) ∧ Aside (RL wr w.heap.size s5 out) ∧ Aside (Below w.heap.size w wr))
    case atStart => exact ⟨0, [], false, Nat.zero_le _, by omega, rfl, rfl, .inl (by simp), rfl, World.ownsRow_nil _ _ _ _, Below.refl _ _⟩
    case round =>
      obtain ⟨i, out, d, hi, hgg, rfl, rfl, hol, HQ, HR, HB⟩ := hrel
      by_cases hlt : i < l.length
      · have hltz : (i : Int) < (l.length : Int) := by omega
        obtain ⟨b, o, rfl, hb, hx⟩ := HCELL.out (by intro e; rw [e] at hlt; simp at hlt)
        have hck0 := hx i hlt
        have hck : wr.cell? ⟨b, o + i, none⟩ = some (.string ⟨l[i].toArray⟩) := (HB.out.cell (p := ⟨b, o + i, none⟩) hb).trans hck0
        have HSZ := Lib.hid HB.out.size
        have HLW := Lib.hid (HW.out l[i] (List.getElem_mem hlt))
        have HD : Hid (l.drop i = l[i] :: l.drop (i + 1)) := List.drop_eq_getElem_cons hlt
        clear hck0 hx
        have HLS := Lib.hid (fun ww => less65_any ⟨s.toArray⟩ ⟨l[i].toArray⟩ ww (by simpa using HS.out) (by simpa using HLW.out))
        have HLS2 : Hid (∀ ww, Calls Tryz.prog 63 #[.string ⟨s.toArray⟩, .string ⟨l[i].toArray⟩] ww fun e w' => e = .returned (.bool (ltL s l[i])) ∧ ∃ n, w' = ww.drewN n) := fun ww => by simpa using HLS.out ww
        clear HLS
        obtain ⟨y, hy⟩ : ∃ y, y = l[i] := ⟨_, rfl⟩
        have HY := Lib.hid hy
        rw [← hy] at hck HLS2 HD
        clear hy
        go_upto_region 8 with (fail)
        go_cut [27] (fun s27 wx => s27 = .bool (!d && ltL s y) ∧ ∃ n, wx = wr.drewN n)
        case first =>
          cases d with
          | true =>
            go_wp2_with fail
            go_meet
            case rel => exact ⟨rfl, 0, rfl⟩
          | false =>
            go_wp2_with fail
            refine (HLS2.out _).mono ?_
            rintro e w2 ⟨rfl, n, rfl⟩
            go_wp2_with fail
            go_meet
            case rel => exact ⟨rfl, n, rfl⟩
        case rest =>
          obtain ⟨rfl, n, rfl⟩ := hcut
          have hbn : Below wr.heap.size wr (wr.drewN n) := below_drewNB (Below.refl _ _) n
          have HRn := Lib.hid (HR.out.bel hbn)
          have HBn := Lib.hid (HB.out.trans (hbn.mono HSZ.out))
          have hckn : (wr.drewN n).cell? ⟨b, o + i, none⟩ = some (.string ⟨y.toArray⟩) := (hbn.cell (p := ⟨b, o + i, none⟩) (show b < wr.heap.size by have := HSZ.out; omega)).trans hck
          clear hbn hck HR HB HSZ HLS2
          generalize wr.drewN n = wn at *
          have HSZ := Lib.hid HBn.out.size
          have HBL := Lib.hid hb
          have hol2 : out.length ≤ 900000 := by rcases hol.out with h | h <;> omega
          cases hq : (!d && ltL s y) with
          | true =>
            have hd : d = false := by cases d with
              | false => rfl
              | true => simp at hq
            subst hd
            have HOL : Hid (OL true (out ++ [s, y]).length (i + 1)) := .inr ⟨rfl, by simp; rcases hol.out with h | h; omega; cases h.1⟩
            have hlt2 : ltL s y = true := by simpa using hq
            have HQ2 : Hid (insL s l = pickL true ((out ++ [s, y]) ++ l.drop (i + 1)) ((out ++ [s, y]) ++ insL s (l.drop (i + 1)))) := by
              show insL s l = _
              rw [HQ.out, pickL_t, pickL_f, HD.out, insL, if_pos hlt2]; simp
            clear hq hlt2
            go_wp2_with (at_builtin; refine app30 wn rfl _ _ rfl w.heap.size _ out s HRn.out rfl rfl (by omega) HSZ.out ?_)
            intro v7 w7 hr7 hb7
            have HR7 := Lib.hid hr7
            have HB7 := Lib.hid (HBn.out.trans hb7)
            have HSZ7 := Lib.hid HB7.out.size
            have hck7 : w7.cell? ⟨b, o + i, none⟩ = some (.string ⟨y.toArray⟩) := (hb7.cell (p := ⟨b, o + i, none⟩) hb).trans hckn
            clear hr7 hb7 hckn
            go_wp2_with (at_builtin; refine app30 w7 rfl _ _ rfl w.heap.size _ (out ++ [s]) y HR7.out rfl rfl (by simp; omega) HSZ7.out ?_)
            intro v8 w8 hr8 hb8
            have HR8 := Lib.hid hr8
            have HB8 := Lib.hid (HB7.out.trans hb8)
            clear hr8 hb8 hck7
            go_wp2_with fail
            go_roundg (l.length - (i + 1))
            case measure => omega
            case rel => exact ⟨i + 1, out ++ [s, y], true, by omega, by omega, by go_num, rfl, HOL.out, HQ2.out, HR8.out, HB8.out⟩
          | false =>
            have HOL : Hid (OL d (out ++ [y]).length (i + 1)) := by
              rcases hol.out with h | h
              · exact .inl (by simp; omega)
              · exact .inr ⟨h.1, by simp; omega⟩
            have HQ2 : Hid (insL s l = pickL d ((out ++ [y]) ++ l.drop (i + 1)) ((out ++ [y]) ++ insL s (l.drop (i + 1)))) := by
              show insL s l = _
              cases d with
              | true => rw [HQ.out, pickL_t, pickL_t, HD.out]; simp
              | false =>
                have hlt2 : ltL s y = false := by simpa using hq
                rw [HQ.out, pickL_f, pickL_f, HD.out, insL, if_neg (by rw [hlt2]; decide)]; simp
            clear hq
            go_wp2_with (at_builtin; refine app30 wn rfl _ _ rfl w.heap.size _ out y HRn.out rfl rfl (by omega) HSZ.out ?_)
            intro v8 w8 hr8 hb8
            have HR8 := Lib.hid hr8
            have HB8 := Lib.hid (HBn.out.trans hb8)
            clear hr8 hb8 hckn
            go_wp2_with fail
            go_roundg (l.length - (i + 1))
            case measure => omega
            case rel => exact ⟨i + 1, out ++ [y], d, by omega, by omega, by go_num, rfl, HOL.out, HQ2.out, HR8.out, HB8.out⟩
      · have hltz : ¬ (i : Int) < (l.length : Int) := by omega
        have HSZ := Lib.hid HB.out.size
        have hol2 : out.length ≤ 900001 := by rcases hol.out with h | h <;> omega
        cases d with
        | true =>
          have HY : Hid (withL l s = out) := by
            show withL l s = out
            rw [HX.out, HQ.out, pickL_t, List.drop_eq_nil_of_le (by omega), List.append_nil]
          go_wp2_with fail
          go_ret
          rw [HY.out]
          exact ⟨_, rfl, HR.out.sl, HB.out⟩
        | false =>
          have HY : Hid (withL l s = out ++ [s]) := by
            show withL l s = out ++ [s]
            rw [HX.out, HQ.out, pickL_f, List.drop_eq_nil_of_le (by omega), insL]
          go_wp2_with (at_builtin; refine app30 wr rfl _ _ rfl w.heap.size _ out s HR.out rfl rfl (by omega) HSZ.out ?_)
          intro v8 w8 hr8 hb8
          have HR8 := Lib.hid hr8
          have HB8 := Lib.hid (HB.out.trans hb8)
          clear hr8 hb8
          go_wp2_with fail
          go_ret
          rw [HY.out]
          exact ⟨_, rfl, HR8.out.sl, HB8.out⟩
set_option maxRecDepth 100000 in
set_option maxHeartbeats 2000000 in
theorem union45_any (v v2 : Value) (a b : List W8) (w : World) (hv : SL w w.heap.size v a) (hv2 : SL w w.heap.size v2 b) (hl : a.length + b.length ≤ 900000) (hwa : Wds a) (hwb : Wds b) :
    Calls Tryz.prog 62 #[v, v2] w fun e w' => ∃ v', e = .returned v' ∧ SL w' w'.heap.size v' (unionL a b) ∧ Below w.heap.size w w' := by
  have HV := Lib.hid hv
  have HWB := Lib.hid hwb
  have HV2 := Lib.hid hv2
  obtain ⟨A, c, rfl, ⟨hc1, hc2⟩, hcell⟩ := hv2
  have HCELL := Lib.hid hcell
  have HS : Hid (Srtd [] ∧ Wds a) := ⟨by unfold Srtd; simp, hwa⟩
  clear hcell hv hwa hwb
  go_enter Tryz.func62, Tryz.ntmps62
  go_wp2_with fail
  go_loopg [0, 5] b.length (fun gg s0 s5 wr => ∃ (i : Nat) (acc : List W8), i ≤ b.length ∧ b.length - i ≤ gg ∧ s5 = .int .i64 i ∧ acc.length ≤ a.length + i ∧ Aside (unionL a b = unionL acc (b.drop i)) ∧ Aside (Wds acc) ∧ Aside (SL wr wr.heap.size s0 acc) ∧ Aside (Below w.heap.size w wr))
  case atStart => exact ⟨0, a, Nat.zero_le _, by omega, rfl, by omega, rfl, HS.out.2, HV.out, Below.refl _ _⟩
  case round =>
    obtain ⟨i, acc, hi, hgg, rfl, hal, HQ, HWA, HA, HB⟩ := hrel
    by_cases hlt : i < b.length
    · have hltz : (i : Int) < (b.length : Int) := by omega
      obtain ⟨bb, o, rfl, hb, hx⟩ := HCELL.out (by intro e; rw [e] at hlt; simp at hlt)
      have hck : wr.cell? ⟨bb, o + i, none⟩ = some (.string ⟨b[i].toArray⟩) := (HB.out.cell (p := ⟨bb, o + i, none⟩) hb).trans (hx i hlt)
      have HSZ := Lib.hid HB.out.size
      have HLW := Lib.hid (HWB.out b[i] (List.getElem_mem hlt))
      have HD : Hid (unionL acc (b.drop i) = unionL (withL acc b[i]) (b.drop (i + 1))) := by
        show unionL acc (b.drop i) = _
        rw [List.drop_eq_getElem_cons hlt]
        unfold unionL
        rw [List.foldl_cons]
      clear hx
      generalize b[i] = y at *
      have HL := Lib.hid (withL_len acc y)
      have HC := Lib.hid (with44_any _ acc y wr HA.out (by omega) HWA.out HLW.out)
      go_wp2_with fail
      refine HC.out.mono ?_
      rintro e w2 ⟨v3, rfl, hs3, hb3⟩
      have HS3 := Lib.hid hs3
      have HB3 := Lib.hid (HB.out.trans (hb3.mono HSZ.out))
      have HQ3 := Lib.hid (HQ.out.trans HD.out)
      have HW3 : Hid (Wds (withL acc y)) := Wds.with HWA.out HLW.out
      clear hs3 hb3 HC
      have hl3 : (withL acc y).length ≤ a.length + (i + 1) := by have := HL.out; omega
      generalize withL acc y = acc3 at *
      go_wp2_with fail
      go_roundg (b.length - (i + 1))
      case measure => omega
      case rel => exact ⟨i + 1, acc3, by omega, by omega, by go_num, hl3, HQ3.out, HW3.out, HS3.out, HB3.out⟩
    · have hltz : ¬ (i : Int) < (b.length : Int) := by omega
      have HY : Hid (unionL a b = acc) := by
        show unionL a b = acc
        rw [HQ.out, List.drop_eq_nil_of_le (by omega)]; rfl
      go_wp2_with fail
      go_ret
      rw [HY.out]
      exact ⟨_, rfl, HA.out, HB.out⟩
theorem without_snoc (l : List W8) (s : W8) (k : Nat) (hk : k < l.length) : withoutL (l.take (k + 1)) s = withoutL (l.take k) s ++ if l[k] = s then [] else [l[k]] := by
  unfold withoutL
  rw [List.take_succ_eq_append_getElem hk, List.filter_append]
  congr 1
  by_cases h : l[k] = s <;> simp [h]
theorem without_len (l : List W8) (s : W8) (k : Nat) : (withoutL (l.take k) s).length ≤ k := by
  unfold withoutL
  refine Nat.le_trans (List.length_filter_le _ _) ?_
  rw [List.length_take]; omega
set_option maxRecDepth 100000 in
set_option maxHeartbeats 2000000 in
theorem without61_any (v : Value) (l : List W8) (s : W8) (w : World) (hv : SL w w.heap.size v l) (hl : l.length ≤ 900000) :
    Calls Tryz.prog 61 #[v, .string ⟨s.toArray⟩] w fun e w' => ∃ v', e = .returned v' ∧ SL w' w'.heap.size v' (withoutL l s) ∧ Below w.heap.size w w' := by
  obtain ⟨A, c, rfl, ⟨hc1, hc2⟩, hcell⟩ := hv
  have HCELL := Lib.hid hcell
  clear hcell
  go_enter Tryz.func61, Tryz.ntmps61
  go_wp2_with fail
  go_loopg [5, 6] l.length (fun gg s5 s6 wr => ∃ (i : Nat), i ≤ l.length ∧ l.length - i ≤ gg ∧ s6 = .int .i64 i ∧ Aside (RL wr w.heap.size s5 (withoutL (l.take i) s)) ∧ Aside (Below w.heap.size w wr))
  case atStart => exact ⟨0, Nat.zero_le _, by omega, rfl, World.ownsRow_nil _ _ _ _, Below.refl _ _⟩
  case round =>
    obtain ⟨i, hi, hgg, rfl, HR, HB⟩ := hrel
    by_cases hlt : i < l.length
    · have hltz : (i : Int) < (l.length : Int) := by omega
      obtain ⟨b, o, rfl, hb, hx⟩ := HCELL.out (by intro e; rw [e] at hlt; simp at hlt)
      have hck : wr.cell? ⟨b, o + i, none⟩ = some (.string ⟨l[i].toArray⟩) := (HB.out.cell (p := ⟨b, o + i, none⟩) hb).trans (hx i hlt)
      have HSZ := Lib.hid HB.out.size
      have HD := Lib.hid (without_snoc l s i hlt)
      have hln := without_len l s i
      clear hx
      generalize l[i] = y at *
      by_cases he : y = s
      · have HX : Hid (withoutL (l.take (i + 1)) s = withoutL (l.take i) s) := by show _ = _; rw [HD.out, if_pos he, List.append_nil]
        have hb1 : (y == s) = true := by simpa using he
        have hb2 : (y != s) = false := by simp [he]
        clear he HD
        generalize withoutL (l.take i) s = acc at *
        go_wp2_with fail
        go_roundg (l.length - (i + 1))
        case measure => omega
        case rel => exact ⟨i + 1, by omega, by omega, by go_num, by rw [HX.out]; exact HR.out, HB.out⟩
      · have HX : Hid (withoutL (l.take (i + 1)) s = withoutL (l.take i) s ++ [y]) := by show _ = _; rw [HD.out, if_neg he]
        have hb1 : (y == s) = false := by simpa using he
        have hb2 : (y != s) = true := by simp [he]
        clear he HD
        generalize withoutL (l.take i) s = acc at *
        go_wp2_with (at_builtin; refine app30 wr rfl _ _ rfl w.heap.size _ acc y HR.out rfl rfl (by omega) HSZ.out ?_)
        intro v8 w8 hr8 hb8
        have HR8 := Lib.hid hr8
        have HB8 := Lib.hid (HB.out.trans hb8)
        clear hr8 hb8 hck
        go_wp2_with fail
        go_roundg (l.length - (i + 1))
        case measure => omega
        case rel => exact ⟨i + 1, by omega, by omega, by go_num, by rw [HX.out]; exact HR8.out, HB8.out⟩
    · have hltz : ¬ (i : Int) < (l.length : Int) := by omega
      have HY : Hid (withoutL l s = withoutL (l.take i) s) := by
        show withoutL l s = _
        rw [List.take_of_length_le (by omega)]
      go_wp2_with fail
      go_ret
      rw [HY.out]
      exact ⟨_, rfl, HR.out.sl, HB.out⟩
end Go.Proofs.YtknpigdpepmimaaGreatDoor

namespace Go.Proofs.YtknpigdpepmimaaGreatDoor
open Go.RowKit
theorem word1 (w : World) : SL (w.alloc (.cells #[.string ⟨#[]⟩] 9)) (w.alloc (.cells #[.string ⟨#[]⟩] 9)).heap.size (.slice (some ⟨w.heap.size, 0, none⟩) 1 1) (wds 0 1) := by
  rw [wds_zero]
  refine ⟨some ⟨w.heap.size, 0, none⟩, 1, rfl, ⟨Nat.le_refl _, by omega⟩, fun _ => ⟨_, 0, rfl, by simp, fun j hj => ?_⟩⟩
  have hj0 : j = 0 := by simp at hj; exact hj
  subst hj0
  simp
theorem lets_ext_all : (List.range 52).all (fun k => ((ByteArray.mk lets.toArray).extract k (k + 1)).data.toList == [lets.getD k 0]) = true := by decide +kernel
theorem lets_ext (k : Nat) (h : k < 52) : ∃ c, (ByteArray.mk lets.toArray).extract k (k + 1) = ⟨#[c]⟩ ∧ isL c = true ∧ rk c = k := by
  have h1 := List.all_eq_true.1 lets_ext_all k (List.mem_range.2 h)
  obtain ⟨c, h2, h3, h4⟩ := lets_at k h
  have h5 : lets.getD k 0 = c := by rw [List.getD_eq_getElem?_getD, h2]; rfl
  rw [h5] at h1
  refine ⟨c, ?_, h3, h4⟩
  have h6 := eq_of_beq h1
  apply ByteArray.ext
  rw [← Array.toList_inj, h6]
theorem app1 (l : W8) (c : UInt8) : (⟨l.toArray⟩ : ByteArray) ++ ⟨#[c]⟩ = ⟨(l ++ [c]).toArray⟩ := by
  apply ByteArray.ext; simp
set_option maxRecDepth 100000 in
set_option maxHeartbeats 2000000 in
theorem fresh27_any (v : Value) (l : List W8) (w : World) (hv : SL w w.heap.size v l) (hl : l.length ≤ 2755) :
    Calls Tryz.prog 34 #[v] w fun e w' => e = .returned (.string ⟨(freshL l).toArray⟩) ∧ Below w.heap.size w w' := by
  have HV := Lib.hid hv
  have HM : Hid (1 ≤ freshN l ∧ freshN l ≤ 2756) := fresh_max hl
  clear hv
  go_enter Tryz.func34, Tryz.ntmps34
  go_wp2_with fail
  go_loopg [3, 4, 5, 6, 7] 2757 (fun gg s3 s4 s5 s6 s7 wr => ∃ a m : Nat, 52 * a + 1 ≤ freshN l ∧ Aside (m = 51 * a + 1) ∧ freshN l - a ≤ gg ∧ Aside (SL wr wr.heap.size s3 (wds a m)) ∧ Aside (Below w.heap.size w wr))
  case atStart => exact ⟨0, 1, HM.out.1, rfl, by have := HM.out.2; omega, word1 w, (Below.refl _ _).alloc (Nat.le_refl _) _⟩
  case round =>
    obtain ⟨a, m, ha, hm, hgg, HWD, HB⟩ := hrel
    rename World => wL
    have hfm := HM.out.2
    obtain ⟨A0, c0, hv0, ⟨hc1, hc2⟩, hcell⟩ := HWD.out
    rw [wds_len] at hv0 hc1
    subst hv0
    have HCELL := Lib.hid hcell
    clear hcell
    go_wp2_with fail
    go_loopg [4, 5, 6, 7] m (fun gg s4 s5 s6 s7 wx => ∃ i : Nat, i ≤ m ∧ m - i ≤ gg ∧ s5 = .int .i64 i ∧ 52 * a + 1 + 52 * i ≤ freshN l ∧ Aside (RL wx wL.heap.size s4 (wds (52 * a + 1) (52 * i))) ∧ Aside (Below wL.heap.size wL wx))
    case atStart => exact ⟨0, Nat.zero_le _, by omega, rfl, by omega, World.ownsRow_nil _ _ _ _, Below.refl _ _⟩
    case round =>
      obtain ⟨i, hi, hgg2, rfl, hN, HR, HB2⟩ := hrel
      by_cases hlt : i < m
      · have hltz : (i : Int) < (m : Int) := by omega
        have hil : i < (wds a m).length := by rw [wds_len]; exact hlt
        obtain ⟨b, o, rfl, hb, hx⟩ := HCELL.out (by intro e; rw [e] at hil; simp at hil)
        have hx1 := hx i hil
        rw [wds_at] at hx1
        have HX1 := Lib.hid hx1
        clear hx hx1
        go_wp2_with fail
        go_loopg [4, 6, 7] 52 (fun gg s4 s6 s7 wy => ∃ k : Nat, k ≤ 52 ∧ 52 - k ≤ gg ∧ s6 = .int .i64 k ∧ 52 * a + 1 + (52 * i + k) ≤ freshN l ∧ Aside (RL wy wL.heap.size s4 (wds (52 * a + 1) (52 * i + k))) ∧ Aside (Below wL.heap.size wL wy))
        case atStart => exact ⟨0, by omega, by omega, rfl, by omega, HR, HB2⟩
        case round =>
          obtain ⟨k, hk, hgg3, rfl, hN2, HR2, HB3⟩ := hrel
          by_cases hkl : k < 52
          · have hkz : (k : Int) < 52 := by omega
            have hck : wr.cell? ⟨b, o + i, none⟩ = some (.string ⟨(wd (a + i)).toArray⟩) := (HB3.out.cell (p := ⟨b, o + i, none⟩) hb).trans HX1.out
            obtain ⟨c, hex, hcl, hck2⟩ := lets_ext k hkl
            unfold lets at hex
            have HNX := Lib.hid (wd_next a i k c hcl hck2)
            have hwl : 1 ≤ 52 * a + 1 + (52 * i + k) := by omega
            have hw2 := (wd_len hwl (by omega)).2
            have hwa : (wd (a + i)).length ≤ 2 := by
              rw [← HNX.out, List.length_append] at hw2; omega
            have hnl : ¬ 9223372036854775807 < (wd (a + i)).length + 1 := by omega
            go_upto_region 9 with (fail)
            go_big_quiet (fail)
            rw [app1, HNX.out]
            have HRn := Lib.hid (HR2.out.bel (below_drewNB (Below.refl _ _) nq))
            have HBn := Lib.hid (below_drewNB HB3.out nq)
            generalize wr.drewN nq = wn at *
            have HSZ := Lib.hid HBn.out.size
            have HWn := Lib.hid (HB.out.trans (HBn.out.mono HB.out.size))
            have hN1 : 1 ≤ 52 * a + 1 + (52 * i + k) := hwl
            have HG : Hid (good l (wd (52 * a + 1 + (52 * i + k))) = (identB (wd (52 * a + 1 + (52 * i + k))) && !l.contains (wd (52 * a + 1 + (52 * i + k))))) := rfl
            have HI := Lib.hid (fun ww => ident29L (wd (52 * a + 1 + (52 * i + k))) ww (by omega))
            have HST := Lib.hid (fun h => fresh_stop hl hN1 hN2 h)
            have HGO := Lib.hid (fun h => fresh_go hl hN2 h)
            have HSN : Hid (wds (52 * a + 1) (52 * i + (k + 1)) = wds (52 * a + 1) (52 * i + k) ++ [wd (52 * a + 1 + (52 * i + k))]) := wds_snoc _ _
            have HLN := Lib.hid (wds_len (52 * a + 1) (52 * i + k))
            generalize hy : wd (52 * a + 1 + (52 * i + k)) = y at *
            generalize hws : wds (52 * a + 1) (52 * i + k) = ws at *
            clear hck HR2 HB3 HNX hw2 hwa hnl hex hcl hck2 hwl hy hws
            cases hid : identB y with
            | false =>
              rw [hid] at HI HG
              have HX := Lib.hid (HGO.out (by rw [HG.out]; rfl))
              clear hid HST HGO HG
              go_wp2_with fail
              refine (HI.out _).mono ?_
              rintro e w4 ⟨rfl, hb4⟩
              have HR4 := Lib.hid (HRn.out.bel hb4)
              have HB4 := Lib.hid (HBn.out.trans (hb4.mono HSZ.out))
              have HSZ4 := Lib.hid HB4.out.size
              clear hb4
              go_wp2_with (at_builtin; refine app30 w4 rfl _ _ rfl wL.heap.size _ ws y HR4.out rfl rfl (by have := HLN.out; omega) HSZ4.out ?_)
              intro v7 w7 hr7 hb7
              have HR7 : Hid (RL w7 wL.heap.size v7 (wds (52 * a + 1) (52 * i + (k + 1)))) := by rw [HSN.out]; exact hr7
              have HB7 := Lib.hid (HB4.out.trans hb7)
              clear hr7 hb7
              go_wp2_with fail
              go_roundg (52 - (k + 1))
              case measure => omega
              case rel => exact ⟨k + 1, by omega, by omega, by go_num, by have := HX.out; omega, HR7.out, HB7.out⟩
            | true =>
              rw [hid] at HI HG
              have HH := Lib.hid (fun w4 (hb : Below w.heap.size w w4) => has35_any _ v l y w4 ((HV.out.below hb)))
              have HHE : Hid (hasB l y = l.contains y) := rfl
              clear hid
              cases hc : l.contains y with
              | true =>
                rw [hc] at HG HHE
                rw [HHE.out] at HH
                have HX := Lib.hid (HGO.out (by rw [HG.out]; rfl))
                clear hc HST HGO HG HHE
                go_wp2_with fail
                refine (HI.out _).mono ?_
                rintro e w4 ⟨rfl, hb4⟩
                have HR4 := Lib.hid (HRn.out.bel hb4)
                have HB4 := Lib.hid (HBn.out.trans (hb4.mono HSZ.out))
                have HSZ4 := Lib.hid HB4.out.size
                have HC4 := Lib.hid (HH.out _ (HWn.out.trans (hb4.mono HWn.out.size)))
                clear hb4
                go_wp2_with fail
                refine HC4.out.mono ?_
                rintro e w5 ⟨rfl, rfl⟩
                go_wp2_with (at_builtin; refine app30 w4 rfl _ _ rfl wL.heap.size _ ws y HR4.out rfl rfl (by have := HLN.out; omega) HSZ4.out ?_)
                intro v7 w7 hr7 hb7
                have HR7 : Hid (RL w7 wL.heap.size v7 (wds (52 * a + 1) (52 * i + (k + 1)))) := by rw [HSN.out]; exact hr7
                have HB7 := Lib.hid (HB4.out.trans hb7)
                clear hr7 hb7
                go_wp2_with fail
                go_roundg (52 - (k + 1))
                case measure => omega
                case rel => exact ⟨k + 1, by omega, by omega, by go_num, by have := HX.out; omega, HR7.out, HB7.out⟩
              | false =>
                rw [hc] at HG HHE
                rw [HHE.out] at HH
                have HX := Lib.hid (HST.out (by rw [HG.out]; rfl))
                clear hc HST HGO HG HHE
                go_wp2_with fail
                refine (HI.out _).mono ?_
                rintro e w4 ⟨rfl, hb4⟩
                have HB4 := Lib.hid (HWn.out.trans (hb4.mono HWn.out.size))
                have HC4 := Lib.hid (HH.out _ HB4.out)
                clear hb4
                go_wp2_with fail
                refine HC4.out.mono ?_
                rintro e w5 ⟨rfl, rfl⟩
                go_wp2_with fail
                go_ret
                rw [HX.out]
                exact ⟨rfl, HB4.out⟩
          · have hkz : ¬ (k : Int) < 52 := by omega
            obtain rfl : k = 52 := by omega
            have hr3 := HR2.out
            rw [show 52 * i + 52 = 52 * (i + 1) from by omega] at hr3
            have HR3 := Lib.hid hr3
            clear hr3
            go_wp2_with fail
            go_roundg (m - (i + 1))
            case measure => omega
            case rel => exact ⟨i + 1, by omega, by omega, by go_num, by omega, HR3.out, HB3.out⟩
      · have hltz : ¬ (i : Int) < (m : Int) := by omega
        obtain rfl : i = m := by omega
        have HS := Lib.hid HR.out.sl
        have HBx := Lib.hid (HB.out.trans (HB2.out.mono HB.out.size))
        go_wp2_with fail
        go_roundg (freshN l - (52 * a + 1))
        case measure => omega
        case rel => exact ⟨52 * a + 1, 52 * i, by have := hm.out; omega, by have := hm.out; show _ = _; omega, by omega, HS.out, HBx.out⟩
end Go.Proofs.YtknpigdpepmimaaGreatDoor

namespace Go.Proofs.YtknpigdpepmimaaGreatDoor
open Go.RowKit
def v1 : T := .mk 1 [49] [] [] []
end Go.Proofs.YtknpigdpepmimaaGreatDoor

namespace Go.Proofs.YtknpigdpepmimaaGreatDoor
open Go.RowKit
theorem sizR_lo (t : T) : -1 ≤ sizR t ∧ sizR t ≤ 1000 := by
  rcases sizR_val t with ⟨h, _⟩ | ⟨h, _, h2⟩ <;> omega
set_option maxRecDepth 100000 in
set_option maxHeartbeats 4000000 in
theorem size_aux (N : Nat) : ∀ (t : T), t.size ≤ N → ∀ (A : Option Addr) (c : Nat) (w : World), TV w w.heap.size t A c → SA t →
    Calls Tryz.prog 31 #[.agg (tv t A c)] w fun e w' => e = .returned (.int .i64 (sizR t)) ∧ Below w.heap.size w w' := by
  induction N with
  | zero => intro t ht; exact absurd ht (by cases t; rw [T.size]; omega)
  | succ N ih =>
    intro t ht A c w hv hs
    have IH := Lib.hid ih
    clear ih
    have HE := Lib.hid (sizR_eq t)
    obtain ⟨hsh, hsa⟩ := hs.parts
    have HSA := Lib.hid hsa
    have hb0 : Below w.heap.size w (w.alloc (.cells (tv t A c) 24)) := (Below.refl _ _).alloc (Nat.le_refl _) _
    have HB0 := Lib.hid hb0
    have HTA : Hid (TA (w.alloc (.cells (tv t A c) 24)) w.heap.size A t.args) := hv.ar.below hb0
    have HSZ : Hid (∀ u ∈ t.args, u.size ≤ N) := fun u hu => by have := size_arg hu; omega
    have HPR := Lib.hid (proper_any t A c (w.alloc (.cells (tv t A c) 24)) hsh hv.cap)
    obtain ⟨hcp1, hcp2⟩ := hv.cap
    have k3 : (w.alloc (.cells (tv t A c) 24)).cell? ⟨w.heap.size, 3, none⟩ = some (.slice A t.args.length c) := by simp [tv]
    have HI := Lib.hid (tv_info t A c)
    generalize tv t A c = cs at *
    obtain ⟨ys, hys⟩ : ∃ ys, ys = t.args := ⟨_, rfl⟩
    rw [← hys] at HE HTA HSZ HSA k3 hcp1
    clear hys hv hb0 hsa hs hsh
    have hyl : ys.length ≤ 9223372036854775807 := by omega
    have HF : Hid ((w.alloc (.cells cs 24)).heap[w.heap.size]? = some (.cells cs 24)) := blk_new _ _
    have hls : w.heap.size < (w.alloc (.cells cs 24)).heap.size := by simp
    generalize ownB t = ow at *
    go_enter Tryz.func31, Tryz.ntmps31
    go_wp2_with (with_reducible refine wpList_load_row rfl 24 (.tmp 1) rfl w.heap.size rfl 24 cs (0, 0) _ HF.out Tryz.underlying24 rfl HI.out ?_)
    refine HPR.out.mono ?_
    rintro e w1 ⟨rfl, hb1⟩
    have HB1 := Lib.hid (HB0.out.trans (hb1.mono HB0.out.size))
    have HTA1 := Lib.hid (HTA.out.below (hb1.mono HB0.out.size))
    have d3 := (hb1.cell (p := ⟨w.heap.size, 3, none⟩) hls).trans k3
    have hls1 : w.heap.size < w1.heap.size := by have := hb1.size; omega
    clear hb1 HB0 HTA k3 HF hls
    generalize w.alloc (.cells cs 24) = w0 at *
    cases ow with
    | false =>
      have HX : Hid (sizR t = -1) := HE.out.trans (if_pos (.inl rfl))
      go_wp2_with fail
      go_ret
      rw [HX.out]
      exact ⟨rfl, HB1.out⟩
    | true =>
      by_cases hbig : 1000 < ys.length
      · have HX : Hid (sizR t = -1) := HE.out.trans (if_pos (.inr hbig))
        have hbz : (1000 : Int) < (ys.length : Int) := by omega
        clear hbig
        go_wp2_with fail
        go_ret
        rw [HX.out]
        exact ⟨rfl, HB1.out⟩
      · have HX : Hid (sizR t = sizRs ys 1) := HE.out.trans (if_neg (fun h => h.elim (fun h => by cases h) hbig))
        have hbz : ¬ (1000 : Int) < (ys.length : Int) := by omega
        clear hbig HE
        go_wp2_with fail
        go_loopg [3, 4] ys.length (fun gg s3 s4 wr => ∃ (i : Nat) (mi : Int), i ≤ ys.length ∧ ys.length - i ≤ gg ∧ s4 = .int .i64 i ∧ s3 = .int .i64 mi ∧ 0 ≤ mi ∧ mi ≤ 1000 ∧ Aside (sizRs ys 1 = sizRs (ys.drop i) mi) ∧ Aside (Below w1.heap.size w1 wr))
        case atStart => exact ⟨0, 1, Nat.zero_le _, by omega, rfl, rfl, by omega, by omega, rfl, Below.refl _ _⟩
        case round =>
          obtain ⟨i, mi, hi, hgg, rfl, rfl, hmi1, hmi2, HQ, HB⟩ := hrel
          have HBw := Lib.hid (HB1.out.trans (HB.out.mono HB1.out.size))
          have k3r : wr.cell? ⟨w.heap.size, 3, none⟩ = some (.slice A ys.length c) := (HB.out.cell (p := ⟨w.heap.size, 3, none⟩) hls1).trans d3
          by_cases hlt : i < ys.length
          · have hltz : (i : Int) < (ys.length : Int) := by omega
            obtain ⟨b', o', rfl, hRi⟩ := (HTA1.out.below (HB.out.mono HB1.out.size)).at_ hlt
            obtain ⟨_, d0, d1, d2, d4, A2, c2, d3', hcp3, hTA2⟩ := hRi.parts
            have HTV : Hid (TV wr wr.heap.size ys[i] A2 c2) := ⟨hcp3, hTA2.more HBw.out.size⟩
            have HD : Hid (sizRs (ys.drop i) mi = if sizR ys[i] < 0 ∨ 1000 < mi + sizR ys[i] then -1 else sizRs (ys.drop (i + 1)) (mi + sizR ys[i])) := by
              show sizRs (ys.drop i) mi = _
              rw [List.drop_eq_getElem_cons hlt, sizRs]
            have HCall := Lib.hid (IH.out ys[i] (HSZ.out _ (List.getElem_mem hlt)) A2 c2 wr HTV.out (HSA.out.mem (List.getElem_mem hlt)))
            obtain ⟨hlo1, hlo2⟩ := sizR_lo ys[i]
            clear hRi hcp3 hTA2 HTV
            unfold tv at HCall
            generalize sizR ys[i] = r at *
            generalize ys[i] = u at *
            go_wp2_with fail
            refine HCall.out.mono ?_
            rintro e w2 ⟨rfl, hb2⟩
            have HB2 := Lib.hid (HB.out.trans (hb2.mono HB.out.size))
            have HBw2 := Lib.hid (HBw.out.trans (hb2.mono HBw.out.size))
            clear hb2 HCall d0 d1 d2 d3' d4
            by_cases hneg : r < 0
            · have HY : Hid (sizR t = -1) := HX.out.trans (HQ.out.trans (HD.out.trans (if_pos (.inl hneg))))
              go_wp2_with fail
              go_ret
              rw [HY.out]
              exact ⟨rfl, HBw2.out⟩
            · by_cases hov : 1000 < mi + r
              · have HY : Hid (sizR t = -1) := HX.out.trans (HQ.out.trans (HD.out.trans (if_pos (.inr hov))))
                go_wp2_with fail
                go_ret
                rw [HY.out]
                exact ⟨rfl, HBw2.out⟩
              · have HY : Hid (sizRs ys 1 = sizRs (ys.drop (i + 1)) (mi + r)) := HQ.out.trans (HD.out.trans (if_neg (fun h => h.elim hneg hov)))
                go_wp2_with fail
                go_roundg (ys.length - (i + 1))
                case measure => omega
                case rel => exact ⟨i + 1, mi + r, by omega, by omega, by go_num, rfl, by omega, by omega, HY.out, HB2.out⟩
          · have hltz : ¬ (i : Int) < (ys.length : Int) := by omega
            have HY : Hid (sizR t = mi) := by
              show sizR t = mi
              rw [HX.out, HQ.out, List.drop_eq_nil_of_le (by omega), sizRs]
            go_wp2_with fail
            go_ret
            rw [HY.out]
            exact ⟨rfl, HBw.out⟩
theorem size38_any (t : T) (A : Option Addr) (c : Nat) (w : World) (hv : TV w w.heap.size t A c) (hs : SA t) :
    Calls Tryz.prog 31 #[.agg (tv t A c)] w fun e w' => e = .returned (.int .i64 (sizR t)) ∧ Below w.heap.size w w' := size_aux t.size t (Nat.le_refl _) A c w hv hs
set_option maxHeartbeats 1000000 in
theorem rvalid_any (t : T) (A : Option Addr) (c : Nat) (w : World) (hv : TV w w.heap.size t A c) (hs : SA t) :
    Calls Tryz.prog 11 #[.agg (tv t A c)] w fun e w' => e = .returned (.bool (validB t)) ∧ Below w.heap.size w w' := by
  have hb0 : Below w.heap.size w (w.alloc (.cells (tv t A c) 24)) := (Below.refl _ _).alloc (Nat.le_refl _) _
  have HB0 := Lib.hid hb0
  have HC := Lib.hid (size38_any t A c _ ((hv.below hb0).more hb0.size) hs)
  have HP := Lib.hid (sizR_valid t)
  have hpos := size_pos t
  have HI := Lib.hid (tv_info t A c)
  clear hv hs hb0
  generalize tv t A c = cs at *
  generalize sizR t = n at *
  generalize t.size = m at *
  have HF : Hid ((w.alloc (.cells cs 24)).heap[w.heap.size]? = some (.cells cs 24)) := blk_new _ _
  cases hvb : validB t with
  | true =>
    rw [hvb] at HP
    have hn : 0 < n := by have := HP.out; rw [if_pos rfl] at this; omega
    clear hvb HP
    go_enter Tryz.func11, Tryz.ntmps11
    go_wp2_with (with_reducible refine wpList_load_row rfl 24 (.tmp 1) rfl w.heap.size rfl 24 cs (0, 0) _ HF.out Tryz.underlying24 rfl HI.out ?_)
    refine HC.out.mono ?_
    rintro e w1 ⟨rfl, hb1⟩
    have HB1 := Lib.hid (HB0.out.trans (hb1.mono HB0.out.size))
    clear hb1
    go_wp2_with fail
    go_ret
    exact ⟨by first | rfl | simp [hn], HB1.out⟩
  | false =>
    rw [hvb] at HP
    have hn : ¬ 0 < n := by have := HP.out; rw [if_neg (by decide)] at this; omega
    clear hvb HP
    go_enter Tryz.func11, Tryz.ntmps11
    go_wp2_with (with_reducible refine wpList_load_row rfl 24 (.tmp 1) rfl w.heap.size rfl 24 cs (0, 0) _ HF.out Tryz.underlying24 rfl HI.out ?_)
    refine HC.out.mono ?_
    rintro e w1 ⟨rfl, hb1⟩
    have HB1 := Lib.hid (HB0.out.trans (hb1.mono HB0.out.size))
    clear hb1
    go_wp2_with fail
    go_ret
    exact ⟨by first | rfl | simp [hn], HB1.out⟩
end Go.Proofs.YtknpigdpepmimaaGreatDoor
