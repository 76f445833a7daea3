/- Contracts of the reference's with, union, without. -/
import Derived.Test.YtkjhfbgdmmnadaaGreatRLs
import Derived.Test.YtkjhfbgdmmnadaaGreatPlF
namespace Go.Proofs.YtkjhfbgdmmnadaaGreat
open Go.RowKit

/-- one name appended to a slice that the call made -/
theorem app30 {ops : Array Oper} {rest : List Oper} {o : Oper} {a : Act} {Q : Exit → Act → World → Prop} (w : World) (hgd : o.guard = none) (s x : Operand)
    (ho : o.op = .call { callee := .builtin .append, args := #[s, x], argTypes := #[30, 30] }) (B : Nat) (v : Value) (l : List W8) (y : W8) (hown : RL w B v l) (hs : a.eval s = v)
    (hx : a.eval x = .slice (some ⟨w.heap.size, 0, none⟩) 1 1) (hl : l.length ≤ 1000000) (hB : B ≤ w.heap.size)
    (h : ∀ v' w', RL w' B v' (l ++ [y]) → Below B w w' → wpList Tryz.prog ops Q rest (a.put o.dst v') w') : wpList Tryz.prog ops Q (o :: rest) a (w.alloc (.cells #[.string ⟨y.toArray⟩] 9)) := by
  obtain ⟨i0, hi0, hz0, hz1, hz2⟩ := info_parts str_info
  have hown' : (w.alloc (.cells #[.string ⟨y.toArray⟩] 9)).ownsRow B 9 1 v l.length (l.map encS) := World.ownsRow.alloc hown _
  refine wpList_append_lies _ hgd s x 30 ho B 9 i0 _ 1 16 Tryz.underlying30 hi0 hz0 hz1 hz2 rfl (by decide) v l.length _ hs hown' ⟨w.heap.size, 0, none⟩ 1 1 [.string ⟨y.toArray⟩] hx rfl (fun j u hu => ?_) (fun u hu => ?_) (by decide) (by unfold maxLen; omega) (by omega) (by simp; omega) _ rfl ?_
  · cases j with
    | zero => simp at hu; subst hu; simp [go_sem]
    | succ j => simp at hu
  · simp at hu; subst hu; rfl
  · intro g cap w' h1 h2 _ _
    refine h _ w' ?_ ?_
    · unfold RL
      rw [List.length_append, List.map_append]
      exact h1
    · exact ((Below.refl B w).alloc hB _).grown h2 (by simp; omega) (fun k hk => (hown'.lt k hk).1)
theorem RL.bel {w w' : World} {B : Nat} {v : Value} {l : List W8} (h : RL w B v l) (hb : Below w.heap.size w w') : RL w' B v l :=
  World.ownsRow.kept h (row := none) ⟨hb.os, hb.tape, hb.output, hb.size, fun k hk _ => hb.block k hk⟩ (by cases v.ownBlock <;> simp)
def OL (d : Bool) (n i : Nat) : Prop := n ≤ i ∨ (d = true ∧ n ≤ i + 1)
def pickL (d : Bool) (a b : List W8) : List W8 := match d with | true => a | false => b
theorem pickL_t (a b : List W8) : pickL true a b = a := rfl
theorem pickL_f (a b : List W8) : pickL false a b = b := rfl

set_option maxRecDepth 100000 in
set_option maxHeartbeats 2000000 in
theorem with44_own (v : Value) (l : List W8) (s : W8) (w : World) (hv : SL w w.heap.size v l) (hl : l.length ≤ 900000) (hw : Wds l) (hs : wordB s = true) :
    Calls Tryz.prog 18 #[v, .string ⟨s.toArray⟩] w fun e w' => ∃ v', e = .returned v' ∧ ((v' = v ∧ withL l s = l) ∨ RL w' w.heap.size v' (withL l s)) ∧ SL w' w'.heap.size v' (withL l s) ∧ Below w.heap.size w w' := by
  have HH := Lib.hid (has35_any _ v l s w hv)
  have HV := Lib.hid hv
  have HW := Lib.hid hw
  have HS := Lib.hid hs
  have HE : Hid (withL l s = if hasB l s = true then l else insL s l) := rfl
  clear hw hs
  cases hh : hasB l s with
  | true =>
    have HX : Hid (withL l s = l) := by show withL l s = l; rw [HE.out, hh]; rfl
    rw [hh] at HH
    clear hh HE hv
    go_enter Tryz.func18, Tryz.ntmps18
    go_wp2_with fail
    refine HH.out.mono ?_
    rintro e w1 ⟨rfl, rfl⟩
    go_wp2_with fail
    go_ret
    rw [HX.out]
    exact ⟨v, rfl, .inl ⟨rfl, rfl⟩, HV.out, Below.refl _ _⟩
  | false =>
    have HX : Hid (withL l s = insL s l) := by show withL l s = insL s l; rw [HE.out, hh]; rfl
    rw [hh] at HH
    obtain ⟨A, c, rfl, ⟨hc1, hc2⟩, hcell⟩ := hv
    have HCELL := Lib.hid hcell
    clear hh HE hcell
    go_enter Tryz.func18, Tryz.ntmps18
    go_wp2_with fail
    refine HH.out.mono ?_
    rintro e w1 ⟨rfl, rfl⟩
    go_wp2_with fail
    go_loopg [5, 6, 7] l.length (fun gg s5 s6 s7 wr => ∃ (i : Nat) (out : List W8) (d : Bool), i ≤ l.length ∧ l.length - i ≤ gg ∧ s7 = .int .i64 i ∧ s6 = .bool d ∧ Aside (OL d out.length i) ∧ Aside (insL s l = pickL d (out ++ l.drop i) (out ++ insL s (l.drop i))) ∧ Aside (RL wr w.heap.size s5 out) ∧ Aside (Below w.heap.size w wr))
    case atStart => exact ⟨0, [], false, Nat.zero_le _, by omega, rfl, rfl, .inl (by simp), rfl, World.ownsRow_nil _ _ _ _, Below.refl _ _⟩
    case round =>
      obtain ⟨i, out, d, hi, hgg, rfl, rfl, hol, HQ, HR, HB⟩ := hrel
      by_cases hlt : i < l.length
      · have hltz : (i : Int) < (l.length : Int) := by omega
        obtain ⟨b, o, rfl, hb, hx⟩ := HCELL.out (by intro e; rw [e] at hlt; simp at hlt)
        have hck0 := hx i hlt
        have hck : wr.cell? ⟨b, o + i, none⟩ = some (.string ⟨l[i].toArray⟩) := (HB.out.cell (p := ⟨b, o + i, none⟩) hb).trans hck0
        have HSZ := Lib.hid HB.out.size
        have HLW := Lib.hid (HW.out l[i] (List.getElem_mem hlt))
        have HD : Hid (l.drop i = l[i] :: l.drop (i + 1)) := List.drop_eq_getElem_cons hlt
        clear hck0 hx
        have HLS := Lib.hid (fun ww => less65_any ⟨s.toArray⟩ ⟨l[i].toArray⟩ ww (by simpa using HS.out) (by simpa using HLW.out))
        have HLS2 : Hid (∀ ww, Calls Tryz.prog 30 #[.string ⟨s.toArray⟩, .string ⟨l[i].toArray⟩] ww fun e w' => e = .returned (.bool (ltL s l[i])) ∧ ∃ n, w' = ww.drewN n) := fun ww => by simpa using HLS.out ww
        clear HLS
        obtain ⟨y, hy⟩ : ∃ y, y = l[i] := ⟨_, rfl⟩
        have HY := Lib.hid hy
        rw [← hy] at hck HLS2 HD
        clear hy
        go_upto_region 8 with (fail)
        go_cut [27] (fun s27 wx => s27 = .bool (!d && ltL s y) ∧ ∃ n, wx = wr.drewN n)
        case first =>
          cases d with
          | true =>
            go_wp2_with fail
            go_meet
            case rel => exact ⟨rfl, 0, rfl⟩
          | false =>
            go_wp2_with fail
            refine (HLS2.out _).mono ?_
            rintro e w2 ⟨rfl, n, rfl⟩
            go_wp2_with fail
            go_meet
            case rel => exact ⟨rfl, n, rfl⟩
        case rest =>
          obtain ⟨rfl, n, rfl⟩ := hcut
          have hbn : Below wr.heap.size wr (wr.drewN n) := below_drewNB (Below.refl _ _) n
          have HRn := Lib.hid (HR.out.bel hbn)
          have HBn := Lib.hid (HB.out.trans (hbn.mono HSZ.out))
          have hckn : (wr.drewN n).cell? ⟨b, o + i, none⟩ = some (.string ⟨y.toArray⟩) := (hbn.cell (p := ⟨b, o + i, none⟩) (show b < wr.heap.size by have := HSZ.out; omega)).trans hck
          clear hbn hck HR HB HSZ HLS2
          generalize wr.drewN n = wn at *
          have HSZ := Lib.hid HBn.out.size
          have HBL := Lib.hid hb
          have hol2 : out.length ≤ 900000 := by rcases hol.out with h | h <;> omega
          cases hq : (!d && ltL s y) with
          | true =>
            have hd : d = false := by cases d with
              | false => rfl
              | true => simp at hq
            subst hd
            have HOL : Hid (OL true (out ++ [s, y]).length (i + 1)) := .inr ⟨rfl, by simp; rcases hol.out with h | h; omega; cases h.1⟩
            have hlt2 : ltL s y = true := by simpa using hq
            have HQ2 : Hid (insL s l = pickL true ((out ++ [s, y]) ++ l.drop (i + 1)) ((out ++ [s, y]) ++ insL s (l.drop (i + 1)))) := by
              show insL s l = _
              rw [HQ.out, pickL_t, pickL_f, HD.out, insL, if_pos hlt2]; simp
            clear hq hlt2
            go_wp2_with (at_builtin; refine app30 wn rfl _ _ rfl w.heap.size _ out s HRn.out rfl rfl (by omega) HSZ.out ?_)
            intro v7 w7 hr7 hb7
            have HR7 := Lib.hid hr7
            have HB7 := Lib.hid (HBn.out.trans hb7)
            have HSZ7 := Lib.hid HB7.out.size
            have hck7 : w7.cell? ⟨b, o + i, none⟩ = some (.string ⟨y.toArray⟩) := (hb7.cell (p := ⟨b, o + i, none⟩) hb).trans hckn
            clear hr7 hb7 hckn
            go_wp2_with (at_builtin; refine app30 w7 rfl _ _ rfl w.heap.size _ (out ++ [s]) y HR7.out rfl rfl (by simp; omega) HSZ7.out ?_)
            intro v8 w8 hr8 hb8
            have HR8 := Lib.hid hr8
            have HB8 := Lib.hid (HB7.out.trans hb8)
            clear hr8 hb8 hck7
            go_wp2_with fail
            go_roundg (l.length - (i + 1))
            case measure => omega
            case rel => exact ⟨i + 1, out ++ [s, y], true, by omega, by omega, by go_num, rfl, HOL.out, HQ2.out, HR8.out, HB8.out⟩
          | false =>
            have HOL : Hid (OL d (out ++ [y]).length (i + 1)) := by
              rcases hol.out with h | h
              · exact .inl (by simp; omega)
              · exact .inr ⟨h.1, by simp; omega⟩
            have HQ2 : Hid (insL s l = pickL d ((out ++ [y]) ++ l.drop (i + 1)) ((out ++ [y]) ++ insL s (l.drop (i + 1)))) := by
              show insL s l = _
              cases d with
              | true => rw [HQ.out, pickL_t, pickL_t, HD.out]; simp
              | false =>
                have hlt2 : ltL s y = false := by simpa using hq
                rw [HQ.out, pickL_f, pickL_f, HD.out, insL, if_neg (by rw [hlt2]; decide)]; simp
            clear hq
            go_wp2_with (at_builtin; refine app30 wn rfl _ _ rfl w.heap.size _ out y HRn.out rfl rfl (by omega) HSZ.out ?_)
            intro v8 w8 hr8 hb8
            have HR8 := Lib.hid hr8
            have HB8 := Lib.hid (HBn.out.trans hb8)
            clear hr8 hb8 hckn
            go_wp2_with fail
            go_roundg (l.length - (i + 1))
            case measure => omega
            case rel => exact ⟨i + 1, out ++ [y], d, by omega, by omega, by go_num, rfl, HOL.out, HQ2.out, HR8.out, HB8.out⟩
      · have hltz : ¬ (i : Int) < (l.length : Int) := by omega
        have HSZ := Lib.hid HB.out.size
        have hol2 : out.length ≤ 900001 := by rcases hol.out with h | h <;> omega
        cases d with
        | true =>
          have HY : Hid (withL l s = out) := by
            show withL l s = out
            rw [HX.out, HQ.out, pickL_t, List.drop_eq_nil_of_le (by omega), List.append_nil]
          go_wp2_with fail
          go_ret
          rw [HY.out]
          exact ⟨_, rfl, .inr HR.out, HR.out.sl, HB.out⟩
        | false =>
          have HY : Hid (withL l s = out ++ [s]) := by
            show withL l s = out ++ [s]
            rw [HX.out, HQ.out, pickL_f, List.drop_eq_nil_of_le (by omega), insL]
          go_wp2_with (at_builtin; refine app30 wr rfl _ _ rfl w.heap.size _ out s HR.out rfl rfl (by omega) HSZ.out ?_)
          intro v8 w8 hr8 hb8
          have HR8 := Lib.hid hr8
          have HB8 := Lib.hid (HB.out.trans hb8)
          clear hr8 hb8
          go_wp2_with fail
          go_ret
          rw [HY.out]
          exact ⟨_, rfl, .inr HR8.out, HR8.out.sl, HB8.out⟩

theorem with44_any (v : Value) (l : List W8) (s : W8) (w : World) (hv : SL w w.heap.size v l) (hl : l.length ≤ 900000) (hw : Wds l) (hs : wordB s = true) :
    Calls Tryz.prog 18 #[v, .string ⟨s.toArray⟩] w fun e w' => ∃ v', e = .returned v' ∧ SL w' w'.heap.size v' (withL l s) ∧ Below w.heap.size w w' :=
  (with44_own v l s w hv hl hw hs).mono fun _ _ ⟨v', h1, _, h2, h3⟩ => ⟨v', h1, h2, h3⟩
theorem RL.next {w w' : World} {B : Nat} {v v' : Value} {l l' : List W8} (h : RL w B v l) (hb : Below w.heap.size w w') (hB : B ≤ w.heap.size) (ho : (v' = v ∧ l' = l) ∨ RL w' w.heap.size v' l') : RL w' B v' l' := by
  rcases ho with ⟨rfl, rfl⟩ | h2
  · exact h.bel hb
  · exact h2.mono hB
theorem own_step {wr w2 : World} {B : Nat} {v s0 v3 : Value} {a acc acc3 : List W8} (h : (s0 = v ∧ acc = a) ∨ RL wr B s0 acc) (ho : (v3 = s0 ∧ acc3 = acc) ∨ RL w2 wr.heap.size v3 acc3) (hb : Below wr.heap.size wr w2) (hB : B ≤ wr.heap.size) : (v3 = v ∧ acc3 = a) ∨ RL w2 B v3 acc3 := by
  rcases ho with ⟨rfl, rfl⟩ | h2
  · rcases h with h | h
    · exact .inl h
    · exact .inr (h.bel hb)
  · exact .inr (h2.mono hB)
set_option maxRecDepth 100000 in
set_option maxHeartbeats 2000000 in
theorem union45_own (v v2 : Value) (a b : List W8) (w : World) (hv : SL w w.heap.size v a) (hv2 : SL w w.heap.size v2 b) (hl : a.length + b.length ≤ 900000) (hwa : Wds a) (hwb : Wds b) :
    Calls Tryz.prog 19 #[v, v2] w fun e w' => ∃ v', e = .returned v' ∧ ((v' = v ∧ unionL a b = a) ∨ RL w' w.heap.size v' (unionL a b)) ∧ SL w' w'.heap.size v' (unionL a b) ∧ Below w.heap.size w w' := by
  have HV := Lib.hid hv
  have HWB := Lib.hid hwb
  have HV2 := Lib.hid hv2
  obtain ⟨A, c, rfl, ⟨hc1, hc2⟩, hcell⟩ := hv2
  have HCELL := Lib.hid hcell
  have HS : Hid (Srtd [] ∧ Wds a) := ⟨by unfold Srtd; simp, hwa⟩
  clear hcell hv hwa hwb
  go_enter Tryz.func19, Tryz.ntmps19
  go_wp2_with fail
  go_loopg [0, 5] b.length (fun gg s0 s5 wr => ∃ (i : Nat) (acc : List W8), i ≤ b.length ∧ b.length - i ≤ gg ∧ s5 = .int .i64 i ∧ acc.length ≤ a.length + i ∧ Aside (unionL a b = unionL acc (b.drop i)) ∧ Aside (Wds acc) ∧ Aside ((s0 = v ∧ acc = a) ∨ RL wr w.heap.size s0 acc) ∧ Aside (SL wr wr.heap.size s0 acc) ∧ Aside (Below w.heap.size w wr))
  case atStart => exact ⟨0, a, Nat.zero_le _, by omega, rfl, by omega, rfl, HS.out.2, .inl ⟨rfl, rfl⟩, HV.out, Below.refl _ _⟩
  case round =>
    obtain ⟨i, acc, hi, hgg, rfl, hal, HQ, HWA, HOW, HA, HB⟩ := hrel
    by_cases hlt : i < b.length
    · have hltz : (i : Int) < (b.length : Int) := by omega
      obtain ⟨bb, o, rfl, hb, hx⟩ := HCELL.out (by intro e; rw [e] at hlt; simp at hlt)
      have hck : wr.cell? ⟨bb, o + i, none⟩ = some (.string ⟨b[i].toArray⟩) := (HB.out.cell (p := ⟨bb, o + i, none⟩) hb).trans (hx i hlt)
      have HSZ := Lib.hid HB.out.size
      have HLW := Lib.hid (HWB.out b[i] (List.getElem_mem hlt))
      have HD : Hid (unionL acc (b.drop i) = unionL (withL acc b[i]) (b.drop (i + 1))) := by
        show unionL acc (b.drop i) = _
        rw [List.drop_eq_getElem_cons hlt]
        unfold unionL
        rw [List.foldl_cons]
      clear hx
      generalize b[i] = y at *
      have HL := Lib.hid (withL_len acc y)
      have HC := Lib.hid (with44_own _ acc y wr HA.out (by omega) HWA.out HLW.out)
      go_wp2_with fail
      refine HC.out.mono ?_
      rintro e w2 ⟨v3, rfl, ho3, hs3, hb3⟩
      have HOW3 := Lib.hid (own_step HOW.out ho3 hb3 HSZ.out)
      have HS3 := Lib.hid hs3
      have HB3 := Lib.hid (HB.out.trans (hb3.mono HSZ.out))
      have HQ3 := Lib.hid (HQ.out.trans HD.out)
      have HW3 : Hid (Wds (withL acc y)) := Wds.with HWA.out HLW.out
      clear hs3 hb3 HC ho3 HOW
      have hl3 : (withL acc y).length ≤ a.length + (i + 1) := by have := HL.out; omega
      generalize withL acc y = acc3 at *
      go_wp2_with fail
      go_roundg (b.length - (i + 1))
      case measure => omega
      case rel => exact ⟨i + 1, acc3, by omega, by omega, by go_num, hl3, HQ3.out, HW3.out, HOW3.out, HS3.out, HB3.out⟩
    · have hltz : ¬ (i : Int) < (b.length : Int) := by omega
      have HY : Hid (unionL a b = acc) := by
        show unionL a b = acc
        rw [HQ.out, List.drop_eq_nil_of_le (by omega)]; rfl
      go_wp2_with fail
      go_ret
      rw [HY.out]
      exact ⟨_, rfl, HOW.out, HA.out, HB.out⟩
theorem union45_any (v v2 : Value) (a b : List W8) (w : World) (hv : SL w w.heap.size v a) (hv2 : SL w w.heap.size v2 b) (hl : a.length + b.length ≤ 900000) (hwa : Wds a) (hwb : Wds b) :
    Calls Tryz.prog 19 #[v, v2] w fun e w' => ∃ v', e = .returned v' ∧ SL w' w'.heap.size v' (unionL a b) ∧ Below w.heap.size w w' :=
  (union45_own v v2 a b w hv hv2 hl hwa hwb).mono fun _ _ ⟨v', h1, _, h2, h3⟩ => ⟨v', h1, h2, h3⟩

theorem without_snoc (l : List W8) (s : W8) (k : Nat) (hk : k < l.length) : withoutL (l.take (k + 1)) s = withoutL (l.take k) s ++ if l[k] = s then [] else [l[k]] := by
  unfold withoutL
  rw [List.take_succ_eq_append_getElem hk, List.filter_append]
  congr 1
  by_cases h : l[k] = s <;> simp [h]
theorem without_len (l : List W8) (s : W8) (k : Nat) : (withoutL (l.take k) s).length ≤ k := by
  unfold withoutL
  refine Nat.le_trans (List.length_filter_le _ _) ?_
  rw [List.length_take]; omega
set_option maxRecDepth 100000 in
set_option maxHeartbeats 2000000 in
theorem without61_any (v : Value) (l : List W8) (s : W8) (w : World) (hv : SL w w.heap.size v l) (hl : l.length ≤ 900000) :
    Calls Tryz.prog 31 #[v, .string ⟨s.toArray⟩] w fun e w' => ∃ v', e = .returned v' ∧ SL w' w'.heap.size v' (withoutL l s) ∧ Below w.heap.size w w' := by
  obtain ⟨A, c, rfl, ⟨hc1, hc2⟩, hcell⟩ := hv
  have HCELL := Lib.hid hcell
  clear hcell
  go_enter Tryz.func31, Tryz.ntmps31
  go_wp2_with fail
  go_loopg [5, 6] l.length (fun gg s5 s6 wr => ∃ (i : Nat), i ≤ l.length ∧ l.length - i ≤ gg ∧ s6 = .int .i64 i ∧ Aside (RL wr w.heap.size s5 (withoutL (l.take i) s)) ∧ Aside (Below w.heap.size w wr))
  case atStart => exact ⟨0, Nat.zero_le _, by omega, rfl, World.ownsRow_nil _ _ _ _, Below.refl _ _⟩
  case round =>
    obtain ⟨i, hi, hgg, rfl, HR, HB⟩ := hrel
    by_cases hlt : i < l.length
    · have hltz : (i : Int) < (l.length : Int) := by omega
      obtain ⟨b, o, rfl, hb, hx⟩ := HCELL.out (by intro e; rw [e] at hlt; simp at hlt)
      have hck : wr.cell? ⟨b, o + i, none⟩ = some (.string ⟨l[i].toArray⟩) := (HB.out.cell (p := ⟨b, o + i, none⟩) hb).trans (hx i hlt)
      have HSZ := Lib.hid HB.out.size
      have HD := Lib.hid (without_snoc l s i hlt)
      have hln := without_len l s i
      clear hx
      generalize l[i] = y at *
      by_cases he : y = s
      · have HX : Hid (withoutL (l.take (i + 1)) s = withoutL (l.take i) s) := by show _ = _; rw [HD.out, if_pos he, List.append_nil]
        have hb1 : (y == s) = true := by simpa using he
        have hb2 : (y != s) = false := by simp [he]
        clear he HD
        generalize withoutL (l.take i) s = acc at *
        go_wp2_with fail
        go_roundg (l.length - (i + 1))
        case measure => omega
        case rel => exact ⟨i + 1, by omega, by omega, by go_num, by rw [HX.out]; exact HR.out, HB.out⟩
      · have HX : Hid (withoutL (l.take (i + 1)) s = withoutL (l.take i) s ++ [y]) := by show _ = _; rw [HD.out, if_neg he]
        have hb1 : (y == s) = false := by simpa using he
        have hb2 : (y != s) = true := by simp [he]
        clear he HD
        generalize withoutL (l.take i) s = acc at *
        go_wp2_with (at_builtin; refine app30 wr rfl _ _ rfl w.heap.size _ acc y HR.out rfl rfl (by omega) HSZ.out ?_)
        intro v8 w8 hr8 hb8
        have HR8 := Lib.hid hr8
        have HB8 := Lib.hid (HB.out.trans hb8)
        clear hr8 hb8 hck
        go_wp2_with fail
        go_roundg (l.length - (i + 1))
        case measure => omega
        case rel => exact ⟨i + 1, by omega, by omega, by go_num, by rw [HX.out]; exact HR8.out, HB8.out⟩
    · have hltz : ¬ (i : Int) < (l.length : Int) := by omega
      have HY : Hid (withoutL l s = withoutL (l.take i) s) := by
        show withoutL l s = _
        rw [List.take_of_length_le (by omega)]
      go_wp2_with fail
      go_ret
      rw [HY.out]
      exact ⟨_, rfl, HR.out.sl, HB.out⟩
end Go.Proofs.YtkjhfbgdmmnadaaGreat
