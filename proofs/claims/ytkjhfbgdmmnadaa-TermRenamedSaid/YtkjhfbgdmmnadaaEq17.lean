/- Contract of Equal 17: a stack of pairs of subterms. -/
import Derived.Test.YtkjhfbgdmmnadaaREq
import Derived.Deep.AppendLies
import Derived.Deep.RegionHeldLaw
import Derived.Laws.OwnMore
import Derived.Test.YtkjhfbgdmmnadaaVis
namespace Go.Proofs.Ytkjhfbgdmmnadaa
open Go.RowKit

mutual
theorem lft_size (t : T) (m : Int) (h : 0 ≤ lft t m) : lft t m = m - t.size := by
  cases t with
  | mk k n v ys f =>
    rw [lft] at h ⊢
    rw [T.size]
    split at h
    · omega
    · rename_i hc
      rw [if_neg hc, lfts_size ys (m - 1) h]; omega
theorem lfts_size (ts : List T) (m : Int) (h : 0 ≤ lfts ts m) : lfts ts m = m - sizes ts := by
  cases ts with
  | nil => rw [lfts, sizes]; omega
  | cons t ts =>
    rw [lfts] at h ⊢
    rw [sizes]
    split at h
    · rename_i hm
      have h2 := lfts_size ts _ h
      have h3 : 0 ≤ lft t m := by have := lft_le t m hm; have := lfts_le ts (lft t m) this.1; omega
      rw [if_pos hm, h2, lft_size t m h3]; omega
    · omega
end
theorem few_size {t : T} (h : fewB t = true) : t.size ≤ 200 := by
  have h0 : 0 ≤ lft t 200 := of_decide_eq_true h
  have := lft_size t 200 h0
  omega
structure Pr where
  b : Nat
  o : Nat
  b' : Nat
  o' : Nat
  t : T
  u : T
def pcell (p : Pr) : List Value := [.pointer (some ⟨p.b, p.o, none⟩), .pointer (some ⟨p.b', p.o', none⟩)]
def pcs : List Pr → List Value
  | [] => []
  | p :: l => pcs l ++ pcell p
def ssz : List Pr → Nat | [] => 0 | p :: l => p.t.size + ssz l
def allE : List Pr → Bool | [] => true | p :: l => eqT p.t p.u && allE l
def Gd (w : World) (B : Nat) : List Pr → Prop | [] => True | p :: l => (TR w B p.b p.o p.t ∧ TR w B p.b' p.o' p.u) ∧ Gd w B l
theorem Gd.below {w w' : World} {B : Nat} : ∀ {l : List Pr}, Gd w B l → Below B w w' → Gd w' B l
  | [], _, _ => trivial
  | _ :: _, h, hb => ⟨⟨h.1.1.below hb, h.1.2.below hb⟩, h.2.below hb⟩
theorem pcs_len : ∀ l : List Pr, (pcs l).length = l.length * 2
  | [] => rfl
  | p :: l => by rw [pcs, List.length_append, pcs_len l, List.length_cons]; show _ + 2 = _; omega
theorem ssz_len : ∀ l : List Pr, l.length ≤ ssz l
  | [] => Nat.le_refl _
  | p :: l => by have := ssz_len l; have := size_pos p.t; rw [ssz, List.length_cons]; omega
/-- the stack in memory, its top last -/
def OR (w : World) (B g cap : Nat) (l : List Pr) : Prop := w.ownsRow B 52 2 (.slice (some ⟨g, 0, none⟩) l.length cap) l.length (pcs l)
theorem OR.parts {w : World} {B g cap : Nat} {l : List Pr} (h : OR w B g cap l) : ∃ cur, B ≤ g ∧ w.heap[g]? = some (.cells cur 52 (0, 0)) ∧ l.length ≤ cap ∧ cap ≤ maxLen ∧ cur.size = cap * 2 ∧ cur.toList.take (l.length * 2) = pcs l := by
  rcases h.2 with ⟨h1, _⟩ | ⟨g', cap', cur, h1, h2, h3, h4, h5, h6, h7⟩
  · cases h1
  · injection h1 with h1 _ h8
    injection h1 with h1
    injection h1 with h1
    subst h1 h8
    exact ⟨cur, h2, h3, h4, h5, h6, h7⟩
theorem OR.pop {w : World} {B g cap : Nat} {p : Pr} {l : List Pr} (h : OR w B g cap (p :: l)) : OR w B g cap l := by
  obtain ⟨cur, h1, h2, h3, h4, h5, h6⟩ := h.parts
  refine ⟨pcs_len l, .inr ⟨g, cap, cur, rfl, h1, h2, by rw [List.length_cons] at h3; omega, h4, h5, ?_⟩⟩
  have e : (cur.toList.take ((p :: l).length * 2)).take (l.length * 2) = (pcs (p :: l)).take (l.length * 2) := by rw [h6]
  rw [List.take_take, List.length_cons, Nat.min_eq_left (by omega), pcs, List.take_left' (pcs_len l)] at e
  exact e
theorem OR.top {w : World} {B g cap : Nat} {p : Pr} {l : List Pr} (h : OR w B g cap (p :: l)) :
    w.cell? ⟨g, l.length * 2, none⟩ = some (.pointer (some ⟨p.b, p.o, none⟩)) ∧ w.cell? ⟨g, l.length * 2 + 1, none⟩ = some (.pointer (some ⟨p.b', p.o', none⟩)) := by
  have h1 := World.ownsRow.cellAt h (l.length * 2) (by rw [List.length_cons]; omega)
  have h2 := World.ownsRow.cellAt h (l.length * 2 + 1) (by rw [List.length_cons]; omega)
  have e := pcs_len l
  rw [h1, h2, pcs, List.getElem?_append_right (by omega), List.getElem?_append_right (by omega), e, Nat.sub_self, show l.length * 2 + 1 - l.length * 2 = 1 from by omega]
  exact ⟨rfl, rfl⟩
theorem OR.lt {w : World} {B g cap : Nat} {l : List Pr} (h : OR w B g cap l) : B ≤ g ∧ g < w.heap.size := by
  obtain ⟨cur, h1, h2, _⟩ := h.parts
  exact ⟨h1, (Array.getElem?_eq_some_iff.1 h2).1⟩
theorem OR.bel {w w' : World} {B g cap : Nat} {l : List Pr} (h : OR w B g cap l) (hb : Below w.heap.size w w') : OR w' B g cap l :=
  World.ownsRow.kept h (row := none) ⟨hb.os, hb.tape, hb.output, hb.size, fun k hk _ => hb.block k hk⟩ (by right; simp [Value.ownBlock])
theorem pair_info : (Try.prog.info? 52).map (fun i => (i.zero, i.size, i.bytes)) = some (some (.agg #[.pointer none, .pointer none]), 2, 16) := by kernel_rfl
theorem OR.cap {w : World} {B g cap : Nat} {l : List Pr} (h : OR w B g cap l) : l.length ≤ cap ∧ cap ≤ maxLen := by
  obtain ⟨cur, _, _, h3, h4, _⟩ := h.parts
  exact ⟨h3, h4⟩
theorem below_dr {B : Nat} {w0 w : World} (h : Below B w0 w) : Below B w0 w.drew := ⟨h.os, h.tape, h.output, h.size, h.block⟩
def mkP (b o b' o' : Nat) (t u : T) : Pr := ⟨b, o, b', o', t, u⟩

set_option maxRecDepth 100000 in
set_option maxHeartbeats 4000000 in
theorem eq17_any (t u : T) (A : Option Addr) (c : Nat) (A' : Option Addr) (c' : Nat) (w : World) (hv : TV w w.heap.size t A c) (hv' : TV w w.heap.size u A' c') (hz : t.size ≤ 100000) :
    Calls Try.prog 17 #[.agg (tv t A c), .agg (tv u A' c')] w fun e w' => e = .returned (.bool (eqT t u)) ∧ Below w.heap.size w w' := by
  have hb1 : Below w.heap.size w (w.alloc (.cells (tv t A c) 24)) := (Below.refl _ _).alloc (Nat.le_refl _) _
  have hb0 : Below w.heap.size w ((w.alloc (.cells (tv t A c) 24)).alloc (.cells (tv u A' c') 24)) := hb1.alloc (by simp) _
  have hs2 : ((w.alloc (.cells (tv t A c) 24)).alloc (.cells (tv u A' c') 24)).heap.size = w.heap.size + 2 := by simp
  have ht : TR ((w.alloc (.cells (tv t A c) 24)).alloc (.cells (tv u A' c') 24)) (w.heap.size + 2) w.heap.size 0 t :=
    TR.of_parts (by omega) (by simp [tv]) (by simp [tv]) (by simp [tv]) (by simp [tv]) (by simp [tv]) ((hv.below hb0).more (by omega))
  have hu : TR ((w.alloc (.cells (tv t A c) 24)).alloc (.cells (tv u A' c') 24)) (w.heap.size + 2) (w.heap.size + 1) 0 u :=
    TR.of_parts (by omega) (by simp [tv]) (by simp [tv]) (by simp [tv]) (by simp [tv]) (by simp [tv]) ((hv'.below hb0).more (by omega))
  have HT := Lib.hid (And.intro ht hu)
  have HB0 := Lib.hid hb0
  have HS2 := Lib.hid hs2
  clear hb0 hb1 hs2 ht hu hv hv'
  have HW1 : Hid ((w.alloc (.cells (tv t A c) 24)).heap.size = w.heap.size + 1) := by show _ = _; simp
  generalize tv t A c = cs at *
  generalize tv u A' c' = ds at *
  go_enter Try.func17, Try.ntmps17
  go_wp2_with fail
  obtain ⟨W2, hW2⟩ : ∃ W2, W2 = (w.alloc (.cells cs 24)).alloc (.cells ds 24) := ⟨_, rfl⟩
  rw [← hW2] at HT HB0 HS2 ⊢
  clear hW2
  have HOR : Hid (OR (W2.alloc (.cells #[.pointer (some ⟨w.heap.size, 0, none⟩), .pointer (some ⟨w.heap.size + 1, 0, none⟩)] 52)) (w.heap.size + 2) (w.heap.size + 1 + 1) 1 [mkP w.heap.size 0 (w.heap.size + 1) 0 t u]) := by
    have := World.ownsRow_lit (base := w.heap.size + 2) (e := 52) (size := 2) W2 #[.pointer (some ⟨w.heap.size, 0, none⟩), .pointer (some ⟨w.heap.size + 1, 0, none⟩)] 1 (by rw [HS2.out]; omega) (by unfold maxLen; omega) rfl
    rw [HS2.out] at this
    exact this
  have HBA : Hid (Below (w.heap.size + 2) W2 (W2.alloc (.cells #[.pointer (some ⟨w.heap.size, 0, none⟩), .pointer (some ⟨w.heap.size + 1, 0, none⟩)] 52))) := (Below.refl _ _).alloc (by rw [HS2.out]; omega) _
  generalize W2.alloc (.cells #[.pointer (some ⟨w.heap.size, 0, none⟩), .pointer (some ⟨w.heap.size + 1, 0, none⟩)] 52) = W3 at *
  go_loopg [5] t.size (fun gg s5 wr => ∃ (st : List Pr) (g cap : Nat), s5 = .slice (some ⟨g, 0, none⟩) st.length cap ∧ ssz st ≤ gg ∧ ssz st ≤ 100000 ∧ Aside (OR wr (w.heap.size + 2) g cap st) ∧ Aside (Gd wr (w.heap.size + 2) st) ∧ Aside (eqT t u = allE st) ∧ Aside (Below (w.heap.size + 2) W2 wr))
  case atStart => exact ⟨[mkP w.heap.size 0 (w.heap.size + 1) 0 t u], w.heap.size + 1 + 1, 1, rfl, Nat.le_refl _, hz, HOR.out, ⟨⟨HT.out.1.below HBA.out, HT.out.2.below HBA.out⟩, trivial⟩, (by show eqT t u = (eqT t u && true); rw [Bool.and_true]), HBA.out⟩
  case round =>
    obtain ⟨st, g, cap, rfl, hgg, hsz, HO, HG, HE, HB⟩ := hrel
    cases st with
    | nil =>
      have HX := Lib.hid HE.out
      go_wp2_with fail
      go_ret
      rw [HX.out]
      exact ⟨rfl, HB0.out.trans (HB.out.mono (by omega))⟩
    | cons p l =>
      obtain ⟨hc1, hc2⟩ := HO.out.top
      obtain ⟨hk1, hk2⟩ := HO.out.cap
      have HPOP := Lib.hid HO.out.pop
      have hpl : l.length ≤ 100000 := by have := ssz_len l; rw [ssz] at hsz; omega
      have hk3 : l.length + 1 ≤ cap := hk1
      have hk4 : l.length ≤ cap := by omega
      unfold maxLen at hk2
      obtain ⟨hG1, hG2⟩ := HG.out
      have HG2 := Lib.hid hG2
      have hp1 := hG1.1.parts
      have hp2 := hG1.2.parts
      obtain ⟨hbl, a0, a1, a2, a4, A1, n1, a3, hcp, hTA⟩ := hp1
      obtain ⟨hbl', b0, b1, b2, b4, A2, n2, b3, hcp', hTA'⟩ := hp2
      have HTA := Lib.hid hTA
      have HTA' := Lib.hid hTA'
      have hl1 : p.t.args.length ≤ 9223372036854775807 := by omega
      have hl2 : p.u.args.length ≤ 9223372036854775807 := by omega
      clear hTA hTA' hG1 hG2 hk1 HO HG
      have hidx : (l.length : Int) < (l.length : Int) + 1 := by omega
      go_upto_region 3 with (fail)
      go_cut [6, 7] (fun s6 s7 wx => s6 = .pointer (some ⟨p.b, p.o, none⟩) ∧ s7 = .pointer (some ⟨p.b', p.o', none⟩) ∧ ∃ n, wx = wr.drewN n)
      case first =>
        go_wp2_with fail
        go_big_quiet (fail)
        go_wp2_with fail
        go_meet
        case rel => exact ⟨rfl, rfl, _, rfl⟩
      case rest =>
        obtain ⟨rfl, rfl, nd, rfl⟩ := hcut
        have hbn : Below wr.heap.size wr (wr.drewN nd) := below_drewNB (Below.refl _ _) nd
        have HPOPa := Lib.hid (HPOP.out.bel hbn)
        have HBa := Lib.hid (below_drewNB HB.out nd)
        have HG2a := Lib.hid (HG2.out.below (below_drewNB (Below.refl _ wr) nd))
        have HTAa := Lib.hid (TA.below HTA.out (below_drewNB (Below.refl _ wr) nd))
        have HTAa' := Lib.hid (TA.below HTA'.out (below_drewNB (Below.refl _ wr) nd))
        have hlw : w.heap.size + 2 ≤ wr.heap.size := by have := HB.out.size; rw [HS2.out] at this; exact this
        replace a0 : (wr.drewN nd).cell? _ = _ := a0
        replace a1 : (wr.drewN nd).cell? _ = _ := a1
        replace a2 : (wr.drewN nd).cell? _ = _ := a2
        replace a3 : (wr.drewN nd).cell? _ = _ := a3
        replace a4 : (wr.drewN nd).cell? _ = _ := a4
        replace b0 : (wr.drewN nd).cell? _ = _ := b0
        replace b1 : (wr.drewN nd).cell? _ = _ := b1
        replace b2 : (wr.drewN nd).cell? _ = _ := b2
        replace b3 : (wr.drewN nd).cell? _ = _ := b3
        replace b4 : (wr.drewN nd).cell? _ = _ := b4
        replace hlw : w.heap.size + 2 ≤ (wr.drewN nd).heap.size := hlw
        clear hbn HPOP HB HG2 HTA HTA' hc1 hc2
        generalize wr.drewN nd = wa at *
        go_upto_region 5 with (fail)
        go_cut [87] (fun s87 wx => s87 = .bool (!headEq p.t p.u) ∧ ∃ n, wx = wa.drewN n)
        case first =>
          clear HPOPa HBa HG2a HTAa HTAa' HE
          have HH : Hid (headEq p.t p.u = (decide (p.t.kind = p.u.kind) && decide (p.t.name = p.u.name) && decide (p.t.var = p.u.var) && decide (p.t.form = p.u.form) && decide (p.t.args.length = p.u.args.length))) := rfl
          generalize headEq p.t p.u = h at *
          generalize p.t.kind = k at *
          generalize p.u.kind = k' at *
          generalize p.t.name = n at *
          generalize p.u.name = n' at *
          generalize p.t.var = v at *
          generalize p.u.var = v' at *
          generalize p.t.form = f at *
          generalize p.u.form = f' at *
          generalize p.t.args.length = m at *
          generalize p.u.args.length = m' at *
          by_cases e1 : k = k'
          · subst e1
            by_cases e2 : n = n'
            · subst e2
              by_cases e3 : v = v'
              · subst e3
                by_cases e4 : f = f'
                · subst e4
                  by_cases e5 : m = m'
                  · subst e5
                    have HX : Hid (h = true) := by show h = true; rw [HH.out]; simp
                    go_wp2_with fail
                    go_big_quiet (fail)
                    go_wp2_with fail
                    go_meet
                    case rel => exact ⟨by rw [HX.out]; rfl, _, rfl⟩
                  · have hz : ((m : Int) != (m' : Int)) = true := by rw [bne_iff_ne]; omega
                    have hz2 : ((m : Int) == (m' : Int)) = false := by rw [beq_eq_false_iff_ne]; omega
                    have HX : Hid (h = false) := by show h = false; rw [HH.out, decide_eq_false e5]; simp
                    clear e5
                    go_wp2_with fail
                    go_big_quiet (fail)
                    go_wp2_with fail
                    go_meet
                    case rel => exact ⟨by rw [HX.out]; rfl, _, rfl⟩
                · have hz : (f != f') = true := by rw [bne_iff_ne]; exact e4
                  have hz2 : (f == f') = false := by rw [beq_eq_false_iff_ne]; exact e4
                  have HX : Hid (h = false) := by show h = false; rw [HH.out, decide_eq_false e4]; simp
                  clear e4
                  go_wp2_with fail
                  go_big_quiet (fail)
                  go_wp2_with fail
                  go_meet
                  case rel => exact ⟨by rw [HX.out]; rfl, _, rfl⟩
              · have hz : (v != v') = true := by rw [bne_iff_ne]; exact e3
                have hz2 : (v == v') = false := by rw [beq_eq_false_iff_ne]; exact e3
                have HX : Hid (h = false) := by show h = false; rw [HH.out, decide_eq_false e3]; simp
                clear e3
                go_wp2_with fail
                go_big_quiet (fail)
                go_wp2_with fail
                go_meet
                case rel => exact ⟨by rw [HX.out]; rfl, _, rfl⟩
            · have hz : (n != n') = true := by rw [bne_iff_ne]; exact e2
              have hz2 : (n == n') = false := by rw [beq_eq_false_iff_ne]; exact e2
              have HX : Hid (h = false) := by show h = false; rw [HH.out, decide_eq_false e2]; simp
              clear e2
              go_wp2_with fail
              go_big_quiet (fail)
              go_wp2_with fail
              go_meet
              case rel => exact ⟨by rw [HX.out]; rfl, _, rfl⟩
          · have hz : (k != k') = true := by rw [bne_iff_ne]; exact e1
            have hz2 : (k == k') = false := by rw [beq_eq_false_iff_ne]; exact e1
            have HX : Hid (h = false) := by show h = false; rw [HH.out, decide_eq_false e1]; simp
            clear e1
            go_wp2_with fail
            go_big_quiet (fail)
            go_wp2_with fail
            go_meet
            case rel => exact ⟨by rw [HX.out]; rfl, _, rfl⟩
        case rest =>
          obtain ⟨rfl, ne, rfl⟩ := hcut
          have HPOPb := Lib.hid (HPOPa.out.bel (below_drewNB (Below.refl _ wa) ne))
          have HBb := Lib.hid (below_drewNB HBa.out ne)
          have HG2b := Lib.hid (HG2a.out.below (below_drewNB (Below.refl _ wa) ne))
          have HTAb := Lib.hid (TA.below HTAa.out (below_drewNB (Below.refl _ wa) ne))
          have HTAb' := Lib.hid (TA.below HTAa'.out (below_drewNB (Below.refl _ wa) ne))
          replace a3 : (wa.drewN ne).cell? _ = _ := a3
          replace b3 : (wa.drewN ne).cell? _ = _ := b3
          replace hlw : w.heap.size + 2 ≤ (wa.drewN ne).heap.size := hlw
          clear HPOPa HBa HG2a HTAa HTAa' a0 a1 a2 a4 b0 b1 b2 b4
          generalize wa.drewN ne = wb at *
          have HEE : Hid (eqT t u = (headEq p.t p.u && eqTs p.t.args p.u.args && allE l)) := by show eqT t u = _; rw [HE.out, allE, eqT_eq p.t p.u]
          rcases head_cases p.t p.u with ⟨hh, _, _, _, _, e5⟩ | hh
          · have HX : Hid (eqT t u = (eqTs p.t.args p.u.args && allE l)) := by show eqT t u = _; rw [HEE.out, hh]; rfl
            rw [hh]
            clear hh HEE HE
            rw [← e5] at b3
            have HLE := Lib.hid e5
            have HSS : Hid (p.t.size = 1 + sizes p.t.args) := size_eq p.t
            have hszp : p.t.size + ssz l ≤ 100000 := hsz
            obtain ⟨K, hK⟩ : ∃ K, K = gk := ⟨_, rfl⟩
            have hszg : p.t.size + ssz l ≤ K := by rw [hK]; exact hgg
            have HKK := Lib.hid hK
            clear hK
            obtain ⟨ys, hys⟩ : ∃ ys, ys = p.t.args := ⟨_, rfl⟩
            obtain ⟨zs, hzs⟩ : ∃ zs, zs = p.u.args := ⟨_, rfl⟩
            rw [← hys] at HX HTAb a3 b3 hcp hl1 HSS HLE
            rw [← hzs] at HX HTAb' HLE
            rw [← hys, ← hzs] at e5
            rw [← hzs, ← e5] at hcp'
            clear hl2 e5 hys hzs hsz hgg
            go_wp2_with fail
            go_loopg [5, 93] ys.length (fun gg s5 s93 wr => ∃ (i : Nat) (st : List Pr) (g cap : Nat), i ≤ ys.length ∧ ys.length - i ≤ gg ∧ s93 = .int .i64 i ∧ s5 = .slice (some ⟨g, 0, none⟩) st.length cap ∧ Aside (ssz st + sizes (ys.drop i) = ssz l + sizes ys) ∧ Aside (OR wr (w.heap.size + 2) g cap st) ∧ Aside (Gd wr (w.heap.size + 2) st) ∧ Aside (eqT t u = (eqTs (ys.drop i) (zs.drop i) && allE st)) ∧ Aside (Below (w.heap.size + 2) wb wr))
            case atStart => exact ⟨0, l, g, cap, Nat.zero_le _, by omega, rfl, rfl, rfl, HPOPb.out, HG2b.out, HX.out, Below.refl _ _⟩
            case round =>
              obtain ⟨i, st, g2, cap2, hi, hgi, rfl, rfl, HSZ, HO, HG, HQ, HBi⟩ := hrel
              have HBw := Lib.hid (HBb.out.trans HBi.out)
              have x3 := (HBi.out.cell (p := ⟨p.b, p.o + 3, none⟩) hbl).trans a3
              have y3 := (HBi.out.cell (p := ⟨p.b', p.o' + 3, none⟩) hbl').trans b3
              by_cases hlt : i < ys.length
              · have hltz : (i : Int) < (ys.length : Int) := by omega
                have hlt2 : i < zs.length := by have := HLE.out; omega
                obtain ⟨b1, o1, rfl, hR1⟩ := (TA.below HTAb.out HBi.out).at_ hlt
                obtain ⟨b2, o2, rfl, hR2⟩ := (TA.below HTAb'.out HBi.out).at_ hlt2
                have HR := Lib.hid (And.intro hR1 hR2)
                have HD : Hid (eqTs (ys.drop i) (zs.drop i) = (eqT ys[i] zs[i] && eqTs (ys.drop (i + 1)) (zs.drop (i + 1)))) := by
                  show eqTs (ys.drop i) (zs.drop i) = _
                  rw [List.drop_eq_getElem_cons hlt, List.drop_eq_getElem_cons (l := zs) hlt2, eqTs]
                have HZS : Hid (sizes (ys.drop i) = ys[i].size + sizes (ys.drop (i + 1))) := by show sizes (ys.drop i) = _; rw [List.drop_eq_getElem_cons hlt, sizes]
                have hstl : st.length ≤ 100000 := by have := ssz_len st; have := HSZ.out; have := HSS.out; omega
                have HLW := Lib.hid HO.out.lt
                have HCP := Lib.hid HO.out.cap
                clear hR1 hR2
                go_upto_region 10 with (fail)
                obtain ⟨i0, hi0, hz0, hz1, hz2⟩ := info_parts pair_info
                have hwr2 : w.heap.size + 2 ≤ wr.heap.size := by have := HBi.out.size; omega
                refine wp_region_noPanic ?_
                go_region_held_law (fun w' => w'.cell? ⟨p.b, p.o + 3, none⟩ = some (.slice (some ⟨b1, o1, none⟩) ys.length n1) ∧ w'.cell? ⟨p.b', p.o' + 3, none⟩ = some (.slice (some ⟨b2, o2, none⟩) ys.length n2)) (first | exact ⟨x3, y3⟩ | exact ⟨x3s, y3s⟩ | go_keep) (first | (refine step_append_lies _ rfl _ _ 53 rfl (w.heap.size + 2) 52 i0 _ 2 16 Try.underlying53 hi0 hz0 hz1 hz2 rfl (by decide) (.slice (some ⟨g2, 0, none⟩) st.length cap2) st.length (pcs st) rfl (World.ownsRow.alloc (World.ownsRow.drew HO.out) _) ⟨wr.heap.size, 0, none⟩ 1 1 [.pointer (some ⟨b1, o1 + i * 5, none⟩), .pointer (some ⟨b2, o2 + i * 5, none⟩)] rfl rfl (fun j u hu => by match j, hu with | 0, hu => (simp at hu; subst hu; simp [go_sem]) | 1, hu => (simp at hu; subst hu; simp [go_sem]) | j + 2, hu => simp at hu) (fun u hu => by simp at hu; rcases hu with rfl | rfl <;> rfl) (by decide) (by unfold maxLen; omega) (by omega) (by simp; omega) _ rfl ?_; intro g7 cap7 w7 hown7 hgrow7 hat7 hlt7; have HO7 : Hid (OR w7 (w.heap.size + 2) g7 cap7 (mkP b1 (o1 + i * 5) b2 (o2 + i * 5) ys[i] zs[i] :: st)) := hown7; have HB7 : Hid (Below (w.heap.size + 2) wr w7) := ((below_dr (Below.refl (w.heap.size + 2) wr)).alloc hwr2 _).grown hgrow7 (by simp; omega) (fun k hk => by simp [Value.ownBlock] at hk; have := HLW.out.1; omega); have x3s := (HB7.out.cell (p := ⟨p.b, p.o + 3, none⟩) hbl).trans x3; have y3s := (HB7.out.cell (p := ⟨p.b', p.o' + 3, none⟩) hbl').trans y3; clear hown7 hgrow7 hat7 hlt7))
                all_goals
                  refine NoPanic.normal ?_
                  have HG7 : Hid (Gd _ (w.heap.size + 2) (mkP b1 (o1 + i * 5) b2 (o2 + i * 5) ys[i] zs[i] :: st)) := ⟨⟨HR.out.1.below HB7.out, HR.out.2.below HB7.out⟩, HG.out.below HB7.out⟩
                  have HQ7 : Hid (eqT t u = (eqTs (ys.drop (i + 1)) (zs.drop (i + 1)) && allE (mkP b1 (o1 + i * 5) b2 (o2 + i * 5) ys[i] zs[i] :: st))) := by
                    show eqT t u = _
                    rw [HQ.out, HD.out, allE]
                    show _ = (_ && (eqT ys[i] zs[i] && allE st))
                    cases eqT ys[i] zs[i] <;> cases allE st <;> simp
                  have HZ7 : Hid (ssz (mkP b1 (o1 + i * 5) b2 (o2 + i * 5) ys[i] zs[i] :: st) + sizes (ys.drop (i + 1)) = ssz l + sizes ys) := by
                    show ys[i].size + ssz st + sizes (ys.drop (i + 1)) = _
                    have := HSZ.out; have := HZS.out; omega
                  have HB8 := Lib.hid (HBi.out.trans HB7.out)
                  go_wp2_with fail
                  go_roundg (ys.length - (i + 1))
                  case measure => omega
                  case rel => exact ⟨i + 1, _, g7, cap7, by omega, by omega, by go_num, rfl, HZ7.out, HO7.out, HG7.out, HQ7.out, HB8.out⟩
              · have hltz : ¬ (i : Int) < (ys.length : Int) := by omega
                have HQ7 : Hid (eqT t u = allE st) := by
                  show eqT t u = _
                  rw [HQ.out, List.drop_eq_nil_of_le (by omega), eqTs, Bool.true_and]
                have hm : ssz st < K := by
                  have := HSZ.out
                  rw [List.drop_eq_nil_of_le (by omega), sizes] at this
                  have := HSS.out; omega
                have hm2 : ssz st ≤ 100000 := by
                  have := HSZ.out
                  rw [List.drop_eq_nil_of_le (by omega), sizes] at this
                  have := HSS.out; omega
                go_wp2_with fail
                go_roundg (ssz st)
                case measure => rw [← HKK.out]; exact hm
                case rel => exact ⟨st, g2, cap2, rfl, Nat.le_refl _, hm2, HO.out, HG.out, HQ7.out, HBw.out⟩
          · have HX : Hid (eqT t u = false) := by show eqT t u = _; rw [HEE.out, hh]; rfl
            rw [hh]
            clear hh HEE HE
            go_wp2_with fail
            go_ret
            rw [HX.out]
            exact ⟨rfl, HB0.out.trans (HBb.out.mono (by omega))⟩
end Go.Proofs.Ytkjhfbgdmmnadaa
