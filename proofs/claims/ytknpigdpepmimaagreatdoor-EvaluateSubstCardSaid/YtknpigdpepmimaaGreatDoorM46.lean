/- Contracts of slices.Grow 104 at nil, slices.Concat 94 at lists of names. What the contracts of subst and scope say. Plain: the arguments behind a substitution, one by one. Contract of scope 78, out of subst's at the same size. Contract of subst 55. Contract of Subst 33. -/
import Derived.Laws.AppendOwn
import Derived.Laws.AppendOwnNone
import Derived.Lib.AppendZerosOnto
import Derived.Lib.Walk
import Derived.RegionTactic
import Derived.Test.YtknpigdpepmimaaGreatDoorM20
import Derived.Test.YtknpigdpepmimaaGreatDoorM45
namespace Go.Proofs.YtknpigdpepmimaaGreatDoor
open Go.RowKit
theorem RL.bn {w : World} {B : Nat} {v : Value} {l : List W8} (h : RL w B v l) : BN w v l := by
  refine ⟨h.sl, fun n c e => ?_⟩
  rcases h.2 with ⟨h1, hz⟩ | ⟨g, cap, cur, h1, _⟩
  · rw [h1] at e
    injection e with _ e1 e2
    exact ⟨List.eq_nil_of_length_eq_zero hz, e2.symm⟩
  · rw [h1] at e; injection e with e1; cases e1
/-- all of a slice of names appended to a slice that the call made -/
theorem app30l {ops : Array Oper} {rest : List Oper} {o : Oper} {a : Act} {Q : Exit → Act → World → Prop} (w : World) (hgd : o.guard = none) (s x : Operand)
    (ho : o.op = .call { callee := .builtin .append, args := #[s, x], argTypes := #[25, 25] }) (B : Nat) (v v2 : Value) (l l2 : List W8) (hown : RL w B v l) (hs : a.eval s = v)
    (hx : a.eval x = v2) (hv2 : BN w v2 l2) (hl : l.length + l2.length ≤ 1000000) (hB : B ≤ w.heap.size)
    (h : ∀ v' w', RL w' B v' (l ++ l2) → Below B w w' → wpList Tryz.prog ops Q rest (a.put o.dst v') w') : wpList Tryz.prog ops Q (o :: rest) a w := by
  obtain ⟨i0, hi0, hz0, hz1, hz2⟩ := info_parts str_info
  obtain ⟨⟨A, c, rfl, ⟨hc1, hc2⟩, hcell⟩, hnil⟩ := hv2
  cases A with
  | none =>
    obtain ⟨rfl, rfl⟩ := hnil _ _ rfl
    refine wpList_append_own_none hgd s x 25 ho B 9 i0 1 Tryz.underlying25 hi0 v l.length _ hs hown hx (h v w ?_ (Below.refl _ _))
    rw [List.append_nil]; exact hown
  | some ad =>
    refine wpList_append_own _ hgd s x 25 ho B 9 i0 _ 1 16 Tryz.underlying25 hi0 hz0 hz1 hz2 rfl (by decide) v l.length _ hs hown ad l2.length c (l2.map encS) hx (by simp) (fun j u hu => ?_) (fun u hu => ?_) (by unfold maxLen; omega) (by omega) hB (fun v' w' h1 h2 _ => ?_)
    · obtain ⟨hj, hu'⟩ := List.getElem?_eq_some_iff.1 hu
      have hj' : j < l2.length := by simpa using hj
      rw [List.getElem_map] at hu'
      subst hu'
      obtain ⟨b, o, e1, _, e2⟩ := hcell (by intro e; rw [e] at hj'; simp at hj')
      have e3 : ad = ⟨b, o, none⟩ := Option.some.inj e1
      rw [e3, addr_addF]; exact e2 j hj'
    · obtain ⟨y, _, rfl⟩ := List.mem_map.1 hu
      rfl
    · refine h v' w' ?_ ((Below.refl B w).grown h2 hB (fun k hk => (hown.lt k hk).1))
      unfold RL
      rw [List.length_append, List.map_append]; exact h1
set_option maxRecDepth 100000 in
set_option maxHeartbeats 2000000 in
theorem grow104_any (n : Nat) (w : World) (h1 : 1 ≤ n) (h2 : n ≤ 1000000) :
    Calls Tryz.prog 191 #[.slice none 0 0, .int .i64 n] w fun e w' => ∃ v, e = .returned v ∧ RL w' w.heap.size v [] ∧ Below w.heap.size w w' := by
  obtain ⟨i0, hi0, hz0, hz1, hz2⟩ := info_parts str_info
  have hn0 : ¬ (n : Int) < 0 := by omega
  have hn1 : (0 : Int) < (n : Int) := by omega
  have hold : (Builtin.firstCells i0.size 0 (.slice none 0 0)).run Tryz.prog w.drew = .ok #[] w.drew := run_firstCells_none w.drew i0.size 0 0 0
  have hrz : ∀ ty, (Builtin.append_ #[25, 3] ty #[.slice none 0 0, .int .i64 (n : Int)]).run Tryz.prog w =
      .ok (.slice (some ⟨w.heap.size, 0, none⟩) n (grownCap w n 0 9)) (w.drew.alloc (.cells (#[] ++ Builtin.zeroCells (Value.string ⟨#[]⟩).cells n ++ Builtin.zeroCells (Value.string ⟨#[]⟩).cells (grownCap w n 0 9 - n)) 9)) := fun ty => by
    have h := Lib.run_append_grow_zeros w 25 3 ty 9 i0 (.string ⟨#[]⟩) .i64 .i64 Tryz.underlying25 Tryz.underlying3 hi0 hz0 none 0 0 [] hold n (by omega) (by omega) (by omega) (by omega) (by rw [hz2]; omega)
      (by rw [Nat.zero_add]; exact growslice_fits (by omega) (by rw [hz2]; omega))
    rw [Nat.zero_add] at h
    exact h
  have hGn : n ≤ grownCap w n 0 9 := grownCap_ge w _ _ _
  have hGm : grownCap w n 0 9 ≤ maxLen := grownCap_le_maxLen w n 0 9 (by unfold maxLen; omega)
  generalize grownCap w n 0 9 = G at *
  have hG63 : G ≤ 9223372036854775807 := by unfold maxLen at hGm; omega
  clear hold
  go_enter Tryz.func191, Tryz.ntmps191
  go_wp2_with (at_builtin; refine Lib.wpList_append_run _ rfl _ _ _ _ rfl _ _ rfl rfl _ _ (hrz _) ?_)
  all_goals
    go_ret
    refine ⟨_, rfl, ⟨by simp, .inr ⟨w.heap.size, G, _, rfl, Nat.le_refl _, blk_new _ _, Nat.zero_le _, hGm, ?_, rfl⟩⟩, (below_drF (Below.refl _ _)).alloc (Nat.le_refl _) _⟩
    simp [Builtin.zeroCells]
    omega
theorem flat_snoc (LL : List (List W8)) (i : Nat) (h : i < LL.length) : (LL.take (i + 1)).flatten = (LL.take i).flatten ++ LL[i] := by
  rw [List.take_succ_eq_append_getElem h, List.flatten_append]; simp
theorem flat_len (LL : List (List W8)) (i : Nat) : (LL.take i).flatten.length ≤ LL.flatten.length := by
  conv => rhs; rw [← List.take_append_drop i LL]
  rw [List.flatten_append, List.length_append]; omega
set_option maxRecDepth 100000 in
set_option maxHeartbeats 2000000 in
theorem concat94_any (bb c : Nat) (vs : List Value) (LL : List (List W8)) (w : World) (hn : vs.length = LL.length) (hb : bb < w.heap.size) (hc : ∀ j (h : j < vs.length), w.cell? ⟨bb, j, none⟩ = some vs[j])
    (hbn : ∀ j (h : j < vs.length) (h' : j < LL.length), BN w vs[j] LL[j]) (hl : 1 ≤ LL.flatten.length ∧ LL.flatten.length ≤ 900000) (hk : LL.length ≤ 1000) :
    Calls Tryz.prog 158 #[.slice (some ⟨bb, 0, none⟩) vs.length c] w fun e w' => ∃ v, e = .returned v ∧ RL w' w.heap.size v LL.flatten ∧ Below w.heap.size w w' := by
  have HC := Lib.hid hc
  have HBN := Lib.hid hbn
  have hkz : vs.length ≤ 1000 := by omega
  have HNL := Lib.hid hn
  clear hc hbn hn hk
  go_enter Tryz.func158, Tryz.ntmps158
  go_wp2_with fail
  go_loopg [3, 5, 11] vs.length (fun gg s3 s5 s11 wr => ∃ i : Nat, i ≤ vs.length ∧ vs.length - i ≤ gg ∧ s11 = .int .i64 i ∧ s3 = .int .i64 ((LL.take i).flatten.length : Nat) ∧ w = wr)
  case atStart => exact ⟨0, Nat.zero_le _, by omega, rfl, rfl, rfl⟩
  case round =>
    obtain ⟨i, hi, hgg, rfl, rfl, rfl⟩ := hrel
    by_cases hlt : i < vs.length
    · have hltz : (i : Int) < (vs.length : Int) := by omega
      have hck := HC.out i hlt
      have hF := Lib.hid (congrArg List.length (flat_snoc LL i (by have := HNL.out; omega)))
      have hfl := flat_len LL (i + 1)
      obtain ⟨A, q, hv⟩ : ∃ A q, vs[i] = .slice A (LL[i]'(by have := HNL.out; omega)).length q := by
        obtain ⟨⟨A, q, hv, _⟩, _⟩ := HBN.out i hlt (by have := HNL.out; omega)
        exact ⟨A, q, hv⟩
      rw [hv] at hck
      have hF2 := hF.out
      rw [List.length_append] at hF2
      have hfin : (LL.take i).flatten.length + (LL[i]'(by have := HNL.out; omega)).length ≤ 900000 := by omega
      have hng : ¬ ((LL.take i).flatten.length : Int) + ((LL[i]'(by have := HNL.out; omega)).length : Int) < 0 := by omega
      have HF3 := Lib.hid hF2
      clear hF2 hfl hv hF
      generalize (LL.take i).flatten.length = p at *
      generalize (LL[i]'(by have := HNL.out; omega)).length = q2 at *
      go_wp2_with fail
      go_roundg (vs.length - (i + 1))
      case measure => omega
      case rel => exact ⟨i + 1, by omega, by omega, by go_num, by rw [HF3.out]; go_num, rfl⟩
    · have hltz : ¬ (i : Int) < (vs.length : Int) := by omega
      have e : LL.take i = LL := List.take_of_length_le (by have := HNL.out; omega)
      rw [e]
      have hg := grow104_any LL.flatten.length w hl.1 (by omega)
      have HG := Lib.hid hg
      have hfz : LL.flatten.length ≤ 900000 := hl.2
      clear hg e
      obtain ⟨N, hN⟩ : ∃ N, N = LL.flatten.length := ⟨_, rfl⟩
      rw [← hN] at HG hfz ⊢
      have HN := Lib.hid hN
      clear hN
      go_wp2_with fail
      refine HG.out.mono ?_
      rintro e w2 ⟨v6, rfl, hr6, hb6⟩
      have HR6 := Lib.hid hr6
      have HB6 := Lib.hid hb6
      clear hr6 hb6 HG
      go_wp2_with fail
      go_loopg [6, 8, 27] vs.length (fun gg s6 s8 s27 wr => ∃ i : Nat, i ≤ vs.length ∧ vs.length - i ≤ gg ∧ s27 = .int .i64 i ∧ Aside (RL wr w.heap.size s6 (LL.take i).flatten) ∧ Aside (Below w.heap.size w wr))
      case atStart => exact ⟨0, Nat.zero_le _, by omega, rfl, HR6, HB6⟩
      case round =>
        obtain ⟨i, hi2, hgg2, rfl, HR, HB⟩ := hrel
        by_cases hlt2 : i < vs.length
        · have hltz2 : (i : Int) < (vs.length : Int) := by omega
          have hck := (HB.out.cell (p := ⟨bb, i, none⟩) hb).trans (HC.out i hlt2)
          have HF := Lib.hid (flat_snoc LL i (by have := HNL.out; omega))
          have HFL := Lib.hid (flat_len LL (i + 1))
          have HV := Lib.hid ((HBN.out i hlt2 (by have := HNL.out; omega)).reach HB.out)
          have HSZ := Lib.hid HB.out.size
          go_wp2_with (at_builtin; refine app30l wr rfl _ _ rfl w.heap.size _ _ _ _ HR.out rfl rfl HV.out (by have := HFL.out; rw [HF.out, List.length_append] at this; have := hl.2; omega) HSZ.out ?_)
          intro v7 w7 hr7 hb7
          rw [← HF.out] at hr7
          have HR7 := Lib.hid hr7
          have HB7 := Lib.hid (HB.out.trans hb7)
          clear hr7 hb7 hck
          go_wp2_with fail
          go_roundg (vs.length - (i + 1))
          case measure => omega
          case rel => exact ⟨i + 1, by omega, by omega, by go_num, HR7.out, HB7.out⟩
        · have hltz2 : ¬ (i : Int) < (vs.length : Int) := by omega
          have e2 : LL.take i = LL := List.take_of_length_le (by have := HNL.out; omega)
          have HR8 := HR.out
          rw [e2] at HR8
          have HR9 := Lib.hid HR8
          clear HR8 e2
          go_wp2_with fail
          go_ret
          exact ⟨_, rfl, HR9.out, HB.out⟩
end Go.Proofs.YtknpigdpepmimaaGreatDoor
namespace Go.Proofs.YtknpigdpepmimaaGreatDoor
open Go.RowKit
theorem own_short {t : T} (h : ownB t = true) : Short t := by
  unfold ownB at h
  unfold Short
  have hw : ∀ l, wordB l = true → l.length ≤ 16 := fun l h => by unfold wordB at h; simp at h; omega
  have hi : ∀ l, identB l = true → l.length ≤ 16 := fun l h => hw l (ident_word h)
  have hf : formB t = true → t.form.length ≤ 16 := fun h => by unfold formB at h; simp at h; exact h.2
  have hlf : leafB t = true → t.var = [] ∧ t.form = [] := fun h => by
    unfold leafB at h
    simp at h
    exact ⟨h.1, h.2.1⟩
  split at h
  · simp only [Bool.and_eq_true] at h
    obtain ⟨e1, e2⟩ := hlf h.1
    have : t.name.length ≤ 20 := by have := h.2; unfold numB at this; simp at this; exact this.1.1
    rw [e1, e2]; simp; omega
  · split at h
    · simp only [Bool.and_eq_true] at h
      obtain ⟨e1, e2⟩ := hlf h.1
      have := hi _ h.2
      rw [e1, e2]; simp; omega
    · split at h
      · simp only [Bool.and_eq_true, decide_eq_true_eq] at h
        obtain ⟨e1, e2⟩ := hlf h.1
        rw [e1, e2]; simp; omega
      · split at h
        · simp only [Bool.and_eq_true] at h
          have h1 := hf h.1.1
          have h2 := hw _ h.1.2
          have h3 : t.var = [] := by simpa using h.2
          rw [h3]; simp; omega
        · split at h
          · simp only [Bool.and_eq_true] at h
            have h1 := hf h.1.1.1
            have h2 := hw _ h.1.1.2
            have h3 := hi _ h.1.2
            omega
          · cases h
mutual
theorem WF.sa (t : T) (h : WF t) : SA t := by
  cases t with
  | mk k n v ys f =>
    rw [WF] at h
    rw [SA]
    exact ⟨own_short h.1, WFs.sa ys h.2⟩
theorem WFs.sa (ts : List T) (h : WFs ts) : SAs ts := by
  cases ts with
  | nil => rw [SAs]; trivial
  | cons t ts =>
    rw [WFs] at h
    rw [SAs]
    exact ⟨WF.sa t h.1, WFs.sa ts h.2⟩
end
/-- a term's cells at (b, o) -/
structure Rt (w : World) (b o : Nat) (t : T) (A : Option Addr) (c : Nat) : Prop where
  lt : b < w.heap.size
  c0 : w.cell? ⟨b, o, none⟩ = some (.int .i64 t.kind)
  c1 : w.cell? ⟨b, o + 1, none⟩ = some (.string ⟨t.name.toArray⟩)
  c2 : w.cell? ⟨b, o + 2, none⟩ = some (.string ⟨t.var.toArray⟩)
  c3 : w.cell? ⟨b, o + 3, none⟩ = some (.slice A t.args.length c)
  c4 : w.cell? ⟨b, o + 4, none⟩ = some (.string ⟨t.form.toArray⟩)
theorem Rt.reach {w w' : World} {b o : Nat} {t : T} {A : Option Addr} {c : Nat} (h : Rt w b o t A c) (hb : Below w.heap.size w w') : Rt w' b o t A c :=
  ⟨Nat.lt_of_lt_of_le h.lt hb.size, (hb.cell (p := ⟨b, o, none⟩) h.lt).trans h.c0, (hb.cell (p := ⟨b, o + 1, none⟩) h.lt).trans h.c1, (hb.cell (p := ⟨b, o + 2, none⟩) h.lt).trans h.c2, (hb.cell (p := ⟨b, o + 3, none⟩) h.lt).trans h.c3, (hb.cell (p := ⟨b, o + 4, none⟩) h.lt).trans h.c4⟩
theorem Rt.tr {w : World} {S : Nat → Prop} {b o : Nat} {t : T} {A : Option Addr} {c : Nat} (h : Rt w b o t A c) (hv : TVS w S t A c) (hS : ∀ k, S k → k < w.heap.size) : TR w w.heap.size b o t :=
  TR.of_parts h.lt h.c0 h.c1 h.c2 h.c3 h.c4 (hv.tv hS)
theorem TVS.reach {w w' : World} {S : Nat → Prop} {t : T} {A : Option Addr} {c : Nat} (h : TVS w S t A c) (hS : ∀ k, S k → k < w.heap.size) (hb : Below w.heap.size w w') : TVS w' S t A c :=
  h.keep (fun k hk => ⟨hk, hb.block k (hS k hk)⟩)
theorem TVS.wider {w : World} {S S' : Nat → Prop} {t : T} {A : Option Addr} {c : Nat} (h : TVS w S t A c) (hS : ∀ k, S k → S' k) : TVS w S' t A c := h.keep (fun k hk => ⟨hS k hk, rfl⟩)
/-- the blocks that a result may lie in: those of S, and new ones -/
def Nw (S : Nat → Prop) (w w' : World) : Nat → Prop := fun k => S k ∨ (w.heap.size ≤ k ∧ k < w'.heap.size)
/-- what subst does at terms of up to N subterms -/
def SubC (N : Nat) : Prop := ∀ (t u : T) (x : W8), t.size ≤ N → WF t → WF u → t.size + u.size ≤ 2700 → x.length ≤ 1000 → ∀ (S : Nat → Prop) (b o : Nat) (A : Option Addr) (c b' o' : Nat) (A' : Option Addr) (c' : Nat) (w : World), (∀ k, S k → k < w.heap.size) →
  Rt w b o t A c → TVS w S t A c → Rt w b' o' u A' c' → TVS w S u A' c' →
  Calls Tryz.prog 58 #[.pointer (some ⟨b, o, none⟩), .string ⟨x.toArray⟩, .pointer (some ⟨b', o', none⟩)] w fun e w' => ∃ A9 c9, e = .returned (.agg (tv (sub N t x u) A9 c9)) ∧ TVS w' (Nw S w w') (sub N t x u) A9 c9 ∧ Below w.heap.size w w'
/-- what scope does -/
def ScpC (N : Nat) : Prop := ∀ (s u : T) (v x : W8), s.size ≤ N → WF s → WF u → s.size + u.size ≤ 2700 → identB v = true → x.length ≤ 1000 → ∀ (S : Nat → Prop) (b o : Nat) (A : Option Addr) (c b' o' : Nat) (A' : Option Addr) (c' : Nat) (w : World), (∀ k, S k → k < w.heap.size) →
  Rt w b o s A c → TVS w S s A c → Rt w b' o' u A' c' → TVS w S u A' c' →
  Calls Tryz.prog 107 #[.string ⟨v.toArray⟩, .pointer (some ⟨b, o, none⟩), .string ⟨x.toArray⟩, .pointer (some ⟨b', o', none⟩)] w fun e w' =>
    ∃ A9 c9, e = .returned (.tuple #[.string ⟨(scp (sub N) v s x u).1.toArray⟩, .agg (tv (scp (sub N) v s x u).2 A9 c9)]) ∧ TVS w' (Nw S w w') (scp (sub N) v s x u).2 A9 c9 ∧ Below w.heap.size w w'
theorem not_ocT {x : W8} {t : T} : ocT x t = false ↔ x ∉ frL t := by
  rw [← ocT_iff x t]; cases ocT x t <;> simp
theorem below5s {B : Nat} {w0 W : World} (h : Below B w0 W) {bz : Nat} (hle : B ≤ bz) (a0 a1 a2 a3 a4 : Value) :
    Below B w0 (((((W.setCell ⟨bz, 0, none⟩ a0).setCell ⟨bz, 1, none⟩ a1).setCell ⟨bz, 2, none⟩ a2).setCell ⟨bz, 3, none⟩ a3).setCell ⟨bz, 4, none⟩ a4) :=
  ((((h.setCell (p := ⟨bz, 0, none⟩) hle _).setCell (p := ⟨bz, 1, none⟩) hle _).setCell (p := ⟨bz, 2, none⟩) hle _).setCell (p := ⟨bz, 3, none⟩) hle _).setCell (p := ⟨bz, 4, none⟩) hle _
theorem TVS.set5 {w : World} {S : Nat → Prop} {t : T} {A : Option Addr} {c : Nat} (h : TVS w S t A c) (b : Nat) (a0 a1 a2 a3 a4 : Value) (hb : ¬ S b) :
    TVS (((((w.setCell ⟨b, 0, none⟩ a0).setCell ⟨b, 1, none⟩ a1).setCell ⟨b, 2, none⟩ a2).setCell ⟨b, 3, none⟩ a3).setCell ⟨b, 4, none⟩ a4) S t A c :=
  ((((h.set b 0 a0 hb).set b 1 a1 hb).set b 2 a2 hb).set b 3 a3 hb).set b 4 a4 hb
theorem size_set5 (w : World) (b : Nat) (a0 a1 a2 a3 a4 : Value) : (((((w.setCell ⟨b, 0, none⟩ a0).setCell ⟨b, 1, none⟩ a1).setCell ⟨b, 2, none⟩ a2).setCell ⟨b, 3, none⟩ a3).setCell ⟨b, 4, none⟩ a4).heap.size = w.heap.size := by simp
theorem fin5 {w W : World} {S S' : Nat → Prop} {t : T} {A : Option Addr} {c : Nat} (hb : Below w.heap.size w W) (hv : TVS W S' t A c) (hn : ¬ S' w.heap.size) (hs : ∀ k, S' k → S k ∨ (w.heap.size ≤ k ∧ k < W.heap.size)) (a0 a1 a2 a3 a4 : Value) :
    TVS (((((W.setCell ⟨w.heap.size, 0, none⟩ a0).setCell ⟨w.heap.size, 1, none⟩ a1).setCell ⟨w.heap.size, 2, none⟩ a2).setCell ⟨w.heap.size, 3, none⟩ a3).setCell ⟨w.heap.size, 4, none⟩ a4) (Nw S w (((((W.setCell ⟨w.heap.size, 0, none⟩ a0).setCell ⟨w.heap.size, 1, none⟩ a1).setCell ⟨w.heap.size, 2, none⟩ a2).setCell ⟨w.heap.size, 3, none⟩ a3).setCell ⟨w.heap.size, 4, none⟩ a4)) t A c ∧
      Below w.heap.size w (((((W.setCell ⟨w.heap.size, 0, none⟩ a0).setCell ⟨w.heap.size, 1, none⟩ a1).setCell ⟨w.heap.size, 2, none⟩ a2).setCell ⟨w.heap.size, 3, none⟩ a3).setCell ⟨w.heap.size, 4, none⟩ a4) :=
  ⟨(hv.set5 w.heap.size a0 a1 a2 a3 a4 hn).wider (fun k hk => (hs k hk).imp id (fun h => by rw [size_set5]; exact h)), below5s hb (Nat.le_refl _) a0 a1 a2 a3 a4⟩
theorem fin5d {w W : World} {S S' : Nat → Prop} {t : T} {A : Option Addr} {c : Nat} (hb : Below w.heap.size w W) (hv : TVS W S' t A c) (hn : ¬ S' w.heap.size) (hs : ∀ k, S' k → S k ∨ (w.heap.size ≤ k ∧ k < W.heap.size)) (a0 a1 a2 a3 a4 : Value) :
    TVS (((((W.setCell ⟨w.heap.size, 0, none⟩ a0).setCell ⟨w.heap.size, 1, none⟩ a1).setCell ⟨w.heap.size, 2, none⟩ a2).setCell ⟨w.heap.size, 3, none⟩ a3).setCell ⟨w.heap.size, 4, none⟩ a4).drew (Nw S w (((((W.setCell ⟨w.heap.size, 0, none⟩ a0).setCell ⟨w.heap.size, 1, none⟩ a1).setCell ⟨w.heap.size, 2, none⟩ a2).setCell ⟨w.heap.size, 3, none⟩ a3).setCell ⟨w.heap.size, 4, none⟩ a4).drew) t A c ∧
      Below w.heap.size w (((((W.setCell ⟨w.heap.size, 0, none⟩ a0).setCell ⟨w.heap.size, 1, none⟩ a1).setCell ⟨w.heap.size, 2, none⟩ a2).setCell ⟨w.heap.size, 3, none⟩ a3).setCell ⟨w.heap.size, 4, none⟩ a4).drew := by
  have h := fin5 hb hv hn hs a0 a1 a2 a3 a4
  generalize ((((W.setCell ⟨w.heap.size, 0, none⟩ a0).setCell ⟨w.heap.size, 1, none⟩ a1).setCell ⟨w.heap.size, 2, none⟩ a2).setCell ⟨w.heap.size, 3, none⟩ a3).setCell ⟨w.heap.size, 4, none⟩ a4 = X at *
  exact ⟨h.1.drew, below_dr h.2⟩
end Go.Proofs.YtknpigdpepmimaaGreatDoor
namespace Go.Proofs.YtknpigdpepmimaaGreatDoor
theorem subsF_at (g h : T → T) (k : Int) : ∀ (ys : List T) (i : Nat) (hi : i < ys.length), (subsF g h k ys)[i]? = some (if k = 5 ∧ i + 1 = ys.length then h ys[i] else g ys[i])
  | [], i, hi => by simp at hi
  | t :: ts, 0, _ => by
    rw [subsF]
    have e : ts.length = 0 ↔ 0 + 1 = (t :: ts).length := by rw [List.length_cons]; omega
    simp only [List.getElem?_cons_zero, List.getElem_cons_zero, e]
  | t :: ts, i + 1, hi => by
    rw [subsF, List.getElem?_cons_succ, subsF_at g h k ts i (by simpa using hi)]
    have e : i + 1 = ts.length ↔ i + 1 + 1 = (t :: ts).length := by rw [List.length_cons]; omega
    simp only [List.getElem_cons_succ, e]
theorem subsF_take (g h : T → T) (k : Int) (ys : List T) (i : Nat) (hi : i < ys.length) : (subsF g h k ys).take (i + 1) = (subsF g h k ys).take i ++ [if k = 5 ∧ i + 1 = ys.length then h ys[i] else g ys[i]] := by
  have hl : i < (subsF g h k ys).length := by rw [subsF_len]; exact hi
  rw [List.take_succ_eq_append_getElem hl]
  have := subsF_at g h k ys i hi
  rw [List.getElem?_eq_getElem hl] at this
  rw [Option.some.inj this]
theorem varF_non (hh : T → W8) (k : Int) (v : W8) (hk : k ≠ 5) : ∀ ys : List T, varF hh k v ys = v
  | [] => by rw [varF]
  | t :: ts => by rw [varF, if_neg (fun h => hk h.1), varF_non hh k v hk ts]
theorem varF_bind (hh : T → W8) (k : Int) (v : W8) (hk : k = 5) : ∀ (ys : List T) (i : Nat) (hi : i < ys.length), i + 1 = ys.length → varF hh k v ys = hh ys[i]
  | [], i, hi, _ => by simp at hi
  | [t], i, hi, he => by
    have : i = 0 := by simp at hi; exact hi
    subst this
    rw [varF, if_pos ⟨hk, rfl⟩]; rfl
  | t :: t2 :: ts, 0, hi, he => by simp at he
  | t :: t2 :: ts, i + 1, hi, he => by
    rw [varF, if_neg (by simp)]
    rw [varF_bind hh k v hk (t2 :: ts) i (by simpa using hi) (by simpa using he)]
    rfl
/-- the bound variable when i arguments are done -/
def vrN (hh : T → W8) (k : Int) (v : W8) (ys : List T) (i : Nat) : W8 := if i = ys.length then varF hh k v ys else v
theorem vrN_zero (hh : T → W8) (k : Int) (v : W8) (ys : List T) : vrN hh k v ys 0 = v := by
  unfold vrN
  split
  · rename_i h
    have : ys = [] := List.eq_nil_of_length_eq_zero h.symm
    rw [this, varF]
  · rfl
theorem vrN_go (hh : T → W8) (k : Int) (v : W8) (ys : List T) (i : Nat) (hi : i < ys.length) (h : ¬ (k = 5 ∧ i + 1 = ys.length)) : vrN hh k v ys (i + 1) = vrN hh k v ys i := by
  unfold vrN
  rw [if_neg (c := i = ys.length) (by omega)]
  split
  · rename_i he
    exact varF_non hh k v (fun hk => h ⟨hk, he⟩) ys
  · rfl
theorem vrN_bind (hh : T → W8) (k : Int) (v : W8) (ys : List T) (i : Nat) (hi : i < ys.length) (h : k = 5 ∧ i + 1 = ys.length) : vrN hh k v ys (i + 1) = hh ys[i] := by
  unfold vrN
  rw [if_pos h.2, varF_bind hh k v h.1 ys i hi h.2]
theorem vrN_at (hh : T → W8) (k : Int) (v : W8) (ys : List T) (i : Nat) (hi : i < ys.length) : vrN hh k v ys i = v := by
  unfold vrN; rw [if_neg (by omega)]
theorem sub_succ (N : Nat) (t : T) (x : W8) (u : T) : sub (N + 1) t x u = if t.kind = 2 ∧ t.name = x then u else
    .mk t.kind t.name (varF (fun s => (scp (sub N) t.var s x u).1) t.kind t.var t.args) (subsF (fun z => sub N z x u) (fun s => (scp (sub N) t.var s x u).2) t.kind t.args) t.form := by rw [sub]
end Go.Proofs.YtknpigdpepmimaaGreatDoor
namespace Go.Proofs.YtknpigdpepmimaaGreatDoor
open Go.RowKit
set_option maxRecDepth 100000 in
set_option maxHeartbeats 4000000 in
theorem scope_of (N : Nat) (h : SubC N) : ScpC N := by
  intro s u v x hsz hws hwu hz hv hxl S b o A c b' o' A' c' w hS hr ht hr' ht'
  have HSUB := Lib.hid h
  have HTR := Lib.hid (hr.tr ht hS)
  have HTR' := Lib.hid (hr'.tr ht' hS)
  have HOC := Lib.hid (fun w' (hb : Below w.heap.size w w') => occurs_any x s _ b o w' ((HTR.out.below hb).more hb.size))
  have HOU := Lib.hid (fun w' (hb : Below w.heap.size w w') => occurs_any v u _ b' o' w' ((HTR'.out.below hb).more hb.size))
  have HE : Hid (scp (sub N) v s x u = if v = x ∨ x ∉ frL s then (v, s) else if v ∉ frL u then (v, sub N s x u) else (freshL (frL s ++ frL u ++ [x]), sub N (sub N s v (vrT (freshL (frL s ++ frL u ++ [x])))) x u)) := rfl
  have HA := Lib.hid (And.intro hr (And.intro ht (And.intro hr' ht')))
  have HP := Lib.hid (And.intro hsz (And.intro hws (And.intro hwu (And.intro hz (And.intro hv (And.intro hxl hS))))))
  have HB0 : Hid (Below w.heap.size w (w.alloc (.cells #[.int .i64 0, .string ⟨#[]⟩, .string ⟨#[]⟩, .slice none 0 0, .string ⟨#[]⟩] 24))) := (Below.refl _ _).alloc (Nat.le_refl _) _
  have HR0 : Hid (Bk (w.alloc (.cells #[.int .i64 0, .string ⟨#[]⟩, .string ⟨#[]⟩, .slice none 0 0, .string ⟨#[]⟩] 24)) w.heap.size (.int .i64 0) (.string ⟨#[]⟩) (.string ⟨#[]⟩) (.slice none 0 0) (.string ⟨#[]⟩)) := Bk.new w _ _ _ _ _
  have HSZ0 : Hid (w.heap.size + 1 ≤ (w.alloc (.cells #[.int .i64 0, .string ⟨#[]⟩, .string ⟨#[]⟩, .slice none 0 0, .string ⟨#[]⟩] 24)).heap.size) := by show _ ≤ _; simp
  have hnb : ∀ k, S k → k ≠ w.heap.size := fun k hk e => by have := hS k hk; omega
  have HNB := Lib.hid hnb
  clear h hr ht hr' ht' hsz hws hwu hz hv hxl hS hnb
  go_enter Tryz.func107, Tryz.ntmps107
  go_upto_region 1 with (fail)
  generalize w.alloc (.cells #[.int .i64 0, .string ⟨#[]⟩, .string ⟨#[]⟩, .slice none 0 0, .string ⟨#[]⟩] 24) = w0 at *
  by_cases hn : v = x ∨ x ∉ frL s
  · have HX := Lib.hid (HE.out.trans (if_pos hn))
    clear HE HSUB HOU
    go_cut [20] (fun s20 wx => s20 = .bool true ∧ wx = w0)
    case first =>
      by_cases hvx : v = x
      · have hb1 : (v == x) = true := by simpa using hvx
        clear hn hvx
        go_wp2_with fail
        go_meet
        case rel => exact ⟨rfl, rfl⟩
      · have hb1 : (v == x) = false := by simpa using hvx
        have ho := HOC.out w0 HB0.out
        rw [not_ocT.2 (hn.resolve_left hvx)] at ho
        have HO := Lib.hid ho
        clear hn hvx ho
        go_wp2_with fail
        refine HO.out.mono ?_
        rintro e w2 ⟨rfl, rfl⟩
        go_wp2_with fail
        go_meet
        case rel => exact ⟨rfl, rfl⟩
    case rest =>
      obtain ⟨rfl, rfl⟩ := hcut
      have hra := HA.out.1.reach HB0.out
      obtain ⟨hl, k0, k1, k2, k3, k4⟩ := hra
      obtain ⟨⟨q0, q1, q2, q3, q4⟩, qf, ql⟩ := HR0.out.cells
      clear hn HOC
      go_upto_region 2 with (fail)
      refine wp_region_noPanic ?_
      go_region_law (fail)
      all_goals
        refine NoPanic.normal ?_
        go_wp2_with fail
        rw [HX.out]
        refine bodyPost_ret (v := .tuple #[.string ⟨v.toArray⟩, .agg (tv s A c)]) (by simp [results, Tryz.results107, go_sem, tv, q0, q1, q2, q3, q4]) rfl ⟨A, c, rfl, ?_, ?_⟩
        · exact (fin5d HB0.out (HA.out.2.1.reach HP.out.2.2.2.2.2.2 HB0.out) (fun h => HNB.out _ h rfl) (fun k hk => .inl hk) _ _ _ _ _).1
        · exact (fin5d (S := S) HB0.out (HA.out.2.1.reach HP.out.2.2.2.2.2.2 HB0.out) (fun h => HNB.out _ h rfl) (fun k hk => .inl hk) _ _ _ _ _).2
  · have HX := Lib.hid (HE.out.trans (if_neg hn))
    have hvx : v ≠ x := fun e => hn (.inl e)
    have hxs : x ∈ frL s := Classical.byContradiction fun h => hn (.inr h)
    have hb1 : (v == x) = false := by simpa using hvx
    have ho := HOC.out w0 HB0.out
    rw [(ocT_iff x s).2 hxs] at ho
    have HO := Lib.hid ho
    clear HE hn hvx hxs HOC ho
    go_wp2_with fail
    refine HO.out.mono ?_
    rintro e w2 ⟨rfl, rfl⟩
    have HU := Lib.hid (HOU.out w0 HB0.out)
    clear HO HOU
    by_cases hv2 : v ∉ frL u
    · have HX2 := Lib.hid (HX.out.trans (if_pos hv2))
      rw [not_ocT.2 hv2] at HU
      have HC := Lib.hid (HSUB.out s u x HP.out.1 HP.out.2.1 HP.out.2.2.1 HP.out.2.2.2.1 HP.out.2.2.2.2.2.1 S b o A c b' o' A' c' w0 (fun k hk => Nat.lt_of_lt_of_le (HP.out.2.2.2.2.2.2 k hk) HB0.out.size) (HA.out.1.reach HB0.out) (HA.out.2.1.reach HP.out.2.2.2.2.2.2 HB0.out) (HA.out.2.2.1.reach HB0.out) (HA.out.2.2.2.reach HP.out.2.2.2.2.2.2 HB0.out))
      clear hv2 HX HSUB
      go_wp2_with fail
      refine HU.out.mono ?_
      rintro e w2 ⟨rfl, rfl⟩
      go_wp2_with fail
      refine HC.out.mono ?_
      rintro e w3 ⟨A9, c9, rfl, hv9, hb9⟩
      have HV9 := Lib.hid hv9
      have HB9 := Lib.hid (HB0.out.trans (hb9.mono HB0.out.size))
      have HR9 := Lib.hid (HR0.out.reach hb9)
      obtain ⟨⟨q0, q1, q2, q3, q4⟩, qf, ql⟩ := HR9.out.cells
      have HBS := Lib.hid hb9.size
      clear hv9 hb9 HC HU
      generalize sub N s x u = r at *
      unfold tv
      go_wp2_with fail
      rw [HX2.out]
      have hf := fun a0 a1 a2 a3 a4 => fin5 (S := S) HB9.out HV9.out (fun h => by
        rcases h with h | h
        · exact HNB.out _ h rfl
        · have := HSZ0.out; omega) (fun k hk => hk.imp id (fun h => ⟨by have := HSZ0.out; omega, h.2⟩)) a0 a1 a2 a3 a4
      exact bodyPost_ret (v := .tuple #[.string ⟨v.toArray⟩, .agg (tv r A9 c9)]) (by simp [results, Tryz.results107, go_sem, tv, q0, q1, q2, q3, q4]) rfl ⟨A9, c9, rfl, (hf _ _ _ _ _).1, (hf _ _ _ _ _).2⟩
    · have HX2 := Lib.hid (HX.out.trans (if_neg hv2))
      have hv3 : v ∈ frL u := Classical.byContradiction fun h => hv2 h
      rw [(ocT_iff v u).2 hv3] at HU
      clear hv2 hv3 HX
      go_wp2_with fail
      refine HU.out.mono ?_
      rintro e w2 ⟨rfl, rfl⟩
      clear HU
      have HF1 := Lib.hid (free40_any s b o w0 ((HTR.out.below HB0.out).more HB0.out.size) HP.out.2.1 (WF.sa s HP.out.2.1) (by have := HP.out.2.2.2.1; omega))
      go_wp2_with fail
      refine HF1.out.mono ?_
      rintro e w3 ⟨v3, rfl, hr3, -, hb3⟩
      obtain ⟨A3, n3, rfl, -⟩ := id hr3.sl
      have HB3 := Lib.hid (HB0.out.trans (hb3.mono HB0.out.size))
      have HK3 := Lib.hid hb3
      have HN3 := Lib.hid hr3.bn
      have HF2 := Lib.hid (free40_any u b' o' w3 ((HTR'.out.below HB3.out).more HB3.out.size) HP.out.2.2.1 (WF.sa u HP.out.2.2.1) (by have := HP.out.2.2.2.1; omega))
      clear hr3 hb3 HF1
      go_wp2_with fail
      refine HF2.out.mono ?_
      rintro e w4 ⟨v4, rfl, hr4, -, hb4⟩
      obtain ⟨A4, n4, rfl, -⟩ := id hr4.sl
      have HB4 := Lib.hid (HB3.out.trans (hb4.mono HB3.out.size))
      have HK4 := Lib.hid (HK3.out.trans (hb4.mono HK3.out.size))
      have HN4 := Lib.hid hr4.bn
      have HN34 := Lib.hid (HN3.out.reach hb4)
      clear hr4 hb4 HF2
      have hb5 : Below w4.heap.size w4 ((w4.alloc (.cells #[.string ⟨x.toArray⟩] 9)).alloc (.cells #[.slice A3 (frL s).length n3, .slice A4 (frL u).length n4, .slice (some ⟨w4.heap.size, 0, none⟩) 1 1] 25)) := ((Below.refl _ _).alloc (Nat.le_refl _) _).alloc (by simp) _
      have HFL : Hid ([frL s, frL u, [x]].flatten = frL s ++ frL u ++ [x]) := by show _ = _; simp
      have HL55 : Hid ((frL s ++ frL u ++ [x]).length ≤ 2755) := frs_len3 s u x HP.out.2.2.2.1
      have hcc : Calls Tryz.prog 158 #[.slice (some ⟨w4.heap.size + 1, 0, none⟩) 3 3] ((w4.alloc (.cells #[.string ⟨x.toArray⟩] 9)).alloc (.cells #[.slice A3 (frL s).length n3, .slice A4 (frL u).length n4, .slice (some ⟨w4.heap.size, 0, none⟩) 1 1] 25)) fun e w' => ∃ v, e = .returned v ∧ RL w' ((w4.alloc (.cells #[.string ⟨x.toArray⟩] 9)).alloc (.cells #[.slice A3 (frL s).length n3, .slice A4 (frL u).length n4, .slice (some ⟨w4.heap.size, 0, none⟩) 1 1] 25)).heap.size v (frL s ++ frL u ++ [x]) ∧ Below ((w4.alloc (.cells #[.string ⟨x.toArray⟩] 9)).alloc (.cells #[.slice A3 (frL s).length n3, .slice A4 (frL u).length n4, .slice (some ⟨w4.heap.size, 0, none⟩) 1 1] 25)).heap.size ((w4.alloc (.cells #[.string ⟨x.toArray⟩] 9)).alloc (.cells #[.slice A3 (frL s).length n3, .slice A4 (frL u).length n4, .slice (some ⟨w4.heap.size, 0, none⟩) 1 1] 25)) w' := by
        rw [← HFL.out]
        refine concat94_any (w4.heap.size + 1) 3 [.slice A3 (frL s).length n3, .slice A4 (frL u).length n4, .slice (some ⟨w4.heap.size, 0, none⟩) 1 1] [frL s, frL u, [x]] ((w4.alloc (.cells #[.string ⟨x.toArray⟩] 9)).alloc (.cells #[.slice A3 (frL s).length n3, .slice A4 (frL u).length n4, .slice (some ⟨w4.heap.size, 0, none⟩) 1 1] 25)) rfl (by simp) (fun j hj => ?_) (fun j hj hj' => ?_) (by rw [HFL.out]; have := HL55.out; simp at this ⊢; omega) (by simp)
        · have hj3 : j < 3 := hj
          rcases j with _ | _ | _ | j <;> first | omega | (simp; done) | (simp [World.cell?, World.alloc]; done)
        · have hj3 : j < 3 := hj
          rcases j with _ | _ | _ | j
          · exact HN34.out.reach hb5
          · exact HN4.out.reach hb5
          · refine ⟨⟨some ⟨w4.heap.size, 0, none⟩, 1, rfl, ⟨Nat.le_refl _, by omega⟩, fun _ => ⟨_, 0, rfl, (by simp; omega), fun i hi => ?_⟩⟩, fun n c e => by cases e⟩
            have hi0 : i = 0 := by simp at hi; exact hi
            subst hi0
            simp
          · omega
      have HCC := Lib.hid hcc
      have HB5 := Lib.hid (HB4.out.trans (hb5.mono HB4.out.size))
      have HK5 := Lib.hid (HK4.out.trans (hb5.mono HK4.out.size))
      clear hcc hb5 HN3 HN4 HN34
      go_wp2_with fail
      refine HCC.out.mono ?_
      rintro e w6 ⟨v6, rfl, hr6, hb6⟩
      have HB6 := Lib.hid (HB5.out.trans (hb6.mono HB5.out.size))
      have HK6 := Lib.hid (HK5.out.trans (hb6.mono HK5.out.size))
      have HF6 := Lib.hid (fresh26_any v6 _ w6 hr6.sl HL55.out (fun y hy => by
        have h16 : ∀ t : T, WF t → ∀ z ∈ frL t, z.length ≤ 1000 := fun t ht z hz => by
          have h1 := ident_word ((frL_ok t ht).2 z hz)
          unfold wordB at h1; simp at h1; omega
        unfold maxLen
        rcases List.mem_append.1 hy with hy | hy
        · rcases List.mem_append.1 hy with hy | hy
          · have := h16 s HP.out.2.1 y hy; omega
          · have := h16 u HP.out.2.2.1 y hy; omega
        · rw [List.mem_singleton] at hy
          have := HP.out.2.2.2.2.2.1
          rw [hy]; omega))
      have HID := Lib.hid (fresh_ident _ HL55.out)
      clear hr6 hb6 HCC HFL HL55
      generalize freshL (frL s ++ frL u ++ [x]) = fr at *
      go_wp2_with fail
      refine HF6.out.mono ?_
      rintro e w7 ⟨rfl, hb7⟩
      have HB7 := Lib.hid (HB6.out.trans (hb7.mono HB6.out.size))
      have HK7 := Lib.hid (HK6.out.trans (hb7.mono HK6.out.size))
      clear hb7 HF6
      have hb8 : Below w7.heap.size w7 (w7.alloc (.cells #[.int .i64 2, .string ⟨fr.toArray⟩, .string ⟨#[]⟩, .slice none 0 0, .string ⟨#[]⟩] 24)) := (Below.refl _ _).alloc (Nat.le_refl _) _
      have HB8 := Lib.hid (HB7.out.trans (hb8.mono HB7.out.size))
      have HK8 := Lib.hid (HK7.out.trans (hb8.mono HK7.out.size))
      have HSV : Hid ((vrT fr).size = 1) := vrT_size fr
      have hvl : v.length ≤ 1000 := by
        have h1 := ident_word HP.out.2.2.2.2.1
        unfold wordB at h1; simp at h1; omega
      have hrt : Rt (w7.alloc (.cells #[.int .i64 2, .string ⟨fr.toArray⟩, .string ⟨#[]⟩, .slice none 0 0, .string ⟨#[]⟩] 24)) w7.heap.size 0 (vrT fr) none 0 := ⟨by simp, by simp [vrT, T.kind], by simp [vrT, T.name], by simp [vrT, T.var], by simp [vrT, T.args], by simp [vrT, T.form]⟩
      have HC8 := Lib.hid (HSUB.out s (vrT fr) v HP.out.1 HP.out.2.1 (vrT_wf HID.out) (by have := HP.out.2.2.2.1; have := size_pos u; rw [HSV.out]; omega) hvl S b o A c w7.heap.size 0 none 0 _ (fun k hk => Nat.lt_of_lt_of_le (HP.out.2.2.2.2.2.2 k hk) HB8.out.size) (HA.out.1.reach HB8.out) (HA.out.2.1.reach HP.out.2.2.2.2.2.2 HB8.out) hrt ⟨⟨Nat.le_refl _, by omega⟩, fun h => absurd rfl h⟩)
      have HSZ1 : Hid ((sub N s v (vrT fr)).size ≤ s.size) := sub_var_size N s v fr
      have HWF1 : Hid (WF (sub N s v (vrT fr))) := sub_wf N s v (vrT fr) HP.out.2.1 (vrT_wf HID.out) (by have := HP.out.2.2.2.1; have := size_pos u; rw [HSV.out]; omega)
      clear hb8 hrt hvl HSV HID
      go_wp2_with fail
      generalize w7.alloc (.cells #[.int .i64 2, .string ⟨fr.toArray⟩, .string ⟨#[]⟩, .slice none 0 0, .string ⟨#[]⟩] 24) = w8 at *
      refine HC8.out.mono ?_
      rintro e w9 ⟨A9, c9, rfl, hv9, hb9⟩
      have HB9 := Lib.hid (HB8.out.trans (hb9.mono HB8.out.size))
      have HK9 := Lib.hid (HK8.out.trans (hb9.mono HK8.out.size))
      generalize sub N s v (vrT fr) = r1 at *
      have hb10 : Below w9.heap.size w9 (w9.alloc (.cells #[.int .i64 r1.kind, .string ⟨r1.name.toArray⟩, .string ⟨r1.var.toArray⟩, .slice A9 r1.args.length c9, .string ⟨r1.form.toArray⟩] 24)) := (Below.refl _ _).alloc (Nat.le_refl _) _
      have HB10 := Lib.hid (HB9.out.trans (hb10.mono HB9.out.size))
      have HK10 := Lib.hid (HK9.out.trans (hb10.mono HK9.out.size))
      have hrt : Rt (w9.alloc (.cells #[.int .i64 r1.kind, .string ⟨r1.name.toArray⟩, .string ⟨r1.var.toArray⟩, .slice A9 r1.args.length c9, .string ⟨r1.form.toArray⟩] 24)) w9.heap.size 0 r1 A9 c9 := ⟨by simp, by simp, by simp, by simp, by simp, by simp⟩
      have hS9 : ∀ k, Nw S w8 w9 k → k < w9.heap.size := fun k hk => hk.elim (fun h => by have := HP.out.2.2.2.2.2.2 k h; have := HB9.out.size; omega) (fun h => h.2)
      have HS9 := Lib.hid hS9
      have HC10 := Lib.hid (HSUB.out r1 u x (by have := HSZ1.out; have := HP.out.1; omega) HWF1.out HP.out.2.2.1 (by have := HSZ1.out; have := HP.out.2.2.2.1; omega) HP.out.2.2.2.2.2.1 (Nw S w8 w9) w9.heap.size 0 A9 c9 b' o' A' c' _ (fun k hk => Nat.lt_of_lt_of_le (hS9 k hk) hb10.size) hrt (hv9.reach hS9 hb10) (HA.out.2.2.1.reach HB10.out) ((HA.out.2.2.2.reach HP.out.2.2.2.2.2.2 HB10.out).wider (fun k hk => .inl hk)))
      have HSZ8 : Hid (w.heap.size + 1 ≤ w8.heap.size ∧ w8.heap.size ≤ w9.heap.size ∧ w9.heap.size ≤ (w9.alloc (.cells #[.int .i64 r1.kind, .string ⟨r1.name.toArray⟩, .string ⟨r1.var.toArray⟩, .slice A9 r1.args.length c9, .string ⟨r1.form.toArray⟩] 24)).heap.size) := ⟨by have := HK8.out.size; have := HSZ0.out; omega, hb9.size, hb10.size⟩
      clear hb9 hb10 hrt hS9 hv9 HC8 HSUB
      unfold tv
      go_wp2_with fail
      generalize w9.alloc (.cells #[.int .i64 r1.kind, .string ⟨r1.name.toArray⟩, .string ⟨r1.var.toArray⟩, .slice A9 r1.args.length c9, .string ⟨r1.form.toArray⟩] 24) = w10 at *
      refine HC10.out.mono ?_
      rintro e w11 ⟨A11, c11, rfl, hv11, hb11⟩
      have HV11 := Lib.hid hv11
      have HB11 := Lib.hid (HB10.out.trans (hb11.mono HB10.out.size))
      have HK11 := Lib.hid (HK10.out.trans (hb11.mono HK10.out.size))
      have HS11 := Lib.hid hb11.size
      have HR11 : Hid (Bk w11 w.heap.size (.int .i64 0) (.string ⟨#[]⟩) (.string ⟨#[]⟩) (.slice none 0 0) (.string ⟨#[]⟩)) := HR0.out.reach HK11.out
      obtain ⟨⟨q0, q1, q2, q3, q4⟩, qf, ql⟩ := HR11.out.cells
      clear hv11 hb11 HC10
      generalize sub N r1 x u = r2 at *
      unfold tv
      go_wp2_with fail
      rw [HX2.out]
      have hf := fun a0 a1 a2 a3 a4 => fin5 (S := S) HB11.out HV11.out (fun h => by
        rcases h with (h | h) | h
        · exact HNB.out _ h rfl
        · have := HSZ8.out.1; omega
        · have := HSZ8.out; omega) (fun k hk => by
        rcases hk with (h | h) | h
        · exact .inl h
        · exact .inr ⟨by have := HSZ8.out.1; omega, by have := HSZ8.out; have := HS11.out; omega⟩
        · exact .inr ⟨by have := HSZ8.out; omega, h.2⟩) a0 a1 a2 a3 a4
      exact bodyPost_ret (v := .tuple #[.string ⟨fr.toArray⟩, .agg (tv r2 A11 c11)]) (by simp [results, Tryz.results107, go_sem, tv, q0, q1, q2, q3, q4]) rfl ⟨A11, c11, rfl, (hf _ _ _ _ _).1, (hf _ _ _ _ _).2⟩
end Go.Proofs.YtknpigdpepmimaaGreatDoor
namespace Go.Proofs.YtknpigdpepmimaaGreatDoor
open Go.RowKit
theorem Bk.rt {w : World} {b : Nat} {t : T} {A : Option Addr} {c : Nat} (h : Bk w b (.int .i64 t.kind) (.string ⟨t.name.toArray⟩) (.string ⟨t.var.toArray⟩) (.slice A t.args.length c) (.string ⟨t.form.toArray⟩)) : Rt w b 0 t A c := by
  obtain ⟨⟨q0, q1, q2, q3, q4⟩, _, ql⟩ := h.cells
  exact ⟨ql, q0, by rw [Nat.zero_add]; exact q1, by rw [Nat.zero_add]; exact q2, by rw [Nat.zero_add]; exact q3, by rw [Nat.zero_add]; exact q4⟩
theorem Bk.set5 {w : World} {b : Nat} {v0 v1 v2 v3 v4 : Value} (h : Bk w b v0 v1 v2 v3 v4) (a0 a1 a2 a3 a4 : Value) :
    Bk (((((w.setCell ⟨b, 0, none⟩ a0).setCell ⟨b, 1, none⟩ a1).setCell ⟨b, 2, none⟩ a2).setCell ⟨b, 3, none⟩ a3).setCell ⟨b, 4, none⟩ a4) b a0 a1 a2 a3 a4 :=
  ((((h.set0 a0).set1 a1).set2 a2).set3 a3).set4 a4
/-- the blocks that the terms of subst's row may lie in -/
def Zz (S : Nat → Prop) (B : Nat) : Nat → Prop := fun k => S k ∨ B ≤ k
/-- behind the append of a round -/
theorem sub_append {S : Nat → Prop} {W w7 : World} {B D g cap : Nat} {v : Value} {l : List TX} {x : TX} (ob : Obj) (hS : ∀ k, S k → k < B) (hO : OT (Zz S B) W B v l) (hD : ∀ k, v.ownBlock = some k → k < D) (hBD : B ≤ D) (hDW : D ≤ W.heap.size)
    (hx : TVS W (fun k => S k ∨ (D ≤ k ∧ k < W.heap.size)) x.t x.A x.c)
    (hown : w7.ownsRow B 24 5 (.slice (some ⟨g, 0, none⟩) (l.length + 1) cap) (l.length + 1) (txc l ++ x.cells)) (hg : (W.alloc ob).grownBy w7 v.ownBlock) (hat : v.ownBlock = some g ∨ g = (W.alloc ob).heap.size) :
    OT (Zz S B) w7 B (.slice (some ⟨g, 0, none⟩) (l.length + 1) cap) (l ++ [x]) ∧ Below B W w7 := by
  have hx2 : TVS W (Zo (Zz S B) W v) x.t x.A x.c := hx.keep (fun k hk => by
    refine ⟨?_, rfl⟩
    rcases hk with hk | hk
    · refine ⟨.inl hk, ?_, fun e => ?_⟩
      · have := hS k hk; omega
      · have := hS k hk; have := (hO.lt k e).1; omega
    · exact ⟨.inr (by omega), hk.2, fun e => by have := hD k e; omega⟩)
  have := ot_append ob hO hx2 hown hg hat (by omega)
  exact ⟨this.1, this.2.1⟩
theorem OT.grow {Z : Nat → Prop} {w W : World} {B cb : Nat} {v : Value} {l : List TX} (h : OT Z w B v l) (hg : w.grownBy W (some cb)) (hcb : cb < B) (hZ : ¬ Z cb) : OT Z W B v l := by
  refine ⟨World.ownsRow.kept h.1 hg ?_, fun x hx => (h.2 x hx).keep (fun k hk => ⟨⟨hk.1, Nat.lt_of_lt_of_le hk.2.1 hg.size, hk.2.2⟩, hg.block k hk.2.1 (fun e => hZ (by injection e with e; rw [← e]; exact hk.1))⟩)⟩
  cases hv : v.ownBlock with
  | none => exact .inl rfl
  | some k => right; intro e; cases e; have := (h.lt cb hv).1; omega
theorem grown_var {wr wc : World} (hb : Below wr.heap.size wr wc) (cb o b9 : Nat) (h9 : wr.heap.size ≤ b9) (u a0 a1 a2 a3 a4 : Value) :
    wr.grownBy ((((((wc.setCell ⟨cb, o, none⟩ u).setCell ⟨b9, 0, none⟩ a0).setCell ⟨b9, 1, none⟩ a1).setCell ⟨b9, 2, none⟩ a2).setCell ⟨b9, 3, none⟩ a3).setCell ⟨b9, 4, none⟩ a4) (some cb) := by
  have h0 := below5s (bz := b9) ((Below.refl 0 wc).setCell (p := ⟨cb, o, none⟩) (Nat.zero_le _) u) (Nat.zero_le _) a0 a1 a2 a3 a4
  refine ⟨h0.os.trans hb.os, h0.tape.trans hb.tape, h0.output.trans hb.output, Nat.le_trans hb.size h0.size, fun k hk hne => ?_⟩
  have hn9 : ∀ (X : World) (o : Nat) (a : Value), (X.setCell ⟨b9, o, none⟩ a).heap[k]? = X.heap[k]? := fun X o a => Below.heap_setCell X ⟨b9, o, none⟩ a k (fun e => by have : k = b9 := e; omega)
  rw [hn9, hn9, hn9, hn9, hn9, Below.heap_setCell wc ⟨cb, o, none⟩ u k (fun e => hne (by have : k = cb := e; rw [this]))]
  exact hb.block k hk
theorem Bk.other5 {w : World} {b b' : Nat} {v0 v1 v2 v3 v4 : Value} (h : Bk w b v0 v1 v2 v3 v4) (a0 a1 a2 a3 a4 : Value) (hne : b ≠ b') :
    Bk (((((w.setCell ⟨b', 0, none⟩ a0).setCell ⟨b', 1, none⟩ a1).setCell ⟨b', 2, none⟩ a2).setCell ⟨b', 3, none⟩ a3).setCell ⟨b', 4, none⟩ a4) b v0 v1 v2 v3 v4 :=
  ((((h.other a0 hne).other a1 hne).other a2 hne).other a3 hne).other a4 hne
theorem sub_facts {S S' : Nat → Prop} {w X : World} {n b9 : Nat} {z0 z1 z2 z3 z4 c0 c1 c2 c3 c4 p0 p1 p2 p3 p4 : Value} {r : T} {A9 : Option Addr} {c9 D : Nat} (h9 : n + 2 ≤ b9) (hR : Bk X n z0 z1 z2 z3 z4) (hC : Bk X (n + 1) c0 c1 c2 c3 c4) (hP : Bk X b9 p0 p1 p2 p3 p4)
    (hV : TVS X S' r A9 c9) (hS : ¬ S' b9) (hS2 : ∀ k, S' k → S k ∨ (D ≤ k ∧ k < X.heap.size)) (hB : Below n w X) (hD : D ≤ X.heap.size) (a0 a1 a2 a3 a4 : Value) :
    Bk (((((X.setCell ⟨b9, 0, none⟩ a0).setCell ⟨b9, 1, none⟩ a1).setCell ⟨b9, 2, none⟩ a2).setCell ⟨b9, 3, none⟩ a3).setCell ⟨b9, 4, none⟩ a4) n z0 z1 z2 z3 z4 ∧
    Bk (((((X.setCell ⟨b9, 0, none⟩ a0).setCell ⟨b9, 1, none⟩ a1).setCell ⟨b9, 2, none⟩ a2).setCell ⟨b9, 3, none⟩ a3).setCell ⟨b9, 4, none⟩ a4) (n + 1) c0 c1 c2 c3 c4 ∧
    Bk (((((X.setCell ⟨b9, 0, none⟩ a0).setCell ⟨b9, 1, none⟩ a1).setCell ⟨b9, 2, none⟩ a2).setCell ⟨b9, 3, none⟩ a3).setCell ⟨b9, 4, none⟩ a4) b9 a0 a1 a2 a3 a4 ∧
    TVS (((((X.setCell ⟨b9, 0, none⟩ a0).setCell ⟨b9, 1, none⟩ a1).setCell ⟨b9, 2, none⟩ a2).setCell ⟨b9, 3, none⟩ a3).setCell ⟨b9, 4, none⟩ a4) (fun k => S k ∨ (D ≤ k ∧ k < (((((X.setCell ⟨b9, 0, none⟩ a0).setCell ⟨b9, 1, none⟩ a1).setCell ⟨b9, 2, none⟩ a2).setCell ⟨b9, 3, none⟩ a3).setCell ⟨b9, 4, none⟩ a4).heap.size)) r A9 c9 ∧
    Below n w (((((X.setCell ⟨b9, 0, none⟩ a0).setCell ⟨b9, 1, none⟩ a1).setCell ⟨b9, 2, none⟩ a2).setCell ⟨b9, 3, none⟩ a3).setCell ⟨b9, 4, none⟩ a4) ∧
    D ≤ (((((X.setCell ⟨b9, 0, none⟩ a0).setCell ⟨b9, 1, none⟩ a1).setCell ⟨b9, 2, none⟩ a2).setCell ⟨b9, 3, none⟩ a3).setCell ⟨b9, 4, none⟩ a4).heap.size := by
  refine ⟨hR.other5 _ _ _ _ _ (by omega), hC.other5 _ _ _ _ _ (by omega), hP.set5 _ _ _ _ _, (hV.set5 b9 a0 a1 a2 a3 a4 hS).wider (fun k hk => ?_), below5s hB (by omega) _ _ _ _ _, ?_⟩
  · rw [size_set5]; exact hS2 k hk
  · rw [size_set5]; exact hD
set_option maxRecDepth 100000 in
set_option maxHeartbeats 8000000 in
theorem subst_aux (N : Nat) : SubC N := by
  induction N with
  | zero => intro t u x ht; exact absurd ht (by have := size_pos t; omega)
  | succ N ih =>
    intro t u x hsz hws hwu hz hxl S b o A c b' o' A' c' w hS hr ht hr' ht'
    have IH := Lib.hid ih
    have IS := Lib.hid (scope_of N ih)
    have HE := Lib.hid (sub_succ N t x u)
    have HA := Lib.hid (And.intro hr (And.intro ht (And.intro hr' ht')))
    have HP := Lib.hid (And.intro hwu (And.intro hz (And.intro hxl hS)))
    have HWS : Hid (∀ s ∈ t.args, s.size ≤ N ∧ WF s ∧ s.size < t.size) := fun s hs => by have := size_arg hs; exact ⟨by omega, (hws.parts.2).mem hs, this⟩
    have HVI : Hid (t.kind = 5 → identB t.var = true) := fun hk => (own_bind hws.parts.1 hk).1
    have HLS : Hid (t.args.length ≤ 2700) := by have := len_sizes t.args; have := size_eq t; show _ ≤ 2700; omega
    obtain ⟨hbl, a0, a1, a2, a3, a4⟩ := hr
    obtain ⟨hbl', d0, d1, d2, d3, d4⟩ := hr'
    obtain ⟨⟨hcp1, hcp2⟩, hTA⟩ := ht
    have hyl : t.args.length ≤ 9223372036854775807 := by omega
    have HTA := Lib.hid hTA
    clear ih hsz hws hwu hz hxl hS ht' hTA
    by_cases hvx : t.kind = 2 ∧ t.name = x
    · have HX : Hid (sub (N + 1) t x u = u) := HE.out.trans (if_pos hvx)
      have hb1 : (t.kind == 2) = true := by simp [hvx.1]
      have hb2 : (t.name == x) = true := by simpa using hvx.2
      clear hvx HE IH IS HTA HWS HVI
      have HB0 : Hid (Below w.heap.size w (w.alloc (.cells #[.int .i64 0, .string ⟨#[]⟩, .string ⟨#[]⟩, .slice none 0 0, .string ⟨#[]⟩] 24))) := (Below.refl _ _).alloc (Nat.le_refl _) _
      have HR0 : Hid (Bk (w.alloc (.cells #[.int .i64 0, .string ⟨#[]⟩, .string ⟨#[]⟩, .slice none 0 0, .string ⟨#[]⟩] 24)) w.heap.size (.int .i64 0) (.string ⟨#[]⟩) (.string ⟨#[]⟩) (.slice none 0 0) (.string ⟨#[]⟩)) := Bk.new w _ _ _ _ _
      go_enter Tryz.func58, Tryz.ntmps58
      go_upto_region 1 with (fail)
      have a0 := (HB0.out.cell (p := ⟨b, o, none⟩) hbl).trans a0
      have a1 := (HB0.out.cell (p := ⟨b, o + 1, none⟩) hbl).trans a1
      have d0 := (HB0.out.cell (p := ⟨b', o', none⟩) hbl').trans d0
      have d1 := (HB0.out.cell (p := ⟨b', o' + 1, none⟩) hbl').trans d1
      have d2 := (HB0.out.cell (p := ⟨b', o' + 2, none⟩) hbl').trans d2
      have d3 := (HB0.out.cell (p := ⟨b', o' + 3, none⟩) hbl').trans d3
      have d4 := (HB0.out.cell (p := ⟨b', o' + 4, none⟩) hbl').trans d4
      clear a2 a3 a4
      generalize w.alloc (.cells #[.int .i64 0, .string ⟨#[]⟩, .string ⟨#[]⟩, .slice none 0 0, .string ⟨#[]⟩] 24) = w0 at *
      obtain ⟨⟨q0, q1, q2, q3, q4⟩, qf, ql⟩ := HR0.out.cells
      go_wp2_with fail
      rw [HX.out]
      have hf := fun a0 a1 a2 a3 a4 => fin5 (S := S) HB0.out (HA.out.2.2.2.reach HP.out.2.2.2 HB0.out) (fun h => by have := HP.out.2.2.2 _ h; omega) (fun k hk => .inl hk) a0 a1 a2 a3 a4
      exact bodyPost_ret (v := .agg (tv u A' c')) (by simp [results, Tryz.results58, go_sem, tv, q0, q1, q2, q3, q4]) rfl ⟨A', c', rfl, (hf _ _ _ _ _).1, (hf _ _ _ _ _).2⟩
    · have HX := Lib.hid (HE.out.trans (if_neg hvx))
      have HB0 : Hid (Below w.heap.size w (w.alloc (.cells #[.int .i64 0, .string ⟨#[]⟩, .string ⟨#[]⟩, .slice none 0 0, .string ⟨#[]⟩] 24))) := (Below.refl _ _).alloc (Nat.le_refl _) _
      have HR0 : Hid (Bk (w.alloc (.cells #[.int .i64 0, .string ⟨#[]⟩, .string ⟨#[]⟩, .slice none 0 0, .string ⟨#[]⟩] 24)) w.heap.size (.int .i64 0) (.string ⟨#[]⟩) (.string ⟨#[]⟩) (.slice none 0 0) (.string ⟨#[]⟩)) := Bk.new w _ _ _ _ _
      have HSZ0 : Hid ((w.alloc (.cells #[.int .i64 0, .string ⟨#[]⟩, .string ⟨#[]⟩, .slice none 0 0, .string ⟨#[]⟩] 24)).heap.size = w.heap.size + 1) := by show _ = _; simp
      have HCA := Lib.hid (And.intro a0 (And.intro a1 (And.intro a2 (And.intro a3 a4))))
      clear HE
      go_enter Tryz.func58, Tryz.ntmps58
      go_upto_region 1 with (fail)
      have a0 := (HB0.out.cell (p := ⟨b, o, none⟩) hbl).trans a0
      have a1 := (HB0.out.cell (p := ⟨b, o + 1, none⟩) hbl).trans a1
      clear a2 a3 a4 d0 d1 d2 d3 d4
      generalize w.alloc (.cells #[.int .i64 0, .string ⟨#[]⟩, .string ⟨#[]⟩, .slice none 0 0, .string ⟨#[]⟩] 24) = w0 at *
      go_cut [22] (fun s22 wx => s22 = .bool false ∧ w0 = wx)
      case first =>
        clear HX
        by_cases hk : t.kind = 2
        · have hb1 : (t.kind == 2) = true := by simp [hk]
          have hb2 : (t.name == x) = false := by
            have : t.name ≠ x := fun h => hvx ⟨hk, h⟩
            simpa using this
          clear hk hvx
          go_wp2_with fail
          go_meet
          case rel => exact ⟨rfl, rfl⟩
        · have hb1 : (t.kind == 2) = false := by simpa using hk
          clear hk hvx
          go_wp2_with fail
          go_meet
          case rel => exact ⟨rfl, rfl⟩
      case rest =>
        obtain ⟨rfl, rfl⟩ := hcut
        clear hvx a0 a1
        have hA2 := HA.out.1.reach HB0.out
        obtain ⟨_, a0, a1, a2, a3, a4⟩ := hA2
        go_upto_region 5 with (fail)
        have hb1 : Below w.heap.size w (w0.alloc (.cells #[.int .i64 t.kind, .string ⟨t.name.toArray⟩, .string ⟨t.var.toArray⟩, .slice none 0 0, .string ⟨t.form.toArray⟩] 24)) := HB0.out.alloc HB0.out.size _
        have HR1 : Hid (Bk (w0.alloc (.cells #[.int .i64 t.kind, .string ⟨t.name.toArray⟩, .string ⟨t.var.toArray⟩, .slice none 0 0, .string ⟨t.form.toArray⟩] 24)) w.heap.size (.int .i64 0) (.string ⟨#[]⟩) (.string ⟨#[]⟩) (.slice none 0 0) (.string ⟨#[]⟩)) := HR0.out.reach ((Below.refl _ _).alloc (Nat.le_refl _) _)
        have hc1 := Bk.new w0 (.int .i64 t.kind) (.string ⟨t.name.toArray⟩) (.string ⟨t.var.toArray⟩) (.slice none 0 0) (.string ⟨t.form.toArray⟩)
        have hs1 : (w0.alloc (.cells #[.int .i64 t.kind, .string ⟨t.name.toArray⟩, .string ⟨t.var.toArray⟩, .slice none 0 0, .string ⟨t.form.toArray⟩] 24)).heap.size = w.heap.size + 2 := by rw [World.size_alloc, HSZ0.out]
        rw [HSZ0.out] at hc1 ⊢
        have HC1 := Lib.hid hc1
        have HB1 := Lib.hid hb1
        have HS1 := Lib.hid hs1
        generalize w0.alloc (.cells #[.int .i64 t.kind, .string ⟨t.name.toArray⟩, .string ⟨t.var.toArray⟩, .slice none 0 0, .string ⟨t.form.toArray⟩] 24) = w1 at *
        clear hb1 hc1 hs1 HR0 HB0 HSZ0 a0 a1 a2 a3 a4
        have a3 := (HB1.out.cell (p := ⟨b, o + 3, none⟩) hbl).trans HCA.out.2.2.2.1
        obtain ⟨ys, hys⟩ : ∃ ys, ys = t.args := ⟨_, rfl⟩
        rw [← hys] at HX HTA HWS HCA HLS a3 hyl hcp1
        clear hys
        generalize hhh : (fun s => (scp (sub N) t.var s x u).1) = hh at *
        generalize hrs : subsF (fun z => sub N z x u) (fun s => (scp (sub N) t.var s x u).2) t.kind ys = rs at *
        have HRL : Hid (rs.length = ys.length) := by show _ = _; rw [← hrs, subsF_len]
        have HRS : Hid (∀ (i : Nat) (hi : i < ys.length), rs.take (i + 1) = rs.take i ++ [if t.kind = 5 ∧ i + 1 = ys.length then (scp (sub N) t.var ys[i] x u).2 else sub N ys[i] x u]) := fun i hi => by rw [← hrs]; exact subsF_take _ _ _ ys i hi
        have HHH : Hid (∀ s, hh s = (scp (sub N) t.var s x u).1) := fun s => by rw [← hhh]
        clear hhh hrs
        generalize hkk : t.kind = kk at *
        generalize t.name = nm at *
        generalize htv : t.var = tvr at *
        generalize t.form = fm at *
        clear hkk htv
        go_wp2_with fail
        clear a3
        go_loopg [8, 9, 35] ys.length (fun gg s8 s9 s35 wr => ∃ (v : Value) (l : List TX), l.length ≤ ys.length ∧ ys.length - l.length ≤ gg ∧ s35 = .int .i64 l.length ∧ Aside (l.map TX.t = rs.take l.length) ∧ Aside (OT (Zz S (w.heap.size + 2)) wr (w.heap.size + 2) v l) ∧ Aside (Bk wr w.heap.size (.int .i64 0) (.string ⟨#[]⟩) (.string ⟨#[]⟩) (.slice none 0 0) (.string ⟨#[]⟩)) ∧ Aside (Bk wr (w.heap.size + 1) (.int .i64 kk) (.string ⟨nm.toArray⟩) (.string ⟨(vrN hh kk tvr ys l.length).toArray⟩) v (.string ⟨fm.toArray⟩)) ∧ Aside (Below w.heap.size w wr) ∧ Aside (w.heap.size + 2 ≤ wr.heap.size))
        case atStart => exact ⟨.slice none 0 0, [], Nat.zero_le _, by simp, rfl, rfl, ot_nil _ _ _, HR1.out, (by have := HC1.out; rwa [← vrN_zero hh kk tvr ys] at this), HB1.out, by rw [HS1.out]; exact Nat.le_refl _⟩
        case round =>
          obtain ⟨v, l, hi, hgg, rfl, HM, HO, HR, HC, HB, HS⟩ := hrel
          have a3 := (HB.out.cell (p := ⟨b, o + 3, none⟩) hbl).trans HCA.out.2.2.2.1
          by_cases hlt : l.length < ys.length
          · have hltz : (l.length : Int) < (ys.length : Int) := by omega
            obtain ⟨b1, o1, rfl, hR1⟩ := HTA.out.at_ hlt
            have hR2 := hR1.keep (S' := S) (w' := wr) (fun k hk => ⟨hk, HB.out.block k (HP.out.2.2.2 k hk)⟩)
            obtain ⟨_, k0, k1, k2, k4, A5, c5, k3, hv5⟩ := hR2.parts
            have HV5 := Lib.hid hv5
            have HW5 := Lib.hid (HWS.out _ (List.getElem_mem hlt))
            have HRT := Lib.hid (HRS.out _ hlt)
            have HVG := Lib.hid (vrN_go hh kk tvr ys _ hlt)
            have HVB := Lib.hid (vrN_bind hh kk tvr ys _ hlt)
            have HVA := Lib.hid (vrN_at hh kk tvr ys _ hlt)
            have hll : l.length ≤ 2700 := by have := HLS.out; omega
            clear hR1 hR2 hv5
            generalize ys[l.length] = s at *
            go_upto_region 9 with (fail)
            have hb6 : Below wr.heap.size wr (wr.alloc (.cells #[.int .i64 s.kind, .string ⟨s.name.toArray⟩, .string ⟨s.var.toArray⟩, .slice A5 s.args.length c5, .string ⟨s.form.toArray⟩] 24)) := (Below.refl _ _).alloc (Nat.le_refl _) _
            have HB6 := Lib.hid hb6
            have HK6 := Lib.hid (Bk.new wr (.int .i64 s.kind) (.string ⟨s.name.toArray⟩) (.string ⟨s.var.toArray⟩) (.slice A5 s.args.length c5) (.string ⟨s.form.toArray⟩))
            have HS6 : Hid ((wr.alloc (.cells #[.int .i64 s.kind, .string ⟨s.name.toArray⟩, .string ⟨s.var.toArray⟩, .slice A5 s.args.length c5, .string ⟨s.form.toArray⟩] 24)).heap.size = wr.heap.size + 1) := by show _ = _; simp
            clear hb6 k0 k1 k2 k3 k4 a3
            generalize wr.alloc (.cells #[.int .i64 s.kind, .string ⟨s.name.toArray⟩, .string ⟨s.var.toArray⟩, .slice A5 s.args.length c5, .string ⟨s.form.toArray⟩] 24) = w6 at *
            have HBW := Lib.hid (HB.out.trans (HB6.out.mono HB.out.size))
            have a0 := (HBW.out.cell (p := ⟨b, o, none⟩) hbl).trans HCA.out.1
            have a2 := (HBW.out.cell (p := ⟨b, o + 2, none⟩) hbl).trans HCA.out.2.2.1
            have a3 := (HBW.out.cell (p := ⟨b, o + 3, none⟩) hbl).trans HCA.out.2.2.2.1
            go_cut [59] (fun s59 wx => s59 = .bool (decide (kk = 5 ∧ l.length + 1 = ys.length)) ∧ w6 = wx)
            case first =>
              by_cases hk : kk = 5
              · have hb1 : (kk == 5) = true := by simp [hk]
                by_cases he : l.length + 1 = ys.length
                · have hez : (l.length : Int) = (ys.length : Int) - 1 := by omega
                  have HPP : Hid (decide (kk = 5 ∧ l.length + 1 = ys.length) = true) := decide_eq_true ⟨hk, he⟩
                  clear hk
                  go_wp2_with fail
                  go_meet
                  case rel => exact ⟨by rw [HPP.out], rfl⟩
                · have hez : ¬ (l.length : Int) = (ys.length : Int) - 1 := by omega
                  have hez2 : ((l.length : Int) == (ys.length : Int) - 1) = false := by simpa using hez
                  have HPP : Hid (decide (kk = 5 ∧ l.length + 1 = ys.length) = false) := decide_eq_false (fun h => he h.2)
                  clear hk
                  go_wp2_with fail
                  go_meet
                  case rel => exact ⟨by rw [HPP.out], rfl⟩
              · have hb1 : (kk == 5) = false := by simp [hk]
                have HPP : Hid (decide (kk = 5 ∧ l.length + 1 = ys.length) = false) := decide_eq_false (fun h => hk h.1)
                clear hk
                go_wp2_with fail
                go_meet
                case rel => exact ⟨by rw [HPP.out], rfl⟩
            case rest =>
              obtain ⟨rfl, rfl⟩ := hcut
              go_upto_if 59 with fail
              go_cut [60] (fun _ wx => ∃ (vb : W8) (r : T) (A9 : Option Addr) (c9 : Nat), Aside (vb = vrN hh kk tvr ys (l.length + 1)) ∧ Aside (rs.take (l.length + 1) = rs.take l.length ++ [r]) ∧ Aside (OT (Zz S (w.heap.size + 2)) wx (w.heap.size + 2) v l) ∧ Aside (Bk wx w.heap.size (.int .i64 0) (.string ⟨#[]⟩) (.string ⟨#[]⟩) (.slice none 0 0) (.string ⟨#[]⟩)) ∧ Aside (Bk wx (w.heap.size + 1) (.int .i64 kk) (.string ⟨nm.toArray⟩) (.string ⟨vb.toArray⟩) v (.string ⟨fm.toArray⟩)) ∧ Aside (Bk wx wr.heap.size (.int .i64 r.kind) (.string ⟨r.name.toArray⟩) (.string ⟨r.var.toArray⟩) (.slice A9 r.args.length c9) (.string ⟨r.form.toArray⟩)) ∧ Aside (TVS wx (fun k => S k ∨ (wr.heap.size ≤ k ∧ k < wx.heap.size)) r A9 c9) ∧ Aside (Below w.heap.size w wx) ∧ Aside (wr.heap.size ≤ wx.heap.size))
              case first =>
                have HS2 : Hid (∀ k, S k → k < w6.heap.size) := fun k hk => by have := HP.out.2.2.2 k hk; have := HBW.out.size; omega
                have HSW : Hid (wr.heap.size < w6.heap.size) := by have := HS6.out; show _ < _; omega
                by_cases hbd : kk = 5 ∧ l.length + 1 = ys.length
                · rw [decide_eq_true hbd]
                  have HCL := Lib.hid (IS.out s u tvr x HW5.out.1 HW5.out.2.1 HP.out.1 (by have := HW5.out.2.2; have := HP.out.2.1; omega) (HVI.out hbd.1) HP.out.2.2.1 S wr.heap.size 0 A5 c5 b' o' A' c' w6 HS2.out HK6.out.rt (HV5.out.reach (fun k hk => by have := HP.out.2.2.2 k hk; have := HB.out.size; omega) HB6.out) (HA.out.2.2.1.reach HBW.out) (HA.out.2.2.2.reach HP.out.2.2.2 HBW.out))
                  have HV6 := Lib.hid (HVB.out hbd)
                  have HR6 : Hid (rs.take (l.length + 1) = rs.take l.length ++ [(scp (sub N) tvr s x u).2]) := HRT.out.trans (by rw [if_pos hbd])
                  rw [HHH.out] at HV6
                  clear hbd HVB HVG HRT IS IH
                  generalize scp (sub N) tvr s x u = pr at *
                  obtain ⟨r1, r2⟩ := pr
                  go_wp2_with fail
                  refine HCL.out.mono ?_
                  rintro e wc ⟨A9, c9, rfl, hv9, hb9⟩
                  have HCc := (HC.out.reach HB6.out).reach hb9
                  have HPc := HK6.out.reach hb9
                  have HRc := Lib.hid ((HR.out.reach HB6.out).reach hb9)
                  obtain ⟨⟨m0, m1, m2, m3, m4⟩, mf, ml⟩ := HCc.cells
                  have HPs := HPc.other (b' := w.heap.size + 1) (o := 2) (.string ⟨r1.toArray⟩) (by have := HS.out; omega)
                  obtain ⟨⟨p0, p1, p2, p3, p4⟩, pf, pl⟩ := HPs.cells
                  have HPS := Lib.hid HPs
                  have HV9 := Lib.hid hv9
                  have HB9 := Lib.hid hb9
                  have HCC := Lib.hid HCc
                  have HPC := Lib.hid HPc
                  clear hv9 hb9 HCc HPc HCL HPs
                  unfold tv
                  go_wp2_with fail
                  go_meet
                  case rel =>
                    have hwx : wr.heap.size ≤ wc.heap.size := by have := HB9.out.size; have := HSW.out; omega
                    have hbw : Below wr.heap.size wr wc := HB6.out.trans (HB9.out.mono HB6.out.size)
                    have hf := fun a0 a1 a2 a3 a4 => sub_facts (S := S) (S' := Nw S w6 wc) (w := w) (D := wr.heap.size) (b9 := wr.heap.size) (n := w.heap.size) HS.out (HRc.out.other (b' := w.heap.size + 1) (o := 2) (.string ⟨r1.toArray⟩) (by omega)) (HCC.out.set2 (.string ⟨r1.toArray⟩)) HPS.out
                      (HV9.out.set (w.heap.size + 1) 2 (.string ⟨r1.toArray⟩) (fun h => by
                        rcases h with h | h
                        · have := HP.out.2.2.2 _ h; omega
                        · have := HS.out; have := HSW.out; omega))
                      (fun h => by
                        rcases h with h | h
                        · have := HP.out.2.2.2 _ h; have := HS.out; omega
                        · have := HSW.out; omega)
                      (fun k hk => hk.imp id (fun h => ⟨by have := HSW.out; omega, by simpa using h.2⟩))
                      ((HB.out.trans (hbw.mono HB.out.size)).setCell (p := ⟨w.heap.size + 1, 2, none⟩) (by simp) _) (by simpa using hwx) a0 a1 a2 a3 a4
                    obtain ⟨f1, f2, f3, f4, f5, f6⟩ := hf (.int .i64 r2.kind) (.string ⟨r2.name.toArray⟩) (.string ⟨r2.var.toArray⟩) (.slice A9 r2.args.length c9) (.string ⟨r2.form.toArray⟩)
                    exact ⟨r1, r2, A9, c9, HV6.out.symm, HR6.out, HO.out.grow (grown_var hbw (w.heap.size + 1) 2 wr.heap.size (Nat.le_refl _) _ _ _ _ _ _) (by omega) (fun h => by rcases h with h | h; exact absurd (HP.out.2.2.2 _ h) (by omega); omega), f1, f2, f3, f4, f5, f6⟩
                · rw [decide_eq_false hbd]
                  have HCL := Lib.hid (IH.out s u x HW5.out.1 HW5.out.2.1 HP.out.1 (by have := HW5.out.2.2; have := HP.out.2.1; omega) HP.out.2.2.1 S wr.heap.size 0 A5 c5 b' o' A' c' w6 HS2.out HK6.out.rt (HV5.out.reach (fun k hk => by have := HP.out.2.2.2 k hk; have := HB.out.size; omega) HB6.out) (HA.out.2.2.1.reach HBW.out) (HA.out.2.2.2.reach HP.out.2.2.2 HBW.out))
                  have HV6 := Lib.hid (HVG.out hbd)
                  have HR6 : Hid (rs.take (l.length + 1) = rs.take l.length ++ [sub N s x u]) := HRT.out.trans (by rw [if_neg hbd])
                  clear hbd HVB HVG HRT IS IH
                  generalize sub N s x u = r2 at *
                  go_wp2_with fail
                  refine HCL.out.mono ?_
                  rintro e wc ⟨A9, c9, rfl, hv9, hb9⟩
                  have HPc := HK6.out.reach hb9
                  have HRc := Lib.hid ((HR.out.reach HB6.out).reach hb9)
                  have HCC := Lib.hid ((HC.out.reach HB6.out).reach hb9)
                  obtain ⟨⟨p0, p1, p2, p3, p4⟩, pf, pl⟩ := HPc.cells
                  have HV9 := Lib.hid hv9
                  have HB9 := Lib.hid hb9
                  have HPC := Lib.hid HPc
                  clear hv9 hb9 HPc HCL
                  unfold tv
                  go_wp2_with fail
                  go_meet
                  case rel =>
                    have hwx : wr.heap.size ≤ wc.heap.size := by have := HB9.out.size; have := HSW.out; omega
                    have hbw : Below wr.heap.size wr wc := HB6.out.trans (HB9.out.mono HB6.out.size)
                    have hf := fun a0 a1 a2 a3 a4 => sub_facts (S := S) (S' := Nw S w6 wc) (w := w) (D := wr.heap.size) (b9 := wr.heap.size) (n := w.heap.size) HS.out HRc.out HCC.out HPC.out HV9.out
                      (fun h => by
                        rcases h with h | h
                        · have := HP.out.2.2.2 _ h; have := HS.out; omega
                        · have := HSW.out; omega)
                      (fun k hk => hk.imp id (fun h => ⟨by have := HSW.out; omega, h.2⟩))
                      (HB.out.trans (hbw.mono HB.out.size)) hwx a0 a1 a2 a3 a4
                    obtain ⟨f1, f2, f3, f4, f5, f6⟩ := hf (.int .i64 r2.kind) (.string ⟨r2.name.toArray⟩) (.string ⟨r2.var.toArray⟩) (.slice A9 r2.args.length c9) (.string ⟨r2.form.toArray⟩)
                    exact ⟨_, r2, A9, c9, HV6.out.symm, HR6.out, HO.out.bel (below5s hbw (Nat.le_refl _) _ _ _ _ _), f1, f2, f3, f4, f5, f6⟩
              case rest =>
                obtain ⟨vb, r, A9, c9, HV6, HR6, HO6, HRz, HCb, HPb, HV9, HB9, HD9⟩ := hcut
                obtain ⟨⟨m0, m1, m2, m3, m4⟩, mf, ml⟩ := HCb.out.cells
                obtain ⟨⟨p0, p1, p2, p3, p4⟩, pf, pl⟩ := HPb.out.cells
                have HOL := Lib.hid HO.out.lt
                have mf3 := mf 3
                clear mf pf IH IS HRT HVG HVB HVA HO HR HC HK6 HV5 HBW HB6 a0 a2 a3
                obtain ⟨i0, hi0, hz0, hz1, hz2⟩ := info_parts term_info
                go_wp2_with (at_builtin; refine wpList_append_lies _ rfl _ _ 22 rfl (w.heap.size + 2) 24 i0 _ 5 80 Tryz.underlying22 hi0 hz0 hz1 hz2 rfl (by decide) v l.length (txc l) rfl (World.ownsRow.alloc HO6.out.1 _) ⟨wc.heap.size, 0, none⟩ 1 1 (TX.cells ⟨r, A9, c9⟩) rfl rfl (tx_new wc ⟨r, A9, c9⟩) (tx_one _) (by decide) (by unfold maxLen; omega) (by omega) (by have := HS.out; have := HD9.out; simp; omega) _ rfl ?_)
                intro g7 cap7 w7 hown7 hgrow7 hat7 hlt7
                have hap := sub_append (S := S) (D := wr.heap.size) (x := ⟨r, A9, c9⟩) _ (fun k hk => by have := HP.out.2.2.2 k hk; omega) HO6.out (fun k e => (HOL.out k e).2) HS.out HD9.out HV9.out hown7 hgrow7 (by rw [World.size_alloc]; exact hat7)
                have HO7 := Lib.hid hap.1
                have HB7 : Hid (Below w.heap.size w w7) := HB9.out.trans (hap.2.mono (by omega))
                have HC7 := Lib.hid (HCb.out.below hap.2 (by omega))
                have HR7 := Lib.hid (HRz.out.below hap.2 (by omega))
                have HS7 : Hid (w.heap.size + 2 ≤ w7.heap.size) := by have := hap.2.size; have := HS.out; have := HD9.out; show _ ≤ _; omega
                clear hap hown7 hgrow7 hat7 hlt7 m0 m1 m2 m3 m4 ml p0 p1 p2 p3 p4 pl HCb HRz HPb HO6 mf3
                obtain ⟨⟨m0, m1, m2, m3, m4⟩, mf, ml⟩ := HC7.out.cells
                have mf3 := mf 3
                clear mf m0 m1 m2 m4
                have HO8 := Lib.hid (HO7.out.set (cb := w.heap.size + 1) (o := 3) (u := .slice (some ⟨g7, 0, none⟩) (l.length + 1) cap7) (by omega) (fun h => by rcases h with h | h; exact absurd (HP.out.2.2.2 _ h) (by omega); omega))
                have HC8 := Lib.hid (HC7.out.set3 (.slice (some ⟨g7, 0, none⟩) (l.length + 1) cap7))
                have HR8 := Lib.hid (HR7.out.other (b' := w.heap.size + 1) (o := 3) (.slice (some ⟨g7, 0, none⟩) (l.length + 1) cap7) (by omega))
                have HB8 : Hid (Below w.heap.size w (w7.setCell ⟨w.heap.size + 1, 3, none⟩ (.slice (some ⟨g7, 0, none⟩) (l.length + 1) cap7))) := HB7.out.setCell (p := ⟨w.heap.size + 1, 3, none⟩) (by simp) _
                have HL8 : Hid ((l ++ [TX.mk r A9 c9]).length = l.length + 1) := by show _ = _; simp
                have HM8 : Hid ((l ++ [TX.mk r A9 c9]).map TX.t = rs.take (l ++ [TX.mk r A9 c9]).length) := by
                  show (l ++ [TX.mk r A9 c9]).map TX.t = _
                  rw [HL8.out, List.map_append, HM.out, HR6.out]; rfl
                rw [HV6.out, ← HL8.out] at HC8
                go_wp2_with fail
                go_roundg (ys.length - (l.length + 1))
                case measure => omega
                case rel => exact ⟨.slice (some ⟨g7, 0, none⟩) (l.length + 1) cap7, l ++ [TX.mk r A9 c9], by rw [HL8.out]; omega, by rw [HL8.out]; omega, by rw [HL8.out]; go_num, HM8.out, HO8.out, HR8.out, (by have := HC8.out; rw [HL8.out] at this ⊢; exact this), HB8.out, by rw [World.size_setCell]; exact HS7.out⟩
          · have hltz : ¬ (l.length : Int) < (ys.length : Int) := by omega
            have hlz : l.length = ys.length := by omega
            obtain ⟨A9, c9, rfl, hc9, hta9⟩ := HO.out.trs (fun k hk => .inr hk)
            have hmt : l.map TX.t = rs := by rw [HM.out, List.take_of_length_le (by have := HRL.out; omega)]
            have hvn : vrN hh kk tvr ys l.length = varF hh kk tvr ys := by unfold vrN; rw [if_pos hlz]
            have hle : l.length = rs.length := by rw [← hmt, List.length_map]
            rw [hmt] at hta9
            rw [hvn, hle] at HC
            rw [hle] at hc9
            have HT9 : Hid (TVS wr (fun k => Zz S (w.heap.size + 2) k ∧ k < wr.heap.size) (.mk kk nm (varF hh kk tvr ys) rs fm) A9 c9) := TVS.mk hc9 hta9
            obtain ⟨⟨m0, m1, m2, m3, m4⟩, mf, ml⟩ := HC.out.cells
            obtain ⟨⟨q0, q1, q2, q3, q4⟩, qf, ql⟩ := HR.out.cells
            have HXX := Lib.hid HX.out
            clear hvn hmt hta9 hc9 HM HO hlz hle IH IS HX HRS HHH HTA HWS HVI HCA a3 HC mf
            generalize varF hh kk tvr ys = vf at *
            go_wp2_with fail
            rw [HXX.out]
            have hf := fun a0 a1 a2 a3 a4 => fin5 (S := S) HB.out HT9.out (fun h => by
              rcases h.1 with h | h
              · exact absurd (HP.out.2.2.2 _ h) (by omega)
              · omega) (fun k hk => by
              rcases hk.1 with h | h
              · exact .inl h
              · exact .inr ⟨by omega, hk.2⟩) a0 a1 a2 a3 a4
            exact bodyPost_ret (v := .agg (tv (.mk kk nm vf rs fm) A9 c9)) (by simp [results, Tryz.results58, go_sem, tv, T.kind, T.name, T.var, T.args, T.form, q0, q1, q2, q3, q4]) rfl ⟨A9, c9, rfl, (hf _ _ _ _ _).1, (hf _ _ _ _ _).2⟩
end Go.Proofs.YtknpigdpepmimaaGreatDoor
namespace Go.Proofs.YtknpigdpepmimaaGreatDoor
open Go.RowKit
/-- what Subst returns -/
def sbT (t : T) (x : W8) (u : T) : T × Int := if okSub t x u = true then (if validB (subT t x u) = true then (subT t x u, 0) else (zT, 6)) else (zT, 1)
theorem Bk.new' (w : World) (t : T) (A : Option Addr) (c : Nat) : Bk (w.alloc (.cells (tv t A c) 24)) w.heap.size (.int .i64 t.kind) (.string ⟨t.name.toArray⟩) (.string ⟨t.var.toArray⟩) (.slice A t.args.length c) (.string ⟨t.form.toArray⟩) := blk_new _ _
theorem fin5z {w W : World} {b : Nat} {t : T} {A : Option Addr} {c : Nat} (hb : Below w.heap.size w W) (hn : TVS W (fun k => (w.heap.size ≤ k ∧ k < W.heap.size) ∧ k ≠ b) t A c) (hle : w.heap.size ≤ b) (a0 a1 a2 a3 a4 : Value) :
    TVS (((((W.setCell ⟨b, 0, none⟩ a0).setCell ⟨b, 1, none⟩ a1).setCell ⟨b, 2, none⟩ a2).setCell ⟨b, 3, none⟩ a3).setCell ⟨b, 4, none⟩ a4) (fun k => w.heap.size ≤ k ∧ k < (((((W.setCell ⟨b, 0, none⟩ a0).setCell ⟨b, 1, none⟩ a1).setCell ⟨b, 2, none⟩ a2).setCell ⟨b, 3, none⟩ a3).setCell ⟨b, 4, none⟩ a4).heap.size) t A c ∧
      Below w.heap.size w (((((W.setCell ⟨b, 0, none⟩ a0).setCell ⟨b, 1, none⟩ a1).setCell ⟨b, 2, none⟩ a2).setCell ⟨b, 3, none⟩ a3).setCell ⟨b, 4, none⟩ a4) :=
  ⟨(hn.set5 b a0 a1 a2 a3 a4 (fun h => h.2 rfl)).wider (fun k hk => by rw [size_set5]; exact hk.1), below5s hb hle a0 a1 a2 a3 a4⟩
set_option maxRecDepth 100000 in
set_option maxHeartbeats 4000000 in
theorem subst33_any (t u : T) (x : W8) (A : Option Addr) (c : Nat) (A' : Option Addr) (c' : Nat) (w : World) (hv : TV w w.heap.size t A c) (hv' : TV w w.heap.size u A' c') (hs : SA t) (hs' : SA u) (hxl : x.length ≤ 1000) (hm : Max w) :
    Calls Tryz.prog 28 #[.agg (tv t A c), .string ⟨x.toArray⟩, .agg (tv u A' c')] w fun e w' => ∃ A9 c9, e = .returned (.tuple #[.agg (tv (sbT t x u).1 A9 c9), .int .i64 (sbT t x u).2]) ∧ TVS w' (fun k => w.heap.size ≤ k ∧ k < w'.heap.size) (sbT t x u).1 A9 c9 ∧ Below w.heap.size w w' := by
  have hb1 : Below w.heap.size w ((w.alloc (.cells (tv t A c) 24)).alloc (.cells (tv u A' c') 24)) := ((Below.refl _ _).alloc (Nat.le_refl _) _).alloc (by simp) _
  have hs1 : ((w.alloc (.cells (tv t A c) 24)).alloc (.cells (tv u A' c') 24)).heap.size = w.heap.size + 2 := by simp
  have hk1 : Bk ((w.alloc (.cells (tv t A c) 24)).alloc (.cells (tv u A' c') 24)) w.heap.size (.int .i64 t.kind) (.string ⟨t.name.toArray⟩) (.string ⟨t.var.toArray⟩) (.slice A t.args.length c) (.string ⟨t.form.toArray⟩) := (Bk.new' w t A c).reach ((Below.refl _ _).alloc (Nat.le_refl _) _)
  have hk2 := Bk.new' (w.alloc (.cells (tv t A c) 24)) u A' c'
  rw [World.size_alloc] at hk2
  have HV := Lib.hid fun w' (hb : Below w.heap.size w w') => hv.reach hb
  have HV' := Lib.hid fun w' (hb : Below w.heap.size w w') => hv'.reach hb
  have HVS := Lib.hid hv.set
  have HVS' := Lib.hid hv'.set
  have HM := Lib.hid fun w' (hb : Below w.heap.size w w') => hm.reach hb
  have HP := Lib.hid (And.intro hs (And.intro hs' hxl))
  have HC1 := Lib.hid fun w' (hb : Below w.heap.size w w') => validT_any t A c w' (HV.out w' hb) HP.out.1 (HM.out w' hb)
  have HC2 := Lib.hid fun w' (hb : Below w.heap.size w w') => validT_any u A' c' w' (HV'.out w' hb) HP.out.2.1 (HM.out w' hb)
  have HC3 := Lib.hid fun w' => identL_any x w' HP.out.2.2
  have HE : Hid (sbT t x u = if (validB t && validB u && identB x) = true then (if validB (subT t x u) = true then (subT t x u, 0) else (zT, 6)) else (zT, 1)) := rfl
  have HS1 := Lib.hid hs1
  have HB1 := Lib.hid hb1
  have HK1 := Lib.hid hk1
  have HK2 := Lib.hid hk2
  unfold tv at HC1 HC2
  have HTV : Hid (tv t A c = #[.int .i64 t.kind, .string ⟨t.name.toArray⟩, .string ⟨t.var.toArray⟩, .slice A t.args.length c, .string ⟨t.form.toArray⟩]) := rfl
  clear hv hv' hs hs' hxl hm hb1 hs1 hk1 hk2 HTV
  generalize tv t A c = cs at *
  generalize tv u A' c' = ds at *
  go_enter Tryz.func28, Tryz.ntmps28
  go_upto_region 1 with (fail)
  generalize (w.alloc (.cells cs 24)).alloc (.cells ds 24) = w1 at *
  have HB2 : Hid (Below w.heap.size w (w1.alloc (.cells #[.int .i64 0, .string ⟨#[]⟩, .string ⟨#[]⟩, .slice none 0 0, .string ⟨#[]⟩] 24))) := HB1.out.alloc HB1.out.size _
  have hz2 := Bk.new w1 (.int .i64 0) (.string ⟨#[]⟩) (.string ⟨#[]⟩) (.slice none 0 0) (.string ⟨#[]⟩)
  rw [HS1.out] at hz2
  have HZ2 : Hid (Bk (w1.alloc (.cells #[.int .i64 0, .string ⟨#[]⟩, .string ⟨#[]⟩, .slice none 0 0, .string ⟨#[]⟩] 24)) (w.heap.size + 1 + 1) (.int .i64 0) (.string ⟨#[]⟩) (.string ⟨#[]⟩) (.slice none 0 0) (.string ⟨#[]⟩)) := hz2
  have HKT := Lib.hid (HK1.out.reach ((Below.refl _ _).alloc (Nat.le_refl _) (.cells #[.int .i64 0, .string ⟨#[]⟩, .string ⟨#[]⟩, .slice none 0 0, .string ⟨#[]⟩] 24)))
  have HKU := Lib.hid (HK2.out.reach ((Below.refl _ _).alloc (Nat.le_refl _) (.cells #[.int .i64 0, .string ⟨#[]⟩, .string ⟨#[]⟩, .slice none 0 0, .string ⟨#[]⟩] 24)))
  have HS2 : Hid (w.heap.size + 3 ≤ (w1.alloc (.cells #[.int .i64 0, .string ⟨#[]⟩, .string ⟨#[]⟩, .slice none 0 0, .string ⟨#[]⟩] 24)).heap.size) := by show _ ≤ _; rw [World.size_alloc, HS1.out]; omega
  clear hz2 HK1 HK2 HB1
  generalize w1.alloc (.cells #[.int .i64 0, .string ⟨#[]⟩, .string ⟨#[]⟩, .slice none 0 0, .string ⟨#[]⟩] 24) = w2 at *
  clear HS1
  go_cut [21] (fun s21 wx => s21 = .bool (!(validB t && validB u && identB x)) ∧ Aside (Below w2.heap.size w2 wx))
  case first =>
    obtain ⟨⟨k0, k1, k2, k3, k4⟩, _, _⟩ := HKT.out.cells
    clear HE HVS HVS' HV HV' HM HP HZ2 HS2
    cases h1 : validB t with
    | false =>
      have HX := Lib.hid (HC1.out w2 HB2.out)
      rw [h1] at HX
      have H1 := Lib.hid h1
      clear h1 HC1 HC2 HC3 HKU
      go_wp2_with fail
      refine HX.out.mono ?_
      rintro e w3 ⟨rfl, hb3⟩
      go_wp2_with fail
      go_meet
      case rel => exact ⟨by rw [H1.out]; rfl, hb3⟩
    | true =>
      have HX := Lib.hid (HC1.out w2 HB2.out)
      rw [h1] at HX
      have H1 := Lib.hid h1
      clear h1 HC1
      go_wp2_with fail
      refine HX.out.mono ?_
      rintro e w3 ⟨rfl, hb3⟩
      have HB3 := Lib.hid (HB2.out.trans (hb3.mono HB2.out.size))
      have HK3 := Lib.hid (HKU.out.reach hb3)
      have HB23 := Lib.hid hb3
      obtain ⟨⟨d0, d1, d2, d3, d4⟩, _, _⟩ := HK3.out.cells
      have HY := Lib.hid (HC2.out w3 HB3.out)
      clear hb3 HX HC2 k0 k1 k2 k3 k4 HKU HKT
      cases h2 : validB u with
      | false =>
        rw [h2] at HY
        have H2 := Lib.hid h2
        clear h2 HC3
        go_wp2_with fail
        refine HY.out.mono ?_
        rintro e w4 ⟨rfl, hb4⟩
        go_wp2_with fail
        go_meet
        case rel => exact ⟨by rw [H1.out, H2.out]; rfl, HB23.out.trans (hb4.mono HB23.out.size)⟩
      | true =>
        rw [h2] at HY
        have H2 := Lib.hid h2
        clear h2
        have HI := Lib.hid (fun w' => HC3.out w')
        generalize identB x = bi at *
        go_wp2_with fail
        refine HY.out.mono ?_
        rintro e w4 ⟨rfl, hb4⟩
        have HB4 := Lib.hid (HB23.out.trans (hb4.mono HB23.out.size))
        clear hb4 d0 d1 d2 d3 d4
        go_wp2_with fail
        refine (HI.out _).mono ?_
        rintro e w5 ⟨rfl, rfl⟩
        go_wp2_with fail
        go_meet
        case rel => exact ⟨by rw [H1.out, H2.out]; simp, HB4.out⟩
  case rest =>
    obtain ⟨rfl, HBc⟩ := hcut
    have HB3 := Lib.hid (HB2.out.trans (HBc.out.mono HB2.out.size))
    have HZ3 := Lib.hid (HZ2.out.reach HBc.out)
    have HKT3 := Lib.hid (HKT.out.reach HBc.out)
    have HKU3 := Lib.hid (HKU.out.reach HBc.out)
    have HS3 : Hid (w.heap.size + 3 ≤ wc.heap.size) := by have := HS2.out; have := HBc.out.size; show _ ≤ _; omega
    clear HB2 HZ2 HKT HKU HS2 HC1 HC2 HC3
    cases hok : validB t && validB u && identB x with
    | false =>
      have HX := Lib.hid (HE.out.trans (if_neg (by rw [hok]; decide)))
      obtain ⟨⟨q0, q1, q2, q3, q4⟩, qf, ql⟩ := HZ3.out.cells
      clear hok HE
      go_wp2_with fail
      rw [HX.out]
      exact bodyPost_ret (v := .tuple #[.agg (tv zT none 0), .int .i64 1]) (by simp [results, Tryz.results28, go_sem, tv, zT, T.kind, T.name, T.var, T.args, T.form, q0, q1, q2, q3, q4]) rfl ⟨none, 0, rfl, zT_tvs _ _, below5s HB3.out (by omega) _ _ _ _ _⟩
    | true =>
      have HX := Lib.hid (HE.out.trans (if_pos hok))
      have hok2 : (validB t = true ∧ validB u = true) ∧ identB x = true := by simpa only [Bool.and_eq_true] using hok
      have HV1 := Lib.hid ((valid_iff t).1 hok2.1.1)
      have HV2 := Lib.hid ((valid_iff u).1 hok2.1.2)
      have HWF := Lib.hid (subT_wf x hok2.1.1 hok2.1.2)
      have hsb := sub_bound hok2.1.1 hok2.1.2
      have HC := Lib.hid (subst_aux t.size t u x (Nat.le_refl _) HV1.out.1 HV2.out.1 hsb HP.out.2.2 (fun k => k < w.heap.size) w.heap.size 0 A c (w.heap.size + 1) 0 A' c' wc (fun k hk => Nat.lt_of_lt_of_le hk HB3.out.size) HKT3.out.rt (HVS.out.reach (fun _ hk => hk) HB3.out) HKU3.out.rt (HVS'.out.reach (fun _ hk => hk) HB3.out))
      have hsd : sub t.size t x u = subT t x u := rfl
      rw [hsd] at HC
      have hnz : ¬ (subT t x u).size = 0 := by have := size_pos (subT t x u); omega
      clear hok HE hok2 hsb hsd hnz HKT3 HKU3 HVS HVS' HV HV'
      generalize subT t x u = r at *
      go_wp2_with fail
      refine HC.out.mono ?_
      rintro e w4 ⟨A4, c4, rfl, hv4, hb4⟩
      have HB4 := Lib.hid (HB3.out.trans (hb4.mono HB3.out.size))
      have HZ4 := Lib.hid (HZ3.out.reach hb4)
      have hS4 : ∀ k, Nw (fun k => k < w.heap.size) wc w4 k → k < w4.heap.size := fun k hk => hk.elim (fun h => Nat.lt_of_lt_of_le h HB4.out.size) (fun h => h.2)
      have hb5 : Below w4.heap.size w4 (w4.alloc (.cells #[.int .i64 r.kind, .string ⟨r.name.toArray⟩, .string ⟨r.var.toArray⟩, .slice A4 r.args.length c4, .string ⟨r.form.toArray⟩] 24)) := (Below.refl _ _).alloc (Nat.le_refl _) _
      have hk5 := Bk.new w4 (.int .i64 r.kind) (.string ⟨r.name.toArray⟩) (.string ⟨r.var.toArray⟩) (.slice A4 r.args.length c4) (.string ⟨r.form.toArray⟩)
      have hb5' : Below w.heap.size w (w4.alloc (.cells #[.int .i64 r.kind, .string ⟨r.name.toArray⟩, .string ⟨r.var.toArray⟩, .slice A4 r.args.length c4, .string ⟨r.form.toArray⟩] 24)) := HB4.out.alloc HB4.out.size _
      have HC5 := Lib.hid (validT_any r A4 c4 _ ((hv4.tv hS4).reach hb5) (WF.sa r HWF.out) (HM.out _ hb5'))
      have htr5 : TR (w4.alloc (.cells #[.int .i64 r.kind, .string ⟨r.name.toArray⟩, .string ⟨r.var.toArray⟩, .slice A4 r.args.length c4, .string ⟨r.form.toArray⟩] 24)) (w4.alloc (.cells #[.int .i64 r.kind, .string ⟨r.name.toArray⟩, .string ⟨r.var.toArray⟩, .slice A4 r.args.length c4, .string ⟨r.form.toArray⟩] 24)).heap.size w4.heap.size 0 r := (hk5.rt).tr (hv4.reach hS4 hb5) (fun k hk => Nat.lt_of_lt_of_le (hS4 k hk) hb5.size)
      have HTR5 := Lib.hid htr5
      have HK5 := Lib.hid hk5
      have HB5 := Lib.hid hb5'
      have HZ5 := Lib.hid (HZ4.out.reach hb5)
      have HS5 : Hid (w.heap.size + 3 ≤ (w4.alloc (.cells #[.int .i64 r.kind, .string ⟨r.name.toArray⟩, .string ⟨r.var.toArray⟩, .slice A4 r.args.length c4, .string ⟨r.form.toArray⟩] 24)).heap.size) := by have := HS3.out; have := hb4.size; have := hb5.size; show _ ≤ _; omega
      obtain ⟨⟨k0, k1, k2, k3, k4⟩, _, _⟩ := HK5.out.cells
      clear hb4 hb5 hk5 hb5' htr5 hv4 hS4 HC HZ3 HZ4
      unfold tv at HC5 ⊢
      go_upto_region 4 with (fail)
      generalize w4.alloc (.cells #[.int .i64 r.kind, .string ⟨r.name.toArray⟩, .string ⟨r.var.toArray⟩, .slice A4 r.args.length c4, .string ⟨r.form.toArray⟩] 24) = w5 at *
      go_wp2_with fail
      refine HC5.out.mono ?_
      rintro e w6 ⟨rfl, hb6⟩
      have HB6 := Lib.hid (HB5.out.trans (hb6.mono HB5.out.size))
      have HZ6 := Lib.hid (HZ5.out.reach hb6)
      have HT6 := Lib.hid ((HTR5.out.below hb6).more hb6.size)
      have HS6 : Hid (w.heap.size + 3 ≤ w6.heap.size) := by have := HS5.out; have := hb6.size; show _ ≤ _; omega
      clear hb6 HC5 HTR5 HK5 k0 k1 k2 k3 k4
      cases hvr : validB r with
      | false =>
        have HX2 := Lib.hid (HX.out.trans (if_neg (by rw [hvr]; decide)))
        obtain ⟨⟨q0, q1, q2, q3, q4⟩, qf, ql⟩ := HZ6.out.cells
        clear hvr HX
        go_wp2_with fail
        rw [HX2.out]
        exact bodyPost_ret (v := .tuple #[.agg (tv zT none 0), .int .i64 6]) (by simp [results, Tryz.results28, go_sem, tv, zT, T.kind, T.name, T.var, T.args, T.form, q0, q1, q2, q3, q4]) rfl ⟨none, 0, rfl, zT_tvs _ _, below5s HB6.out (by omega) _ _ _ _ _⟩
      | true =>
        have HX2 := Lib.hid (HX.out.trans (if_pos hvr))
        have HCL := Lib.hid (clone_aux r.size r (Nat.le_refl _) w4.heap.size 0 w6 HT6.out (by have := ((valid_iff r).1 hvr).2; omega))
        clear hvr HX
        go_wp2_with fail
        refine HCL.out.mono ?_
        rintro e w7 ⟨A7, c7, rfl, hv7, hb7⟩
        have HB7 := Lib.hid (HB6.out.trans (hb7.mono HB6.out.size))
        have HZ7 := Lib.hid (HZ6.out.reach hb7)
        have HV7 := Lib.hid hv7
        obtain ⟨⟨q0, q1, q2, q3, q4⟩, qf, ql⟩ := HZ7.out.cells
        clear hv7 hb7 HCL
        unfold tv
        go_wp2_with fail
        rw [HX2.out]
        have hf := fun a0 a1 a2 a3 a4 => fin5z (w := w) (b := w.heap.size + 1 + 1) HB7.out (HV7.out.wider (fun k hk => ⟨⟨by have := HS6.out; omega, hk.2⟩, by have := HS6.out; omega⟩)) (by omega) a0 a1 a2 a3 a4
        exact bodyPost_ret (v := .tuple #[.agg (tv r A7 c7), .int .i64 0]) (by simp [results, Tryz.results28, go_sem, tv, q0, q1, q2, q3, q4]) rfl ⟨A7, c7, rfl, (hf _ _ _ _ _).1, (hf _ _ _ _ _).2⟩
end Go.Proofs.YtknpigdpepmimaaGreatDoor
