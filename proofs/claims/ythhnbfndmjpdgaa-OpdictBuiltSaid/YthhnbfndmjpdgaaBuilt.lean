/- OpdictBuilt returns true for every slice of entries and leaves it as it was. No condition. -/
import Derived.Test.YthhnbfndmjpdgaaKeeps
namespace Go.Proofs.Ythhnbfndmjpdgaa
open Go.ChangeShapes Go.WideShapes Go.ChangeAt Go.RowKit
open Go.ChangeMaps (open_string shut_string)

/-- the last entry with the text of the entry at i, among those from i up to k -/
def lastFrom (l : List Ent) (i k : Nat) (e : Ent) : Ent := lastOf ((l.take k).drop i) e.text e
theorem lastOf_text (L : List Ent) (t : ByteArray) (d : Ent) (h : d.text = t) : (lastOf L t d).text = t := by
  induction L generalizing d with
  | nil => exact h
  | cons e L ih =>
    show (lastOf L t (if eqT e.text t then e else d)).text = t
    refine ih _ ?_
    split
    · rename_i h'; exact (eqT_iff _ _).1 h'
    · exact h
theorem lastFrom_text (l : List Ent) (i k : Nat) (e : Ent) : (lastFrom l i k e).text = e.text := lastOf_text _ _ _ rfl
theorem lastFrom_start (l : List Ent) (i : Nat) (e : Ent) : lastFrom l i i e = e := by
  unfold lastFrom
  rw [List.drop_of_length_le (by rw [List.length_take]; omega)]; rfl
theorem lastFrom_succ (l : List Ent) (i k : Nat) (e : Ent) (hik : i ≤ k) (hk : k < l.length) : lastFrom l i (k + 1) e = if eqT l[k].text e.text then l[k] else lastFrom l i k e := by
  unfold lastFrom
  rw [List.take_succ_eq_append_getElem hk, List.drop_append_of_le_length (by rw [List.length_take]; omega), lastOf_snoc]
theorem lastOf_append (L M : List Ent) (t : ByteArray) (d : Ent) : lastOf (L ++ M) t d = lastOf M t (lastOf L t d) := by
  unfold lastOf; rw [List.foldl_append]
theorem lastFrom_end (l : List Ent) (i : Nat) (hi : i < l.length) (d : Ent) : lastOf l l[i].text d = lastFrom l i l.length l[i] := by
  have e : ∀ t, lastOf l t d = lastOf (l.drop i) t (lastOf (l.take i) t d) := fun t => by rw [← lastOf_append, List.take_append_drop]
  unfold lastFrom
  rw [List.take_length, e, List.drop_eq_getElem_cons hi]
  show lastOf (l.drop (i + 1)) l[i].text (if eqT l[i].text l[i].text then l[i] else _) = lastOf (l.drop (i + 1)) l[i].text (if eqT l[i].text l[i].text then l[i] else l[i])
  rw [eqT_refl]; rfl

theorem entAt_store {w : World} {P : Nat} {u0 u1 u2 u3 : Value} (e : Ent) (h0 : w.cell? ⟨P, 0, none⟩ = some u0) (h1 : w.cell? ⟨P, 1, none⟩ = some u1) (h2 : w.cell? ⟨P, 2, none⟩ = some u2) (h3 : w.cell? ⟨P, 3, none⟩ = some u3) :
    EntAt ((((w.setCell ⟨P, 0, none⟩ (.string e.text)).setCell ⟨P, 1, none⟩ (.int .i64 e.cls)).setCell ⟨P, 2, none⟩ (.bool e.lim)).setCell ⟨P, 3, none⟩ (.bool e.str)) P 0 e := by
  have n : ∀ (i j : Nat), i ≠ j → (⟨P, i, none⟩ : Addr) ≠ ⟨P, j, none⟩ := fun i j h e => h (by injection e)
  refine ⟨?_, ?_, ?_, ?_⟩ <;> (try simp only [Nat.zero_add])
  · rw [World.cell?_setCell_other _ _ _ _ (n 3 0 (by decide)), World.cell?_setCell_other _ _ _ _ (n 2 0 (by decide)), World.cell?_setCell_other _ _ _ _ (n 1 0 (by decide)), World.cell?_setCell_same _ _ _ h0]
  · rw [World.cell?_setCell_other _ _ _ _ (n 3 1 (by decide)), World.cell?_setCell_other _ _ _ _ (n 2 1 (by decide))]
    exact World.cell?_setCell_same _ _ _ ((World.cell?_setCell_other _ _ _ _ (n 0 1 (by decide))).trans h1)
  · rw [World.cell?_setCell_other _ _ _ _ (n 3 2 (by decide))]
    exact World.cell?_setCell_same _ _ _ ((World.cell?_setCell_other _ _ _ _ (n 1 2 (by decide))).trans ((World.cell?_setCell_other _ _ _ _ (n 0 2 (by decide))).trans h2))
  · exact World.cell?_setCell_same _ _ _ ((World.cell?_setCell_other _ _ _ _ (n 2 3 (by decide))).trans ((World.cell?_setCell_other _ _ _ _ (n 1 3 (by decide))).trans ((World.cell?_setCell_other _ _ _ _ (n 0 3 (by decide))).trans h3)))

theorem valid_one_no (e : Ent) (h : proper e = false) : validB [e] = false := by
  cases hv : validB [e] with
  | false => rfl
  | true =>
    have := ((valid_iff [e]).1 hv).2.1 e (by simp)
    rw [h] at this; cases this
theorem withR_bad (d : List Ent) (e : Ent) (hv : validB d = true) (hl : d.length ≤ 60) (h : (withR d e).2 ≠ 0) : withR d e = ([], 1) ∧ proper e = false := by
  unfold withR at h ⊢
  cases hp : proper e with
  | false => rw [hv]; simp
  | true =>
    rw [hv, hp] at h
    simp only [Bool.and_self, if_true] at h
    cases hf : fIdx? d e.text with
    | some i => rw [hf] at h; exact absurd rfl h
    | none =>
      rw [hf] at h
      simp only at h
      rw [if_neg (by omega)] at h
      exact absurd rfl h

set_option maxHeartbeats 400000 in
theorem built_long (A : Option Addr) (n cp : Nat) (w : World) (hn : 60 < n) (hm : n ≤ 9223372036854775807) :
    Calls Try.prog 8 #[.slice A n cp] w fun r w' => r = .returned (.bool true) ∧ Below w.heap.size w w' := by
  have hz : (60 : Int) < (n : Int) := by omega
  go_enter Try.func8, Try.ntmps8
  go_wp2_with (go_at_call 9; refine (awake_any _).mono ?_; rintro e w' ⟨rfl, hb⟩)
  go_ret
  exact ⟨rfl, hb⟩

set_option maxRecDepth 100000 in
set_option maxHeartbeats 2000000 in
theorem built_short (A : Option Addr) (l : List Ent) (cp : Nat) (w : World) (hl : ER w w.heap.size A l) (hn : l.length ≤ 60) (hok : ∀ e ∈ l, e.text.size ≤ maxLen) :
    Calls Try.prog 8 #[.slice A l.length cp] w fun r w' => r = .returned (.bool true) ∧ Below w.heap.size w w' := by
  have hlH := Lib.hid hl
  have HOK := Lib.hid hok
  have hz : ¬ (60 : Int) < (l.length : Int) := by omega
  have hz' : decide ((60 : Int) < (l.length : Int)) = false := by simp; omega
  clear hl hok
  go_enter Try.func8, Try.ntmps8
  go_wp2_with fail
  refine (awake_any _).mono ?_
  rintro r w1 ⟨rfl, hb1⟩
  have HB1 := Lib.hid hb1
  clear hb1
  go_wp2
  go_loopg [3, 4] l.length (fun gg s3 s4 wr => ∃ (kk : Nat) (D : List Ent) (A3 : Option Addr) (c3 : Nat), kk ≤ l.length ∧ l.length - kk ≤ gg ∧ s4 = .int .i64 kk ∧ s3 = .slice A3 D.length c3 ∧ Aside (Below w.heap.size w wr) ∧ Aside (Built (l.take kk) D) ∧ Aside (ER wr wr.heap.size A3 D))
  case atStart => exact ⟨0, [], none, 0, Nat.zero_le _, by omega, rfl, rfl, HB1.out, built_nil, ER.nil⟩
  case round =>
    obtain ⟨kk, D, A3, c3, hkk, hg, rfl, rfl, BW, BT, ED⟩ := hrel
    have hDl : D.length ≤ 60 := by have := BT.out.len; rw [List.length_take] at this; omega
    have HOKD : Hid (∀ x ∈ D, x.text.size ≤ maxLen) := fun x hx => HOK.out x (List.mem_of_mem_take (BT.out.mem x hx))
    have hWs := BW.out.size
    by_cases hlt : kk < l.length
    · have hltz : (kk : Int) < (l.length : Int) := by omega
      obtain ⟨b, off, rfl, hb, he⟩ := (hlH.out.below BW.out).at_ hlt
      obtain ⟨h0, h1, h2, h3⟩ := he
      have hsz : l[kk].text.size ≤ maxLen := HOK.out _ (List.getElem_mem _)
      by_cases h0' : (withR D l[kk]).2 = 0
      · obtain ⟨D', hD'⟩ : ∃ D', withR D l[kk] = (D', 0) := ⟨_, by rw [← h0']⟩
        have HD := Lib.hid hD'
        clear hD' h0'
        go_wp2_with fail
        refine (with_any A3 D c3 l[kk] _ ED.out (by omega) HOKD.out hsz).mono ?_
        rw [HD.out]
        rintro r w2 ⟨A4, c4, rfl, hE4, hb2⟩
        have HE4 := Lib.hid hE4
        have HB2 := Lib.hid (BW.out.trans (hb2.mono hWs))
        have HBT : Hid (Built (l.take (kk + 1)) D') := by
          show Built (l.take (kk + 1)) D'
          rw [List.take_succ_eq_append_getElem hlt]
          exact built_snoc _ _ _ _ BT.out HD.out
        clear hE4 hb2
        simp only
        go_wp2
        go_roundg (l.length - (kk + 1))
        case measure => omega
        case rel => exact ⟨kk + 1, D', A4, c4, by omega, by omega, by go_num, rfl, HB2.out, HBT.out, HE4.out⟩
      · obtain ⟨hR, hP⟩ := withR_bad D l[kk] BT.out.valid hDl h0'
        have HR := Lib.hid hR
        have HV1 := Lib.hid (valid_one_no l[kk] hP)
        clear hR hP h0'
        go_wp2_with fail
        refine (with_any A3 D c3 l[kk] _ ED.out (by omega) HOKD.out hsz).mono ?_
        rw [HR.out]
        rintro r w2 ⟨A4, c4, rfl, hE4, hb2⟩
        have HB2 := Lib.hid (BW.out.trans (hb2.mono hWs))
        have hs2 := HB2.out.size
        obtain ⟨b', off', hA', hb', he'⟩ := (hlH.out.below HB2.out).at_ hlt
        cases hA'
        obtain ⟨j0, j1, j2, j3⟩ := he'
        clear hE4 hb2 h0 h1 h2 h3
        simp only
        go_wp2_with fail
        refine (valid_any _ [l[kk]] 1 _ ?_ (by simp; unfold maxLen; omega) (by intro e he; simp at he; rw [he]; exact hsz)).mono ?_
        · refine fun _ => ⟨w2.heap.size, 0, rfl, by simp, fun i e hie => ?_⟩
          match i, hie with
          | 0, hie => cases hie; exact ⟨by simp, by simp, by simp, by simp⟩
          | (i + 1), hie => simp at hie
        rw [HV1.out]
        rintro r w3 ⟨rfl, hb3⟩
        have HB3 := Lib.hid ((HB2.out.alloc hs2 _).trans (hb3.mono (by simp; omega)))
        clear hb3
        go_wp2
        go_ret
        exact ⟨rfl, HB3.out⟩
    · have hltz : ¬ (kk : Int) < (l.length : Int) := by omega
      obtain rfl : kk = l.length := by omega
      have HBT : Hid (Built l D) := by have h := BT.out; rw [List.take_length] at h; exact h
      have HV := Lib.hid HBT.out.valid
      have hDle := HBT.out.len
      have hDz : ¬ (l.length : Int) < (D.length : Int) := by omega
      have hDz' : decide (l.length < D.length) = false := by simp; omega
      have hDz'' : decide ((l.length : Int) < (D.length : Int)) = false := by simp; omega
      go_wp2_with fail
      refine (valid_any A3 D c3 _ ED.out (by unfold maxLen; omega) HOKD.out).mono ?_
      rw [HV.out]
      rintro r w2 ⟨rfl, hb2⟩
      have HB2 := Lib.hid (BW.out.trans (hb2.mono hWs))
      have HE2 := Lib.hid ((ED.out.below hb2).more hb2.size)
      clear hb2
      obtain ⟨wo, hwo⟩ : ∃ wo : World, wo = wr := ⟨_, rfl⟩
      clear hwo
      go_wp2
      go_loopg [7] l.length (fun gg s7 wr => ∃ kk : Nat, kk ≤ l.length ∧ l.length - kk ≤ gg ∧ s7 = .int .i64 kk ∧ Aside (Below w2.heap.size w2 wr))
      case atStart => exact ⟨0, Nat.zero_le _, by omega, rfl, Below.refl _ _⟩
      case round =>
        obtain ⟨ii, hii, hgi, rfl, BI⟩ := hrel
        by_cases hilt : ii < l.length
        · have hiltz : (ii : Int) < (l.length : Int) := by omega
          have hs2 := HB2.out.size
          have HBr := Lib.hid (HB2.out.trans (BI.out.mono hs2))
          have hsr := HBr.out.size
          obtain ⟨b, off, rfl, hb, he⟩ := (hlH.out.below HBr.out).at_ hilt
          obtain ⟨h0, h1, h2, h3⟩ := he
          have hbr : b < wr.heap.size := by omega
          obtain ⟨wp, hwp⟩ : ∃ wp : World, wp = wr := ⟨_, rfl⟩
          rw [← hwp] at h0 h1 h2 h3 hbr hsr HBr BI
          rw [← hwp]
          clear hwp
          go_wp2
          go_loopg [9] (l.length - ii) (fun gg s9 wr => ∃ jj : Nat, ii ≤ jj ∧ jj ≤ l.length ∧ l.length - jj ≤ gg ∧ s9 = .int .i64 jj ∧ Aside (Below wp.heap.size wp wr) ∧ Aside (wp.heap.size < wr.heap.size) ∧ Aside (EntAt wr wp.heap.size 0 (lastFrom l ii jj l[ii])) ∧ Aside (∀ i, wr.frozen? ⟨wp.heap.size, i, none⟩ = false))
          case atStart =>
            refine ⟨ii, Nat.le_refl _, hii, Nat.le_refl _, rfl, (Below.refl _ _).alloc (Nat.le_refl _) _, (by show _ < _; simp), ?_, (by show ∀ i, _; intro i; simp)⟩
            rw [lastFrom_start]
            exact ⟨by simp, by simp, by simp, by simp⟩
          case round =>
            obtain ⟨jj, hij, hjj, hgj, rfl, BJ, SJ, EJ, FJ⟩ := hrel
            have HBj := Lib.hid (HBr.out.trans (BJ.out.mono hsr))
            have hsz := SJ.out
            obtain ⟨e0, e1, e2, e3⟩ := EJ.out
            rw [Nat.zero_add] at e1 e2 e3
            have hft := Lib.hid (lastFrom_text l ii jj l[ii])
            have fj := FJ.out
            by_cases hjlt : jj < l.length
            · have hjltz : (jj : Int) < (l.length : Int) := by omega
              obtain ⟨b', off', hA', hb', he'⟩ := (hlH.out.below HBj.out).at_ hjlt
              cases hA'
              obtain ⟨j0, j1, j2, j3⟩ := he'
              have hsuc := Lib.hid (lastFrom_succ l ii jj l[ii] hij hjlt)
              cases hq : eqT l[jj].text l[ii].text with
              | true =>
                have HS : Hid (lastFrom l ii (jj + 1) l[ii] = l[jj]) := hsuc.out.trans (by rw [hq]; rfl)
                have hq2 : (l[jj].text.toList == (lastFrom l ii jj l[ii]).text.toList) = true := by rw [hft.out]; exact hq
                clear hq
                generalize lastFrom l ii jj l[ii] = la at *
                clear EJ FJ hsuc hft
                go_wp2
                go_quiet (fail)
                go_wp2
                go_roundg (l.length - (jj + 1))
                case measure => omega
                case rel =>
                  refine ⟨jj + 1, by omega, by omega, by omega, by go_num, ?_, ?_, ?_, ?_⟩
                  · exact ((((belowN BJ.out nq).setCell (Nat.le_refl _) _).setCell (Nat.le_refl _) _).setCell (Nat.le_refl _) _).setCell (Nat.le_refl _) _
                  · show _ < _; simpa using hsz
                  · show EntAt _ _ _ _
                    rw [HS.out]
                    exact entAt_store (w := wr.drewN nq) l[jj] e0 e1 e2 e3
                  · show ∀ i, _
                    intro i; simp [fj]
              | false =>
                have HS : Hid (lastFrom l ii (jj + 1) l[ii] = lastFrom l ii jj l[ii]) := hsuc.out.trans (by rw [hq]; rfl)
                have hq2 : (l[jj].text.toList == (lastFrom l ii jj l[ii]).text.toList) = false := by rw [hft.out]; exact hq
                clear hq
                generalize lastFrom l ii jj l[ii] = la at *
                clear FJ hsuc hft
                go_wp2
                go_quiet (fail)
                go_wp2
                go_roundg (l.length - (jj + 1))
                case measure => omega
                case rel =>
                  refine ⟨jj + 1, by omega, by omega, by omega, by go_num, belowN BJ.out nq, hsz, ?_, fj⟩
                  show EntAt _ _ _ _
                  rw [HS.out]
                  exact ⟨EJ.out.c0, EJ.out.c1, EJ.out.c2, EJ.out.c3⟩
            · have hjltz : ¬ (jj : Int) < (l.length : Int) := by omega
              obtain rfl : jj = l.length := by omega
              have HFD : Hid (find D l[ii].text = lastFrom l ii l.length l[ii]) := by
                show find D l[ii].text = lastFrom l ii l.length l[ii]
                rw [HBT.out.finds, lastFrom_end l ii hilt]
              obtain ⟨b', off', hA', hb', he'⟩ := (hlH.out.below HBj.out).at_ hilt
              cases hA'
              obtain ⟨j0, _, _, _⟩ := he'
              have HBI := Lib.hid (BI.out.trans (BJ.out.mono BI.out.size))
              have HED := Lib.hid ((HE2.out.below HBI.out).more HBI.out.size)
              clear EJ FJ hft fj
              generalize lastFrom l ii l.length l[ii] = la at *
              go_wp2
              have k0 := fun d os => cell_regrown e0 d os
              have k1 := fun d os => cell_regrown e1 d os
              have k2 := fun d os => cell_regrown e2 d os
              have k3 := fun d os => cell_regrown e3 d os
              have kj := fun d os => cell_regrown j0 d os
              have cF := Lib.hid fun d os => Calls.regrown_of (find_any A3 D c3 l[ii].text (Sort.grow (redrawn wr d) os) (HED.out.reg d os) (by omega))
              simp only [HFD.out, Ent.val] at cF
              refine wp_region_quiet_below (by kernel_rfl) (by kernel_rfl) ?_
              repeat (first | go_big_quiet_step (first | exact cF.out _ _) | quiet_step (first | exact cF.out _ _))
              refine wpQuiet_nil ?_
              intro _ hw'
              obtain ⟨⟨dq, osq⟩, hw''⟩ := hw'
              subst hw''
              clear cF k0 k1 k2 k3 kj
              have HBK := Lib.hid (HBI.out.trans ((below_regrown wr dq osq).mono HBI.out.size))
              generalize Sort.grow (redrawn wr dq) osq = wz at *
              go_wp2
              go_roundg (l.length - (ii + 1))
              case measure => omega
              case rel => exact ⟨ii + 1, by omega, by omega, by go_num, HBK.out⟩
        · have hiltz : ¬ (ii : Int) < (l.length : Int) := by omega
          go_wp2
          go_ret
          exact ⟨rfl, HB2.out.trans (BI.out.mono HB2.out.size)⟩

theorem built_walk (A : Option Addr) (l : List Ent) (cp : Nat) (w : World) (hl : ER w w.heap.size A l) (hm : l.length ≤ maxLen) (hok : ∀ e ∈ l, e.text.size ≤ maxLen) (_hnil : A = none → cp = 0) :
    Calls Try.prog 8 #[.slice A l.length cp] w fun r w' => r = .returned (.bool true) ∧ Below w.heap.size w w' := by
  by_cases h : l.length ≤ 60
  · exact built_short A l cp w hl h hok
  · exact built_long A _ cp w (by omega) (by unfold maxLen at hm; omega)

set_option maxRecDepth 100000 in
theorem built_lifted (os : Os) (started : os.Started) (H : Type) (enc : TypeId × Value → H) :
    ReturnsInHanded {} Try.checked os 8 .any (Rows.opdictBuiltSpec.pre6 enc Try.prog Try.f8 Rows.opdictBuiltRow.domain false) (Rows.opdictBuiltSpec.post enc Try.prog Try.f8 false true false false) := by
  refine returnsInHanded_of_change (C := Try.checked) own started (by kernel_rfl) Try.func8
    (ChangeSpec.witness6 (enc := enc) (C := Try.checked) false ⟨#[], #[.slice none 0 0], []⟩ 8 (by kernel_rfl) (by kernel_rfl) (by kernel_rfl) (by kernel_rfl)) ?_
  intro W base args ds gs before hval0 hW hcnd _
  have hval : ∀ (j : Nat) t v, Try.f8.params[j]? = some t → args[j]? = some v → Value.okWide Try.prog W .any base t v := hval0
  have hW' := hW
  obtain ⟨p, q, hA0, hV, rfl, hfz, hnd⟩ := hW
  have hA : DataW.TrodAll enc Try.prog W 0 (fun _ => true) true Try.f8.params.toList args.toList ds p := hA0
  rw [Try.params8] at hA hval
  obtain ⟨v0, vs0, d0, ds0, p0, q0, hargs, rfl, rfl, h0, r0⟩ := trodAll_cons hA
  obtain ⟨rfl, rfl, rfl⟩ := trodAll_nil r0
  obtain rfl : args = #[v0] := by cases args; simp_all
  obtain ⟨rfl, rfl⟩ := trodVars_none hV
  obtain ⟨a0, len0, cap0, rfl⟩ := okWide_slice Try.underlying22 (hval 0 22 v0 rfl rfl)
  have k0 := h0
  have lt0 : ∀ x ∈ p0, x.block < W.heap.size := by obtain ⟨m, hm⟩ := k0; exact DataW.trod_lt m _ _ _ hm
  obtain ⟨l0, w0, rfl, hm0, hok0, hn0⟩ : ∃ l : List Ent, ER W W.heap.size a0 l ∧ len0 = l.length ∧ l.length ≤ maxLen ∧ (∀ e ∈ l, e.text.size ≤ maxLen) ∧ (a0 = none → cap0 = 0) := by
    obtain ⟨fuel, hf⟩ := h0
    have hf' := hf
    obtain ⟨A, l, c, hcs, hm, _, her, hk⟩ := open_ents hf
    have hz := open_nil hf'
    simp [Value.cells] at hcs hz
    obtain ⟨rfl, rfl, rfl⟩ := hcs
    exact ⟨l, her, rfl, hm, fun e he => (hk e he).2, hz⟩
  clear hA0 hval0
  refine (built_walk a0 l0 cap0 W w0 hm0 hok0 hn0).mono fun e W' ⟨he, bel⟩ => ?_
  subst he
  exact ⟨_, rfl, _, _, _, [], _, [], hW', trodAll_mk1 (shut_bool Try.underlying4 _), (trodAll_cons_mk (Below.trod laidOut (by kernel_rfl) (of_decide_eq_true (by kernel_rfl)) k0 bel lt0) trodAll_mk0), rfl, bel.frame _, fun h => by cases h⟩

theorem built_holds : Rows.OpdictBuiltSaid :=
  OpenClaim.holds_of_wide 8 Try.f8 rfl rfl rfl rfl rfl rfl rfl ⟨rfl, rfl, rfl, rfl, rfl⟩ rfl rfl rfl rfl rfl (by kernel_rfl) Try.func8 (by kernel_rfl)
    (of_decide_eq_true (by kernel_rfl)) (by unfold Func.isWrapper; first | (rw [if_pos (by decide +kernel)]; kernel_rfl) | (rw [if_neg (by decide +kernel)]; exact ⟨rfl, rfl⟩))
    (fun os started H enc _ => built_lifted os started H enc)
#print axioms built_holds
end Go.Proofs.Ythhnbfndmjpdgaa
