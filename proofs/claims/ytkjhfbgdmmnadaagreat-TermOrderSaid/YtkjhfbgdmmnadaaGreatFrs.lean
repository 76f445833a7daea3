/- Contract of Fresh 26. -/
import Derived.Test.YtkjhfbgdmmnadaaGreatFol
import Derived.Test.YtkjhfbgdmmnadaaGreatFsP
import Derived.Test.YtkjhfbgdmmnadaaGreatRLs
import Derived.Test.YtkjhfbgdmmnadaaGreatFre
import Derived.Maps.OwnSet
namespace Go.Proofs.YtkjhfbgdmmnadaaGreat
open Go.RowKit Go.Maps

section
variable {H : Type}
theorem atKey_fold (u : DataW H) (k : Lit) (z : DataW H) : ∀ (acc : List Lit) (m : DataW H), IsMap m → (∀ x ∈ acc, WideAt.IsKeyLit x) → (acc.foldl (fun m x => m.put x u) m).atKey k z = if acc.any (fun x => x.sameKey k) then u else m.atKey k z
  | [], _, _, _ => by simp
  | x :: acc, m, hm, h => by
    have ih := atKey_fold u k z acc (m.put x u) (hm.put x u) (fun y hy => h y (List.mem_cons_of_mem _ hy))
    rw [List.foldl_cons, ih]
    by_cases hx : x.sameKey k = true
    · simp only [List.any_cons, hx, Bool.true_or, if_true]
      have hk : x = k := by
        rcases Classical.em (x = k) with h' | h'
        · exact h'
        · rw [sameKey_ne h'] at hx; cases hx
      subst hk
      rw [atKey_put_same hm (h x (List.mem_cons_self ..)) u z]
      simp
    · have hx' : x.sameKey k = false := by simpa using hx
      have hne : k ≠ x := by
        rintro rfl
        rw [WideAt.sameKey_self (h k (List.mem_cons_self ..))] at hx'
        cases hx'
      simp only [List.any_cons, hx', Bool.false_or, atKey_put_other hne]
theorem atKey_setOf (u : DataW H) (k : Lit) (z : DataW H) (acc : List Lit) (h : ∀ x ∈ acc, WideAt.IsKeyLit x) : (setOf u acc).atKey k z = if acc.any (fun x => x.sameKey k) then u else z := by
  unfold setOf
  rw [atKey_fold u k z acc _ isMap_empty h]
  rfl
end
theorem run_makeMap_hint {P : Program} (t k e : TypeId) (kd : IntKind) (n : Int) (ht : P.underlying t = some (.map k e)) (w : World) :
    (Instr.makeMap t (some (.int kd n))).run P w = .ok (.map (some w.heap.size)) (w.alloc (.map #[] 0)) := by
  simp [Instr.makeMap, run_underlying ht]; rfl
def keysW (l : List W8) : List Lit := l.map Lit.string
theorem keysW_isKey (l : List W8) : ∀ x ∈ keysW l, WideAt.IsKeyLit x := by
  intro x hx
  obtain ⟨e, _, rfl⟩ := List.mem_map.1 hx
  trivial
def setW (l : List W8) : DataW Unit := setOf (.lit (.bool true)) (keysW l)
theorem setW_at (l : List W8) (t : W8) : (setW l).atKey (.string t) (.lit (.bool false)) = .lit (.bool (l.contains t)) := by
  unfold setW
  rw [atKey_setOf _ _ _ _ (keysW_isKey l)]
  have : (keysW l).any (fun x => x.sameKey (.string t)) = l.contains t := by
    unfold keysW
    rw [List.any_map, List.contains_eq_any_beq]
    congr 1
    funext e
    simp only [Function.comp, Lit.sameKey]
    exact Bool.beq_comm
  rw [this]
  cases l.contains t <;> rfl
theorem setW_snoc (l : List W8) (k : Nat) (hk : k < l.length) : setW (l.take (k + 1)) = (setW (l.take k)).put (.string l[k]) (.lit (.bool true)) := by
  unfold setW keysW
  rw [List.take_succ_eq_append_getElem hk, List.map_append]
  exact setOf_snoc _ _ _
theorem mk_bytes (t : W8) : (⟨t.toArray⟩ : ByteArray).data.toList = t := rfl
theorem zero4 (w : World) : (zeroValue 4).run Tryz.prog w = .ok (.bool false) w := by kernel_rfl
theorem look_W {w : World} {B n : Nat} {l : List W8} (h : w.ownsMap Tryz.prog 9 (plainElem Tryz.prog 4) B n (setW l)) (t : W8) (ht : t.length ≤ maxLen) :
    (Instr.lookup 60 (.map (some B)) (.string ⟨t.toArray⟩) false).run Tryz.prog w = .ok (.bool (l.contains t)) w := by
  obtain ⟨v, ps, hrun, hv⟩ := h.lookup law9 Tryz.underlying60 (zero4 w) (plainElem_bool Tryz.underlying4 false) (Go.WideMaps.keyOf_string_mk (s := ⟨t.toArray⟩) Tryz.underlying9 (by rw [size_mk]; exact ht))
  rw [hrun]
  rw [mk_bytes, setW_at] at hv
  generalize l.contains t = b at *
  cases v <;> simp [plainElem, Tryz.underlying4] at hv
  rw [hv.1]
theorem om_bel {w w' : World} {B n : Nat} {D : DataW Unit} (h : w.ownsMap Tryz.prog 9 (plainElem Tryz.prog 4) B n D) (hb : Below w.heap.size w w') : w'.ownsMap Tryz.prog 9 (plainElem Tryz.prog 4) B n D := by
  have hl := h.lt
  obtain ⟨es, ck, hh, hr⟩ := h
  exact ⟨es, ck, (hb.block _ hl).trans hh, hr⟩

set_option maxRecDepth 100000 in
set_option maxHeartbeats 2000000 in
theorem fresh26_any (v : Value) (l : List W8) (w : World) (hv : SL w w.heap.size v l) (hl : l.length ≤ 2755) (hs : ∀ x ∈ l, x.length ≤ maxLen) :
    Calls Tryz.prog 53 #[v] w fun e w' => e = .returned (.string ⟨(freshL l).toArray⟩) ∧ Below w.heap.size w w' := by
  obtain ⟨A, c, rfl, ⟨hc1, hc2⟩, hcell⟩ := hv
  have HCELL := Lib.hid hcell
  have HS := Lib.hid hs
  have HM : Hid (1 ≤ freshN l ∧ freshN l ≤ 2756) := fresh_max hl
  have hmm := fun (n : Int) (w : World) => run_makeMap_hint (P := Tryz.prog) 60 9 4 .i64 n Tryz.underlying60 w
  have HP : Hid (plainElem (H := Unit) Tryz.prog 4 (.bool true) = some (.lit (.bool true), [])) := by show plainElem Tryz.prog 4 (.bool true) = _; simp [plainElem, Tryz.underlying4]
  clear hcell hs
  go_enter Tryz.func53, Tryz.ntmps53
  go_wp2_with fail
  go_loopg [5, 12] l.length (fun gg s5 s12 wr => ∃ i : Nat, i ≤ l.length ∧ l.length - i ≤ gg ∧ s12 = .int .i64 i ∧ Aside (wr.ownsMap Tryz.prog 9 (plainElem Tryz.prog 4) w.heap.size i (setW (l.take i))) ∧ Aside (Below w.heap.size w wr))
  case atStart => exact ⟨0, Nat.zero_le _, by omega, rfl, World.ownsMap_made w Tryz.prog 9 _, (Below.refl _ _).alloc (Nat.le_refl _) _⟩
  case round =>
    obtain ⟨i, hi, hgg, rfl, HO, HB⟩ := hrel
    by_cases hlt : i < l.length
    · have hltz : (i : Int) < (l.length : Int) := by omega
      obtain ⟨b, o, rfl, hb, hx⟩ := HCELL.out (by intro e; rw [e] at hlt; simp at hlt)
      have hck : wr.cell? ⟨b, o + i, none⟩ = some (.string ⟨l[i].toArray⟩) := (HB.out.cell (p := ⟨b, o + i, none⟩) hb).trans (hx i hlt)
      have HD := Lib.hid (setW_snoc l i hlt)
      have HK : Hid (keyOf Tryz.prog 9 (.string ⟨l[i].toArray⟩) = some (.string l[i])) := by
        have := Go.WideMaps.keyOf_string_mk (P := Tryz.prog) (k := 9) (s := ⟨l[i].toArray⟩) Tryz.underlying9 (by rw [size_mk]; exact HS.out _ (List.getElem_mem hlt))
        exact Lib.hid (by simpa using this)
      have HN : Hid (i < maxLen) := by show i < maxLen; unfold maxLen; omega
      clear hx
      generalize l[i] = y at *
      go_wp2_with ((at_mapUpdate; refine wpList_mapUpdate_own _ rfl _ _ _ 60 rfl 9 4 law9 Tryz.underlying60 _ w.heap.size i (setW (l.take i)) rfl HO.out HN.out _ _ (.string y) rfl rfl HK.out (.lit (.bool true)) [] HP.out ?_; intro w9 hown hgrow))
      have HO9 : Hid (w9.ownsMap Tryz.prog 9 (plainElem Tryz.prog 4) w.heap.size (i + 1) (setW (l.take (i + 1)))) := by rw [HD.out]; exact hown
      have HB9 : Hid (Below w.heap.size w w9) := HB.out.grown hgrow HB.out.size (fun k hk => by cases hk; exact Nat.le_refl _)
      clear hown hgrow
      go_wp2_with fail
      go_roundg (l.length - (i + 1))
      case measure => omega
      case rel => exact ⟨i + 1, by omega, by omega, by go_num, HO9.out, HB9.out⟩
    · have hltz : ¬ (i : Int) < (l.length : Int) := by omega
      have HO2 : Hid (wr.ownsMap Tryz.prog 9 (plainElem Tryz.prog 4) w.heap.size i (setW l)) := by have := HO.out; rwa [List.take_of_length_le (by omega)] at this
      clear HO HCELL
      go_wp2_with fail
      go_loopg [6] 2757 (fun gg s6 wx => ∃ n : Nat, 1 ≤ n ∧ n ≤ freshN l ∧ freshN l - n ≤ gg ∧ s6 = .string ⟨(wd n).toArray⟩ ∧ Aside (wx.ownsMap Tryz.prog 9 (plainElem Tryz.prog 4) w.heap.size i (setW l)) ∧ Aside (Below w.heap.size w wx))
      case atStart => exact ⟨1, Nat.le_refl _, HM.out.1, by have := HM.out.2; omega, by rw [wd_one], HO2, HB⟩
      case round =>
        obtain ⟨n, h1, h2, hgg2, rfl, HO3, HB3⟩ := hrel
        have h3 : n ≤ 2756 := Nat.le_trans h2 HM.out.2
        have hwl := (wd_len h1 h3).2
        have hlook := look_W HO3.out (wd n) (by unfold maxLen; omega)
        have HG : Hid (good l (wd n) = (identB (wd n) && !l.contains (wd n))) := rfl
        have HI := Lib.hid (fun ww => identL_any (wd n) ww (by omega))
        have HF := Lib.hid (fun ww => following_any (wd n) ww (by omega))
        have HW := Lib.hid (follow_wd n)
        rw [HW.out] at HF
        have HST := Lib.hid (fun h => fresh_stop hl h1 h2 h)
        have HGO := Lib.hid (fun h => fresh_go hl h2 h)
        clear hwl
        cases hc : l.contains (wd n) with
        | true =>
          rw [hc] at hlook HG
          have HX := Lib.hid (HGO.out (by rw [HG.out]; simp))
          clear hc HI HST HGO HG HW
          generalize wd n = y at *
          go_wp2_with fail
          refine (HF.out _).mono ?_
          rintro e w4 ⟨rfl, hb4⟩
          have HO4 := Lib.hid (om_bel HO3.out hb4)
          have HB4 := Lib.hid (HB3.out.trans (hb4.mono HB3.out.size))
          clear hb4
          go_wp2_with fail
          go_roundg (freshN l - (n + 1))
          case measure => have := HX.out; omega
          case rel => exact ⟨n + 1, by omega, HX.out, Nat.le_refl _, rfl, HO4.out, HB4.out⟩
        | false =>
          rw [hc] at hlook HG
          clear hc HW
          cases hid : identB (wd n) with
          | false =>
            rw [hid] at HI HG
            have HX := Lib.hid (HGO.out (by rw [HG.out]; rfl))
            clear hid HST HGO HG
            generalize wd n = y at *
            go_wp2_with fail
            refine (HI.out _).mono ?_
            rintro e w4 ⟨rfl, rfl⟩
            go_wp2_with fail
            refine (HF.out _).mono ?_
            rintro e w4 ⟨rfl, hb4⟩
            have HO4 := Lib.hid (om_bel HO3.out hb4)
            have HB4 := Lib.hid (HB3.out.trans (hb4.mono HB3.out.size))
            clear hb4
            go_wp2_with fail
            go_roundg (freshN l - (n + 1))
            case measure => have := HX.out; omega
            case rel => exact ⟨n + 1, by omega, HX.out, Nat.le_refl _, rfl, HO4.out, HB4.out⟩
          | true =>
            rw [hid] at HI HG
            have HX := Lib.hid (HST.out (by rw [HG.out]; rfl))
            clear hid HST HGO HG HF
            generalize wd n = y at *
            go_wp2_with fail
            refine (HI.out _).mono ?_
            rintro e w4 ⟨rfl, rfl⟩
            go_wp2_with fail
            go_ret
            rw [HX.out]
            exact ⟨rfl, HB3.out⟩
end Go.Proofs.YtkjhfbgdmmnadaaGreat
