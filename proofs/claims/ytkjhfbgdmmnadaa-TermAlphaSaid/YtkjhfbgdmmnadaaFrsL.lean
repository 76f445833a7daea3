/- The walk of TermFresh. -/
import Derived.Test.YtkjhfbgdmmnadaaRFs
import Derived.Test.YtkjhfbgdmmnadaaAwk
import Derived.Test.YtkjhfbgdmmnadaaLawK
import Derived.Laws.OwnMore
import Derived.Tactics
import Derived.Deep.RegionLaw
namespace Go.Proofs.Ytkjhfbgdmmnadaa
open Go.RowKit

/-- append([]string{}, l...) -/
theorem app30w {ops : Array Oper} {o : Oper} {a : Act} {K : Act → World → Prop} {Q : Exit → Act → World → Prop} {E : Prop} (w : World) (hgd : o.guard = none) (s x : Operand)
    (ho : o.op = .call { callee := .builtin .append, args := #[s, x], argTypes := #[30, 30] }) (B g : Nat) (hown : w.ownsRow B 9 1 (.slice (some ⟨g, 0, none⟩) 0 0) 0 []) (hs : a.eval s = .slice (some ⟨g, 0, none⟩) 0 0)
    (PA : Option Addr) (c : Nat) (p : List W8) (hx : a.eval x = .slice PA p.length c) (hn : PA = none → p = [] ∧ c = 0) (hc : ∀ ad, PA = some ad → ∀ j (h : j < p.length), w.cell? (ad.add j) = some (.string ⟨p[j].toArray⟩)) (hl : p.length ≤ 1000) (hB : B ≤ w.heap.size)
    (h : ∀ v7 w7, SL w7 w7.heap.size v7 p → Below B w w7 → K (a.put o.dst v7) w7) : if Region.wanted o (yielded ops a.tmps) = true then Oper.wp Try.prog o a w K Q else E := by
  obtain ⟨i0, hi0, hz0, hz1, hz2⟩ := info_parts str_info
  cases PA with
  | none =>
    obtain ⟨rfl, rfl⟩ := hn rfl
    have hw : Region.wanted o (yielded ops a.tmps) = true := by simp [Region.wanted, hgd]
    rw [if_pos hw]
    have hrun := run_append_owned_none (P := Try.prog) (w := w) B 30 o.type 9 i0 1 Try.underlying30 hi0 (.slice (some ⟨g, 0, none⟩) 0 0) 0 [] hown
    have hx' : a.eval x = .slice none 0 0 := hx
    unfold Oper.wp
    simp [execOp, ho, resolve, invoke, builtin, hs, hx', hrun, Result.andThen]
    exact h _ _ ⟨some ⟨g, 0, none⟩, 0, rfl, ⟨Nat.le_refl _, by omega⟩, fun hne => absurd rfl hne⟩ (Below.refl _ _)
  | some ad =>
  replace hc := hc ad rfl
  by_cases hp : p = []
  · subst hp
    refine step_append_room hgd s x 30 ho 9 i0 1 Try.underlying30 hi0 hz1 g 0 0 0 hs ad 0 c [] hx rfl (fun j u hu => by simp at hu) (by simp) (Nat.le_refl _) (fun j hj => by simp at hj) ?_
    refine h _ _ ?_ ?_
    · exact ⟨some ⟨g, 0, none⟩, 0, rfl, ⟨Nat.le_refl _, by omega⟩, fun hne => absurd rfl hne⟩
    · have e : w.setCells g (0 + 0 * 1) [] = w := by simp [World.setCells]
      rw [e]; exact Below.refl _ _
  · have hpos : 0 < p.length := List.length_pos_iff.2 hp
    refine step_append_lies _ hgd s x 30 ho B 9 i0 _ 1 16 Try.underlying30 hi0 hz0 hz1 hz2 rfl (by decide) _ 0 [] hs hown ad p.length c (p.map encS) hx (by simp) (fun j u hu => ?_) (fun u hu => ?_) hpos (by unfold maxLen; omega) (by omega) hB _ rfl ?_
    · obtain ⟨hj, hu'⟩ := List.getElem?_eq_some_iff.1 hu
      have hj' : j < p.length := by simpa using hj
      rw [List.getElem_map] at hu'
      subst hu'
      exact hc j hj'
    · obtain ⟨y, _, rfl⟩ := List.mem_map.1 hu
      rfl
    · intro g7 cap7 w7 hown7 hgrow7 _ _
      rw [Nat.zero_add] at hown7 ⊢
      rw [List.nil_append] at hown7
      exact h _ w7 (RL.sl (B := B) hown7) ((Below.refl B w).grown hgrow7 hB (fun k hk => (hown.lt k hk).1))
theorem app30all {ops : Array Oper} {rest : List Oper} {o : Oper} {a : Act} {Q : Exit → Act → World → Prop} (w : World) (hgd : o.guard = none) (s x : Operand)
    (ho : o.op = .call { callee := .builtin .append, args := #[s, x], argTypes := #[30, 30] }) (B g : Nat) (hown : w.ownsRow B 9 1 (.slice (some ⟨g, 0, none⟩) 0 0) 0 []) (hs : a.eval s = .slice (some ⟨g, 0, none⟩) 0 0)
    (PA : Option Addr) (c : Nat) (p : List W8) (hx : a.eval x = .slice PA p.length c) (hn : PA = none → p = [] ∧ c = 0) (hc : ∀ ad, PA = some ad → ∀ j (h : j < p.length), w.cell? (ad.add j) = some (.string ⟨p[j].toArray⟩)) (hl : p.length ≤ 1000) (hB : B ≤ w.heap.size)
    (h : ∀ v7 w7, SL w7 w7.heap.size v7 p → Below B w w7 → wpList Try.prog ops Q rest (a.put o.dst v7) w7) : wpList Try.prog ops Q (o :: rest) a w := by
  refine wpList_plain hgd fun K hK => ?_
  have hw : Region.wanted o (yielded ops a.tmps) = true := by simp [Region.wanted, hgd]
  have := app30w (ops := ops) (K := K) (Q := Q) (E := False) w hgd s x ho B g hown hs PA c p hx hn hc hl hB (fun v7 w7 h1 h2 => hK _ _ (h v7 w7 h1 h2))
  rwa [if_pos hw] at this

set_option maxRecDepth 100000 in
set_option maxHeartbeats 4000000 in
theorem fresh_walk (PA : Option Addr) (l : List W8) (pc : Nat) (s : ByteArray) (w : World) (hp : SL w w.heap.size (.slice PA l.length pc) l) (hpn : (PA = none → pc = 0) ∧ ∀ x ∈ l, x.length ≤ maxLen) (_hs : s.size ≤ maxLen) (hm : Max w) :
    Calls Try.prog 6 #[.slice PA l.length pc, .string s] w fun e w' => e = .returned (.bool true) ∧ Below w.heap.size w w' := by
  have HM := Lib.hid fun w' (hb : Below w.heap.size w w') => hm.reach hb
  have HSL := Lib.hid fun w' (hb : Below w.heap.size w w') => (hp.below hb).more hb.size
  have HXL := Lib.hid hpn.2
  have hpl : l.length ≤ 9223372036854775807 := by obtain ⟨_, _, h1, h2, _⟩ := hp; injection h1 with _ h1 h3; omega
  clear hm
  go_enter Try.func6, Try.ntmps6
  go_wp2_with fail
  refine (awake11_any _ (HM.out _ (Below.refl _ _))).mono ?_
  rintro e w1 ⟨rfl, hb1⟩
  have HB1 := Lib.hid hb1
  clear hb1
  by_cases h100 : 100 < l.length
  · have hz : (100 : Int) < (l.length : Int) := by omega
    go_wp2_with fail
    go_ret
    exact ⟨rfl, HB1.out⟩
  · have hz : ¬ (100 : Int) < (l.length : Int) := by omega
    by_cases hs100 : 100 < s.size
    · have hz2 : (100 : Int) < (s.size : Int) := by omega
      go_wp2_with fail
      go_ret
      exact ⟨rfl, HB1.out⟩
    · have hz2 : ¬ (100 : Int) < (s.size : Int) := by omega
      have hb2 : Below w1.heap.size w1 (w1.alloc (.cells #[] 9)) := (Below.refl _ _).alloc (Nat.le_refl _) _
      have hl55 : l.length ≤ 2755 := by omega
      have HB2 := Lib.hid (HB1.out.trans (hb2.mono HB1.out.size))
      have HN : Hid (PA = none → l = [] ∧ pc = 0) := fun e => by
        obtain ⟨A', c', h1, ⟨h2, _⟩, _⟩ := hp
        injection h1 with _ h1 h3
        have := hpn.1 e
        exact ⟨List.eq_nil_of_length_eq_zero (by omega), this⟩
      have HCL : Hid (∀ ad, PA = some ad → ∀ j (h : j < l.length), (w1.alloc (.cells #[] 9)).cell? (ad.add j) = some (.string ⟨l[j].toArray⟩)) := fun ad e j hj => by
        obtain ⟨A', c', h1, _, h3⟩ := HSL.out _ HB2.out
        injection h1 with h1 _ _
        obtain ⟨b, o, h4, _, h5⟩ := h3 (by intro e; rw [e] at hj; simp at hj)
        rw [e, h4] at h1
        injection h1 with h1
        subst h1
        rw [addr_addF]; exact h5 j hj
      have HRW : Hid ((w1.alloc (.cells #[] 9)).ownsRow w1.heap.size 9 1 (.slice (some ⟨w1.heap.size, 0, none⟩) 0 0) 0 []) := by
        refine ⟨by simp, .inr ⟨w1.heap.size, 0, #[], rfl, Nat.le_refl _, heap_alloc_new _ _, Nat.le_refl _, by unfold maxLen; omega, rfl, rfl⟩⟩
      clear hb2
      go_wp2_with (at_builtin; refine app30all (w1.alloc (.cells #[] 9)) rfl _ _ rfl w1.heap.size w1.heap.size HRW.out rfl PA pc l rfl HN.out HCL.out (by omega) (by simp) ?_)
      intro v7 w7 hs7 hb7
      have HB7 := Lib.hid (HB2.out.trans (hb7.mono HB1.out.size))
      have HF7 := Lib.hid (fresh26_any v7 l w7 hs7 hl55 HXL.out)
      have HR27 := Lib.hid (fun w' (hb : Below w.heap.size w w') => fresh27_any (.slice PA l.length pc) l w' (HSL.out w' hb) hl55)
      have hfl : (freshL l).length ≤ 1000 := by
        have h1 := fresh_max hl55
        have := (wd_len h1.1 h1.2).2
        show (wd (freshN l)).length ≤ 1000
        omega
      have HI28 := Lib.hid (fun w' => identL_any (freshL l) w' hfl)
      rw [fresh_ident l hl55] at HI28
      have HIs := Lib.hid (fun w' => ident_any s w' (by omega))
      have HIt := Lib.hid (fun w' => ident29_any s w' (by omega))
      clear hs7 hb7 HRW HCL HN hfl
      generalize freshL l = x at *
      generalize identB s.data.toList = bs at *
      go_wp2_with fail
      refine HF7.out.mono ?_
      rintro e w8 ⟨rfl, hb8⟩
      have HB8 := Lib.hid (HB7.out.trans (hb8.mono HB7.out.size))
      have HR8 := Lib.hid (HR27.out _ HB8.out)
      clear hb8 HR27 HF7
      go_wp2_with fail
      refine HR8.out.mono ?_
      rintro e w9 ⟨rfl, hb9⟩
      have HB9 := Lib.hid (HB8.out.trans (hb9.mono HB8.out.size))
      clear hb9 HR8
      go_wp2_with fail
      refine (HI28.out _).mono ?_
      rintro e w10 ⟨rfl, rfl⟩
      go_wp2_with fail
      refine (HIs.out _).mono ?_
      rintro e w11 ⟨rfl, rfl⟩
      go_wp2_with fail
      refine (HIt.out _).mono ?_
      rintro e w12 ⟨rfl, hb12⟩
      have HB12 := Lib.hid (HB9.out.trans (hb12.mono HB9.out.size))
      go_wp2_with fail
      go_ret
      exact ⟨by simp, HB12.out⟩
end Go.Proofs.Ytkjhfbgdmmnadaa
