/- Walk of LengthSums. -/
import Derived.Test.YtbaljopgkelcfaaDoorSum2
import Derived.Laws.AppendOwn
import Derived.Laws.AppendOwnNone
namespace Go.Proofs.YtbaljopgkelcfaaDoor
open Go.RowKit

def icells (l : List Int) : List Value := l.map (Value.int .i64)
theorem icells_len (l : List Int) : (icells l).length = l.length * 1 := by simp [icells]
theorem icells_one (l : List Int) : ∀ u ∈ icells l, u.oneCell' = true := by
  intro u hu
  obtain ⟨e, _, rfl⟩ := List.mem_map.1 hu
  rfl
theorem icells_get (l : List Int) (j : Nat) : (icells l)[j]? = l[j]?.map (Value.int .i64) := by simp [icells]
theorem addr_add' (b o i : Nat) : (⟨b, o, none⟩ : Addr).add i = ⟨b, o + i, none⟩ := by
  unfold Addr.add; split
  · simp [*]
  · rfl
theorem IR.src {w : World} {B : Nat} {ad : Addr} {l : List Int} (h : IR w B (some ad) l) : ∀ j u, (icells l)[j]? = some u → w.cell? (ad.add j) = some u := by
  intro j u hu
  by_cases hl : l = []
  · subst hl; simp [icells] at hu
  · obtain ⟨b, off, ha, _, hc⟩ := h hl
    cases ha
    rw [icells_get] at hu
    obtain ⟨z, hz, rfl⟩ := Option.map_eq_some_iff.1 hu
    rw [addr_add']
    exact hc j z hz
theorem IR.of_own {w : World} {base : Nat} {v : Value} {l : List Int} (h : w.ownsRow base 3 1 v l.length (icells l)) : ∃ A c, v = .slice A l.length c ∧ IR w w.heap.size A l := by
  have h0 := h
  rcases h.2 with ⟨rfl, hn⟩ | ⟨g, cap, cur, rfl, hb, hh, hnc, _⟩
  · have : l = [] := List.eq_nil_of_length_eq_zero hn
    subst this
    exact ⟨_, _, rfl, IR.nil⟩
  · refine ⟨_, _, rfl, fun _ => ⟨g, 0, rfl, (h0.lt g rfl).2, fun i z hz => ?_⟩⟩
    have := h0.cells (g := g) rfl i (.int .i64 z) (by rw [icells_get, hz]; rfl)
    rwa [addr_add'] at this
theorem int_info : (Tryd.prog.info? 3).map (fun i => (i.zero, i.size, i.bytes)) = some (some (.int .i64 0), 1, 8) := by kernel_rfl
/-- append of a slice of numbers, nil or not, onto a row that the call owns -/
theorem wpList_append_ints {w : World} {B : Nat} {ops : Array Oper} {rest : List Oper} {o : Oper} {a : Act} {Q : Exit → Act → World → Prop} (hgd : o.guard = none) (s x : Operand)
    (ho : o.op = .call { callee := .builtin .append, args := #[s, x], argTypes := #[33, 33] }) (base : Nat) (v : Value) (n : Nat) (xs : List Value) (hs : a.eval s = v) (hown : w.ownsRow base 3 1 v n xs)
    (A : Option Addr) (l : List Int) (cp : Nat) (hx : a.eval x = .slice A l.length cp) (hl : IR w B A l) (hnil : A = none → cp = 0) (hn : n + l.length ≤ 1000) (hbase : base ≤ w.heap.size)
    (h : ∀ v' w', w'.ownsRow base 3 1 v' (n + l.length) (xs ++ icells l) → w.grownBy w' v.ownBlock → wpList Tryd.prog ops Q rest (a.put o.dst v') w') : wpList Tryd.prog ops Q (o :: rest) a w := by
  obtain ⟨i0, hi0, hz0, hz1, hz2⟩ := info_parts int_info
  rcases A with _ | ad
  · have : l = [] := by
      rcases Classical.em (l = []) with h | h
      · exact h
      · obtain ⟨_, _, ha, _⟩ := hl h; cases ha
    subst this
    obtain rfl := hnil rfl
    refine wpList_append_own_none hgd s x 33 ho base 3 i0 1 Tryd.underlying33 hi0 v n xs hs hown hx (h v w ?_ (World.grownBy.refl w _))
    simpa [icells] using hown
  · exact wpList_append_own _ hgd s x 33 ho base 3 i0 _ 1 8 Tryd.underlying33 hi0 hz0 hz1 hz2 rfl (by decide) v n xs hs hown ad l.length cp (icells l) hx (icells_len l) hl.src (icells_one l) (by unfold maxLen; omega) (by omega) hbase (fun v' w' h1 h2 _ => h v' w' h1 h2)

set_option maxHeartbeats 1000000 in
theorem sums_long (A : Option Addr) (l : List Int) (cp : Nat) (w : World) (hm : l.length ≤ maxLen) (ht : Tab w) (hn : ¬ l.length ≤ 50) :
    Calls Tryd.prog 7 #[.slice A l.length cp] w fun e w' => e = .returned (.bool true) ∧ Below w.heap.size w w' := by
  have HT := Lib.hid ht
  have hz : (50 : Int) < (l.length : Int) := by omega
  have hm' : (l.length : Int) ≤ 9223372036854775807 := by unfold maxLen at hm; omega
  clear ht hm
  go_enter Tryd.func7, Tryd.ntmps7
  go_wp2_with fail
  refine (awake_any _ HT.out).mono ?_
  rintro e w1 ⟨rfl, hb1⟩
  go_wp2
  go_ret
  exact ⟨rfl, hb1⟩

set_option maxRecDepth 20000 in
set_option maxHeartbeats 2000000 in
theorem sums_main (A : Option Addr) (l : List Int) (cp : Nat) (w : World) (hl : IR w w.heap.size A l) (hnil : A = none → cp = 0) (ht : Tab w) (hn : l.length ≤ 50) :
    Calls Tryd.prog 7 #[.slice A l.length cp] w fun e w' => e = .returned (.bool true) ∧ Below w.heap.size w w' := by
  have HT := Lib.hid ht
  have hlH := Lib.hid hl
  have HNIL := Lib.hid hnil
  have hz : ¬ (50 : Int) < (l.length : Int) := by omega
  clear ht hl hnil
  go_enter Tryd.func7, Tryd.ntmps7
  go_wp2_with fail
  refine (awake_any _ HT.out).mono ?_
  rintro e w1 ⟨rfl, hb1⟩
  have HB1 := Lib.hid hb1
  have hs1 := hb1.size
  clear hb1
  go_wp2_with (at_builtin; refine wpList_append_ints (B := w.heap.size) rfl _ _ rfl w1.heap.size _ 0 [] rfl (World.ownsRow_made w1 #[] 0 (Nat.le_refl _) (Nat.zero_le _) rfl) A l cp rfl ?c1 HNIL.out ?c2 ?c3 ?_)
  case c1 => exact (hlH.out.below HB1.out).below ((Below.refl _ _).alloc hs1 _)
  case c2 => omega
  case c3 => simp
  intro v w2 hown hgrow
  have hb2 : Below w1.heap.size w1 w2 := ((Below.refl _ _).alloc (Nat.le_refl _) _).grown hgrow (by simp) (fun k hk => by simp [Value.ownBlock] at hk; omega)
  have hown2 : w2.ownsRow w1.heap.size 3 1 v l.length (icells l) := by simpa using hown
  obtain ⟨A2, c2, hveq, hE2⟩ := IR.of_own hown2
  subst hveq
  have HB2 := Lib.hid (HB1.out.trans (hb2.mono hs1))
  have HE2 := Lib.hid hE2
  clear hown hgrow hown2 hE2 hb2
  go_wp2_with fail
  refine (sum_any A2 l c2 _ HE2.out (by omega)).mono ?_
  obtain ⟨p, hp⟩ : ∃ p, p = sumL l := ⟨_, rfl⟩
  have HP := Lib.hid hp
  rw [← hp]
  clear hp
  rintro e w3 ⟨rfl, hb3⟩
  have HB3 := Lib.hid (HB2.out.trans (hb3.mono HB2.out.size))
  clear hb3
  go_wp2_with fail
  refine (refSum_any A l cp _ ((hlH.out.below HB3.out).more HB3.out.size) (by omega)).mono ?_
  rw [← HP.out]
  rintro e w4 ⟨rfl, hb4⟩
  have HB4 := Lib.hid (HB3.out.trans (hb4.mono HB3.out.size))
  clear hb4
  by_cases h2 : l.length < 2
  · have h2' : (l.length : Int) < 2 := by omega
    go_wp2
    go_ret
    exact ⟨rfl, HB4.out⟩
  · have h2' : ¬ (l.length : Int) < 2 := by omega
    obtain ⟨b, off, rfl, hb, p0⟩ := (hlH.out.below HB4.out).at_ (i := 0) (by omega)
    obtain ⟨b', off', hbb, _, p1⟩ := (hlH.out.below HB4.out).at_ (i := 1) (by omega)
    cases hbb
    have h0z : (0 : Int) < (l.length : Int) := by omega
    have h1z : (1 : Int) < (l.length : Int) := by omega
    generalize l[0] = x at *
    generalize l[1] = y at *
    simp only [Nat.add_zero] at p0
    go_wp2
    have k0 := fun d os => cell_regrown p0 d os
    have k1 := fun d os => cell_regrown p1 d os
    refine wp_region_quiet_below (by kernel_rfl) (by kernel_rfl) ?_
    repeat (first | go_big_quiet_step ((go_at_call 21; apply Calls.regrown_of; apply add_any)) | quiet_step ((go_at_call 21; apply Calls.regrown_of; apply add_any)))
    refine wpQuiet_nil ?_
    intro _ hw'
    obtain ⟨⟨dq, osq⟩, hw''⟩ := hw'
    subst hw''
    have HB5 := Lib.hid (HB4.out.trans ((below_regrown w4 dq osq).mono HB4.out.size))
    have q0 := k0 dq osq
    have q1 := k1 dq osq
    clear k0 k1 p0 p1
    simp only at *
    generalize Sort.grow (redrawn w4 dq) osq = w5 at *
    obtain ⟨pq, hpq⟩ : ∃ pq, pq = sumL [x, y] := ⟨_, rfl⟩
    have HPQ := Lib.hid hpq
    rw [← hpq]
    clear hpq
    go_wp2
    have k0 := fun d os => cell_regrown q0 d os
    have k1 := fun d os => cell_regrown q1 d os
    refine wp_region_quiet_below (by kernel_rfl) (by kernel_rfl) ?_
    repeat (first | go_big_quiet_step ((go_at_call 22; apply Calls.regrown_of; apply refAdd_any)) | quiet_step ((go_at_call 22; apply Calls.regrown_of; apply refAdd_any)))
    refine wpQuiet_nil ?_
    intro _ hw'
    obtain ⟨⟨dr, osr⟩, hw''⟩ := hw'
    subst hw''
    have HB6 := Lib.hid (HB5.out.trans ((below_regrown w5 dr osr).mono HB5.out.size))
    clear k0 k1 q0 q1
    rw [← HPQ.out]
    go_wp2
    go_ret
    exact ⟨ret_bool (by simp), HB6.out⟩

theorem lengthSums_walk (A : Option Addr) (l : List Int) (cp : Nat) (w : World) (hl : IR w w.heap.size A l) (hm : l.length ≤ maxLen) (hnil : A = none → cp = 0) (ht : Tab w) :
    Calls Tryd.prog 7 #[.slice A l.length cp] w fun e w' => e = .returned (.bool true) ∧ Below w.heap.size w w' := by
  by_cases hn : l.length ≤ 50
  · exact sums_main A l cp w hl hnil ht hn
  · exact sums_long A l cp w hm ht hn
end Go.Proofs.YtbaljopgkelcfaaDoor
