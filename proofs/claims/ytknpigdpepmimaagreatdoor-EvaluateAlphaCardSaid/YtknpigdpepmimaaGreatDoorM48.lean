/- A region that draws its order: reads taken first in a class of worlds that the last operation may leave; no program. Contract of the reference's subst 54. Contract of the reference's Subst 34. -/
import Derived.OrdersHeld
import Derived.Deep.RegionHeldLaw
import Derived.Test.YtknpigdpepmimaaGreatDoorM19
import Derived.Test.YtknpigdpepmimaaGreatDoorM20
import Derived.Test.YtknpigdpepmimaaGreatDoorM46
import Derived.Test.YtknpigdpepmimaaGreatDoorM47
namespace Go.Proofs.YtknpigdpepmimaaGreatDoor
open Go
section
variable {P : Program} {ops : Array Oper} {Q : Exit → Act → World → Prop} {md : Region.Mode} {S : World → Prop} {last : Nat}
/-- Whatever order is picked from here on, and S holds behind every operation but the last. -/
def wpAnyL (P : Program) (md : Region.Mode) (ops : Array Oper) (Q : Exit → Act → World → Prop) (S : World → Prop) (last : Nat) : Nat → Array Bool → Act → World → Prop
  | 0, listed, a, w => Region.ready md ops listed = [] ∧ Q .normal a w
  | fuel + 1, listed, a, w =>
    (Region.ready md ops listed = [] → Q .normal a w) ∧
    ∀ i ∈ Region.ready md ops listed, wpOp P ops Q i (fun a' w' => (i ≠ last → S w') ∧ wpAnyL P md ops Q S last fuel (listed.setIfInBounds i true) a' w') a w
theorem wpAny_of_L : ∀ (fuel : Nat) (listed : Array Bool) (a : Act) (w : World), wpAnyL P md ops Q S last fuel listed a w → wpAny P md ops Q fuel listed a w
  | 0, _, _, _, h => h
  | fuel + 1, _, _, _, h => ⟨h.1, fun i hi => wpOp_mono (fun a' w' h' => wpAny_of_L fuel _ a' w' h'.2) (h.2 i hi)⟩
/-- the last operation waits for number i -/
def waitsB (md : Region.Mode) (ops : Array Oper) (last i : Nat) : Bool := match ops[last]? with
  | some o => o.after.any fun e => Region.binds md e && e.on == i
  | none => false
theorem waits_not {i : Nat} {listed : Array Bool} (hw : waitsB md ops last i = true) (hr : i ∈ Region.ready md ops listed) : last ∉ Region.ready md ops listed := fun hl => by
  obtain ⟨_, ol, hol, hall⟩ := mem_ready.1 hl
  unfold waitsB at hw
  rw [hol] at hw
  obtain ⟨k, hk, he⟩ := Array.any_eq_true.1 hw
  simp only [Bool.and_eq_true, beq_iff_eq] at he
  have h1 := hall _ (Array.getElem_mem hk) he.1
  rw [he.2] at h1
  have h0 := (mem_ready.1 hr).1
  rcases Nat.lt_or_ge i listed.size with h' | h'
  · simp [h'] at h0 h1; rw [h0] at h1; cases h1
  · simp [Array.getElem?_eq_none h'] at h1
theorem wpAnyL_first {i : Nat} {oi : Oper} {v : Value} (hi : ops[i]? = some oi) (hsel : ∀ (j : Nat) (o : Oper) cs b, ops[j]? = some o → o.op ≠ .select cs b) (hlast : waitsB md ops last i = true)
    (hQ : ∀ c a w, Q (.panic c) (a.put oi.dst v) w → Q (.panic c) a w) :
    ∀ (fuel : Nat) (listed : Array Bool) (a : Act) (w : World),
      (∀ j oj, ops[j]? = some oj → j ≠ i → listed.getD j true = false → (∀ e ∈ oj.after, Region.binds md e = true → e.on ≠ i) → oi.apart ops oj = true) →
      i ∈ Region.ready md ops listed → YieldsIf P ops S oi v a → S w →
      wpAnyL P md ops Q S last fuel (listed.setIfInBounds i true) (a.put oi.dst v) w → wpAnyL P md ops Q S last (fuel + 1) listed a w := by
  intro fuel
  induction fuel with
  | zero =>
    intro listed a w _ hr hy hS H
    refine ⟨fun h => (by rw [h] at hr; cases hr), fun j hj => ?_⟩
    by_cases hji : j = i
    · subst hji; exact hy.wpOp hi hS ⟨fun _ => hS, H⟩
    · have := ready_mono hj hji
      rw [H.1] at this
      cases this
  | succ fuel ih =>
    intro listed a w hfree hr hy hS H
    refine ⟨fun h => (by rw [h] at hr; cases hr), fun j hj => ?_⟩
    by_cases hji : j = i
    · subst hji; exact hy.wpOp hi hS ⟨fun _ => hS, H⟩
    · have h1 := H.2 j (ready_mono hj hji)
      have hjl : j ≠ last := fun e => waits_not hlast hr (e ▸ hj)
      obtain ⟨hjun, oj, hoj, hall⟩ := mem_ready.1 hj
      have hnot : ∀ e ∈ oj.after, Region.binds md e = true → e.on ≠ i := fun e he hb heq => by
        have h1 := hall e he hb
        have h0 := (mem_ready.1 hr).1
        rw [heq] at h1
        rcases Nat.lt_or_ge i listed.size with h' | h'
        · simp [h'] at h0 h1; rw [h0] at h1; cases h1
        · simp [Array.getElem?_eq_none h'] at h1
      have h2 := wpOp_putIf hoj (hfree j oj hoj hji hjun hnot) (fun cs b => hsel i oi cs b hi) (fun cs b => hsel j oj cs b hoj) hQ hy h1
      have hfree' : ∀ k ok, ops[k]? = some ok → k ≠ i → (listed.setIfInBounds j true).getD k true = false →
          (∀ e ∈ ok.after, Region.binds md e = true → e.on ≠ i) → oi.apart ops ok = true := fun k ok hk hki hun hno => by
        refine hfree k ok hk hki ?_ hno
        by_cases hjk : j = k
        · subst hjk; exact hjun
        · rw [getD_set_ne true hjk] at hun; exact hun
      refine wpOp_mono (fun a' w' h3 => ⟨h3.2.1, ih (listed.setIfInBounds j true) a' w' hfree' (ready_mono hr (Ne.symm hji)) h3.1 (h3.2.1 hjl) ?_⟩) h2
      rw [Array.setIfInBounds_comm _ _ hji]
      exact h3.2.2
/-- a read taken first -/
theorem wpAnyL_take {i : Nat} {oi : Oper} {v : Value} {fuel : Nat} {listed : Array Bool} {a : Act} {w : World} (hi : ops[i]? = some oi)
    (hs : Region.noSelect ops = true) (hf : Region.free md ops listed i = true) (hr : (Region.ready md ops listed).contains i = true) (hlast : waitsB md ops last i = true)
    (hQ : ∀ c a w, Q (.panic c) (a.put oi.dst v) w → Q (.panic c) a w) (hy : YieldsIf P ops S oi v a) (hS : S w)
    (h : wpAnyL P md ops Q S last fuel (listed.setIfInBounds i true) (a.put oi.dst v) w) : wpAnyL P md ops Q S last (fuel + 1) listed a w :=
  wpAnyL_first hi (Region.noSelect_spec hs) hlast hQ fuel listed a w (Region.free_spec hi hf) (by simpa using hr) hy hS h
/-- the one operation that may come up now -/
theorem wpAnyL_step {i : Nat} {o : Oper} {fuel : Nat} {listed : Array Bool} {a : Act} {w : World} (hr : Region.ready md ops listed = [i]) (ho : ops[i]? = some o)
    (h : ∀ K' : Act → World → Prop, Shut (∀ a w, S w → (S w → wpAnyL P md ops Q S last fuel (listed.setIfInBounds i true) a w) → K' a w) → if Region.wanted o (yielded ops a.tmps) = true then Oper.wp P o a w K' Q else K' (a.put o.dst undef) w) :
    wpAnyL P md ops Q S last (fuel + 1) listed a w := by
  refine ⟨fun e => (by rw [hr] at e; cases e), fun j hj => ?_⟩
  rw [hr, List.mem_singleton] at hj
  subst hj
  exact wpOp_step ho (fun K' hK => h K' (fun a w hS hW => hK a w ⟨fun _ => hS, hW hS⟩))
/-- the last one -/
theorem wpAnyL_last {o : Oper} {listed : Array Bool} {a : Act} {w : World} (hr : Region.ready md ops listed = [last]) (ho : ops[last]? = some o) (hd : Region.ready md ops (listed.setIfInBounds last true) = [])
    (h : ∀ K' : Act → World → Prop, Shut (∀ a w, Q .normal a w → K' a w) → if Region.wanted o (yielded ops a.tmps) = true then Oper.wp P o a w K' Q else K' (a.put o.dst undef) w) :
    wpAnyL P md ops Q S last 1 listed a w := by
  refine ⟨fun e => (by rw [hr] at e; cases e), fun j hj => ?_⟩
  rw [hr, List.mem_singleton] at hj
  subst hj
  exact wpOp_step ho (fun K' hK => h K' (fun a w hn => hK a w ⟨fun e => absurd rfl e, hd, hn⟩))
theorem wp_region_L {id : Nat} {a : Act} {w : World} (last : Nat) (S : World → Prop) (hm : P.follows .mixedOrders = true)
    (h : wpAnyL P .any ops Q S last ops.size (Array.replicate ops.size false) a w.drew) : (Code.region id ops true).wp P Q a w :=
  wp_region_any hm (wpAny_of_L _ _ _ _ h)
end
end Go.Proofs.YtknpigdpepmimaaGreatDoor
namespace Go.Proofs.YtknpigdpepmimaaGreatDoor
open Go.RowKit
/-- the call's own copies: t, u, the result -/
def Q3 (X : World) (n : Nat) (t : T) (A : Option Addr) (c : Nat) (u : T) (A' : Option Addr) (c' : Nat) : Prop :=
  Bk X n (.int .i64 t.kind) (.string ⟨t.name.toArray⟩) (.string ⟨t.var.toArray⟩) (.slice A t.args.length c) (.string ⟨t.form.toArray⟩) ∧
  Bk X (n + 1) (.int .i64 u.kind) (.string ⟨u.name.toArray⟩) (.string ⟨u.var.toArray⟩) (.slice A' u.args.length c') (.string ⟨u.form.toArray⟩) ∧
  Bk X (n + 1 + 1) (.int .i64 0) (.string ⟨#[]⟩) (.string ⟨#[]⟩) (.slice none 0 0) (.string ⟨#[]⟩)
theorem Q3.below {X Y : World} {n : Nat} {t : T} {A : Option Addr} {c : Nat} {u : T} {A' : Option Addr} {c' : Nat} (h : Q3 X n t A c u A' c') (hb : Below (n + 3) X Y) : Q3 Y n t A c u A' c' :=
  ⟨h.1.below hb (by omega), h.2.1.below hb (by omega), h.2.2.below hb (by omega)⟩
/-- the end of a round: the row's new value is stored -/
theorem rs_end {S : Nat → Prop} {w W w7 : World} {n : Nat} {v v8 : Value} {l8 : List TX} {c0 c1 c2 c4 : Value} {t : T} {A : Option Addr} {c : Nat} {u : T} {A' : Option Addr} {c' : Nat}
    (hO : OT (Zz S (n + 4)) w7 (n + 4) v8 l8) (h7 : Below (n + 4) W w7) (hQ : Q3 W n t A c u A' c') (hC : Bk W (n + 3) c0 c1 c2 v c4) (hB : Below n w W) (hBW : n + 4 ≤ W.heap.size) (hS : ∀ k, S k → k < n) :
    OT (Zz S (n + 4)) (w7.setCell ⟨n + 3, 3, none⟩ v8) (n + 4) v8 l8 ∧ Q3 (w7.setCell ⟨n + 3, 3, none⟩ v8) n t A c u A' c' ∧ Bk (w7.setCell ⟨n + 3, 3, none⟩ v8) (n + 3) c0 c1 c2 v8 c4 ∧ Below n w (w7.setCell ⟨n + 3, 3, none⟩ v8) ∧ n + 4 ≤ (w7.setCell ⟨n + 3, 3, none⟩ v8).heap.size := by
  refine ⟨hO.set (Nat.lt_succ_self _) (fun h => ?_), hQ.below ((h7.mono (show n + 3 ≤ n + 4 by omega)).setCell (p := ⟨n + 3, 3, none⟩) (Nat.le_refl _) _), (hC.below h7 (by omega)).set3 _, (hB.trans (h7.mono (by omega))).setCell (p := ⟨n + 3, 3, none⟩) (Nat.le_add_right n 3) _, ?_⟩
  · rcases h with h | h
    · have := hS _ h; omega
    · omega
  · rw [World.size_setCell]; have := h7.size; omega
theorem grown_mid {wr w10 w11 : World} {cb b9 : Nat} {u : Value} (h1 : Below wr.heap.size wr w10) (h2 : Below wr.heap.size (w10.setCell ⟨cb, 2, none⟩ u) w11) (h9 : wr.heap.size ≤ b9) (a0 a1 a2 a3 a4 : Value) :
    wr.grownBy (((((w11.setCell ⟨b9, 0, none⟩ a0).setCell ⟨b9, 1, none⟩ a1).setCell ⟨b9, 2, none⟩ a2).setCell ⟨b9, 3, none⟩ a3).setCell ⟨b9, 4, none⟩ a4) (some cb) := by
  have h0 := below5s (bz := b9) h2 h9 a0 a1 a2 a3 a4
  have h3 := (Below.refl 0 w10).setCell (p := ⟨cb, 2, none⟩) (Nat.zero_le _) u
  refine ⟨h0.os.trans (h3.os.trans h1.os), h0.tape.trans (h3.tape.trans h1.tape), h0.output.trans (h3.output.trans h1.output), Nat.le_trans h1.size (Nat.le_trans h3.size h0.size), fun k hk hne => ?_⟩
  rw [h0.block k hk, Below.heap_setCell w10 ⟨cb, 2, none⟩ u k (fun e => hne (by have : k = cb := e; rw [this]))]
  exact h1.block k hk
theorem fresh_names (s u : T) (x : W8) : freshL (withL (unionL (frL s) (frL u)) x) = freshL (frL s ++ frL u ++ [x]) := fresh_ext (fun y => by
  rw [mem_withL, mem_unionL, List.mem_append, List.mem_append, List.mem_singleton]
  exact Or.comm)
/-- what the reference's subst does -/
def RSubC (N : Nat) : Prop := ∀ (t u : T) (x : W8), t.size ≤ N → WF t → WF u → t.size + u.size ≤ 2700 → identB x = true → ∀ (S : Nat → Prop) (A : Option Addr) (c : Nat) (A' : Option Addr) (c' : Nat) (w : World), (∀ k, S k → k < w.heap.size) →
  TVS w S t A c → TVS w S u A' c' →
  Calls Tryz.prog 35 #[.agg (tv t A c), .string ⟨x.toArray⟩, .agg (tv u A' c')] w fun e w' => ∃ A9 c9, e = .returned (.agg (tv (sub N t x u) A9 c9)) ∧ TVS w' (Nw S w w') (sub N t x u) A9 c9 ∧ Below w.heap.size w w'
set_option maxRecDepth 100000 in
set_option maxHeartbeats 8000000 in
theorem rsubst_aux (N : Nat) : RSubC N := by
  induction N with
  | zero => intro t u x ht; exact absurd ht (by have := size_pos t; omega)
  | succ N ih =>
    intro t u x hsz hws hwu hz hxi S A c A' c' w hS ht ht'
    have IH := Lib.hid ih
    have HE := Lib.hid (sub_succ N t x u)
    have HA := Lib.hid (And.intro ht ht')
    have HP := Lib.hid (And.intro hwu (And.intro hz (And.intro hxi hS)))
    have HWS : Hid (∀ s ∈ t.args, s.size ≤ N ∧ WF s ∧ s.size < t.size) := fun s hs => by have := size_arg hs; exact ⟨by omega, (hws.parts.2).mem hs, this⟩
    have HVI : Hid (t.kind = 5 → identB t.var = true) := fun hk => (own_bind hws.parts.1 hk).1
    have HLS : Hid (t.args.length ≤ 2700) := by have := len_sizes t.args; have := size_eq t; show _ ≤ 2700; omega
    obtain ⟨⟨hcp1, hcp2⟩, hTA⟩ := ht
    have hyl : t.args.length ≤ 9223372036854775807 := by omega
    have HTA := Lib.hid hTA
    have hb1 : Below w.heap.size w (((w.alloc (.cells (tv t A c) 24)).alloc (.cells (tv u A' c') 24)).alloc (.cells #[.int .i64 0, .string ⟨#[]⟩, .string ⟨#[]⟩, .slice none 0 0, .string ⟨#[]⟩] 24)) := (((Below.refl _ _).alloc (Nat.le_refl _) _).alloc (by simp) _).alloc (by simp; omega) _
    have hs1 : (((w.alloc (.cells (tv t A c) 24)).alloc (.cells (tv u A' c') 24)).alloc (.cells #[.int .i64 0, .string ⟨#[]⟩, .string ⟨#[]⟩, .slice none 0 0, .string ⟨#[]⟩] 24)).heap.size = w.heap.size + 3 := by simp
    have hq1 : Q3 (((w.alloc (.cells (tv t A c) 24)).alloc (.cells (tv u A' c') 24)).alloc (.cells #[.int .i64 0, .string ⟨#[]⟩, .string ⟨#[]⟩, .slice none 0 0, .string ⟨#[]⟩] 24)) w.heap.size t A c u A' c' := by
      refine ⟨((Bk.new' w t A c).reach ((Below.refl _ _).alloc (Nat.le_refl _) _)).reach ((Below.refl _ _).alloc (Nat.le_refl _) _), ?_, ?_⟩
      · have := (Bk.new' (w.alloc (.cells (tv t A c) 24)) u A' c').reach ((Below.refl _ _).alloc (Nat.le_refl _) (.cells #[.int .i64 0, .string ⟨#[]⟩, .string ⟨#[]⟩, .slice none 0 0, .string ⟨#[]⟩] 24))
        rwa [World.size_alloc] at this
      · have := Bk.new ((w.alloc (.cells (tv t A c) 24)).alloc (.cells (tv u A' c') 24)) (.int .i64 0) (.string ⟨#[]⟩) (.string ⟨#[]⟩) (.slice none 0 0) (.string ⟨#[]⟩)
        rwa [World.size_alloc, World.size_alloc] at this
    have HB1 := Lib.hid hb1
    have HS1 := Lib.hid hs1
    have HQ1 := Lib.hid hq1
    clear ih hsz hws hwu hz hxi hS ht' hTA hb1 hs1 hq1
    generalize tv t A c = cs at *
    generalize tv u A' c' = ds at *
    go_enter Tryz.func35, Tryz.ntmps35
    go_upto_region 1 with (fail)
    generalize ((w.alloc (.cells cs 24)).alloc (.cells ds 24)).alloc (.cells #[.int .i64 0, .string ⟨#[]⟩, .string ⟨#[]⟩, .slice none 0 0, .string ⟨#[]⟩] 24) = w1 at *
    obtain ⟨⟨a0, a1, a2, a3, a4⟩, _, _⟩ := HQ1.out.1.cells
    by_cases hvx : t.kind = 2 ∧ t.name = x
    · have HX : Hid (sub (N + 1) t x u = u) := HE.out.trans (if_pos hvx)
      have hb1 : (t.kind == 2) = true := by simp [hvx.1]
      have hb2 : (t.name == x) = true := by simpa using hvx.2
      obtain ⟨⟨d0, d1, d2, d3, d4⟩, _, _⟩ := HQ1.out.2.1.cells
      obtain ⟨⟨q0, q1, q2, q3, q4⟩, qf, ql⟩ := HQ1.out.2.2.cells
      clear hvx HE IH HTA HWS HVI
      go_wp2_with fail
      rw [HX.out]
      have HT9 : Hid (TVS w1 S u A' c') := HA.out.2.reach HP.out.2.2.2 HB1.out
      exact bodyPost_ret (v := .agg (tv u A' c')) (by simp [results, Tryz.results35, go_sem, tv, q0, q1, q2, q3, q4]) rfl ⟨A', c', rfl, (HT9.out.set5 _ _ _ _ _ _ (fun h => by have := HP.out.2.2.2 _ h; omega)).wider (fun k hk => .inl hk), below5s HB1.out (by omega) _ _ _ _ _⟩
    · have HX := Lib.hid (HE.out.trans (if_neg hvx))
      clear HE
      go_cut [20] (fun s20 wx => s20 = .bool false ∧ w1 = wx)
      case first =>
        clear HX
        by_cases hk : t.kind = 2
        · have hb1 : (t.kind == 2) = true := by simp [hk]
          have hb2 : (t.name == x) = false := by
            have : t.name ≠ x := fun h => hvx ⟨hk, h⟩
            simpa using this
          clear hk hvx
          go_wp2_with fail
          go_meet
          case rel => exact ⟨rfl, rfl⟩
        · have hb1 : (t.kind == 2) = false := by simpa using hk
          clear hk hvx
          go_wp2_with fail
          go_meet
          case rel => exact ⟨rfl, rfl⟩
      case rest =>
        obtain ⟨rfl, rfl⟩ := hcut
        go_upto_region 5 with (fail)
        have hb2 : Below w.heap.size w (w1.alloc (.cells #[.int .i64 t.kind, .string ⟨t.name.toArray⟩, .string ⟨t.var.toArray⟩, .slice none 0 0, .string ⟨t.form.toArray⟩] 24)) := HB1.out.alloc HB1.out.size _
        have hc2 := Bk.new w1 (.int .i64 t.kind) (.string ⟨t.name.toArray⟩) (.string ⟨t.var.toArray⟩) (.slice none 0 0) (.string ⟨t.form.toArray⟩)
        have hq2 : Q3 (w1.alloc (.cells #[.int .i64 t.kind, .string ⟨t.name.toArray⟩, .string ⟨t.var.toArray⟩, .slice none 0 0, .string ⟨t.form.toArray⟩] 24)) w.heap.size t A c u A' c' := HQ1.out.below ((Below.refl _ _).alloc (by rw [HS1.out]; exact Nat.le_refl _) _)
        have hs2 : w.heap.size + 4 ≤ (w1.alloc (.cells #[.int .i64 t.kind, .string ⟨t.name.toArray⟩, .string ⟨t.var.toArray⟩, .slice none 0 0, .string ⟨t.form.toArray⟩] 24)).heap.size := by rw [World.size_alloc, HS1.out]; exact Nat.le_refl _
        rw [HS1.out] at hc2 ⊢
        have HC2 := Lib.hid hc2
        have HB2 := Lib.hid hb2
        have HS2 := Lib.hid hs2
        have HQ2 := Lib.hid hq2
        generalize w1.alloc (.cells #[.int .i64 t.kind, .string ⟨t.name.toArray⟩, .string ⟨t.var.toArray⟩, .slice none 0 0, .string ⟨t.form.toArray⟩] 24) = w2 at *
        clear hb2 hc2 hs2 hq2 HB1 HS1 HQ1 a0 a1 a2 a3 a4 hvx
        generalize hhh : (fun s => (scp (sub N) t.var s x u).1) = hh at *
        generalize hrs : subsF (fun z => sub N z x u) (fun s => (scp (sub N) t.var s x u).2) t.kind t.args = rs at *
        have HRL : Hid (rs.length = t.args.length) := by show _ = _; rw [← hrs, subsF_len]
        have HRS : Hid (∀ (i : Nat) (hi : i < t.args.length), rs.take (i + 1) = rs.take i ++ [if t.kind = 5 ∧ i + 1 = t.args.length then (scp (sub N) t.var t.args[i] x u).2 else sub N t.args[i] x u]) := fun i hi => by rw [← hrs]; exact subsF_take _ _ _ t.args i hi
        have HHH : Hid (∀ s, hh s = (scp (sub N) t.var s x u).1) := fun s => by rw [← hhh]
        clear hhh hrs
        go_wp2_with fail
        go_loopg [8, 9, 10, 11] t.args.length (fun gg s8 s9 s10 s11 wr => ∃ (v : Value) (l : List TX), l.length ≤ t.args.length ∧ t.args.length - l.length ≤ gg ∧ s8 = .int .i64 l.length ∧ Aside (l.map TX.t = rs.take l.length) ∧ Aside (OT (Zz S (w.heap.size + 4)) wr (w.heap.size + 4) v l) ∧ Aside (Q3 wr w.heap.size t A c u A' c') ∧ Aside (Bk wr (w.heap.size + 3) (.int .i64 t.kind) (.string ⟨t.name.toArray⟩) (.string ⟨(vrN hh t.kind t.var t.args l.length).toArray⟩) v (.string ⟨t.form.toArray⟩)) ∧ Aside (Below w.heap.size w wr) ∧ Aside (w.heap.size + 4 ≤ wr.heap.size))
        case atStart => exact ⟨.slice none 0 0, [], Nat.zero_le _, by simp, rfl, rfl, ot_nil _ _ _, HQ2.out, (by have := HC2.out; rwa [← vrN_zero hh t.kind t.var t.args] at this), HB2.out, HS2.out⟩
        case round =>
          obtain ⟨v, l, hi, hgg, rfl, HM, HO, HQ, HC, HB, HS⟩ := hrel
          obtain ⟨⟨a0, a1, a2, a3, a4⟩, _, _⟩ := HQ.out.1.cells
          by_cases hlt : l.length < t.args.length
          · have hltz : (l.length : Int) < (t.args.length : Int) := by omega
            obtain ⟨b1, o1, rfl, hR1⟩ := HTA.out.at_ hlt
            have hR2 := hR1.keep (S' := S) (w' := wr) (fun k hk => ⟨hk, HB.out.block k (HP.out.2.2.2 k hk)⟩)
            have hbS : S b1 := hR1.parts.1
            have HR2 := Lib.hid hR2
            have HW5 := Lib.hid (HWS.out _ (List.getElem_mem hlt))
            have HRT := Lib.hid (HRS.out _ hlt)
            have HVG := Lib.hid (vrN_go hh t.kind t.var t.args _ hlt)
            have HVB := Lib.hid (vrN_bind hh t.kind t.var t.args _ hlt)
            have HVA := Lib.hid (vrN_at hh t.kind t.var t.args _ hlt)
            have hll : l.length ≤ 2700 := by have := HLS.out; omega
            have hbn := HP.out.2.2.2 b1 hbS
            clear hR1 hR2
            generalize t.args[l.length] = s at *
            go_upto_region 8 with (fail)
            go_cut [41] (fun s41 wx => s41 = .bool (!decide (t.kind = 5 ∧ l.length + 1 = t.args.length)) ∧ wr = wx)
            case first =>
              by_cases hk : t.kind = 5
              · have hb1 : (t.kind != 5) = false := by simp [hk]
                have hb3 : (t.kind == 5) = true := by simp [hk]
                by_cases he : l.length + 1 = t.args.length
                · have hez : ¬ (l.length : Int) < (t.args.length : Int) - 1 := by omega
                  have HPP : Hid (decide (t.kind = 5 ∧ l.length + 1 = t.args.length) = true) := decide_eq_true ⟨hk, he⟩
                  clear hk
                  go_wp2_with fail
                  go_meet
                  case rel => exact ⟨by rw [HPP.out]; rfl, rfl⟩
                · have hez : (l.length : Int) < (t.args.length : Int) - 1 := by omega
                  have HPP : Hid (decide (t.kind = 5 ∧ l.length + 1 = t.args.length) = false) := decide_eq_false (fun h => he h.2)
                  clear hk
                  go_wp2_with fail
                  go_meet
                  case rel => exact ⟨by rw [HPP.out]; rfl, rfl⟩
              · have hb1 : (t.kind != 5) = true := by simp [hk]
                have hb3 : (t.kind == 5) = false := by simp [hk]
                have HPP : Hid (decide (t.kind = 5 ∧ l.length + 1 = t.args.length) = false) := decide_eq_false (fun h => hk h.1)
                clear hk
                go_wp2_with fail
                go_meet
                case rel => exact ⟨by rw [HPP.out]; rfl, rfl⟩
            case rest =>
              obtain ⟨rfl, rfl⟩ := hcut
              have HS6 : Hid (∀ k, S k → k < wr.heap.size) := fun k hk => by have := HP.out.2.2.2 k hk; have := HS.out; omega
              by_cases hbd : t.kind = 5 ∧ l.length + 1 = t.args.length
              · rw [decide_eq_true hbd]
                have HVW := Lib.hid (HVI.out hbd.1)
                have HV6 := Lib.hid (HVB.out hbd)
                have HR6 : Hid (rs.take (l.length + 1) = rs.take l.length ++ [(scp (sub N) t.var s x u).2]) := HRT.out.trans (by rw [if_pos hbd])
                rw [HHH.out] at HV6
                have hs2 := HR2.out.parts
                obtain ⟨_, k0, k1, k2, k4, A5, c5, k3, hv5⟩ := hs2
                have HV5 := Lib.hid hv5
                have HOL := Lib.hid HO.out.lt
                clear hbd HVB HVG HRT hv5 HHH HR2
                go_upto_region 11 with (fail)
                have HB6 : Hid (Below wr.heap.size wr (wr.alloc (.cells #[.int .i64 s.kind, .string ⟨s.name.toArray⟩, .string ⟨s.var.toArray⟩, .slice A5 s.args.length c5, .string ⟨s.form.toArray⟩] 24))) := (Below.refl _ _).alloc (Nat.le_refl _) _
                have HK6 := Lib.hid (Bk.new wr (.int .i64 s.kind) (.string ⟨s.name.toArray⟩) (.string ⟨s.var.toArray⟩) (.slice A5 s.args.length c5) (.string ⟨s.form.toArray⟩))
                have HW6 : Hid ((wr.alloc (.cells #[.int .i64 s.kind, .string ⟨s.name.toArray⟩, .string ⟨s.var.toArray⟩, .slice A5 s.args.length c5, .string ⟨s.form.toArray⟩] 24)).heap.size = wr.heap.size + 1) := by show _ = _; simp
                clear k0 k1 k2 k3 k4 a0 a1 a2 a3 a4
                generalize wr.alloc (.cells #[.int .i64 s.kind, .string ⟨s.name.toArray⟩, .string ⟨s.var.toArray⟩, .slice A5 s.args.length c5, .string ⟨s.form.toArray⟩] 24) = w6 at *
                have HBW := Lib.hid (HB.out.trans (HB6.out.mono HB.out.size))
                have HQW := Lib.hid (HQ.out.below (HB6.out.mono (by have := HS.out; omega)))
                have HCW := Lib.hid (HC.out.reach HB6.out)
                have HTV := Lib.hid fun w' (hb : Below w6.heap.size w6 w') => ((HV5.out.reach HS6.out (HB6.out.trans (hb.mono HB6.out.size))).tv (B := w'.heap.size) (fun k hk => Nat.lt_of_lt_of_le (HS6.out k hk) (HB6.out.trans (hb.mono HB6.out.size)).size))
                have HTU := Lib.hid fun w' (hb : Below w6.heap.size w6 w') => ((HA.out.2.reach HP.out.2.2.2 (HBW.out.trans (hb.mono HBW.out.size))).tv (B := w'.heap.size) (fun k hk => Nat.lt_of_lt_of_le (HP.out.2.2.2 k hk) (HBW.out.trans (hb.mono HBW.out.size)).size))
                have HCs := Lib.hid fun w' (hb : Below w6.heap.size w6 w') => free41_any s A5 c5 w' (HTV.out w' hb) HW5.out.2.1 (by have := HW5.out.2.2; have := HP.out.2.1; omega)
                have HCu := Lib.hid fun w' (hb : Below w6.heap.size w6 w') => free41_any u A' c' w' (HTU.out w' hb) HP.out.1 (by have := HP.out.2.1; omega)
                unfold tv at HCs HCu
                have HKP := Lib.hid fun w' (hb : Below w6.heap.size w6 w') => And.intro (HK6.out.reach hb).cells.1 (HQW.out.below (hb.mono (by have := HS.out; have := HW6.out; omega))).2.1.cells.1
                go_cut [10, 11] (fun s10 s11 wx => Aside (SL wx wx.heap.size s10 (frL s)) ∧ Aside (SL wx wx.heap.size s11 (frL u)) ∧ Aside (Below w6.heap.size w6 wx))
                case first =>
                  refine wp_region_noPanic ?_
                  go_region_held_law (fun w' => (w'.cell? ⟨wr.heap.size, 0, none⟩ = some (.int .i64 s.kind) ∧ w'.cell? ⟨wr.heap.size, 1, none⟩ = some (.string ⟨s.name.toArray⟩) ∧ w'.cell? ⟨wr.heap.size, 2, none⟩ = some (.string ⟨s.var.toArray⟩) ∧ w'.cell? ⟨wr.heap.size, 3, none⟩ = some (.slice A5 s.args.length c5) ∧ w'.cell? ⟨wr.heap.size, 4, none⟩ = some (.string ⟨s.form.toArray⟩)) ∧ w'.cell? ⟨w.heap.size + 1, 0, none⟩ = some (.int .i64 u.kind) ∧ w'.cell? ⟨w.heap.size + 1, 1, none⟩ = some (.string ⟨u.name.toArray⟩) ∧ w'.cell? ⟨w.heap.size + 1, 2, none⟩ = some (.string ⟨u.var.toArray⟩) ∧ w'.cell? ⟨w.heap.size + 1, 3, none⟩ = some (.slice A' u.args.length c') ∧ w'.cell? ⟨w.heap.size + 1, 4, none⟩ = some (.string ⟨u.form.toArray⟩))
                    (first
                      | exact HKP.out _ (below_dr (Below.refl _ _))
                      | exact HKP.out _ HBf2.out
                      | exact HKP.out _ HBf1.out)
                    (first
                      | (go_at_call 32; first
                          | ((with_reducible refine (HCs.out _ (below_dr (Below.refl w6.heap.size w6))).mono ?_); rintro e wa ⟨va, rfl, hsa, hba⟩; have HSa := Lib.hid hsa; have HBa := Lib.hid hba; have HBf1 := Lib.hid ((below_dr (Below.refl w6.heap.size w6)).trans hba); clear hsa hba)
                          | ((with_reducible refine (HCs.out _ HBf1.out).mono ?_); rintro e wa ⟨va, rfl, hsa, hba⟩; have HSa := Lib.hid hsa; have HSb := Lib.hid ((HSb.out.below hba).more hba.size); have HBf2 := Lib.hid (HBf1.out.trans (hba.mono HBf1.out.size)); clear hsa hba)
                          | ((with_reducible refine (HCu.out _ (below_dr (Below.refl w6.heap.size w6))).mono ?_); rintro e wb ⟨vb, rfl, hsb, hbb⟩; have HSb := Lib.hid hsb; have HBb := Lib.hid hbb; have HBf1 := Lib.hid ((below_dr (Below.refl w6.heap.size w6)).trans hbb); clear hsb hbb)
                          | ((with_reducible refine (HCu.out _ HBf1.out).mono ?_); rintro e wb ⟨vb, rfl, hsb, hbb⟩; have HSb := Lib.hid hsb; have HSa := Lib.hid ((HSa.out.below hbb).more hbb.size); have HBf2 := Lib.hid (HBf1.out.trans (hbb.mono HBf1.out.size)); clear hsb hbb)))
                  all_goals
                    refine NoPanic.normal ?_
                    go_wp2_with fail
                    go_meet
                    case rel => exact ⟨HSa.out, HSb.out, HBf2.out⟩
                case rest =>
                  obtain ⟨HLs, HLu, HBc⟩ := hcut
                  have HRC : Hid (Below wr.heap.size wr wc) := HB6.out.trans (HBc.out.mono HB6.out.size)
                  have HBD := Lib.hid (HB.out.trans (HRC.out.mono HB.out.size))
                  have HQD := Lib.hid (HQW.out.below (HBc.out.mono (by have := HS.out; have := HW6.out; omega)))
                  have hcd := HCW.out.reach HBc.out
                  rw [HVA.out] at hcd
                  have HCD := Lib.hid hcd
                  have HKD := Lib.hid (HK6.out.reach HBc.out)
                  have HVD := Lib.hid (HV5.out.reach HS6.out HRC.out)
                  have HOD := Lib.hid (HO.out.bel HRC.out)
                  have HSD : Hid (wr.heap.size < wc.heap.size) := by have := HBc.out.size; have := HW6.out; show _ < _; omega
                  have HUD := Lib.hid (HA.out.2.reach HP.out.2.2.2 HBD.out)
                  clear hcd HBc HBW HQW HCW HK6 HV5 HW6 HTV HTU HCs HCu HKP HB6 HQ HC HVA HB HTA
                  rename World => wd
                  obtain ⟨⟨a0, a1, a2, a3, a4⟩, _, _⟩ := HQD.out.1.cells
                  have HH := Lib.hid (has35_any _ _ (frL s) x wd HLs.out)
                  have HHE : Hid (hasB (frL s) x = decide (x ∈ frL s)) := by show (frL s).contains x = _; rw [List.contains_eq_mem]
                  have HSP : Hid (scp (sub N) t.var s x u = if t.var = x ∨ x ∉ frL s then (t.var, s) else if t.var ∉ frL u then (t.var, sub N s x u) else (freshL (frL s ++ frL u ++ [x]), sub N (sub N s t.var (vrT (freshL (frL s ++ frL u ++ [x])))) x u)) := rfl
                  go_upto_region 12 with (fail)
                  go_cut [73] (fun s73 wx => s73 = .bool (decide (t.var = x ∨ x ∉ frL s)) ∧ wd = wx)
                  case first =>
                    by_cases hvx : t.var = x
                    · have hb1 : (t.var == x) = true := by simpa using hvx
                      have HPP : Hid (decide (t.var = x ∨ x ∉ frL s) = true) := decide_eq_true (.inl hvx)
                      clear hvx
                      go_wp2_with fail
                      go_meet
                      case rel => exact ⟨by rw [HPP.out], rfl⟩
                    · have hb1 : (t.var == x) = false := by simpa using hvx
                      rw [HHE.out] at HH
                      by_cases hxs : x ∈ frL s
                      · have HPP : Hid (decide (t.var = x ∨ x ∉ frL s) = false) := decide_eq_false (fun h => h.elim hvx (fun h => h hxs))
                        rw [decide_eq_true hxs] at HH
                        clear hvx hxs
                        go_wp2_with fail
                        refine HH.out.mono ?_
                        rintro e w8 ⟨rfl, rfl⟩
                        go_wp2_with fail
                        go_meet
                        case rel => exact ⟨by rw [HPP.out], rfl⟩
                      · have HPP : Hid (decide (t.var = x ∨ x ∉ frL s) = true) := decide_eq_true (.inr hxs)
                        rw [decide_eq_false hxs] at HH
                        clear hvx hxs
                        go_wp2_with fail
                        refine HH.out.mono ?_
                        rintro e w8 ⟨rfl, rfl⟩
                        go_wp2_with fail
                        go_meet
                        case rel => exact ⟨by rw [HPP.out], rfl⟩
                  case rest =>
                    obtain ⟨rfl, rfl⟩ := hcut
                    clear HH HHE
                    by_cases hn : t.var = x ∨ x ∉ frL s
                    · rw [decide_eq_true hn]
                      have HSX := Lib.hid (HSP.out.trans (if_pos hn))
                      rw [HSX.out] at HV6 HR6
                      clear hn HSP IH
                      obtain ⟨⟨m0, m1, m2, m3, m4⟩, mf, ml⟩ := HCD.out.cells
                      obtain ⟨⟨p0, p1, p2, p3, p4⟩, pf, pl⟩ := HKD.out.cells
                      have mf3 := mf 3
                      clear mf pf
                      obtain ⟨i0, hi0, hz0, hz1, hz2⟩ := info_parts term_info
                      go_wp2_with (at_builtin; refine wpList_append_lies _ rfl _ _ 22 rfl (w.heap.size + 4) 24 i0 _ 5 80 Tryz.underlying22 hi0 hz0 hz1 hz2 rfl (by decide) v l.length (txc l) rfl (World.ownsRow.alloc HOD.out.1 _) ⟨wd.heap.size, 0, none⟩ 1 1 (TX.cells ⟨s, A5, c5⟩) rfl rfl (tx_new wd ⟨s, A5, c5⟩) (tx_one _) (by decide) (by unfold maxLen; omega) (by omega) (by have := HS.out; have := HSD.out; simp; omega) _ rfl ?_)
                      intro g7 cap7 w7 hown7 hgrow7 hat7 hlt7
                      have hap := sub_append (S := S) (D := wr.heap.size) (x := ⟨s, A5, c5⟩) _ (fun k hk => by have := HP.out.2.2.2 k hk; omega) HOD.out (fun k e => (HOL.out k e).2) HS.out (Nat.le_of_lt HSD.out) (HVD.out.wider (fun k hk => .inl hk)) hown7 hgrow7 (by first | exact hat7 | (rw [World.size_alloc]; exact hat7))
                      have HBA := Lib.hid hap.2
                      have HOA := Lib.hid hap.1
                      have HC7 := Lib.hid (HCD.out.below hap.2 (Nat.lt_succ_self _))
                      clear hap hown7 hgrow7 hat7 hlt7 m0 m1 m2 m3 m4 ml mf3 p0 p1 p2 p3 p4 pl a0 a1 a2 a3 a4
                      have m37 := HC7.out.cells.1.2.2.2.1
                      have mf7 := HC7.out.cells.2.1 3
                      have HL8 : Hid ((l ++ [TX.mk s A5 c5]).length = l.length + 1) := by show _ = _; simp
                      have HM8 : Hid ((l ++ [TX.mk s A5 c5]).map TX.t = rs.take (l ++ [TX.mk s A5 c5]).length) := by
                        show (l ++ [TX.mk s A5 c5]).map TX.t = _
                        rw [HL8.out, List.map_append, HM.out, HR6.out]; rfl
                      have hend := rs_end HOA.out HBA.out HQD.out HCD.out HBD.out (by have := HS.out; have := HSD.out; omega) HP.out.2.2.2
                      have HEND := Lib.hid hend
                      clear hend HOA HBA HC7
                      go_wp2_with fail
                      go_roundg (t.args.length - (l.length + 1))
                      case measure => omega
                      case rel =>
                        obtain ⟨e1, e2, e3, e4, e5⟩ := HEND.out
                        exact ⟨.slice (some ⟨g7, 0, none⟩) (l.length + 1) cap7, l ++ [TX.mk s A5 c5], by rw [HL8.out]; omega, by rw [HL8.out]; omega, by rw [HL8.out]; go_num, HM8.out, e1, e2, (by rw [HL8.out, HV6.out]; exact e3), e4, e5⟩
                    · rw [decide_eq_false hn]
                      have HSX := Lib.hid (HSP.out.trans (if_neg hn))
                      clear HSP hn
                      have HHu := Lib.hid (has35_any _ _ (frL u) t.var wd HLu.out)
                      have HHE : Hid (hasB (frL u) t.var = decide (t.var ∈ frL u)) := by show (frL u).contains t.var = _; rw [List.contains_eq_mem]
                      rw [HHE.out] at HHu
                      go_upto_region 14 with (fail)
                      go_cut [83] (fun s83 wx => s83 = .bool (decide (t.var ∈ frL u)) ∧ wd = wx)
                      case first =>
                        go_wp2_with fail
                        refine HHu.out.mono ?_
                        rintro e w8 ⟨rfl, rfl⟩
                        go_wp2_with fail
                        go_meet
                        case rel => exact ⟨rfl, rfl⟩
                      case rest =>
                        obtain ⟨rfl, rfl⟩ := hcut
                        clear HHu HHE
                        go_upto_if 83 with fail
                        go_cut [84] (fun _ wx => ∃ (vb : W8) (r : T) (A9 : Option Addr) (c9 : Nat), Aside (scp (sub N) t.var s x u = (vb, sub N r x u)) ∧ Aside (r.size ≤ s.size ∧ WF r) ∧ Aside (Q3 wx w.heap.size t (some ⟨b1, o1, none⟩) c u A' c') ∧ Aside (Bk wx (w.heap.size + 3) (.int .i64 t.kind) (.string ⟨t.name.toArray⟩) (.string ⟨vb.toArray⟩) v (.string ⟨t.form.toArray⟩)) ∧ Aside (Bk wx wr.heap.size (.int .i64 r.kind) (.string ⟨r.name.toArray⟩) (.string ⟨r.var.toArray⟩) (.slice A9 r.args.length c9) (.string ⟨r.form.toArray⟩)) ∧ Aside (TVS wx (fun k => S k ∨ (wr.heap.size ≤ k ∧ k < wx.heap.size)) r A9 c9) ∧ Aside (OT (Zz S (w.heap.size + 4)) wx (w.heap.size + 4) v l) ∧ Aside (Below w.heap.size w wx) ∧ Aside (wr.heap.size < wx.heap.size))
                        case first =>
                          by_cases hv2 : t.var ∈ frL u
                          · rw [decide_eq_true hv2]
                            have HSX2 := Lib.hid (HSX.out.trans (if_neg (fun h => h hv2)))
                            clear hv2 HSX
                            have hwl : ∀ q : T, WF q → Wds (frL q) := fun q hq y hy => ident_word ((frL_ok q hq).2 y hy)
                            have hfl1 := frL_len s
                            have hfl2 := frL_len u
                            have hsb : s.size + u.size ≤ 2700 := by have := HW5.out.2.2; have := HP.out.2.1; omega
                            have hul := union_len (frL u) (frL s)
                            have hwln := withL_len (unionL (frL s) (frL u)) x
                            have HC8 := Lib.hid (union45_any _ _ (frL s) (frL u) wd HLs.out HLu.out (by omega) (hwl s HW5.out.2.1) (hwl u HP.out.1))
                            have HC9 := Lib.hid fun v9 w9 (h : SL w9 w9.heap.size v9 (unionL (frL s) (frL u))) => with44_any v9 (unionL (frL s) (frL u)) x w9 h (by omega) (srtd_union (a := frL s) (b := frL u) (hwl s HW5.out.2.1) (frL_ok s HW5.out.2.1).1 (hwl u HP.out.1)).2 (ident_word HP.out.2.2.1)
                            have HC10 := Lib.hid fun v9 w9 (h : SL w9 w9.heap.size v9 (withL (unionL (frL s) (frL u)) x)) => fresh27_any v9 (withL (unionL (frL s) (frL u)) x) w9 h (by omega)
                            have HFI := Lib.hid (fresh_ident (frL s ++ frL u ++ [x]) (frs_len3 s u x hsb))
                            have HSB := Lib.hid hsb
                            rw [fresh_names] at HC10
                            clear hwl hfl1 hfl2 hul hwln hsb
                            generalize freshL (frL s ++ frL u ++ [x]) = fr at *
                            generalize withL (unionL (frL s) (frL u)) x = lw at *
                            generalize unionL (frL s) (frL u) = lu at *
                            go_wp2_with fail
                            refine HC8.out.mono ?_
                            rintro e w8 ⟨v8, rfl, hs8, hb8⟩
                            have HE8 := Lib.hid (HC9.out _ _ hs8)
                            have HB8 := Lib.hid hb8
                            clear hs8 hb8 HC8 HC9
                            go_wp2_with fail
                            refine HE8.out.mono ?_
                            rintro e w9 ⟨v9, rfl, hs9, hb9⟩
                            have HE9 := Lib.hid (HC10.out _ _ hs9)
                            have HB9 := Lib.hid (HB8.out.trans (hb9.mono HB8.out.size))
                            clear hs9 hb9 HC10 HE8
                            go_wp2_with fail
                            refine HE9.out.mono ?_
                            rintro e w10 ⟨rfl, hb10⟩
                            have HB10 := Lib.hid (HB9.out.trans (hb10.mono HB9.out.size))
                            clear hb10 HE9 HB9 HB8 a0 a1 a2 a3 a4
                            have hcx := HCD.out.reach HB10.out
                            obtain ⟨⟨m0, m1, m2, m3, m4⟩, mf, ml⟩ := hcx.cells
                            have hcy := hcx.set2 (.string ⟨fr.toArray⟩)
                            have hky := (HKD.out.reach HB10.out).other (b' := w.heap.size + 3) (o := 2) (.string ⟨fr.toArray⟩) (by have := HS.out; omega)
                            have hqy := (HQD.out.below (HB10.out.mono (by have := HS.out; have := HSD.out; omega))).below ((Below.refl (w.heap.size + 3) w10).setCell (p := ⟨w.heap.size + 3, 2, none⟩) (Nat.le_refl _) (.string ⟨fr.toArray⟩))
                            have hby : Below w.heap.size w (w10.setCell ⟨w.heap.size + 3, 2, none⟩ (.string ⟨fr.toArray⟩)) := (HBD.out.trans (HB10.out.mono HBD.out.size)).setCell (p := ⟨w.heap.size + 3, 2, none⟩) (Nat.le_add_right _ 3) _
                            have HCY := Lib.hid hcy
                            have HKY := Lib.hid hky
                            have HQY := Lib.hid hqy
                            have HBY := Lib.hid hby
                            obtain ⟨⟨n0, n1, n2, n3, n4⟩, _, _⟩ := HCY.out.cells
                            obtain ⟨⟨p0, p1, p2, p3, p4⟩, _, _⟩ := HKY.out.cells
                            obtain ⟨⟨a0, a1, a2, a3, a4⟩, _, _⟩ := HQY.out.1.cells
                            have hwy : wd.heap.size ≤ (w10.setCell ⟨w.heap.size + 3, 2, none⟩ (.string ⟨fr.toArray⟩)).heap.size := by rw [World.size_setCell]; exact HB10.out.size
                            have HWY := Lib.hid hwy
                            have HRD : Hid (Below wr.heap.size wr w10) := HRC.out.trans (HB10.out.mono HRC.out.size)
                            have HVY : Hid (TVS (w10.setCell ⟨w.heap.size + 3, 2, none⟩ (.string ⟨fr.toArray⟩)) S s A5 c5) := HVD.out.keep (fun k hk => ⟨hk, (Below.heap_setCell w10 ⟨w.heap.size + 3, 2, none⟩ _ k (fun e => by have : k = w.heap.size + 3 := e; have := HP.out.2.2.2 k hk; omega)).trans (HB10.out.block k (by have := HS6.out k hk; have := HSD.out; omega))⟩)
                            have HCL := Lib.hid (IH.out s (vrT fr) t.var HW5.out.1 HW5.out.2.1 (vrT_wf HFI.out) (by rw [vrT_size]; have := HSB.out; have := size_pos u; omega) HVW.out S A5 c5 none 0 _ (fun k hk => by have := HS6.out k hk; have := HSD.out; have := HWY.out; omega) HVY.out ⟨⟨Nat.le_refl _, by omega⟩, fun h => absurd rfl h⟩)
                            have HSZ1 : Hid ((sub N s t.var (vrT fr)).size ≤ s.size) := sub_var_size N s t.var fr
                            have HWF1 : Hid (WF (sub N s t.var (vrT fr))) := sub_wf N s t.var (vrT fr) HW5.out.2.1 (vrT_wf HFI.out) (by rw [vrT_size]; have := HSB.out; have := size_pos u; omega)
                            rw [show tv (vrT fr) none 0 = #[.int .i64 2, .string ⟨fr.toArray⟩, .string ⟨#[]⟩, .slice none 0 0, .string ⟨#[]⟩] from rfl] at HCL
                            unfold tv at HCL
                            have mf2 := mf 2
                            clear hcx hcy hky hqy hby hwy mf
                            go_upto_region 16 with (fail)
                            generalize hX : w10.setCell ⟨w.heap.size + 3, 2, none⟩ (.string ⟨fr.toArray⟩) = X at *
                            have HXE := Lib.hid hX
                            clear hX m0 m1 m2 m3 m4 mf2 ml
                            generalize sub N s t.var (vrT fr) = r1 at *
                            go_wp2_with fail
                            refine HCL.out.mono ?_
                            rintro e w11 ⟨A9, c9, rfl, hv9, hb9⟩
                            have HV9 := Lib.hid hv9
                            have HB9 := Lib.hid hb9
                            have hkz := HKY.out.reach hb9
                            obtain ⟨⟨p0, p1, p2, p3, p4⟩, pf, pl⟩ := hkz.cells
                            have HKZ := Lib.hid hkz
                            clear hkz hv9 hb9 HCL a0 a1 a2 a3 a4 n0 n1 n2 n3 n4
                            go_wp2_with fail
                            go_meet
                            case rel =>
                              have hwx : wr.heap.size < w11.heap.size := by have := HB9.out.size; have := HWY.out; have := HSD.out; omega
                              have h2 : Below wr.heap.size (w10.setCell ⟨w.heap.size + 3, 2, none⟩ (.string ⟨fr.toArray⟩)) w11 := by rw [HXE.out]; exact HB9.out.mono (by have := HWY.out; have := HSD.out; omega)
                              have hnS : ¬ (fun k => S k ∨ (wd.heap.size ≤ k ∧ k < w11.heap.size)) wr.heap.size := fun h => by
                                rcases h with h | h
                                · have := HP.out.2.2.2 _ h; have := HS.out; omega
                                · have := HSD.out; omega
                              refine ⟨fr, r1, A9, c9, HSX2.out, ⟨HSZ1.out, HWF1.out⟩, (HQY.out.below (HB9.out.mono (by have := HS.out; have := HWY.out; have := HSD.out; omega))).below (below5s (Below.refl _ _) (by have := HS.out; omega) _ _ _ _ _), (HCY.out.reach HB9.out).other5 _ _ _ _ _ (by have := HS.out; omega), HKZ.out.set5 _ _ _ _ _,
                                (((HV9.out.wider (S' := fun k => S k ∨ (wd.heap.size ≤ k ∧ k < w11.heap.size)) (fun k hk => hk.imp id (fun h => ⟨by have := HWY.out; omega, h.2⟩))).set5 wr.heap.size _ _ _ _ _ hnS).wider (fun k hk => ?_)), HO.out.grow (grown_mid HRD.out h2 (Nat.le_refl _) _ _ _ _ _) (Nat.lt_succ_self _) (fun h => by
                                rcases h with h | h
                                · have := HP.out.2.2.2 _ h; omega
                                · omega), below5s (HBY.out.trans (HB9.out.mono HBY.out.size)) (by have := HS.out; omega) _ _ _ _ _, ?_⟩
                              · rw [size_set5]
                                exact hk.imp id (fun h => ⟨by have := HSD.out; omega, h.2⟩)
                              · rw [size_set5]; exact hwx
                          · rw [decide_eq_false hv2]
                            have HSX2 := Lib.hid (HSX.out.trans (if_pos hv2))
                            clear hv2 HSX
                            go_wp2_with fail
                            go_meet
                            case rel => exact ⟨t.var, s, A5, c5, HSX2.out, ⟨Nat.le_refl _, HW5.out.2.1⟩, HQD.out, HCD.out, HKD.out, HVD.out.wider (fun k hk => .inl hk), HOD.out, HBD.out, HSD.out⟩
                        case rest =>
                          obtain ⟨vb, r, A9, c9, HSX3, HRW, HQE, HCE, HKE, HVE, HOE, HBE, HSE⟩ := hcut
                          rename World => we
                          rw [HSX3.out] at HV6 HR6
                          have HCL := Lib.hid fun w' (hb : Below we.heap.size we w') => IH.out r u x (by have := HRW.out.1; have := HW5.out.1; omega) HRW.out.2 HP.out.1 (by have := HRW.out.1; have := HW5.out.2.2; have := HP.out.2.1; omega) HP.out.2.2.1 (fun k => S k ∨ (wr.heap.size ≤ k ∧ k < we.heap.size)) A9 c9 A' c' w' (fun k hk => by have := hb.size; rcases hk with h | h; (have := HS6.out k h; have := HSE.out; omega); omega) (HVE.out.reach (fun k hk => by rcases hk with h | h; (have := HS6.out k h; have := HSE.out; omega); exact h.2) hb) ((HA.out.2.reach HP.out.2.2.2 (HBE.out.trans (hb.mono HBE.out.size))).wider (fun k hk => .inl hk))
                          unfold tv at HCL
                          have HKP := Lib.hid fun w' (hb : Below we.heap.size we w') => And.intro ((HCE.out.reach hb).cells.1.2.2.2.1) (And.intro (HKE.out.reach hb).cells.1 (HQE.out.below (hb.mono (by have := HS.out; have := HSE.out; omega))).2.1.cells.1)
                          have HKP2 := Lib.hid fun w' (hc : w'.cell? ⟨w.heap.size + 3, 3, none⟩ = some v) (hk : Bk w' wr.heap.size (.int .i64 r.kind) (.string ⟨r.name.toArray⟩) (.string ⟨r.var.toArray⟩) (.slice A9 r.args.length c9) (.string ⟨r.form.toArray⟩)) (hq : Q3 w' w.heap.size t (some ⟨b1, o1, none⟩) c u A' c') => And.intro hc (And.intro hk.cells.1 hq.2.1.cells.1)
                          have HOW := Lib.hid HOE.out.lt
                          have HRSZ : Hid (v.ownBlock ≠ some wr.heap.size) := fun e => by have := (HOL.out _ e).2; omega
                          clear IH HSX HVD HOD HBD HSD HUD HQD HCD HKD HLs HLu HO HRC a0 a1 a2 a3 a4
                          generalize sub N r x u = rr at *
                          go_upto_region 17 with (fail)
                          obtain ⟨i0, hi0, hz0, hz1, hz2⟩ := info_parts term_info
                          refine wp_region_noPanic ?_
                          refine wp_region_L 9 (fun w' => w'.cell? ⟨w.heap.size + 3, 3, none⟩ = some v ∧ (w'.cell? ⟨wr.heap.size, 0, none⟩ = some (.int .i64 r.kind) ∧ w'.cell? ⟨wr.heap.size, 1, none⟩ = some (.string ⟨r.name.toArray⟩) ∧ w'.cell? ⟨wr.heap.size, 2, none⟩ = some (.string ⟨r.var.toArray⟩) ∧ w'.cell? ⟨wr.heap.size, 3, none⟩ = some (.slice A9 r.args.length c9) ∧ w'.cell? ⟨wr.heap.size, 4, none⟩ = some (.string ⟨r.form.toArray⟩)) ∧ w'.cell? ⟨w.heap.size + 1, 0, none⟩ = some (.int .i64 u.kind) ∧ w'.cell? ⟨w.heap.size + 1, 1, none⟩ = some (.string ⟨u.name.toArray⟩) ∧ w'.cell? ⟨w.heap.size + 1, 2, none⟩ = some (.string ⟨u.var.toArray⟩) ∧ w'.cell? ⟨w.heap.size + 1, 3, none⟩ = some (.slice A' u.args.length c') ∧ w'.cell? ⟨w.heap.size + 1, 4, none⟩ = some (.string ⟨u.form.toArray⟩)) (by kernel_rfl) ?_
                          have hS0 := HKP.out _ (below_dr (Below.refl _ _))
                          simp only [List.size_toArray, List.length_cons, List.length_nil, Nat.zero_add, Nat.reduceAdd]
                          refine wpAnyL_take (i := 0) (v := ?vb0) rfl (by kernel_rfl) (by kernel_rfl) (by kernel_rfl) (by kernel_rfl) (fun _ _ _ h => h) (Or.inl ⟨by rfl, ?hb0⟩) hS0 ?rb0
                          case hb0 => (intro w' hSw; (try dsimp only at hSw); go_simp; all_goals with_reducible rfl)
                          try dsimp only [Act.put]
                          refine wpAnyL_take (i := 1) (v := ?vb1) rfl (by kernel_rfl) (by kernel_rfl) (by kernel_rfl) (by kernel_rfl) (fun _ _ _ h => h) (Or.inl ⟨by rfl, ?hb1⟩) hS0 ?rb1
                          case hb1 => (intro w' hSw; (try dsimp only at hSw); go_simp; all_goals with_reducible rfl)
                          try dsimp only [Act.put]
                          refine wpAnyL_take (i := 2) (v := ?vb2) rfl (by kernel_rfl) (by kernel_rfl) (by kernel_rfl) (by kernel_rfl) (fun _ _ _ h => h) (Or.inl ⟨by rfl, ?hb2⟩) hS0 ?rb2
                          case hb2 => (intro w' hSw; (try dsimp only at hSw); go_simp; all_goals with_reducible rfl)
                          try dsimp only [Act.put]
                          refine wpAnyL_take (i := 3) (v := ?vb3) rfl (by kernel_rfl) (by kernel_rfl) (by kernel_rfl) (by kernel_rfl) (fun _ _ _ h => h) (Or.inl ⟨by rfl, ?hb3⟩) hS0 ?rb3
                          case hb3 => (intro w' hSw; (try dsimp only at hSw); go_simp; all_goals with_reducible rfl)
                          try dsimp only [Act.put]
                          refine wpAnyL_take (i := 4) (v := ?vb4) rfl (by kernel_rfl) (by kernel_rfl) (by kernel_rfl) (by kernel_rfl) (fun _ _ _ h => h) (Or.inl ⟨by rfl, ?hb4⟩) hS0 ?rb4
                          case hb4 => (intro w' hSw; (try dsimp only at hSw); go_simp; all_goals with_reducible rfl)
                          try dsimp only [Act.put]
                          refine wpAnyL_step (i := 5) (by kernel_rfl) rfl ?_
                          intro K hK
                          go_simp
                          go_wp2_with (go_at_call 35; (refine (HCL.out _ (below_dr (Below.refl we.heap.size we))).mono ?_); rintro e wc ⟨A8, c8, rfl, hv8, hb8⟩)
                          have hb8w : Below we.heap.size we wc := (below_dr (Below.refl we.heap.size we)).trans hb8
                          have HV8 := Lib.hid hv8
                          have HB8 := Lib.hid hb8w
                          have HS8 := Lib.hid hb8w.size
                          have HCC := Lib.hid (HCE.out.reach hb8w)
                          have HKC := Lib.hid (HKE.out.reach hb8w)
                          have HQC := Lib.hid (HQE.out.below (hb8w.mono (by have := HS.out; have := HSE.out; omega)))
                          refine hK.out _ _ (HKP.out _ HB8.out) (fun _ => ?_)
                          clear hK K hv8 hb8 hb8w
                          refine wpAnyL_step (i := 6) (by kernel_rfl) rfl ?_
                          intro K hK
                          go_simp
                          refine hK.out _ _ (HKP.out _ (HB8.out.alloc HS8.out _)) (fun _ => ?_)
                          clear hK K
                          refine wpAnyL_step (i := 7) (by kernel_rfl) rfl ?_
                          intro K hK
                          refine step_append_lies _ rfl _ _ 22 rfl (w.heap.size + 4) 24 i0 _ 5 80 Tryz.underlying22 hi0 hz0 hz1 hz2 rfl (by decide) v l.length (txc l) rfl (World.ownsRow.alloc (HOE.out.bel HB8.out).1 _) ⟨wc.heap.size, 0, none⟩ 1 1 (TX.cells ⟨rr, A8, c8⟩) rfl rfl (tx_new wc ⟨rr, A8, c8⟩) (tx_one _) (by decide) (by unfold maxLen; omega) (by omega) (by have := HS8.out; have := HS.out; have := HSE.out; simp; omega) _ rfl ?_
                          intro g7 cap7 w7 hown7 hgrow7 hat7 hlt7
                          have hap := sub_append (S := S) (D := wr.heap.size) (x := ⟨rr, A8, c8⟩) _ (fun k hk => by have := HP.out.2.2.2 k hk; omega) (HOE.out.bel HB8.out) (fun k e => (HOL.out k e).2) HS.out (by have := HS8.out; have := HSE.out; omega) (HV8.out.wider (fun k hk => by
                            rcases hk with (h | h) | h
                            · exact .inl h
                            · exact .inr ⟨h.1, by have := HS8.out; omega⟩
                            · exact .inr ⟨by have := HSE.out; have := h.1; have e : we.drew.heap.size = we.heap.size := rfl; omega, h.2⟩)) hown7 hgrow7 (by first | exact hat7 | (rw [World.size_alloc]; exact hat7))
                          have hk7 : w7.heap[wr.heap.size]? = wc.heap[wr.heap.size]? := (hgrow7.block wr.heap.size (by rw [World.size_alloc]; have := HS8.out; have := HSE.out; omega) (fun e => HRSZ.out e.symm)).trans (Below.heap_alloc wc _ _ (by have := HS8.out; have := HSE.out; omega))
                          have HK7 : Hid (Bk w7 wr.heap.size (.int .i64 r.kind) (.string ⟨r.name.toArray⟩) (.string ⟨r.var.toArray⟩) (.slice A9 r.args.length c9) (.string ⟨r.form.toArray⟩)) := hk7.trans HKC.out
                          have HBA := Lib.hid hap.2
                          have HOA := Lib.hid hap.1
                          have HC7 := Lib.hid (HCC.out.below hap.2 (Nat.lt_succ_self _))
                          have HQ7 := Lib.hid (HQC.out.below (hap.2.mono (Nat.le_succ _)))
                          refine hK.out _ _ (HKP2.out _ HC7.out.cells.1.2.2.2.1 HK7.out HQ7.out) (fun _ => ?_)
                          clear hK K hap hown7 hgrow7 hat7 hlt7 hk7
                          refine wpAnyL_step (i := 8) (by kernel_rfl) rfl ?_
                          intro K hK
                          go_simp
                          refine hK.out _ _ (HKP2.out _ HC7.out.cells.1.2.2.2.1 HK7.out HQ7.out) (fun _ => ?_)
                          clear hK K
                          have m37 := HC7.out.cells.1.2.2.2.1
                          have mf7 := HC7.out.cells.2.1 3
                          refine wpAnyL_last (by kernel_rfl) rfl (by kernel_rfl) ?_
                          intro K hK
                          go_simp
                          refine hK.out _ _ ?_
                          refine NoPanic.normal ?_
                          clear hK K m37 mf7
                          have HL8 : Hid ((l ++ [TX.mk rr A8 c8]).length = l.length + 1) := by show _ = _; simp
                          have HM8 : Hid ((l ++ [TX.mk rr A8 c8]).map TX.t = rs.take (l ++ [TX.mk rr A8 c8]).length) := by
                            show (l ++ [TX.mk rr A8 c8]).map TX.t = _
                            rw [HL8.out, List.map_append, HM.out, HR6.out]; rfl
                          have hend := rs_end HOA.out HBA.out HQC.out HCC.out (HBE.out.trans (HB8.out.mono HBE.out.size)) (by have := HS.out; have := HS8.out; have := HSE.out; omega) HP.out.2.2.2
                          have HEND := Lib.hid hend
                          clear hend HOA HBA HC7 HCC HV8 HB8 HKP HKP2 HCL HK7 HQ7
                          go_wp2_with fail
                          go_roundg (t.args.length - (l.length + 1))
                          case measure => omega
                          case rel =>
                            obtain ⟨e1, e2, e3, e4, e5⟩ := HEND.out
                            exact ⟨.slice (some ⟨g7, 0, none⟩) (l.length + 1) cap7, l ++ [TX.mk rr A8 c8], by rw [HL8.out]; omega, by rw [HL8.out]; omega, by rw [HL8.out]; go_num, HM8.out, e1, e2, (by rw [HL8.out, HV6.out]; exact e3), e4, e5⟩
              · rw [decide_eq_false hbd]
                obtain ⟨_, k0, k1, k2, k4, A5, c5, k3, hv5⟩ := HR2.out.parts
                have HV5 := Lib.hid hv5
                have HV6 := Lib.hid (HVG.out hbd)
                have HR6 : Hid (rs.take (l.length + 1) = rs.take l.length ++ [sub N s x u]) := HRT.out.trans (by rw [if_neg hbd])
                have HCL := Lib.hid fun w' (hb : Below wr.heap.size wr w') => IH.out s u x HW5.out.1 HW5.out.2.1 HP.out.1 (by have := HW5.out.2.2; have := HP.out.2.1; omega) HP.out.2.2.1 S A5 c5 A' c' w' (fun k hk => Nat.lt_of_lt_of_le (HS6.out k hk) hb.size) (HV5.out.reach HS6.out hb) (HA.out.2.reach HP.out.2.2.2 (HB.out.trans (hb.mono HB.out.size)))
                obtain ⟨⟨m0, m1, m2, m3, m4⟩, mf, ml⟩ := HC.out.cells
                have mf3 := mf 3
                have HKP := Lib.hid fun w' (hb : Below (w.heap.size + 4) wr w') => And.intro ((hb.cell (p := ⟨w.heap.size + 3, 3, none⟩) (show w.heap.size + 3 < w.heap.size + 4 by omega)).trans m3) (And.intro ((hb.cell (p := ⟨w.heap.size, 3, none⟩) (show w.heap.size < w.heap.size + 4 by omega)).trans a3) (And.intro (And.intro ((hb.cell (p := ⟨b1, o1 + l.length * 5, none⟩) (show b1 < w.heap.size + 4 by omega)).trans k0) (And.intro ((hb.cell (p := ⟨b1, o1 + l.length * 5 + 1, none⟩) (show b1 < w.heap.size + 4 by omega)).trans k1) (And.intro ((hb.cell (p := ⟨b1, o1 + l.length * 5 + 2, none⟩) (show b1 < w.heap.size + 4 by omega)).trans k2) (And.intro ((hb.cell (p := ⟨b1, o1 + l.length * 5 + 3, none⟩) (show b1 < w.heap.size + 4 by omega)).trans k3) ((hb.cell (p := ⟨b1, o1 + l.length * 5 + 4, none⟩) (show b1 < w.heap.size + 4 by omega)).trans k4))))) (HQ.out.below (hb.mono (by omega))).2.1.cells.1))
                unfold tv at HCL
                have HOL := Lib.hid HO.out.lt
                clear hbd HVB HVG HRT IH hv5 HV5 HVA mf a0 a1 a2 a4 m0 m1 m2 m4
                generalize sub N s x u = r at *
                go_upto_region 9 with (fail)
                obtain ⟨i0, hi0, hz0, hz1, hz2⟩ := info_parts term_info
                refine wp_region_noPanic ?_
                refine wp_region_L 13 (fun w' => w'.cell? ⟨w.heap.size + 3, 3, none⟩ = some v ∧ w'.cell? ⟨w.heap.size, 3, none⟩ = some (.slice (some ⟨b1, o1, none⟩) t.args.length c) ∧ (w'.cell? ⟨b1, o1 + l.length * 5, none⟩ = some (.int .i64 s.kind) ∧ w'.cell? ⟨b1, o1 + l.length * 5 + 1, none⟩ = some (.string ⟨s.name.toArray⟩) ∧ w'.cell? ⟨b1, o1 + l.length * 5 + 2, none⟩ = some (.string ⟨s.var.toArray⟩) ∧ w'.cell? ⟨b1, o1 + l.length * 5 + 3, none⟩ = some (.slice A5 s.args.length c5) ∧ w'.cell? ⟨b1, o1 + l.length * 5 + 4, none⟩ = some (.string ⟨s.form.toArray⟩)) ∧ w'.cell? ⟨w.heap.size + 1, 0, none⟩ = some (.int .i64 u.kind) ∧ w'.cell? ⟨w.heap.size + 1, 1, none⟩ = some (.string ⟨u.name.toArray⟩) ∧ w'.cell? ⟨w.heap.size + 1, 2, none⟩ = some (.string ⟨u.var.toArray⟩) ∧ w'.cell? ⟨w.heap.size + 1, 3, none⟩ = some (.slice A' u.args.length c') ∧ w'.cell? ⟨w.heap.size + 1, 4, none⟩ = some (.string ⟨u.form.toArray⟩)) (by kernel_rfl) ?_
                have hS0 := HKP.out _ (below_dr (Below.refl _ _))
                simp only [List.size_toArray, List.length_cons, List.length_nil, Nat.zero_add, Nat.reduceAdd]
                refine wpAnyL_take (i := 0) (v := ?va0) rfl (by kernel_rfl) (by kernel_rfl) (by kernel_rfl) (by kernel_rfl) (fun _ _ _ h => h) (Or.inl ⟨by rfl, ?ha0⟩) hS0 ?ra0
                case ha0 => (intro w' hSw; (try dsimp only at hSw); go_simp; all_goals with_reducible rfl)
                try dsimp only [Act.put]
                refine wpAnyL_take (i := 1) (v := ?va1) rfl (by kernel_rfl) (by kernel_rfl) (by kernel_rfl) (by kernel_rfl) (fun _ _ _ h => h) (Or.inl ⟨by rfl, ?ha1⟩) hS0 ?ra1
                case ha1 => (intro w' hSw; (try dsimp only at hSw); go_simp; all_goals with_reducible rfl)
                try dsimp only [Act.put]
                refine wpAnyL_take (i := 2) (v := ?va2) rfl (by kernel_rfl) (by kernel_rfl) (by kernel_rfl) (by kernel_rfl) (fun _ _ _ h => h) (Or.inl ⟨by rfl, ?ha2⟩) hS0 ?ra2
                case ha2 => (intro w' hSw; (try dsimp only at hSw); go_simp; all_goals with_reducible rfl)
                try dsimp only [Act.put]
                refine wpAnyL_take (i := 3) (v := ?va3) rfl (by kernel_rfl) (by kernel_rfl) (by kernel_rfl) (by kernel_rfl) (fun _ _ _ h => h) (Or.inl ⟨by rfl, ?ha3⟩) hS0 ?ra3
                case ha3 => (intro w' hSw; (try dsimp only at hSw); go_simp; all_goals with_reducible rfl)
                try dsimp only [Act.put]
                refine wpAnyL_take (i := 4) (v := ?va4) rfl (by kernel_rfl) (by kernel_rfl) (by kernel_rfl) (by kernel_rfl) (fun _ _ _ h => h) (Or.inl ⟨by rfl, ?ha4⟩) hS0 ?ra4
                case ha4 => (intro w' hSw; (try dsimp only at hSw); go_simp; all_goals with_reducible rfl)
                try dsimp only [Act.put]
                refine wpAnyL_take (i := 5) (v := ?va5) rfl (by kernel_rfl) (by kernel_rfl) (by kernel_rfl) (by kernel_rfl) (fun _ _ _ h => h) (Or.inl ⟨by rfl, ?ha5⟩) hS0 ?ra5
                case ha5 => (intro w' hSw; (try dsimp only at hSw); go_simp; all_goals with_reducible rfl)
                try dsimp only [Act.put]
                refine wpAnyL_take (i := 6) (v := ?va6) rfl (by kernel_rfl) (by kernel_rfl) (by kernel_rfl) (by kernel_rfl) (fun _ _ _ h => h) (Or.inl ⟨by rfl, ?ha6⟩) hS0 ?ra6
                case ha6 => (intro w' hSw; (try dsimp only at hSw); go_simp; all_goals with_reducible rfl)
                try dsimp only [Act.put]
                refine wpAnyL_take (i := 7) (v := ?va7) rfl (by kernel_rfl) (by kernel_rfl) (by kernel_rfl) (by kernel_rfl) (fun _ _ _ h => h) (Or.inl ⟨by rfl, ?ha7⟩) hS0 ?ra7
                case ha7 => (intro w' hSw; (try dsimp only at hSw); go_simp; all_goals with_reducible rfl)
                try dsimp only [Act.put]
                refine wpAnyL_take (i := 8) (v := ?va8) rfl (by kernel_rfl) (by kernel_rfl) (by kernel_rfl) (by kernel_rfl) (fun _ _ _ h => h) (Or.inl ⟨by rfl, ?ha8⟩) hS0 ?ra8
                case ha8 => (intro w' hSw; (try dsimp only at hSw); go_simp; all_goals with_reducible rfl)
                try dsimp only [Act.put]
                refine wpAnyL_step (i := 9) (by kernel_rfl) rfl ?_
                intro K hK
                go_simp
                go_wp2_with (go_at_call 35; (refine (HCL.out _ (below_dr (Below.refl wr.heap.size wr))).mono ?_); rintro e wc ⟨A9, c9, rfl, hv9, hb9⟩)
                have hb9w : Below wr.heap.size wr wc := (below_dr (Below.refl wr.heap.size wr)).trans hb9
                have HV9 := Lib.hid hv9
                have HB9 := Lib.hid hb9w
                have HS9 := Lib.hid hb9w.size
                have HB4 : Hid (Below (w.heap.size + 4) wr wc) := hb9w.mono HS.out
                have HCC := Lib.hid (HC.out.reach hb9w)
                refine hK.out _ _ (HKP.out _ HB4.out) (fun _ => ?_)
                clear hK K hv9 hb9 hb9w
                refine wpAnyL_step (i := 10) (by kernel_rfl) rfl ?_
                intro K hK
                go_simp
                refine hK.out _ _ (HKP.out _ (HB4.out.alloc (by have := HS9.out; have := HS.out; omega) _)) (fun _ => ?_)
                clear hK K
                refine wpAnyL_step (i := 11) (by kernel_rfl) rfl ?_
                intro K hK
                refine step_append_lies _ rfl _ _ 22 rfl (w.heap.size + 4) 24 i0 _ 5 80 Tryz.underlying22 hi0 hz0 hz1 hz2 rfl (by decide) v l.length (txc l) rfl (World.ownsRow.alloc (HO.out.bel HB9.out).1 _) ⟨wc.heap.size, 0, none⟩ 1 1 (TX.cells ⟨r, A9, c9⟩) rfl rfl (tx_new wc ⟨r, A9, c9⟩) (tx_one _) (by decide) (by unfold maxLen; omega) (by omega) (by have := HS9.out; have := HS.out; simp; omega) _ rfl ?_
                intro g7 cap7 w7 hown7 hgrow7 hat7 hlt7
                have hap := sub_append (S := S) (D := wr.heap.size) (x := ⟨r, A9, c9⟩) _ (fun k hk => by have := HP.out.2.2.2 k hk; omega) (HO.out.bel HB9.out) (fun k e => (HOL.out k e).2) HS.out HS9.out (HV9.out.wider (fun k hk => hk)) hown7 hgrow7 (by first | exact hat7 | (rw [World.size_alloc]; exact hat7))
                have HBA := Lib.hid hap.2
                have HOA := Lib.hid hap.1
                refine hK.out _ _ (HKP.out _ (HB4.out.trans hap.2)) (fun _ => ?_)
                have HC7 := Lib.hid (HCC.out.below hap.2 (Nat.lt_succ_self _))
                clear hK K hap hown7 hgrow7 hat7 hlt7
                refine wpAnyL_step (i := 12) (by kernel_rfl) rfl ?_
                intro K hK
                go_simp
                refine hK.out _ _ (HKP.out _ (HB4.out.trans HBA.out)) (fun _ => ?_)
                clear hK K
                have m37 := HC7.out.cells.1.2.2.2.1
                have mf7 := HC7.out.cells.2.1 3
                refine wpAnyL_last (by kernel_rfl) rfl (by kernel_rfl) ?_
                intro K hK
                go_simp
                refine hK.out _ _ ?_
                refine NoPanic.normal ?_
                clear hK K m37 mf7
                have HL8 : Hid ((l ++ [TX.mk r A9 c9]).length = l.length + 1) := by show _ = _; simp
                have HM8 : Hid ((l ++ [TX.mk r A9 c9]).map TX.t = rs.take (l ++ [TX.mk r A9 c9]).length) := by
                  show (l ++ [TX.mk r A9 c9]).map TX.t = _
                  rw [HL8.out, List.map_append, HM.out, HR6.out]; rfl
                have hend := rs_end HOA.out HBA.out (HQ.out.below (HB9.out.mono (by have := HS.out; omega))) HCC.out (HB.out.trans (HB9.out.mono HB.out.size)) (by have := HS.out; have := HS9.out; omega) HP.out.2.2.2
                have HEND := Lib.hid hend
                clear hend HOA HBA HC7 HCC HB4 HV9 HB9 HKP HCL
                go_wp2_with fail
                go_roundg (t.args.length - (l.length + 1))
                case measure => omega
                case rel =>
                  obtain ⟨e1, e2, e3, e4, e5⟩ := HEND.out
                  exact ⟨.slice (some ⟨g7, 0, none⟩) (l.length + 1) cap7, l ++ [TX.mk r A9 c9], by rw [HL8.out]; omega, by rw [HL8.out]; omega, by rw [HL8.out]; go_num, HM8.out, e1, e2, (by rw [HL8.out, HV6.out]; exact e3), e4, e5⟩
          · have hltz : ¬ (l.length : Int) < (t.args.length : Int) := by omega
            have hlz : l.length = t.args.length := by omega
            obtain ⟨A9, c9, rfl, hc9, hta9⟩ := HO.out.trs (fun k hk => .inr hk)
            have hmt : l.map TX.t = rs := by rw [HM.out, List.take_of_length_le (by have := HRL.out; omega)]
            have hvn : vrN hh t.kind t.var t.args l.length = varF hh t.kind t.var t.args := by unfold vrN; rw [if_pos hlz]
            have hle : l.length = rs.length := by rw [← hmt, List.length_map]
            rw [hmt] at hta9
            rw [hvn, hle] at HC
            rw [hle] at hc9
            have HT9 : Hid (TVS wr (fun k => Zz S (w.heap.size + 4) k ∧ k < wr.heap.size) (.mk t.kind t.name (varF hh t.kind t.var t.args) rs t.form) A9 c9) := TVS.mk hc9 hta9
            obtain ⟨⟨m0, m1, m2, m3, m4⟩, mf, ml⟩ := HC.out.cells
            obtain ⟨⟨q0, q1, q2, q3, q4⟩, qf, ql⟩ := HQ.out.2.2.cells
            have HXX := Lib.hid HX.out
            clear hvn hmt hta9 hc9 HM HO hlz hle IH HX HRS HHH HTA HWS HVI HC mf
            generalize varF hh t.kind t.var t.args = vf at *
            go_wp2_with fail
            rw [HXX.out]
            exact bodyPost_ret (v := .agg (tv (.mk t.kind t.name vf rs t.form) A9 c9)) (by simp [results, Tryz.results35, go_sem, tv, T.kind, T.name, T.var, T.args, T.form, q0, q1, q2, q3, q4]) rfl ⟨A9, c9, rfl, (HT9.out.set5 (w.heap.size + 1 + 1) _ _ _ _ _ (fun h => by
              rcases h.1 with h | h
              · exact absurd (HP.out.2.2.2 _ h) (by omega)
              · omega)).wider (fun k hk => by
              rcases hk.1 with h | h
              · exact .inl h
              · exact .inr ⟨by omega, by rw [size_set5]; exact hk.2⟩), below5s HB.out (by omega) _ _ _ _ _⟩
end Go.Proofs.YtknpigdpepmimaaGreatDoor
namespace Go.Proofs.YtknpigdpepmimaaGreatDoor
open Go.RowKit
end Go.Proofs.YtknpigdpepmimaaGreatDoor
