/- Facts for the rounds of bind 82. Limits and variables of a bind, plain facts. -/
import Derived.Test.YtknpigdpepmimaaGreatDoorM31
namespace Go.Proofs.YtknpigdpepmimaaGreatDoor
open Go.RowKit Go.Maps
/-- what has grown, but for the evaluator's block -/
def Gx (xb : Nat) (w w' : World) : Prop := w.grownBy w' (some xb)
theorem gx_refl {xb : Nat} {w : World} : Gx xb w w := grown_of_below (Below.refl _ w) _
theorem gx_dr {xb : Nat} {w0 w : World} (h : Gx xb w0 w) : Gx xb w0 w.drew := ⟨h.os, h.tape, h.output, h.size, h.block⟩
theorem gx_gr {xb : Nat} {w0 w w' : World} (h : Gx xb w0 w) (h2 : w.grownBy w' (some xb)) : Gx xb w0 w' := grown_tr h h2
theorem gx_bl {xb : Nat} {w0 w w' : World} (h : Gx xb w0 w) (h2 : Below w.heap.size w w') : Gx xb w0 w' := gx_gr h (grown_of_below h2 _)
theorem gx_al {xb : Nat} {w0 w : World} (h : Gx xb w0 w) (o : Obj) : Gx xb w0 (w.alloc o) := gx_bl h (b1 w o)
theorem gx_st {xb : Nat} {w0 w : World} (h : Gx xb w0 w) {p i : Nat} (hp : w0.heap.size ≤ p) (v : Value) : Gx xb w0 (w.setCell ⟨p, i, none⟩ v) :=
  ⟨h.os, h.tape, h.output, by rw [World.size_setCell]; exact h.size, fun k hk hne => (Below.heap_setCell w ⟨p, i, none⟩ v k (by show k ≠ p; omega)).trans (h.block k hk hne)⟩
/-- a block of the call's own that holds a result -/
def P11 (w0 w : World) (m : Nat) (r : R) (q : Value) : Prop := K11 w m r q ∧ w0.heap.size ≤ m
theorem P11.zero {xb : Nat} {w0 w : World} (h : Gx xb w0 w) : P11 w0 (w.alloc (.cells #[.int .i64 0, .int .i64 0, .int .i64 0, .int .i64 0, .int .i64 0, .int .i64 0, .int .i64 0, .int .i64 0, .int .i64 0, .slice none 0 0, .int .i64 0] 86)) w.heap.size zR (.slice none 0 0) := ⟨K11.zero w, h.size⟩
theorem P11.newr {xb : Nat} {w0 w : World} (h : Gx xb w0 w) (r : R) (q : Value) : P11 w0 (w.alloc (.cells #[.int .i64 r.v.num, .int .i64 r.v.den, .int .i64 r.v.dim.a, .int .i64 r.v.dim.b, .int .i64 r.v.dim.c, .int .i64 r.v.dim.d, .int .i64 r.v.dim.e, .int .i64 r.v.dim.f, .int .i64 r.v.dim.g, q, .int .i64 r.e] 86)) w.heap.size r q := ⟨K11.new w r q, h.size⟩
theorem P11.reach {w0 w w' : World} {m : Nat} {r : R} {q : Value} (h : P11 w0 w m r q) (hb : Below w.heap.size w w') : P11 w0 w' m r q := ⟨h.1.reach hb, h.2⟩
theorem P11.grow {xb : Nat} {w0 w w' : World} {m : Nat} {r : R} {q : Value} (h : P11 w0 w m r q) (hx : xb < w0.heap.size) (hg : w.grownBy w' (some xb)) : P11 w0 w' m r q :=
  ⟨(hg.block m h.1.cells.2.2 (fun e => by have := Option.some.inj e; have := h.2; omega)).trans h.1, h.2⟩
theorem P11.al {w0 w : World} {m : Nat} {r : R} {q : Value} (h : P11 w0 w m r q) (o : Obj) : P11 w0 (w.alloc o) m r q := h.reach (b1 w o)
theorem P11.dr {w0 w : World} {m : Nat} {r : R} {q : Value} (h : P11 w0 w m r q) : P11 w0 w.drew m r q := h
theorem P11.set {w0 w : World} {m : Nat} {s : R} {q0 : Value} (h : P11 w0 w m s q0) (r : R) (q : Value) : P11 w0 (((((((((((w.setCell ⟨m, 0, none⟩ (.int .i64 r.v.num)).setCell ⟨m, 1, none⟩ (.int .i64 r.v.den)).setCell ⟨m, 2, none⟩ (.int .i64 r.v.dim.a)).setCell ⟨m, 3, none⟩ (.int .i64 r.v.dim.b)).setCell ⟨m, 4, none⟩ (.int .i64 r.v.dim.c)).setCell ⟨m, 5, none⟩ (.int .i64 r.v.dim.d)).setCell ⟨m, 6, none⟩ (.int .i64 r.v.dim.e)).setCell ⟨m, 7, none⟩ (.int .i64 r.v.dim.f)).setCell ⟨m, 8, none⟩ (.int .i64 r.v.dim.g)).setCell ⟨m, 9, none⟩ (q)).setCell ⟨m, 10, none⟩ (.int .i64 r.e)) m r q := ⟨set11_K11 h.1 r q, h.2⟩
theorem EB.up {w : World} {xb nb ob c : Nat} (h : EB w xb nb ob c) : EB (w.setCell ⟨xb, 2, none⟩ (.int .i64 ((c : Int) + 1))) xb nb ob (c + 1) := by
  unfold EB at h ⊢
  show (w.heap.modify xb _)[xb]? = _
  rw [Array.getElem?_modify, if_pos rfl, h]
  rfl
theorem gr_up {w : World} {xb : Nat} (u : Value) : w.grownBy (w.setCell ⟨xb, 2, none⟩ u) (some xb) :=
  ⟨rfl, rfl, rfl, by rw [World.size_setCell]; exact Nat.le_refl _, fun k _ hne => Below.heap_setCell w ⟨xb, 2, none⟩ u k (fun e => hne (by rw [e]))⟩
theorem KS.new (w : World) (x : W8) (v : V) (q : Value) : KS (w.alloc (.cells #[.string ⟨x.toArray⟩, .int .i64 v.num, .int .i64 v.den, .int .i64 v.dim.a, .int .i64 v.dim.b, .int .i64 v.dim.c, .int .i64 v.dim.d, .int .i64 v.dim.e, .int .i64 v.dim.f, .int .i64 v.dim.g, q] 162)) w.heap.size x v q := heap_alloc_new w _
theorem KS.whole (w : World) (x : W8) (k : Int) (q : Value) : KS (w.alloc (.cells #[.string ⟨x.toArray⟩, .int .i64 k, .int .i64 1, .int .i64 0, .int .i64 0, .int .i64 0, .int .i64 0, .int .i64 0, .int .i64 0, .int .i64 0, q] 162)) w.heap.size x (whV k) q := heap_alloc_new w _
theorem KS.whole1 (w : World) (ob : Obj) (x : W8) (k : Int) (q : Value) : KS ((w.alloc ob).alloc (.cells #[.string ⟨x.toArray⟩, .int .i64 k, .int .i64 1, .int .i64 0, .int .i64 0, .int .i64 0, .int .i64 0, .int .i64 0, .int .i64 0, .int .i64 0, q] 162)) (w.heap.size + 1) x (whV k) q := by
  have h := KS.whole (w.alloc ob) x k q
  rwa [World.size_alloc] at h
theorem KS.al {w : World} {b : Nat} {x : W8} {v : V} {q : Value} (h : KS w b x v q) (o : Obj) : KS (w.alloc o) b x v q := ((b1 w o).block b (Array.getElem?_eq_some_iff.1 h).1).trans h
theorem keepG {xb : Nat} {w w' : World} {a b : Addr} {u v : Value} (h1 : w.cell? a = some u) (h2 : w.cell? b = some v) (ha : a.block ≠ xb) (hb : b.block ≠ xb) (hg : Gx xb w w') : w'.cell? a = some u ∧ w'.cell? b = some v :=
  ⟨(World.cell?_of_block (hg.block a.block (block_lt_of_cell h1) (fun e => ha (Option.some.inj e)))).trans h1, (World.cell?_of_block (hg.block b.block (block_lt_of_cell h2) (fun e => hb (Option.some.inj e)))).trans h2⟩
theorem BO.bi {w : World} {B : Nat} {v : Value} {l : List Int} (h : BO w B v l) : BI w v l := h.1
theorem EB.reach {w w' : World} {xb nb ob c : Nat} (h : EB w xb nb ob c) (hb : Below w.heap.size w w') : EB w' xb nb ob c := (hb.block xb h.cells.2.2).trans h
theorem EB.al {w : World} {xb nb ob c : Nat} (h : EB w xb nb ob c) (o : Obj) : EB (w.alloc o) xb nb ob c := h.reach (b1 w o)
theorem BI.keep2 {w w' : World} {v : Value} {l : List Int} (h : BI w v l) (hk : l ≠ [] → ∀ b o n c, v = .slice (some ⟨b, o, none⟩) n c → b < w.heap.size → b < w'.heap.size ∧ w'.heap[b]? = w.heap[b]?) : BI w' v l := by
  by_cases hl : l = []
  · subst hl
    obtain ⟨⟨A, c, e, hc, _⟩, hn⟩ := h
    exact ⟨⟨A, c, e, hc, fun h => absurd rfl h⟩, hn⟩
  · exact h.keep (hk hl)
theorem BI.lt {w : World} {l : List Int} {v : Value} (h : BI w v l) (hl : l ≠ []) {b o n c : Nat} (e : v = .slice (some ⟨b, o, none⟩) n c) : b < w.heap.size := by
  obtain ⟨⟨A, c', e', _, hA⟩, _⟩ := h
  obtain ⟨b', o', h1, h2, _⟩ := hA hl
  rw [e', h1] at e
  injection e with e1
  have := Option.some.inj e1
  have e2 : b' = b := congrArg (fun a : Addr => a.block) this
  omega
/-- behind the evaluation of a scope: the result lies in block m -/
structure RZ (wA w' : World) (xb nb ob c2 m : Nat) (ru : R) (q : Value) : Prop where
  k : P11 wA w' m ru q
  bi : BI w' q ru.path
  far : ∀ b o n c, q = .slice (some ⟨b, o, none⟩) n c → wA.heap.size ≤ b
  gx : Gx xb wA w'
  eb : EB w' xb nb ob c2
theorem rz_far {wA X W83 : World} {q q0 : Value} {p0 : List Int} {wy : World} (h1 : wA.heap.size ≤ X.heap.size) (h2 : X.heap.size ≤ W83.heap.size) (hq0 : BO wy X.heap.size q0 p0) (hq : q = q0 ∨ ∀ b o n c, q = .slice (some ⟨b, o, none⟩) n c → W83.heap.size ≤ b) {b o n c : Nat} (e : q = .slice (some ⟨b, o, none⟩) n c) : X.heap.size ≤ b ∧ wA.heap.size ≤ b := by
  rcases hq with rfl | hq
  · have := hq0.2 b o n c e; omega
  · have := hq b o n c e; omega
theorem RZ.new {wA X wy wx : World} {xb nb ob c2 : Nat} {r2 ru : R} {q0 q : Value} (hX : Gx xb wA X) (hgy : X.grownBy wy (some xb)) (hq0 : BO wy X.heap.size q0 r2.path) (hey : EB wy xb nb ob c2) (hb : Below wy.heap.size wy wx) (hq : BI wx q ru.path)
    (hq5 : q = q0 ∨ ∀ b o n c, q = .slice (some ⟨b, o, none⟩) n c → wy.heap.size ≤ b) : RZ wA (wx.alloc (.cells #[.int .i64 ru.v.num, .int .i64 ru.v.den, .int .i64 ru.v.dim.a, .int .i64 ru.v.dim.b, .int .i64 ru.v.dim.c, .int .i64 ru.v.dim.d, .int .i64 ru.v.dim.e, .int .i64 ru.v.dim.f, .int .i64 ru.v.dim.g, q, .int .i64 ru.e] 86)) xb nb ob c2 wx.heap.size ru q where
  k := P11.newr (gx_bl (gx_gr hX hgy) hb) ru q
  bi := hq.reach (b1 _ _)
  far := fun _ _ _ _ e => (rz_far hX.size hgy.size hq0 hq5 e).2
  gx := gx_al (gx_bl (gx_gr hX hgy) hb) _
  eb := (hey.reach hb).al _
theorem RZ.set {wA X wy W83 wx : World} {xb nb ob c2 m : Nat} {r2 ru s0 : R} {q0 q p0 : Value} (hx : xb < wA.heap.size) (hk : P11 wA wx m s0 p0) (hX : Gx xb wA X) (hgy : X.grownBy wy (some xb)) (hq0 : BO wy X.heap.size q0 r2.path) (hey : EB wy xb nb ob c2) (hW : Below wy.heap.size wy W83) (hb : Below W83.heap.size W83 wx) (hq : BI wx q ru.path)
    (hq5 : q = q0 ∨ ∀ b o n c, q = .slice (some ⟨b, o, none⟩) n c → W83.heap.size ≤ b) (hA : ∃ A c, q = .slice A ru.path.length c) (hsep : m < X.heap.size ∨ (m = wy.heap.size ∧ m < W83.heap.size)) : RZ wA (set11 wx m ru q) xb nb ob c2 m ru q where
  k := ⟨set11_K11 hk.1 ru q, hk.2⟩
  bi := hq.keep2 fun hl b o n c e hlt => by
    refine ⟨by rw [set11_size]; exact hlt, set11_other _ _ _ _ _ ?_⟩
    rcases hsep with h | ⟨h, h'⟩
    · have := (rz_far hX.size (Nat.le_trans hgy.size hW.size) hq0 hq5 e).1
      omega
    · rcases hq5 with h5 | h5
      · have hl2 : r2.path ≠ [] := fun e2 => by
          obtain ⟨A, c', hA⟩ := hA
          obtain ⟨⟨A0, c0, h6, _⟩, _⟩ := hq0.1
          rw [hA, h6, e2] at h5
          injection h5 with _ h7
          exact hl (List.eq_nil_of_length_eq_zero h7)
        have := hq0.1.lt hl2 (h5.symm.trans e)
        omega
      · have := h5 b o n c e
        omega
  far := fun _ _ _ _ e => (rz_far hX.size (Nat.le_trans hgy.size hW.size) hq0 hq5 e).2
  gx := by
    have h0 : Gx xb wA wx := gx_bl (gx_bl (gx_gr hX hgy) hW) hb
    have h1 := below11 (B := 0) (Below.refl 0 wx) (Nat.zero_le m) ru q
    exact ⟨h1.os.trans h0.os, h1.tape.trans h0.tape, h1.output.trans h0.output, Nat.le_trans h0.size h1.size, fun k hk2 hne => (set11_other _ _ _ _ _ (by have := hk.2; omega)).trans (h0.block k hk2 hne)⟩
  eb := (set11_other _ _ _ _ _ (by have := hk.2; omega)).trans ((hey.reach hW).reach hb)
theorem RZ.set2 {wA X wy W83 wx : World} {xb nb ob c2 m : Nat} {r2 r s0 : R} {q0 q p0 : Value} (hx : xb < wA.heap.size) (hk : P11 wA wx m s0 p0) (hX : Gx xb wA X) (hgy : X.grownBy wy (some xb)) (hq0 : BO wy X.heap.size q0 r2.path) (hey : EB wy xb nb ob c2) (hW : Below wy.heap.size wy W83) (hb : Below W83.heap.size W83 wx) (hq : BI wx q r.path)
    (hq5 : q = q0 ∨ ∀ b o n c, q = .slice (some ⟨b, o, none⟩) n c → W83.heap.size ≤ b) (hA : ∃ A c, q = .slice A r.path.length c) (hsep : m < X.heap.size ∨ (m = wy.heap.size ∧ m < W83.heap.size)) : RZ wA (((((((((((wx.setCell ⟨m, 0, none⟩ (.int .i64 r.v.num)).setCell ⟨m, 1, none⟩ (.int .i64 r.v.den)).setCell ⟨m, 2, none⟩ (.int .i64 r.v.dim.a)).setCell ⟨m, 3, none⟩ (.int .i64 r.v.dim.b)).setCell ⟨m, 4, none⟩ (.int .i64 r.v.dim.c)).setCell ⟨m, 5, none⟩ (.int .i64 r.v.dim.d)).setCell ⟨m, 6, none⟩ (.int .i64 r.v.dim.e)).setCell ⟨m, 7, none⟩ (.int .i64 r.v.dim.f)).setCell ⟨m, 8, none⟩ (.int .i64 r.v.dim.g)).setCell ⟨m, 9, none⟩ (q)).setCell ⟨m, 10, none⟩ (.int .i64 r.e)) xb nb ob c2 m r q :=
  RZ.set hx hk hX hgy hq0 hey hW hb hq hq5 hA hsep
theorem two9 {w : World} {m : Nat} {x y : V} {ty : TypeId} (h : w.heap[m]? = some (.cells #[.int .i64 x.num, .int .i64 x.den, .int .i64 x.dim.a, .int .i64 x.dim.b, .int .i64 x.dim.c, .int .i64 x.dim.d, .int .i64 x.dim.e, .int .i64 x.dim.f, .int .i64 x.dim.g, .int .i64 y.num, .int .i64 y.den, .int .i64 y.dim.a, .int .i64 y.dim.b, .int .i64 y.dim.c, .int .i64 y.dim.d, .int .i64 y.dim.e, .int .i64 y.dim.f, .int .i64 y.dim.g] ty (0, 0))) : C9 w m 0 x ∧ C9 w m (0 + 9) y := by
  refine ⟨⟨⟨?_, ?_⟩, ?_, ?_, ?_, ?_, ?_, ?_, ?_⟩, ⟨?_, ?_⟩, ?_, ?_, ?_, ?_, ?_, ?_, ?_⟩ <;> simp [World.cell?, h]
theorem under_lit2 (r : R) (p : Value) (i : Int) (w : World) (h : BI w p r.path) (hl : r.path.length ≤ 800000) : Calls Tryz.prog 83 #[.agg (r.cells p), .int .i64 i] w fun e w' => ∃ A c, e = .returned (.agg #[.int .i64 (r.under i).v.num, .int .i64 (r.under i).v.den, .int .i64 (r.under i).v.dim.a, .int .i64 (r.under i).v.dim.b, .int .i64 (r.under i).v.dim.c, .int .i64 (r.under i).v.dim.d, .int .i64 (r.under i).v.dim.e, .int .i64 (r.under i).v.dim.f, .int .i64 (r.under i).v.dim.g, .slice A (r.under i).path.length c, .int .i64 (r.under i).e]) ∧ BI w' (.slice A (r.under i).path.length c) (r.under i).path ∧ (.slice A (r.under i).path.length c = p ∨ ∀ b o n c', Value.slice A (r.under i).path.length c = .slice (some ⟨b, o, none⟩) n c' → w.heap.size ≤ b) ∧ Below w.heap.size w w' :=
  (under_any r p i w h hl).mono fun e w' ⟨q, h1, h2, h3, h4⟩ => by
    obtain ⟨A, c, rfl⟩ : ∃ A c, q = .slice A (r.under i).path.length c := by
      obtain ⟨⟨A, c, e, _⟩, _⟩ := h2
      exact ⟨A, c, e⟩
    exact ⟨A, c, h1, h2, h3, h4⟩
theorem addOf_sum : addOf sumW = sumV := by funext a b; unfold addOf; rw [if_pos rfl]
theorem addOf_prod : addOf prodW = proV := by funext a b; unfold addOf; rw [if_neg (by decide)]
theorem loopB_succ (body : Int → G) (add : V → V → V × Int) (fr hi : Int) (f : Nat) (k : Int) (v : V) (c : Nat) (hk : k ≤ hi) (hc : ¬ 2000 ≤ c) (r : R) (c2 : Nat) (hb : body k (c + 1) = (r, c2)) :
    loopB body add fr hi (f + 1) k v c = if r.e = 0 then (if k = fr then loopB body add fr hi f (k + 1) r.v c2 else if (add v r.v).2 = 0 then loopB body add fr hi f (k + 1) (add v r.v).1 c2 else (erR (add v r.v).2, c2)) else (r.under 2, c2) := by
  rw [loopB, if_pos hk, if_neg hc, hb]
theorem loopB_full (body : Int → G) (add : V → V → V × Int) (fr hi : Int) (f : Nat) (k : Int) (v : V) (c : Nat) (hk : k ≤ hi) (hc : 2000 ≤ c) : loopB body add fr hi (f + 1) k v c = (erR 6, c) := by
  rw [loopB, if_pos hk, if_pos hc]
theorem loopB_end (body : Int → G) (add : V → V → V × Int) (fr hi : Int) (f : Nat) (k : Int) (v : V) (c : Nat) (hk : ¬ k ≤ hi) : loopB body add fr hi (f + 1) k v c = (okR v, c) := by
  rw [loopB, if_neg hk]
/-- a term's value with one variable bound in a new block -/
theorem scope_call {xb nb ob B0 : Nat} {E : Sc} {N : Nat} (IH : TermC xb nb ob B0 E N) (u : T) (hz : u.size ≤ N) (hw : WF u) (s : Sc) (p : Value) (x : W8) (v : V) (hx : x.length ≤ 1000) (c b o : Nat) (w0 wz : World) (sb : Nat) (hc : c ≤ 2000) (hv : v.ok) (hok : (s ++ E).ok) (ht : TR w0 B0 b o u) (hcx : Cx w0 xb nb ob B0 E c) (hs : SCP w0 (SS w0 xb) s p) (hb : Below w0.heap.size w0 wz) (hk : KS wz sb x v p) (hsb : w0.heap.size ≤ sb) :
    Calls Tryz.prog 41 #[.pointer (some ⟨xb, 0, none⟩), .pointer (some ⟨b, o, none⟩), .pointer (some ⟨sb, 0, none⟩)] wz fun e w' => Left wz w' xb nb ob (ev u ((x, v) :: (s ++ E)) c) e :=
  IH u hz hw ((x, v) :: s) (.pointer (some ⟨sb, 0, none⟩)) c b o wz hc (fun q hq => by
    rcases List.mem_cons.1 hq with rfl | hq
    · exact hv
    · exact hok q hq) (ht.below (hcx.term (grown_of_below hb _))) (hcx.reach hb)
    ⟨sb, p, rfl, ⟨by have := hcx.xlt; omega, (Array.getElem?_eq_some_iff.1 hk).1⟩, hx, hk, hs.keep fun k hk2 => ⟨⟨hk2.1, Nat.lt_of_lt_of_le hk2.2 hb.size⟩, hb.block k hk2.2⟩⟩
end Go.Proofs.YtknpigdpepmimaaGreatDoor

namespace Go.Proofs.YtknpigdpepmimaaGreatDoor
open Go.RowKit Go.Maps
theorem limG_lims (n : W8) (h : Int → G) (a : (R × List V) × Nat) : limG n h a = if (limsG a).2.2.e = 0 then loopB h (addOf n) (limsG a).1 (limsG a).2.1 2001 (limsG a).1 (zeroOf n) a.2 else ((limsG a).2.2, a.2) := by
  obtain ⟨⟨r, l⟩, c⟩ := a
  unfold limG limsG
  simp only
  by_cases h0 : r.e = 0
  · rw [if_pos h0, if_pos h0]
    rcases l with _ | ⟨x, _ | ⟨y, _ | ⟨z, l⟩⟩⟩
    · exact (if_neg (show ¬ (erR 1).e = 0 from nz1)).symm
    · exact (if_neg (show ¬ (erR 1).e = 0 from nz1)).symm
    · simp only
      by_cases h1 : (limE x y).e = 0
      · rw [if_pos h1, if_pos h1, if_pos (show zR.e = 0 from rfl)]
      · rw [if_neg h1, if_neg h1, if_neg (show ¬ (limE x y).e = 0 from h1)]
    · exact (if_neg (show ¬ (erR 1).e = 0 from nz1)).symm
  · rw [if_neg h0, if_neg h0, if_neg (show ¬ r.e = 0 from h0)]
theorem limsG_ok {a : (R × List V) × Nat} (ha : a.1.1.e = 0 → ∀ x ∈ a.1.2, x.ok) (he : (limsG a).2.2.e = 0) : inQ (limsG a).1 ∧ inQ (limsG a).2.1 := by
  obtain ⟨⟨r, l⟩, c⟩ := a
  unfold limsG at he ⊢
  simp only at ha he ⊢
  by_cases h0 : r.e = 0
  · rw [if_pos h0] at he ⊢
    have hl := ha h0
    rcases l with _ | ⟨x, _ | ⟨y, _ | ⟨z, l⟩⟩⟩
    · exact absurd he nz1
    · exact absurd he nz1
    · simp only at he ⊢
      by_cases h1 : (limE x y).e = 0
      · rw [if_pos h1]
        exact ⟨(hl x (by simp)).num, (hl y (by simp)).num⟩
      · rw [if_neg h1] at he; exact absurd he h1
    · exact absurd he nz1
  · rw [if_neg h0] at he; exact absurd he h0
theorem var_short {t : T} (h : ownB t = true) : t.var.length ≤ 1000 := by
  cases t with
  | mk k n v ys f =>
    rw [ownB_mk] at h
    show v.length ≤ 1000
    have hw : ∀ {x : W8}, wordB x = true → x.length ≤ 16 := fun {x} hx => by unfold wordB at hx; simp at hx; exact hx.2
    have he : ∀ {x : W8}, x.isEmpty = true → x.length ≤ 1000 := fun {x} hx => by rw [List.isEmpty_iff] at hx; subst hx; simp
    by_cases h1 : k = 1
    · rw [if_pos h1] at h; simp only [Bool.and_eq_true] at h; exact he h.1.1
    rw [if_neg h1] at h
    by_cases h2 : k = 2
    · rw [if_pos h2] at h; simp only [Bool.and_eq_true] at h; exact he h.1.1
    rw [if_neg h2] at h
    by_cases h3 : k = 3
    · rw [if_pos h3] at h; simp only [Bool.and_eq_true] at h; exact he h.1.1
    rw [if_neg h3] at h
    by_cases h4 : k = 4
    · rw [if_pos h4] at h; simp only [Bool.and_eq_true] at h; exact he h.2
    rw [if_neg h4] at h
    by_cases h5 : k = 5
    · rw [if_pos h5] at h; simp only [Bool.and_eq_true] at h
      have := hw (ident_word h.1.2); omega
    rw [if_neg h5] at h; cases h
end Go.Proofs.YtknpigdpepmimaaGreatDoor
