/- A sum or a product in two parts, plain. No program. -/
import Derived.Test.YtknpigdpepmimaaGreatDoorM42
namespace Go.Proofs.YtknpigdpepmimaaGreatDoor
def fromW : W8 := [102, 114, 111, 109]
def tillW : W8 := [116, 105, 108, 108]
def varT (x : W8) : T := .mk 2 x [] [] []
/-- a sum or a product over i from from to till -/
def partT (n : W8) (m : T) : T := .mk 5 n [105] [varT fromW, varT tillW, m] []
/-- the two parts together -/
def bothT (n : W8) : T := .mk 4 (if n = sumW then [112, 108, 117, 115] else [116, 105, 109, 101, 115]) [] [varT [112], varT [113]] []
/-- one after the other -/
def FoldOK (add : V → V → V × Int) : V → List V → V → Prop
  | v, [], r => r = v
  | v, x :: xs, r => (add v x).2 = 0 ∧ FoldOK add (add v x).1 xs r
theorem FoldOK.cut {add : V → V → V × Int} {L W : V} : ∀ {xs ys : List V} {v : V}, FoldOK add v (xs ++ ys) W → FoldOK add v xs L → FoldOK add L ys W
  | [], ys, v, h, hl => by
    unfold FoldOK at hl
    rw [hl]; exact h
  | x :: xs, ys, v, h, hl => by
    unfold FoldOK at hl
    have h' : (add v x).2 = 0 ∧ FoldOK add (add v x).1 (xs ++ ys) W := h
    exact FoldOK.cut h'.2 hl.2
theorem FoldOK.ok {add : V → V → V × Int} (ha : ∀ a b, a.ok → b.ok → (add a b).2 = 0 → (add a b).1.ok) : ∀ {xs : List V} {v r : V}, FoldOK add v xs r → v.ok → (∀ x ∈ xs, x.ok) → r.ok
  | [], v, r, h, hv, _ => by unfold FoldOK at h; rw [h]; exact hv
  | x :: xs, v, r, h, hv, hx => by
    unfold FoldOK at h
    exact FoldOK.ok ha h.2 (ha _ _ hv (hx x List.mem_cons_self) h.1) fun y hy => hx y (List.mem_cons_of_mem _ hy)
/-- what a loop gives behind its first round -/
theorem loop_next (body : Int → G) (add : V → V → V × Int) (fr hi : Int) : ∀ (f : Nat) (k : Int) (v : V) (c : Nat), fr < k → (loopB body add fr hi f k v c).1.e = 0 →
    ∃ xs : List V, xs.length = (hi + 1 - k).toNat ∧ (∀ i (h : i < xs.length), ∃ c', (body (k + i) c').1.e = 0 ∧ (body (k + i) c').1.v = xs[i]) ∧ FoldOK add v xs (loopB body add fr hi f k v c).1.v
  | 0, _, _, _, _, h => absurd h nz6
  | f + 1, k, v, c, hk, h => by
    rw [loopB] at h ⊢
    by_cases h1 : k ≤ hi
    · rw [if_pos h1] at h ⊢
      by_cases h2 : 2000 ≤ c
      · rw [if_pos h2] at h; exact absurd h nz6
      rw [if_neg h2] at h ⊢
      by_cases h3 : (body k (c + 1)).1.e = 0
      · rw [if_pos h3, if_neg (show ¬ k = fr by omega)] at h
        rw [if_pos h3, if_neg (show ¬ k = fr by omega)]
        by_cases h5 : (add v (body k (c + 1)).1.v).2 = 0
        · rw [if_pos h5] at h ⊢
          obtain ⟨xs, g1, g2, g3⟩ := loop_next body add fr hi f (k + 1) _ _ (by omega) h
          refine ⟨(body k (c + 1)).1.v :: xs, by rw [List.length_cons, g1]; omega, fun i hi' => ?_, ⟨h5, g3⟩⟩
          cases i with
          | zero => exact ⟨c + 1, by rw [Int.natCast_zero, Int.add_zero]; exact h3, by rw [Int.natCast_zero, Int.add_zero]; rfl⟩
          | succ i =>
            obtain ⟨c', e1, e2⟩ := g2 i (by rw [List.length_cons] at hi'; omega)
            rw [show k + ((i + 1 : Nat) : Int) = k + 1 + i by omega]
            exact ⟨c', e1, e2⟩
        · rw [if_neg h5] at h; exact absurd h h5
      · rw [if_neg h3] at h
        exact absurd (show ((body k (c + 1)).1.under 2).e = 0 from h) (by rw [under_e]; exact h3)
    · rw [if_neg h1] at h ⊢
      exact ⟨[], by rw [List.length_nil]; omega, fun i hi' => absurd hi' (Nat.not_lt_zero _), rfl⟩
theorem loop_all (body : Int → G) (add : V → V → V × Int) (fr hi : Int) (f : Nat) (v : V) (c : Nat) (hle : fr ≤ hi) (h : (loopB body add fr hi f fr v c).1.e = 0) :
    ∃ (x : V) (xs : List V), xs.length = (hi - fr).toNat ∧ (∀ i (h : i < (x :: xs).length), ∃ c', (body (fr + i) c').1.e = 0 ∧ (body (fr + i) c').1.v = (x :: xs)[i]) ∧ FoldOK add x xs (loopB body add fr hi f fr v c).1.v := by
  cases f with
  | zero => exact absurd h nz6
  | succ f =>
    rw [loopB] at h ⊢
    rw [if_pos hle] at h ⊢
    by_cases h2 : 2000 ≤ c
    · rw [if_pos h2] at h; exact absurd h nz6
    rw [if_neg h2] at h ⊢
    by_cases h3 : (body fr (c + 1)).1.e = 0
    · rw [if_pos h3, if_pos rfl] at h
      rw [if_pos h3, if_pos rfl]
      obtain ⟨xs, g1, g2, g3⟩ := loop_next body add fr hi f (fr + 1) _ _ (by omega) h
      refine ⟨(body fr (c + 1)).1.v, xs, by rw [g1]; omega, fun i hi' => ?_, g3⟩
      cases i with
      | zero => exact ⟨c + 1, by rw [Int.natCast_zero, Int.add_zero]; exact h3, by rw [Int.natCast_zero, Int.add_zero]; rfl⟩
      | succ i =>
        obtain ⟨c', e1, e2⟩ := g2 i (by rw [List.length_cons] at hi'; omega)
        rw [show fr + ((i + 1 : Nat) : Int) = fr + 1 + i by omega]
        exact ⟨c', e1, e2⟩
    · rw [if_neg h3] at h
      exact absurd (show ((body fr (c + 1)).1.under 2).e = 0 from h) (by rw [under_e]; exact h3)
/-- a value does not depend on the count -/
theorem shf_one {g : G} (hg : Shf g) {c c' : Nat} (h : (g c).1.e = 0) (h' : (g c').1.e = 0) : (g c).1 = (g c').1 := by
  rcases Nat.le_total c c' with hle | hle
  · obtain ⟨j, rfl⟩ := Nat.exists_eq_add_of_le hle
    obtain ⟨m, _, e2⟩ := hg c j h'
    rw [e2]
  · obtain ⟨j, rfl⟩ := Nat.exists_eq_add_of_le hle
    obtain ⟨m, _, e2⟩ := hg c' j h
    rw [e2]
theorem sum_of {a b w : V} (ha : a.ok) (hb : b.ok) (hw : w.ok) (h1 : a.dim = b.dim) (h2 : w.dim = a.dim) (h3 : qv w = qv a + qv b) : sumV a b = (w, 0) := by
  have ha0 := ha.den_pos
  have hb0 := hb.den_pos
  have hw0 := hw.den_pos
  have hda := ha.den_ne
  have hdb := hb.den_ne
  have hne : a.den * b.den ≠ 0 := Int.mul_ne_zero (by omega) (by omega)
  have hq : Q.addQ a.num a.den b.num b.den = ⟨w.num, w.den, 0⟩ := by
    unfold Q.addQ
    rw [ha.1, hb.1]
    refine Q.mk_eq hw.1 hne ?_
    have : ((a.num * b.den + b.num * a.den : Int) : Rat) / ((a.den * b.den : Int) : Rat) = (w.num : Rat) / w.den := by
      have e : qv w = (w.num : Rat) / w.den := rfl
      rw [← e, h3]
      unfold qv
      rw [Rat.intCast_add, Rat.intCast_mul, Rat.intCast_mul, Rat.intCast_mul]
      grind
    exact (quo_cross hne (by omega)).1 this
  unfold sumV
  rw [if_pos h1, hq]
  unfold joinQ
  rw [if_pos ⟨rfl, rfl⟩, ← h2]
theorem pro_of {a b w : V} (ha : a.ok) (hb : b.ok) (hw : w.ok) (h2 : w.dim = a.dim.plus 1 b.dim) (h3 : qv w = qv a * qv b) : proV a b = (w, 0) := by
  have ha0 := ha.den_pos
  have hb0 := hb.den_pos
  have hw0 := hw.den_pos
  have hda := ha.den_ne
  have hdb := hb.den_ne
  have hne : a.den * b.den ≠ 0 := Int.mul_ne_zero (by omega) (by omega)
  have hq : Q.mulQ a.num a.den b.num b.den = ⟨w.num, w.den, 0⟩ := by
    unfold Q.mulQ
    rw [ha.1, hb.1]
    refine Q.mk_eq hw.1 hne ?_
    have : ((a.num * b.num : Int) : Rat) / ((a.den * b.den : Int) : Rat) = (w.num : Rat) / w.den := by
      have e : qv w = (w.num : Rat) / w.den := rfl
      rw [← e, h3]
      unfold qv
      rw [Rat.intCast_mul, Rat.intCast_mul]
      grind
    exact (quo_cross hne (by omega)).1 this
  have hc : combQ a.dim b.dim 1 = (w.dim, 0) := by
    have hd : (a.dim.plus 1 b.dim).ok = true := by rw [← h2]; exact hw.2
    unfold combQ
    rw [ha.2, hb.2]
    rw [if_pos ⟨rfl, rfl⟩, if_pos hd, h2]
  unfold proV
  rw [hq, hc]
  unfold joinQ
  rw [if_pos ⟨rfl, rfl⟩]
theorem sum_part {L : V} (hL : L.ok) : ∀ (xs : List V) (u v w r : V), u.ok → v.ok → (∀ x ∈ xs, x.ok) → u.dim = L.dim → L.dim = v.dim → qv u = qv L + qv v → FoldOK sumV u xs w → FoldOK sumV v xs r → w.dim = L.dim ∧ L.dim = r.dim ∧ qv w = qv L + qv r
  | [], u, v, w, r, _, _, _, h1, h2, h3, hw, hr => by
    unfold FoldOK at hw hr
    rw [hw, hr]; exact ⟨h1, h2, h3⟩
  | x :: xs, u, v, w, r, hu, hv, hx, h1, h2, h3, hw, hr => by
    unfold FoldOK at hw hr
    have hxo := hx x List.mem_cons_self
    obtain ⟨e1, e2, e3⟩ := sum_spec hu hxo hw.1
    obtain ⟨f1, f2, f3⟩ := sum_spec hv hxo hr.1
    exact sum_part hL xs _ _ w r (sumV_ok hu hw.1) (sumV_ok hv hr.1) (fun y hy => hx y (List.mem_cons_of_mem _ hy)) (by rw [e2, h1]) (by rw [f2, h2]) (by rw [e3, f3, h3]; grind) hw.2 hr.2
theorem plus_assoc (x y z : Dm) : (x.plus 1 y).plus 1 z = x.plus 1 (y.plus 1 z) := by
  cases x; cases y; cases z
  unfold Dm.plus
  simp only [Dm.mk.injEq]
  refine ⟨?_, ?_, ?_, ?_, ?_, ?_, ?_⟩ <;> omega
theorem pro_part {L : V} (hL : L.ok) : ∀ (xs : List V) (u v w r : V), u.ok → v.ok → (∀ x ∈ xs, x.ok) → u.dim = L.dim.plus 1 v.dim → qv u = qv L * qv v → FoldOK proV u xs w → FoldOK proV v xs r → w.dim = L.dim.plus 1 r.dim ∧ qv w = qv L * qv r
  | [], u, v, w, r, _, _, _, h1, h3, hw, hr => by
    unfold FoldOK at hw hr
    rw [hw, hr]; exact ⟨h1, h3⟩
  | x :: xs, u, v, w, r, hu, hv, hx, h1, h3, hw, hr => by
    unfold FoldOK at hw hr
    have hxo := hx x List.mem_cons_self
    obtain ⟨e2, e3⟩ := pro_spec hu hxo hw.1
    obtain ⟨f2, f3⟩ := pro_spec hv hxo hr.1
    exact pro_part hL xs _ _ w r (proV_ok hw.1) (proV_ok hr.1) (fun y hy => hx y (List.mem_cons_of_mem _ hy)) (by rw [e2, f2, h1, plus_assoc]) (by rw [e3, f3, h3]; grind) hw.2 hr.2
/-- the parts of a fold -/
theorem fold_part (n : W8) {L W R y : V} {ys : List V} (hL : L.ok) (hy : y.ok) (hys : ∀ x ∈ ys, x.ok) (hw : FoldOK (addOf n) L (y :: ys) W) (hr : FoldOK (addOf n) y ys R) : addOf n L R = (W, 0) := by
  have hWo : W.ok := FoldOK.ok (fun a b ha _ h => addOf_ok n a b ha h) hw hL (fun x hx => by
    rcases List.mem_cons.1 hx with rfl | hx
    · exact hy
    · exact hys x hx)
  have hRo : R.ok := FoldOK.ok (fun a b ha _ h => addOf_ok n a b ha h) hr hy hys
  have hw' : (addOf n L y).2 = 0 ∧ FoldOK (addOf n) (addOf n L y).1 ys W := hw
  have huo := addOf_ok n _ _ hL hw'.1
  by_cases hn : n = sumW
  · have e : addOf n = sumV := by unfold addOf; rw [if_pos hn]
    rw [e] at hw' hr huo ⊢
    obtain ⟨e1, e2, e3⟩ := sum_spec hL hy hw'.1
    obtain ⟨g1, g2, g3⟩ := sum_part hL ys _ _ W R huo hy hys e2 e1 e3 hw'.2 hr
    exact sum_of hL hRo hWo g2 g1 g3
  · have e : addOf n = proV := by unfold addOf; rw [if_neg hn]
    rw [e] at hw' hr huo ⊢
    obtain ⟨e2, e3⟩ := pro_spec hL hy hw'.1
    obtain ⟨g1, g3⟩ := pro_part hL ys _ _ W R huo hy hys e2 e3 hw'.2 hr
    exact pro_of hL hRo hWo g1 g3
/-- a loop in two parts -/
theorem loop_part (n : W8) (body : Int → G) (hS : ∀ k, Shf (body k)) {a k b : Int} (ha : a ≤ k) (hk : k < b) (hO : ∀ j, a ≤ j → j ≤ b → OKg (body j)) (f1 f2 f3 : Nat) (z1 z2 z3 : V) (c1 c2 c3 : Nat)
    (h1 : (loopB body (addOf n) a b f1 a z1 c1).1.e = 0) (h2 : (loopB body (addOf n) a k f2 a z2 c2).1.e = 0) (h3 : (loopB body (addOf n) (k + 1) b f3 (k + 1) z3 c3).1.e = 0) :
    addOf n (loopB body (addOf n) a k f2 a z2 c2).1.v (loopB body (addOf n) (k + 1) b f3 (k + 1) z3 c3).1.v = ((loopB body (addOf n) a b f1 a z1 c1).1.v, 0) := by
  obtain ⟨x, xs, l1, v1, F1⟩ := loop_all body (addOf n) a b f1 z1 c1 (by omega) h1
  obtain ⟨y, ys, l2, v2, F2⟩ := loop_all body (addOf n) a k f2 z2 c2 ha h2
  obtain ⟨p, ps, l3, v3, F3⟩ := loop_all body (addOf n) (k + 1) b f3 z3 c3 (by omega) h3
  have he : x :: xs = (y :: ys) ++ (p :: ps) := by
    apply List.ext_getElem
    · rw [List.length_append, List.length_cons, List.length_cons, List.length_cons]; omega
    · intro i hi hi'
      obtain ⟨c, e1, e2⟩ := v1 i hi
      by_cases hlt : i < (y :: ys).length
      · obtain ⟨c', g1, g2⟩ := v2 i hlt
        rw [List.getElem_append_left hlt, ← e2, ← g2, shf_one (hS _) e1 g1]
      · have hlt' : i - (y :: ys).length < (p :: ps).length := by rw [List.length_append] at hi'; omega
        obtain ⟨c', g1, g2⟩ := v3 _ hlt'
        have hidx : k + 1 + ((i - (y :: ys).length : Nat) : Int) = a + i := by
          have hl : (y :: ys).length = (k - a).toNat + 1 := by rw [List.length_cons, l2]
          omega
        rw [hidx] at g1 g2
        rw [List.getElem_append_right (by omega), ← e2, ← g2, shf_one (hS _) e1 g1]
  have hok1 : ∀ w ∈ x :: xs, w.ok := fun w hw => by
    obtain ⟨i, hi, rfl⟩ := List.getElem_of_mem hw
    obtain ⟨c, e1, e2⟩ := v1 i hi
    rw [← e2]
    refine hO _ (by omega) ?_ c e1
    rw [List.length_cons, l1] at hi
    omega
  have hx : x = y := by have := congrArg List.head? he; simpa using this
  have hxs : xs = ys ++ p :: ps := by have := congrArg List.tail he; simpa using this
  subst hx hxs
  have F4 := FoldOK.cut F1 F2
  have hLo := FoldOK.ok (fun a b ha _ h => addOf_ok n a b ha h) F2 (hok1 x List.mem_cons_self) fun w hw => hok1 w (List.mem_cons_of_mem _ (List.mem_append_left _ hw))
  exact fold_part n hLo (hok1 p (by simp)) (fun w hw => hok1 w (by simp [hw])) F4 F3
/-- the environment of a run -/
def runE (ns : List W8) (vs : List V) (a b : Int) : Sc := (ns ++ [fromW, tillW]).zip (vs ++ [whV a, whV b])
theorem runE_eq {ns : List W8} {vs : List V} (h : ns.length = vs.length) (a b : Int) : runE ns vs a b = ns.zip vs ++ [(fromW, whV a), (tillW, whV b)] := by
  unfold runE
  rw [List.zip_append h]
  rfl
theorem lk_append (A B : Sc) (x : W8) (h : B.lookup x = none) : lkR (A ++ B) x = lkR A x := by
  unfold lkR lookR
  dsimp only
  rw [List.lookup_append, h, Option.or_none]
theorem runE_far {ns : List W8} {vs : List V} (h : ns.length = vs.length) (a b : Int) {x : W8} (h1 : x ≠ fromW) (h2 : x ≠ tillW) : lkR (runE ns vs a b) x = lkR (ns.zip vs) x := by
  rw [runE_eq h]
  refine lk_append _ _ _ ?_
  rw [List.lookup_cons, show (x == fromW) = false by simpa using h1, List.lookup_cons, show (x == tillW) = false by simpa using h2]
  rfl
/-- what a run computes -/
theorem run_value {n : W8} (hn : n = sumW ∨ n = prodW) {m : T} {ns : List W8} {vs : List V} {a b : Int} (he : envB (ns ++ [fromW, tillW]) (vs ++ [whV a, whV b]) = true) (hv : validB (partT n m) = true) :
    valueR (partT n m) (ns ++ [fromW, tillW]) (vs ++ [whV a, whV b]) = (loopB (fun k => ev m (([105], whV k) :: runE ns vs a b)) (addOf n) a b 2001 a (zeroOf n) 0).1 := by
  have hE := (envB_parts he).2
  have hl := (envB_parts he).1.1
  rw [List.length_append, List.length_append] at hl
  have hl' : ns.length = vs.length := by simpa using hl
  have hE' : envOkB (runE ns vs a b) = true := hE
  have l1 : lkR (runE ns vs a b) fromW = okR (whV a) := lk_mem hE' (by rw [runE_eq hl']; simp)
  have l2 : lkR (runE ns vs a b) tillW = okR (whV b) := lk_mem hE' (by rw [runE_eq hl']; simp)
  unfold valueR
  rw [if_pos he, if_pos hv]
  show (ev (partT n m) (runE ns vs a b) 0).1 = _
  rw [ev_eq]
  show (stepN 5 n _ (evs [varT fromW, varT tillW, m] (runE ns vs a b)) (evh [varT fromW, varT tillW, m] [105] (runE ns vs a b)) 0).1 = _
  rw [stepN_bind, evs, evs, evs, evs, evh, evh, evh, evh, bindG_three, if_pos hn]
  have g1 : ∀ (x : W8) (c : Nat), ev (varT x) (runE ns vs a b) c = (lkR (runE ns vs a b) x, c) := fun x c => by rw [ev_eq]; rfl
  have ha : argsG 0 [ev (varT fromW) (runE ns vs a b), ev (varT tillW) (runE ns vs a b)] 0 [] = ((okR zV, [whV a, whV b]), 0) := by
    rw [argsG, g1, l1, if_pos (show (okR (whV a)).e = 0 from rfl), argsG, g1, l2, if_pos (show (okR (whV b)).e = 0 from rfl), argsG]
    rfl
  rw [ha]
  unfold limG
  dsimp only
  rw [if_pos (show (okR zV).e = 0 from rfl)]
  have hle : (limE (whV a) (whV b)).e = 0 := rfl
  rw [if_pos hle]
  rfl
theorem both_valid (n : W8) : validB (bothT n) = true := by
  unfold bothT
  split <;> decide +kernel
theorem both_value (n : W8) {L R W : V} (hL : L.ok) (hR : R.ok) (h : addOf n L R = (W, 0)) : valueR (bothT n) [[112], [113]] [L, R] = okR W := by
  have he : envB [[112], [113]] [L, R] = true := by
    have i1 : identB [112] = true := by decide +kernel
    have i2 : identB [113] = true := by decide +kernel
    unfold envB envOkB
    rw [List.zip_cons_cons, List.zip_cons_cons, List.zip_nil_left, List.all_cons, List.all_cons, List.all_nil, i1, i2, (V.okB_iff _).2 hL, (V.okB_iff _).2 hR]
    rfl
  unfold valueR
  rw [if_pos he, if_pos (both_valid n)]
  show (ev (bothT n) [([112], L), ([113], R)] 0).1 = _
  have g1 : ∀ (c : Nat), ev (varT [112]) [([112], L), ([113], R)] c = (okR L, c) := fun c => by rw [ev_eq]; rfl
  have g2 : ∀ (c : Nat), ev (varT [113]) [([112], L), ([113], R)] c = (okR R, c) := fun c => by rw [ev_eq]; rfl
  have ha : argsG 0 [ev (varT [112]) [([112], L), ([113], R)], ev (varT [113]) [([112], L), ([113], R)]] 0 [] = ((okR zV, [L, R]), 0) := by
    rw [argsG, g1, if_pos (show (okR L).e = 0 from rfl), argsG, g2, if_pos (show (okR R).e = 0 from rfl), argsG]
    rfl
  rw [ev_eq]
  show (applyG (if n = sumW then [112, 108, 117, 115] else [116, 105, 109, 101, 115]) (evs [varT [112], varT [113]] [([112], L), ([113], R)]) 0).1 = _
  rw [evs, evs, evs]
  unfold applyG
  rw [ha]
  unfold addOf at h
  by_cases hn : n = sumW
  · rw [if_pos hn] at h ⊢
    show Go.Proofs.YtknpigdpepmimaaGreatDoor.R.mk (sumV L R).1 [] (sumV L R).2 = _
    rw [h]; rfl
  · rw [if_neg hn] at h ⊢
    show Go.Proofs.YtknpigdpepmimaaGreatDoor.R.mk (proV L R).1 [] (proV L R).2 = _
    rw [h]; rfl
theorem valid_part {n : W8} {m : T} (h : validB (partT n m) = true) : validB m = true := by
  have h1 := (valid_iff _).1 h
  have h2 : WF m := h1.1.parts.2.mem (show m ∈ (partT n m).args by simp [partT, T.args])
  refine (valid_iff m).2 ⟨h2, ?_⟩
  have := size_list (N := (partT n m).size - 1) (t := partT n m) (by have := size_pos (partT n m); omega) (show m ∈ (partT n m).args by simp [partT, T.args])
  omega
/-- the law -/
theorem parts_law {n : W8} (hn : n = sumW ∨ n = prodW) {m : T} {ns : List W8} {vs : List V} {a k b : Int} (ha : a ≤ k) (hk : k < b) (hA : inQ a) (hB : inQ b) (h1 : hasB (frL m) fromW = false) (h2 : hasB (frL m) tillW = false)
    (e1 : (valueR (partT n m) (ns ++ [fromW, tillW]) (vs ++ [whV a, whV b])).e = 0) (e2 : (valueR (partT n m) (ns ++ [fromW, tillW]) (vs ++ [whV a, whV k])).e = 0) (e3 : (valueR (partT n m) (ns ++ [fromW, tillW]) (vs ++ [whV (k + 1), whV b])).e = 0) :
    valueR (bothT n) [[112], [113]] [(valueR (partT n m) (ns ++ [fromW, tillW]) (vs ++ [whV a, whV k])).v, (valueR (partT n m) (ns ++ [fromW, tillW]) (vs ++ [whV (k + 1), whV b])).v] = okR (valueR (partT n m) (ns ++ [fromW, tillW]) (vs ++ [whV a, whV b])).v := by
  obtain ⟨v1, w1, o1⟩ := valueR_ok e1
  obtain ⟨v2, _, o2⟩ := valueR_ok e2
  obtain ⟨v3, _, o3⟩ := valueR_ok e3
  have hl := (envB_parts v1).1.1
  rw [List.length_append, List.length_append] at hl
  have hl' : ns.length = vs.length := by simpa using hl
  have hbody : ∀ (a' b' : Int), (fun j => ev m (([105], whV j) :: runE ns vs a' b')) = fun j => ev m (([105], whV j) :: runE ns vs a b) := fun a' b' => by
    funext j
    refine ev_congr m.size m (Nat.le_refl _) _ _ fun x hx => ?_
    have hx1 : x ≠ fromW := fun e => by
      rw [e] at hx
      unfold hasB at h1
      rw [List.contains_iff_mem.2 hx] at h1; cases h1
    have hx2 : x ≠ tillW := fun e => by
      rw [e] at hx
      unfold hasB at h2
      rw [List.contains_iff_mem.2 hx] at h2; cases h2
    rw [lk_cons, lk_cons, runE_far hl' _ _ hx1 hx2, runE_far hl' _ _ hx1 hx2]
  refine both_value n o2 o3 ?_
  rw [run_value hn v1 w1] at e1 ⊢
  rw [run_value hn v2 w1, hbody a k] at e2 ⊢
  rw [run_value hn v3 w1, hbody (k + 1) b] at e3 ⊢
  have hso : Sc.ok (runE ns vs a b) := env_ok v1
  exact loop_part n _ (fun j => ev_shf m.size m (Nat.le_refl _) _) ha hk (fun j hj1 hj2 => ev_ok m.size m (Nat.le_refl _) _ fun p hp => by
    rcases List.mem_cons.1 hp with rfl | hp
    · exact wh_ok (by unfold inQ at hA hB; omega)
    · exact hso p hp) 2001 2001 2001 _ _ _ 0 0 0 e1 e2 e3
end Go.Proofs.YtknpigdpepmimaaGreatDoor
