/- Contract of evaluate.factorial 77. The contracts of the operations 68 .. 77 as one. Laws of values: bound variables, forms, environments, substitution. No program. Scopes and the evaluator in memory; contract of variable 80. -/
import Derived.OrdersHeld
import Derived.Test.YtknpigdpepmimaaGreatDoorM14
import Derived.Test.YtknpigdpepmimaaGreatDoorM21
import Derived.Test.YtknpigdpepmimaaGreatDoorM22
import Derived.Test.YtknpigdpepmimaaGreatDoorM23
import Derived.Test.YtknpigdpepmimaaGreatDoorM24
import Derived.Test.YtknpigdpepmimaaGreatDoorM12
import Derived.Deep.CutBlock
import Derived.Deep.DeepCutAuto
namespace Go.Proofs.YtknpigdpepmimaaGreatDoor
open Go.RowKit
theorem fac_succ (i : Nat) (h : 1 ≤ i) : facN (i - 1) * (i : Int) = facN i := by
  obtain ⟨j, rfl⟩ : ∃ j, i = j + 1 := ⟨i - 1, by omega⟩
  rw [Nat.add_sub_cancel, facN]
  push_cast
  rfl
set_option maxRecDepth 100000 in
set_option maxHeartbeats 4000000 in
theorem fac_any (x : V) (_hx : x.ok) (b o c : Nat) (w : World) (h1 : C9 w b o x) : Calls Tryz.prog 77 #[.slice (some ⟨b, o, none⟩) 1 c] w fun r w' => r = .returned (.tuple #[.agg (facV x).1.cells, .int .i64 (facV x).2]) ∧ Below w.heap.size w w' := by
  have HPU := Lib.hid fun w => pure_any x w
  have HWH := Lib.hid fun n w => whole_any n w
  have HE : Hid (facV x = if x.dim = zD then (if x.den = 1 ∧ 0 ≤ x.num ∧ x.num ≤ 12 then (whV (facN x.num.toNat), 0) else (zV, 17)) else (zV, 16)) := rfl
  generalize facV x = R at *
  have HB := Lib.hid (b1 w (.cells #[.int .i64 0, .int .i64 0, .int .i64 0, .int .i64 0, .int .i64 0, .int .i64 0, .int .i64 0, .int .i64 0, .int .i64 0] 44))
  have HK : Hid (K9 (w.alloc (.cells #[.int .i64 0, .int .i64 0, .int .i64 0, .int .i64 0, .int .i64 0, .int .i64 0, .int .i64 0, .int .i64 0, .int .i64 0] 44)) w.heap.size zV) := K9.new w zV
  have H1 := Lib.hid (h1.reach HB.out)
  clear h1
  unfold V.cells at HPU HWH
  go_enter Tryz.func77, Tryz.ntmps77
  go_upto_region 1 with (fail)
  have HS : Hid ((w.alloc (.cells #[.int .i64 0, .int .i64 0, .int .i64 0, .int .i64 0, .int .i64 0, .int .i64 0, .int .i64 0, .int .i64 0, .int .i64 0] 44)).heap.size = w.heap.size + 1) := by show _ = _; simp
  generalize w.alloc (.cells #[.int .i64 0, .int .i64 0, .int .i64 0, .int .i64 0, .int .i64 0, .int .i64 0, .int .i64 0, .int .i64 0, .int .i64 0] 44) = w1 at *
  obtain ⟨⟨p0, p1⟩, p2, p3, p4, p5, p6, p7, p8⟩ := H1.out
  go_upto_region 2 with (fail)
  have HM := Lib.hid (P9.new (Below.refl w1.heap.size w1) x)
  have HB2 := Lib.hid (bl_tr HB.out (b1 w1 (.cells #[.int .i64 x.num, .int .i64 x.den, .int .i64 x.dim.a, .int .i64 x.dim.b, .int .i64 x.dim.c, .int .i64 x.dim.d, .int .i64 x.dim.e, .int .i64 x.dim.f, .int .i64 x.dim.g] 44)))
  have HK2 := Lib.hid (HK.out.reach (b1 w1 (.cells #[.int .i64 x.num, .int .i64 x.den, .int .i64 x.dim.a, .int .i64 x.dim.b, .int .i64 x.dim.c, .int .i64 x.dim.d, .int .i64 x.dim.e, .int .i64 x.dim.f, .int .i64 x.dim.g] 44)))
  generalize w1.alloc (.cells #[.int .i64 x.num, .int .i64 x.den, .int .i64 x.dim.a, .int .i64 x.dim.b, .int .i64 x.dim.c, .int .i64 x.dim.d, .int .i64 x.dim.e, .int .i64 x.dim.f, .int .i64 x.dim.g] 44) = w2 at *
  clear p0 p1 p2 p3 p4 p5 p6 p7 p8
  obtain ⟨⟨⟨p0, p1⟩, p2, p3, p4, p5, p6, p7, p8⟩, _, _⟩ := HM.out.1.cells
  go_wp2_with fail
  refine (HPU.out _).mono ?_
  rintro r w3 ⟨rfl, hb3⟩
  have HM3 := Lib.hid (HM.out.reach hb3)
  have HK3 := Lib.hid (HK2.out.reach hb3)
  have HB3 := Lib.hid (bl_tr HB2.out hb3)
  clear hb3 p0 p1 p2 p3 p4 p5 p6 p7 p8
  obtain ⟨⟨⟨p0, p1⟩, p2, p3, p4, p5, p6, p7, p8⟩, _, _⟩ := HM3.out.1.cells
  obtain ⟨⟨⟨z0, z1⟩, z2, z3, z4, z5, z6, z7, z8⟩, zf, _⟩ := HK3.out.cells
  by_cases hd : x.dim = zD
  · replace HE := Lib.hid (HE.out.trans (if_pos hd))
    rw [decide_eq_true hd]
    clear hd
    go_upto_region 4 with (fail)
    go_cut [26] (fun s26 wx => s26 = .bool (!decide (x.den = 1 ∧ 0 ≤ x.num ∧ x.num ≤ 12)) ∧ w3 = wx)
    case first =>
      by_cases hn : x.den = 1
      · have hnb : (x.den != 1) = false := by simpa using hn
        by_cases ha : x.num < 0
        · go_wp2_with fail
          go_meet
          case rel => exact ⟨by rw [decide_eq_false (fun h => by omega)]; rfl, rfl⟩
        · by_cases hb : 12 < x.num
          · go_wp2_with fail
            go_meet
            case rel => exact ⟨by rw [decide_eq_false (fun h => by omega)]; rfl, rfl⟩
          · go_wp2_with fail
            go_meet
            case rel => exact ⟨by rw [decide_eq_true ⟨hn, by omega, by omega⟩]; rfl, rfl⟩
      · have hnb : (x.den != 1) = true := by simpa using hn
        go_wp2_with fail
        go_meet
        case rel => exact ⟨by rw [decide_eq_false (fun h => hn h.1)]; rfl, rfl⟩
    case rest =>
      obtain ⟨rfl, rfl⟩ := hcut
      by_cases hc : x.den = 1 ∧ 0 ≤ x.num ∧ x.num ≤ 12
      · replace HE := Lib.hid (HE.out.trans (if_pos hc))
        rw [decide_eq_true hc]
        rw [show (!true) = false from rfl]
        obtain ⟨k, hk⟩ : ∃ k : Nat, x.num = k := ⟨x.num.toNat, by omega⟩
        have HK12 : Hid (k ≤ 12) := by show _ ≤ _; omega
        rw [hk] at HE p0
        rw [Int.toNat_natCast] at HE
        clear hc hk HM HM3
        go_wp2_with fail
        go_loopg [5, 6] 13 (fun gg s5 s6 wr => ∃ i : Nat, Aside (2 ≤ i) ∧ Aside (i ≤ k + 1 ∨ i = 2) ∧ 13 - i ≤ gg ∧ s5 = .int .i64 (facN (i - 1)) ∧ s6 = .int .i64 (i : Int) ∧ wr = w3)
        case atStart => exact ⟨2, Nat.le_refl _, .inr rfl, by omega, rfl, rfl, rfl⟩
        case round =>
          obtain ⟨i, HI2, HIK, hgg, rfl, rfl, rfl⟩ := hrel
          by_cases hle : i ≤ k
          · have hlez : (i : Int) ≤ k := by omega
            have hf := fac_succ i (by have := HI2.out; omega)
            have hfs := fac_small i (by have := HK12.out; omega)
            have hw : IntKind.i64.wrap (facN (i - 1) * (i : Int)) = facN i := by rw [hf]; exact wrap64_small (by omega) (by omega)
            clear hf hfs
            go_wp2_with fail
            go_roundg (12 - i)
            case measure => have := HK12.out; omega
            case rel => exact ⟨i + 1, by show 2 ≤ i + 1; have := HI2.out; omega, .inl (by omega), by omega, by rw [Nat.add_sub_cancel], by have h12 : k ≤ 12 := HK12.out; exact congrArg (Value.int .i64) ((IntWalk.wrap64_in _ (by omega)).trans (by omega)), rfl⟩
          · have hlez : ¬ (i : Int) ≤ k := by omega
            have hfk : facN (i - 1) = facN k := by
              have h2 := HI2.out
              rcases HIK.out with h | h
              · rw [show i - 1 = k from by omega]
              · subst h
                rcases (show k = 0 ∨ k = 1 by omega) with rfl | rfl <;> rfl
            rw [hfk]
            clear hfk
            generalize facN k = F at *
            go_wp2_with fail
            refine (HWH.out _ _).mono ?_
            rintro r w4 ⟨rfl, hb4⟩
            have HK4 := Lib.hid (HK3.out.reach hb4)
            have HB4 := Lib.hid (bl_tr HB3.out hb4)
            clear hb4 z0 z1 z2 z3 z4 z5 z6 z7 z8 zf p0 p1 p2 p3 p4 p5 p6 p7 p8
            obtain ⟨⟨⟨z0, z1⟩, z2, z3, z4, z5, z6, z7, z8⟩, zf, _⟩ := HK4.out.cells
            generalize whV F = u at *
            go_wp2_with fail
            rw [HE.out]
            refine bodyPost_ret (v := .tuple #[.agg u.cells, .int .i64 0]) (by simp [results, Tryz.results77, go_sem, V.cells, z0, z1, z2, z3, z4, z5, z6, z7, z8]) rfl ⟨rfl, ?_⟩
            exact below9 HB4.out (b := w.heap.size) (Nat.le_refl _) u
      · have HR : Hid (R = (zV, 17)) := HE.out.trans (if_neg hc)
        rw [decide_eq_false hc]
        rw [show (!false) = true from rfl]
        go_wp2_with fail
        rw [HR.out]
        refine bodyPost_ret (v := .tuple #[.agg zV.cells, .int .i64 17]) (by simp [results, Tryz.results77, go_sem, V.cells, zV, zD, z0, z1, z2, z3, z4, z5, z6, z7, z8]) rfl ⟨rfl, ?_⟩
        exact below9 HB3.out (b := w.heap.size) (Nat.le_refl _) zV
  · have HR : Hid (R = (zV, 16)) := HE.out.trans (if_neg hd)
    rw [decide_eq_false hd]
    go_wp2_with fail
    rw [HR.out]
    refine bodyPost_ret (v := .tuple #[.agg zV.cells, .int .i64 16]) (by simp [results, Tryz.results77, go_sem, V.cells, zV, zD, z0, z1, z2, z3, z4, z5, z6, z7, z8]) rfl ⟨rfl, ?_⟩
    exact below9 HB3.out (b := w.heap.size) (Nat.le_refl _) zV
end Go.Proofs.YtknpigdpepmimaaGreatDoor

namespace Go.Proofs.YtknpigdpepmimaaGreatDoor
open Go.RowKit Go.Maps
theorem SV.two {w : World} {v : Value} {x y : V} (h : SV w v [x, y]) : ∃ b o c, v = .slice (some ⟨b, o, none⟩) 2 c ∧ C9 w b o x ∧ C9 w b (o + 9) y := by
  obtain ⟨A, c, h1, _, h3⟩ := h
  obtain ⟨b, o, rfl, hs⟩ := h3 (by simp)
  exact ⟨b, o, c, h1, by simpa using hs 0 (by simp), by simpa using hs 1 (by simp)⟩
theorem SV.one {w : World} {v : Value} {x : V} (h : SV w v [x]) : ∃ b o c, v = .slice (some ⟨b, o, none⟩) 1 c ∧ C9 w b o x := by
  obtain ⟨A, c, h1, _, h3⟩ := h
  obtain ⟨b, o, rfl, hs⟩ := h3 (by simp)
  exact ⟨b, o, c, h1, by simpa using hs 0 (by simp)⟩
theorem len1 {l : List V} (h : l.length = 1) : ∃ x, l = [x] := by
  rcases l with _ | ⟨a, _ | ⟨b, l⟩⟩ <;> simp at h
  exact ⟨a, rfl⟩
theorem len2 {l : List V} (h : l.length = 2) : ∃ x y, l = [x, y] := by
  rcases l with _ | ⟨a, _ | ⟨b, _ | ⟨d, l⟩⟩⟩ <;> simp at h
  exact ⟨a, b, rfl⟩
theorem opOf_mem {n : W8} {ar k : Nat} (h : opOf n = some (ar, k)) : (ar, k) = (2, 0) ∨ (ar, k) = (2, 1) ∨ (ar, k) = (1, 2) ∨ (ar, k) = (1, 3) ∨ (ar, k) = (2, 4) ∨ (ar, k) = (2, 5) ∨ (ar, k) = (2, 6) ∨ (ar, k) = (1, 7) ∨ (ar, k) = (1, 8) ∨ (ar, k) = (1, 9) := by
  have hm : ∀ (L : List (W8 × Nat × Nat)) (v : Nat × Nat), L.lookup n = some v → v ∈ L.map (·.2) := fun L v => by
    induction L with
    | nil => intro h; simp at h
    | cons q L ih =>
      intro h
      rw [List.lookup_cons] at h
      cases hb : n == q.1 with
      | true => rw [hb] at h; simp at h; simp [h]
      | false => rw [hb] at h; simp [ih h]
  have := hm opTab _ h
  simp only [opTab, List.map_cons, List.map_nil, List.mem_cons, List.not_mem_nil, or_false] at this
  rcases this with h | h | h | h | h | h | h | h | h | h | h | h | h | h | h <;> simp [h]
set_option maxHeartbeats 2000000 in
theorem opc_any {n : W8} {ar k : Nat} (h : opOf n = some (ar, k)) (l : List V) (hl : l.length = ar) (hok : ∀ x ∈ l, x.ok) (v : Value) (w : World) (hv : SV w v l) :
    Calls Tryz.prog (68 + k) #[v] w fun r w' => r = .returned (.tuple #[.agg (opK k l).1.cells, .int .i64 (opK k l).2]) ∧ Below w.heap.size w w' := by
  rcases opOf_mem h with h | h | h | h | h | h | h | h | h | h <;> (injection h with h1 h2; subst h1 h2)
  · obtain ⟨x, y, rfl⟩ := len2 hl
    obtain ⟨b, o, c, rfl, c1, c2⟩ := hv.two
    exact sum_any x y (hok x (by simp)) (hok y (by simp)) b o c w c1 c2
  · obtain ⟨x, y, rfl⟩ := len2 hl
    obtain ⟨b, o, c, rfl, c1, c2⟩ := hv.two
    exact dif_any x y (hok x (by simp)) (hok y (by simp)) b o c w c1 c2
  · obtain ⟨x, rfl⟩ := len1 hl
    obtain ⟨b, o, c, rfl, c1⟩ := hv.one
    exact neg_any x (hok x (by simp)) b o c w c1
  · obtain ⟨x, rfl⟩ := len1 hl
    obtain ⟨b, o, c, rfl, c1⟩ := hv.one
    exact sam_any x b o c w c1
  · obtain ⟨x, y, rfl⟩ := len2 hl
    obtain ⟨b, o, c, rfl, c1, c2⟩ := hv.two
    exact pro_any x y (hok x (by simp)) (hok y (by simp)) b o c w c1 c2
  · obtain ⟨x, y, rfl⟩ := len2 hl
    obtain ⟨b, o, c, rfl, c1, c2⟩ := hv.two
    exact quo_any x y (hok x (by simp)) (hok y (by simp)) b o c w c1 c2
  · obtain ⟨x, y, rfl⟩ := len2 hl
    obtain ⟨b, o, c, rfl, c1, c2⟩ := hv.two
    exact pow_any' x y (hok x (by simp)) (hok y (by simp)) b o c w c1 c2
  · obtain ⟨x, rfl⟩ := len1 hl
    obtain ⟨b, o, c, rfl, c1⟩ := hv.one
    exact roo_any x (hok x (by simp)) b o c w c1
  · obtain ⟨x, rfl⟩ := len1 hl
    obtain ⟨b, o, c, rfl, c1⟩ := hv.one
    exact abs_any x (hok x (by simp)) b o c w c1
  · obtain ⟨x, rfl⟩ := len1 hl
    obtain ⟨b, o, c, rfl, c1⟩ := hv.one
    exact fac_any x (hok x (by simp)) b o c w c1
end Go.Proofs.YtknpigdpepmimaaGreatDoor

namespace Go.Proofs.YtknpigdpepmimaaGreatDoor
theorem lk_cons (v : W8) (a : V) (s : Sc) (x : W8) : lkR ((v, a) :: s) x = if x = v then okR a else lkR s x := by
  unfold lkR lookR
  dsimp only
  rw [List.lookup_cons]
  by_cases h : x = v
  · subst h; simp
  · have : (x == v) = false := by simpa using h
    rw [this, if_neg h]
theorem stepN_var (n : W8) (lk : R) (gs : List G) (hs : List (Int → G)) (c : Nat) : stepN 2 n lk gs hs c = (lk, c) := rfl
theorem stepN_bind (n : W8) (lk : R) (gs : List G) (hs : List (Int → G)) : stepN 5 n lk gs hs = bindG n gs hs := rfl
theorem stepN_other {k : Int} (h2 : k ≠ 2) (h5 : k ≠ 5) (n : W8) (lk lk' : R) (gs : List G) (hs hs' : List (Int → G)) : stepN k n lk gs hs = stepN k n lk' gs hs' := by
  funext c
  unfold stepN
  rw [if_neg h2, if_neg h2, if_neg h5, if_neg h5]
theorem bindG_len {gs : List G} {hs : List (Int → G)} (h : gs.length ≠ 3) (n : W8) (c : Nat) : bindG n gs hs c = if n = sumW ∨ n = prodW then (erR 13, c) else (erR 15, c) := by
  unfold bindG
  rcases gs with _ | ⟨a, _ | ⟨b, _ | ⟨d, _ | ⟨e, l⟩⟩⟩⟩
  · rfl
  · rfl
  · rfl
  · simp at h
  · rfl
theorem bindG_three (n : W8) (a b d : G) (x y h : Int → G) (c : Nat) : bindG n [a, b, d] [x, y, h] c = if n = sumW ∨ n = prodW then limG n h (argsG 0 [a, b] c []) else (erR 15, c) := rfl
theorem bindG_congr (n : W8) (a b d d' : G) (x y h x' y' : Int → G) : bindG n [a, b, d] [x, y, h] = bindG n [a, b, d'] [x', y', h] := by
  funext c; rw [bindG_three, bindG_three]
theorem three {α : Type} {l : List α} (h : l.length = 3) : ∃ a b c, l = [a, b, c] := by
  rcases l with _ | ⟨a, _ | ⟨b, _ | ⟨d, _ | ⟨e, l⟩⟩⟩⟩ <;> simp at h
  exact ⟨a, b, d, rfl⟩
theorem bindG_far {gs gs' : List G} {hs hs' : List (Int → G)} (h : gs.length ≠ 3) (h' : gs'.length ≠ 3) (n : W8) : bindG n gs hs = bindG n gs' hs' := by
  funext c; rw [bindG_len h, bindG_len h']
theorem sems_map {k : Int} (h5 : k ≠ 5) (ρ : W8 → Nat → T) (d : Nat) (v : W8) (ts : List T) : sems ρ d k v ts = ts.map fun t => sem ρ d t := by
  induction ts with
  | nil => rw [sems]; rfl
  | cons t ts ih => rw [sems, if_neg (fun h => h5 h.1), ih]; rfl
theorem map_congr_mem {α β : Type} {f g : α → β} {l : List α} (h : ∀ x ∈ l, f x = g x) : l.map f = l.map g := List.map_congr_left h
theorem size_list {N : Nat} {t : T} (h : t.size ≤ N + 1) {u : T} (hu : u ∈ t.args) : u.size ≤ N := by have := size_arg hu; omega
theorem own_not7 {t : T} (h : ownB t = true) : t.kind ≠ 7 := fun h7 => by
  unfold ownB at h
  rw [h7] at h
  simp at h
/-- a term's value by the term with levels for its bound variables -/
theorem evL_sem (s : Sc) : ∀ (N : Nat) (t : T), t.size ≤ N → WF t → ∀ (ρ : W8 → Nat → T) (d : Nat) (L : List V) (s' : Sc), L.length = d → (∀ x j L' c, evL s (ρ x j) (L ++ L') c = (lkR s' x, c)) → evL s (sem ρ d t) L = ev t s'
  | 0, t, h, _, _, _, _, _, _, _ => by have := size_pos t; omega
  | N + 1, t, h, hw, ρ, d, L, s', hL, hρ => by
    have hw2 := hw.parts
    have h7 : t.kind ≠ 7 := own_not7 hw2.1
    by_cases h2 : t.kind = 2
    · rw [sem_eq, if_pos h2]
      funext c
      have := hρ t.name d [] c
      rw [List.append_nil] at this
      rw [this, ev_eq, h2, stepN_var]
    · rw [sem_eq, if_neg h2, evL_eq s (.mk t.kind t.name [] (sems ρ d t.kind t.var t.args) t.form) L h7, ev_eq]
      show stepN t.kind t.name (lkR s t.name) (evLs s (sems ρ d t.kind t.var t.args) L) (evLh s (sems ρ d t.kind t.var t.args) L) = _
      have ih := fun (u : T) (hu : u ∈ t.args) => evL_sem s N u (size_list h hu) (hw2.2.mem hu)
      by_cases h5 : t.kind = 5
      · rw [h5, stepN_bind, stepN_bind]
        by_cases h3 : t.args.length = 3
        · obtain ⟨a, b, e, hargs⟩ := three h3
          rw [hargs] at ih ⊢
          rw [sems, sems, sems, sems, if_neg (fun h => by simp at h), if_neg (fun h => by simp at h), if_pos ⟨rfl, rfl⟩]
          rw [evLs, evLs, evLs, evLs, evLh, evLh, evLh, evLh, evs, evs, evs, evs, evh, evh, evh, evh]
          rw [ih a (by simp) ρ d L s' hL hρ, ih b (by simp) ρ d L s' hL hρ]
          have hlast : (fun k => evL s (sem (upd ρ t.var fun _ => lvl d) (d + 1) e) (L ++ [whV k])) = fun k => ev e ((t.var, whV k) :: s') := by
            funext k
            refine ih e (by simp) _ (d + 1) (L ++ [whV k]) ((t.var, whV k) :: s') (by simp [hL]) (fun x j L' c => ?_)
            rw [lk_cons]
            by_cases hx : x = t.var
            · subst hx
              rw [upd_same, if_pos rfl, lvl, evL, if_pos rfl]
              unfold lvR lookR
              dsimp only
              rw [List.length_replicate, List.append_assoc, List.getElem?_append_right (by omega), hL, Nat.sub_self]
              rfl
            · rw [upd_other _ _ _ hx, if_neg hx, List.append_assoc]
              exact hρ x j ([whV k] ++ L') c
          rw [hlast]
          exact bindG_congr _ _ _ _ _ _ _ _ _ _
        · refine bindG_far ?_ ?_ _
          · rw [evLs_map, List.length_map, sems_len]; exact h3
          · rw [evs_map, List.length_map]; exact h3
      · rw [stepN_other h2 h5 _ _ (lkR s' t.name) _ _ (evh t.args t.var s')]
        congr 1
        rw [sems_map h5, evLs_map, evs_map, List.map_map]
        exact map_congr_mem fun u hu => ih u hu ρ d L s' hL hρ
/-- terms with one meaning have one value -/
theorem ev_alpha {a b : T} (ha : WF a) (hb : WF b) (h : sem (envZ []) 0 a = sem (envZ []) 0 b) (s : Sc) : ev a s = ev b s := by
  have hρ : ∀ (x : W8) (j : Nat) (L' : List V) (c : Nat), evL s (envZ [] x j) ([] ++ L') c = (lkR s x, c) := fun x j L' c => by
    rw [envZ_nil]
    show evL s (vrT x) L' c = _
    rw [vrT, evL, if_neg (by decide), stepN_var]
  rw [← evL_sem s a.size a (Nat.le_refl _) ha (envZ []) 0 [] s rfl hρ, h, evL_sem s b.size b (Nat.le_refl _) hb (envZ []) 0 [] s rfl hρ]
/-- a number put for an identifier -/
theorem ev_subst {t : T} {x : W8} {l : W8} {a : V} (ht : WF t) (hb : WF (.mk 1 l [] [] [])) (hz : t.size + 1 ≤ 2700) (ha : numR' l = okR a) (s : Sc) : ev (sub t.size t x (.mk 1 l [] [] [])) s = ev t ((x, a) :: s) := by
  have e1 : (T.mk 1 l [] [] []).size = 1 := by rw [T.size, sizes]
  have hw : WF (sub t.size t x (.mk 1 l [] [] [])) := sub_wf t.size t x _ ht hb (by rw [e1]; exact hz)
  have hρ : ∀ (x : W8) (j : Nat) (L' : List V) (c : Nat), evL s (envZ [] x j) ([] ++ L') c = (lkR s x, c) := fun x j L' c => by
    rw [envZ_nil]
    show evL s (vrT x) L' c = _
    rw [vrT, evL, if_neg (by decide), stepN_var]
  rw [← evL_sem s _ _ (Nat.le_refl _) hw (envZ []) 0 [] s rfl hρ, sub_sem t.size t x _ (envZ []) 0 (Nat.le_refl _) (by rw [e1]; exact hz)]
  refine evL_sem s t.size t (Nat.le_refl _) ht _ 0 [] ((x, a) :: s) rfl (fun y j L' c => ?_)
  rw [lk_cons]
  by_cases hy : y = x
  · subst hy
    rw [upd_same, if_pos rfl, sem, if_neg (by decide), evL, if_neg (by decide)]
    show (numR' l, c) = _
    rw [ha]
  · rw [upd_other _ _ _ hy, if_neg hy]; exact hρ y j L' c
/-- what does not occur free does not matter -/
theorem ev_congr : ∀ (N : Nat) (t : T), t.size ≤ N → ∀ (s s' : Sc), (∀ x ∈ frL t, lkR s x = lkR s' x) → ev t s = ev t s'
  | 0, t, h, _, _, _ => by have := size_pos t; omega
  | N + 1, t, h, s, s', hs => by
    have ih := fun (u : T) (hu : u ∈ t.args) => ev_congr N u (size_list h hu)
    rw [ev_eq, ev_eq]
    by_cases h2 : t.kind = 2
    · rw [h2]
      funext c
      rw [stepN_var, stepN_var, hs t.name ((mem_frL t).2 (.inl ⟨h2, rfl⟩))]
    · have hs2 : ∀ x, inArgs t.kind t.var x t.args → lkR s x = lkR s' x := fun x hx => hs x ((mem_frL t).2 (.inr ⟨h2, hx⟩))
      by_cases h5 : t.kind = 5
      · rw [h5, stepN_bind, stepN_bind]
        by_cases h3 : t.args.length = 3
        · obtain ⟨a, b, e, hargs⟩ := three h3
          rw [hargs] at ih hs2 ⊢
          rw [h5] at hs2
          have hs3 : ∀ x, (x ∈ frL a ∨ x ∈ frL b ∨ (x ∈ frL e ∧ x ≠ t.var)) → lkR s x = lkR s' x := fun x hx => hs2 x (by
            rw [inArgs, inArgs, inArgs]
            rcases hx with hx | hx | hx
            · exact .inl ⟨hx, by simp⟩
            · exact .inr (.inl ⟨hx, by simp⟩)
            · exact .inr (.inr (.inl ⟨hx.1, fun h => hx.2 h.2.2⟩)))
          rw [evs, evs, evs, evs, evh, evh, evh, evh, evs, evs, evs, evs, evh, evh, evh, evh]
          rw [ih a (by simp) s s' (fun x hx => hs3 x (.inl hx)), ih b (by simp) s s' (fun x hx => hs3 x (.inr (.inl hx)))]
          have hlast : (fun k => ev e ((t.var, whV k) :: s)) = fun k => ev e ((t.var, whV k) :: s') := by
            funext k
            refine ih e (by simp) _ _ (fun x hx => ?_)
            rw [lk_cons, lk_cons]
            by_cases hv : x = t.var
            · rw [if_pos hv, if_pos hv]
            · rw [if_neg hv, if_neg hv]; exact hs3 x (.inr (.inr ⟨hx, hv⟩))
          rw [hlast]
          exact bindG_congr _ _ _ _ _ _ _ _ _ _
        · refine bindG_far ?_ ?_ _
          · rw [evs_map, List.length_map]; exact h3
          · rw [evs_map, List.length_map]; exact h3
      · rw [stepN_other h2 h5 _ _ (lkR s' t.name) _ _ (evh t.args t.var s')]
        congr 1
        rw [evs_map, evs_map]
        have hin : ∀ (ts : List T), (∀ u ∈ ts, u ∈ t.args) → (∀ x, inArgs t.kind t.var x ts → lkR s x = lkR s' x) → (ts.map fun t => ev t s) = ts.map fun t => ev t s' := by
          intro ts
          induction ts with
          | nil => intro _ _; rfl
          | cons u ts ih2 =>
            intro hm hx
            rw [List.map_cons, List.map_cons, ih2 (fun u hu => hm u (List.mem_cons_of_mem _ hu)) (fun x h => hx x (by rw [inArgs]; exact .inr h)), ih u (hm u List.mem_cons_self) s s' (fun x h => hx x (by rw [inArgs]; exact .inl ⟨h, fun h => h5 h.1⟩))]
        exact hin t.args (fun _ h => h) hs2
mutual
/-- a term without forms -/
def bareT : T → T
  | .mk k n v ys _ => .mk k n v (bareTs ys) []
def bareTs : List T → List T
  | [] => []
  | t :: ts => bareT t :: bareTs ts
end
mutual
theorem ev_bare (t : T) (s : Sc) : ev (bareT t) s = ev t s := by
  cases t with
  | mk k n v ys f => rw [bareT, ev, ev, evs_bare ys s, evh_bare ys v s]
theorem evs_bare (ts : List T) (s : Sc) : evs (bareTs ts) s = evs ts s := by
  cases ts with
  | nil => rw [bareTs]
  | cons t ts => rw [bareTs, evs, evs, ev_bare t s, evs_bare ts s]
theorem evh_bare (ts : List T) (v : W8) (s : Sc) : evh (bareTs ts) v s = evh ts v s := by
  cases ts with
  | nil => rw [bareTs]
  | cons t ts =>
    have h : (fun k => ev (bareT t) ((v, whV k) :: s)) = fun k => ev t ((v, whV k) :: s) := by
      funext k; exact ev_bare t _
    rw [bareTs, evh, evh, evh_bare ts v s, h]
end
theorem bareTs_len (ts : List T) : (bareTs ts).length = ts.length := by
  induction ts with
  | nil => rw [bareTs]
  | cons t ts ih => rw [bareTs, List.length_cons, ih, List.length_cons]
theorem ownB_mk (k : Int) (n v : W8) (ys : List T) (f : W8) : ownB (.mk k n v ys f) = (if k = 1 then (v.isEmpty && (f.isEmpty && ys.isEmpty)) && numB n else if k = 2 then (v.isEmpty && (f.isEmpty && ys.isEmpty)) && identB n else if k = 3 then (v.isEmpty && (f.isEmpty && ys.isEmpty)) && (okS 32 n && decide (n.length ≤ 200))
    else if k = 4 then (okS 33 f && decide (f.length ≤ 16)) && wordB n && v.isEmpty else if k = 5 then (okS 33 f && decide (f.length ≤ 16)) && wordB n && identB v && !ys.isEmpty else false) := rfl
mutual
theorem wf_bare (t : T) (h : WF t) : WF (bareT t) := by
  cases t with
  | mk k n v ys f =>
    rw [bareT, WF]
    rw [WF] at h
    refine ⟨?_, wfs_bare ys h.2⟩
    have h1 := h.1
    have e1 : (bareTs ys).isEmpty = ys.isEmpty := by
      cases ys with
      | nil => rw [bareTs]
      | cons t ts => rw [bareTs]; rfl
    rw [ownB_mk] at h1 ⊢
    rw [e1]
    by_cases hk : k = 1
    · rw [if_pos hk] at h1 ⊢; simp at h1 ⊢; simp [h1]
    · rw [if_neg hk] at h1 ⊢
      by_cases hk2 : k = 2
      · rw [if_pos hk2] at h1 ⊢; simp at h1 ⊢; simp [h1]
      · rw [if_neg hk2] at h1 ⊢
        by_cases hk3 : k = 3
        · rw [if_pos hk3] at h1 ⊢; simp at h1 ⊢; simp [h1]
        · rw [if_neg hk3] at h1 ⊢
          by_cases hk4 : k = 4
          · rw [if_pos hk4] at h1 ⊢; simp [okS] at h1 ⊢; simp [h1]
          · rw [if_neg hk4] at h1 ⊢
            by_cases hk5 : k = 5
            · rw [if_pos hk5] at h1 ⊢; simp [okS] at h1 ⊢; simp [h1]
            · rw [if_neg hk5] at h1; cases h1
theorem wfs_bare (ts : List T) (h : WFs ts) : WFs (bareTs ts) := by
  cases ts with
  | nil => rw [bareTs, WFs]; trivial
  | cons t ts =>
    rw [WFs] at h
    rw [bareTs, WFs]
    exact ⟨wf_bare t h.1, wfs_bare ts h.2⟩
end
mutual
theorem size_bare (t : T) : (bareT t).size = t.size := by
  cases t with
  | mk k n v ys f => rw [bareT, T.size, T.size, sizes_bare ys]
theorem sizes_bare (ts : List T) : sizes (bareTs ts) = sizes ts := by
  cases ts with
  | nil => rw [bareTs]
  | cons t ts => rw [bareTs, sizes, sizes, size_bare t, sizes_bare ts]
end
end Go.Proofs.YtknpigdpepmimaaGreatDoor

namespace Go.Proofs.YtknpigdpepmimaaGreatDoor
open Go.RowKit Go.Maps
/-- a block that holds a scope -/
def KS (w : World) (b : Nat) (x : W8) (v : V) (q : Value) : Prop := w.heap[b]? = some (.cells #[.string ⟨x.toArray⟩, .int .i64 v.num, .int .i64 v.den, .int .i64 v.dim.a, .int .i64 v.dim.b, .int .i64 v.dim.c, .int .i64 v.dim.d, .int .i64 v.dim.e, .int .i64 v.dim.f, .int .i64 v.dim.g, q] 162 (0, 0))
theorem KS.cells {w : World} {b : Nat} {x : W8} {v : V} {q : Value} (h : KS w b x v q) : (w.cell? ⟨b, 0, none⟩ = some (.string ⟨x.toArray⟩) ∧ w.cell? ⟨b, 10, none⟩ = some q) ∧ C9 w b 1 v := by
  unfold KS at h
  refine ⟨⟨?_, ?_⟩, ⟨?_, ?_⟩, ?_, ?_, ?_, ?_, ?_, ?_, ?_⟩ <;> simp [World.cell?, h]
/-- bound variables, the innermost first, in blocks of S -/
def SCP (w : World) (S : Nat → Prop) : Sc → Value → Prop
  | [], p => p = .pointer none
  | (x, v) :: s, p => ∃ b q, p = .pointer (some ⟨b, 0, none⟩) ∧ S b ∧ x.length ≤ 1000 ∧ KS w b x v q ∧ SCP w S s q
theorem SCP.keep {w w' : World} {S S' : Nat → Prop} : ∀ {s : Sc} {p : Value}, SCP w S s p → (∀ k, S k → S' k ∧ w'.heap[k]? = w.heap[k]?) → SCP w' S' s p
  | [], _, h, _ => h
  | (_, _) :: _, _, ⟨b, q, h1, h2, h3, h4, h5⟩, hk => ⟨b, q, h1, (hk b h2).1, h3, (hk b h2).2.trans h4, h5.keep hk⟩
/-- the evaluator's block -/
def EB (w : World) (xb nb ob : Nat) (c : Nat) : Prop := w.heap[xb]? = some (.cells #[.map (some nb), .map (some ob), .int .i64 (c : Nat)] 84 (0, 0))
theorem EB.cells {w : World} {xb nb ob c : Nat} (h : EB w xb nb ob c) : (w.cell? ⟨xb, 0, none⟩ = some (.map (some nb)) ∧ w.cell? ⟨xb, 1, none⟩ = some (.map (some ob)) ∧ w.cell? ⟨xb, 2, none⟩ = some (.int .i64 (c : Nat))) ∧ (∀ i, w.frozen? ⟨xb, i, none⟩ = false) ∧ xb < w.heap.size := by
  unfold EB at h
  refine ⟨⟨?_, ?_, ?_⟩, fun i => ?_, (Array.getElem?_eq_some_iff.1 h).1⟩ <;> simp [World.cell?, World.frozen?, h]
set_option maxRecDepth 100000 in
set_option maxHeartbeats 4000000 in
theorem variable_any (xb nb ob c : Nat) (E s : Sc) (S : Nat → Prop) (p : Value) (n : W8) (w : World) (he : EB w xb nb ob c) (hm : EnvM w nb E) (hs : SCP w S s p) (hS : ∀ k, S k → k < w.heap.size) (hn : n.length ≤ 1000) (hnb : nb < w.heap.size) :
    Calls Tryz.prog 80 #[.pointer (some ⟨xb, 0, none⟩), .string ⟨n.toArray⟩, p] w fun e w' => e = .returned (.agg ((lkR (s ++ E) n).cells (.slice none 0 0))) ∧ Below w.heap.size w w' := by
  have HB := Lib.hid (b1 w (.cells #[.int .i64 0, .int .i64 0, .int .i64 0, .int .i64 0, .int .i64 0, .int .i64 0, .int .i64 0, .int .i64 0, .int .i64 0, .slice none 0 0, .int .i64 0] 86))
  have HK := Lib.hid (K11.zero w)
  have HSC : Hid (SCP (w.alloc (.cells #[.int .i64 0, .int .i64 0, .int .i64 0, .int .i64 0, .int .i64 0, .int .i64 0, .int .i64 0, .int .i64 0, .int .i64 0, .slice none 0 0, .int .i64 0] 86)) S s p) := hs.keep fun k hk => ⟨hk, HB.out.block k (hS k hk)⟩
  have HEB : Hid (EB (w.alloc (.cells #[.int .i64 0, .int .i64 0, .int .i64 0, .int .i64 0, .int .i64 0, .int .i64 0, .int .i64 0, .int .i64 0, .int .i64 0, .slice none 0 0, .int .i64 0] 86)) xb nb ob c) := (HB.out.block xb he.cells.2.2).trans he
  have HEM : Hid (EnvM (w.alloc (.cells #[.int .i64 0, .int .i64 0, .int .i64 0, .int .i64 0, .int .i64 0, .int .i64 0, .int .i64 0, .int .i64 0, .int .i64 0, .slice none 0 0, .int .i64 0] 86)) nb E) := hm.block (HB.out.block nb hnb)
  have HSZ : Hid ((w.alloc (.cells #[.int .i64 0, .int .i64 0, .int .i64 0, .int .i64 0, .int .i64 0, .int .i64 0, .int .i64 0, .int .i64 0, .int .i64 0, .slice none 0 0, .int .i64 0] 86)).heap.size = w.heap.size + 1) := by show _ = _; simp
  clear he hm hs hS hnb
  generalize hR : lkR (s ++ E) n = Ru
  have HR := Lib.hid hR
  clear hR
  go_enter Tryz.func80, Tryz.ntmps80
  go_upto_region 1 with (fail)
  generalize w.alloc (.cells #[.int .i64 0, .int .i64 0, .int .i64 0, .int .i64 0, .int .i64 0, .int .i64 0, .int .i64 0, .int .i64 0, .int .i64 0, .slice none 0 0, .int .i64 0] 86) = w1 at *
  go_loopg [2] (s.length + 1) (fun gg s2 wr => ∃ (s' : Sc) (p' : Value), s'.length + 1 ≤ gg ∧ s2 = p' ∧ Aside (SCP w1 S s' p') ∧ Aside (lkR (s' ++ E) n = Ru) ∧ wr = w1)
  case atStart => exact ⟨s, p, Nat.le_refl _, rfl, HSC.out, HR.out, rfl⟩
  case round =>
    obtain ⟨s', p', hgg, rfl, HS, HL, rfl⟩ := hrel
    rcases s' with _ | ⟨⟨x, v⟩, s'⟩
    · have hp := HS.out
      change _ = Value.pointer none at hp
      subst hp
      go_upto_region 5 with (fail)
      have HLN := Lib.hid (HEM.out.look n (by omega))
      obtain ⟨⟨e0, e1, e2⟩, _, _⟩ := HEB.out.cells
      have HRE : Hid (Ru = lkR E n) := HL.out.symm
      have hlook := HLN.out
      unfold V.cells at hlook
      unfold lkR lookR at HRE
      dsimp only at HRE
      generalize E.lookup n = ol at *
      cases ol with
      | none =>
        have HRE2 : Hid (Ru = erR 11) := HRE.out
        dsimp only [Option.getD_none, Option.isSome_none] at hlook
        unfold zV zD at hlook
        dsimp only at hlook
        have HBa := Lib.hid (bl_tr HB.out (b1 wr (.cells #[.int .i64 0, .int .i64 0, .int .i64 0, .int .i64 0, .int .i64 0, .int .i64 0, .int .i64 0, .int .i64 0, .int .i64 0] 44)))
        have HK2 := Lib.hid (HK.out.reach (b1 wr (.cells #[.int .i64 0, .int .i64 0, .int .i64 0, .int .i64 0, .int .i64 0, .int .i64 0, .int .i64 0, .int .i64 0, .int .i64 0] 44)))
        have HKV : Hid (K9 (wr.alloc (.cells #[.int .i64 0, .int .i64 0, .int .i64 0, .int .i64 0, .int .i64 0, .int .i64 0, .int .i64 0, .int .i64 0, .int .i64 0] 44)) wr.heap.size zV) := K9.new wr zV
        go_upto_region 6 with (fail)
        generalize wr.alloc (.cells #[.int .i64 0, .int .i64 0, .int .i64 0, .int .i64 0, .int .i64 0, .int .i64 0, .int .i64 0, .int .i64 0, .int .i64 0] 44) = w2 at *
        obtain ⟨⟨z0, z1, z2, z3, z4, z5, z6, z7, z8, z9, z10⟩, zf, _⟩ := HK2.out.cells
        obtain ⟨⟨⟨v0, v1⟩, v2, v3, v4, v5, v6, v7, v8⟩, _, _⟩ := HKV.out.cells
        go_wp2_with fail
        rw [HRE2.out]
        refine bodyPost_ret (v := .agg (R.cells (erR 11) (.slice none 0 0))) (by simp [results, Tryz.results80, go_sem, R.cells, erR, zV, zD, z0, z1, z2, z3, z4, z5, z6, z7, z8, z9, z10]) rfl ⟨rfl, below11 HBa.out (b := w.heap.size) (Nat.le_refl _) (erR 11) (.slice none 0 0)⟩
      | some v =>
        have HRE2 : Hid (Ru = okR v) := HRE.out
        dsimp only [Option.getD_some, Option.isSome_some] at hlook
        have HBa := Lib.hid (bl_tr HB.out (b1 wr (.cells #[.int .i64 v.num, .int .i64 v.den, .int .i64 v.dim.a, .int .i64 v.dim.b, .int .i64 v.dim.c, .int .i64 v.dim.d, .int .i64 v.dim.e, .int .i64 v.dim.f, .int .i64 v.dim.g] 44)))
        have HK2 := Lib.hid (HK.out.reach (b1 wr (.cells #[.int .i64 v.num, .int .i64 v.den, .int .i64 v.dim.a, .int .i64 v.dim.b, .int .i64 v.dim.c, .int .i64 v.dim.d, .int .i64 v.dim.e, .int .i64 v.dim.f, .int .i64 v.dim.g] 44)))
        have HKV : Hid (K9 (wr.alloc (.cells #[.int .i64 v.num, .int .i64 v.den, .int .i64 v.dim.a, .int .i64 v.dim.b, .int .i64 v.dim.c, .int .i64 v.dim.d, .int .i64 v.dim.e, .int .i64 v.dim.f, .int .i64 v.dim.g] 44)) wr.heap.size v) := K9.new wr v
        go_upto_region 6 with (fail)
        generalize wr.alloc (.cells #[.int .i64 v.num, .int .i64 v.den, .int .i64 v.dim.a, .int .i64 v.dim.b, .int .i64 v.dim.c, .int .i64 v.dim.d, .int .i64 v.dim.e, .int .i64 v.dim.f, .int .i64 v.dim.g] 44) = w2 at *
        obtain ⟨⟨z0, z1, z2, z3, z4, z5, z6, z7, z8, z9, z10⟩, zf, _⟩ := HK2.out.cells
        obtain ⟨⟨⟨v0, v1⟩, v2, v3, v4, v5, v6, v7, v8⟩, _, _⟩ := HKV.out.cells
        go_wp2_with fail
        rw [HRE2.out]
        refine bodyPost_ret (v := .agg (R.cells (okR v) (.slice none 0 0))) (by simp [results, Tryz.results80, go_sem, R.cells, okR, z0, z1, z2, z3, z4, z5, z6, z7, z8, z9, z10]) rfl ⟨rfl, below11 HBa.out (b := w.heap.size) (Nat.le_refl _) (okR v) (.slice none 0 0)⟩
    · obtain ⟨b, q, hp, _, hx, hks, hs⟩ := HS.out
      subst hp
      have HSC2 := Lib.hid hs
      have HKS := Lib.hid hks
      clear hs hks
      obtain ⟨⟨k0, k10⟩, ⟨c0, c1⟩, c2, c3, c4, c5, c6, c7, c8⟩ := HKS.out.cells
      have hle := HL.out
      rw [List.cons_append, lk_cons] at hle
      by_cases hxn : n = x
      · subst hxn
        rw [if_pos rfl] at hle
        have HRE := Lib.hid hle
        obtain ⟨⟨z0, z1, z2, z3, z4, z5, z6, z7, z8, z9, z10⟩, zf, _⟩ := HK.out.cells
        clear hle
        go_wp2_with fail
        rw [← HRE.out]
        refine bodyPost_ret (v := .agg (R.cells (okR v) (.slice none 0 0))) (by simp [results, Tryz.results80, go_sem, R.cells, okR, z0, z1, z2, z3, z4, z5, z6, z7, z8, z9, z10]) rfl ⟨rfl, below11 HB.out (b := w.heap.size) (Nat.le_refl _) (okR v) (.slice none 0 0)⟩
      · rw [if_neg hxn] at hle
        have HRE := Lib.hid hle
        clear hle
        have hb1 : (x == n) = false := by simpa using fun h => hxn h.symm
        clear hxn
        go_wp2_with fail
        go_roundg (s'.length + 1)
        case measure => exact hgg
        case rel => exact ⟨s', q, Nat.le_refl _, rfl, HSC2.out, HRE.out, rfl⟩
end Go.Proofs.YtknpigdpepmimaaGreatDoor
