/- The map of the glyphs' heights; the closure that looks into it. -/
import Derived.Test.YthgkdeaapjdadaaDoorV6
import Derived.Maps.OwnSet
namespace Go.Proofs.YthgkdeaapjdadaaDoor
open Go.RowKit Go.Maps

def hgt (g : Gl) : DataW Unit := .lit (.int .i64 (g.h + g.d))
def hD (l : List Gl) : DataW Unit := l.foldl (fun m g => m.put (.string g.name) (hgt g)) (.map [])
theorem hD_snoc (l : List Gl) (g : Gl) : hD (l ++ [g]) = (hD l).put (.string g.name) (hgt g) := by unfold hD; rw [List.foldl_append]; rfl
theorem hD_isMap (l : List Gl) : IsMap (hD l) := by
  have : ∀ (l : List Gl) (m : DataW Unit), IsMap m → IsMap (l.foldl (fun m g => m.put (.string g.name) (hgt g)) m) := by
    intro l
    induction l with
    | nil => intro m h; exact h
    | cons a l ih => intro m h; exact ih _ (h.put _ _)
  exact this l _ isMap_empty
/-- no name twice -/
def apartN (l : List Gl) : Prop := ∀ i j (hi : i < l.length) (hj : j < l.length), i < j → l[i].name ≠ l[j].name
def hv (l : List Gl) (n : List UInt8) : Int := match findG l n with | some g => g.h + g.d | none => 0
theorem findG_snoc (l : List Gl) (g : Gl) (n : List UInt8) : findG (l ++ [g]) n = (findG l n).or (if g.name = n then some g else none) := by
  unfold findG
  rw [List.find?_append]
  congr 1
  simp only [List.find?_cons, List.find?_nil]
  by_cases h : g.name = n
  · simp [h]
  · have : (g.name == n) = false := by simpa using h
    rw [this, if_neg h]
theorem look_plain : ∀ (k : Nat) (l : List Gl), apartN l → k ≤ l.length → ∀ n, (hD (l.take k)).atKey (.string n) (.lit (.int .i64 0)) = .lit (.int .i64 (hv (l.take k) n)) ∧ has (hD (l.take k)) (.string n) = (findG (l.take k) n).isSome := by
  intro k
  induction k with
  | zero => intro l _ _ n; simp [hD, hv, findG, has, DataW.atKey]
  | succ k ih =>
    intro l ha hk n
    have hlt : k < l.length := by omega
    obtain ⟨h1, h2⟩ := ih l ha (by omega) n
    rw [List.take_succ_eq_append_getElem hlt, hD_snoc]
    unfold hv at h1 ⊢
    rw [findG_snoc]
    by_cases e : l[k].name = n
    · have hno : findG (l.take k) n = none := by
        unfold findG
        rw [List.find?_eq_none]
        intro g hg
        obtain ⟨j, hj, rfl⟩ := List.mem_iff_getElem.1 hg
        rw [List.length_take] at hj
        rw [List.getElem_take]
        have := ha j k (by omega) hlt (by omega)
        rw [e] at this
        simpa using this
      rw [hno, if_pos e, ← e]
      rw [atKey_put_same (k := .string l[k].name) (hD_isMap _) (show WideAt.IsKeyLit (.string l[k].name) from trivial), has_put_same (k := .string l[k].name) (hD_isMap _) (show WideAt.IsKeyLit (.string l[k].name) from trivial)]
      exact ⟨rfl, rfl⟩
    · have hne : Lit.string n ≠ .string l[k].name := fun h => e (by injection h with h; exact h.symm)
      rw [if_neg e, atKey_put_other hne, has_put_other hne, h1, h2]
      simp
theorem law9 : Keyed Tryd.prog 9 := string_keyed Tryd.underlying9
theorem zero3 (w : World) : (zeroValue 3).run Tryd.prog w = .ok (.int .i64 0) w := by kernel_rfl
theorem under69 : Tryd.prog.underlying 69 = some (.map 9 3) := by kernel_rfl
/-- block B is the map of the first k heights -/
def HMap (w : World) (B k : Nat) : Prop := w.ownsMap Tryd.prog 9 (plainElem (H := Unit) Tryd.prog 3) B k (hD (GF.take k))
def pairB (l : List Gl) : Bool := match l with | [] => true | a :: l => l.all (fun b => a.name != b.name) && pairB l
theorem pairB_apart : ∀ (l : List Gl), pairB l = true → apartN l := by
  intro l
  induction l with
  | nil => intro _ i j hi; simp at hi
  | cons a l ih =>
    intro h i j hi hj hij
    unfold pairB at h
    simp only [Bool.and_eq_true, List.all_eq_true, bne_iff_ne] at h
    obtain ⟨h1, h2⟩ := h
    cases j with
    | zero => omega
    | succ j =>
      cases i with
      | zero => exact h1 _ (List.getElem_mem _)
      | succ i => exact ih h2 i j (by simpa using hi) (by simpa using hj) (by omega)
theorem gf_apart : apartN GF := pairB_apart GF (by decide +kernel)
theorem look_map {w : World} {B k : Nat} (h : HMap w B k) (hk : k ≤ GF.length) (n : List UInt8) (hn : n.length ≤ 1000) :
    (Instr.lookup 69 (.map (some B)) (.string ⟨n.toArray⟩) true).run Tryd.prog w = .ok (.tuple #[.int .i64 (hv (GF.take k) n), .bool (findG (GF.take k) n).isSome]) w := by
  have hkey := Go.WideMaps.keyOf_string_mk (P := Tryd.prog) (k := 9) Tryd.underlying9 (s := ⟨n.toArray⟩) (by have : (⟨n.toArray⟩ : ByteArray).size = n.length := by simp [ByteArray.size]
                                                                                                             unfold maxLen; omega)
  obtain ⟨v, ps, hrun, hval⟩ := h.look_ok law9 under69 (zero3 w) (plainElem_int Tryd.underlying3 (by decide)) hkey
  obtain ⟨l1, l2⟩ := look_plain k GF gf_apart hk n
  have e : (⟨n.toArray⟩ : ByteArray).data.toList = n := by simp
  rw [e] at hrun hval
  rw [l1] at hval
  rw [l2] at hrun
  obtain ⟨a, rfl, ha, _⟩ := plainElem_int_inv Tryd.underlying3 hval
  have : a = hv (GF.take k) n := by simp only [Prod.mk.injEq, DataW.lit.injEq, Lit.int.injEq] at ha; exact ha.1.2.symm
  rw [hrun, this]

set_option maxHeartbeats 1000000 in
/-- the closure: the height of the glyph with a name -/
theorem height_any (n : List UInt8) (b B : Nat) (w : World) (hn : n.length ≤ 1000) (hc : w.cell? ⟨b, 0, none⟩ = some (.map (some B))) (hm : HMap w B GF.length) :
    Calls Tryd.prog 33 #[.string ⟨n.toArray⟩, .pointer (some ⟨b, 0, none⟩)] w fun e w' => e = .returned (.tuple #[.int .i64 (hv GF n), .bool (findG GF n).isSome]) ∧ w = w' := by
  have hl := look_map hm (Nat.le_refl _) n hn
  rw [List.take_length] at hl
  generalize hv GF n = x at *
  generalize (findG GF n).isSome = y at *
  clear hm
  go_enter Tryd.func33, Tryd.ntmps33
  go_wp2
  go_ret2
  exact ⟨rfl, rfl⟩
end Go.Proofs.YthgkdeaapjdadaaDoor
