/- Plain: lists of names in their order: insertion, union, one list for one set. -/
import Derived.Test.YtkjhfbgdmmnadaaGreatSrt
namespace Go.Proofs.YtkjhfbgdmmnadaaGreat

abbrev W8 := List UInt8
/-- the order of names -/
def ltL (a b : W8) : Bool := decide (cmpL a b < 0)
def insL (s : W8) : List W8 → List W8
  | [] => [s]
  | a :: l => if ltL s a then s :: a :: l else a :: insL s l
def withL (l : List W8) (s : W8) : List W8 := if l.contains s then l else insL s l
def unionL (a b : List W8) : List W8 := b.foldl withL a
def withoutL (l : List W8) (s : W8) : List W8 := l.filter (· != s)
theorem mem_insL {x s : W8} : ∀ {l : List W8}, x ∈ insL s l ↔ x = s ∨ x ∈ l
  | [] => by simp [insL]
  | a :: l => by
    rw [insL]
    split
    · simp
    · have ih := mem_insL (x := x) (s := s) (l := l)
      rw [List.mem_cons, ih, List.mem_cons]
      constructor
      · rintro (h | h | h)
        · exact .inr (.inl h)
        · exact .inl h
        · exact .inr (.inr h)
      · rintro (h | h | h)
        · exact .inr (.inl h)
        · exact .inl h
        · exact .inr (.inr h)
theorem mem_withL {x s : W8} {l : List W8} : x ∈ withL l s ↔ x = s ∨ x ∈ l := by
  unfold withL
  split
  · rename_i h
    have : s ∈ l := by simpa using h
    constructor
    · exact .inr
    · rintro (rfl | h)
      · exact this
      · exact h
  · exact mem_insL
theorem mem_unionL {x : W8} : ∀ {b a : List W8}, x ∈ unionL a b ↔ x ∈ a ∨ x ∈ b
  | [], a => by simp [unionL]
  | s :: b, a => by
    have ih := mem_unionL (x := x) (b := b) (a := withL a s)
    unfold unionL at ih ⊢
    rw [List.foldl_cons, ih, mem_withL, List.mem_cons]
    constructor
    · rintro ((h | h) | h)
      · exact .inr (.inl h)
      · exact .inl h
      · exact .inr (.inr h)
    · rintro (h | h | h)
      · exact .inl (.inr h)
      · exact .inl (.inl h)
      · exact .inr h
theorem mem_withoutL {x s : W8} {l : List W8} : x ∈ withoutL l s ↔ x ∈ l ∧ x ≠ s := by
  unfold withoutL; simp
theorem word_all {x : W8} (h : wordB x = true) : x.all isL = true := by
  unfold wordB at h; simp only [Bool.and_eq_true] at h; exact h.1.1
theorem ltL_irrefl (x : W8) : ltL x x = false := by
  unfold ltL
  have := cmpL_lt x x
  have := cmpR_self x
  simp only [decide_eq_false_iff_not]; omega
theorem ltL_trans {x y z : W8} (h1 : ltL x y = true) (h2 : ltL y z = true) : ltL x z = true := by
  unfold ltL at *
  simp only [decide_eq_true_eq] at *
  have ih := cmpR_trans x y z
  rw [cmpL_lt] at *
  omega
theorem ltL_tot {x y : W8} (hx : wordB x = true) (hy : wordB y = true) (h1 : ltL x y = false) (h2 : ltL y x = false) : x = y := by
  unfold ltL at *
  simp only [decide_eq_false_iff_not] at *
  rw [cmpL_lt] at *
  exact cmpR_tot x y (by omega) (word_all hx) (word_all hy) (by omega) (by omega)
/-- words in their order, each once -/
def Srtd (l : List W8) : Prop := l.Pairwise fun a b => ltL a b = true
def Wds (l : List W8) : Prop := ∀ x ∈ l, wordB x = true
theorem Wds.with {l : List W8} (h : Wds l) {s : W8} (hs : wordB s = true) : Wds (withL l s) := fun x hx => by
  rcases mem_withL.1 hx with rfl | hx
  · exact hs
  · exact h x hx
theorem srtd_ins {s : W8} (hs : wordB s = true) : ∀ {l : List W8}, Wds l → Srtd l → s ∉ l → Srtd (insL s l)
  | [], _, _, _ => by unfold insL Srtd; simp
  | a :: l, hw, h, hn => by
    unfold Srtd at h ⊢
    rw [List.pairwise_cons] at h
    rw [insL]
    split
    · rename_i hlt
      rw [List.pairwise_cons]
      refine ⟨fun x hx => ?_, List.pairwise_cons.2 h⟩
      rcases List.mem_cons.1 hx with rfl | hx
      · exact hlt
      · exact ltL_trans hlt (h.1 x hx)
    · rename_i hlt
      rw [List.pairwise_cons]
      refine ⟨fun x hx => ?_, srtd_ins hs (fun x hx => hw x (List.mem_cons_of_mem _ hx)) h.2 (fun h' => hn (List.mem_cons_of_mem _ h'))⟩
      rcases mem_insL.1 hx with rfl | hx
      · cases hl : ltL a x with
        | true => rfl
        | false => exact absurd (ltL_tot (hw a List.mem_cons_self) hs hl (by simpa using hlt)) (fun e => hn (by rw [e]; exact List.mem_cons_self))
      · exact h.1 x hx
theorem srtd_with {s : W8} (hs : wordB s = true) {l : List W8} (hw : Wds l) (h : Srtd l) : Srtd (withL l s) := by
  unfold withL
  split
  · exact h
  · rename_i hn
    exact srtd_ins hs hw h (by simpa using hn)
theorem srtd_union : ∀ {b a : List W8}, Wds a → Srtd a → Wds b → Srtd (unionL a b) ∧ Wds (unionL a b)
  | [], a, ha, h, _ => by unfold unionL; exact ⟨h, ha⟩
  | s :: b, a, ha, h, hb => by
    have hs := hb s List.mem_cons_self
    have := srtd_union (b := b) (a := withL a s) (ha.with hs) (srtd_with hs ha h) (fun x hx => hb x (List.mem_cons_of_mem _ hx))
    unfold unionL at this ⊢
    rw [List.foldl_cons]
    exact this
theorem srtd_ext : ∀ {a b : List W8}, Srtd a → Srtd b → (∀ x, x ∈ a ↔ x ∈ b) → a = b
  | [], [], _, _, _ => rfl
  | [], y :: b, _, _, h => by have := (h y).2 List.mem_cons_self; cases this
  | x :: a, [], _, _, h => by have := (h x).1 List.mem_cons_self; cases this
  | x :: a, y :: b, ha, hb, h => by
    have ha' : Srtd (x :: a) := ha
    have hb' : Srtd (y :: b) := hb
    unfold Srtd at ha hb
    rw [List.pairwise_cons] at ha hb
    have hxy : x = y := by
      rcases List.mem_cons.1 ((h x).1 List.mem_cons_self) with e | hx
      · exact e
      · rcases List.mem_cons.1 ((h y).2 List.mem_cons_self) with e | hy
        · exact e.symm
        · have := ltL_trans (hb.1 x hx) (ha.1 y hy)
          rw [ltL_irrefl] at this; cases this
    subst hxy
    rw [srtd_ext (a := a) (b := b) ha.2 hb.2 (fun z => ?_)]
    have hz := h z
    rw [List.mem_cons, List.mem_cons] at hz
    constructor
    · intro hm
      rcases hz.1 (.inr hm) with rfl | h'
      · have := ha.1 z hm; rw [ltL_irrefl] at this; cases this
      · exact h'
    · intro hm
      rcases hz.2 (.inr hm) with rfl | h'
      · have := hb.1 z hm; rw [ltL_irrefl] at this; cases this
      · exact h'
/-- the sorted keys of a set are the one list in order -/
theorem sortW_srtd (ws : List Wd) (hn : (ws.map (·.1)).Nodup) : Srtd ((sortW ws).map (·.1)) ∧ (∀ x, x ∈ (sortW ws).map (·.1) ↔ x ∈ ws.map (·.1)) := by
  have hp : (sortW ws).Perm ws := List.mergeSort_perm ws _
  have hpm := hp.map (fun x : Wd => x.1)
  refine ⟨?_, fun x => hpm.mem_iff⟩
  have hs : (sortW ws).Pairwise fun x y => (!(ltOf cmpW) y x) = true := by
    refine List.pairwise_mergeSort (fun a b c h1 h2 => ?_) (fun a b => ?_) ws
    · have := cmpR_ntrans c.1 b.1 a.1
      unfold ltOf cmpW at *
      simp only [Bool.not_eq_true', decide_eq_false_iff_not] at *
      rw [cmpL_lt] at *
      omega
    · have := @ltL_trans a.1 b.1 a.1
      have h0 := ltL_irrefl a.1
      unfold ltL at this h0
      unfold ltOf cmpW
      simp only [Bool.or_eq_true, Bool.not_eq_true', decide_eq_false_iff_not, decide_eq_true_eq] at *
      by_cases h : cmpL b.1 a.1 < 0
      · right; intro h'; have := this h' h; omega
      · left; exact h
  have hn2 : ((sortW ws).map (fun x : Wd => x.1)).Nodup := hpm.nodup_iff.2 hn
  unfold Srtd
  rw [List.pairwise_map]
  unfold List.Nodup at hn2
  rw [List.pairwise_map] at hn2
  refine List.Pairwise.imp₂ (fun a b h1 h2 => ?_) hs hn2
  cases hl : ltL a.1 b.1 with
  | true => rfl
  | false =>
    refine absurd (ltL_tot a.2 b.2 hl ?_) h2
    unfold ltOf cmpW at h1
    unfold ltL
    simp only [Bool.not_eq_true'] at h1
    exact h1
end Go.Proofs.YtkjhfbgdmmnadaaGreat
