/- Words for the operator dictionary's entries: an entry as a value, an entry in memory, a slice of entries that reads as a list; the plain functions (find, texts of a class). Plain lemmas, no program. -/
import Derived.WalkKit
import Derived.WalkSpells
namespace Go.Proofs.Ythhnbfndmjpdgaa
open Go.RowKit

structure Ent where
  text : ByteArray
  cls : Int
  lim : Bool
  str : Bool

def Ent.val (e : Ent) : Value := .agg #[.string e.text, .int .i64 e.cls, .bool e.lim, .bool e.str]
def Ent.cells (e : Ent) : List Value := [.string e.text, .int .i64 e.cls, .bool e.lim, .bool e.str]

/-- the four cells of the entry that lies at (b, o) -/
structure EntAt (w : World) (b o : Nat) (e : Ent) : Prop where
  c0 : w.cell? ⟨b, o, none⟩ = some (.string e.text)
  c1 : w.cell? ⟨b, o + 1, none⟩ = some (.int .i64 e.cls)
  c2 : w.cell? ⟨b, o + 2, none⟩ = some (.bool e.lim)
  c3 : w.cell? ⟨b, o + 3, none⟩ = some (.bool e.str)

theorem EntAt.below {w w' : World} {B b o : Nat} {e : Ent} (h : EntAt w b o e) (hb : Below B w w') (hlt : b < B) : EntAt w' b o e :=
  ⟨(hb.cell (p := ⟨b, o, none⟩) hlt).trans h.c0, (hb.cell (p := ⟨b, o + 1, none⟩) hlt).trans h.c1, (hb.cell (p := ⟨b, o + 2, none⟩) hlt).trans h.c2, (hb.cell (p := ⟨b, o + 3, none⟩) hlt).trans h.c3⟩

/-- a slice value that begins at A holds the entries l, below block B -/
def ER (w : World) (B : Nat) (A : Option Addr) (l : List Ent) : Prop :=
  l ≠ [] → ∃ b off, A = some ⟨b, off, none⟩ ∧ b < B ∧ ∀ i e, l[i]? = some e → EntAt w b (off + i * 4) e

section
variable {w w' : World} {B B' : Nat} {A : Option Addr} {l : List Ent}
theorem ER.nil : ER w B A [] := fun h => absurd rfl h
theorem ER.at_ (h : ER w B A l) {i : Nat} (hi : i < l.length) : ∃ b off, A = some ⟨b, off, none⟩ ∧ b < B ∧ EntAt w b (off + i * 4) l[i] := by
  obtain ⟨b, off, ha, hb, hc⟩ := h (by intro h; simp [h] at hi)
  exact ⟨b, off, ha, hb, hc i _ (List.getElem?_eq_getElem hi)⟩
theorem ER.below (h : ER w B A l) (hb : Below B w w') : ER w' B A l := fun hl => by
  obtain ⟨b, off, ha, hlt, hc⟩ := h hl
  exact ⟨b, off, ha, hlt, fun i e he => (hc i e he).below hb hlt⟩
theorem ER.more (h : ER w B A l) (hB : B ≤ B') : ER w B' A l := fun hl => by
  obtain ⟨b, off, ha, hlt, hc⟩ := h hl
  exact ⟨b, off, ha, by omega, hc⟩
end

/-- the same texts -/
def eqT (a b : ByteArray) : Bool := a.toList == b.toList

def fIdx? (l : List Ent) (t : ByteArray) : Option Nat := l.findIdx? (fun e => eqT e.text t)
def fIdx (l : List Ent) (t : ByteArray) : Int := match fIdx? l t with | some i => i | none => -1
def find (l : List Ent) (t : ByteArray) : Ent := (l.find? (fun e => eqT e.text t)).getD ⟨t, 0, false, false⟩

theorem fIdx_hit (l : List Ent) (t : ByteArray) (i : Nat) (hi : i < l.length) (h : eqT l[i].text t = true) (hn : ∀ j e, j < i → l[j]? = some e → eqT e.text t = false) : fIdx? l t = some i := by
  unfold fIdx?
  rw [List.findIdx?_eq_some_iff_getElem]
  refine ⟨hi, h, fun j hj => ?_⟩
  have := hn j l[j] hj (List.getElem?_eq_getElem (by omega))
  simp [this]

theorem fIdx_miss (l : List Ent) (t : ByteArray) (hn : ∀ (j : Nat) e, j < l.length → l[j]? = some e → eqT e.text t = false) : fIdx? l t = none := by
  unfold fIdx?
  rw [List.findIdx?_eq_none_iff]
  intro x hx
  obtain ⟨j, hj, rfl⟩ := List.mem_iff_getElem.1 hx
  exact hn j _ hj (List.getElem?_eq_getElem hj)

theorem find_hit (l : List Ent) (t : ByteArray) (i : Nat) (h : fIdx? l t = some i) : ∃ hi : i < l.length, find l t = l[i] ∧ eqT l[i].text t = true := by
  unfold fIdx? at h
  rw [List.findIdx?_eq_some_iff_getElem] at h
  obtain ⟨hi, h1, h2⟩ := h
  refine ⟨hi, ?_, h1⟩
  have : l.find? (fun e => eqT e.text t) = some l[i] := by
    rw [List.find?_eq_some_iff_getElem]
    refine ⟨h1, i, hi, rfl, fun j hj => ?_⟩
    have := h2 j hj
    simpa using this
  unfold find
  rw [this]; rfl

theorem find_miss (l : List Ent) (t : ByteArray) (h : fIdx? l t = none) : find l t = ⟨t, 0, false, false⟩ := by
  unfold fIdx? at h
  rw [List.findIdx?_eq_none_iff] at h
  unfold find
  rw [List.find?_eq_none.2 (fun x hx => by simp [h x hx])]
  rfl

/-- the texts of a class -/
def ofC (l : List Ent) (c : Int) : List ByteArray := (l.filter (fun e => e.cls == c)).map (·.text)
theorem ofC_take_succ (l : List Ent) (c : Int) (k : Nat) (h : k < l.length) : ofC (l.take (k + 1)) c = ofC (l.take k) c ++ (if l[k].cls == c then [l[k].text] else []) := by
  unfold ofC
  rw [List.take_succ_eq_append_getElem h, List.filter_append, List.map_append]
  congr 1
  by_cases hc : (l[k].cls == c) = true <;> simp [hc]
theorem ofC_len (l : List Ent) (c : Int) : (ofC l c).length ≤ l.length := by
  unfold ofC; rw [List.length_map]; exact List.length_filter_le _ _

def strs (l : List ByteArray) : List Value := l.map Value.string
theorem strs_snoc (l : List ByteArray) (b : ByteArray) : strs (l ++ [b]) = strs l ++ [.string b] := by simp [strs]
theorem strs_len (l : List ByteArray) : (strs l).length = l.length := by simp [strs]
end Go.Proofs.Ythhnbfndmjpdgaa
