/- Contracts of opdict.index and opdict.Find (as in the seat of layer 8). -/
import Derived.Test.YthhnbfndmjpdgaaDoorDef
namespace Go.Proofs.YthhnbfndmjpdgaaDoor.Od
open Go.RowKit

structure Ent where
  text : ByteArray
  cls : Int
  lim : Bool
  str : Bool

def Ent.val (e : Ent) : Value := .agg #[.string e.text, .int .i64 e.cls, .bool e.lim, .bool e.str]
def Ent.cells (e : Ent) : List Value := [.string e.text, .int .i64 e.cls, .bool e.lim, .bool e.str]

/-- the four cells of the entry that lies at (b, o) -/
structure EntAt (w : World) (b o : Nat) (e : Ent) : Prop where
  c0 : w.cell? ⟨b, o, none⟩ = some (.string e.text)
  c1 : w.cell? ⟨b, o + 1, none⟩ = some (.int .i64 e.cls)
  c2 : w.cell? ⟨b, o + 2, none⟩ = some (.bool e.lim)
  c3 : w.cell? ⟨b, o + 3, none⟩ = some (.bool e.str)

theorem EntAt.below {w w' : World} {B b o : Nat} {e : Ent} (h : EntAt w b o e) (hb : Below B w w') (hlt : b < B) : EntAt w' b o e :=
  ⟨(hb.cell (p := ⟨b, o, none⟩) hlt).trans h.c0, (hb.cell (p := ⟨b, o + 1, none⟩) hlt).trans h.c1, (hb.cell (p := ⟨b, o + 2, none⟩) hlt).trans h.c2, (hb.cell (p := ⟨b, o + 3, none⟩) hlt).trans h.c3⟩

/-- a slice value that begins at A holds the entries l, below block B -/
def ER (w : World) (B : Nat) (A : Option Addr) (l : List Ent) : Prop :=
  l ≠ [] → ∃ b off, A = some ⟨b, off, none⟩ ∧ b < B ∧ ∀ i e, l[i]? = some e → EntAt w b (off + i * 4) e

section
variable {w w' : World} {B B' : Nat} {A : Option Addr} {l : List Ent}
theorem ER.nil : ER w B A [] := fun h => absurd rfl h
theorem ER.at_ (h : ER w B A l) {i : Nat} (hi : i < l.length) : ∃ b off, A = some ⟨b, off, none⟩ ∧ b < B ∧ EntAt w b (off + i * 4) l[i] := by
  obtain ⟨b, off, ha, hb, hc⟩ := h (by intro h; simp [h] at hi)
  exact ⟨b, off, ha, hb, hc i _ (List.getElem?_eq_getElem hi)⟩
theorem ER.below (h : ER w B A l) (hb : Below B w w') : ER w' B A l := fun hl => by
  obtain ⟨b, off, ha, hlt, hc⟩ := h hl
  exact ⟨b, off, ha, hlt, fun i e he => (hc i e he).below hb hlt⟩
theorem ER.more (h : ER w B A l) (hB : B ≤ B') : ER w B' A l := fun hl => by
  obtain ⟨b, off, ha, hlt, hc⟩ := h hl
  exact ⟨b, off, ha, by omega, hc⟩
end

/-- the same texts -/
def eqT (a b : ByteArray) : Bool := a.toList == b.toList

def fIdx? (l : List Ent) (t : ByteArray) : Option Nat := l.findIdx? (fun e => eqT e.text t)
def fIdx (l : List Ent) (t : ByteArray) : Int := match fIdx? l t with | some i => i | none => -1
def find (l : List Ent) (t : ByteArray) : Ent := (l.find? (fun e => eqT e.text t)).getD ⟨t, 0, false, false⟩

theorem fIdx_hit (l : List Ent) (t : ByteArray) (i : Nat) (hi : i < l.length) (h : eqT l[i].text t = true) (hn : ∀ j e, j < i → l[j]? = some e → eqT e.text t = false) : fIdx? l t = some i := by
  unfold fIdx?
  rw [List.findIdx?_eq_some_iff_getElem]
  refine ⟨hi, h, fun j hj => ?_⟩
  have := hn j l[j] hj (List.getElem?_eq_getElem (by omega))
  simp [this]

theorem fIdx_miss (l : List Ent) (t : ByteArray) (hn : ∀ (j : Nat) e, j < l.length → l[j]? = some e → eqT e.text t = false) : fIdx? l t = none := by
  unfold fIdx?
  rw [List.findIdx?_eq_none_iff]
  intro x hx
  obtain ⟨j, hj, rfl⟩ := List.mem_iff_getElem.1 hx
  exact hn j _ hj (List.getElem?_eq_getElem hj)

theorem find_hit (l : List Ent) (t : ByteArray) (i : Nat) (h : fIdx? l t = some i) : ∃ hi : i < l.length, find l t = l[i] ∧ eqT l[i].text t = true := by
  unfold fIdx? at h
  rw [List.findIdx?_eq_some_iff_getElem] at h
  obtain ⟨hi, h1, h2⟩ := h
  refine ⟨hi, ?_, h1⟩
  have : l.find? (fun e => eqT e.text t) = some l[i] := by
    rw [List.find?_eq_some_iff_getElem]
    refine ⟨h1, i, hi, rfl, fun j hj => ?_⟩
    have := h2 j hj
    simpa using this
  unfold find
  rw [this]; rfl

theorem find_miss (l : List Ent) (t : ByteArray) (h : fIdx? l t = none) : find l t = ⟨t, 0, false, false⟩ := by
  unfold fIdx? at h
  rw [List.findIdx?_eq_none_iff] at h
  unfold find
  rw [List.find?_eq_none.2 (fun x hx => by simp [h x hx])]
  rfl

/-- the texts of a class -/
def ofC (l : List Ent) (c : Int) : List ByteArray := (l.filter (fun e => e.cls == c)).map (·.text)
theorem ofC_take_succ (l : List Ent) (c : Int) (k : Nat) (h : k < l.length) : ofC (l.take (k + 1)) c = ofC (l.take k) c ++ (if l[k].cls == c then [l[k].text] else []) := by
  unfold ofC
  rw [List.take_succ_eq_append_getElem h, List.filter_append, List.map_append]
  congr 1
  by_cases hc : (l[k].cls == c) = true <;> simp [hc]
theorem ofC_len (l : List Ent) (c : Int) : (ofC l c).length ≤ l.length := by
  unfold ofC; rw [List.length_map]; exact List.length_filter_le _ _

def strs (l : List ByteArray) : List Value := l.map Value.string
theorem strs_snoc (l : List ByteArray) (b : ByteArray) : strs (l ++ [b]) = strs l ++ [.string b] := by simp [strs]
theorem strs_len (l : List ByteArray) : (strs l).length = l.length := by simp [strs]
set_option maxHeartbeats 400000 in
theorem clo (t : ByteArray) (c : Int) (l s : Bool) (x : ByteArray) (a : Addr) (w : World) (ha : a.block < w.heap.size) (hc : w.cell? a = some (.string x)) :
    Calls Tryd.prog 16 #[.agg #[.string t, .int .i64 c, .bool l, .bool s], .pointer (some a)] w fun e w' => e = .returned (.bool (eqT t x)) ∧ Below w.heap.size w w' := by
  go_enter Tryd.func16, Tryd.ntmps16
  go_wp2
  go_ret
  exact ⟨rfl, (Below.refl _ _).alloc (Nat.le_refl _) _⟩

set_option maxHeartbeats 400000 in
theorem indexFunc_any (A : Option Addr) (l : List Ent) (c : Nat) (x : ByteArray) (a : Addr) (w : World) (hl : ER w w.heap.size A l) (hn : l.length ≤ 250) (ha : a.block < w.heap.size) (hc : w.cell? a = some (.string x)) :
    Calls Tryd.prog 15 #[.slice A l.length c, .func (.func 16) #[] #[.pointer (some a)]] w fun e w' => e = .returned (.int .i64 (fIdx l x)) ∧ Below w.heap.size w w' := by
  have hlH := Lib.hid hl
  clear hl
  go_enter Tryd.func15, Tryd.ntmps15
  go_wp2
  go_loopg [5, 8] l.length (fun gg _ s8 wr => ∃ kk : Nat, kk ≤ l.length ∧ l.length - kk ≤ gg ∧ s8 = .int .i64 kk ∧ Aside (Below w.heap.size w wr) ∧ Aside (∀ j e, j < kk → l[j]? = some e → eqT e.text x = false))
  case atStart => exact ⟨0, Nat.zero_le _, by omega, rfl, Below.refl _ w, fun j e hj => absurd hj (Nat.not_lt_zero _)⟩
  case round =>
    obtain ⟨kk, hkk, hg, rfl, BW, HA⟩ := hrel
    by_cases hlt : kk < l.length
    · have hltz : (kk : Int) < (l.length : Int) := by omega
      obtain ⟨b, off, rfl, hb, he⟩ := (hlH.out.below BW.out).at_ hlt
      obtain ⟨h0, h1, h2, h3⟩ := he
      have hca : wr.cell? a = some (.string x) := (BW.out.cell ha).trans hc
      have haw : a.block < wr.heap.size := Nat.lt_of_lt_of_le ha BW.out.size
      clear hc
      cases hq : eqT l[kk].text x with
      | true =>
        have Hq := Lib.hid hq
        clear hq
        go_wp2_with fail
        refine (clo _ _ _ _ x a _ haw hca).mono ?_
        rintro e w' ⟨rfl, hb'⟩
        rw [Hq.out]
        go_wp2
        go_ret
        refine ⟨?_, BW.out.trans (hb'.mono BW.out.size)⟩
        simp only [fIdx, fIdx_hit l x kk hlt Hq.out HA.out]
        rfl
      | false =>
        have Hq := Lib.hid hq
        clear hq
        go_wp2_with fail
        refine (clo _ _ _ _ x a _ haw hca).mono ?_
        rintro e w' ⟨rfl, hb'⟩
        rw [Hq.out]
        go_wp2
        go_roundg (l.length - (kk + 1))
        case measure => omega
        case rel =>
          refine ⟨kk + 1, by omega, by omega, by go_num, BW.out.trans (hb'.mono BW.out.size), (show Aside _ from fun j e hj he => ?_)⟩
          by_cases ee : j = kk
          · subst ee
            rw [List.getElem?_eq_getElem hlt] at he
            cases he
            exact Hq.out
          · exact HA.out j e (by omega) he
    · have hltz : ¬ (kk : Int) < (l.length : Int) := by omega
      obtain rfl : kk = l.length := by omega
      go_wp2
      go_ret
      refine ⟨?_, BW.out⟩
      simp only [fIdx, fIdx_miss l x HA.out]
      rfl

set_option maxHeartbeats 400000 in
theorem index_any (A : Option Addr) (l : List Ent) (c : Nat) (x : ByteArray) (w : World) (hl : ER w w.heap.size A l) (hn : l.length ≤ 250) :
    Calls Tryd.prog 12 #[.slice A l.length c, .string x] w fun e w' => e = .returned (.int .i64 (fIdx l x)) ∧ Below w.heap.size w w' := by
  go_enter Tryd.func12, Tryd.ntmps12
  go_wp2_with fail
  refine (indexFunc_any A l c x _ _ ?_ hn ?_ ?_).mono ?_
  · exact (hl.below ((Below.refl _ _).alloc (Nat.le_refl _) _)).more (by simp)
  · simp
  · simp
  rintro e w' ⟨rfl, hb'⟩
  go_wp2
  go_ret
  exact ⟨rfl, ((Below.refl _ _).alloc (Nat.le_refl _) _).trans (hb'.mono (by simp))⟩

theorem index_some (A : Option Addr) (l : List Ent) (c : Nat) (x : ByteArray) (w : World) (hl : ER w w.heap.size A l) (hn : l.length ≤ 250) (i : Nat) (h : fIdx? l x = some i) :
    Calls Tryd.prog 12 #[.slice A l.length c, .string x] w fun e w' => e = .returned (.int .i64 (i : Int)) ∧ Below w.heap.size w w' := by
  have := index_any A l c x w hl hn
  simpa only [fIdx, h] using this
theorem index_none (A : Option Addr) (l : List Ent) (c : Nat) (x : ByteArray) (w : World) (hl : ER w w.heap.size A l) (hn : l.length ≤ 250) (h : fIdx? l x = none) :
    Calls Tryd.prog 12 #[.slice A l.length c, .string x] w fun e w' => e = .returned (.int .i64 (-1)) ∧ Below w.heap.size w w' := by
  have := index_any A l c x w hl hn
  simpa only [fIdx, h] using this

/-- the cells of a block that was laid before a call that keeps what is below -/
theorem res4 {w w1 : World} {v0 v1 v2 v3 : Value} {t : TypeId} (hb : Below (w.alloc (.cells #[v0, v1, v2, v3] t)).heap.size (w.alloc (.cells #[v0, v1, v2, v3] t)) w1) :
    (w1.cell? ⟨w.heap.size, 0, none⟩ = some v0 ∧ w1.cell? ⟨w.heap.size, 1, none⟩ = some v1 ∧ w1.cell? ⟨w.heap.size, 2, none⟩ = some v2 ∧ w1.cell? ⟨w.heap.size, 3, none⟩ = some v3) ∧ (∀ i, w1.frozen? ⟨w.heap.size, i, none⟩ = false) ∧ w.heap.size < w1.heap.size := by
  have hlt : w.heap.size < (w.alloc (.cells #[v0, v1, v2, v3] t)).heap.size := by simp
  refine ⟨⟨?_, ?_, ?_, ?_⟩, fun i => ?_, ?_⟩
  · rw [hb.cell (p := ⟨w.heap.size, 0, none⟩) hlt]; simp
  · rw [hb.cell (p := ⟨w.heap.size, 1, none⟩) hlt]; simp
  · rw [hb.cell (p := ⟨w.heap.size, 2, none⟩) hlt]; simp
  · rw [hb.cell (p := ⟨w.heap.size, 3, none⟩) hlt]; simp
  · rw [hb.frozen (p := ⟨w.heap.size, i, none⟩) hlt]; simp
  · exact Nat.lt_of_lt_of_le hlt hb.size

set_option maxHeartbeats 400000 in
theorem find_any (A : Option Addr) (l : List Ent) (c : Nat) (x : ByteArray) (w : World) (hl : ER w w.heap.size A l) (hn : l.length ≤ 250) :
    Calls Tryd.prog 8 #[.slice A l.length c, .string x] w fun e w' => e = .returned (find l x).val ∧ Below w.heap.size w w' := by
  have hlH := Lib.hid hl
  clear hl
  cases hi : fIdx? l x with
  | none =>
    have hf := Lib.hid (find_miss l x hi)
    have Hi := Lib.hid hi
    clear hi
    go_enter Tryd.func8, Tryd.ntmps8
    go_wp2_with fail
    refine (index_none A l c x _ ((hlH.out.below ((Below.refl _ _).alloc (Nat.le_refl _) _)).more (by simp)) hn Hi.out).mono ?_
    rintro e w' ⟨rfl, hb'⟩
    have hb : Below w.heap.size w w' := ((Below.refl _ _).alloc (Nat.le_refl _) _).trans (hb'.mono (by simp))
    obtain ⟨⟨q0, q1, q2, q3⟩, qf, qs⟩ := res4 hb'
    go_wp2
    refine bodyPost_ret (v := .agg #[.string x, .int .i64 0, .bool false, .bool false]) (by simp [results, Tryd.results8, go_sem, q0, q1, q2, q3]) rfl ⟨?_, ?_⟩
    · rw [hf.out]; rfl
    · exact (((hb.setCell (Nat.le_refl _) _).setCell (Nat.le_refl _) _).setCell (Nat.le_refl _) _).setCell (Nat.le_refl _) _
  | some i =>
    obtain ⟨hi', hf', _⟩ := find_hit l x i hi
    have hf := Lib.hid hf'
    have Hi := Lib.hid hi
    clear hi hf'
    go_enter Tryd.func8, Tryd.ntmps8
    go_wp2_with fail
    refine (index_some A l c x _ ((hlH.out.below ((Below.refl _ _).alloc (Nat.le_refl _) _)).more (by simp)) hn i Hi.out).mono ?_
    rintro e w' ⟨rfl, hb'⟩
    have hb : Below w.heap.size w w' := ((Below.refl _ _).alloc (Nat.le_refl _) _).trans (hb'.mono (by simp))
    obtain ⟨⟨q0, q1, q2, q3⟩, qf, qs⟩ := res4 hb'
    obtain ⟨b, off, rfl, hbl, he⟩ := (hlH.out.below hb).at_ hi'
    obtain ⟨h0, h1, h2, h3⟩ := he
    have hne : ¬ b = w.heap.size := by omega
    go_wp2
    refine bodyPost_ret (v := l[i].val) (by simp [results, Tryd.results8, go_sem, q0, q1, q2, q3]; rfl) rfl ⟨?_, ?_⟩
    · rw [hf.out]
    · exact (((hb.setCell (Nat.le_refl _) _).setCell (Nat.le_refl _) _).setCell (Nat.le_refl _) _).setCell (Nat.le_refl _) _
end Go.Proofs.YthhnbfndmjpdgaaDoor.Od
