/- Contract of the reference's glyphs: it returns the same list of glyphs. -/
import Derived.Test.YthgkdeaapjdadaaDoorBasic
import Derived.Deep.RegionHeld3
import Derived.Deep.AppendLies
import Derived.Laws.BytesString
import Derived.Laws.OwnMore
namespace Go.Proofs.YthgkdeaapjdadaaDoor
open Go.RowKit

def rgrow (n : List UInt8) (W I h d : Int) (k : Nat) : Gl := ⟨n ++ [UInt8.ofNat (48 + k)], W + 80 * (k : Int), h + 300 * (k : Int), d + 300 * (k : Int), I, 0⟩
def rthree (n : List UInt8) (W I h d : Int) (k : Nat) : List Gl := (List.range k).map fun j => rgrow n W I h d (j + 1)
def rstepS (l : List Gl) (n : List UInt8) : List Gl := l ++ rthree n (findV l n).w (findV l n).it (hdOf n).1 (hdOf n).2 3
def RGS (i : Nat) : List Gl := (largeN.take i).foldl rstepS basicL
def rpartsG (n : List UInt8) (W : Int) : List Gl := [⟨n ++ [98, 111, 116], W, 900, 0, 0, 0⟩, ⟨n ++ [101, 120, 116], W, 300, 0, 0, 0⟩, ⟨n ++ [116, 111, 112], W, 900, 0, 0, 0⟩]
def rstepP (l : List Gl) (n : List UInt8) : List Gl := l ++ rpartsG n (findV l (n ++ [51])).w
def RGP (j : Nat) : List Gl := (asmN.take j).foldl rstepP (RGS 14)
def att (g : Gl) : Gl := ⟨g.name, g.w, g.h, g.d, g.it, g.w / 2⟩
def RGF : List Gl := (RGP 8).map att
def glT (g : Gl) : List UInt8 × Int × Int × Int × Int × Int := (g.name, g.w, g.h, g.d, g.it, g.at_)
theorem glT_inj (a b : List Gl) (h : a.map glT = b.map glT) : a = b := by
  induction a generalizing b with
  | nil => cases b with
    | nil => rfl
    | cons x l => cases h
  | cons x l ih =>
    cases b with
    | nil => cases h
    | cons y m =>
      simp only [List.map_cons, List.cons.injEq] at h
      obtain ⟨h1, h2⟩ := h
      obtain ⟨a1, a2, a3, a4, a5, a6⟩ := x
      obtain ⟨b1, b2, b3, b4, b5, b6⟩ := y
      simp only [glT, Prod.mk.injEq] at h1
      obtain ⟨rfl, rfl, rfl, rfl, rfl, rfl⟩ := h1
      rw [ih m h2]
theorem rgf_eq : RGF = GF := glT_inj _ _ (by decide +kernel)
theorem RGS_succ (i : Nat) (h : i < largeN.length) : RGS (i + 1) = rstepS (RGS i) largeN[i] := by
  unfold RGS
  rw [List.take_succ_eq_append_getElem h, List.foldl_append]; rfl
theorem RGP_succ (i : Nat) (h : i < asmN.length) : RGP (i + 1) = rstepP (RGP i) asmN[i] := by
  unfold RGP
  rw [List.take_succ_eq_append_getElem h, List.foldl_append]; rfl
theorem rgs_ok : (List.range 14).all (fun i => decide (0 ≤ (findV (RGS i) (largeN.getD i [])).w) && decide ((findV (RGS i) (largeN.getD i [])).w ≤ 10000) && decide ((RGS i).length ≤ 900) && decide ((largeN.getD i []).length ≤ 10)) = true := by decide +kernel
theorem rgp_ok : (List.range 8).all (fun i => decide ((RGP i).length ≤ 900) && decide ((asmN.getD i []).length ≤ 10)) = true := by decide +kernel
theorem rgf_ok : (RGP 8).length ≤ 900 ∧ (RGP 8).all (fun g => decide (0 ≤ g.w) && decide (g.w ≤ 10000)) = true := by decide +kernel
theorem rgs_bnd (i : Nat) (h : i < largeN.length) : 0 ≤ (findV (RGS i) largeN[i]).w ∧ (findV (RGS i) largeN[i]).w ≤ 10000 ∧ (RGS i).length ≤ 900 ∧ largeN[i].length ≤ 10 := by
  have h14 : i < 14 := h
  have := List.all_eq_true.1 rgs_ok i (List.mem_range.2 h14)
  rw [getD_at _ i h] at this
  simp only [Bool.and_eq_true, decide_eq_true_eq] at this
  exact ⟨this.1.1.1, this.1.1.2, this.1.2, this.2⟩
theorem rgp_bnd (i : Nat) (h : i < asmN.length) : (RGP i).length ≤ 900 ∧ asmN[i].length ≤ 10 := by
  have h8 : i < 8 := h
  have := List.all_eq_true.1 rgp_ok i (List.mem_range.2 h8)
  rw [getD_at _ i h] at this
  simp only [Bool.and_eq_true, decide_eq_true_eq] at this
  exact ⟨this.1, this.2⟩
theorem rthree_succ (n : List UInt8) (W I h d : Int) (k : Nat) : rthree n W I h d (k + 1) = rthree n W I h d k ++ [rgrow n W I h d (k + 1)] := by
  unfold rthree; rw [List.range_succ, List.map_append]; rfl
theorem rthree_len (n : List UInt8) (W I h d : Int) (k : Nat) : (rthree n W I h d k).length = k := by unfold rthree; simp
end Go.Proofs.YthgkdeaapjdadaaDoor
