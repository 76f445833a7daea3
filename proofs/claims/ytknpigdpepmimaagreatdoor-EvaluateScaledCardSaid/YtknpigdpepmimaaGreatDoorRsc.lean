/- Rescaled values, plain: what unit.Rescale computes for positive whole factors. No program. -/
import Derived.Test.YtknpigdpepmimaaGreatDoorM41
namespace Go.Proofs.YtknpigdpepmimaaGreatDoor

/-- seven whole factors from 1 to 12 -/
structure Pf where
  a : Nat
  b : Nat
  c : Nat
  d : Nat
  e : Nat
  f : Nat
  g : Nat
  ha : 1 ≤ a ∧ a ≤ 12
  hb : 1 ≤ b ∧ b ≤ 12
  hc : 1 ≤ c ∧ c ≤ 12
  hd : 1 ≤ d ∧ d ≤ 12
  he : 1 ≤ e ∧ e ≤ 12
  hf : 1 ≤ f ∧ f ≤ 12
  hg : 1 ≤ g ∧ g ≤ 12
theorem nat_pos {n : Nat} (h : 1 ≤ n ∧ n ≤ 12) : (0 : Rat) < (((n : Nat) : Int) : Rat) := Rat.intCast_pos.2 (by omega)
def Pf.F (p : Pf) : Fs := ⟨(((p.a : Nat) : Int) : Rat), (((p.b : Nat) : Int) : Rat), (((p.c : Nat) : Int) : Rat), (((p.d : Nat) : Int) : Rat), (((p.e : Nat) : Int) : Rat), (((p.f : Nat) : Int) : Rat), (((p.g : Nat) : Int) : Rat), nat_pos p.ha, nat_pos p.hb, nat_pos p.hc, nat_pos p.hd, nat_pos p.he, nat_pos p.hf, nat_pos p.hg⟩
/-- the i-th factor, the i-th exponent -/
def Pf.at (p : Pf) : Nat → Nat
  | 0 => p.a | 1 => p.b | 2 => p.c | 3 => p.d | 4 => p.e | 5 => p.f | _ => p.g
def Dm.at (x : Dm) : Nat → Int
  | 0 => x.a | 1 => x.b | 2 => x.c | 3 => x.d | 4 => x.e | 5 => x.f | _ => x.g
theorem Pf.at_bnd (p : Pf) (i : Nat) : 1 ≤ p.at i ∧ p.at i ≤ 12 := by
  rcases i with _ | _ | _ | _ | _ | _ | i
  · exact p.ha
  · exact p.hb
  · exact p.hc
  · exact p.hd
  · exact p.he
  · exact p.hf
  · exact p.hg
/-- the product of the first i powers -/
def Pf.upTo (p : Pf) (x : Dm) : Nat → Rat
  | 0 => 1
  | i + 1 => p.upTo x i * (((p.at i : Nat) : Int) : Rat) ^ x.at i
theorem Pf.up7 (p : Pf) (x : Dm) : p.upTo x 7 = p.F.P x := by
  unfold Pf.upTo Pf.upTo Pf.upTo Pf.upTo Pf.upTo Pf.upTo Pf.upTo Pf.upTo Fs.P Pf.F
  rw [Rat.one_mul]
  rfl
theorem whole_valid {n : Nat} (h : 1 ≤ n ∧ n ≤ 12) : Q.validQ (n : Int) 1 = true := (wh_ok (n := (n : Int)) (by omega)).1
theorem rs_step {n d e : Int} {a : Nat} {R : Rat} (hv : Q.validQ n d = true) (ha : 1 ≤ a ∧ a ≤ 12) (hR : (n : Rat) / (d : Rat) = R) (h1 : (Q.powQ a 1 e).err = 0) (h2 : (Q.mulQ n d (Q.powQ a 1 e).num (Q.powQ a 1 e).den).err = 0) :
    Q.validQ (Q.mulQ n d (Q.powQ a 1 e).num (Q.powQ a 1 e).den).num (Q.mulQ n d (Q.powQ a 1 e).num (Q.powQ a 1 e).den).den = true ∧
    ((Q.mulQ n d (Q.powQ a 1 e).num (Q.powQ a 1 e).den).num : Rat) / ((Q.mulQ n d (Q.powQ a 1 e).num (Q.powQ a 1 e).den).den : Rat) = R * (((a : Nat) : Int) : Rat) ^ e := by
  refine ⟨mul_valid h2, ?_⟩
  have hp := powQ_quo (whole_valid ha) h1
  have hpv := pow_valid h1
  have d1 : ((Q.powQ a 1 e).den : Rat) ≠ 0 := cast_ne (by have := ((Q.valid_iff _ _).1 hpv).1; omega)
  have d2 : (d : Rat) ≠ 0 := cast_ne (by have := ((Q.valid_iff _ _).1 hv).1; omega)
  generalize Q.powQ a 1 e = q at *
  obtain ⟨qn, qd, qe⟩ := q
  dsimp only at *
  unfold Q.mulQ at h2 ⊢
  rw [if_pos (by rw [hv, hpv]; rfl)] at h2 ⊢
  rw [mk_quo h2, ← hR]
  have e1 : (((a : Int) : Rat) / ((1 : Int) : Rat)) = ((a : Int) : Rat) := by simp; grind
  rw [e1] at hp
  rw [← hp]
  simp only [Rat.intCast_mul]
  grind
theorem rs_fin {p : Pf} {v : V} {n d : Int} (hv : v.ok) (hn : Q.validQ n d = true) (hR : (n : Rat) / (d : Rat) = p.upTo v.dim 7) (h : (Q.divQ v.num v.den n d).err = 0) :
    Scl p.F v ⟨(Q.divQ v.num v.den n d).num, (Q.divQ v.num v.den n d).den, v.dim⟩ := by
  refine ⟨⟨div_valid h, hv.2⟩, rfl, ?_⟩
  rw [p.up7] at hR
  have hP := p.F.P_ne v.dim
  have d2 : (d : Rat) ≠ 0 := cast_ne (by have := ((Q.valid_iff _ _).1 hn).1; omega)
  have e1 := hv.den_ne
  have n0 : (n : Rat) ≠ 0 := fun e => hP (by rw [← hR, e]; grind)
  show ((Q.divQ v.num v.den n d).num : Rat) / ((Q.divQ v.num v.den n d).den : Rat) * _ = _
  unfold Q.divQ at h ⊢
  rw [if_pos (by rw [hv.1, hn]; rfl)] at h ⊢
  rw [mk_quo h, ← hR]
  unfold qv
  simp only [Rat.intCast_mul]
  grind
end Go.Proofs.YtknpigdpepmimaaGreatDoor
