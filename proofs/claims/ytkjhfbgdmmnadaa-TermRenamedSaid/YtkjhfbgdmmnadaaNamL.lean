/- The walk of TermNames. -/
import Derived.Test.YtkjhfbgdmmnadaaAwk
import Derived.Test.YtkjhfbgdmmnadaaRNm
import Derived.Deep.RegionHeldLaw
namespace Go.Proofs.Ytkjhfbgdmmnadaa
open Go.RowKit

theorem below_drew1 {B : Nat} {w0 w : World} (h : Below B w0 w) : Below B w0 w.drew := ⟨h.os, h.tape, h.output, h.size, h.block⟩
/-- the cells of a boxed term -/
def Bx (w : World) (b : Nat) (t : T) (A : Option Addr) (c : Nat) : Prop :=
  w.cell? ⟨b, 0, none⟩ = some (.int .i64 t.kind) ∧ w.cell? ⟨b, 1, none⟩ = some (.string ⟨t.name.toArray⟩) ∧ w.cell? ⟨b, 2, none⟩ = some (.string ⟨t.var.toArray⟩) ∧ w.cell? ⟨b, 3, none⟩ = some (.slice A t.args.length c) ∧ w.cell? ⟨b, 4, none⟩ = some (.string ⟨t.form.toArray⟩)
theorem Bx.below {w w' : World} {B b : Nat} {t : T} {A : Option Addr} {c : Nat} (h : Bx w b t A c) (hb : Below B w w') (hlt : b < B) : Bx w' b t A c :=
  ⟨(hb.cell (p := ⟨b, 0, none⟩) hlt).trans h.1, (hb.cell (p := ⟨b, 1, none⟩) hlt).trans h.2.1, (hb.cell (p := ⟨b, 2, none⟩) hlt).trans h.2.2.1, (hb.cell (p := ⟨b, 3, none⟩) hlt).trans h.2.2.2.1, (hb.cell (p := ⟨b, 4, none⟩) hlt).trans h.2.2.2.2⟩
theorem bx_new (w : World) (t : T) (A : Option Addr) (c : Nat) : Bx (w.alloc (.cells (tv t A c) 24)) w.heap.size t A c := ⟨by simp [tv], by simp [tv], by simp [tv], by simp [tv], by simp [tv]⟩
theorem few_SA {t : T} (h : fewB t = true) : SA t := lft_SA t 200 (of_decide_eq_true h)
theorem same_self (l : List W8) : sameB l l = true := decide_eq_true rfl
theorem below_dn (w : World) (n : Nat) : Below w.heap.size w (w.drewN n) := below_drewNB (Below.refl _ _) n

set_option maxRecDepth 100000 in
set_option maxHeartbeats 4000000 in
theorem names_walk (t : T) (A : Option Addr) (c : Nat) (w : World) (hv : TV w w.heap.size t A c) (hm : Max w) :
    Calls Try.prog 4 #[.agg (tv t A c)] w fun e w' => e = .returned (.bool true) ∧ Below w.heap.size w w' := by
  have hb0 : Below w.heap.size w (w.alloc (.cells (tv t A c) 24)) := (Below.refl _ _).alloc (Nat.le_refl _) _
  have HB0 := Lib.hid hb0
  have HV := Lib.hid fun w' (hb : Below w.heap.size w w') => (hv.below hb).more hb.size
  have HM := Lib.hid fun w' (hb : Below w.heap.size w w') => hm.below hb
  have HBX := Lib.hid (bx_new w t A c)
  have HI := Lib.hid (tv_info t A c)
  have HF := Lib.hid (blk_new w (.cells (tv t A c) 24))
  have hls : w.heap.size < (w.alloc (.cells (tv t A c) 24)).heap.size := by simp
  have HTV : Hid (tv t A c = #[.int .i64 t.kind, .string ⟨t.name.toArray⟩, .string ⟨t.var.toArray⟩, .slice A t.args.length c, .string ⟨t.form.toArray⟩]) := rfl
  clear hb0 hv hm
  go_enter Try.func4, Try.ntmps4
  go_wp2_with fail
  refine (awake11_any _ (HM.out _ HB0.out)).mono ?_
  rintro e w1 ⟨rfl, hb1⟩
  have HB1 := Lib.hid (HB0.out.trans (hb1.mono HB0.out.size))
  have HF1 : Hid (w1.heap[w.heap.size]? = some (.cells (tv t A c) 24)) := (hb1.block _ hls).trans HF.out
  have HBX1 := Lib.hid (HBX.out.below hb1 hls)
  have hls1 : w.heap.size < w1.heap.size := by have := hb1.size; omega
  clear hb1 HB0 HBX HF hls
  have HFW := Lib.hid (few_any t A c w1 (HV.out _ HB1.out))
  generalize hcs : tv t A c = cs at *
  go_wp2_with (with_reducible refine wpList_load_row rfl 24 (.tmp 1) rfl w.heap.size rfl 24 cs (0, 0) _ HF1.out Try.underlying24 rfl HI.out ?_)
  refine HFW.out.mono ?_
  rintro e w2 ⟨rfl, hb2⟩
  have HB2 := Lib.hid (HB1.out.trans (hb2.mono HB1.out.size))
  have HBX2 := Lib.hid (HBX1.out.below hb2 hls1)
  have hls2 : w.heap.size < w2.heap.size := by have := hb2.size; omega
  clear hb2 HB1 HBX1 HF1 hls1 HFW
  cases hfe : fewB t with
  | false =>
    clear hfe
    go_wp2_with fail
    go_ret
    exact ⟨rfl, HB2.out⟩
  | true =>
    have HS := Lib.hid (few_SA hfe)
    clear hfe
    subst hcs
    have HK := Lib.hid fun w' (hb : Below w2.heap.size w2 w') => HBX2.out.below hb hls2
    have HC20 := Lib.hid fun w' (hb : Below w2.heap.size w2 w') => free20_any t A c w' (HV.out _ (HB2.out.trans (hb.mono HB2.out.size))) HS.out (HM.out _ (HB2.out.trans (hb.mono HB2.out.size)))
    have HC21 := Lib.hid fun w' (hb : Below w2.heap.size w2 w') => free21_any t A c w' (HV.out _ (HB2.out.trans (hb.mono HB2.out.size))) HS.out
    have HC22 := Lib.hid fun w' (hb : Below w2.heap.size w2 w') => names22_any t A c w' (HV.out _ (HB2.out.trans (hb.mono HB2.out.size))) HS.out (HM.out _ (HB2.out.trans (hb.mono HB2.out.size)))
    have HC23 := Lib.hid fun w' (hb : Below w2.heap.size w2 w') => names23_any t A c w' (HV.out _ (HB2.out.trans (hb.mono HB2.out.size))) HS.out
    unfold tv at HC20 HC21 HC22 HC23
    have HSF := Lib.hid (same_self (freeL t))
    have HSN := Lib.hid (same_self (namesL t))
    unfold Bx at HK
    clear HBX2 HI HTV HV
    generalize freeL t = lf at *
    generalize namesL t = ln at *
    go_upto_region 5 with (fail)
    go_cut [2] (fun s2 wx => s2 = .bool true ∧ Aside (Below w2.heap.size w2 wx))
    case first =>
      refine wp_region_noPanic ?_
      go_region_held_law (fun w' => w'.cell? ⟨w.heap.size, 0, none⟩ = some (.int .i64 t.kind) ∧ w'.cell? ⟨w.heap.size, 1, none⟩ = some (.string ⟨t.name.toArray⟩) ∧ w'.cell? ⟨w.heap.size, 2, none⟩ = some (.string ⟨t.var.toArray⟩) ∧ w'.cell? ⟨w.heap.size, 3, none⟩ = some (.slice A t.args.length c) ∧ w'.cell? ⟨w.heap.size, 4, none⟩ = some (.string ⟨t.form.toArray⟩))
        (first
          | exact HK.out _ (below_drew1 (Below.refl _ _))
          | exact HK.out _ HBs2.out
          | exact HK.out _ HBn2.out
          | exact HK.out _ HBn1.out
          | exact HK.out _ HBs1.out
          | exact HK.out _ HBf2.out
          | exact HK.out _ HBf1.out)
        (first
          | (go_at_call 20; first
              | ((with_reducible refine (HC20.out _ (below_drew1 (Below.refl w2.heap.size w2))).mono ?_); rintro e wa ⟨va, rfl, hra, hba⟩; have HSa := Lib.hid hra.sl; have HBa := Lib.hid hba; have HBf1 := Lib.hid (((below_drew1 (Below.refl w2.heap.size w2))).trans (hba.mono ((below_drew1 (Below.refl w2.heap.size w2))).size)); clear hra hba)
              | ((with_reducible refine (HC20.out _ HBf1.out).mono ?_); rintro e wa ⟨va, rfl, hra, hba⟩; have HSa := Lib.hid hra.sl; have HBa := Lib.hid hba; have HBf2 := Lib.hid (HBf1.out.trans (hba.mono HBf1.out.size)); clear hra hba))
          | (go_at_call 21; first
              | ((with_reducible refine (HC21.out _ (below_drew1 (Below.refl w2.heap.size w2))).mono ?_); rintro e wb ⟨vb, rfl, hrb, hbb⟩; have HSb := Lib.hid hrb; have HBb := Lib.hid hbb; have HBf1 := Lib.hid (((below_drew1 (Below.refl w2.heap.size w2))).trans (hbb.mono ((below_drew1 (Below.refl w2.heap.size w2))).size)); clear hrb hbb)
              | ((with_reducible refine (HC21.out _ HBf1.out).mono ?_); rintro e wb ⟨vb, rfl, hrb, hbb⟩; have HSb := Lib.hid hrb; have HBb := Lib.hid hbb; have HBf2 := Lib.hid (HBf1.out.trans (hbb.mono HBf1.out.size)); clear hrb hbb))
          | (go_at_call 19; first
              | ((with_reducible refine (same19_any va vb lf lf _ (by first | exact HSa.out | exact SL.reach HSa.out HBb.out) (by first | exact HSb.out | exact SL.reach HSb.out HBa.out)).mono ?_); rw [HSF.out]; rintro e wx ⟨rfl, nx, rfl⟩; have HBs1 := Lib.hid (HBf2.out.trans ((below_dn _ nx).mono HBf2.out.size)))
              | ((with_reducible refine (same19_any vc vd ln ln _ (by first | exact HSc.out | exact SL.reach HSc.out HBd.out) (by first | exact HSd.out | exact SL.reach HSd.out HBc.out)).mono ?_); rw [HSN.out]; rintro e wx ⟨rfl, nx, rfl⟩; have HBs2 := Lib.hid (HBn2.out.trans ((below_dn _ nx).mono HBn2.out.size))))
          | (go_at_call 22; first
              | ((with_reducible refine (HC22.out _ HBs1.out).mono ?_); rintro e wc ⟨vc, rfl, hrc, hbc⟩; have HSc := Lib.hid hrc.sl; have HBc := Lib.hid hbc; have HBn1 := Lib.hid ((HBs1.out).trans (hbc.mono (HBs1.out).size)); clear hrc hbc)
              | ((with_reducible refine (HC22.out _ HBn1.out).mono ?_); rintro e wc ⟨vc, rfl, hrc, hbc⟩; have HSc := Lib.hid hrc.sl; have HBc := Lib.hid hbc; have HBn2 := Lib.hid (HBn1.out.trans (hbc.mono HBn1.out.size)); clear hrc hbc))
          | (go_at_call 23; first
              | ((with_reducible refine (HC23.out _ HBs1.out).mono ?_); rintro e wd ⟨vd, rfl, hrd, hbd⟩; have HSd := Lib.hid hrd; have HBd := Lib.hid hbd; have HBn1 := Lib.hid ((HBs1.out).trans (hbd.mono (HBs1.out).size)); clear hrd hbd)
              | ((with_reducible refine (HC23.out _ HBn1.out).mono ?_); rintro e wd ⟨vd, rfl, hrd, hbd⟩; have HSd := Lib.hid hrd; have HBd := Lib.hid hbd; have HBn2 := Lib.hid (HBn1.out.trans (hbd.mono HBn1.out.size)); clear hrd hbd)))
      all_goals
        refine NoPanic.normal ?_
        go_wp2_with fail
        go_meet
        case rel => exact ⟨rfl, HBs2.out⟩
    case rest =>
      obtain ⟨rfl, HB3⟩ := hcut
      go_wp2_with fail
      go_ret
      exact ⟨rfl, HB2.out.trans (HB3.out.mono HB2.out.size)⟩
end Go.Proofs.Ytkjhfbgdmmnadaa
