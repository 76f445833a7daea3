/- sum 36, awake 11. -/
import Derived.Test.YtkjhfbgdmmnadaaGreatFr2
namespace Go.Proofs.YtkjhfbgdmmnadaaGreat
open Go.RowKit

def vi : T := .mk 2 [105] [] [] []
def vx : T := .mk 2 [120] [] [] []
def vn : T := .mk 2 [110] [] [] []
def v1 : T := .mk 1 [49] [] [] []
def tms : T := .mk 4 [116, 105, 109, 101, 115] [] [vi, vx] []
def sumT : T := .mk 5 [115, 117, 109] [105] [v1, vn, tms] []
theorem sum_free : freeL sumT = [[110], [120]] := by decide +kernel
theorem sum_SA : SA sumT := by
  unfold sumT tms v1 vn vi vx
  simp [SA, SAs, Short, T.name, T.var, T.form]
theorem sum_mem (w5 : World) (K : Nat) (hK : w5.heap.size = K) : TRs ((w5.alloc (.cells #[.int .i64 2, .string ⟨#[105]⟩, .string ⟨#[]⟩, .slice none 0 0, .string ⟨#[]⟩, .int .i64 2, .string ⟨#[120]⟩, .string ⟨#[]⟩, .slice none 0 0, .string ⟨#[]⟩] 24)).alloc
      (.cells #[.int .i64 1, .string ⟨#[49]⟩, .string ⟨#[]⟩, .slice none 0 0, .string ⟨#[]⟩, .int .i64 2, .string ⟨#[110]⟩, .string ⟨#[]⟩, .slice none 0 0, .string ⟨#[]⟩, .int .i64 4, .string ⟨#[116, 105, 109, 101, 115]⟩, .string ⟨#[]⟩, .slice (some ⟨K, 0, none⟩) 2 2, .string ⟨#[]⟩] 24)) (K + 2) (K + 1) 0 [v1, vn, tms] := by
  subst hK
  unfold v1 vn tms vi vx
  simp [TRs, TR]
  refine ⟨⟨none, 0, ⟨rfl, rfl⟩, by omega⟩, some ⟨w5.heap.size, 0, none⟩, 2, ⟨rfl, rfl⟩, ⟨by omega, by omega⟩, w5.heap.size, 0, rfl, ?_⟩
  simp
  exact ⟨none, 0, ⟨rfl, rfl⟩, by omega⟩
set_option maxRecDepth 100000 in
set_option maxHeartbeats 2000000 in
theorem sum36_any (w : World) : Calls Tryz.prog 15 #[] w fun e w' => ∃ A, e = .returned (.agg (tv sumT A 3)) ∧ TV w' w'.heap.size sumT A 3 ∧ Below w.heap.size w w' := by
  go_enter Tryz.func15, Tryz.ntmps15
  go_wp2_with fail
  refine bodyPost_ret (v := .agg (tv sumT (some ⟨w.heap.size + 1 + 1 + 1 + 1 + 1 + 1, 0, none⟩) 3)) (by simp [results, Tryz.results15, go_sem, tv, sumT, T.kind, T.name, T.var, T.args, T.form]) rfl ⟨some ⟨w.heap.size + 1 + 1 + 1 + 1 + 1 + 1, 0, none⟩, rfl, ⟨⟨by decide, by decide⟩, fun _ => ⟨w.heap.size + 1 + 1 + 1 + 1 + 1 + 1, 0, rfl, ?_⟩⟩, ?_⟩
  · exact (sum_mem _ (w.heap.size + 1 + 1 + 1 + 1 + 1) (by simp)).more (by simp)
  · exact ((((((((Below.refl _ _).alloc (Nat.le_refl _) _).alloc (by simp) _).alloc (by simp; omega) _).alloc (by simp; omega) _).alloc (by simp; omega) _).alloc (by simp; omega) _).alloc (by simp; omega) _)

set_option maxRecDepth 100000 in
set_option maxHeartbeats 2000000 in
theorem awake11_any (w : World) (hm : Max w) : Calls Tryz.prog 5 #[] w fun e w' => e = .returned (.bool true) ∧ Below w.heap.size w w' := by
  have HM := Lib.hid hm
  clear hm
  go_enter Tryz.func5, Tryz.ntmps5
  go_wp2_with fail
  refine (sum36_any w).mono ?_
  rintro e w1 ⟨A, rfl, hv, hb⟩
  have HC := Lib.hid (free20_any sumT A 3 w1 hv sum_SA (HM.out.below hb))
  have HB := Lib.hid hb
  clear hv hb
  rw [sum_free] at HC
  generalize tv sumT A 3 = cs at *
  go_wp2_with fail
  refine HC.out.mono ?_
  rintro e w2 ⟨v, rfl, hrl, hb2⟩
  have HB2 := Lib.hid (HB.out.trans (hb2.mono HB.out.size))
  obtain ⟨A2, c2, rfl, ⟨hc1, hc2⟩, hcell⟩ := hrl.sl
  obtain ⟨b, o, rfl, hbl, hx⟩ := hcell (by simp)
  have h0 := hx 0 (by decide)
  have h1 := hx 1 (by decide)
  simp only [List.getElem_cons_zero, List.getElem_cons_succ, List.length_cons, List.length_nil, Nat.add_zero] at h0 h1 hc1
  clear hcell hx hrl hb2 HC
  go_wp2_with fail
  go_ret
  exact ⟨rfl, HB2.out⟩
end Go.Proofs.YtkjhfbgdmmnadaaGreat
