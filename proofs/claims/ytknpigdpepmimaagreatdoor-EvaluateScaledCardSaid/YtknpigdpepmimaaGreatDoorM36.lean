/- Contracts of unit.All$1 172 .. All$4 175, unit.All 131. Contract of unit.All 131. Contract of unit.Find 81. -/
import Derived.Laws.EntriesVeiled
import Derived.Test.YtknpigdpepmimaaGreatDoorM35
import Derived.Great.BuildSlice
import Derived.Test.YtknpigdpepmimaaGreatDoorM29
namespace Go.Proofs.YtknpigdpepmimaaGreatDoor
open Go.RowKit
set_option maxRecDepth 100000 in
set_option maxHeartbeats 2000000 in
theorem value172_any (n d : Int) (x : Dm) (w : World) : Calls Tryz.prog 172 #[.int .i64 n, .int .i64 d, .agg #[.int .i64 x.a, .int .i64 x.b, .int .i64 x.c, .int .i64 x.d, .int .i64 x.e, .int .i64 x.f, .int .i64 x.g]] w fun e w' => e = .returned (.agg (V.mk n d x).cells) ∧ Below w.heap.size w w' := by
  have HB := Lib.hid (b2 w (.cells #[.int .i64 x.a, .int .i64 x.b, .int .i64 x.c, .int .i64 x.d, .int .i64 x.e, .int .i64 x.f, .int .i64 x.g] 42) (.cells zV.cells 44))
  have hk1 := (K7.new w x).reach (b1 _ (.cells zV.cells 44))
  have hk2 : K9 ((w.alloc (.cells #[.int .i64 x.a, .int .i64 x.b, .int .i64 x.c, .int .i64 x.d, .int .i64 x.e, .int .i64 x.f, .int .i64 x.g] 42)).alloc (.cells zV.cells 44)) (w.heap.size + 1) zV := by
    have := K9.new (w.alloc (.cells #[.int .i64 x.a, .int .i64 x.b, .int .i64 x.c, .int .i64 x.d, .int .i64 x.e, .int .i64 x.f, .int .i64 x.g] 42)) zV
    rw [World.size_alloc] at this
    exact this
  have HK1 := Lib.hid hk1
  have HK2 := Lib.hid hk2
  rw [zV_cells] at HB HK1 HK2
  clear hk1 hk2
  go_enter Tryz.func172, Tryz.ntmps172
  go_upto_region 1 with (fail)
  generalize (w.alloc (.cells #[.int .i64 x.a, .int .i64 x.b, .int .i64 x.c, .int .i64 x.d, .int .i64 x.e, .int .i64 x.f, .int .i64 x.g] 42)).alloc (.cells #[.int .i64 0, .int .i64 0, .int .i64 0, .int .i64 0, .int .i64 0, .int .i64 0, .int .i64 0, .int .i64 0, .int .i64 0] 44) = w1 at *
  obtain ⟨⟨p0, p1, p2, p3, p4, p5, p6⟩, _, _⟩ := HK1.out.cells
  obtain ⟨⟨⟨z0, z1⟩, z2, z3, z4, z5, z6, z7, z8⟩, zf, _⟩ := HK2.out.cells
  go_wp2_with fail
  refine bodyPost_ret (v := .agg (V.mk n d x).cells) (by simp [results, Tryz.results172, go_sem, V.cells, z0, z1, z2, z3, z4, z5, z6, z7, z8]) rfl ⟨rfl, ?_⟩
  exact below9 HB.out (b := w.heap.size + 1) (Nat.le_succ _) ⟨n, d, x⟩
set_option maxRecDepth 100000 in
set_option maxHeartbeats 2000000 in
theorem mass_any (n d : Int) (g : Nat) (w : World) (hg : w.cell? ⟨g, 0, none⟩ = some (.func (.func 172) #[] #[])) : Calls Tryz.prog 173 #[.int .i64 n, .int .i64 d, .pointer (some ⟨g, 0, none⟩)] w fun e w' => e = .returned (.agg (V.mk n d ⟨0, 1, 0, 0, 0, 0, 0⟩).cells) ∧ Below w.heap.size w w' := by
  have HB := Lib.hid (b1 w (.cells zV.cells 44))
  have HK2 : Hid (K9 (w.alloc (.cells zV.cells 44)) w.heap.size zV) := K9.new w zV
  rw [zV_cells] at HB HK2
  have HG := Lib.hid ((HB.out.cell (block_lt_of_cell hg)).trans hg)
  have HV := Lib.hid fun w => value172_any n d ⟨0, 1, 0, 0, 0, 0, 0⟩ w
  unfold V.cells at HV
  dsimp only at HV
  clear hg
  go_enter Tryz.func173, Tryz.ntmps173
  go_upto_region 1 with (fail)
  generalize w.alloc (.cells #[.int .i64 0, .int .i64 0, .int .i64 0, .int .i64 0, .int .i64 0, .int .i64 0, .int .i64 0, .int .i64 0, .int .i64 0] 44) = w1 at *
  have hg1 := HG.out
  go_wp2_with fail
  refine (HV.out _).mono ?_
  rintro e w2 ⟨rfl, hb⟩
  have HK3 := Lib.hid (HK2.out.reach hb)
  have HB3 := Lib.hid (bl_tr HB.out hb)
  clear hb hg1
  obtain ⟨⟨⟨z0, z1⟩, z2, z3, z4, z5, z6, z7, z8⟩, zf, _⟩ := HK3.out.cells
  go_wp2_with fail
  refine bodyPost_ret (v := .agg (V.mk n d ⟨0, 1, 0, 0, 0, 0, 0⟩).cells) (by simp [results, Tryz.results173, go_sem, V.cells, z0, z1, z2, z3, z4, z5, z6, z7, z8]) rfl ⟨rfl, ?_⟩
  exact below9 HB3.out (b := w.heap.size) (Nat.le_refl _) ⟨n, d, ⟨0, 1, 0, 0, 0, 0, 0⟩⟩
set_option maxRecDepth 100000 in
set_option maxHeartbeats 2000000 in
theorem length_any (n d : Int) (g : Nat) (w : World) (hg : w.cell? ⟨g, 0, none⟩ = some (.func (.func 172) #[] #[])) : Calls Tryz.prog 174 #[.int .i64 n, .int .i64 d, .pointer (some ⟨g, 0, none⟩)] w fun e w' => e = .returned (.agg (V.mk n d ⟨1, 0, 0, 0, 0, 0, 0⟩).cells) ∧ Below w.heap.size w w' := by
  have HB := Lib.hid (b1 w (.cells zV.cells 44))
  have HK2 : Hid (K9 (w.alloc (.cells zV.cells 44)) w.heap.size zV) := K9.new w zV
  rw [zV_cells] at HB HK2
  have HG := Lib.hid ((HB.out.cell (block_lt_of_cell hg)).trans hg)
  have HV := Lib.hid fun w => value172_any n d ⟨1, 0, 0, 0, 0, 0, 0⟩ w
  unfold V.cells at HV
  dsimp only at HV
  clear hg
  go_enter Tryz.func174, Tryz.ntmps174
  go_upto_region 1 with (fail)
  generalize w.alloc (.cells #[.int .i64 0, .int .i64 0, .int .i64 0, .int .i64 0, .int .i64 0, .int .i64 0, .int .i64 0, .int .i64 0, .int .i64 0] 44) = w1 at *
  have hg1 := HG.out
  go_wp2_with fail
  refine (HV.out _).mono ?_
  rintro e w2 ⟨rfl, hb⟩
  have HK3 := Lib.hid (HK2.out.reach hb)
  have HB3 := Lib.hid (bl_tr HB.out hb)
  clear hb hg1
  obtain ⟨⟨⟨z0, z1⟩, z2, z3, z4, z5, z6, z7, z8⟩, zf, _⟩ := HK3.out.cells
  go_wp2_with fail
  refine bodyPost_ret (v := .agg (V.mk n d ⟨1, 0, 0, 0, 0, 0, 0⟩).cells) (by simp [results, Tryz.results174, go_sem, V.cells, z0, z1, z2, z3, z4, z5, z6, z7, z8]) rfl ⟨rfl, ?_⟩
  exact below9 HB3.out (b := w.heap.size) (Nat.le_refl _) ⟨n, d, ⟨1, 0, 0, 0, 0, 0, 0⟩⟩
set_option maxRecDepth 100000 in
set_option maxHeartbeats 2000000 in
theorem time_any (n d : Int) (g : Nat) (w : World) (hg : w.cell? ⟨g, 0, none⟩ = some (.func (.func 172) #[] #[])) : Calls Tryz.prog 175 #[.int .i64 n, .int .i64 d, .pointer (some ⟨g, 0, none⟩)] w fun e w' => e = .returned (.agg (V.mk n d ⟨0, 0, 1, 0, 0, 0, 0⟩).cells) ∧ Below w.heap.size w w' := by
  have HB := Lib.hid (b1 w (.cells zV.cells 44))
  have HK2 : Hid (K9 (w.alloc (.cells zV.cells 44)) w.heap.size zV) := K9.new w zV
  rw [zV_cells] at HB HK2
  have HG := Lib.hid ((HB.out.cell (block_lt_of_cell hg)).trans hg)
  have HV := Lib.hid fun w => value172_any n d ⟨0, 0, 1, 0, 0, 0, 0⟩ w
  unfold V.cells at HV
  dsimp only at HV
  clear hg
  go_enter Tryz.func175, Tryz.ntmps175
  go_upto_region 1 with (fail)
  generalize w.alloc (.cells #[.int .i64 0, .int .i64 0, .int .i64 0, .int .i64 0, .int .i64 0, .int .i64 0, .int .i64 0, .int .i64 0, .int .i64 0] 44) = w1 at *
  have hg1 := HG.out
  go_wp2_with fail
  refine (HV.out _).mono ?_
  rintro e w2 ⟨rfl, hb⟩
  have HK3 := Lib.hid (HK2.out.reach hb)
  have HB3 := Lib.hid (bl_tr HB.out hb)
  clear hb hg1
  obtain ⟨⟨⟨z0, z1⟩, z2, z3, z4, z5, z6, z7, z8⟩, zf, _⟩ := HK3.out.cells
  go_wp2_with fail
  refine bodyPost_ret (v := .agg (V.mk n d ⟨0, 0, 1, 0, 0, 0, 0⟩).cells) (by simp [results, Tryz.results175, go_sem, V.cells, z0, z1, z2, z3, z4, z5, z6, z7, z8]) rfl ⟨rfl, ?_⟩
  exact below9 HB3.out (b := w.heap.size) (Nat.le_refl _) ⟨n, d, ⟨0, 0, 1, 0, 0, 0, 0⟩⟩
end Go.Proofs.YtknpigdpepmimaaGreatDoor

namespace Go.Proofs.YtknpigdpepmimaaGreatDoor
open Go.RowKit
theorem value_lit (n d a b c e f g h : Int) (w : World) : Calls Tryz.prog 172 #[.int .i64 n, .int .i64 d, .agg #[.int .i64 a, .int .i64 b, .int .i64 c, .int .i64 e, .int .i64 f, .int .i64 g, .int .i64 h]] w fun x w' => x = .returned (.agg #[.int .i64 n, .int .i64 d, .int .i64 a, .int .i64 b, .int .i64 c, .int .i64 e, .int .i64 f, .int .i64 g, .int .i64 h]) ∧ Below w.heap.size w w' := value172_any n d ⟨a, b, c, e, f, g, h⟩ w
theorem mass_lit (n d : Int) (g : Nat) (w : World) (hg : w.cell? ⟨g, 0, none⟩ = some (.func (.func 172) #[] #[])) : Calls Tryz.prog 173 #[.int .i64 n, .int .i64 d, .pointer (some ⟨g, 0, none⟩)] w fun e w' => e = .returned (.agg #[.int .i64 n, .int .i64 d, .int .i64 0, .int .i64 1, .int .i64 0, .int .i64 0, .int .i64 0, .int .i64 0, .int .i64 0]) ∧ Below w.heap.size w w' := mass_any n d g w hg
theorem length_lit (n d : Int) (g : Nat) (w : World) (hg : w.cell? ⟨g, 0, none⟩ = some (.func (.func 172) #[] #[])) : Calls Tryz.prog 174 #[.int .i64 n, .int .i64 d, .pointer (some ⟨g, 0, none⟩)] w fun e w' => e = .returned (.agg #[.int .i64 n, .int .i64 d, .int .i64 1, .int .i64 0, .int .i64 0, .int .i64 0, .int .i64 0, .int .i64 0, .int .i64 0]) ∧ Below w.heap.size w w' := length_any n d g w hg
theorem time_lit (n d : Int) (g : Nat) (w : World) (hg : w.cell? ⟨g, 0, none⟩ = some (.func (.func 172) #[] #[])) : Calls Tryz.prog 175 #[.int .i64 n, .int .i64 d, .pointer (some ⟨g, 0, none⟩)] w fun e w' => e = .returned (.agg #[.int .i64 n, .int .i64 d, .int .i64 0, .int .i64 0, .int .i64 1, .int .i64 0, .int .i64 0, .int .i64 0, .int .i64 0]) ∧ Below w.heap.size w w' := time_any n d g w hg
/-- the units in the order of the text -/
def unitL : List (List UInt8 × V) := [
  ([109], ⟨1, 1, ⟨1, 0, 0, 0, 0, 0, 0⟩⟩), ([107, 103], ⟨1, 1, ⟨0, 1, 0, 0, 0, 0, 0⟩⟩), ([115], ⟨1, 1, ⟨0, 0, 1, 0, 0, 0, 0⟩⟩), ([65], ⟨1, 1, ⟨0, 0, 0, 1, 0, 0, 0⟩⟩),
  ([75], ⟨1, 1, ⟨0, 0, 0, 0, 1, 0, 0⟩⟩), ([109, 111, 108], ⟨1, 1, ⟨0, 0, 0, 0, 0, 1, 0⟩⟩), ([99, 100], ⟨1, 1, ⟨0, 0, 0, 0, 0, 0, 1⟩⟩),
  ([107, 109], ⟨1000, 1, ⟨1, 0, 0, 0, 0, 0, 0⟩⟩), ([99, 109], ⟨1, 100, ⟨1, 0, 0, 0, 0, 0, 0⟩⟩), ([109, 109], ⟨1, 1000, ⟨1, 0, 0, 0, 0, 0, 0⟩⟩),
  ([103], ⟨1, 1000, ⟨0, 1, 0, 0, 0, 0, 0⟩⟩), ([116], ⟨1000, 1, ⟨0, 1, 0, 0, 0, 0, 0⟩⟩), ([109, 115], ⟨1, 1000, ⟨0, 0, 1, 0, 0, 0, 0⟩⟩),
  ([109, 105, 110], ⟨60, 1, ⟨0, 0, 1, 0, 0, 0, 0⟩⟩), ([104], ⟨3600, 1, ⟨0, 0, 1, 0, 0, 0, 0⟩⟩), ([100], ⟨86400, 1, ⟨0, 0, 1, 0, 0, 0, 0⟩⟩),
  ([72, 122], ⟨1, 1, ⟨0, 0, -1, 0, 0, 0, 0⟩⟩), ([78], ⟨1, 1, ⟨1, 1, -2, 0, 0, 0, 0⟩⟩), ([80, 97], ⟨1, 1, ⟨-1, 1, -2, 0, 0, 0, 0⟩⟩),
  ([74], ⟨1, 1, ⟨2, 1, -2, 0, 0, 0, 0⟩⟩), ([87], ⟨1, 1, ⟨2, 1, -3, 0, 0, 0, 0⟩⟩), ([67], ⟨1, 1, ⟨0, 0, 1, 1, 0, 0, 0⟩⟩),
  ([86], ⟨1, 1, ⟨2, 1, -3, -1, 0, 0, 0⟩⟩), ([111, 104, 109], ⟨1, 1, ⟨2, 1, -3, -2, 0, 0, 0⟩⟩), ([107, 87, 104], ⟨3600000, 1, ⟨2, 1, -2, 0, 0, 0, 0⟩⟩),
  ([108], ⟨1, 1000, ⟨3, 0, 0, 0, 0, 0, 0⟩⟩), ([37], ⟨1, 100, ⟨0, 0, 0, 0, 0, 0, 0⟩⟩)]
/-- the cells of one unit -/
def unitCells (p : List UInt8 × V) : List Value := .string ⟨p.1.toArray⟩ :: p.2.cells.toList
def unitC : Array Value := (unitL.flatMap unitCells).toArray
theorem unit_info : (Tryz.prog.info? 166).map (fun i => (i.zero, i.size, i.bytes)) = some (some (.agg #[.string ⟨#[]⟩, .int .i64 0, .int .i64 0, .int .i64 0, .int .i64 0, .int .i64 0, .int .i64 0, .int .i64 0, .int .i64 0, .int .i64 0]), 10, 88) := by kernel_rfl
def tab131 : List (List Nat × Nat × List Nat) := [([], 11, [4]), ([0], 12, [11]), ([1], 13, [12]), ([], 14, [3]), ([3, 1], 15, [14]), ([4], 16, [15]), ([], 17, [5]), ([6, 4], 18, [17]), ([7], 19, [18]), ([], 20, [2]), ([], 21, []), ([9, 10, 7], 22, [20, 21]), ([11], 23, [22]), ([], 24, [2]), ([], 25, []), ([13, 14, 11], 26, [24, 25]), ([15], 27, [26]), ([], 28, [2]), ([], 29, []), ([17, 18, 15], 30, [28, 29]), ([19], 31, [30]), ([], 32, [2]), ([], 33, []), ([21, 22, 19], 34, [32, 33]), ([23], 35, [34]), ([], 36, [4]), ([25, 23], 37, [36]), ([26], 38, [37]), ([], 39, [4]), ([28, 26], 40, [39]), ([29], 41, [40]), ([], 42, [4]), ([31, 29], 43, [42]), ([32], 44, [43]), ([], 45, [3]), ([34, 32], 46, [45]), ([35], 47, [46]), ([], 48, [3]), ([37, 35], 49, [48]), ([38], 50, [49]), ([], 51, [5]), ([40, 38], 52, [51]), ([41], 53, [52]), ([], 54, [5]), ([43, 41], 55, [54]), ([44], 56, [55]), ([], 57, [5]), ([46, 44], 58, [57]), ([47], 59, [58]), ([], 60, [5]), ([49, 47], 61, [60]), ([50], 62, [61]), ([], 63, [2]), ([], 64, []), ([52, 53, 50], 65, [63, 64]), ([54], 66, [65]), ([], 67, [2]), ([], 68, []), ([56, 57, 54], 69, [67, 68]), ([58], 70, [69]), ([], 71, [2]), ([], 72, []), ([60, 61, 58], 73, [71, 72]), ([62], 74, [73]), ([], 75, [2]), ([], 76, [6]), ([64, 65, 62], 77, [75, 76]), ([66], 78, [77]), ([], 79, [2]), ([], 80, []), ([68, 69, 66], 81, [79, 80]), ([70], 82, [81]), ([], 83, [2]), ([], 84, []), ([72, 73, 70], 85, [83, 84]), ([74], 86, [85]), ([], 87, [2]), ([], 88, []), ([76, 77, 74], 89, [87, 88]), ([78], 90, [89]), ([], 91, [2]), ([], 92, []), ([80, 81, 78], 93, [91, 92]), ([82], 94, [93]), ([], 95, [2]), ([], 96, [6]), ([84, 85, 82], 97, [95, 96]), ([86], 98, [97]), ([], 99, [2]), ([], 100, []), ([88, 89, 86], 101, [99, 100]), ([90], 102, [101]), ([], 103, [2]), ([], 104, []), ([92, 93, 90], 105, [103, 104]), ([94], 106, [105]), ([2, 5, 8, 12, 16, 20, 24, 27, 30, 33, 36, 39, 42, 45, 48, 51, 55, 59, 63, 67, 71, 75, 79, 83, 87, 91, 95], 107, [13, 16, 19, 23, 27, 31, 35, 38, 41, 44, 47, 50, 53, 56, 59, 62, 66, 70, 74, 78, 82, 86, 90, 94, 98, 102, 106]), ([96, 94, 0, 1, 2, 3, 4, 5, 6, 7, 8, 9, 10, 11, 12, 13, 14, 15, 16, 17, 18, 19, 20, 21, 22, 23, 24, 25, 26, 27, 28, 29, 30, 31, 32, 33, 34, 35, 36, 37, 38, 39, 40, 41, 42, 43, 44, 45, 46, 47, 48, 49, 50, 51, 52, 53, 54, 55, 56, 57, 58, 59, 60, 61, 62, 63, 64, 65, 66, 67, 68, 69, 70, 71, 72, 73, 74, 75, 76, 77, 78, 79, 80, 81, 82, 83, 84, 85, 86, 87, 88, 89, 90, 91, 92, 93, 94, 95, 96], 1, [107])]
theorem tab131_go : tabGo tab131 0 = true := by kernel_rfl
theorem tab131_sink : sinkT (tab131.take 97) 0 = true := by kernel_rfl
theorem tab131_ch : chT (tab131.drop 97) 96 = true := by kernel_rfl
set_option maxRecDepth 100000 in
set_option maxHeartbeats 4000000 in
theorem all_any (w : World) : Calls Tryz.prog 131 #[] w fun e w' => ∃ b, e = .returned (.slice (some ⟨b, 0, none⟩) 27 27) ∧ w.heap.size ≤ b ∧ w'.heap[b]? = some (.cells unitC 166 (0, 0)) ∧ Below w.heap.size w w' := by
  go_enter Tryz.func131, Tryz.ntmps131
  go_wp2_with fail
  have hb := b2 w (.cells #[.func (.func 172) #[] #[]] 208) (.cells #[.int .i64 2, .int .i64 1, .int .i64 (-2), .int .i64 0, .int .i64 0, .int .i64 0, .int .i64 0] 42)
  have k0 : ((w.alloc (.cells #[.func (.func 172) #[] #[]] 208)).alloc (.cells #[.int .i64 2, .int .i64 1, .int .i64 (-2), .int .i64 0, .int .i64 0, .int .i64 0, .int .i64 0] 42)).cell? ⟨w.heap.size, 0, none⟩ = some (.func (.func 172) #[] #[]) := by simp
  have k1 := (K7.new (w.alloc (.cells #[.func (.func 172) #[] #[]] 208)) ⟨2, 1, -2, 0, 0, 0, 0⟩)
  rw [World.size_alloc] at k1
  generalize (w.alloc (.cells #[.func (.func 172) #[] #[]] 208)).alloc (.cells #[.int .i64 2, .int .i64 1, .int .i64 (-2), .int .i64 0, .int .i64 0, .int .i64 0, .int .i64 0] 42) = w2 at *
  have HB := Lib.hid hb
  obtain ⟨⟨q0, q1, q2, q3, q4, q5, q6⟩, _, _⟩ := k1.cells
  dsimp only at q0 q1 q2 q3 q4 q5 q6
  have r := fun d os => cell_regrown k0 d os
  have r0 := fun d os => cell_regrown q0 d os
  have r1 := fun d os => cell_regrown q1 d os
  have r2 := fun d os => cell_regrown q2 d os
  have r3 := fun d os => cell_regrown q3 d os
  have r4 := fun d os => cell_regrown q4 d os
  have r5 := fun d os => cell_regrown q5 d os
  have r6 := fun d os => cell_regrown q6 d os
  clear hb k0 k1 q0 q1 q2 q3 q4 q5 q6
  simp only [List.append_eq, List.cons_append, List.nil_append]
  refine wp_region_quiet_tail (C := fun w' => ∃ p : Regrown, w' = Sort.grow (redrawn w2 p.d) p.os) 96 (by kernel_rfl) (lexTail_of_tab tab131 (by kernel_rfl) (by kernel_rfl) tab131_go 96 tab131_sink tab131_ch (by decide)) ⟨⟨w2.drawn + 1, #[]⟩, by rw [Sort.grow_empty]; rfl⟩ ?_
  simp only [List.take_succ_cons, List.take_zero, List.drop_succ_cons, List.drop_zero]

  repeat (go_big_quiet_step ((first | (go_at_call 172; apply Calls.regrown_of; apply value_lit) | (go_at_call 173; apply Calls.regrown_of; apply mass_lit; exact r _ _) | (go_at_call 174; apply Calls.regrown_of; apply length_lit; exact r _ _) | (go_at_call 175; apply Calls.regrown_of; apply time_lit; exact r _ _))))
  refine wpQuiet_nil ?_
  intro w' hw'
  obtain ⟨⟨dq, osq⟩, hw''⟩ := hw'
  subst hw''
  have hb := below_regrown w2 dq osq
  obtain ⟨w3, hw3⟩ : ∃ w3 : World, w3 = Sort.grow (redrawn w2 dq) osq := ⟨_, rfl⟩
  rw [← hw3] at hb ⊢
  have HB3 := Lib.hid (HB.out.trans (hb.mono HB.out.size))
  clear hw3 hb r r0 r1 r2 r3 r4 r5 r6
  obtain ⟨i0, hi0, hz0, hz1, hz2⟩ := info_parts unit_info
  refine wpList_buildSlice rfl 163 166 27 _ rfl unitC i0 _ Tryz.underlying163 hi0 hz0 (by rw [hz1]; decide) (by rw [hz1]; decide) (by rw [hz1]; kernel_rfl) ?_
  have HU := Lib.hid (heap_alloc_new w3 (.cells unitC 166))
  have HB4 := Lib.hid (HB3.out.alloc HB3.out.size (.cells unitC 166))
  have HS := Lib.hid HB3.out.size
  generalize w3.alloc (.cells unitC 166) = w4 at *
  go_wp2_with fail
  go_ret
  exact ⟨_, rfl, HS.out, HU.out, HB4.out⟩
end Go.Proofs.YtknpigdpepmimaaGreatDoor

namespace Go.Proofs.YtknpigdpepmimaaGreatDoor
open Go.RowKit Go.Maps
theorem cells_at : ∀ (l : List (List UInt8 × V)) (i : Nat) (p : List UInt8 × V), l[i]? = some p → ∀ (j : Nat) (u : Value), (unitCells p)[j]? = some u → (l.flatMap unitCells)[i * 10 + j]? = some u
  | [], i, p, h, _, _, _ => by simp at h
  | q :: l, 0, p, h, j, u, hu => by
    obtain rfl : q = p := by simpa using h
    rw [List.flatMap_cons, Nat.zero_mul, Nat.zero_add, List.getElem?_append_left (List.getElem?_eq_some_iff.1 hu).1]; exact hu
  | q :: l, i + 1, p, h, j, u, hu => by
    have e : (unitCells q).length = 10 := rfl
    rw [List.flatMap_cons, List.getElem?_append_right (by rw [e]; omega), e, show (i + 1) * 10 + j - 10 = i * 10 + j from by omega]
    exact cells_at l i p (by simpa using h) j u hu
theorem unit_cells {w : World} {b : Nat} (hU : w.heap[b]? = some (.cells unitC 166 (0, 0))) (i : Nat) (x : List UInt8) (v : V) (h : unitTab[i]? = some (x, v)) : w.cell? ⟨b, i * 10, none⟩ = some (.string ⟨x.toArray⟩) ∧ w.cell? ⟨b, i * 10 + 1, none⟩ = some (.int .i64 v.num) ∧ w.cell? ⟨b, i * 10 + 2, none⟩ = some (.int .i64 v.den) ∧ w.cell? ⟨b, i * 10 + 3, none⟩ = some (.int .i64 v.dim.a) ∧ w.cell? ⟨b, i * 10 + 4, none⟩ = some (.int .i64 v.dim.b) ∧ w.cell? ⟨b, i * 10 + 5, none⟩ = some (.int .i64 v.dim.c) ∧ w.cell? ⟨b, i * 10 + 6, none⟩ = some (.int .i64 v.dim.d) ∧ w.cell? ⟨b, i * 10 + 7, none⟩ = some (.int .i64 v.dim.e) ∧ w.cell? ⟨b, i * 10 + 8, none⟩ = some (.int .i64 v.dim.f) ∧ w.cell? ⟨b, i * 10 + 9, none⟩ = some (.int .i64 v.dim.g) := by
  have hc : ∀ (j : Nat) (u : Value), (unitCells (x, v))[j]? = some u → w.cell? ⟨b, i * 10 + j, none⟩ = some u := fun j u hu => by
    have h1 := cells_at unitTab i (x, v) h j u hu
    have h2 : w.cell? ⟨b, i * 10 + j, none⟩ = unitC[i * 10 + j]? := by simp [World.cell?, hU]
    rw [h2]
    unfold unitC
    rw [List.getElem?_toArray]
    exact h1
  exact ⟨hc 0 _ rfl, hc 1 _ rfl, hc 2 _ rfl, hc 3 _ rfl, hc 4 _ rfl, hc 5 _ rfl, hc 6 _ rfl, hc 7 _ rfl, hc 8 _ rfl, hc 9 _ rfl⟩
theorem unit_box {w : World} {m : Nat} {x : List UInt8} {v : V} (h : w.heap[m]? = some (.cells #[.string ⟨x.toArray⟩, .int .i64 v.num, .int .i64 v.den, .int .i64 v.dim.a, .int .i64 v.dim.b, .int .i64 v.dim.c, .int .i64 v.dim.d, .int .i64 v.dim.e, .int .i64 v.dim.f, .int .i64 v.dim.g] 166 (0, 0))) : w.cell? ⟨m, 0, none⟩ = some (.string ⟨x.toArray⟩) ∧ w.cell? ⟨m, 1, none⟩ = some (.int .i64 v.num) ∧ w.cell? ⟨m, 2, none⟩ = some (.int .i64 v.den) ∧ w.cell? ⟨m, 3, none⟩ = some (.int .i64 v.dim.a) ∧ w.cell? ⟨m, 4, none⟩ = some (.int .i64 v.dim.b) ∧ w.cell? ⟨m, 5, none⟩ = some (.int .i64 v.dim.c) ∧ w.cell? ⟨m, 6, none⟩ = some (.int .i64 v.dim.d) ∧ w.cell? ⟨m, 7, none⟩ = some (.int .i64 v.dim.e) ∧ w.cell? ⟨m, 8, none⟩ = some (.int .i64 v.dim.f) ∧ w.cell? ⟨m, 9, none⟩ = some (.int .i64 v.dim.g) := by
  refine ⟨?_, ?_, ?_, ?_, ?_, ?_, ?_, ?_, ?_, ?_⟩ <;> simp [World.cell?, h]
theorem lookup_step {l : List (List UInt8 × V)} {i : Nat} {x : List UInt8} {v : V} (h : l[i]? = some (x, v)) (n : List UInt8) : (l.drop i).lookup n = if n = x then some v else (l.drop (i + 1)).lookup n := by
  obtain ⟨hi, he⟩ := List.getElem?_eq_some_iff.1 h
  rw [List.drop_eq_getElem_cons hi, he, List.lookup_cons]
  by_cases hn : n = x
  · subst hn; simp
  · have : (n == x) = false := by simpa using hn
    rw [this, if_neg hn]
set_option maxRecDepth 100000 in
set_option maxHeartbeats 4000000 in
theorem find_c : FindC := fun n w hn => by
  have HB := Lib.hid (b1 w (.cells #[.int .i64 0, .int .i64 0, .int .i64 0, .int .i64 0, .int .i64 0, .int .i64 0, .int .i64 0, .int .i64 0, .int .i64 0] 44))
  have HK : Hid (K9 (w.alloc (.cells #[.int .i64 0, .int .i64 0, .int .i64 0, .int .i64 0, .int .i64 0, .int .i64 0, .int .i64 0, .int .i64 0, .int .i64 0] 44)) w.heap.size zV) := K9.new w zV
  go_enter Tryz.func81, Tryz.ntmps81
  go_upto_region 1 with (fail)
  generalize w.alloc (.cells #[.int .i64 0, .int .i64 0, .int .i64 0, .int .i64 0, .int .i64 0, .int .i64 0, .int .i64 0, .int .i64 0, .int .i64 0] 44) = w1 at *
  go_wp2_with fail
  refine (all_any _).mono ?_
  rintro e w2 ⟨b, rfl, hlo, hU, hb⟩
  have HU := Lib.hid hU
  have HLO := Lib.hid hlo
  have HB2 := Lib.hid (bl_tr HB.out hb)
  have HK2 := Lib.hid (HK.out.reach hb)
  clear hU hlo hb HB HK
  go_upto_region 2 with (fail)
  go_loopg [8] 28 (fun gg s8 wr => ∃ (i : Nat), i ≤ 27 ∧ 27 - i < gg ∧ s8 = .int .i64 (i : Int) ∧ Aside (unitTab.lookup n = (unitTab.drop i).lookup n) ∧ Aside (Below w.heap.size w wr) ∧ Aside (K9 wr w.heap.size zV) ∧ Aside (wr.heap[b]? = some (.cells unitC 166 (0, 0))))
  case atStart => exact ⟨0, by omega, by omega, rfl, rfl, HB2.out, HK2.out, HU.out⟩
  case round =>
    obtain ⟨i, hi, hgg, rfl, HL, HBr, HKr, HUr⟩ := hrel
    by_cases hlt : i < 27
    · have hltz : (i : Int) < 27 := by omega
      obtain ⟨xv, hxv⟩ : ∃ p, unitTab[i]? = some p := ⟨_, List.getElem?_eq_getElem (by exact hlt)⟩
      obtain ⟨x, v⟩ := xv
      have HXV := Lib.hid hxv
      obtain ⟨u0, u1, u2, u3, u4, u5, u6, u7, u8, u9⟩ := unit_cells HUr.out i x v hxv
      clear hxv
      have hb10 := b1 wr (.cells #[.string ⟨x.toArray⟩, .int .i64 v.num, .int .i64 v.den, .int .i64 v.dim.a, .int .i64 v.dim.b, .int .i64 v.dim.c, .int .i64 v.dim.d, .int .i64 v.dim.e, .int .i64 v.dim.f, .int .i64 v.dim.g] 166)
      have HB3 := Lib.hid (bl_tr HBr.out hb10)
      have HK3 := Lib.hid (HKr.out.reach hb10)
      have HU3 := Lib.hid ((hb10.block b (Array.getElem?_eq_some_iff.1 HUr.out).1).trans HUr.out)
      have HN := Lib.hid (heap_alloc_new wr (.cells #[.string ⟨x.toArray⟩, .int .i64 v.num, .int .i64 v.den, .int .i64 v.dim.a, .int .i64 v.dim.b, .int .i64 v.dim.c, .int .i64 v.dim.d, .int .i64 v.dim.e, .int .i64 v.dim.f, .int .i64 v.dim.g] 166))
      clear hb10
      go_upto_region 4 with (fail)
      generalize wr.alloc (.cells #[.string ⟨x.toArray⟩, .int .i64 v.num, .int .i64 v.den, .int .i64 v.dim.a, .int .i64 v.dim.b, .int .i64 v.dim.c, .int .i64 v.dim.d, .int .i64 v.dim.e, .int .i64 v.dim.f, .int .i64 v.dim.g] 166) = w3 at *
      clear u0 u1 u2 u3 u4 u5 u6 u7 u8 u9
      have HS3 := Lib.hid (Array.getElem?_eq_some_iff.1 HN.out).1
      obtain ⟨m0, m1, m2, m3, m4, m5, m6, m7, m8, m9⟩ := unit_box HN.out
      have HLS := Lib.hid (HL.out.trans (lookup_step HXV.out n))
      by_cases hxn : x = n
      · subst hxn
        have hxb : (x == x) = true := by simp
        have HLE : Hid (unitTab.lookup x = some v) := HLS.out.trans (if_pos rfl)
        obtain ⟨⟨⟨z0, z1⟩, z2, z3, z4, z5, z6, z7, z8⟩, zf, _⟩ := HK3.out.cells
        go_wp2_with fail
        rw [HLE.out]
        refine bodyPost_ret (v := .tuple #[.agg v.cells, .bool true]) (by simp [results, Tryz.results81, go_sem, V.cells, z0, z1, z2, z3, z4, z5, z6, z7, z8]) rfl ⟨rfl, ?_⟩
        exact below9 HB3.out (b := w.heap.size) (Nat.le_refl _) v
      · have hxb : (x == n) = false := by simpa using hxn
        have HLE : Hid (unitTab.lookup n = (unitTab.drop (i + 1)).lookup n) := HLS.out.trans (if_neg fun e => hxn e.symm)
        clear hxn
        go_wp2_with fail
        go_roundg (27 - i)
        case measure => omega
        case rel => exact ⟨i + 1, by omega, by omega, rfl, HLE.out, HB3.out, HK3.out, HU3.out⟩
    · obtain rfl : i = 27 := by omega
      have HLE : Hid (unitTab.lookup n = none) := HL.out
      obtain ⟨⟨⟨z0, z1⟩, z2, z3, z4, z5, z6, z7, z8⟩, zf, _⟩ := HKr.out.cells
      go_wp2_with fail
      rw [HLE.out]
      refine bodyPost_ret (v := .tuple #[.agg zV.cells, .bool false]) (by simp [results, Tryz.results81, go_sem, V.cells, zV, zD, z0, z1, z2, z3, z4, z5, z6, z7, z8]) rfl ⟨rfl, ?_⟩
      exact below9 HBr.out (b := w.heap.size) (Nat.le_refl _) zV
end Go.Proofs.YtknpigdpepmimaaGreatDoor
