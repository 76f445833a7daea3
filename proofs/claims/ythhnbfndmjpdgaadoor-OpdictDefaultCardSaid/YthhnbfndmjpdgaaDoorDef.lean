/- Contract of opdict.Default. -/
import Derived.Test.YthhnbfndmjpdgaaDoorBase
import Derived.Great.Walk
namespace Go.Proofs.YthhnbfndmjpdgaaDoor
open Go.RowKit

structure En where
  text : List UInt8
  cls : Int
  lim : Bool
  str : Bool
def En.cells (e : En) : List Value := [.string ⟨e.text.toArray⟩, .int .i64 e.cls, .bool e.lim, .bool e.str]
def ncells (l : List En) : List Value := l.flatMap En.cells
theorem ncells_append (l l' : List En) : ncells (l ++ l') = ncells l ++ ncells l' := by simp [ncells]
theorem ncells_one (e : En) : ncells [e] = e.cells := by simp [ncells]
theorem ncells_oneCell (l : List En) : ∀ u ∈ ncells l, u.oneCell' = true := by
  intro u hu
  obtain ⟨e, _, he⟩ := List.mem_flatMap.1 hu
  simp [En.cells] at he
  rcases he with rfl | rfl | rfl | rfl <;> rfl
theorem ncells_len (l : List En) : (ncells l).length = l.length * 4 := by
  induction l with
  | nil => rfl
  | cons e l ih => unfold ncells at ih ⊢; rw [List.flatMap_cons, List.length_append, ih, List.length_cons]; simp [En.cells]; omega
theorem ncells_at (l : List En) : ∀ (i j : Nat) (e : En), l[i]? = some e → j < 4 → (ncells l)[i * 4 + j]? = e.cells[j]? := by
  induction l with
  | nil => intro i j e h; simp at h
  | cons a l ih =>
    intro i j e h hj
    rw [show ncells (a :: l) = a.cells ++ ncells l from by simp [ncells]]
    cases i with
    | zero =>
      cases h
      rw [Nat.zero_mul, Nat.zero_add, List.getElem?_append_left (by simp [En.cells]; omega)]
    | succ i =>
      rw [List.getElem?_append_right (by simp [En.cells]; omega)]
      have : (i + 1) * 4 + j - a.cells.length = i * 4 + j := by simp [En.cells]; omega
      rw [this]
      exact ih i j e h hj
theorem en_info : (Tryd.prog.info? 27).map (fun i => (i.zero, i.size, i.bytes)) = some (some (.agg #[.string ⟨#[]⟩, .int .i64 0, .bool false, .bool false]), 4, 32) := by kernel_rfl
def grpE (c : Int) (l s : Bool) (ts : List (List UInt8)) : List En := ts.map fun t => ⟨t, c, l, s⟩
def defL : List (List En) := [grpE 2 false false [[43], [45], [42], [99, 100, 111, 116], [116, 105, 109, 101, 115], [112, 109], [99, 117, 112], [99, 97, 112]], grpE 3 false false [[61], [60], [62], [58], [126], [108, 101], [103, 101], [110, 101], [116, 111], [105, 110], [115, 117, 98, 115, 101, 116]], grpE 6 false false [[44], [59]], grpE 5 false false [[33]], grpE 7 false false [[100, 111, 116, 115]], grpE 1 true true [[115, 117, 109], [112, 114, 111, 100]], grpE 1 false true [[105, 110, 116]], grpE 1 true false [[108, 105, 109], [109, 97, 120], [109, 105, 110]], grpE 1 false false [[115, 105, 110], [99, 111, 115], [116, 97, 110], [108, 111, 103], [108, 110], [101, 120, 112]]]
/-- the default dictionary -/
def DF : List En := defL.flatten
theorem spGlob : Tryd.prog.globalNamed "strings.asciiSpace" = some 0 := by kernel_rfl
/-- the table of white space lies as its initialiser lays it -/
structure Spc (w : World) : Prop where
  tab : Lib.TabIs Tryd.prog w "strings.asciiSpace" .u8 Lib.asciiSpaceTab
  lt : 0 < w.heap.size
theorem Spc.below {w w' : World} (h : Spc w) (hb : Below w.heap.size w w') : Spc w' :=
  ⟨var?_below hb spGlob h.lt h.tab, Nat.lt_of_lt_of_le h.lt hb.size⟩
theorem fields_any (s : List UInt8) (w : World) (hs : s.length ≤ 1000) (ha : s.all (fun b => decide (b.toNat < 128)) = true) (ht : Spc w) :
    Calls Tryd.prog 10 #[.string ⟨s.toArray⟩] w fun e w' => e = .returned (.slice (some ⟨w.heap.size, 0, none⟩) (Lib.fields s).length (Lib.fields s).length) ∧ w.alloc (.cells (strC (Lib.fields s)) 9) = w' := by
  refine (Tryd.strings_Fields ⟨s.toArray⟩ w (by rw [show (⟨s.toArray⟩ : ByteArray).size = s.length from by simp [ByteArray.size]]; omega) (fun j b hj => ?_) ht.tab).mono fun _ _ ⟨he, hw⟩ => ⟨he, hw.symm⟩
  have := List.all_eq_true.1 ha b (List.mem_of_getElem? hj)
  simpa using this
set_option maxRecDepth 100000 in
theorem allocArr (ρ : Operand → Value) (o : Oper) (ho : o.op = .alloc 31) (w : World) : (execOp ρ o).run Tryd.prog w = .ok (.value (.pointer (some ⟨w.heap.size, 0, none⟩))) (w.alloc (.cells #[.int .i64 0, .bool false, .bool false, .string ⟨#[]⟩, .int .i64 0, .bool false, .bool false, .string ⟨#[]⟩, .int .i64 0, .bool false, .bool false, .string ⟨#[]⟩, .int .i64 0, .bool false, .bool false, .string ⟨#[]⟩, .int .i64 0, .bool false, .bool false, .string ⟨#[]⟩, .int .i64 0, .bool false, .bool false, .string ⟨#[]⟩, .int .i64 0, .bool false, .bool false, .string ⟨#[]⟩, .int .i64 0, .bool false, .bool false, .string ⟨#[]⟩, .int .i64 0, .bool false, .bool false, .string ⟨#[]⟩] 31)) := by
  unfold execOp
  rw [ho]
  kernel_rfl
def arrC : Array Value := #[.int .i64 2, .bool false, .bool false, .string ⟨#[43, 32, 45, 32, 42, 32, 99, 100, 111, 116, 32, 116, 105, 109, 101, 115, 32, 112, 109, 32, 99, 117, 112, 32, 99, 97, 112]⟩, .int .i64 3, .bool false, .bool false, .string ⟨#[61, 32, 60, 32, 62, 32, 58, 32, 126, 32, 108, 101, 32, 103, 101, 32, 110, 101, 32, 116, 111, 32, 105, 110, 32, 115, 117, 98, 115, 101, 116]⟩, .int .i64 6, .bool false, .bool false, .string ⟨#[44, 32, 59]⟩, .int .i64 5, .bool false, .bool false, .string ⟨#[33]⟩, .int .i64 7, .bool false, .bool false, .string ⟨#[100, 111, 116, 115]⟩, .int .i64 1, .bool true, .bool true, .string ⟨#[115, 117, 109, 32, 112, 114, 111, 100]⟩, .int .i64 1, .bool false, .bool true, .string ⟨#[105, 110, 116]⟩, .int .i64 1, .bool true, .bool false, .string ⟨#[108, 105, 109, 32, 109, 97, 120, 32, 109, 105, 110]⟩, .int .i64 1, .bool false, .bool false, .string ⟨#[115, 105, 110, 32, 99, 111, 115, 32, 116, 97, 110, 32, 108, 111, 103, 32, 108, 110, 32, 101, 120, 112]⟩]
theorem arrC_all : arrC.all (·.oneCell') = true := by simp [arrC, Value.oneCell']
def RetDef (w : World) (l : List En) (e : Ending) (w' : World) : Prop := ∃ v, e = .returned v ∧ w'.ownsRow w.heap.size 27 4 v l.length (ncells l) ∧ Below w.heap.size w w'

theorem fld0 : Lib.fields [43, 32, 45, 32, 42, 32, 99, 100, 111, 116, 32, 116, 105, 109, 101, 115, 32, 112, 109, 32, 99, 117, 112, 32, 99, 97, 112] = [[43], [45], [42], [99, 100, 111, 116], [116, 105, 109, 101, 115], [112, 109], [99, 117, 112], [99, 97, 112]] := by decide +kernel
set_option maxRecDepth 100000 in
theorem idx0 (w : World) : (Instr.index 31 (.agg arrC) (.int .i64 0)).run Tryd.prog w = .ok (.agg #[.int .i64 2, .bool false, .bool false, .string ⟨#[43, 32, 45, 32, 42, 32, 99, 100, 111, 116, 32, 116, 105, 109, 101, 115, 32, 112, 109, 32, 99, 117, 112, 32, 99, 97, 112]⟩]) w := by kernel_rfl
theorem fld1 : Lib.fields [61, 32, 60, 32, 62, 32, 58, 32, 126, 32, 108, 101, 32, 103, 101, 32, 110, 101, 32, 116, 111, 32, 105, 110, 32, 115, 117, 98, 115, 101, 116] = [[61], [60], [62], [58], [126], [108, 101], [103, 101], [110, 101], [116, 111], [105, 110], [115, 117, 98, 115, 101, 116]] := by decide +kernel
set_option maxRecDepth 100000 in
theorem idx1 (w : World) : (Instr.index 31 (.agg arrC) (.int .i64 1)).run Tryd.prog w = .ok (.agg #[.int .i64 3, .bool false, .bool false, .string ⟨#[61, 32, 60, 32, 62, 32, 58, 32, 126, 32, 108, 101, 32, 103, 101, 32, 110, 101, 32, 116, 111, 32, 105, 110, 32, 115, 117, 98, 115, 101, 116]⟩]) w := by kernel_rfl
theorem fld2 : Lib.fields [44, 32, 59] = [[44], [59]] := by decide +kernel
set_option maxRecDepth 100000 in
theorem idx2 (w : World) : (Instr.index 31 (.agg arrC) (.int .i64 2)).run Tryd.prog w = .ok (.agg #[.int .i64 6, .bool false, .bool false, .string ⟨#[44, 32, 59]⟩]) w := by kernel_rfl
theorem fld3 : Lib.fields [33] = [[33]] := by decide +kernel
set_option maxRecDepth 100000 in
theorem idx3 (w : World) : (Instr.index 31 (.agg arrC) (.int .i64 3)).run Tryd.prog w = .ok (.agg #[.int .i64 5, .bool false, .bool false, .string ⟨#[33]⟩]) w := by kernel_rfl
theorem fld4 : Lib.fields [100, 111, 116, 115] = [[100, 111, 116, 115]] := by decide +kernel
set_option maxRecDepth 100000 in
theorem idx4 (w : World) : (Instr.index 31 (.agg arrC) (.int .i64 4)).run Tryd.prog w = .ok (.agg #[.int .i64 7, .bool false, .bool false, .string ⟨#[100, 111, 116, 115]⟩]) w := by kernel_rfl
theorem fld5 : Lib.fields [115, 117, 109, 32, 112, 114, 111, 100] = [[115, 117, 109], [112, 114, 111, 100]] := by decide +kernel
set_option maxRecDepth 100000 in
theorem idx5 (w : World) : (Instr.index 31 (.agg arrC) (.int .i64 5)).run Tryd.prog w = .ok (.agg #[.int .i64 1, .bool true, .bool true, .string ⟨#[115, 117, 109, 32, 112, 114, 111, 100]⟩]) w := by kernel_rfl
theorem fld6 : Lib.fields [105, 110, 116] = [[105, 110, 116]] := by decide +kernel
set_option maxRecDepth 100000 in
theorem idx6 (w : World) : (Instr.index 31 (.agg arrC) (.int .i64 6)).run Tryd.prog w = .ok (.agg #[.int .i64 1, .bool false, .bool true, .string ⟨#[105, 110, 116]⟩]) w := by kernel_rfl
theorem fld7 : Lib.fields [108, 105, 109, 32, 109, 97, 120, 32, 109, 105, 110] = [[108, 105, 109], [109, 97, 120], [109, 105, 110]] := by decide +kernel
set_option maxRecDepth 100000 in
theorem idx7 (w : World) : (Instr.index 31 (.agg arrC) (.int .i64 7)).run Tryd.prog w = .ok (.agg #[.int .i64 1, .bool true, .bool false, .string ⟨#[108, 105, 109, 32, 109, 97, 120, 32, 109, 105, 110]⟩]) w := by kernel_rfl
theorem fld8 : Lib.fields [115, 105, 110, 32, 99, 111, 115, 32, 116, 97, 110, 32, 108, 111, 103, 32, 108, 110, 32, 101, 120, 112] = [[115, 105, 110], [99, 111, 115], [116, 97, 110], [108, 111, 103], [108, 110], [101, 120, 112]] := by decide +kernel
set_option maxRecDepth 100000 in
theorem idx8 (w : World) : (Instr.index 31 (.agg arrC) (.int .i64 8)).run Tryd.prog w = .ok (.agg #[.int .i64 1, .bool false, .bool false, .string ⟨#[115, 105, 110, 32, 99, 111, 115, 32, 116, 97, 110, 32, 108, 111, 103, 32, 108, 110, 32, 101, 120, 112]⟩]) w := by kernel_rfl
theorem keep_blk {w w' : World} {row : Option Nat} {E : TypeId} (hg : w.grownBy w' row) (hr : ∀ k, row = some k → ∃ cs fr, w.heap[k]? = some (Obj.cells cs E fr)) {k : Nat} {cs : Array Value} {t : TypeId} {fr : Nat × Nat} (ht : t ≠ E) (hk : w.heap[k]? = some (Obj.cells cs t fr)) : w'.heap[k]? = some (Obj.cells cs t fr) := by
  refine (hg.block k (blk_lt hk) fun e => ?_).trans hk
  obtain ⟨cs', fr', he⟩ := hr k e.symm
  rw [hk] at he; cases he; exact ht rfl
theorem grp_succ (c : Int) (l s : Bool) (ts : List (List UInt8)) (k : Nat) (h : k < ts.length) : grpE c l s (ts.take (k + 1)) = grpE c l s (ts.take k) ++ [⟨ts[k], c, l, s⟩] := by
  unfold grpE; rw [List.take_succ_eq_append_getElem h, List.map_append]; rfl
theorem def_succ (i : Nat) (h : i < defL.length) : (defL.take (i + 1)).flatten = (defL.take i).flatten ++ defL[i] := by
  rw [List.take_succ_eq_append_getElem h, List.flatten_append]; simp
set_option maxRecDepth 100000 in
set_option maxHeartbeats 16000000 in
theorem default_any (w : World) (ht : Spc w) : Calls Tryd.prog 5 #[] w (RetDef w DF) := by
  obtain ⟨i0, hi0, hz0, hz1, hz2⟩ := info_parts en_info
  have hbx : Below w.heap.size w (w.alloc (.cells #[.int .i64 0, .bool false, .bool false, .string ⟨#[]⟩, .int .i64 0, .bool false, .bool false, .string ⟨#[]⟩, .int .i64 0, .bool false, .bool false, .string ⟨#[]⟩, .int .i64 0, .bool false, .bool false, .string ⟨#[]⟩, .int .i64 0, .bool false, .bool false, .string ⟨#[]⟩, .int .i64 0, .bool false, .bool false, .string ⟨#[]⟩, .int .i64 0, .bool false, .bool false, .string ⟨#[]⟩, .int .i64 0, .bool false, .bool false, .string ⟨#[]⟩, .int .i64 0, .bool false, .bool false, .string ⟨#[]⟩] 31)) := (Below.refl _ _).alloc (Nat.le_refl _) _
  have hz := blk_new w (.cells #[.int .i64 0, .bool false, .bool false, .string ⟨#[]⟩, .int .i64 0, .bool false, .bool false, .string ⟨#[]⟩, .int .i64 0, .bool false, .bool false, .string ⟨#[]⟩, .int .i64 0, .bool false, .bool false, .string ⟨#[]⟩, .int .i64 0, .bool false, .bool false, .string ⟨#[]⟩, .int .i64 0, .bool false, .bool false, .string ⟨#[]⟩, .int .i64 0, .bool false, .bool false, .string ⟨#[]⟩, .int .i64 0, .bool false, .bool false, .string ⟨#[]⟩, .int .i64 0, .bool false, .bool false, .string ⟨#[]⟩] 31)
  have HZ := Lib.hid hz
  have HZ2 := Lib.hid (setRow_heap _ _ _ arrC _ _ hz)
  have HB0 := Lib.hid (below_setRow hbx (Nat.le_refl _) arrC)
  have HT := Lib.hid ht
  clear hbx hz ht
  go_enter Tryd.func5, Tryd.ntmps5
  go_wp2_with (first | (with_reducible refine wpList_allocTo rfl (some 1) rfl _ _ (allocArr _ _ rfl _) ?_) | (with_reducible refine wpList_store_row rfl 31 (.tmp 1) (.tmp 16) rfl w.heap.size arrC rfl rfl 31 #[.int .i64 0, .bool false, .bool false, .string ⟨#[]⟩, .int .i64 0, .bool false, .bool false, .string ⟨#[]⟩, .int .i64 0, .bool false, .bool false, .string ⟨#[]⟩, .int .i64 0, .bool false, .bool false, .string ⟨#[]⟩, .int .i64 0, .bool false, .bool false, .string ⟨#[]⟩, .int .i64 0, .bool false, .bool false, .string ⟨#[]⟩, .int .i64 0, .bool false, .bool false, .string ⟨#[]⟩, .int .i64 0, .bool false, .bool false, .string ⟨#[]⟩, .int .i64 0, .bool false, .bool false, .string ⟨#[]⟩] HZ.out (by kernel_rfl) rfl arrC_all ?_) | (with_reducible refine wpList_load_row rfl 31 (.tmp 1) rfl w.heap.size rfl 31 arrC (0, 0) _ HZ2.out Tryd.underlying31 rfl (by kernel_rfl) ?_))
  obtain ⟨AG, hAG⟩ : ∃ AG, AG = Value.agg arrC := ⟨_, rfl⟩
  have hsh : Value.agg #[.int .i64 2, .bool false, .bool false, .string ⟨#[43, 32, 45, 32, 42, 32, 99, 100, 111, 116, 32, 116, 105, 109, 101, 115, 32, 112, 109, 32, 99, 117, 112, 32, 99, 97, 112]⟩, .int .i64 3, .bool false, .bool false, .string ⟨#[61, 32, 60, 32, 62, 32, 58, 32, 126, 32, 108, 101, 32, 103, 101, 32, 110, 101, 32, 116, 111, 32, 105, 110, 32, 115, 117, 98, 115, 101, 116]⟩, .int .i64 6, .bool false, .bool false, .string ⟨#[44, 32, 59]⟩, .int .i64 5, .bool false, .bool false, .string ⟨#[33]⟩, .int .i64 7, .bool false, .bool false, .string ⟨#[100, 111, 116, 115]⟩, .int .i64 1, .bool true, .bool true, .string ⟨#[115, 117, 109, 32, 112, 114, 111, 100]⟩, .int .i64 1, .bool false, .bool true, .string ⟨#[105, 110, 116]⟩, .int .i64 1, .bool true, .bool false, .string ⟨#[108, 105, 109, 32, 109, 97, 120, 32, 109, 105, 110]⟩, .int .i64 1, .bool false, .bool false, .string ⟨#[115, 105, 110, 32, 99, 111, 115, 32, 116, 97, 110, 32, 108, 111, 103, 32, 108, 110, 32, 101, 120, 112]⟩] = AG := hAG.symm
  have HX : Hid (Value.agg arrC = AG) := hAG.symm
  first | rw [hsh] | skip
  first | rw [← hAG] | skip
  clear hsh hAG
  generalize Value.agg #[.int .i64 2, .bool false, .bool false, .string ⟨#[43, 32, 45, 32, 42, 32, 99, 100, 111, 116, 32, 116, 105, 109, 101, 115, 32, 112, 109, 32, 99, 117, 112, 32, 99, 97, 112]⟩] = v7
  generalize Value.agg #[.int .i64 3, .bool false, .bool false, .string ⟨#[61, 32, 60, 32, 62, 32, 58, 32, 126, 32, 108, 101, 32, 103, 101, 32, 110, 101, 32, 116, 111, 32, 105, 110, 32, 115, 117, 98, 115, 101, 116]⟩] = v8
  generalize Value.agg #[.int .i64 6, .bool false, .bool false, .string ⟨#[44, 32, 59]⟩] = v9
  generalize Value.agg #[.int .i64 5, .bool false, .bool false, .string ⟨#[33]⟩] = v10
  generalize Value.agg #[.int .i64 7, .bool false, .bool false, .string ⟨#[100, 111, 116, 115]⟩] = v11
  generalize Value.agg #[.int .i64 1, .bool true, .bool true, .string ⟨#[115, 117, 109, 32, 112, 114, 111, 100]⟩] = v12
  generalize Value.agg #[.int .i64 1, .bool false, .bool true, .string ⟨#[105, 110, 116]⟩] = v13
  generalize Value.agg #[.int .i64 1, .bool true, .bool false, .string ⟨#[108, 105, 109, 32, 109, 97, 120, 32, 109, 105, 110]⟩] = v14
  generalize Value.agg #[.int .i64 1, .bool false, .bool false, .string ⟨#[115, 105, 110, 32, 99, 111, 115, 32, 116, 97, 110, 32, 108, 111, 103, 32, 108, 110, 32, 101, 120, 112]⟩] = v15
  obtain ⟨wb, hwb⟩ : ∃ wb, wb = (w.alloc (.cells #[.int .i64 0, .bool false, .bool false, .string ⟨#[]⟩, .int .i64 0, .bool false, .bool false, .string ⟨#[]⟩, .int .i64 0, .bool false, .bool false, .string ⟨#[]⟩, .int .i64 0, .bool false, .bool false, .string ⟨#[]⟩, .int .i64 0, .bool false, .bool false, .string ⟨#[]⟩, .int .i64 0, .bool false, .bool false, .string ⟨#[]⟩, .int .i64 0, .bool false, .bool false, .string ⟨#[]⟩, .int .i64 0, .bool false, .bool false, .string ⟨#[]⟩, .int .i64 0, .bool false, .bool false, .string ⟨#[]⟩] 31)).setRow w.heap.size arrC := ⟨_, rfl⟩
  rw [← hwb] at HB0 ⊢
  clear hwb HZ HZ2
  go_loopg [18, 2, 4, 6] 9 (fun gg s18 s2 _ _ wr => ∃ i : Nat, i ≤ 9 ∧ 9 - i ≤ gg ∧ s18 = .int .i64 i ∧ Aside (wr.ownsRow w.heap.size 27 4 s2 (defL.take i).flatten.length (ncells (defL.take i).flatten)) ∧ Aside (Below w.heap.size w wr))
  case atStart => exact ⟨0, by omega, by omega, rfl, World.ownsRow_nil _ _ _ _, HB0.out⟩
  case round =>
    obtain ⟨i, hi, hgg, rfl, HO, HBr⟩ := hrel
    clear HB0
    by_cases hil : i < 9
    · have hi9 : i = 0 ∨ i = 1 ∨ i = 2 ∨ i = 3 ∨ i = 4 ∨ i = 5 ∨ i = 6 ∨ i = 7 ∨ i = 8 := by omega
      rcases hi9 with rfl | rfl | rfl | rfl | rfl | rfl | rfl | rfl | rfl
      · have hx : ∀ w : World, (Instr.index 31 AG (.int .i64 0)).run Tryd.prog w = .ok (.agg #[.int .i64 2, .bool false, .bool false, .string ⟨#[43, 32, 45, 32, 42, 32, 99, 100, 111, 116, 32, 116, 105, 109, 101, 115, 32, 112, 109, 32, 99, 117, 112, 32, 99, 97, 112]⟩]) w := fun w => by rw [← HX.out]; exact idx0 w
        have hsr := HBr.out.size
        have HS := Lib.hid (HT.out.below HBr.out)
        have hbg : Below wr.heap.size wr (wr.alloc (.cells #[.int .i64 2, .bool false, .bool false, .string ⟨#[43, 32, 45, 32, 42, 32, 99, 100, 111, 116, 32, 116, 105, 109, 101, 115, 32, 112, 109, 32, 99, 117, 112, 32, 99, 97, 112]⟩] 30)) := (Below.refl _ _).alloc (Nat.le_refl _) _
        have HS2 := Lib.hid (HS.out.below hbg)
        have HG := Lib.hid (blk_new wr (.cells #[.int .i64 2, .bool false, .bool false, .string ⟨#[43, 32, 45, 32, 42, 32, 99, 100, 111, 116, 32, 116, 105, 109, 101, 115, 32, 112, 109, 32, 99, 117, 112, 32, 99, 97, 112]⟩] 30))
        have HL : Hid ((defL.take 0).flatten.length ≤ 40) := by show _ ≤ 40; decide +kernel
        clear hbg
        go_wp2_with fail
        refine (fields_any [43, 32, 45, 32, 42, 32, 99, 100, 111, 116, 32, 116, 105, 109, 101, 115, 32, 112, 109, 32, 99, 117, 112, 32, 99, 97, 112] _ (by decide) (by decide) HS2.out).mono ?_
        rw [fld0]
        rintro e w2 ⟨rfl, hw2⟩
        obtain ⟨F, hF⟩ : ∃ F : List (List UInt8), F = [[43], [45], [42], [99, 100, 111, 116], [116, 105, 109, 101, 115], [112, 109], [99, 117, 112], [99, 97, 112]] := ⟨_, rfl⟩
        rw [← hF] at hw2
        have HFL : Hid (F.length = 8) := by show F.length = 8; rw [hF]; rfl
        have HD : Hid ((defL.take 1).flatten = (defL.take 0).flatten ++ grpE 2 false false F) := by rw [hF]; exact def_succ 0 (by decide)
        have hb2 : Below wr.heap.size wr w2 := by rw [← hw2]; exact ((Below.refl _ _).alloc (Nat.le_refl _) _).alloc (by simp) _
        have HO2 := Lib.hid (own_below HO.out hb2)
        have HB2 := Lib.hid (HBr.out.trans (hb2.mono hsr))
        have HG2 : Hid (w2.heap[wr.heap.size]? = some (.cells #[.int .i64 2, .bool false, .bool false, .string ⟨#[43, 32, 45, 32, 42, 32, 99, 100, 111, 116, 32, 116, 105, 109, 101, 115, 32, 112, 109, 32, 99, 117, 112, 32, 99, 97, 112]⟩] 30)) := by rw [← hw2]; exact (Below.heap_alloc _ _ _ (by simp)).trans HG.out
        have HF2 : Hid (w2.heap[wr.heap.size + 1]? = some (.cells (strC F) 9)) := by rw [← hw2]; have := blk_new (wr.alloc (.cells #[.int .i64 2, .bool false, .bool false, .string ⟨#[43, 32, 45, 32, 42, 32, 99, 100, 111, 116, 32, 116, 105, 109, 101, 115, 32, 112, 109, 32, 99, 117, 112, 32, 99, 97, 112]⟩] 30)) (.cells (strC F) 9); rw [World.size_alloc] at this; exact this
        obtain ⟨gb, hgb⟩ : ∃ gb, gb = wr.heap.size := ⟨_, rfl⟩
        rw [← hgb] at HG2 HF2
        simp only [World.size_alloc, List.length_cons, List.length_nil, Nat.zero_add, Nat.reduceAdd]
        rw [← hgb]
        clear hw2 hb2 hF HO HBr HS HS2 HG hx hgb
        generalize (defL.take 0).flatten = L0 at *
        go_wp2_with fail
        go_loopg [25, 2, 6] 8 (fun gg s25 s2 _ wr => ∃ k : Nat, k ≤ 8 ∧ 8 - k ≤ gg ∧ s25 = .int .i64 k ∧ Aside (wr.ownsRow w.heap.size 27 4 s2 (L0 ++ grpE 2 false false (F.take k)).length (ncells (L0 ++ grpE 2 false false (F.take k)))) ∧ Aside (Below w.heap.size w wr) ∧ Aside (wr.heap[gb]? = some (.cells #[.int .i64 2, .bool false, .bool false, .string ⟨#[43, 32, 45, 32, 42, 32, 99, 100, 111, 116, 32, 116, 105, 109, 101, 115, 32, 112, 109, 32, 99, 117, 112, 32, 99, 97, 112]⟩] 30)) ∧ Aside (wr.heap[gb + 1]? = some (.cells (strC F) 9)))
        case atStart => exact ⟨0, by omega, by omega, rfl, (by show World.ownsRow _ _ _ _ _ (L0 ++ []).length (ncells (L0 ++ [])); rw [List.append_nil]; exact HO2.out), HB2.out, HG2.out, HF2.out⟩
        case round =>
          obtain ⟨k, hk, hg2, rfl, HO3, HB3, HG3, HF3⟩ := hrel
          clear HO2 HB2 HG2 HF2
          by_cases hkl : k < 8
          · have hkz : (k : Int) < 8 := by omega
            have hkF : k < F.length := by have := HFL.out; omega
            have hc := (cell_blk HF3.out k).trans (strC_at F k hkF)
            have c0 : wr.cell? ⟨gb, 0, none⟩ = some (.int .i64 2) := cell_blk HG3.out 0
            have c1 : wr.cell? ⟨gb, 1, none⟩ = some (.bool false) := cell_blk HG3.out 1
            have c2 : wr.cell? ⟨gb, 2, none⟩ = some (.bool false) := cell_blk HG3.out 2
            have HGS := Lib.hid (grp_succ 2 false false F k hkF)
            have hs3 := HB3.out.size
            have HLL : Hid ((L0 ++ grpE 2 false false (F.take k)).length ≤ 100) := by show _ ≤ 100; rw [List.length_append]; unfold grpE; rw [List.length_map, List.length_take]; have := HL.out; omega
            obtain ⟨t, htt⟩ : ∃ t, t = F[k] := ⟨_, rfl⟩
            rw [← htt] at hc HGS
            clear htt
            go_wp2_with (at_builtin; refine wpList_append_own _ rfl _ _ 23 rfl w.heap.size 27 i0 _ 4 32 Tryd.underlying23 hi0 hz0 hz1 hz2 rfl (by decide) _ _ _ rfl (HO3.out.alloc _) ⟨wr.heap.size, 0, none⟩ 1 1 (En.cells ⟨t, 2, false, false⟩) rfl rfl ?c1 ?c2 ?c3 ?c4 ?c5 ?_)
            case c1 =>
              intro j u hu
              rw [addr_add']
              have hj : j < 4 := by have := (List.getElem?_eq_some_iff.1 hu).1; simpa [En.cells] using this
              have hm : j = 0 ∨ j = 1 ∨ j = 2 ∨ j = 3 := by omega
              unfold En.cells at hu
              rcases hm with rfl | rfl | rfl | rfl <;> (simp at hu; subst hu; simp)
            case c2 => intro u hu; exact ncells_oneCell [⟨t, 2, false, false⟩] u (by rw [ncells_one]; exact hu)
            case c3 => unfold maxLen; have := HLL.out; omega
            case c4 => have := HLL.out; omega
            case c5 => simp; omega
            intro v' w5 hown' hgrow _
            have hbA : Below wr.heap.size wr (wr.alloc (.cells #[.string ⟨t.toArray⟩, .int .i64 2, .bool false, .bool false] 27)) := (Below.refl _ _).alloc (Nat.le_refl _) _
            have hrow : ∀ k, u2.ownBlock = some k → ∃ cs fr, (wr.alloc (.cells #[.string ⟨t.toArray⟩, .int .i64 2, .bool false, .bool false] 27)).heap[k]? = some (.cells cs 27 fr) := fun k hk => own_type (own_below HO3.out hbA) hk
            have HO5 : Hid (w5.ownsRow w.heap.size 27 4 v' (L0 ++ grpE 2 false false (F.take (k + 1))).length (ncells (L0 ++ grpE 2 false false (F.take (k + 1))))) := by
              show World.ownsRow _ _ _ _ _ _ _
              rw [HGS.out, ← List.append_assoc, ncells_append, ncells_one, List.length_append, List.length_append]; exact hown'
            have HB5 := Lib.hid ((HB3.out.trans (hbA.mono hs3)).grown hgrow (by simp; omega) (fun k hk => by have := (HO3.out.lt k hk).1; omega))
            have HG5 : Hid (w5.heap[gb]? = some (.cells #[.int .i64 2, .bool false, .bool false, .string ⟨#[43, 32, 45, 32, 42, 32, 99, 100, 111, 116, 32, 116, 105, 109, 101, 115, 32, 112, 109, 32, 99, 117, 112, 32, 99, 97, 112]⟩] 30)) := keep_blk hgrow hrow (by decide) ((hbA.block _ (blk_lt HG3.out)).trans HG3.out)
            have HF5 : Hid (w5.heap[gb + 1]? = some (.cells (strC F) 9)) := keep_blk hgrow hrow (by decide) ((hbA.block _ (blk_lt HF3.out)).trans HF3.out)
            clear hown' hgrow hbA hrow hc c0 c1 c2
            go_wp2_with fail
            go_roundg (8 - (k + 1))
            case measure => omega
            case rel => exact ⟨k + 1, by omega, by omega, by go_num, HO5.out, HB5.out, HG5.out, HF5.out⟩
          · have hkz : ¬ (k : Int) < 8 := by omega
            have HTK : Hid (F.take k = F) := List.take_of_length_le (by have := HFL.out; omega)
            go_wp2_with fail
            go_roundg 8
            case measure => omega
            case rel => exact ⟨1, by omega, by omega, rfl, (by rw [HD.out]; have := HO3.out; rw [HTK.out] at this; exact this), HB3.out⟩
      · have hx : ∀ w : World, (Instr.index 31 AG (.int .i64 1)).run Tryd.prog w = .ok (.agg #[.int .i64 3, .bool false, .bool false, .string ⟨#[61, 32, 60, 32, 62, 32, 58, 32, 126, 32, 108, 101, 32, 103, 101, 32, 110, 101, 32, 116, 111, 32, 105, 110, 32, 115, 117, 98, 115, 101, 116]⟩]) w := fun w => by rw [← HX.out]; exact idx1 w
        have hsr := HBr.out.size
        have HS := Lib.hid (HT.out.below HBr.out)
        have hbg : Below wr.heap.size wr (wr.alloc (.cells #[.int .i64 3, .bool false, .bool false, .string ⟨#[61, 32, 60, 32, 62, 32, 58, 32, 126, 32, 108, 101, 32, 103, 101, 32, 110, 101, 32, 116, 111, 32, 105, 110, 32, 115, 117, 98, 115, 101, 116]⟩] 30)) := (Below.refl _ _).alloc (Nat.le_refl _) _
        have HS2 := Lib.hid (HS.out.below hbg)
        have HG := Lib.hid (blk_new wr (.cells #[.int .i64 3, .bool false, .bool false, .string ⟨#[61, 32, 60, 32, 62, 32, 58, 32, 126, 32, 108, 101, 32, 103, 101, 32, 110, 101, 32, 116, 111, 32, 105, 110, 32, 115, 117, 98, 115, 101, 116]⟩] 30))
        have HL : Hid ((defL.take 1).flatten.length ≤ 40) := by show _ ≤ 40; decide +kernel
        clear hbg
        go_wp2_with fail
        refine (fields_any [61, 32, 60, 32, 62, 32, 58, 32, 126, 32, 108, 101, 32, 103, 101, 32, 110, 101, 32, 116, 111, 32, 105, 110, 32, 115, 117, 98, 115, 101, 116] _ (by decide) (by decide) HS2.out).mono ?_
        rw [fld1]
        rintro e w2 ⟨rfl, hw2⟩
        obtain ⟨F, hF⟩ : ∃ F : List (List UInt8), F = [[61], [60], [62], [58], [126], [108, 101], [103, 101], [110, 101], [116, 111], [105, 110], [115, 117, 98, 115, 101, 116]] := ⟨_, rfl⟩
        rw [← hF] at hw2
        have HFL : Hid (F.length = 11) := by show F.length = 11; rw [hF]; rfl
        have HD : Hid ((defL.take 2).flatten = (defL.take 1).flatten ++ grpE 3 false false F) := by rw [hF]; exact def_succ 1 (by decide)
        have hb2 : Below wr.heap.size wr w2 := by rw [← hw2]; exact ((Below.refl _ _).alloc (Nat.le_refl _) _).alloc (by simp) _
        have HO2 := Lib.hid (own_below HO.out hb2)
        have HB2 := Lib.hid (HBr.out.trans (hb2.mono hsr))
        have HG2 : Hid (w2.heap[wr.heap.size]? = some (.cells #[.int .i64 3, .bool false, .bool false, .string ⟨#[61, 32, 60, 32, 62, 32, 58, 32, 126, 32, 108, 101, 32, 103, 101, 32, 110, 101, 32, 116, 111, 32, 105, 110, 32, 115, 117, 98, 115, 101, 116]⟩] 30)) := by rw [← hw2]; exact (Below.heap_alloc _ _ _ (by simp)).trans HG.out
        have HF2 : Hid (w2.heap[wr.heap.size + 1]? = some (.cells (strC F) 9)) := by rw [← hw2]; have := blk_new (wr.alloc (.cells #[.int .i64 3, .bool false, .bool false, .string ⟨#[61, 32, 60, 32, 62, 32, 58, 32, 126, 32, 108, 101, 32, 103, 101, 32, 110, 101, 32, 116, 111, 32, 105, 110, 32, 115, 117, 98, 115, 101, 116]⟩] 30)) (.cells (strC F) 9); rw [World.size_alloc] at this; exact this
        obtain ⟨gb, hgb⟩ : ∃ gb, gb = wr.heap.size := ⟨_, rfl⟩
        rw [← hgb] at HG2 HF2
        simp only [World.size_alloc, List.length_cons, List.length_nil, Nat.zero_add, Nat.reduceAdd]
        rw [← hgb]
        clear hw2 hb2 hF HO HBr HS HS2 HG hx hgb
        generalize (defL.take 1).flatten = L0 at *
        go_wp2_with fail
        go_loopg [25, 2, 6] 11 (fun gg s25 s2 _ wr => ∃ k : Nat, k ≤ 11 ∧ 11 - k ≤ gg ∧ s25 = .int .i64 k ∧ Aside (wr.ownsRow w.heap.size 27 4 s2 (L0 ++ grpE 3 false false (F.take k)).length (ncells (L0 ++ grpE 3 false false (F.take k)))) ∧ Aside (Below w.heap.size w wr) ∧ Aside (wr.heap[gb]? = some (.cells #[.int .i64 3, .bool false, .bool false, .string ⟨#[61, 32, 60, 32, 62, 32, 58, 32, 126, 32, 108, 101, 32, 103, 101, 32, 110, 101, 32, 116, 111, 32, 105, 110, 32, 115, 117, 98, 115, 101, 116]⟩] 30)) ∧ Aside (wr.heap[gb + 1]? = some (.cells (strC F) 9)))
        case atStart => exact ⟨0, by omega, by omega, rfl, (by show World.ownsRow _ _ _ _ _ (L0 ++ []).length (ncells (L0 ++ [])); rw [List.append_nil]; exact HO2.out), HB2.out, HG2.out, HF2.out⟩
        case round =>
          obtain ⟨k, hk, hg2, rfl, HO3, HB3, HG3, HF3⟩ := hrel
          clear HO2 HB2 HG2 HF2
          by_cases hkl : k < 11
          · have hkz : (k : Int) < 11 := by omega
            have hkF : k < F.length := by have := HFL.out; omega
            have hc := (cell_blk HF3.out k).trans (strC_at F k hkF)
            have c0 : wr.cell? ⟨gb, 0, none⟩ = some (.int .i64 3) := cell_blk HG3.out 0
            have c1 : wr.cell? ⟨gb, 1, none⟩ = some (.bool false) := cell_blk HG3.out 1
            have c2 : wr.cell? ⟨gb, 2, none⟩ = some (.bool false) := cell_blk HG3.out 2
            have HGS := Lib.hid (grp_succ 3 false false F k hkF)
            have hs3 := HB3.out.size
            have HLL : Hid ((L0 ++ grpE 3 false false (F.take k)).length ≤ 100) := by show _ ≤ 100; rw [List.length_append]; unfold grpE; rw [List.length_map, List.length_take]; have := HL.out; omega
            obtain ⟨t, htt⟩ : ∃ t, t = F[k] := ⟨_, rfl⟩
            rw [← htt] at hc HGS
            clear htt
            go_wp2_with (at_builtin; refine wpList_append_own _ rfl _ _ 23 rfl w.heap.size 27 i0 _ 4 32 Tryd.underlying23 hi0 hz0 hz1 hz2 rfl (by decide) _ _ _ rfl (HO3.out.alloc _) ⟨wr.heap.size, 0, none⟩ 1 1 (En.cells ⟨t, 3, false, false⟩) rfl rfl ?c1 ?c2 ?c3 ?c4 ?c5 ?_)
            case c1 =>
              intro j u hu
              rw [addr_add']
              have hj : j < 4 := by have := (List.getElem?_eq_some_iff.1 hu).1; simpa [En.cells] using this
              have hm : j = 0 ∨ j = 1 ∨ j = 2 ∨ j = 3 := by omega
              unfold En.cells at hu
              rcases hm with rfl | rfl | rfl | rfl <;> (simp at hu; subst hu; simp)
            case c2 => intro u hu; exact ncells_oneCell [⟨t, 3, false, false⟩] u (by rw [ncells_one]; exact hu)
            case c3 => unfold maxLen; have := HLL.out; omega
            case c4 => have := HLL.out; omega
            case c5 => simp; omega
            intro v' w5 hown' hgrow _
            have hbA : Below wr.heap.size wr (wr.alloc (.cells #[.string ⟨t.toArray⟩, .int .i64 3, .bool false, .bool false] 27)) := (Below.refl _ _).alloc (Nat.le_refl _) _
            have hrow : ∀ k, u2.ownBlock = some k → ∃ cs fr, (wr.alloc (.cells #[.string ⟨t.toArray⟩, .int .i64 3, .bool false, .bool false] 27)).heap[k]? = some (.cells cs 27 fr) := fun k hk => own_type (own_below HO3.out hbA) hk
            have HO5 : Hid (w5.ownsRow w.heap.size 27 4 v' (L0 ++ grpE 3 false false (F.take (k + 1))).length (ncells (L0 ++ grpE 3 false false (F.take (k + 1))))) := by
              show World.ownsRow _ _ _ _ _ _ _
              rw [HGS.out, ← List.append_assoc, ncells_append, ncells_one, List.length_append, List.length_append]; exact hown'
            have HB5 := Lib.hid ((HB3.out.trans (hbA.mono hs3)).grown hgrow (by simp; omega) (fun k hk => by have := (HO3.out.lt k hk).1; omega))
            have HG5 : Hid (w5.heap[gb]? = some (.cells #[.int .i64 3, .bool false, .bool false, .string ⟨#[61, 32, 60, 32, 62, 32, 58, 32, 126, 32, 108, 101, 32, 103, 101, 32, 110, 101, 32, 116, 111, 32, 105, 110, 32, 115, 117, 98, 115, 101, 116]⟩] 30)) := keep_blk hgrow hrow (by decide) ((hbA.block _ (blk_lt HG3.out)).trans HG3.out)
            have HF5 : Hid (w5.heap[gb + 1]? = some (.cells (strC F) 9)) := keep_blk hgrow hrow (by decide) ((hbA.block _ (blk_lt HF3.out)).trans HF3.out)
            clear hown' hgrow hbA hrow hc c0 c1 c2
            go_wp2_with fail
            go_roundg (11 - (k + 1))
            case measure => omega
            case rel => exact ⟨k + 1, by omega, by omega, by go_num, HO5.out, HB5.out, HG5.out, HF5.out⟩
          · have hkz : ¬ (k : Int) < 11 := by omega
            have HTK : Hid (F.take k = F) := List.take_of_length_le (by have := HFL.out; omega)
            go_wp2_with fail
            go_roundg 7
            case measure => omega
            case rel => exact ⟨2, by omega, by omega, rfl, (by rw [HD.out]; have := HO3.out; rw [HTK.out] at this; exact this), HB3.out⟩
      · have hx : ∀ w : World, (Instr.index 31 AG (.int .i64 2)).run Tryd.prog w = .ok (.agg #[.int .i64 6, .bool false, .bool false, .string ⟨#[44, 32, 59]⟩]) w := fun w => by rw [← HX.out]; exact idx2 w
        have hsr := HBr.out.size
        have HS := Lib.hid (HT.out.below HBr.out)
        have hbg : Below wr.heap.size wr (wr.alloc (.cells #[.int .i64 6, .bool false, .bool false, .string ⟨#[44, 32, 59]⟩] 30)) := (Below.refl _ _).alloc (Nat.le_refl _) _
        have HS2 := Lib.hid (HS.out.below hbg)
        have HG := Lib.hid (blk_new wr (.cells #[.int .i64 6, .bool false, .bool false, .string ⟨#[44, 32, 59]⟩] 30))
        have HL : Hid ((defL.take 2).flatten.length ≤ 40) := by show _ ≤ 40; decide +kernel
        clear hbg
        go_wp2_with fail
        refine (fields_any [44, 32, 59] _ (by decide) (by decide) HS2.out).mono ?_
        rw [fld2]
        rintro e w2 ⟨rfl, hw2⟩
        obtain ⟨F, hF⟩ : ∃ F : List (List UInt8), F = [[44], [59]] := ⟨_, rfl⟩
        rw [← hF] at hw2
        have HFL : Hid (F.length = 2) := by show F.length = 2; rw [hF]; rfl
        have HD : Hid ((defL.take 3).flatten = (defL.take 2).flatten ++ grpE 6 false false F) := by rw [hF]; exact def_succ 2 (by decide)
        have hb2 : Below wr.heap.size wr w2 := by rw [← hw2]; exact ((Below.refl _ _).alloc (Nat.le_refl _) _).alloc (by simp) _
        have HO2 := Lib.hid (own_below HO.out hb2)
        have HB2 := Lib.hid (HBr.out.trans (hb2.mono hsr))
        have HG2 : Hid (w2.heap[wr.heap.size]? = some (.cells #[.int .i64 6, .bool false, .bool false, .string ⟨#[44, 32, 59]⟩] 30)) := by rw [← hw2]; exact (Below.heap_alloc _ _ _ (by simp)).trans HG.out
        have HF2 : Hid (w2.heap[wr.heap.size + 1]? = some (.cells (strC F) 9)) := by rw [← hw2]; have := blk_new (wr.alloc (.cells #[.int .i64 6, .bool false, .bool false, .string ⟨#[44, 32, 59]⟩] 30)) (.cells (strC F) 9); rw [World.size_alloc] at this; exact this
        obtain ⟨gb, hgb⟩ : ∃ gb, gb = wr.heap.size := ⟨_, rfl⟩
        rw [← hgb] at HG2 HF2
        simp only [World.size_alloc, List.length_cons, List.length_nil, Nat.zero_add, Nat.reduceAdd]
        rw [← hgb]
        clear hw2 hb2 hF HO HBr HS HS2 HG hx hgb
        generalize (defL.take 2).flatten = L0 at *
        go_wp2_with fail
        go_loopg [25, 2, 6] 2 (fun gg s25 s2 _ wr => ∃ k : Nat, k ≤ 2 ∧ 2 - k ≤ gg ∧ s25 = .int .i64 k ∧ Aside (wr.ownsRow w.heap.size 27 4 s2 (L0 ++ grpE 6 false false (F.take k)).length (ncells (L0 ++ grpE 6 false false (F.take k)))) ∧ Aside (Below w.heap.size w wr) ∧ Aside (wr.heap[gb]? = some (.cells #[.int .i64 6, .bool false, .bool false, .string ⟨#[44, 32, 59]⟩] 30)) ∧ Aside (wr.heap[gb + 1]? = some (.cells (strC F) 9)))
        case atStart => exact ⟨0, by omega, by omega, rfl, (by show World.ownsRow _ _ _ _ _ (L0 ++ []).length (ncells (L0 ++ [])); rw [List.append_nil]; exact HO2.out), HB2.out, HG2.out, HF2.out⟩
        case round =>
          obtain ⟨k, hk, hg2, rfl, HO3, HB3, HG3, HF3⟩ := hrel
          clear HO2 HB2 HG2 HF2
          by_cases hkl : k < 2
          · have hkz : (k : Int) < 2 := by omega
            have hkF : k < F.length := by have := HFL.out; omega
            have hc := (cell_blk HF3.out k).trans (strC_at F k hkF)
            have c0 : wr.cell? ⟨gb, 0, none⟩ = some (.int .i64 6) := cell_blk HG3.out 0
            have c1 : wr.cell? ⟨gb, 1, none⟩ = some (.bool false) := cell_blk HG3.out 1
            have c2 : wr.cell? ⟨gb, 2, none⟩ = some (.bool false) := cell_blk HG3.out 2
            have HGS := Lib.hid (grp_succ 6 false false F k hkF)
            have hs3 := HB3.out.size
            have HLL : Hid ((L0 ++ grpE 6 false false (F.take k)).length ≤ 100) := by show _ ≤ 100; rw [List.length_append]; unfold grpE; rw [List.length_map, List.length_take]; have := HL.out; omega
            obtain ⟨t, htt⟩ : ∃ t, t = F[k] := ⟨_, rfl⟩
            rw [← htt] at hc HGS
            clear htt
            go_wp2_with (at_builtin; refine wpList_append_own _ rfl _ _ 23 rfl w.heap.size 27 i0 _ 4 32 Tryd.underlying23 hi0 hz0 hz1 hz2 rfl (by decide) _ _ _ rfl (HO3.out.alloc _) ⟨wr.heap.size, 0, none⟩ 1 1 (En.cells ⟨t, 6, false, false⟩) rfl rfl ?c1 ?c2 ?c3 ?c4 ?c5 ?_)
            case c1 =>
              intro j u hu
              rw [addr_add']
              have hj : j < 4 := by have := (List.getElem?_eq_some_iff.1 hu).1; simpa [En.cells] using this
              have hm : j = 0 ∨ j = 1 ∨ j = 2 ∨ j = 3 := by omega
              unfold En.cells at hu
              rcases hm with rfl | rfl | rfl | rfl <;> (simp at hu; subst hu; simp)
            case c2 => intro u hu; exact ncells_oneCell [⟨t, 6, false, false⟩] u (by rw [ncells_one]; exact hu)
            case c3 => unfold maxLen; have := HLL.out; omega
            case c4 => have := HLL.out; omega
            case c5 => simp; omega
            intro v' w5 hown' hgrow _
            have hbA : Below wr.heap.size wr (wr.alloc (.cells #[.string ⟨t.toArray⟩, .int .i64 6, .bool false, .bool false] 27)) := (Below.refl _ _).alloc (Nat.le_refl _) _
            have hrow : ∀ k, u2.ownBlock = some k → ∃ cs fr, (wr.alloc (.cells #[.string ⟨t.toArray⟩, .int .i64 6, .bool false, .bool false] 27)).heap[k]? = some (.cells cs 27 fr) := fun k hk => own_type (own_below HO3.out hbA) hk
            have HO5 : Hid (w5.ownsRow w.heap.size 27 4 v' (L0 ++ grpE 6 false false (F.take (k + 1))).length (ncells (L0 ++ grpE 6 false false (F.take (k + 1))))) := by
              show World.ownsRow _ _ _ _ _ _ _
              rw [HGS.out, ← List.append_assoc, ncells_append, ncells_one, List.length_append, List.length_append]; exact hown'
            have HB5 := Lib.hid ((HB3.out.trans (hbA.mono hs3)).grown hgrow (by simp; omega) (fun k hk => by have := (HO3.out.lt k hk).1; omega))
            have HG5 : Hid (w5.heap[gb]? = some (.cells #[.int .i64 6, .bool false, .bool false, .string ⟨#[44, 32, 59]⟩] 30)) := keep_blk hgrow hrow (by decide) ((hbA.block _ (blk_lt HG3.out)).trans HG3.out)
            have HF5 : Hid (w5.heap[gb + 1]? = some (.cells (strC F) 9)) := keep_blk hgrow hrow (by decide) ((hbA.block _ (blk_lt HF3.out)).trans HF3.out)
            clear hown' hgrow hbA hrow hc c0 c1 c2
            go_wp2_with fail
            go_roundg (2 - (k + 1))
            case measure => omega
            case rel => exact ⟨k + 1, by omega, by omega, by go_num, HO5.out, HB5.out, HG5.out, HF5.out⟩
          · have hkz : ¬ (k : Int) < 2 := by omega
            have HTK : Hid (F.take k = F) := List.take_of_length_le (by have := HFL.out; omega)
            go_wp2_with fail
            go_roundg 6
            case measure => omega
            case rel => exact ⟨3, by omega, by omega, rfl, (by rw [HD.out]; have := HO3.out; rw [HTK.out] at this; exact this), HB3.out⟩
      · have hx : ∀ w : World, (Instr.index 31 AG (.int .i64 3)).run Tryd.prog w = .ok (.agg #[.int .i64 5, .bool false, .bool false, .string ⟨#[33]⟩]) w := fun w => by rw [← HX.out]; exact idx3 w
        have hsr := HBr.out.size
        have HS := Lib.hid (HT.out.below HBr.out)
        have hbg : Below wr.heap.size wr (wr.alloc (.cells #[.int .i64 5, .bool false, .bool false, .string ⟨#[33]⟩] 30)) := (Below.refl _ _).alloc (Nat.le_refl _) _
        have HS2 := Lib.hid (HS.out.below hbg)
        have HG := Lib.hid (blk_new wr (.cells #[.int .i64 5, .bool false, .bool false, .string ⟨#[33]⟩] 30))
        have HL : Hid ((defL.take 3).flatten.length ≤ 40) := by show _ ≤ 40; decide +kernel
        clear hbg
        go_wp2_with fail
        refine (fields_any [33] _ (by decide) (by decide) HS2.out).mono ?_
        rw [fld3]
        rintro e w2 ⟨rfl, hw2⟩
        obtain ⟨F, hF⟩ : ∃ F : List (List UInt8), F = [[33]] := ⟨_, rfl⟩
        rw [← hF] at hw2
        have HFL : Hid (F.length = 1) := by show F.length = 1; rw [hF]; rfl
        have HD : Hid ((defL.take 4).flatten = (defL.take 3).flatten ++ grpE 5 false false F) := by rw [hF]; exact def_succ 3 (by decide)
        have hb2 : Below wr.heap.size wr w2 := by rw [← hw2]; exact ((Below.refl _ _).alloc (Nat.le_refl _) _).alloc (by simp) _
        have HO2 := Lib.hid (own_below HO.out hb2)
        have HB2 := Lib.hid (HBr.out.trans (hb2.mono hsr))
        have HG2 : Hid (w2.heap[wr.heap.size]? = some (.cells #[.int .i64 5, .bool false, .bool false, .string ⟨#[33]⟩] 30)) := by rw [← hw2]; exact (Below.heap_alloc _ _ _ (by simp)).trans HG.out
        have HF2 : Hid (w2.heap[wr.heap.size + 1]? = some (.cells (strC F) 9)) := by rw [← hw2]; have := blk_new (wr.alloc (.cells #[.int .i64 5, .bool false, .bool false, .string ⟨#[33]⟩] 30)) (.cells (strC F) 9); rw [World.size_alloc] at this; exact this
        obtain ⟨gb, hgb⟩ : ∃ gb, gb = wr.heap.size := ⟨_, rfl⟩
        rw [← hgb] at HG2 HF2
        simp only [World.size_alloc, List.length_cons, List.length_nil, Nat.zero_add]
        rw [← hgb]
        clear hw2 hb2 hF HO HBr HS HS2 HG hx hgb
        generalize (defL.take 3).flatten = L0 at *
        go_wp2_with fail
        go_loopg [25, 2, 6] 1 (fun gg s25 s2 _ wr => ∃ k : Nat, k ≤ 1 ∧ 1 - k ≤ gg ∧ s25 = .int .i64 k ∧ Aside (wr.ownsRow w.heap.size 27 4 s2 (L0 ++ grpE 5 false false (F.take k)).length (ncells (L0 ++ grpE 5 false false (F.take k)))) ∧ Aside (Below w.heap.size w wr) ∧ Aside (wr.heap[gb]? = some (.cells #[.int .i64 5, .bool false, .bool false, .string ⟨#[33]⟩] 30)) ∧ Aside (wr.heap[gb + 1]? = some (.cells (strC F) 9)))
        case atStart => exact ⟨0, by omega, by omega, rfl, (by show World.ownsRow _ _ _ _ _ (L0 ++ []).length (ncells (L0 ++ [])); rw [List.append_nil]; exact HO2.out), HB2.out, HG2.out, HF2.out⟩
        case round =>
          obtain ⟨k, hk, hg2, rfl, HO3, HB3, HG3, HF3⟩ := hrel
          clear HO2 HB2 HG2 HF2
          by_cases hkl : k < 1
          · have hkz : (k : Int) < 1 := by omega
            have hkF : k < F.length := by have := HFL.out; omega
            have hc := (cell_blk HF3.out k).trans (strC_at F k hkF)
            have c0 : wr.cell? ⟨gb, 0, none⟩ = some (.int .i64 5) := cell_blk HG3.out 0
            have c1 : wr.cell? ⟨gb, 1, none⟩ = some (.bool false) := cell_blk HG3.out 1
            have c2 : wr.cell? ⟨gb, 2, none⟩ = some (.bool false) := cell_blk HG3.out 2
            have HGS := Lib.hid (grp_succ 5 false false F k hkF)
            have hs3 := HB3.out.size
            have HLL : Hid ((L0 ++ grpE 5 false false (F.take k)).length ≤ 100) := by show _ ≤ 100; rw [List.length_append]; unfold grpE; rw [List.length_map, List.length_take]; have := HL.out; omega
            obtain ⟨t, htt⟩ : ∃ t, t = F[k] := ⟨_, rfl⟩
            rw [← htt] at hc HGS
            clear htt
            go_wp2_with (at_builtin; refine wpList_append_own _ rfl _ _ 23 rfl w.heap.size 27 i0 _ 4 32 Tryd.underlying23 hi0 hz0 hz1 hz2 rfl (by decide) _ _ _ rfl (HO3.out.alloc _) ⟨wr.heap.size, 0, none⟩ 1 1 (En.cells ⟨t, 5, false, false⟩) rfl rfl ?c1 ?c2 ?c3 ?c4 ?c5 ?_)
            case c1 =>
              intro j u hu
              rw [addr_add']
              have hj : j < 4 := by have := (List.getElem?_eq_some_iff.1 hu).1; simpa [En.cells] using this
              have hm : j = 0 ∨ j = 1 ∨ j = 2 ∨ j = 3 := by omega
              unfold En.cells at hu
              rcases hm with rfl | rfl | rfl | rfl <;> (simp at hu; subst hu; simp)
            case c2 => intro u hu; exact ncells_oneCell [⟨t, 5, false, false⟩] u (by rw [ncells_one]; exact hu)
            case c3 => unfold maxLen; have := HLL.out; omega
            case c4 => have := HLL.out; omega
            case c5 => simp; omega
            intro v' w5 hown' hgrow _
            have hbA : Below wr.heap.size wr (wr.alloc (.cells #[.string ⟨t.toArray⟩, .int .i64 5, .bool false, .bool false] 27)) := (Below.refl _ _).alloc (Nat.le_refl _) _
            have hrow : ∀ k, u2.ownBlock = some k → ∃ cs fr, (wr.alloc (.cells #[.string ⟨t.toArray⟩, .int .i64 5, .bool false, .bool false] 27)).heap[k]? = some (.cells cs 27 fr) := fun k hk => own_type (own_below HO3.out hbA) hk
            have HO5 : Hid (w5.ownsRow w.heap.size 27 4 v' (L0 ++ grpE 5 false false (F.take (k + 1))).length (ncells (L0 ++ grpE 5 false false (F.take (k + 1))))) := by
              show World.ownsRow _ _ _ _ _ _ _
              rw [HGS.out, ← List.append_assoc, ncells_append, ncells_one, List.length_append, List.length_append]; exact hown'
            have HB5 := Lib.hid ((HB3.out.trans (hbA.mono hs3)).grown hgrow (by simp; omega) (fun k hk => by have := (HO3.out.lt k hk).1; omega))
            have HG5 : Hid (w5.heap[gb]? = some (.cells #[.int .i64 5, .bool false, .bool false, .string ⟨#[33]⟩] 30)) := keep_blk hgrow hrow (by decide) ((hbA.block _ (blk_lt HG3.out)).trans HG3.out)
            have HF5 : Hid (w5.heap[gb + 1]? = some (.cells (strC F) 9)) := keep_blk hgrow hrow (by decide) ((hbA.block _ (blk_lt HF3.out)).trans HF3.out)
            clear hown' hgrow hbA hrow hc c0 c1 c2
            go_wp2_with fail
            go_roundg (1 - (k + 1))
            case measure => omega
            case rel => exact ⟨k + 1, by omega, by omega, by go_num, HO5.out, HB5.out, HG5.out, HF5.out⟩
          · have hkz : ¬ (k : Int) < 1 := by omega
            have HTK : Hid (F.take k = F) := List.take_of_length_le (by have := HFL.out; omega)
            go_wp2_with fail
            go_roundg 5
            case measure => omega
            case rel => exact ⟨4, by omega, by omega, rfl, (by rw [HD.out]; have := HO3.out; rw [HTK.out] at this; exact this), HB3.out⟩
      · have hx : ∀ w : World, (Instr.index 31 AG (.int .i64 4)).run Tryd.prog w = .ok (.agg #[.int .i64 7, .bool false, .bool false, .string ⟨#[100, 111, 116, 115]⟩]) w := fun w => by rw [← HX.out]; exact idx4 w
        have hsr := HBr.out.size
        have HS := Lib.hid (HT.out.below HBr.out)
        have hbg : Below wr.heap.size wr (wr.alloc (.cells #[.int .i64 7, .bool false, .bool false, .string ⟨#[100, 111, 116, 115]⟩] 30)) := (Below.refl _ _).alloc (Nat.le_refl _) _
        have HS2 := Lib.hid (HS.out.below hbg)
        have HG := Lib.hid (blk_new wr (.cells #[.int .i64 7, .bool false, .bool false, .string ⟨#[100, 111, 116, 115]⟩] 30))
        have HL : Hid ((defL.take 4).flatten.length ≤ 40) := by show _ ≤ 40; decide +kernel
        clear hbg
        go_wp2_with fail
        refine (fields_any [100, 111, 116, 115] _ (by decide) (by decide) HS2.out).mono ?_
        rw [fld4]
        rintro e w2 ⟨rfl, hw2⟩
        obtain ⟨F, hF⟩ : ∃ F : List (List UInt8), F = [[100, 111, 116, 115]] := ⟨_, rfl⟩
        rw [← hF] at hw2
        have HFL : Hid (F.length = 1) := by show F.length = 1; rw [hF]; rfl
        have HD : Hid ((defL.take 5).flatten = (defL.take 4).flatten ++ grpE 7 false false F) := by rw [hF]; exact def_succ 4 (by decide)
        have hb2 : Below wr.heap.size wr w2 := by rw [← hw2]; exact ((Below.refl _ _).alloc (Nat.le_refl _) _).alloc (by simp) _
        have HO2 := Lib.hid (own_below HO.out hb2)
        have HB2 := Lib.hid (HBr.out.trans (hb2.mono hsr))
        have HG2 : Hid (w2.heap[wr.heap.size]? = some (.cells #[.int .i64 7, .bool false, .bool false, .string ⟨#[100, 111, 116, 115]⟩] 30)) := by rw [← hw2]; exact (Below.heap_alloc _ _ _ (by simp)).trans HG.out
        have HF2 : Hid (w2.heap[wr.heap.size + 1]? = some (.cells (strC F) 9)) := by rw [← hw2]; have := blk_new (wr.alloc (.cells #[.int .i64 7, .bool false, .bool false, .string ⟨#[100, 111, 116, 115]⟩] 30)) (.cells (strC F) 9); rw [World.size_alloc] at this; exact this
        obtain ⟨gb, hgb⟩ : ∃ gb, gb = wr.heap.size := ⟨_, rfl⟩
        rw [← hgb] at HG2 HF2
        simp only [World.size_alloc, List.length_cons, List.length_nil, Nat.zero_add]
        rw [← hgb]
        clear hw2 hb2 hF HO HBr HS HS2 HG hx hgb
        generalize (defL.take 4).flatten = L0 at *
        go_wp2_with fail
        go_loopg [25, 2, 6] 1 (fun gg s25 s2 _ wr => ∃ k : Nat, k ≤ 1 ∧ 1 - k ≤ gg ∧ s25 = .int .i64 k ∧ Aside (wr.ownsRow w.heap.size 27 4 s2 (L0 ++ grpE 7 false false (F.take k)).length (ncells (L0 ++ grpE 7 false false (F.take k)))) ∧ Aside (Below w.heap.size w wr) ∧ Aside (wr.heap[gb]? = some (.cells #[.int .i64 7, .bool false, .bool false, .string ⟨#[100, 111, 116, 115]⟩] 30)) ∧ Aside (wr.heap[gb + 1]? = some (.cells (strC F) 9)))
        case atStart => exact ⟨0, by omega, by omega, rfl, (by show World.ownsRow _ _ _ _ _ (L0 ++ []).length (ncells (L0 ++ [])); rw [List.append_nil]; exact HO2.out), HB2.out, HG2.out, HF2.out⟩
        case round =>
          obtain ⟨k, hk, hg2, rfl, HO3, HB3, HG3, HF3⟩ := hrel
          clear HO2 HB2 HG2 HF2
          by_cases hkl : k < 1
          · have hkz : (k : Int) < 1 := by omega
            have hkF : k < F.length := by have := HFL.out; omega
            have hc := (cell_blk HF3.out k).trans (strC_at F k hkF)
            have c0 : wr.cell? ⟨gb, 0, none⟩ = some (.int .i64 7) := cell_blk HG3.out 0
            have c1 : wr.cell? ⟨gb, 1, none⟩ = some (.bool false) := cell_blk HG3.out 1
            have c2 : wr.cell? ⟨gb, 2, none⟩ = some (.bool false) := cell_blk HG3.out 2
            have HGS := Lib.hid (grp_succ 7 false false F k hkF)
            have hs3 := HB3.out.size
            have HLL : Hid ((L0 ++ grpE 7 false false (F.take k)).length ≤ 100) := by show _ ≤ 100; rw [List.length_append]; unfold grpE; rw [List.length_map, List.length_take]; have := HL.out; omega
            obtain ⟨t, htt⟩ : ∃ t, t = F[k] := ⟨_, rfl⟩
            rw [← htt] at hc HGS
            clear htt
            go_wp2_with (at_builtin; refine wpList_append_own _ rfl _ _ 23 rfl w.heap.size 27 i0 _ 4 32 Tryd.underlying23 hi0 hz0 hz1 hz2 rfl (by decide) _ _ _ rfl (HO3.out.alloc _) ⟨wr.heap.size, 0, none⟩ 1 1 (En.cells ⟨t, 7, false, false⟩) rfl rfl ?c1 ?c2 ?c3 ?c4 ?c5 ?_)
            case c1 =>
              intro j u hu
              rw [addr_add']
              have hj : j < 4 := by have := (List.getElem?_eq_some_iff.1 hu).1; simpa [En.cells] using this
              have hm : j = 0 ∨ j = 1 ∨ j = 2 ∨ j = 3 := by omega
              unfold En.cells at hu
              rcases hm with rfl | rfl | rfl | rfl <;> (simp at hu; subst hu; simp)
            case c2 => intro u hu; exact ncells_oneCell [⟨t, 7, false, false⟩] u (by rw [ncells_one]; exact hu)
            case c3 => unfold maxLen; have := HLL.out; omega
            case c4 => have := HLL.out; omega
            case c5 => simp; omega
            intro v' w5 hown' hgrow _
            have hbA : Below wr.heap.size wr (wr.alloc (.cells #[.string ⟨t.toArray⟩, .int .i64 7, .bool false, .bool false] 27)) := (Below.refl _ _).alloc (Nat.le_refl _) _
            have hrow : ∀ k, u2.ownBlock = some k → ∃ cs fr, (wr.alloc (.cells #[.string ⟨t.toArray⟩, .int .i64 7, .bool false, .bool false] 27)).heap[k]? = some (.cells cs 27 fr) := fun k hk => own_type (own_below HO3.out hbA) hk
            have HO5 : Hid (w5.ownsRow w.heap.size 27 4 v' (L0 ++ grpE 7 false false (F.take (k + 1))).length (ncells (L0 ++ grpE 7 false false (F.take (k + 1))))) := by
              show World.ownsRow _ _ _ _ _ _ _
              rw [HGS.out, ← List.append_assoc, ncells_append, ncells_one, List.length_append, List.length_append]; exact hown'
            have HB5 := Lib.hid ((HB3.out.trans (hbA.mono hs3)).grown hgrow (by simp; omega) (fun k hk => by have := (HO3.out.lt k hk).1; omega))
            have HG5 : Hid (w5.heap[gb]? = some (.cells #[.int .i64 7, .bool false, .bool false, .string ⟨#[100, 111, 116, 115]⟩] 30)) := keep_blk hgrow hrow (by decide) ((hbA.block _ (blk_lt HG3.out)).trans HG3.out)
            have HF5 : Hid (w5.heap[gb + 1]? = some (.cells (strC F) 9)) := keep_blk hgrow hrow (by decide) ((hbA.block _ (blk_lt HF3.out)).trans HF3.out)
            clear hown' hgrow hbA hrow hc c0 c1 c2
            go_wp2_with fail
            go_roundg (1 - (k + 1))
            case measure => omega
            case rel => exact ⟨k + 1, by omega, by omega, by go_num, HO5.out, HB5.out, HG5.out, HF5.out⟩
          · have hkz : ¬ (k : Int) < 1 := by omega
            have HTK : Hid (F.take k = F) := List.take_of_length_le (by have := HFL.out; omega)
            go_wp2_with fail
            go_roundg 4
            case measure => omega
            case rel => exact ⟨5, by omega, by omega, rfl, (by rw [HD.out]; have := HO3.out; rw [HTK.out] at this; exact this), HB3.out⟩
      · have hx : ∀ w : World, (Instr.index 31 AG (.int .i64 5)).run Tryd.prog w = .ok (.agg #[.int .i64 1, .bool true, .bool true, .string ⟨#[115, 117, 109, 32, 112, 114, 111, 100]⟩]) w := fun w => by rw [← HX.out]; exact idx5 w
        have hsr := HBr.out.size
        have HS := Lib.hid (HT.out.below HBr.out)
        have hbg : Below wr.heap.size wr (wr.alloc (.cells #[.int .i64 1, .bool true, .bool true, .string ⟨#[115, 117, 109, 32, 112, 114, 111, 100]⟩] 30)) := (Below.refl _ _).alloc (Nat.le_refl _) _
        have HS2 := Lib.hid (HS.out.below hbg)
        have HG := Lib.hid (blk_new wr (.cells #[.int .i64 1, .bool true, .bool true, .string ⟨#[115, 117, 109, 32, 112, 114, 111, 100]⟩] 30))
        have HL : Hid ((defL.take 5).flatten.length ≤ 40) := by show _ ≤ 40; decide +kernel
        clear hbg
        go_wp2_with fail
        refine (fields_any [115, 117, 109, 32, 112, 114, 111, 100] _ (by decide) (by decide) HS2.out).mono ?_
        rw [fld5]
        rintro e w2 ⟨rfl, hw2⟩
        obtain ⟨F, hF⟩ : ∃ F : List (List UInt8), F = [[115, 117, 109], [112, 114, 111, 100]] := ⟨_, rfl⟩
        rw [← hF] at hw2
        have HFL : Hid (F.length = 2) := by show F.length = 2; rw [hF]; rfl
        have HD : Hid ((defL.take 6).flatten = (defL.take 5).flatten ++ grpE 1 true true F) := by rw [hF]; exact def_succ 5 (by decide)
        have hb2 : Below wr.heap.size wr w2 := by rw [← hw2]; exact ((Below.refl _ _).alloc (Nat.le_refl _) _).alloc (by simp) _
        have HO2 := Lib.hid (own_below HO.out hb2)
        have HB2 := Lib.hid (HBr.out.trans (hb2.mono hsr))
        have HG2 : Hid (w2.heap[wr.heap.size]? = some (.cells #[.int .i64 1, .bool true, .bool true, .string ⟨#[115, 117, 109, 32, 112, 114, 111, 100]⟩] 30)) := by rw [← hw2]; exact (Below.heap_alloc _ _ _ (by simp)).trans HG.out
        have HF2 : Hid (w2.heap[wr.heap.size + 1]? = some (.cells (strC F) 9)) := by rw [← hw2]; have := blk_new (wr.alloc (.cells #[.int .i64 1, .bool true, .bool true, .string ⟨#[115, 117, 109, 32, 112, 114, 111, 100]⟩] 30)) (.cells (strC F) 9); rw [World.size_alloc] at this; exact this
        obtain ⟨gb, hgb⟩ : ∃ gb, gb = wr.heap.size := ⟨_, rfl⟩
        rw [← hgb] at HG2 HF2
        simp only [World.size_alloc, List.length_cons, List.length_nil, Nat.zero_add, Nat.reduceAdd]
        rw [← hgb]
        clear hw2 hb2 hF HO HBr HS HS2 HG hx hgb
        generalize (defL.take 5).flatten = L0 at *
        go_wp2_with fail
        go_loopg [25, 2, 6] 2 (fun gg s25 s2 _ wr => ∃ k : Nat, k ≤ 2 ∧ 2 - k ≤ gg ∧ s25 = .int .i64 k ∧ Aside (wr.ownsRow w.heap.size 27 4 s2 (L0 ++ grpE 1 true true (F.take k)).length (ncells (L0 ++ grpE 1 true true (F.take k)))) ∧ Aside (Below w.heap.size w wr) ∧ Aside (wr.heap[gb]? = some (.cells #[.int .i64 1, .bool true, .bool true, .string ⟨#[115, 117, 109, 32, 112, 114, 111, 100]⟩] 30)) ∧ Aside (wr.heap[gb + 1]? = some (.cells (strC F) 9)))
        case atStart => exact ⟨0, by omega, by omega, rfl, (by show World.ownsRow _ _ _ _ _ (L0 ++ []).length (ncells (L0 ++ [])); rw [List.append_nil]; exact HO2.out), HB2.out, HG2.out, HF2.out⟩
        case round =>
          obtain ⟨k, hk, hg2, rfl, HO3, HB3, HG3, HF3⟩ := hrel
          clear HO2 HB2 HG2 HF2
          by_cases hkl : k < 2
          · have hkz : (k : Int) < 2 := by omega
            have hkF : k < F.length := by have := HFL.out; omega
            have hc := (cell_blk HF3.out k).trans (strC_at F k hkF)
            have c0 : wr.cell? ⟨gb, 0, none⟩ = some (.int .i64 1) := cell_blk HG3.out 0
            have c1 : wr.cell? ⟨gb, 1, none⟩ = some (.bool true) := cell_blk HG3.out 1
            have c2 : wr.cell? ⟨gb, 2, none⟩ = some (.bool true) := cell_blk HG3.out 2
            have HGS := Lib.hid (grp_succ 1 true true F k hkF)
            have hs3 := HB3.out.size
            have HLL : Hid ((L0 ++ grpE 1 true true (F.take k)).length ≤ 100) := by show _ ≤ 100; rw [List.length_append]; unfold grpE; rw [List.length_map, List.length_take]; have := HL.out; omega
            obtain ⟨t, htt⟩ : ∃ t, t = F[k] := ⟨_, rfl⟩
            rw [← htt] at hc HGS
            clear htt
            go_wp2_with (at_builtin; refine wpList_append_own _ rfl _ _ 23 rfl w.heap.size 27 i0 _ 4 32 Tryd.underlying23 hi0 hz0 hz1 hz2 rfl (by decide) _ _ _ rfl (HO3.out.alloc _) ⟨wr.heap.size, 0, none⟩ 1 1 (En.cells ⟨t, 1, true, true⟩) rfl rfl ?c1 ?c2 ?c3 ?c4 ?c5 ?_)
            case c1 =>
              intro j u hu
              rw [addr_add']
              have hj : j < 4 := by have := (List.getElem?_eq_some_iff.1 hu).1; simpa [En.cells] using this
              have hm : j = 0 ∨ j = 1 ∨ j = 2 ∨ j = 3 := by omega
              unfold En.cells at hu
              rcases hm with rfl | rfl | rfl | rfl <;> (simp at hu; subst hu; simp)
            case c2 => intro u hu; exact ncells_oneCell [⟨t, 1, true, true⟩] u (by rw [ncells_one]; exact hu)
            case c3 => unfold maxLen; have := HLL.out; omega
            case c4 => have := HLL.out; omega
            case c5 => simp; omega
            intro v' w5 hown' hgrow _
            have hbA : Below wr.heap.size wr (wr.alloc (.cells #[.string ⟨t.toArray⟩, .int .i64 1, .bool true, .bool true] 27)) := (Below.refl _ _).alloc (Nat.le_refl _) _
            have hrow : ∀ k, u2.ownBlock = some k → ∃ cs fr, (wr.alloc (.cells #[.string ⟨t.toArray⟩, .int .i64 1, .bool true, .bool true] 27)).heap[k]? = some (.cells cs 27 fr) := fun k hk => own_type (own_below HO3.out hbA) hk
            have HO5 : Hid (w5.ownsRow w.heap.size 27 4 v' (L0 ++ grpE 1 true true (F.take (k + 1))).length (ncells (L0 ++ grpE 1 true true (F.take (k + 1))))) := by
              show World.ownsRow _ _ _ _ _ _ _
              rw [HGS.out, ← List.append_assoc, ncells_append, ncells_one, List.length_append, List.length_append]; exact hown'
            have HB5 := Lib.hid ((HB3.out.trans (hbA.mono hs3)).grown hgrow (by simp; omega) (fun k hk => by have := (HO3.out.lt k hk).1; omega))
            have HG5 : Hid (w5.heap[gb]? = some (.cells #[.int .i64 1, .bool true, .bool true, .string ⟨#[115, 117, 109, 32, 112, 114, 111, 100]⟩] 30)) := keep_blk hgrow hrow (by decide) ((hbA.block _ (blk_lt HG3.out)).trans HG3.out)
            have HF5 : Hid (w5.heap[gb + 1]? = some (.cells (strC F) 9)) := keep_blk hgrow hrow (by decide) ((hbA.block _ (blk_lt HF3.out)).trans HF3.out)
            clear hown' hgrow hbA hrow hc c0 c1 c2
            go_wp2_with fail
            go_roundg (2 - (k + 1))
            case measure => omega
            case rel => exact ⟨k + 1, by omega, by omega, by go_num, HO5.out, HB5.out, HG5.out, HF5.out⟩
          · have hkz : ¬ (k : Int) < 2 := by omega
            have HTK : Hid (F.take k = F) := List.take_of_length_le (by have := HFL.out; omega)
            go_wp2_with fail
            go_roundg 3
            case measure => omega
            case rel => exact ⟨6, by omega, by omega, rfl, (by rw [HD.out]; have := HO3.out; rw [HTK.out] at this; exact this), HB3.out⟩
      · have hx : ∀ w : World, (Instr.index 31 AG (.int .i64 6)).run Tryd.prog w = .ok (.agg #[.int .i64 1, .bool false, .bool true, .string ⟨#[105, 110, 116]⟩]) w := fun w => by rw [← HX.out]; exact idx6 w
        have hsr := HBr.out.size
        have HS := Lib.hid (HT.out.below HBr.out)
        have hbg : Below wr.heap.size wr (wr.alloc (.cells #[.int .i64 1, .bool false, .bool true, .string ⟨#[105, 110, 116]⟩] 30)) := (Below.refl _ _).alloc (Nat.le_refl _) _
        have HS2 := Lib.hid (HS.out.below hbg)
        have HG := Lib.hid (blk_new wr (.cells #[.int .i64 1, .bool false, .bool true, .string ⟨#[105, 110, 116]⟩] 30))
        have HL : Hid ((defL.take 6).flatten.length ≤ 40) := by show _ ≤ 40; decide +kernel
        clear hbg
        go_wp2_with fail
        refine (fields_any [105, 110, 116] _ (by decide) (by decide) HS2.out).mono ?_
        rw [fld6]
        rintro e w2 ⟨rfl, hw2⟩
        obtain ⟨F, hF⟩ : ∃ F : List (List UInt8), F = [[105, 110, 116]] := ⟨_, rfl⟩
        rw [← hF] at hw2
        have HFL : Hid (F.length = 1) := by show F.length = 1; rw [hF]; rfl
        have HD : Hid ((defL.take 7).flatten = (defL.take 6).flatten ++ grpE 1 false true F) := by rw [hF]; exact def_succ 6 (by decide)
        have hb2 : Below wr.heap.size wr w2 := by rw [← hw2]; exact ((Below.refl _ _).alloc (Nat.le_refl _) _).alloc (by simp) _
        have HO2 := Lib.hid (own_below HO.out hb2)
        have HB2 := Lib.hid (HBr.out.trans (hb2.mono hsr))
        have HG2 : Hid (w2.heap[wr.heap.size]? = some (.cells #[.int .i64 1, .bool false, .bool true, .string ⟨#[105, 110, 116]⟩] 30)) := by rw [← hw2]; exact (Below.heap_alloc _ _ _ (by simp)).trans HG.out
        have HF2 : Hid (w2.heap[wr.heap.size + 1]? = some (.cells (strC F) 9)) := by rw [← hw2]; have := blk_new (wr.alloc (.cells #[.int .i64 1, .bool false, .bool true, .string ⟨#[105, 110, 116]⟩] 30)) (.cells (strC F) 9); rw [World.size_alloc] at this; exact this
        obtain ⟨gb, hgb⟩ : ∃ gb, gb = wr.heap.size := ⟨_, rfl⟩
        rw [← hgb] at HG2 HF2
        simp only [World.size_alloc, List.length_cons, List.length_nil, Nat.zero_add]
        rw [← hgb]
        clear hw2 hb2 hF HO HBr HS HS2 HG hx hgb
        generalize (defL.take 6).flatten = L0 at *
        go_wp2_with fail
        go_loopg [25, 2, 6] 1 (fun gg s25 s2 _ wr => ∃ k : Nat, k ≤ 1 ∧ 1 - k ≤ gg ∧ s25 = .int .i64 k ∧ Aside (wr.ownsRow w.heap.size 27 4 s2 (L0 ++ grpE 1 false true (F.take k)).length (ncells (L0 ++ grpE 1 false true (F.take k)))) ∧ Aside (Below w.heap.size w wr) ∧ Aside (wr.heap[gb]? = some (.cells #[.int .i64 1, .bool false, .bool true, .string ⟨#[105, 110, 116]⟩] 30)) ∧ Aside (wr.heap[gb + 1]? = some (.cells (strC F) 9)))
        case atStart => exact ⟨0, by omega, by omega, rfl, (by show World.ownsRow _ _ _ _ _ (L0 ++ []).length (ncells (L0 ++ [])); rw [List.append_nil]; exact HO2.out), HB2.out, HG2.out, HF2.out⟩
        case round =>
          obtain ⟨k, hk, hg2, rfl, HO3, HB3, HG3, HF3⟩ := hrel
          clear HO2 HB2 HG2 HF2
          by_cases hkl : k < 1
          · have hkz : (k : Int) < 1 := by omega
            have hkF : k < F.length := by have := HFL.out; omega
            have hc := (cell_blk HF3.out k).trans (strC_at F k hkF)
            have c0 : wr.cell? ⟨gb, 0, none⟩ = some (.int .i64 1) := cell_blk HG3.out 0
            have c1 : wr.cell? ⟨gb, 1, none⟩ = some (.bool false) := cell_blk HG3.out 1
            have c2 : wr.cell? ⟨gb, 2, none⟩ = some (.bool true) := cell_blk HG3.out 2
            have HGS := Lib.hid (grp_succ 1 false true F k hkF)
            have hs3 := HB3.out.size
            have HLL : Hid ((L0 ++ grpE 1 false true (F.take k)).length ≤ 100) := by show _ ≤ 100; rw [List.length_append]; unfold grpE; rw [List.length_map, List.length_take]; have := HL.out; omega
            obtain ⟨t, htt⟩ : ∃ t, t = F[k] := ⟨_, rfl⟩
            rw [← htt] at hc HGS
            clear htt
            go_wp2_with (at_builtin; refine wpList_append_own _ rfl _ _ 23 rfl w.heap.size 27 i0 _ 4 32 Tryd.underlying23 hi0 hz0 hz1 hz2 rfl (by decide) _ _ _ rfl (HO3.out.alloc _) ⟨wr.heap.size, 0, none⟩ 1 1 (En.cells ⟨t, 1, false, true⟩) rfl rfl ?c1 ?c2 ?c3 ?c4 ?c5 ?_)
            case c1 =>
              intro j u hu
              rw [addr_add']
              have hj : j < 4 := by have := (List.getElem?_eq_some_iff.1 hu).1; simpa [En.cells] using this
              have hm : j = 0 ∨ j = 1 ∨ j = 2 ∨ j = 3 := by omega
              unfold En.cells at hu
              rcases hm with rfl | rfl | rfl | rfl <;> (simp at hu; subst hu; simp)
            case c2 => intro u hu; exact ncells_oneCell [⟨t, 1, false, true⟩] u (by rw [ncells_one]; exact hu)
            case c3 => unfold maxLen; have := HLL.out; omega
            case c4 => have := HLL.out; omega
            case c5 => simp; omega
            intro v' w5 hown' hgrow _
            have hbA : Below wr.heap.size wr (wr.alloc (.cells #[.string ⟨t.toArray⟩, .int .i64 1, .bool false, .bool true] 27)) := (Below.refl _ _).alloc (Nat.le_refl _) _
            have hrow : ∀ k, u2.ownBlock = some k → ∃ cs fr, (wr.alloc (.cells #[.string ⟨t.toArray⟩, .int .i64 1, .bool false, .bool true] 27)).heap[k]? = some (.cells cs 27 fr) := fun k hk => own_type (own_below HO3.out hbA) hk
            have HO5 : Hid (w5.ownsRow w.heap.size 27 4 v' (L0 ++ grpE 1 false true (F.take (k + 1))).length (ncells (L0 ++ grpE 1 false true (F.take (k + 1))))) := by
              show World.ownsRow _ _ _ _ _ _ _
              rw [HGS.out, ← List.append_assoc, ncells_append, ncells_one, List.length_append, List.length_append]; exact hown'
            have HB5 := Lib.hid ((HB3.out.trans (hbA.mono hs3)).grown hgrow (by simp; omega) (fun k hk => by have := (HO3.out.lt k hk).1; omega))
            have HG5 : Hid (w5.heap[gb]? = some (.cells #[.int .i64 1, .bool false, .bool true, .string ⟨#[105, 110, 116]⟩] 30)) := keep_blk hgrow hrow (by decide) ((hbA.block _ (blk_lt HG3.out)).trans HG3.out)
            have HF5 : Hid (w5.heap[gb + 1]? = some (.cells (strC F) 9)) := keep_blk hgrow hrow (by decide) ((hbA.block _ (blk_lt HF3.out)).trans HF3.out)
            clear hown' hgrow hbA hrow hc c0 c1 c2
            go_wp2_with fail
            go_roundg (1 - (k + 1))
            case measure => omega
            case rel => exact ⟨k + 1, by omega, by omega, by go_num, HO5.out, HB5.out, HG5.out, HF5.out⟩
          · have hkz : ¬ (k : Int) < 1 := by omega
            have HTK : Hid (F.take k = F) := List.take_of_length_le (by have := HFL.out; omega)
            go_wp2_with fail
            go_roundg 2
            case measure => omega
            case rel => exact ⟨7, by omega, by omega, rfl, (by rw [HD.out]; have := HO3.out; rw [HTK.out] at this; exact this), HB3.out⟩
      · have hx : ∀ w : World, (Instr.index 31 AG (.int .i64 7)).run Tryd.prog w = .ok (.agg #[.int .i64 1, .bool true, .bool false, .string ⟨#[108, 105, 109, 32, 109, 97, 120, 32, 109, 105, 110]⟩]) w := fun w => by rw [← HX.out]; exact idx7 w
        have hsr := HBr.out.size
        have HS := Lib.hid (HT.out.below HBr.out)
        have hbg : Below wr.heap.size wr (wr.alloc (.cells #[.int .i64 1, .bool true, .bool false, .string ⟨#[108, 105, 109, 32, 109, 97, 120, 32, 109, 105, 110]⟩] 30)) := (Below.refl _ _).alloc (Nat.le_refl _) _
        have HS2 := Lib.hid (HS.out.below hbg)
        have HG := Lib.hid (blk_new wr (.cells #[.int .i64 1, .bool true, .bool false, .string ⟨#[108, 105, 109, 32, 109, 97, 120, 32, 109, 105, 110]⟩] 30))
        have HL : Hid ((defL.take 7).flatten.length ≤ 40) := by show _ ≤ 40; decide +kernel
        clear hbg
        go_wp2_with fail
        refine (fields_any [108, 105, 109, 32, 109, 97, 120, 32, 109, 105, 110] _ (by decide) (by decide) HS2.out).mono ?_
        rw [fld7]
        rintro e w2 ⟨rfl, hw2⟩
        obtain ⟨F, hF⟩ : ∃ F : List (List UInt8), F = [[108, 105, 109], [109, 97, 120], [109, 105, 110]] := ⟨_, rfl⟩
        rw [← hF] at hw2
        have HFL : Hid (F.length = 3) := by show F.length = 3; rw [hF]; rfl
        have HD : Hid ((defL.take 8).flatten = (defL.take 7).flatten ++ grpE 1 true false F) := by rw [hF]; exact def_succ 7 (by decide)
        have hb2 : Below wr.heap.size wr w2 := by rw [← hw2]; exact ((Below.refl _ _).alloc (Nat.le_refl _) _).alloc (by simp) _
        have HO2 := Lib.hid (own_below HO.out hb2)
        have HB2 := Lib.hid (HBr.out.trans (hb2.mono hsr))
        have HG2 : Hid (w2.heap[wr.heap.size]? = some (.cells #[.int .i64 1, .bool true, .bool false, .string ⟨#[108, 105, 109, 32, 109, 97, 120, 32, 109, 105, 110]⟩] 30)) := by rw [← hw2]; exact (Below.heap_alloc _ _ _ (by simp)).trans HG.out
        have HF2 : Hid (w2.heap[wr.heap.size + 1]? = some (.cells (strC F) 9)) := by rw [← hw2]; have := blk_new (wr.alloc (.cells #[.int .i64 1, .bool true, .bool false, .string ⟨#[108, 105, 109, 32, 109, 97, 120, 32, 109, 105, 110]⟩] 30)) (.cells (strC F) 9); rw [World.size_alloc] at this; exact this
        obtain ⟨gb, hgb⟩ : ∃ gb, gb = wr.heap.size := ⟨_, rfl⟩
        rw [← hgb] at HG2 HF2
        simp only [World.size_alloc, List.length_cons, List.length_nil, Nat.zero_add, Nat.reduceAdd]
        rw [← hgb]
        clear hw2 hb2 hF HO HBr HS HS2 HG hx hgb
        generalize (defL.take 7).flatten = L0 at *
        go_wp2_with fail
        go_loopg [25, 2, 6] 3 (fun gg s25 s2 _ wr => ∃ k : Nat, k ≤ 3 ∧ 3 - k ≤ gg ∧ s25 = .int .i64 k ∧ Aside (wr.ownsRow w.heap.size 27 4 s2 (L0 ++ grpE 1 true false (F.take k)).length (ncells (L0 ++ grpE 1 true false (F.take k)))) ∧ Aside (Below w.heap.size w wr) ∧ Aside (wr.heap[gb]? = some (.cells #[.int .i64 1, .bool true, .bool false, .string ⟨#[108, 105, 109, 32, 109, 97, 120, 32, 109, 105, 110]⟩] 30)) ∧ Aside (wr.heap[gb + 1]? = some (.cells (strC F) 9)))
        case atStart => exact ⟨0, by omega, by omega, rfl, (by show World.ownsRow _ _ _ _ _ (L0 ++ []).length (ncells (L0 ++ [])); rw [List.append_nil]; exact HO2.out), HB2.out, HG2.out, HF2.out⟩
        case round =>
          obtain ⟨k, hk, hg2, rfl, HO3, HB3, HG3, HF3⟩ := hrel
          clear HO2 HB2 HG2 HF2
          by_cases hkl : k < 3
          · have hkz : (k : Int) < 3 := by omega
            have hkF : k < F.length := by have := HFL.out; omega
            have hc := (cell_blk HF3.out k).trans (strC_at F k hkF)
            have c0 : wr.cell? ⟨gb, 0, none⟩ = some (.int .i64 1) := cell_blk HG3.out 0
            have c1 : wr.cell? ⟨gb, 1, none⟩ = some (.bool true) := cell_blk HG3.out 1
            have c2 : wr.cell? ⟨gb, 2, none⟩ = some (.bool false) := cell_blk HG3.out 2
            have HGS := Lib.hid (grp_succ 1 true false F k hkF)
            have hs3 := HB3.out.size
            have HLL : Hid ((L0 ++ grpE 1 true false (F.take k)).length ≤ 100) := by show _ ≤ 100; rw [List.length_append]; unfold grpE; rw [List.length_map, List.length_take]; have := HL.out; omega
            obtain ⟨t, htt⟩ : ∃ t, t = F[k] := ⟨_, rfl⟩
            rw [← htt] at hc HGS
            clear htt
            go_wp2_with (at_builtin; refine wpList_append_own _ rfl _ _ 23 rfl w.heap.size 27 i0 _ 4 32 Tryd.underlying23 hi0 hz0 hz1 hz2 rfl (by decide) _ _ _ rfl (HO3.out.alloc _) ⟨wr.heap.size, 0, none⟩ 1 1 (En.cells ⟨t, 1, true, false⟩) rfl rfl ?c1 ?c2 ?c3 ?c4 ?c5 ?_)
            case c1 =>
              intro j u hu
              rw [addr_add']
              have hj : j < 4 := by have := (List.getElem?_eq_some_iff.1 hu).1; simpa [En.cells] using this
              have hm : j = 0 ∨ j = 1 ∨ j = 2 ∨ j = 3 := by omega
              unfold En.cells at hu
              rcases hm with rfl | rfl | rfl | rfl <;> (simp at hu; subst hu; simp)
            case c2 => intro u hu; exact ncells_oneCell [⟨t, 1, true, false⟩] u (by rw [ncells_one]; exact hu)
            case c3 => unfold maxLen; have := HLL.out; omega
            case c4 => have := HLL.out; omega
            case c5 => simp; omega
            intro v' w5 hown' hgrow _
            have hbA : Below wr.heap.size wr (wr.alloc (.cells #[.string ⟨t.toArray⟩, .int .i64 1, .bool true, .bool false] 27)) := (Below.refl _ _).alloc (Nat.le_refl _) _
            have hrow : ∀ k, u2.ownBlock = some k → ∃ cs fr, (wr.alloc (.cells #[.string ⟨t.toArray⟩, .int .i64 1, .bool true, .bool false] 27)).heap[k]? = some (.cells cs 27 fr) := fun k hk => own_type (own_below HO3.out hbA) hk
            have HO5 : Hid (w5.ownsRow w.heap.size 27 4 v' (L0 ++ grpE 1 true false (F.take (k + 1))).length (ncells (L0 ++ grpE 1 true false (F.take (k + 1))))) := by
              show World.ownsRow _ _ _ _ _ _ _
              rw [HGS.out, ← List.append_assoc, ncells_append, ncells_one, List.length_append, List.length_append]; exact hown'
            have HB5 := Lib.hid ((HB3.out.trans (hbA.mono hs3)).grown hgrow (by simp; omega) (fun k hk => by have := (HO3.out.lt k hk).1; omega))
            have HG5 : Hid (w5.heap[gb]? = some (.cells #[.int .i64 1, .bool true, .bool false, .string ⟨#[108, 105, 109, 32, 109, 97, 120, 32, 109, 105, 110]⟩] 30)) := keep_blk hgrow hrow (by decide) ((hbA.block _ (blk_lt HG3.out)).trans HG3.out)
            have HF5 : Hid (w5.heap[gb + 1]? = some (.cells (strC F) 9)) := keep_blk hgrow hrow (by decide) ((hbA.block _ (blk_lt HF3.out)).trans HF3.out)
            clear hown' hgrow hbA hrow hc c0 c1 c2
            go_wp2_with fail
            go_roundg (3 - (k + 1))
            case measure => omega
            case rel => exact ⟨k + 1, by omega, by omega, by go_num, HO5.out, HB5.out, HG5.out, HF5.out⟩
          · have hkz : ¬ (k : Int) < 3 := by omega
            have HTK : Hid (F.take k = F) := List.take_of_length_le (by have := HFL.out; omega)
            go_wp2_with fail
            go_roundg 1
            case measure => omega
            case rel => exact ⟨8, by omega, by omega, rfl, (by rw [HD.out]; have := HO3.out; rw [HTK.out] at this; exact this), HB3.out⟩
      · have hx : ∀ w : World, (Instr.index 31 AG (.int .i64 8)).run Tryd.prog w = .ok (.agg #[.int .i64 1, .bool false, .bool false, .string ⟨#[115, 105, 110, 32, 99, 111, 115, 32, 116, 97, 110, 32, 108, 111, 103, 32, 108, 110, 32, 101, 120, 112]⟩]) w := fun w => by rw [← HX.out]; exact idx8 w
        have hsr := HBr.out.size
        have HS := Lib.hid (HT.out.below HBr.out)
        have hbg : Below wr.heap.size wr (wr.alloc (.cells #[.int .i64 1, .bool false, .bool false, .string ⟨#[115, 105, 110, 32, 99, 111, 115, 32, 116, 97, 110, 32, 108, 111, 103, 32, 108, 110, 32, 101, 120, 112]⟩] 30)) := (Below.refl _ _).alloc (Nat.le_refl _) _
        have HS2 := Lib.hid (HS.out.below hbg)
        have HG := Lib.hid (blk_new wr (.cells #[.int .i64 1, .bool false, .bool false, .string ⟨#[115, 105, 110, 32, 99, 111, 115, 32, 116, 97, 110, 32, 108, 111, 103, 32, 108, 110, 32, 101, 120, 112]⟩] 30))
        have HL : Hid ((defL.take 8).flatten.length ≤ 40) := by show _ ≤ 40; decide +kernel
        clear hbg
        go_wp2_with fail
        refine (fields_any [115, 105, 110, 32, 99, 111, 115, 32, 116, 97, 110, 32, 108, 111, 103, 32, 108, 110, 32, 101, 120, 112] _ (by decide) (by decide) HS2.out).mono ?_
        rw [fld8]
        rintro e w2 ⟨rfl, hw2⟩
        obtain ⟨F, hF⟩ : ∃ F : List (List UInt8), F = [[115, 105, 110], [99, 111, 115], [116, 97, 110], [108, 111, 103], [108, 110], [101, 120, 112]] := ⟨_, rfl⟩
        rw [← hF] at hw2
        have HFL : Hid (F.length = 6) := by show F.length = 6; rw [hF]; rfl
        have HD : Hid ((defL.take 9).flatten = (defL.take 8).flatten ++ grpE 1 false false F) := by rw [hF]; exact def_succ 8 (by decide)
        have hb2 : Below wr.heap.size wr w2 := by rw [← hw2]; exact ((Below.refl _ _).alloc (Nat.le_refl _) _).alloc (by simp) _
        have HO2 := Lib.hid (own_below HO.out hb2)
        have HB2 := Lib.hid (HBr.out.trans (hb2.mono hsr))
        have HG2 : Hid (w2.heap[wr.heap.size]? = some (.cells #[.int .i64 1, .bool false, .bool false, .string ⟨#[115, 105, 110, 32, 99, 111, 115, 32, 116, 97, 110, 32, 108, 111, 103, 32, 108, 110, 32, 101, 120, 112]⟩] 30)) := by rw [← hw2]; exact (Below.heap_alloc _ _ _ (by simp)).trans HG.out
        have HF2 : Hid (w2.heap[wr.heap.size + 1]? = some (.cells (strC F) 9)) := by rw [← hw2]; have := blk_new (wr.alloc (.cells #[.int .i64 1, .bool false, .bool false, .string ⟨#[115, 105, 110, 32, 99, 111, 115, 32, 116, 97, 110, 32, 108, 111, 103, 32, 108, 110, 32, 101, 120, 112]⟩] 30)) (.cells (strC F) 9); rw [World.size_alloc] at this; exact this
        obtain ⟨gb, hgb⟩ : ∃ gb, gb = wr.heap.size := ⟨_, rfl⟩
        rw [← hgb] at HG2 HF2
        simp only [World.size_alloc, List.length_cons, List.length_nil, Nat.zero_add, Nat.reduceAdd]
        rw [← hgb]
        clear hw2 hb2 hF HO HBr HS HS2 HG hx hgb
        generalize (defL.take 8).flatten = L0 at *
        go_wp2_with fail
        go_loopg [25, 2, 6] 6 (fun gg s25 s2 _ wr => ∃ k : Nat, k ≤ 6 ∧ 6 - k ≤ gg ∧ s25 = .int .i64 k ∧ Aside (wr.ownsRow w.heap.size 27 4 s2 (L0 ++ grpE 1 false false (F.take k)).length (ncells (L0 ++ grpE 1 false false (F.take k)))) ∧ Aside (Below w.heap.size w wr) ∧ Aside (wr.heap[gb]? = some (.cells #[.int .i64 1, .bool false, .bool false, .string ⟨#[115, 105, 110, 32, 99, 111, 115, 32, 116, 97, 110, 32, 108, 111, 103, 32, 108, 110, 32, 101, 120, 112]⟩] 30)) ∧ Aside (wr.heap[gb + 1]? = some (.cells (strC F) 9)))
        case atStart => exact ⟨0, by omega, by omega, rfl, (by show World.ownsRow _ _ _ _ _ (L0 ++ []).length (ncells (L0 ++ [])); rw [List.append_nil]; exact HO2.out), HB2.out, HG2.out, HF2.out⟩
        case round =>
          obtain ⟨k, hk, hg2, rfl, HO3, HB3, HG3, HF3⟩ := hrel
          clear HO2 HB2 HG2 HF2
          by_cases hkl : k < 6
          · have hkz : (k : Int) < 6 := by omega
            have hkF : k < F.length := by have := HFL.out; omega
            have hc := (cell_blk HF3.out k).trans (strC_at F k hkF)
            have c0 : wr.cell? ⟨gb, 0, none⟩ = some (.int .i64 1) := cell_blk HG3.out 0
            have c1 : wr.cell? ⟨gb, 1, none⟩ = some (.bool false) := cell_blk HG3.out 1
            have c2 : wr.cell? ⟨gb, 2, none⟩ = some (.bool false) := cell_blk HG3.out 2
            have HGS := Lib.hid (grp_succ 1 false false F k hkF)
            have hs3 := HB3.out.size
            have HLL : Hid ((L0 ++ grpE 1 false false (F.take k)).length ≤ 100) := by show _ ≤ 100; rw [List.length_append]; unfold grpE; rw [List.length_map, List.length_take]; have := HL.out; omega
            obtain ⟨t, htt⟩ : ∃ t, t = F[k] := ⟨_, rfl⟩
            rw [← htt] at hc HGS
            clear htt
            go_wp2_with (at_builtin; refine wpList_append_own _ rfl _ _ 23 rfl w.heap.size 27 i0 _ 4 32 Tryd.underlying23 hi0 hz0 hz1 hz2 rfl (by decide) _ _ _ rfl (HO3.out.alloc _) ⟨wr.heap.size, 0, none⟩ 1 1 (En.cells ⟨t, 1, false, false⟩) rfl rfl ?c1 ?c2 ?c3 ?c4 ?c5 ?_)
            case c1 =>
              intro j u hu
              rw [addr_add']
              have hj : j < 4 := by have := (List.getElem?_eq_some_iff.1 hu).1; simpa [En.cells] using this
              have hm : j = 0 ∨ j = 1 ∨ j = 2 ∨ j = 3 := by omega
              unfold En.cells at hu
              rcases hm with rfl | rfl | rfl | rfl <;> (simp at hu; subst hu; simp)
            case c2 => intro u hu; exact ncells_oneCell [⟨t, 1, false, false⟩] u (by rw [ncells_one]; exact hu)
            case c3 => unfold maxLen; have := HLL.out; omega
            case c4 => have := HLL.out; omega
            case c5 => simp; omega
            intro v' w5 hown' hgrow _
            have hbA : Below wr.heap.size wr (wr.alloc (.cells #[.string ⟨t.toArray⟩, .int .i64 1, .bool false, .bool false] 27)) := (Below.refl _ _).alloc (Nat.le_refl _) _
            have hrow : ∀ k, u2.ownBlock = some k → ∃ cs fr, (wr.alloc (.cells #[.string ⟨t.toArray⟩, .int .i64 1, .bool false, .bool false] 27)).heap[k]? = some (.cells cs 27 fr) := fun k hk => own_type (own_below HO3.out hbA) hk
            have HO5 : Hid (w5.ownsRow w.heap.size 27 4 v' (L0 ++ grpE 1 false false (F.take (k + 1))).length (ncells (L0 ++ grpE 1 false false (F.take (k + 1))))) := by
              show World.ownsRow _ _ _ _ _ _ _
              rw [HGS.out, ← List.append_assoc, ncells_append, ncells_one, List.length_append, List.length_append]; exact hown'
            have HB5 := Lib.hid ((HB3.out.trans (hbA.mono hs3)).grown hgrow (by simp; omega) (fun k hk => by have := (HO3.out.lt k hk).1; omega))
            have HG5 : Hid (w5.heap[gb]? = some (.cells #[.int .i64 1, .bool false, .bool false, .string ⟨#[115, 105, 110, 32, 99, 111, 115, 32, 116, 97, 110, 32, 108, 111, 103, 32, 108, 110, 32, 101, 120, 112]⟩] 30)) := keep_blk hgrow hrow (by decide) ((hbA.block _ (blk_lt HG3.out)).trans HG3.out)
            have HF5 : Hid (w5.heap[gb + 1]? = some (.cells (strC F) 9)) := keep_blk hgrow hrow (by decide) ((hbA.block _ (blk_lt HF3.out)).trans HF3.out)
            clear hown' hgrow hbA hrow hc c0 c1 c2
            go_wp2_with fail
            go_roundg (6 - (k + 1))
            case measure => omega
            case rel => exact ⟨k + 1, by omega, by omega, by go_num, HO5.out, HB5.out, HG5.out, HF5.out⟩
          · have hkz : ¬ (k : Int) < 6 := by omega
            have HTK : Hid (F.take k = F) := List.take_of_length_le (by have := HFL.out; omega)
            go_wp2_with fail
            go_roundg 0
            case measure => omega
            case rel => exact ⟨9, by omega, by omega, rfl, (by rw [HD.out]; have := HO3.out; rw [HTK.out] at this; exact this), HB3.out⟩
    · obtain rfl : i = 9 := by omega
      go_wp2_with fail
      go_ret
      exact ⟨_, rfl, HO.out, HBr.out⟩
end Go.Proofs.YthhnbfndmjpdgaaDoor
