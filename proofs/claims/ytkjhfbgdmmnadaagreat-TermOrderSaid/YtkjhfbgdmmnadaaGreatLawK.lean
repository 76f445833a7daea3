/- What the laws' walks share: a boxed term, read behind further calls. -/
import Derived.Test.YtkjhfbgdmmnadaaGreatAwk
import Derived.Test.YtkjhfbgdmmnadaaGreatRSiz
import Derived.Lib.QuietBelow
import Derived.BigQuiet
namespace Go.Proofs.YtkjhfbgdmmnadaaGreat
open Go.RowKit

/-- the cells of a boxed term -/
structure Bxd (w : World) (b : Nat) (t : T) (A : Option Addr) (c : Nat) : Prop where
  c0 : w.cell? ⟨b, 0, none⟩ = some (.int .i64 t.kind)
  c1 : w.cell? ⟨b, 1, none⟩ = some (.string ⟨t.name.toArray⟩)
  c2 : w.cell? ⟨b, 2, none⟩ = some (.string ⟨t.var.toArray⟩)
  c3 : w.cell? ⟨b, 3, none⟩ = some (.slice A t.args.length c)
  c4 : w.cell? ⟨b, 4, none⟩ = some (.string ⟨t.form.toArray⟩)
theorem Bxd.below {w w' : World} {B b : Nat} {t : T} {A : Option Addr} {c : Nat} (h : Bxd w b t A c) (hb : Below B w w') (hlt : b < B) : Bxd w' b t A c :=
  ⟨(hb.cell (p := ⟨b, 0, none⟩) hlt).trans h.c0, (hb.cell (p := ⟨b, 1, none⟩) hlt).trans h.c1, (hb.cell (p := ⟨b, 2, none⟩) hlt).trans h.c2, (hb.cell (p := ⟨b, 3, none⟩) hlt).trans h.c3, (hb.cell (p := ⟨b, 4, none⟩) hlt).trans h.c4⟩
theorem bxd_new (w : World) (t : T) (A : Option Addr) (c : Nat) : Bxd (w.alloc (.cells (tv t A c) 24)) w.heap.size t A c := ⟨by simp [tv], by simp [tv], by simp [tv], by simp [tv], by simp [tv]⟩
theorem few_SA' {t : T} (h : fewB t = true) : SA t := lft_SA t 200 (of_decide_eq_true h)
theorem TV.reach {w w' : World} {t : T} {A : Option Addr} {c : Nat} (h : TV w w.heap.size t A c) (hb : Below w.heap.size w w') : TV w' w'.heap.size t A c := (h.below hb).more hb.size
theorem Max.reach {w w' : World} (h : Max w) (hb : Below w.heap.size w w') : Max w' := h.below hb
end Go.Proofs.YtkjhfbgdmmnadaaGreat
