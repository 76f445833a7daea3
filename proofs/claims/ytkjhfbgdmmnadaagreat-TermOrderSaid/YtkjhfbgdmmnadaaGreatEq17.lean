/- Contract of Equal 17: a stack of pairs of subterms. -/
import Derived.Test.YtkjhfbgdmmnadaaGreatFew
import Derived.Test.YtkjhfbgdmmnadaaGreatPlB
import Derived.Lib.QuietBelow
import Derived.BigQuiet
import Derived.Deep.AppendLies
import Derived.Deep.RegionHeldLaw
import Derived.Laws.OwnMore
import Derived.Test.YtkjhfbgdmmnadaaGreatVis
namespace Go.Proofs.YtkjhfbgdmmnadaaGreat
open Go.RowKit

theorem below_dr {B : Nat} {w0 w : World} (h : Below B w0 w) : Below B w0 w.drew := ⟨h.os, h.tape, h.output, h.size, h.block⟩
end Go.Proofs.YtkjhfbgdmmnadaaGreat
