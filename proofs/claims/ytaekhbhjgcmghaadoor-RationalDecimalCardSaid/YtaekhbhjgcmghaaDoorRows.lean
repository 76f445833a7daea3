/-
  NARROWER THAN 'FOR EVERY INPUT', by the rows' own cells (each row's printed sentence says how): RationalMake: laid · RationalField: laid · RationalUndo: laid · RationalSums: laid · RationalPow: laid · RationalProducts: laid · RationalPowers: laid · RationalParse: laid · RationalDecimal: laid.
  DERIVED. THE GIVEN ROWS OF THIS SEAT. 9 by the template 'for every input the law returns true; each argument reads behind the call as it read before'; 0 by the template 'total and deterministic' (their statements: YtaekhbhjgcmghaaDoorTotals.lean).
  GIVEN WITH THE SEED: the statements are not yours to turn. If you find one false, say at which input.
  Laid BY PROGRAM, IN A SANDBOX (cutbox-rows.mjs): the forced cells as the released guide's own fill.sh prints them over the translation 459858f17290b5f6… (all of the seat's roots in one cut). By AI agents, Wed Nov 11 2026. No macro, syntax, notation, axiom, sorry.
-/
import Derived.Test.YtaekhbhjgcmghaaDoorChecked
import GoSem.PinnedTables
import GoSem.Claim
import GoSem.ClaimJoined
import GoSem.ClaimMapViews
import Derived.JoinedTies
import Derived.KernelRfl
namespace Go.Proofs.YtaekhbhjgcmghaaDoor
/- THE CELL 'sum', in the pinned program and in every row, IS THE sha256 OF THE DUMP (.gsa) THAT YtaekhbhjgcmghaaDoorProg.lean LOADS. Nothing in Lean hashes anything: it is a label: what it is worth is what the hold of that sum in a sandbox is worth. -/
noncomputable def Tryd.pinned : Pinned := { name := "ytaekhbhjgcmghaadoor", sum := "459858f17290b5f67bc3592336f68b807da213656cb19af7119c3a3ae45924a8", checked := Tryd.checked }
namespace Rows
def none {H : Type} : Left H := { results := [], args := [] }

/- WHAT THE LISTED PACKAGE-LEVEL VARIABLES READ AS WHEN THE CALL BEGINS. Each datum BY PROGRAM (the guide's laid-datum.mjs) off the statement by which the dump's own 'gosem.cut.vars' lays the variable. In a bare row this is a premise. The card (YtaekhbhjgcmghaaDoorCards.lean) ties it to the program's text. -/
def laid_math_bits_deBruijn32tab {H : Type} : DataW H := .agg [.lit (.int .u8 0), .lit (.int .u8 1), .lit (.int .u8 28), .lit (.int .u8 2), .lit (.int .u8 29), .lit (.int .u8 14), .lit (.int .u8 24), .lit (.int .u8 3), .lit (.int .u8 30), .lit (.int .u8 22), .lit (.int .u8 20), .lit (.int .u8 15), .lit (.int .u8 25), .lit (.int .u8 17), .lit (.int .u8 4), .lit (.int .u8 8), .lit (.int .u8 31), .lit (.int .u8 27), .lit (.int .u8 13), .lit (.int .u8 23), .lit (.int .u8 21), .lit (.int .u8 19), .lit (.int .u8 16), .lit (.int .u8 7), .lit (.int .u8 26), .lit (.int .u8 12), .lit (.int .u8 18), .lit (.int .u8 6), .lit (.int .u8 11), .lit (.int .u8 5), .lit (.int .u8 10), .lit (.int .u8 9)]
def laid_math_bits_deBruijn64tab {H : Type} : DataW H := .agg [.lit (.int .u8 0), .lit (.int .u8 1), .lit (.int .u8 56), .lit (.int .u8 2), .lit (.int .u8 57), .lit (.int .u8 49), .lit (.int .u8 28), .lit (.int .u8 3), .lit (.int .u8 61), .lit (.int .u8 58), .lit (.int .u8 42), .lit (.int .u8 50), .lit (.int .u8 38), .lit (.int .u8 29), .lit (.int .u8 17), .lit (.int .u8 4), .lit (.int .u8 62), .lit (.int .u8 47), .lit (.int .u8 59), .lit (.int .u8 36), .lit (.int .u8 45), .lit (.int .u8 43), .lit (.int .u8 51), .lit (.int .u8 22), .lit (.int .u8 53), .lit (.int .u8 39), .lit (.int .u8 33), .lit (.int .u8 30), .lit (.int .u8 24), .lit (.int .u8 18), .lit (.int .u8 12), .lit (.int .u8 5), .lit (.int .u8 63), .lit (.int .u8 55), .lit (.int .u8 48), .lit (.int .u8 27), .lit (.int .u8 60), .lit (.int .u8 41), .lit (.int .u8 37), .lit (.int .u8 16), .lit (.int .u8 46), .lit (.int .u8 35), .lit (.int .u8 44), .lit (.int .u8 21), .lit (.int .u8 52), .lit (.int .u8 32), .lit (.int .u8 23), .lit (.int .u8 11), .lit (.int .u8 54), .lit (.int .u8 26), .lit (.int .u8 40), .lit (.int .u8 15), .lit (.int .u8 34), .lit (.int .u8 20), .lit (.int .u8 31), .lit (.int .u8 10), .lit (.int .u8 25), .lit (.int .u8 14), .lit (.int .u8 19), .lit (.int .u8 9), .lit (.int .u8 13), .lit (.int .u8 8), .lit (.int .u8 7), .lit (.int .u8 6)]
def laid_internal_strconv_uint64pow10 {H : Type} : DataW H := .agg [.lit (.int .u64 1), .lit (.int .u64 10), .lit (.int .u64 100), .lit (.int .u64 1000), .lit (.int .u64 10000), .lit (.int .u64 100000), .lit (.int .u64 1000000), .lit (.int .u64 10000000), .lit (.int .u64 100000000), .lit (.int .u64 1000000000), .lit (.int .u64 10000000000), .lit (.int .u64 100000000000), .lit (.int .u64 1000000000000), .lit (.int .u64 10000000000000), .lit (.int .u64 100000000000000), .lit (.int .u64 1000000000000000), .lit (.int .u64 10000000000000000), .lit (.int .u64 100000000000000000), .lit (.int .u64 1000000000000000000), .lit (.int .u64 10000000000000000000)]
def laid_unicode_utf8_acceptRanges {H : Type} : DataW H := .agg [.agg [.lit (.int .u8 128), .lit (.int .u8 191)], .agg [.lit (.int .u8 160), .lit (.int .u8 191)], .agg [.lit (.int .u8 128), .lit (.int .u8 159)], .agg [.lit (.int .u8 144), .lit (.int .u8 191)], .agg [.lit (.int .u8 128), .lit (.int .u8 143)], .agg [.lit (.int .u8 0), .lit (.int .u8 0)], .agg [.lit (.int .u8 0), .lit (.int .u8 0)], .agg [.lit (.int .u8 0), .lit (.int .u8 0)], .agg [.lit (.int .u8 0), .lit (.int .u8 0)], .agg [.lit (.int .u8 0), .lit (.int .u8 0)], .agg [.lit (.int .u8 0), .lit (.int .u8 0)], .agg [.lit (.int .u8 0), .lit (.int .u8 0)], .agg [.lit (.int .u8 0), .lit (.int .u8 0)], .agg [.lit (.int .u8 0), .lit (.int .u8 0)], .agg [.lit (.int .u8 0), .lit (.int .u8 0)], .agg [.lit (.int .u8 0), .lit (.int .u8 0)]]
/-- One of Go's own tables, pinned by name: the form's constant. -/
def laid_unicode_utf8_first : DataW Unit := Go.Pinned.utf8First

/-- 'vinculumlaw02.RationalMake': WHATEVER THE INPUT: true; the input reads as it did. -/
def rationalMakeSpec : ChangeSpec := { name := "rationalMake", fn := fun _ => fun
  | [d1, d2] => { results := [.lit (.bool true)], args := [d1, d2] }
  | _ => none }
def rationalMakeRow : OpenClaim := { program := "ytaekhbhjgcmghaadoor", sum := "459858f17290b5f67bc3592336f68b807da213656cb19af7119c3a3ae45924a8", func := "vinculum/vinculumlaw02.RationalMake", spec := "rationalMake", recurses := true, named := ["internal/strconv.uint64pow10", "math/bits.deBruijn32tab", "math/bits.deBruijn64tab"], apart := false, laid := [("math/bits.deBruijn32tab", laid_math_bits_deBruijn32tab), ("math/bits.deBruijn64tab", laid_math_bits_deBruijn64tab), ("internal/strconv.uint64pow10", laid_internal_strconv_uint64pow10)] }
def RationalMakeSaid : Prop := rationalMakeRow.holds Tryd.pinned (OpenSpec.ofChange rationalMakeSpec)

/-- ITS FALSE NEIGHBOUR: 'it returns false'. Refute it at one input. -/
def rationalMakeWrong : ChangeSpec := { name := "rationalMake", fn := fun _ => fun
  | [d1, d2] => { results := [.lit (.bool false)], args := [d1, d2] }
  | _ => none }
def RationalMakeWrongFalsely : Prop := rationalMakeRow.holds Tryd.pinned (OpenSpec.ofChange rationalMakeWrong)

/-- 'vinculumlaw02.RationalField': WHATEVER THE INPUT: true; the input reads as it did. -/
def rationalFieldSpec : ChangeSpec := { name := "rationalField", fn := fun _ => fun
  | [d] => { results := [.lit (.bool true)], args := [d] }
  | _ => none }
def rationalFieldRow : OpenClaim := { program := "ytaekhbhjgcmghaadoor", sum := "459858f17290b5f67bc3592336f68b807da213656cb19af7119c3a3ae45924a8", func := "vinculum/vinculumlaw02.RationalField", spec := "rationalField", named := ["internal/strconv.uint64pow10", "math/bits.deBruijn32tab", "math/bits.deBruijn64tab"], apart := false, laid := [("math/bits.deBruijn32tab", laid_math_bits_deBruijn32tab), ("math/bits.deBruijn64tab", laid_math_bits_deBruijn64tab), ("internal/strconv.uint64pow10", laid_internal_strconv_uint64pow10)] }
def RationalFieldSaid : Prop := rationalFieldRow.holds Tryd.pinned (OpenSpec.ofChange rationalFieldSpec)

/-- ITS FALSE NEIGHBOUR: 'it returns false'. Refute it at one input. -/
def rationalFieldWrong : ChangeSpec := { name := "rationalField", fn := fun _ => fun
  | [d] => { results := [.lit (.bool false)], args := [d] }
  | _ => none }
def RationalFieldWrongFalsely : Prop := rationalFieldRow.holds Tryd.pinned (OpenSpec.ofChange rationalFieldWrong)

/-- 'vinculumlaw02.RationalUndo': WHATEVER THE INPUT: true; the input reads as it did. -/
def rationalUndoSpec : ChangeSpec := { name := "rationalUndo", fn := fun _ => fun
  | [d] => { results := [.lit (.bool true)], args := [d] }
  | _ => none }
def rationalUndoRow : OpenClaim := { program := "ytaekhbhjgcmghaadoor", sum := "459858f17290b5f67bc3592336f68b807da213656cb19af7119c3a3ae45924a8", func := "vinculum/vinculumlaw02.RationalUndo", spec := "rationalUndo", named := ["internal/strconv.uint64pow10", "math/bits.deBruijn32tab", "math/bits.deBruijn64tab"], apart := false, laid := [("math/bits.deBruijn32tab", laid_math_bits_deBruijn32tab), ("math/bits.deBruijn64tab", laid_math_bits_deBruijn64tab), ("internal/strconv.uint64pow10", laid_internal_strconv_uint64pow10)] }
def RationalUndoSaid : Prop := rationalUndoRow.holds Tryd.pinned (OpenSpec.ofChange rationalUndoSpec)

/-- ITS FALSE NEIGHBOUR: 'it returns false'. Refute it at one input. -/
def rationalUndoWrong : ChangeSpec := { name := "rationalUndo", fn := fun _ => fun
  | [d] => { results := [.lit (.bool false)], args := [d] }
  | _ => none }
def RationalUndoWrongFalsely : Prop := rationalUndoRow.holds Tryd.pinned (OpenSpec.ofChange rationalUndoWrong)

/-- 'vinculumlaw02.RationalSums': WHATEVER THE INPUT: true; the input reads as it did. -/
def rationalSumsSpec : ChangeSpec := { name := "rationalSums", fn := fun _ => fun
  | [d1, d2] => { results := [.lit (.bool true)], args := [d1, d2] }
  | _ => none }
def rationalSumsRow : OpenClaim := { program := "ytaekhbhjgcmghaadoor", sum := "459858f17290b5f67bc3592336f68b807da213656cb19af7119c3a3ae45924a8", func := "vinculum/vinculumlaw02.RationalSums", spec := "rationalSums", named := ["internal/strconv.uint64pow10", "math/bits.deBruijn32tab", "math/bits.deBruijn64tab"], apart := false, laid := [("math/bits.deBruijn32tab", laid_math_bits_deBruijn32tab), ("math/bits.deBruijn64tab", laid_math_bits_deBruijn64tab), ("internal/strconv.uint64pow10", laid_internal_strconv_uint64pow10)] }
def RationalSumsSaid : Prop := rationalSumsRow.holds Tryd.pinned (OpenSpec.ofChange rationalSumsSpec)

/-- ITS FALSE NEIGHBOUR: 'it returns false'. Refute it at one input. -/
def rationalSumsWrong : ChangeSpec := { name := "rationalSums", fn := fun _ => fun
  | [d1, d2] => { results := [.lit (.bool false)], args := [d1, d2] }
  | _ => none }
def RationalSumsWrongFalsely : Prop := rationalSumsRow.holds Tryd.pinned (OpenSpec.ofChange rationalSumsWrong)

/-- 'vinculumlaw02.RationalPow': WHATEVER THE INPUT: true; the input reads as it did. -/
def rationalPowSpec : ChangeSpec := { name := "rationalPow", fn := fun _ => fun
  | [d1, d2] => { results := [.lit (.bool true)], args := [d1, d2] }
  | _ => none }
def rationalPowRow : OpenClaim := { program := "ytaekhbhjgcmghaadoor", sum := "459858f17290b5f67bc3592336f68b807da213656cb19af7119c3a3ae45924a8", func := "vinculum/vinculumlaw02.RationalPow", spec := "rationalPow", recurses := true, named := ["internal/strconv.uint64pow10", "math/bits.deBruijn32tab", "math/bits.deBruijn64tab"], apart := false, laid := [("math/bits.deBruijn32tab", laid_math_bits_deBruijn32tab), ("math/bits.deBruijn64tab", laid_math_bits_deBruijn64tab), ("internal/strconv.uint64pow10", laid_internal_strconv_uint64pow10)] }
def RationalPowSaid : Prop := rationalPowRow.holds Tryd.pinned (OpenSpec.ofChange rationalPowSpec)

/-- ITS FALSE NEIGHBOUR: 'it returns false'. Refute it at one input. -/
def rationalPowWrong : ChangeSpec := { name := "rationalPow", fn := fun _ => fun
  | [d1, d2] => { results := [.lit (.bool false)], args := [d1, d2] }
  | _ => none }
def RationalPowWrongFalsely : Prop := rationalPowRow.holds Tryd.pinned (OpenSpec.ofChange rationalPowWrong)

/-- 'vinculumlaw02.RationalProducts': WHATEVER THE INPUT: true; the input reads as it did. -/
def rationalProductsSpec : ChangeSpec := { name := "rationalProducts", fn := fun _ => fun
  | [d1, d2] => { results := [.lit (.bool true)], args := [d1, d2] }
  | _ => none }
def rationalProductsRow : OpenClaim := { program := "ytaekhbhjgcmghaadoor", sum := "459858f17290b5f67bc3592336f68b807da213656cb19af7119c3a3ae45924a8", func := "vinculum/vinculumlaw02.RationalProducts", spec := "rationalProducts", named := ["internal/strconv.uint64pow10", "math/bits.deBruijn32tab", "math/bits.deBruijn64tab"], apart := false, laid := [("math/bits.deBruijn32tab", laid_math_bits_deBruijn32tab), ("math/bits.deBruijn64tab", laid_math_bits_deBruijn64tab), ("internal/strconv.uint64pow10", laid_internal_strconv_uint64pow10)] }
def RationalProductsSaid : Prop := rationalProductsRow.holds Tryd.pinned (OpenSpec.ofChange rationalProductsSpec)

/-- ITS FALSE NEIGHBOUR: 'it returns false'. Refute it at one input. -/
def rationalProductsWrong : ChangeSpec := { name := "rationalProducts", fn := fun _ => fun
  | [d1, d2] => { results := [.lit (.bool false)], args := [d1, d2] }
  | _ => none }
def RationalProductsWrongFalsely : Prop := rationalProductsRow.holds Tryd.pinned (OpenSpec.ofChange rationalProductsWrong)

/-- 'vinculumlaw02.RationalPowers': WHATEVER THE INPUT: true; the input reads as it did. -/
def rationalPowersSpec : ChangeSpec := { name := "rationalPowers", fn := fun _ => fun
  | [d1, d2, d3] => { results := [.lit (.bool true)], args := [d1, d2, d3] }
  | _ => none }
def rationalPowersRow : OpenClaim := { program := "ytaekhbhjgcmghaadoor", sum := "459858f17290b5f67bc3592336f68b807da213656cb19af7119c3a3ae45924a8", func := "vinculum/vinculumlaw02.RationalPowers", spec := "rationalPowers", named := ["internal/strconv.uint64pow10", "math/bits.deBruijn32tab", "math/bits.deBruijn64tab"], apart := false, laid := [("math/bits.deBruijn32tab", laid_math_bits_deBruijn32tab), ("math/bits.deBruijn64tab", laid_math_bits_deBruijn64tab), ("internal/strconv.uint64pow10", laid_internal_strconv_uint64pow10)] }
def RationalPowersSaid : Prop := rationalPowersRow.holds Tryd.pinned (OpenSpec.ofChange rationalPowersSpec)

/-- ITS FALSE NEIGHBOUR: 'it returns false'. Refute it at one input. -/
def rationalPowersWrong : ChangeSpec := { name := "rationalPowers", fn := fun _ => fun
  | [d1, d2, d3] => { results := [.lit (.bool false)], args := [d1, d2, d3] }
  | _ => none }
def RationalPowersWrongFalsely : Prop := rationalPowersRow.holds Tryd.pinned (OpenSpec.ofChange rationalPowersWrong)

/-- 'vinculumlaw02.RationalParse': WHATEVER THE INPUT: true; the input reads as it did. -/
def rationalParseSpec : ChangeSpec := { name := "rationalParse", fn := fun _ => fun
  | [d] => { results := [.lit (.bool true)], args := [d] }
  | _ => none }
def rationalParseRow : OpenClaim := { program := "ytaekhbhjgcmghaadoor", sum := "459858f17290b5f67bc3592336f68b807da213656cb19af7119c3a3ae45924a8", func := "vinculum/vinculumlaw02.RationalParse", spec := "rationalParse", inPlace := ["internal/bytealg.IndexByteString", "internal/bytealg.IndexString"], named := ["internal/strconv.uint64pow10", "math/bits.deBruijn32tab", "math/bits.deBruijn64tab", "internal/bytealg.MaxLen", "unicode/utf8.first", "unicode/utf8.acceptRanges"], apart := false, laid := [("math/bits.deBruijn32tab", laid_math_bits_deBruijn32tab), ("math/bits.deBruijn64tab", laid_math_bits_deBruijn64tab), ("internal/strconv.uint64pow10", laid_internal_strconv_uint64pow10), ("unicode/utf8.acceptRanges", laid_unicode_utf8_acceptRanges), ("unicode/utf8.first", laid_unicode_utf8_first)] }
def RationalParseSaid : Prop := rationalParseRow.holds Tryd.pinned (OpenSpec.ofChange rationalParseSpec)

/-- ITS FALSE NEIGHBOUR: 'it returns false'. Refute it at one input. -/
def rationalParseWrong : ChangeSpec := { name := "rationalParse", fn := fun _ => fun
  | [d] => { results := [.lit (.bool false)], args := [d] }
  | _ => none }
def RationalParseWrongFalsely : Prop := rationalParseRow.holds Tryd.pinned (OpenSpec.ofChange rationalParseWrong)

/-- 'vinculumlaw02.RationalDecimal': WHATEVER THE INPUT: true; the input reads as it did. -/
def rationalDecimalSpec : ChangeSpec := { name := "rationalDecimal", fn := fun _ => fun
  | [d1, d2, d3] => { results := [.lit (.bool true)], args := [d1, d2, d3] }
  | _ => none }
def rationalDecimalRow : OpenClaim := { program := "ytaekhbhjgcmghaadoor", sum := "459858f17290b5f67bc3592336f68b807da213656cb19af7119c3a3ae45924a8", func := "vinculum/vinculumlaw02.RationalDecimal", spec := "rationalDecimal", inPlace := ["internal/bytealg.IndexByteString", "internal/bytealg.IndexString"], recurses := true, named := ["internal/strconv.uint64pow10", "math/bits.deBruijn32tab", "math/bits.deBruijn64tab", "internal/bytealg.MaxLen", "unicode/utf8.first", "unicode/utf8.acceptRanges"], apart := false, laid := [("math/bits.deBruijn32tab", laid_math_bits_deBruijn32tab), ("math/bits.deBruijn64tab", laid_math_bits_deBruijn64tab), ("internal/strconv.uint64pow10", laid_internal_strconv_uint64pow10), ("unicode/utf8.acceptRanges", laid_unicode_utf8_acceptRanges), ("unicode/utf8.first", laid_unicode_utf8_first)] }
def RationalDecimalSaid : Prop := rationalDecimalRow.holds Tryd.pinned (OpenSpec.ofChange rationalDecimalSpec)

/-- ITS FALSE NEIGHBOUR: 'it returns false'. Refute it at one input. -/
def rationalDecimalWrong : ChangeSpec := { name := "rationalDecimal", fn := fun _ => fun
  | [d1, d2, d3] => { results := [.lit (.bool false)], args := [d1, d2, d3] }
  | _ => none }
def RationalDecimalWrongFalsely : Prop := rationalDecimalRow.holds Tryd.pinned (OpenSpec.ofChange rationalDecimalWrong)

/- THE SECOND FORM. 'bulk': how many values and letters a reading holds, each counted each time it is reached (what is shared counts as often as it is met; a slice's spare places count too). A statement '..UptoSaid' is the law's where the arguments, and the package variables that the reading takes, are together of bulk at most 1048576: NARROWER than '..Said'. Prove '..Said' where nothing that the law and all that it calls make is longer than what came in: it says more and counts as full. Else prove '..UptoSaid'. A law counts once. -/
mutual
def uptoBulk {H : Type} : DataW H → Nat
  | .lit (.string bytes) => bytes.length + 1
  | .lit _ => 1
  | .nil => 1
  | .ptr d => uptoBulk d + 1
  | .slice elems spare => uptoBulkAll elems + uptoBulkAll spare + 1
  | .agg parts => uptoBulkAll parts + 1
  | .iface _ d => uptoBulk d + 1
  | .map entries => uptoBulkEntries entries + 1
  | .held _ => 1
def uptoBulkAll {H : Type} : List (DataW H) → Nat
  | [] => 0
  | d :: r => uptoBulk d + uptoBulkAll r
def uptoBulkEntries {H : Type} : List (Lit × DataW H) → Nat
  | [] => 0
  | x :: r => uptoBulkEntry x + uptoBulkEntries r
def uptoBulkEntry {H : Type} : Lit × DataW H → Nat
  | (.string bytes, d) => bytes.length + uptoBulk d + 1
  | (_, d) => uptoBulk d + 1
 end
def uptoSmall : (H : Type) → List (DataW H) → Bool := fun _ ds => decide (uptoBulkAll ds ≤ 1048576)
def OpenSpec.upto (s : _root_.Go.ChangeSpec) : _root_.Go.OpenSpec := { _root_.Go.OpenSpec.ofChange s with cond := some uptoSmall }

/-- 'vinculumlaw02.RationalMake', WHERE WHAT IT READS IS OF BULK AT MOST 1048576: true; the input reads as it did. -/
def rationalMakeUptoRow : OpenClaim := { program := "ytaekhbhjgcmghaadoor", sum := "459858f17290b5f67bc3592336f68b807da213656cb19af7119c3a3ae45924a8", func := "vinculum/vinculumlaw02.RationalMake", spec := "rationalMake", recurses := true, named := ["internal/strconv.uint64pow10", "math/bits.deBruijn32tab", "math/bits.deBruijn64tab"], apart := false, laid := [("math/bits.deBruijn32tab", laid_math_bits_deBruijn32tab), ("math/bits.deBruijn64tab", laid_math_bits_deBruijn64tab), ("internal/strconv.uint64pow10", laid_internal_strconv_uint64pow10)], narrowed := true }
def RationalMakeUptoSaid : Prop := rationalMakeUptoRow.holds Tryd.pinned (OpenSpec.upto rationalMakeSpec)

/-- 'vinculumlaw02.RationalField', WHERE WHAT IT READS IS OF BULK AT MOST 1048576: true; the input reads as it did. -/
def rationalFieldUptoRow : OpenClaim := { program := "ytaekhbhjgcmghaadoor", sum := "459858f17290b5f67bc3592336f68b807da213656cb19af7119c3a3ae45924a8", func := "vinculum/vinculumlaw02.RationalField", spec := "rationalField", named := ["internal/strconv.uint64pow10", "math/bits.deBruijn32tab", "math/bits.deBruijn64tab"], apart := false, laid := [("math/bits.deBruijn32tab", laid_math_bits_deBruijn32tab), ("math/bits.deBruijn64tab", laid_math_bits_deBruijn64tab), ("internal/strconv.uint64pow10", laid_internal_strconv_uint64pow10)], narrowed := true }
def RationalFieldUptoSaid : Prop := rationalFieldUptoRow.holds Tryd.pinned (OpenSpec.upto rationalFieldSpec)

/-- 'vinculumlaw02.RationalUndo', WHERE WHAT IT READS IS OF BULK AT MOST 1048576: true; the input reads as it did. -/
def rationalUndoUptoRow : OpenClaim := { program := "ytaekhbhjgcmghaadoor", sum := "459858f17290b5f67bc3592336f68b807da213656cb19af7119c3a3ae45924a8", func := "vinculum/vinculumlaw02.RationalUndo", spec := "rationalUndo", named := ["internal/strconv.uint64pow10", "math/bits.deBruijn32tab", "math/bits.deBruijn64tab"], apart := false, laid := [("math/bits.deBruijn32tab", laid_math_bits_deBruijn32tab), ("math/bits.deBruijn64tab", laid_math_bits_deBruijn64tab), ("internal/strconv.uint64pow10", laid_internal_strconv_uint64pow10)], narrowed := true }
def RationalUndoUptoSaid : Prop := rationalUndoUptoRow.holds Tryd.pinned (OpenSpec.upto rationalUndoSpec)

/-- 'vinculumlaw02.RationalSums', WHERE WHAT IT READS IS OF BULK AT MOST 1048576: true; the input reads as it did. -/
def rationalSumsUptoRow : OpenClaim := { program := "ytaekhbhjgcmghaadoor", sum := "459858f17290b5f67bc3592336f68b807da213656cb19af7119c3a3ae45924a8", func := "vinculum/vinculumlaw02.RationalSums", spec := "rationalSums", named := ["internal/strconv.uint64pow10", "math/bits.deBruijn32tab", "math/bits.deBruijn64tab"], apart := false, laid := [("math/bits.deBruijn32tab", laid_math_bits_deBruijn32tab), ("math/bits.deBruijn64tab", laid_math_bits_deBruijn64tab), ("internal/strconv.uint64pow10", laid_internal_strconv_uint64pow10)], narrowed := true }
def RationalSumsUptoSaid : Prop := rationalSumsUptoRow.holds Tryd.pinned (OpenSpec.upto rationalSumsSpec)

/-- 'vinculumlaw02.RationalPow', WHERE WHAT IT READS IS OF BULK AT MOST 1048576: true; the input reads as it did. -/
def rationalPowUptoRow : OpenClaim := { program := "ytaekhbhjgcmghaadoor", sum := "459858f17290b5f67bc3592336f68b807da213656cb19af7119c3a3ae45924a8", func := "vinculum/vinculumlaw02.RationalPow", spec := "rationalPow", recurses := true, named := ["internal/strconv.uint64pow10", "math/bits.deBruijn32tab", "math/bits.deBruijn64tab"], apart := false, laid := [("math/bits.deBruijn32tab", laid_math_bits_deBruijn32tab), ("math/bits.deBruijn64tab", laid_math_bits_deBruijn64tab), ("internal/strconv.uint64pow10", laid_internal_strconv_uint64pow10)], narrowed := true }
def RationalPowUptoSaid : Prop := rationalPowUptoRow.holds Tryd.pinned (OpenSpec.upto rationalPowSpec)

/-- 'vinculumlaw02.RationalProducts', WHERE WHAT IT READS IS OF BULK AT MOST 1048576: true; the input reads as it did. -/
def rationalProductsUptoRow : OpenClaim := { program := "ytaekhbhjgcmghaadoor", sum := "459858f17290b5f67bc3592336f68b807da213656cb19af7119c3a3ae45924a8", func := "vinculum/vinculumlaw02.RationalProducts", spec := "rationalProducts", named := ["internal/strconv.uint64pow10", "math/bits.deBruijn32tab", "math/bits.deBruijn64tab"], apart := false, laid := [("math/bits.deBruijn32tab", laid_math_bits_deBruijn32tab), ("math/bits.deBruijn64tab", laid_math_bits_deBruijn64tab), ("internal/strconv.uint64pow10", laid_internal_strconv_uint64pow10)], narrowed := true }
def RationalProductsUptoSaid : Prop := rationalProductsUptoRow.holds Tryd.pinned (OpenSpec.upto rationalProductsSpec)

/-- 'vinculumlaw02.RationalPowers', WHERE WHAT IT READS IS OF BULK AT MOST 1048576: true; the input reads as it did. -/
def rationalPowersUptoRow : OpenClaim := { program := "ytaekhbhjgcmghaadoor", sum := "459858f17290b5f67bc3592336f68b807da213656cb19af7119c3a3ae45924a8", func := "vinculum/vinculumlaw02.RationalPowers", spec := "rationalPowers", named := ["internal/strconv.uint64pow10", "math/bits.deBruijn32tab", "math/bits.deBruijn64tab"], apart := false, laid := [("math/bits.deBruijn32tab", laid_math_bits_deBruijn32tab), ("math/bits.deBruijn64tab", laid_math_bits_deBruijn64tab), ("internal/strconv.uint64pow10", laid_internal_strconv_uint64pow10)], narrowed := true }
def RationalPowersUptoSaid : Prop := rationalPowersUptoRow.holds Tryd.pinned (OpenSpec.upto rationalPowersSpec)

/-- 'vinculumlaw02.RationalParse', WHERE WHAT IT READS IS OF BULK AT MOST 1048576: true; the input reads as it did. -/
def rationalParseUptoRow : OpenClaim := { program := "ytaekhbhjgcmghaadoor", sum := "459858f17290b5f67bc3592336f68b807da213656cb19af7119c3a3ae45924a8", func := "vinculum/vinculumlaw02.RationalParse", spec := "rationalParse", inPlace := ["internal/bytealg.IndexByteString", "internal/bytealg.IndexString"], named := ["internal/strconv.uint64pow10", "math/bits.deBruijn32tab", "math/bits.deBruijn64tab", "internal/bytealg.MaxLen", "unicode/utf8.first", "unicode/utf8.acceptRanges"], apart := false, laid := [("math/bits.deBruijn32tab", laid_math_bits_deBruijn32tab), ("math/bits.deBruijn64tab", laid_math_bits_deBruijn64tab), ("internal/strconv.uint64pow10", laid_internal_strconv_uint64pow10), ("unicode/utf8.acceptRanges", laid_unicode_utf8_acceptRanges), ("unicode/utf8.first", laid_unicode_utf8_first)], narrowed := true }
def RationalParseUptoSaid : Prop := rationalParseUptoRow.holds Tryd.pinned (OpenSpec.upto rationalParseSpec)

/-- 'vinculumlaw02.RationalDecimal', WHERE WHAT IT READS IS OF BULK AT MOST 1048576: true; the input reads as it did. -/
def rationalDecimalUptoRow : OpenClaim := { program := "ytaekhbhjgcmghaadoor", sum := "459858f17290b5f67bc3592336f68b807da213656cb19af7119c3a3ae45924a8", func := "vinculum/vinculumlaw02.RationalDecimal", spec := "rationalDecimal", inPlace := ["internal/bytealg.IndexByteString", "internal/bytealg.IndexString"], recurses := true, named := ["internal/strconv.uint64pow10", "math/bits.deBruijn32tab", "math/bits.deBruijn64tab", "internal/bytealg.MaxLen", "unicode/utf8.first", "unicode/utf8.acceptRanges"], apart := false, laid := [("math/bits.deBruijn32tab", laid_math_bits_deBruijn32tab), ("math/bits.deBruijn64tab", laid_math_bits_deBruijn64tab), ("internal/strconv.uint64pow10", laid_internal_strconv_uint64pow10), ("unicode/utf8.acceptRanges", laid_unicode_utf8_acceptRanges), ("unicode/utf8.first", laid_unicode_utf8_first)], narrowed := true }
def RationalDecimalUptoSaid : Prop := rationalDecimalUptoRow.holds Tryd.pinned (OpenSpec.upto rationalDecimalSpec)

end Rows
end Go.Proofs.YtaekhbhjgcmghaaDoor
