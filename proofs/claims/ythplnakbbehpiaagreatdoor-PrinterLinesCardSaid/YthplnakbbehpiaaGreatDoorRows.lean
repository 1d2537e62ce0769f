/-
  NARROWER THAN 'FOR EVERY INPUT', by the rows' own cells (each row's printed sentence says how): PrinterMatchesReference: loops, laid · PrinterInverse: loops, laid · PrinterJoins: loops, laid · PrinterArticles: loops, laid · PrinterLines: loops, laid.
  DERIVED. THE GIVEN ROWS OF THIS SEAT. 5 by the template 'for every input the law returns true; each argument reads behind the call as it read before'; 0 by the template 'total and deterministic' (their statements: YthplnakbbehpiaaGreatDoorTotals.lean).
  GIVEN WITH THE SEED: the statements are not yours to turn. If you find one false, say at which input.
  Laid BY PROGRAM, IN A SANDBOX (cutbox-rows.mjs): the forced cells as the released guide's own fill.sh prints them over the translation 2acade880b0cccde… (all of the seat's roots in one cut). By AI agents, Wed Nov 11 2026. No macro, syntax, notation, axiom, sorry.
-/
import Derived.Test.YthplnakbbehpiaaGreatDoorChecked
import GoSem.PinnedTables
import GoSem.Claim
import GoSem.ClaimJoined
import GoSem.ClaimMapViews
import Derived.JoinedTies
import Derived.KernelRfl
namespace Go.Proofs.YthplnakbbehpiaaGreatDoor
/- THE CELL 'sum', in the pinned program and in every row, IS THE sha256 OF THE DUMP (.gsa) THAT YthplnakbbehpiaaGreatDoorProg.lean LOADS. Nothing in Lean hashes anything: it is a label: what it is worth is what the hold of that sum in a sandbox is worth. -/
noncomputable def Tryz.pinned : Pinned := { name := "ythplnakbbehpiaagreatdoor", sum := "2acade880b0cccde549c9356342ce3e56190c980610cc06464fb957e9a639602", checked := Tryz.checked }
namespace Rows
def none {H : Type} : Left H := { results := [], args := [] }

/- WHAT THE LISTED PACKAGE-LEVEL VARIABLES READ AS WHEN THE CALL BEGINS. Each datum BY PROGRAM (the guide's laid-datum.mjs) off the statement by which the dump's own 'gosem.cut.vars' lays the variable. In a bare row this is a premise. The card (YthplnakbbehpiaaGreatDoorCards.lean) ties it to the program's text. -/
def laid_math_bits_deBruijn32tab {H : Type} : DataW H := .agg [.lit (.int .u8 0), .lit (.int .u8 1), .lit (.int .u8 28), .lit (.int .u8 2), .lit (.int .u8 29), .lit (.int .u8 14), .lit (.int .u8 24), .lit (.int .u8 3), .lit (.int .u8 30), .lit (.int .u8 22), .lit (.int .u8 20), .lit (.int .u8 15), .lit (.int .u8 25), .lit (.int .u8 17), .lit (.int .u8 4), .lit (.int .u8 8), .lit (.int .u8 31), .lit (.int .u8 27), .lit (.int .u8 13), .lit (.int .u8 23), .lit (.int .u8 21), .lit (.int .u8 19), .lit (.int .u8 16), .lit (.int .u8 7), .lit (.int .u8 26), .lit (.int .u8 12), .lit (.int .u8 18), .lit (.int .u8 6), .lit (.int .u8 11), .lit (.int .u8 5), .lit (.int .u8 10), .lit (.int .u8 9)]
def laid_math_bits_deBruijn64tab {H : Type} : DataW H := .agg [.lit (.int .u8 0), .lit (.int .u8 1), .lit (.int .u8 56), .lit (.int .u8 2), .lit (.int .u8 57), .lit (.int .u8 49), .lit (.int .u8 28), .lit (.int .u8 3), .lit (.int .u8 61), .lit (.int .u8 58), .lit (.int .u8 42), .lit (.int .u8 50), .lit (.int .u8 38), .lit (.int .u8 29), .lit (.int .u8 17), .lit (.int .u8 4), .lit (.int .u8 62), .lit (.int .u8 47), .lit (.int .u8 59), .lit (.int .u8 36), .lit (.int .u8 45), .lit (.int .u8 43), .lit (.int .u8 51), .lit (.int .u8 22), .lit (.int .u8 53), .lit (.int .u8 39), .lit (.int .u8 33), .lit (.int .u8 30), .lit (.int .u8 24), .lit (.int .u8 18), .lit (.int .u8 12), .lit (.int .u8 5), .lit (.int .u8 63), .lit (.int .u8 55), .lit (.int .u8 48), .lit (.int .u8 27), .lit (.int .u8 60), .lit (.int .u8 41), .lit (.int .u8 37), .lit (.int .u8 16), .lit (.int .u8 46), .lit (.int .u8 35), .lit (.int .u8 44), .lit (.int .u8 21), .lit (.int .u8 52), .lit (.int .u8 32), .lit (.int .u8 23), .lit (.int .u8 11), .lit (.int .u8 54), .lit (.int .u8 26), .lit (.int .u8 40), .lit (.int .u8 15), .lit (.int .u8 34), .lit (.int .u8 20), .lit (.int .u8 31), .lit (.int .u8 10), .lit (.int .u8 25), .lit (.int .u8 14), .lit (.int .u8 19), .lit (.int .u8 9), .lit (.int .u8 13), .lit (.int .u8 8), .lit (.int .u8 7), .lit (.int .u8 6)]
def laid_internal_strconv_uint64pow10 {H : Type} : DataW H := .agg [.lit (.int .u64 1), .lit (.int .u64 10), .lit (.int .u64 100), .lit (.int .u64 1000), .lit (.int .u64 10000), .lit (.int .u64 100000), .lit (.int .u64 1000000), .lit (.int .u64 10000000), .lit (.int .u64 100000000), .lit (.int .u64 1000000000), .lit (.int .u64 10000000000), .lit (.int .u64 100000000000), .lit (.int .u64 1000000000000), .lit (.int .u64 10000000000000), .lit (.int .u64 100000000000000), .lit (.int .u64 1000000000000000), .lit (.int .u64 10000000000000000), .lit (.int .u64 100000000000000000), .lit (.int .u64 1000000000000000000), .lit (.int .u64 10000000000000000000)]
def laid_chargepark_printer_kinds {H : Type} : DataW H := .agg [.lit (.string []), .lit (.string [102, 101, 101, 100, 101, 114]), .lit (.string [99, 97, 98, 108, 101]), .lit (.string [111, 119, 110, 101, 114]), .lit (.string [99, 111, 110, 116, 114, 97, 99, 116]), .lit (.string [99, 104, 97, 114, 103, 101, 114]), .lit (.string [98, 97, 121]), .lit (.string [116, 97, 114, 105, 102, 102])]
def laid_unicode_utf8_acceptRanges {H : Type} : DataW H := .agg [.agg [.lit (.int .u8 128), .lit (.int .u8 191)], .agg [.lit (.int .u8 160), .lit (.int .u8 191)], .agg [.lit (.int .u8 128), .lit (.int .u8 159)], .agg [.lit (.int .u8 144), .lit (.int .u8 191)], .agg [.lit (.int .u8 128), .lit (.int .u8 143)], .agg [.lit (.int .u8 0), .lit (.int .u8 0)], .agg [.lit (.int .u8 0), .lit (.int .u8 0)], .agg [.lit (.int .u8 0), .lit (.int .u8 0)], .agg [.lit (.int .u8 0), .lit (.int .u8 0)], .agg [.lit (.int .u8 0), .lit (.int .u8 0)], .agg [.lit (.int .u8 0), .lit (.int .u8 0)], .agg [.lit (.int .u8 0), .lit (.int .u8 0)], .agg [.lit (.int .u8 0), .lit (.int .u8 0)], .agg [.lit (.int .u8 0), .lit (.int .u8 0)], .agg [.lit (.int .u8 0), .lit (.int .u8 0)], .agg [.lit (.int .u8 0), .lit (.int .u8 0)]]
/-- One of Go's own tables, pinned by name: the form's constant. -/
def laid_unicode_utf8_first : DataW Unit := Go.Pinned.utf8First

/-- 'chargeparklaw03.PrinterMatchesReference': WHATEVER THE INPUT: true; the input reads as it did. -/
def printerMatchesReferenceSpec : ChangeSpec := { name := "printerMatchesReference", fn := fun _ => fun
  | [d] => { results := [.lit (.bool true)], args := [d] }
  | _ => none }
def printerMatchesReferenceRow : OpenClaim := { program := "ythplnakbbehpiaagreatdoor", sum := "2acade880b0cccde549c9356342ce3e56190c980610cc06464fb957e9a639602", func := "chargepark/chargeparklaw03.PrinterMatchesReference", spec := "printerMatchesReference", inPlace := ["internal/abi.NoEscape"], unfollowed := true, recurses := true, named := ["chargepark/printer.kinds", "internal/strconv.uint64pow10", "math/bits.deBruijn32tab", "math/bits.deBruijn64tab"], loops := true, apart := false, laid := [("math/bits.deBruijn32tab", laid_math_bits_deBruijn32tab), ("math/bits.deBruijn64tab", laid_math_bits_deBruijn64tab), ("internal/strconv.uint64pow10", laid_internal_strconv_uint64pow10), ("chargepark/printer.kinds", laid_chargepark_printer_kinds)] }
def PrinterMatchesReferenceSaid : Prop := printerMatchesReferenceRow.holds Tryz.pinned (OpenSpec.ofChange printerMatchesReferenceSpec)

/-- ITS FALSE NEIGHBOUR: 'it returns false'. Refute it at one input. -/
def printerMatchesReferenceWrong : ChangeSpec := { name := "printerMatchesReference", fn := fun _ => fun
  | [d] => { results := [.lit (.bool false)], args := [d] }
  | _ => none }
def PrinterMatchesReferenceWrongFalsely : Prop := printerMatchesReferenceRow.holds Tryz.pinned (OpenSpec.ofChange printerMatchesReferenceWrong)

/-- 'chargeparklaw03.PrinterInverse': WHATEVER THE INPUT: true; the input reads as it did. -/
def printerInverseSpec : ChangeSpec := { name := "printerInverse", fn := fun _ => fun
  | [d] => { results := [.lit (.bool true)], args := [d] }
  | _ => none }
def printerInverseRow : OpenClaim := { program := "ythplnakbbehpiaagreatdoor", sum := "2acade880b0cccde549c9356342ce3e56190c980610cc06464fb957e9a639602", func := "chargepark/chargeparklaw03.PrinterInverse", spec := "printerInverse", inPlace := ["internal/abi.NoEscape"], unfollowed := true, recurses := true, named := ["chargepark/printer.kinds", "internal/strconv.uint64pow10", "math/bits.deBruijn32tab", "math/bits.deBruijn64tab"], loops := true, apart := false, laid := [("math/bits.deBruijn32tab", laid_math_bits_deBruijn32tab), ("math/bits.deBruijn64tab", laid_math_bits_deBruijn64tab), ("internal/strconv.uint64pow10", laid_internal_strconv_uint64pow10), ("chargepark/printer.kinds", laid_chargepark_printer_kinds)] }
def PrinterInverseSaid : Prop := printerInverseRow.holds Tryz.pinned (OpenSpec.ofChange printerInverseSpec)

/-- ITS FALSE NEIGHBOUR: 'it returns false'. Refute it at one input. -/
def printerInverseWrong : ChangeSpec := { name := "printerInverse", fn := fun _ => fun
  | [d] => { results := [.lit (.bool false)], args := [d] }
  | _ => none }
def PrinterInverseWrongFalsely : Prop := printerInverseRow.holds Tryz.pinned (OpenSpec.ofChange printerInverseWrong)

/-- 'chargeparklaw03.PrinterJoins': WHATEVER THE INPUT: true; the input reads as it did. -/
def printerJoinsSpec : ChangeSpec := { name := "printerJoins", fn := fun _ => fun
  | [d] => { results := [.lit (.bool true)], args := [d] }
  | _ => none }
def printerJoinsRow : OpenClaim := { program := "ythplnakbbehpiaagreatdoor", sum := "2acade880b0cccde549c9356342ce3e56190c980610cc06464fb957e9a639602", func := "chargepark/chargeparklaw03.PrinterJoins", spec := "printerJoins", inPlace := ["internal/abi.NoEscape"], unfollowed := true, recurses := true, named := ["chargepark/printer.kinds", "internal/strconv.uint64pow10", "math/bits.deBruijn32tab", "math/bits.deBruijn64tab"], loops := true, apart := false, laid := [("math/bits.deBruijn32tab", laid_math_bits_deBruijn32tab), ("math/bits.deBruijn64tab", laid_math_bits_deBruijn64tab), ("internal/strconv.uint64pow10", laid_internal_strconv_uint64pow10), ("chargepark/printer.kinds", laid_chargepark_printer_kinds)] }
def PrinterJoinsSaid : Prop := printerJoinsRow.holds Tryz.pinned (OpenSpec.ofChange printerJoinsSpec)

/-- ITS FALSE NEIGHBOUR: 'it returns false'. Refute it at one input. -/
def printerJoinsWrong : ChangeSpec := { name := "printerJoins", fn := fun _ => fun
  | [d] => { results := [.lit (.bool false)], args := [d] }
  | _ => none }
def PrinterJoinsWrongFalsely : Prop := printerJoinsRow.holds Tryz.pinned (OpenSpec.ofChange printerJoinsWrong)

/-- 'chargeparklaw03.PrinterArticles': WHATEVER THE INPUT: true; the input reads as it did. -/
def printerArticlesSpec : ChangeSpec := { name := "printerArticles", fn := fun _ => fun
  | [d1, d2] => { results := [.lit (.bool true)], args := [d1, d2] }
  | _ => none }
def printerArticlesRow : OpenClaim := { program := "ythplnakbbehpiaagreatdoor", sum := "2acade880b0cccde549c9356342ce3e56190c980610cc06464fb957e9a639602", func := "chargepark/chargeparklaw03.PrinterArticles", spec := "printerArticles", inPlace := ["internal/abi.NoEscape", "internal/bytealg.CountString", "internal/bytealg.IndexByteString", "internal/bytealg.IndexString"], unfollowed := true, recurses := true, named := ["chargepark/printer.kinds", "internal/strconv.uint64pow10", "math/bits.deBruijn32tab", "math/bits.deBruijn64tab", "internal/bytealg.MaxLen"], loops := true, apart := false, laid := [("math/bits.deBruijn32tab", laid_math_bits_deBruijn32tab), ("math/bits.deBruijn64tab", laid_math_bits_deBruijn64tab), ("internal/strconv.uint64pow10", laid_internal_strconv_uint64pow10), ("chargepark/printer.kinds", laid_chargepark_printer_kinds)] }
def PrinterArticlesSaid : Prop := printerArticlesRow.holds Tryz.pinned (OpenSpec.ofChange printerArticlesSpec)

/-- ITS FALSE NEIGHBOUR: 'it returns false'. Refute it at one input. -/
def printerArticlesWrong : ChangeSpec := { name := "printerArticles", fn := fun _ => fun
  | [d1, d2] => { results := [.lit (.bool false)], args := [d1, d2] }
  | _ => none }
def PrinterArticlesWrongFalsely : Prop := printerArticlesRow.holds Tryz.pinned (OpenSpec.ofChange printerArticlesWrong)

/-- 'chargeparklaw03.PrinterLines': WHATEVER THE INPUT: true; the input reads as it did. -/
def printerLinesSpec : ChangeSpec := { name := "printerLines", fn := fun _ => fun
  | [d] => { results := [.lit (.bool true)], args := [d] }
  | _ => none }
def printerLinesRow : OpenClaim := { program := "ythplnakbbehpiaagreatdoor", sum := "2acade880b0cccde549c9356342ce3e56190c980610cc06464fb957e9a639602", func := "chargepark/chargeparklaw03.PrinterLines", spec := "printerLines", inPlace := ["internal/abi.NoEscape", "internal/bytealg.CountString", "internal/bytealg.IndexByteString", "internal/bytealg.IndexString"], unfollowed := true, recurses := true, named := ["chargepark/printer.kinds", "internal/strconv.uint64pow10", "math/bits.deBruijn32tab", "math/bits.deBruijn64tab", "unicode/utf8.first", "unicode/utf8.acceptRanges", "internal/bytealg.MaxLen"], loops := true, apart := false, laid := [("math/bits.deBruijn32tab", laid_math_bits_deBruijn32tab), ("math/bits.deBruijn64tab", laid_math_bits_deBruijn64tab), ("internal/strconv.uint64pow10", laid_internal_strconv_uint64pow10), ("unicode/utf8.acceptRanges", laid_unicode_utf8_acceptRanges), ("chargepark/printer.kinds", laid_chargepark_printer_kinds), ("unicode/utf8.first", laid_unicode_utf8_first)] }
def PrinterLinesSaid : Prop := printerLinesRow.holds Tryz.pinned (OpenSpec.ofChange printerLinesSpec)

/-- ITS FALSE NEIGHBOUR: 'it returns false'. Refute it at one input. -/
def printerLinesWrong : ChangeSpec := { name := "printerLines", fn := fun _ => fun
  | [d] => { results := [.lit (.bool false)], args := [d] }
  | _ => none }
def PrinterLinesWrongFalsely : Prop := printerLinesRow.holds Tryz.pinned (OpenSpec.ofChange printerLinesWrong)

/- THE SECOND FORM. 'bulk': how many values and letters a reading holds, each counted each time it is reached (what is shared counts as often as it is met; a slice's spare places count too). A statement '..UptoSaid' is the law's where the arguments, and the package variables that the reading takes, are together of bulk at most 1048576: NARROWER than '..Said'. Prove '..Said' where nothing that the law and all that it calls make is longer than what came in: it says more and counts as full. Else prove '..UptoSaid'. A law counts once. -/
mutual
def uptoBulk {H : Type} : DataW H → Nat
  | .lit (.string bytes) => bytes.length + 1
  | .lit _ => 1
  | .nil => 1
  | .ptr d => uptoBulk d + 1
  | .slice elems spare => uptoBulkAll elems + uptoBulkAll spare + 1
  | .agg parts => uptoBulkAll parts + 1
  | .iface _ d => uptoBulk d + 1
  | .map entries => uptoBulkEntries entries + 1
  | .held _ => 1
def uptoBulkAll {H : Type} : List (DataW H) → Nat
  | [] => 0
  | d :: r => uptoBulk d + uptoBulkAll r
def uptoBulkEntries {H : Type} : List (Lit × DataW H) → Nat
  | [] => 0
  | x :: r => uptoBulkEntry x + uptoBulkEntries r
def uptoBulkEntry {H : Type} : Lit × DataW H → Nat
  | (.string bytes, d) => bytes.length + uptoBulk d + 1
  | (_, d) => uptoBulk d + 1
 end
def uptoSmall : (H : Type) → List (DataW H) → Bool := fun _ ds => decide (uptoBulkAll ds ≤ 1048576)
def OpenSpec.upto (s : _root_.Go.ChangeSpec) : _root_.Go.OpenSpec := { _root_.Go.OpenSpec.ofChange s with cond := some uptoSmall }

/-- 'chargeparklaw03.PrinterMatchesReference', WHERE WHAT IT READS IS OF BULK AT MOST 1048576: true; the input reads as it did. -/
def printerMatchesReferenceUptoRow : OpenClaim := { program := "ythplnakbbehpiaagreatdoor", sum := "2acade880b0cccde549c9356342ce3e56190c980610cc06464fb957e9a639602", func := "chargepark/chargeparklaw03.PrinterMatchesReference", spec := "printerMatchesReference", inPlace := ["internal/abi.NoEscape"], unfollowed := true, recurses := true, named := ["chargepark/printer.kinds", "internal/strconv.uint64pow10", "math/bits.deBruijn32tab", "math/bits.deBruijn64tab"], loops := true, apart := false, laid := [("math/bits.deBruijn32tab", laid_math_bits_deBruijn32tab), ("math/bits.deBruijn64tab", laid_math_bits_deBruijn64tab), ("internal/strconv.uint64pow10", laid_internal_strconv_uint64pow10), ("chargepark/printer.kinds", laid_chargepark_printer_kinds)], narrowed := true }
def PrinterMatchesReferenceUptoSaid : Prop := printerMatchesReferenceUptoRow.holds Tryz.pinned (OpenSpec.upto printerMatchesReferenceSpec)

/-- 'chargeparklaw03.PrinterInverse', WHERE WHAT IT READS IS OF BULK AT MOST 1048576: true; the input reads as it did. -/
def printerInverseUptoRow : OpenClaim := { program := "ythplnakbbehpiaagreatdoor", sum := "2acade880b0cccde549c9356342ce3e56190c980610cc06464fb957e9a639602", func := "chargepark/chargeparklaw03.PrinterInverse", spec := "printerInverse", inPlace := ["internal/abi.NoEscape"], unfollowed := true, recurses := true, named := ["chargepark/printer.kinds", "internal/strconv.uint64pow10", "math/bits.deBruijn32tab", "math/bits.deBruijn64tab"], loops := true, apart := false, laid := [("math/bits.deBruijn32tab", laid_math_bits_deBruijn32tab), ("math/bits.deBruijn64tab", laid_math_bits_deBruijn64tab), ("internal/strconv.uint64pow10", laid_internal_strconv_uint64pow10), ("chargepark/printer.kinds", laid_chargepark_printer_kinds)], narrowed := true }
def PrinterInverseUptoSaid : Prop := printerInverseUptoRow.holds Tryz.pinned (OpenSpec.upto printerInverseSpec)

/-- 'chargeparklaw03.PrinterJoins', WHERE WHAT IT READS IS OF BULK AT MOST 1048576: true; the input reads as it did. -/
def printerJoinsUptoRow : OpenClaim := { program := "ythplnakbbehpiaagreatdoor", sum := "2acade880b0cccde549c9356342ce3e56190c980610cc06464fb957e9a639602", func := "chargepark/chargeparklaw03.PrinterJoins", spec := "printerJoins", inPlace := ["internal/abi.NoEscape"], unfollowed := true, recurses := true, named := ["chargepark/printer.kinds", "internal/strconv.uint64pow10", "math/bits.deBruijn32tab", "math/bits.deBruijn64tab"], loops := true, apart := false, laid := [("math/bits.deBruijn32tab", laid_math_bits_deBruijn32tab), ("math/bits.deBruijn64tab", laid_math_bits_deBruijn64tab), ("internal/strconv.uint64pow10", laid_internal_strconv_uint64pow10), ("chargepark/printer.kinds", laid_chargepark_printer_kinds)], narrowed := true }
def PrinterJoinsUptoSaid : Prop := printerJoinsUptoRow.holds Tryz.pinned (OpenSpec.upto printerJoinsSpec)

/-- 'chargeparklaw03.PrinterArticles', WHERE WHAT IT READS IS OF BULK AT MOST 1048576: true; the input reads as it did. -/
def printerArticlesUptoRow : OpenClaim := { program := "ythplnakbbehpiaagreatdoor", sum := "2acade880b0cccde549c9356342ce3e56190c980610cc06464fb957e9a639602", func := "chargepark/chargeparklaw03.PrinterArticles", spec := "printerArticles", inPlace := ["internal/abi.NoEscape", "internal/bytealg.CountString", "internal/bytealg.IndexByteString", "internal/bytealg.IndexString"], unfollowed := true, recurses := true, named := ["chargepark/printer.kinds", "internal/strconv.uint64pow10", "math/bits.deBruijn32tab", "math/bits.deBruijn64tab", "internal/bytealg.MaxLen"], loops := true, apart := false, laid := [("math/bits.deBruijn32tab", laid_math_bits_deBruijn32tab), ("math/bits.deBruijn64tab", laid_math_bits_deBruijn64tab), ("internal/strconv.uint64pow10", laid_internal_strconv_uint64pow10), ("chargepark/printer.kinds", laid_chargepark_printer_kinds)], narrowed := true }
def PrinterArticlesUptoSaid : Prop := printerArticlesUptoRow.holds Tryz.pinned (OpenSpec.upto printerArticlesSpec)

/-- 'chargeparklaw03.PrinterLines', WHERE WHAT IT READS IS OF BULK AT MOST 1048576: true; the input reads as it did. -/
def printerLinesUptoRow : OpenClaim := { program := "ythplnakbbehpiaagreatdoor", sum := "2acade880b0cccde549c9356342ce3e56190c980610cc06464fb957e9a639602", func := "chargepark/chargeparklaw03.PrinterLines", spec := "printerLines", inPlace := ["internal/abi.NoEscape", "internal/bytealg.CountString", "internal/bytealg.IndexByteString", "internal/bytealg.IndexString"], unfollowed := true, recurses := true, named := ["chargepark/printer.kinds", "internal/strconv.uint64pow10", "math/bits.deBruijn32tab", "math/bits.deBruijn64tab", "unicode/utf8.first", "unicode/utf8.acceptRanges", "internal/bytealg.MaxLen"], loops := true, apart := false, laid := [("math/bits.deBruijn32tab", laid_math_bits_deBruijn32tab), ("math/bits.deBruijn64tab", laid_math_bits_deBruijn64tab), ("internal/strconv.uint64pow10", laid_internal_strconv_uint64pow10), ("unicode/utf8.acceptRanges", laid_unicode_utf8_acceptRanges), ("chargepark/printer.kinds", laid_chargepark_printer_kinds), ("unicode/utf8.first", laid_unicode_utf8_first)], narrowed := true }
def PrinterLinesUptoSaid : Prop := printerLinesUptoRow.holds Tryz.pinned (OpenSpec.upto printerLinesSpec)

end Rows
end Go.Proofs.YthplnakbbehpiaaGreatDoor
