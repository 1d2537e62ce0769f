/-
  No cell of these rows narrows 'for every input' (looked for: loops, veiled, ifaces, maps, wideKeys, modest, calm, conditions, laid).
  DERIVED. THE GIVEN ROWS OF THIS SEAT. 8 by the template 'for every input the law returns true; each argument reads behind the call as it read before'; 0 by the template 'total and deterministic' (their statements: YtlpflajahcpfkaaTotals.lean).
  GIVEN WITH THE SEED: the statements are not yours to turn. If you find one false, say at which input.
  Laid BY PROGRAM, IN A SANDBOX (cutbox-rows.mjs): the forced cells as the released guide's own fill.sh prints them over the translation b6c3ab8cf77613b5… (all of the seat's roots in one cut). By AI agents, Wed Nov 11 2026. No macro, syntax, notation, axiom, sorry.
-/
import Derived.Test.YtlpflajahcpfkaaChecked
import GoSem.Claim
import GoSem.ClaimJoined
import GoSem.ClaimMapViews
import Derived.JoinedTies
import Derived.KernelRfl
namespace Go.Proofs.Ytlpflajahcpfkaa
/- THE CELL 'sum', in the pinned program and in every row, IS THE sha256 OF THE DUMP (.gsa) THAT YtlpflajahcpfkaaProg.lean LOADS. Nothing in Lean hashes anything: it is a label: what it is worth is what the hold of that sum in a sandbox is worth. -/
noncomputable def Try.pinned : Pinned := { name := "ytlpflajahcpfkaa", sum := "b6c3ab8cf77613b51c6ec56ecd37ca037d59c2951cd284c4683f80167de068d6", checked := Try.checked }
namespace Rows
def none {H : Type} : Left H := { results := [], args := [] }

/-- 'chargeparklaw33.BillMatchesReference': WHATEVER THE INPUT: true; the input reads as it did. -/
def billMatchesReferenceSpec : ChangeSpec := { name := "billMatchesReference", fn := fun _ => fun
  | [d1, d2, d3, d4] => { results := [.lit (.bool true)], args := [d1, d2, d3, d4] }
  | _ => none }
def billMatchesReferenceRow : OpenClaim := { program := "ytlpflajahcpfkaa", sum := "b6c3ab8cf77613b51c6ec56ecd37ca037d59c2951cd284c4683f80167de068d6", func := "chargepark/chargeparklaw33.BillMatchesReference", spec := "billMatchesReference", unfollowed := true, recurses := true, apart := false }
def BillMatchesReferenceSaid : Prop := billMatchesReferenceRow.holds Try.pinned (OpenSpec.ofChange billMatchesReferenceSpec)

/-- ITS FALSE NEIGHBOUR: 'it returns false'. Refute it at one input. -/
def billMatchesReferenceWrong : ChangeSpec := { name := "billMatchesReference", fn := fun _ => fun
  | [d1, d2, d3, d4] => { results := [.lit (.bool false)], args := [d1, d2, d3, d4] }
  | _ => none }
def BillMatchesReferenceWrongFalsely : Prop := billMatchesReferenceRow.holds Try.pinned (OpenSpec.ofChange billMatchesReferenceWrong)

/-- 'chargeparklaw33.BillSums': WHATEVER THE INPUT: true; the input reads as it did. -/
def billSumsSpec : ChangeSpec := { name := "billSums", fn := fun _ => fun
  | [d1, d2, d3] => { results := [.lit (.bool true)], args := [d1, d2, d3] }
  | _ => none }
def billSumsRow : OpenClaim := { program := "ytlpflajahcpfkaa", sum := "b6c3ab8cf77613b51c6ec56ecd37ca037d59c2951cd284c4683f80167de068d6", func := "chargepark/chargeparklaw33.BillSums", spec := "billSums", unfollowed := true, recurses := true, apart := false }
def BillSumsSaid : Prop := billSumsRow.holds Try.pinned (OpenSpec.ofChange billSumsSpec)

/-- ITS FALSE NEIGHBOUR: 'it returns false'. Refute it at one input. -/
def billSumsWrong : ChangeSpec := { name := "billSums", fn := fun _ => fun
  | [d1, d2, d3] => { results := [.lit (.bool false)], args := [d1, d2, d3] }
  | _ => none }
def BillSumsWrongFalsely : Prop := billSumsRow.holds Try.pinned (OpenSpec.ofChange billSumsWrong)

/-- 'chargeparklaw33.BillMore': WHATEVER THE INPUT: true; the input reads as it did. -/
def billMoreSpec : ChangeSpec := { name := "billMore", fn := fun _ => fun
  | [d1, d2, d3, d4, d5, d6] => { results := [.lit (.bool true)], args := [d1, d2, d3, d4, d5, d6] }
  | _ => none }
def billMoreRow : OpenClaim := { program := "ytlpflajahcpfkaa", sum := "b6c3ab8cf77613b51c6ec56ecd37ca037d59c2951cd284c4683f80167de068d6", func := "chargepark/chargeparklaw33.BillMore", spec := "billMore", unfollowed := true, recurses := true, apart := false }
def BillMoreSaid : Prop := billMoreRow.holds Try.pinned (OpenSpec.ofChange billMoreSpec)

/-- ITS FALSE NEIGHBOUR: 'it returns false'. Refute it at one input. -/
def billMoreWrong : ChangeSpec := { name := "billMore", fn := fun _ => fun
  | [d1, d2, d3, d4, d5, d6] => { results := [.lit (.bool false)], args := [d1, d2, d3, d4, d5, d6] }
  | _ => none }
def BillMoreWrongFalsely : Prop := billMoreRow.holds Try.pinned (OpenSpec.ofChange billMoreWrong)

/-- 'chargeparklaw33.BillExactly': WHATEVER THE INPUT: true; the input reads as it did. -/
def billExactlySpec : ChangeSpec := { name := "billExactly", fn := fun _ => fun
  | [d1, d2, d3, d4] => { results := [.lit (.bool true)], args := [d1, d2, d3, d4] }
  | _ => none }
def billExactlyRow : OpenClaim := { program := "ytlpflajahcpfkaa", sum := "b6c3ab8cf77613b51c6ec56ecd37ca037d59c2951cd284c4683f80167de068d6", func := "chargepark/chargeparklaw33.BillExactly", spec := "billExactly", unfollowed := true, recurses := true, apart := false }
def BillExactlySaid : Prop := billExactlyRow.holds Try.pinned (OpenSpec.ofChange billExactlySpec)

/-- ITS FALSE NEIGHBOUR: 'it returns false'. Refute it at one input. -/
def billExactlyWrong : ChangeSpec := { name := "billExactly", fn := fun _ => fun
  | [d1, d2, d3, d4] => { results := [.lit (.bool false)], args := [d1, d2, d3, d4] }
  | _ => none }
def BillExactlyWrongFalsely : Prop := billExactlyRow.holds Try.pinned (OpenSpec.ofChange billExactlyWrong)

/-- 'chargeparklaw33.BillParts': WHATEVER THE INPUT: true; the input reads as it did. -/
def billPartsSpec : ChangeSpec := { name := "billParts", fn := fun _ => fun
  | [d1, d2, d3, d4, d5] => { results := [.lit (.bool true)], args := [d1, d2, d3, d4, d5] }
  | _ => none }
def billPartsRow : OpenClaim := { program := "ytlpflajahcpfkaa", sum := "b6c3ab8cf77613b51c6ec56ecd37ca037d59c2951cd284c4683f80167de068d6", func := "chargepark/chargeparklaw33.BillParts", spec := "billParts", unfollowed := true, recurses := true, apart := false }
def BillPartsSaid : Prop := billPartsRow.holds Try.pinned (OpenSpec.ofChange billPartsSpec)

/-- ITS FALSE NEIGHBOUR: 'it returns false'. Refute it at one input. -/
def billPartsWrong : ChangeSpec := { name := "billParts", fn := fun _ => fun
  | [d1, d2, d3, d4, d5] => { results := [.lit (.bool false)], args := [d1, d2, d3, d4, d5] }
  | _ => none }
def BillPartsWrongFalsely : Prop := billPartsRow.holds Try.pinned (OpenSpec.ofChange billPartsWrong)

/-- 'chargeparklaw33.BillOrder': WHATEVER THE INPUT: true; the input reads as it did. -/
def billOrderSpec : ChangeSpec := { name := "billOrder", fn := fun _ => fun
  | [d1, d2, d3, d4, d5] => { results := [.lit (.bool true)], args := [d1, d2, d3, d4, d5] }
  | _ => none }
def billOrderRow : OpenClaim := { program := "ytlpflajahcpfkaa", sum := "b6c3ab8cf77613b51c6ec56ecd37ca037d59c2951cd284c4683f80167de068d6", func := "chargepark/chargeparklaw33.BillOrder", spec := "billOrder", unfollowed := true, recurses := true, apart := false }
def BillOrderSaid : Prop := billOrderRow.holds Try.pinned (OpenSpec.ofChange billOrderSpec)

/-- ITS FALSE NEIGHBOUR: 'it returns false'. Refute it at one input. -/
def billOrderWrong : ChangeSpec := { name := "billOrder", fn := fun _ => fun
  | [d1, d2, d3, d4, d5] => { results := [.lit (.bool false)], args := [d1, d2, d3, d4, d5] }
  | _ => none }
def BillOrderWrongFalsely : Prop := billOrderRow.holds Try.pinned (OpenSpec.ofChange billOrderWrong)

/-- 'chargeparklaw33.BillWeeks': WHATEVER THE INPUT: true; the input reads as it did. -/
def billWeeksSpec : ChangeSpec := { name := "billWeeks", fn := fun _ => fun
  | [d1, d2, d3, d4] => { results := [.lit (.bool true)], args := [d1, d2, d3, d4] }
  | _ => none }
def billWeeksRow : OpenClaim := { program := "ytlpflajahcpfkaa", sum := "b6c3ab8cf77613b51c6ec56ecd37ca037d59c2951cd284c4683f80167de068d6", func := "chargepark/chargeparklaw33.BillWeeks", spec := "billWeeks", unfollowed := true, recurses := true, apart := false }
def BillWeeksSaid : Prop := billWeeksRow.holds Try.pinned (OpenSpec.ofChange billWeeksSpec)

/-- ITS FALSE NEIGHBOUR: 'it returns false'. Refute it at one input. -/
def billWeeksWrong : ChangeSpec := { name := "billWeeks", fn := fun _ => fun
  | [d1, d2, d3, d4] => { results := [.lit (.bool false)], args := [d1, d2, d3, d4] }
  | _ => none }
def BillWeeksWrongFalsely : Prop := billWeeksRow.holds Try.pinned (OpenSpec.ofChange billWeeksWrong)

/-- 'chargeparklaw33.BillFree': WHATEVER THE INPUT: true; the input reads as it did. -/
def billFreeSpec : ChangeSpec := { name := "billFree", fn := fun _ => fun
  | [d1, d2, d3, d4, d5] => { results := [.lit (.bool true)], args := [d1, d2, d3, d4, d5] }
  | _ => none }
def billFreeRow : OpenClaim := { program := "ytlpflajahcpfkaa", sum := "b6c3ab8cf77613b51c6ec56ecd37ca037d59c2951cd284c4683f80167de068d6", func := "chargepark/chargeparklaw33.BillFree", spec := "billFree", unfollowed := true, recurses := true, apart := false }
def BillFreeSaid : Prop := billFreeRow.holds Try.pinned (OpenSpec.ofChange billFreeSpec)

/-- ITS FALSE NEIGHBOUR: 'it returns false'. Refute it at one input. -/
def billFreeWrong : ChangeSpec := { name := "billFree", fn := fun _ => fun
  | [d1, d2, d3, d4, d5] => { results := [.lit (.bool false)], args := [d1, d2, d3, d4, d5] }
  | _ => none }
def BillFreeWrongFalsely : Prop := billFreeRow.holds Try.pinned (OpenSpec.ofChange billFreeWrong)

/- THE SECOND FORM. 'bulk': how many values and letters a reading holds, each counted each time it is reached (what is shared counts as often as it is met; a slice's spare places count too). A statement '..UptoSaid' is the law's where the arguments, and the package variables that the reading takes, are together of bulk at most 1048576: NARROWER than '..Said'. Prove '..Said' where nothing that the law and all that it calls make is longer than what came in: it says more and counts as full. Else prove '..UptoSaid'. A law counts once. -/
mutual
def uptoBulk {H : Type} : DataW H → Nat
  | .lit (.string bytes) => bytes.length + 1
  | .lit _ => 1
  | .nil => 1
  | .ptr d => uptoBulk d + 1
  | .slice elems spare => uptoBulkAll elems + uptoBulkAll spare + 1
  | .agg parts => uptoBulkAll parts + 1
  | .iface _ d => uptoBulk d + 1
  | .map entries => uptoBulkEntries entries + 1
  | .held _ => 1
def uptoBulkAll {H : Type} : List (DataW H) → Nat
  | [] => 0
  | d :: r => uptoBulk d + uptoBulkAll r
def uptoBulkEntries {H : Type} : List (Lit × DataW H) → Nat
  | [] => 0
  | x :: r => uptoBulkEntry x + uptoBulkEntries r
def uptoBulkEntry {H : Type} : Lit × DataW H → Nat
  | (.string bytes, d) => bytes.length + uptoBulk d + 1
  | (_, d) => uptoBulk d + 1
 end
def uptoSmall : (H : Type) → List (DataW H) → Bool := fun _ ds => decide (uptoBulkAll ds ≤ 1048576)
def OpenSpec.upto (s : _root_.Go.ChangeSpec) : _root_.Go.OpenSpec := { _root_.Go.OpenSpec.ofChange s with cond := some uptoSmall }

/-- 'chargeparklaw33.BillMatchesReference', WHERE WHAT IT READS IS OF BULK AT MOST 1048576: true; the input reads as it did. -/
def billMatchesReferenceUptoRow : OpenClaim := { program := "ytlpflajahcpfkaa", sum := "b6c3ab8cf77613b51c6ec56ecd37ca037d59c2951cd284c4683f80167de068d6", func := "chargepark/chargeparklaw33.BillMatchesReference", spec := "billMatchesReference", unfollowed := true, recurses := true, apart := false, narrowed := true }
def BillMatchesReferenceUptoSaid : Prop := billMatchesReferenceUptoRow.holds Try.pinned (OpenSpec.upto billMatchesReferenceSpec)

/-- 'chargeparklaw33.BillSums', WHERE WHAT IT READS IS OF BULK AT MOST 1048576: true; the input reads as it did. -/
def billSumsUptoRow : OpenClaim := { program := "ytlpflajahcpfkaa", sum := "b6c3ab8cf77613b51c6ec56ecd37ca037d59c2951cd284c4683f80167de068d6", func := "chargepark/chargeparklaw33.BillSums", spec := "billSums", unfollowed := true, recurses := true, apart := false, narrowed := true }
def BillSumsUptoSaid : Prop := billSumsUptoRow.holds Try.pinned (OpenSpec.upto billSumsSpec)

/-- 'chargeparklaw33.BillMore', WHERE WHAT IT READS IS OF BULK AT MOST 1048576: true; the input reads as it did. -/
def billMoreUptoRow : OpenClaim := { program := "ytlpflajahcpfkaa", sum := "b6c3ab8cf77613b51c6ec56ecd37ca037d59c2951cd284c4683f80167de068d6", func := "chargepark/chargeparklaw33.BillMore", spec := "billMore", unfollowed := true, recurses := true, apart := false, narrowed := true }
def BillMoreUptoSaid : Prop := billMoreUptoRow.holds Try.pinned (OpenSpec.upto billMoreSpec)

/-- 'chargeparklaw33.BillExactly', WHERE WHAT IT READS IS OF BULK AT MOST 1048576: true; the input reads as it did. -/
def billExactlyUptoRow : OpenClaim := { program := "ytlpflajahcpfkaa", sum := "b6c3ab8cf77613b51c6ec56ecd37ca037d59c2951cd284c4683f80167de068d6", func := "chargepark/chargeparklaw33.BillExactly", spec := "billExactly", unfollowed := true, recurses := true, apart := false, narrowed := true }
def BillExactlyUptoSaid : Prop := billExactlyUptoRow.holds Try.pinned (OpenSpec.upto billExactlySpec)

/-- 'chargeparklaw33.BillParts', WHERE WHAT IT READS IS OF BULK AT MOST 1048576: true; the input reads as it did. -/
def billPartsUptoRow : OpenClaim := { program := "ytlpflajahcpfkaa", sum := "b6c3ab8cf77613b51c6ec56ecd37ca037d59c2951cd284c4683f80167de068d6", func := "chargepark/chargeparklaw33.BillParts", spec := "billParts", unfollowed := true, recurses := true, apart := false, narrowed := true }
def BillPartsUptoSaid : Prop := billPartsUptoRow.holds Try.pinned (OpenSpec.upto billPartsSpec)

/-- 'chargeparklaw33.BillOrder', WHERE WHAT IT READS IS OF BULK AT MOST 1048576: true; the input reads as it did. -/
def billOrderUptoRow : OpenClaim := { program := "ytlpflajahcpfkaa", sum := "b6c3ab8cf77613b51c6ec56ecd37ca037d59c2951cd284c4683f80167de068d6", func := "chargepark/chargeparklaw33.BillOrder", spec := "billOrder", unfollowed := true, recurses := true, apart := false, narrowed := true }
def BillOrderUptoSaid : Prop := billOrderUptoRow.holds Try.pinned (OpenSpec.upto billOrderSpec)

/-- 'chargeparklaw33.BillWeeks', WHERE WHAT IT READS IS OF BULK AT MOST 1048576: true; the input reads as it did. -/
def billWeeksUptoRow : OpenClaim := { program := "ytlpflajahcpfkaa", sum := "b6c3ab8cf77613b51c6ec56ecd37ca037d59c2951cd284c4683f80167de068d6", func := "chargepark/chargeparklaw33.BillWeeks", spec := "billWeeks", unfollowed := true, recurses := true, apart := false, narrowed := true }
def BillWeeksUptoSaid : Prop := billWeeksUptoRow.holds Try.pinned (OpenSpec.upto billWeeksSpec)

/-- 'chargeparklaw33.BillFree', WHERE WHAT IT READS IS OF BULK AT MOST 1048576: true; the input reads as it did. -/
def billFreeUptoRow : OpenClaim := { program := "ytlpflajahcpfkaa", sum := "b6c3ab8cf77613b51c6ec56ecd37ca037d59c2951cd284c4683f80167de068d6", func := "chargepark/chargeparklaw33.BillFree", spec := "billFree", unfollowed := true, recurses := true, apart := false, narrowed := true }
def BillFreeUptoSaid : Prop := billFreeUptoRow.holds Try.pinned (OpenSpec.upto billFreeSpec)

end Rows
end Go.Proofs.Ytlpflajahcpfkaa
