/-
  No cell of these rows narrows 'for every input' (looked for: loops, veiled, ifaces, maps, wideKeys, modest, calm, conditions, laid).
  DERIVED. THE GIVEN ROWS OF THIS SEAT. 5 by the template 'for every input the law returns true; each argument reads behind the call as it read before'; 0 by the template 'total and deterministic' (their statements: YtgehgobiibddaaaTotals.lean).
  GIVEN WITH THE SEED: the statements are not yours to turn. If you find one false, say at which input.
  Laid BY PROGRAM, IN A SANDBOX (cutbox-rows.mjs): the forced cells as the released guide's own fill.sh prints them over the translation 9a2d2551a3713ab6… (all of the seat's roots in one cut). By AI agents, Wed Nov 11 2026. No macro, syntax, notation, axiom, sorry.
-/
import Derived.Test.YtgehgobiibddaaaChecked
import GoSem.Claim
import GoSem.ClaimJoined
import GoSem.ClaimMapViews
import Derived.JoinedTies
import Derived.KernelRfl
namespace Go.Proofs.Ytgehgobiibddaaa
/- THE CELL 'sum', in the pinned program and in every row, IS THE sha256 OF THE DUMP (.gsa) THAT YtgehgobiibddaaaProg.lean LOADS. Nothing in Lean hashes anything: it is a label: what it is worth is what the hold of that sum in a sandbox is worth. -/
noncomputable def Try.pinned : Pinned := { name := "ytgehgobiibddaaa", sum := "9a2d2551a3713ab6f40d2b1486952291e9b1012bd6a6241b57d4e5b8e46cdee6", checked := Try.checked }
namespace Rows
def none {H : Type} : Left H := { results := [], args := [] }

/-- 'chargeparklaw43.AuditorMatchesReference': WHATEVER THE INPUT: true; the input reads as it did. -/
def auditorMatchesReferenceSpec : ChangeSpec := { name := "auditorMatchesReference", fn := fun _ => fun
  | [d] => { results := [.lit (.bool true)], args := [d] }
  | _ => none }
def auditorMatchesReferenceRow : OpenClaim := { program := "ytgehgobiibddaaa", sum := "9a2d2551a3713ab6f40d2b1486952291e9b1012bd6a6241b57d4e5b8e46cdee6", func := "chargepark/chargeparklaw43.AuditorMatchesReference", spec := "auditorMatchesReference", unfollowed := true, recurses := true, apart := false }
def AuditorMatchesReferenceSaid : Prop := auditorMatchesReferenceRow.holds Try.pinned (OpenSpec.ofChange auditorMatchesReferenceSpec)

/-- ITS FALSE NEIGHBOUR: 'it returns false'. Refute it at one input. -/
def auditorMatchesReferenceWrong : ChangeSpec := { name := "auditorMatchesReference", fn := fun _ => fun
  | [d] => { results := [.lit (.bool false)], args := [d] }
  | _ => none }
def AuditorMatchesReferenceWrongFalsely : Prop := auditorMatchesReferenceRow.holds Try.pinned (OpenSpec.ofChange auditorMatchesReferenceWrong)

/-- 'chargeparklaw43.AuditorReadings': WHATEVER THE INPUT: true; the input reads as it did. -/
def auditorReadingsSpec : ChangeSpec := { name := "auditorReadings", fn := fun _ => fun
  | [d1, d2, d3, d4, d5] => { results := [.lit (.bool true)], args := [d1, d2, d3, d4, d5] }
  | _ => none }
def auditorReadingsRow : OpenClaim := { program := "ytgehgobiibddaaa", sum := "9a2d2551a3713ab6f40d2b1486952291e9b1012bd6a6241b57d4e5b8e46cdee6", func := "chargepark/chargeparklaw43.AuditorReadings", spec := "auditorReadings", unfollowed := true, recurses := true, apart := false }
def AuditorReadingsSaid : Prop := auditorReadingsRow.holds Try.pinned (OpenSpec.ofChange auditorReadingsSpec)

/-- ITS FALSE NEIGHBOUR: 'it returns false'. Refute it at one input. -/
def auditorReadingsWrong : ChangeSpec := { name := "auditorReadings", fn := fun _ => fun
  | [d1, d2, d3, d4, d5] => { results := [.lit (.bool false)], args := [d1, d2, d3, d4, d5] }
  | _ => none }
def AuditorReadingsWrongFalsely : Prop := auditorReadingsRow.holds Try.pinned (OpenSpec.ofChange auditorReadingsWrong)

/-- 'chargeparklaw43.AuditorSession': WHATEVER THE INPUT: true; the input reads as it did. -/
def auditorSessionSpec : ChangeSpec := { name := "auditorSession", fn := fun _ => fun
  | [d1, d2, d3, d4] => { results := [.lit (.bool true)], args := [d1, d2, d3, d4] }
  | _ => none }
def auditorSessionRow : OpenClaim := { program := "ytgehgobiibddaaa", sum := "9a2d2551a3713ab6f40d2b1486952291e9b1012bd6a6241b57d4e5b8e46cdee6", func := "chargepark/chargeparklaw43.AuditorSession", spec := "auditorSession", unfollowed := true, recurses := true, apart := false }
def AuditorSessionSaid : Prop := auditorSessionRow.holds Try.pinned (OpenSpec.ofChange auditorSessionSpec)

/-- ITS FALSE NEIGHBOUR: 'it returns false'. Refute it at one input. -/
def auditorSessionWrong : ChangeSpec := { name := "auditorSession", fn := fun _ => fun
  | [d1, d2, d3, d4] => { results := [.lit (.bool false)], args := [d1, d2, d3, d4] }
  | _ => none }
def AuditorSessionWrongFalsely : Prop := auditorSessionRow.holds Try.pinned (OpenSpec.ofChange auditorSessionWrong)

/-- 'chargeparklaw43.AuditorBill': WHATEVER THE INPUT: true; the input reads as it did. -/
def auditorBillSpec : ChangeSpec := { name := "auditorBill", fn := fun _ => fun
  | [d1, d2, d3, d4] => { results := [.lit (.bool true)], args := [d1, d2, d3, d4] }
  | _ => none }
def auditorBillRow : OpenClaim := { program := "ytgehgobiibddaaa", sum := "9a2d2551a3713ab6f40d2b1486952291e9b1012bd6a6241b57d4e5b8e46cdee6", func := "chargepark/chargeparklaw43.AuditorBill", spec := "auditorBill", unfollowed := true, recurses := true, apart := false }
def AuditorBillSaid : Prop := auditorBillRow.holds Try.pinned (OpenSpec.ofChange auditorBillSpec)

/-- ITS FALSE NEIGHBOUR: 'it returns false'. Refute it at one input. -/
def auditorBillWrong : ChangeSpec := { name := "auditorBill", fn := fun _ => fun
  | [d1, d2, d3, d4] => { results := [.lit (.bool false)], args := [d1, d2, d3, d4] }
  | _ => none }
def AuditorBillWrongFalsely : Prop := auditorBillRow.holds Try.pinned (OpenSpec.ofChange auditorBillWrong)

/-- 'chargeparklaw43.AuditorReplays': WHATEVER THE INPUT: true; the input reads as it did. -/
def auditorReplaysSpec : ChangeSpec := { name := "auditorReplays", fn := fun _ => fun
  | [d1, d2] => { results := [.lit (.bool true)], args := [d1, d2] }
  | _ => none }
def auditorReplaysRow : OpenClaim := { program := "ytgehgobiibddaaa", sum := "9a2d2551a3713ab6f40d2b1486952291e9b1012bd6a6241b57d4e5b8e46cdee6", func := "chargepark/chargeparklaw43.AuditorReplays", spec := "auditorReplays", unfollowed := true, recurses := true, apart := false }
def AuditorReplaysSaid : Prop := auditorReplaysRow.holds Try.pinned (OpenSpec.ofChange auditorReplaysSpec)

/-- ITS FALSE NEIGHBOUR: 'it returns false'. Refute it at one input. -/
def auditorReplaysWrong : ChangeSpec := { name := "auditorReplays", fn := fun _ => fun
  | [d1, d2] => { results := [.lit (.bool false)], args := [d1, d2] }
  | _ => none }
def AuditorReplaysWrongFalsely : Prop := auditorReplaysRow.holds Try.pinned (OpenSpec.ofChange auditorReplaysWrong)

/- THE SECOND FORM. 'bulk': how many values and letters a reading holds, each counted each time it is reached (what is shared counts as often as it is met; a slice's spare places count too). A statement '..UptoSaid' is the law's where the arguments, and the package variables that the reading takes, are together of bulk at most 1048576: NARROWER than '..Said'. Prove '..Said' where nothing that the law and all that it calls make is longer than what came in: it says more and counts as full. Else prove '..UptoSaid'. A law counts once. -/
mutual
def uptoBulk {H : Type} : DataW H → Nat
  | .lit (.string bytes) => bytes.length + 1
  | .lit _ => 1
  | .nil => 1
  | .ptr d => uptoBulk d + 1
  | .slice elems spare => uptoBulkAll elems + uptoBulkAll spare + 1
  | .agg parts => uptoBulkAll parts + 1
  | .iface _ d => uptoBulk d + 1
  | .map entries => uptoBulkEntries entries + 1
  | .held _ => 1
def uptoBulkAll {H : Type} : List (DataW H) → Nat
  | [] => 0
  | d :: r => uptoBulk d + uptoBulkAll r
def uptoBulkEntries {H : Type} : List (Lit × DataW H) → Nat
  | [] => 0
  | x :: r => uptoBulkEntry x + uptoBulkEntries r
def uptoBulkEntry {H : Type} : Lit × DataW H → Nat
  | (.string bytes, d) => bytes.length + uptoBulk d + 1
  | (_, d) => uptoBulk d + 1
 end
def uptoSmall : (H : Type) → List (DataW H) → Bool := fun _ ds => decide (uptoBulkAll ds ≤ 1048576)
def OpenSpec.upto (s : _root_.Go.ChangeSpec) : _root_.Go.OpenSpec := { _root_.Go.OpenSpec.ofChange s with cond := some uptoSmall }

/-- 'chargeparklaw43.AuditorMatchesReference', WHERE WHAT IT READS IS OF BULK AT MOST 1048576: true; the input reads as it did. -/
def auditorMatchesReferenceUptoRow : OpenClaim := { program := "ytgehgobiibddaaa", sum := "9a2d2551a3713ab6f40d2b1486952291e9b1012bd6a6241b57d4e5b8e46cdee6", func := "chargepark/chargeparklaw43.AuditorMatchesReference", spec := "auditorMatchesReference", unfollowed := true, recurses := true, apart := false, narrowed := true }
def AuditorMatchesReferenceUptoSaid : Prop := auditorMatchesReferenceUptoRow.holds Try.pinned (OpenSpec.upto auditorMatchesReferenceSpec)

/-- 'chargeparklaw43.AuditorReadings', WHERE WHAT IT READS IS OF BULK AT MOST 1048576: true; the input reads as it did. -/
def auditorReadingsUptoRow : OpenClaim := { program := "ytgehgobiibddaaa", sum := "9a2d2551a3713ab6f40d2b1486952291e9b1012bd6a6241b57d4e5b8e46cdee6", func := "chargepark/chargeparklaw43.AuditorReadings", spec := "auditorReadings", unfollowed := true, recurses := true, apart := false, narrowed := true }
def AuditorReadingsUptoSaid : Prop := auditorReadingsUptoRow.holds Try.pinned (OpenSpec.upto auditorReadingsSpec)

/-- 'chargeparklaw43.AuditorSession', WHERE WHAT IT READS IS OF BULK AT MOST 1048576: true; the input reads as it did. -/
def auditorSessionUptoRow : OpenClaim := { program := "ytgehgobiibddaaa", sum := "9a2d2551a3713ab6f40d2b1486952291e9b1012bd6a6241b57d4e5b8e46cdee6", func := "chargepark/chargeparklaw43.AuditorSession", spec := "auditorSession", unfollowed := true, recurses := true, apart := false, narrowed := true }
def AuditorSessionUptoSaid : Prop := auditorSessionUptoRow.holds Try.pinned (OpenSpec.upto auditorSessionSpec)

/-- 'chargeparklaw43.AuditorBill', WHERE WHAT IT READS IS OF BULK AT MOST 1048576: true; the input reads as it did. -/
def auditorBillUptoRow : OpenClaim := { program := "ytgehgobiibddaaa", sum := "9a2d2551a3713ab6f40d2b1486952291e9b1012bd6a6241b57d4e5b8e46cdee6", func := "chargepark/chargeparklaw43.AuditorBill", spec := "auditorBill", unfollowed := true, recurses := true, apart := false, narrowed := true }
def AuditorBillUptoSaid : Prop := auditorBillUptoRow.holds Try.pinned (OpenSpec.upto auditorBillSpec)

/-- 'chargeparklaw43.AuditorReplays', WHERE WHAT IT READS IS OF BULK AT MOST 1048576: true; the input reads as it did. -/
def auditorReplaysUptoRow : OpenClaim := { program := "ytgehgobiibddaaa", sum := "9a2d2551a3713ab6f40d2b1486952291e9b1012bd6a6241b57d4e5b8e46cdee6", func := "chargepark/chargeparklaw43.AuditorReplays", spec := "auditorReplays", unfollowed := true, recurses := true, apart := false, narrowed := true }
def AuditorReplaysUptoSaid : Prop := auditorReplaysUptoRow.holds Try.pinned (OpenSpec.upto auditorReplaysSpec)

end Rows
end Go.Proofs.Ytgehgobiibddaaa
