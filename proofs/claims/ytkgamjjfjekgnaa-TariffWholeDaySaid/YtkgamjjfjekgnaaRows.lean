/-
  No cell of these rows narrows 'for every input' (looked for: loops, veiled, ifaces, maps, wideKeys, modest, calm, conditions, laid).
  DERIVED. THE GIVEN ROWS OF THIS SEAT. 3 by the template 'for every input the law returns true; each argument reads behind the call as it read before'; 0 by the template 'total and deterministic' (their statements: YtkgamjjfjekgnaaTotals.lean).
  GIVEN WITH THE SEED: the statements are not yours to turn. If you find one false, say at which input.
  Laid BY PROGRAM, IN A SANDBOX (cutbox-rows.mjs): the forced cells as the released guide's own fill.sh prints them over the translation e742ad3d80074a9a… (all of the seat's roots in one cut). By AI agents, Wed Nov 11 2026. No macro, syntax, notation, axiom, sorry.
-/
import Derived.Test.YtkgamjjfjekgnaaChecked
import GoSem.Claim
import GoSem.ClaimJoined
import GoSem.ClaimMapViews
import Derived.JoinedTies
import Derived.KernelRfl
namespace Go.Proofs.Ytkgamjjfjekgnaa
/- THE CELL 'sum', in the pinned program and in every row, IS THE sha256 OF THE DUMP (.gsa) THAT YtkgamjjfjekgnaaProg.lean LOADS. Nothing in Lean hashes anything: it is a label: what it is worth is what the hold of that sum in a sandbox is worth. -/
noncomputable def Try.pinned : Pinned := { name := "ytkgamjjfjekgnaa", sum := "e742ad3d80074a9ae9296e32142c7499306b6be93ed0c53339c0a2caf53b96b6", checked := Try.checked }
namespace Rows
def none {H : Type} : Left H := { results := [], args := [] }

/-- 'chargeparklaw32.TariffDays': WHATEVER THE INPUT: true; the input reads as it did. -/
def tariffDaysSpec : ChangeSpec := { name := "tariffDays", fn := fun _ => fun
  | [d1, d2, d3] => { results := [.lit (.bool true)], args := [d1, d2, d3] }
  | _ => none }
def tariffDaysRow : OpenClaim := { program := "ytkgamjjfjekgnaa", sum := "e742ad3d80074a9ae9296e32142c7499306b6be93ed0c53339c0a2caf53b96b6", func := "chargepark/chargeparklaw32.TariffDays", spec := "tariffDays", unfollowed := true, recurses := true, apart := false }
def TariffDaysSaid : Prop := tariffDaysRow.holds Try.pinned (OpenSpec.ofChange tariffDaysSpec)

/-- ITS FALSE NEIGHBOUR: 'it returns false'. Refute it at one input. -/
def tariffDaysWrong : ChangeSpec := { name := "tariffDays", fn := fun _ => fun
  | [d1, d2, d3] => { results := [.lit (.bool false)], args := [d1, d2, d3] }
  | _ => none }
def TariffDaysWrongFalsely : Prop := tariffDaysRow.holds Try.pinned (OpenSpec.ofChange tariffDaysWrong)

/-- 'chargeparklaw32.TariffParts': WHATEVER THE INPUT: true; the input reads as it did. -/
def tariffPartsSpec : ChangeSpec := { name := "tariffParts", fn := fun _ => fun
  | [d1, d2, d3, d4] => { results := [.lit (.bool true)], args := [d1, d2, d3, d4] }
  | _ => none }
def tariffPartsRow : OpenClaim := { program := "ytkgamjjfjekgnaa", sum := "e742ad3d80074a9ae9296e32142c7499306b6be93ed0c53339c0a2caf53b96b6", func := "chargepark/chargeparklaw32.TariffParts", spec := "tariffParts", unfollowed := true, recurses := true, apart := false }
def TariffPartsSaid : Prop := tariffPartsRow.holds Try.pinned (OpenSpec.ofChange tariffPartsSpec)

/-- ITS FALSE NEIGHBOUR: 'it returns false'. Refute it at one input. -/
def tariffPartsWrong : ChangeSpec := { name := "tariffParts", fn := fun _ => fun
  | [d1, d2, d3, d4] => { results := [.lit (.bool false)], args := [d1, d2, d3, d4] }
  | _ => none }
def TariffPartsWrongFalsely : Prop := tariffPartsRow.holds Try.pinned (OpenSpec.ofChange tariffPartsWrong)

/-- 'chargeparklaw32.TariffWholeDay': WHATEVER THE INPUT: true; the input reads as it did. -/
def tariffWholeDaySpec : ChangeSpec := { name := "tariffWholeDay", fn := fun _ => fun
  | [d1, d2, d3] => { results := [.lit (.bool true)], args := [d1, d2, d3] }
  | _ => none }
def tariffWholeDayRow : OpenClaim := { program := "ytkgamjjfjekgnaa", sum := "e742ad3d80074a9ae9296e32142c7499306b6be93ed0c53339c0a2caf53b96b6", func := "chargepark/chargeparklaw32.TariffWholeDay", spec := "tariffWholeDay", unfollowed := true, recurses := true, apart := false }
def TariffWholeDaySaid : Prop := tariffWholeDayRow.holds Try.pinned (OpenSpec.ofChange tariffWholeDaySpec)

/-- ITS FALSE NEIGHBOUR: 'it returns false'. Refute it at one input. -/
def tariffWholeDayWrong : ChangeSpec := { name := "tariffWholeDay", fn := fun _ => fun
  | [d1, d2, d3] => { results := [.lit (.bool false)], args := [d1, d2, d3] }
  | _ => none }
def TariffWholeDayWrongFalsely : Prop := tariffWholeDayRow.holds Try.pinned (OpenSpec.ofChange tariffWholeDayWrong)

/- THE SECOND FORM. 'bulk': how many values and letters a reading holds, each counted each time it is reached (what is shared counts as often as it is met; a slice's spare places count too). A statement '..UptoSaid' is the law's where the arguments, and the package variables that the reading takes, are together of bulk at most 1048576: NARROWER than '..Said'. Prove '..Said' where nothing that the law and all that it calls make is longer than what came in: it says more and counts as full. Else prove '..UptoSaid'. A law counts once. -/
mutual
def uptoBulk {H : Type} : DataW H → Nat
  | .lit (.string bytes) => bytes.length + 1
  | .lit _ => 1
  | .nil => 1
  | .ptr d => uptoBulk d + 1
  | .slice elems spare => uptoBulkAll elems + uptoBulkAll spare + 1
  | .agg parts => uptoBulkAll parts + 1
  | .iface _ d => uptoBulk d + 1
  | .map entries => uptoBulkEntries entries + 1
  | .held _ => 1
def uptoBulkAll {H : Type} : List (DataW H) → Nat
  | [] => 0
  | d :: r => uptoBulk d + uptoBulkAll r
def uptoBulkEntries {H : Type} : List (Lit × DataW H) → Nat
  | [] => 0
  | x :: r => uptoBulkEntry x + uptoBulkEntries r
def uptoBulkEntry {H : Type} : Lit × DataW H → Nat
  | (.string bytes, d) => bytes.length + uptoBulk d + 1
  | (_, d) => uptoBulk d + 1
 end
def uptoSmall : (H : Type) → List (DataW H) → Bool := fun _ ds => decide (uptoBulkAll ds ≤ 1048576)
def OpenSpec.upto (s : _root_.Go.ChangeSpec) : _root_.Go.OpenSpec := { _root_.Go.OpenSpec.ofChange s with cond := some uptoSmall }

/-- 'chargeparklaw32.TariffDays', WHERE WHAT IT READS IS OF BULK AT MOST 1048576: true; the input reads as it did. -/
def tariffDaysUptoRow : OpenClaim := { program := "ytkgamjjfjekgnaa", sum := "e742ad3d80074a9ae9296e32142c7499306b6be93ed0c53339c0a2caf53b96b6", func := "chargepark/chargeparklaw32.TariffDays", spec := "tariffDays", unfollowed := true, recurses := true, apart := false, narrowed := true }
def TariffDaysUptoSaid : Prop := tariffDaysUptoRow.holds Try.pinned (OpenSpec.upto tariffDaysSpec)

/-- 'chargeparklaw32.TariffParts', WHERE WHAT IT READS IS OF BULK AT MOST 1048576: true; the input reads as it did. -/
def tariffPartsUptoRow : OpenClaim := { program := "ytkgamjjfjekgnaa", sum := "e742ad3d80074a9ae9296e32142c7499306b6be93ed0c53339c0a2caf53b96b6", func := "chargepark/chargeparklaw32.TariffParts", spec := "tariffParts", unfollowed := true, recurses := true, apart := false, narrowed := true }
def TariffPartsUptoSaid : Prop := tariffPartsUptoRow.holds Try.pinned (OpenSpec.upto tariffPartsSpec)

/-- 'chargeparklaw32.TariffWholeDay', WHERE WHAT IT READS IS OF BULK AT MOST 1048576: true; the input reads as it did. -/
def tariffWholeDayUptoRow : OpenClaim := { program := "ytkgamjjfjekgnaa", sum := "e742ad3d80074a9ae9296e32142c7499306b6be93ed0c53339c0a2caf53b96b6", func := "chargepark/chargeparklaw32.TariffWholeDay", spec := "tariffWholeDay", unfollowed := true, recurses := true, apart := false, narrowed := true }
def TariffWholeDayUptoSaid : Prop := tariffWholeDayUptoRow.holds Try.pinned (OpenSpec.upto tariffWholeDaySpec)

end Rows
end Go.Proofs.Ytkgamjjfjekgnaa
