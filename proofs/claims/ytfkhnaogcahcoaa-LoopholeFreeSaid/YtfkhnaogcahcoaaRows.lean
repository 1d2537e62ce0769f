/-
  No cell of these rows narrows 'for every input' (looked for: loops, veiled, ifaces, maps, wideKeys, modest, calm, conditions, laid).
  DERIVED. THE GIVEN ROWS OF THIS SEAT. 7 by the template 'for every input the law returns true; each argument reads behind the call as it read before'; 0 by the template 'total and deterministic' (their statements: YtfkhnaogcahcoaaTotals.lean).
  GIVEN WITH THE SEED: the statements are not yours to turn. If you find one false, say at which input.
  Laid BY PROGRAM, IN A SANDBOX (cutbox-rows.mjs): the forced cells as the released guide's own fill.sh prints them over the translation 2c0ad12a5064593c… (all of the seat's roots in one cut). By AI agents, Wed Nov 11 2026. No macro, syntax, notation, axiom, sorry.
-/
import Derived.Test.YtfkhnaogcahcoaaChecked
import GoSem.Claim
import GoSem.ClaimJoined
import GoSem.ClaimMapViews
import Derived.JoinedTies
import Derived.KernelRfl
namespace Go.Proofs.Ytfkhnaogcahcoaa
/- THE CELL 'sum', in the pinned program and in every row, IS THE sha256 OF THE DUMP (.gsa) THAT YtfkhnaogcahcoaaProg.lean LOADS. Nothing in Lean hashes anything: it is a label: what it is worth is what the hold of that sum in a sandbox is worth. -/
noncomputable def Try.pinned : Pinned := { name := "ytfkhnaogcahcoaa", sum := "2c0ad12a5064593cec754b22a4d685f93d08b15cec16aa9ac776bef16bd110a8", checked := Try.checked }
namespace Rows
def none {H : Type} : Left H := { results := [], args := [] }

/-- 'chargeparklaw34.LoopholeParts': WHATEVER THE INPUT: true; the input reads as it did. -/
def loopholePartsSpec : ChangeSpec := { name := "loopholeParts", fn := fun _ => fun
  | [d1, d2] => { results := [.lit (.bool true)], args := [d1, d2] }
  | _ => none }
def loopholePartsRow : OpenClaim := { program := "ytfkhnaogcahcoaa", sum := "2c0ad12a5064593cec754b22a4d685f93d08b15cec16aa9ac776bef16bd110a8", func := "chargepark/chargeparklaw34.LoopholeParts", spec := "loopholeParts", unfollowed := true, recurses := true, plainKeys := false, apart := false }
def LoopholePartsSaid : Prop := loopholePartsRow.holds Try.pinned (OpenSpec.ofChange loopholePartsSpec)

/-- ITS FALSE NEIGHBOUR: 'it returns false'. Refute it at one input. -/
def loopholePartsWrong : ChangeSpec := { name := "loopholeParts", fn := fun _ => fun
  | [d1, d2] => { results := [.lit (.bool false)], args := [d1, d2] }
  | _ => none }
def LoopholePartsWrongFalsely : Prop := loopholePartsRow.holds Try.pinned (OpenSpec.ofChange loopholePartsWrong)

/-- 'chargeparklaw34.LoopholeFound': WHATEVER THE INPUT: true; the input reads as it did. -/
def loopholeFoundSpec : ChangeSpec := { name := "loopholeFound", fn := fun _ => fun
  | [d1, d2, d3, d4, d5] => { results := [.lit (.bool true)], args := [d1, d2, d3, d4, d5] }
  | _ => none }
def loopholeFoundRow : OpenClaim := { program := "ytfkhnaogcahcoaa", sum := "2c0ad12a5064593cec754b22a4d685f93d08b15cec16aa9ac776bef16bd110a8", func := "chargepark/chargeparklaw34.LoopholeFound", spec := "loopholeFound", unfollowed := true, recurses := true, plainKeys := false, apart := false }
def LoopholeFoundSaid : Prop := loopholeFoundRow.holds Try.pinned (OpenSpec.ofChange loopholeFoundSpec)

/-- ITS FALSE NEIGHBOUR: 'it returns false'. Refute it at one input. -/
def loopholeFoundWrong : ChangeSpec := { name := "loopholeFound", fn := fun _ => fun
  | [d1, d2, d3, d4, d5] => { results := [.lit (.bool false)], args := [d1, d2, d3, d4, d5] }
  | _ => none }
def LoopholeFoundWrongFalsely : Prop := loopholeFoundRow.holds Try.pinned (OpenSpec.ofChange loopholeFoundWrong)

/-- 'chargeparklaw34.LoopholeNone': WHATEVER THE INPUT: true; the input reads as it did. -/
def loopholeNoneSpec : ChangeSpec := { name := "loopholeNone", fn := fun _ => fun
  | [d1, d2, d3, d4, d5] => { results := [.lit (.bool true)], args := [d1, d2, d3, d4, d5] }
  | _ => none }
def loopholeNoneRow : OpenClaim := { program := "ytfkhnaogcahcoaa", sum := "2c0ad12a5064593cec754b22a4d685f93d08b15cec16aa9ac776bef16bd110a8", func := "chargepark/chargeparklaw34.LoopholeNone", spec := "loopholeNone", unfollowed := true, recurses := true, plainKeys := false, apart := false }
def LoopholeNoneSaid : Prop := loopholeNoneRow.holds Try.pinned (OpenSpec.ofChange loopholeNoneSpec)

/-- ITS FALSE NEIGHBOUR: 'it returns false'. Refute it at one input. -/
def loopholeNoneWrong : ChangeSpec := { name := "loopholeNone", fn := fun _ => fun
  | [d1, d2, d3, d4, d5] => { results := [.lit (.bool false)], args := [d1, d2, d3, d4, d5] }
  | _ => none }
def LoopholeNoneWrongFalsely : Prop := loopholeNoneRow.holds Try.pinned (OpenSpec.ofChange loopholeNoneWrong)

/-- 'chargeparklaw34.LoopholeStarted': WHATEVER THE INPUT: true; the input reads as it did. -/
def loopholeStartedSpec : ChangeSpec := { name := "loopholeStarted", fn := fun _ => fun
  | [d1, d2, d3, d4] => { results := [.lit (.bool true)], args := [d1, d2, d3, d4] }
  | _ => none }
def loopholeStartedRow : OpenClaim := { program := "ytfkhnaogcahcoaa", sum := "2c0ad12a5064593cec754b22a4d685f93d08b15cec16aa9ac776bef16bd110a8", func := "chargepark/chargeparklaw34.LoopholeStarted", spec := "loopholeStarted", unfollowed := true, recurses := true, plainKeys := false, apart := false }
def LoopholeStartedSaid : Prop := loopholeStartedRow.holds Try.pinned (OpenSpec.ofChange loopholeStartedSpec)

/-- ITS FALSE NEIGHBOUR: 'it returns false'. Refute it at one input. -/
def loopholeStartedWrong : ChangeSpec := { name := "loopholeStarted", fn := fun _ => fun
  | [d1, d2, d3, d4] => { results := [.lit (.bool false)], args := [d1, d2, d3, d4] }
  | _ => none }
def LoopholeStartedWrongFalsely : Prop := loopholeStartedRow.holds Try.pinned (OpenSpec.ofChange loopholeStartedWrong)

/-- 'chargeparklaw34.LoopholeFree': WHATEVER THE INPUT: true; the input reads as it did. -/
def loopholeFreeSpec : ChangeSpec := { name := "loopholeFree", fn := fun _ => fun
  | [d1, d2, d3, d4] => { results := [.lit (.bool true)], args := [d1, d2, d3, d4] }
  | _ => none }
def loopholeFreeRow : OpenClaim := { program := "ytfkhnaogcahcoaa", sum := "2c0ad12a5064593cec754b22a4d685f93d08b15cec16aa9ac776bef16bd110a8", func := "chargepark/chargeparklaw34.LoopholeFree", spec := "loopholeFree", unfollowed := true, recurses := true, plainKeys := false, apart := false }
def LoopholeFreeSaid : Prop := loopholeFreeRow.holds Try.pinned (OpenSpec.ofChange loopholeFreeSpec)

/-- ITS FALSE NEIGHBOUR: 'it returns false'. Refute it at one input. -/
def loopholeFreeWrong : ChangeSpec := { name := "loopholeFree", fn := fun _ => fun
  | [d1, d2, d3, d4] => { results := [.lit (.bool false)], args := [d1, d2, d3, d4] }
  | _ => none }
def LoopholeFreeWrongFalsely : Prop := loopholeFreeRow.holds Try.pinned (OpenSpec.ofChange loopholeFreeWrong)

/-- 'chargeparklaw34.LoopholeMore': WHATEVER THE INPUT: true; the input reads as it did. -/
def loopholeMoreSpec : ChangeSpec := { name := "loopholeMore", fn := fun _ => fun
  | [d1, d2, d3] => { results := [.lit (.bool true)], args := [d1, d2, d3] }
  | _ => none }
def loopholeMoreRow : OpenClaim := { program := "ytfkhnaogcahcoaa", sum := "2c0ad12a5064593cec754b22a4d685f93d08b15cec16aa9ac776bef16bd110a8", func := "chargepark/chargeparklaw34.LoopholeMore", spec := "loopholeMore", unfollowed := true, recurses := true, plainKeys := false, apart := false }
def LoopholeMoreSaid : Prop := loopholeMoreRow.holds Try.pinned (OpenSpec.ofChange loopholeMoreSpec)

/-- ITS FALSE NEIGHBOUR: 'it returns false'. Refute it at one input. -/
def loopholeMoreWrong : ChangeSpec := { name := "loopholeMore", fn := fun _ => fun
  | [d1, d2, d3] => { results := [.lit (.bool false)], args := [d1, d2, d3] }
  | _ => none }
def LoopholeMoreWrongFalsely : Prop := loopholeMoreRow.holds Try.pinned (OpenSpec.ofChange loopholeMoreWrong)

/-- 'chargeparklaw34.LoopholeSteps': WHATEVER THE INPUT: true; the input reads as it did. -/
def loopholeStepsSpec : ChangeSpec := { name := "loopholeSteps", fn := fun _ => fun
  | [d1, d2, d3, d4, d5] => { results := [.lit (.bool true)], args := [d1, d2, d3, d4, d5] }
  | _ => none }
def loopholeStepsRow : OpenClaim := { program := "ytfkhnaogcahcoaa", sum := "2c0ad12a5064593cec754b22a4d685f93d08b15cec16aa9ac776bef16bd110a8", func := "chargepark/chargeparklaw34.LoopholeSteps", spec := "loopholeSteps", unfollowed := true, recurses := true, plainKeys := false, apart := false }
def LoopholeStepsSaid : Prop := loopholeStepsRow.holds Try.pinned (OpenSpec.ofChange loopholeStepsSpec)

/-- ITS FALSE NEIGHBOUR: 'it returns false'. Refute it at one input. -/
def loopholeStepsWrong : ChangeSpec := { name := "loopholeSteps", fn := fun _ => fun
  | [d1, d2, d3, d4, d5] => { results := [.lit (.bool false)], args := [d1, d2, d3, d4, d5] }
  | _ => none }
def LoopholeStepsWrongFalsely : Prop := loopholeStepsRow.holds Try.pinned (OpenSpec.ofChange loopholeStepsWrong)

/- THE SECOND FORM. 'bulk': how many values and letters a reading holds, each counted each time it is reached (what is shared counts as often as it is met; a slice's spare places count too). A statement '..UptoSaid' is the law's where the arguments, and the package variables that the reading takes, are together of bulk at most 1048576: NARROWER than '..Said'. Prove '..Said' where nothing that the law and all that it calls make is longer than what came in: it says more and counts as full. Else prove '..UptoSaid'. A law counts once. -/
mutual
def uptoBulk {H : Type} : DataW H → Nat
  | .lit (.string bytes) => bytes.length + 1
  | .lit _ => 1
  | .nil => 1
  | .ptr d => uptoBulk d + 1
  | .slice elems spare => uptoBulkAll elems + uptoBulkAll spare + 1
  | .agg parts => uptoBulkAll parts + 1
  | .iface _ d => uptoBulk d + 1
  | .map entries => uptoBulkEntries entries + 1
  | .held _ => 1
def uptoBulkAll {H : Type} : List (DataW H) → Nat
  | [] => 0
  | d :: r => uptoBulk d + uptoBulkAll r
def uptoBulkEntries {H : Type} : List (Lit × DataW H) → Nat
  | [] => 0
  | x :: r => uptoBulkEntry x + uptoBulkEntries r
def uptoBulkEntry {H : Type} : Lit × DataW H → Nat
  | (.string bytes, d) => bytes.length + uptoBulk d + 1
  | (_, d) => uptoBulk d + 1
 end
def uptoSmall : (H : Type) → List (DataW H) → Bool := fun _ ds => decide (uptoBulkAll ds ≤ 1048576)
def OpenSpec.upto (s : _root_.Go.ChangeSpec) : _root_.Go.OpenSpec := { _root_.Go.OpenSpec.ofChange s with cond := some uptoSmall }

/-- 'chargeparklaw34.LoopholeParts', WHERE WHAT IT READS IS OF BULK AT MOST 1048576: true; the input reads as it did. -/
def loopholePartsUptoRow : OpenClaim := { program := "ytfkhnaogcahcoaa", sum := "2c0ad12a5064593cec754b22a4d685f93d08b15cec16aa9ac776bef16bd110a8", func := "chargepark/chargeparklaw34.LoopholeParts", spec := "loopholeParts", unfollowed := true, recurses := true, plainKeys := false, apart := false, narrowed := true }
def LoopholePartsUptoSaid : Prop := loopholePartsUptoRow.holds Try.pinned (OpenSpec.upto loopholePartsSpec)

/-- 'chargeparklaw34.LoopholeFound', WHERE WHAT IT READS IS OF BULK AT MOST 1048576: true; the input reads as it did. -/
def loopholeFoundUptoRow : OpenClaim := { program := "ytfkhnaogcahcoaa", sum := "2c0ad12a5064593cec754b22a4d685f93d08b15cec16aa9ac776bef16bd110a8", func := "chargepark/chargeparklaw34.LoopholeFound", spec := "loopholeFound", unfollowed := true, recurses := true, plainKeys := false, apart := false, narrowed := true }
def LoopholeFoundUptoSaid : Prop := loopholeFoundUptoRow.holds Try.pinned (OpenSpec.upto loopholeFoundSpec)

/-- 'chargeparklaw34.LoopholeNone', WHERE WHAT IT READS IS OF BULK AT MOST 1048576: true; the input reads as it did. -/
def loopholeNoneUptoRow : OpenClaim := { program := "ytfkhnaogcahcoaa", sum := "2c0ad12a5064593cec754b22a4d685f93d08b15cec16aa9ac776bef16bd110a8", func := "chargepark/chargeparklaw34.LoopholeNone", spec := "loopholeNone", unfollowed := true, recurses := true, plainKeys := false, apart := false, narrowed := true }
def LoopholeNoneUptoSaid : Prop := loopholeNoneUptoRow.holds Try.pinned (OpenSpec.upto loopholeNoneSpec)

/-- 'chargeparklaw34.LoopholeStarted', WHERE WHAT IT READS IS OF BULK AT MOST 1048576: true; the input reads as it did. -/
def loopholeStartedUptoRow : OpenClaim := { program := "ytfkhnaogcahcoaa", sum := "2c0ad12a5064593cec754b22a4d685f93d08b15cec16aa9ac776bef16bd110a8", func := "chargepark/chargeparklaw34.LoopholeStarted", spec := "loopholeStarted", unfollowed := true, recurses := true, plainKeys := false, apart := false, narrowed := true }
def LoopholeStartedUptoSaid : Prop := loopholeStartedUptoRow.holds Try.pinned (OpenSpec.upto loopholeStartedSpec)

/-- 'chargeparklaw34.LoopholeFree', WHERE WHAT IT READS IS OF BULK AT MOST 1048576: true; the input reads as it did. -/
def loopholeFreeUptoRow : OpenClaim := { program := "ytfkhnaogcahcoaa", sum := "2c0ad12a5064593cec754b22a4d685f93d08b15cec16aa9ac776bef16bd110a8", func := "chargepark/chargeparklaw34.LoopholeFree", spec := "loopholeFree", unfollowed := true, recurses := true, plainKeys := false, apart := false, narrowed := true }
def LoopholeFreeUptoSaid : Prop := loopholeFreeUptoRow.holds Try.pinned (OpenSpec.upto loopholeFreeSpec)

/-- 'chargeparklaw34.LoopholeMore', WHERE WHAT IT READS IS OF BULK AT MOST 1048576: true; the input reads as it did. -/
def loopholeMoreUptoRow : OpenClaim := { program := "ytfkhnaogcahcoaa", sum := "2c0ad12a5064593cec754b22a4d685f93d08b15cec16aa9ac776bef16bd110a8", func := "chargepark/chargeparklaw34.LoopholeMore", spec := "loopholeMore", unfollowed := true, recurses := true, plainKeys := false, apart := false, narrowed := true }
def LoopholeMoreUptoSaid : Prop := loopholeMoreUptoRow.holds Try.pinned (OpenSpec.upto loopholeMoreSpec)

/-- 'chargeparklaw34.LoopholeSteps', WHERE WHAT IT READS IS OF BULK AT MOST 1048576: true; the input reads as it did. -/
def loopholeStepsUptoRow : OpenClaim := { program := "ytfkhnaogcahcoaa", sum := "2c0ad12a5064593cec754b22a4d685f93d08b15cec16aa9ac776bef16bd110a8", func := "chargepark/chargeparklaw34.LoopholeSteps", spec := "loopholeSteps", unfollowed := true, recurses := true, plainKeys := false, apart := false, narrowed := true }
def LoopholeStepsUptoSaid : Prop := loopholeStepsUptoRow.holds Try.pinned (OpenSpec.upto loopholeStepsSpec)

end Rows
end Go.Proofs.Ytfkhnaogcahcoaa
