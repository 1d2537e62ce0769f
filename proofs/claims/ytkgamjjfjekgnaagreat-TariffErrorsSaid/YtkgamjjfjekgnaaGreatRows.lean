/-
  NARROWER THAN 'FOR EVERY INPUT', by the rows' own cells (each row's printed sentence says how): TariffMatchesReference: loops · TariffBuilt: loops · TariffErrors: loops.
  DERIVED. THE GIVEN ROWS OF THIS SEAT. 4 by the template 'for every input the law returns true; each argument reads behind the call as it read before'; 0 by the template 'total and deterministic' (their statements: YtkgamjjfjekgnaaGreatTotals.lean).
  GIVEN WITH THE SEED: the statements are not yours to turn. If you find one false, say at which input.
  Laid BY PROGRAM, IN A SANDBOX (cutbox-rows.mjs): the forced cells as the released guide's own fill.sh prints them over the translation ef8ec376cd24a28e… (all of the seat's roots in one cut). By AI agents, Wed Nov 11 2026. No macro, syntax, notation, axiom, sorry.
-/
import Derived.Test.YtkgamjjfjekgnaaGreatChecked
import GoSem.Claim
import GoSem.ClaimJoined
import GoSem.ClaimMapViews
import Derived.JoinedTies
import Derived.KernelRfl
namespace Go.Proofs.YtkgamjjfjekgnaaGreat
/- THE CELL 'sum', in the pinned program and in every row, IS THE sha256 OF THE DUMP (.gsa) THAT YtkgamjjfjekgnaaGreatProg.lean LOADS. Nothing in Lean hashes anything: it is a label: what it is worth is what the hold of that sum in a sandbox is worth. -/
noncomputable def Tryz.pinned : Pinned := { name := "ytkgamjjfjekgnaagreat", sum := "ef8ec376cd24a28e71934c20e5336b02f9ff4a7535f3cfee87728d6bf51a87f4", checked := Tryz.checked }
namespace Rows
def none {H : Type} : Left H := { results := [], args := [] }

/-- 'chargeparklaw32.TariffMatchesReference': WHATEVER THE INPUT: true; the input reads as it did. -/
def tariffMatchesReferenceSpec : ChangeSpec := { name := "tariffMatchesReference", fn := fun _ => fun
  | [d1, d2, d3, d4, d5] => { results := [.lit (.bool true)], args := [d1, d2, d3, d4, d5] }
  | _ => none }
def tariffMatchesReferenceRow : OpenClaim := { program := "ytkgamjjfjekgnaagreat", sum := "ef8ec376cd24a28e71934c20e5336b02f9ff4a7535f3cfee87728d6bf51a87f4", func := "chargepark/chargeparklaw32.TariffMatchesReference", spec := "tariffMatchesReference", unfollowed := true, recurses := true, loops := true, apart := false }
def TariffMatchesReferenceSaid : Prop := tariffMatchesReferenceRow.holds Tryz.pinned (OpenSpec.ofChange tariffMatchesReferenceSpec)

/-- ITS FALSE NEIGHBOUR: 'it returns false'. Refute it at one input. -/
def tariffMatchesReferenceWrong : ChangeSpec := { name := "tariffMatchesReference", fn := fun _ => fun
  | [d1, d2, d3, d4, d5] => { results := [.lit (.bool false)], args := [d1, d2, d3, d4, d5] }
  | _ => none }
def TariffMatchesReferenceWrongFalsely : Prop := tariffMatchesReferenceRow.holds Tryz.pinned (OpenSpec.ofChange tariffMatchesReferenceWrong)

/-- 'chargeparklaw32.TariffBuilt': WHATEVER THE INPUT: true; the input reads as it did. -/
def tariffBuiltSpec : ChangeSpec := { name := "tariffBuilt", fn := fun _ => fun
  | [d] => { results := [.lit (.bool true)], args := [d] }
  | _ => none }
def tariffBuiltRow : OpenClaim := { program := "ytkgamjjfjekgnaagreat", sum := "ef8ec376cd24a28e71934c20e5336b02f9ff4a7535f3cfee87728d6bf51a87f4", func := "chargepark/chargeparklaw32.TariffBuilt", spec := "tariffBuilt", unfollowed := true, recurses := true, loops := true, apart := false }
def TariffBuiltSaid : Prop := tariffBuiltRow.holds Tryz.pinned (OpenSpec.ofChange tariffBuiltSpec)

/-- ITS FALSE NEIGHBOUR: 'it returns false'. Refute it at one input. -/
def tariffBuiltWrong : ChangeSpec := { name := "tariffBuilt", fn := fun _ => fun
  | [d] => { results := [.lit (.bool false)], args := [d] }
  | _ => none }
def TariffBuiltWrongFalsely : Prop := tariffBuiltRow.holds Tryz.pinned (OpenSpec.ofChange tariffBuiltWrong)

/-- 'chargeparklaw32.TariffTexts': WHATEVER THE INPUT: true; the input reads as it did. -/
def tariffTextsSpec : ChangeSpec := { name := "tariffTexts", fn := fun _ => fun
  | [d1, d2] => { results := [.lit (.bool true)], args := [d1, d2] }
  | _ => none }
def tariffTextsRow : OpenClaim := { program := "ytkgamjjfjekgnaagreat", sum := "ef8ec376cd24a28e71934c20e5336b02f9ff4a7535f3cfee87728d6bf51a87f4", func := "chargepark/chargeparklaw32.TariffTexts", spec := "tariffTexts", unfollowed := true, recurses := true, apart := false }
def TariffTextsSaid : Prop := tariffTextsRow.holds Tryz.pinned (OpenSpec.ofChange tariffTextsSpec)

/-- ITS FALSE NEIGHBOUR: 'it returns false'. Refute it at one input. -/
def tariffTextsWrong : ChangeSpec := { name := "tariffTexts", fn := fun _ => fun
  | [d1, d2] => { results := [.lit (.bool false)], args := [d1, d2] }
  | _ => none }
def TariffTextsWrongFalsely : Prop := tariffTextsRow.holds Tryz.pinned (OpenSpec.ofChange tariffTextsWrong)

/-- 'chargeparklaw32.TariffErrors': WHATEVER THE INPUT: true; the input reads as it did. -/
def tariffErrorsSpec : ChangeSpec := { name := "tariffErrors", fn := fun _ => fun
  | [d1, d2, d3] => { results := [.lit (.bool true)], args := [d1, d2, d3] }
  | _ => none }
def tariffErrorsRow : OpenClaim := { program := "ytkgamjjfjekgnaagreat", sum := "ef8ec376cd24a28e71934c20e5336b02f9ff4a7535f3cfee87728d6bf51a87f4", func := "chargepark/chargeparklaw32.TariffErrors", spec := "tariffErrors", unfollowed := true, recurses := true, loops := true, apart := false }
def TariffErrorsSaid : Prop := tariffErrorsRow.holds Tryz.pinned (OpenSpec.ofChange tariffErrorsSpec)

/-- ITS FALSE NEIGHBOUR: 'it returns false'. Refute it at one input. -/
def tariffErrorsWrong : ChangeSpec := { name := "tariffErrors", fn := fun _ => fun
  | [d1, d2, d3] => { results := [.lit (.bool false)], args := [d1, d2, d3] }
  | _ => none }
def TariffErrorsWrongFalsely : Prop := tariffErrorsRow.holds Tryz.pinned (OpenSpec.ofChange tariffErrorsWrong)

/- THE SECOND FORM. 'bulk': how many values and letters a reading holds, each counted each time it is reached (what is shared counts as often as it is met; a slice's spare places count too). A statement '..UptoSaid' is the law's where the arguments, and the package variables that the reading takes, are together of bulk at most 1048576: NARROWER than '..Said'. Prove '..Said' where nothing that the law and all that it calls make is longer than what came in: it says more and counts as full. Else prove '..UptoSaid'. A law counts once. -/
mutual
def uptoBulk {H : Type} : DataW H → Nat
  | .lit (.string bytes) => bytes.length + 1
  | .lit _ => 1
  | .nil => 1
  | .ptr d => uptoBulk d + 1
  | .slice elems spare => uptoBulkAll elems + uptoBulkAll spare + 1
  | .agg parts => uptoBulkAll parts + 1
  | .iface _ d => uptoBulk d + 1
  | .map entries => uptoBulkEntries entries + 1
  | .held _ => 1
def uptoBulkAll {H : Type} : List (DataW H) → Nat
  | [] => 0
  | d :: r => uptoBulk d + uptoBulkAll r
def uptoBulkEntries {H : Type} : List (Lit × DataW H) → Nat
  | [] => 0
  | x :: r => uptoBulkEntry x + uptoBulkEntries r
def uptoBulkEntry {H : Type} : Lit × DataW H → Nat
  | (.string bytes, d) => bytes.length + uptoBulk d + 1
  | (_, d) => uptoBulk d + 1
 end
def uptoSmall : (H : Type) → List (DataW H) → Bool := fun _ ds => decide (uptoBulkAll ds ≤ 1048576)
def OpenSpec.upto (s : _root_.Go.ChangeSpec) : _root_.Go.OpenSpec := { _root_.Go.OpenSpec.ofChange s with cond := some uptoSmall }

/-- 'chargeparklaw32.TariffMatchesReference', WHERE WHAT IT READS IS OF BULK AT MOST 1048576: true; the input reads as it did. -/
def tariffMatchesReferenceUptoRow : OpenClaim := { program := "ytkgamjjfjekgnaagreat", sum := "ef8ec376cd24a28e71934c20e5336b02f9ff4a7535f3cfee87728d6bf51a87f4", func := "chargepark/chargeparklaw32.TariffMatchesReference", spec := "tariffMatchesReference", unfollowed := true, recurses := true, loops := true, apart := false, narrowed := true }
def TariffMatchesReferenceUptoSaid : Prop := tariffMatchesReferenceUptoRow.holds Tryz.pinned (OpenSpec.upto tariffMatchesReferenceSpec)

/-- 'chargeparklaw32.TariffBuilt', WHERE WHAT IT READS IS OF BULK AT MOST 1048576: true; the input reads as it did. -/
def tariffBuiltUptoRow : OpenClaim := { program := "ytkgamjjfjekgnaagreat", sum := "ef8ec376cd24a28e71934c20e5336b02f9ff4a7535f3cfee87728d6bf51a87f4", func := "chargepark/chargeparklaw32.TariffBuilt", spec := "tariffBuilt", unfollowed := true, recurses := true, loops := true, apart := false, narrowed := true }
def TariffBuiltUptoSaid : Prop := tariffBuiltUptoRow.holds Tryz.pinned (OpenSpec.upto tariffBuiltSpec)

/-- 'chargeparklaw32.TariffTexts', WHERE WHAT IT READS IS OF BULK AT MOST 1048576: true; the input reads as it did. -/
def tariffTextsUptoRow : OpenClaim := { program := "ytkgamjjfjekgnaagreat", sum := "ef8ec376cd24a28e71934c20e5336b02f9ff4a7535f3cfee87728d6bf51a87f4", func := "chargepark/chargeparklaw32.TariffTexts", spec := "tariffTexts", unfollowed := true, recurses := true, apart := false, narrowed := true }
def TariffTextsUptoSaid : Prop := tariffTextsUptoRow.holds Tryz.pinned (OpenSpec.upto tariffTextsSpec)

/-- 'chargeparklaw32.TariffErrors', WHERE WHAT IT READS IS OF BULK AT MOST 1048576: true; the input reads as it did. -/
def tariffErrorsUptoRow : OpenClaim := { program := "ytkgamjjfjekgnaagreat", sum := "ef8ec376cd24a28e71934c20e5336b02f9ff4a7535f3cfee87728d6bf51a87f4", func := "chargepark/chargeparklaw32.TariffErrors", spec := "tariffErrors", unfollowed := true, recurses := true, loops := true, apart := false, narrowed := true }
def TariffErrorsUptoSaid : Prop := tariffErrorsUptoRow.holds Tryz.pinned (OpenSpec.upto tariffErrorsSpec)

end Rows
end Go.Proofs.YtkgamjjfjekgnaaGreat
