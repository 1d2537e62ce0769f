/-
  NARROWER THAN 'FOR EVERY INPUT', by the rows' own cells (each row's printed sentence says how): ParserMatchesReference: loops.
  DERIVED. THE GIVEN ROWS OF THIS SEAT. 4 by the template 'for every input the law returns true; each argument reads behind the call as it read before'; 0 by the template 'total and deterministic' (their statements: YtniaojaeacgpoaaTotals.lean).
  GIVEN WITH THE SEED: the statements are not yours to turn. If you find one false, say at which input.
  Laid BY PROGRAM, IN A SANDBOX (cutbox-rows.mjs): the forced cells as the released guide's own fill.sh prints them over the translation 33429b6d24eef4be… (all of the seat's roots in one cut). By AI agents, Wed Nov 11 2026. No macro, syntax, notation, axiom, sorry.
-/
import Derived.Test.YtniaojaeacgpoaaChecked
import GoSem.Claim
import GoSem.ClaimJoined
import GoSem.ClaimMapViews
import Derived.JoinedTies
import Derived.KernelRfl
namespace Go.Proofs.Ytniaojaeacgpoaa
/- THE CELL 'sum', in the pinned program and in every row, IS THE sha256 OF THE DUMP (.gsa) THAT YtniaojaeacgpoaaProg.lean LOADS. Nothing in Lean hashes anything: it is a label: what it is worth is what the hold of that sum in a sandbox is worth. -/
noncomputable def Try.pinned : Pinned := { name := "ytniaojaeacgpoaa", sum := "33429b6d24eef4befb224a68af11cd315aace40be9ab64efd518269728b0ede0", checked := Try.checked }
namespace Rows
def none {H : Type} : Left H := { results := [], args := [] }

/-- 'chargeparklaw02.ParserMatchesReference': WHATEVER THE INPUT: true; the input reads as it did. -/
def parserMatchesReferenceSpec : ChangeSpec := { name := "parserMatchesReference", fn := fun _ => fun
  | [d1, d2] => { results := [.lit (.bool true)], args := [d1, d2] }
  | _ => none }
def parserMatchesReferenceRow : OpenClaim := { program := "ytniaojaeacgpoaa", sum := "33429b6d24eef4befb224a68af11cd315aace40be9ab64efd518269728b0ede0", func := "chargepark/chargeparklaw02.ParserMatchesReference", spec := "parserMatchesReference", unfollowed := true, recurses := true, loops := true, plainKeys := false, apart := false }
def ParserMatchesReferenceSaid : Prop := parserMatchesReferenceRow.holds Try.pinned (OpenSpec.ofChange parserMatchesReferenceSpec)

/-- ITS FALSE NEIGHBOUR: 'it returns false'. Refute it at one input. -/
def parserMatchesReferenceWrong : ChangeSpec := { name := "parserMatchesReference", fn := fun _ => fun
  | [d1, d2] => { results := [.lit (.bool false)], args := [d1, d2] }
  | _ => none }
def ParserMatchesReferenceWrongFalsely : Prop := parserMatchesReferenceRow.holds Try.pinned (OpenSpec.ofChange parserMatchesReferenceWrong)

/-- 'chargeparklaw02.ParserJoining': WHATEVER THE INPUT: true; the input reads as it did. -/
def parserJoiningSpec : ChangeSpec := { name := "parserJoining", fn := fun _ => fun
  | [d1, d2] => { results := [.lit (.bool true)], args := [d1, d2] }
  | _ => none }
def parserJoiningRow : OpenClaim := { program := "ytniaojaeacgpoaa", sum := "33429b6d24eef4befb224a68af11cd315aace40be9ab64efd518269728b0ede0", func := "chargepark/chargeparklaw02.ParserJoining", spec := "parserJoining", unfollowed := true, recurses := true, plainKeys := false, apart := false }
def ParserJoiningSaid : Prop := parserJoiningRow.holds Try.pinned (OpenSpec.ofChange parserJoiningSpec)

/-- ITS FALSE NEIGHBOUR: 'it returns false'. Refute it at one input. -/
def parserJoiningWrong : ChangeSpec := { name := "parserJoining", fn := fun _ => fun
  | [d1, d2] => { results := [.lit (.bool false)], args := [d1, d2] }
  | _ => none }
def ParserJoiningWrongFalsely : Prop := parserJoiningRow.holds Try.pinned (OpenSpec.ofChange parserJoiningWrong)

/-- 'chargeparklaw02.ParserErrors': WHATEVER THE INPUT: true; the input reads as it did. -/
def parserErrorsSpec : ChangeSpec := { name := "parserErrors", fn := fun _ => fun
  | [d1, d2, d3] => { results := [.lit (.bool true)], args := [d1, d2, d3] }
  | _ => none }
def parserErrorsRow : OpenClaim := { program := "ytniaojaeacgpoaa", sum := "33429b6d24eef4befb224a68af11cd315aace40be9ab64efd518269728b0ede0", func := "chargepark/chargeparklaw02.ParserErrors", spec := "parserErrors", unfollowed := true, recurses := true, plainKeys := false, apart := false }
def ParserErrorsSaid : Prop := parserErrorsRow.holds Try.pinned (OpenSpec.ofChange parserErrorsSpec)

/-- ITS FALSE NEIGHBOUR: 'it returns false'. Refute it at one input. -/
def parserErrorsWrong : ChangeSpec := { name := "parserErrors", fn := fun _ => fun
  | [d1, d2, d3] => { results := [.lit (.bool false)], args := [d1, d2, d3] }
  | _ => none }
def ParserErrorsWrongFalsely : Prop := parserErrorsRow.holds Try.pinned (OpenSpec.ofChange parserErrorsWrong)

/-- 'chargeparklaw02.ParserArticles': WHATEVER THE INPUT: true; the input reads as it did. -/
def parserArticlesSpec : ChangeSpec := { name := "parserArticles", fn := fun _ => fun
  | [d1, d2, d3] => { results := [.lit (.bool true)], args := [d1, d2, d3] }
  | _ => none }
def parserArticlesRow : OpenClaim := { program := "ytniaojaeacgpoaa", sum := "33429b6d24eef4befb224a68af11cd315aace40be9ab64efd518269728b0ede0", func := "chargepark/chargeparklaw02.ParserArticles", spec := "parserArticles", unfollowed := true, recurses := true, plainKeys := false, apart := false }
def ParserArticlesSaid : Prop := parserArticlesRow.holds Try.pinned (OpenSpec.ofChange parserArticlesSpec)

/-- ITS FALSE NEIGHBOUR: 'it returns false'. Refute it at one input. -/
def parserArticlesWrong : ChangeSpec := { name := "parserArticles", fn := fun _ => fun
  | [d1, d2, d3] => { results := [.lit (.bool false)], args := [d1, d2, d3] }
  | _ => none }
def ParserArticlesWrongFalsely : Prop := parserArticlesRow.holds Try.pinned (OpenSpec.ofChange parserArticlesWrong)

/- THE SECOND FORM. 'bulk': how many values and letters a reading holds, each counted each time it is reached (what is shared counts as often as it is met; a slice's spare places count too). A statement '..UptoSaid' is the law's where the arguments, and the package variables that the reading takes, are together of bulk at most 1048576: NARROWER than '..Said'. Prove '..Said' where nothing that the law and all that it calls make is longer than what came in: it says more and counts as full. Else prove '..UptoSaid'. A law counts once. -/
mutual
def uptoBulk {H : Type} : DataW H → Nat
  | .lit (.string bytes) => bytes.length + 1
  | .lit _ => 1
  | .nil => 1
  | .ptr d => uptoBulk d + 1
  | .slice elems spare => uptoBulkAll elems + uptoBulkAll spare + 1
  | .agg parts => uptoBulkAll parts + 1
  | .iface _ d => uptoBulk d + 1
  | .map entries => uptoBulkEntries entries + 1
  | .held _ => 1
def uptoBulkAll {H : Type} : List (DataW H) → Nat
  | [] => 0
  | d :: r => uptoBulk d + uptoBulkAll r
def uptoBulkEntries {H : Type} : List (Lit × DataW H) → Nat
  | [] => 0
  | x :: r => uptoBulkEntry x + uptoBulkEntries r
def uptoBulkEntry {H : Type} : Lit × DataW H → Nat
  | (.string bytes, d) => bytes.length + uptoBulk d + 1
  | (_, d) => uptoBulk d + 1
 end
def uptoSmall : (H : Type) → List (DataW H) → Bool := fun _ ds => decide (uptoBulkAll ds ≤ 1048576)
def OpenSpec.upto (s : _root_.Go.ChangeSpec) : _root_.Go.OpenSpec := { _root_.Go.OpenSpec.ofChange s with cond := some uptoSmall }

/-- 'chargeparklaw02.ParserMatchesReference', WHERE WHAT IT READS IS OF BULK AT MOST 1048576: true; the input reads as it did. -/
def parserMatchesReferenceUptoRow : OpenClaim := { program := "ytniaojaeacgpoaa", sum := "33429b6d24eef4befb224a68af11cd315aace40be9ab64efd518269728b0ede0", func := "chargepark/chargeparklaw02.ParserMatchesReference", spec := "parserMatchesReference", unfollowed := true, recurses := true, loops := true, plainKeys := false, apart := false, narrowed := true }
def ParserMatchesReferenceUptoSaid : Prop := parserMatchesReferenceUptoRow.holds Try.pinned (OpenSpec.upto parserMatchesReferenceSpec)

/-- 'chargeparklaw02.ParserJoining', WHERE WHAT IT READS IS OF BULK AT MOST 1048576: true; the input reads as it did. -/
def parserJoiningUptoRow : OpenClaim := { program := "ytniaojaeacgpoaa", sum := "33429b6d24eef4befb224a68af11cd315aace40be9ab64efd518269728b0ede0", func := "chargepark/chargeparklaw02.ParserJoining", spec := "parserJoining", unfollowed := true, recurses := true, plainKeys := false, apart := false, narrowed := true }
def ParserJoiningUptoSaid : Prop := parserJoiningUptoRow.holds Try.pinned (OpenSpec.upto parserJoiningSpec)

/-- 'chargeparklaw02.ParserErrors', WHERE WHAT IT READS IS OF BULK AT MOST 1048576: true; the input reads as it did. -/
def parserErrorsUptoRow : OpenClaim := { program := "ytniaojaeacgpoaa", sum := "33429b6d24eef4befb224a68af11cd315aace40be9ab64efd518269728b0ede0", func := "chargepark/chargeparklaw02.ParserErrors", spec := "parserErrors", unfollowed := true, recurses := true, plainKeys := false, apart := false, narrowed := true }
def ParserErrorsUptoSaid : Prop := parserErrorsUptoRow.holds Try.pinned (OpenSpec.upto parserErrorsSpec)

/-- 'chargeparklaw02.ParserArticles', WHERE WHAT IT READS IS OF BULK AT MOST 1048576: true; the input reads as it did. -/
def parserArticlesUptoRow : OpenClaim := { program := "ytniaojaeacgpoaa", sum := "33429b6d24eef4befb224a68af11cd315aace40be9ab64efd518269728b0ede0", func := "chargepark/chargeparklaw02.ParserArticles", spec := "parserArticles", unfollowed := true, recurses := true, plainKeys := false, apart := false, narrowed := true }
def ParserArticlesUptoSaid : Prop := parserArticlesUptoRow.holds Try.pinned (OpenSpec.upto parserArticlesSpec)

end Rows
end Go.Proofs.Ytniaojaeacgpoaa
