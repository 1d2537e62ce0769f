/-
  No cell of these rows narrows 'for every input' (looked for: loops, veiled, ifaces, maps, wideKeys, modest, calm, conditions, laid).
  DERIVED. THE GIVEN ROWS OF THIS SEAT. 8 by the template 'for every input the law returns true; each argument reads behind the call as it read before'; 0 by the template 'total and deterministic' (their statements: YtehocmildcedeaaTotals.lean).
  GIVEN WITH THE SEED: the statements are not yours to turn. If you find one false, say at which input.
  Laid BY PROGRAM, IN A SANDBOX (cutbox-rows.mjs): the forced cells as the released guide's own fill.sh prints them over the translation 85f5f90e39b69709… (all of the seat's roots in one cut). By AI agents, Wed Nov 11 2026. No macro, syntax, notation, axiom, sorry.
-/
import Derived.Test.YtehocmildcedeaaChecked
import GoSem.Claim
import GoSem.ClaimJoined
import GoSem.ClaimMapViews
import Derived.JoinedTies
import Derived.KernelRfl
namespace Go.Proofs.Ytehocmildcedeaa
/- THE CELL 'sum', in the pinned program and in every row, IS THE sha256 OF THE DUMP (.gsa) THAT YtehocmildcedeaaProg.lean LOADS. Nothing in Lean hashes anything: it is a label: what it is worth is what the hold of that sum in a sandbox is worth. -/
noncomputable def Try.pinned : Pinned := { name := "ytehocmildcedeaa", sum := "85f5f90e39b697097210bd3d3a3c5d452f22de949d8d4baa3fac3875a44a06d0", checked := Try.checked }
namespace Rows
def none {H : Type} : Left H := { results := [], args := [] }

/-- 'chargeparklaw35.QuoteMatchesReference': WHATEVER THE INPUT: true; the input reads as it did. -/
def quoteMatchesReferenceSpec : ChangeSpec := { name := "quoteMatchesReference", fn := fun _ => fun
  | [d1, d2, d3, d4, d5, d6] => { results := [.lit (.bool true)], args := [d1, d2, d3, d4, d5, d6] }
  | _ => none }
def quoteMatchesReferenceRow : OpenClaim := { program := "ytehocmildcedeaa", sum := "85f5f90e39b697097210bd3d3a3c5d452f22de949d8d4baa3fac3875a44a06d0", func := "chargepark/chargeparklaw35.QuoteMatchesReference", spec := "quoteMatchesReference", unfollowed := true, recurses := true, apart := false }
def QuoteMatchesReferenceSaid : Prop := quoteMatchesReferenceRow.holds Try.pinned (OpenSpec.ofChange quoteMatchesReferenceSpec)

/-- ITS FALSE NEIGHBOUR: 'it returns false'. Refute it at one input. -/
def quoteMatchesReferenceWrong : ChangeSpec := { name := "quoteMatchesReference", fn := fun _ => fun
  | [d1, d2, d3, d4, d5, d6] => { results := [.lit (.bool false)], args := [d1, d2, d3, d4, d5, d6] }
  | _ => none }
def QuoteMatchesReferenceWrongFalsely : Prop := quoteMatchesReferenceRow.holds Try.pinned (OpenSpec.ofChange quoteMatchesReferenceWrong)

/-- 'chargeparklaw35.QuoteWider': WHATEVER THE INPUT: true; the input reads as it did. -/
def quoteWiderSpec : ChangeSpec := { name := "quoteWider", fn := fun _ => fun
  | [d1, d2, d3, d4, d5, d6, d7, d8] => { results := [.lit (.bool true)], args := [d1, d2, d3, d4, d5, d6, d7, d8] }
  | _ => none }
def quoteWiderRow : OpenClaim := { program := "ytehocmildcedeaa", sum := "85f5f90e39b697097210bd3d3a3c5d452f22de949d8d4baa3fac3875a44a06d0", func := "chargepark/chargeparklaw35.QuoteWider", spec := "quoteWider", unfollowed := true, recurses := true, apart := false }
def QuoteWiderSaid : Prop := quoteWiderRow.holds Try.pinned (OpenSpec.ofChange quoteWiderSpec)

/-- ITS FALSE NEIGHBOUR: 'it returns false'. Refute it at one input. -/
def quoteWiderWrong : ChangeSpec := { name := "quoteWider", fn := fun _ => fun
  | [d1, d2, d3, d4, d5, d6, d7, d8] => { results := [.lit (.bool false)], args := [d1, d2, d3, d4, d5, d6, d7, d8] }
  | _ => none }
def QuoteWiderWrongFalsely : Prop := quoteWiderRow.holds Try.pinned (OpenSpec.ofChange quoteWiderWrong)

/-- 'chargeparklaw35.QuoteCaps': WHATEVER THE INPUT: true; the input reads as it did. -/
def quoteCapsSpec : ChangeSpec := { name := "quoteCaps", fn := fun _ => fun
  | [d1, d2, d3, d4, d5, d6] => { results := [.lit (.bool true)], args := [d1, d2, d3, d4, d5, d6] }
  | _ => none }
def quoteCapsRow : OpenClaim := { program := "ytehocmildcedeaa", sum := "85f5f90e39b697097210bd3d3a3c5d452f22de949d8d4baa3fac3875a44a06d0", func := "chargepark/chargeparklaw35.QuoteCaps", spec := "quoteCaps", unfollowed := true, recurses := true, apart := false }
def QuoteCapsSaid : Prop := quoteCapsRow.holds Try.pinned (OpenSpec.ofChange quoteCapsSpec)

/-- ITS FALSE NEIGHBOUR: 'it returns false'. Refute it at one input. -/
def quoteCapsWrong : ChangeSpec := { name := "quoteCaps", fn := fun _ => fun
  | [d1, d2, d3, d4, d5, d6] => { results := [.lit (.bool false)], args := [d1, d2, d3, d4, d5, d6] }
  | _ => none }
def QuoteCapsWrongFalsely : Prop := quoteCapsRow.holds Try.pinned (OpenSpec.ofChange quoteCapsWrong)

/-- 'chargeparklaw35.QuoteCovers': WHATEVER THE INPUT: true; the input reads as it did. -/
def quoteCoversSpec : ChangeSpec := { name := "quoteCovers", fn := fun _ => fun
  | [d1, d2, d3, d4, d5, d6, d7] => { results := [.lit (.bool true)], args := [d1, d2, d3, d4, d5, d6, d7] }
  | _ => none }
def quoteCoversRow : OpenClaim := { program := "ytehocmildcedeaa", sum := "85f5f90e39b697097210bd3d3a3c5d452f22de949d8d4baa3fac3875a44a06d0", func := "chargepark/chargeparklaw35.QuoteCovers", spec := "quoteCovers", unfollowed := true, recurses := true, apart := false }
def QuoteCoversSaid : Prop := quoteCoversRow.holds Try.pinned (OpenSpec.ofChange quoteCoversSpec)

/-- ITS FALSE NEIGHBOUR: 'it returns false'. Refute it at one input. -/
def quoteCoversWrong : ChangeSpec := { name := "quoteCovers", fn := fun _ => fun
  | [d1, d2, d3, d4, d5, d6, d7] => { results := [.lit (.bool false)], args := [d1, d2, d3, d4, d5, d6, d7] }
  | _ => none }
def QuoteCoversWrongFalsely : Prop := quoteCoversRow.holds Try.pinned (OpenSpec.ofChange quoteCoversWrong)

/-- 'chargeparklaw35.QuoteArticles': WHATEVER THE INPUT: true; the input reads as it did. -/
def quoteArticlesSpec : ChangeSpec := { name := "quoteArticles", fn := fun _ => fun
  | [d1, d2, d3, d4, d5, d6] => { results := [.lit (.bool true)], args := [d1, d2, d3, d4, d5, d6] }
  | _ => none }
def quoteArticlesRow : OpenClaim := { program := "ytehocmildcedeaa", sum := "85f5f90e39b697097210bd3d3a3c5d452f22de949d8d4baa3fac3875a44a06d0", func := "chargepark/chargeparklaw35.QuoteArticles", spec := "quoteArticles", unfollowed := true, recurses := true, apart := false }
def QuoteArticlesSaid : Prop := quoteArticlesRow.holds Try.pinned (OpenSpec.ofChange quoteArticlesSpec)

/-- ITS FALSE NEIGHBOUR: 'it returns false'. Refute it at one input. -/
def quoteArticlesWrong : ChangeSpec := { name := "quoteArticles", fn := fun _ => fun
  | [d1, d2, d3, d4, d5, d6] => { results := [.lit (.bool false)], args := [d1, d2, d3, d4, d5, d6] }
  | _ => none }
def QuoteArticlesWrongFalsely : Prop := quoteArticlesRow.holds Try.pinned (OpenSpec.ofChange quoteArticlesWrong)

/-- 'chargeparklaw35.QuoteBounds': WHATEVER THE INPUT: true; the input reads as it did. -/
def quoteBoundsSpec : ChangeSpec := { name := "quoteBounds", fn := fun _ => fun
  | [d1, d2, d3, d4, d5, d6] => { results := [.lit (.bool true)], args := [d1, d2, d3, d4, d5, d6] }
  | _ => none }
def quoteBoundsRow : OpenClaim := { program := "ytehocmildcedeaa", sum := "85f5f90e39b697097210bd3d3a3c5d452f22de949d8d4baa3fac3875a44a06d0", func := "chargepark/chargeparklaw35.QuoteBounds", spec := "quoteBounds", unfollowed := true, recurses := true, apart := false }
def QuoteBoundsSaid : Prop := quoteBoundsRow.holds Try.pinned (OpenSpec.ofChange quoteBoundsSpec)

/-- ITS FALSE NEIGHBOUR: 'it returns false'. Refute it at one input. -/
def quoteBoundsWrong : ChangeSpec := { name := "quoteBounds", fn := fun _ => fun
  | [d1, d2, d3, d4, d5, d6] => { results := [.lit (.bool false)], args := [d1, d2, d3, d4, d5, d6] }
  | _ => none }
def QuoteBoundsWrongFalsely : Prop := quoteBoundsRow.holds Try.pinned (OpenSpec.ofChange quoteBoundsWrong)

/-- 'chargeparklaw35.QuoteReached': WHATEVER THE INPUT: true; the input reads as it did. -/
def quoteReachedSpec : ChangeSpec := { name := "quoteReached", fn := fun _ => fun
  | [d1, d2, d3, d4, d5] => { results := [.lit (.bool true)], args := [d1, d2, d3, d4, d5] }
  | _ => none }
def quoteReachedRow : OpenClaim := { program := "ytehocmildcedeaa", sum := "85f5f90e39b697097210bd3d3a3c5d452f22de949d8d4baa3fac3875a44a06d0", func := "chargepark/chargeparklaw35.QuoteReached", spec := "quoteReached", unfollowed := true, recurses := true, apart := false }
def QuoteReachedSaid : Prop := quoteReachedRow.holds Try.pinned (OpenSpec.ofChange quoteReachedSpec)

/-- ITS FALSE NEIGHBOUR: 'it returns false'. Refute it at one input. -/
def quoteReachedWrong : ChangeSpec := { name := "quoteReached", fn := fun _ => fun
  | [d1, d2, d3, d4, d5] => { results := [.lit (.bool false)], args := [d1, d2, d3, d4, d5] }
  | _ => none }
def QuoteReachedWrongFalsely : Prop := quoteReachedRow.holds Try.pinned (OpenSpec.ofChange quoteReachedWrong)

/-- 'chargeparklaw35.QuoteMinute': WHATEVER THE INPUT: true; the input reads as it did. -/
def quoteMinuteSpec : ChangeSpec := { name := "quoteMinute", fn := fun _ => fun
  | [d1, d2, d3, d4] => { results := [.lit (.bool true)], args := [d1, d2, d3, d4] }
  | _ => none }
def quoteMinuteRow : OpenClaim := { program := "ytehocmildcedeaa", sum := "85f5f90e39b697097210bd3d3a3c5d452f22de949d8d4baa3fac3875a44a06d0", func := "chargepark/chargeparklaw35.QuoteMinute", spec := "quoteMinute", unfollowed := true, recurses := true, apart := false }
def QuoteMinuteSaid : Prop := quoteMinuteRow.holds Try.pinned (OpenSpec.ofChange quoteMinuteSpec)

/-- ITS FALSE NEIGHBOUR: 'it returns false'. Refute it at one input. -/
def quoteMinuteWrong : ChangeSpec := { name := "quoteMinute", fn := fun _ => fun
  | [d1, d2, d3, d4] => { results := [.lit (.bool false)], args := [d1, d2, d3, d4] }
  | _ => none }
def QuoteMinuteWrongFalsely : Prop := quoteMinuteRow.holds Try.pinned (OpenSpec.ofChange quoteMinuteWrong)

/- THE SECOND FORM. 'bulk': how many values and letters a reading holds, each counted each time it is reached (what is shared counts as often as it is met; a slice's spare places count too). A statement '..UptoSaid' is the law's where the arguments, and the package variables that the reading takes, are together of bulk at most 1048576: NARROWER than '..Said'. Prove '..Said' where nothing that the law and all that it calls make is longer than what came in: it says more and counts as full. Else prove '..UptoSaid'. A law counts once. -/
mutual
def uptoBulk {H : Type} : DataW H → Nat
  | .lit (.string bytes) => bytes.length + 1
  | .lit _ => 1
  | .nil => 1
  | .ptr d => uptoBulk d + 1
  | .slice elems spare => uptoBulkAll elems + uptoBulkAll spare + 1
  | .agg parts => uptoBulkAll parts + 1
  | .iface _ d => uptoBulk d + 1
  | .map entries => uptoBulkEntries entries + 1
  | .held _ => 1
def uptoBulkAll {H : Type} : List (DataW H) → Nat
  | [] => 0
  | d :: r => uptoBulk d + uptoBulkAll r
def uptoBulkEntries {H : Type} : List (Lit × DataW H) → Nat
  | [] => 0
  | x :: r => uptoBulkEntry x + uptoBulkEntries r
def uptoBulkEntry {H : Type} : Lit × DataW H → Nat
  | (.string bytes, d) => bytes.length + uptoBulk d + 1
  | (_, d) => uptoBulk d + 1
 end
def uptoSmall : (H : Type) → List (DataW H) → Bool := fun _ ds => decide (uptoBulkAll ds ≤ 1048576)
def OpenSpec.upto (s : _root_.Go.ChangeSpec) : _root_.Go.OpenSpec := { _root_.Go.OpenSpec.ofChange s with cond := some uptoSmall }

/-- 'chargeparklaw35.QuoteMatchesReference', WHERE WHAT IT READS IS OF BULK AT MOST 1048576: true; the input reads as it did. -/
def quoteMatchesReferenceUptoRow : OpenClaim := { program := "ytehocmildcedeaa", sum := "85f5f90e39b697097210bd3d3a3c5d452f22de949d8d4baa3fac3875a44a06d0", func := "chargepark/chargeparklaw35.QuoteMatchesReference", spec := "quoteMatchesReference", unfollowed := true, recurses := true, apart := false, narrowed := true }
def QuoteMatchesReferenceUptoSaid : Prop := quoteMatchesReferenceUptoRow.holds Try.pinned (OpenSpec.upto quoteMatchesReferenceSpec)

/-- 'chargeparklaw35.QuoteWider', WHERE WHAT IT READS IS OF BULK AT MOST 1048576: true; the input reads as it did. -/
def quoteWiderUptoRow : OpenClaim := { program := "ytehocmildcedeaa", sum := "85f5f90e39b697097210bd3d3a3c5d452f22de949d8d4baa3fac3875a44a06d0", func := "chargepark/chargeparklaw35.QuoteWider", spec := "quoteWider", unfollowed := true, recurses := true, apart := false, narrowed := true }
def QuoteWiderUptoSaid : Prop := quoteWiderUptoRow.holds Try.pinned (OpenSpec.upto quoteWiderSpec)

/-- 'chargeparklaw35.QuoteCaps', WHERE WHAT IT READS IS OF BULK AT MOST 1048576: true; the input reads as it did. -/
def quoteCapsUptoRow : OpenClaim := { program := "ytehocmildcedeaa", sum := "85f5f90e39b697097210bd3d3a3c5d452f22de949d8d4baa3fac3875a44a06d0", func := "chargepark/chargeparklaw35.QuoteCaps", spec := "quoteCaps", unfollowed := true, recurses := true, apart := false, narrowed := true }
def QuoteCapsUptoSaid : Prop := quoteCapsUptoRow.holds Try.pinned (OpenSpec.upto quoteCapsSpec)

/-- 'chargeparklaw35.QuoteCovers', WHERE WHAT IT READS IS OF BULK AT MOST 1048576: true; the input reads as it did. -/
def quoteCoversUptoRow : OpenClaim := { program := "ytehocmildcedeaa", sum := "85f5f90e39b697097210bd3d3a3c5d452f22de949d8d4baa3fac3875a44a06d0", func := "chargepark/chargeparklaw35.QuoteCovers", spec := "quoteCovers", unfollowed := true, recurses := true, apart := false, narrowed := true }
def QuoteCoversUptoSaid : Prop := quoteCoversUptoRow.holds Try.pinned (OpenSpec.upto quoteCoversSpec)

/-- 'chargeparklaw35.QuoteArticles', WHERE WHAT IT READS IS OF BULK AT MOST 1048576: true; the input reads as it did. -/
def quoteArticlesUptoRow : OpenClaim := { program := "ytehocmildcedeaa", sum := "85f5f90e39b697097210bd3d3a3c5d452f22de949d8d4baa3fac3875a44a06d0", func := "chargepark/chargeparklaw35.QuoteArticles", spec := "quoteArticles", unfollowed := true, recurses := true, apart := false, narrowed := true }
def QuoteArticlesUptoSaid : Prop := quoteArticlesUptoRow.holds Try.pinned (OpenSpec.upto quoteArticlesSpec)

/-- 'chargeparklaw35.QuoteBounds', WHERE WHAT IT READS IS OF BULK AT MOST 1048576: true; the input reads as it did. -/
def quoteBoundsUptoRow : OpenClaim := { program := "ytehocmildcedeaa", sum := "85f5f90e39b697097210bd3d3a3c5d452f22de949d8d4baa3fac3875a44a06d0", func := "chargepark/chargeparklaw35.QuoteBounds", spec := "quoteBounds", unfollowed := true, recurses := true, apart := false, narrowed := true }
def QuoteBoundsUptoSaid : Prop := quoteBoundsUptoRow.holds Try.pinned (OpenSpec.upto quoteBoundsSpec)

/-- 'chargeparklaw35.QuoteReached', WHERE WHAT IT READS IS OF BULK AT MOST 1048576: true; the input reads as it did. -/
def quoteReachedUptoRow : OpenClaim := { program := "ytehocmildcedeaa", sum := "85f5f90e39b697097210bd3d3a3c5d452f22de949d8d4baa3fac3875a44a06d0", func := "chargepark/chargeparklaw35.QuoteReached", spec := "quoteReached", unfollowed := true, recurses := true, apart := false, narrowed := true }
def QuoteReachedUptoSaid : Prop := quoteReachedUptoRow.holds Try.pinned (OpenSpec.upto quoteReachedSpec)

/-- 'chargeparklaw35.QuoteMinute', WHERE WHAT IT READS IS OF BULK AT MOST 1048576: true; the input reads as it did. -/
def quoteMinuteUptoRow : OpenClaim := { program := "ytehocmildcedeaa", sum := "85f5f90e39b697097210bd3d3a3c5d452f22de949d8d4baa3fac3875a44a06d0", func := "chargepark/chargeparklaw35.QuoteMinute", spec := "quoteMinute", unfollowed := true, recurses := true, apart := false, narrowed := true }
def QuoteMinuteUptoSaid : Prop := quoteMinuteUptoRow.holds Try.pinned (OpenSpec.upto quoteMinuteSpec)

end Rows
end Go.Proofs.Ytehocmildcedeaa
