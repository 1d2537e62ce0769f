/-
  DERIVED. GIVEN WITH THE SEED: THE CARDS: each row of YtniaojaeacgpoaaDoorRows.lean that lists a variable, with what it lists TIED to the program's text (the seventh form; the later family's looks); each row that meets fmt, with fmt's text TOLD by the authors' own Lean function (tested against real Go, not proved from fmt's source: count such statements apart). THE CARD IS WHAT COUNTS. Prove the row's statement (the work); the ties are given (YtniaojaeacgpoaaDoorTie.lean); close each card by the builder's one call (the guide's Derived/Test/ToyasCard.lean, 'card_holds'). Laid BY PROGRAM, IN A SANDBOX (cutbox-door.mjs). By AI agents, Wed Nov 11 2026. No macro, syntax, notation, axiom, sorry.
-/
import Derived.Test.YtniaojaeacgpoaaDoorRows
import GoSem.ClaimSeven
namespace Go.Proofs.YtniaojaeacgpoaaDoor
namespace Rows

/-- THE TIED CARD OF 'chargeparklaw02.ParserTrees'. -/
def parserTreesCard : Claim7 := { stood := { row := parserTreesRow, standIns := [], harness := (true, "ff2cb692223487a39003cc858dff74ab49d6771f2ed06d23d89a44b0ab4dff66"), looks := true }, kinds := [], alts := [], laidByText := true, laidKinds := [.data, .data, .data], laidTests := true, laidLooks := .later }
def ParserTreesCardSaid : Prop := Claim7.holds Tryd.pinned (.plain (OpenSpec.ofChange parserTreesSpec)) parserTreesCard

/-- THE TIED CARD OF 'chargeparklaw02.ParserGaps'. -/
def parserGapsCard : Claim7 := { stood := { row := parserGapsRow, standIns := [], harness := (true, "ff2cb692223487a39003cc858dff74ab49d6771f2ed06d23d89a44b0ab4dff66"), looks := true }, kinds := [], alts := [], laidByText := true, laidKinds := [.data, .data, .data], laidTests := true, laidLooks := .later }
def ParserGapsCardSaid : Prop := Claim7.holds Tryd.pinned (.plain (OpenSpec.ofChange parserGapsSpec)) parserGapsCard

/-- THE TIED CARD OF 'chargeparklaw02.ParserTexts'. -/
def parserTextsCard : Claim7 := { stood := { row := parserTextsRow, standIns := [], harness := (true, "ff2cb692223487a39003cc858dff74ab49d6771f2ed06d23d89a44b0ab4dff66"), looks := true }, kinds := [], alts := [], laidByText := true, laidKinds := [.data, .data, .data], laidTests := true, laidLooks := .later }
def ParserTextsCardSaid : Prop := Claim7.holds Tryd.pinned (.plain (OpenSpec.ofChange parserTextsSpec)) parserTextsCard

/-- THE TIED CARD OF 'chargeparklaw02.ParserBeginnings'. -/
def parserBeginningsCard : Claim7 := { stood := { row := parserBeginningsRow, standIns := [], harness := (true, "ff2cb692223487a39003cc858dff74ab49d6771f2ed06d23d89a44b0ab4dff66"), looks := true }, kinds := [], alts := [], laidByText := true, laidKinds := [.data, .data, .data], laidTests := true, laidLooks := .later }
def ParserBeginningsCardSaid : Prop := Claim7.holds Tryd.pinned (.plain (OpenSpec.ofChange parserBeginningsSpec)) parserBeginningsCard

/-- THE SECOND FORM's CARD OF 'chargeparklaw02.ParserTrees'. -/
def parserTreesUptoCard : Claim7 := { stood := { row := parserTreesUptoRow, standIns := [], harness := (true, "ff2cb692223487a39003cc858dff74ab49d6771f2ed06d23d89a44b0ab4dff66"), looks := true }, kinds := [], alts := [], laidByText := true, laidKinds := [.data, .data, .data], laidTests := true, laidLooks := .later }
def ParserTreesUptoCardSaid : Prop := Claim7.holds Tryd.pinned (.plain (OpenSpec.upto parserTreesSpec)) parserTreesUptoCard

/-- THE SECOND FORM's CARD OF 'chargeparklaw02.ParserGaps'. -/
def parserGapsUptoCard : Claim7 := { stood := { row := parserGapsUptoRow, standIns := [], harness := (true, "ff2cb692223487a39003cc858dff74ab49d6771f2ed06d23d89a44b0ab4dff66"), looks := true }, kinds := [], alts := [], laidByText := true, laidKinds := [.data, .data, .data], laidTests := true, laidLooks := .later }
def ParserGapsUptoCardSaid : Prop := Claim7.holds Tryd.pinned (.plain (OpenSpec.upto parserGapsSpec)) parserGapsUptoCard

/-- THE SECOND FORM's CARD OF 'chargeparklaw02.ParserTexts'. -/
def parserTextsUptoCard : Claim7 := { stood := { row := parserTextsUptoRow, standIns := [], harness := (true, "ff2cb692223487a39003cc858dff74ab49d6771f2ed06d23d89a44b0ab4dff66"), looks := true }, kinds := [], alts := [], laidByText := true, laidKinds := [.data, .data, .data], laidTests := true, laidLooks := .later }
def ParserTextsUptoCardSaid : Prop := Claim7.holds Tryd.pinned (.plain (OpenSpec.upto parserTextsSpec)) parserTextsUptoCard

/-- THE SECOND FORM's CARD OF 'chargeparklaw02.ParserBeginnings'. -/
def parserBeginningsUptoCard : Claim7 := { stood := { row := parserBeginningsUptoRow, standIns := [], harness := (true, "ff2cb692223487a39003cc858dff74ab49d6771f2ed06d23d89a44b0ab4dff66"), looks := true }, kinds := [], alts := [], laidByText := true, laidKinds := [.data, .data, .data], laidTests := true, laidLooks := .later }
def ParserBeginningsUptoCardSaid : Prop := Claim7.holds Tryd.pinned (.plain (OpenSpec.upto parserBeginningsSpec)) parserBeginningsUptoCard
end Rows
end Go.Proofs.YtniaojaeacgpoaaDoor
