/-
  DERIVED. GIVEN WITH THE SEED: THE CARDS: each row of YthplnakbbehpiaaDoorRows.lean that lists a variable, with what it lists TIED to the program's text (the seventh form; the later family's looks); each row that meets fmt, with fmt's text TOLD by the authors' own Lean function (tested against real Go, not proved from fmt's source: count such statements apart). THE CARD IS WHAT COUNTS. Prove the row's statement (the work); the ties are given (YthplnakbbehpiaaDoorTie.lean); close each card by the builder's one call (the guide's Derived/Test/ToyasCard.lean, 'card_holds'). Laid BY PROGRAM, IN A SANDBOX (cutbox-door.mjs). By AI agents, Wed Nov 11 2026. No macro, syntax, notation, axiom, sorry.
-/
import Derived.Test.YthplnakbbehpiaaDoorRows
import GoSem.ClaimSeven
namespace Go.Proofs.YthplnakbbehpiaaDoor
namespace Rows

/-- THE TIED CARD OF 'chargeparklaw03.PrinterCanonical'. -/
def printerCanonicalCard : Claim7 := { stood := { row := printerCanonicalRow, standIns := [], harness := (true, "467168d1aad9b6cfc4cf7fa1648faa52ba5a33c650d0ba274e3938ea2c38413a"), looks := true }, kinds := [], alts := [], laidByText := true, laidKinds := [.data, .data, .data, .data], laidTests := true, laidLooks := .later }
def PrinterCanonicalCardSaid : Prop := Claim7.holds Tryd.pinned (.plain (OpenSpec.ofChange printerCanonicalSpec)) printerCanonicalCard

/-- THE TIED CARD OF 'chargeparklaw03.PrinterDiffers'. -/
def printerDiffersCard : Claim7 := { stood := { row := printerDiffersRow, standIns := [], harness := (true, "467168d1aad9b6cfc4cf7fa1648faa52ba5a33c650d0ba274e3938ea2c38413a"), looks := true }, kinds := [], alts := [], laidByText := true, laidKinds := [.data, .data, .data, .data], laidTests := true, laidLooks := .later }
def PrinterDiffersCardSaid : Prop := Claim7.holds Tryd.pinned (.plain (OpenSpec.ofChange printerDiffersSpec)) printerDiffersCard

/-- THE SECOND FORM's CARD OF 'chargeparklaw03.PrinterCanonical'. -/
def printerCanonicalUptoCard : Claim7 := { stood := { row := printerCanonicalUptoRow, standIns := [], harness := (true, "467168d1aad9b6cfc4cf7fa1648faa52ba5a33c650d0ba274e3938ea2c38413a"), looks := true }, kinds := [], alts := [], laidByText := true, laidKinds := [.data, .data, .data, .data], laidTests := true, laidLooks := .later }
def PrinterCanonicalUptoCardSaid : Prop := Claim7.holds Tryd.pinned (.plain (OpenSpec.upto printerCanonicalSpec)) printerCanonicalUptoCard

/-- THE SECOND FORM's CARD OF 'chargeparklaw03.PrinterDiffers'. -/
def printerDiffersUptoCard : Claim7 := { stood := { row := printerDiffersUptoRow, standIns := [], harness := (true, "467168d1aad9b6cfc4cf7fa1648faa52ba5a33c650d0ba274e3938ea2c38413a"), looks := true }, kinds := [], alts := [], laidByText := true, laidKinds := [.data, .data, .data, .data], laidTests := true, laidLooks := .later }
def PrinterDiffersUptoCardSaid : Prop := Claim7.holds Tryd.pinned (.plain (OpenSpec.upto printerDiffersSpec)) printerDiffersUptoCard
end Rows
end Go.Proofs.YthplnakbbehpiaaDoor
