/-
  DERIVED. GIVEN WITH THE SEED: THE CARDS: each row of YthplnakbbehpiaaGreatDoorRows.lean that lists a variable, with what it lists TIED to the program's text (the seventh form; the later family's looks); each row that meets fmt, with fmt's text TOLD by the authors' own Lean function (tested against real Go, not proved from fmt's source: count such statements apart). THE CARD IS WHAT COUNTS. Prove the row's statement (the work); the ties are given (YthplnakbbehpiaaGreatDoorTie.lean); close each card by the builder's one call (the guide's Derived/Test/ToyasCard.lean, 'card_holds'). Laid BY PROGRAM, IN A SANDBOX (cutbox-door.mjs). By AI agents, Wed Nov 11 2026. No macro, syntax, notation, axiom, sorry.
-/
import Derived.Test.YthplnakbbehpiaaGreatDoorRows
import GoSem.ClaimSeven
namespace Go.Proofs.YthplnakbbehpiaaGreatDoor
namespace Rows

/-- THE TIED CARD OF 'chargeparklaw03.PrinterMatchesReference'. -/
def printerMatchesReferenceCard : Claim7 := { stood := { row := printerMatchesReferenceRow, standIns := [], harness := (true, "2b429f4f362d97f7b9fdda6f859a5e5b4f2278363bfd280fc94e2743e3ecd435"), looks := true }, kinds := [], alts := [], laidByText := true, laidKinds := [.data, .data, .data, .data], laidTests := true, laidLooks := .later }
def PrinterMatchesReferenceCardSaid : Prop := Claim7.holds Tryz.pinned (.plain (OpenSpec.ofChange printerMatchesReferenceSpec)) printerMatchesReferenceCard

/-- THE TIED CARD OF 'chargeparklaw03.PrinterInverse'. -/
def printerInverseCard : Claim7 := { stood := { row := printerInverseRow, standIns := [], harness := (true, "2b429f4f362d97f7b9fdda6f859a5e5b4f2278363bfd280fc94e2743e3ecd435"), looks := true }, kinds := [], alts := [], laidByText := true, laidKinds := [.data, .data, .data, .data], laidTests := true, laidLooks := .later }
def PrinterInverseCardSaid : Prop := Claim7.holds Tryz.pinned (.plain (OpenSpec.ofChange printerInverseSpec)) printerInverseCard

/-- THE TIED CARD OF 'chargeparklaw03.PrinterJoins'. -/
def printerJoinsCard : Claim7 := { stood := { row := printerJoinsRow, standIns := [], harness := (true, "2b429f4f362d97f7b9fdda6f859a5e5b4f2278363bfd280fc94e2743e3ecd435"), looks := true }, kinds := [], alts := [], laidByText := true, laidKinds := [.data, .data, .data, .data], laidTests := true, laidLooks := .later }
def PrinterJoinsCardSaid : Prop := Claim7.holds Tryz.pinned (.plain (OpenSpec.ofChange printerJoinsSpec)) printerJoinsCard

/-- THE TIED CARD OF 'chargeparklaw03.PrinterArticles'. -/
def printerArticlesCard : Claim7 := { stood := { row := printerArticlesRow, standIns := [], harness := (true, "2b429f4f362d97f7b9fdda6f859a5e5b4f2278363bfd280fc94e2743e3ecd435"), looks := true }, kinds := [], alts := [], laidByText := true, laidKinds := [.data, .data, .data, .data], laidTests := true, laidLooks := .later }
def PrinterArticlesCardSaid : Prop := Claim7.holds Tryz.pinned (.plain (OpenSpec.ofChange printerArticlesSpec)) printerArticlesCard

/-- THE TIED CARD OF 'chargeparklaw03.PrinterLines'. -/
def printerLinesCard : Claim7 := { stood := { row := printerLinesRow, standIns := [], harness := (true, "2b429f4f362d97f7b9fdda6f859a5e5b4f2278363bfd280fc94e2743e3ecd435"), looks := true }, kinds := [], alts := [], laidByText := true, laidKinds := [.data, .data, .data, .data, .data, .pinned], laidTests := true, laidLooks := .later }
def PrinterLinesCardSaid : Prop := Claim7.holds Tryz.pinned (.plain (OpenSpec.ofChange printerLinesSpec)) printerLinesCard

/-- THE SECOND FORM's CARD OF 'chargeparklaw03.PrinterMatchesReference'. -/
def printerMatchesReferenceUptoCard : Claim7 := { stood := { row := printerMatchesReferenceUptoRow, standIns := [], harness := (true, "2b429f4f362d97f7b9fdda6f859a5e5b4f2278363bfd280fc94e2743e3ecd435"), looks := true }, kinds := [], alts := [], laidByText := true, laidKinds := [.data, .data, .data, .data], laidTests := true, laidLooks := .later }
def PrinterMatchesReferenceUptoCardSaid : Prop := Claim7.holds Tryz.pinned (.plain (OpenSpec.upto printerMatchesReferenceSpec)) printerMatchesReferenceUptoCard

/-- THE SECOND FORM's CARD OF 'chargeparklaw03.PrinterInverse'. -/
def printerInverseUptoCard : Claim7 := { stood := { row := printerInverseUptoRow, standIns := [], harness := (true, "2b429f4f362d97f7b9fdda6f859a5e5b4f2278363bfd280fc94e2743e3ecd435"), looks := true }, kinds := [], alts := [], laidByText := true, laidKinds := [.data, .data, .data, .data], laidTests := true, laidLooks := .later }
def PrinterInverseUptoCardSaid : Prop := Claim7.holds Tryz.pinned (.plain (OpenSpec.upto printerInverseSpec)) printerInverseUptoCard

/-- THE SECOND FORM's CARD OF 'chargeparklaw03.PrinterJoins'. -/
def printerJoinsUptoCard : Claim7 := { stood := { row := printerJoinsUptoRow, standIns := [], harness := (true, "2b429f4f362d97f7b9fdda6f859a5e5b4f2278363bfd280fc94e2743e3ecd435"), looks := true }, kinds := [], alts := [], laidByText := true, laidKinds := [.data, .data, .data, .data], laidTests := true, laidLooks := .later }
def PrinterJoinsUptoCardSaid : Prop := Claim7.holds Tryz.pinned (.plain (OpenSpec.upto printerJoinsSpec)) printerJoinsUptoCard

/-- THE SECOND FORM's CARD OF 'chargeparklaw03.PrinterArticles'. -/
def printerArticlesUptoCard : Claim7 := { stood := { row := printerArticlesUptoRow, standIns := [], harness := (true, "2b429f4f362d97f7b9fdda6f859a5e5b4f2278363bfd280fc94e2743e3ecd435"), looks := true }, kinds := [], alts := [], laidByText := true, laidKinds := [.data, .data, .data, .data], laidTests := true, laidLooks := .later }
def PrinterArticlesUptoCardSaid : Prop := Claim7.holds Tryz.pinned (.plain (OpenSpec.upto printerArticlesSpec)) printerArticlesUptoCard

/-- THE SECOND FORM's CARD OF 'chargeparklaw03.PrinterLines'. -/
def printerLinesUptoCard : Claim7 := { stood := { row := printerLinesUptoRow, standIns := [], harness := (true, "2b429f4f362d97f7b9fdda6f859a5e5b4f2278363bfd280fc94e2743e3ecd435"), looks := true }, kinds := [], alts := [], laidByText := true, laidKinds := [.data, .data, .data, .data, .data, .pinned], laidTests := true, laidLooks := .later }
def PrinterLinesUptoCardSaid : Prop := Claim7.holds Tryz.pinned (.plain (OpenSpec.upto printerLinesSpec)) printerLinesUptoCard
end Rows
end Go.Proofs.YthplnakbbehpiaaGreatDoor
