/-
  DERIVED. GIVEN WITH THE SEED: THE CARDS: each row of YtkhhdppjbakngaaGreatDoorRows.lean that lists a variable, with what it lists TIED to the program's text (the seventh form; the later family's looks); each row that meets fmt, with fmt's text TOLD by the authors' own Lean function (tested against real Go, not proved from fmt's source: count such statements apart). THE CARD IS WHAT COUNTS. Prove the row's statement (the work); the ties are given (YtkhhdppjbakngaaGreatDoorTie.lean); close each card by the builder's one call (the guide's Derived/Test/ToyasCard.lean, 'card_holds'). Laid BY PROGRAM, IN A SANDBOX (cutbox-door.mjs). By AI agents, Wed Nov 11 2026. No macro, syntax, notation, axiom, sorry.
-/
import Derived.Test.YtkhhdppjbakngaaGreatDoorRows
import GoSem.ClaimSeven
namespace Go.Proofs.YtkhhdppjbakngaaGreatDoor
namespace Rows

/-- THE TIED CARD OF 'chargeparktop.TopSameSources'. -/
def topSameSourcesCard : Claim7 := { stood := { row := topSameSourcesRow, standIns := [], harness := (true, "f2aa9020095c129a4e33b028fe15800a6a1530f7b693bd8eaf770e8f26b6203c"), looks := true }, kinds := [], alts := [], laidByText := true, laidKinds := [.data, .data, .data, .data], laidTests := true, laidLooks := .later }
def TopSameSourcesCardSaid : Prop := Claim7.holds Tryz.pinned (.plain (OpenSpec.ofChange topSameSourcesSpec)) topSameSourcesCard

/-- THE TIED CARD OF 'chargeparktop.TopTariffsApart'. -/
def topTariffsApartCard : Claim7 := { stood := { row := topTariffsApartRow, standIns := [], harness := (true, "f2aa9020095c129a4e33b028fe15800a6a1530f7b693bd8eaf770e8f26b6203c"), looks := true }, kinds := [], alts := [], laidByText := true, laidKinds := [.data, .data, .data, .data], laidTests := true, laidLooks := .later }
def TopTariffsApartCardSaid : Prop := Claim7.holds Tryz.pinned (.plain (OpenSpec.ofChange topTariffsApartSpec)) topTariffsApartCard

/-- THE TIED CARD OF 'chargeparktop.TopTariffPrinted'. -/
def topTariffPrintedCard : Claim7 := { stood := { row := topTariffPrintedRow, standIns := [], harness := (true, "f2aa9020095c129a4e33b028fe15800a6a1530f7b693bd8eaf770e8f26b6203c"), looks := true }, kinds := [], alts := [], laidByText := true, laidKinds := [.data, .data, .data, .data], laidTests := true, laidLooks := .later }
def TopTariffPrintedCardSaid : Prop := Claim7.holds Tryz.pinned (.plain (OpenSpec.ofChange topTariffPrintedSpec)) topTariffPrintedCard

/-- THE TIED CARD OF 'chargeparktop.TopPrintedSite'. -/
def topPrintedSiteCard : Claim7 := { stood := { row := topPrintedSiteRow, standIns := [], harness := (true, "f2aa9020095c129a4e33b028fe15800a6a1530f7b693bd8eaf770e8f26b6203c"), looks := true }, kinds := [], alts := [], laidByText := true, laidKinds := [.data, .data, .data, .data], laidTests := true, laidLooks := .later }
def TopPrintedSiteCardSaid : Prop := Claim7.holds Tryz.pinned (.plain (OpenSpec.ofChange topPrintedSiteSpec)) topPrintedSiteCard

/-- THE SECOND FORM's CARD OF 'chargeparktop.TopSameSources'. -/
def topSameSourcesUptoCard : Claim7 := { stood := { row := topSameSourcesUptoRow, standIns := [], harness := (true, "f2aa9020095c129a4e33b028fe15800a6a1530f7b693bd8eaf770e8f26b6203c"), looks := true }, kinds := [], alts := [], laidByText := true, laidKinds := [.data, .data, .data, .data], laidTests := true, laidLooks := .later }
def TopSameSourcesUptoCardSaid : Prop := Claim7.holds Tryz.pinned (.plain (OpenSpec.upto topSameSourcesSpec)) topSameSourcesUptoCard

/-- THE SECOND FORM's CARD OF 'chargeparktop.TopTariffsApart'. -/
def topTariffsApartUptoCard : Claim7 := { stood := { row := topTariffsApartUptoRow, standIns := [], harness := (true, "f2aa9020095c129a4e33b028fe15800a6a1530f7b693bd8eaf770e8f26b6203c"), looks := true }, kinds := [], alts := [], laidByText := true, laidKinds := [.data, .data, .data, .data], laidTests := true, laidLooks := .later }
def TopTariffsApartUptoCardSaid : Prop := Claim7.holds Tryz.pinned (.plain (OpenSpec.upto topTariffsApartSpec)) topTariffsApartUptoCard

/-- THE SECOND FORM's CARD OF 'chargeparktop.TopTariffPrinted'. -/
def topTariffPrintedUptoCard : Claim7 := { stood := { row := topTariffPrintedUptoRow, standIns := [], harness := (true, "f2aa9020095c129a4e33b028fe15800a6a1530f7b693bd8eaf770e8f26b6203c"), looks := true }, kinds := [], alts := [], laidByText := true, laidKinds := [.data, .data, .data, .data], laidTests := true, laidLooks := .later }
def TopTariffPrintedUptoCardSaid : Prop := Claim7.holds Tryz.pinned (.plain (OpenSpec.upto topTariffPrintedSpec)) topTariffPrintedUptoCard

/-- THE SECOND FORM's CARD OF 'chargeparktop.TopPrintedSite'. -/
def topPrintedSiteUptoCard : Claim7 := { stood := { row := topPrintedSiteUptoRow, standIns := [], harness := (true, "f2aa9020095c129a4e33b028fe15800a6a1530f7b693bd8eaf770e8f26b6203c"), looks := true }, kinds := [], alts := [], laidByText := true, laidKinds := [.data, .data, .data, .data], laidTests := true, laidLooks := .later }
def TopPrintedSiteUptoCardSaid : Prop := Claim7.holds Tryz.pinned (.plain (OpenSpec.upto topPrintedSiteSpec)) topPrintedSiteUptoCard
end Rows
end Go.Proofs.YtkhhdppjbakngaaGreatDoor
