/-
  DERIVED. GIVEN WITH THE SEED: THE CARDS: each row of YtlppbmfecjabeaaGreatDoorRows.lean that lists a variable, with what it lists TIED to the program's text (the seventh form; the later family's looks); each row that meets fmt, with fmt's text TOLD by the authors' own Lean function (tested against real Go, not proved from fmt's source: count such statements apart). THE CARD IS WHAT COUNTS. Prove the row's statement (the work); the ties are given (YtlppbmfecjabeaaGreatDoorTie.lean); close each card by the builder's one call (the guide's Derived/Test/ToyasCard.lean, 'card_holds'). Laid BY PROGRAM, IN A SANDBOX (cutbox-door.mjs). By AI agents, Wed Nov 11 2026. No macro, syntax, notation, axiom, sorry.
-/
import Derived.Test.YtlppbmfecjabeaaGreatDoorRows
import GoSem.ClaimSeven
namespace Go.Proofs.YtlppbmfecjabeaaGreatDoor
namespace Rows

/-- THE TIED CARD OF 'testgatelaw11.FactContents'. -/
def factContentsCard : Claim7 := { stood := { row := factContentsRow, standIns := [], harness := (true, "af801dab14b547bbd7c00732630fde34ecd4a433b3acc0db6fc53f66fe0a1dad"), looks := true }, kinds := [], alts := [], laidByText := true, laidKinds := [.data, .data, .data, .data, .pinned], laidTests := true, laidLooks := .later }
def FactContentsCardSaid : Prop := Claim7.holds Tryz.pinned (.plain (OpenSpec.ofChange factContentsSpec)) factContentsCard

/-- THE TIED CARD OF 'testgatelaw11.FactApart'. -/
def factApartCard : Claim7 := { stood := { row := factApartRow, standIns := [], harness := (true, "af801dab14b547bbd7c00732630fde34ecd4a433b3acc0db6fc53f66fe0a1dad"), looks := true }, kinds := [], alts := [], laidByText := true, laidKinds := [.data, .data, .data, .data, .pinned], laidTests := true, laidLooks := .later }
def FactApartCardSaid : Prop := Claim7.holds Tryz.pinned (.plain (OpenSpec.ofChange factApartSpec)) factApartCard

/-- THE TIED CARD OF 'testgatelaw11.FactStays'. -/
def factStaysCard : Claim7 := { stood := { row := factStaysRow, standIns := [], harness := (true, "af801dab14b547bbd7c00732630fde34ecd4a433b3acc0db6fc53f66fe0a1dad"), looks := true }, kinds := [], alts := [], laidByText := true, laidKinds := [.data, .data, .data, .data, .pinned], laidTests := true, laidLooks := .later }
def FactStaysCardSaid : Prop := Claim7.holds Tryz.pinned (.plain (OpenSpec.ofChange factStaysSpec)) factStaysCard

/-- THE TIED CARD OF 'testgatelaw16.EntitydiffExact'. -/
def entitydiffExactCard : Claim7 := { stood := { row := entitydiffExactRow, standIns := [], harness := (true, "af801dab14b547bbd7c00732630fde34ecd4a433b3acc0db6fc53f66fe0a1dad"), looks := true }, kinds := [], alts := [], laidByText := true, laidKinds := [.data, .data, .data, .data, .pinned], laidTests := true, laidLooks := .later }
def EntitydiffExactCardSaid : Prop := Claim7.holds Tryz.pinned (.plain (OpenSpec.ofChange entitydiffExactSpec)) entitydiffExactCard

/-- THE TIED CARD OF 'testgatelaw16.EntitydiffSides'. -/
def entitydiffSidesCard : Claim7 := { stood := { row := entitydiffSidesRow, standIns := [], harness := (true, "af801dab14b547bbd7c00732630fde34ecd4a433b3acc0db6fc53f66fe0a1dad"), looks := true }, kinds := [], alts := [], laidByText := true, laidKinds := [.data, .data, .data, .data, .pinned], laidTests := true, laidLooks := .later }
def EntitydiffSidesCardSaid : Prop := Claim7.holds Tryz.pinned (.plain (OpenSpec.ofChange entitydiffSidesSpec)) entitydiffSidesCard

/-- THE TIED CARD OF 'testgatelaw16.EntitydiffComments'. -/
def entitydiffCommentsCard : Claim7 := { stood := { row := entitydiffCommentsRow, standIns := [], harness := (true, "af801dab14b547bbd7c00732630fde34ecd4a433b3acc0db6fc53f66fe0a1dad"), looks := true }, kinds := [], alts := [], laidByText := true, laidKinds := [.data, .data, .data, .data, .pinned], laidTests := true, laidLooks := .later }
def EntitydiffCommentsCardSaid : Prop := Claim7.holds Tryz.pinned (.plain (OpenSpec.ofChange entitydiffCommentsSpec)) entitydiffCommentsCard

/-- THE TIED CARD OF 'testgatelaw16.EntitydiffKeys'. -/
def entitydiffKeysCard : Claim7 := { stood := { row := entitydiffKeysRow, standIns := [], harness := (true, "af801dab14b547bbd7c00732630fde34ecd4a433b3acc0db6fc53f66fe0a1dad"), looks := true }, kinds := [], alts := [], laidByText := true, laidKinds := [.data, .data, .data, .data, .pinned], laidTests := true, laidLooks := .later }
def EntitydiffKeysCardSaid : Prop := Claim7.holds Tryz.pinned (.plain (OpenSpec.ofChange entitydiffKeysSpec)) entitydiffKeysCard

/-- THE TIED CARD OF 'testgatelaw11.FactDepends'. -/
def factDependsCard : Claim7 := { stood := { row := factDependsRow, standIns := [], harness := (true, "af801dab14b547bbd7c00732630fde34ecd4a433b3acc0db6fc53f66fe0a1dad"), looks := true }, kinds := [], alts := [], laidByText := true, laidKinds := [.data, .data, .data, .data, .pinned], laidTests := true, laidLooks := .later }
def FactDependsCardSaid : Prop := Claim7.holds Tryz.pinned (.plain (OpenSpec.ofChange factDependsSpec)) factDependsCard

/-- THE SECOND FORM's CARD OF 'testgatelaw11.FactContents'. -/
def factContentsUptoCard : Claim7 := { stood := { row := factContentsUptoRow, standIns := [], harness := (true, "af801dab14b547bbd7c00732630fde34ecd4a433b3acc0db6fc53f66fe0a1dad"), looks := true }, kinds := [], alts := [], laidByText := true, laidKinds := [.data, .data, .data, .data, .pinned], laidTests := true, laidLooks := .later }
def FactContentsUptoCardSaid : Prop := Claim7.holds Tryz.pinned (.plain (OpenSpec.upto factContentsSpec)) factContentsUptoCard

/-- THE SECOND FORM's CARD OF 'testgatelaw11.FactApart'. -/
def factApartUptoCard : Claim7 := { stood := { row := factApartUptoRow, standIns := [], harness := (true, "af801dab14b547bbd7c00732630fde34ecd4a433b3acc0db6fc53f66fe0a1dad"), looks := true }, kinds := [], alts := [], laidByText := true, laidKinds := [.data, .data, .data, .data, .pinned], laidTests := true, laidLooks := .later }
def FactApartUptoCardSaid : Prop := Claim7.holds Tryz.pinned (.plain (OpenSpec.upto factApartSpec)) factApartUptoCard

/-- THE SECOND FORM's CARD OF 'testgatelaw11.FactStays'. -/
def factStaysUptoCard : Claim7 := { stood := { row := factStaysUptoRow, standIns := [], harness := (true, "af801dab14b547bbd7c00732630fde34ecd4a433b3acc0db6fc53f66fe0a1dad"), looks := true }, kinds := [], alts := [], laidByText := true, laidKinds := [.data, .data, .data, .data, .pinned], laidTests := true, laidLooks := .later }
def FactStaysUptoCardSaid : Prop := Claim7.holds Tryz.pinned (.plain (OpenSpec.upto factStaysSpec)) factStaysUptoCard

/-- THE SECOND FORM's CARD OF 'testgatelaw16.EntitydiffExact'. -/
def entitydiffExactUptoCard : Claim7 := { stood := { row := entitydiffExactUptoRow, standIns := [], harness := (true, "af801dab14b547bbd7c00732630fde34ecd4a433b3acc0db6fc53f66fe0a1dad"), looks := true }, kinds := [], alts := [], laidByText := true, laidKinds := [.data, .data, .data, .data, .pinned], laidTests := true, laidLooks := .later }
def EntitydiffExactUptoCardSaid : Prop := Claim7.holds Tryz.pinned (.plain (OpenSpec.upto entitydiffExactSpec)) entitydiffExactUptoCard

/-- THE SECOND FORM's CARD OF 'testgatelaw16.EntitydiffSides'. -/
def entitydiffSidesUptoCard : Claim7 := { stood := { row := entitydiffSidesUptoRow, standIns := [], harness := (true, "af801dab14b547bbd7c00732630fde34ecd4a433b3acc0db6fc53f66fe0a1dad"), looks := true }, kinds := [], alts := [], laidByText := true, laidKinds := [.data, .data, .data, .data, .pinned], laidTests := true, laidLooks := .later }
def EntitydiffSidesUptoCardSaid : Prop := Claim7.holds Tryz.pinned (.plain (OpenSpec.upto entitydiffSidesSpec)) entitydiffSidesUptoCard

/-- THE SECOND FORM's CARD OF 'testgatelaw16.EntitydiffComments'. -/
def entitydiffCommentsUptoCard : Claim7 := { stood := { row := entitydiffCommentsUptoRow, standIns := [], harness := (true, "af801dab14b547bbd7c00732630fde34ecd4a433b3acc0db6fc53f66fe0a1dad"), looks := true }, kinds := [], alts := [], laidByText := true, laidKinds := [.data, .data, .data, .data, .pinned], laidTests := true, laidLooks := .later }
def EntitydiffCommentsUptoCardSaid : Prop := Claim7.holds Tryz.pinned (.plain (OpenSpec.upto entitydiffCommentsSpec)) entitydiffCommentsUptoCard

/-- THE SECOND FORM's CARD OF 'testgatelaw16.EntitydiffKeys'. -/
def entitydiffKeysUptoCard : Claim7 := { stood := { row := entitydiffKeysUptoRow, standIns := [], harness := (true, "af801dab14b547bbd7c00732630fde34ecd4a433b3acc0db6fc53f66fe0a1dad"), looks := true }, kinds := [], alts := [], laidByText := true, laidKinds := [.data, .data, .data, .data, .pinned], laidTests := true, laidLooks := .later }
def EntitydiffKeysUptoCardSaid : Prop := Claim7.holds Tryz.pinned (.plain (OpenSpec.upto entitydiffKeysSpec)) entitydiffKeysUptoCard

/-- THE SECOND FORM's CARD OF 'testgatelaw11.FactDepends'. -/
def factDependsUptoCard : Claim7 := { stood := { row := factDependsUptoRow, standIns := [], harness := (true, "af801dab14b547bbd7c00732630fde34ecd4a433b3acc0db6fc53f66fe0a1dad"), looks := true }, kinds := [], alts := [], laidByText := true, laidKinds := [.data, .data, .data, .data, .pinned], laidTests := true, laidLooks := .later }
def FactDependsUptoCardSaid : Prop := Claim7.holds Tryz.pinned (.plain (OpenSpec.upto factDependsSpec)) factDependsUptoCard
end Rows
end Go.Proofs.YtlppbmfecjabeaaGreatDoor
