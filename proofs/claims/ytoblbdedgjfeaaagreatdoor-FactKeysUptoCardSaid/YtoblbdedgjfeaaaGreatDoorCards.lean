/-
  DERIVED. GIVEN WITH THE SEED: THE CARDS: each row of YtoblbdedgjfeaaaGreatDoorRows.lean that lists a variable, with what it lists TIED to the program's text (the seventh form; the later family's looks); each row that meets fmt, with fmt's text TOLD by the authors' own Lean function (tested against real Go, not proved from fmt's source: count such statements apart). THE CARD IS WHAT COUNTS. Prove the row's statement (the work); the ties are given (YtoblbdedgjfeaaaGreatDoorTie.lean); close each card by the builder's one call (the guide's Derived/Test/ToyasCard.lean, 'card_holds'). Laid BY PROGRAM, IN A SANDBOX (cutbox-door.mjs). By AI agents, Wed Nov 11 2026. No macro, syntax, notation, axiom, sorry.
-/
import Derived.Test.YtoblbdedgjfeaaaGreatDoorRows
import GoSem.ClaimSeven
namespace Go.Proofs.YtoblbdedgjfeaaaGreatDoor
namespace Rows

/-- THE TIED CARD OF 'testgatelaw11.FactContents'. -/
def factContentsCard : Claim7 := { stood := { row := factContentsRow, standIns := [], harness := (true, "0b54aec0492e0b603f1cbaa5b5f8abb49e5f2b7b916c8a7fd6704b9a4287ae44"), looks := true }, kinds := [], alts := [], laidByText := true, laidKinds := [.data, .data, .data, .data, .pinned], laidTests := true, laidLooks := .later }
def FactContentsCardSaid : Prop := Claim7.holds Tryz.pinned (.plain (OpenSpec.ofChange factContentsSpec)) factContentsCard

/-- THE TIED CARD OF 'testgatelaw11.FactCoarse'. -/
def factCoarseCard : Claim7 := { stood := { row := factCoarseRow, standIns := [], harness := (true, "0b54aec0492e0b603f1cbaa5b5f8abb49e5f2b7b916c8a7fd6704b9a4287ae44"), looks := true }, kinds := [], alts := [], laidByText := true, laidKinds := [.data, .data, .data, .data, .pinned], laidTests := true, laidLooks := .later }
def FactCoarseCardSaid : Prop := Claim7.holds Tryz.pinned (.plain (OpenSpec.ofChange factCoarseSpec)) factCoarseCard

/-- THE TIED CARD OF 'testgatelaw11.FactApart'. -/
def factApartCard : Claim7 := { stood := { row := factApartRow, standIns := [], harness := (true, "0b54aec0492e0b603f1cbaa5b5f8abb49e5f2b7b916c8a7fd6704b9a4287ae44"), looks := true }, kinds := [], alts := [], laidByText := true, laidKinds := [.data, .data, .data, .data, .pinned], laidTests := true, laidLooks := .later }
def FactApartCardSaid : Prop := Claim7.holds Tryz.pinned (.plain (OpenSpec.ofChange factApartSpec)) factApartCard

/-- THE TIED CARD OF 'testgatelaw11.FactStays'. -/
def factStaysCard : Claim7 := { stood := { row := factStaysRow, standIns := [], harness := (true, "0b54aec0492e0b603f1cbaa5b5f8abb49e5f2b7b916c8a7fd6704b9a4287ae44"), looks := true }, kinds := [], alts := [], laidByText := true, laidKinds := [.data, .data, .data, .data, .pinned], laidTests := true, laidLooks := .later }
def FactStaysCardSaid : Prop := Claim7.holds Tryz.pinned (.plain (OpenSpec.ofChange factStaysSpec)) factStaysCard

/-- THE TIED CARD OF 'testgatelaw11.FactKeys'. -/
def factKeysCard : Claim7 := { stood := { row := factKeysRow, standIns := [], harness := (true, "0b54aec0492e0b603f1cbaa5b5f8abb49e5f2b7b916c8a7fd6704b9a4287ae44"), looks := true }, kinds := [], alts := [], laidByText := true, laidKinds := [.data, .data, .data, .data, .pinned], laidTests := true, laidLooks := .later }
def FactKeysCardSaid : Prop := Claim7.holds Tryz.pinned (.plain (OpenSpec.ofChange factKeysSpec)) factKeysCard

/-- THE TIED CARD OF 'testgatelaw11.FactDepends'. -/
def factDependsCard : Claim7 := { stood := { row := factDependsRow, standIns := [], harness := (true, "0b54aec0492e0b603f1cbaa5b5f8abb49e5f2b7b916c8a7fd6704b9a4287ae44"), looks := true }, kinds := [], alts := [], laidByText := true, laidKinds := [.data, .data, .data, .data, .pinned], laidTests := true, laidLooks := .later }
def FactDependsCardSaid : Prop := Claim7.holds Tryz.pinned (.plain (OpenSpec.ofChange factDependsSpec)) factDependsCard

/-- THE SECOND FORM's CARD OF 'testgatelaw11.FactContents'. -/
def factContentsUptoCard : Claim7 := { stood := { row := factContentsUptoRow, standIns := [], harness := (true, "0b54aec0492e0b603f1cbaa5b5f8abb49e5f2b7b916c8a7fd6704b9a4287ae44"), looks := true }, kinds := [], alts := [], laidByText := true, laidKinds := [.data, .data, .data, .data, .pinned], laidTests := true, laidLooks := .later }
def FactContentsUptoCardSaid : Prop := Claim7.holds Tryz.pinned (.plain (OpenSpec.upto factContentsSpec)) factContentsUptoCard

/-- THE SECOND FORM's CARD OF 'testgatelaw11.FactCoarse'. -/
def factCoarseUptoCard : Claim7 := { stood := { row := factCoarseUptoRow, standIns := [], harness := (true, "0b54aec0492e0b603f1cbaa5b5f8abb49e5f2b7b916c8a7fd6704b9a4287ae44"), looks := true }, kinds := [], alts := [], laidByText := true, laidKinds := [.data, .data, .data, .data, .pinned], laidTests := true, laidLooks := .later }
def FactCoarseUptoCardSaid : Prop := Claim7.holds Tryz.pinned (.plain (OpenSpec.upto factCoarseSpec)) factCoarseUptoCard

/-- THE SECOND FORM's CARD OF 'testgatelaw11.FactApart'. -/
def factApartUptoCard : Claim7 := { stood := { row := factApartUptoRow, standIns := [], harness := (true, "0b54aec0492e0b603f1cbaa5b5f8abb49e5f2b7b916c8a7fd6704b9a4287ae44"), looks := true }, kinds := [], alts := [], laidByText := true, laidKinds := [.data, .data, .data, .data, .pinned], laidTests := true, laidLooks := .later }
def FactApartUptoCardSaid : Prop := Claim7.holds Tryz.pinned (.plain (OpenSpec.upto factApartSpec)) factApartUptoCard

/-- THE SECOND FORM's CARD OF 'testgatelaw11.FactStays'. -/
def factStaysUptoCard : Claim7 := { stood := { row := factStaysUptoRow, standIns := [], harness := (true, "0b54aec0492e0b603f1cbaa5b5f8abb49e5f2b7b916c8a7fd6704b9a4287ae44"), looks := true }, kinds := [], alts := [], laidByText := true, laidKinds := [.data, .data, .data, .data, .pinned], laidTests := true, laidLooks := .later }
def FactStaysUptoCardSaid : Prop := Claim7.holds Tryz.pinned (.plain (OpenSpec.upto factStaysSpec)) factStaysUptoCard

/-- THE SECOND FORM's CARD OF 'testgatelaw11.FactKeys'. -/
def factKeysUptoCard : Claim7 := { stood := { row := factKeysUptoRow, standIns := [], harness := (true, "0b54aec0492e0b603f1cbaa5b5f8abb49e5f2b7b916c8a7fd6704b9a4287ae44"), looks := true }, kinds := [], alts := [], laidByText := true, laidKinds := [.data, .data, .data, .data, .pinned], laidTests := true, laidLooks := .later }
def FactKeysUptoCardSaid : Prop := Claim7.holds Tryz.pinned (.plain (OpenSpec.upto factKeysSpec)) factKeysUptoCard

/-- THE SECOND FORM's CARD OF 'testgatelaw11.FactDepends'. -/
def factDependsUptoCard : Claim7 := { stood := { row := factDependsUptoRow, standIns := [], harness := (true, "0b54aec0492e0b603f1cbaa5b5f8abb49e5f2b7b916c8a7fd6704b9a4287ae44"), looks := true }, kinds := [], alts := [], laidByText := true, laidKinds := [.data, .data, .data, .data, .pinned], laidTests := true, laidLooks := .later }
def FactDependsUptoCardSaid : Prop := Claim7.holds Tryz.pinned (.plain (OpenSpec.upto factDependsSpec)) factDependsUptoCard
end Rows
end Go.Proofs.YtoblbdedgjfeaaaGreatDoor
