/-
  DERIVED. GIVEN WITH THE SEED: THE CARDS: each row of YtncmhkpnclafkaaGreatDoorRows.lean that lists a variable, with what it lists TIED to the program's text (the seventh form; the later family's looks); each row that meets fmt, with fmt's text TOLD by the authors' own Lean function (tested against real Go, not proved from fmt's source: count such statements apart). THE CARD IS WHAT COUNTS. Prove the row's statement (the work); the ties are given (YtncmhkpnclafkaaGreatDoorTie.lean); close each card by the builder's one call (the guide's Derived/Test/ToyasCard.lean, 'card_holds'). Laid BY PROGRAM, IN A SANDBOX (cutbox-door.mjs). By AI agents, Wed Nov 11 2026. No macro, syntax, notation, axiom, sorry.
-/
import Derived.Test.YtncmhkpnclafkaaGreatDoorRows
import GoSem.ClaimSeven
namespace Go.Proofs.YtncmhkpnclafkaaGreatDoor
namespace Rows

/-- THE TIED CARD OF 'testgatelaw17.StaticCalls'. -/
def staticCallsCard : Claim7 := { stood := { row := staticCallsRow, standIns := [], harness := (true, "651ef1a96a11652f7a3d012c26eb99f4ffe927b5835f0afbd915d9e68deb5b76"), looks := true }, kinds := [], alts := [], laidByText := true, laidKinds := [.data, .data, .data, .data, .pinned], laidTests := true, laidLooks := .later }
def StaticCallsCardSaid : Prop := Claim7.holds Tryz.pinned (.plain (OpenSpec.ofChange staticCallsSpec)) staticCallsCard

/-- THE TIED CARD OF 'testgatelaw17.StaticCovers'. -/
def staticCoversCard : Claim7 := { stood := { row := staticCoversRow, standIns := [], harness := (true, "651ef1a96a11652f7a3d012c26eb99f4ffe927b5835f0afbd915d9e68deb5b76"), looks := true }, kinds := [], alts := [], laidByText := true, laidKinds := [.data, .data, .data, .data, .pinned], laidTests := true, laidLooks := .later }
def StaticCoversCardSaid : Prop := Claim7.holds Tryz.pinned (.plain (OpenSpec.ofChange staticCoversSpec)) staticCoversCard

/-- THE TIED CARD OF 'testgatelaw17.StaticSafe'. -/
def staticSafeCard : Claim7 := { stood := { row := staticSafeRow, standIns := [], harness := (true, "651ef1a96a11652f7a3d012c26eb99f4ffe927b5835f0afbd915d9e68deb5b76"), looks := true }, kinds := [], alts := [], laidByText := true, laidKinds := [.data, .data, .data, .data, .pinned], laidTests := true, laidLooks := .later }
def StaticSafeCardSaid : Prop := Claim7.holds Tryz.pinned (.plain (OpenSpec.ofChange staticSafeSpec)) staticSafeCard

/-- THE TIED CARD OF 'testgatelaw17.StaticDependents'. -/
def staticDependentsCard : Claim7 := { stood := { row := staticDependentsRow, standIns := [], harness := (true, "651ef1a96a11652f7a3d012c26eb99f4ffe927b5835f0afbd915d9e68deb5b76"), looks := true }, kinds := [], alts := [], laidByText := true, laidKinds := [.data, .data, .data, .data, .pinned], laidTests := true, laidLooks := .later }
def StaticDependentsCardSaid : Prop := Claim7.holds Tryz.pinned (.plain (OpenSpec.ofChange staticDependentsSpec)) staticDependentsCard

/-- THE SECOND FORM's CARD OF 'testgatelaw17.StaticCalls'. -/
def staticCallsUptoCard : Claim7 := { stood := { row := staticCallsUptoRow, standIns := [], harness := (true, "651ef1a96a11652f7a3d012c26eb99f4ffe927b5835f0afbd915d9e68deb5b76"), looks := true }, kinds := [], alts := [], laidByText := true, laidKinds := [.data, .data, .data, .data, .pinned], laidTests := true, laidLooks := .later }
def StaticCallsUptoCardSaid : Prop := Claim7.holds Tryz.pinned (.plain (OpenSpec.upto staticCallsSpec)) staticCallsUptoCard

/-- THE SECOND FORM's CARD OF 'testgatelaw17.StaticCovers'. -/
def staticCoversUptoCard : Claim7 := { stood := { row := staticCoversUptoRow, standIns := [], harness := (true, "651ef1a96a11652f7a3d012c26eb99f4ffe927b5835f0afbd915d9e68deb5b76"), looks := true }, kinds := [], alts := [], laidByText := true, laidKinds := [.data, .data, .data, .data, .pinned], laidTests := true, laidLooks := .later }
def StaticCoversUptoCardSaid : Prop := Claim7.holds Tryz.pinned (.plain (OpenSpec.upto staticCoversSpec)) staticCoversUptoCard

/-- THE SECOND FORM's CARD OF 'testgatelaw17.StaticSafe'. -/
def staticSafeUptoCard : Claim7 := { stood := { row := staticSafeUptoRow, standIns := [], harness := (true, "651ef1a96a11652f7a3d012c26eb99f4ffe927b5835f0afbd915d9e68deb5b76"), looks := true }, kinds := [], alts := [], laidByText := true, laidKinds := [.data, .data, .data, .data, .pinned], laidTests := true, laidLooks := .later }
def StaticSafeUptoCardSaid : Prop := Claim7.holds Tryz.pinned (.plain (OpenSpec.upto staticSafeSpec)) staticSafeUptoCard

/-- THE SECOND FORM's CARD OF 'testgatelaw17.StaticDependents'. -/
def staticDependentsUptoCard : Claim7 := { stood := { row := staticDependentsUptoRow, standIns := [], harness := (true, "651ef1a96a11652f7a3d012c26eb99f4ffe927b5835f0afbd915d9e68deb5b76"), looks := true }, kinds := [], alts := [], laidByText := true, laidKinds := [.data, .data, .data, .data, .pinned], laidTests := true, laidLooks := .later }
def StaticDependentsUptoCardSaid : Prop := Claim7.holds Tryz.pinned (.plain (OpenSpec.upto staticDependentsSpec)) staticDependentsUptoCard
end Rows
end Go.Proofs.YtncmhkpnclafkaaGreatDoor
