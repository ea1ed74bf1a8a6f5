/-
  DERIVED. GIVEN WITH THE SEED: THE CARDS: each row of YtkhebelajdcjgaaDoorRows.lean that lists a variable, with what it lists TIED to the program's text (the seventh form; the later family's looks); each row that meets fmt, with fmt's text TOLD by the authors' own Lean function (tested against real Go, not proved from fmt's source: count such statements apart). THE CARD IS WHAT COUNTS. Prove the row's statement (the work); the ties are given (YtkhebelajdcjgaaDoorTie.lean); close each card by the builder's one call (the guide's Derived/Test/ToyasCard.lean, 'card_holds'). Laid BY PROGRAM, IN A SANDBOX (cutbox-door.mjs). By AI agents, Wed Nov 11 2026. No macro, syntax, notation, axiom, sorry.
-/
import Derived.Test.YtkhebelajdcjgaaDoorRows
import GoSem.ClaimSeven
namespace Go.Proofs.YtkhebelajdcjgaaDoor
namespace Rows

/-- THE TIED CARD OF 'testgatelaw21.HistoryNews'. -/
def historyNewsCard : Claim7 := { stood := { row := historyNewsRow, standIns := [], harness := (true, "8ab0ba061de1f6c515ec42e6f15af4af9c9a3e02eb3a79af086caf5275d81d8e"), looks := false }, kinds := [], alts := [], laidByText := true, laidKinds := [.data], laidTests := true, laidLooks := .later }
def HistoryNewsCardSaid : Prop := Claim7.holds Tryd.pinned (.plain (OpenSpec.ofChange historyNewsSpec)) historyNewsCard

/-- THE TIED CARD OF 'testgatelaw21.HistoryChecks'. -/
def historyChecksCard : Claim7 := { stood := { row := historyChecksRow, standIns := [], harness := (true, "8ab0ba061de1f6c515ec42e6f15af4af9c9a3e02eb3a79af086caf5275d81d8e"), looks := false }, kinds := [], alts := [], laidByText := true, laidKinds := [.data], laidTests := true, laidLooks := .later }
def HistoryChecksCardSaid : Prop := Claim7.holds Tryd.pinned (.plain (OpenSpec.ofChange historyChecksSpec)) historyChecksCard

/-- THE TIED CARD OF 'testgatelaw21.HistoryAdds'. -/
def historyAddsCard : Claim7 := { stood := { row := historyAddsRow, standIns := [], harness := (true, "8ab0ba061de1f6c515ec42e6f15af4af9c9a3e02eb3a79af086caf5275d81d8e"), looks := false }, kinds := [], alts := [], laidByText := true, laidKinds := [.data], laidTests := true, laidLooks := .later }
def HistoryAddsCardSaid : Prop := Claim7.holds Tryd.pinned (.plain (OpenSpec.ofChange historyAddsSpec)) historyAddsCard

/-- THE TIED CARD OF 'testgatelaw21.HistoryBetween'. -/
def historyBetweenCard : Claim7 := { stood := { row := historyBetweenRow, standIns := [], harness := (true, "8ab0ba061de1f6c515ec42e6f15af4af9c9a3e02eb3a79af086caf5275d81d8e"), looks := false }, kinds := [], alts := [], laidByText := true, laidKinds := [.data], laidTests := true, laidLooks := .later }
def HistoryBetweenCardSaid : Prop := Claim7.holds Tryd.pinned (.plain (OpenSpec.ofChange historyBetweenSpec)) historyBetweenCard

/-- THE TIED CARD OF 'testgatelaw21.HistoryBounds'. -/
def historyBoundsCard : Claim7 := { stood := { row := historyBoundsRow, standIns := [], harness := (true, "8ab0ba061de1f6c515ec42e6f15af4af9c9a3e02eb3a79af086caf5275d81d8e"), looks := false }, kinds := [], alts := [], laidByText := true, laidKinds := [.data], laidTests := true, laidLooks := .later }
def HistoryBoundsCardSaid : Prop := Claim7.holds Tryd.pinned (.plain (OpenSpec.ofChange historyBoundsSpec)) historyBoundsCard

/-- THE TIED CARD OF 'testgatelaw21.HistoryNear'. -/
def historyNearCard : Claim7 := { stood := { row := historyNearRow, standIns := [], harness := (true, "8ab0ba061de1f6c515ec42e6f15af4af9c9a3e02eb3a79af086caf5275d81d8e"), looks := false }, kinds := [], alts := [], laidByText := true, laidKinds := [.data], laidTests := true, laidLooks := .later }
def HistoryNearCardSaid : Prop := Claim7.holds Tryd.pinned (.plain (OpenSpec.ofChange historyNearSpec)) historyNearCard

/-- THE TIED CARD OF 'testgatelaw21.HistoryFew'. -/
def historyFewCard : Claim7 := { stood := { row := historyFewRow, standIns := [], harness := (true, "8ab0ba061de1f6c515ec42e6f15af4af9c9a3e02eb3a79af086caf5275d81d8e"), looks := false }, kinds := [], alts := [], laidByText := true, laidKinds := [.data], laidTests := true, laidLooks := .later }
def HistoryFewCardSaid : Prop := Claim7.holds Tryd.pinned (.plain (OpenSpec.ofChange historyFewSpec)) historyFewCard

/-- THE TIED CARD OF 'testgatelaw21.HistoryExact'. -/
def historyExactCard : Claim7 := { stood := { row := historyExactRow, standIns := [], harness := (true, "8ab0ba061de1f6c515ec42e6f15af4af9c9a3e02eb3a79af086caf5275d81d8e"), looks := false }, kinds := [], alts := [], laidByText := true, laidKinds := [.data], laidTests := true, laidLooks := .later }
def HistoryExactCardSaid : Prop := Claim7.holds Tryd.pinned (.plain (OpenSpec.ofChange historyExactSpec)) historyExactCard

/-- THE TIED CARD OF 'testgatelaw21.HistoryGrows'. -/
def historyGrowsCard : Claim7 := { stood := { row := historyGrowsRow, standIns := [], harness := (true, "8ab0ba061de1f6c515ec42e6f15af4af9c9a3e02eb3a79af086caf5275d81d8e"), looks := false }, kinds := [], alts := [], laidByText := true, laidKinds := [.data], laidTests := true, laidLooks := .later }
def HistoryGrowsCardSaid : Prop := Claim7.holds Tryd.pinned (.plain (OpenSpec.ofChange historyGrowsSpec)) historyGrowsCard

/-- THE SECOND FORM's CARD OF 'testgatelaw21.HistoryNews'. -/
def historyNewsUptoCard : Claim7 := { stood := { row := historyNewsUptoRow, standIns := [], harness := (true, "8ab0ba061de1f6c515ec42e6f15af4af9c9a3e02eb3a79af086caf5275d81d8e"), looks := false }, kinds := [], alts := [], laidByText := true, laidKinds := [.data], laidTests := true, laidLooks := .later }
def HistoryNewsUptoCardSaid : Prop := Claim7.holds Tryd.pinned (.plain (OpenSpec.upto historyNewsSpec)) historyNewsUptoCard

/-- THE SECOND FORM's CARD OF 'testgatelaw21.HistoryChecks'. -/
def historyChecksUptoCard : Claim7 := { stood := { row := historyChecksUptoRow, standIns := [], harness := (true, "8ab0ba061de1f6c515ec42e6f15af4af9c9a3e02eb3a79af086caf5275d81d8e"), looks := false }, kinds := [], alts := [], laidByText := true, laidKinds := [.data], laidTests := true, laidLooks := .later }
def HistoryChecksUptoCardSaid : Prop := Claim7.holds Tryd.pinned (.plain (OpenSpec.upto historyChecksSpec)) historyChecksUptoCard

/-- THE SECOND FORM's CARD OF 'testgatelaw21.HistoryAdds'. -/
def historyAddsUptoCard : Claim7 := { stood := { row := historyAddsUptoRow, standIns := [], harness := (true, "8ab0ba061de1f6c515ec42e6f15af4af9c9a3e02eb3a79af086caf5275d81d8e"), looks := false }, kinds := [], alts := [], laidByText := true, laidKinds := [.data], laidTests := true, laidLooks := .later }
def HistoryAddsUptoCardSaid : Prop := Claim7.holds Tryd.pinned (.plain (OpenSpec.upto historyAddsSpec)) historyAddsUptoCard

/-- THE SECOND FORM's CARD OF 'testgatelaw21.HistoryBetween'. -/
def historyBetweenUptoCard : Claim7 := { stood := { row := historyBetweenUptoRow, standIns := [], harness := (true, "8ab0ba061de1f6c515ec42e6f15af4af9c9a3e02eb3a79af086caf5275d81d8e"), looks := false }, kinds := [], alts := [], laidByText := true, laidKinds := [.data], laidTests := true, laidLooks := .later }
def HistoryBetweenUptoCardSaid : Prop := Claim7.holds Tryd.pinned (.plain (OpenSpec.upto historyBetweenSpec)) historyBetweenUptoCard

/-- THE SECOND FORM's CARD OF 'testgatelaw21.HistoryBounds'. -/
def historyBoundsUptoCard : Claim7 := { stood := { row := historyBoundsUptoRow, standIns := [], harness := (true, "8ab0ba061de1f6c515ec42e6f15af4af9c9a3e02eb3a79af086caf5275d81d8e"), looks := false }, kinds := [], alts := [], laidByText := true, laidKinds := [.data], laidTests := true, laidLooks := .later }
def HistoryBoundsUptoCardSaid : Prop := Claim7.holds Tryd.pinned (.plain (OpenSpec.upto historyBoundsSpec)) historyBoundsUptoCard

/-- THE SECOND FORM's CARD OF 'testgatelaw21.HistoryNear'. -/
def historyNearUptoCard : Claim7 := { stood := { row := historyNearUptoRow, standIns := [], harness := (true, "8ab0ba061de1f6c515ec42e6f15af4af9c9a3e02eb3a79af086caf5275d81d8e"), looks := false }, kinds := [], alts := [], laidByText := true, laidKinds := [.data], laidTests := true, laidLooks := .later }
def HistoryNearUptoCardSaid : Prop := Claim7.holds Tryd.pinned (.plain (OpenSpec.upto historyNearSpec)) historyNearUptoCard

/-- THE SECOND FORM's CARD OF 'testgatelaw21.HistoryFew'. -/
def historyFewUptoCard : Claim7 := { stood := { row := historyFewUptoRow, standIns := [], harness := (true, "8ab0ba061de1f6c515ec42e6f15af4af9c9a3e02eb3a79af086caf5275d81d8e"), looks := false }, kinds := [], alts := [], laidByText := true, laidKinds := [.data], laidTests := true, laidLooks := .later }
def HistoryFewUptoCardSaid : Prop := Claim7.holds Tryd.pinned (.plain (OpenSpec.upto historyFewSpec)) historyFewUptoCard

/-- THE SECOND FORM's CARD OF 'testgatelaw21.HistoryExact'. -/
def historyExactUptoCard : Claim7 := { stood := { row := historyExactUptoRow, standIns := [], harness := (true, "8ab0ba061de1f6c515ec42e6f15af4af9c9a3e02eb3a79af086caf5275d81d8e"), looks := false }, kinds := [], alts := [], laidByText := true, laidKinds := [.data], laidTests := true, laidLooks := .later }
def HistoryExactUptoCardSaid : Prop := Claim7.holds Tryd.pinned (.plain (OpenSpec.upto historyExactSpec)) historyExactUptoCard

/-- THE SECOND FORM's CARD OF 'testgatelaw21.HistoryGrows'. -/
def historyGrowsUptoCard : Claim7 := { stood := { row := historyGrowsUptoRow, standIns := [], harness := (true, "8ab0ba061de1f6c515ec42e6f15af4af9c9a3e02eb3a79af086caf5275d81d8e"), looks := false }, kinds := [], alts := [], laidByText := true, laidKinds := [.data], laidTests := true, laidLooks := .later }
def HistoryGrowsUptoCardSaid : Prop := Claim7.holds Tryd.pinned (.plain (OpenSpec.upto historyGrowsSpec)) historyGrowsUptoCard
end Rows
end Go.Proofs.YtkhebelajdcjgaaDoor
