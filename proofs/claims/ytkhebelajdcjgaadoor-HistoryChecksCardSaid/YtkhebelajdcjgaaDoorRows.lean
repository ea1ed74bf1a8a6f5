/-
  NARROWER THAN 'FOR EVERY INPUT', by the rows' own cells (each row's printed sentence says how): HistoryNews: laid · HistoryChecks: laid · HistoryAdds: laid · HistoryBetween: laid · HistoryBounds: laid · HistoryNear: laid · HistoryFew: laid · HistoryExact: laid · HistoryGrows: laid.
  DERIVED. THE GIVEN ROWS OF THIS SEAT. 9 by the template 'for every input the law returns true; each argument reads behind the call as it read before'; 0 by the template 'total and deterministic' (their statements: YtkhebelajdcjgaaDoorTotals.lean).
  GIVEN WITH THE SEED: the statements are not yours to turn. If you find one false, say at which input.
  Laid BY PROGRAM, IN A SANDBOX (cutbox-rows.mjs): the forced cells as the released guide's own fill.sh prints them over the translation f5120f868db911fd… (all of the seat's roots in one cut). By AI agents, Wed Nov 11 2026. No macro, syntax, notation, axiom, sorry.
-/
import Derived.Test.YtkhebelajdcjgaaDoorChecked
import GoSem.Claim
import GoSem.ClaimJoined
import GoSem.ClaimMapViews
import Derived.JoinedTies
import Derived.KernelRfl
namespace Go.Proofs.YtkhebelajdcjgaaDoor
/- THE CELL 'sum', in the pinned program and in every row, IS THE sha256 OF THE DUMP (.gsa) THAT YtkhebelajdcjgaaDoorProg.lean LOADS. Nothing in Lean hashes anything: it is a label: what it is worth is what the hold of that sum in a sandbox is worth. -/
noncomputable def Tryd.pinned : Pinned := { name := "ytkhebelajdcjgaadoor", sum := "f5120f868db911fd1a493265b44533f4df6e41c534afbdee2415708d9d21a35b", checked := Tryd.checked }
namespace Rows
def none {H : Type} : Left H := { results := [], args := [] }

/- WHAT THE LISTED PACKAGE-LEVEL VARIABLES READ AS WHEN THE CALL BEGINS. Each datum BY PROGRAM (the guide's laid-datum.mjs) off the statement by which the dump's own 'gosem.cut.vars' lays the variable. In a bare row this is a premise. The card (YtkhebelajdcjgaaDoorCards.lean) ties it to the program's text. -/
def laid_testgate_testgatelaw21_own {H : Type} : DataW H := .agg [.lit (.string [112]), .lit (.string [116])]

/-- 'testgatelaw21.HistoryNews': WHATEVER THE INPUT: true; the input reads as it did. -/
def historyNewsSpec : ChangeSpec := { name := "historyNews", fn := fun _ => fun
  | [d1, d2, d3] => { results := [.lit (.bool true)], args := [d1, d2, d3] }
  | _ => none }
def historyNewsRow : OpenClaim := { program := "ytkhebelajdcjgaadoor", sum := "f5120f868db911fd1a493265b44533f4df6e41c534afbdee2415708d9d21a35b", func := "testgate/testgatelaw21.HistoryNews", spec := "historyNews", named := ["testgate/testgatelaw21.own"], apart := false, laid := [("testgate/testgatelaw21.own", laid_testgate_testgatelaw21_own)] }
def HistoryNewsSaid : Prop := historyNewsRow.holds Tryd.pinned (OpenSpec.ofChange historyNewsSpec)

/-- ITS FALSE NEIGHBOUR: 'it returns false'. Refute it at one input. -/
def historyNewsWrong : ChangeSpec := { name := "historyNews", fn := fun _ => fun
  | [d1, d2, d3] => { results := [.lit (.bool false)], args := [d1, d2, d3] }
  | _ => none }
def HistoryNewsWrongFalsely : Prop := historyNewsRow.holds Tryd.pinned (OpenSpec.ofChange historyNewsWrong)

/-- 'testgatelaw21.HistoryChecks': WHATEVER THE INPUT: true; the input reads as it did. -/
def historyChecksSpec : ChangeSpec := { name := "historyChecks", fn := fun _ => fun
  | [d1, d2, d3, d4] => { results := [.lit (.bool true)], args := [d1, d2, d3, d4] }
  | _ => none }
def historyChecksRow : OpenClaim := { program := "ytkhebelajdcjgaadoor", sum := "f5120f868db911fd1a493265b44533f4df6e41c534afbdee2415708d9d21a35b", func := "testgate/testgatelaw21.HistoryChecks", spec := "historyChecks", named := ["testgate/testgatelaw21.own"], apart := false, laid := [("testgate/testgatelaw21.own", laid_testgate_testgatelaw21_own)] }
def HistoryChecksSaid : Prop := historyChecksRow.holds Tryd.pinned (OpenSpec.ofChange historyChecksSpec)

/-- ITS FALSE NEIGHBOUR: 'it returns false'. Refute it at one input. -/
def historyChecksWrong : ChangeSpec := { name := "historyChecks", fn := fun _ => fun
  | [d1, d2, d3, d4] => { results := [.lit (.bool false)], args := [d1, d2, d3, d4] }
  | _ => none }
def HistoryChecksWrongFalsely : Prop := historyChecksRow.holds Tryd.pinned (OpenSpec.ofChange historyChecksWrong)

/-- 'testgatelaw21.HistoryAdds': WHATEVER THE INPUT: true; the input reads as it did. -/
def historyAddsSpec : ChangeSpec := { name := "historyAdds", fn := fun _ => fun
  | [d1, d2, d3] => { results := [.lit (.bool true)], args := [d1, d2, d3] }
  | _ => none }
def historyAddsRow : OpenClaim := { program := "ytkhebelajdcjgaadoor", sum := "f5120f868db911fd1a493265b44533f4df6e41c534afbdee2415708d9d21a35b", func := "testgate/testgatelaw21.HistoryAdds", spec := "historyAdds", named := ["testgate/testgatelaw21.own"], apart := false, laid := [("testgate/testgatelaw21.own", laid_testgate_testgatelaw21_own)] }
def HistoryAddsSaid : Prop := historyAddsRow.holds Tryd.pinned (OpenSpec.ofChange historyAddsSpec)

/-- ITS FALSE NEIGHBOUR: 'it returns false'. Refute it at one input. -/
def historyAddsWrong : ChangeSpec := { name := "historyAdds", fn := fun _ => fun
  | [d1, d2, d3] => { results := [.lit (.bool false)], args := [d1, d2, d3] }
  | _ => none }
def HistoryAddsWrongFalsely : Prop := historyAddsRow.holds Tryd.pinned (OpenSpec.ofChange historyAddsWrong)

/-- 'testgatelaw21.HistoryBetween': WHATEVER THE INPUT: true; the input reads as it did. -/
def historyBetweenSpec : ChangeSpec := { name := "historyBetween", fn := fun _ => fun
  | [d1, d2] => { results := [.lit (.bool true)], args := [d1, d2] }
  | _ => none }
def historyBetweenRow : OpenClaim := { program := "ytkhebelajdcjgaadoor", sum := "f5120f868db911fd1a493265b44533f4df6e41c534afbdee2415708d9d21a35b", func := "testgate/testgatelaw21.HistoryBetween", spec := "historyBetween", named := ["testgate/testgatelaw21.own"], apart := false, laid := [("testgate/testgatelaw21.own", laid_testgate_testgatelaw21_own)] }
def HistoryBetweenSaid : Prop := historyBetweenRow.holds Tryd.pinned (OpenSpec.ofChange historyBetweenSpec)

/-- ITS FALSE NEIGHBOUR: 'it returns false'. Refute it at one input. -/
def historyBetweenWrong : ChangeSpec := { name := "historyBetween", fn := fun _ => fun
  | [d1, d2] => { results := [.lit (.bool false)], args := [d1, d2] }
  | _ => none }
def HistoryBetweenWrongFalsely : Prop := historyBetweenRow.holds Tryd.pinned (OpenSpec.ofChange historyBetweenWrong)

/-- 'testgatelaw21.HistoryBounds': WHATEVER THE INPUT: true; the input reads as it did. -/
def historyBoundsSpec : ChangeSpec := { name := "historyBounds", fn := fun _ => fun
  | [d] => { results := [.lit (.bool true)], args := [d] }
  | _ => none }
def historyBoundsRow : OpenClaim := { program := "ytkhebelajdcjgaadoor", sum := "f5120f868db911fd1a493265b44533f4df6e41c534afbdee2415708d9d21a35b", func := "testgate/testgatelaw21.HistoryBounds", spec := "historyBounds", named := ["testgate/testgatelaw21.own"], apart := false, laid := [("testgate/testgatelaw21.own", laid_testgate_testgatelaw21_own)] }
def HistoryBoundsSaid : Prop := historyBoundsRow.holds Tryd.pinned (OpenSpec.ofChange historyBoundsSpec)

/-- ITS FALSE NEIGHBOUR: 'it returns false'. Refute it at one input. -/
def historyBoundsWrong : ChangeSpec := { name := "historyBounds", fn := fun _ => fun
  | [d] => { results := [.lit (.bool false)], args := [d] }
  | _ => none }
def HistoryBoundsWrongFalsely : Prop := historyBoundsRow.holds Tryd.pinned (OpenSpec.ofChange historyBoundsWrong)

/-- 'testgatelaw21.HistoryNear': WHATEVER THE INPUT: true; the input reads as it did. -/
def historyNearSpec : ChangeSpec := { name := "historyNear", fn := fun _ => fun
  | [d] => { results := [.lit (.bool true)], args := [d] }
  | _ => none }
def historyNearRow : OpenClaim := { program := "ytkhebelajdcjgaadoor", sum := "f5120f868db911fd1a493265b44533f4df6e41c534afbdee2415708d9d21a35b", func := "testgate/testgatelaw21.HistoryNear", spec := "historyNear", named := ["testgate/testgatelaw21.own"], apart := false, laid := [("testgate/testgatelaw21.own", laid_testgate_testgatelaw21_own)] }
def HistoryNearSaid : Prop := historyNearRow.holds Tryd.pinned (OpenSpec.ofChange historyNearSpec)

/-- ITS FALSE NEIGHBOUR: 'it returns false'. Refute it at one input. -/
def historyNearWrong : ChangeSpec := { name := "historyNear", fn := fun _ => fun
  | [d] => { results := [.lit (.bool false)], args := [d] }
  | _ => none }
def HistoryNearWrongFalsely : Prop := historyNearRow.holds Tryd.pinned (OpenSpec.ofChange historyNearWrong)

/-- 'testgatelaw21.HistoryFew': WHATEVER THE INPUT: true; the input reads as it did. -/
def historyFewSpec : ChangeSpec := { name := "historyFew", fn := fun _ => fun
  | [d1, d2, d3] => { results := [.lit (.bool true)], args := [d1, d2, d3] }
  | _ => none }
def historyFewRow : OpenClaim := { program := "ytkhebelajdcjgaadoor", sum := "f5120f868db911fd1a493265b44533f4df6e41c534afbdee2415708d9d21a35b", func := "testgate/testgatelaw21.HistoryFew", spec := "historyFew", named := ["testgate/testgatelaw21.own"], apart := false, laid := [("testgate/testgatelaw21.own", laid_testgate_testgatelaw21_own)] }
def HistoryFewSaid : Prop := historyFewRow.holds Tryd.pinned (OpenSpec.ofChange historyFewSpec)

/-- ITS FALSE NEIGHBOUR: 'it returns false'. Refute it at one input. -/
def historyFewWrong : ChangeSpec := { name := "historyFew", fn := fun _ => fun
  | [d1, d2, d3] => { results := [.lit (.bool false)], args := [d1, d2, d3] }
  | _ => none }
def HistoryFewWrongFalsely : Prop := historyFewRow.holds Tryd.pinned (OpenSpec.ofChange historyFewWrong)

/-- 'testgatelaw21.HistoryExact': WHATEVER THE INPUT: true; the input reads as it did. -/
def historyExactSpec : ChangeSpec := { name := "historyExact", fn := fun _ => fun
  | [d] => { results := [.lit (.bool true)], args := [d] }
  | _ => none }
def historyExactRow : OpenClaim := { program := "ytkhebelajdcjgaadoor", sum := "f5120f868db911fd1a493265b44533f4df6e41c534afbdee2415708d9d21a35b", func := "testgate/testgatelaw21.HistoryExact", spec := "historyExact", named := ["testgate/testgatelaw21.own"], apart := false, laid := [("testgate/testgatelaw21.own", laid_testgate_testgatelaw21_own)] }
def HistoryExactSaid : Prop := historyExactRow.holds Tryd.pinned (OpenSpec.ofChange historyExactSpec)

/-- ITS FALSE NEIGHBOUR: 'it returns false'. Refute it at one input. -/
def historyExactWrong : ChangeSpec := { name := "historyExact", fn := fun _ => fun
  | [d] => { results := [.lit (.bool false)], args := [d] }
  | _ => none }
def HistoryExactWrongFalsely : Prop := historyExactRow.holds Tryd.pinned (OpenSpec.ofChange historyExactWrong)

/-- 'testgatelaw21.HistoryGrows': WHATEVER THE INPUT: true; the input reads as it did. -/
def historyGrowsSpec : ChangeSpec := { name := "historyGrows", fn := fun _ => fun
  | [d] => { results := [.lit (.bool true)], args := [d] }
  | _ => none }
def historyGrowsRow : OpenClaim := { program := "ytkhebelajdcjgaadoor", sum := "f5120f868db911fd1a493265b44533f4df6e41c534afbdee2415708d9d21a35b", func := "testgate/testgatelaw21.HistoryGrows", spec := "historyGrows", named := ["testgate/testgatelaw21.own"], apart := false, laid := [("testgate/testgatelaw21.own", laid_testgate_testgatelaw21_own)] }
def HistoryGrowsSaid : Prop := historyGrowsRow.holds Tryd.pinned (OpenSpec.ofChange historyGrowsSpec)

/-- ITS FALSE NEIGHBOUR: 'it returns false'. Refute it at one input. -/
def historyGrowsWrong : ChangeSpec := { name := "historyGrows", fn := fun _ => fun
  | [d] => { results := [.lit (.bool false)], args := [d] }
  | _ => none }
def HistoryGrowsWrongFalsely : Prop := historyGrowsRow.holds Tryd.pinned (OpenSpec.ofChange historyGrowsWrong)

/- THE SECOND FORM. 'bulk': how many values and letters a reading holds, each counted each time it is reached (what is shared counts as often as it is met; a slice's spare places count too). A statement '..UptoSaid' is the law's where the arguments, and the package variables that the reading takes, are together of bulk at most 1048576: NARROWER than '..Said'. Prove '..Said' where nothing that the law and all that it calls make is longer than what came in: it says more and counts as full. Else prove '..UptoSaid'. A law counts once. -/
mutual
def uptoBulk {H : Type} : DataW H → Nat
  | .lit (.string bytes) => bytes.length + 1
  | .lit _ => 1
  | .nil => 1
  | .ptr d => uptoBulk d + 1
  | .slice elems spare => uptoBulkAll elems + uptoBulkAll spare + 1
  | .agg parts => uptoBulkAll parts + 1
  | .iface _ d => uptoBulk d + 1
  | .map entries => uptoBulkEntries entries + 1
  | .held _ => 1
def uptoBulkAll {H : Type} : List (DataW H) → Nat
  | [] => 0
  | d :: r => uptoBulk d + uptoBulkAll r
def uptoBulkEntries {H : Type} : List (Lit × DataW H) → Nat
  | [] => 0
  | x :: r => uptoBulkEntry x + uptoBulkEntries r
def uptoBulkEntry {H : Type} : Lit × DataW H → Nat
  | (.string bytes, d) => bytes.length + uptoBulk d + 1
  | (_, d) => uptoBulk d + 1
 end
def uptoSmall : (H : Type) → List (DataW H) → Bool := fun _ ds => decide (uptoBulkAll ds ≤ 1048576)
def OpenSpec.upto (s : _root_.Go.ChangeSpec) : _root_.Go.OpenSpec := { _root_.Go.OpenSpec.ofChange s with cond := some uptoSmall }

/-- 'testgatelaw21.HistoryNews', WHERE WHAT IT READS IS OF BULK AT MOST 1048576: true; the input reads as it did. -/
def historyNewsUptoRow : OpenClaim := { program := "ytkhebelajdcjgaadoor", sum := "f5120f868db911fd1a493265b44533f4df6e41c534afbdee2415708d9d21a35b", func := "testgate/testgatelaw21.HistoryNews", spec := "historyNews", named := ["testgate/testgatelaw21.own"], apart := false, laid := [("testgate/testgatelaw21.own", laid_testgate_testgatelaw21_own)], narrowed := true }
def HistoryNewsUptoSaid : Prop := historyNewsUptoRow.holds Tryd.pinned (OpenSpec.upto historyNewsSpec)

/-- 'testgatelaw21.HistoryChecks', WHERE WHAT IT READS IS OF BULK AT MOST 1048576: true; the input reads as it did. -/
def historyChecksUptoRow : OpenClaim := { program := "ytkhebelajdcjgaadoor", sum := "f5120f868db911fd1a493265b44533f4df6e41c534afbdee2415708d9d21a35b", func := "testgate/testgatelaw21.HistoryChecks", spec := "historyChecks", named := ["testgate/testgatelaw21.own"], apart := false, laid := [("testgate/testgatelaw21.own", laid_testgate_testgatelaw21_own)], narrowed := true }
def HistoryChecksUptoSaid : Prop := historyChecksUptoRow.holds Tryd.pinned (OpenSpec.upto historyChecksSpec)

/-- 'testgatelaw21.HistoryAdds', WHERE WHAT IT READS IS OF BULK AT MOST 1048576: true; the input reads as it did. -/
def historyAddsUptoRow : OpenClaim := { program := "ytkhebelajdcjgaadoor", sum := "f5120f868db911fd1a493265b44533f4df6e41c534afbdee2415708d9d21a35b", func := "testgate/testgatelaw21.HistoryAdds", spec := "historyAdds", named := ["testgate/testgatelaw21.own"], apart := false, laid := [("testgate/testgatelaw21.own", laid_testgate_testgatelaw21_own)], narrowed := true }
def HistoryAddsUptoSaid : Prop := historyAddsUptoRow.holds Tryd.pinned (OpenSpec.upto historyAddsSpec)

/-- 'testgatelaw21.HistoryBetween', WHERE WHAT IT READS IS OF BULK AT MOST 1048576: true; the input reads as it did. -/
def historyBetweenUptoRow : OpenClaim := { program := "ytkhebelajdcjgaadoor", sum := "f5120f868db911fd1a493265b44533f4df6e41c534afbdee2415708d9d21a35b", func := "testgate/testgatelaw21.HistoryBetween", spec := "historyBetween", named := ["testgate/testgatelaw21.own"], apart := false, laid := [("testgate/testgatelaw21.own", laid_testgate_testgatelaw21_own)], narrowed := true }
def HistoryBetweenUptoSaid : Prop := historyBetweenUptoRow.holds Tryd.pinned (OpenSpec.upto historyBetweenSpec)

/-- 'testgatelaw21.HistoryBounds', WHERE WHAT IT READS IS OF BULK AT MOST 1048576: true; the input reads as it did. -/
def historyBoundsUptoRow : OpenClaim := { program := "ytkhebelajdcjgaadoor", sum := "f5120f868db911fd1a493265b44533f4df6e41c534afbdee2415708d9d21a35b", func := "testgate/testgatelaw21.HistoryBounds", spec := "historyBounds", named := ["testgate/testgatelaw21.own"], apart := false, laid := [("testgate/testgatelaw21.own", laid_testgate_testgatelaw21_own)], narrowed := true }
def HistoryBoundsUptoSaid : Prop := historyBoundsUptoRow.holds Tryd.pinned (OpenSpec.upto historyBoundsSpec)

/-- 'testgatelaw21.HistoryNear', WHERE WHAT IT READS IS OF BULK AT MOST 1048576: true; the input reads as it did. -/
def historyNearUptoRow : OpenClaim := { program := "ytkhebelajdcjgaadoor", sum := "f5120f868db911fd1a493265b44533f4df6e41c534afbdee2415708d9d21a35b", func := "testgate/testgatelaw21.HistoryNear", spec := "historyNear", named := ["testgate/testgatelaw21.own"], apart := false, laid := [("testgate/testgatelaw21.own", laid_testgate_testgatelaw21_own)], narrowed := true }
def HistoryNearUptoSaid : Prop := historyNearUptoRow.holds Tryd.pinned (OpenSpec.upto historyNearSpec)

/-- 'testgatelaw21.HistoryFew', WHERE WHAT IT READS IS OF BULK AT MOST 1048576: true; the input reads as it did. -/
def historyFewUptoRow : OpenClaim := { program := "ytkhebelajdcjgaadoor", sum := "f5120f868db911fd1a493265b44533f4df6e41c534afbdee2415708d9d21a35b", func := "testgate/testgatelaw21.HistoryFew", spec := "historyFew", named := ["testgate/testgatelaw21.own"], apart := false, laid := [("testgate/testgatelaw21.own", laid_testgate_testgatelaw21_own)], narrowed := true }
def HistoryFewUptoSaid : Prop := historyFewUptoRow.holds Tryd.pinned (OpenSpec.upto historyFewSpec)

/-- 'testgatelaw21.HistoryExact', WHERE WHAT IT READS IS OF BULK AT MOST 1048576: true; the input reads as it did. -/
def historyExactUptoRow : OpenClaim := { program := "ytkhebelajdcjgaadoor", sum := "f5120f868db911fd1a493265b44533f4df6e41c534afbdee2415708d9d21a35b", func := "testgate/testgatelaw21.HistoryExact", spec := "historyExact", named := ["testgate/testgatelaw21.own"], apart := false, laid := [("testgate/testgatelaw21.own", laid_testgate_testgatelaw21_own)], narrowed := true }
def HistoryExactUptoSaid : Prop := historyExactUptoRow.holds Tryd.pinned (OpenSpec.upto historyExactSpec)

/-- 'testgatelaw21.HistoryGrows', WHERE WHAT IT READS IS OF BULK AT MOST 1048576: true; the input reads as it did. -/
def historyGrowsUptoRow : OpenClaim := { program := "ytkhebelajdcjgaadoor", sum := "f5120f868db911fd1a493265b44533f4df6e41c534afbdee2415708d9d21a35b", func := "testgate/testgatelaw21.HistoryGrows", spec := "historyGrows", named := ["testgate/testgatelaw21.own"], apart := false, laid := [("testgate/testgatelaw21.own", laid_testgate_testgatelaw21_own)], narrowed := true }
def HistoryGrowsUptoSaid : Prop := historyGrowsUptoRow.holds Tryd.pinned (OpenSpec.upto historyGrowsSpec)

end Rows
end Go.Proofs.YtkhebelajdcjgaaDoor
