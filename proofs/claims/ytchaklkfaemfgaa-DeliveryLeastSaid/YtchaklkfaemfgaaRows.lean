/-
  No cell of these rows narrows 'for every input' (looked for: loops, veiled, ifaces, maps, wideKeys, modest, calm, conditions, laid).
  DERIVED. THE GIVEN ROWS OF THIS SEAT. 5 by the template 'for every input the law returns true; each argument reads behind the call as it read before'; 0 by the template 'total and deterministic' (their statements: YtchaklkfaemfgaaTotals.lean).
  GIVEN WITH THE SEED: the statements are not yours to turn. If you find one false, say at which input.
  Laid BY PROGRAM, IN A SANDBOX (cutbox-rows.mjs): the forced cells as the released guide's own fill.sh prints them over the translation 0e3cc6957edfe4c1… (all of the seat's roots in one cut). By AI agents, Wed Nov 11 2026. No macro, syntax, notation, axiom, sorry.
-/
import Derived.Test.YtchaklkfaemfgaaChecked
import GoSem.Claim
import GoSem.ClaimJoined
import GoSem.ClaimMapViews
import Derived.JoinedTies
import Derived.KernelRfl
namespace Go.Proofs.Ytchaklkfaemfgaa
/- THE CELL 'sum', in the pinned program and in every row, IS THE sha256 OF THE DUMP (.gsa) THAT YtchaklkfaemfgaaProg.lean LOADS. Nothing in Lean hashes anything: it is a label: what it is worth is what the hold of that sum in a sandbox is worth. -/
noncomputable def Try.pinned : Pinned := { name := "ytchaklkfaemfgaa", sum := "0e3cc6957edfe4c18c8f2f28f93878888e650dcae3a832c6b4aa216eb337a235", checked := Try.checked }
namespace Rows
def none {H : Type} : Left H := { results := [], args := [] }

/-- 'testgatelaw32.DeliveryFull': WHATEVER THE INPUT: true; the input reads as it did. -/
def deliveryFullSpec : ChangeSpec := { name := "deliveryFull", fn := fun _ => fun
  | [d1, d2] => { results := [.lit (.bool true)], args := [d1, d2] }
  | _ => none }
def deliveryFullRow : OpenClaim := { program := "ytchaklkfaemfgaa", sum := "0e3cc6957edfe4c18c8f2f28f93878888e650dcae3a832c6b4aa216eb337a235", func := "testgate/testgatelaw32.DeliveryFull", spec := "deliveryFull", unfollowed := true, recurses := true, plainKeys := false, apart := false }
def DeliveryFullSaid : Prop := deliveryFullRow.holds Try.pinned (OpenSpec.ofChange deliveryFullSpec)

/-- ITS FALSE NEIGHBOUR: 'it returns false'. Refute it at one input. -/
def deliveryFullWrong : ChangeSpec := { name := "deliveryFull", fn := fun _ => fun
  | [d1, d2] => { results := [.lit (.bool false)], args := [d1, d2] }
  | _ => none }
def DeliveryFullWrongFalsely : Prop := deliveryFullRow.holds Try.pinned (OpenSpec.ofChange deliveryFullWrong)

/-- 'testgatelaw32.DeliveryPlays': WHATEVER THE INPUT: true; the input reads as it did. -/
def deliveryPlaysSpec : ChangeSpec := { name := "deliveryPlays", fn := fun _ => fun
  | [d] => { results := [.lit (.bool true)], args := [d] }
  | _ => none }
def deliveryPlaysRow : OpenClaim := { program := "ytchaklkfaemfgaa", sum := "0e3cc6957edfe4c18c8f2f28f93878888e650dcae3a832c6b4aa216eb337a235", func := "testgate/testgatelaw32.DeliveryPlays", spec := "deliveryPlays", unfollowed := true, recurses := true, plainKeys := false, apart := false }
def DeliveryPlaysSaid : Prop := deliveryPlaysRow.holds Try.pinned (OpenSpec.ofChange deliveryPlaysSpec)

/-- ITS FALSE NEIGHBOUR: 'it returns false'. Refute it at one input. -/
def deliveryPlaysWrong : ChangeSpec := { name := "deliveryPlays", fn := fun _ => fun
  | [d] => { results := [.lit (.bool false)], args := [d] }
  | _ => none }
def DeliveryPlaysWrongFalsely : Prop := deliveryPlaysRow.holds Try.pinned (OpenSpec.ofChange deliveryPlaysWrong)

/-- 'testgatelaw32.DeliveryChecks': WHATEVER THE INPUT: true; the input reads as it did. -/
def deliveryChecksSpec : ChangeSpec := { name := "deliveryChecks", fn := fun _ => fun
  | [d1, d2, d3, d4, d5] => { results := [.lit (.bool true)], args := [d1, d2, d3, d4, d5] }
  | _ => none }
def deliveryChecksRow : OpenClaim := { program := "ytchaklkfaemfgaa", sum := "0e3cc6957edfe4c18c8f2f28f93878888e650dcae3a832c6b4aa216eb337a235", func := "testgate/testgatelaw32.DeliveryChecks", spec := "deliveryChecks", unfollowed := true, recurses := true, plainKeys := false, apart := false }
def DeliveryChecksSaid : Prop := deliveryChecksRow.holds Try.pinned (OpenSpec.ofChange deliveryChecksSpec)

/-- ITS FALSE NEIGHBOUR: 'it returns false'. Refute it at one input. -/
def deliveryChecksWrong : ChangeSpec := { name := "deliveryChecks", fn := fun _ => fun
  | [d1, d2, d3, d4, d5] => { results := [.lit (.bool false)], args := [d1, d2, d3, d4, d5] }
  | _ => none }
def DeliveryChecksWrongFalsely : Prop := deliveryChecksRow.holds Try.pinned (OpenSpec.ofChange deliveryChecksWrong)

/-- 'testgatelaw32.DeliveryBoxes': WHATEVER THE INPUT: true; the input reads as it did. -/
def deliveryBoxesSpec : ChangeSpec := { name := "deliveryBoxes", fn := fun _ => fun
  | [d] => { results := [.lit (.bool true)], args := [d] }
  | _ => none }
def deliveryBoxesRow : OpenClaim := { program := "ytchaklkfaemfgaa", sum := "0e3cc6957edfe4c18c8f2f28f93878888e650dcae3a832c6b4aa216eb337a235", func := "testgate/testgatelaw32.DeliveryBoxes", spec := "deliveryBoxes", unfollowed := true, recurses := true, plainKeys := false, apart := false }
def DeliveryBoxesSaid : Prop := deliveryBoxesRow.holds Try.pinned (OpenSpec.ofChange deliveryBoxesSpec)

/-- ITS FALSE NEIGHBOUR: 'it returns false'. Refute it at one input. -/
def deliveryBoxesWrong : ChangeSpec := { name := "deliveryBoxes", fn := fun _ => fun
  | [d] => { results := [.lit (.bool false)], args := [d] }
  | _ => none }
def DeliveryBoxesWrongFalsely : Prop := deliveryBoxesRow.holds Try.pinned (OpenSpec.ofChange deliveryBoxesWrong)

/-- 'testgatelaw32.DeliveryLeast': WHATEVER THE INPUT: true; the input reads as it did. -/
def deliveryLeastSpec : ChangeSpec := { name := "deliveryLeast", fn := fun _ => fun
  | [d1, d2] => { results := [.lit (.bool true)], args := [d1, d2] }
  | _ => none }
def deliveryLeastRow : OpenClaim := { program := "ytchaklkfaemfgaa", sum := "0e3cc6957edfe4c18c8f2f28f93878888e650dcae3a832c6b4aa216eb337a235", func := "testgate/testgatelaw32.DeliveryLeast", spec := "deliveryLeast", unfollowed := true, recurses := true, plainKeys := false, apart := false }
def DeliveryLeastSaid : Prop := deliveryLeastRow.holds Try.pinned (OpenSpec.ofChange deliveryLeastSpec)

/-- ITS FALSE NEIGHBOUR: 'it returns false'. Refute it at one input. -/
def deliveryLeastWrong : ChangeSpec := { name := "deliveryLeast", fn := fun _ => fun
  | [d1, d2] => { results := [.lit (.bool false)], args := [d1, d2] }
  | _ => none }
def DeliveryLeastWrongFalsely : Prop := deliveryLeastRow.holds Try.pinned (OpenSpec.ofChange deliveryLeastWrong)

/- THE SECOND FORM. 'bulk': how many values and letters a reading holds, each counted each time it is reached (what is shared counts as often as it is met; a slice's spare places count too). A statement '..UptoSaid' is the law's where the arguments, and the package variables that the reading takes, are together of bulk at most 1048576: NARROWER than '..Said'. Prove '..Said' where nothing that the law and all that it calls make is longer than what came in: it says more and counts as full. Else prove '..UptoSaid'. A law counts once. -/
mutual
def uptoBulk {H : Type} : DataW H → Nat
  | .lit (.string bytes) => bytes.length + 1
  | .lit _ => 1
  | .nil => 1
  | .ptr d => uptoBulk d + 1
  | .slice elems spare => uptoBulkAll elems + uptoBulkAll spare + 1
  | .agg parts => uptoBulkAll parts + 1
  | .iface _ d => uptoBulk d + 1
  | .map entries => uptoBulkEntries entries + 1
  | .held _ => 1
def uptoBulkAll {H : Type} : List (DataW H) → Nat
  | [] => 0
  | d :: r => uptoBulk d + uptoBulkAll r
def uptoBulkEntries {H : Type} : List (Lit × DataW H) → Nat
  | [] => 0
  | x :: r => uptoBulkEntry x + uptoBulkEntries r
def uptoBulkEntry {H : Type} : Lit × DataW H → Nat
  | (.string bytes, d) => bytes.length + uptoBulk d + 1
  | (_, d) => uptoBulk d + 1
 end
def uptoSmall : (H : Type) → List (DataW H) → Bool := fun _ ds => decide (uptoBulkAll ds ≤ 1048576)
def OpenSpec.upto (s : _root_.Go.ChangeSpec) : _root_.Go.OpenSpec := { _root_.Go.OpenSpec.ofChange s with cond := some uptoSmall }

/-- 'testgatelaw32.DeliveryFull', WHERE WHAT IT READS IS OF BULK AT MOST 1048576: true; the input reads as it did. -/
def deliveryFullUptoRow : OpenClaim := { program := "ytchaklkfaemfgaa", sum := "0e3cc6957edfe4c18c8f2f28f93878888e650dcae3a832c6b4aa216eb337a235", func := "testgate/testgatelaw32.DeliveryFull", spec := "deliveryFull", unfollowed := true, recurses := true, plainKeys := false, apart := false, narrowed := true }
def DeliveryFullUptoSaid : Prop := deliveryFullUptoRow.holds Try.pinned (OpenSpec.upto deliveryFullSpec)

/-- 'testgatelaw32.DeliveryPlays', WHERE WHAT IT READS IS OF BULK AT MOST 1048576: true; the input reads as it did. -/
def deliveryPlaysUptoRow : OpenClaim := { program := "ytchaklkfaemfgaa", sum := "0e3cc6957edfe4c18c8f2f28f93878888e650dcae3a832c6b4aa216eb337a235", func := "testgate/testgatelaw32.DeliveryPlays", spec := "deliveryPlays", unfollowed := true, recurses := true, plainKeys := false, apart := false, narrowed := true }
def DeliveryPlaysUptoSaid : Prop := deliveryPlaysUptoRow.holds Try.pinned (OpenSpec.upto deliveryPlaysSpec)

/-- 'testgatelaw32.DeliveryChecks', WHERE WHAT IT READS IS OF BULK AT MOST 1048576: true; the input reads as it did. -/
def deliveryChecksUptoRow : OpenClaim := { program := "ytchaklkfaemfgaa", sum := "0e3cc6957edfe4c18c8f2f28f93878888e650dcae3a832c6b4aa216eb337a235", func := "testgate/testgatelaw32.DeliveryChecks", spec := "deliveryChecks", unfollowed := true, recurses := true, plainKeys := false, apart := false, narrowed := true }
def DeliveryChecksUptoSaid : Prop := deliveryChecksUptoRow.holds Try.pinned (OpenSpec.upto deliveryChecksSpec)

/-- 'testgatelaw32.DeliveryBoxes', WHERE WHAT IT READS IS OF BULK AT MOST 1048576: true; the input reads as it did. -/
def deliveryBoxesUptoRow : OpenClaim := { program := "ytchaklkfaemfgaa", sum := "0e3cc6957edfe4c18c8f2f28f93878888e650dcae3a832c6b4aa216eb337a235", func := "testgate/testgatelaw32.DeliveryBoxes", spec := "deliveryBoxes", unfollowed := true, recurses := true, plainKeys := false, apart := false, narrowed := true }
def DeliveryBoxesUptoSaid : Prop := deliveryBoxesUptoRow.holds Try.pinned (OpenSpec.upto deliveryBoxesSpec)

/-- 'testgatelaw32.DeliveryLeast', WHERE WHAT IT READS IS OF BULK AT MOST 1048576: true; the input reads as it did. -/
def deliveryLeastUptoRow : OpenClaim := { program := "ytchaklkfaemfgaa", sum := "0e3cc6957edfe4c18c8f2f28f93878888e650dcae3a832c6b4aa216eb337a235", func := "testgate/testgatelaw32.DeliveryLeast", spec := "deliveryLeast", unfollowed := true, recurses := true, plainKeys := false, apart := false, narrowed := true }
def DeliveryLeastUptoSaid : Prop := deliveryLeastUptoRow.holds Try.pinned (OpenSpec.upto deliveryLeastSpec)

end Rows
end Go.Proofs.Ytchaklkfaemfgaa
