/- EntitydiffKeys returns true for every input of bulk at most 1048576 and leaves its arguments as they were. -/
import Derived.Test.YtlppbmfecjabeaaGreatDoorG7
set_option linter.all false
set_option maxRecDepth 100000
namespace Go.Proofs.YtlppbmfecjabeaaGreatDoor
open Go Go.Cl Go.ChangeShapes Go.WideShapes Go.RowKit Go.ChangeAt Go.ChangeMaps Go.Joins
theorem a3q:Rows.EntitydiffKeysUptoSaid :=
 OpenClaim.holds_of_cond 9 Tryz.f9 J J J J J J J ⟨J,J,J,J,J⟩ J J J J J (by kernel_rfl) Tryz.func9 d3V
  (of_decide_eq_true (by kernel_rfl)) (by unfold Func.isWrapper;first|(rw[if_pos (by decide+kernel)];kernel_rfl)|(rw[if_neg (by decide+kernel)];exact⟨J,J⟩))
  (λos cZ Jj enc _ Jh=>by rw[OpenClaim.pre_eq_preRow];exact a4X os cZ Jj enc Jh)
theorem entitydiffKeysUpto_card:Rows.EntitydiffKeysUptoCardSaid :=
 Claim7.holds_tied_plain_at .later [] _ _ _ _ a3q (λ_ h=>by cases h) (by kernel_rfl) (λ_ h=>by cases h) entitydiffKeysUpto_row_tie J ⟨J,J⟩ e0W J
  (λf fn hf ck=>by
   obtain rfl:f=9:=Option.some.inj ((show Tryz.prog.funcNamed "testgate/testgatelaw16.EntitydiffKeys" =some 9 by kernel_rfl).symm.trans hf) |>.symm
   obtain rfl:fn=Tryz.f9:=(Option.some.inj (Tryz.func9.symm.trans ck)).symm
   exact⟨d6m,λj t ht=>by
    rw[Tryz.params9]at ht
    have hm:t∈[22,32,25]:=by simpa using Array.mem_of_getElem? ht
    have bv:([22,32,25].all λu=>!Tryz.prog.wantsStandIn u)=true:=by kernel_rfl
    exact(show Tryz.prog.wantsStandIn t=false by simpa using List.all_eq_true.1 bv t hm)⟩)
  e0G
#print axioms entitydiffKeysUpto_card
end Go.Proofs.YtlppbmfecjabeaaGreatDoor
