/- FactKeys returns true for every input of bulk at most 1048576 and leaves its arguments as they were. -/
import Derived.Test.YtoblbdedgjfeaaaGreatDoorZ7
namespace Go.Proofs.YtoblbdedgjfeaaaGreatDoor
open Go Go.Cl Go.ChangeShapes Go.WideShapes Go.RowKit Go.ChangeAt Go.ChangeMaps Go.Joins
theorem a18:Rows.FactKeysUptoSaid :=
 OpenClaim.holds_of_cond 7 Tryz.f7 rfl rfl rfl rfl rfl rfl rfl ⟨rfl,rfl,rfl,rfl,rfl⟩ rfl rfl rfl rfl rfl (by kernel_rfl) Tryz.func7 b3U
  (of_decide_eq_true (by kernel_rfl)) (by unfold Func.isWrapper; first|(rw [if_pos (by decide +kernel)]; kernel_rfl)|(rw [if_neg (by decide +kernel)]; exact ⟨rfl,rfl⟩))
  (fun os started H enc _ F=>by rw [OpenClaim.pre_eq_preRow]; exact a3P os started H enc F)
theorem factKeysUpto_card:Rows.FactKeysUptoCardSaid :=
 Claim7.holds_tied_plain_at .later [] _ _ _ _ a18 (fun _ h=>by cases h) (by kernel_rfl) (fun _ h=>by cases h) factKeysUpto_row_tie rfl ⟨rfl,rfl⟩ (by kernel_rfl) rfl
  (fun f fn hf hfn=>by
   obtain rfl : f = 7 := Option.some.inj ((show Tryz.prog.funcNamed "testgate/testgatelaw11.FactKeys" = some 7 by kernel_rfl).symm.trans hf) |>.symm
   obtain rfl:fn=Tryz.f7:=(Option.some.inj (Tryz.func7.symm.trans hfn)).symm
   exact ⟨by kernel_rfl,fun j t ht=>by
    rw [Tryz.params7] at ht
    have hm:t∈[22,36]:=by simpa using Array.mem_of_getElem? ht
    have hall:([22,36].all fun u=>!Tryz.prog.wantsStandIn u)=true:=by kernel_rfl
    exact (show Tryz.prog.wantsStandIn t=false by simpa using List.all_eq_true.1 hall t hm)⟩)
  (by kernel_rfl)
#print axioms factKeysUpto_card
end Go.Proofs.YtoblbdedgjfeaaaGreatDoor
