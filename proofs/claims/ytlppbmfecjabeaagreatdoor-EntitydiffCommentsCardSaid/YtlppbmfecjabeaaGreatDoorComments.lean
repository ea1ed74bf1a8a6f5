/- EntitydiffComments returns true for every input and leaves its arguments as they were. No condition. -/
import Derived.Test.YtlppbmfecjabeaaGreatDoorV6
namespace Go.Proofs.YtlppbmfecjabeaaGreatDoor
open Go Go.Cl Go.ChangeShapes Go.WideShapes Go.RowKit Go.ChangeAt Go.ChangeMaps Go.Joins
set_option maxRecDepth 100000
theorem entitydiffComments_lifted (os:Os) (started:os.Started) (H:Type) (enc:TypeId × Value→H) :
 ReturnsInHanded {} Tryz.checked os 8 .any (fun w args=>(Rows.entitydiffCommentsSpec.pre enc Tryz.prog Tryz.f8 [] false w args∧laidMetH Tryz.prog laidL w)∧sizedMet enc Tryz.prog Tryz.f8 (OpenSpec.ofChange Rows.entitydiffCommentsSpec) false w args)
  (Rows.entitydiffCommentsSpec.post enc Tryz.prog Tryz.f8 false true false false):=by
 refine law_lifted (CX:=CC) (tb:=4) #[.slice none 0 0] 8 (World.laidAll Tryz.prog os laidL) rfl r_own started (by kernel_rfl) Tryz.func8 r_laidOut
  (read_all (by kernel_rfl)) rfl (fun ds hd=>?_) (by kernel_rfl) Tryz.underlying4 (fun W h=>r_glob h) (World.laidAll_os _ _ _) (World.shaped_of_ZipB (by kernel_rfl) (by kernel_rfl)) (by kernel_rfl) (by kernel_rfl) (by kernel_rfl) (r_door os _) ?_
 ·rw [show Tryz.f8.params.size=1 by kernel_rfl] at hd
  match ds,hd with
  | [_],_=>rfl
 ·intro W base args ds ps hval hA
  rw [Tryz.params8] at hA hval
  obtain ⟨v0,d0,rfl,rfl,h0⟩:=trodAll_one hA
  obtain ⟨l0,nn0,rv0,len0,fit0⟩:=a_ints (hval 0 _ _ rfl rfl) h0
  exact ⟨_,rfl,rvs1 rv0,l6_EntitydiffComments l0 nn0 len0 []⟩
theorem entitydiffComments_holds:Rows.EntitydiffCommentsSaid :=
 OpenClaim.holds_of_wide 8 Tryz.f8 rfl rfl rfl rfl rfl rfl rfl ⟨rfl,rfl,rfl,rfl,rfl⟩ rfl rfl rfl rfl rfl (by kernel_rfl) Tryz.func8 j_closed
  (of_decide_eq_true (by kernel_rfl)) (by unfold Func.isWrapper; first|(rw [if_pos (by decide +kernel)]; kernel_rfl)|(rw [if_neg (by decide +kernel)]; exact ⟨rfl,rfl⟩))
  (fun os started H enc _=>entitydiffComments_lifted os started H enc)
theorem entitydiffComments_card:Rows.EntitydiffCommentsCardSaid :=
 Claim7.holds_tied_plain_at .later [] _ _ _ _
  entitydiffComments_holds (fun _ h=>by cases h) (by kernel_rfl) (fun _ h=>by cases h) entitydiffComments_row_tie rfl ⟨rfl,rfl⟩ c_main rfl
  (fun f fn hf hfn=>by
   obtain rfl : f = 8 := Option.some.inj ((show Tryz.prog.funcNamed "testgate/testgatelaw16.EntitydiffComments" = some 8 by kernel_rfl).symm.trans hf) |>.symm
   obtain rfl:fn=Tryz.f8:=(Option.some.inj (Tryz.func8.symm.trans hfn)).symm
   exact ⟨c_looks,fun j t ht=>by
    rw [Tryz.params8] at ht
    have hm:t∈[22]:=by simpa using Array.mem_of_getElem? ht
    have hall:([22].all fun u=>!Tryz.prog.wantsStandIn u)=true:=by kernel_rfl
    exact (show Tryz.prog.wantsStandIn t=false by simpa using List.all_eq_true.1 hall t hm)⟩)
  c_goes
#print axioms entitydiffComments_card
end Go.Proofs.YtlppbmfecjabeaaGreatDoor
