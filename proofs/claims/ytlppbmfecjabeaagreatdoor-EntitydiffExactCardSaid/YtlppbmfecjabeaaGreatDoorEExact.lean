/- EntitydiffExact returns true for every input and leaves its arguments as they were. No condition. -/
import Derived.Test.YtlppbmfecjabeaaGreatDoorE7
set_option linter.all false
set_option maxRecDepth 100000
namespace Go.Proofs.YtlppbmfecjabeaaGreatDoor
open Go Go.Cl Go.ChangeShapes Go.WideShapes Go.RowKit Go.ChangeAt Go.ChangeMaps Go.Joins
theorem a3P (os:Os) (cV:os.Started) (H:Type) (enc:TypeId × Value→H) :
 ReturnsInHanded {} Tryz.checked os 6 .any (fun w args=>(Rows.entitydiffExactSpec.pre enc Tryz.prog Tryz.f6 [] false w args∧laidMetH Tryz.prog a9y w)∧sizedMet enc Tryz.prog Tryz.f6 (OpenSpec.ofChange Rows.entitydiffExactSpec) false w args)
  (Rows.entitydiffExactSpec.post enc Tryz.prog Tryz.f6 false true false false):=by
 refine c03 (CX:=CC) (tb:=4) #[.slice none 0 0,.slice none 0 0] 8 (World.laidAll Tryz.prog os a9y) rfl e0s cV (by kernel_rfl) Tryz.func6 c6j
  (d0B (by kernel_rfl)) rfl (fun ds hd=>?_) (by kernel_rfl) Tryz.underlying4 (fun W h=>d7A h) (World.laidAll_os _ _ _) (World.shaped_of_ZipB (by kernel_rfl) (by kernel_rfl)) (by kernel_rfl) (by kernel_rfl) (by kernel_rfl) (d7B os _) ?_
 ·rw [show Tryz.f6.params.size=2 by kernel_rfl] at hd
  match ds,hd with
  | [_,_],_=>rfl
 ·intro W base args ds ps bH hA
  rw [Tryz.params6] at hA bH
  obtain ⟨v0,v1,d0,d1,p0,p1,rfl,rfl,rfl,h0,h1⟩:=trodAll_two hA
  obtain ⟨l0,nn0,rv0,len0,fit0⟩:=d8r (bH 0 _ _ rfl rfl) h0
  obtain ⟨l1,nn1,rv1⟩:=d2W (bH 1 _ _ rfl rfl) h1
  exact ⟨_,rfl,e1l rv0 rv1,a60 l0 nn0 len0 l1 nn1 []⟩
theorem a4q:Rows.EntitydiffExactSaid :=
 OpenClaim.holds_of_wide 6 Tryz.f6 rfl rfl rfl rfl rfl rfl rfl ⟨rfl,rfl,rfl,rfl,rfl⟩ rfl rfl rfl rfl rfl (by kernel_rfl) Tryz.func6 c8z
  (of_decide_eq_true (by kernel_rfl)) (by unfold Func.isWrapper; first|(rw [if_pos (by decide +kernel)]; kernel_rfl)|(rw [if_neg (by decide +kernel)]; exact ⟨rfl,rfl⟩))
  (fun os cV H enc _=>a3P os cV H enc)
theorem entitydiffExact_card:Rows.EntitydiffExactCardSaid :=
 Claim7.holds_tied_plain_at .later [] _ _ _ _
  a4q (fun _ h=>by cases h) (by kernel_rfl) (fun _ h=>by cases h) entitydiffExact_row_tie rfl ⟨rfl,rfl⟩ d8K rfl
  (fun f fn hf cB=>by
   obtain rfl : f = 6 := Option.some.inj ((show Tryz.prog.funcNamed "testgate/testgatelaw16.EntitydiffExact" = some 6 by kernel_rfl).symm.trans hf) |>.symm
   obtain rfl:fn=Tryz.f6:=(Option.some.inj (Tryz.func6.symm.trans cB)).symm
   exact ⟨d3q,fun j t ht=>by
    rw [Tryz.params6] at ht
    have hm:t∈[22,36]:=by simpa using Array.mem_of_getElem? ht
    have bq:([22,36].all fun u=>!Tryz.prog.wantsStandIn u)=true:=by kernel_rfl
    exact (show Tryz.prog.wantsStandIn t=false by simpa using List.all_eq_true.1 bq t hm)⟩)
  d7R
#print axioms entitydiffExact_card
end Go.Proofs.YtlppbmfecjabeaaGreatDoor
