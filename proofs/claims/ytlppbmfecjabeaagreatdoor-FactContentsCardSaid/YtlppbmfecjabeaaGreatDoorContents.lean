/- FactContents returns true for every input and leaves its arguments as they were. No condition. -/
import Derived.Test.YtlppbmfecjabeaaGreatDoorC7
set_option linter.all false
set_option maxRecDepth 100000
namespace Go.Proofs.YtlppbmfecjabeaaGreatDoor
open Go Go.Cl Go.ChangeShapes Go.WideShapes Go.RowKit Go.ChangeAt Go.ChangeMaps Go.Joins
theorem a6k (os:Os) (started:os.Started) (H:Type) (enc:TypeId × Value→H) :
 ReturnsInHanded {} Tryz.checked os 3 .any (fun w args=>(Rows.factContentsSpec.pre enc Tryz.prog Tryz.f3 [] false w args∧laidMetH Tryz.prog a9M w)∧sizedMet enc Tryz.prog Tryz.f3 (OpenSpec.ofChange Rows.factContentsSpec) false w args)
  (Rows.factContentsSpec.post enc Tryz.prog Tryz.f3 false true false false):=by
 refine c0v (CX:=CC) (tb:=4) #[.slice none 0 0,.agg #[.slice none 0 0],.slice none 0 0] 8 (World.laidAll Tryz.prog os a9M) rfl d8J started (by kernel_rfl) Tryz.func3 c4O
  (c6b (by kernel_rfl)) rfl (fun ds hd=>?_) (by kernel_rfl) Tryz.underlying4 (fun W h=>d8h h) (World.laidAll_os _ _ _) (World.shaped_of_ZipB (by kernel_rfl) (by kernel_rfl)) (by kernel_rfl) (by kernel_rfl) (by kernel_rfl) (d7H os _) ?_
 ·rw [show Tryz.f3.params.size=3 by kernel_rfl] at hd
  match ds,hd with
  | [_,_,_],_=>rfl
 ·intro W base args ds ps hval hA
  rw [Tryz.params3] at hA hval
  obtain ⟨v0,v1,v2,d0,d1,d2,p0,p1,p2,rfl,rfl,rfl,h0,h1,h2⟩:=trodAll_three hA
  obtain ⟨l0,nn0,rv0,len0,fit0⟩:=d7g (hval 0 _ _ rfl rfl) h0
  obtain ⟨l1,nn1,rv1,rg1⟩:=d8s (hval 1 _ _ rfl rfl) h1
  obtain ⟨l2,nn2,rv2⟩:=d8c (hval 2 _ _ rfl rfl) h2
  exact ⟨_,rfl,e0p rv0 rv1 rv2,b0b l0 nn0 len0 l1 nn1 rg1 l2 nn2 []⟩
theorem a7d:Rows.FactContentsSaid :=
 OpenClaim.holds_of_wide 3 Tryz.f3 rfl rfl rfl rfl rfl rfl rfl ⟨rfl,rfl,rfl,rfl,rfl⟩ rfl rfl rfl rfl rfl (by kernel_rfl) Tryz.func3 c6j
  (of_decide_eq_true (by kernel_rfl)) (by unfold Func.isWrapper; first|(rw [if_pos (by decide +kernel)]; kernel_rfl)|(rw [if_neg (by decide +kernel)]; exact ⟨rfl,rfl⟩))
  (fun os started H enc _=>a6k os started H enc)
theorem factContents_card:Rows.FactContentsCardSaid :=
 Claim7.holds_tied_plain_at .later [] _ _ _ _
  a7d (fun _ h=>by cases h) (by kernel_rfl) (fun _ h=>by cases h) factContents_row_tie rfl ⟨rfl,rfl⟩ d7E rfl
  (fun f fn hf hfn=>by
   obtain rfl : f = 3 := Option.some.inj ((show Tryz.prog.funcNamed "testgate/testgatelaw11.FactContents" = some 3 by kernel_rfl).symm.trans hf) |>.symm
   obtain rfl:fn=Tryz.f3:=(Option.some.inj (Tryz.func3.symm.trans hfn)).symm
   exact ⟨d2e,fun j t ht=>by
    rw [Tryz.params3] at ht
    have hm:t∈[22,25,26]:=by simpa using Array.mem_of_getElem? ht
    have hall:([22,25,26].all fun u=>!Tryz.prog.wantsStandIn u)=true:=by kernel_rfl
    exact (show Tryz.prog.wantsStandIn t=false by simpa using List.all_eq_true.1 hall t hm)⟩)
  d8j
#print axioms factContents_card
end Go.Proofs.YtlppbmfecjabeaaGreatDoor
