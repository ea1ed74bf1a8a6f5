/- FactApart returns true for every input and leaves its arguments as they were. No condition. -/
import Derived.Test.YtlppbmfecjabeaaGreatDoorY7
namespace Go.Proofs.YtlppbmfecjabeaaGreatDoor
open Go Go.Cl Go.ChangeShapes Go.WideShapes Go.RowKit Go.ChangeAt Go.ChangeMaps Go.Joins
set_option maxRecDepth 100000
theorem a8c (os:Os) (started:os.Started) (H:Type) (enc:TypeId × Value→H) :
 ReturnsInHanded {} Tryz.checked os 4 .any (fun w args=>(Rows.factApartSpec.pre enc Tryz.prog Tryz.f4 [] false w args∧laidMetH Tryz.prog a8K w)∧sizedMet enc Tryz.prog Tryz.f4 (OpenSpec.ofChange Rows.factApartSpec) false w args)
  (Rows.factApartSpec.post enc Tryz.prog Tryz.f4 false true false false):=by
 refine b8w (CX:=CC) (tb:=4) #[.slice none 0 0,.string ⟨#[]⟩] 8 (World.laidAll Tryz.prog os a8K) rfl d5U started (by kernel_rfl) Tryz.func4 c2g
  (c5u (by kernel_rfl)) rfl (fun ds hd=>?_) (by kernel_rfl) Tryz.underlying4 (fun W h=>d3r h) (World.laidAll_os _ _ _) (World.shaped_of_ZipB (by kernel_rfl) (by kernel_rfl)) (by kernel_rfl) (by kernel_rfl) (by kernel_rfl) (d3Q os _) ?_
 ·rw [show Tryz.f4.params.size=2 by kernel_rfl] at hd
  match ds,hd with
  | [_,_],_=>rfl
 ·intro W base args ds ps hval hA
  rw [Tryz.params4] at hA hval
  obtain ⟨v0,v1,d0,d1,p0,p1,rfl,rfl,rfl,h0,h1⟩:=trodAll_two hA
  obtain ⟨l0,nn0,rv0,len0,fit0⟩:=d4l (hval 0 _ _ rfl rfl) h0
  obtain ⟨s1,rv1⟩:=d48 (hval 1 _ _ rfl rfl) h1
  exact ⟨_,rfl,d6b rv0 rv1,b4O l0 nn0 len0 s1 []⟩
theorem a9y:Rows.FactApartSaid :=
 OpenClaim.holds_of_wide 4 Tryz.f4 rfl rfl rfl rfl rfl rfl rfl ⟨rfl,rfl,rfl,rfl,rfl⟩ rfl rfl rfl rfl rfl (by kernel_rfl) Tryz.func4 c6s
  (of_decide_eq_true (by kernel_rfl)) (by unfold Func.isWrapper; first|(rw [if_pos (by decide +kernel)]; kernel_rfl)|(rw [if_neg (by decide +kernel)]; exact ⟨rfl,rfl⟩))
  (fun os started H enc _=>a8c os started H enc)
theorem factApart_card:Rows.FactApartCardSaid :=
 Claim7.holds_tied_plain_at .later [] _ _ _ _
  a9y (fun _ h=>by cases h) (by kernel_rfl) (fun _ h=>by cases h) factApart_row_tie rfl ⟨rfl,rfl⟩ d31 rfl
  (fun f fn hf hfn=>by
   obtain rfl : f = 4 := Option.some.inj ((show Tryz.prog.funcNamed "testgate/testgatelaw11.FactApart" = some 4 by kernel_rfl).symm.trans hf) |>.symm
   obtain rfl:fn=Tryz.f4:=(Option.some.inj (Tryz.func4.symm.trans hfn)).symm
   exact ⟨d0g,fun j t ht=>by
    rw [Tryz.params4] at ht
    have hm:t∈[22,9]:=by simpa using Array.mem_of_getElem? ht
    have hall:([22,9].all fun u=>!Tryz.prog.wantsStandIn u)=true:=by kernel_rfl
    exact (show Tryz.prog.wantsStandIn t=false by simpa using List.all_eq_true.1 hall t hm)⟩)
  d4n
#print axioms factApart_card
end Go.Proofs.YtlppbmfecjabeaaGreatDoor
