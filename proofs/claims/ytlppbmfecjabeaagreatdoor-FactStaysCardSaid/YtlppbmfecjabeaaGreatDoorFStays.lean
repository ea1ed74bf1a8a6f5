/- FactStays returns true for every input and leaves its arguments as they were. No condition. -/
import Derived.Test.YtlppbmfecjabeaaGreatDoorF7
set_option linter.all false
set_option maxRecDepth 100000
namespace Go.Proofs.YtlppbmfecjabeaaGreatDoor
open Go Go.Cl Go.ChangeShapes Go.WideShapes Go.RowKit Go.ChangeAt Go.ChangeMaps Go.Joins
theorem a7r (os:Os) (cL:os.Started) (H:Type) (enc:TypeId × Value→H) :
 ReturnsInHanded {} Tryz.checked os 5 .any (fun w args=>(Rows.factStaysSpec.pre enc Tryz.prog Tryz.f5 [] false w args∧laidMetH Tryz.prog a73 w)∧sizedMet enc Tryz.prog Tryz.f5 (OpenSpec.ofChange Rows.factStaysSpec) false w args)
  (Rows.factStaysSpec.post enc Tryz.prog Tryz.f5 false true false false):=by
 refine b8j (CX:=CC) (tb:=4) #[.slice none 0 0] 8 (World.laidAll Tryz.prog os a73) rfl d6O cL (by kernel_rfl) Tryz.func5 c2r
  (c7v (by kernel_rfl)) rfl (fun ds hd=>?_) (by kernel_rfl) Tryz.underlying4 (fun W h=>d3Q h) (World.laidAll_os _ _ _) (World.shaped_of_ZipB (by kernel_rfl) (by kernel_rfl)) (by kernel_rfl) (by kernel_rfl) (by kernel_rfl) (d3T os _) ?_
 ·rw [show Tryz.f5.params.size=1 by kernel_rfl] at hd
  match ds,hd with
  | [_],_=>rfl
 ·intro W base args ds ps bL hA
  rw [Tryz.params5] at hA bL
  obtain ⟨v0,d0,rfl,rfl,h0⟩:=trodAll_one hA
  obtain ⟨l0,nn0,rv0,len0,fit0⟩:=d3V (bL 0 _ _ rfl rfl) h0
  exact ⟨_,rfl,d7N rv0,b3i l0 nn0 len0 []⟩
theorem a8G:Rows.FactStaysSaid :=
 OpenClaim.holds_of_wide 5 Tryz.f5 rfl rfl rfl rfl rfl rfl rfl ⟨rfl,rfl,rfl,rfl,rfl⟩ rfl rfl rfl rfl rfl (by kernel_rfl) Tryz.func5 c6w
  (of_decide_eq_true (by kernel_rfl)) (by unfold Func.isWrapper; first|(rw [if_pos (by decide +kernel)]; kernel_rfl)|(rw [if_neg (by decide +kernel)]; exact ⟨rfl,rfl⟩))
  (fun os cL H enc _=>a7r os cL H enc)
theorem factStays_card:Rows.FactStaysCardSaid :=
 Claim7.holds_tied_plain_at .later [] _ _ _ _
  a8G (fun _ h=>by cases h) (by kernel_rfl) (fun _ h=>by cases h) factStays_row_tie rfl ⟨rfl,rfl⟩ d4w rfl
  (fun f fn hf cy=>by
   obtain rfl : f = 5 := Option.some.inj ((show Tryz.prog.funcNamed "testgate/testgatelaw11.FactStays" = some 5 by kernel_rfl).symm.trans hf) |>.symm
   obtain rfl:fn=Tryz.f5:=(Option.some.inj (Tryz.func5.symm.trans cy)).symm
   exact ⟨c9m,fun j t ht=>by
    rw [Tryz.params5] at ht
    have hm:t∈[22]:=by simpa using Array.mem_of_getElem? ht
    have bE:([22].all fun u=>!Tryz.prog.wantsStandIn u)=true:=by kernel_rfl
    exact (show Tryz.prog.wantsStandIn t=false by simpa using List.all_eq_true.1 bE t hm)⟩)
  d4M
#print axioms factStays_card
end Go.Proofs.YtlppbmfecjabeaaGreatDoor
