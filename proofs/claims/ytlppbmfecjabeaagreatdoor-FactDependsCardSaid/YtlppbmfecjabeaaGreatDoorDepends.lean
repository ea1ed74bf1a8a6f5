/- FactDepends returns true for every input and leaves its arguments as they were. No condition. -/
import Derived.Test.YtlppbmfecjabeaaGreatDoorD7
set_option linter.all false
set_option maxRecDepth 100000
namespace Go.Proofs.YtlppbmfecjabeaaGreatDoor
open Go Go.Cl Go.ChangeShapes Go.WideShapes Go.RowKit Go.ChangeAt Go.ChangeMaps Go.Joins
theorem a6D(os:Os)(cP:os.Started)(Jg:Type)(enc:TypeId×Value→Jg):
 ReturnsInHanded {} Tryz.checked os 10 .any (λw args=>(Rows.factDependsSpec.pre enc Tryz.prog Tryz.f10 [] false w args∧laidMetH Tryz.prog a9g w)∧sizedMet enc Tryz.prog Tryz.f10 (OpenSpec.ofChange Rows.factDependsSpec) false w args)
  (Rows.factDependsSpec.post enc Tryz.prog Tryz.f10 false true false false):=by
 refine b90 (CX:=CC) (tb:=4) #[.slice none 0 0] 8 (World.laidAll Tryz.prog os a9g) O d9n cP (by kernel_rfl) Tryz.func10 c35
  (c8p (by kernel_rfl)) O (λds hd=>?_) (by kernel_rfl) Tryz.underlying4 (λJh h=>d7j h) (World.laidAll_os _ _ _) (World.shaped_of_ZipB (by kernel_rfl) (by kernel_rfl)) (by kernel_rfl) (by kernel_rfl) (by kernel_rfl) (d6D os _) ?_
 .rw [show Tryz.f10.params.size=1 by kernel_rfl]at hd
  match ds,hd with
  | [_],_=>rfl
 .intro Jh base args ds ps bI hA
  rw[Tryz.params10]at hA bI
  obtain⟨v0,d0,rfl,rfl,h0⟩:=trodAll_one hA
  obtain⟨l0,nn0,rv0,len0,fit0⟩:=d7c (bI 0 _ _ O O) h0
  exact⟨_,O,e05 rv0,b0v l0 nn0 len0 []⟩
theorem a7y:Rows.FactDependsSaid :=
 OpenClaim.holds_of_wide 10 Tryz.f10 O O O O O O O ⟨O,O,O,O,O⟩ O O O O O (by kernel_rfl) Tryz.func10 c6T
  (of_decide_eq_true (by kernel_rfl)) (by unfold Func.isWrapper;first|(rw[if_pos (by decide+kernel)];kernel_rfl)|(rw[if_neg (by decide+kernel)];exact⟨O,O⟩))
  (λos cP Jg enc _=>a6D os cP Jg enc)
theorem factDepends_card:Rows.FactDependsCardSaid :=
 Claim7.holds_tied_plain_at .later [] _ _ _ _
  a7y (λ_ h=>by cases h) (by kernel_rfl) (λ_ h=>by cases h) factDepends_row_tie O ⟨O,O⟩ d6P O
  (λf fn hf cr=>by
   obtain rfl:f=10:=Option.some.inj ((show Tryz.prog.funcNamed "testgate/testgatelaw11.FactDepends" =some 10 by kernel_rfl).symm.trans hf) |>.symm
   obtain rfl:fn=Tryz.f10:=(Option.some.inj (Tryz.func10.symm.trans cr)).symm
   exact⟨d1j,λj t ht=>by
    rw[Tryz.params10]at ht
    have hm:t∈[22]:=by simpa using Array.mem_of_getElem? ht
    have aK:([22].all λu=>!Tryz.prog.wantsStandIn u)=true:=by kernel_rfl
    exact(show Tryz.prog.wantsStandIn t=false by simpa using List.all_eq_true.1 aK t hm)⟩)
  d6N
#print axioms factDepends_card
end Go.Proofs.YtlppbmfecjabeaaGreatDoor
