/- StaticCovers returns true for every input and leaves its arguments as they were. No condition. -/
import Derived.Test.YtncmhkpnclafkaaGreatDoorC7
set_option linter.all false
set_option maxRecDepth 100000
namespace Go.Proofs.YtncmhkpnclafkaaGreatDoor
open Go Go.Cl Go.ChangeShapes Go.WideShapes Go.RowKit Go.ChangeAt Go.ChangeMaps Go.Joins
theorem a5N(os:Os)(cQ:os.Started)(Jg:Type)(enc:TypeId×Value→Jg):
 ReturnsInHanded {} Tryz.checked os 4 .any (λw args=>(Rows.staticCoversSpec.pre enc Tryz.prog Tryz.f4 [] false w args∧laidMetH Tryz.prog a83 w)∧sizedMet enc Tryz.prog Tryz.f4 (OpenSpec.ofChange Rows.staticCoversSpec) false w args)
  (Rows.staticCoversSpec.post enc Tryz.prog Tryz.f4 false true false false):=by
 refine c1f (CX:=CC) (tb:=4) #[.slice none 0 0,.int .u64 0] 8 (World.laidAll Tryz.prog os a83) G e1x cQ (by kernel_rfl) Tryz.func4 c4x
  (c8S (by kernel_rfl)) G (λds hd=>?_) (by kernel_rfl) Tryz.underlying4 (λJh h=>e0s h) (World.laidAll_os _ _ _) (World.shaped_of_ZipB (by kernel_rfl) (by kernel_rfl)) (by kernel_rfl) (by kernel_rfl) (by kernel_rfl) (e0h os _) ?_
 .rw [show Tryz.f4.params.size=2 by kernel_rfl]at hd
  match ds,hd with
  | [_,_],_=>rfl
 .intro Jh base args ds ps bI hA
  rw[Tryz.params4]at hA bI
  obtain⟨v0,v1,d0,d1,p0,p1,rfl,rfl,rfl,h0,h1⟩:=trodAll_two hA
  obtain⟨l0,nn0,rv0,len0,fit0⟩:=d9H (bI 0 _ _ G G) h0
  obtain⟨n1,rv1,rg1⟩:=e0P (bI 1 _ _ G G) h1
  exact⟨_,G,e3y rv0 rv1,a9R l0 nn0 len0 n1 rg1 []⟩
theorem a6p:Rows.StaticCoversSaid :=
 OpenClaim.holds_of_wide 4 Tryz.f4 G G G G G G G ⟨G,G,G,G,G⟩ G G G G G (by kernel_rfl) Tryz.func4 d0R
  (of_decide_eq_true (by kernel_rfl)) (by unfold Func.isWrapper;first|(rw[if_pos (by decide+kernel)];kernel_rfl)|(rw[if_neg (by decide+kernel)];exact⟨G,G⟩))
  (λos cQ Jg enc _=>a5N os cQ Jg enc)
theorem staticCovers_card:Rows.StaticCoversCardSaid :=
 Claim7.holds_tied_plain_at .later [] _ _ _ _
  a6p (λ_ h=>by cases h) (by kernel_rfl) (λ_ h=>by cases h) staticCovers_row_tie G ⟨G,G⟩ d9R G
  (λf fn hf cu=>by
   obtain rfl:f=4:=Option.some.inj ((show Tryz.prog.funcNamed "testgate/testgatelaw17.StaticCovers" =some 4 by kernel_rfl).symm.trans hf) |>.symm
   obtain rfl:fn=Tryz.f4:=(Option.some.inj (Tryz.func4.symm.trans cu)).symm
   exact⟨d5l,λj t ht=>by
    rw[Tryz.params4]at ht
    have hm:t∈[22,55]:=by simpa using Array.mem_of_getElem? ht
    have bx:([22,55].all λJj=>!Tryz.prog.wantsStandIn Jj)=true:=by kernel_rfl
    exact(show Tryz.prog.wantsStandIn t=false by simpa using List.all_eq_true.1 bx t hm)⟩)
  d9s
#print axioms staticCovers_card
end Go.Proofs.YtncmhkpnclafkaaGreatDoor
