/- StaticDependents returns true for every input and leaves its arguments as they were. No condition. -/
import Derived.Test.YtncmhkpnclafkaaGreatDoorY7
set_option linter.all false
set_option maxRecDepth 100000
namespace Go.Proofs.YtncmhkpnclafkaaGreatDoor
open Go Go.Cl Go.ChangeShapes Go.WideShapes Go.RowKit Go.ChangeAt Go.ChangeMaps Go.Joins
theorem a3E(os:Os)(cU:os.Started)(Jf:Type)(enc:TypeId×Value→Jf):
 ReturnsInHanded {} Tryz.checked os 6 .any (λw args=>(Rows.staticDependentsSpec.pre enc Tryz.prog Tryz.f6 [] false w args∧laidMetH Tryz.prog a9F w)∧sizedMet enc Tryz.prog Tryz.f6 (OpenSpec.ofChange Rows.staticDependentsSpec) false w args)
  (Rows.staticDependentsSpec.post enc Tryz.prog Tryz.f6 false true false false):=by
 refine c1d (CX:=CC) (tb:=4) #[.slice none 0 0] 8 (World.laidAll Tryz.prog os a9F) O e1H cU (by kernel_rfl) Tryz.func6 c5H
  (d1V (by kernel_rfl)) O (λds hd=>?_) (by kernel_rfl) Tryz.underlying4 (λJg h=>e0K h) (World.laidAll_os _ _ _) (World.shaped_of_ZipB (by kernel_rfl) (by kernel_rfl)) (by kernel_rfl) (by kernel_rfl) (by kernel_rfl) (e1a os _) ?_
 .rw [show Tryz.f6.params.size=1 by kernel_rfl]at hd
  match ds,hd with
  | [_],_=>rfl
 .intro Jg base args ds ps bP hA
  rw[Tryz.params6]at hA bP
  obtain⟨v0,d0,rfl,rfl,h0⟩:=trodAll_one hA
  obtain⟨l0,nn0,rv0,len0,fit0⟩:=e0C (bP 0 _ _ O O) h0
  exact⟨_,O,e3a rv0,a54 l0 nn0 len0 []⟩
theorem a38:Rows.StaticDependentsSaid :=
 OpenClaim.holds_of_wide 6 Tryz.f6 O O O O O O O ⟨O,O,O,O,O⟩ O O O O O (by kernel_rfl) Tryz.func6 c8w
  (of_decide_eq_true (by kernel_rfl)) (by unfold Func.isWrapper;first|(rw[if_pos (by decide+kernel)];kernel_rfl)|(rw[if_neg (by decide+kernel)];exact⟨O,O⟩))
  (λos cU Jf enc _=>a3E os cU Jf enc)
theorem staticDependents_card:Rows.StaticDependentsCardSaid :=
 Claim7.holds_tied_plain_at .later [] _ _ _ _
  a38 (λ_ h=>by cases h) (by kernel_rfl) (λ_ h=>by cases h) staticDependents_row_tie O ⟨O,O⟩ e0b O
  (λf fn hf ci=>by
   obtain rfl:f=6:=Option.some.inj ((show Tryz.prog.funcNamed "testgate/testgatelaw17.StaticDependents" =some 6 by kernel_rfl).symm.trans hf) |>.symm
   obtain rfl:fn=Tryz.f6:=(Option.some.inj (Tryz.func6.symm.trans ci)).symm
   exact⟨d6h,λj t ht=>by
    rw[Tryz.params6]at ht
    have hm:t∈[22]:=by simpa using Array.mem_of_getElem? ht
    have bk:([22].all λu=>!Tryz.prog.wantsStandIn u)=true:=by kernel_rfl
    exact(show Tryz.prog.wantsStandIn t=false by simpa using List.all_eq_true.1 bk t hm)⟩)
  d9m
#print axioms staticDependents_card
end Go.Proofs.YtncmhkpnclafkaaGreatDoor
