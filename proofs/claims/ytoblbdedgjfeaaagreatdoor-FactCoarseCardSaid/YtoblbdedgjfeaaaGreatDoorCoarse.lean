/- FactCoarse returns true for every input and leaves its arguments as they were. No condition. -/
import Derived.Test.YtoblbdedgjfeaaaGreatDoorZ7
namespace Go.Proofs.YtoblbdedgjfeaaaGreatDoor
open Go Go.Cl Go.ChangeShapes Go.WideShapes Go.RowKit Go.ChangeAt Go.ChangeMaps Go.Joins
set_option maxRecDepth 100000 in
theorem a2O (os:Os) (started:os.Started) (H:Type) (enc:TypeId × Value→H) :
 ReturnsInHanded {} Tryz.checked os 4 .any (fun w args=>(Rows.factCoarseSpec.pre enc Tryz.prog Tryz.f4 [] false w args∧laidMetH Tryz.prog a30 w)∧sizedMet enc Tryz.prog Tryz.f4 (OpenSpec.ofChange Rows.factCoarseSpec) false w args)
  (Rows.factCoarseSpec.post enc Tryz.prog Tryz.f4 false true false false):=by
 refine b0k (CX:=CC) (tb:=4) #[.slice none 0 0] 8 (World.laidAll Tryz.prog os a30) rfl b76 started (by kernel_rfl) Tryz.func4 b2X
  (b5Q (by kernel_rfl)) rfl (fun ds hd=>?_) (by kernel_rfl) Tryz.underlying4 (fun W h=>b7l h) (World.laidAll_os _ _ _) (World.shaped_of_ZipB (by kernel_rfl) (by kernel_rfl)) (by kernel_rfl) (by kernel_rfl) (by kernel_rfl) (b7P os _) ?_
 ·rw [show Tryz.f4.params.size=1 by kernel_rfl] at hd
  match ds,hd with
  | [_],_=>rfl
 ·intro W base args ds ps hval hA
  rw [Tryz.params4] at hA hval
  obtain ⟨v0,d0,rfl,rfl,h0⟩:=trodAll_one hA
  obtain ⟨l0,nn0,rv0,len0,fit0⟩:=b7B (hval 0 _ _ rfl rfl) h0
  exact ⟨_,rfl,b9i rv0,a6j l0 nn0 len0 []⟩
theorem a3P:Rows.FactCoarseSaid :=
 OpenClaim.holds_of_wide 4 Tryz.f4 rfl rfl rfl rfl rfl rfl rfl ⟨rfl,rfl,rfl,rfl,rfl⟩ rfl rfl rfl rfl rfl (by kernel_rfl) Tryz.func4 (by kernel_rfl)
  (of_decide_eq_true (by kernel_rfl)) (by unfold Func.isWrapper; first|(rw [if_pos (by decide +kernel)]; kernel_rfl)|(rw [if_neg (by decide +kernel)]; exact ⟨rfl,rfl⟩))
  (fun os started H enc _=>a2O os started H enc)
theorem factCoarse_card:Rows.FactCoarseCardSaid :=
 Claim7.holds_tied_plain_at .later [] [.data, .data, .data, .data, .pinned] true (true, "0b54aec0492e0b603f1cbaa5b5f8abb49e5f2b7b916c8a7fd6704b9a4287ae44") true
  a3P (fun _ h=>by cases h) (by kernel_rfl) (fun _ h=>by cases h) factCoarse_row_tie rfl ⟨rfl,rfl⟩ (by kernel_rfl) rfl
  (fun f fn hf hfn=>by
   obtain rfl : f = 4 := Option.some.inj ((show Tryz.prog.funcNamed "testgate/testgatelaw11.FactCoarse" = some 4 by kernel_rfl).symm.trans hf) |>.symm
   obtain rfl:fn=Tryz.f4:=(Option.some.inj (Tryz.func4.symm.trans hfn)).symm
   exact ⟨by kernel_rfl,fun j t ht=>by
    rw [Tryz.params4] at ht
    have hm:t∈[22]:=by simpa using Array.mem_of_getElem? ht
    have hall:([22].all fun u=>!Tryz.prog.wantsStandIn u)=true:=by kernel_rfl
    exact (show Tryz.prog.wantsStandIn t=false by simpa using List.all_eq_true.1 hall t hm)⟩)
  (by kernel_rfl)
#print axioms factCoarse_card
end Go.Proofs.YtoblbdedgjfeaaaGreatDoor
