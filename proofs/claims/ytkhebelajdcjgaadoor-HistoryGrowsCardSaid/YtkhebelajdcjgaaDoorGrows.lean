/- HistoryGrows returns true for every input and leaves its arguments as they were. No condition. -/
import Derived.Test.YtkhebelajdcjgaaDoorShared
import Derived.Test.YtkhebelajdcjgaaDoorH17
namespace Go.Proofs.YtkhebelajdcjgaaDoor
open Go Go.Cl Go.ChangeShapes Go.WideShapes Go.RowKit Go.ChangeAt Go.ChangeMaps Go.Joins

set_option maxRecDepth 100000 in
theorem historyGrows_lifted (os : Os) (started : os.Started) (H : Type) (enc : TypeId × Value → H) :
    ReturnsInHanded {} Tryd.checked os 11 .any (fun w args => (Rows.historyGrowsSpec.pre enc Tryd.prog Tryd.f11 [] false w args ∧ laidMetH Tryd.prog laidL w) ∧ sizedMet enc Tryd.prog Tryd.f11 (OpenSpec.ofChange Rows.historyGrowsSpec) false w args)
      (Rows.historyGrowsSpec.post enc Tryd.prog Tryd.f11 false true false false) := by
  refine law_lifted (CX := CC) (tb := 4) #[.slice none 0 0] 8 (World.doorLaid Tryd.prog 400 os) rfl r_own started (by kernel_rfl) Tryd.func11 r_laidOut
    (read_all (by kernel_rfl)) rfl (fun ds hd => ?_) (by kernel_rfl) Tryd.underlying4 (fun W h => r_glob h) rfl (World.shaped_of_RefB (by kernel_rfl) (by kernel_rfl)) (by kernel_rfl) (by kernel_rfl) (by kernel_rfl) (r_door os _) ?_
  · rw [show Tryd.f11.params.size = 1 by kernel_rfl] at hd
    match ds, hd with
    | [_], _ => rfl
  · intro W base args ds ps hval hA
    rw [Tryd.params11] at hA hval
    obtain ⟨v0, d0, rfl, rfl, h0⟩ := trodAll_one hA
    obtain ⟨l0, nn0, rv0, len0, fit0⟩ := a_ints (hval 0 _ _ rfl rfl) h0
    exact ⟨_, rfl, rvs1 rv0, la_HistoryGrows l0 nn0 len0⟩
theorem historyGrows_holds : Rows.HistoryGrowsSaid :=
  OpenClaim.holds_of_wide 11 Tryd.f11 rfl rfl rfl rfl rfl rfl rfl ⟨rfl, rfl, rfl, rfl, rfl⟩ rfl rfl rfl rfl rfl (by kernel_rfl) Tryd.func11 (by kernel_rfl)
    (of_decide_eq_true (by kernel_rfl)) (by unfold Func.isWrapper; first | (rw [if_pos (by decide +kernel)]; kernel_rfl) | (rw [if_neg (by decide +kernel)]; exact ⟨rfl, rfl⟩))
    (fun os started H enc _ => historyGrows_lifted os started H enc)
theorem historyGrows_card : Rows.HistoryGrowsCardSaid :=
  Claim7.holds_tied_plain_at .later [] [.data] true (true, "8ab0ba061de1f6c515ec42e6f15af4af9c9a3e02eb3a79af086caf5275d81d8e") false
    historyGrows_holds (fun _ h => by cases h) (by kernel_rfl) (fun _ h => by cases h) historyGrows_row_tie rfl ⟨rfl, rfl⟩ (by kernel_rfl) rfl
    (fun f fn hf hfn => by
      obtain rfl : f = 11 := Option.some.inj ((show Tryd.prog.funcNamed "testgate/testgatelaw21.HistoryGrows" = some 11 by kernel_rfl).symm.trans hf) |>.symm
      obtain rfl : fn = Tryd.f11 := (Option.some.inj (Tryd.func11.symm.trans hfn)).symm
      exact ⟨by kernel_rfl, fun j t ht => by
        rw [Tryd.params11] at ht
        have hm : t ∈ [34] := by simpa using Array.mem_of_getElem? ht
        have hall : ([34].all fun u => !Tryd.prog.wantsStandIn u) = true := by kernel_rfl
        exact (show Tryd.prog.wantsStandIn t = false by simpa using List.all_eq_true.1 hall t hm)⟩)
    (by kernel_rfl)
#print axioms historyGrows_card
end Go.Proofs.YtkhebelajdcjgaaDoor
