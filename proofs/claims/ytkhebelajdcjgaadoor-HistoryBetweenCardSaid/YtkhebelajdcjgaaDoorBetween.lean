/- HistoryBetween returns true for every input and leaves its arguments as they were. No condition. -/
import Derived.Test.YtkhebelajdcjgaaDoorShared
import Derived.Test.YtkhebelajdcjgaaDoorH16
namespace Go.Proofs.YtkhebelajdcjgaaDoor
open Go Go.Cl Go.ChangeShapes Go.WideShapes Go.RowKit Go.ChangeAt Go.ChangeMaps Go.Joins

set_option maxRecDepth 100000 in
theorem historyBetween_lifted (os : Os) (started : os.Started) (H : Type) (enc : TypeId × Value → H) :
    ReturnsInHanded {} Tryd.checked os 6 .any (fun w args => (Rows.historyBetweenSpec.pre enc Tryd.prog Tryd.f6 [] false w args ∧ laidMetH Tryd.prog laidL w) ∧ sizedMet enc Tryd.prog Tryd.f6 (OpenSpec.ofChange Rows.historyBetweenSpec) false w args)
      (Rows.historyBetweenSpec.post enc Tryd.prog Tryd.f6 false true false false) := by
  refine law_lifted (CX := CC) (tb := 4) #[.slice none 0 0, .int .i64 0] 8 (World.doorLaid Tryd.prog 400 os) rfl r_own started (by kernel_rfl) Tryd.func6 r_laidOut
    (read_all (by kernel_rfl)) rfl (fun ds hd => ?_) (by kernel_rfl) Tryd.underlying4 (fun W h => r_glob h) rfl (World.shaped_of_RefB (by kernel_rfl) (by kernel_rfl)) (by kernel_rfl) (by kernel_rfl) (by kernel_rfl) (r_door os _) ?_
  · rw [show Tryd.f6.params.size = 2 by kernel_rfl] at hd
    match ds, hd with
    | [_, _], _ => rfl
  · intro W base args ds ps hval hA
    rw [Tryd.params6] at hA hval
    obtain ⟨v0, v1, d0, d1, p0, p1, rfl, rfl, rfl, h0, h1⟩ := trodAll_two hA
    obtain ⟨l0, nn0, rv0, len0, fit0⟩ := a_ints (hval 0 _ _ rfl rfl) h0
    obtain ⟨n1, rfl, lo1, hi1⟩ := a_int (hval 1 _ _ rfl rfl) h1
    have rv1 : RV (whole W) W (.val (.int .i64 n1)) _ := .val _
    exact ⟨_, rfl, rvs2 rv0 rv1, la_HistoryBetween l0 nn0 len0 n1⟩
theorem historyBetween_holds : Rows.HistoryBetweenSaid :=
  OpenClaim.holds_of_wide 6 Tryd.f6 rfl rfl rfl rfl rfl rfl rfl ⟨rfl, rfl, rfl, rfl, rfl⟩ rfl rfl rfl rfl rfl (by kernel_rfl) Tryd.func6 (by kernel_rfl)
    (of_decide_eq_true (by kernel_rfl)) (by unfold Func.isWrapper; first | (rw [if_pos (by decide +kernel)]; kernel_rfl) | (rw [if_neg (by decide +kernel)]; exact ⟨rfl, rfl⟩))
    (fun os started H enc _ => historyBetween_lifted os started H enc)
theorem historyBetween_card : Rows.HistoryBetweenCardSaid :=
  Claim7.holds_tied_plain_at .later [] [.data] true (true, "8ab0ba061de1f6c515ec42e6f15af4af9c9a3e02eb3a79af086caf5275d81d8e") false
    historyBetween_holds (fun _ h => by cases h) (by kernel_rfl) (fun _ h => by cases h) historyBetween_row_tie rfl ⟨rfl, rfl⟩ (by kernel_rfl) rfl
    (fun f fn hf hfn => by
      obtain rfl : f = 6 := Option.some.inj ((show Tryd.prog.funcNamed "testgate/testgatelaw21.HistoryBetween" = some 6 by kernel_rfl).symm.trans hf) |>.symm
      obtain rfl : fn = Tryd.f6 := (Option.some.inj (Tryd.func6.symm.trans hfn)).symm
      exact ⟨by kernel_rfl, fun j t ht => by
        rw [Tryd.params6] at ht
        have hm : t ∈ [34, 3] := by simpa using Array.mem_of_getElem? ht
        have hall : ([34, 3].all fun u => !Tryd.prog.wantsStandIn u) = true := by kernel_rfl
        exact (show Tryd.prog.wantsStandIn t = false by simpa using List.all_eq_true.1 hall t hm)⟩)
    (by kernel_rfl)
#print axioms historyBetween_card
end Go.Proofs.YtkhebelajdcjgaaDoor
