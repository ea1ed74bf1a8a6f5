/- HistoryFew returns true for every input and leaves its arguments as they were. No condition. -/
import Derived.Test.YtkhebelajdcjgaaDoorShared
import Derived.Test.YtkhebelajdcjgaaDoorH17
namespace Go.Proofs.YtkhebelajdcjgaaDoor
open Go Go.Cl Go.ChangeShapes Go.WideShapes Go.RowKit Go.ChangeAt Go.ChangeMaps Go.Joins

set_option maxRecDepth 100000 in
theorem historyFew_lifted (os : Os) (started : os.Started) (H : Type) (enc : TypeId × Value → H) :
    ReturnsInHanded {} Tryd.checked os 9 .any (fun w args => (Rows.historyFewSpec.pre enc Tryd.prog Tryd.f9 [] false w args ∧ laidMetH Tryd.prog laidL w) ∧ sizedMet enc Tryd.prog Tryd.f9 (OpenSpec.ofChange Rows.historyFewSpec) false w args)
      (Rows.historyFewSpec.post enc Tryd.prog Tryd.f9 false true false false) := by
  refine law_lifted (CX := CC) (tb := 4) #[.int .i64 0, .int .i64 0, .int .i64 0] 8 (World.doorLaid Tryd.prog 400 os) rfl r_own started (by kernel_rfl) Tryd.func9 r_laidOut
    (read_all (by kernel_rfl)) rfl (fun ds hd => ?_) (by kernel_rfl) Tryd.underlying4 (fun W h => r_glob h) rfl (World.shaped_of_RefB (by kernel_rfl) (by kernel_rfl)) (by kernel_rfl) (by kernel_rfl) (by kernel_rfl) (r_door os _) ?_
  · rw [show Tryd.f9.params.size = 3 by kernel_rfl] at hd
    match ds, hd with
    | [_, _, _], _ => rfl
  · intro W base args ds ps hval hA
    rw [Tryd.params9] at hA hval
    obtain ⟨v0, v1, v2, d0, d1, d2, p0, p1, p2, rfl, rfl, rfl, h0, h1, h2⟩ := trodAll_three hA
    obtain ⟨n0, rfl, lo0, hi0⟩ := a_int (hval 0 _ _ rfl rfl) h0
    have rv0 : RV (whole W) W (.val (.int .i64 n0)) _ := .val _
    obtain ⟨n1, rfl, lo1, hi1⟩ := a_int (hval 1 _ _ rfl rfl) h1
    have rv1 : RV (whole W) W (.val (.int .i64 n1)) _ := .val _
    obtain ⟨n2, rfl, lo2, hi2⟩ := a_int (hval 2 _ _ rfl rfl) h2
    have rv2 : RV (whole W) W (.val (.int .i64 n2)) _ := .val _
    exact ⟨_, rfl, rvs3 rv0 rv1 rv2, la_HistoryFew n0 n1 n2⟩
theorem historyFew_holds : Rows.HistoryFewSaid :=
  OpenClaim.holds_of_wide 9 Tryd.f9 rfl rfl rfl rfl rfl rfl rfl ⟨rfl, rfl, rfl, rfl, rfl⟩ rfl rfl rfl rfl rfl (by kernel_rfl) Tryd.func9 (by kernel_rfl)
    (of_decide_eq_true (by kernel_rfl)) (by unfold Func.isWrapper; first | (rw [if_pos (by decide +kernel)]; kernel_rfl) | (rw [if_neg (by decide +kernel)]; exact ⟨rfl, rfl⟩))
    (fun os started H enc _ => historyFew_lifted os started H enc)
theorem historyFew_card : Rows.HistoryFewCardSaid :=
  Claim7.holds_tied_plain_at .later [] [.data] true (true, "8ab0ba061de1f6c515ec42e6f15af4af9c9a3e02eb3a79af086caf5275d81d8e") false
    historyFew_holds (fun _ h => by cases h) (by kernel_rfl) (fun _ h => by cases h) historyFew_row_tie rfl ⟨rfl, rfl⟩ (by kernel_rfl) rfl
    (fun f fn hf hfn => by
      obtain rfl : f = 9 := Option.some.inj ((show Tryd.prog.funcNamed "testgate/testgatelaw21.HistoryFew" = some 9 by kernel_rfl).symm.trans hf) |>.symm
      obtain rfl : fn = Tryd.f9 := (Option.some.inj (Tryd.func9.symm.trans hfn)).symm
      exact ⟨by kernel_rfl, fun j t ht => by
        rw [Tryd.params9] at ht
        have hm : t ∈ [3, 3, 3] := by simpa using Array.mem_of_getElem? ht
        have hall : ([3, 3, 3].all fun u => !Tryd.prog.wantsStandIn u) = true := by kernel_rfl
        exact (show Tryd.prog.wantsStandIn t = false by simpa using List.all_eq_true.1 hall t hm)⟩)
    (by kernel_rfl)
#print axioms historyFew_card
end Go.Proofs.YtkhebelajdcjgaaDoor
