/- HistoryChecks returns true for every input and leaves its arguments as they were. No condition. -/
import Derived.Test.YtkhebelajdcjgaaDoorHist
import Derived.Test.YtkhebelajdcjgaaDoorH18
namespace Go.Proofs.YtkhebelajdcjgaaDoor
open Go Go.Cl Go.ChangeShapes Go.WideShapes Go.RowKit Go.ChangeAt Go.ChangeMaps Go.Joins

set_option maxRecDepth 100000 in
theorem historyChecks_lifted (os : Os) (started : os.Started) (H : Type) (enc : TypeId × Value → H) :
    ReturnsInHanded {} Tryd.checked os 4 .any (fun w args => (Rows.historyChecksSpec.pre enc Tryd.prog Tryd.f4 [] false w args ∧ laidMetH Tryd.prog laidL w) ∧ sizedMet enc Tryd.prog Tryd.f4 (OpenSpec.ofChange Rows.historyChecksSpec) false w args)
      (Rows.historyChecksSpec.post enc Tryd.prog Tryd.f4 false true false false) := by
  refine law_lifted (CX := CC) (tb := 4) #[.slice none 0 0, .agg #[.string ⟨#[]⟩, .string ⟨#[]⟩, .int .i64 0, .int .i64 0, .int .i64 0, .int .i64 0, .int .i64 0, .slice none 0 0], .int .i64 0, .int .i64 0] 8 (World.doorLaid Tryd.prog 400 os) rfl r_own started (by kernel_rfl) Tryd.func4 r_laidOut
    (read_all (by kernel_rfl)) rfl (fun ds hd => ?_) (by kernel_rfl) Tryd.underlying4 (fun W h => r_glob h) rfl (World.shaped_of_RefB (by kernel_rfl) (by kernel_rfl)) (by kernel_rfl) (by kernel_rfl) (by kernel_rfl) (r_door os _) ?_
  · rw [show Tryd.f4.params.size = 4 by kernel_rfl] at hd
    match ds, hd with
    | [_, _, _, _], _ => rfl
  · intro W base args ds ps hval hA
    rw [Tryd.params4] at hA hval
    obtain ⟨v0, v1, v2, v3, d0, d1, d2, d3, p0, p1, p2, p3, rfl, rfl, rfl, h0, h1, h2, h3⟩ := trodAll_four hA
    obtain ⟨l0, nn0, rv0, len0, fit0⟩ := a_ints (hval 0 _ _ rfl rfl) h0
    obtain ⟨hh1, rv1, fits1⟩ := a_hist (hval 1 _ _ rfl rfl) h1
    obtain ⟨n2, rfl, lo2, hi2⟩ := a_int (hval 2 _ _ rfl rfl) h2
    have rv2 : RV (whole W) W (.val (.int .i64 n2)) _ := .val _
    obtain ⟨n3, rfl, lo3, hi3⟩ := a_int (hval 3 _ _ rfl rfl) h3
    have rv3 : RV (whole W) W (.val (.int .i64 n3)) _ := .val _
    exact ⟨_, rfl, rvs4 rv0 rv1 rv2 rv3, la_HistoryChecks l0 nn0 len0 hh1 fits1 n2 n3 ⟨lo2, hi2⟩⟩
theorem historyChecks_holds : Rows.HistoryChecksSaid :=
  OpenClaim.holds_of_wide 4 Tryd.f4 rfl rfl rfl rfl rfl rfl rfl ⟨rfl, rfl, rfl, rfl, rfl⟩ rfl rfl rfl rfl rfl (by kernel_rfl) Tryd.func4 (by kernel_rfl)
    (of_decide_eq_true (by kernel_rfl)) (by unfold Func.isWrapper; first | (rw [if_pos (by decide +kernel)]; kernel_rfl) | (rw [if_neg (by decide +kernel)]; exact ⟨rfl, rfl⟩))
    (fun os started H enc _ => historyChecks_lifted os started H enc)
theorem historyChecks_card : Rows.HistoryChecksCardSaid :=
  Claim7.holds_tied_plain_at .later [] [.data] true (true, "8ab0ba061de1f6c515ec42e6f15af4af9c9a3e02eb3a79af086caf5275d81d8e") false
    historyChecks_holds (fun _ h => by cases h) (by kernel_rfl) (fun _ h => by cases h) historyChecks_row_tie rfl ⟨rfl, rfl⟩ (by kernel_rfl) rfl
    (fun f fn hf hfn => by
      obtain rfl : f = 4 := Option.some.inj ((show Tryd.prog.funcNamed "testgate/testgatelaw21.HistoryChecks" = some 4 by kernel_rfl).symm.trans hf) |>.symm
      obtain rfl : fn = Tryd.f4 := (Option.some.inj (Tryd.func4.symm.trans hfn)).symm
      exact ⟨by kernel_rfl, fun j t ht => by
        rw [Tryd.params4] at ht
        have hm : t ∈ [34, 26, 3, 3] := by simpa using Array.mem_of_getElem? ht
        have hall : ([34, 26, 3, 3].all fun u => !Tryd.prog.wantsStandIn u) = true := by kernel_rfl
        exact (show Tryd.prog.wantsStandIn t = false by simpa using List.all_eq_true.1 hall t hm)⟩)
    (by kernel_rfl)
#print axioms historyChecks_card
end Go.Proofs.YtkhebelajdcjgaaDoor
