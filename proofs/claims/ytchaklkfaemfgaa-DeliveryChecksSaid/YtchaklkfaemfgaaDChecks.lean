/- DeliveryChecks returns true for every input and leaves its arguments as they were. No condition. -/
import Derived.Test.YtchaklkfaemfgaaDBox
namespace Go.Proofs.Ytchaklkfaemfgaa
open Go Go.Cl Go.ChangeShapes Go.WideShapes Go.RowKit Go.ChangeAt Go.ChangeMaps Go.Joins

set_option maxRecDepth 100000 in
theorem deliveryChecks_lifted (os : Os) (started : os.Started) (H : Type) (enc : TypeId × Value → H) :
    ReturnsInHanded {} Try.checked os 5 .any (Rows.deliveryChecksSpec.pre6 enc Try.prog Try.f5 [] false) (Rows.deliveryChecksSpec.post enc Try.prog Try.f5 false true false false) := by
  refine law_lifted0 (C := Try.checked) (CX := CC) (tb := 4) rfl r_own started (by kernel_rfl) Try.func5 r_laidOut
    (read_all (by kernel_rfl)) rfl (fun ds hd => ?_) (by kernel_rfl) Try.underlying4 (fun _ => rfl) (ChangeSpec.witness6 (C := Try.checked) false ⟨#[], #[.slice none 0 0, .agg #[.int .i64 0, .slice none 0 0], .agg #[.slice none 0 0], .int .i64 0, .int .i64 0], []⟩ 8 (by kernel_rfl) (by kernel_rfl) (by kernel_rfl) (by kernel_rfl)) ?_
  · rw [show Try.f5.params.size = 5 by kernel_rfl] at hd
    match ds, hd with
    | [_, _, _, _, _], _ => rfl
  · intro W base args ds ps hval hA
    rw [Try.params5] at hA hval
    obtain ⟨v0, v1, v2, v3, v4, d0, d1, d2, d3, d4, p0, p1, p2, p3, p4, rfl, rfl, rfl, h0, h1, h2, h3, h4⟩ := trodAll_five hA
    obtain ⟨l0, nn0, rv0, len0, fit0⟩ := a_ints (hval 0 _ _ rfl rfl) h0
    obtain ⟨x1, rv1, ok1⟩ := a_net (hval 1 _ _ rfl rfl) h1
    obtain ⟨x2, rv2, ok2⟩ := a_box (hval 2 _ _ rfl rfl) h2
    obtain ⟨n3, rfl, lo3, hi3⟩ := a_int (hval 3 _ _ rfl rfl) h3
    have rv3 : RV (whole W) W (.val (.int .i64 n3)) _ := .val _
    obtain ⟨n4, rfl, lo4, hi4⟩ := a_int (hval 4 _ _ rfl rfl) h4
    have rv4 : RV (whole W) W (.val (.int .i64 n4)) _ := .val _
    exact ⟨_, rfl, rvs5 rv0 rv1 rv2 rv3 rv4, ld_DeliveryChecks l0 nn0 len0 x1 ok1 x2 ok2 n3 n4 ⟨lo3, hi3⟩⟩
theorem deliveryChecks_holds : Rows.DeliveryChecksSaid :=
  OpenClaim.holds_of_wide 5 Try.f5 rfl rfl rfl rfl rfl rfl rfl ⟨rfl, rfl, rfl, rfl, rfl⟩ rfl rfl rfl rfl rfl (by kernel_rfl) Try.func5 (by kernel_rfl)
    (of_decide_eq_true (by kernel_rfl)) (by unfold Func.isWrapper; first | (rw [if_pos (by decide +kernel)]; kernel_rfl) | (rw [if_neg (by decide +kernel)]; exact ⟨rfl, rfl⟩))
    (fun os started H enc _ => deliveryChecks_lifted os started H enc)
#print axioms deliveryChecks_holds
end Go.Proofs.Ytchaklkfaemfgaa
