/- DeliveryFull returns true for every input and leaves its arguments as they were. No condition. -/
import Derived.Test.YtchaklkfaemfgaaDShared
import Derived.Test.YtchaklkfaemfgaaD6
namespace Go.Proofs.Ytchaklkfaemfgaa
open Go Go.Cl Go.ChangeShapes Go.WideShapes Go.RowKit Go.ChangeAt Go.ChangeMaps Go.Joins

set_option maxRecDepth 100000 in
theorem deliveryFull_lifted (os : Os) (started : os.Started) (H : Type) (enc : TypeId × Value → H) :
    ReturnsInHanded {} Try.checked os 3 .any (Rows.deliveryFullSpec.pre6 enc Try.prog Try.f3 [] false) (Rows.deliveryFullSpec.post enc Try.prog Try.f3 false true false false) := by
  refine law_lifted0 (C := Try.checked) (CX := CC) (tb := 4) rfl r_own started (by kernel_rfl) Try.func3 r_laidOut
    (read_all (by kernel_rfl)) rfl (fun ds hd => ?_) (by kernel_rfl) Try.underlying4 (fun _ => rfl) (ChangeSpec.witness6 (C := Try.checked) false ⟨#[], #[.int .i64 0, .int .i64 0], []⟩ 8 (by kernel_rfl) (by kernel_rfl) (by kernel_rfl) (by kernel_rfl)) ?_
  · rw [show Try.f3.params.size = 2 by kernel_rfl] at hd
    match ds, hd with
    | [_, _], _ => rfl
  · intro W base args ds ps hval hA
    rw [Try.params3] at hA hval
    obtain ⟨v0, v1, d0, d1, p0, p1, rfl, rfl, rfl, h0, h1⟩ := trodAll_two hA
    obtain ⟨n0, rfl, lo0, hi0⟩ := a_int (hval 0 _ _ rfl rfl) h0
    have rv0 : RV (whole W) W (.val (.int .i64 n0)) _ := .val _
    obtain ⟨n1, rfl, lo1, hi1⟩ := a_int (hval 1 _ _ rfl rfl) h1
    have rv1 : RV (whole W) W (.val (.int .i64 n1)) _ := .val _
    exact ⟨_, rfl, rvs2 rv0 rv1, ld_DeliveryFull n0 n1⟩
theorem deliveryFull_holds : Rows.DeliveryFullSaid :=
  OpenClaim.holds_of_wide 3 Try.f3 rfl rfl rfl rfl rfl rfl rfl ⟨rfl, rfl, rfl, rfl, rfl⟩ rfl rfl rfl rfl rfl (by kernel_rfl) Try.func3 (by kernel_rfl)
    (of_decide_eq_true (by kernel_rfl)) (by unfold Func.isWrapper; first | (rw [if_pos (by decide +kernel)]; kernel_rfl) | (rw [if_neg (by decide +kernel)]; exact ⟨rfl, rfl⟩))
    (fun os started H enc _ => deliveryFull_lifted os started H enc)
#print axioms deliveryFull_holds
end Go.Proofs.Ytchaklkfaemfgaa
