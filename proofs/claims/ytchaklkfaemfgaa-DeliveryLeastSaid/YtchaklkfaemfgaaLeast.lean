/- DeliveryLeast returns true for every input and leaves its arguments as they were. No condition. -/
import Derived.Test.YtchaklkfaemfgaaDShared
import Derived.Test.YtchaklkfaemfgaaD17
namespace Go.Proofs.Ytchaklkfaemfgaa
open Go Go.Cl Go.ChangeShapes Go.WideShapes Go.RowKit Go.ChangeAt Go.ChangeMaps Go.Joins

set_option maxRecDepth 100000 in
theorem deliveryLeast_lifted (os : Os) (started : os.Started) (H : Type) (enc : TypeId × Value → H) :
    ReturnsInHanded {} Try.checked os 7 .any (Rows.deliveryLeastSpec.pre6 enc Try.prog Try.f7 [] false) (Rows.deliveryLeastSpec.post enc Try.prog Try.f7 false true false false) := by
  refine law_lifted0 (C := Try.checked) (CX := CC) (tb := 4) rfl r_own started (by kernel_rfl) Try.func7 r_laidOut
    (read_all (by kernel_rfl)) rfl (fun ds hd => ?_) (by kernel_rfl) Try.underlying4 (fun _ => rfl) (ChangeSpec.witness6 (C := Try.checked) false ⟨#[], #[.slice none 0 0, .int .i64 0], []⟩ 8 (by kernel_rfl) (by kernel_rfl) (by kernel_rfl) (by kernel_rfl)) ?_
  · rw [show Try.f7.params.size = 2 by kernel_rfl] at hd
    match ds, hd with
    | [_, _], _ => rfl
  · intro W base args ds ps hval hA
    rw [Try.params7] at hA hval
    obtain ⟨v0, v1, d0, d1, p0, p1, rfl, rfl, rfl, h0, h1⟩ := trodAll_two hA
    obtain ⟨l0, nn0, rv0, len0, fit0⟩ := a_ints (hval 0 _ _ rfl rfl) h0
    obtain ⟨n1, rfl, lo1, hi1⟩ := a_int (hval 1 _ _ rfl rfl) h1
    have rv1 : RV (whole W) W (.val (.int .i64 n1)) _ := .val _
    exact ⟨_, rfl, rvs2 rv0 rv1, ld_DeliveryLeast l0 nn0 len0 n1⟩
theorem deliveryLeast_holds : Rows.DeliveryLeastSaid :=
  OpenClaim.holds_of_wide 7 Try.f7 rfl rfl rfl rfl rfl rfl rfl ⟨rfl, rfl, rfl, rfl, rfl⟩ rfl rfl rfl rfl rfl (by kernel_rfl) Try.func7 (by kernel_rfl)
    (of_decide_eq_true (by kernel_rfl)) (by unfold Func.isWrapper; first | (rw [if_pos (by decide +kernel)]; kernel_rfl) | (rw [if_neg (by decide +kernel)]; exact ⟨rfl, rfl⟩))
    (fun os started H enc _ => deliveryLeast_lifted os started H enc)
#print axioms deliveryLeast_holds
end Go.Proofs.Ytchaklkfaemfgaa
