/- DeliveryBoxes returns true for every input and leaves its arguments as they were. No condition. -/
import Derived.Test.YtchaklkfaemfgaaDShared
import Derived.Test.YtchaklkfaemfgaaD14
namespace Go.Proofs.Ytchaklkfaemfgaa
open Go Go.Cl Go.ChangeShapes Go.WideShapes Go.RowKit Go.ChangeAt Go.ChangeMaps Go.Joins

set_option maxRecDepth 100000 in
theorem deliveryBoxes_lifted (os : Os) (started : os.Started) (H : Type) (enc : TypeId × Value → H) :
    ReturnsInHanded {} Try.checked os 6 .any (Rows.deliveryBoxesSpec.pre6 enc Try.prog Try.f6 [] false) (Rows.deliveryBoxesSpec.post enc Try.prog Try.f6 false true false false) := by
  refine law_lifted0 (C := Try.checked) (CX := CC) (tb := 4) rfl r_own started (by kernel_rfl) Try.func6 r_laidOut
    (read_all (by kernel_rfl)) rfl (fun ds hd => ?_) (by kernel_rfl) Try.underlying4 (fun _ => rfl) (ChangeSpec.witness6 (C := Try.checked) false ⟨#[], #[.slice none 0 0], []⟩ 8 (by kernel_rfl) (by kernel_rfl) (by kernel_rfl) (by kernel_rfl)) ?_
  · rw [show Try.f6.params.size = 1 by kernel_rfl] at hd
    match ds, hd with
    | [_], _ => rfl
  · intro W base args ds ps hval hA
    rw [Try.params6] at hA hval
    obtain ⟨v0, d0, rfl, rfl, h0⟩ := trodAll_one hA
    obtain ⟨l0, nn0, rv0, len0, fit0⟩ := a_ints (hval 0 _ _ rfl rfl) h0
    exact ⟨_, rfl, rvs1 rv0, ld_DeliveryBoxes l0 nn0 len0⟩
theorem deliveryBoxes_holds : Rows.DeliveryBoxesSaid :=
  OpenClaim.holds_of_wide 6 Try.f6 rfl rfl rfl rfl rfl rfl rfl ⟨rfl, rfl, rfl, rfl, rfl⟩ rfl rfl rfl rfl rfl (by kernel_rfl) Try.func6 (by kernel_rfl)
    (of_decide_eq_true (by kernel_rfl)) (by unfold Func.isWrapper; first | (rw [if_pos (by decide +kernel)]; kernel_rfl) | (rw [if_neg (by decide +kernel)]; exact ⟨rfl, rfl⟩))
    (fun os started H enc _ => deliveryBoxes_lifted os started H enc)
#print axioms deliveryBoxes_holds
end Go.Proofs.Ytchaklkfaemfgaa
