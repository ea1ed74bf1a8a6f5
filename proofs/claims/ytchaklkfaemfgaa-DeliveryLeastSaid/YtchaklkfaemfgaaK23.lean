import Derived.Test.YtchaklkfaemfgaaK22
namespace Go.Cl
section
variable {C : Ctx} {E : Env} {σ : List CObj} {o : Oper}
theorem y_nil {x : Operand} {k off : Nat} (ho : o.op = .nilCheck x) (hx : E.valid x) (ex : E.val C x = .ptr k off) : Yields C σ E o (.ptr k off) :=
  yields_same fun M w ρ _ h => by
    have h1 := h x (by simp [ho, Op.operands]) hx
    rw [ex] at h1
    generalize hu' : ρ x = u at h1
    cases h1 with
    | ptr hp => exact ⟨_, by simp [execOp, ho, hu'], .ptr hp⟩
end
end Go.Cl
