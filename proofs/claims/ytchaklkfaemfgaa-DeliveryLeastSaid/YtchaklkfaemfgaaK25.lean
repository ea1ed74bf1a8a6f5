import Derived.Test.YtchaklkfaemfgaaK24
import Derived.Lib.MinMax
namespace Go.Cl
section
variable {C : Ctx} {E : Env} {σ : List CObj} {o : Oper}
theorem y_max {x y : Operand} {ts : Array TypeId} {k : IntKind} {a b : Int} (ho : o.op = .call { callee := .builtin .max, args := #[x, y], argTypes := ts }) (hx : E.valid x) (hy : E.valid y) (ex : E.val C x = .val (.int k a)) (ey : E.val C y = .val (.int k b)) : Yields C σ E o (.val (.int k (max a b))) :=
  yields_same fun M w ρ _ h => by
    have h1 := h x (by simp [ho, Op.operands, Call.operands]) hx
    have h2 := h y (by simp [ho, Op.operands, Call.operands]) hy
    rw [ex] at h1
    rw [ey] at h2
    refine ⟨.int k (max a b), ?_, .val _⟩
    simp [execOp, ho, resolve, invoke, builtin, rv_val h1, rv_val h2, Go.Lib.run_max_ints]
end
end Go.Cl
