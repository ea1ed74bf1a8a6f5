import Derived.Test.YtchaklkfaemfgaaK26
namespace Go.Cl
/-! ### Conversions of integers, shifts to the right, calls of function values, min -/
section
variable {C : Ctx} {E : Env} {σ : List CObj} {o : Oper}
theorem y_conv {s d : TypeId} {x : Operand} {k k0 k' : IntKind} {a b : Int} (ho : o.op = .convert s d x) (hx : E.valid x) (ex : E.val C x = .val (.int k a)) (hs : ∀ w, (underlying s).run C.P w = .ok (.int k0) w) (hd : ∀ w, (underlying d).run C.P w = .ok (.int k') w) (hb : k'.wrap a = b) : Yields C σ E o (.val (.int k' b)) :=
  yields_same fun M w ρ _ h => by
    have h1 := h x (by simp [ho, Op.operands]) hx
    rw [ex] at h1
    refine ⟨.int k' b, ?_, .val _⟩
    simp [execOp, ho, convert, hs, hd, rv_val h1, Conv.intToInt, hb]
theorem y_shr1 {t t' : TypeId} {x y : Operand} {k k' : IntKind} {a b : Int} (ho : o.op = .binOp .shr t x y t') (hx : E.valid x) (hy : E.valid y) (ex : E.val C x = .val (.int k a)) (ey : E.val C y = .val (.int k' 1)) (hk : 1 ≤ k.bits) (hb : a / 2 = b) : Yields C σ E o (.val (.int k b)) :=
  yields_same fun M w ρ _ h => by
    have h1 := h x (by simp [ho, Op.operands]) hx
    have h2 := h y (by simp [ho, Op.operands]) hy
    rw [ex] at h1
    rw [ey] at h2
    refine ⟨.int k b, ?_, .val _⟩
    have e : min 1 k.bits = 1 := by omega
    have e2 : a.fdiv 2 = b := by rw [Int.fdiv_eq_ediv_of_nonneg _ (by omega), hb]
    simp [execOp, ho, rv_val h1, rv_val h2, eqGuard, binOp, Op.shift, e, e2]
theorem d_callo {f : FuncId} {cx : Operand} {xs : Array Operand} {ts : Array TypeId} {cargs : List CV} {K : CRes → List CObj → Prop} (ho : o.op = .call { callee := .value cx, args := xs, argTypes := ts }) (hc : E.valid cx) (ec : E.val C cx = .val (.func (.func f) #[] #[])) (hcall : ∀ args w, (callFunc f args).run C.P w = .ok (.enter f args) w)
    (hv : ∀ x ∈ xs.toList, E.valid x) (ea : xs.toList.map (E.val C) = cargs) (h : CCalls C f cargs σ K) : Does C σ E o K := fun M w ρ hr hh => by
  have hf := hh cx (by simp [ho, Op.operands, Call.operands]) hc
  rw [ec] at hf
  have ef := rv_val hf
  have hrun : (execOp ρ o).run C.P w = .ok (.enter f (xs.map ρ)) w := by
    simp [execOp, ho, resolve, ef, Deferred.ofValue, invoke, hcall]
  rw [hrun]
  refine (h M w (xs.map ρ) hr (by simp [← ea]) fun i c hi => ?_).mono fun e w' he => by cases e <;> exact he
  subst ea
  simp only [List.getElem?_map, Option.map_eq_some_iff] at hi
  obtain ⟨x, hx, rfl⟩ := hi
  have hx' : xs[i]? = some x := by simpa using hx
  have hm : x ∈ xs := Array.mem_of_getElem? hx'
  have : (xs.map ρ).getD i undef = ρ x := by
    rw [Array.getD_eq_getD_getElem?, Array.getElem?_map, hx']; rfl
  rw [this]
  exact hh x (by simp [ho, Op.operands, Call.operands, hm]) (hv x (by simpa using hm))
theorem y_callfo {f : FuncId} {cx : Operand} {xs : Array Operand} {ts : Array TypeId} {cargs : List CV} {c : CV} (ho : o.op = .call { callee := .value cx, args := xs, argTypes := ts }) (hc : E.valid cx) (ec : E.val C cx = .val (.func (.func f) #[] #[])) (hcall : ∀ args w, (callFunc f args).run C.P w = .ok (.enter f args) w)
    (hv : E.valids xs.toList) (h : CCalls C f cargs σ fun r σ' => r = .ret c ∧ σ' = σ) (ea : (E.vals C xs.toList).map CV.fgt = cargs) : Yields C σ E o c :=
  d_callo ho hc ec hcall (Env.valids_mem hv) (Env.vals_map _) (ccalls_fgt (ea ▸ h))
theorem y_min {x y : Operand} {ts : Array TypeId} {k : IntKind} {a b : Int} (ho : o.op = .call { callee := .builtin .min, args := #[x, y], argTypes := ts }) (hx : E.valid x) (hy : E.valid y) (ex : E.val C x = .val (.int k a)) (ey : E.val C y = .val (.int k b)) : Yields C σ E o (.val (.int k (min a b))) :=
  yields_same fun M w ρ _ h => by
    have h1 := h x (by simp [ho, Op.operands, Call.operands]) hx
    have h2 := h y (by simp [ho, Op.operands, Call.operands]) hy
    rw [ex] at h1
    rw [ey] at h2
    refine ⟨.int k (min a b), ?_, .val _⟩
    simp [execOp, ho, resolve, invoke, builtin, rv_val h1, rv_val h2, Go.Lib.run_min_ints]
end
end Go.Cl
