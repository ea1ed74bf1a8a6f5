import Derived.Test.YtchaklkfaemfgaaK14
namespace Go.Cl

/-! ### Calls that forget which array a list grows in -/
def CV.fgt1 : CV → CV
  | .list rows nn _ => .list rows nn none
  | c => c
def CV.fgt : CV → CV
  | .agg cs => .agg (cs.map CV.fgt1)
  | c => c.fgt1
theorem CV.one_fgt1 (c : CV) : c.fgt1.one = c.one := by cases c <;> rfl
theorem RV.fgt1 {M : Plan} {w : World} {c : CV} {v : Value} (h : RV M w c v) : RV M w c.fgt1 v := by
  cases h with
  | list vals h1 h2 h3 h4 h5 h6 h7 h8 h9 h10 => exact .list vals h1 h2 h3 h4 h5 h6 h7 h8 h9 fun k hk => by cases hk
  | val v => exact .val v
  | agg h1 h2 h3 => exact .agg h1 h2 h3
  | tup h1 h3 => exact .tup h1 h3
  | ptr hk => exact .ptr hk
  | cptr vals h1 h2 h3 => exact .cptr vals h1 h2 h3
  | eptr hk => exact .eptr hk
  | vec hk h1 h2 h3 => exact .vec hk h1 h2 h3
  | map hk => exact .map hk
theorem RV.fgt {M : Plan} {w : World} {c : CV} {v : Value} (h : RV M w c v) : RV M w c.fgt v := by
  cases h with
  | agg h1 h2 h3 =>
    refine .agg (by simpa using h1) (fun c hm => ?_) (fun i c hi => ?_)
    · obtain ⟨c0, h0, rfl⟩ := List.mem_map.1 hm
      rw [CV.one_fgt1]; exact h2 c0 h0
    · rw [List.getElem?_map, Option.map_eq_some_iff] at hi
      obtain ⟨c0, h0, rfl⟩ := hi
      exact (h3 i c0 h0).fgt1
  | list vals h1 h2 h3 h4 h5 h6 h7 h8 h9 h10 => exact (RV.list vals h1 h2 h3 h4 h5 h6 h7 h8 h9 h10).fgt1
  | val v => exact .val v
  | tup h1 h3 => exact .tup h1 h3
  | ptr hk => exact .ptr hk
  | cptr vals h1 h2 h3 => exact .cptr vals h1 h2 h3
  | eptr hk => exact .eptr hk
  | vec hk h1 h2 h3 => exact .vec hk h1 h2 h3
  | map hk => exact .map hk

section
variable {C : Ctx} {n : Nat} {Q : CExit → Env → List CObj → Prop} {E : Env} {σ : List CObj} {o : Oper}
theorem ccalls_fgt {f : FuncId} {args : List CV} {K : CRes → List CObj → Prop} (h : CCalls C f (args.map CV.fgt) σ K) : CCalls C f args σ K := fun M w vs hr hsz hx =>
  h M w vs hr (by simpa using hsz) fun i c hi => by
    rw [List.getElem?_map, Option.map_eq_some_iff] at hi
    obtain ⟨c0, h0, rfl⟩ := hi
    exact (hx i c0 h0).fgt
theorem y_callf {f : FuncId} {xs : Array Operand} {ts : Array TypeId} {cargs : List CV} {c : CV} (ho : o.op = .call { callee := .value (.func f), args := xs, argTypes := ts }) (hcall : ∀ args w, (callFunc f args).run C.P w = .ok (.enter f args) w)
    (hv : E.valids xs.toList) (h : CCalls C f cargs σ fun r σ' => r = .ret c ∧ σ' = σ) (ea : (E.vals C xs.toList).map CV.fgt = cargs) : Yields C σ E o c :=
  y_call ho hcall hv rfl (ccalls_fgt (ea ▸ h))

/-- Quotients and remainders. -/
theorem cq_pos {a b : Int} (ha : 0 ≤ a) (hb : 0 < b) (hr : a ≤ 9223372036854775807) : cint .quo .i64 a b = some (.int .i64 (a / b)) := by
  have h1 : a.tdiv b = a / b := Int.tdiv_eq_ediv_of_nonneg ha
  have h2 : 0 ≤ a / b := Int.ediv_nonneg ha (by omega)
  have h3 : a / b ≤ a := Int.ediv_le_self _ ha
  have h4 : b ≠ 0 := by omega
  simp only [cint, h1, if_neg h4]
  rw [wr64 (by omega) (by omega)]
theorem cq_rem {a b : Int} (hb : b ≠ 0) : cint .rem .i64 a b = some (.int .i64 (a.tmod b)) := by simp [cint, hb]
theorem cq_rem_pos {a b : Int} (ha : 0 ≤ a) (hb : 0 < b) : cint .rem .i64 a b = some (.int .i64 (a % b)) := by
  rw [cq_rem (by omega), Int.tmod_eq_emod_of_nonneg ha]
theorem pure_agg {cs : List CV} (h : Pures cs) : Pure (.agg cs) := .agg h.all
theorem pure_tup {cs : List CV} (h : Pures cs) : Pure (.tup cs) := .tup h.all
end
end Go.Cl
