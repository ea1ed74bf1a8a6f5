import Derived.Test.YtchaklkfaemfgaaK17
namespace Go.Cl
/-! Rules whose results are named by the user. -/
section
variable {C : Ctx} {n : Nat} {Q : CExit → Env → List CObj → Prop} {E : Env} {σ : List CObj} {o : Oper}

theorem d_copy' {t t' e : TypeId} {x y : Operand} {k off len s : Nat} {rows new : List (List CV)} {K : CRes → List CObj → Prop} (rows' : List (List CV)) (ho : o.op = .call { callee := .builtin .copy, args := #[x, y], argTypes := #[t, t'] }) (hx : E.valid x) (hy : E.valid y) (ex : E.val C x = .vec k off len)
    (hsrc : ∀ M w v, Rel C M σ w → RV M w (E.val C y) v → Src C M w new s v) (hu : ∀ w, (underlying t).run C.P w = .ok (.slice e) w) (hs : ∀ w, (sizeOf e).run C.P w = .ok s w) (hk' : σ[k]? = some (.vec s rows)) (hl : off + len ≤ rows.length) (hnl : new.length ≤ len) (he : spliceR rows off new = rows') {σ' : List CObj} (hσ : σ.set k (.vec s rows') = σ')
    (hk : K (.ret (.val (.int .i64 new.length))) σ') : Does C σ E o K :=
  d_copy ho hx hy ex hsrc hu hs hk' hl hnl (by rw [he, hσ]; exact hk)
theorem d_append_v' {t e : TypeId} {x y : Operand} {k len s : Nat} {rows new : List (List CV)} {ti : TypeInfo} {z : Value} {K : CRes → List CObj → Prop} (rows' : List (List CV)) (n' : Nat) (ho : o.op = .call { callee := .builtin .append, args := #[x, y], argTypes := #[t, t] }) (hx : E.valid x) (hy : E.valid y) (ex : E.val C x = .vec k 0 len)
    (hsrc : ∀ M w v, Rel C M σ w → RV M w (E.val C y) v → Src C M w new s v) (hu : ∀ w, (underlying t).run C.P w = .ok (.slice e) w) (hs : ∀ w, (sizeOf e).run C.P w = .ok s w) (hti : ∀ w, (typeInfo e).run C.P w = .ok ti w) (hz : ∀ w, (zeroValue e).run C.P w = .ok z w) (hzs : z.cells.size = s)
    (hk' : σ[k]? = some (.vec s rows)) (hlen : len = rows.length) (hnew : new ≠ []) (hb : (rows.length + new.length) * ti.bytes ≤ 140737488355328) (hmax : rows.length + new.length ≤ 9223372036854775807) (he : rows ++ new = rows') (hn : rows.length + new.length = n')
    (hk : K (.ret (.vec σ.length 0 n')) (σ.set k .dead ++ [.vec s rows'])) : Does C σ E o K := by
  subst hlen he hn
  exact d_append_v ho hx hy ex hsrc hu hs hti hz hzs hk' hnew hb hmax hk
theorem d_append_vin' {t e : TypeId} {x y : Operand} {k off len s : Nat} {rows new : List (List CV)} {K : CRes → List CObj → Prop} (rows' : List (List CV)) (n' : Nat) (ho : o.op = .call { callee := .builtin .append, args := #[x, y], argTypes := #[t, t] }) (hx : E.valid x) (hy : E.valid y) (ex : E.val C x = .vec k off len)
    (hsrc : ∀ M w v, Rel C M σ w → RV M w (E.val C y) v → Src C M w new s v) (hu : ∀ w, (underlying t).run C.P w = .ok (.slice e) w) (hs : ∀ w, (sizeOf e).run C.P w = .ok s w) (hk' : σ[k]? = some (.vec s rows)) (hl : off + len + new.length ≤ rows.length) (he : spliceR rows (off + len) new = rows') (hn : len + new.length = n') {σ' : List CObj} (hσ : σ.set k (.vec s rows') = σ')
    (hk : K (.ret (.vec k off n')) σ') : Does C σ E o K :=
  d_append_vin ho hx hy ex hsrc hu hs hk' hl (by rw [he, hσ, hn]; exact hk)
theorem d_clear' {t e : TypeId} {x : Operand} {k off len s : Nat} {rows : List (List CV)} {z : Value} {K : CRes → List CObj → Prop} (rows' : List (List CV)) (ho : o.op = .call { callee := .builtin .clear, args := #[x], argTypes := #[t] }) (hx : E.valid x) (ex : E.val C x = .vec k off len)
    (hu : ∀ w, (underlying t).run C.P w = .ok (.slice e) w) (hz : ∀ w, (zeroValue e).run C.P w = .ok z w) (hz1 : constOk z = true) (hz2 : (cvOf z).one = true ∨ ∃ cs, cvOf z = .agg cs) (hzs : z.cells.size = s) (hk' : σ[k]? = some (.vec s rows)) (hl : off + len ≤ rows.length) (he : spliceR rows off (List.replicate len (zrow z)) = rows') {σ' : List CObj} (hσ : σ.set k (.vec s rows') = σ')
    (hk : K (.ret (.val (.tuple #[]))) σ') : Does C σ E o K :=
  d_clear ho hx ex hu hz hz1 hz2 hzs hk' hl (by rw [he, hσ]; exact hk)
theorem d_store_e' {t : TypeId} {x y : Operand} {k i off s m : Nat} {c : CV} {rows : List (List CV)} {r : List CV} {K : CRes → List CObj → Prop} (rows' : List (List CV)) (ho : o.op = .store t x y) (hx : E.valid x) (hy : E.valid y) (ex : E.val C x = .eptr k i off) (ey : E.val C y = c) (hs : ∀ w, (sizeOf t).run C.P w = .ok m w)
    (hc : c.one = true ∨ ∃ cs, c = .agg cs) (hk : σ[k]? = some (.vec s rows)) (hi : rows[i]? = some r) (hl : c.cells.length = m) (hlt : off + m ≤ r.length) (he : rows.set i (spliceL r off c.cells) = rows') {σ' : List CObj} (hσ : σ.set k (.vec s rows') = σ') (h : K (.ret (.val undef)) σ') : Does C σ E o K :=
  d_store_e ho hx hy ex ey hs hc hk hi hl hlt (by rw [he, hσ]; exact h)
/-- A call that changes objects: what it comes to is named by a state. -/
theorem d_callv {f : FuncId} {xs : Array Operand} {ts : Array TypeId} {cargs : List CV} {α : Type} {c : α → CV} {S : α → List CObj} {P : α → Prop} {K : CRes → List CObj → Prop} (ho : o.op = .call { callee := .value (.func f), args := xs, argTypes := ts }) (hcall : ∀ args w, (callFunc f args).run C.P w = .ok (.enter f args) w)
    (hv : E.valids xs.toList) (h : CCalls C f cargs σ fun r σ' => ∃ a, r = .ret (c a) ∧ σ' = S a ∧ P a) (ea : (E.vals C xs.toList).map CV.fgt = cargs) (hk : ∀ a, P a → K (.ret (c a)) (S a)) : Does C σ E o K :=
  d_call ho hcall (Env.valids_mem hv) (Env.vals_map _) ((ccalls_fgt (ea ▸ h)).mono fun r σ' hh => by
    obtain ⟨a, rfl, rfl, hp⟩ := hh
    exact hk a hp)

/-- A scope with its label ahead. -/
theorem cw_scope' {α : Type} {y : Code} (lab : Nat) (l : α → List (Nat × CV)) (S : α → List CObj) (I : α → Prop) (m : α → Nat) (a0 : α) (h0 : I a0) (hE : E.is (l a0)) (hσ : σ = S a0)
    (round : ∀ (a : α) (E0 : Env), I a → CWp C n y (CExit.jump lab (fun E' σ' => ∃ a', m a' < m a ∧ I a' ∧ E'.is (l a') ∧ σ' = S a') Q) (E0.puts (l a)) (S a)) : CWp C n (.scope (.seq (.label lab) y)) Q E σ := by
  have pass : ∀ k E σ, (∃ a, k = m a ∧ I a ∧ E.is (l a) ∧ σ = S a) → CWp C n y (CExit.jump lab (fun E' σ' => ∃ k', k' < k ∧ ∃ a, k' = m a ∧ I a ∧ E'.is (l a) ∧ σ' = S a) Q) E σ := by
    rintro k E σ ⟨a, rfl, hI, hE, rfl⟩
    refine ((round a E hI).puts hE).mono fun e E' σ' h => ?_
    cases e with
    | goto l' =>
      obtain ⟨h0, a', h1, h2, h3, h4⟩ := h
      exact ⟨h0, m a', h1, a', rfl, h2, h3, h4⟩
    | _ => exact h
  refine cw_scope lab (fun k E σ => ∃ a, k = m a ∧ I a ∧ E.is (l a) ∧ σ = S a) (rest := .seq .skip y) (by simp [findLabel]) ?_ fun k E σ h => cw_seq (cw_skip (pass k E σ h))
  refine cw_seq (cw_label ?_)
  refine (pass (m a0) E σ ⟨a0, rfl, h0, hE, hσ⟩).mono fun e E' σ' h => ?_
  cases e with
  | goto l' =>
    obtain ⟨h0, k', _, a, rfl, h2, h3, h4⟩ := h
    exact ⟨h0, m a, a, rfl, h2, h3, h4⟩
  | _ => exact h
end
end Go.Cl
