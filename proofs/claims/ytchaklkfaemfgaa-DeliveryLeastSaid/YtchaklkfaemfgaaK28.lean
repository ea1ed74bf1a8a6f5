import Derived.Test.YtchaklkfaemfgaaK27
namespace Go.Cl
/-! ### An empty literal, what is appended to it; comparison with nil -/
section
variable {C : Ctx} {E : Env} {σ : List CObj} {o : Oper}
theorem d_lit0 {t e : TypeId} {s : Nat} {K : CRes → List CObj → Prop} (ho : o.op = .buildSlice t 0 #[]) (hu : ∀ w, (underlying t).run C.P w = .ok (.slice e) w) (hs : ∀ w, (sizeOf e).run C.P w = .ok s w)
    (hk : ∀ a, K (.ret (.val (.slice (some a) 0 0))) σ) : Does C σ E o K := fun M w ρ hr _ => by
  obtain ⟨hx, hrel⟩ := hr.allocFull (.cells #[] e)
  have hrun : (execOp ρ o).run C.P w = .ok (.value (.slice (some ⟨w.heap.size, 0, none⟩) 0 0)) (w.alloc (.cells #[] e)) := by
    have er : Array.range 0 = #[] := rfl
    simp only [execOp, ho, Instr.buildSlice, Sem.run_bind, hu, Result.andThen_ok, hs]
    simp [er, Instr.fill, newRow]
  rw [hrun]
  exact ⟨_, σ, _, hx, hrel, .val _, hk _⟩
theorem y_slnil {t t' e : TypeId} {x : Operand} {rows : List (List CV)} {nn : Bool} {tok : Option Nat} {b : Bool} (ho : o.op = .binOp .eql t x (.const (.slice none 0 0)) t') (hx : E.valid x) (ex : E.val C x = .list rows nn tok) (hu : ∀ w, (underlying t).run C.P w = .ok (.slice e) w) (hb : (!nn) = b) : Yields C σ E o (.val (.bool b)) :=
  yields_same fun M w ρ _ h => by
    have h1 := h x (by simp [ho, Op.operands]) hx
    have h2 := h (.const (.slice none 0 0)) (by simp [ho, Op.operands]) rfl
    rw [ex] at h1
    have e2 : ρ (.const (.slice none 0 0)) = .slice none 0 0 := by
      have h2 : RV M w (.list [] false none) (ρ (.const (.slice none 0 0))) := h2
      obtain ⟨a, cap, b', off, s, vals, hv, -, -, hnn, hn0, -, -, -, -, -, -⟩ := h2.list_inv
      cases a with
      | none => rw [hv, hn0 rfl]; rfl
      | some a => simp at hnn
    obtain ⟨a, cap, b', off, s, vals, hv, -, -, hnn, -, -, -, -, -, -, -⟩ := h1.list_inv
    refine ⟨.bool b, ?_, .val _⟩
    subst hb
    cases a with
    | none =>
      have : nn = false := by simpa using hnn.symm
      subst this
      have heq : ∀ d, (Op.equalIn (d + 1) t (.slice none rows.length cap) (.slice none 0 0)).run C.P w = .ok true w := fun d => by simp [Op.equalIn, hu]
      have he : (Op.equal t (.slice none rows.length cap) (.slice none 0 0)).run C.P w = .ok true w := heq 9999
      simp [execOp, ho, hv, e2, eqGuard, binOp, he]
    | some a =>
      have : nn = true := by simpa using hnn.symm
      subst this
      have heq : ∀ d, (Op.equalIn (d + 1) t (.slice (some a) rows.length cap) (.slice none 0 0)).run C.P w = .ok false w := fun d => by simp [Op.equalIn, hu]
      have he : (Op.equal t (.slice (some a) rows.length cap) (.slice none 0 0)).run C.P w = .ok false w := heq 9999
      simp [execOp, ho, hv, e2, eqGuard, binOp, he]
theorem d_appcv {t e : TypeId} {x y : Operand} {a : Addr} {s : Nat} {new : List (List CV)} {ti : TypeInfo} {z : Value} {K : CRes → List CObj → Prop} (m' : Nat) (ho : o.op = .call { callee := .builtin .append, args := #[x, y], argTypes := #[t, t] }) (hx : E.valid x) (hy : E.valid y) (ex : E.val C x = .val (.slice (some a) 0 0))
    (hsrc : ∀ M w v, Rel C M σ w → RV M w (E.val C y) v → Src C M w new s v) (hu : ∀ w, (underlying t).run C.P w = .ok (.slice e) w) (hs : ∀ w, (sizeOf e).run C.P w = .ok s w) (hti : ∀ w, (typeInfo e).run C.P w = .ok ti w) (hz : ∀ w, (zeroValue e).run C.P w = .ok z w) (hzs : z.cells.size = s)
    (hnew : 0 < new.length) (hb : new.length * ti.bytes ≤ 140737488355328) (hmax : new.length ≤ 9223372036854775807) (hm : new.length = m')
    (hk : K (.ret (.vec σ.length 0 m')) (σ ++ [.vec s new])) : Does C σ E o K := fun M w ρ hr hh => by
  subst hm
  have h1 := hh x (by simp [ho, Op.operands, Call.operands]) hx
  have h2 := hh y (by simp [ho, Op.operands, Call.operands]) hy
  rw [ex] at h1
  have hv := rv_val h1
  have hlen := (hsrc M w _ hr h2).lenOf
  have hexec : (execOp ρ o).run C.P w = ((Builtin.append_ #[t, t] o.type #[ρ x, ρ y]).run C.P w).andThen fun v w => .ok (.value v) w := by
    simp [execOp, ho, resolve, invoke, builtin]
  obtain ⟨hrd, hxd⟩ := hr.drewN
  have hL : RV M w.drew (.list [] true none) (.slice (some a) 0 0) := .list (rows := []) (b := 0) (off := 0) (s := s) (fun _ _ => undef) (Nat.le_refl _) (Nat.zero_le _) rfl (fun h => by cases h) (fun h => by simp at h) (fun r hr => by simp at hr) (fun r hr => by simp at hr) (fun i j r c hi => by simp at hi) (fun i j r c hi => by simp at hi) (fun k hk => by cases hk)
  have hso' := src_of_list (C := C) (s := s) hL (fun r hr => by simp at hr)
  obtain ⟨a1, c1, hv1, _, hrs, old, hfo, hszo, hrvo⟩ := hso'
  obtain ⟨an, cn, hvn, _, hns, arr, hfn, hszn, hrvn⟩ := hsrc M w.drew _ hrd (rv_drew h2)
  obtain ⟨c', hc1, hc2, hrun⟩ := run_append_grows (P := C.P) (ty := o.type) (a := some a) (c := 0) (w := w) (n := ([] : List (List CV)).length) (m := new.length) hu hs hti hz hlen hfo hfn (by simp; omega) (by simpa using hmax) (by simpa using hb)
  rw [hexec, hv]
  change Upon _ _ _ ((Sem.run C.P (Builtin.append_ #[t, t] o.type #[Value.slice (some a) ([] : List (List CV)).length 0, ρ y]) w).andThen _)
  rw [hrun]
  simp only [Result.andThen_ok]
  have hwsz : w.drew.heap.size = w.heap.size := rfl
  rw [← hwsz]
  have hasz : (old ++ arr ++ Builtin.zeroCells z.cells (c' - (([] : List (List CV)).length + new.length))).size = c' * s := by
    simp only [Array.size_append, zeroCells_size, hszo, hszn, hzs]
    rw [← Nat.add_mul, ← Nat.add_mul]
    congr 1; omega
  have hx2 := Ext.alloc hrd ⟨w.drew.heap.size, c', s⟩ (.cells (old ++ arr ++ Builtin.zeroCells z.cells (c' - (([] : List (List CV)).length + new.length))) e)
  have hget := append_rows (rest := Builtin.zeroCells z.cells (c' - (([] : List (List CV)).length + new.length))) hszo hszn hrs hns (fun i j r c hi hj => (hrvo i j r c hi hj).1) (fun i j r c hi hj => (hrvn i j r c hi hj).1)
  have hr2 := hrd.alloc ⟨w.drew.heap.size, c', s⟩ (.cells (old ++ arr ++ Builtin.zeroCells z.cells (c' - (([] : List (List CV)).length + new.length))) e) (.vec s ([] ++ new)) rfl
    ⟨rfl, by simpa using hc1, by unfold maxLen; simp only; omega, by simpa using hns, fun r hr c hc => (by
      obtain ⟨i, hi⟩ := List.mem_iff_getElem?.1 (by simpa using hr : r ∈ new)
      obtain ⟨j, hj⟩ := List.mem_iff_getElem?.1 hc
      exact (hrvn i j r c hi hj).2), _, e, heap_alloc_new _ _, hasz, fun i j r c hi hj => ((hget i j r c hi hj).2.mono hx2)⟩
  refine ⟨.vec σ.length 0 new.length, _, _, hxd.trans hx2, hr2, ?_, hk⟩
  have := RV.vec (M := M.add ⟨w.drew.heap.size, c', s⟩) (w := w.drew.alloc (.cells (old ++ arr ++ Builtin.zeroCells z.cells (c' - (([] : List (List CV)).length + new.length))) e)) (k := σ.length) (off := 0) (len := new.length) (p := ⟨w.drew.heap.size, c', s⟩) (a := ⟨w.drew.heap.size, 0, none⟩) (by simp [Plan.add, ← hr.len]) (by simpa using hc1) (by unfold maxLen; simp only; omega) (fun _ => by simp)
  simpa using this
/-- Nothing is appended to it. -/
theorem d_appc0 {t e : TypeId} {x y : Operand} {a : Addr} {s : Nat} {K : CRes → List CObj → Prop} (ho : o.op = .call { callee := .builtin .append, args := #[x, y], argTypes := #[t, t] }) (hx : E.valid x) (hy : E.valid y) (ex : E.val C x = .val (.slice (some a) 0 0))
    (hsrc : ∀ M w v, Rel C M σ w → RV M w (E.val C y) v → Src C M w [] s v) (hu : ∀ w, (underlying t).run C.P w = .ok (.slice e) w) (hs : ∀ w, (sizeOf e).run C.P w = .ok s w)
    (hk : K (.ret (.list [] true none)) σ) : Does C σ E o K := fun M w ρ hr hh => by
  have h1 := hh x (by simp [ho, Op.operands, Call.operands]) hx
  have h2 := hh y (by simp [ho, Op.operands, Call.operands]) hy
  rw [ex] at h1
  have hv := rv_val h1
  have hsn := hsrc M w _ hr h2
  have hlen := hsn.lenOf
  obtain ⟨_, _, _, _, _, arr, hfn, hszn, _⟩ := hsn
  have hexec : (execOp ρ o).run C.P w = ((Builtin.append_ #[t, t] o.type #[ρ x, ρ y]).run C.P w).andThen fun v w => .ok (.value v) w := by
    simp [execOp, ho, resolve, invoke, builtin]
  have hrun : (execOp ρ o).run C.P w = .ok (.value (.slice (some a) 0 0)) w := by
    rw [hexec, hv, run_append_none hu hs (by simpa using hlen) (by simpa using hfn) (by simpa using hszn) (Nat.le_refl _)]
    rfl
  rw [hrun]
  exact ⟨_, σ, M, Ext.refl M w, hr, .list (rows := []) (b := 0) (off := 0) (s := s) (fun _ _ => undef) (Nat.le_refl _) (Nat.zero_le _) rfl (fun h => by cases h) (fun h => by simp at h) (fun r hr => by simp at hr) (fun r hr => by simp at hr) (fun i j r c hi => by simp at hi) (fun i j r c hi => by simp at hi) (fun k hk => by cases hk), hk⟩
end
end Go.Cl
