import Derived.Test.YtchaklkfaemfgaaK5
namespace Go.Cl

/-! ### Calls, by lists -/
def Env.valids (E : Env) : List Operand → Prop
  | [] => True
  | x :: l => E.valid x ∧ E.valids l
def Env.vals (C : Ctx) (E : Env) : List Operand → List CV
  | [] => []
  | x :: l => E.val C x :: E.vals C l
theorem Env.valids_mem {E : Env} : ∀ {l : List Operand}, E.valids l → ∀ x ∈ l, E.valid x
  | [], _, x, h => by simp at h
  | y :: l, ⟨h1, h2⟩, x, h => by
    rcases List.mem_cons.1 h with rfl | h
    · exact h1
    · exact Env.valids_mem h2 x h
theorem Env.vals_map {C : Ctx} {E : Env} : ∀ (l : List Operand), l.map (E.val C) = E.vals C l
  | [] => rfl
  | x :: l => by simp [Env.vals, Env.vals_map l]

section
variable {C : Ctx} {σ : List CObj} {E : Env} {o : Oper}

theorem dd_call {f : FuncId} {xs : Array Operand} {ts : Array TypeId} {cargs : List CV} {K : CRes → List CObj → Prop} (ho : o.op = .call { callee := .value (.func f), args := xs, argTypes := ts }) (hcall : ∀ args w, (callFunc f args).run C.P w = .ok (.enter f args) w)
    (hv : E.valids xs.toList) (ea : E.vals C xs.toList = cargs) (h : CCalls C f cargs σ K) : Does C σ E o K :=
  d_call ho hcall (Env.valids_mem hv) ((Env.vals_map _).trans ea) h
theorem y_call {f : FuncId} {xs : Array Operand} {ts : Array TypeId} {cargs : List CV} {c : CV} (ho : o.op = .call { callee := .value (.func f), args := xs, argTypes := ts }) (hcall : ∀ args w, (callFunc f args).run C.P w = .ok (.enter f args) w)
    (hv : E.valids xs.toList) (ea : E.vals C xs.toList = cargs) (h : CCalls C f cargs σ fun r σ' => r = .ret c ∧ σ' = σ) : Yields C σ E o c :=
  d_call ho hcall (Env.valids_mem hv) ((Env.vals_map _).trans ea) h

/-! ### Results in variables -/
def resOf (C : Ctx) (E : Env) (σ : List CObj) : ResultVar → CV → Prop
  | .tmp t, c => E.ok t ∧ E.f t = c
  | .cell a t, c => E.ok a ∧ ∃ k off cells, E.f a = .ptr k off ∧ σ[k]? = some (.box cells) ∧
      (((∀ w, (isAgg t).run C.P w = .ok false w) ∧ cells[off]? = some c) ∨ (∃ s, (∀ w, (isAgg t).run C.P w = .ok true w) ∧ (∀ w, (sizeOf t).run C.P w = .ok s w) ∧ off + s ≤ cells.length ∧ c = .agg ((cells.drop off).take s)))
def resAll (C : Ctx) (E : Env) (σ : List CObj) : List ResultVar → List CV → Prop
  | [], [] => True
  | r :: rs, c :: cs => resOf C E σ r c ∧ resAll C E σ rs cs
  | _, _ => False

theorem run_box_load {M : Plan} {w : World} (hr : Rel C M σ w) {t : TypeId} {k off : Nat} {cells : List CV} {c : CV} {u : Value} (hu : RV M w (.ptr k off) u) (hk : σ[k]? = some (.box cells))
    (h : ((∀ w, (isAgg t).run C.P w = .ok false w) ∧ cells[off]? = some c) ∨ (∃ s, (∀ w, (isAgg t).run C.P w = .ok true w) ∧ (∀ w, (sizeOf t).run C.P w = .ok s w) ∧ off + s ≤ cells.length ∧ c = .agg ((cells.drop off).take s))) :
    ∃ a v, u = .pointer (some a) ∧ (loadVar t a).run C.P w = .ok v w ∧ RV M w c v := by
  cases hu with
  | ptr hp =>
    rename_i p
    rcases h with ⟨ha, hc⟩ | ⟨s, ha, hs, hl, rfl⟩
    · obtain ⟨v, hv, hrv, _⟩ := box_cell hr hp hk hc
      exact ⟨_, v, rfl, by simp [loadVar, ha, hv], hrv⟩
    · obtain ⟨arr, ty, h1, h2, h3, h4⟩ := (hr.obj k p _ hp hk).1
      have hcell : ∀ j, j < s → w.cell? ⟨p.block, off + j, none⟩ = some (arr.getD (off + j) undef) := fun j hj => by
        have : off + j < arr.size := by omega
        simp [World.cell?, h1, this]
      refine ⟨_, .agg ((List.range s).map fun j => arr.getD (off + j) undef).toArray, rfl, by simp [loadVar, ha, hs, run_loadCells' (P := C.P) (w := w) _ s hcell], .agg (by simp; omega) (fun c hc => h3 c (List.mem_of_mem_drop (List.mem_of_mem_take hc))) (fun i c hi => ?_)⟩
      have hi' : i < s := by
        have := (List.getElem?_eq_some_iff.1 hi).1
        simp at this; omega
      rw [List.getElem?_take, if_pos hi', List.getElem?_drop] at hi
      have := h4 (off + i) c hi
      simpa [hi'] using this

def resSem (tmps : Array Value) : ResultVar → Sem Value := fun
    | .tmp t => pure (tmps.getD t undef)
    | .cell a t => do loadVar t (← asAddr (tmps.getD a undef))

theorem run_res {M : Plan} {w : World} (hr : Rel C M σ w) {tmps : Array Value} (h : ∀ t, E.ok t → RV M w (E.f t) (tmps.getD t undef)) : ∀ (rs : List ResultVar) (cs : List CV), resAll C E σ rs cs →
    ∃ vs : List Value, (rs.mapM (resSem tmps)).run C.P w = .ok vs w ∧ vs.length = cs.length ∧ ∀ (i : Nat) (c : CV), cs[i]? = some c → RV M w c (vs.getD i undef)
  | [], [], _ => ⟨[], by simp, rfl, by simp⟩
  | r :: rs, c :: cs, ⟨h1, h2⟩ => by
    obtain ⟨vs, hv, hl, hrv⟩ := run_res hr h rs cs h2
    have : ∃ v, (resSem tmps r).run C.P w = .ok v w ∧ RV M w c v := by
      cases r with
      | tmp t =>
        obtain ⟨ho, hc⟩ := h1
        exact ⟨_, by simp [resSem], hc ▸ h t ho⟩
      | cell a t =>
        obtain ⟨ho, k, off, cells, he, hk, hc⟩ := h1
        have hu := h a ho
        rw [he] at hu
        obtain ⟨ad, v, e1, e2, e3⟩ := run_box_load hr hu hk hc
        exact ⟨v, by simp only [resSem, e1, asAddr, Sem.run_bind, Sem.run_pure, Result.andThen_ok, e2], e3⟩
    obtain ⟨v, hv1, hv2⟩ := this
    refine ⟨v :: vs, by simp [List.mapM_cons, hv1, hv], by simp [hl], fun i c' hi => ?_⟩
    rcases i with _ | i
    · simp at hi; subst hi; exact hv2
    · exact hrv i c' (by simpa using hi)
  | [], _ :: _, h => h.elim
  | _ :: _, [], h => h.elim

theorem res_all {fn : Func} {rs : List ResultVar} {cs : List CV} (hrs : fn.results = rs.toArray) (h : resAll C E σ rs cs) (hn : cs.length ≠ 1) : CResults C E σ fn (.tup cs) := fun M w a hr hh => by
  obtain ⟨vs, h1, h2, h3⟩ := run_res (C := C) hr hh rs cs h
  refine ⟨.tuple vs.toArray, ?_, .tup (by simp [h2]) (fun i c hi => by simpa using h3 i c hi)⟩
  have : (results fn a.tmps).run C.P w = ((rs.toArray.mapM (resSem a.tmps)).run C.P w).andThen fun vs w => .ok (if h : vs.size = 1 then vs[0] else .tuple vs) w := by
    unfold results
    rw [hrs, Sem.run_bind]
    rfl
  rw [this, List.mapM_toArray, Sem.run_map, h1]
  simp only [Result.andThen_ok]
  rw [dif_neg (by simp; omega)]
theorem res_one {fn : Func} {r : ResultVar} {c : CV} (hrs : fn.results = #[r]) (h : resOf C E σ r c) : CResults C E σ fn c := fun M w a hr hh => by
  obtain ⟨vs, h1, h2, h3⟩ := run_res (C := C) hr hh [r] [c] ⟨h, trivial⟩
  obtain ⟨v, rfl⟩ : ∃ v, vs = [v] := by
    match vs, h2 with
    | [v], _ => exact ⟨v, rfl⟩
  refine ⟨v, ?_, by simpa using h3 0 c rfl⟩
  have : (results fn a.tmps).run C.P w = ((#[r].mapM (resSem a.tmps)).run C.P w).andThen fun vs w => .ok (if h : vs.size = 1 then vs[0] else .tuple vs) w := by
    unfold results
    rw [hrs, Sem.run_bind]
    rfl
  have e : (#[r].mapM (resSem a.tmps)) = ([r].toArray.mapM (resSem a.tmps)) := rfl
  rw [this, e, List.mapM_toArray, Sem.run_map, h1]
  simp

/-! ### New rows that are settled at once -/
def Plan.settle (M : Plan) (b : Nat) : Plan := { M with full := fun x => M.full x ∨ x = b }

theorem Rel.allocFull {M : Plan} {w : World} (hr : Rel C M σ w) (ob : Obj) : Ext M w (M.settle w.heap.size) (w.alloc ob) ∧ Rel C (M.settle w.heap.size) σ (w.alloc ob) := by
  have hx : Ext M w (M.settle w.heap.size) (w.alloc ob) := ⟨⟨[], by simp [Plan.settle]⟩, fun _ h => .inl h, fun _ _ h => .inr h, fun b h => heap_alloc_lt w ob (hr.blk b 0 (.inl h)), fun b o' h => cell?_of_same (heap_alloc_lt w ob (hr.blk b o' (.inr h))), by rw [World.size_alloc]; omega, rfl, rfl, rfl, fun b h => ⟨h, heap_alloc_lt w ob (hr.kep b h), fun f => (by
    rcases f with f | f
    · exact f
    · have := hr.kep b h; omega), fun _ f => f⟩⟩
  refine ⟨hx, hr.len, fun b o' ha => ?_, fun k p x hk hs => ?_, hr.inj, fun g cells hg => (hr.glob g cells hg).mono hx, fun b h => (by rw [World.size_alloc]; have := hr.kep b h; omega), hr.nk⟩
  · rw [World.size_alloc]
    rcases ha with (ha | ha) | ha
    · have := hr.blk b o' (.inl ha); omega
    · omega
    · have := hr.blk b o' (.inr ha); omega
  · obtain ⟨h1, h2⟩ := hr.obj k p x hk hs
    by_cases hl : x.live = true
    · have hlt := h1.lt hl
      refine ⟨h1.mono hx (heap_alloc_lt w ob hlt) (fun _ _ _ h => h), ?_⟩
      have hf : ¬ M.full p.block → ¬ (M.settle w.heap.size).full p.block := fun h h' => by
        rcases h' with h' | h'
        · exact h h'
        · omega
      cases x <;> first | trivial | exact hf h2 | exact ⟨hf h2.1, h2.2⟩
    · cases x <;> first | exact ⟨trivial, trivial⟩ | simp [CObj.live] at hl

def cfillW (place : Nat → Option (Nat × Nat)) (cells : List CV) : List (Nat × CV) → Option (List CV)
  | [] => some cells
  | (i, c) :: rest =>
    match place i with
    | none => none
    | some (off, size) => if c.cells.length = size ∧ off + size ≤ cells.length then cfillW place (spliceL cells off c.cells) rest else none

theorem fillW_rel {M : Plan} {w : World} {place : Nat → Option (Nat × Nat)} : ∀ (ps : List (Nat × CV)) (qs : List (Nat × Value)) (cells : List CV) (arr : Array Value) (out : List CV),
    cfillW place cells ps = some out → ps.map (·.1) = qs.map (·.1) → (∀ (i : Nat) (x : Nat × CV) (y : Nat × Value), ps[i]? = some x → qs[i]? = some y → RV M w x.2 y.2 ∧ (x.2.one = true ∨ ∃ cs, x.2 = .agg cs)) →
    arr.size = cells.length → (∀ c ∈ cells, c.one = true) → (∀ (i : Nat) (c : CV), cells[i]? = some c → RV M w c (arr.getD i undef)) →
    ∃ r, Instr.fill place arr qs = some r ∧ RV M w (.agg out) (.agg r)
  | [], [], cells, arr, out, h, _, _, h2, h3, h4 => by
    simp only [cfillW, Option.some.injEq] at h
    subst h
    exact ⟨arr, rfl, .agg h2 h3 h4⟩
  | [], q :: qs, _, _, _, _, h, _, _, _, _ => by simp at h
  | p :: ps, [], _, _, _, _, h, _, _, _, _ => by simp at h
  | (i, c) :: ps, (i', v) :: qs, cells, arr, out, h, hm, hrv, h2, h3, h4 => by
    simp only [List.map_cons, List.cons.injEq] at hm
    obtain ⟨rfl, hm⟩ := hm
    simp only [cfillW] at h
    cases hp : place i with
    | none => rw [hp] at h; cases h
    | some x =>
      obtain ⟨off, size⟩ := x
      rw [hp] at h
      simp only at h
      split at h
      · rename_i hc
        obtain ⟨hc1, hc2⟩ := hc
        obtain ⟨hv, hone⟩ := hrv 0 (i, c) (i, v) rfl rfl
        obtain ⟨g1, g2, g3⟩ := hv.cells hone
        have g1 : v.cells.size = c.cells.length := g1
        have hsz : off + c.cells.length ≤ cells.length := by omega
        have hfold : (v.cells.zipIdx.foldl (fun cs (x : Value × Nat) => cs.setIfInBounds (off + x.2) x.1) arr) = spliceA arr off v.cells.toList := by
          rw [← Array.foldl_toList, Array.toList_zipIdx, zipIdx_fold]; rfl
        have ih := fillW_rel ps qs (spliceL cells off c.cells) (spliceA arr off v.cells.toList) out h hm (fun j x y hx hy => hrv (j + 1) x y (by simpa using hx) (by simpa using hy)) (by rw [spliceA_size, spliceL_length hsz, h2])
          (fun c' hc' => by
            rcases spliceL_mem hc' with h' | h'
            · exact g2 _ h'
            · exact h3 _ h')
          (fun j c' hj => by
            rw [spliceA_getD _ _ _ _ (by simp; omega)]
            rw [spliceL_get hsz] at hj
            simp only [Array.length_toList, g1]
            split at hj
            · rename_i hin
              rw [if_pos hin]
              have := g3 _ _ hj
              simpa using this
            · rename_i hin
              rw [if_neg hin]
              exact h4 _ _ hj)
        obtain ⟨r, hr1, hr2⟩ := ih
        refine ⟨r, ?_, hr2⟩
        simp only [Instr.fill, hp]
        rw [if_neg (by simp; omega)]
        exact (congrArg (fun z => Instr.fill place z qs) hfold).trans hr1
      · cases h

theorem flat_get {α : Type} {s : Nat} : ∀ (rows : List (List α)), (∀ r ∈ rows, r.length = s) → ∀ (i j : Nat) (r : List α) (c : α), rows[i]? = some r → r[j]? = some c → rows.flatten[i * s + j]? = some c
  | [], _, i, j, r, c, h, _ => by simp at h
  | r0 :: rows, hs, i, j, r, c, hi, hj => by
    have h0 := hs r0 (by simp)
    rw [List.flatten_cons, List.getElem?_append]
    rcases i with _ | i
    · simp at hi; subst hi
      have := (List.getElem?_eq_some_iff.1 hj).1
      rw [if_pos (by omega)]
      simpa using hj
    · simp at hi
      have hr := hs r (by simp [List.mem_of_getElem? hi])
      have hlt := (List.getElem?_eq_some_iff.1 hj).1
      rw [if_neg (by rw [h0, Nat.add_mul]; omega)]
      have := flat_get rows (fun r hr => hs r (by simp [hr])) i j r c hi hj
      rw [h0, show (i + 1) * s + j - s = i * s + j from by rw [Nat.add_mul]; omega]
      exact this
theorem flat_len {α : Type} {s : Nat} : ∀ (rows : List (List α)), (∀ r ∈ rows, r.length = s) → rows.flatten.length = rows.length * s
  | [], _ => by simp
  | r0 :: rows, hs => by
    have h0 := hs r0 (by simp)
    rw [List.flatten_cons, List.length_append, flat_len rows (fun r hr => hs r (by simp [hr])), h0, List.length_cons, Nat.add_mul]
    omega

theorem y_buildSlice {t e : TypeId} {len s : Nat} {parts : Array (Nat × Operand)} {z : Value} {ps : List (Nat × CV)} {rows : List (List CV)} (ho : o.op = .buildSlice t len parts) (hv : E.valids (parts.toList.map (·.2)))
    (hu : ∀ w, (underlying t).run C.P w = .ok (.slice e) w) (hs : ∀ w, (sizeOf e).run C.P w = .ok s w) (hz : ∀ w, (zeroValue e).run C.P w = .ok z w) (hz1 : constOk z = true) (hz2 : (cvOf z).one = true ∨ ∃ cs, cvOf z = .agg cs) (hzl : (cvOf z).cells.length = s) (hs0 : 0 < s)
    (hlen : len * s ≤ 2 ^ 24) (ep : parts.toList.map (fun x => (x.1, E.val C x.2)) = ps) (hone : ∀ x ∈ ps, x.2.one = true ∨ ∃ cs, x.2 = .agg cs)
    (hout : cfillW (fun i => some (i * s, s)) ((List.range (len * s)).map fun i => (cvOf z).cells.getD (i % s) default) ps = some rows.flatten) (hrl : rows.length = len) (hrs : ∀ r ∈ rows, r.length = s) : Yields C σ E o (.list rows true none) := fun M w ρ hr h => by
  have hz0 : RV M w (cvOf z) z := rv_cvOf hz1
  obtain ⟨g1, g2, g3⟩ := hz0.cells hz2
  have hmem : ∀ x ∈ parts.toList, x.2 ∈ o.op.operands := fun x hx => by
    rw [ho]
    simp only [Op.operands, List.mem_toArray, List.mem_map]
    exact ⟨x, hx, rfl⟩
  have hval := Env.valids_mem hv
  obtain ⟨r, hr1, hr2⟩ := fillW_rel (M := M) (w := w) ps (parts.toList.map fun x => (x.1, ρ x.2)) ((List.range (len * s)).map fun i => (cvOf z).cells.getD (i % s) default) ((Array.range (len * s)).map (z.cells[· % z.cells.size]!)) rows.flatten hout (by simp [← ep]) (fun i x y hx hy => by
      refine ⟨?_, hone x (List.mem_of_getElem? hx)⟩
      subst ep
      simp only [List.getElem?_map, Option.map_eq_some_iff] at hx hy
      obtain ⟨a, ha, rfl⟩ := hx
      obtain ⟨a', ha', rfl⟩ := hy
      have : a = a' := by rw [ha] at ha'; injection ha'
      subst this
      have hm := List.mem_of_getElem? ha
      exact h _ (hmem _ hm) (hval _ (List.mem_map.2 ⟨_, hm, rfl⟩))) (by simp) (fun c hc => by
        obtain ⟨i, _, rfl⟩ := List.mem_map.1 hc
        have hlt : i % s < (cvOf z).cells.length := by rw [hzl]; exact Nat.mod_lt _ hs0
        rw [List.getD_eq_getElem?_getD, List.getElem?_eq_getElem hlt]
        exact g2 _ (List.getElem_mem hlt)) (fun i c hi => by
        rw [List.getElem?_map, Option.map_eq_some_iff] at hi
        obtain ⟨i', hi', rfl⟩ := hi
        have hlt' := (List.getElem?_eq_some_iff.1 hi').1
        simp at hlt'
        rw [List.getElem?_range hlt'] at hi'
        injection hi' with hi'
        subst hi'
        have hlt : i % s < (cvOf z).cells.length := by rw [hzl]; exact Nat.mod_lt _ hs0
        have hlt2 : i % s < z.cells.size := by rw [g1]; exact hlt
        have := g3 (i % s) _ (List.getElem?_eq_getElem hlt)
        have e1 : (cvOf z).cells.getD (i % s) default = (cvOf z).cells[i % s] := by
          rw [List.getD_eq_getElem?_getD, List.getElem?_eq_getElem hlt]; rfl
        rw [e1]
        have e2 : ((Array.range (len * s)).map (z.cells[· % z.cells.size]!)).getD i undef = z.cells.getD (i % s) undef := by
          have hzs : z.cells.size = s := by rw [g1, hzl]
          have hms : i % s < s := Nat.mod_lt _ hs0
          simp [hlt', hzs, hms]
        rw [e2]
        exact this)
  cases hr2 with
  | agg q1 q2 q3 =>
    obtain ⟨hx, hrel⟩ := hr.allocFull (.cells r e)
    have hrun : (execOp ρ o).run C.P w = .ok (.value (.slice (some ⟨w.heap.size, 0, none⟩) len len)) (w.alloc (.cells r e)) := by
      have hl : (parts.map fun x => (x.1, ρ x.2)).toList = parts.toList.map fun x => (x.1, ρ x.2) := by simp
      simp only [execOp, ho, Instr.buildSlice, Sem.run_bind, hu, Result.andThen_ok, hs]
      rw [if_neg (by omega)]
      simp only [hl]
      by_cases h00 : len * s = 0
      · have er : Array.range 0 = #[] := rfl
        rw [h00, er] at hr1
        simp only [List.map_toArray, List.map_nil] at hr1
        simp [h00, er, hr1, newRow]
      · simp [h00, hz, hr1, newRow]
    rw [hrun]
    have hcap : rows.length ≤ maxLen := by
      have : len ≤ len * s := Nat.le_mul_of_pos_right _ hs0
      unfold maxLen
      omega
    refine ⟨.list rows true none, σ, _, hx, hrel, ?_, rfl, rfl⟩
    rw [← hrl]
    have hflen := flat_len rows hrs
    refine .list (b := w.heap.size) (off := 0) (s := s) (fun i j => r.getD (i * s + j) undef) (Nat.le_refl _) hcap rfl (fun h => by cases h) (fun _ => rfl) hrs (fun r0 hr0 c hc => q2 c (List.mem_flatten.2 ⟨r0, hr0, hc⟩)) (fun i j r0 c hi hj => ?_) (fun i j r0 c hi hj => ?_) (fun k hk => by cases hk)
    · have hf := flat_get rows hrs i j r0 c hi hj
      have hlt := (List.getElem?_eq_some_iff.1 hf).1
      have hlt' : i * s + j < r.size := by omega
      refine ⟨.inl (.inr rfl), ?_⟩
      rw [Nat.zero_add, World.cell?_alloc_new]
      simp [hlt']
    · exact (q3 _ _ (flat_get rows hrs i j r0 c hi hj)).mono hx

/-! ### Parts of slices -/
def bound (C : Ctx) (E : Env) (x : Option Operand) (d : Nat) (n : Nat) : Prop :=
  match x with
  | none => d = n
  | some x => E.valid x ∧ ∃ k i, E.val C x = .val (.int k i) ∧ 0 ≤ i ∧ i.toNat = n

theorem y_slice {t e : TypeId} {x : Operand} {lo hi : Option Operand} {rows : List (List CV)} {nn : Bool} {tok : Option Nat} {l h s : Nat} (ho : o.op = .slice t x lo hi none) (hx : E.valid x) (ex : E.val C x = .list rows nn tok)
    (hu : ∀ w, (underlying t).run C.P w = .ok (.slice e) w) (hs : ∀ w, (sizeOf e).run C.P w = .ok s w) (hrs : ∀ r ∈ rows, r.length = s) (hlo : bound C E lo 0 l) (hhi : bound C E hi rows.length h) (h1 : l ≤ h) (h2 : h ≤ rows.length) : Yields C σ E o (.list ((rows.take h).drop l) nn none) :=
  yields_same fun M w ρ hr hh => by
    have hx' := hh x (by simp [ho, Op.operands]) hx
    rw [ex] at hx'
    obtain ⟨a, cap, b, off, s', vals, hv, hcap, hmax, hnn, hn0, ha, hrl, hone, hc, hrv, _⟩ := hx'.list_inv
    have hlo' : ∀ v, lo = some v → ∃ k i, ρ v = .int k i ∧ 0 ≤ i ∧ i.toNat = l := fun v hv => by
      subst hv
      obtain ⟨hval, k, i, he, h0, hi⟩ := hlo
      have := hh v (by simp [ho, Op.operands]) hval
      rw [he] at this
      exact ⟨k, i, rv_val this, h0, hi⟩
    have hhi' : ∀ v, hi = some v → ∃ k i, ρ v = .int k i ∧ 0 ≤ i ∧ i.toNat = h := fun v hv => by
      subst hv
      obtain ⟨hval, k, i, he, h0, hi⟩ := hhi
      have := hh v (by simp [ho, Op.operands]) hval
      rw [he] at this
      exact ⟨k, i, rv_val this, h0, hi⟩
    have hb : (Instr.sliceBounds true rows.length cap (lo.map ρ) (hi.map ρ) none).run C.P w = .ok (l, h, cap) w := by
      have hl2 : (l : Int) ≤ h := by omega
      have hh2 : (h : Int) ≤ cap := by omega
      cases lo with
      | none =>
        have : l = 0 := by simpa [bound] using hlo.symm
        subst this
        cases hi with
        | none =>
          have : h = rows.length := by simpa [bound] using hhi.symm
          subst this
          simp [Instr.sliceBounds]
        | some v =>
          obtain ⟨k, i, he, h0, hi⟩ := hhi' v rfl
          have : i ≤ (cap : Int) := by omega
          simp [Instr.sliceBounds, Instr.sliceBound, he, asIntOf, h0, this, hi]
      | some u =>
        obtain ⟨k', i', he', h0', hi'⟩ := hlo' u rfl
        have hle : i' ≤ (h : Int) := by omega
        cases hi with
        | none =>
          have : h = rows.length := by simpa [bound] using hhi.symm
          subst this
          simp [Instr.sliceBounds, Instr.sliceBound, he', asIntOf, h0', hle, hi']
        | some v =>
          obtain ⟨k, i, he, h0, hi⟩ := hhi' v rfl
          have hc' : i ≤ (cap : Int) := by omega
          simp [Instr.sliceBounds, Instr.sliceBound, he, he', asIntOf, h0, h0', hc', hi, hle, hi']
    have hrun : (execOp ρ o).run C.P w = .ok (.value (.slice (if cap = l then a else a.map (·.add (l * s))) (h - l) (cap - l))) w := by
      simp [execOp, ho, Instr.sliceAt, Instr.slice, hu, hv, hb, hs]
    have hlen : ((rows.take h).drop l).length = h - l := by simp; omega
    refine ⟨_, hrun, ?_⟩
    rw [← hlen]
    have hget : ∀ i r, ((rows.take h).drop l)[i]? = some r → rows[l + i]? = some r := fun i r hi => by
      rw [List.getElem?_drop, List.getElem?_take] at hi
      split at hi
      · exact hi
      · cases hi
    refine .list (b := b) (off := off + l * s) (s := s) (fun i j => vals (l + i) j) (by rw [hlen]; omega) (by omega) ?_ (fun h0 => by have := hn0 h0; omega) (fun hne => ?_) (fun r hr => hrs r (List.mem_of_mem_take (List.mem_of_mem_drop hr))) (fun r hr c hc => hone r (List.mem_of_mem_take (List.mem_of_mem_drop hr)) c hc) (fun i j r c hi hj => ?_) (fun i j r c hi hj => hrv _ _ _ _ (hget i r hi) hj) (fun k hk => by cases hk)
    · split
      · exact hnn
      · rw [Option.isSome_map]; exact hnn
    · have hne' : rows ≠ [] := by rintro rfl; simp at hne
      have hlt : l < h := by
        rcases Nat.lt_or_ge l h with h' | h'
        · exact h'
        · exact absurd (List.eq_nil_of_length_eq_zero (by rw [hlen]; omega)) hne
      rw [if_neg (by omega), ha hne']
      simp [add_none]
    · have hi' := hget i r hi
      have hss : s' = s := by
        have hm := List.mem_of_getElem? hi'
        rw [← hrl r hm, hrs r hm]
      subst hss
      have := hc _ _ _ _ hi' hj
      rw [show off + l * s' + i * s' + j = off + (l + i) * s' + j from by rw [Nat.add_mul]; omega]
      exact this
end
end Go.Cl
