import Derived.Test.YtchaklkfaemfgaaK3
namespace Go.Cl

/-! ### Stores -/
def World.putObj (w : World) (b : Nat) (o : Obj) : World := { w with heap := w.heap.setIfInBounds b o }

theorem World.putObj_same (w : World) {b : Nat} (o : Obj) (hb : b < w.heap.size) : (World.putObj w b o).heap[b]? = some o := by
  simp [World.putObj, hb]
theorem World.putObj_other (w : World) {b b' : Nat} (o : Obj) (h : b ≠ b') : (World.putObj w b o).heap[b']? = w.heap[b']? := by
  simp [World.putObj, Array.getElem?_setIfInBounds_ne h]
theorem World.putObj_size (w : World) (b : Nat) (o : Obj) : (World.putObj w b o).heap.size = w.heap.size := by
  simp [World.putObj]
theorem World.putObj_put (w : World) (b : Nat) (o o' : Obj) : World.putObj (World.putObj w b o) b o' = World.putObj w b o' := by
  simp [World.putObj]
theorem World.putObj_self (w : World) {b : Nat} {o : Obj} (h : w.heap[b]? = some o) : World.putObj w b o = w := by
  have : w.heap.setIfInBounds b o = w.heap := by
    apply Array.ext_getElem?
    intro i
    by_cases hi : b = i
    · subst hi
      have hlt := (Array.getElem?_eq_some_iff.1 h).1
      rw [h]
      simp [hlt]
    · rw [Array.getElem?_setIfInBounds_ne hi]
  unfold World.putObj
  rw [this]

theorem setCell_putObj (w : World) {b off : Nat} {cur : Array Value} {t : TypeId} (v : Value) (h : w.heap[b]? = some (.cells cur t (0, 0))) :
    w.setCell ⟨b, off, none⟩ v = World.putObj w b (.cells (cur.setIfInBounds off v) t (0, 0)) := by
  have hlt := (Array.getElem?_eq_some_iff.1 h).1
  unfold World.setCell World.putObj
  congr 1
  apply Array.ext_getElem?
  intro i
  rw [Array.getElem?_modify]
  by_cases hi : b = i
  · subst hi
    rw [if_pos rfl, h, Array.getElem?_setIfInBounds_self_of_lt hlt]
    rfl
  · rw [if_neg hi, Array.getElem?_setIfInBounds_ne hi]

/-- Values put into an array one behind the other. -/
def spliceA (cur : Array Value) (o : Nat) : List Value → Array Value
  | [] => cur
  | v :: vs => spliceA (cur.setIfInBounds o v) (o + 1) vs

theorem spliceA_size : ∀ (vs : List Value) (cur : Array Value) (o : Nat), (spliceA cur o vs).size = cur.size
  | [], _, _ => rfl
  | v :: vs, cur, o => by rw [spliceA, spliceA_size vs]; simp

theorem spliceA_getD : ∀ (vs : List Value) (cur : Array Value) (o i : Nat), o + vs.length ≤ cur.size →
    (spliceA cur o vs).getD i undef = if o ≤ i ∧ i < o + vs.length then vs.getD (i - o) undef else cur.getD i undef
  | [], cur, o, i, _ => by
    rw [spliceA, if_neg (by simp only [List.length_nil]; omega)]
  | v :: vs, cur, o, i, h => by
    simp only [List.length_cons] at h
    rw [spliceA, spliceA_getD vs _ _ _ (by simp; omega)]
    by_cases h1 : o + 1 ≤ i ∧ i < o + 1 + vs.length
    · rw [if_pos h1, if_pos (by simp only [List.length_cons]; omega)]
      have : i - o = (i - (o + 1)) + 1 := by omega
      rw [this]; simp
    · rw [if_neg h1]
      by_cases h2 : i = o
      · subst h2
        rw [if_pos (by simp only [List.length_cons]; omega)]
        have hlt : i < cur.size := by omega
        simp [hlt]
      · rw [if_neg (by simp only [List.length_cons]; omega)]
        simp [Array.getElem?_setIfInBounds_ne (Ne.symm h2)]

theorem run_storeCells' {P : Program} {b off : Nat} {t : TypeId} : ∀ (vs : List Value) (i : Nat) (cur : Array Value) (w : World), w.heap[b]? = some (.cells cur t (0, 0)) → off + i + vs.length ≤ cur.size → (∀ v ∈ vs, v.oneCell' = true) →
    (storeCells ⟨b, off, none⟩ vs i).run P w = .ok () (World.putObj w b (.cells (spliceA cur (off + i) vs) t (0, 0)))
  | [], i, cur, w, h, _, _ => by
    simp only [storeCells, spliceA, World.putObj_self w h]; rfl
  | v :: vs, i, cur, w, h, hl, h1 => by
    simp only [List.length_cons] at hl
    have hcell : w.cell? ⟨b, off + i, none⟩ = some (cur.getD (off + i) undef) := by
      have : off + i < cur.size := by omega
      simp [World.cell?, h, this]
    have hfz : w.frozen? ⟨b, off + i, none⟩ = false := by simp [World.frozen?, h]
    have hb : b < w.heap.size := (Array.getElem?_eq_some_iff.1 h).1
    simp only [storeCells, add_none, Sem.run_bind, run_store P w _ v .plain (h1 v (by simp)), hcell, hfz, Bool.false_eq_true, if_false, Result.andThen_ok]
    rw [setCell_putObj w v h]
    have ih := run_storeCells' (P := P) (off := off) (t := t) vs (i + 1) (cur.setIfInBounds (off + i) v) (World.putObj w b (.cells (cur.setIfInBounds (off + i) v) t (0, 0))) (World.putObj_same w _ hb) (by simp; omega) (fun u hu => h1 u (by simp [hu]))
    rw [ih, World.putObj_put]
    rfl

def spliceL (cells : List CV) (off : Nat) (new : List CV) : List CV := cells.take off ++ (new ++ cells.drop (off + new.length))

theorem spliceL_length {cells new : List CV} {off : Nat} (h : off + new.length ≤ cells.length) : (spliceL cells off new).length = cells.length := by
  simp [spliceL]; omega
theorem spliceL_get {cells new : List CV} {off : Nat} (h : off + new.length ≤ cells.length) (i : Nat) :
    (spliceL cells off new)[i]? = if off ≤ i ∧ i < off + new.length then new[i - off]? else cells[i]? := by
  unfold spliceL
  rw [List.getElem?_append]
  simp only [List.length_take, Nat.min_eq_left (show off ≤ cells.length by omega)]
  split
  · rename_i h1
    rw [if_neg (by omega), List.getElem?_take, if_pos h1]
  · rename_i h1
    rw [List.getElem?_append]
    split
    · rename_i h2
      rw [if_pos (by omega)]
    · rename_i h2
      rw [if_neg (by omega), List.getElem?_drop]
      congr 1; omega
theorem spliceL_mem {cells new : List CV} {off : Nat} {c : CV} (h : c ∈ spliceL cells off new) : c ∈ new ∨ c ∈ cells := by
  simp only [spliceL, List.mem_append] at h
  rcases h with h | h | h
  · exact .inr (List.mem_of_mem_take h)
  · exact .inl h
  · exact .inr (List.mem_of_mem_drop h)

theorem Ext.putObj {M : Plan} {w : World} {b : Nat} (o : Obj) (hkp : ¬ M.keep b) (hf : ¬ M.full b) (hc : ∀ o, ¬ M.cell b o) : Ext M w M (World.putObj w b o) :=
  ⟨⟨[], by simp⟩, fun _ h => h, fun _ _ h => .inr h, fun b' h => World.putObj_other w o (fun e => hf (e ▸ h)), fun b' o' h => cell?_of_same (World.putObj_other w o (fun e => hc o' (e ▸ h))), by rw [World.putObj_size]; exact Nat.le_refl _, rfl, rfl, rfl, fun b' h => ⟨h, World.putObj_other w o (fun e => hkp (e ▸ h)), id, fun _ => id⟩⟩

theorem Rel.putObj {C : Ctx} {M : Plan} {σ : List CObj} {w : World} (hr : Rel C M σ w) {k : Nat} {p : Pl} {ob0 ob : CObj} (hk : M.pl[k]? = some p) (hs : σ[k]? = some ob0) (hl0 : ob0.live = true) (hf : ¬ M.full p.block) (hc : ∀ o, ¬ M.cell p.block o) (o : Obj)
    (h : ObjRel M (World.putObj w p.block o) p ob) : Rel C M (σ.set k ob) (World.putObj w p.block o) := by
  have hx := Ext.putObj (w := w) o (hr.nk k p ob0 hk hs hl0) hf hc
  have hb : p.block < w.heap.size := (hr.obj k p ob0 hk hs).1.lt hl0
  have hget : ∀ {k' : Nat} {x : CObj}, (σ.set k ob)[k']? = some x → (k' = k ∧ x = ob) ∨ (k' ≠ k ∧ σ[k']? = some x) := by
    intro k' x hh
    rw [List.getElem?_set] at hh
    split at hh
    · rename_i e
      split at hh
      · injection hh with hh; exact .inl ⟨e.symm, hh.symm⟩
      · cases hh
    · rename_i e; exact .inr ⟨fun e' => e e'.symm, hh⟩
  refine ⟨by simp [hr.len], fun b o' ha => by rw [World.putObj_size]; exact hr.blk b o' ha, fun k' q x hk' hx' => ?_, fun k1 k2 q1 q2 x1 x2 hk1 hk2 hx1 hx2 hl1 hl2 hbb => ?_, fun g cells hg => (hr.glob g cells hg).mono hx, fun b h => (by rw [World.putObj_size]; exact hr.kep b h), fun k' q x hk' hx' hlv => ?_⟩
  · rcases hget hx' with ⟨rfl, rfl⟩ | ⟨hne, hs'⟩
    · have : q = p := by rw [hk] at hk'; injection hk' with hk'; exact hk'.symm
      subst this
      refine ⟨h, ?_⟩
      cases x <;> first | trivial | exact hf | exact ⟨hf, hc⟩
    · obtain ⟨h1, h2⟩ := hr.obj k' q x hk' hs'
      refine ⟨?_, h2⟩
      by_cases hl : x.live = true
      · refine h1.mono hx (World.putObj_other w o fun e => hne ?_) (fun _ _ _ h => h)
        exact hr.inj k' k q p x ob0 hk' hk hs' hs hl hl0 e.symm
      · cases x <;> first | trivial | simp [CObj.live] at hl
  · have back : ∀ {k' : Nat} {x : CObj}, (σ.set k ob)[k']? = some x → x.live = true → ∃ x', σ[k']? = some x' ∧ x'.live = true := by
      intro k' x hh hl
      rcases hget hh with ⟨rfl, rfl⟩ | ⟨_, hs'⟩
      · exact ⟨ob0, hs, hl0⟩
      · exact ⟨x, hs', hl⟩
    obtain ⟨y1, hy1, hl1'⟩ := back hx1 hl1
    obtain ⟨y2, hy2, hl2'⟩ := back hx2 hl2
    exact hr.inj k1 k2 q1 q2 y1 y2 hk1 hk2 hy1 hy2 hl1' hl2' hbb
  · rcases hget hx' with ⟨rfl, rfl⟩ | ⟨hne, hs'⟩
    · rw [hk] at hk'
      injection hk' with hk'
      subst hk'
      exact hr.nk _ _ ob0 hk hs hl0
    · exact hr.nk k' q x hk' hs' hlv

section
variable {C : Ctx} {σ : List CObj} {E : Env} {o : Oper}

theorem cells_toList_one {M : Plan} {w : World} {c : CV} {v : Value} (h : RV M w c v) (ho : c.one = true ∨ ∃ cs, c = .agg cs) : ∀ u ∈ v.cells.toList, u.oneCell' = true := by
  obtain ⟨h1, h2, h3⟩ := h.cells ho
  intro u hu
  obtain ⟨i, hi, rfl⟩ := List.mem_iff_getElem.1 hu
  have hi' : i < v.cells.size := by simpa using hi
  have hi2 : i < c.cells.length := by omega
  have := (h3 i c.cells[i] (by simp [hi2])).one (h2 _ (List.getElem_mem hi2))
  simpa [hi'] using this

theorem d_store {t : TypeId} {x y : Operand} {k off s : Nat} {c : CV} {cells : List CV} {K : CRes → List CObj → Prop} (ho : o.op = .store t x y) (hx : E.valid x) (hy : E.valid y) (ex : E.val C x = .ptr k off) (ey : E.val C y = c) (hs : ∀ w, (sizeOf t).run C.P w = .ok s w)
    (hc : c.one = true ∨ ∃ cs, c = .agg cs) (hk : σ[k]? = some (.box cells)) (hl : c.cells.length = s) (hlt : off + s ≤ cells.length) (h : K (.ret (.val undef)) (σ.set k (.box (spliceL cells off c.cells)))) : Does C σ E o K := fun M w ρ hr hh => by
  have h1 := hh x (by simp [ho, Op.operands]) hx
  have h2 := hh y (by simp [ho, Op.operands]) hy
  rw [ex] at h1
  rw [ey] at h2
  generalize hu : ρ x = u at h1
  cases h1 with
  | ptr hp =>
    rename_i p
    obtain ⟨⟨arr, ty, e1, e2, e3, e4⟩, hf, hcl⟩ := hr.obj k p _ hp hk
    obtain ⟨g1, g2, g3⟩ := h2.cells hc
    have hone := cells_toList_one h2 hc
    have hsz : off + c.cells.length ≤ cells.length := by omega
    have hrun : (execOp ρ o).run C.P w = .ok .skip (World.putObj w p.block (.cells (spliceA arr off (ρ y).cells.toList) ty (0, 0))) := by
      have := run_storeCells' (P := C.P) (b := p.block) (off := off) (t := ty) (ρ y).cells.toList 0 arr w e1 (by simp; omega) hone
      simp only [Nat.add_zero] at this
      simp [execOp, ho, hu, Instr.storeAt, Instr.sureAddr, storeVar, hs, g1, hl, this]
    rw [hrun]
    have hx := Ext.putObj (w := w) (.cells (spliceA arr off (ρ y).cells.toList) ty (0, 0)) (hr.nk k p _ hp hk rfl) hf hcl
    have hb : p.block < w.heap.size := (Array.getElem?_eq_some_iff.1 e1).1
    refine ⟨.val undef, _, M, hx, hr.putObj (ob := .box (spliceL cells off c.cells)) hp hk rfl hf hcl _ ⟨_, ty, World.putObj_same w _ hb, by rw [spliceA_size, spliceL_length hsz, e2], fun c' hc' => ?_, fun i c' hi => ?_⟩, .val _, h⟩
    · rcases spliceL_mem hc' with h' | h'
      · exact g2 _ h'
      · exact e3 _ h'
    · rw [spliceA_getD _ _ _ _ (by simp; omega)]
      rw [spliceL_get hsz] at hi
      simp only [Array.length_toList, g1]
      split at hi
      · rename_i hin
        rw [if_pos hin]
        have := (g3 _ _ hi).mono hx
        simpa using this
      · rename_i hin
        rw [if_neg hin]
        exact (e4 _ _ hi).mono hx

/-! ### Calls -/
theorem d_call {f : FuncId} {xs : Array Operand} {ts : Array TypeId} {cargs : List CV} {K : CRes → List CObj → Prop} (ho : o.op = .call { callee := .value (.func f), args := xs, argTypes := ts }) (hcall : ∀ args w, (callFunc f args).run C.P w = .ok (.enter f args) w)
    (hv : ∀ x ∈ xs.toList, E.valid x) (ea : xs.toList.map (E.val C) = cargs) (h : CCalls C f cargs σ K) : Does C σ E o K := fun M w ρ hr hh => by
  have hf : RV M w (.val (.func (.func f) #[] #[])) (ρ (.func f)) := hh (.func f) (by simp [ho, Op.operands, Call.operands]) trivial
  have ef := rv_val hf
  have hrun : (execOp ρ o).run C.P w = .ok (.enter f (xs.map ρ)) w := by
    simp [execOp, ho, resolve, ef, Deferred.ofValue, invoke, hcall]
  rw [hrun]
  refine (h M w (xs.map ρ) hr (by simp [← ea]) fun i c hi => ?_).mono fun e w' he => by cases e <;> exact he
  subst ea
  simp only [List.getElem?_map, Option.map_eq_some_iff] at hi
  obtain ⟨x, hx, rfl⟩ := hi
  have hx' : xs[i]? = some x := by simpa using hx
  have hm : x ∈ xs := Array.mem_of_getElem? hx'
  have : (xs.map ρ).getD i undef = ρ x := by
    rw [Array.getD_eq_getD_getElem?, Array.getElem?_map, hx']; rfl
  rw [this]
  exact hh x (by simp [ho, Op.operands, Call.operands, hm]) (hv x (by simpa using hm))

/-! ### Structs put together -/
def cfill (pls : Array (Nat × Nat)) (cells : List CV) : List (Nat × CV) → Option (List CV)
  | [] => some cells
  | (i, c) :: rest =>
    match pls[i]? with
    | none => none
    | some (off, size) => if c.cells.length = size ∧ off + size ≤ cells.length then cfill pls (spliceL cells off c.cells) rest else none

theorem zipIdx_fold : ∀ (vs : List Value) (cs : Array Value) (off j : Nat), (vs.zipIdx j).foldl (fun cs (x : Value × Nat) => cs.setIfInBounds (off + x.2) x.1) cs = spliceA cs (off + j) vs
  | [], _, _, _ => rfl
  | v :: vs, cs, off, j => by
    rw [List.zipIdx_cons, List.foldl_cons, zipIdx_fold vs _ off (j + 1)]
    rfl

theorem fill_rel {M : Plan} {w : World} {pls : Array (Nat × Nat)} {place : Nat → Option (Nat × Nat)} (hpl : ∀ i, place i = pls[i]?) : ∀ (ps : List (Nat × CV)) (qs : List (Nat × Value)) (cells : List CV) (arr : Array Value) (out : List CV),
    cfill pls cells ps = some out → ps.map (·.1) = qs.map (·.1) → (∀ (i : Nat) (x : Nat × CV) (y : Nat × Value), ps[i]? = some x → qs[i]? = some y → RV M w x.2 y.2 ∧ (x.2.one = true ∨ ∃ cs, x.2 = .agg cs)) →
    arr.size = cells.length → (∀ c ∈ cells, c.one = true) → (∀ (i : Nat) (c : CV), cells[i]? = some c → RV M w c (arr.getD i undef)) →
    ∃ r, Instr.fill place arr qs = some r ∧ RV M w (.agg out) (.agg r)
  | [], [], cells, arr, out, h, _, _, h2, h3, h4 => by
    simp only [cfill, Option.some.injEq] at h
    subst h
    exact ⟨arr, rfl, .agg h2 h3 h4⟩
  | [], q :: qs, _, _, _, _, h, _, _, _, _ => by simp at h
  | p :: ps, [], _, _, _, _, h, _, _, _, _ => by simp at h
  | (i, c) :: ps, (i', v) :: qs, cells, arr, out, h, hm, hrv, h2, h3, h4 => by
    simp only [List.map_cons, List.cons.injEq] at hm
    obtain ⟨rfl, hm⟩ := hm
    simp only [cfill] at h
    cases hp : pls[i]? with
    | none => rw [hp] at h; cases h
    | some x =>
      obtain ⟨off, size⟩ := x
      rw [hp] at h
      simp only at h
      split at h
      · rename_i hc
        obtain ⟨hc1, hc2⟩ := hc
        obtain ⟨hv, hone⟩ := hrv 0 (i, c) (i, v) rfl rfl
        obtain ⟨g1, g2, g3⟩ := hv.cells hone
        have g1 : v.cells.size = c.cells.length := g1
        have hsz : off + c.cells.length ≤ cells.length := by omega
        have hfold : (v.cells.zipIdx.foldl (fun cs (x : Value × Nat) => cs.setIfInBounds (off + x.2) x.1) arr) = spliceA arr off v.cells.toList := by
          rw [← Array.foldl_toList, Array.toList_zipIdx, zipIdx_fold]; rfl
        have ih := fill_rel hpl ps qs (spliceL cells off c.cells) (spliceA arr off v.cells.toList) out h hm (fun j x y hx hy => hrv (j + 1) x y (by simpa using hx) (by simpa using hy)) (by rw [spliceA_size, spliceL_length hsz, h2])
          (fun c' hc' => by
            rcases spliceL_mem hc' with h' | h'
            · exact g2 _ h'
            · exact h3 _ h')
          (fun j c' hj => by
            rw [spliceA_getD _ _ _ _ (by simp; omega)]
            rw [spliceL_get hsz] at hj
            simp only [Array.length_toList, g1]
            split at hj
            · rename_i hin
              rw [if_pos hin]
              have := g3 _ _ hj
              simpa using this
            · rename_i hin
              rw [if_neg hin]
              exact h4 _ _ hj)
        obtain ⟨r, hr1, hr2⟩ := ih
        refine ⟨r, ?_, hr2⟩
        simp only [Instr.fill, hpl, hp]
        rw [if_neg (by simp; omega)]
        exact (congrArg (fun z => Instr.fill place z qs) hfold).trans hr1
      · cases h

theorem y_build {t : TypeId} {parts : Array (Nat × Operand)} {fs : Array Field} {pls : Array (Nat × Nat)} {z : Value} {ps : List (Nat × CV)} {out : List CV} (ho : o.op = .build t parts) (hv : ∀ x ∈ parts.toList, E.valid x.2)
    (hu : ∀ w, (underlying t).run C.P w = .ok (.struct fs) w) (hz : ∀ w, (zeroValue t).run C.P w = .ok z w) (hz1 : constOk z = true) (hz2 : ∃ cs, cvOf z = .agg cs)
    (hpl : ∀ w, (fs.mapM fun (f : Field) => do pure (f.offset, ← sizeOf f.type)).run C.P w = .ok pls w) (ep : parts.toList.map (fun x => (x.1, E.val C x.2)) = ps)
    (hone : ∀ x ∈ ps, x.2.one = true ∨ ∃ cs, x.2 = .agg cs) (hout : cfill pls (cvOf z).cells ps = some out) : Yields C σ E o (.agg out) :=
  yields_same fun M w ρ hr h => by
    have hz0 : RV M w (cvOf z) z := rv_cvOf hz1
    obtain ⟨g1, g2, g3⟩ := hz0.cells (.inr hz2)
    have hmem : ∀ x ∈ parts.toList, x.2 ∈ o.op.operands := fun x hx => by
      rw [ho]
      simp only [Op.operands, List.mem_toArray, List.mem_map]
      exact ⟨x, hx, rfl⟩
    obtain ⟨r, hr1, hr2⟩ := fill_rel (M := M) (w := w) (place := fun i => pls[i]?) (fun _ => rfl) ps (parts.toList.map fun x => (x.1, ρ x.2)) (cvOf z).cells z.cells out hout (by simp [← ep]) (fun i x y hx hy => by
      refine ⟨?_, hone x (List.mem_of_getElem? hx)⟩
      subst ep
      simp only [List.getElem?_map, Option.map_eq_some_iff] at hx hy
      obtain ⟨a, ha, rfl⟩ := hx
      obtain ⟨a', ha', rfl⟩ := hy
      have : a = a' := by rw [ha] at ha'; injection ha'
      subst this
      have hm := List.mem_of_getElem? ha
      exact h _ (hmem _ hm) (hv _ hm)) g1 g2 g3
    refine ⟨.agg r, ?_, hr2⟩
    have hl : (parts.map fun x => (x.1, ρ x.2)).toList = parts.toList.map fun x => (x.1, ρ x.2) := by simp
    simp only [execOp, ho, Instr.build, Sem.run_bind, hz, Result.andThen_ok, hu, hpl]
    simp only [hl, hr1]
    rfl
end
end Go.Cl
