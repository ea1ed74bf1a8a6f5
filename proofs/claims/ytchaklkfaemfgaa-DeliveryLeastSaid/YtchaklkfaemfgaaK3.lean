import Derived.Test.YtchaklkfaemfgaaK2
namespace Go.Cl

/-! ### New objects -/
def Plan.add (M : Plan) (p : Pl) : Plan := { M with pl := M.pl ++ [p] }

theorem heap_alloc_lt (w : World) (o : Obj) {b : Nat} (h : b < w.heap.size) : (w.alloc o).heap[b]? = w.heap[b]? := by
  show (w.heap.push o)[b]? = _
  rw [Array.getElem?_push, if_neg (Nat.ne_of_lt h)]
theorem heap_alloc_new (w : World) (o : Obj) : (w.alloc o).heap[w.heap.size]? = some o := by
  show (w.heap.push o)[w.heap.size]? = _
  rw [Array.getElem?_push, if_pos rfl]

theorem ObjRel.lt {M : Plan} {w : World} {p : Pl} {ob : CObj} (h : ObjRel M w p ob) (hl : ob.live = true) : p.block < w.heap.size := by
  have key : ∀ {o : Obj}, w.heap[p.block]? = some o → p.block < w.heap.size := fun h => (Array.getElem?_eq_some_iff.1 h).1
  cases ob with
  | dead => cases hl
  | box cells => obtain ⟨arr, ty, h, _⟩ := h; exact key h
  | tip n => obtain ⟨_, _, _, arr, ty, h, _⟩ := h; exact key h
  | vec s rows => obtain ⟨_, _, _, _, _, arr, ty, h, _⟩ := h; exact key h
  | map es => obtain ⟨arr, ty, h, _⟩ := h; exact key h

/-- An object stays what it is where the settled stays, its own block too. -/
theorem ObjRel.mono {M M' : Plan} {w w' : World} {p : Pl} {ob : CObj} (hx : Ext M w M' w') (hb : w'.heap[p.block]? = w.heap[p.block]?) (hc : ∀ n, ob = .tip n → ∀ o, M'.cell p.block o → M.cell p.block o) (h : ObjRel M w p ob) : ObjRel M' w' p ob := by
  cases ob with
  | dead => trivial
  | box cells =>
    obtain ⟨arr, ty, h1, h2, h3, h4⟩ := h
    exact ⟨arr, ty, hb.trans h1, h2, h3, fun i c hi => (h4 i c hi).mono hx⟩
  | tip n =>
    obtain ⟨h0, h00, h1, arr, ty, h2, h3⟩ := h
    exact ⟨h0, h00, fun o ho => h1 o (hc n rfl o ho), arr, ty, hb.trans h2, h3⟩
  | vec s rows =>
    obtain ⟨h0, h00, h000, h1, h2, arr, ty, h3, h4, h5⟩ := h
    exact ⟨h0, h00, h000, h1, h2, arr, ty, hb.trans h3, h4, fun i j r c hi hj => (h5 i j r c hi hj).mono hx⟩
  | map es =>
    obtain ⟨ents, clock, h1, h2, h3⟩ := h
    refine ⟨ents, clock, hb.trans h1, h2, fun i x hi => ?_⟩
    obtain ⟨e, he, hk, hv, hc⟩ := h3 i x hi
    exact ⟨e, he, hk.mono hx, hv.mono hx, hc⟩

theorem Ext.alloc {C : Ctx} {M : Plan} {σ : List CObj} {w : World} (hr : Rel C M σ w) (p : Pl) (o : Obj) : Ext M w (M.add p) (w.alloc o) :=
  ⟨⟨[p], rfl⟩, fun _ h => h, fun _ _ h => .inr h, fun b h => heap_alloc_lt w o (hr.blk b 0 (.inl h)), fun b o' h => cell?_of_same (heap_alloc_lt w o (hr.blk b o' (.inr h))), by rw [World.size_alloc]; omega, rfl, rfl, rfl, fun b h => ⟨h, heap_alloc_lt w o (hr.kep b h), id, fun _ => id⟩⟩

theorem Rel.alloc {C : Ctx} {M : Plan} {σ : List CObj} {w : World} (hr : Rel C M σ w) (p : Pl) (o : Obj) (ob : CObj) (hb : p.block = w.heap.size) (h : ObjRel (M.add p) (w.alloc o) p ob) : Rel C (M.add p) (σ ++ [ob]) (w.alloc o) := by
  have hx := Ext.alloc hr p o
  have hget : ∀ {k : Nat} {q : Pl}, (M.add p).pl[k]? = some q → (k < σ.length ∧ M.pl[k]? = some q) ∨ (k = σ.length ∧ q = p) := by
    intro k q hk
    simp only [Plan.add, List.getElem?_append, hr.len] at hk
    split at hk
    · exact .inl ⟨‹_›, hk⟩
    · rename_i hlt
      have : k - σ.length = 0 := by
        have := (List.getElem?_eq_some_iff.1 hk).1
        simp at this; omega
      rw [this] at hk
      simp at hk
      exact .inr ⟨by omega, hk.symm⟩
  have hgo : ∀ {k : Nat} {x : CObj}, (σ ++ [ob])[k]? = some x → k < σ.length → σ[k]? = some x := by
    intro k x hk hlt
    rwa [List.getElem?_append_left hlt] at hk
  have hgn : ∀ {x : CObj}, (σ ++ [ob])[σ.length]? = some x → x = ob := by
    intro x hk; simp at hk; exact hk.symm
  refine ⟨by simp [Plan.add, hr.len], fun b o' ha => ?_, fun k q x hk hx' => ?_, fun k k' q q' x x' hk hk' hx1 hx2 hl hl' hbb => ?_, fun g cells hg => (hr.glob g cells hg).mono hx, fun b h => (by rw [World.size_alloc]; have := hr.kep b h; omega), fun k q x hk hx' hlv h => ?_⟩
  · have := hr.blk b o' ha
    rw [World.size_alloc]; omega
  · rcases hget hk with ⟨hlt, hq⟩ | ⟨rfl, rfl⟩
    · have hxo := hgo hx' hlt
      obtain ⟨h1, h2⟩ := hr.obj k q x hq hxo
      refine ⟨?_, h2⟩
      by_cases hl : x.live = true
      · exact h1.mono hx (heap_alloc_lt w o (h1.lt hl)) (fun _ _ _ h => h)
      · cases x <;> first | trivial | simp [CObj.live] at hl
    · have := hgn hx'
      subst this
      refine ⟨h, ?_⟩
      have hf : ¬ M.full q.block := fun hf => by have := hr.blk q.block 0 (.inl hf); omega
      have hc : ∀ o, ¬ M.cell q.block o := fun o hc => by have := hr.blk q.block o (.inr hc); omega
      cases x <;> first | trivial | exact hf | exact ⟨hf, hc⟩
  · rcases hget hk with ⟨hlt, hq⟩ | ⟨rfl, rfl⟩
    · rcases hget hk' with ⟨hlt', hq'⟩ | ⟨rfl, rfl⟩
      · exact hr.inj k k' q q' x x' hq hq' (hgo hx1 hlt) (hgo hx2 hlt') hl hl' hbb
      · have := (hr.obj k q x hq (hgo hx1 hlt)).1.lt hl
        omega
    · rcases hget hk' with ⟨hlt', hq'⟩ | ⟨rfl, rfl⟩
      · have := (hr.obj k' q' x' hq' (hgo hx2 hlt')).1.lt hl'
        omega
      · rfl
  · rcases hget hk with ⟨hlt, hq⟩ | ⟨rfl, rfl⟩
    · exact hr.nk k q x hq (hgo hx' hlt) hlv h
    · have := hr.kep _ h
      omega

def CV.cells : CV → List CV
  | .agg cs => cs
  | c => [c]

theorem RV.cells {M : Plan} {w : World} {c : CV} {v : Value} (h : RV M w c v) (ho : c.one = true ∨ ∃ cs, c = .agg cs) :
    v.cells.size = c.cells.length ∧ (∀ x ∈ c.cells, x.one = true) ∧ ∀ (i : Nat) (x : CV), c.cells[i]? = some x → RV M w x (v.cells.getD i undef) := by
  rcases ho with ho | ⟨cs, rfl⟩
  · have hv := h.one ho
    have hv' : v.cells = #[v] := by cases v <;> first | rfl | simp [Value.oneCell'] at hv
    have hc' : c.cells = [c] := by cases c <;> first | rfl | simp [CV.one] at ho
    rw [hv', hc']
    refine ⟨rfl, by simpa using ho, fun i x hi => ?_⟩
    rcases i with _ | i
    · simp at hi; subst hi; exact h
    · simp at hi
  · cases h with
    | agg h1 h2 h3 => exact ⟨h1, h2, h3⟩

section
variable {C : Ctx} {σ : List CObj} {E : Env} {o : Oper}

theorem run_newVar {P : Program} (t : TypeId) (v : Value) (w : World) : (newVar t v).run P w = .ok ⟨w.heap.size, 0, none⟩ (w.alloc (.cells v.cells t)) := by
  simp [newVar, newRow]

theorem after_box {M : Plan} {w : World} {c : CV} {v : Value} {t : TypeId} {K : CRes → List CObj → Prop} (hr : Rel C M σ w) (h : RV M w c v) (ho : c.one = true ∨ ∃ cs, c = .agg cs) (hk : K (.ret (.ptr σ.length 0)) (σ ++ [.box c.cells])) :
    After C M w K (.pointer (some ⟨w.heap.size, 0, none⟩)) (w.alloc (.cells v.cells t)) := by
  obtain ⟨h1, h2, h3⟩ := h.cells ho
  have hx := Ext.alloc hr ⟨w.heap.size, 0, 0⟩ (.cells v.cells t)
  refine ⟨.ptr σ.length 0, _, _, hx, hr.alloc ⟨w.heap.size, 0, 0⟩ _ (.box c.cells) rfl ⟨v.cells, t, heap_alloc_new w _, h1, h2, fun i x hi => (h3 i x hi).mono hx⟩, ?_, hk⟩
  exact .ptr (p := ⟨w.heap.size, 0, 0⟩) (by simp [Plan.add, ← hr.len])

theorem d_box {t : TypeId} {x : Operand} {c : CV} {K : CRes → List CObj → Prop} (ho : o.op = .box t x) (hx : E.valid x) (ex : E.val C x = c) (hc : c.one = true ∨ ∃ cs, c = .agg cs) (hk : K (.ret (.ptr σ.length 0)) (σ ++ [.box c.cells])) : Does C σ E o K := fun M w ρ hr h => by
  have h1 := h x (by simp [ho, Op.operands]) hx
  rw [ex] at h1
  have : (execOp ρ o).run C.P w = .ok (.value (.pointer (some ⟨w.heap.size, 0, none⟩))) (w.alloc (.cells (ρ x).cells t)) := by
    simp [execOp, ho, Instr.box, run_newVar]
  rw [this]
  exact after_box hr h1 hc hk

theorem d_alloc {t : TypeId} {z : Value} {K : CRes → List CObj → Prop} (ho : o.op = .alloc t) (hz : ∀ w, (zeroValue t).run C.P w = .ok z w) (hz1 : constOk z = true) (hz2 : (cvOf z).one = true ∨ ∃ cs, cvOf z = .agg cs) (hk : K (.ret (.ptr σ.length 0)) (σ ++ [.box (cvOf z).cells])) : Does C σ E o K := fun M w ρ hr h => by
  have : (execOp ρ o).run C.P w = .ok (.value (.pointer (some ⟨w.heap.size, 0, none⟩))) (w.alloc (.cells z.cells t)) := by
    simp [execOp, ho, Instr.alloc, hz, run_newVar]
  rw [this]
  exact after_box hr (rv_cvOf hz1) hz2 hk

/-! ### Loads -/
theorem box_cell {M : Plan} {w : World} {k : Nat} {p : Pl} {cells : List CV} (hr : Rel C M σ w) (hp : M.pl[k]? = some p) (hb : σ[k]? = some (.box cells)) {i : Nat} {c : CV} (hi : cells[i]? = some c) :
    ∃ v, w.cell? ⟨p.block, i, none⟩ = some v ∧ RV M w c v ∧ w.frozen? ⟨p.block, i, none⟩ = false := by
  obtain ⟨arr, ty, h1, h2, h3, h4⟩ := (hr.obj k p _ hp hb).1
  have hlt : i < arr.size := by rw [h2]; exact (List.getElem?_eq_some_iff.1 hi).1
  refine ⟨arr.getD i undef, ?_, h4 i c hi, ?_⟩
  · simp [World.cell?, h1, hlt]
  · simp [World.frozen?, h1]

theorem y_load1 {t : TypeId} {x : Operand} {k off : Nat} {cells : List CV} {c : CV} (ho : o.op = .load t x) (hx : E.valid x) (ex : E.val C x = .ptr k off) (ha : ∀ w, (isAgg t).run C.P w = .ok false w) (hk : σ[k]? = some (.box cells)) (hc : cells[off]? = some c) : Yields C σ E o c :=
  yields_same fun M w ρ hr h => by
    have h1 := h x (by simp [ho, Op.operands]) hx
    rw [ex] at h1
    generalize hu' : ρ x = u at h1
    cases h1 with
    | ptr hp =>
      obtain ⟨v, hv, hrv, _⟩ := box_cell hr hp hk hc
      exact ⟨v, by simp [execOp, ho, hu', Instr.loadAt, Instr.sureAddr, loadVar, ha, hv], hrv⟩

theorem y_load {t : TypeId} {x : Operand} {k off s : Nat} {cells : List CV} (ho : o.op = .load t x) (hx : E.valid x) (ex : E.val C x = .ptr k off) (ha : ∀ w, (isAgg t).run C.P w = .ok true w) (hs : ∀ w, (sizeOf t).run C.P w = .ok s w) (hk : σ[k]? = some (.box cells)) (hl : off + s ≤ cells.length) : Yields C σ E o (.agg ((cells.drop off).take s)) :=
  yields_same fun M w ρ hr h => by
    have h1 := h x (by simp [ho, Op.operands]) hx
    rw [ex] at h1
    generalize hu' : ρ x = u at h1
    cases h1 with
    | ptr hp =>
      rename_i p
      obtain ⟨arr, ty, h1, h2, h3, h4⟩ := (hr.obj k p _ hp hk).1
      have hcell : ∀ j, j < s → w.cell? ⟨p.block, off + j, none⟩ = some (arr.getD (off + j) undef) := fun j hj => by
        have : off + j < arr.size := by omega
        simp [World.cell?, h1, this]
      refine ⟨.agg ((List.range s).map fun j => arr.getD (off + j) undef).toArray, ?_, .agg (by simp; omega) (fun c hc => h3 c (List.mem_of_mem_drop (List.mem_of_mem_take hc))) (fun i c hi => ?_)⟩
      · simp [execOp, ho, hu', Instr.loadAt, Instr.sureAddr, loadVar, ha, hs, run_loadCells' (P := C.P) (w := w) _ s hcell]
      · have hi' : i < s := by
          have := (List.getElem?_eq_some_iff.1 hi).1
          simp at this; omega
        rw [List.getElem?_take, if_pos hi', List.getElem?_drop] at hi
        have := h4 (off + i) c hi
        simpa [hi'] using this
/-! ### Results -/
theorem res1 {fn : Func} {t : Nat} {c : CV} (hr : fn.results = #[.tmp t]) (hv : E.ok t) (ec : E.f t = c) : CResults C E σ fn c := fun M w a _ h => by
  refine ⟨a.tmps.getD t undef, results_tmp hr _ _ _, ec ▸ h t hv⟩
theorem res2 {fn : Func} {t u : Nat} {c d : CV} (hr : fn.results = #[.tmp t, .tmp u]) (hv : E.ok t) (hu : E.ok u) (ec : E.f t = c) (ed : E.f u = d) : CResults C E σ fn (.tup [c, d]) := fun M w a _ h => by
  refine ⟨_, results_tmp2 hr _ _ _, .tup rfl fun i x hi => ?_⟩
  rcases i with _ | _ | i
  · simp at hi; subst hi; exact ec ▸ h t hv
  · simp at hi; subst hi; exact ed ▸ h u hu
  · simp at hi
end
end Go.Cl
