import Derived.Test.YtchaklkfaemfgaaK12
namespace Go.Cl
section
variable {C : Ctx} {σ : List CObj} {E : Env} {o : Oper}

def oneB : CV → Bool
  | .agg _ => true
  | c => c.one
theorem oneB_or {c : CV} (h : oneB c = true) : c.one = true ∨ ∃ cs, c = .agg cs := by
  cases c <;> first | exact .inl h | exact .inr ⟨_, rfl⟩ | (simp [oneB, CV.one] at h)
def onesB (ps : List (Nat × CV)) : Bool := ps.all fun x => oneB x.2
theorem onesB_all {ps : List (Nat × CV)} (h : onesB ps = true) : ∀ x ∈ ps, x.2.one = true ∨ ∃ cs, x.2 = .agg cs := fun x hx => oneB_or (List.all_eq_true.1 h x hx)
def pvals (C : Ctx) (E : Env) : List (Nat × Operand) → List (Nat × CV)
  | [] => []
  | (i, x) :: l => (i, E.val C x) :: pvals C E l
theorem pvals_map : ∀ (l : List (Nat × Operand)), l.map (fun x => (x.1, E.val C x.2)) = pvals C E l
  | [] => rfl
  | (i, x) :: l => by simp [pvals, pvals_map l]
def pvalids (E : Env) : List (Nat × Operand) → Prop
  | [] => True
  | (_, x) :: l => E.valid x ∧ pvalids E l
theorem pvalids_mem {E : Env} : ∀ {l : List (Nat × Operand)}, pvalids E l → ∀ x ∈ l, E.valid x.2
  | [], _, x, h => by simp at h
  | (i, y) :: l, ⟨h1, h2⟩, x, h => by
    rcases List.mem_cons.1 h with rfl | h
    · exact h1
    · exact pvalids_mem h2 x h

theorem y_build' {t : TypeId} {parts : Array (Nat × Operand)} {fs : Array Field} (pls : Array (Nat × Nat)) {z : Value} {out : List CV} (ho : o.op = .build t parts) (hv : pvalids E parts.toList)
    (hu : ∀ w, (underlying t).run C.P w = .ok (.struct fs) w) (hz : ∀ w, (zeroValue t).run C.P w = .ok z w) (hz1 : constOk z = true) (hz2 : ∃ cs, cvOf z = .agg cs)
    (hpl : ∀ w, (fs.mapM fun (f : Field) => do pure (f.offset, ← sizeOf f.type)).run C.P w = .ok pls w)
    (hone : onesB (pvals C E parts.toList) = true) (hout : cfill pls (cvOf z).cells (pvals C E parts.toList) = some out) : Yields C σ E o (.agg out) :=
  y_build ho (pvalids_mem hv) hu hz hz1 hz2 hpl (pvals_map _) (onesB_all hone) hout
/-- A slice of one value, or of some, written out. -/
theorem y_lit {t e : TypeId} {len s : Nat} {parts : Array (Nat × Operand)} {z : Value} (rows : List (List CV)) (ho : o.op = .buildSlice t len parts) (hv : pvalids E parts.toList)
    (hu : ∀ w, (underlying t).run C.P w = .ok (.slice e) w) (hs : ∀ w, (sizeOf e).run C.P w = .ok s w) (hz : ∀ w, (zeroValue e).run C.P w = .ok z w) (hz1 : constOk z = true) (hz2 : oneB (cvOf z) = true) (hzl : (cvOf z).cells.length = s) (hs0 : Nat.blt 0 s = true)
    (hlen : Nat.ble (len * s) 16777216 = true) (hone : onesB (pvals C E parts.toList) = true)
    (hout : cfillW (fun i => some (i * s, s)) ((List.range (len * s)).map fun i => (cvOf z).cells.getD (i % s) default) (pvals C E parts.toList) = some rows.flatten) (hrl : rows.length = len) (hrs : (rows.all fun r => Nat.beq r.length s) = true) : Yields C σ E o (.list rows true none) :=
  y_buildSlice ho (by
    have := pvalids_mem hv
    have key : ∀ l : List Operand, (∀ x ∈ l, E.valid x) → E.valids l := by
      intro l
      induction l with
      | nil => intro _; trivial
      | cons x l ih => intro h; exact ⟨h x (by simp), ih fun y hy => h y (by simp [hy])⟩
    exact key _ fun x hx => by
      obtain ⟨p, hp, rfl⟩ := List.mem_map.1 hx
      exact this p hp) hu hs hz hz1 (oneB_or hz2) hzl (by simpa [Nat.blt_eq] using hs0) (by have := Nat.le_of_ble_eq_true hlen; omega) (pvals_map _) (onesB_all hone) hout hrl (fun r hr => Nat.eq_of_beq_eq_true (List.all_eq_true.1 hrs r hr))

theorem src_list {y : Operand} {rows : List (List CV)} {nn : Bool} {tok : Option Nat} {s : Nat} (ey : E.val C y = .list rows nn tok) (hrs : ∀ r ∈ rows, r.length = s) : ∀ M w v, Rel C M σ w → RV M w (E.val C y) v → Src C M w rows s v := fun _ _ _ _ h => by
  rw [ey] at h
  exact src_of_list h hrs
theorem src_vec {y : Operand} {k off len s : Nat} {rows : List (List CV)} (ey : E.val C y = .vec k off len) (hk : σ[k]? = some (.vec s rows)) (hl : off + len ≤ rows.length) : ∀ M w v, Rel C M σ w → RV M w (E.val C y) v → Src C M w ((rows.drop off).take len) s v := fun _ _ _ hr h => by
  rw [ey] at h
  exact src_of_vec hr h hk hl

/-- A list of rows that all come from one kind of datum. -/
theorem rows_len {α : Type} {f : α → List CV} {s : Nat} (h : ∀ a, (f a).length = s) (l : List α) : ∀ r ∈ l.map f, r.length = s := fun r hr => by
  obtain ⟨a, _, rfl⟩ := List.mem_map.1 hr
  exact h a
theorem rows_pure {α : Type} {f : α → List CV} (h : ∀ a, ∀ c ∈ f a, Pure c) (l : List α) : ∀ r ∈ l.map f, ∀ c ∈ r, Pure c := fun r hr => by
  obtain ⟨a, _, rfl⟩ := List.mem_map.1 hr
  exact h a
theorem rows_get {α : Type} {f : α → List CV} {l : List α} {i : Nat} {a : α} (h : l[i]? = some a) : (l.map f)[i]? = some (f a) := by
  rw [List.getElem?_map, h]; rfl
end
end Go.Cl
