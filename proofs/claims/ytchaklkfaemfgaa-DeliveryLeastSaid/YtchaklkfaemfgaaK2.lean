import Derived.Test.YtchaklkfaemfgaaK1
namespace Go.Cl
open Sem

/-! ### Small things -/
theorem rv_val {M : Plan} {w : World} {v u : Value} (h : RV M w (.val v) u) : u = v := by cases h; rfl

theorem add_none (b off n : Nat) : (⟨b, off, none⟩ : Addr).add n = ⟨b, off + n, none⟩ := by
  unfold Addr.add
  split
  · simp [*]
  · rfl

theorem run_loadCellsFrom' {P : Program} {w : World} {a : Addr} (f : Nat → Value) : ∀ (n i : Nat) (acc : Array Value), (∀ j, j < n → w.cell? (a.add (i + j)) = some (f (i + j))) →
    (loadCellsFrom a i n acc).run P w = .ok (acc ++ ((List.range' i n).map f).toArray) w
  | 0, i, acc, _ => by simp [loadCellsFrom]
  | n + 1, i, acc, h => by
    have h0 := h 0 (by omega)
    rw [Nat.add_zero] at h0
    have ih := run_loadCellsFrom' (P := P) (w := w) (a := a) f n (i + 1) (acc.push (f i)) (fun j hj => by
      have := h (j + 1) (by omega)
      rwa [show i + (j + 1) = i + 1 + j from by omega] at this)
    simp only [loadCellsFrom, Sem.run_bind, run_load, h0, Result.andThen_ok, ih, List.range'_succ, List.map_cons]
    simp

theorem run_loadCells' {P : Program} {w : World} {b off : Nat} (f : Nat → Value) (n : Nat) (h : ∀ j, j < n → w.cell? ⟨b, off + j, none⟩ = some (f j)) :
    (loadCells ⟨b, off, none⟩ n).run P w = .ok ((List.range n).map f).toArray w := by
  unfold loadCells
  rw [run_loadCellsFrom' f n 0 #[] (fun j hj => by rw [add_none]; simpa using h j hj)]
  simp [List.range_eq_range']

section
variable {C : Ctx} {σ : List CObj} {E : Env} {o : Oper}

/-- An operation that leaves the very world and yields a value that reads as c. -/
theorem yields_same {c : CV} (h : ∀ (M : Plan) (w : World) (ρ : Operand → Value), Rel C M σ w → (∀ x ∈ o.op.operands, E.valid x → RV M w (E.val C x) (ρ x)) → ∃ v, (execOp ρ o).run C.P w = .ok (.value v) w ∧ RV M w c v) : Yields C σ E o c :=
  fun M w ρ hr hx => by
    obtain ⟨v, h1, h2⟩ := h M w ρ hr hx
    rw [h1]
    exact ⟨c, σ, M, Ext.refl M w, hr, h2, rfl, rfl⟩

theorem y_move {x : Operand} {c : CV} (ho : o.op = .move x) (hx : E.valid x) (ec : E.val C x = c) : Yields C σ E o c :=
  yields_same fun M w ρ _ h => ⟨ρ x, by simp [execOp, ho], ec ▸ h x (by simp [ho, Op.operands]) hx⟩
theorem y_assign {x : Operand} {c : CV} (ho : o.op = .assign x) (hx : E.valid x) (ec : E.val C x = c) : Yields C σ E o c :=
  yields_same fun M w ρ _ h => ⟨ρ x, by simp [execOp, ho], ec ▸ h x (by simp [ho, Op.operands]) hx⟩

/-- 'a || b', its second part under a guard. -/
theorem y_pick_or {x y : Operand} {b d : Bool} (ho : o.op = .pick x (.const (.bool true)) y) (hx : E.valid x) (ex : E.val C x = .val (.bool b)) (hy : b = false → E.valid y) (ey : b = false → E.val C y = .val (.bool d)) : Yields C σ E o (.val (.bool (b || d))) :=
  yields_same fun M w ρ _ h => by
    have h1 := h x (by simp [ho, Op.operands]) hx
    have h0 := h (.const (.bool true)) (by simp [ho, Op.operands]) rfl
    rw [ex] at h1
    have e1 := rv_val h1
    have e0 : ρ (.const (.bool true)) = .bool true := rv_val h0
    cases b with
    | true => exact ⟨.bool true, by simp [execOp, ho, e1, e0, asBool], .val _⟩
    | false =>
      have h2 := h y (by simp [ho, Op.operands]) (hy rfl)
      rw [ey rfl] at h2
      have e2 := rv_val h2
      exact ⟨.bool d, by simp [execOp, ho, e1, e2, asBool], .val _⟩
/-- 'a && b'. -/
theorem y_pick_and {x y : Operand} {b d : Bool} (ho : o.op = .pick x y (.const (.bool false))) (hx : E.valid x) (ex : E.val C x = .val (.bool b)) (hy : b = true → E.valid y) (ey : b = true → E.val C y = .val (.bool d)) : Yields C σ E o (.val (.bool (b && d))) :=
  yields_same fun M w ρ _ h => by
    have h1 := h x (by simp [ho, Op.operands]) hx
    have h0 := h (.const (.bool false)) (by simp [ho, Op.operands]) rfl
    rw [ex] at h1
    have e1 := rv_val h1
    have e0 : ρ (.const (.bool false)) = .bool false := rv_val h0
    cases b with
    | false => exact ⟨.bool false, by simp [execOp, ho, e1, e0, asBool], .val _⟩
    | true =>
      have h2 := h y (by simp [ho, Op.operands]) (hy rfl)
      rw [ey rfl] at h2
      have e2 := rv_val h2
      exact ⟨.bool d, by simp [execOp, ho, e1, e2, asBool], .val _⟩

/-- What an operator makes of two integers of one kind. -/
def cint (op : BinOp) (k : IntKind) (a b : Int) : Option Value :=
  match op with
  | .add => some (.int k (k.wrap (a + b)))
  | .sub => some (.int k (k.wrap (a - b)))
  | .mul => some (.int k (k.wrap (a * b)))
  | .quo => if b = 0 then none else some (.int k (k.wrap (a.tdiv b)))
  | .rem => if b = 0 then none else some (.int k (a.tmod b))
  | .eql => some (.bool (a == b))
  | .neq => some (.bool (a != b))
  | .lss => some (.bool (a < b))
  | .leq => some (.bool (a ≤ b))
  | .gtr => some (.bool (a > b))
  | .geq => some (.bool (a ≥ b))
  | _ => none

theorem y_int {op : BinOp} {t t' : TypeId} {x y : Operand} {k : IntKind} {a b : Int} {v : Value} (ho : o.op = .binOp op t x y t') (hx : E.valid x) (hy : E.valid y) (ex : E.val C x = .val (.int k a)) (ey : E.val C y = .val (.int k b)) (hv : cint op k a b = some v) : Yields C σ E o (.val v) :=
  yields_same fun M w ρ _ h => by
    have h1 := h x (by simp [ho, Op.operands]) hx
    have h2 := h y (by simp [ho, Op.operands]) hy
    rw [ex] at h1
    rw [ey] at h2
    have e1 := rv_val h1
    have e2 := rv_val h2
    refine ⟨v, ?_, .val _⟩
    cases op <;> simp only [cint] at hv
    case quo =>
      by_cases hb : b = 0
      · simp [hb] at hv
      · rw [if_neg hb] at hv; injection hv with hv
        subst hv
        simp [execOp, ho, e1, e2, eqGuard, binOp, Op.intDiv, hb]
    case rem =>
      by_cases hb : b = 0
      · simp [hb] at hv
      · rw [if_neg hb] at hv; injection hv with hv
        subst hv
        simp [execOp, ho, e1, e2, eqGuard, binOp, Op.intDiv, hb]
    all_goals first
      | (cases hv; done)
      | (injection hv with hv; subst hv; simp [execOp, ho, e1, e2, eqGuard, binOp, Op.intArith, Op.intCmp])

theorem wr64 {x : Int} (h1 : -9223372036854775808 ≤ x) (h2 : x ≤ 9223372036854775807) : IntKind.i64.wrap x = x := by
  rw [IntKind.wrap_i64]; omega

/-- Sums in range. -/
theorem y_add {t t' : TypeId} {x y : Operand} {a b : Int} (ho : o.op = .binOp .add t x y t') (hx : E.valid x) (hy : E.valid y) (ex : E.val C x = .val (.int .i64 a)) (ey : E.val C y = .val (.int .i64 b)) (h1 : -9223372036854775808 ≤ a + b) (h2 : a + b ≤ 9223372036854775807) : Yields C σ E o (.val (.int .i64 (a + b))) := by
  have := y_int (σ := σ) (v := .int .i64 (IntKind.i64.wrap (a + b))) ho hx hy ex ey rfl
  rwa [wr64 h1 h2] at this
theorem y_sub {t t' : TypeId} {x y : Operand} {a b : Int} (ho : o.op = .binOp .sub t x y t') (hx : E.valid x) (hy : E.valid y) (ex : E.val C x = .val (.int .i64 a)) (ey : E.val C y = .val (.int .i64 b)) (h1 : -9223372036854775808 ≤ a - b) (h2 : a - b ≤ 9223372036854775807) : Yields C σ E o (.val (.int .i64 (a - b))) := by
  have := y_int (σ := σ) (v := .int .i64 (IntKind.i64.wrap (a - b))) ho hx hy ex ey rfl
  rwa [wr64 h1 h2] at this
theorem y_mul {t t' : TypeId} {x y : Operand} {a b : Int} (ho : o.op = .binOp .mul t x y t') (hx : E.valid x) (hy : E.valid y) (ex : E.val C x = .val (.int .i64 a)) (ey : E.val C y = .val (.int .i64 b)) (h1 : -9223372036854775808 ≤ a * b) (h2 : a * b ≤ 9223372036854775807) : Yields C σ E o (.val (.int .i64 (a * b))) := by
  have := y_int (σ := σ) (v := .int .i64 (IntKind.i64.wrap (a * b))) ho hx hy ex ey rfl
  rwa [wr64 h1 h2] at this

def cbool (op : BinOp) (a b : Bool) : Option Bool :=
  match op with
  | .eql => some (a == b)
  | .neq => some (a != b)
  | _ => none

theorem y_boolop {op : BinOp} {t t' : TypeId} {x y : Operand} {a b r : Bool} (ho : o.op = .binOp op t x y t') (hu : ∀ w, (underlying t).run C.P w = .ok .bool w) (hx : E.valid x) (hy : E.valid y) (ex : E.val C x = .val (.bool a)) (ey : E.val C y = .val (.bool b)) (hv : cbool op a b = some r) : Yields C σ E o (.val (.bool r)) :=
  yields_same fun M w ρ _ h => by
    have h1 := h x (by simp [ho, Op.operands]) hx
    have h2 := h y (by simp [ho, Op.operands]) hy
    rw [ex] at h1
    rw [ey] at h2
    have e1 := rv_val h1
    have e2 := rv_val h2
    refine ⟨.bool r, ?_, .val _⟩
    have heq : ∀ d, (Op.equalIn (d + 1) t (.bool a) (.bool b)).run C.P w = .ok (a == b) w := fun d => by simp [Op.equalIn, hu]
    cases op <;> simp only [cbool] at hv <;> first
      | (cases hv; done)
      | (injection hv with hv; subst hv; simp [execOp, ho, e1, e2, eqGuard, binOp, Op.equal, Op.maxDepth, heq 9999])
    cases a <;> cases b <;> rfl

def cstr (op : BinOp) (a b : ByteArray) : Option Bool :=
  match op with
  | .eql => some (a.toList == b.toList)
  | .neq => some (!(a.toList == b.toList))
  | .lss => some (Op.bytesLess a.toList b.toList)
  | .leq => some (Op.bytesLess a.toList b.toList || a.toList == b.toList)
  | .gtr => some (!(Op.bytesLess a.toList b.toList || a.toList == b.toList))
  | .geq => some (!Op.bytesLess a.toList b.toList)
  | _ => none

theorem y_strcmp {op : BinOp} {t t' : TypeId} {x y : Operand} {a b : ByteArray} {r : Bool} (ho : o.op = .binOp op t x y t') (hx : E.valid x) (hy : E.valid y) (ex : E.val C x = .val (.string a)) (ey : E.val C y = .val (.string b)) (hv : cstr op a b = some r) : Yields C σ E o (.val (.bool r)) :=
  yields_same fun M w ρ _ h => by
    have h1 := h x (by simp [ho, Op.operands]) hx
    have h2 := h y (by simp [ho, Op.operands]) hy
    rw [ex] at h1
    rw [ey] at h2
    have e1 := rv_val h1
    have e2 := rv_val h2
    refine ⟨.bool r, ?_, .val _⟩
    cases op <;> simp only [cstr] at hv <;> first
      | (cases hv; done)
      | (injection hv with hv; subst hv; simp [execOp, ho, e1, e2, eqGuard, binOp, Op.stringOp])

theorem y_not {t : TypeId} {x : Operand} {b : Bool} (ho : o.op = .unOp .not t x) (hx : E.valid x) (ex : E.val C x = .val (.bool b)) : Yields C σ E o (.val (.bool (!b))) :=
  yields_same fun M w ρ _ h => by
    have h1 := h x (by simp [ho, Op.operands]) hx
    rw [ex] at h1
    exact ⟨.bool (!b), by simp [execOp, ho, rv_val h1, Op.unary], .val _⟩
theorem y_neg {t : TypeId} {x : Operand} {k : IntKind} {a : Int} (ho : o.op = .unOp .neg t x) (hx : E.valid x) (ex : E.val C x = .val (.int k a)) : Yields C σ E o (.val (.int k (k.wrap (0 - a)))) :=
  yields_same fun M w ρ _ h => by
    have h1 := h x (by simp [ho, Op.operands]) hx
    rw [ex] at h1
    exact ⟨.int k (k.wrap (0 - a)), by simp [execOp, ho, rv_val h1, Op.unary, Op.intArith], .val _⟩

theorem y_extract {x : Operand} {i : Nat} {cs : List CV} {c : CV} (ho : o.op = .extract x i) (hx : E.valid x) (ex : E.val C x = .tup cs) (hi : cs[i]? = some c) : Yields C σ E o c :=
  yields_same fun M w ρ _ h => by
    have h1 := h x (by simp [ho, Op.operands]) hx
    rw [ex] at h1
    generalize hu : ρ x = u at h1
    cases h1 with
    | tup hsz hrv =>
      rename_i vs
      have hlt : i < vs.size := by rw [hsz]; exact (List.getElem?_eq_some_iff.1 hi).1
      refine ⟨vs.getD i undef, ?_, hrv i c hi⟩
      simp [execOp, ho, hu, Instr.extract, hlt]

/-! ### Slices -/
theorem RV.list_inv {M : Plan} {w : World} {rows : List (List CV)} {nn : Bool} {tok : Option Nat} {v : Value} (h : RV M w (.list rows nn tok) v) :
    ∃ (a : Option Addr) (cap b off s : Nat) (vals : Nat → Nat → Value), v = .slice a rows.length cap ∧ rows.length ≤ cap ∧ cap ≤ maxLen ∧ a.isSome = nn ∧ (nn = false → cap = 0) ∧ (rows ≠ [] → a = some ⟨b, off, none⟩) ∧
      (∀ r ∈ rows, r.length = s) ∧ (∀ r ∈ rows, ∀ c ∈ r, c.one = true) ∧
      (∀ (i j : Nat) (r : List CV) (c : CV), rows[i]? = some r → r[j]? = some c → M.at b (off + i * s + j) ∧ w.cell? ⟨b, off + i * s + j, none⟩ = some (vals i j)) ∧
      (∀ (i j : Nat) (r : List CV) (c : CV), rows[i]? = some r → r[j]? = some c → RV M w c (vals i j)) ∧
      (∀ k, tok = some k → ∃ s', M.pl[k]? = some ⟨b, cap, s'⟩ ∧ a = some ⟨b, 0, none⟩ ∧ off = 0 ∧ (rows ≠ [] → s' = s)) := by
  cases h with
  | list vals h1 h2 h3 h4 h5 h6 h7 h8 h9 h10 => exact ⟨_, _, _, _, _, vals, rfl, h1, h2, h3, h4, h5, h6, h7, h8, h9, h10⟩

theorem y_len {x : Operand} {t ty : TypeId} {rows : List (List CV)} {nn : Bool} {tok : Option Nat} {e : TypeId} {n : Int} (ho : o.op = .call { callee := .builtin .len, args := #[x], argTypes := #[t] }) (hx : E.valid x) (ex : E.val C x = .list rows nn tok)
    (hu : ∀ w, (underlying t).run C.P w = .ok (.slice e) w) (hn : (rows.length : Int) = n) (_ : o.type = ty) : Yields C σ E o (.val (.int .i64 n)) :=
  yields_same fun M w ρ _ h => by
    have h1 := h x (by simp [ho, Op.operands, Call.operands]) hx
    rw [ex] at h1
    obtain ⟨a, cap, b, off, s, vals, hv, _⟩ := h1.list_inv
    subst hn
    exact ⟨.int .i64 rows.length, by simp [execOp, ho, resolve, invoke, builtin, Builtin.len_, hu, hv, goInt], .val _⟩

theorem y_len_vec {x : Operand} {t ty : TypeId} {k off len : Nat} {e : TypeId} {n : Int} (ho : o.op = .call { callee := .builtin .len, args := #[x], argTypes := #[t] }) (hx : E.valid x) (ex : E.val C x = .vec k off len)
    (hu : ∀ w, (underlying t).run C.P w = .ok (.slice e) w) (hn : (len : Int) = n) (_ : o.type = ty) : Yields C σ E o (.val (.int .i64 n)) :=
  yields_same fun M w ρ _ h => by
    have h1 := h x (by simp [ho, Op.operands, Call.operands]) hx
    rw [ex] at h1
    generalize hu' : ρ x = u at h1
    subst hn
    cases h1
    exact ⟨.int .i64 len, by simp [execOp, ho, resolve, invoke, builtin, Builtin.len_, hu, hu', goInt], .val _⟩

theorem y_len_str {x : Operand} {t ty : TypeId} {s : ByteArray} {n : Int} (ho : o.op = .call { callee := .builtin .len, args := #[x], argTypes := #[t] }) (hx : E.valid x) (ex : E.val C x = .val (.string s))
    (hu : ∀ w, (underlying t).run C.P w = .ok .string w) (hn : (s.size : Int) = n) (_ : o.type = ty) : Yields C σ E o (.val (.int .i64 n)) :=
  yields_same fun M w ρ _ h => by
    have h1 := h x (by simp [ho, Op.operands, Call.operands]) hx
    rw [ex] at h1
    subst hn
    exact ⟨.int .i64 s.size, by simp [execOp, ho, resolve, invoke, builtin, Builtin.len_, hu, rv_val h1, goInt], .val _⟩

/-- 'l[i]' as an address, of a list that does not change. -/
theorem y_index {t e : TypeId} {x ix : Operand} {rows : List (List CV)} {nn : Bool} {tok : Option Nat} {i : Int} {s : Nat} {r : List CV} (ho : o.op = .indexAddr t x ix) (hx : E.valid x) (hi : E.valid ix) (ex : E.val C x = .list rows nn tok) (ei : E.val C ix = .val (.int .i64 i))
    (hu : ∀ w, (underlying t).run C.P w = .ok (.slice e) w) (hs : ∀ w, (sizeOf e).run C.P w = .ok s w) (h0 : 0 ≤ i) (hr : rows[i.toNat]? = some r) (hl : r.length = s) : Yields C σ E o (.cptr r) :=
  yields_same fun M w ρ _ h => by
    have h1 := h x (by simp [ho, Op.operands]) hx
    have h2 := h ix (by simp [ho, Op.operands]) hi
    rw [ex] at h1
    rw [ei] at h2
    obtain ⟨a, cap, b, off, s', vals, hv, hcap, _, _, _, ha, hrl, hone, hc, hrv, _⟩ := h1.list_inv
    have hlt : i.toNat < rows.length := (List.getElem?_eq_some_iff.1 hr).1
    have hne : rows ≠ [] := by rintro rfl; simp at hlt
    have hmem : r ∈ rows := List.mem_of_getElem? hr
    have hss : s' = s := by rw [← hrl r hmem, hl]
    subst hss
    refine ⟨.pointer (some ⟨b, off + i.toNat * s', none⟩), ?_, .cptr (vals i.toNat) (hone r hmem) (fun j c hj => ?_) (fun j c hj => hrv _ _ _ _ hr hj)⟩
    · have hlt' : i < (rows.length : Int) := by omega
      simp [execOp, ho, hv, rv_val h2, Instr.indexAt, asIntOf, hu, hs, ha hne, h0, hlt', add_none]
    · exact hc _ _ _ _ hr hj

/-- A field of what does not change. -/
theorem y_field_c {t : TypeId} {x : Operand} {f : Nat} {fs : Array Field} {fd : Field} {cells : List CV} {s : Nat} (ho : o.op = .fieldAddr t x f) (hx : E.valid x) (ex : E.val C x = .cptr cells)
    (hu : ∀ w, (underlying t).run C.P w = .ok (.struct fs) w) (hf : fs[f]? = some fd) (hs : ∀ w, (sizeOf fd.type).run C.P w = .ok s w) (hs0 : s ≠ 0) : Yields C σ E o (.cptr (cells.drop fd.offset)) :=
  yields_same fun M w ρ _ h => by
    have h1 := h x (by simp [ho, Op.operands]) hx
    rw [ex] at h1
    generalize hu' : ρ x = u at h1
    cases h1 with
    | cptr vals h1 h2 h3 =>
      rename_i b off
      refine ⟨.pointer (some ⟨b, off + fd.offset, none⟩), ?_, .cptr (fun j => vals (fd.offset + j)) (fun c hc => h1 c (List.mem_of_mem_drop hc)) (fun j c hj => ?_) (fun j c hj => ?_)⟩
      · simp [execOp, ho, hu', Instr.fieldAt, hu, hf, Instr.sureAddr, fieldPlace, hs, hs0, add_none]
      · rw [List.getElem?_drop] at hj
        have := h2 _ _ hj
        rwa [← Nat.add_assoc] at this
      · rw [List.getElem?_drop] at hj
        exact h3 _ _ hj
theorem y_field {t : TypeId} {x : Operand} {f : Nat} {fs : Array Field} {fd : Field} {k off s : Nat} (ho : o.op = .fieldAddr t x f) (hx : E.valid x) (ex : E.val C x = .ptr k off)
    (hu : ∀ w, (underlying t).run C.P w = .ok (.struct fs) w) (hf : fs[f]? = some fd) (hs : ∀ w, (sizeOf fd.type).run C.P w = .ok s w) (hs0 : s ≠ 0) : Yields C σ E o (.ptr k (off + fd.offset)) :=
  yields_same fun M w ρ _ h => by
    have h1 := h x (by simp [ho, Op.operands]) hx
    rw [ex] at h1
    generalize hu' : ρ x = u at h1
    cases h1 with
    | ptr hk => exact ⟨_, by simp [execOp, ho, hu', Instr.fieldAt, hu, hf, Instr.sureAddr, fieldPlace, hs, hs0, add_none], .ptr hk⟩
theorem y_field_e {t : TypeId} {x : Operand} {f : Nat} {fs : Array Field} {fd : Field} {k i off s : Nat} (ho : o.op = .fieldAddr t x f) (hx : E.valid x) (ex : E.val C x = .eptr k i off)
    (hu : ∀ w, (underlying t).run C.P w = .ok (.struct fs) w) (hf : fs[f]? = some fd) (hs : ∀ w, (sizeOf fd.type).run C.P w = .ok s w) (hs0 : s ≠ 0) : Yields C σ E o (.eptr k i (off + fd.offset)) :=
  yields_same fun M w ρ _ h => by
    have h1 := h x (by simp [ho, Op.operands]) hx
    rw [ex] at h1
    generalize hu' : ρ x = u at h1
    cases h1 with
    | eptr hk =>
      refine ⟨_, by simp [execOp, ho, hu', Instr.fieldAt, hu, hf, Instr.sureAddr, fieldPlace, hs, hs0, add_none, Nat.add_assoc], .eptr hk⟩

/-- A load of one cell. -/
theorem y_load_c1 {t : TypeId} {x : Operand} {cells : List CV} {c : CV} (ho : o.op = .load t x) (hx : E.valid x) (ex : E.val C x = .cptr cells) (ha : ∀ w, (isAgg t).run C.P w = .ok false w) (hc : cells[0]? = some c) : Yields C σ E o c :=
  yields_same fun M w ρ _ h => by
    have h1 := h x (by simp [ho, Op.operands]) hx
    rw [ex] at h1
    generalize hu' : ρ x = u at h1
    cases h1 with
    | cptr vals h1 h2 h3 =>
      rename_i b off
      have := (h2 0 c hc).2
      rw [Nat.add_zero] at this
      exact ⟨vals 0, by simp [execOp, ho, hu', Instr.loadAt, Instr.sureAddr, loadVar, ha, this], h3 0 c hc⟩
theorem y_load_c {t : TypeId} {x : Operand} {cells : List CV} {s : Nat} (ho : o.op = .load t x) (hx : E.valid x) (ex : E.val C x = .cptr cells) (ha : ∀ w, (isAgg t).run C.P w = .ok true w) (hs : ∀ w, (sizeOf t).run C.P w = .ok s w) (hl : s ≤ cells.length) : Yields C σ E o (.agg (cells.take s)) :=
  yields_same fun M w ρ _ h => by
    have h1 := h x (by simp [ho, Op.operands]) hx
    rw [ex] at h1
    generalize hu' : ρ x = u at h1
    cases h1 with
    | cptr vals h1 h2 h3 =>
      rename_i b off
      refine ⟨.agg ((List.range s).map vals).toArray, ?_, .agg (by simp [hl]) (fun c hc => h1 c (List.mem_of_mem_take hc)) (fun i c hi => ?_)⟩
      · simp [execOp, ho, hu', Instr.loadAt, Instr.sureAddr, loadVar, ha, hs, run_loadCells' (P := C.P) (w := w) vals s (fun j hj => (h2 j cells[j] (by simp [show j < cells.length by omega])).2)]
      · have hi' : i < s := by
          have := (List.getElem?_eq_some_iff.1 hi).1
          simp at this; omega
        rw [List.getElem?_take, if_pos hi'] at hi
        have := h3 i c hi
        simpa [hi'] using this
end
end Go.Cl
