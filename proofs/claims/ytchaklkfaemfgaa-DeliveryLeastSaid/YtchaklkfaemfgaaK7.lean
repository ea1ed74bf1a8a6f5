import Derived.Test.YtchaklkfaemfgaaK6
namespace Go.Cl

/-! ### Rows read as a source -/
/-- The value is a slice whose rows are these; reading its cells gives an array. -/
def Src (C : Ctx) (M : Plan) (w : World) (rows : List (List CV)) (s : Nat) (v : Value) : Prop :=
  ∃ a c, v = .slice a rows.length c ∧ rows.length ≤ c ∧ (∀ r ∈ rows, r.length = s) ∧
    ∃ arr : Array Value, (Builtin.firstCells s rows.length v).run C.P w = .ok arr w ∧ arr.size = rows.length * s ∧
      ∀ (i j : Nat) (r : List CV) (c : CV), rows[i]? = some r → r[j]? = some c → RV M w c (arr.getD (i * s + j) undef) ∧ c.one = true

theorem divmod {s i j : Nat} (hj : j < s) : (i * s + j) / s = i ∧ (i * s + j) % s = j := by
  have hs : 0 < s := by omega
  refine ⟨?_, ?_⟩
  · rw [Nat.add_comm, Nat.add_mul_div_right _ _ hs, Nat.div_eq_of_lt hj, Nat.zero_add]
  · rw [Nat.add_comm, Nat.add_mul_mod_self_right, Nat.mod_eq_of_lt hj]

theorem Src.one {M : Plan} {w : World} {rows : List (List CV)} {s : Nat} {arr : Array Value} (hrs : ∀ r ∈ rows, r.length = s) (hsz : arr.size = rows.length * s)
    (h : ∀ (i j : Nat) (r : List CV) (c : CV), rows[i]? = some r → r[j]? = some c → RV M w c (arr.getD (i * s + j) undef) ∧ c.one = true) : ∀ u ∈ arr.toList, u.oneCell' = true := by
  intro u hu
  obtain ⟨q, hq, rfl⟩ := List.mem_iff_getElem.1 hu
  have hq' : q < rows.length * s := by simpa [hsz] using hq
  have hs : 0 < s := by
    rcases Nat.eq_zero_or_pos s with h0 | h0
    · subst h0; simp at hq'
    · exact h0
  have hi : q / s < rows.length := Nat.div_lt_of_lt_mul (by rwa [Nat.mul_comm] at hq')
  have hj : q % s < s := Nat.mod_lt _ hs
  have hr : rows[q / s]? = some rows[q / s] := by simp [hi]
  have hjl : q % s < (rows[q / s]).length := by rw [hrs _ (List.getElem_mem hi)]; exact hj
  obtain ⟨h1, h2⟩ := h (q / s) (q % s) _ _ hr (List.getElem?_eq_getElem hjl)
  have hqq : q / s * s + q % s = q := by rw [Nat.mul_comm]; exact Nat.div_add_mod q s
  rw [hqq] at h1
  have := h1.one h2
  have hqs : q < arr.size := by omega
  simpa [hqs] using this

section
variable {C : Ctx} {σ : List CObj} {E : Env} {o : Oper}

theorem run_loadRows {w : World} {b off n s : Nat} (f : Nat → Nat → Value) (h : ∀ i j, i < n → j < s → w.cell? ⟨b, off + i * s + j, none⟩ = some (f i j)) :
    (loadCells ⟨b, off, none⟩ (n * s)).run C.P w = .ok ((List.range (n * s)).map fun q => f (q / s) (q % s)).toArray w :=
  run_loadCells' (fun q => f (q / s) (q % s)) (n * s) fun q hq => by
    have hs : 0 < s := by
      rcases Nat.eq_zero_or_pos s with h0 | h0
      · subst h0; simp at hq
      · exact h0
    have := h (q / s) (q % s) (Nat.div_lt_of_lt_mul (by rwa [Nat.mul_comm] at hq)) (Nat.mod_lt _ hs)
    rwa [Nat.add_assoc, show q / s * s + q % s = q from by rw [Nat.mul_comm]; exact Nat.div_add_mod q s] at this

theorem src_of_list {M : Plan} {w : World} {rows : List (List CV)} {nn : Bool} {tok : Option Nat} {v : Value} {s : Nat} (h : RV M w (.list rows nn tok) v) (hrs : ∀ r ∈ rows, r.length = s) : Src C M w rows s v := by
  obtain ⟨a, cap, b, off, s', vals, rfl, hcap, hmax, hnn, hn0, ha, hrl, hone, hc, hrv, _⟩ := h.list_inv
  refine ⟨a, cap, rfl, hcap, hrs, ?_⟩
  rcases rows with _ | ⟨r0, rows⟩
  · refine ⟨#[], ?_, by simp, by simp⟩
    cases a with
    | none => simp [Builtin.firstCells]
    | some a => simp [Builtin.firstCells, loadCells, loadCellsFrom]
  · have hss : s' = s := by rw [← hrl r0 (by simp), hrs r0 (by simp)]
    subst hss
    rw [ha (by simp)]
    generalize hrows : r0 :: rows = rs at *
    have hcell : ∀ i j, i < rs.length → j < s' → w.cell? ⟨b, off + i * s' + j, none⟩ = some (vals i j) := fun i j hi hj => by
      have hr : rs[i]? = some rs[i] := by simp [hi]
      have hl : j < rs[i].length := by rw [hrs _ (List.getElem_mem hi)]; exact hj
      exact (hc i j _ _ hr (List.getElem?_eq_getElem hl)).2
    refine ⟨_, by simp only [Builtin.firstCells]; exact run_loadRows vals hcell, by simp, fun i j r c hi hj => ⟨?_, hone r (List.mem_of_getElem? hi) c (List.mem_of_getElem? hj)⟩⟩
    have hil := (List.getElem?_eq_some_iff.1 hi).1
    have hjl : j < s' := by have := (List.getElem?_eq_some_iff.1 hj).1; rwa [hrs r (List.mem_of_getElem? hi)] at this
    have hq : i * s' + j < rs.length * s' := by
      have : (i + 1) * s' ≤ rs.length * s' := Nat.mul_le_mul_right _ hil
      rw [Nat.add_mul] at this; omega
    obtain ⟨e1, e2⟩ := divmod (i := i) hjl
    have : ((List.range (rs.length * s')).map fun q => vals (q / s') (q % s')).toArray.getD (i * s' + j) undef = vals i j := by simp [hq, e1, e2]
    rw [this]
    exact hrv i j r c hi hj

theorem src_of_vec {M : Plan} {w : World} {k off len : Nat} {v : Value} {s : Nat} {rows : List (List CV)} (hr : Rel C M σ w) (h : RV M w (.vec k off len) v) (hk : σ[k]? = some (.vec s rows)) (hl : off + len ≤ rows.length) : Src C M w ((rows.drop off).take len) s v := by
  cases h with
  | vec hp h1 h2 h3 =>
    rename_i p a
    obtain ⟨⟨rfl, q1, q2, q3, q4, arr, ty, q5, q6, q7⟩, _⟩ := hr.obj k p _ hp hk
    have hlen : ((rows.drop off).take len).length = len := by simp; omega
    refine ⟨some a, p.cap - off, by rw [hlen], by rw [hlen]; omega, fun r hr => q3 r (List.mem_of_mem_drop (List.mem_of_mem_take hr)), ?_⟩
    rw [hlen]
    have hget : ∀ i r, ((rows.drop off).take len)[i]? = some r → i < len ∧ rows[off + i]? = some r := fun i r hi => by
      rw [List.getElem?_take] at hi
      split at hi
      · rw [List.getElem?_drop] at hi; exact ⟨‹_›, hi⟩
      · cases hi
    rcases Nat.eq_zero_or_pos len with h0 | h0
    · subst h0
      exact ⟨#[], by simp [Builtin.firstCells, loadCells, loadCellsFrom], by simp, fun i j r c hi _ => by have := (hget i r hi).1; omega⟩
    · rw [h3 (by omega)]
      have hcell : ∀ i j, i < len → j < p.size → w.cell? ⟨p.block, off * p.size + i * p.size + j, none⟩ = some (arr.getD ((off + i) * p.size + j) undef) := fun i j hi hj => by
        have hq : (off + i) * p.size + j < arr.size := by
          rw [q6]
          have : (off + i + 1) * p.size ≤ p.cap * p.size := Nat.mul_le_mul_right _ (by omega)
          rw [Nat.add_mul (off + i)] at this; omega
        rw [show off * p.size + i * p.size + j = (off + i) * p.size + j from by rw [Nat.add_mul off]]
        simp [World.cell?, q5, hq]
      refine ⟨_, by simp only [Builtin.firstCells]; exact run_loadRows _ hcell, by simp, fun i j r c hi hj => ?_⟩
      obtain ⟨hil, hi'⟩ := hget i r hi
      have hmem := List.mem_of_getElem? hi'
      refine ⟨?_, q4 r hmem c (List.mem_of_getElem? hj)⟩
      have hjl : j < p.size := by have := (List.getElem?_eq_some_iff.1 hj).1; rwa [q3 r hmem] at this
      have hq : i * p.size + j < len * p.size := by
        have : (i + 1) * p.size ≤ len * p.size := Nat.mul_le_mul_right _ hil
        rw [Nat.add_mul] at this; omega
      obtain ⟨e1, e2⟩ := divmod (i := i) hjl
      have : ((List.range (len * p.size)).map fun q => arr.getD ((off + q / p.size) * p.size + q % p.size) undef).toArray.getD (i * p.size + j) undef = arr.getD ((off + i) * p.size + j) undef := by simp [hq, e1, e2]
      rw [this]
      exact q7 _ _ _ _ hi' hj

/-! ### Rows put into an array -/
def spliceR (rows : List (List CV)) (p : Nat) (new : List (List CV)) : List (List CV) := rows.take p ++ (new ++ rows.drop (p + new.length))

theorem spliceR_get {rows new : List (List CV)} {p : Nat} (hp : p ≤ rows.length) (i : Nat) :
    (spliceR rows p new)[i]? = if p ≤ i ∧ i < p + new.length then new[i - p]? else rows[i]? := by
  unfold spliceR
  rw [List.getElem?_append]
  simp only [List.length_take, Nat.min_eq_left hp]
  split
  · rename_i h1
    rw [if_neg (by omega), List.getElem?_take, if_pos h1]
  · rename_i h1
    rw [List.getElem?_append]
    split
    · rename_i h2
      rw [if_pos (by omega)]
    · rename_i h2
      rw [if_neg (by omega), List.getElem?_drop]
      congr 1; omega
theorem spliceR_mem {rows new : List (List CV)} {p : Nat} {r : List CV} (h : r ∈ spliceR rows p new) : r ∈ new ∨ r ∈ rows := by
  simp only [spliceR, List.mem_append] at h
  rcases h with h | h | h
  · exact .inr (List.mem_of_mem_take h)
  · exact .inl h
  · exact .inr (List.mem_of_mem_drop h)
theorem spliceR_length {rows new : List (List CV)} {p : Nat} (hp : p ≤ rows.length) : (spliceR rows p new).length = max rows.length (p + new.length) := by
  simp [spliceR]; omega

/-- An array in which rows are stored. -/
theorem vec_splice {M : Plan} {w : World} (hr : Rel C M σ w) {k s p : Nat} {q : Pl} {rows new : List (List CV)} (hq : M.pl[k]? = some q) (hk : σ[k]? = some (.vec s rows)) (hp : p ≤ rows.length) (hpc : p + new.length ≤ q.cap) (hns : ∀ r ∈ new, r.length = s) {arr : Array Value} (hsz : arr.size = new.length * s)
    (hrv : ∀ (i j : Nat) (r : List CV) (c : CV), new[i]? = some r → r[j]? = some c → RV M w c (arr.getD (i * s + j) undef) ∧ c.one = true) :
    ∃ w', (storeCells ⟨q.block, p * s, none⟩ arr.toList).run C.P w = .ok () w' ∧ Ext M w M w' ∧ Rel C M (σ.set k (.vec s (spliceR rows p new))) w' := by
  obtain ⟨⟨rfl, q1, q2, q3, q4, cur, ty, q5, q6, q7⟩, hf, hc⟩ := hr.obj k q _ hq hk
  have hend : p * q.size + arr.toList.length ≤ cur.size := by
    rw [Array.length_toList, hsz, q6, ← Nat.add_mul]
    exact Nat.mul_le_mul_right _ hpc
  have hrun := run_storeCells' (P := C.P) (b := q.block) (off := p * q.size) (t := ty) arr.toList 0 cur w q5 (by omega) (Src.one hns hsz hrv)
  rw [Nat.add_zero] at hrun
  have hx := Ext.putObj (w := w) (.cells (spliceA cur (p * q.size) arr.toList) ty (0, 0)) (hr.nk k q _ hq hk rfl) hf hc
  have hb : q.block < w.heap.size := (Array.getElem?_eq_some_iff.1 q5).1
  refine ⟨_, hrun, hx, hr.putObj (ob := .vec q.size (spliceR rows p new)) hq hk rfl hf hc _ ⟨rfl, by rw [spliceR_length hp]; omega, q2, fun r hr => ?_, fun r hr c hc => ?_, _, ty, World.putObj_same w _ hb, by rw [spliceA_size, q6], fun i j r c hi hj => ?_⟩⟩
  · rcases spliceR_mem hr with h | h
    · exact hns r h
    · exact q3 r h
  · rcases spliceR_mem hr with h | h
    · obtain ⟨i, hi⟩ := List.mem_iff_getElem?.1 h
      obtain ⟨j, hj⟩ := List.mem_iff_getElem?.1 hc
      exact (hrv i j r c hi hj).2
    · exact q4 r h c hc
  · rw [spliceA_getD _ _ _ _ hend]
    rw [spliceR_get hp] at hi
    have hrl : r.length = q.size := by
      split at hi
      · exact hns r (List.mem_of_getElem? hi)
      · exact q3 r (List.mem_of_getElem? hi)
    have hjl : j < q.size := by have := (List.getElem?_eq_some_iff.1 hj).1; omega
    simp only [Array.length_toList, hsz]
    split at hi
    · rename_i hin
      have hi2 : i - p < new.length := by omega
      have e1 : p * q.size ≤ i * q.size := Nat.mul_le_mul_right _ hin.1
      have e2 : (i - p) * q.size = i * q.size - p * q.size := Nat.sub_mul _ _ _
      have e3 : (i - p + 1) * q.size ≤ new.length * q.size := Nat.mul_le_mul_right _ hi2
      rw [Nat.add_mul] at e3
      rw [if_pos (by omega)]
      have := (hrv (i - p) j r c hi hj).1.mono hx
      rw [show i * q.size + j - p * q.size = (i - p) * q.size + j from by omega]
      simpa using this
    · rename_i hin
      rw [if_neg ?_]
      · exact (q7 _ _ _ _ hi hj).mono hx
      · rintro ⟨h1, h2⟩
        apply hin
        refine ⟨?_, ?_⟩
        · rcases Nat.lt_or_ge i p with h | h
          · have : (i + 1) * q.size ≤ p * q.size := Nat.mul_le_mul_right _ h
            rw [Nat.add_mul] at this; omega
          · exact h
        · rcases Nat.lt_or_ge i (p + new.length) with h | h
          · exact h
          · have : (p + new.length) * q.size ≤ i * q.size := Nat.mul_le_mul_right _ h
            rw [Nat.add_mul] at this; omega

/-! ### Arrays of the call's own -/
theorem y_index_v {t e : TypeId} {x ix : Operand} {k off len s : Nat} {rows : List (List CV)} {i : Int} (ho : o.op = .indexAddr t x ix) (hx : E.valid x) (hi : E.valid ix) (ex : E.val C x = .vec k off len) (ei : E.val C ix = .val (.int .i64 i))
    (hu : ∀ w, (underlying t).run C.P w = .ok (.slice e) w) (hs : ∀ w, (sizeOf e).run C.P w = .ok s w) (hk : σ[k]? = some (.vec s rows)) (h0 : 0 ≤ i) (hl : i.toNat < len) : Yields C σ E o (.eptr k (off + i.toNat) 0) :=
  yields_same fun M w ρ hr h => by
    have h1 := h x (by simp [ho, Op.operands]) hx
    have h2 := h ix (by simp [ho, Op.operands]) hi
    rw [ex] at h1
    rw [ei] at h2
    generalize hv : ρ x = v at h1
    cases h1 with
    | vec hp g1 g2 g3 =>
      rename_i p a
      obtain ⟨⟨rfl, _⟩, _⟩ := hr.obj k p _ hp hk
      have hlt : i < (len : Int) := by omega
      refine ⟨.pointer (some ⟨p.block, (off + i.toNat) * p.size + 0, none⟩), ?_, .eptr hp⟩
      simp [execOp, ho, hv, rv_val h2, Instr.indexAt, asIntOf, hu, hs, g3 (by omega), h0, hlt, add_none, Nat.add_mul]

theorem vec_cell {M : Plan} {w : World} {k s i off : Nat} {p : Pl} {rows : List (List CV)} {r : List CV} {c : CV} (hr : Rel C M σ w) (hp : M.pl[k]? = some p) (hk : σ[k]? = some (.vec s rows)) (hi : rows[i]? = some r) (hc : r[off]? = some c) :
    ∃ v, w.cell? ⟨p.block, i * p.size + off, none⟩ = some v ∧ RV M w c v := by
  obtain ⟨⟨rfl, q1, q2, q3, q4, arr, ty, q5, q6, q7⟩, _⟩ := hr.obj k p _ hp hk
  have hil := (List.getElem?_eq_some_iff.1 hi).1
  have hjl : off < p.size := by have := (List.getElem?_eq_some_iff.1 hc).1; rwa [q3 r (List.mem_of_getElem? hi)] at this
  have hq : i * p.size + off < arr.size := by
    rw [q6]
    have : (i + 1) * p.size ≤ p.cap * p.size := Nat.mul_le_mul_right _ (by omega)
    rw [Nat.add_mul] at this; omega
  exact ⟨_, by simp [World.cell?, q5, hq]; rfl, by simpa [hq] using q7 i off r c hi hc⟩

theorem y_load_e1 {t : TypeId} {x : Operand} {k i off s : Nat} {rows : List (List CV)} {r : List CV} {c : CV} (ho : o.op = .load t x) (hx : E.valid x) (ex : E.val C x = .eptr k i off) (ha : ∀ w, (isAgg t).run C.P w = .ok false w) (hk : σ[k]? = some (.vec s rows)) (hi : rows[i]? = some r) (hc : r[off]? = some c) : Yields C σ E o c :=
  yields_same fun M w ρ hr h => by
    have h1 := h x (by simp [ho, Op.operands]) hx
    rw [ex] at h1
    generalize hu' : ρ x = u at h1
    cases h1 with
    | eptr hp =>
      obtain ⟨v, hv, hrv⟩ := vec_cell hr hp hk hi hc
      exact ⟨v, by simp [execOp, ho, hu', Instr.loadAt, Instr.sureAddr, loadVar, ha, hv], hrv⟩
theorem y_load_e {t : TypeId} {x : Operand} {k i off s n : Nat} {rows : List (List CV)} {r : List CV} (ho : o.op = .load t x) (hx : E.valid x) (ex : E.val C x = .eptr k i off) (ha : ∀ w, (isAgg t).run C.P w = .ok true w) (hs : ∀ w, (sizeOf t).run C.P w = .ok n w) (hk : σ[k]? = some (.vec s rows)) (hi : rows[i]? = some r) (hl : off + n ≤ r.length) : Yields C σ E o (.agg ((r.drop off).take n)) :=
  yields_same fun M w ρ hr h => by
    have h1 := h x (by simp [ho, Op.operands]) hx
    rw [ex] at h1
    generalize hu' : ρ x = u at h1
    cases h1 with
    | eptr hp =>
      rename_i p
      have hone := (hr.obj k p _ hp hk).1.2.2.2.2.1
      have hall : ∀ j, j < n → ∃ v, w.cell? ⟨p.block, i * p.size + off + j, none⟩ = some v ∧ ∀ c, r[off + j]? = some c → RV M w c v := fun j hj => by
        obtain ⟨v, hv, hrv⟩ := vec_cell hr hp hk hi (List.getElem?_eq_getElem (show off + j < r.length by omega))
        exact ⟨v, by rw [Nat.add_assoc]; exact hv, fun c hc => by rw [List.getElem?_eq_getElem (show off + j < r.length by omega)] at hc; injection hc with hc; exact hc ▸ hrv⟩
      let f : Nat → Value := fun j => if hj : j < n then (hall j hj).choose else undef
      have hf : ∀ j, j < n → w.cell? ⟨p.block, i * p.size + off + j, none⟩ = some (f j) ∧ ∀ c, r[off + j]? = some c → RV M w c (f j) := fun j hj => by
        simp only [f, dif_pos hj]
        exact (hall j hj).choose_spec
      refine ⟨.agg ((List.range n).map f).toArray, ?_, .agg (by simp; omega) (fun c hc => hone r (List.mem_of_getElem? hi) c (List.mem_of_mem_drop (List.mem_of_mem_take hc))) (fun j c hj => ?_)⟩
      · simp [execOp, ho, hu', Instr.loadAt, Instr.sureAddr, loadVar, ha, hs, run_loadCells' (P := C.P) (w := w) f n (fun j hj => (hf j hj).1)]
      · have hj' : j < n := by
          have := (List.getElem?_eq_some_iff.1 hj).1
          simp at this; omega
        rw [List.getElem?_take, if_pos hj', List.getElem?_drop] at hj
        have := (hf j hj').2 c hj
        simpa [hj'] using this

theorem set_row_splice {rows : List (List CV)} {i : Nat} {r' : List CV} (hi : i < rows.length) : rows.set i r' = spliceR rows i [r'] := by
  apply List.ext_getElem?
  intro j
  rw [spliceR_get (by omega), List.getElem?_set]
  by_cases h : i = j
  · subst h
    simp [hi]
  · rw [if_neg h, if_neg (by simp; omega)]

theorem d_store_e {t : TypeId} {x y : Operand} {k i off s n : Nat} {c : CV} {rows : List (List CV)} {r : List CV} {K : CRes → List CObj → Prop} (ho : o.op = .store t x y) (hx : E.valid x) (hy : E.valid y) (ex : E.val C x = .eptr k i off) (ey : E.val C y = c) (hs : ∀ w, (sizeOf t).run C.P w = .ok n w)
    (hc : c.one = true ∨ ∃ cs, c = .agg cs) (hk : σ[k]? = some (.vec s rows)) (hi : rows[i]? = some r) (hl : c.cells.length = n) (hlt : off + n ≤ r.length) (h : K (.ret (.val undef)) (σ.set k (.vec s (rows.set i (spliceL r off c.cells))))) : Does C σ E o K := fun M w ρ hr hh => by
  have h1 := hh x (by simp [ho, Op.operands]) hx
  have h2 := hh y (by simp [ho, Op.operands]) hy
  rw [ex] at h1
  rw [ey] at h2
  generalize hu : ρ x = u at h1
  cases h1 with
  | eptr hp =>
    rename_i p
    obtain ⟨⟨rfl, q1, q2, q3, q4, arr, ty, q5, q6, q7⟩, hf, hcl⟩ := hr.obj k p _ hp hk
    obtain ⟨g1, g2, g3⟩ := h2.cells hc
    have hone := cells_toList_one h2 hc
    have hil := (List.getElem?_eq_some_iff.1 hi).1
    have hrm := List.mem_of_getElem? hi
    have hrl : r.length = p.size := q3 r hrm
    have hsz : off + c.cells.length ≤ r.length := by omega
    have hend : i * p.size + off + (ρ y).cells.toList.length ≤ arr.size := by
      rw [Array.length_toList, g1, q6]
      have : (i + 1) * p.size ≤ p.cap * p.size := Nat.mul_le_mul_right _ (by omega)
      rw [Nat.add_mul] at this; omega
    have hrun : (execOp ρ o).run C.P w = .ok .skip (World.putObj w p.block (.cells (spliceA arr (i * p.size + off) (ρ y).cells.toList) ty (0, 0))) := by
      have := run_storeCells' (P := C.P) (b := p.block) (off := i * p.size + off) (t := ty) (ρ y).cells.toList 0 arr w q5 (by omega) hone
      simp only [Nat.add_zero] at this
      simp [execOp, ho, hu, Instr.storeAt, Instr.sureAddr, storeVar, hs, g1, hl, this]
    rw [hrun]
    have hx := Ext.putObj (w := w) (.cells (spliceA arr (i * p.size + off) (ρ y).cells.toList) ty (0, 0)) (hr.nk k p _ hp hk rfl) hf hcl
    have hb : p.block < w.heap.size := (Array.getElem?_eq_some_iff.1 q5).1
    have hmem : ∀ r', r' ∈ rows.set i (spliceL r off c.cells) → r' = spliceL r off c.cells ∨ r' ∈ rows := fun r' hr' => by
      rcases List.mem_or_eq_of_mem_set hr' with h | h
      · exact .inr h
      · exact .inl h
    refine ⟨.val undef, _, M, hx, hr.putObj (ob := .vec p.size (rows.set i (spliceL r off c.cells))) hp hk rfl hf hcl _ ⟨rfl, by simpa using q1, q2, fun r' hr' => ?_, fun r' hr' c' hc' => ?_, _, ty, World.putObj_same w _ hb, by rw [spliceA_size, q6], fun i' j r' c' hi' hj => ?_⟩, .val _, h⟩
    · rcases hmem r' hr' with rfl | h
      · rw [spliceL_length hsz, hrl]
      · exact q3 r' h
    · rcases hmem r' hr' with rfl | h
      · rcases spliceL_mem hc' with h' | h'
        · exact g2 _ h'
        · exact q4 r hrm _ h'
      · exact q4 r' h _ hc'
    · rw [spliceA_getD _ _ _ _ hend]
      simp only [Array.length_toList, g1]
      rw [List.getElem?_set] at hi'
      split at hi'
      · rename_i hii
        subst hii
        injection hi' with hi'
        subst hi'
        rw [spliceL_get hsz] at hj
        split at hj
        · rename_i hin
          rw [if_pos (by omega)]
          have := (g3 _ _ hj).mono hx
          rw [show i * p.size + j - (i * p.size + off) = j - off from by omega]
          simpa using this
        · rename_i hin
          rw [if_neg (by omega)]
          exact (q7 _ _ _ _ hi hj).mono hx
      · rename_i hii
        have hjl : j < p.size := by have := (List.getElem?_eq_some_iff.1 hj).1; rwa [q3 r' (List.mem_of_getElem? hi')] at this
        rw [if_neg ?_]
        · exact (q7 _ _ _ _ hi' hj).mono hx
        · rintro ⟨h1, h2⟩
          rcases Nat.lt_or_ge i' i with h | h
          · have : (i' + 1) * p.size ≤ i * p.size := Nat.mul_le_mul_right _ h
            rw [Nat.add_mul] at this; omega
          · have : (i + 1) * p.size ≤ i' * p.size := Nat.mul_le_mul_right _ (by omega)
            rw [Nat.add_mul] at this; omega

theorem y_slice_v {t e : TypeId} {x : Operand} {lo hi : Option Operand} {k off len s : Nat} {rows : List (List CV)} {l h : Nat} (ho : o.op = .slice t x lo hi none) (hx : E.valid x) (ex : E.val C x = .vec k off len)
    (hu : ∀ w, (underlying t).run C.P w = .ok (.slice e) w) (hs : ∀ w, (sizeOf e).run C.P w = .ok s w) (hk : σ[k]? = some (.vec s rows)) (hlo : bound C E lo 0 l) (hhi : bound C E hi len h) (h1 : l ≤ h) (h2 : off + h ≤ rows.length) : Yields C σ E o (.vec k (off + l) (h - l)) :=
  yields_same fun M w ρ hr hh => by
    have hx' := hh x (by simp [ho, Op.operands]) hx
    rw [ex] at hx'
    generalize hv : ρ x = v at hx'
    cases hx' with
    | vec hp g1 g2 g3 =>
      rename_i p a
      obtain ⟨⟨rfl, q1, q2, _⟩, _⟩ := hr.obj k p _ hp hk
      have hlo' : ∀ v, lo = some v → ∃ k i, ρ v = .int k i ∧ 0 ≤ i ∧ i.toNat = l := fun v hv => by
        subst hv
        obtain ⟨hval, k, i, he, h0, hi⟩ := hlo
        have := hh v (by simp [ho, Op.operands]) hval
        rw [he] at this
        exact ⟨k, i, rv_val this, h0, hi⟩
      have hhi' : ∀ v, hi = some v → ∃ k i, ρ v = .int k i ∧ 0 ≤ i ∧ i.toNat = h := fun v hv => by
        subst hv
        obtain ⟨hval, k, i, he, h0, hi⟩ := hhi
        have := hh v (by simp [ho, Op.operands]) hval
        rw [he] at this
        exact ⟨k, i, rv_val this, h0, hi⟩
      have hcap : h ≤ p.cap - off := by omega
      have hb : (Instr.sliceBounds true len (p.cap - off) (lo.map ρ) (hi.map ρ) none).run C.P w = .ok (l, h, p.cap - off) w := by
        have hl2 : (l : Int) ≤ h := by omega
        have hh2 : (h : Int) ≤ ((p.cap - off : Nat) : Int) := by omega
        cases lo with
        | none =>
          have : l = 0 := by simpa [bound] using hlo.symm
          subst this
          cases hi with
          | none =>
            have : h = len := by simpa [bound] using hhi.symm
            subst this
            simp [Instr.sliceBounds]
          | some v =>
            obtain ⟨k, i, he, h0, hi⟩ := hhi' v rfl
            have : i ≤ ((p.cap - off : Nat) : Int) := by omega
            simp [Instr.sliceBounds, Instr.sliceBound, he, asIntOf, h0, this, hi]
        | some u =>
          obtain ⟨k', i', he', h0', hi'⟩ := hlo' u rfl
          have hle : i' ≤ (h : Int) := by omega
          cases hi with
          | none =>
            have : h = len := by simpa [bound] using hhi.symm
            subst this
            simp [Instr.sliceBounds, Instr.sliceBound, he', asIntOf, h0', hle, hi']
          | some v =>
            obtain ⟨k, i, he, h0, hi⟩ := hhi' v rfl
            have hc' : i ≤ ((p.cap - off : Nat) : Int) := by omega
            simp [Instr.sliceBounds, Instr.sliceBound, he, he', asIntOf, h0, h0', hc', hi, hle, hi']
      have hrun : (execOp ρ o).run C.P w = .ok (.value (.slice (if p.cap - off = l then some a else some (a.add (l * p.size))) (h - l) (p.cap - off - l))) w := by
        simp [execOp, ho, Instr.sliceAt, Instr.slice, hu, hv, hb, hs]
      refine ⟨_, hrun, ?_⟩
      by_cases he : p.cap - off = l
      · rw [if_pos he, show p.cap - off - l = p.cap - (off + l) from by omega]
        exact .vec hp (by omega) g2 (fun hlt => by omega)
      · rw [if_neg he, show p.cap - off - l = p.cap - (off + l) from by omega]
        exact .vec hp (by omega) g2 (fun hlt => by rw [g3 (by omega), add_none, Nat.add_mul])

/-- An operation whose value is never looked at. -/
def Runs (C : Ctx) (σ : List CObj) (E : Env) (o : Oper) : Prop :=
  ∀ (M : Plan) (w : World) (ρ : Operand → Value), Rel C M σ w → (∀ x ∈ o.op.operands, E.valid x → RV M w (E.val C x) (ρ x)) → ∃ v, (execOp ρ o).run C.P w = .ok (.value v) w

theorem co_run {n : Nat} {Q : CExit → Env → List CObj → Prop} {ops : Array Oper} {l : List Oper} (hg : o.guard = none) (hy : Runs C σ E o) (h : COps C n ops Q l (E.hide o.dst) σ) : COps C n ops Q (o :: l) E σ := fun M w a hr hf => by
  unfold wpList
  rw [if_pos (by simp [Region.wanted, hg])]
  obtain ⟨v, hv⟩ := hy M w a.eval hr fun x _ hx => hf.eval hr hx
  refine .inl (wp_of_upon (P := C.P) (K := fun u w' => u = v ∧ w' = w) (Kp := fun _ _ => False) (by rw [hv]; exact ⟨rfl, rfl⟩) (fun u w' he => ?_) (fun _ _ h => h.elim))
  obtain ⟨rfl, rfl⟩ := he
  exact h.later (Ext.refl M w') hr hf.hide

/-- 's[i:j:m]', its value not looked at: the bounds are asked alone. -/
theorem r_slice3_v {t e : TypeId} {x lo hi mx : Operand} {k len s : Nat} {rows : List (List CV)} {kl kh km : IntKind} {l h m : Int} (ho : o.op = .slice t x (some lo) (some hi) (some mx)) (hx : E.valid x) (hvl : E.valid lo) (hvh : E.valid hi) (hvm : E.valid mx) (ex : E.val C x = .vec k 0 len)
    (hu : ∀ w, (underlying t).run C.P w = .ok (.slice e) w) (hs : ∀ w, (sizeOf e).run C.P w = .ok s w) (hk : σ[k]? = some (.vec s rows)) (el : E.val C lo = .val (.int kl l)) (eh : E.val C hi = .val (.int kh h)) (em : E.val C mx = .val (.int km m)) (h0 : 0 ≤ l) (h1 : l ≤ h) (h2 : h ≤ m) (h3 : m ≤ rows.length) : Runs C σ E o := fun M w ρ hr hh => by
  have hx' := hh x (by simp [ho, Op.operands]) hx
  have hl' := hh lo (by simp [ho, Op.operands]) hvl
  have hh' := hh hi (by simp [ho, Op.operands]) hvh
  have hm' := hh mx (by simp [ho, Op.operands]) hvm
  rw [ex] at hx'
  rw [el] at hl'
  rw [eh] at hh'
  rw [em] at hm'
  generalize hv : ρ x = v at hx'
  cases hx' with
  | vec hp g1 g2 g3 =>
    rename_i p a
    obtain ⟨⟨rfl, q1, q2, _⟩, _⟩ := hr.obj k p _ hp hk
    have e1 : m ≤ (p.cap : Int) := by omega
    have e2 : h ≤ max m 0 := by omega
    have e3 : l ≤ max h 0 := by omega
    have b1 : 0 ≤ m := by omega
    have b2 : 0 ≤ h := by omega
    refine ⟨.slice (if m.toNat = l.toNat then some a else some (a.add (l.toNat * p.size))) (h.toNat - l.toNat) (m.toNat - l.toNat), ?_⟩
    simp [execOp, ho, Instr.sliceAt, Instr.slice, hu, hv, hs, Instr.sliceBounds, Instr.sliceBound, rv_val hl', rv_val hh', rv_val hm', asIntOf, e1, e2, e3, h0, b1, b2]
end
end Go.Cl
