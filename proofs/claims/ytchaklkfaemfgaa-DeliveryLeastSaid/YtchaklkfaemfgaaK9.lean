import Derived.Test.YtchaklkfaemfgaaK8
namespace Go.Cl
section
variable {C : Ctx} {σ : List CObj} {E : Env} {o : Oper}

def zrow (z : Value) : List CV := (cvOf z).cells

theorem zcell {M : Plan} {w : World} {z : Value} {s n : Nat} (hz1 : constOk z = true) (hz2 : (cvOf z).one = true ∨ ∃ cs, cvOf z = .agg cs) (hzs : z.cells.size = s) {arr : Array Value} (harr : ∀ q, q < n * s → arr.getD q undef = z.cells.getD (q % s) undef) (i j : Nat) (r : List CV) (c : CV) (hi : (List.replicate n (zrow z))[i]? = some r) (hj : r[j]? = some c) :
    RV M w c (arr.getD (i * s + j) undef) ∧ c.one = true := by
  have hz0 : RV M w (cvOf z) z := rv_cvOf hz1
  obtain ⟨g1, g2, g3⟩ := hz0.cells hz2
  rw [List.getElem?_replicate] at hi
  split at hi
  · rename_i hin
    injection hi with hi
    subst hi
    have hjl := (List.getElem?_eq_some_iff.1 hj).1
    have hjs : j < s := by rw [← hzs, g1]; exact hjl
    have hq : i * s + j < n * s := by
      have : (i + 1) * s ≤ n * s := Nat.mul_le_mul_right _ hin
      rw [Nat.add_mul] at this; omega
    rw [harr _ hq, (divmod hjs).2]
    exact ⟨g3 j c hj, g2 c (List.mem_of_getElem? hj)⟩
  · cases hi

theorem zrow_len {z : Value} {s : Nat} (hz1 : constOk z = true) (hz2 : (cvOf z).one = true ∨ ∃ cs, cvOf z = .agg cs) (hzs : z.cells.size = s) : (zrow z).length = s := by
  have hz0 : RV ⟨[], fun _ => False, fun _ _ => False, fun _ => False⟩ default (cvOf z) z := rv_cvOf hz1
  have := (hz0.cells hz2).1
  rw [hzs] at this
  exact this.symm

theorem zeros_get {z : Array Value} {s n q : Nat} (hs : z.size = s) (hq : q < n * s) : ((Array.range (n * s)).map (z[· % z.size]!)).getD q undef = z.getD (q % s) undef := by
  have h0 : 0 < s := by
    rcases Nat.eq_zero_or_pos s with h | h
    · subst h; simp at hq
    · exact h
  have hms : q % s < s := Nat.mod_lt _ h0
  simp [hq, hs, hms]

/-- make([]T, n, c). -/
theorem d_make {t e : TypeId} {x y : Operand} {n c s : Nat} {kx ky : IntKind} {a b : Int} {ti : TypeInfo} {z : Value} {K : CRes → List CObj → Prop} (ho : o.op = .makeSlice t x y) (hx : E.valid x) (hy : E.valid y) (ex : E.val C x = .val (.int kx a)) (ey : E.val C y = .val (.int ky b)) (ha : a = n) (hb : b = c)
    (hu : ∀ w, (underlying t).run C.P w = .ok (.slice e) w) (hs : ∀ w, (sizeOf e).run C.P w = .ok s w) (hti : ∀ w, (typeInfo e).run C.P w = .ok ti w) (hz : ∀ w, (zeroValue e).run C.P w = .ok z w) (hz1 : constOk z = true) (hz2 : (cvOf z).one = true ∨ ∃ cs, cvOf z = .agg cs) (hzs : z.cells.size = s)
    (hnc : n ≤ c) (hmax : c ≤ 9223372036854775807) (hby : ti.bytes * c ≤ 281474976710656) (hk : K (.ret (.vec σ.length 0 n)) (σ ++ [.vec s (List.replicate n (zrow z))])) : Does C σ E o K := fun M w ρ hr hh => by
  subst ha hb
  have h1 := hh x (by simp [ho, Op.operands]) hx
  have h2 := hh y (by simp [ho, Op.operands]) hy
  rw [ex] at h1
  rw [ey] at h2
  have e1 : IntKind.i64.wrap (n : Int) = n := wr64 (by omega) (by omega)
  have e2 : IntKind.i64.wrap (c : Int) = c := wr64 (by omega) (by omega)
  have e3 : ((ti.bytes : Int) * (c : Int) > 2 ^ 48) = False := by
    have h : ((ti.bytes * c : Nat) : Int) ≤ 281474976710656 := by omega
    rw [Int.natCast_mul] at h
    simp; omega
  have hcell : (if c * s = 0 then (#[] : Array Value) else z.cells) = (if c * s = 0 then #[] else z.cells) := rfl
  have hnlt : ¬ ((c : Int) < n) := by omega
  have hrun : (execOp ρ o).run C.P w = .ok (.value (.slice (some ⟨w.heap.size, 0, none⟩) n c)) (w.alloc (.cells ((Array.range (c * s)).map (z.cells[· % z.cells.size]!)) e)) := by
    have e4 : ¬ (2 ^ 48 < (ti.bytes : Int) * (c : Int)) := by simpa using e3
    by_cases h0 : c * s = 0
    · have er : Array.range 0 = #[] := rfl
      simp [execOp, ho, Instr.makeSlice, hu, rv_val h1, rv_val h2, asInt, asIntOf, hti, e1, e2, hs, h0, newRow, er, hnlt] at e4 ⊢
      intro h
      exfalso
      rcases h with (h | h) | h <;> omega
    · simp [execOp, ho, Instr.makeSlice, hu, rv_val h1, rv_val h2, asInt, asIntOf, hti, e1, e2, hs, h0, hz, newRow, hnlt] at e4 ⊢
      intro h
      exfalso
      rcases h with (h | h) | h <;> omega
  rw [hrun]
  have hx := Ext.alloc hr ⟨w.heap.size, c, s⟩ (.cells ((Array.range (c * s)).map (z.cells[· % z.cells.size]!)) e)
  have hzl := zrow_len hz1 hz2 hzs
  refine ⟨.vec σ.length 0 n, _, _, hx, hr.alloc ⟨w.heap.size, c, s⟩ _ (.vec s (List.replicate n (zrow z))) rfl ⟨rfl, by simpa using hnc, by unfold maxLen; simp only; omega, fun r hr => by rw [(List.mem_replicate.1 hr).2, hzl], fun r hr c hc => ?_, _, e, heap_alloc_new _ _, by simp, fun i j r c' hi hj => ?_⟩, ?_, hk⟩
  · rw [(List.mem_replicate.1 hr).2] at hc
    have hz0 : RV M w (cvOf z) z := rv_cvOf hz1
    exact (hz0.cells hz2).2.1 c hc
  · exact (zcell (n := n) hz1 hz2 hzs (fun q hq => zeros_get hzs (Nat.lt_of_lt_of_le hq (Nat.mul_le_mul_right _ hnc))) i j r c' hi hj).1
  · have := RV.vec (M := M.add ⟨w.heap.size, c, s⟩) (w := w.alloc (.cells ((Array.range (c * s)).map (z.cells[· % z.cells.size]!)) e)) (k := σ.length) (off := 0) (len := n) (p := ⟨w.heap.size, c, s⟩) (a := ⟨w.heap.size, 0, none⟩) (by simp [Plan.add, ← hr.len]) (by simpa using hnc) (by unfold maxLen; simp only; omega) (fun _ => by simp)
    exact this

/-- copy into an array of the call's own. -/
theorem d_copy {t t' e : TypeId} {x y : Operand} {k off len s : Nat} {rows new : List (List CV)} {K : CRes → List CObj → Prop} (ho : o.op = .call { callee := .builtin .copy, args := #[x, y], argTypes := #[t, t'] }) (hx : E.valid x) (hy : E.valid y) (ex : E.val C x = .vec k off len)
    (hsrc : ∀ M w v, Rel C M σ w → RV M w (E.val C y) v → Src C M w new s v) (hu : ∀ w, (underlying t).run C.P w = .ok (.slice e) w) (hs : ∀ w, (sizeOf e).run C.P w = .ok s w) (hk' : σ[k]? = some (.vec s rows)) (hl : off + len ≤ rows.length) (hnl : new.length ≤ len)
    (hk : K (.ret (.val (.int .i64 new.length))) (σ.set k (.vec s (spliceR rows off new)))) : Does C σ E o K := fun M w ρ hr hh => by
  have h1 := hh x (by simp [ho, Op.operands, Call.operands]) hx
  have h2 := hh y (by simp [ho, Op.operands, Call.operands]) hy
  rw [ex] at h1
  have hsn := hsrc M w _ hr h2
  have hlen := hsn.lenOf
  generalize hv : ρ x = v at h1
  cases h1 with
  | vec hp g1 g2 g3 =>
    rename_i p a
    obtain ⟨an, cn, hvn, _, hns, arr, hfn, hszn, hrvn⟩ := hsn
    have hobj := (hr.obj k p _ hp hk').1
    have hcap : rows.length ≤ p.cap := hobj.2.1
    have hps : p.size = s := hobj.1
    obtain ⟨w', hst, hx', hr'⟩ := vec_splice hr hp hk' (p := off) (new := new) (by omega) (by omega) hns hszn hrvn
    have hmin : Nat.min new.length len = new.length := Nat.min_eq_left hnl
    have hst' : (storeCells a arr.toList).run C.P w = .ok () w' := by
      rcases Nat.eq_zero_or_pos new.length with h0 | h0
      · have h00 : arr.toList = [] := List.eq_nil_of_length_eq_zero (by simp [hszn, h0])
        rw [h00] at hst ⊢
        exact hst
      · rw [g3 (by omega), hps]; exact hst
    have hrun : (execOp ρ o).run C.P w = .ok (.value (.int .i64 new.length)) w' := by
      simp [execOp, ho, resolve, invoke, builtin, Builtin.copy_, hu, hs, hv, hlen, hmin, hfn, hst', goInt]
    rw [hrun]
    exact ⟨_, _, M, hx', hr', .val _, hk⟩

/-- clear of a part of an array of the call's own. -/
theorem d_clear {t e : TypeId} {x : Operand} {k off len s : Nat} {rows : List (List CV)} {z : Value} {K : CRes → List CObj → Prop} (ho : o.op = .call { callee := .builtin .clear, args := #[x], argTypes := #[t] }) (hx : E.valid x) (ex : E.val C x = .vec k off len)
    (hu : ∀ w, (underlying t).run C.P w = .ok (.slice e) w) (hz : ∀ w, (zeroValue e).run C.P w = .ok z w) (hz1 : constOk z = true) (hz2 : (cvOf z).one = true ∨ ∃ cs, cvOf z = .agg cs) (hzs : z.cells.size = s) (hk' : σ[k]? = some (.vec s rows)) (hl : off + len ≤ rows.length)
    (hk : K (.ret (.val (.tuple #[]))) (σ.set k (.vec s (spliceR rows off (List.replicate len (zrow z)))))) : Does C σ E o K := fun M w ρ hr hh => by
  have h1 := hh x (by simp [ho, Op.operands, Call.operands]) hx
  rw [ex] at h1
  generalize hv : ρ x = v at h1
  cases h1 with
  | vec hp g1 g2 g3 =>
    rename_i p a
    have hobj := (hr.obj k p _ hp hk').1
    have hcap : rows.length ≤ p.cap := hobj.2.1
    have hps : p.size = s := hobj.1
    have hzl := zrow_len hz1 hz2 hzs
    have hzc : (Builtin.zeroCells z.cells len) = (Array.range (len * s)).map (z.cells[· % z.cells.size]!) := by simp [Builtin.zeroCells, hzs]
    obtain ⟨w', hst, hx', hr'⟩ := vec_splice hr hp hk' (p := off) (new := List.replicate len (zrow z)) (arr := Builtin.zeroCells z.cells len) (by omega) (by simp; omega) (fun r hr => by rw [(List.mem_replicate.1 hr).2, hzl]) (by simp [zeroCells_size, hzs])
      (fun i j r c hi hj => zcell (n := len) hz1 hz2 hzs (fun q hq => by rw [hzc]; exact zeros_get hzs hq) i j r c hi hj)
    have hrun : (execOp ρ o).run C.P w = .ok (.value (.tuple #[])) w' := by
      rcases len with _ | len
      · have h00 : (Builtin.zeroCells z.cells 0).toList = [] := by simp [Builtin.zeroCells]
        rw [h00] at hst
        have : w' = w := by
          have h2 : (storeCells ⟨p.block, off * s, none⟩ []).run C.P w = .ok () w := by simp [storeCells]
          rw [h2] at hst
          injection hst with _ h3
          exact h3.symm
        subst this
        simp [execOp, ho, resolve, invoke, builtin, Builtin.clear_, hu, hv]
      · have hst' : (storeCells a (Builtin.zeroCells z.cells (len + 1)).toList).run C.P w = .ok () w' := by
          rw [g3 (by omega), hps]; exact hst
        simp [execOp, ho, resolve, invoke, builtin, Builtin.clear_, hu, hv, hz, hst']
    rw [hrun]
    exact ⟨_, _, M, hx', hr', .val _, hk⟩

/-- append within an array of the call's own: what stood there is overwritten. -/
theorem d_append_vin {t e : TypeId} {x y : Operand} {k off len s : Nat} {rows new : List (List CV)} {K : CRes → List CObj → Prop} (ho : o.op = .call { callee := .builtin .append, args := #[x, y], argTypes := #[t, t] }) (hx : E.valid x) (hy : E.valid y) (ex : E.val C x = .vec k off len)
    (hsrc : ∀ M w v, Rel C M σ w → RV M w (E.val C y) v → Src C M w new s v) (hu : ∀ w, (underlying t).run C.P w = .ok (.slice e) w) (hs : ∀ w, (sizeOf e).run C.P w = .ok s w) (hk' : σ[k]? = some (.vec s rows)) (hl : off + len + new.length ≤ rows.length)
    (hk : K (.ret (.vec k off (len + new.length))) (σ.set k (.vec s (spliceR rows (off + len) new)))) : Does C σ E o K := fun M w ρ hr hh => by
  have h1 := hh x (by simp [ho, Op.operands, Call.operands]) hx
  have h2 := hh y (by simp [ho, Op.operands, Call.operands]) hy
  rw [ex] at h1
  have hsn := hsrc M w _ hr h2
  have hlen := hsn.lenOf
  generalize hv : ρ x = v at h1
  cases h1 with
  | vec hp g1 g2 g3 =>
    rename_i p a
    obtain ⟨an, cn, hvn, _, hns, arr, hfn, hszn, hrvn⟩ := hsn
    have hobj := (hr.obj k p _ hp hk').1
    have hcap : rows.length ≤ p.cap := hobj.2.1
    have hps : p.size = s := hobj.1
    obtain ⟨w', hst, hx', hr'⟩ := vec_splice hr hp hk' (p := off + len) (new := new) (by omega) (by omega) hns hszn hrvn
    have hfit : len + new.length ≤ p.cap - off := by omega
    have hrun : (execOp ρ o).run C.P w = .ok (.value (.slice (some a) (len + new.length) (p.cap - off))) w' := by
      rcases Nat.eq_zero_or_pos new.length with h0 | h0
      · have h00 : arr.toList = [] := List.eq_nil_of_length_eq_zero (by simp [hszn, h0])
        have harr : arr = #[] := by simpa using h00
        rw [h00] at hst
        have : w' = w := by
          have h2 : (storeCells ⟨p.block, (off + len) * s, none⟩ []).run C.P w = .ok () w := by simp [storeCells]
          rw [h2] at hst
          injection hst with _ h3
          exact h3.symm
        subst this
        have hfit' : len ≤ p.cap - off := by omega
        rw [h0] at hfn hlen
        simp [execOp, ho, resolve, invoke, builtin, Builtin.append_, hu, hs, hv, hlen, h0, hfit', hfn, harr, storeCells]
      · have ha := g3 (by omega)
        have := run_append_fits (P := C.P) (ty := o.type) (b := p.block) (off := off * p.size) (n := len) (m := new.length) (c := p.cap - off) hu hs hlen hfn hfit (by rw [hps, ← Nat.add_mul]; exact hst)
        rw [← ha] at this
        simp [execOp, ho, resolve, invoke, builtin, hv, this]
    rw [hrun]
    refine ⟨_, _, M, hx', hr', ?_, hk⟩
    exact .vec hp (by omega) g2 g3

/-- append behind an array of the call's own: the old number is dead. -/
theorem d_append_v {t e : TypeId} {x y : Operand} {k s : Nat} {rows new : List (List CV)} {ti : TypeInfo} {z : Value} {K : CRes → List CObj → Prop} (ho : o.op = .call { callee := .builtin .append, args := #[x, y], argTypes := #[t, t] }) (hx : E.valid x) (hy : E.valid y) (ex : E.val C x = .vec k 0 rows.length)
    (hsrc : ∀ M w v, Rel C M σ w → RV M w (E.val C y) v → Src C M w new s v) (hu : ∀ w, (underlying t).run C.P w = .ok (.slice e) w) (hs : ∀ w, (sizeOf e).run C.P w = .ok s w) (hti : ∀ w, (typeInfo e).run C.P w = .ok ti w) (hz : ∀ w, (zeroValue e).run C.P w = .ok z w) (hzs : z.cells.size = s)
    (hk' : σ[k]? = some (.vec s rows)) (hnew : new ≠ []) (hb : (rows.length + new.length) * ti.bytes ≤ 140737488355328) (hmax : rows.length + new.length ≤ 9223372036854775807)
    (hk : K (.ret (.vec σ.length 0 (rows.length + new.length))) (σ.set k .dead ++ [.vec s (rows ++ new)])) : Does C σ E o K := fun M w ρ hr hh => by
  have h1 := hh x (by simp [ho, Op.operands, Call.operands]) hx
  have h2 := hh y (by simp [ho, Op.operands, Call.operands]) hy
  rw [ex] at h1
  have hnl : 0 < new.length := List.length_pos_iff.2 hnew
  have hsx := src_of_vec hr h1 hk' (Nat.le_of_eq (Nat.zero_add _))
  rw [List.drop_zero, List.take_length] at hsx
  have hlen := (hsrc M w _ hr h2).lenOf
  have hexec : (execOp ρ o).run C.P w = ((Builtin.append_ #[t, t] o.type #[ρ x, ρ y]).run C.P w).andThen fun v w => .ok (.value v) w := by
    simp [execOp, ho, resolve, invoke, builtin]
  generalize hv : ρ x = v at h1 hsx
  cases h1 with
  | vec hp g1 g2 g3 =>
    rename_i p a
    have hobj := (hr.obj k p _ hp hk').1
    have hcap : rows.length ≤ p.cap := hobj.2.1
    have hps : p.size = s := hobj.1
    subst hps
    by_cases hfit : rows.length + new.length ≤ p.cap
    · obtain ⟨an, cn, hvn, _, hns, arr, hfn, hszn, hrvn⟩ := hsrc M w _ hr h2
      obtain ⟨w', hst, hx', hr'⟩ := vec_splice hr hp hk' (p := rows.length) (new := new) (Nat.le_refl _) hfit hns hszn hrvn
      have ha := g3 (by omega)
      rw [Nat.zero_mul] at ha
      have happ := run_append_fits (P := C.P) (ty := o.type) (b := p.block) (off := 0) (n := rows.length) (m := new.length) (c := p.cap - 0) hu hs hlen hfn (by omega) (by rw [Nat.zero_add]; exact hst)
      rw [hexec, hv, ha, happ]
      simp only [Result.andThen_ok]
      have hsp : spliceR rows rows.length new = rows ++ new := by simp [spliceR]
      rw [hsp] at hr'
      -- the same array under a new number
      have hks : k < σ.length := (List.getElem?_eq_some_iff.1 hk').1
      have hk2 : (σ.set k (.vec p.size (rows ++ new)))[k]? = some (.vec p.size (rows ++ new)) := by rw [List.getElem?_set_self hks]
      have hx2 : Ext M w' (M.add p) w' := ⟨⟨[p], rfl⟩, fun _ h => h, fun _ _ h => .inr h, fun _ _ => rfl, fun _ _ _ => rfl, Nat.le_refl _, rfl, rfl, rfl, fun _ h => ⟨h, rfl, id, fun _ => id⟩⟩
      have hd := hr'.dead k
      rw [List.set_set] at hd
      have hobj' := hr'.obj k p _ hp hk2
      have hget : ∀ {j : Nat} {q : Pl}, (M.add p).pl[j]? = some q → (j < σ.length ∧ M.pl[j]? = some q) ∨ (j = σ.length ∧ q = p) := by
        intro j q hj
        simp only [Plan.add, List.getElem?_append, hr.len] at hj
        split at hj
        · exact .inl ⟨‹_›, hj⟩
        · have : j - σ.length = 0 := by
            have := (List.getElem?_eq_some_iff.1 hj).1
            simp at this; omega
          rw [this] at hj
          simp at hj
          exact .inr ⟨by omega, hj.symm⟩
      have hgo : ∀ {j : Nat} {x : CObj}, (σ.set k CObj.dead ++ [CObj.vec p.size (rows ++ new)])[j]? = some x → (j < σ.length ∧ (σ.set k CObj.dead)[j]? = some x) ∨ (j = σ.length ∧ x = .vec p.size (rows ++ new)) := by
        intro j x hj
        rw [List.getElem?_append] at hj
        split at hj
        · exact .inl ⟨by rename_i h; simpa using h, hj⟩
        · have : j - (σ.set k CObj.dead).length = 0 := by
            have := (List.getElem?_eq_some_iff.1 hj).1
            simp at this ⊢; omega
          rw [this] at hj
          simp at hj
          rename_i h2
          have hlen : (σ.set k CObj.dead).length = σ.length := by simp
          exact .inr ⟨by omega, hj.symm⟩
      have hother : ∀ {j : Nat} {q : Pl} {x : CObj}, M.pl[j]? = some q → (σ.set k CObj.dead)[j]? = some x → x.live = true → q.block ≠ p.block := by
        intro j q x hj hxj hl e
        have hjk : j ≠ k := by
          rintro rfl
          rw [List.getElem?_set_self hks] at hxj
          injection hxj with hxj
          subst hxj
          cases hl
        have hxj' : σ[j]? = some x := by rwa [List.getElem?_set_ne (Ne.symm hjk)] at hxj
        exact hjk (hr.inj j k q p x _ hj hp hxj' hk' hl rfl e)
      refine ⟨.vec σ.length 0 (rows.length + new.length), _, M.add p, hx'.trans hx2, ⟨by simp [Plan.add, hr.len], fun b o' ha => hr'.blk b o' ha, fun j q x hj hxj => ?_, fun j j' q q' x x' hj hj' hxj hxj' hl hl' hb => ?_, fun g cells hg => (hr'.glob g cells hg).mono hx2, hr'.kep, fun j q x hj hxj hlv => ?_⟩, ?_, hk⟩
      · rcases hgo hxj with ⟨hlt, h⟩ | ⟨rfl, rfl⟩
        · rcases hget hj with ⟨_, hq⟩ | ⟨rfl, _⟩
          · obtain ⟨h1, h2⟩ := hd.obj j q x hq h
            refine ⟨?_, h2⟩
            by_cases hl : x.live = true
            · exact h1.mono hx2 rfl (fun _ _ _ h => h)
            · cases x <;> first | trivial | simp [CObj.live] at hl
          · omega
        · rcases hget hj with ⟨h, _⟩ | ⟨_, rfl⟩
          · omega
          · exact ⟨hobj'.1.mono hx2 rfl (fun _ _ _ h => h), hobj'.2⟩
      · rcases hgo hxj with ⟨hlt, h⟩ | ⟨rfl, rfl⟩
        · rcases hget hj with ⟨_, hq⟩ | ⟨rfl, _⟩
          · rcases hgo hxj' with ⟨hlt', h'⟩ | ⟨rfl, rfl⟩
            · rcases hget hj' with ⟨_, hq'⟩ | ⟨rfl, _⟩
              · exact hd.inj j j' q q' x x' hq hq' h h' hl hl' hb
              · omega
            · rcases hget hj' with ⟨h0, _⟩ | ⟨_, rfl⟩
              · omega
              · exact absurd hb (hother hq h hl)
          · omega
        · rcases hget hj with ⟨h0, _⟩ | ⟨_, rfl⟩
          · omega
          · rcases hgo hxj' with ⟨hlt', h'⟩ | ⟨rfl, rfl⟩
            · rcases hget hj' with ⟨_, hq'⟩ | ⟨rfl, _⟩
              · exact absurd hb.symm (hother hq' h' hl')
              · omega
            · rfl
      · rcases hgo hxj with ⟨hlt, h⟩ | ⟨rfl, rfl⟩
        · rcases hget hj with ⟨_, hq⟩ | ⟨rfl, _⟩
          · exact hd.nk j q x hq h hlv
          · omega
        · rcases hget hj with ⟨h0, _⟩ | ⟨_, rfl⟩
          · omega
          · exact hr.nk k q _ hp hk' rfl
      · exact RV.vec (M := M.add p) (w := w') (k := σ.length) (off := 0) (len := rows.length + new.length) (p := p) (a := ⟨p.block, 0, none⟩) (by simp [Plan.add, ← hr.len]) (by omega) g2 (fun _ => by simp)
    · obtain ⟨hrd, hxd⟩ := hr.drewN
      have h1' : RV M w.drew (.vec k 0 rows.length) (.slice (some a) rows.length (p.cap - 0)) := .vec hp g1 g2 g3
      have hso' := src_of_vec hrd h1' hk' (Nat.le_of_eq (Nat.zero_add _))
      rw [List.drop_zero, List.take_length] at hso'
      obtain ⟨a1, c1, hv1, _, hrs, old, hfo, hszo, hrvo⟩ := hso'
      obtain ⟨an, cn, hvn, _, hns, arr, hfn, hszn, hrvn⟩ := hsrc M w.drew _ hrd (rv_drew h2)
      obtain ⟨c', hc1, hc2, hrun⟩ := run_append_grows (P := C.P) (ty := o.type) (a := some a) (c := p.cap - 0) (w := w) hu hs hti hz hlen hfo hfn (by omega) hmax hb
      rw [hexec, hv, hrun]
      simp only [Result.andThen_ok]
      have hwsz : w.drew.heap.size = w.heap.size := rfl
      rw [← hwsz]
      have hrk := hrd.dead k
      have hasz : (old ++ arr ++ Builtin.zeroCells z.cells (c' - (rows.length + new.length))).size = c' * p.size := by
        simp only [Array.size_append, zeroCells_size, hszo, hszn, hzs]
        rw [← Nat.add_mul, ← Nat.add_mul]
        congr 1; omega
      have hx2 := Ext.alloc hrk ⟨w.drew.heap.size, c', p.size⟩ (.cells (old ++ arr ++ Builtin.zeroCells z.cells (c' - (rows.length + new.length))) e)
      have hrow : ∀ r ∈ rows ++ new, r.length = p.size := fun r hr => by
        rcases List.mem_append.1 hr with h | h
        · exact hrs r h
        · exact hns r h
      have hget := append_rows (rest := Builtin.zeroCells z.cells (c' - (rows.length + new.length))) hszo hszn hrs hns (fun i j r c hi hj => (hrvo i j r c hi hj).1) (fun i j r c hi hj => (hrvn i j r c hi hj).1)
      have hr2 := hrk.alloc ⟨w.drew.heap.size, c', p.size⟩ (.cells (old ++ arr ++ Builtin.zeroCells z.cells (c' - (rows.length + new.length))) e) (.vec p.size (rows ++ new)) rfl
        ⟨rfl, by simpa using hc1, by unfold maxLen; simp only; omega, hrow, fun r hr c hc => (by
          rcases List.mem_append.1 hr with h | h
          · obtain ⟨i, hi⟩ := List.mem_iff_getElem?.1 h
            obtain ⟨j, hj⟩ := List.mem_iff_getElem?.1 hc
            exact (hrvo i j r c hi hj).2
          · obtain ⟨i, hi⟩ := List.mem_iff_getElem?.1 h
            obtain ⟨j, hj⟩ := List.mem_iff_getElem?.1 hc
            exact (hrvn i j r c hi hj).2), _, e, heap_alloc_new _ _, hasz, fun i j r c hi hj => ((hget i j r c hi hj).2.mono hx2)⟩
      refine ⟨.vec σ.length 0 (rows.length + new.length), _, _, hxd.trans hx2, hr2, ?_, hk⟩
      exact RV.vec (M := M.add ⟨w.drew.heap.size, c', p.size⟩) (k := σ.length) (off := 0) (len := rows.length + new.length) (p := ⟨w.drew.heap.size, c', p.size⟩) (a := ⟨w.drew.heap.size, 0, none⟩) (by simp [Plan.add, ← hr.len]) (by simpa using hc1) (by unfold maxLen; simp only; omega) (fun _ => by simp)
end
end Go.Cl
