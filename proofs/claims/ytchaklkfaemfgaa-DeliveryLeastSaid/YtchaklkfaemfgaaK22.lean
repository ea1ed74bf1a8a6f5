import Derived.Test.YtchaklkfaemfgaaK21
namespace Go.Cl
/-! ### append of any list, the empty one too -/
section
variable {C : Ctx} {E : Env} {σ : List CObj}

theorem run_append_none {P : Program} {t e ty : TypeId} {s n c : Nat} {a : Option Addr} {x : Value} {arr : Array Value} {w : World} (hu : ∀ w, (underlying t).run P w = .ok (.slice e) w) (hs : ∀ w, (sizeOf e).run P w = .ok s w)
    (hlen : ∀ w, (Builtin.lenOf x).run P w = .ok 0 w) (hfirst : (Builtin.firstCells s 0 x).run P w = .ok arr w) (harr : arr.size = 0) (hneed : n ≤ c) : (Builtin.append_ #[t, t] ty #[.slice a n c, x]).run P w = .ok (.slice a n c) w := by
  have : arr = #[] := Array.eq_empty_of_size_eq_zero harr
  subst this
  cases a <;> simp [Builtin.append_, hu, hs, hlen, hfirst, hneed, storeCells]

theorem Rel.addDead {M : Plan} {w : World} (hr : Rel C M σ w) (q : Pl) : Rel C (M.add q) (σ ++ [.dead]) w ∧ Ext M w (M.add q) w := by
  have hx : Ext M w (M.add q) w := ⟨⟨[q], rfl⟩, fun _ h => h, fun _ _ h => .inr h, fun _ _ => rfl, fun _ _ _ => rfl, Nat.le_refl _, rfl, rfl, rfl, fun _ h => ⟨h, rfl, id, fun _ => id⟩⟩
  have hget : ∀ {k : Nat} {p : Pl} {ob : CObj}, (M.add q).pl[k]? = some p → (σ ++ [.dead])[k]? = some ob → ob = .dead ∨ (M.pl[k]? = some p ∧ σ[k]? = some ob) := by
    intro k p ob h1 h2
    rw [List.getElem?_append] at h2
    split at h2
    · rename_i hlt
      have h1 : (M.pl ++ [q])[k]? = some p := h1
      rw [List.getElem?_append_left (by rw [hr.len]; exact hlt)] at h1
      exact .inr ⟨h1, h2⟩
    · refine .inl ?_
      have := List.mem_of_getElem? h2
      simpa using this
  refine ⟨⟨by show (M.pl ++ [q]).length = _; simp [hr.len], hr.blk, fun k p ob h1 h2 => ?_, fun k k' p p' ob ob' h1 h1' h2 h2' hl hl' hb => ?_, fun g cells hg => (hr.glob g cells hg).mono hx, hr.kep, fun k p ob h1 h2 hl => ?_⟩, hx⟩
  · rcases hget h1 h2 with rfl | ⟨g1, g2⟩
    · exact ⟨trivial, trivial⟩
    · obtain ⟨o1, o2⟩ := hr.obj k p ob g1 g2
      exact ⟨o1.mono hx rfl (fun _ _ _ h => h), by cases ob <;> exact o2⟩
  · rcases hget h1 h2 with rfl | ⟨g1, g2⟩
    · cases hl
    · rcases hget h1' h2' with rfl | ⟨g1', g2'⟩
      · cases hl'
      · exact hr.inj k k' p p' ob ob' g1 g1' g2 g2' hl hl' hb
  · rcases hget h1 h2 with rfl | ⟨g1, g2⟩
    · cases hl
    · exact hr.nk k p ob g1 g2 hl

theorem d_appu {o : Oper} {t e : TypeId} {x y : Operand} {rows new : List (List CV)} {p m : Nat} {s : Nat} {ti : TypeInfo} {z : Value} {K : CRes → List CObj → Prop} (ho : o.op = .call { callee := .builtin .append, args := #[x, y], argTypes := #[t, t] }) (hx : E.valid x) (hy : E.valid y) (ex : E.val C x = .list rows (gnn m) (gtok m p)) (hm : m = rows.length)
    (hsrc : ∀ M w v, Rel C M σ w → RV M w (E.val C y) v → Src C M w new s v) (hu : ∀ w, (underlying t).run C.P w = .ok (.slice e) w) (hs : ∀ w, (sizeOf e).run C.P w = .ok s w) (hti : ∀ w, (typeInfo e).run C.P w = .ok ti w) (hz : ∀ w, (zeroValue e).run C.P w = .ok z w) (hzs : z.cells.size = s)
    (happ : (m = 0 ∧ σ.set p .dead = σ) ∨ σ[p]? = some (gobj m)) (hrs : ∀ r ∈ rows, r.length = s) (hb : (rows.length + new.length) * ti.bytes ≤ 140737488355328) (hmax : rows.length + new.length ≤ 9223372036854775807) (rows' : List (List CV)) (m' : Nat) (he : rows ++ new = rows') (hm' : rows.length + new.length = m')
    (hk : K (.ret (.list rows' (gnn m') (gtok m' σ.length))) (σ.set p .dead ++ [gobj m'])) : Does C σ E o K := by
  subst hm he hm'
  rcases new with _ | ⟨r1, new⟩
  · -- nothing is appended
    intro M w ρ hr hh
    have h1 := hh x (by simp [ho, Op.operands, Call.operands]) hx
    have h2 := hh y (by simp [ho, Op.operands, Call.operands]) hy
    rw [ex] at h1
    have hsn := hsrc M w _ hr h2
    have hlen := hsn.lenOf
    obtain ⟨a, cap, b, off, s', vals, hv, hcap, hcmax, hnn, hn0, ha, hrl, hone, hc, hrv, htok⟩ := h1.list_inv
    obtain ⟨_, _, _, _, _, arr, hfn, hszn, _⟩ := hsn
    have hexec : (execOp ρ o).run C.P w = ((Builtin.append_ #[t, t] o.type #[ρ x, ρ y]).run C.P w).andThen fun v w => .ok (.value v) w := by
      simp [execOp, ho, resolve, invoke, builtin]
    have hrun : (execOp ρ o).run C.P w = .ok (.value (.slice a rows.length cap)) w := by
      rw [hexec, hv, run_append_none hu hs (by simpa using hlen) (by simpa using hfn) (by simpa using hszn) hcap]
      rfl
    rw [hrun]
    simp only [List.append_nil, List.length_nil, Nat.add_zero] at hk
    rcases rows with _ | ⟨r0, rows⟩
    · obtain ⟨hr1, hx1⟩ := (hr.dead p).addDead ⟨0, 0, 0⟩
      exact ⟨_, _, _, hx1, hr1, by simpa [gnn, gtok, hv] using h1.mono hx1, hk⟩
    · have happ' : σ[p]? = some (.tip (r0 :: rows).length) := by
        rcases happ with h | h
        · simp at h
        · exact h
      obtain ⟨sz, hp, ha0, hoff, hsz⟩ := htok p rfl
      obtain ⟨hx1, hr1⟩ := hr.tipNew (m := (r0 :: rows).length) hp happ' (Nat.le_refl _) hcap
      refine ⟨_, _, _, hx1, hr1, ?_, hk⟩
      have hl := h1.mono hx1
      rw [hv] at hl
      obtain ⟨a', cap', b', off', s'', vals', hv', q1, q2, q3, q4, q5, q6, q7, q8, q9, q10⟩ := hl.list_inv
      injection hv' with e1 e2 e3
      subst e1 e3
      refine RV.list' (L := (r0 :: rows).length) rfl vals' q1 q2 (by rw [q3]) (fun h => by cases h) q5 q6 q7 q8 q9 (fun k' hk' => ?_)
      obtain ⟨s3, g1, g2, g3, g4⟩ := q10 p rfl
      injection hk' with hk'
      subst hk'
      refine ⟨s3, ?_, g2, g3, g4⟩
      have e4 := hx1.get hp
      rw [g1] at e4
      rw [e4]
      simp [Plan.add, ← hr.len]
  · rcases rows with _ | ⟨r, rows⟩
    · have e : σ.set p .dead = σ := by
        rcases happ with h | h
        · exact h.2
        · refine List.ext_getElem? fun i => ?_
          rw [List.getElem?_set]
          split
          · rename_i h'; subst h'
            rw [if_pos (List.getElem?_eq_some_iff.1 h).1, h]; rfl
          · rfl
      rw [e] at hk
      exact d_append ho hx hy ex hsrc hu hs hti hz hzs (.inl ⟨rfl, rfl, rfl⟩) hrs (by simp) hb hmax (by simpa [kill, gnn, gtok, gobj] using hk)
    · have happ' : σ[p]? = some (.tip (r :: rows).length) := by
        rcases happ with h | h
        · simp at h
        · exact h
      exact d_append ho hx hy ex hsrc hu hs hti hz hzs (.inr ⟨by simp, p, rfl, happ'⟩) hrs (by simp) hb hmax hk
theorem d_appu0 {o : Oper} {t e : TypeId} {x y : Operand} {new : List (List CV)} {s : Nat} {ti : TypeInfo} {z : Value} {K : CRes → List CObj → Prop} (ho : o.op = .call { callee := .builtin .append, args := #[x, y], argTypes := #[t, t] }) (hx : E.valid x) (hy : E.valid y) (ex : E.val C x = .list [] false none)
    (hsrc : ∀ M w v, Rel C M σ w → RV M w (E.val C y) v → Src C M w new s v) (hu : ∀ w, (underlying t).run C.P w = .ok (.slice e) w) (hs : ∀ w, (sizeOf e).run C.P w = .ok s w) (hti : ∀ w, (typeInfo e).run C.P w = .ok ti w) (hz : ∀ w, (zeroValue e).run C.P w = .ok z w) (hzs : z.cells.size = s)
    (hb : new.length * ti.bytes ≤ 140737488355328) (hmax : new.length ≤ 9223372036854775807) (m' : Nat) (hm' : new.length = m')
    (hk : K (.ret (.list new (gnn m') (gtok m' σ.length))) (σ ++ [gobj m'])) : Does C σ E o K :=
  d_appu (m := 0) (p := σ.length) ho hx hy ex rfl hsrc hu hs hti hz hzs (.inl ⟨rfl, by rw [List.set_eq_of_length_le (Nat.le_refl _)]⟩) (by simp) (by simpa using hb) (by simpa using hmax) new m' (by simp) (by simpa using hm') (by rw [List.set_eq_of_length_le (Nat.le_refl _)]; exact hk)
end
end Go.Cl
