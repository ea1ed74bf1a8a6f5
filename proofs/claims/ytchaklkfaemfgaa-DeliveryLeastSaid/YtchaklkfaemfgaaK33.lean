import Derived.Test.YtchaklkfaemfgaaK32
namespace Go.Cl
/-! ### Drawn regions in which allocations may come up ahead of their turn; operations with effects under a guard -/
/-- The check: 'ix' is an order of the text's operations, the first nh of them only yield; 'fls': which of these may still come behind each change. -/
def floatBA (ops : Array Oper) (al qs : List Nat) (ix : List Nat) (nh : Nat) (ms : List Nat) (fls : List (List Nat)) : Bool :=
  Nat.beq ix.length ops.size && nodupB ix && (ix.all fun j => Nat.blt j ops.size) && ((List.range ops.size).all fun j => ix.contains j) && Nat.ble nh ops.size && Nat.beq (nh + fls.length) ops.size &&
  ((List.range ops.size).all fun j =>
    match ops[j]? with
    | none => true
    | some o =>
      (o.after.toList.all fun e => !binding e || Nat.blt e.on j) &&
      ((List.range ops.size).all fun i => !(ms.getD j 0).testBit i || o.after.toList.any fun e => binding e && (Nat.beq e.on i || (ms.getD e.on 0).testBit i))) &&
  ((List.range ops.size).all fun k =>
    match ops[ix.getD k 0]? with
    | none => true
    | some o =>
      (if Nat.ble nh k then (List.range k).all fun k' => Nat.blt k' nh || al.contains (ix.getD k 0) || qs.contains (ix.getD k' 0) || (ms.getD (ix.getD k 0) 0).testBit (ix.getD k' 0) else true) &&
      ((o.looksAt ops).all fun t => (List.range ops.size).all fun k' => Nat.beq k' k || !((ops[ix.getD k' 0]?).bind (·.dst) == some t) || (if Nat.blt k' k then (ms.getD (ix.getD k 0) 0).testBit (ix.getD k' 0) else (ms.getD (ix.getD k' 0) 0).testBit (ix.getD k 0))) &&
      (o.dst == none || (List.range k).all fun k' => !((ops[ix.getD k' 0]?).bind (·.dst) == o.dst) || (ms.getD (ix.getD k 0) 0).testBit (ix.getD k' 0))) &&
  ((List.range fls.length).all fun p => (List.range nh).all fun k => (fls.getD p []).contains k || (List.range (p + 1)).any fun p' => !qs.contains (ix.getD (nh + p') 0) && (ms.getD (ix.getD (nh + p') 0) 0).testBit (ix.getD k 0)) &&
  (al.all fun i => !qs.contains i)

structure FloatOkA (ops : Array Oper) (al qs : List Nat) (ix : List Nat) (nh : Nat) (ms : List Nat) (fls : List (List Nat)) : Prop where
  len : ix.length = ops.size
  nodup : ∀ (i j k : Nat), ix[i]? = some k → ix[j]? = some k → i = j
  lt : ∀ (k j : Nat), ix[k]? = some j → j < ops.size
  onto : ∀ j, j < ops.size → ∃ k : Nat, ix[k]? = some j
  le : nh ≤ ops.size
  fl : nh + fls.length = ops.size
  edge : ∀ j o, ops[j]? = some o → ∀ e ∈ o.after, binding e = true → e.on < j
  mask : ∀ j o, ops[j]? = some o → ∀ i, i < ops.size → (ms.getD j 0).testBit i = true → ∃ e ∈ o.after, binding e = true ∧ (e.on = i ∨ (ms.getD e.on 0).testBit i = true)
  tail : ∀ (k k' j j' : Nat), nh ≤ k' → k' < k → ix[k]? = some j → ix[k']? = some j' → j ∈ al ∨ j' ∈ qs ∨ (ms.getD j 0).testBit j' = true
  tmps : ∀ (k j : Nat) (o : Oper), ix[k]? = some j → ops[j]? = some o → ∀ t ∈ o.looksAt ops, ∀ (k' j' : Nat) (o' : Oper), k' ≠ k → ix[k']? = some j' → ops[j']? = some o' → o'.dst = some t → (k' < k ∧ (ms.getD j 0).testBit j' = true) ∨ (k < k' ∧ (ms.getD j' 0).testBit j = true)
  dsts : ∀ (k k' j j' : Nat) (o o' : Oper) (d : Nat), k' < k → ix[k]? = some j → ix[k']? = some j' → ops[j]? = some o → ops[j']? = some o' → o.dst = some d → o'.dst = some d → (ms.getD j 0).testBit j' = true
  fls : ∀ p k, p < fls.length → k < nh → k ∈ fls.getD p [] ∨ ∃ p', p' ≤ p ∧ ix.getD (nh + p') 0 ∉ qs ∧ (ms.getD (ix.getD (nh + p') 0) 0).testBit (ix.getD k 0) = true
  aq : ∀ i ∈ al, i ∉ qs

theorem floatOkA {ops : Array Oper} {al qs : List Nat} {ix : List Nat} {nh : Nat} {ms : List Nat} {fls : List (List Nat)} (h : floatBA ops al qs ix nh ms fls = true) : FloatOkA ops al qs ix nh ms fls := by
  unfold floatBA at h
  simp only [Bool.and_eq_true] at h
  obtain ⟨⟨⟨⟨⟨⟨⟨⟨⟨h1, h2⟩, h3⟩, h4⟩, h5⟩, h6⟩, h7⟩, h8⟩, h9⟩, h10⟩ := h
  have hlen := Nat.eq_of_beq_eq_true h1
  simp only [List.all_eq_true] at h3 h4 h7 h8 h9 h10
  have getD_of : ∀ {k j : Nat}, ix[k]? = some j → ix.getD k 0 = j ∧ k < ops.size := fun {k j} hk => ⟨by simp [List.getD_eq_getElem?_getD, hk], by rw [← hlen]; exact (List.getElem?_eq_some_iff.1 hk).1⟩
  have get7 : ∀ j o, ops[j]? = some o → _ := fun j o ho => by
    have hj : j < ops.size := (Array.getElem?_eq_some_iff.1 ho).1
    have := h7 j (by simpa using hj)
    rw [ho] at this
    simp only [Bool.and_eq_true] at this
    exact this
  have get8 : ∀ k j o, ix[k]? = some j → ops[j]? = some o → _ := fun k j o hk ho => by
    have := h8 k (by simpa using (getD_of hk).2)
    rw [(getD_of hk).1, ho] at this
    simp only [Bool.and_eq_true] at this
    exact this
  refine ⟨hlen, nodupB_get h2, fun k j hk => by have := h3 j (List.mem_of_getElem? hk); simpa [Nat.blt_eq] using this, fun j hj => ?_, Nat.le_of_ble_eq_true h5, Nat.eq_of_beq_eq_true h6, fun j o ho e he hb => ?_, fun j o ho i hi hm => ?_, fun k k' j j' hn hlt hk hk' => ?_, fun k j o hk ho t ht k' j' o' hne hk' ho' hd => ?_, fun k k' j j' o o' d hlt hk hk' ho ho' hd hd' => ?_, fun p k hp hk => ?_, fun i hi => by simpa using h10 i hi⟩
  · have := h4 j (by simpa using hj)
    have hm : j ∈ ix := by simpa using this
    exact List.mem_iff_getElem?.1 hm
  · have := (get7 j o ho).1
    rw [List.all_eq_true] at this
    have := this e (by simpa using he)
    simp only [hb, Bool.not_true, Bool.false_or] at this
    simpa [Nat.blt_eq] using this
  · have := (get7 j o ho).2
    rw [List.all_eq_true] at this
    have := this i (by simpa using hi)
    simp only [hm, Bool.not_true, Bool.false_or, List.any_eq_true, Bool.and_eq_true, Bool.or_eq_true] at this
    obtain ⟨e, he, hb, hx⟩ := this
    refine ⟨e, by simpa using he, hb, ?_⟩
    rcases hx with hx | hx
    · exact .inl (Nat.eq_of_beq_eq_true hx)
    · exact .inr hx
  · have ho : ops[j]? = some (ops[j]'(by have := h3 j (List.mem_of_getElem? hk); simpa [Nat.blt_eq] using this)) := by simp
    have := (get8 k j _ hk ho).1.1
    rw [if_pos (by simp [Nat.ble_eq]; omega), List.all_eq_true] at this
    have := this k' (by simpa using hlt)
    rw [(getD_of hk').1] at this
    have e1 : Nat.blt k' nh = false := Bool.eq_false_iff.2 fun hb => by simp [Nat.blt_eq] at hb; omega
    simp only [e1, Bool.false_or, Bool.or_eq_true] at this
    rcases this with (h | h) | h
    · exact .inl (by simpa using h)
    · exact .inr (.inl (by simpa using h))
    · exact .inr (.inr h)
  · have := (get8 k j o hk ho).1.2
    rw [List.all_eq_true] at this
    have := this t ht
    rw [List.all_eq_true] at this
    have := this k' (by simpa using (getD_of hk').2)
    rw [(getD_of hk').1] at this
    have e1 : Nat.beq k' k = false := Bool.eq_false_iff.2 fun hb => hne (Nat.eq_of_beq_eq_true hb)
    simp only [e1, ho', Option.bind_some, hd, Bool.false_or, beq_self_eq_true, Bool.not_true] at this
    by_cases hlt : k' < k
    · rw [if_pos (by simpa [Nat.blt_eq] using hlt)] at this
      exact .inl ⟨hlt, this⟩
    · rw [if_neg (by simp [Nat.blt_eq]; omega)] at this
      exact .inr ⟨by omega, this⟩
  · have := (get8 k j o hk ho).2
    simp only [hd, Bool.or_eq_true, List.all_eq_true, List.mem_range] at this
    rcases this with h | h
    · cases h
    · have := h k' hlt
      rw [(getD_of hk').1] at this
      simp only [ho', Option.bind_some, hd', beq_self_eq_true, Bool.not_true, Bool.false_eq_true, false_or] at this
      exact this
  · have := h9 p (by simpa using hp) k (by simpa using hk)
    simp only [Bool.or_eq_true, List.any_eq_true, List.mem_range, Bool.and_eq_true] at this
    rcases this with h | ⟨p', hp', hq, h⟩
    · exact .inl (by simpa using h)
    · exact .inr ⟨p', by omega, by simpa using hq, h⟩


theorem RV.grow {M M' : Plan} {w : World} (hpl : ∃ l, M'.pl = M.pl ++ l) (hat : ∀ b o, M.at b o → M'.at b o) {c : CV} {v : Value} (hr : RV M w c v) : RV M' w c v := by
  have get : ∀ {k : Nat} {p : Pl}, M.pl[k]? = some p → M'.pl[k]? = some p := fun {k p} hk => by
    obtain ⟨l, hl⟩ := hpl
    rw [hl, List.getElem?_append_left (List.getElem?_eq_some_iff.1 hk).1]
    exact hk
  induction hr with
  | val v => exact .val v
  | agg h1 h2 _ ih => exact .agg h1 h2 ih
  | tup h1 _ ih => exact .tup h1 ih
  | list vals h1 h2 h3 h4 h5 h6 h7 h8 _ h10 ih =>
    refine .list vals h1 h2 h3 h4 h5 h6 h7 (fun i j r c hi hj => ?_) ih (fun k hk => ?_)
    · obtain ⟨ha, hc⟩ := h8 i j r c hi hj
      exact ⟨hat _ _ ha, hc⟩
    · obtain ⟨s', hp, hrest⟩ := h10 k hk
      exact ⟨s', get hp, hrest⟩
  | ptr hk => exact .ptr (get hk)
  | cptr vals h1 h2 _ ih =>
    refine .cptr vals h1 (fun j c hj => ?_) ih
    obtain ⟨ha, hc⟩ := h2 j c hj
    exact ⟨hat _ _ ha, hc⟩
  | eptr hk => exact .eptr (get hk)
  | vec hk h1 h2 h3 => exact .vec (get hk) h1 h2 h3
  | map hk => exact .map (get hk)
def Plan.adopt (M : Plan) (q : Nat) : Plan := { pl := M.pl ++ [⟨q, 0, 0⟩], full := M.full, cell := M.cell, keep := fun b => M.keep b ∧ b ≠ q }
def Plan.keepNew (M : Plan) (q : Nat) : Plan := { M with keep := fun b => M.keep b ∨ b = q }
theorem Rel.keepNew {C : Ctx} {M : Plan} {σ : List CObj} {w : World} (hr : Rel C M σ w) (ob : Obj) : Ext M w (M.keepNew w.heap.size) (w.alloc ob) ∧ Rel C (M.keepNew w.heap.size) σ (w.alloc ob) := by
  have hx : Ext M w (M.keepNew w.heap.size) (w.alloc ob) := ⟨⟨[], by simp [Plan.keepNew]⟩, fun _ h => h, fun _ _ h => .inr h, fun b h => heap_alloc_lt w ob (hr.blk b 0 (.inl h)), fun b o' h => cell?_of_same (heap_alloc_lt w ob (hr.blk b o' (.inr h))), by rw [World.size_alloc]; omega, rfl, rfl, rfl, fun b h => ⟨.inl h, heap_alloc_lt w ob (hr.kep b h), id, fun _ f => f⟩⟩
  refine ⟨hx, hr.len, fun b o' ha => ?_, fun k p x hk hs => ?_, hr.inj, fun g cells hg => (hr.glob g cells hg).mono hx, fun b h => ?_, fun k p x hk hs hl h => ?_⟩
  · have := hr.blk b o' ha
    rw [World.size_alloc]; omega
  · obtain ⟨h1, h2⟩ := hr.obj k p x hk hs
    refine ⟨?_, h2⟩
    by_cases hl : x.live = true
    · exact h1.mono hx (heap_alloc_lt w ob (h1.lt hl)) (fun _ _ _ h => h)
    · cases x <;> first | trivial | simp [CObj.live] at hl
  · rw [World.size_alloc]
    rcases h with h | h
    · have := hr.kep b h; omega
    · omega
  · rcases h with h | h
    · exact hr.nk k p x hk hs hl h
    · have := (hr.obj k p x hk hs).1.lt hl
      omega
theorem Rel.adopt {C : Ctx} {M : Plan} {σ : List CObj} {w : World} (hr : Rel C M σ w) {q : Nat} {z : Value} {t : TypeId} (hk : M.keep q) (hh : w.heap[q]? = some (.cells z.cells t (0, 0))) (h1 : ¬ M.full q) (h2 : ∀ x, ¬ M.cell q x) (hc1 : constOk z = true) (hc2 : (cvOf z).one = true ∨ ∃ cs, cvOf z = .agg cs) :
    Rel C (M.adopt q) (σ ++ [.box (cvOf z).cells]) w ∧ ∀ c v, RV M w c v → RV (M.adopt q) w c v := by
  have hg : ∀ c v, RV M w c v → RV (M.adopt q) w c v := fun c v h => RV.grow (M := M) (M' := M.adopt q) ⟨[⟨q, 0, 0⟩], rfl⟩ (fun _ _ h => h) h
  have hget : ∀ {k : Nat} {p : Pl}, (M.adopt q).pl[k]? = some p → (k < σ.length ∧ M.pl[k]? = some p) ∨ (k = σ.length ∧ p = ⟨q, 0, 0⟩) := fun {k p} hk' => by
    simp only [Plan.adopt, List.getElem?_append, hr.len] at hk'
    split at hk'
    · exact .inl ⟨‹_›, hk'⟩
    · have : k - σ.length = 0 := by
        have := (List.getElem?_eq_some_iff.1 hk').1
        simp at this; omega
      rw [this] at hk'
      simp at hk'
      exact .inr ⟨by omega, hk'.symm⟩
  have hgo : ∀ {k : Nat} {x : CObj}, (σ ++ [.box (cvOf z).cells])[k]? = some x → k < σ.length → σ[k]? = some x := fun {k x} hk' hlt => by
    rwa [List.getElem?_append_left hlt] at hk'
  have hgn : ∀ {x : CObj}, (σ ++ [.box (cvOf z).cells])[σ.length]? = some x → x = .box (cvOf z).cells := fun {x} hk' => by simp at hk'; exact hk'.symm
  refine ⟨⟨by simp [Plan.adopt, hr.len], hr.blk, fun k p x hp hs => ?_, fun k k' p p' x x' hp hp' hs hs' hl hl' hb => ?_, fun g cells hgg => hg _ _ (hr.glob g cells hgg), fun b hb => hr.kep b hb.1, fun k p x hp hs hl hkk => ?_⟩, hg⟩
  · rcases hget hp with ⟨hlt, hp⟩ | ⟨rfl, rfl⟩
    · obtain ⟨g1, g2⟩ := hr.obj k p x hp (hgo hs hlt)
      refine ⟨?_, g2⟩
      cases x with
      | dead => trivial
      | box cells =>
        obtain ⟨arr, ty, e1, e2, e3, e4⟩ := g1
        exact ⟨arr, ty, e1, e2, e3, fun i c hi => hg _ _ (e4 i c hi)⟩
      | tip n => exact g1
      | vec s rows =>
        obtain ⟨e0, e1, e2, e3, e4, arr, ty, e5, e6, e7⟩ := g1
        exact ⟨e0, e1, e2, e3, e4, arr, ty, e5, e6, fun i j r c hi hj => hg _ _ (e7 i j r c hi hj)⟩
      | map es =>
        obtain ⟨ents, clock, e1, e2, e3⟩ := g1
        exact ⟨ents, clock, e1, e2, fun i x hi => by
          obtain ⟨e, q1, q2, q3, q4⟩ := e3 i x hi
          exact ⟨e, q1, hg _ _ q2, hg _ _ q3, q4⟩⟩
    · obtain rfl := hgn hs
      obtain ⟨e1, e2, e3⟩ := (rv_cvOf (M := M.adopt q) (w := w) hc1).cells hc2
      exact ⟨⟨z.cells, t, hh, e1, e2, e3⟩, h1, h2⟩
  · rcases hget hp with ⟨hlt, hp⟩ | ⟨rfl, rfl⟩
    · rcases hget hp' with ⟨hlt', hp'⟩ | ⟨rfl, rfl⟩
      · exact hr.inj k k' p p' x x' hp hp' (hgo hs hlt) (hgo hs' hlt') hl hl' hb
      · exact absurd (hb ▸ hk) (hr.nk k p x hp (hgo hs hlt) hl)
    · rcases hget hp' with ⟨hlt', hp'⟩ | ⟨rfl, rfl⟩
      · exact absurd (hb ▸ hk) (hr.nk k' p' x' hp' (hgo hs' hlt') hl')
      · rfl
  · rcases hget hp with ⟨hlt, hp⟩ | ⟨rfl, rfl⟩
    · exact hr.nk k p x hp (hgo hs hlt) hl hkk.1
    · exact hkk.2 rfl
def Env.hideP (E : Env) (p : Nat → Prop) : Env := { f := E.f, ok := fun t => ¬ p t ∧ E.ok t, un := fun t => ¬ p t ∧ E.un t }
theorem FRel.putH {M M' : Plan} {w w' : World} {n : Nat} {E E' : Env} {a : Act} {d : Option Nat} {c' : CV} {v : Value} {g : Prop} {p p' : Nat → Prop} (hf : FRel M w n (E.hideP p) a) (hx : Ext M w M' w') (hd : ∀ t, d = some t → t < n) (hv : g → RV M' w' c' v) (hu : ¬ g → v = undef)
    (hag : ∀ t, ¬ p' t → E'.agree t (E.put d c' g)) (hp : ∀ t, ¬ p' t → d ≠ some t → ¬ p t) : FRel M' w' n (E'.hideP p') (a.put d v) := by
  have hput := (hf.mono hx).put (d := d) (c := c') (v := v) (g := g) hd hv hu
  refine ⟨hput.defers, hput.size, fun t ⟨h1, h2⟩ => ?_, fun t ⟨h1, h2⟩ => ?_⟩
  · have hg := hag t h1
    show RV M' w' (E'.f t) _
    rw [hg.2.1] at h2
    rw [hg.1]
    cases d with
    | none => exact hput.rv t ⟨hp t h1 (by simp), h2⟩
    | some d =>
      have h3 := hput.rv t
      by_cases htd : t = d
      · subst htd
        rw [Env.put_ok, if_pos rfl] at h2
        rw [Env.put_f, if_pos rfl]
        have := h3 (by rw [Env.put_ok, if_pos rfl]; exact h2)
        rwa [Env.put_f, if_pos rfl] at this
      · rw [Env.put_ok, if_neg htd] at h2
        rw [Env.put_f, if_neg htd]
        have := h3 (by rw [Env.put_ok, if_neg htd]; exact ⟨hp t h1 (by simpa using fun e => htd e.symm), h2⟩)
        rwa [Env.put_f, if_neg htd] at this
  · have hg := hag t h1
    rw [hg.2.2] at h2
    cases d with
    | none => exact hput.un t ⟨hp t h1 (by simp), h2⟩
    | some d =>
      have h3 := hput.un t
      by_cases htd : t = d
      · subst htd
        rw [Env.put_un, if_pos rfl] at h2
        exact h3 (by rw [Env.put_un, if_pos rfl]; exact h2)
      · rw [Env.put_un, if_neg htd] at h2
        exact h3 (by rw [Env.put_un, if_neg htd]; exact ⟨hp t h1 (by simpa using fun e => htd e.symm), h2⟩)
section
variable {C : Ctx} {n : Nat} {σ : List CObj} {ops : Array Oper}
def GuardOp (C : Ctx) (ops : Array Oper) (o : Oper) (E : Env) (σ : List CObj) (K : CV → Prop → List CObj → Prop) : Prop :=
  ∃ j t want b c0, o.guard = some (j, want) ∧ (ops[j]?).bind (·.dst) = some t ∧ E.ok t ∧ E.f t = .val (.bool b) ∧ (b = want → Does C σ E o fun r σ' => match r with | .ret c => K c (b = want) σ' | .pan _ => False) ∧ (¬ b = want → K c0 (b = want) σ)
def CTailA (C : Ctx) (ops : Array Oper) (al qs : List Nat) (Q : CExit → Env → List CObj → Prop) (S : List (List CObj → Prop)) : List (Nat × List Nat) → Env → List CObj → Prop
  | [], E, σ => Q .normal E σ
  | (i, fl) :: l, E, σ => ∃ o, ops[i]? = some o ∧ ((qs.contains i = true ∧ ∃ c g, (∀ σ', HeadOp C σ' ops o E c g) ∧ CTailA C ops al qs Q S l (E.put o.dst c g) σ) ∨ (qs.contains i = false ∧ ((al.contains i = false ∧ ((TailOp C ops o E σ fun c g σ' => Floats S σ' fl ∧ CTailA C ops al qs Q S l (E.put o.dst c g) σ') ∨ (GuardOp C ops o E σ fun c g σ' => Floats S σ' fl ∧ CTailA C ops al qs Q S l (E.put o.dst c g) σ'))) ∨
      (o.guard = none ∧ ∃ t z, o.op = .alloc t ∧ (∀ w, (zeroValue t).run C.P w = .ok z w) ∧ constOk z = true ∧ ((cvOf z).one = true ∨ ∃ cs, cvOf z = .agg cs) ∧ Floats S (σ ++ [.box (cvOf z).cells]) fl ∧ CTailA C ops al qs Q S l (E.put o.dst (.ptr σ.length 0) True) (σ ++ [.box (cvOf z).cells])))))
/-- The allocations that may come up early. -/
def AZ (C : Ctx) (ops : Array Oper) : List Nat → Prop
  | [] => True
  | i :: l => (∃ o t z d, ops[i]? = some o ∧ o.op = .alloc t ∧ o.guard = none ∧ o.dst = some d ∧ ∀ w, (zeroValue t).run C.P w = .ok z w) ∧ AZ C ops l
theorem AZ.get : ∀ {al : List Nat}, AZ C ops al → ∀ i ∈ al, ∃ o t z d, ops[i]? = some o ∧ o.op = .alloc t ∧ o.guard = none ∧ o.dst = some d ∧ ∀ w, (zeroValue t).run C.P w = .ok z w
  | [], _, i, h => by cases h
  | x :: l, ⟨h1, h2⟩, i, h => by
    rcases List.mem_cons.1 h with rfl | h
    · exact h1
    · exact AZ.get h2 i h
/-- An allocation that came up ahead of its turn: its block is kept. -/
def Early (C : Ctx) (M0 M : Plan) (w : World) (a : Act) (ops : Array Oper) (i q : Nat) : Prop :=
  ∃ o t z d, ops[i]? = some o ∧ o.op = .alloc t ∧ (∀ w, (zeroValue t).run C.P w = .ok z w) ∧ o.dst = some d ∧ M.keep q ∧ ¬ M0.keep q ∧ w.heap[q]? = some (.cells z.cells t (0, 0)) ∧ ¬ M.full q ∧ (∀ x, ¬ M.cell q x) ∧ a.tmps.getD d undef = .pointer (some ⟨q, 0, none⟩)
theorem Early.step {M0 M M' : Plan} {w w' : World} {a : Act} {i q : Nat} {d' : Option Nat} {v : Value} (h : Early C M0 M w a ops i q) (hx : Ext M w M' w') (hs : ∀ d o, ops[i]? = some o → o.dst = some d → d' ≠ some d) : Early C M0 M' w' (a.put d' v) ops i q := by
  obtain ⟨o, t, z, d, h1, h2, h3, h4, h5, h6, h7, h8, h9, h10⟩ := h
  obtain ⟨k1, k2, k3, k4⟩ := hx.kept q h5
  refine ⟨o, t, z, d, h1, h2, h3, h4, k1, h6, k2.trans h7, fun f => h8 (k3 f), fun x f => h9 x (k4 x f), ?_⟩
  have hne := hs d o h1 h4
  cases d' with
  | none => exact h10
  | some d' =>
    have : d' ≠ d := fun e => hne (by rw [e])
    rw [← h10]
    simp [Act.put, Array.getElem?_setIfInBounds_ne this]
theorem anc_floatA {al qs : List Nat} {ix : List Nat} {nh : Nat} {ms : List Nat} {fls : List (List Nat)} (hok : FloatOkA ops al qs ix nh ms fls) {listed : Array Bool} (hcl : ∀ k o, ops[k]? = some o → listed.getD k false = true → ∀ e ∈ o.after, binding e = true → listed.getD e.on false = true) :
    ∀ (j : Nat) (o : Oper), ops[j]? = some o → (∀ e ∈ o.after, binding e = true → listed.getD e.on false = true) → ∀ i, i < ops.size → (ms.getD j 0).testBit i = true → listed.getD i false = true := by
  intro j
  induction j using Nat.strongRecOn with
  | _ j ih =>
    intro o ho he i hi hm
    obtain ⟨e, hmem, hb, hx⟩ := hok.mask j o ho i hi hm
    rcases hx with hx | hx
    · subst hx; exact he e hmem hb
    · have hlt := hok.edge j o ho e hmem hb
      have hj : j < ops.size := (Array.getElem?_eq_some_iff.1 ho).1
      have ho' : ops[e.on]? = some (ops[e.on]'(by omega)) := by simp [show e.on < ops.size by omega]
      exact ih e.on hlt _ ho' (hcl _ _ ho' (he e hmem hb)) i hi hx

/-- Slots of operations that came up ahead of their turn. -/
def ES (ops : Array Oper) (ix : List Nat) (m : Nat) (listed : Array Bool) (t : Nat) : Prop := ∃ k i o, m ≤ k ∧ ix[k]? = some i ∧ listed.getD i false = true ∧ ops[i]? = some o ∧ o.dst = some t
theorem any_floatA {al qs : List Nat} {ix : List Nat} {nh : Nat} {ms : List Nat} {fls : List (List Nat)} (hok : FloatOkA ops al qs ix nh ms fls) {Q : CExit → Env → List CObj → Prop} {E : Env} {hs : List (Oper × CV × Prop)} (hhl : hs.length = nh) (hhs : ∀ (k i : Nat), k < nh → ix[k]? = some i → ∃ o c g, hs[k]? = some (o, c, g) ∧ ops[i]? = some o)
    (hz : AZ C ops al) (huniq : ∀ i ∈ al, ∀ (i' : Nat) (o o' : Oper) (d : Nat), ops[i]? = some o → ops[i']? = some o' → o.dst = some d → o'.dst = some d → i' = i) (hd : ∀ o ∈ ops, ∀ d, o.dst = some d → d < n) {S : List (List CObj → Prop)} (hS : ∀ (k : Nat) (o : Oper) (c : CV) (g : Prop) σ', hs[k]? = some (o, c, g) → (S.getD k fun _ => True) σ' → HeadOp C σ' ops o (envOf (fun j => decide (j < k)) 0 hs E) c g) (M0 : Plan) (w0 : World) :
    ∀ (m : Nat) (fuel : Nat) (j : Nat) (ts : List (Oper × CV × Prop)) (listed : Array Bool) (u : List Nat) (σ : List CObj) (a : Act) (w : World) (M : Plan) (qf : Nat → Nat), fuel + (ops.size - (nh + j)) = m → listed.size = ops.size → u.length = fuel → (∀ i, i < ops.size → listed.getD i false = false → i ∈ u) → (∀ i, i ∈ u → i < ops.size ∧ listed.getD i false = false) → u.Nodup →
      (∀ k o, ops[k]? = some o → listed.getD k false = true → ∀ e ∈ o.after, binding e = true → listed.getD e.on false = true) →
      nh + j ≤ ops.size → ts.length = j → (∀ (k i : Nat), nh ≤ k → k < nh + j → ix[k]? = some i → (listed.getD i false = true ∨ i ∈ qs) ∧ ∃ o c g, ts[k - nh]? = some (o, c, g) ∧ ops[i]? = some o) →
      (∀ (k i : Nat) (o : Oper) (c : CV) (g : Prop), nh ≤ k → k < nh + j → ix[k]? = some i → i ∈ qs → ts[k - nh]? = some (o, c, g) → ∀ σ', HeadOp C σ' ops o (envOf (fun j => decide (j < k)) 0 (hs ++ ts) E) c g) →
      (∀ (k i : Nat), nh + j ≤ k → ix[k]? = some i → listed.getD i false = true → i ∈ al ∧ Early C M0 M w a ops i (qf k)) →
      (∀ (k k' i i' : Nat), nh + j ≤ k → nh + j ≤ k' → ix[k]? = some i → ix[k']? = some i' → listed.getD i false = true → listed.getD i' false = true → qf k = qf k' → k = k') →
      (∀ (k i : Nat) (o : Oper) (c : CV) (g : Prop), k < nh → ix[k]? = some i → listed.getD i false = false → hs[k]? = some (o, c, g) → HeadOp C σ ops o (envOf (fun j => decide (j < k)) 0 hs E) c g) →
      CTailA C ops al qs Q S (((List.range (ops.size - nh)).map fun p => (ix.getD (nh + p) 0, fls.getD p [])).drop j) (envOf (fun _ => true) 0 (hs ++ ts) E) σ →
      Ext M0 w0 M w → Rel C M σ w → FRel M w n ((envOf (fun k => listed.getD (ix.getD k 0) false) 0 (hs ++ ts) E).hideP (ES ops ix (nh + j) listed)) a → wpAny C.P .any ops (Lift C n Q M0 w0) fuel listed a w := by
  have ixD : ∀ {k i : Nat}, ix[k]? = some i → ix.getD k 0 = i := fun {k i} h => by simp [List.getD_eq_getElem?_getD, h]
  have ixk : ∀ k, k < ops.size → ∃ i : Nat, ix[k]? = some i := fun k hk => ⟨ix[k]'(by rw [hok.len]; exact hk), by simp⟩
  have hclosed : ∀ {listed : Array Bool}, (∀ k o, ops[k]? = some o → listed.getD k false = true → ∀ e ∈ o.after, binding e = true → listed.getD e.on false = true) → ∀ i j : Nat, i < ops.size → j < ops.size → (ms.getD j 0).testBit i = true → listed.getD j false = true → listed.getD i false = true := fun {listed} hcl i j hi hj hm hl => by
    have ho : ops[j]? = some ops[j] := by simp [hj]
    exact anc_floatA hok hcl j _ ho (hcl j _ ho hl) i hi hm
  intro m
  induction m using Nat.strongRecOn with
  | _ m IH =>
  intro fuel j ts listed u σ a w M qf hm hsz hu hun hun' hnd hcl hjs hts htl hqt hea hinj hst hct hx hr hf
  have hdrop : ∀ {i : Nat}, nh + j < ops.size → ix[nh + j]? = some i → (((List.range (ops.size - nh)).map fun p => (ix.getD (nh + p) 0, fls.getD p [])).drop j) = (i, fls.getD j []) :: (((List.range (ops.size - nh)).map fun p => (ix.getD (nh + p) 0, fls.getD p [])).drop (j + 1)) := fun {i} hlt hk => by
    rw [List.drop_eq_getElem_cons (by simp; omega)]
    rw [List.getElem_map, List.getElem_range, ixD hk]
  have hts1 : ∀ (L : Nat → Bool) (o : Oper) (c : CV) (g : Prop), envOf L 0 (hs ++ (ts ++ [(o, c, g)])) E = match L (nh + j) with | true => (envOf L 0 (hs ++ ts) E).put o.dst c g | false => envOf L 0 (hs ++ ts) E := fun L o c g => by
    rw [← List.append_assoc, envOf_app]
    have : 0 + (hs ++ ts).length = nh + j := by simp [hhl, hts]
    rw [this]; rfl
  -- an operation with a quiet turn: it may come up later
  have hqt1 : ∀ (o1 : Oper) (c1 : CV) (g1 : Prop), (nh + j < ops.size → ∀ i : Nat, ix[nh + j]? = some i → i ∈ qs → ∀ σ', HeadOp C σ' ops o1 (envOf (fun _ => true) 0 (hs ++ ts) E) c1 g1) → nh + j < ops.size → ∀ (k i : Nat) (o : Oper) (c : CV) (g : Prop), nh ≤ k → k < nh + (j + 1) → ix[k]? = some i → i ∈ qs → (ts ++ [(o1, c1, g1)])[k - nh]? = some (o, c, g) → ∀ σ', HeadOp C σ' ops o (envOf (fun j => decide (j < k)) 0 (hs ++ (ts ++ [(o1, c1, g1)])) E) c g := fun o1 c1 g1 hnew hlt k i o c g h1 h2 h3 h4 h5 σ' => by
    rw [hts1]
    have e : decide (nh + j < k) = false := by simp; omega
    simp only [e]
    by_cases hkk : k = nh + j
    · subst hkk
      rw [show nh + j - nh = ts.length by omega] at h5
      have h6 : some (o1, c1, g1) = some (o, c, g) := by rw [← h5, List.getElem?_append_right (Nat.le_refl _), Nat.sub_self]; rfl
      cases h6
      have he : envOf (fun j' => decide (j' < nh + j)) 0 (hs ++ ts) E = envOf (fun _ => true) 0 (hs ++ ts) E := envOf_congr _ _ _ fun k hk => by
        simp [hhl, hts] at hk
        simp; omega
      rw [he]
      exact hnew hlt i h3 h4 σ'
    · rw [List.getElem?_append_left (by omega)] at h5
      exact hqt k i o c g h1 (by omega) h3 h4 h5 σ'
  by_cases hquiet : ∃ i, ix[nh + j]? = some i ∧ i ∈ qs
  · obtain ⟨i, hi, hiq⟩ := hquiet
    have hlt : nh + j < ops.size := by rw [← hok.len]; exact (List.getElem?_eq_some_iff.1 hi).1
    have hno : listed.getD i false = false := by
      cases h : listed.getD i false with
      | false => rfl
      | true => exact absurd hiq (hok.aq i (hea _ i (Nat.le_refl _) hi h).1)
    rw [hdrop hlt hi] at hct
    obtain ⟨o, ho, hct⟩ := hct
    rcases hct with ⟨_, c, g, hop, hct⟩ | ⟨hq, _⟩
    · refine IH (fuel + (ops.size - (nh + (j + 1)))) (by omega) fuel (j + 1) (ts ++ [(o, c, g)]) listed u σ a w M qf rfl hsz hu hun hun' hnd hcl (by omega) (by simp [hts]) (fun k' i' h1 h2 h3 => ?_) (hqt1 o c g (fun _ _ _ _ σ' => hop σ') hlt) (fun k' i' h1 h3 h4 => hea k' i' (by omega) h3 h4) (fun k k' i i' h1 h2 => hinj k k' i i' (by omega) (by omega)) hst (by rw [hts1]; exact hct) hx hr ?_
      · by_cases hkk : k' = nh + j
        · subst hkk
          rw [hi] at h3
          injection h3 with h3
          subst h3
          refine ⟨.inr hiq, o, c, g, ?_, ho⟩
          rw [show nh + j - nh = ts.length by omega]
          simp
        · obtain ⟨g1, o', c', g', g2, g3⟩ := htl k' i' h1 (by omega) h3
          refine ⟨g1, o', c', g', ?_, g3⟩
          rw [List.getElem?_append_left (by omega)]; exact g2
      · rw [hts1]
        have : listed.getD (ix.getD (nh + j) 0) false = false := by rw [ixD hi]; exact hno
        simp only [this]
        have hES : ∀ t', ¬ ES ops ix (nh + (j + 1)) listed t' → ¬ ES ops ix (nh + j) listed t' := fun t' h ⟨k', i', o', q1, q2, q3, q4, q5⟩ => by
          by_cases hkk : k' = nh + j
          · subst hkk
            rw [hi] at q2
            injection q2 with q2
            subst q2
            rw [hno] at q3
            cases q3
          · exact h ⟨k', i', o', by omega, q2, q3, q4, q5⟩
        exact ⟨hf.defers, hf.size, fun t ht => hf.rv t ⟨hES t ht.1, ht.2⟩, fun t ht => hf.un t ⟨hES t ht.1, ht.2⟩⟩
    · simp [hiq] at hq
  have hnq : ∀ i : Nat, ix[nh + j]? = some i → i ∉ qs := fun i hi hiq => hquiet ⟨i, hi, hiq⟩
  by_cases hrev : ∃ i, ix[nh + j]? = some i ∧ listed.getD i false = true
  · -- the next of the tail came up ahead of its turn: its object is taken in
    obtain ⟨i, hi, hiL⟩ := hrev
    have hlt : nh + j < ops.size := by rw [← hok.len]; exact (List.getElem?_eq_some_iff.1 hi).1
    obtain ⟨hal, o, t, z, d, ho, hot, hzz, hod, hk1, hk2, hhp, hq1, hq2, htm⟩ := hea _ i (Nat.le_refl _) hi hiL
    rw [hdrop hlt hi] at hct
    obtain ⟨o', ho', hct⟩ := hct
    rw [ho] at ho'
    injection ho' with ho'
    subst ho'
    rcases hct with ⟨hqc, _⟩ | ⟨_, ⟨hno, _⟩ | ⟨hg, t', z', hot', hzz', hc1, hc2, hfl, hct⟩⟩
    · exact absurd (by simpa using hqc) (hnq i hi)
    · simp [hal] at hno
    · rw [hot] at hot'
      injection hot' with hot'
      subst hot'
      have hzeq : z = z' := by
        have h1 := hzz w
        rw [hzz' w] at h1
        injection h1 with h1 _
        exact h1.symm
      subst hzeq
      obtain ⟨hr1, hgrow⟩ := hr.adopt hk1 hhp hq1 hq2 hc1 hc2
      have hx1 : Ext M0 w0 (M.adopt (qf (nh + j))) w := by
        obtain ⟨l, hl⟩ := hx.pl
        exact ⟨⟨l ++ [⟨qf (nh + j), 0, 0⟩], by rw [← List.append_assoc, ← hl]; rfl⟩, hx.full, hx.cell, hx.same, hx.sameC, hx.size, hx.os, hx.tape, hx.output, fun b hb => by
          obtain ⟨k1, k2, k3, k4⟩ := hx.kept b hb
          exact ⟨⟨k1, fun e => hk2 (e ▸ hb)⟩, k2, k3, k4⟩⟩
      refine IH (fuel + (ops.size - (nh + (j + 1)))) (by omega) fuel (j + 1) (ts ++ [(o, .ptr σ.length 0, True)]) listed u _ a w _ qf rfl hsz hu hun hun' hnd hcl (by omega) (by simp [hts]) (fun k' i' h1 h2 h3 => ?_) (hqt1 _ _ _ (fun _ i' hi' hiq => absurd hiq (hnq i' hi')) hlt) (fun k' i' h1 h3 h4 => ?_) (fun k k' i i' h1 h2 => hinj k k' i i' (by omega) (by omega)) (fun k' i' o' c' g' h1 h2 h3 h4 => ?_) (by rw [hts1]; exact hct) hx1 hr1 ?_
      · by_cases hkk : k' = nh + j
        · subst hkk
          rw [hi] at h3
          injection h3 with h3
          subst h3
          refine ⟨.inl hiL, o, .ptr σ.length 0, True, ?_, ho⟩
          rw [show nh + j - nh = ts.length by omega]
          simp
        · obtain ⟨g1, o', c', g', g2, g3⟩ := htl k' i' h1 (by omega) h3
          refine ⟨g1, o', c', g', ?_, g3⟩
          rw [List.getElem?_append_left (by omega)]; exact g2
      · obtain ⟨e0, o1, t1, z1, d1, e1, e2, e3, e4, e5, e6, e7, e8, e9, e10⟩ := hea k' i' (by omega) h3 h4
        refine ⟨e0, o1, t1, z1, d1, e1, e2, e3, e4, ⟨e5, fun e => ?_⟩, e6, e7, e8, e9, e10⟩
        have := hinj k' (nh + j) i' i (by omega) (Nat.le_refl _) h3 hi h4 hiL e
        omega
      · rcases hok.fls j k' (by have := hok.fl; omega) h1 with hin | ⟨p', hp', hpq, hmm⟩
        · exact hS k' o' c' g' _ h4 (hfl.get k' hin)
        · exfalso
          obtain ⟨i'', hi''⟩ := ixk (nh + p') (by omega)
          rw [ixD hi'', ixD h2] at hmm
          have hL'' : listed.getD i'' false = true := by
            by_cases hpj : p' = j
            · subst hpj
              rw [hi] at hi''
              injection hi'' with hi''
              subst hi''
              exact hiL
            · exact (htl (nh + p') i'' (by omega) (by omega) hi'').1.resolve_right (by rw [ixD hi''] at hpq; exact hpq)
          have hl := hclosed hcl i' i'' (hok.lt _ _ h2) (hok.lt _ _ hi'') hmm hL''
          rw [hl] at h3
          cases h3
      · rw [hts1]
        have : listed.getD (ix.getD (nh + j) 0) false = true := by rw [ixD hi]; exact hiL
        simp only [this]
        rw [hod]
        have hES : ∀ t', ¬ ES ops ix (nh + (j + 1)) listed t' → t' ≠ d → ¬ ES ops ix (nh + j) listed t' := fun t' h hne ⟨k', i', o', q1, q2, q3, q4, q5⟩ => by
          by_cases hkk : k' = nh + j
          · subst hkk
            rw [hi] at q2
            injection q2 with q2
            subst q2
            rw [ho] at q4
            injection q4 with q4
            subst q4
            rw [hod] at q5
            injection q5 with q5
            exact hne q5.symm
          · exact h ⟨k', i', o', by omega, q2, q3, q4, q5⟩
        refine ⟨hf.defers, hf.size, fun t' ht => ?_, fun t' ht => ?_⟩
        · obtain ⟨g1, g2⟩ := ht
          show RV (M.adopt (qf (nh + j))) w (((envOf (fun k => listed.getD (ix.getD k 0) false) 0 (hs ++ ts) E).put (some d) (.ptr σ.length 0) True).f t') (a.tmps.getD t' undef)
          by_cases htd : t' = d
          · subst htd
            rw [Env.put_f, if_pos rfl, htm]
            exact .ptr (p := ⟨qf (nh + j), 0, 0⟩) (by simp [Plan.adopt, ← hr.len])
          · rw [Env.put_ok, if_neg htd] at g2
            rw [Env.put_f, if_neg htd]
            exact hgrow _ _ (hf.rv t' ⟨hES t' g1 htd, g2⟩)
        · obtain ⟨g1, g2⟩ := ht
          by_cases htd : t' = d
          · subst htd
            rw [Env.put_un, if_pos rfl] at g2
            exact absurd trivial g2
          · rw [Env.put_un, if_neg htd] at g2
            exact hf.un t' ⟨hES t' g1 htd, g2⟩
  · cases fuel with
  | zero =>
    have hu0 : u = [] := List.eq_nil_of_length_eq_zero hu
    subst hu0
    have hall : ∀ i, i < ops.size → listed.getD i false = true := fun i hi => by
      cases h : listed.getD i false with
      | true => rfl
      | false => exact absurd (hun i hi h) (by simp)
    have hj : ops.size ≤ nh + j := by
      rcases Nat.lt_or_ge (nh + j) ops.size with h | h
      · obtain ⟨i, hi⟩ := ixk _ h
        exact absurd ⟨i, hi, hall i (hok.lt _ _ hi)⟩ hrev
      · exact h
    rw [List.drop_eq_nil_of_le (by simp; omega)] at hct
    refine ⟨List.eq_nil_iff_forall_not_mem.2 fun i hi => ?_, envOf (fun _ => true) 0 (hs ++ ts) E, σ, M, hx, hr, ?_, hct⟩
    · obtain ⟨h1, o, ho, _⟩ := mem_ready.1 hi
      have hi' : i < ops.size := (Array.getElem?_eq_some_iff.1 ho).1
      have h2 := (getD_false_true (by omega)).1 h1
      rw [hall i hi'] at h2
      cases h2
    · have he : envOf (fun k => listed.getD (ix.getD k 0) false) 0 (hs ++ ts) E = envOf (fun _ => true) 0 (hs ++ ts) E := envOf_congr _ _ _ fun k hk => by
        rw [Nat.zero_add]
        simp [hhl, hts] at hk
        obtain ⟨i, hi⟩ := ixk k (by omega)
        rw [ixD hi]; exact hall i (hok.lt _ _ hi)
      have hno : ∀ t, ¬ ES ops ix (nh + j) listed t := fun t ⟨k, i, o, q1, q2, _⟩ => by
        have := (List.getElem?_eq_some_iff.1 q2).1
        rw [hok.len] at this
        omega
      rw [he] at hf
      exact ⟨hf.defers, hf.size, fun t ht => hf.rv t ⟨hno t, ht⟩, fun t ht => hf.un t ⟨hno t, ht⟩⟩
  | succ fuel =>
    -- the least that has not come up is ready
    have hleast : ∃ j, j ∈ Region.ready .any ops listed := by
      have hex : ∃ j, j < ops.size ∧ listed.getD j false = false := by
        cases u with
        | nil => simp at hu
        | cons x u => exact ⟨x, hun' x (by simp)⟩
      obtain ⟨j, hj, hmin⟩ : ∃ j, (j < ops.size ∧ listed.getD j false = false) ∧ ∀ i, i < j → ¬ (i < ops.size ∧ listed.getD i false = false) := by
        obtain ⟨j, hj⟩ := hex
        induction j using Nat.strongRecOn with
        | _ j ihj =>
          by_cases h : ∃ i, i < j ∧ i < ops.size ∧ listed.getD i false = false
          · obtain ⟨i, hi, hp⟩ := h
            exact ihj i hi hp
          · exact ⟨j, hj, fun i hi hp => h ⟨i, hi, hp⟩⟩
      refine ⟨j, mem_ready.2 ⟨(getD_false_true (by omega)).2 hj.2, ops[j]'hj.1, by simp [hj.1], fun e he hb => ?_⟩⟩
      have hlt := hok.edge j _ (by simp [hj.1]) e he hb
      cases h : listed.getD e.on false with
      | true => rfl
      | false => exact absurd ⟨by omega, h⟩ (hmin e.on hlt)
    obtain ⟨j0, hj0⟩ := hleast
    refine ⟨fun h0 => (by rw [h0] at hj0; cases hj0), fun i hi => ?_⟩
    obtain ⟨h1, o, ho, he⟩ := mem_ready.1 hi
    have his : i < ops.size := (Array.getElem?_eq_some_iff.1 ho).1
    have hiL : listed.getD i false = false := (getD_false_true (by omega)).1 h1
    obtain ⟨k, hk⟩ := hok.onto i his
    have hks : k < ops.size := by rw [← hok.len]; exact (List.getElem?_eq_some_iff.1 hk).1
    have hiu : i ∈ u := hun i his hiL
    have hgd : ∀ x, (listed.setIfInBounds i true).getD x false = if x = i then true else listed.getD x false := fun x => by
      by_cases hxi : x = i
      · subst hxi
        have : x < listed.size := by omega
        simp [this]
      · rw [if_neg hxi]
        simp [Array.getElem?_setIfInBounds_ne (Ne.symm hxi)]
    -- an entry of the list, and its operation
    have hent : ∀ (k' : Nat) (x : Oper × CV × Prop), (hs ++ ts)[k']? = some x → ∃ i' : Nat, ix[k']? = some i' ∧ ops[i']? = some x.1 ∧ k' < nh + j ∧ True := fun k' x hx' => by
      have hlt : k' < nh + j := by
        have := (List.getElem?_eq_some_iff.1 hx').1
        simpa [hhl, hts] using this
      obtain ⟨i', hi'⟩ := ixk k' (by omega)
      refine ⟨i', hi', ?_, hlt, trivial⟩
      rcases Nat.lt_or_ge k' nh with h | h
      · rw [List.getElem?_append_left (by omega)] at hx'
        obtain ⟨o', c', g', g1, g2⟩ := hhs k' i' h hi'
        rw [g1] at hx'; cases hx'; exact g2
      · rw [List.getElem?_append_right (by omega), hhl] at hx'
        obtain ⟨_, o', c', g', g1, g2⟩ := htl k' i' h hlt hi'
        rw [g1] at hx'; cases hx'; exact g2
    have hgen : (∀ x, x < ops.size → (listed.setIfInBounds i true).getD x false = false → x ∈ u.erase i) ∧ (∀ x, x ∈ u.erase i → x < ops.size ∧ (listed.setIfInBounds i true).getD x false = false) ∧
        (∀ x ox, ops[x]? = some ox → (listed.setIfInBounds i true).getD x false = true → ∀ e ∈ ox.after, binding e = true → (listed.setIfInBounds i true).getD e.on false = true) := by
      refine ⟨fun x hx' hxl => ?_, fun x hx' => ?_, fun x ox hox hxl e hex hb => ?_⟩
      · rw [hgd] at hxl
        split at hxl
        · cases hxl
        · rename_i hne
          exact (List.mem_erase_of_ne hne).2 (hun x hx' hxl)
      · have hne : x ≠ i := fun e => by subst e; exact (hnd.not_mem_erase) hx'
        rw [hgd, if_neg hne]
        exact hun' x (List.mem_of_mem_erase hx')
      · rw [hgd] at hxl ⊢
        split
        · rfl
        · split at hxl
          · rename_i hxi
            subst hxi
            rw [ho] at hox
            injection hox with hox
            subst hox
            exact he e hex hb
          · exact hcl x ox hox hxl e hex hb
    -- what is looked at did not come up ahead of its turn
    have hmaskl : ∀ i' : Nat, i' < ops.size → (ms.getD i 0).testBit i' = true → listed.getD i' false = true := fun i' hi' hmm => anc_floatA hok hcl i o ho (fun e hek hb => he e hek hb) i' hi' hmm
    have hnext : nh + j < k → i ∈ al := fun hlt => by
      obtain ⟨i', hi'⟩ := ixk (nh + j) (by omega)
      rcases hok.tail k (nh + j) i i' (by omega) hlt hk hi' with h | h | h
      · exact h
      · exact absurd h (hnq i' hi')
      · exact absurd ⟨i', hi', hmaskl i' (hok.lt _ _ hi') h⟩ hrev
    have hnoES : ∀ t, t ∈ o.looksAt ops → ¬ ES ops ix (nh + j) listed t := fun t ht ⟨k', i', o', q1, q2, q3, q4, q5⟩ => by
      have hne : k' ≠ k := fun e => by
        subst e
        rw [hk] at q2
        injection q2 with q2
        subst q2
        rw [hiL] at q3
        cases q3
      rcases hok.tmps k i o hk ho t ht k' i' o' hne q2 q4 q5 with ⟨h1, h2⟩ | ⟨h1, h2⟩
      · have hi := hnext (by omega)
        obtain ⟨o1, t1, z1, d1, e1, e2, e3, e4, e5⟩ := hz.get i hi
        rw [ho] at e1
        injection e1 with e1
        subst e1
        simp [Oper.looksAt, e2, e3, Op.operands] at ht
      · have := hclosed hcl i i' his (hok.lt _ _ q2) h2 q3
        rw [hiL] at this
        cases this
    -- another operation writes another slot
    have hslot : ∀ d, o.dst = some d → ¬ ES ops ix (nh + j) listed d := fun d hd' ⟨k', i', o', q1, q2, q3, q4, q5⟩ => by
      have := huniq i' (hea k' i' q1 q2 q3).1 i o' o d q4 ho q5 hd'
      subst this
      rw [hiL] at q3
      cases q3
    have hix : ∀ {k' i' : Nat}, k' ≠ k → ix[k']? = some i' → i' ≠ i := fun {k' i'} hne hk' e => by
      subst e
      exact hne (hok.nodup k' k i' hk' hk)
    have heaN : ∀ {M' : Plan} {w' : World} {v : Value} {m' : Nat}, Ext M w M' w' → nh + j ≤ m' → (∀ k' i', m' ≤ k' → ix[k']? = some i' → i' ≠ i) → ∀ k' i', m' ≤ k' → ix[k']? = some i' → (listed.setIfInBounds i true).getD i' false = true → i' ∈ al ∧ Early C M0 M' w' (a.put o.dst v) ops i' (qf k') := fun {M' w' v m'} hx' hm' hne k' i' h1 h2 h3 => by
      rw [hgd, if_neg (hne k' i' h1 h2)] at h3
      obtain ⟨e0, e1⟩ := hea k' i' (by omega) h2 h3
      refine ⟨e0, e1.step hx' fun d o' ho' hod' hd' => ?_⟩
      exact hslot d hd' ⟨k', i', o', by omega, h2, h3, ho', hod'⟩
    have hinjN : ∀ {m' : Nat}, nh + j ≤ m' → (∀ k' i', m' ≤ k' → ix[k']? = some i' → i' ≠ i) → ∀ (k k' x x' : Nat), m' ≤ k → m' ≤ k' → ix[k]? = some x → ix[k']? = some x' → (listed.setIfInBounds i true).getD x false = true → (listed.setIfInBounds i true).getD x' false = true → qf k = qf k' → k = k' := fun {m'} hm' hne k k' x x' h1 h2 h3 h4 h5 h6 => by
      rw [hgd, if_neg (hne k x h1 h3)] at h5
      rw [hgd, if_neg (hne k' x' h2 h4)] at h6
      exact hinj k k' x x' (by omega) (by omega) h3 h4 h5 h6
    have hESN : ∀ {m' : Nat} (t : Nat), (∀ k' i', nh + j ≤ k' → k' < m' → ix[k']? = some i' → i' = i) → ¬ ES ops ix m' (listed.setIfInBounds i true) t → ¬ ES ops ix (nh + j) listed t := fun {m'} t hm' hno ⟨k', i', o', q1, q2, q3, q4, q5⟩ => by
      rcases Nat.lt_or_ge k' m' with h | h
      · have := hm' k' i' q1 h q2
        subst this
        rw [hiL] at q3
        cases q3
      · exact hno ⟨k', i', o', h, q2, by rw [hgd]; split <;> first | rfl | exact q3, q4, q5⟩
    -- a quiet operation, and where it goes on
    have quiet : ∀ (E1 : Env) (c : CV) (g : Prop), HeadOp C σ ops o E1 c g → (∀ t, t ∈ o.looksAt ops → E1.agree t (envOf (fun k => listed.getD (ix.getD k 0) false) 0 (hs ++ ts) E)) →
        (∀ (v : Value) (w' : World) (M' : Plan), Ext M w M' w' → Rel C M' σ w' → (g → RV M' w' c v) → (¬ g → v = undef) → wpAny C.P .any ops (Lift C n Q M0 w0) fuel (listed.setIfInBounds i true) (a.put o.dst v) w') →
        wpOp C.P ops (Lift C n Q M0 w0) i (wpAny C.P .any ops (Lift C n Q M0 w0) fuel (listed.setIfInBounds i true)) a w := by
      intro E1 c g hop hag next
      unfold wpOp
      simp only [ho]
      have hopr : ∀ x ∈ o.op.operands, E1.valid x → RV M w (E1.val C x) (a.eval x) := fun x hx hv => by
        cases x with
        | tmp t =>
          have h2 := hag t (looksAt_op hx)
          simp only [Env.val, Env.valid] at hv ⊢
          rw [h2.1]
          exact hf.rv t ⟨hnoES t (looksAt_op hx), by rw [← h2.2.1]; exact hv⟩
        | const v => exact hf.eval (x := .const v) hr hv
        | global v => exact hf.eval (x := .global v) hr hv
        | func v => exact hf.eval (x := .func v) hr hv
      rcases hop with ⟨hg, hgp, hy⟩ | ⟨jj, t, want, b, hg, ht, hok', hb, hgb, hy⟩
      · rw [if_pos (by simp [Region.wanted, hg])]
        refine .inl (wp_of_upon (hy M w a.eval hr hopr) (fun v w' ha => ?_) (fun ch w' ha => ?_))
        · obtain ⟨c', σ', M', h1, h2, h3, h4, rfl⟩ := ha
          injection h4 with h4
          subst h4
          exact next v w' M' h1 h2 (fun _ => h3) fun hh => absurd hgp hh
        · obtain ⟨c', v, σ', M', _, _, _, _, h4, _⟩ := ha
          cases h4
      · have h2 := hag t (looksAt_guard hg ht)
        by_cases hokt : E1.ok t
        · have h3 : RV M w ((envOf (fun k => listed.getD (ix.getD k 0) false) 0 (hs ++ ts) E).f t) (a.tmps.getD t undef) := hf.rv t ⟨hnoES t (looksAt_guard hg ht), by rw [← h2.2.1]; exact hokt⟩
          rw [← h2.1, hb] at h3
          have h4 := rv_val h3
          have hszt : t < a.tmps.size := by
            rcases Nat.lt_or_ge t a.tmps.size with h' | h'
            · exact h'
            · simp [Array.getElem?_eq_none h', undef] at h4
          have h5 : a.tmps[t]? = some (.bool b) := by
            rw [Array.getD_eq_getD_getElem?, Array.getElem?_eq_getElem hszt] at h4
            rw [Array.getElem?_eq_getElem hszt, ← h4]; rfl
          have h6 : yielded ops a.tmps jj = some b := by unfold yielded; rw [ht, Option.bind_some, h5]
          have hw : Region.wanted o (yielded ops a.tmps) = (b == want) := by
            simp only [Region.wanted, hg, h6]
            cases b <;> cases want <;> rfl
          by_cases hbw : b = want
          · rw [if_pos (by rw [hw]; simpa using hbw)]
            refine .inl (wp_of_upon (hy hokt hbw M w a.eval hr hopr) (fun v w' ha => ?_) (fun ch w' ha => ?_))
            · obtain ⟨c', σ', M', h1, h2, h3, h4, rfl⟩ := ha
              injection h4 with h4
              subst h4
              exact next v w' M' h1 h2 (fun _ => h3) fun hh => absurd (hgb.2 ⟨hokt, hbw⟩) hh
            · obtain ⟨c', v, σ', M', _, _, _, _, h4, _⟩ := ha
              cases h4
          · rw [if_neg (by rw [hw]; simpa using hbw)]
            exact next undef w M (Ext.refl M w) hr (fun hgg => absurd (hgb.1 hgg).2 hbw) fun _ => rfl
        · have h3 := hf.un t ⟨hnoES t (looksAt_guard hg ht), by rw [← h2.2.2]; exact hok' hokt⟩
          have h6 : yielded ops a.tmps jj = none := by
            unfold yielded
            rw [ht, Option.bind_some]
            rcases Nat.lt_or_ge t a.tmps.size with h' | h'
            · rw [Array.getD_eq_getD_getElem?, Array.getElem?_eq_getElem h'] at h3
              rw [Array.getElem?_eq_getElem h']
              simp only [Option.getD_some] at h3
              rw [h3]
              rfl
            · rw [Array.getElem?_eq_none h']
          have hw : Region.wanted o (yielded ops a.tmps) = false := by
            simp only [Region.wanted, hg, h6]
            cases want <;> rfl
          rw [if_neg (by rw [hw]; simp)]
          exact next undef w M (Ext.refl M w) hr (fun hgg => absurd (hgb.1 hgg).1 hokt) fun _ => rfl
    -- which entries that write a slot that is looked at have come up
    have seen : ∀ t, t ∈ o.looksAt ops → ∀ (k' : Nat) (x : Oper × CV × Prop), (hs ++ ts)[k']? = some x → x.1.dst = some t → k' ≠ k → (k' < k → listed.getD (ix.getD k' 0) false = true) ∧ (k < k' → listed.getD (ix.getD k' 0) false = false) := fun t ht k' x hx' hxd hne => by
      obtain ⟨i', hi', ho', hlt', _⟩ := hent k' x hx'
      rw [ixD hi']
      have his' := hok.lt _ _ hi'
      rcases hok.tmps k i o hk ho t ht k' i' x.1 hne hi' ho' hxd with ⟨q1, q2⟩ | ⟨q1, q2⟩
      · exact ⟨fun _ => anc_floatA hok hcl i o ho (fun e hek hb => he e hek hb) i' his' q2, fun h => by omega⟩
      · refine ⟨fun h => by omega, fun _ => ?_⟩
        cases hl : listed.getD i' false with
        | false => rfl
        | true =>
          have := hclosed hcl i i' his his' q2 hl
          rw [hiL] at this
          cases this
    rcases Nat.lt_or_ge k nh with hkn | hkn
    · -- of the head
      obtain ⟨o', c, g, hc, ho'⟩ := hhs k i hkn hk
      rw [ho] at ho'
      injection ho' with ho'
      subst ho'
      have hop := hst k i o c g hkn hk hiL hc
      refine quiet _ c g hop (fun t ht => ?_) fun v w' M' hx' hr' hv hun0 => ?_
      · have e1 : envOf (fun j => decide (j < k)) 0 hs E = envOf (fun j => decide (j < k)) 0 (hs ++ ts) E := by
          rw [envOf_app, envOf_off (L := fun j => decide (j < k)) ts _ _ (fun i' hi' => by simp; omega)]
        rw [e1]
        refine envOf_agree (hs ++ ts) 0 E E ⟨rfl, rfl, rfl⟩ fun k' x hx' hxd => ?_
        rw [Nat.zero_add]
        by_cases hkk : k' = k
        · subst hkk; rw [ixD hk, hiL]; simp
        · have := seen t ht k' x hx' hxd hkk
          rcases Nat.lt_or_gt_of_ne hkk with h | h
          · rw [this.1 h]; simp [h]
          · rw [this.2 h]; simp; omega
      · refine IH (fuel + (ops.size - (nh + j))) (by omega) fuel j ts (listed.setIfInBounds i true) (u.erase i) σ _ w' M' qf rfl (by simp [hsz]) (by rw [List.length_erase_of_mem hiu, hu]; rfl) hgen.1 hgen.2.1 (hnd.erase i) hgen.2.2 hjs hts (fun k' i' h1 h2 h3 => ?_) hqt (heaN hx' (Nat.le_refl _) fun k' i' h1 h2 => hix (by omega) h2) (hinjN (Nat.le_refl _) fun k' i' h1 h2 => hix (by omega) h2) (fun k' i' o' c' g' h1 h2 h3 h4 => ?_) hct (hx.trans hx') hr' ?_
        · obtain ⟨g1, g2⟩ := htl k' i' h1 h2 h3
          refine ⟨?_, g2⟩
          rw [hgd]; split
          · exact .inl rfl
          · exact g1
        · rw [hgd] at h3
          split at h3
          · cases h3
          · exact hst k' i' o' c' g' h1 h2 h3 h4
        · have hag' : ∀ t, (envOf (fun k => (listed.setIfInBounds i true).getD (ix.getD k 0) false) 0 (hs ++ ts) E).agree t ((envOf (fun k => listed.getD (ix.getD k 0) false) 0 (hs ++ ts) E).put o.dst c g) := by
            intro t
            by_cases hdt : o.dst = some t
            · have hat := envOf_last (L := fun k => (listed.setIfInBounds i true).getD (ix.getD k 0) false) (hs ++ ts) 0 k E o c g (by rw [List.getElem?_append_left (by omega)]; exact hc) hdt (by simp only [Nat.zero_add, ixD hk, hgd, if_true]) (fun k' x hlt hx' hLx hxd => by
                obtain ⟨i', hi', ho', _, _⟩ := hent k' x hx'
                rw [Nat.zero_add, ixD hi', hgd] at hLx
                have hne : i' ≠ i := fun e => by
                  subst e
                  have := hok.nodup k k' i' hk hi'
                  omega
                rw [if_neg hne] at hLx
                have hm := hok.dsts k' k i' i x.1 o t hlt hi' hk ho' ho hxd hdt
                have := hclosed hcl i i' his (hok.lt _ _ hi') hm hLx
                rw [hiL] at this
                cases this)
              unfold Env.agree
              rw [hat.1, hat.2.1, hat.2.2, hdt, Env.put_f, Env.put_ok, Env.put_un]
              simp
            · refine (agree_put_other hdt ?_).symm
              refine envOf_agree (hs ++ ts) 0 E E ⟨rfl, rfl, rfl⟩ fun k' x hx' hxd => ?_
              obtain ⟨i', hi', ho', _, _⟩ := hent k' x hx'
              rw [Nat.zero_add, ixD hi', hgd]
              split
              · rename_i hki
                subst hki
                rw [ho] at ho'
                injection ho' with ho'
                rw [← ho'] at hxd
                exact absurd hxd hdt
              · rfl
          exact hf.putH hx' (fun t ht => hd o (Array.mem_of_getElem? ho) t ht) hv hun0 (fun t _ => hag' t) fun t ht _ => hESN t (fun k' i' h1 h2 => by omega) ht
    · -- of the tail
      rcases Nat.lt_trichotomy k (nh + j) with hlt | hkj | hgt
      · -- its turn has been
        obtain ⟨hlq, o', c, g, hc, ho'⟩ := htl k i hkn hlt hk
        rw [ho] at ho'
        injection ho' with ho'
        subst ho'
        have hiq : i ∈ qs := hlq.resolve_left (by rw [hiL]; simp)
        have hop := hqt k i o c g hkn hlt hk hiq hc σ
        refine quiet _ c g hop (fun t ht => ?_) fun v w' M' hx' hr' hv hun0 => ?_
        · refine envOf_agree (hs ++ ts) 0 E E ⟨rfl, rfl, rfl⟩ fun k' x hx' hxd => ?_
          rw [Nat.zero_add]
          by_cases hkk : k' = k
          · subst hkk; rw [ixD hk, hiL]; simp
          · have := seen t ht k' x hx' hxd hkk
            rcases Nat.lt_or_gt_of_ne hkk with h | h
            · rw [this.1 h]; simp [h]
            · rw [this.2 h]; simp; omega
        · refine IH (fuel + (ops.size - (nh + j))) (by omega) fuel j ts (listed.setIfInBounds i true) (u.erase i) σ _ w' M' qf rfl (by simp [hsz]) (by rw [List.length_erase_of_mem hiu, hu]; rfl) hgen.1 hgen.2.1 (hnd.erase i) hgen.2.2 hjs hts (fun k' i' h1 h2 h3 => ?_) hqt (heaN hx' (Nat.le_refl _) fun k' i' h1 h2 => hix (by omega) h2) (hinjN (Nat.le_refl _) fun k' i' h1 h2 => hix (by omega) h2) (fun k' i' o' c' g' h1 h2 h3 h4 => ?_) hct (hx.trans hx') hr' ?_
          · obtain ⟨g1, g2⟩ := htl k' i' h1 h2 h3
            refine ⟨?_, g2⟩
            rw [hgd]; split
            · exact .inl rfl
            · exact g1
          · rw [hgd] at h3
            split at h3
            · cases h3
            · exact hst k' i' o' c' g' h1 h2 h3 h4
          · have hag' : ∀ t, (envOf (fun k => (listed.setIfInBounds i true).getD (ix.getD k 0) false) 0 (hs ++ ts) E).agree t ((envOf (fun k => listed.getD (ix.getD k 0) false) 0 (hs ++ ts) E).put o.dst c g) := by
              intro t
              by_cases hdt : o.dst = some t
              · have hat := envOf_last (L := fun k => (listed.setIfInBounds i true).getD (ix.getD k 0) false) (hs ++ ts) 0 k E o c g (by rw [List.getElem?_append_right (by omega), hhl]; exact hc) hdt (by simp only [Nat.zero_add, ixD hk, hgd, if_true]) (fun k' x hlt hx' hLx hxd => by
                  obtain ⟨i', hi', ho', _, _⟩ := hent k' x hx'
                  rw [Nat.zero_add, ixD hi', hgd] at hLx
                  have hne : i' ≠ i := fun e => by
                    subst e
                    have := hok.nodup k k' i' hk hi'
                    omega
                  rw [if_neg hne] at hLx
                  have hm := hok.dsts k' k i' i x.1 o t hlt hi' hk ho' ho hxd hdt
                  have := hclosed hcl i i' his (hok.lt _ _ hi') hm hLx
                  rw [hiL] at this
                  cases this)
                unfold Env.agree
                rw [hat.1, hat.2.1, hat.2.2, hdt, Env.put_f, Env.put_ok, Env.put_un]
                simp
              · refine (agree_put_other hdt ?_).symm
                refine envOf_agree (hs ++ ts) 0 E E ⟨rfl, rfl, rfl⟩ fun k' x hx' hxd => ?_
                obtain ⟨i', hi', ho', _, _⟩ := hent k' x hx'
                rw [Nat.zero_add, ixD hi', hgd]
                split
                · rename_i hki
                  subst hki
                  rw [ho] at ho'
                  injection ho' with ho'
                  rw [← ho'] at hxd
                  exact absurd hxd hdt
                · rfl
            exact hf.putH hx' (fun t ht => hd o (Array.mem_of_getElem? ho) t ht) hv hun0 (fun t _ => hag' t) fun t ht _ => hESN t (fun k' i' h1 h2 => by omega) ht
      rotate_left
      · -- ahead of its turn
        have hal := hnext hgt
        obtain ⟨o1, t, z, d, e1, e2, e3, hod, hzz⟩ := hz.get i hal
        rw [ho] at e1
        injection e1 with e1
        subst e1
        unfold wpOp
        simp only [ho]
        rw [if_pos (by simp [Region.wanted, e3])]
        have hrun : (execOp a.eval o).run C.P w = .ok (.value (.pointer (some ⟨w.heap.size, 0, none⟩))) (w.alloc (.cells z.cells t)) := by
          simp [execOp, e2, Instr.alloc, hzz, run_newVar]
        obtain ⟨hx', hr'⟩ := hr.keepNew (.cells z.cells t)
        refine .inl (wp_of_upon (K := fun v w' => v = .pointer (some ⟨w.heap.size, 0, none⟩) ∧ w' = w.alloc (.cells z.cells t)) (Kp := fun _ _ => False) (by rw [hrun]; exact ⟨rfl, rfl⟩) (fun v w' ⟨hv, hw⟩ => ?_) (fun ch w' ha => ha.elim))
        subst hv hw
        have hqn : ∀ k' i', nh + j ≤ k' → ix[k']? = some i' → listed.getD i' false = true → qf k' < w.heap.size := fun k' i' h1 h2 h3 => by
          obtain ⟨_, o2, t2, z2, d2, f1, f2, f3, f4, f5, _⟩ := hea k' i' h1 h2 h3
          exact hr.kep _ f5
        refine IH (fuel + (ops.size - (nh + j))) (by omega) fuel j ts (listed.setIfInBounds i true) (u.erase i) σ _ _ (M.keepNew w.heap.size) (fun x => if x = k then w.heap.size else qf x) rfl (by simp [hsz]) (by rw [List.length_erase_of_mem hiu, hu]; rfl) hgen.1 hgen.2.1 (hnd.erase i) hgen.2.2 hjs hts (fun k' i' h1 h2 h3 => ?_) hqt (fun k' i' h1 h2 h3 => ?_) (fun k1 k2 i1 i2 h1 h2 h3 h4 h5 h6 h7 => ?_) (fun k' i' o' c' g' h1 h2 h3 h4 => ?_) hct (hx.trans hx') hr' ?_
        · obtain ⟨g1, g2⟩ := htl k' i' h1 h2 h3
          refine ⟨?_, g2⟩
          rw [hgd]; split
          · exact .inl rfl
          · exact g1
        · by_cases hkk : k' = k
          · subst hkk
            rw [hk] at h2
            injection h2 with h2
            subst h2
            refine ⟨hal, o, t, z, d, ho, e2, hzz, hod, ?_⟩
            simp only [if_true]
            have hlt0 : ∀ b o', M.at b o' → b < w.heap.size := hr.blk
            refine ⟨.inr rfl, fun hb => ?_, heap_alloc_new w _, fun hf' => ?_, fun x hc => ?_, ?_⟩
            · have := hr.kep _ (hx.kept _ hb).1
              omega
            · have := hlt0 _ 0 (.inl hf'); omega
            · have := hlt0 _ x (.inr hc); omega
            · rw [hod]
              have hdn := hd o (Array.mem_of_getElem? ho) d hod
              simp [Act.put, hf.size, hdn]
          · simp only [if_neg hkk]
            rw [hgd, if_neg (hix hkk h2)] at h3
            obtain ⟨f0, f1⟩ := hea k' i' h1 h2 h3
            exact ⟨f0, f1.step hx' fun d' o' ho' hod' hd' => hslot d' hd' ⟨k', i', o', h1, h2, h3, ho', hod'⟩⟩
        · by_cases hk1 : k1 = k
          · by_cases hk2 : k2 = k
            · omega
            · simp only [if_pos hk1, if_neg hk2] at h7
              rw [hgd, if_neg (hix hk2 h4)] at h6
              have := hqn k2 i2 h2 h4 h6
              omega
          · by_cases hk2 : k2 = k
            · simp only [if_pos hk2, if_neg hk1] at h7
              rw [hgd, if_neg (hix hk1 h3)] at h5
              have := hqn k1 i1 h1 h3 h5
              omega
            · simp only [if_neg hk1, if_neg hk2] at h7
              rw [hgd, if_neg (hix hk1 h3)] at h5
              rw [hgd, if_neg (hix hk2 h4)] at h6
              exact hinj k1 k2 i1 i2 h1 h2 h3 h4 h5 h6 h7
        · rw [hgd] at h3
          split at h3
          · cases h3
          · exact hst k' i' o' c' g' h1 h2 h3 h4
        · have hLc : envOf (fun k => (listed.setIfInBounds i true).getD (ix.getD k 0) false) 0 (hs ++ ts) E = envOf (fun k => listed.getD (ix.getD k 0) false) 0 (hs ++ ts) E := envOf_congr _ _ _ fun k' hk' => by
            rw [Nat.zero_add]
            have hlt' : k' < nh + j := by simpa [hhl, hts] using hk'
            obtain ⟨i', hi'⟩ := ixk k' (by omega)
            rw [ixD hi', hgd, if_neg (hix (by omega) hi')]
          rw [hLc]
          have hnd' : ∀ t', ¬ ES ops ix (nh + j) (listed.setIfInBounds i true) t' → o.dst ≠ some t' := fun t' h e => h ⟨k, i, o, by omega, hk, by rw [hgd, if_pos rfl], ho, e⟩
          exact hf.putH (g := True) hx' (fun t ht => hd o (Array.mem_of_getElem? ho) t ht) (p' := ES ops ix (nh + j) (listed.setIfInBounds i true)) (v := .pointer (some ⟨w.heap.size, 0, none⟩)) (c' := .val (.pointer (some ⟨w.heap.size, 0, none⟩))) (fun _ => .val _) (fun h => absurd trivial h) (fun t' ht' => (agree_put_other (hnd' t' ht') ⟨rfl, rfl, rfl⟩).symm) fun t' ht' _ => hESN t' (fun k' i' h1 h2 => by omega) ht'
      subst hkj
      have hlt : nh + j < ops.size := hks
      rw [hdrop hlt hk] at hct
      obtain ⟨o', ho', hct⟩ := hct
      rw [ho] at ho'
      injection ho' with ho'
      subst ho'
      have hag : ∀ t, t ∈ o.looksAt ops → (envOf (fun _ => true) 0 (hs ++ ts) E).agree t (envOf (fun k => listed.getD (ix.getD k 0) false) 0 (hs ++ ts) E) := fun t ht => envOf_agree (hs ++ ts) 0 E E ⟨rfl, rfl, rfl⟩ fun k' x hx' hxd => by
        obtain ⟨i', hi', ho', hlt', _⟩ := hent k' x hx'
        rw [Nat.zero_add, (seen t ht k' x hx' hxd (by omega)).1 hlt']
      -- the next state
      have next : ∀ (v : Value) (c : CV) (g : Prop) (σ' : List CObj) (w' : World) (M' : Plan), (Floats S σ' (fls.getD j []) ∧ CTailA C ops al qs Q S (((List.range (ops.size - nh)).map fun p => (ix.getD (nh + p) 0, fls.getD p [])).drop (j + 1)) ((envOf (fun _ => true) 0 (hs ++ ts) E).put o.dst c g) σ') →
          Ext M w M' w' → Rel C M' σ' w' → (g → RV M' w' c v) → (¬ g → v = undef) → wpAny C.P .any ops (Lift C n Q M0 w0) fuel (listed.setIfInBounds i true) (a.put o.dst v) w' := by
        intro v c g σ' w' M' ⟨hfl, hct'⟩ hx' hr' hv hun0
        have hLc : envOf (fun k => (listed.setIfInBounds i true).getD (ix.getD k 0) false) 0 (hs ++ ts) E = envOf (fun k => listed.getD (ix.getD k 0) false) 0 (hs ++ ts) E := envOf_congr _ _ _ fun k' hk' => by
          rw [Nat.zero_add]
          have hlt' : k' < nh + j := by simpa [hhl, hts] using hk'
          obtain ⟨i', hi'⟩ := ixk k' (by omega)
          rw [ixD hi', hgd, if_neg]
          intro e
          subst e
          have := hok.nodup k' (nh + j) i' hi' hk
          omega
        refine IH (fuel + (ops.size - (nh + (j + 1)))) (by omega) fuel (j + 1) (ts ++ [(o, c, g)]) (listed.setIfInBounds i true) (u.erase i) σ' _ w' M' qf rfl (by simp [hsz]) (by rw [List.length_erase_of_mem hiu, hu]; rfl) hgen.1 hgen.2.1 (hnd.erase i) hgen.2.2 (by omega) (by simp [hts]) (fun k' i' h1 h2 h3 => ?_) (hqt1 _ _ _ (fun _ i' hi' hiq => absurd hiq (hnq i' hi')) hlt) (heaN hx' (by omega) fun k' i' h1 h2 => hix (by omega) h2) (hinjN (by omega) fun k' i' h1 h2 => hix (by omega) h2) (fun k' i' o' c' g' h1 h2 h3 h4 => ?_) (by rw [hts1]; exact hct') (hx.trans hx') hr' ?_
        · by_cases hkk : k' = nh + j
          · subst hkk
            rw [hk] at h3
            injection h3 with h3
            subst h3
            refine ⟨.inl (by rw [hgd, if_pos rfl]), o, c, g, ?_, ho⟩
            rw [show nh + j - nh = ts.length by omega]
            simp
          · obtain ⟨g1, o', c', g', g2, g3⟩ := htl k' i' h1 (by omega) h3
            refine ⟨?_, o', c', g', ?_, g3⟩
            · rw [hgd]; split
              · exact .inl rfl
              · exact g1
            · rw [List.getElem?_append_left (by omega)]; exact g2
        · rw [hgd] at h3
          split at h3
          · cases h3
          · rcases hok.fls j k' (by have := hok.fl; omega) h1 with hin | ⟨p', hp', hpq, hm⟩
            · exact hS k' o' c' g' σ' h4 (hfl.get k' hin)
            · exfalso
              obtain ⟨i'', hi''⟩ := ixk (nh + p') (by omega)
              rw [ixD hi'', ixD h2] at hm
              have hl : listed.getD i' false = true := by
                by_cases hpj : p' = j
                · subst hpj
                  rw [hk] at hi''
                  injection hi'' with hi''
                  subst hi''
                  exact anc_floatA hok hcl i o ho (fun e hek hb => he e hek hb) i' (hok.lt _ _ h2) hm
                · exact hclosed hcl i' i'' (hok.lt _ _ h2) (hok.lt _ _ hi'') hm ((htl (nh + p') i'' (by omega) (by omega) hi'').1.resolve_right (by rw [ixD hi''] at hpq; exact hpq))
              rw [hl] at h3
              cases h3
        · rw [hts1]
          have : (listed.setIfInBounds i true).getD (ix.getD (nh + j) 0) false = true := by rw [ixD hk, hgd, if_pos rfl]
          simp only [this]
          rw [hLc]
          exact hf.putH hx' (fun t ht => hd o (Array.mem_of_getElem? ho) t ht) hv hun0 (fun t _ => ⟨rfl, rfl, rfl⟩) fun t ht _ => hESN t (fun k' i' h1 h2 h3 => by
            have : k' = nh + j := by omega
            subst this
            rw [hk] at h3
            injection h3 with h3
            exact h3.symm) ht
      have hopr : ∀ x ∈ o.op.operands, (envOf (fun _ => true) 0 (hs ++ ts) E).valid x → RV M w ((envOf (fun _ => true) 0 (hs ++ ts) E).val C x) (a.eval x) := fun x hx hv => by
        cases x with
        | tmp t =>
          have h2 := hag t (looksAt_op hx)
          simp only [Env.val, Env.valid] at hv ⊢
          rw [h2.1]
          exact hf.rv t ⟨hnoES t (looksAt_op hx), by rw [← h2.2.1]; exact hv⟩
        | const v => exact hf.eval (x := .const v) hr hv
        | global v => exact hf.eval (x := .global v) hr hv
        | func v => exact hf.eval (x := .func v) hr hv
      have does : ∀ (g : Prop), g → (Does C σ (envOf (fun _ => true) 0 (hs ++ ts) E) o fun r σ' => match r with | .ret c => Floats S σ' (fls.getD j []) ∧ CTailA C ops al qs Q S (((List.range (ops.size - nh)).map fun p => (ix.getD (nh + p) 0, fls.getD p [])).drop (j + 1)) ((envOf (fun _ => true) 0 (hs ++ ts) E).put o.dst c g) σ' | .pan _ => False) → o.wp C.P a w (wpAny C.P .any ops (Lift C n Q M0 w0) fuel (listed.setIfInBounds i true)) (Lift C n Q M0 w0) := fun g hg hdo => by
        refine wp_of_upon (hdo M w a.eval hr hopr) (fun v w' ha => ?_) (fun ch w' ha => ?_)
        · obtain ⟨c', σ', M', h1, h2, h3, h4⟩ := ha
          exact next v c' g σ' w' M' h4 h1 h2 (fun _ => h3) fun hh => absurd hg hh
        · obtain ⟨c', v, σ', M', _, _, _, _, h4⟩ := ha
          exact h4.elim
      rcases hct with ⟨hqc, _⟩ | ⟨_, ⟨_, (⟨hg, hdo⟩ | ⟨c, g, hop, hkk⟩) | ⟨jj, t, want, b, c0, hg, ht, hv, hb, hy, hn⟩⟩ | ⟨hg, t, z, hot, hzz, hc1, hc2, hfl, hkk⟩⟩
      · exact absurd (by simpa using hqc) (hnq i hk)
      · unfold wpOp
        simp only [ho]
        rw [if_pos (by simp [Region.wanted, hg])]
        exact .inl (does True trivial hdo)
      · exact quiet _ c g hop hag fun v w' M' hx' hr' hv hun0 => next v c g σ w' M' hkk hx' hr' hv hun0
      · -- under a guard
        unfold wpOp
        simp only [ho]
        have h2 := hag t (looksAt_guard hg ht)
        have h3 : RV M w ((envOf (fun k => listed.getD (ix.getD k 0) false) 0 (hs ++ ts) E).f t) (a.tmps.getD t undef) := hf.rv t ⟨hnoES t (looksAt_guard hg ht), by rw [← h2.2.1]; exact hv⟩
        rw [← h2.1, hb] at h3
        have h4 := rv_val h3
        have hszt : t < a.tmps.size := by
          rcases Nat.lt_or_ge t a.tmps.size with h' | h'
          · exact h'
          · simp [Array.getElem?_eq_none h', undef] at h4
        have h5 : a.tmps[t]? = some (.bool b) := by
          rw [Array.getD_eq_getD_getElem?, Array.getElem?_eq_getElem hszt] at h4
          rw [Array.getElem?_eq_getElem hszt, ← h4]; rfl
        have h6 : yielded ops a.tmps jj = some b := by unfold yielded; rw [ht, Option.bind_some, h5]
        have hw : Region.wanted o (yielded ops a.tmps) = (b == want) := by
          simp only [Region.wanted, hg, h6]
          cases b <;> cases want <;> rfl
        by_cases hbw : b = want
        · rw [if_pos (by rw [hw]; simpa using hbw)]
          exact .inl (does (b = want) hbw (hy hbw))
        · rw [if_neg (by rw [hw]; simpa using hbw)]
          exact next undef c0 (b = want) σ w M (hn hbw) (Ext.refl M w) hr (fun hh => absurd hh hbw) fun _ => rfl
      · unfold wpOp
        simp only [ho]
        rw [if_pos (by simp [Region.wanted, hg])]
        exact .inl (does True trivial (d_alloc hot hzz hc1 hc2 ⟨hfl, hkk⟩))

def dstB (ops : Array Oper) (al : List Nat) : Bool := al.all fun i => (List.range ops.size).all fun i' => Nat.beq i' i || ((ops[i]?).bind (·.dst)).isNone || !((ops[i]?).bind (·.dst) == (ops[i']?).bind (·.dst))
theorem cw_floatA {id : Nat} {Q : CExit → Env → List CObj → Prop} {E : Env} (al qs : List Nat) (ix : List Nat) (nh : Nat) (ms : List Nat) (fls : List (List Nat)) (hm : C.P.follows .mixedOrders = true) (hB : floatBA ops al qs ix nh ms fls = true) (hu : dstB ops al = true) (hz : AZ C ops al) (hd : (ops.toList.all fun o => match o.dst with | some d => Nat.blt d n | none => true) = true)
    {hd1l : List Nat} {tll : List (Nat × List Nat)} (hd1 : List.take nh ix = hd1l) (hd2 : ((List.range (ops.size - nh)).map fun p => (ix.getD (nh + p) 0, fls.getD p [])) = tll)
    (h : CHeadF C σ ops (fun E' S => CTailA C ops al qs Q S tll E' σ) hd1l E []) : CWp C n (.region id ops true) Q E σ := fun M w a hr hf => by
  subst hd1 hd2
  have hok := floatOkA hB
  obtain ⟨hs, h0, h1, h2, h3⟩ := cheadF_vals _ _ _ h
  obtain ⟨hr', hx⟩ := hr.drew
  have hl : hs.length = nh := by rw [h0, List.length_take, hok.len]; have := hok.le; omega
  refine wp_region_any hm (any_floatA hok (S := _) hl (fun k i hk hi => ?_) hz (fun i hi i' o o' d h1 h2 h3 h4 => ?_) (fun o ho d hod => ?_) (fun k o c g σ' hk hS => ?_) M w _ ops.size 0 [] (Array.replicate ops.size false) (List.range ops.size) σ a _ M (fun _ => 0) rfl (by simp) (by simp) (fun i hi _ => by simpa using hi) (fun i hi => ?_) List.nodup_range (fun k o hk hkl => ?_) (by have := hok.le; omega) rfl (fun k i h1 h2 => by omega) (fun k i o c g h1 h2 => by omega) (fun k i _ hi h => ?_) (fun k k' i i' _ _ h1 _ h => ?_) (fun k i o c g _ _ _ hk => h3 k o c g hk) (by rw [List.append_nil, List.drop_zero]; exact h2) hx hr' ?_)
  · exact h1 k i (by rw [List.getElem?_take, if_pos hk]; exact hi)
  · unfold dstB at hu
    rw [List.all_eq_true] at hu
    have := hu i hi
    rw [List.all_eq_true] at this
    have := this i' (by simpa using (Array.getElem?_eq_some_iff.1 h2).1)
    simp only [h1, h2, Option.bind_some, h3, h4] at this
    simpa using this
  · rw [List.all_eq_true] at hd
    have := hd o (by simpa using ho)
    rw [hod] at this
    simpa [Nat.blt_eq] using this
  · have hlt := (List.getElem?_eq_some_iff.1 hk).1
    rw [List.nil_append] at hS
    have e : (((List.range hs.length).map (Stab C ops hs E)).getD k fun _ => True) = Stab C ops hs E k := by simp [List.getD_eq_getElem?_getD, hlt]
    rw [e] at hS
    simpa only [Stab, hk] using hS
  · have : i < ops.size := by simpa using hi
    exact ⟨this, by simp [this]⟩
  · have hks : k < ops.size := (Array.getElem?_eq_some_iff.1 hk).1
    simp [hks] at hkl
  · simp [hok.lt _ _ hi] at h
  · simp [hok.lt _ _ h1] at h
  · have hff : envOf (fun k => (Array.replicate ops.size false).getD (ix.getD k 0) false) 0 (hs ++ []) E = E := envOf_off _ _ _ fun i _ => by
      simp only [Array.getD_eq_getD_getElem?, Array.getElem?_replicate]
      split <;> rfl
    rw [hff]
    have hf' := hf.mono hx
    exact ⟨hf'.defers, hf'.size, fun t ht => hf'.rv t ht.2, fun t ht => hf'.un t ht.2⟩
theorem cta_nil {al qs : List Nat} {Q : CExit → Env → List CObj → Prop} {E : Env} {S : List (List CObj → Prop)} (h : Q .normal E σ) : CTailA C ops al qs Q S [] E σ := h
theorem cta_d {al qs : List Nat} {Q : CExit → Env → List CObj → Prop} {E : Env} {S : List (List CObj → Prop)} {i : Nat} {fl : List Nat} {l : List (Nat × List Nat)} {o : Oper} (hqs : qs.contains i = false) (hal : al.contains i = false) (ho : ops[i]? = some o) (hg : o.guard = none) (h : Does C σ E o fun r σ' => match r with | .ret c => Floats S σ' fl ∧ CTailA C ops al qs Q S l (E.put o.dst c True) σ' | .pan _ => False) : CTailA C ops al qs Q S ((i, fl) :: l) E σ :=
  ⟨o, ho, .inr ⟨hqs, .inl ⟨hal, .inl (.inl ⟨hg, h⟩)⟩⟩⟩
theorem cta_h {al qs : List Nat} {Q : CExit → Env → List CObj → Prop} {E : Env} {S : List (List CObj → Prop)} {i : Nat} {fl : List Nat} {l : List (Nat × List Nat)} {o : Oper} {c : CV} {g : Prop} (hqs : qs.contains i = false) (hal : al.contains i = false) (ho : ops[i]? = some o) (hop : HeadOp C σ ops o E c g) (h : Floats S σ fl ∧ CTailA C ops al qs Q S l (E.put o.dst c g) σ) : CTailA C ops al qs Q S ((i, fl) :: l) E σ :=
  ⟨o, ho, .inr ⟨hqs, .inl ⟨hal, .inl (.inr ⟨c, g, hop, h⟩)⟩⟩⟩
theorem cta_gd {al qs : List Nat} {Q : CExit → Env → List CObj → Prop} {E : Env} {S : List (List CObj → Prop)} {i : Nat} {fl : List Nat} {l : List (Nat × List Nat)} {o : Oper} {j t : Nat} {want b : Bool} (c0 : CV) (hqs : qs.contains i = false) (hal : al.contains i = false) (ho : ops[i]? = some o) (hg : o.guard = some (j, want)) (ht : (ops[j]?).bind (·.dst) = some t) (hv : E.ok t) (hb : E.f t = .val (.bool b))
    (hy : b = want → Does C σ E o fun r σ' => match r with | .ret c => Floats S σ' fl ∧ CTailA C ops al qs Q S l (E.put o.dst c (b = want)) σ' | .pan _ => False) (hn : ¬ b = want → Floats S σ fl ∧ CTailA C ops al qs Q S l (E.put o.dst c0 (b = want)) σ) : CTailA C ops al qs Q S ((i, fl) :: l) E σ :=
  ⟨o, ho, .inr ⟨hqs, .inl ⟨hal, .inr ⟨j, t, want, b, c0, hg, ht, hv, hb, hy, hn⟩⟩⟩⟩
theorem cta_a {al qs : List Nat} {Q : CExit → Env → List CObj → Prop} {E : Env} {S : List (List CObj → Prop)} {i : Nat} {fl : List Nat} {l : List (Nat × List Nat)} {o : Oper} {t : TypeId} {z : Value} (hqs : qs.contains i = false) (ho : ops[i]? = some o) (hg : o.guard = none) (hot : o.op = .alloc t) (hz : ∀ w, (zeroValue t).run C.P w = .ok z w) (hz1 : constOk z = true) (hz2 : (cvOf z).one = true ∨ ∃ cs, cvOf z = .agg cs)
    (h : Floats S (σ ++ [.box (cvOf z).cells]) fl ∧ CTailA C ops al qs Q S l (E.put o.dst (.ptr σ.length 0) True) (σ ++ [.box (cvOf z).cells])) : CTailA C ops al qs Q S ((i, fl) :: l) E σ :=
  ⟨o, ho, .inr ⟨hqs, .inr ⟨hg, t, z, hot, hz, hz1, hz2, h⟩⟩⟩
theorem cta_q {al qs : List Nat} {Q : CExit → Env → List CObj → Prop} {E : Env} {S : List (List CObj → Prop)} {i : Nat} {fl : List Nat} {l : List (Nat × List Nat)} {o : Oper} {c : CV} {g : Prop} (hqs : qs.contains i = true) (ho : ops[i]? = some o) (hop : ∀ σ', HeadOp C σ' ops o E c g) (h : CTailA C ops al qs Q S l (E.put o.dst c g) σ) : CTailA C ops al qs Q S ((i, fl) :: l) E σ :=
  ⟨o, ho, .inl ⟨hqs, c, g, hop, h⟩⟩
end
end Go.Cl
