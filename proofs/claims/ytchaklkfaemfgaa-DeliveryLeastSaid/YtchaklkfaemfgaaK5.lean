import Derived.Test.YtchaklkfaemfgaaK4
namespace Go.Cl
/-! ### Regions that draw their order: a head that only yields, in whatever order; behind it a tail that waits for all of it -/

def binding (e : Edge) : Bool := Region.binds .any e

/-- The check of a region: 'ms': of each operation the set of those that it waits for. -/
def headB (ops : Array Oper) (nh : Nat) (ms : List Nat) : Bool :=
  Nat.ble nh ops.size &&
  (List.range ops.size).all fun j =>
    match ops[j]? with
    | none => true
    | some o =>
      (o.after.toList.all fun e => !binding e || Nat.blt e.on j) &&
      ((List.range ops.size).all fun i => !(ms.getD j 0).testBit i || o.after.toList.any fun e => binding e && (Nat.beq e.on i || (ms.getD e.on 0).testBit i)) &&
      (if Nat.ble nh j then (List.range j).all fun i => (ms.getD j 0).testBit i
       else
        ((o.looksAt ops).all fun t => (List.range ops.size).all fun i => Nat.beq i j || !((ops[i]?).bind (·.dst) == some t) || (if Nat.blt i j then (ms.getD j 0).testBit i else (ms.getD i 0).testBit j)) &&
        (o.dst == none || (List.range nh).all fun i => Nat.beq i j || !((ops[i]?).bind (·.dst) == o.dst)))

structure HeadOk (ops : Array Oper) (nh : Nat) (ms : List Nat) : Prop where
  le : nh ≤ ops.size
  edge : ∀ j o, ops[j]? = some o → ∀ e ∈ o.after, binding e = true → e.on < j
  mask : ∀ j o, ops[j]? = some o → ∀ i, i < ops.size → (ms.getD j 0).testBit i = true → ∃ e ∈ o.after, binding e = true ∧ (e.on = i ∨ (ms.getD e.on 0).testBit i = true)
  tail : ∀ j, nh ≤ j → j < ops.size → ∀ i, i < j → (ms.getD j 0).testBit i = true
  tmps : ∀ j o, j < nh → ops[j]? = some o → ∀ t ∈ o.looksAt ops, ∀ i, i < ops.size → i ≠ j → (ops[i]?).bind (·.dst) = some t → (i < j ∧ (ms.getD j 0).testBit i = true) ∨ (j < i ∧ (ms.getD i 0).testBit j = true)
  uniq : ∀ j o d, j < nh → ops[j]? = some o → o.dst = some d → ∀ i, i < nh → i ≠ j → (ops[i]?).bind (·.dst) ≠ some d

theorem headOk {ops : Array Oper} {nh : Nat} {ms : List Nat} (h : headB ops nh ms = true) : HeadOk ops nh ms := by
  simp only [headB, Bool.and_eq_true, List.all_eq_true, List.mem_range] at h
  obtain ⟨h0, h⟩ := h
  have get : ∀ j o, ops[j]? = some o → _ := fun j o ho => by
    have hj : j < ops.size := (Array.getElem?_eq_some_iff.1 ho).1
    have := h j hj
    rw [ho] at this
    simp only [Bool.and_eq_true] at this
    exact this
  refine ⟨Nat.le_of_ble_eq_true h0, fun j o ho e he hb => ?_, fun j o ho i hi hm => ?_, fun j hn hj i hi => ?_, fun j o hn ho t ht i hi hne hd => ?_, fun j o d hn ho hd i hi hne => ?_⟩
  · have := (get j o ho).1.1
    rw [List.all_eq_true] at this
    have := this e (by simpa using he)
    simp only [hb, Bool.not_true, Bool.false_or] at this
    simpa [Nat.blt_eq] using this
  · have := (get j o ho).1.2
    rw [List.all_eq_true] at this
    have := this i (by simpa using hi)
    simp only [hm, Bool.not_true, Bool.false_or, List.any_eq_true, Bool.and_eq_true, Bool.or_eq_true] at this
    obtain ⟨e, he, hb, hx⟩ := this
    refine ⟨e, by simpa using he, hb, ?_⟩
    rcases hx with hx | hx
    · exact .inl (Nat.eq_of_beq_eq_true hx)
    · exact .inr hx
  · have ho : ops[j]? = some ops[j] := by simp [hj]
    have := (get j _ ho).2
    rw [if_pos (by simpa [Nat.ble_eq] using hn), List.all_eq_true] at this
    exact this i (by simpa using hi)
  · have := (get j o ho).2
    rw [if_neg (by simp [Nat.ble_eq]; omega)] at this
    simp only [Bool.and_eq_true] at this
    have h1 := this.1
    rw [List.all_eq_true] at h1
    have h2 := h1 t ht
    rw [List.all_eq_true] at h2
    have h3 := h2 i (by simpa using hi)
    have e1 : Nat.beq i j = false := Bool.eq_false_iff.2 fun hb => hne (Nat.eq_of_beq_eq_true hb)
    simp only [e1, hd, Bool.false_or, beq_self_eq_true, Bool.not_true] at h3
    by_cases hlt : i < j
    · rw [if_pos (by simpa [Nat.blt_eq] using hlt)] at h3
      exact .inl ⟨hlt, h3⟩
    · rw [if_neg (by simp [Nat.blt_eq]; omega)] at h3
      exact .inr ⟨by omega, h3⟩
  · have := (get j o ho).2
    rw [if_neg (by simp [Nat.ble_eq]; omega)] at this
    simp only [Bool.and_eq_true] at this
    have h1 := this.2
    simp only [hd, Bool.or_eq_true, List.all_eq_true, List.mem_range] at h1
    rcases h1 with h1 | h1
    · cases h1
    · have h3 := h1 i hi
      intro hc
      rcases h3 with h3 | h3
      · exact hne (Nat.eq_of_beq_eq_true h3)
      · simp [hc] at h3

section
variable {C : Ctx} {n : Nat} {σ : List CObj} {ops : Array Oper}

/-- What is asked of one operation of the head. -/
def HeadOp (C : Ctx) (σ : List CObj) (ops : Array Oper) (o : Oper) (E : Env) (c : CV) (g : Prop) : Prop :=
  (o.guard = none ∧ g ∧ Yields C σ E o c) ∨
  (∃ j t want b, o.guard = some (j, want) ∧ (ops[j]?).bind (·.dst) = some t ∧ (¬ E.ok t → E.un t) ∧ E.f t = .val (.bool b) ∧ (g ↔ (E.ok t ∧ b = want)) ∧ (E.ok t → b = want → Yields C σ E o c))

def CHead (C : Ctx) (σ : List CObj) (ops : Array Oper) (K : Env → Prop) : List Oper → Env → Prop
  | [], E => K E
  | o :: l, E => ∃ c g, HeadOp C σ ops o E c g ∧ CHead C σ ops K l (E.put o.dst c g)

theorem ch_nil {K : Env → Prop} {E : Env} (h : K E) : CHead C σ ops K [] E := h
theorem ch_y {K : Env → Prop} {E : Env} {o : Oper} {l : List Oper} {c : CV} (hg : o.guard = none) (hy : Yields C σ E o c) (h : CHead C σ ops K l (E.put o.dst c True)) : CHead C σ ops K (o :: l) E :=
  ⟨c, True, .inl ⟨hg, trivial, hy⟩, h⟩
theorem ch_g {K : Env → Prop} {E : Env} {o : Oper} {l : List Oper} {j t : Nat} {want b : Bool} {c : CV} (hg : o.guard = some (j, want)) (ht : (ops[j]?).bind (·.dst) = some t) (hv : E.ok t) (hb : E.f t = .val (.bool b))
    (hy : b = want → Yields C σ E o c) (h : CHead C σ ops K l (E.put o.dst c (b = want))) : CHead C σ ops K (o :: l) E :=
  ⟨c, b = want, .inr ⟨j, t, want, b, hg, ht, fun h => absurd hv h, hb, ⟨fun h => ⟨hv, h⟩, fun h => h.2⟩, fun _ => hy⟩, h⟩
theorem ch_g2 {K : Env → Prop} {E : Env} {o : Oper} {l : List Oper} {j t : Nat} {want b : Bool} {c : CV} (hg : o.guard = some (j, want)) (ht : (ops[j]?).bind (·.dst) = some t) (hv : ¬ E.ok t → E.un t) (hb : E.f t = .val (.bool b))
    (hy : E.ok t → b = want → Yields C σ E o c) (h : CHead C σ ops K l (E.put o.dst c (E.ok t ∧ b = want))) : CHead C σ ops K (o :: l) E :=
  ⟨c, E.ok t ∧ b = want, .inr ⟨j, t, want, b, hg, ht, hv, hb, Iff.rfl, hy⟩, h⟩

/-- The frame when just the listed operations have come up. -/
def envOf (L : Nat → Bool) : Nat → List (Oper × CV × Prop) → Env → Env
  | _, [], E => E
  | k, (o, c, g) :: l, E => envOf L (k + 1) l (match L k with | true => E.put o.dst c g | false => E)

def Env.agree (t : Nat) (E E' : Env) : Prop := E.f t = E'.f t ∧ E.ok t = E'.ok t ∧ E.un t = E'.un t

theorem agree_put {t : Nat} {E E' : Env} {d : Option Nat} {c : CV} {g : Prop} (h : d = some t ∨ E.agree t E') : (E.put d c g).agree t (E'.put d c g) := by
  cases d with
  | none => rcases h with h | h
            · cases h
            · exact h
  | some d =>
    unfold Env.agree
    simp only [Env.put_f, Env.put_ok, Env.put_un]
    by_cases ht : t = d
    · subst ht; simp
    · simp only [if_neg ht]
      rcases h with h | h
      · injection h with h; exact absurd h.symm ht
      · exact h
theorem agree_put_other {t : Nat} {E E' : Env} {d : Option Nat} {c : CV} {g : Prop} (hd : d ≠ some t) (h : E.agree t E') : (E.put d c g).agree t E' := by
  cases d with
  | none => exact h
  | some d =>
    have ht : t ≠ d := fun e => hd (by rw [e])
    unfold Env.agree
    simp only [Env.put_f, Env.put_ok, Env.put_un, if_neg ht]
    exact h
theorem Env.agree.symm {t : Nat} {E E' : Env} (h : E.agree t E') : E'.agree t E := ⟨h.1.symm, h.2.1.symm, h.2.2.symm⟩

theorem envOf_agree {t : Nat} {L L' : Nat → Bool} : ∀ (l : List (Oper × CV × Prop)) (k : Nat) (E E' : Env), E.agree t E' → (∀ i x, l[i]? = some x → x.1.dst = some t → L (k + i) = L' (k + i)) → (envOf L k l E).agree t (envOf L' k l E')
  | [], _, _, _, h, _ => h
  | (o, c, g) :: l, k, E, E', h, hl => by
    simp only [envOf]
    refine envOf_agree l (k + 1) _ _ ?_ (fun i x hi hx => by
      have := hl (i + 1) x (by simpa using hi) hx
      rwa [show k + (i + 1) = k + 1 + i from by omega] at this)
    by_cases hd : o.dst = some t
    · have := hl 0 _ rfl hd
      rw [Nat.add_zero] at this
      rw [this]
      cases L' k
      · exact h
      · exact agree_put (.inl hd)
    · have h1 : (match L k with | true => E.put o.dst c g | false => E).agree t E' := by
        cases L k
        · exact h
        · exact agree_put_other hd h
      cases L' k
      · exact h1
      · exact (agree_put_other hd h1.symm).symm

/-- The slot that the operation 'j' writes, when it is listed. -/
theorem envOf_at {d : Nat} {L : Nat → Bool} : ∀ (l : List (Oper × CV × Prop)) (k j : Nat) (E : Env) (o : Oper) (c : CV) (g : Prop), l[j]? = some (o, c, g) → o.dst = some d → L (k + j) = true → (∀ i x, l[i]? = some x → i ≠ j → x.1.dst ≠ some d) →
    (envOf L k l E).f d = c ∧ (envOf L k l E).ok d = g ∧ (envOf L k l E).un d = (¬ g)
  | [], _, _, _, _, _, _, h, _, _, _ => by simp at h
  | (o', c', g') :: l, k, 0, E, o, c, g, h, hd, hL, hu => by
    simp only [List.getElem?_cons_zero, Option.some.injEq, Prod.mk.injEq] at h
    obtain ⟨rfl, rfl, rfl⟩ := h
    rw [Nat.add_zero] at hL
    simp only [envOf, hL]
    have : (envOf L (k + 1) l (E.put o'.dst c' g')).agree d (envOf (fun _ => false) (k + 1) l (E.put o'.dst c' g')) := envOf_agree l _ _ _ ⟨rfl, rfl, rfl⟩ fun i x hi hx => absurd hx (hu (i + 1) x (by simpa using hi) (by omega))
    have hall : ∀ (l : List (Oper × CV × Prop)) (k : Nat) (E : Env), envOf (fun _ => false) k l E = E := by
      intro l
      induction l with
      | nil => intros; rfl
      | cons x l ih => intro k E; obtain ⟨a, b, c⟩ := x; simp only [envOf]; exact ih _ _
    rw [hall] at this
    rw [this.1, this.2.1, this.2.2, hd, Env.put_f, Env.put_ok, Env.put_un]
    simp
  | (o', c', g') :: l, k, j + 1, E, o, c, g, h, hd, hL, hu => by
    simp only [envOf]
    exact envOf_at l (k + 1) j _ o c g (by simpa using h) hd (by rwa [show k + 1 + j = k + (j + 1) from by omega]) fun i x hi hne => hu (i + 1) x (by simpa using hi) (by omega)

/-- The text's order: the chain of frames. -/
theorem chead_vals {K : Env → Prop} : ∀ (l : List Oper) (E : Env), CHead C σ ops K l E → ∃ hs : List (Oper × CV × Prop), hs.map (·.1) = l ∧ K (envOf (fun _ => true) 0 hs E) ∧
    ∀ i o c g, hs[i]? = some (o, c, g) → HeadOp C σ ops o (envOf (fun k => decide (k < i)) 0 hs E) c g
  | [], E, h => ⟨[], rfl, h, by simp⟩
  | o :: l, E, ⟨c, g, h1, h2⟩ => by
    obtain ⟨hs, e1, e2, e3⟩ := chead_vals l _ h2
    have shift : ∀ (L : Nat → Bool) (l : List (Oper × CV × Prop)) (k : Nat) (E : Env), envOf L (k + 1) l E = envOf (fun i => L (i + 1)) k l E := by
      intro L l
      induction l with
      | nil => intros; rfl
      | cons x l ih => intro k E; obtain ⟨a, b, c⟩ := x; simp only [envOf]; exact ih _ _
    refine ⟨(o, c, g) :: hs, by simp [e1], ?_, fun i o' c' g' hi => ?_⟩
    · simp only [envOf]
      rw [shift]
      exact e2
    · rcases i with _ | i
      · simp only [List.getElem?_cons_zero, Option.some.injEq, Prod.mk.injEq] at hi
        obtain ⟨rfl, rfl, rfl⟩ := hi
        have hall : ∀ (l : List (Oper × CV × Prop)) (k : Nat) (E : Env), envOf (fun k => decide (k < 0)) k l E = E := by
          intro l
          induction l with
          | nil => intros; rfl
          | cons x l ih =>
            intro k E; obtain ⟨a, b, c⟩ := x; simp only [envOf]
            have : decide (k < 0) = false := by simp
            rw [this]
            exact ih _ _
        rw [hall]
        exact h1
      · have := e3 i o' c' g' (by simpa using hi)
        simp only [envOf]
        have h0 : decide (0 < i + 1) = true := by simp
        rw [h0, shift]
        have e : (fun k => decide (k + 1 < i + 1)) = fun k => decide (k < i) := by funext k; simp
        rw [e]
        exact this

theorem anc_listed {nh : Nat} {ms : List Nat} (hok : HeadOk ops nh ms) {listed : Array Bool} (hcl : ∀ k o, ops[k]? = some o → listed.getD k false = true → ∀ e ∈ o.after, binding e = true → listed.getD e.on false = true) :
    ∀ (j : Nat) (o : Oper), ops[j]? = some o → (∀ e ∈ o.after, binding e = true → listed.getD e.on false = true) → ∀ i, i < ops.size → (ms.getD j 0).testBit i = true → listed.getD i false = true := by
  intro j
  induction j using Nat.strongRecOn with
  | _ j ih =>
    intro o ho he i hi hm
    obtain ⟨e, hmem, hb, hx⟩ := hok.mask j o ho i hi hm
    rcases hx with hx | hx
    · subst hx; exact he e hmem hb
    · have hlt := hok.edge j o ho e hmem hb
      have hj : j < ops.size := (Array.getElem?_eq_some_iff.1 ho).1
      have ho' : ops[e.on]? = some (ops[e.on]'(by omega)) := by simp [show e.on < ops.size by omega]
      exact ih e.on hlt _ ho' (hcl _ _ ho' (he e hmem hb)) i hi hx

theorem getD_false_true {listed : Array Bool} {i : Nat} (hi : i < listed.size) : (listed.getD i true = false) ↔ (listed.getD i false = false) := by
  simp [hi]

/-- The tail, in its only order. -/
theorem any_tail {nh : Nat} {ms : List Nat} (hok : HeadOk ops nh ms) {Q : Exit → Act → World → Prop} : ∀ (l : List Oper) (j : Nat) (listed : Array Bool) (a : Act) (w : World), nh ≤ j → (∀ i, l[i]? = ops[j + i]?) → listed.size = ops.size →
    (∀ i, i < ops.size → listed.getD i false = decide (i < j)) → wpList C.P ops Q l a w → wpAny C.P .any ops Q l.length listed a w
  | [], j, listed, a, w, _, hl, hsz, hL, h => by
    refine ⟨?_, h⟩
    have hj : ops.size ≤ j := by
      rcases Nat.lt_or_ge j ops.size with h' | h'
      · have := hl 0
        simp [h'] at this
      · exact h'
    apply List.eq_nil_iff_forall_not_mem.2
    intro i hi
    obtain ⟨h1, o, ho, _⟩ := mem_ready.1 hi
    have hi' : i < ops.size := (Array.getElem?_eq_some_iff.1 ho).1
    have h2 := hL i hi'
    rw [(getD_false_true (by omega)).1 h1] at h2
    simp at h2; omega
  | o :: l, j, listed, a, w, hn, hl, hsz, hL, h => by
    have hj : ops[j]? = some o := by have := hl 0; simpa using this.symm
    have hjs : j < ops.size := (Array.getElem?_eq_some_iff.1 hj).1
    have hrdy : j ∈ Region.ready .any ops listed := mem_ready.2 ⟨(getD_false_true (by omega)).2 (by rw [hL j hjs]; simp), o, hj, fun e he hb => by
      have := hok.edge j o hj e he hb
      rw [hL e.on (by omega)]; simpa using this⟩
    refine ⟨fun h0 => (by rw [h0] at hrdy; cases hrdy), fun i hi => ?_⟩
    have hij : i = j := by
      obtain ⟨h1, o', ho', he⟩ := mem_ready.1 hi
      have hi' : i < ops.size := (Array.getElem?_eq_some_iff.1 ho').1
      have h2 := hL i hi'
      rw [(getD_false_true (by omega)).1 h1] at h2
      have hge : j ≤ i := by simp at h2; omega
      rcases Nat.lt_or_ge j i with hlt | hge'
      · have hm := hok.tail i (by omega) hi' j hlt
        have := anc_listed hok (listed := listed) (fun k ok hk hkl e hek hb => by
          have hks : k < ops.size := (Array.getElem?_eq_some_iff.1 hk).1
          rw [hL k hks] at hkl
          have := hok.edge k ok hk e hek hb
          rw [hL e.on (by omega)]
          simp at hkl ⊢; omega) i o' ho' (fun e hek hb => he e hek hb) j hjs hm
        rw [hL j hjs] at this
        simp at this
      · omega
    subst hij
    have hK : ∀ a w, wpList C.P ops Q l a w → wpAny C.P .any ops Q l.length (listed.setIfInBounds i true) a w := fun a w h =>
      any_tail hok l (i + 1) _ a w (by omega) (fun k => by have := hl (k + 1); simpa [Nat.add_assoc, Nat.add_comm 1 k] using this) (by simp [hsz]) (fun k hk => by
        by_cases hik : i = k
        · subst hik
          have : i < listed.size := by omega
          simp [this]
        · simp only [Array.getD_eq_getD_getElem?, Array.getElem?_setIfInBounds_ne hik]
          rw [← Array.getD_eq_getD_getElem?, hL k hk]
          by_cases h1 : k < i
          · have h2 : k < i + 1 := by omega
            simp [h1, h2]
          · have h2 : ¬ k < i + 1 := by omega
            simp [h1, h2]) h
    unfold wpList at h
    unfold wpOp
    simp only [hj]
    split
    · rename_i hw
      rw [if_pos hw] at h
      exact h.imp (Oper.wp_mono hK) id
    · rename_i hw
      rw [if_neg hw] at h
      exact hK _ _ h

theorem looksAt_op {o : Oper} {t : Nat} (h : Operand.tmp t ∈ o.op.operands) : t ∈ o.looksAt ops :=
  List.mem_append_left _ (List.mem_filterMap.2 ⟨.tmp t, by simpa using h, rfl⟩)
theorem looksAt_guard {o : Oper} {j t : Nat} {want : Bool} (hg : o.guard = some (j, want)) (ht : (ops[j]?).bind (·.dst) = some t) : t ∈ o.looksAt ops := by
  unfold Oper.looksAt
  rw [hg]
  exact List.mem_append_right _ (by simp [ht])

theorem any_head {nh : Nat} {ms : List Nat} (hok : HeadOk ops nh ms) {Q : CExit → Env → List CObj → Prop} {E : Env} {hs : List (Oper × CV × Prop)} (hhs : hs.map (·.1) = ops.toList.take nh)
    (hd : ∀ o ∈ ops, ∀ d, o.dst = some d → d < n)
    (hval : ∀ i o c g, hs[i]? = some (o, c, g) → HeadOp C σ ops o (envOf (fun k => decide (k < i)) 0 hs E) c g)
    (hfin : COps C n ops Q (ops.toList.drop nh) (envOf (fun _ => true) 0 hs E) σ) (M0 : Plan) (w0 : World) :
    ∀ (fuel : Nat) (listed : Array Bool) (u : List Nat) (a : Act) (w : World) (M : Plan), listed.size = ops.size → u.length = fuel → (∀ i, i < ops.size → listed.getD i false = false → i ∈ u) → (∀ i, i ∈ u → i < ops.size ∧ listed.getD i false = false) → u.Nodup →
      (∀ k o, ops[k]? = some o → listed.getD k false = true → ∀ e ∈ o.after, binding e = true → listed.getD e.on false = true) → (∀ i, nh ≤ i → i < ops.size → listed.getD i false = false) →
      Ext M0 w0 M w → Rel C M σ w → FRel M w n (envOf (fun k => listed.getD k false) 0 hs E) a → wpAny C.P .any ops (Lift C n Q M0 w0) fuel listed a w := by
  have hget : ∀ i o, i < nh → ops[i]? = some o → ∃ c g, hs[i]? = some (o, c, g) := fun i o hi ho => by
    have h1 : (hs.map (·.1))[i]? = some o := by rw [hhs, List.getElem?_take, if_pos hi]; simpa using ho
    rw [List.getElem?_map, Option.map_eq_some_iff] at h1
    obtain ⟨⟨o', c, g⟩, h1, rfl⟩ := h1
    exact ⟨c, g, h1⟩
  have hback : ∀ i x, hs[i]? = some x → i < nh ∧ ops[i]? = some x.1 := fun i x hi => by
    have h1 : (hs.map (·.1))[i]? = some x.1 := by rw [List.getElem?_map, hi]; rfl
    rw [hhs, List.getElem?_take] at h1
    split at h1
    · exact ⟨‹_›, by simpa using h1⟩
    · cases h1
  -- the tail begins
  have toTail : ∀ (fuel : Nat) (listed : Array Bool) (a : Act) (w : World) (M : Plan), listed.size = ops.size → fuel = (ops.toList.drop nh).length → (∀ i, i < nh → listed.getD i false = true) → (∀ i, nh ≤ i → i < ops.size → listed.getD i false = false) →
      Ext M0 w0 M w → Rel C M σ w → FRel M w n (envOf (fun k => listed.getD k false) 0 hs E) a → wpAny C.P .any ops (Lift C n Q M0 w0) fuel listed a w := by
    intro fuel listed a w M hsz hfu h1 h2 hx hr hf
    subst hfu
    refine any_tail hok _ nh listed a w (Nat.le_refl _) (fun i => by simp) hsz (fun i hi => ?_) ?_
    · by_cases h : i < nh
      · rw [h1 i h]; simp [h]
      · rw [h2 i (by omega) hi]; simp [h]
    · have hag : ∀ t, (envOf (fun _ => true) 0 hs E).agree t (envOf (fun k => listed.getD k false) 0 hs E) := fun t => envOf_agree hs 0 E E ⟨rfl, rfl, rfl⟩ fun i x hi _ => by
        have := (hback i x hi).1
        simp [h1 i this]
      refine hfin.later hx hr ⟨hf.defers, hf.size, fun t ht => ?_, fun t ht => hf.un t (by rw [← (hag t).2.2]; exact ht)⟩
      rw [(hag t).1]
      exact hf.rv t (by rw [← (hag t).2.1]; exact ht)
  intro fuel
  induction fuel with
  | zero =>
    intro listed u a w M hsz hu hun _ _ hcl htl hx hr hf
    have hu0 : u = [] := List.eq_nil_of_length_eq_zero hu
    subst hu0
    have hall : ∀ i, i < ops.size → listed.getD i false = true := fun i hi => by
      cases h : listed.getD i false with
      | true => rfl
      | false => exact absurd (hun i hi h) (by simp)
    have hns : ops.size ≤ nh := by
      rcases Nat.lt_or_ge nh ops.size with h | h
      · have h1 := hall nh h
        rw [htl nh (Nat.le_refl _) h] at h1
        cases h1
      · exact h
    refine toTail 0 listed a w M hsz (by simp; omega) (fun i hi => hall i (by have := hok.le; omega)) htl hx hr hf
  | succ fuel ih =>
    intro listed u a w M hsz hu hun hun' hnd hcl htl hx hr hf
    -- the least that has not come up is ready
    have hleast : ∃ j, j ∈ Region.ready .any ops listed := by
      have hex : ∃ j, j < ops.size ∧ listed.getD j false = false := by
        cases u with
        | nil => simp at hu
        | cons x u => exact ⟨x, hun' x (by simp)⟩
      obtain ⟨j, hj, hmin⟩ : ∃ j, (j < ops.size ∧ listed.getD j false = false) ∧ ∀ i, i < j → ¬ (i < ops.size ∧ listed.getD i false = false) := by
        obtain ⟨j, hj⟩ := hex
        induction j using Nat.strongRecOn with
        | _ j ihj =>
          by_cases h : ∃ i, i < j ∧ i < ops.size ∧ listed.getD i false = false
          · obtain ⟨i, hi, hp⟩ := h
            exact ihj i hi hp
          · exact ⟨j, hj, fun i hi hp => h ⟨i, hi, hp⟩⟩
      refine ⟨j, mem_ready.2 ⟨(getD_false_true (by omega)).2 hj.2, ops[j]'hj.1, by simp [hj.1], fun e he hb => ?_⟩⟩
      have hlt := hok.edge j _ (by simp [hj.1]) e he hb
      cases h : listed.getD e.on false with
      | true => rfl
      | false => exact absurd ⟨by omega, h⟩ (hmin e.on hlt)
    obtain ⟨j0, hj0⟩ := hleast
    by_cases htail : ∃ i ∈ Region.ready .any ops listed, nh ≤ i
    · -- the head is done
      obtain ⟨i, hi, hni⟩ := htail
      obtain ⟨h1, o, ho, he⟩ := mem_ready.1 hi
      have his : i < ops.size := (Array.getElem?_eq_some_iff.1 ho).1
      have hall : ∀ k, k < i → listed.getD k false = true := fun k hk => anc_listed hok hcl i o ho (fun e hek hb => he e hek hb) k (by omega) (hok.tail i hni his k hk)
      have hin : i = nh := by
        rcases Nat.lt_or_ge nh i with h | h
        · have := hall nh h
          rw [htl nh (Nat.le_refl _) (by omega)] at this
          cases this
        · omega
      subst hin
      refine toTail (fuel + 1) listed a w M hsz ?_ hall htl hx hr hf
      -- as many are left as the tail has
      have hperm : u.length = (List.range' i (ops.size - i)).length := by
        apply List.Perm.length_eq
        apply (List.perm_ext_iff_of_nodup hnd (List.nodup_range')).2
        intro k
        rw [List.mem_range'_1]
        constructor
        · intro hk
          obtain ⟨h2, h3⟩ := hun' k hk
          refine ⟨?_, by omega⟩
          rcases Nat.lt_or_ge k i with h4 | h4
          · rw [hall k h4] at h3; cases h3
          · exact h4
        · intro ⟨h2, h3⟩
          exact hun k (by omega) (htl k h2 (by omega))
      rw [hu] at hperm
      simp at hperm ⊢
      omega
    · refine ⟨fun h0 => (by rw [h0] at hj0; cases hj0), fun i hi => ?_⟩
      have hin : i < nh := by
        rcases Nat.lt_or_ge i nh with h | h
        · exact h
        · exact absurd ⟨i, hi, h⟩ htail
      obtain ⟨h1, o, ho, he⟩ := mem_ready.1 hi
      have his : i < ops.size := (Array.getElem?_eq_some_iff.1 ho).1
      have hiL : listed.getD i false = false := (getD_false_true (by omega)).1 h1
      obtain ⟨c, g, hc⟩ := hget i o hin ho
      have hop := hval i o c g hc
      -- what the operation looks at stands as in the text's order
      have hag : ∀ t, t ∈ o.looksAt ops → (envOf (fun k => decide (k < i)) 0 hs E).agree t (envOf (fun k => listed.getD k false) 0 hs E) := fun t ht => envOf_agree hs 0 E E ⟨rfl, rfl, rfl⟩ fun k x hk hkd => by
        rw [Nat.zero_add]
        obtain ⟨hkn, hko⟩ := hback k x hk
        have hks : k < ops.size := (Array.getElem?_eq_some_iff.1 hko).1
        by_cases hki : k = i
        · subst hki; rw [hiL]; simp
        · rcases hok.tmps i o hin ho t ht k hks hki (by rw [hko]; exact hkd) with ⟨h2, h3⟩ | ⟨h2, h3⟩
          · have := anc_listed hok hcl i o ho (fun e hek hb => he e hek hb) k hks h3
            rw [this]; simp [h2]
          · have : listed.getD k false = false := by
              cases h : listed.getD k false with
              | false => rfl
              | true =>
                have := anc_listed hok hcl k x.1 hko (hcl k x.1 hko h) i his h3
                rw [hiL] at this
                cases this
            rw [this]
            have : ¬ k < i := by omega
            simp [this]
      -- the next state
      have next : ∀ (v : Value) (w' : World) (M' : Plan), Ext M w M' w' → Rel C M' σ w' → (g → RV M' w' c v) → (¬ g → v = undef) → wpAny C.P .any ops (Lift C n Q M0 w0) fuel (listed.setIfInBounds i true) (a.put o.dst v) w' := by
        intro v w' M' hx' hr' hv hun0
        have hiu : i ∈ u := hun i his hiL
        have hgd : ∀ k, (listed.setIfInBounds i true).getD k false = if k = i then true else listed.getD k false := fun k => by
          by_cases hki : k = i
          · subst hki
            have : k < listed.size := by omega
            simp [this]
          · rw [if_neg hki]
            simp [Array.getElem?_setIfInBounds_ne (Ne.symm hki)]
        refine ih (listed.setIfInBounds i true) (u.erase i) _ w' M' (by simp [hsz]) (by rw [List.length_erase_of_mem hiu, hu]; rfl) (fun k hk hkl => ?_) (fun k hk => ?_) (hnd.erase i) (fun k ok hk hkl e hek hb => ?_) (fun k hk hks => ?_) (hx.trans hx') hr' ?_
        · rw [hgd] at hkl
          split at hkl
          · cases hkl
          · rename_i hne
            exact (List.mem_erase_of_ne hne).2 (hun k hk hkl)
        · have hne : k ≠ i := fun e => by subst e; exact (hnd.not_mem_erase) hk
          rw [hgd, if_neg hne]
          exact hun' k (List.mem_of_mem_erase hk)
        · rw [hgd] at hkl ⊢
          split
          · rfl
          · split at hkl
            · rename_i hki
              subst hki
              rw [ho] at hk
              injection hk with hk
              subst hk
              exact he e hek hb
            · exact hcl k ok hk hkl e hek hb
        · rw [hgd, if_neg (by omega)]
          exact htl k hk hks
        · have hput := (hf.mono hx').put (d := o.dst) (c := c) (v := v) (g := g) (fun t ht => hd o (Array.mem_of_getElem? ho) t ht) hv hun0
          have hag' : ∀ t, (envOf (fun k => (listed.setIfInBounds i true).getD k false) 0 hs E).agree t ((envOf (fun k => listed.getD k false) 0 hs E).put o.dst c g) := by
            intro t
            by_cases hdt : o.dst = some t
            · have hat := envOf_at (L := fun k => (listed.setIfInBounds i true).getD k false) hs 0 i E o c g hc hdt (by simp only [Nat.zero_add, hgd, if_true]) (fun k x hk hne => by
                obtain ⟨hkn, hko⟩ := hback k x hk
                have := hok.uniq i o t hin ho hdt k hkn hne
                rw [hko] at this
                exact this)
              unfold Env.agree
              rw [hat.1, hat.2.1, hat.2.2, hdt, Env.put_f, Env.put_ok, Env.put_un]
              simp
            · refine (agree_put_other hdt ?_).symm
              refine envOf_agree hs 0 E E ⟨rfl, rfl, rfl⟩ fun k x hk hkd => ?_
              rw [Nat.zero_add, hgd]
              split
              · rename_i hki
                subst hki
                rw [hc] at hk
                injection hk with hk
                subst hk
                exact absurd hkd hdt
              · rfl
          refine ⟨hput.defers, hput.size, fun t ht => ?_, fun t ht => hput.un t (by rw [← (hag' t).2.2]; exact ht)⟩
          rw [(hag' t).1]
          exact hput.rv t (by rw [← (hag' t).2.1]; exact ht)
      unfold wpOp
      simp only [ho]
      have hopr : ∀ x ∈ o.op.operands, (envOf (fun k => decide (k < i)) 0 hs E).valid x → RV M w ((envOf (fun k => decide (k < i)) 0 hs E).val C x) (a.eval x) := fun x hx hv => by
        cases x with
        | tmp t =>
          have h2 := hag t (looksAt_op hx)
          simp only [Env.val, Env.valid] at hv ⊢
          rw [h2.1]
          exact hf.rv t (by rw [← h2.2.1]; exact hv)
        | const v => exact hf.eval (x := .const v) hr hv
        | global v => exact hf.eval (x := .global v) hr hv
        | func v => exact hf.eval (x := .func v) hr hv
      rcases hop with ⟨hg, hgp, hy⟩ | ⟨j, t, want, b, hg, ht, hok', hb, hgb, hy⟩
      · rw [if_pos (by simp [Region.wanted, hg])]
        refine .inl (wp_of_upon (hy M w a.eval hr hopr) (fun v w' ha => ?_) (fun ch w' ha => ?_))
        · obtain ⟨c', σ', M', h1, h2, h3, h4, rfl⟩ := ha
          injection h4 with h4
          subst h4
          exact next v w' M' h1 h2 (fun _ => h3) fun hh => absurd hgp hh
        · obtain ⟨c', v, σ', M', _, _, _, _, h4, _⟩ := ha
          cases h4
      · have h2 := hag t (looksAt_guard hg ht)
        by_cases hokt : (envOf (fun k => decide (k < i)) 0 hs E).ok t
        · have h3 : RV M w ((envOf (fun k => listed.getD k false) 0 hs E).f t) (a.tmps.getD t undef) := hf.rv t (by rw [← h2.2.1]; exact hokt)
          rw [← h2.1, hb] at h3
          have h4 := rv_val h3
          have hszt : t < a.tmps.size := by
            rcases Nat.lt_or_ge t a.tmps.size with h' | h'
            · exact h'
            · simp [Array.getElem?_eq_none h', undef] at h4
          have h5 : a.tmps[t]? = some (.bool b) := by
            rw [Array.getD_eq_getD_getElem?, Array.getElem?_eq_getElem hszt] at h4
            rw [Array.getElem?_eq_getElem hszt, ← h4]; rfl
          have h6 : yielded ops a.tmps j = some b := by unfold yielded; rw [ht, Option.bind_some, h5]
          have hw : Region.wanted o (yielded ops a.tmps) = (b == want) := by
            simp only [Region.wanted, hg, h6]
            cases b <;> cases want <;> rfl
          by_cases hbw : b = want
          · rw [if_pos (by rw [hw]; simpa using hbw)]
            refine .inl (wp_of_upon (hy hokt hbw M w a.eval hr hopr) (fun v w' ha => ?_) (fun ch w' ha => ?_))
            · obtain ⟨c', σ', M', h1, h2, h3, h4, rfl⟩ := ha
              injection h4 with h4
              subst h4
              exact next v w' M' h1 h2 (fun _ => h3) fun hh => absurd (hgb.2 ⟨hokt, hbw⟩) hh
            · obtain ⟨c', v, σ', M', _, _, _, _, h4, _⟩ := ha
              cases h4
          · rw [if_neg (by rw [hw]; simpa using hbw)]
            exact next undef w M (Ext.refl M w) hr (fun hgg => absurd (hgb.1 hgg).2 hbw) fun _ => rfl
        · have h3 := hf.un t (by rw [← h2.2.2]; exact hok' hokt)
          have h6 : yielded ops a.tmps j = none := by
            unfold yielded
            rw [ht, Option.bind_some]
            rcases Nat.lt_or_ge t a.tmps.size with h' | h'
            · rw [Array.getD_eq_getD_getElem?, Array.getElem?_eq_getElem h'] at h3
              rw [Array.getElem?_eq_getElem h']
              simp only [Option.getD_some] at h3
              rw [h3]
              rfl
            · rw [Array.getElem?_eq_none h']
          have hw : Region.wanted o (yielded ops a.tmps) = false := by
            simp only [Region.wanted, hg, h6]
            cases want <;> rfl
          rw [if_neg (by rw [hw]; simp)]
          exact next undef w M (Ext.refl M w) hr (fun hgg => absurd (hgb.1 hgg).1 hokt) fun _ => rfl

/-- A drawn order does not count as a change. -/
theorem Rel.drew {M : Plan} {w : World} (hr : Rel C M σ w) : Rel C M σ { w with drawn := w.drawn + 1 } ∧ Ext M w M { w with drawn := w.drawn + 1 } := by
  have hx : Ext M w M { w with drawn := w.drawn + 1 } := ⟨⟨[], by simp⟩, fun _ h => h, fun _ _ h => .inr h, fun _ _ => rfl, fun _ _ _ => rfl, Nat.le_refl _, rfl, rfl, rfl, fun _ h => ⟨h, rfl, id, fun _ => id⟩⟩
  refine ⟨⟨hr.len, hr.blk, fun k p ob hk hs => ⟨(hr.obj k p ob hk hs).1.mono hx rfl (fun _ _ _ h => h), (hr.obj k p ob hk hs).2⟩, hr.inj, fun g cells hg => (hr.glob g cells hg).mono hx, hr.kep, hr.nk⟩, hx⟩

theorem cw_draw {id : Nat} {Q : CExit → Env → List CObj → Prop} {E : Env} (nh : Nat) (ms : List Nat) (hm : C.P.follows .mixedOrders = true) (hB : headB ops nh ms = true) (hd : (ops.toList.all fun o => match o.dst with | some d => Nat.blt d n | none => true) = true)
    (h : CHead C σ ops (fun E' => COps C n ops Q (ops.toList.drop nh) E' σ) (ops.toList.take nh) E) : CWp C n (.region id ops true) Q E σ := fun M w a hr hf => by
  have hok := headOk hB
  obtain ⟨hs, h1, h2, h3⟩ := chead_vals _ _ h
  obtain ⟨hr', hx⟩ := hr.drew
  refine wp_region_any hm (any_head hok h1 (fun o ho d hod => ?_) h3 h2 M w ops.size (Array.replicate ops.size false) (List.range ops.size) a _ M (by simp) (by simp) (fun i hi _ => by simpa using hi) (fun i hi => ?_) List.nodup_range (fun k o hk hkl => ?_) (fun i _ hi => ?_) hx hr' ?_)
  · rw [List.all_eq_true] at hd
    have := hd o (by simpa using ho)
    rw [hod] at this
    simpa [Nat.blt_eq] using this
  · have : i < ops.size := by simpa using hi
    exact ⟨this, by simp [this]⟩
  · have hks : k < ops.size := (Array.getElem?_eq_some_iff.1 hk).1
    simp [hks] at hkl
  · simp [hi]
  · have hff : (fun k => (Array.replicate ops.size false).getD k false) = fun _ => false := by
      funext k
      simp only [Array.getD_eq_getD_getElem?, Array.getElem?_replicate]
      split <;> rfl
    rw [hff]
    have hall : ∀ (l : List (Oper × CV × Prop)) (k : Nat) (E : Env), envOf (fun _ => false) k l E = E := by
      intro l
      induction l with
      | nil => intros; rfl
      | cons x l ih => intro k E; obtain ⟨a, b, c⟩ := x; simp only [envOf]; exact ih _ _
    rw [hall]
    exact hf.mono hx
end
end Go.Cl
