import Derived.Test.YtchaklkfaemfgaaK19
namespace Go.Cl
/-! ### Regions in which quiet operations may come before or behind a change -/

/-- The check: 'ix' is an order of the text's operations, the first nh of them only yield; 'fls': which of these may still come behind each change. -/
def floatB (ops : Array Oper) (ix : List Nat) (nh : Nat) (ms : List Nat) (fls : List (List Nat)) : Bool :=
  Nat.beq ix.length ops.size && nodupB ix && (ix.all fun j => Nat.blt j ops.size) && ((List.range ops.size).all fun j => ix.contains j) && Nat.ble nh ops.size && Nat.beq (nh + fls.length) ops.size &&
  ((List.range ops.size).all fun j =>
    match ops[j]? with
    | none => true
    | some o =>
      (o.after.toList.all fun e => !binding e || Nat.blt e.on j) &&
      ((List.range ops.size).all fun i => !(ms.getD j 0).testBit i || o.after.toList.any fun e => binding e && (Nat.beq e.on i || (ms.getD e.on 0).testBit i))) &&
  ((List.range ops.size).all fun k =>
    match ops[ix.getD k 0]? with
    | none => true
    | some o =>
      (if Nat.ble nh k then (List.range k).all fun k' => Nat.blt k' nh || (ms.getD (ix.getD k 0) 0).testBit (ix.getD k' 0) else true) &&
      ((o.looksAt ops).all fun t => (List.range ops.size).all fun k' => Nat.beq k' k || !((ops[ix.getD k' 0]?).bind (·.dst) == some t) || (if Nat.blt k' k then (ms.getD (ix.getD k 0) 0).testBit (ix.getD k' 0) else (ms.getD (ix.getD k' 0) 0).testBit (ix.getD k 0))) &&
      (o.dst == none || (List.range k).all fun k' => !((ops[ix.getD k' 0]?).bind (·.dst) == o.dst) || (ms.getD (ix.getD k 0) 0).testBit (ix.getD k' 0))) &&
  ((List.range fls.length).all fun p => (List.range nh).all fun k => (fls.getD p []).contains k || (List.range (p + 1)).any fun p' => (ms.getD (ix.getD (nh + p') 0) 0).testBit (ix.getD k 0))

structure FloatOk (ops : Array Oper) (ix : List Nat) (nh : Nat) (ms : List Nat) (fls : List (List Nat)) : Prop where
  len : ix.length = ops.size
  nodup : ∀ (i j k : Nat), ix[i]? = some k → ix[j]? = some k → i = j
  lt : ∀ (k j : Nat), ix[k]? = some j → j < ops.size
  onto : ∀ j, j < ops.size → ∃ k : Nat, ix[k]? = some j
  le : nh ≤ ops.size
  fl : nh + fls.length = ops.size
  edge : ∀ j o, ops[j]? = some o → ∀ e ∈ o.after, binding e = true → e.on < j
  mask : ∀ j o, ops[j]? = some o → ∀ i, i < ops.size → (ms.getD j 0).testBit i = true → ∃ e ∈ o.after, binding e = true ∧ (e.on = i ∨ (ms.getD e.on 0).testBit i = true)
  tail : ∀ (k k' j j' : Nat), nh ≤ k' → k' < k → ix[k]? = some j → ix[k']? = some j' → (ms.getD j 0).testBit j' = true
  tmps : ∀ (k j : Nat) (o : Oper), ix[k]? = some j → ops[j]? = some o → ∀ t ∈ o.looksAt ops, ∀ (k' j' : Nat) (o' : Oper), k' ≠ k → ix[k']? = some j' → ops[j']? = some o' → o'.dst = some t → (k' < k ∧ (ms.getD j 0).testBit j' = true) ∨ (k < k' ∧ (ms.getD j' 0).testBit j = true)
  dsts : ∀ (k k' j j' : Nat) (o o' : Oper) (d : Nat), k' < k → ix[k]? = some j → ix[k']? = some j' → ops[j]? = some o → ops[j']? = some o' → o.dst = some d → o'.dst = some d → (ms.getD j 0).testBit j' = true
  fls : ∀ p k, p < fls.length → k < nh → k ∈ fls.getD p [] ∨ ∃ p', p' ≤ p ∧ (ms.getD (ix.getD (nh + p') 0) 0).testBit (ix.getD k 0) = true

theorem floatOk {ops : Array Oper} {ix : List Nat} {nh : Nat} {ms : List Nat} {fls : List (List Nat)} (h : floatB ops ix nh ms fls = true) : FloatOk ops ix nh ms fls := by
  unfold floatB at h
  simp only [Bool.and_eq_true] at h
  obtain ⟨⟨⟨⟨⟨⟨⟨⟨h1, h2⟩, h3⟩, h4⟩, h5⟩, h6⟩, h7⟩, h8⟩, h9⟩ := h
  have hlen := Nat.eq_of_beq_eq_true h1
  simp only [List.all_eq_true] at h3 h4 h7 h8 h9
  have getD_of : ∀ {k j : Nat}, ix[k]? = some j → ix.getD k 0 = j ∧ k < ops.size := fun {k j} hk => ⟨by simp [List.getD_eq_getElem?_getD, hk], by rw [← hlen]; exact (List.getElem?_eq_some_iff.1 hk).1⟩
  have get7 : ∀ j o, ops[j]? = some o → _ := fun j o ho => by
    have hj : j < ops.size := (Array.getElem?_eq_some_iff.1 ho).1
    have := h7 j (by simpa using hj)
    rw [ho] at this
    simp only [Bool.and_eq_true] at this
    exact this
  have get8 : ∀ k j o, ix[k]? = some j → ops[j]? = some o → _ := fun k j o hk ho => by
    have := h8 k (by simpa using (getD_of hk).2)
    rw [(getD_of hk).1, ho] at this
    simp only [Bool.and_eq_true] at this
    exact this
  refine ⟨hlen, nodupB_get h2, fun k j hk => by have := h3 j (List.mem_of_getElem? hk); simpa [Nat.blt_eq] using this, fun j hj => ?_, Nat.le_of_ble_eq_true h5, Nat.eq_of_beq_eq_true h6, fun j o ho e he hb => ?_, fun j o ho i hi hm => ?_, fun k k' j j' hn hlt hk hk' => ?_, fun k j o hk ho t ht k' j' o' hne hk' ho' hd => ?_, fun k k' j j' o o' d hlt hk hk' ho ho' hd hd' => ?_, fun p k hp hk => ?_⟩
  · have := h4 j (by simpa using hj)
    have hm : j ∈ ix := by simpa using this
    exact List.mem_iff_getElem?.1 hm
  · have := (get7 j o ho).1
    rw [List.all_eq_true] at this
    have := this e (by simpa using he)
    simp only [hb, Bool.not_true, Bool.false_or] at this
    simpa [Nat.blt_eq] using this
  · have := (get7 j o ho).2
    rw [List.all_eq_true] at this
    have := this i (by simpa using hi)
    simp only [hm, Bool.not_true, Bool.false_or, List.any_eq_true, Bool.and_eq_true, Bool.or_eq_true] at this
    obtain ⟨e, he, hb, hx⟩ := this
    refine ⟨e, by simpa using he, hb, ?_⟩
    rcases hx with hx | hx
    · exact .inl (Nat.eq_of_beq_eq_true hx)
    · exact .inr hx
  · have ho : ops[j]? = some (ops[j]'(by have := h3 j (List.mem_of_getElem? hk); simpa [Nat.blt_eq] using this)) := by simp
    have := (get8 k j _ hk ho).1.1
    rw [if_pos (by simp [Nat.ble_eq]; omega), List.all_eq_true] at this
    have := this k' (by simpa using hlt)
    rw [(getD_of hk').1] at this
    have e1 : Nat.blt k' nh = false := Bool.eq_false_iff.2 fun hb => by simp [Nat.blt_eq] at hb; omega
    simpa [e1] using this
  · have := (get8 k j o hk ho).1.2
    rw [List.all_eq_true] at this
    have := this t ht
    rw [List.all_eq_true] at this
    have := this k' (by simpa using (getD_of hk').2)
    rw [(getD_of hk').1] at this
    have e1 : Nat.beq k' k = false := Bool.eq_false_iff.2 fun hb => hne (Nat.eq_of_beq_eq_true hb)
    simp only [e1, ho', Option.bind_some, hd, Bool.false_or, beq_self_eq_true, Bool.not_true] at this
    by_cases hlt : k' < k
    · rw [if_pos (by simpa [Nat.blt_eq] using hlt)] at this
      exact .inl ⟨hlt, this⟩
    · rw [if_neg (by simp [Nat.blt_eq]; omega)] at this
      exact .inr ⟨by omega, this⟩
  · have := (get8 k j o hk ho).2
    simp only [hd, Bool.or_eq_true, List.all_eq_true, List.mem_range] at this
    rcases this with h | h
    · cases h
    · have := h k' hlt
      rw [(getD_of hk').1] at this
      simp only [ho', Option.bind_some, hd', beq_self_eq_true, Bool.not_true, Bool.false_eq_true, false_or] at this
      exact this
  · have := h9 p (by simpa using hp) k (by simpa using hk)
    simp only [Bool.or_eq_true, List.any_eq_true, List.mem_range] at this
    rcases this with h | ⟨p', hp', h⟩
    · exact .inl (by simpa using h)
    · exact .inr ⟨p', by omega, h⟩

section
variable {C : Ctx} {n : Nat} {σ : List CObj} {ops : Array Oper}

/-- The head, with what each of its operations asks of the objects. -/
def CHeadF (C : Ctx) (σ : List CObj) (ops : Array Oper) (K : Env → List (List CObj → Prop) → Prop) : List Nat → Env → List (List CObj → Prop) → Prop
  | [], E, S => K E S
  | i :: l, E, S => ∃ o c g, ops[i]? = some o ∧ HeadOp C σ ops o E c g ∧ CHeadF C σ ops K l (E.put o.dst c g) (S ++ [fun σ' => HeadOp C σ' ops o E c g])

def TailOp (C : Ctx) (ops : Array Oper) (o : Oper) (E : Env) (σ : List CObj) (K : CV → Prop → List CObj → Prop) : Prop :=
  (o.guard = none ∧ Does C σ E o fun r σ' => match r with | .ret c => K c True σ' | .pan _ => False) ∨ (∃ c g, HeadOp C σ ops o E c g ∧ K c g σ)

def Floats (S : List (List CObj → Prop)) (σ : List CObj) : List Nat → Prop
  | [] => True
  | k :: l => (S.getD k fun _ => True) σ ∧ Floats S σ l
theorem Floats.get {S : List (List CObj → Prop)} {σ : List CObj} : ∀ {l : List Nat}, Floats S σ l → ∀ k ∈ l, (S.getD k fun _ => True) σ
  | [], _, k, h => by cases h
  | x :: l, ⟨h1, h2⟩, k, h => by
    rcases List.mem_cons.1 h with rfl | h
    · exact h1
    · exact h2.get k h

def CTail (C : Ctx) (ops : Array Oper) (Q : CExit → Env → List CObj → Prop) (S : List (List CObj → Prop)) : List (Nat × List Nat) → Env → List CObj → Prop
  | [], E, σ => Q .normal E σ
  | (i, fl) :: l, E, σ => ∃ o, ops[i]? = some o ∧ TailOp C ops o E σ fun c g σ' => Floats S σ' fl ∧ CTail C ops Q S l (E.put o.dst c g) σ'

theorem envOf_app (L : Nat → Bool) : ∀ (l r : List (Oper × CV × Prop)) (k : Nat) (E : Env), envOf L k (l ++ r) E = envOf L (k + l.length) r (envOf L k l E)
  | [], _, _, _ => rfl
  | (o, c, g) :: l, r, k, E => by
    simp only [List.cons_append, envOf, List.length_cons]
    rw [envOf_app L l r (k + 1)]
    congr 1; omega
theorem envOf_off {L : Nat → Bool} : ∀ (l : List (Oper × CV × Prop)) (k : Nat) (E : Env), (∀ i, i < l.length → L (k + i) = false) → envOf L k l E = E
  | [], _, _, _ => rfl
  | (o, c, g) :: l, k, E, h => by
    have h0 := h 0 (by simp)
    rw [Nat.add_zero] at h0
    simp only [envOf, h0]
    exact envOf_off l (k + 1) E fun i hi => by
      have := h (i + 1) (by simpa using hi)
      rwa [show k + (i + 1) = k + 1 + i by omega] at this
theorem envOf_congr {L L' : Nat → Bool} : ∀ (l : List (Oper × CV × Prop)) (k : Nat) (E : Env), (∀ i, i < l.length → L (k + i) = L' (k + i)) → envOf L k l E = envOf L' k l E
  | [], _, _, _ => rfl
  | (o, c, g) :: l, k, E, h => by
    have h0 := h 0 (by simp)
    rw [Nat.add_zero] at h0
    simp only [envOf, h0]
    exact envOf_congr l (k + 1) _ fun i hi => by
      have := h (i + 1) (by simpa using hi)
      rwa [show k + (i + 1) = k + 1 + i by omega] at this
/-- The slot that the operation 'j' writes, when it is listed and no later listed one writes it. -/
theorem envOf_last {d : Nat} {L : Nat → Bool} : ∀ (l : List (Oper × CV × Prop)) (k j : Nat) (E : Env) (o : Oper) (c : CV) (g : Prop), l[j]? = some (o, c, g) → o.dst = some d → L (k + j) = true → (∀ i x, j < i → l[i]? = some x → L (k + i) = true → x.1.dst ≠ some d) →
    (envOf L k l E).f d = c ∧ (envOf L k l E).ok d = g ∧ (envOf L k l E).un d = (¬ g)
  | [], _, _, _, _, _, _, h, _, _, _ => by simp at h
  | (o', c', g') :: l, k, 0, E, o, c, g, h, hd, hL, hu => by
    simp only [List.getElem?_cons_zero, Option.some.injEq, Prod.mk.injEq] at h
    obtain ⟨rfl, rfl, rfl⟩ := h
    rw [Nat.add_zero] at hL
    simp only [envOf, hL]
    have : (envOf L (k + 1) l (E.put o'.dst c' g')).agree d (envOf (fun _ => false) (k + 1) l (E.put o'.dst c' g')) := envOf_agree l _ _ _ ⟨rfl, rfl, rfl⟩ fun i x hi hx => (by
      cases hLi : L (k + 1 + i) with
      | false => rfl
      | true => exact absurd hx (hu (i + 1) x (by omega) (by simpa using hi) (by rwa [show k + (i + 1) = k + 1 + i by omega])))
    rw [envOf_off (L := fun _ => false) l _ _ (fun _ _ => rfl)] at this
    rw [this.1, this.2.1, this.2.2, hd, Env.put_f, Env.put_ok, Env.put_un]
    simp
  | (o', c', g') :: l, k, j + 1, E, o, c, g, h, hd, hL, hu => by
    simp only [envOf]
    exact envOf_last l (k + 1) j _ o c g (by simpa using h) hd (by rwa [show k + 1 + j = k + (j + 1) from by omega]) fun i x hij hi hLi => hu (i + 1) x (by omega) (by simpa using hi) (by rwa [show k + (i + 1) = k + 1 + i by omega])

def Stab (C : Ctx) (ops : Array Oper) (hs : List (Oper × CV × Prop)) (E : Env) (k : Nat) (σ' : List CObj) : Prop :=
  match hs[k]? with
  | some (o, c, g) => HeadOp C σ' ops o (envOf (fun j => decide (j < k)) 0 hs E) c g
  | none => True
/-- The chain of frames. -/
theorem cheadF_vals {K : Env → List (List CObj → Prop) → Prop} : ∀ (l : List Nat) (E : Env) (S : List (List CObj → Prop)), CHeadF C σ ops K l E S → ∃ hs : List (Oper × CV × Prop), hs.length = l.length ∧ (∀ (k i : Nat), l[k]? = some i → ∃ o c g, hs[k]? = some (o, c, g) ∧ ops[i]? = some o) ∧
    K (envOf (fun _ => true) 0 hs E) (S ++ (List.range hs.length).map (Stab C ops hs E)) ∧
    ∀ (k : Nat) (o : Oper) (c : CV) (g : Prop), hs[k]? = some (o, c, g) → HeadOp C σ ops o (envOf (fun j => decide (j < k)) 0 hs E) c g
  | [], E, S, h => ⟨[], rfl, by simp, by simpa [CHeadF, envOf] using h, by simp⟩
  | i :: l, E, S, ⟨o, c, g, ho, h1, h2⟩ => by
    obtain ⟨hs, e0, e1, e2, e3⟩ := cheadF_vals l _ _ h2
    have shift : ∀ (L : Nat → Bool) (l : List (Oper × CV × Prop)) (k : Nat) (E : Env), envOf L (k + 1) l E = envOf (fun i => L (i + 1)) k l E := by
      intro L l
      induction l with
      | nil => intros; rfl
      | cons x l ih => intro k E; obtain ⟨a, b, c⟩ := x; simp only [envOf]; exact ih _ _
    have h0 : envOf (fun j => decide (j < 0)) 0 ((o, c, g) :: hs) E = E := envOf_off _ _ _ (fun i hi => by simp)
    have hS : ∀ k, envOf (fun j => decide (j < k + 1)) 0 ((o, c, g) :: hs) E = envOf (fun j => decide (j < k)) 0 hs (E.put o.dst c g) := fun k => by
      simp only [envOf]
      have : decide (0 < k + 1) = true := by simp
      rw [this, shift]
      congr 1
      funext j; simp
    refine ⟨(o, c, g) :: hs, by simp [e0], fun k j hk => ?_, ?_, fun k o' c' g' hk => ?_⟩
    · rcases k with _ | k
      · simp at hk; subst hk; exact ⟨o, c, g, rfl, ho⟩
      · simpa using e1 k j (by simpa using hk)
    · have hK : envOf (fun _ => true) 0 ((o, c, g) :: hs) E = envOf (fun _ => true) 0 hs (E.put o.dst c g) := by
        simp only [envOf]
        rw [shift]
      rw [hK]
      have hl : (S ++ [fun σ' => HeadOp C σ' ops o E c g]) ++ ((List.range hs.length).map (Stab C ops hs (E.put o.dst c g))) = S ++ (List.range ((o, c, g) :: hs).length).map (Stab C ops ((o, c, g) :: hs) E) := by
        rw [List.append_assoc]
        congr 1
        rw [List.length_cons, List.range_succ_eq_map, List.map_cons, List.map_map]
        rw [List.singleton_append]
        congr 1
        · funext σ'
          simp only [Stab, List.getElem?_cons_zero, h0]
        · refine List.map_congr_left fun k _ => ?_
          funext σ'
          simp only [Stab, Function.comp, List.getElem?_cons_succ, Nat.succ_eq_add_one, hS]
      rw [← hl]
      exact e2
    · rcases k with _ | k
      · simp only [List.getElem?_cons_zero, Option.some.injEq, Prod.mk.injEq] at hk
        obtain ⟨rfl, rfl, rfl⟩ := hk
        rw [h0]; exact h1
      · rw [hS]
        exact e3 k o' c' g' (by simpa using hk)

theorem anc_float {ix : List Nat} {nh : Nat} {ms : List Nat} {fls : List (List Nat)} (hok : FloatOk ops ix nh ms fls) {listed : Array Bool} (hcl : ∀ k o, ops[k]? = some o → listed.getD k false = true → ∀ e ∈ o.after, binding e = true → listed.getD e.on false = true) :
    ∀ (j : Nat) (o : Oper), ops[j]? = some o → (∀ e ∈ o.after, binding e = true → listed.getD e.on false = true) → ∀ i, i < ops.size → (ms.getD j 0).testBit i = true → listed.getD i false = true := by
  intro j
  induction j using Nat.strongRecOn with
  | _ j ih =>
    intro o ho he i hi hm
    obtain ⟨e, hmem, hb, hx⟩ := hok.mask j o ho i hi hm
    rcases hx with hx | hx
    · subst hx; exact he e hmem hb
    · have hlt := hok.edge j o ho e hmem hb
      have hj : j < ops.size := (Array.getElem?_eq_some_iff.1 ho).1
      have ho' : ops[e.on]? = some (ops[e.on]'(by omega)) := by simp [show e.on < ops.size by omega]
      exact ih e.on hlt _ ho' (hcl _ _ ho' (he e hmem hb)) i hi hx

theorem any_float {ix : List Nat} {nh : Nat} {ms : List Nat} {fls : List (List Nat)} (hok : FloatOk ops ix nh ms fls) {Q : CExit → Env → List CObj → Prop} {E : Env} {hs : List (Oper × CV × Prop)} (hhl : hs.length = nh) (hhs : ∀ (k i : Nat), k < nh → ix[k]? = some i → ∃ o c g, hs[k]? = some (o, c, g) ∧ ops[i]? = some o)
    (hd : ∀ o ∈ ops, ∀ d, o.dst = some d → d < n) {S : List (List CObj → Prop)} (hS : ∀ (k : Nat) (o : Oper) (c : CV) (g : Prop) σ', hs[k]? = some (o, c, g) → (S.getD k fun _ => True) σ' → HeadOp C σ' ops o (envOf (fun j => decide (j < k)) 0 hs E) c g) (M0 : Plan) (w0 : World) :
    ∀ (fuel : Nat) (j : Nat) (ts : List (Oper × CV × Prop)) (listed : Array Bool) (u : List Nat) (σ : List CObj) (a : Act) (w : World) (M : Plan), listed.size = ops.size → u.length = fuel → (∀ i, i < ops.size → listed.getD i false = false → i ∈ u) → (∀ i, i ∈ u → i < ops.size ∧ listed.getD i false = false) → u.Nodup →
      (∀ k o, ops[k]? = some o → listed.getD k false = true → ∀ e ∈ o.after, binding e = true → listed.getD e.on false = true) →
      nh + j ≤ ops.size → ts.length = j → (∀ (k i : Nat), nh ≤ k → k < nh + j → ix[k]? = some i → listed.getD i false = true ∧ ∃ o c g, ts[k - nh]? = some (o, c, g) ∧ ops[i]? = some o) → (∀ (k i : Nat), nh + j ≤ k → ix[k]? = some i → listed.getD i false = false) →
      (∀ (k i : Nat) (o : Oper) (c : CV) (g : Prop), k < nh → ix[k]? = some i → listed.getD i false = false → hs[k]? = some (o, c, g) → HeadOp C σ ops o (envOf (fun j => decide (j < k)) 0 hs E) c g) →
      CTail C ops Q S (((List.range (ops.size - nh)).map fun p => (ix.getD (nh + p) 0, fls.getD p [])).drop j) (envOf (fun _ => true) 0 (hs ++ ts) E) σ →
      Ext M0 w0 M w → Rel C M σ w → FRel M w n (envOf (fun k => listed.getD (ix.getD k 0) false) 0 (hs ++ ts) E) a → wpAny C.P .any ops (Lift C n Q M0 w0) fuel listed a w := by
  have ixD : ∀ {k i : Nat}, ix[k]? = some i → ix.getD k 0 = i := fun {k i} h => by simp [List.getD_eq_getElem?_getD, h]
  have ixk : ∀ k, k < ops.size → ∃ i : Nat, ix[k]? = some i := fun k hk => ⟨ix[k]'(by rw [hok.len]; exact hk), by simp⟩
  have hclosed : ∀ {listed : Array Bool}, (∀ k o, ops[k]? = some o → listed.getD k false = true → ∀ e ∈ o.after, binding e = true → listed.getD e.on false = true) → ∀ i j : Nat, i < ops.size → j < ops.size → (ms.getD j 0).testBit i = true → listed.getD j false = true → listed.getD i false = true := fun {listed} hcl i j hi hj hm hl => by
    have ho : ops[j]? = some ops[j] := by simp [hj]
    exact anc_float hok hcl j _ ho (hcl j _ ho hl) i hi hm
  intro fuel
  induction fuel with
  | zero =>
    intro j ts listed u σ a w M hsz hu hun _ _ hcl hjs hts htl hut hst hct hx hr hf
    have hu0 : u = [] := List.eq_nil_of_length_eq_zero hu
    subst hu0
    have hall : ∀ i, i < ops.size → listed.getD i false = true := fun i hi => by
      cases h : listed.getD i false with
      | true => rfl
      | false => exact absurd (hun i hi h) (by simp)
    have hj : ops.size ≤ nh + j := by
      rcases Nat.lt_or_ge (nh + j) ops.size with h | h
      · obtain ⟨i, hi⟩ := ixk _ h
        have := hut _ i (Nat.le_refl _) hi
        rw [hall i (hok.lt _ _ hi)] at this
        cases this
      · exact h
    rw [List.drop_eq_nil_of_le (by simp; omega)] at hct
    refine ⟨List.eq_nil_iff_forall_not_mem.2 fun i hi => ?_, _, σ, M, hx, hr, hf, ?_⟩
    · obtain ⟨h1, o, ho, _⟩ := mem_ready.1 hi
      have hi' : i < ops.size := (Array.getElem?_eq_some_iff.1 ho).1
      have h2 := (getD_false_true (by omega)).1 h1
      rw [hall i hi'] at h2
      cases h2
    · have he : envOf (fun k => listed.getD (ix.getD k 0) false) 0 (hs ++ ts) E = envOf (fun _ => true) 0 (hs ++ ts) E := envOf_congr _ _ _ fun k hk => by
        rw [Nat.zero_add]
        simp [hhl, hts] at hk
        obtain ⟨i, hi⟩ := ixk k (by omega)
        rw [ixD hi]; exact hall i (hok.lt _ _ hi)
      rw [he]; exact hct
  | succ fuel ih =>
    intro j ts listed u σ a w M hsz hu hun hun' hnd hcl hjs hts htl hut hst hct hx hr hf
    -- the least that has not come up is ready
    have hleast : ∃ j, j ∈ Region.ready .any ops listed := by
      have hex : ∃ j, j < ops.size ∧ listed.getD j false = false := by
        cases u with
        | nil => simp at hu
        | cons x u => exact ⟨x, hun' x (by simp)⟩
      obtain ⟨j, hj, hmin⟩ : ∃ j, (j < ops.size ∧ listed.getD j false = false) ∧ ∀ i, i < j → ¬ (i < ops.size ∧ listed.getD i false = false) := by
        obtain ⟨j, hj⟩ := hex
        induction j using Nat.strongRecOn with
        | _ j ihj =>
          by_cases h : ∃ i, i < j ∧ i < ops.size ∧ listed.getD i false = false
          · obtain ⟨i, hi, hp⟩ := h
            exact ihj i hi hp
          · exact ⟨j, hj, fun i hi hp => h ⟨i, hi, hp⟩⟩
      refine ⟨j, mem_ready.2 ⟨(getD_false_true (by omega)).2 hj.2, ops[j]'hj.1, by simp [hj.1], fun e he hb => ?_⟩⟩
      have hlt := hok.edge j _ (by simp [hj.1]) e he hb
      cases h : listed.getD e.on false with
      | true => rfl
      | false => exact absurd ⟨by omega, h⟩ (hmin e.on hlt)
    obtain ⟨j0, hj0⟩ := hleast
    refine ⟨fun h0 => (by rw [h0] at hj0; cases hj0), fun i hi => ?_⟩
    obtain ⟨h1, o, ho, he⟩ := mem_ready.1 hi
    have his : i < ops.size := (Array.getElem?_eq_some_iff.1 ho).1
    have hiL : listed.getD i false = false := (getD_false_true (by omega)).1 h1
    obtain ⟨k, hk⟩ := hok.onto i his
    have hks : k < ops.size := by rw [← hok.len]; exact (List.getElem?_eq_some_iff.1 hk).1
    have hiu : i ∈ u := hun i his hiL
    have hgd : ∀ x, (listed.setIfInBounds i true).getD x false = if x = i then true else listed.getD x false := fun x => by
      by_cases hxi : x = i
      · subst hxi
        have : x < listed.size := by omega
        simp [this]
      · rw [if_neg hxi]
        simp [Array.getElem?_setIfInBounds_ne (Ne.symm hxi)]
    -- an entry of the list, and its operation
    have hent : ∀ (k' : Nat) (x : Oper × CV × Prop), (hs ++ ts)[k']? = some x → ∃ i' : Nat, ix[k']? = some i' ∧ ops[i']? = some x.1 ∧ k' < nh + j ∧ (nh ≤ k' → listed.getD i' false = true) := fun k' x hx' => by
      have hlt : k' < nh + j := by
        have := (List.getElem?_eq_some_iff.1 hx').1
        simpa [hhl, hts] using this
      obtain ⟨i', hi'⟩ := ixk k' (by omega)
      refine ⟨i', hi', ?_, hlt, fun h => (htl k' i' h hlt hi').1⟩
      rcases Nat.lt_or_ge k' nh with h | h
      · rw [List.getElem?_append_left (by omega)] at hx'
        obtain ⟨o', c', g', g1, g2⟩ := hhs k' i' h hi'
        rw [g1] at hx'; cases hx'; exact g2
      · rw [List.getElem?_append_right (by omega), hhl] at hx'
        obtain ⟨_, o', c', g', g1, g2⟩ := htl k' i' h hlt hi'
        rw [g1] at hx'; cases hx'; exact g2
    have hgen : (∀ x, x < ops.size → (listed.setIfInBounds i true).getD x false = false → x ∈ u.erase i) ∧ (∀ x, x ∈ u.erase i → x < ops.size ∧ (listed.setIfInBounds i true).getD x false = false) ∧
        (∀ x ox, ops[x]? = some ox → (listed.setIfInBounds i true).getD x false = true → ∀ e ∈ ox.after, binding e = true → (listed.setIfInBounds i true).getD e.on false = true) := by
      refine ⟨fun x hx' hxl => ?_, fun x hx' => ?_, fun x ox hox hxl e hex hb => ?_⟩
      · rw [hgd] at hxl
        split at hxl
        · cases hxl
        · rename_i hne
          exact (List.mem_erase_of_ne hne).2 (hun x hx' hxl)
      · have hne : x ≠ i := fun e => by subst e; exact (hnd.not_mem_erase) hx'
        rw [hgd, if_neg hne]
        exact hun' x (List.mem_of_mem_erase hx')
      · rw [hgd] at hxl ⊢
        split
        · rfl
        · split at hxl
          · rename_i hxi
            subst hxi
            rw [ho] at hox
            injection hox with hox
            subst hox
            exact he e hex hb
          · exact hcl x ox hox hxl e hex hb
    -- a quiet operation, and where it goes on
    have quiet : ∀ (E1 : Env) (c : CV) (g : Prop), HeadOp C σ ops o E1 c g → (∀ t, t ∈ o.looksAt ops → E1.agree t (envOf (fun k => listed.getD (ix.getD k 0) false) 0 (hs ++ ts) E)) →
        (∀ (v : Value) (w' : World) (M' : Plan), Ext M w M' w' → Rel C M' σ w' → (g → RV M' w' c v) → (¬ g → v = undef) → wpAny C.P .any ops (Lift C n Q M0 w0) fuel (listed.setIfInBounds i true) (a.put o.dst v) w') →
        wpOp C.P ops (Lift C n Q M0 w0) i (wpAny C.P .any ops (Lift C n Q M0 w0) fuel (listed.setIfInBounds i true)) a w := by
      intro E1 c g hop hag next
      unfold wpOp
      simp only [ho]
      have hopr : ∀ x ∈ o.op.operands, E1.valid x → RV M w (E1.val C x) (a.eval x) := fun x hx hv => by
        cases x with
        | tmp t =>
          have h2 := hag t (looksAt_op hx)
          simp only [Env.val, Env.valid] at hv ⊢
          rw [h2.1]
          exact hf.rv t (by rw [← h2.2.1]; exact hv)
        | const v => exact hf.eval (x := .const v) hr hv
        | global v => exact hf.eval (x := .global v) hr hv
        | func v => exact hf.eval (x := .func v) hr hv
      rcases hop with ⟨hg, hgp, hy⟩ | ⟨jj, t, want, b, hg, ht, hok', hb, hgb, hy⟩
      · rw [if_pos (by simp [Region.wanted, hg])]
        refine .inl (wp_of_upon (hy M w a.eval hr hopr) (fun v w' ha => ?_) (fun ch w' ha => ?_))
        · obtain ⟨c', σ', M', h1, h2, h3, h4, rfl⟩ := ha
          injection h4 with h4
          subst h4
          exact next v w' M' h1 h2 (fun _ => h3) fun hh => absurd hgp hh
        · obtain ⟨c', v, σ', M', _, _, _, _, h4, _⟩ := ha
          cases h4
      · have h2 := hag t (looksAt_guard hg ht)
        by_cases hokt : E1.ok t
        · have h3 : RV M w ((envOf (fun k => listed.getD (ix.getD k 0) false) 0 (hs ++ ts) E).f t) (a.tmps.getD t undef) := hf.rv t (by rw [← h2.2.1]; exact hokt)
          rw [← h2.1, hb] at h3
          have h4 := rv_val h3
          have hszt : t < a.tmps.size := by
            rcases Nat.lt_or_ge t a.tmps.size with h' | h'
            · exact h'
            · simp [Array.getElem?_eq_none h', undef] at h4
          have h5 : a.tmps[t]? = some (.bool b) := by
            rw [Array.getD_eq_getD_getElem?, Array.getElem?_eq_getElem hszt] at h4
            rw [Array.getElem?_eq_getElem hszt, ← h4]; rfl
          have h6 : yielded ops a.tmps jj = some b := by unfold yielded; rw [ht, Option.bind_some, h5]
          have hw : Region.wanted o (yielded ops a.tmps) = (b == want) := by
            simp only [Region.wanted, hg, h6]
            cases b <;> cases want <;> rfl
          by_cases hbw : b = want
          · rw [if_pos (by rw [hw]; simpa using hbw)]
            refine .inl (wp_of_upon (hy hokt hbw M w a.eval hr hopr) (fun v w' ha => ?_) (fun ch w' ha => ?_))
            · obtain ⟨c', σ', M', h1, h2, h3, h4, rfl⟩ := ha
              injection h4 with h4
              subst h4
              exact next v w' M' h1 h2 (fun _ => h3) fun hh => absurd (hgb.2 ⟨hokt, hbw⟩) hh
            · obtain ⟨c', v, σ', M', _, _, _, _, h4, _⟩ := ha
              cases h4
          · rw [if_neg (by rw [hw]; simpa using hbw)]
            exact next undef w M (Ext.refl M w) hr (fun hgg => absurd (hgb.1 hgg).2 hbw) fun _ => rfl
        · have h3 := hf.un t (by rw [← h2.2.2]; exact hok' hokt)
          have h6 : yielded ops a.tmps jj = none := by
            unfold yielded
            rw [ht, Option.bind_some]
            rcases Nat.lt_or_ge t a.tmps.size with h' | h'
            · rw [Array.getD_eq_getD_getElem?, Array.getElem?_eq_getElem h'] at h3
              rw [Array.getElem?_eq_getElem h']
              simp only [Option.getD_some] at h3
              rw [h3]
              rfl
            · rw [Array.getElem?_eq_none h']
          have hw : Region.wanted o (yielded ops a.tmps) = false := by
            simp only [Region.wanted, hg, h6]
            cases want <;> rfl
          rw [if_neg (by rw [hw]; simp)]
          exact next undef w M (Ext.refl M w) hr (fun hgg => absurd (hgb.1 hgg).1 hokt) fun _ => rfl
    -- which entries that write a slot that is looked at have come up
    have seen : ∀ t, t ∈ o.looksAt ops → ∀ (k' : Nat) (x : Oper × CV × Prop), (hs ++ ts)[k']? = some x → x.1.dst = some t → k' ≠ k → (k' < k → listed.getD (ix.getD k' 0) false = true) ∧ (k < k' → listed.getD (ix.getD k' 0) false = false) := fun t ht k' x hx' hxd hne => by
      obtain ⟨i', hi', ho', hlt', _⟩ := hent k' x hx'
      rw [ixD hi']
      have his' := hok.lt _ _ hi'
      rcases hok.tmps k i o hk ho t ht k' i' x.1 hne hi' ho' hxd with ⟨q1, q2⟩ | ⟨q1, q2⟩
      · exact ⟨fun _ => anc_float hok hcl i o ho (fun e hek hb => he e hek hb) i' his' q2, fun h => by omega⟩
      · refine ⟨fun h => by omega, fun _ => ?_⟩
        cases hl : listed.getD i' false with
        | false => rfl
        | true =>
          have := hclosed hcl i i' his his' q2 hl
          rw [hiL] at this
          cases this
    rcases Nat.lt_or_ge k nh with hkn | hkn
    · -- of the head
      obtain ⟨o', c, g, hc, ho'⟩ := hhs k i hkn hk
      rw [ho] at ho'
      injection ho' with ho'
      subst ho'
      have hop := hst k i o c g hkn hk hiL hc
      refine quiet _ c g hop (fun t ht => ?_) fun v w' M' hx' hr' hv hun0 => ?_
      · have e1 : envOf (fun j => decide (j < k)) 0 hs E = envOf (fun j => decide (j < k)) 0 (hs ++ ts) E := by
          rw [envOf_app, envOf_off (L := fun j => decide (j < k)) ts _ _ (fun i' hi' => by simp; omega)]
        rw [e1]
        refine envOf_agree (hs ++ ts) 0 E E ⟨rfl, rfl, rfl⟩ fun k' x hx' hxd => ?_
        rw [Nat.zero_add]
        by_cases hkk : k' = k
        · subst hkk; rw [ixD hk, hiL]; simp
        · have := seen t ht k' x hx' hxd hkk
          rcases Nat.lt_or_gt_of_ne hkk with h | h
          · rw [this.1 h]; simp [h]
          · rw [this.2 h]; simp; omega
      · refine ih j ts (listed.setIfInBounds i true) (u.erase i) σ _ w' M' (by simp [hsz]) (by rw [List.length_erase_of_mem hiu, hu]; rfl) hgen.1 hgen.2.1 (hnd.erase i) hgen.2.2 hjs hts (fun k' i' h1 h2 h3 => ?_) (fun k' i' h1 h3 => ?_) (fun k' i' o' c' g' h1 h2 h3 h4 => ?_) hct (hx.trans hx') hr' ?_
        · obtain ⟨g1, g2⟩ := htl k' i' h1 h2 h3
          refine ⟨?_, g2⟩
          rw [hgd]; split
          · rfl
          · exact g1
        · have hne : i' ≠ i := fun e => by
            subst e
            have := hok.nodup k k' i' hk h3
            omega
          rw [hgd, if_neg hne]
          exact hut k' i' h1 h3
        · rw [hgd] at h3
          split at h3
          · cases h3
          · exact hst k' i' o' c' g' h1 h2 h3 h4
        · have hput := (hf.mono hx').put (d := o.dst) (c := c) (v := v) (g := g) (fun t ht => hd o (Array.mem_of_getElem? ho) t ht) hv hun0
          have hag' : ∀ t, (envOf (fun k => (listed.setIfInBounds i true).getD (ix.getD k 0) false) 0 (hs ++ ts) E).agree t ((envOf (fun k => listed.getD (ix.getD k 0) false) 0 (hs ++ ts) E).put o.dst c g) := by
            intro t
            by_cases hdt : o.dst = some t
            · have hat := envOf_last (L := fun k => (listed.setIfInBounds i true).getD (ix.getD k 0) false) (hs ++ ts) 0 k E o c g (by rw [List.getElem?_append_left (by omega)]; exact hc) hdt (by simp only [Nat.zero_add, ixD hk, hgd, if_true]) (fun k' x hlt hx' hLx hxd => by
                obtain ⟨i', hi', ho', _, _⟩ := hent k' x hx'
                rw [Nat.zero_add, ixD hi', hgd] at hLx
                have hne : i' ≠ i := fun e => by
                  subst e
                  have := hok.nodup k k' i' hk hi'
                  omega
                rw [if_neg hne] at hLx
                have hm := hok.dsts k' k i' i x.1 o t hlt hi' hk ho' ho hxd hdt
                have := hclosed hcl i i' his (hok.lt _ _ hi') hm hLx
                rw [hiL] at this
                cases this)
              unfold Env.agree
              rw [hat.1, hat.2.1, hat.2.2, hdt, Env.put_f, Env.put_ok, Env.put_un]
              simp
            · refine (agree_put_other hdt ?_).symm
              refine envOf_agree (hs ++ ts) 0 E E ⟨rfl, rfl, rfl⟩ fun k' x hx' hxd => ?_
              obtain ⟨i', hi', ho', _, _⟩ := hent k' x hx'
              rw [Nat.zero_add, ixD hi', hgd]
              split
              · rename_i hki
                subst hki
                rw [ho] at ho'
                injection ho' with ho'
                rw [← ho'] at hxd
                exact absurd hxd hdt
              · rfl
          refine ⟨hput.defers, hput.size, fun t ht => ?_, fun t ht => hput.un t (by rw [← (hag' t).2.2]; exact ht)⟩
          rw [(hag' t).1]
          exact hput.rv t (by rw [← (hag' t).2.1]; exact ht)
    · -- of the tail: it is the next one
      have hkj : k = nh + j := by
        rcases Nat.lt_trichotomy k (nh + j) with h | h | h
        · have := (htl k i hkn h hk).1
          rw [hiL] at this; cases this
        · exact h
        · obtain ⟨i', hi'⟩ := ixk (nh + j) (by omega)
          have hm := hok.tail k (nh + j) i i' (by omega) h hk hi'
          have := anc_float hok hcl i o ho (fun e hek hb => he e hek hb) i' (hok.lt _ _ hi') hm
          rw [hut (nh + j) i' (Nat.le_refl _) hi'] at this
          cases this
      subst hkj
      have hdrop : (((List.range (ops.size - nh)).map fun p => (ix.getD (nh + p) 0, fls.getD p [])).drop j) = (i, fls.getD j []) :: (((List.range (ops.size - nh)).map fun p => (ix.getD (nh + p) 0, fls.getD p [])).drop (j + 1)) := by
        rw [List.drop_eq_getElem_cons (by simp; omega)]
        rw [List.getElem_map, List.getElem_range, ixD hk]
      rw [hdrop] at hct
      obtain ⟨o', ho', hct⟩ := hct
      rw [ho] at ho'
      injection ho' with ho'
      subst ho'
      have hag : ∀ t, t ∈ o.looksAt ops → (envOf (fun _ => true) 0 (hs ++ ts) E).agree t (envOf (fun k => listed.getD (ix.getD k 0) false) 0 (hs ++ ts) E) := fun t ht => envOf_agree (hs ++ ts) 0 E E ⟨rfl, rfl, rfl⟩ fun k' x hx' hxd => by
        obtain ⟨i', hi', ho', hlt', _⟩ := hent k' x hx'
        rw [Nat.zero_add, (seen t ht k' x hx' hxd (by omega)).1 hlt']
      -- the next state
      have next : ∀ (v : Value) (c : CV) (g : Prop) (σ' : List CObj) (w' : World) (M' : Plan), (Floats S σ' (fls.getD j []) ∧ CTail C ops Q S (((List.range (ops.size - nh)).map fun p => (ix.getD (nh + p) 0, fls.getD p [])).drop (j + 1)) ((envOf (fun _ => true) 0 (hs ++ ts) E).put o.dst c g) σ') →
          Ext M w M' w' → Rel C M' σ' w' → (g → RV M' w' c v) → (¬ g → v = undef) → wpAny C.P .any ops (Lift C n Q M0 w0) fuel (listed.setIfInBounds i true) (a.put o.dst v) w' := by
        intro v c g σ' w' M' ⟨hfl, hct'⟩ hx' hr' hv hun0
        have hts1 : ∀ L : Nat → Bool, envOf L 0 (hs ++ (ts ++ [(o, c, g)])) E = match L (nh + j) with | true => (envOf L 0 (hs ++ ts) E).put o.dst c g | false => envOf L 0 (hs ++ ts) E := fun L => by
          rw [← List.append_assoc, envOf_app]
          have : 0 + (hs ++ ts).length = nh + j := by simp [hhl, hts]
          rw [this]; rfl
        have hLc : envOf (fun k => (listed.setIfInBounds i true).getD (ix.getD k 0) false) 0 (hs ++ ts) E = envOf (fun k => listed.getD (ix.getD k 0) false) 0 (hs ++ ts) E := envOf_congr _ _ _ fun k' hk' => by
          rw [Nat.zero_add]
          have hlt' : k' < nh + j := by simpa [hhl, hts] using hk'
          obtain ⟨i', hi'⟩ := ixk k' (by omega)
          rw [ixD hi', hgd, if_neg]
          intro e
          subst e
          have := hok.nodup k' (nh + j) i' hi' hk
          omega
        refine ih (j + 1) (ts ++ [(o, c, g)]) (listed.setIfInBounds i true) (u.erase i) σ' _ w' M' (by simp [hsz]) (by rw [List.length_erase_of_mem hiu, hu]; rfl) hgen.1 hgen.2.1 (hnd.erase i) hgen.2.2 (by omega) (by simp [hts]) (fun k' i' h1 h2 h3 => ?_) (fun k' i' h1 h3 => ?_) (fun k' i' o' c' g' h1 h2 h3 h4 => ?_) (by rw [hts1]; exact hct') (hx.trans hx') hr' ?_
        · by_cases hkk : k' = nh + j
          · subst hkk
            rw [hk] at h3
            injection h3 with h3
            subst h3
            refine ⟨by rw [hgd, if_pos rfl], o, c, g, ?_, ho⟩
            rw [show nh + j - nh = ts.length by omega]
            simp
          · obtain ⟨g1, o', c', g', g2, g3⟩ := htl k' i' h1 (by omega) h3
            refine ⟨?_, o', c', g', ?_, g3⟩
            · rw [hgd]; split
              · rfl
              · exact g1
            · rw [List.getElem?_append_left (by omega)]; exact g2
        · have hne : i' ≠ i := fun e => by
            subst e
            have := hok.nodup (nh + j) k' i' hk h3
            omega
          rw [hgd, if_neg hne]
          exact hut k' i' (by omega) h3
        · rw [hgd] at h3
          split at h3
          · cases h3
          · rcases hok.fls j k' (by have := hok.fl; omega) h1 with hin | ⟨p', hp', hm⟩
            · exact hS k' o' c' g' σ' h4 (hfl.get k' hin)
            · exfalso
              obtain ⟨i'', hi''⟩ := ixk (nh + p') (by omega)
              rw [ixD hi'', ixD h2] at hm
              have hl : listed.getD i' false = true := by
                by_cases hpj : p' = j
                · subst hpj
                  rw [hk] at hi''
                  injection hi'' with hi''
                  subst hi''
                  exact anc_float hok hcl i o ho (fun e hek hb => he e hek hb) i' (hok.lt _ _ h2) hm
                · exact hclosed hcl i' i'' (hok.lt _ _ h2) (hok.lt _ _ hi'') hm (htl (nh + p') i'' (by omega) (by omega) hi'').1
              rw [hl] at h3
              cases h3
        · rw [hts1]
          have : (listed.setIfInBounds i true).getD (ix.getD (nh + j) 0) false = true := by rw [ixD hk, hgd, if_pos rfl]
          simp only [this]
          rw [hLc]
          exact (hf.mono hx').put (d := o.dst) (c := c) (v := v) (g := g) (fun t ht => hd o (Array.mem_of_getElem? ho) t ht) hv hun0
      rcases hct with ⟨hg, hdo⟩ | ⟨c, g, hop, hkk⟩
      · unfold wpOp
        simp only [ho]
        rw [if_pos (by simp [Region.wanted, hg])]
        have hopr : ∀ x ∈ o.op.operands, (envOf (fun _ => true) 0 (hs ++ ts) E).valid x → RV M w ((envOf (fun _ => true) 0 (hs ++ ts) E).val C x) (a.eval x) := fun x hx hv => by
          cases x with
          | tmp t =>
            have h2 := hag t (looksAt_op hx)
            simp only [Env.val, Env.valid] at hv ⊢
            rw [h2.1]
            exact hf.rv t (by rw [← h2.2.1]; exact hv)
          | const v => exact hf.eval (x := .const v) hr hv
          | global v => exact hf.eval (x := .global v) hr hv
          | func v => exact hf.eval (x := .func v) hr hv
        refine .inl (wp_of_upon (hdo M w a.eval hr hopr) (fun v w' ha => ?_) (fun ch w' ha => ?_))
        · obtain ⟨c', σ', M', h1, h2, h3, h4⟩ := ha
          exact next v c' True σ' w' M' h4 h1 h2 (fun _ => h3) fun hh => absurd trivial hh
        · obtain ⟨c', v, σ', M', _, _, _, _, h4⟩ := ha
          exact h4.elim
      · exact quiet _ c g hop hag fun v w' M' hx' hr' hv hun0 => next v c g σ w' M' hkk hx' hr' hv hun0

theorem cw_float {id : Nat} {Q : CExit → Env → List CObj → Prop} {E : Env} (ix : List Nat) (nh : Nat) (ms : List Nat) (fls : List (List Nat)) (hm : C.P.follows .mixedOrders = true) (hB : floatB ops ix nh ms fls = true) (hd : (ops.toList.all fun o => match o.dst with | some d => Nat.blt d n | none => true) = true)
    {hd1l : List Nat} {tll : List (Nat × List Nat)} (hd1 : List.take nh ix = hd1l) (hd2 : ((List.range (ops.size - nh)).map fun p => (ix.getD (nh + p) 0, fls.getD p [])) = tll)
    (h : CHeadF C σ ops (fun E' S => CTail C ops Q S tll E' σ) hd1l E []) : CWp C n (.region id ops true) Q E σ := fun M w a hr hf => by
  subst hd1 hd2
  have hok := floatOk hB
  obtain ⟨hs, h0, h1, h2, h3⟩ := cheadF_vals _ _ _ h
  obtain ⟨hr', hx⟩ := hr.drew
  have hl : hs.length = nh := by rw [h0, List.length_take, hok.len]; have := hok.le; omega
  refine wp_region_any hm (any_float hok (S := _) hl (fun k i hk hi => ?_) (fun o ho d hod => ?_) (fun k o c g σ' hk hS => ?_) M w ops.size 0 [] (Array.replicate ops.size false) (List.range ops.size) σ a _ M (by simp) (by simp) (fun i hi _ => by simpa using hi) (fun i hi => ?_) List.nodup_range (fun k o hk hkl => ?_) (by have := hok.le; omega) rfl (fun k i h1 h2 => by omega) (fun k i _ hi => ?_) (fun k i o c g _ _ _ hk => h3 k o c g hk) (by rw [List.append_nil, List.drop_zero]; exact h2) hx hr' ?_)
  · exact h1 k i (by rw [List.getElem?_take, if_pos hk]; exact hi)
  · rw [List.all_eq_true] at hd
    have := hd o (by simpa using ho)
    rw [hod] at this
    simpa [Nat.blt_eq] using this
  · have hlt := (List.getElem?_eq_some_iff.1 hk).1
    rw [List.nil_append] at hS
    have e : (((List.range hs.length).map (Stab C ops hs E)).getD k fun _ => True) = Stab C ops hs E k := by simp [List.getD_eq_getElem?_getD, hlt]
    rw [e] at hS
    simpa only [Stab, hk] using hS
  · have : i < ops.size := by simpa using hi
    exact ⟨this, by simp [this]⟩
  · have hks : k < ops.size := (Array.getElem?_eq_some_iff.1 hk).1
    simp [hks] at hkl
  · simp [hok.lt _ _ hi]
  · have hff : envOf (fun k => (Array.replicate ops.size false).getD (ix.getD k 0) false) 0 (hs ++ []) E = E := envOf_off _ _ _ fun i _ => by
      simp only [Array.getD_eq_getD_getElem?, Array.getElem?_replicate]
      split <;> rfl
    rw [hff]
    exact hf.mono hx
end
end Go.Cl
