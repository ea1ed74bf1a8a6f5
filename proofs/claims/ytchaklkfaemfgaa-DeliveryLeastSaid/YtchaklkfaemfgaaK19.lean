import Derived.Test.YtchaklkfaemfgaaK18
namespace Go.Cl
/-! ### Regions whose tail has more than one order: a tree -/
def headBT (ops : Array Oper) (nh : Nat) (ms : List Nat) : Bool :=
  Nat.ble nh ops.size &&
  (List.range ops.size).all fun j =>
    match ops[j]? with
    | none => true
    | some o =>
      (o.after.toList.all fun e => !binding e || Nat.blt e.on j) &&
      ((List.range ops.size).all fun i => !(ms.getD j 0).testBit i || o.after.toList.any fun e => binding e && (Nat.beq e.on i || (ms.getD e.on 0).testBit i)) &&
      (if Nat.ble nh j then (List.range nh).all fun i => (ms.getD j 0).testBit i
       else
        ((o.looksAt ops).all fun t => (List.range ops.size).all fun i => Nat.beq i j || !((ops[i]?).bind (·.dst) == some t) || (if Nat.blt i j then (ms.getD j 0).testBit i else (ms.getD i 0).testBit j)) &&
        (o.dst == none || (List.range nh).all fun i => Nat.beq i j || !((ops[i]?).bind (·.dst) == o.dst)))

structure HeadOkT (ops : Array Oper) (nh : Nat) (ms : List Nat) : Prop where
  le : nh ≤ ops.size
  edge : ∀ j o, ops[j]? = some o → ∀ e ∈ o.after, binding e = true → e.on < j
  mask : ∀ j o, ops[j]? = some o → ∀ i, i < ops.size → (ms.getD j 0).testBit i = true → ∃ e ∈ o.after, binding e = true ∧ (e.on = i ∨ (ms.getD e.on 0).testBit i = true)
  tail : ∀ j, nh ≤ j → j < ops.size → ∀ i, i < nh → (ms.getD j 0).testBit i = true
  tmps : ∀ j o, j < nh → ops[j]? = some o → ∀ t ∈ o.looksAt ops, ∀ i, i < ops.size → i ≠ j → (ops[i]?).bind (·.dst) = some t → (i < j ∧ (ms.getD j 0).testBit i = true) ∨ (j < i ∧ (ms.getD i 0).testBit j = true)
  uniq : ∀ j o d, j < nh → ops[j]? = some o → o.dst = some d → ∀ i, i < nh → i ≠ j → (ops[i]?).bind (·.dst) ≠ some d

theorem headOkT {ops : Array Oper} {nh : Nat} {ms : List Nat} (h : headBT ops nh ms = true) : HeadOkT ops nh ms := by
  simp only [headBT, Bool.and_eq_true, List.all_eq_true, List.mem_range] at h
  obtain ⟨h0, h⟩ := h
  have get : ∀ j o, ops[j]? = some o → _ := fun j o ho => by
    have hj : j < ops.size := (Array.getElem?_eq_some_iff.1 ho).1
    have := h j hj
    rw [ho] at this
    simp only [Bool.and_eq_true] at this
    exact this
  refine ⟨Nat.le_of_ble_eq_true h0, fun j o ho e he hb => ?_, fun j o ho i hi hm => ?_, fun j hn hj i hi => ?_, fun j o hn ho t ht i hi hne hd => ?_, fun j o d hn ho hd i hi hne => ?_⟩
  · have := (get j o ho).1.1
    rw [List.all_eq_true] at this
    have := this e (by simpa using he)
    simp only [hb, Bool.not_true, Bool.false_or] at this
    simpa [Nat.blt_eq] using this
  · have := (get j o ho).1.2
    rw [List.all_eq_true] at this
    have := this i (by simpa using hi)
    simp only [hm, Bool.not_true, Bool.false_or, List.any_eq_true, Bool.and_eq_true, Bool.or_eq_true] at this
    obtain ⟨e, he, hb, hx⟩ := this
    refine ⟨e, by simpa using he, hb, ?_⟩
    rcases hx with hx | hx
    · exact .inl (Nat.eq_of_beq_eq_true hx)
    · exact .inr hx
  · have ho : ops[j]? = some ops[j] := by simp [hj]
    have := (get j _ ho).2
    rw [if_pos (by simpa [Nat.ble_eq] using hn), List.all_eq_true] at this
    exact this i (by simpa using hi)
  · have := (get j o ho).2
    rw [if_neg (by simp [Nat.ble_eq]; omega)] at this
    simp only [Bool.and_eq_true] at this
    have h1 := this.1
    rw [List.all_eq_true] at h1
    have h2 := h1 t ht
    rw [List.all_eq_true] at h2
    have h3 := h2 i (by simpa using hi)
    have e1 : Nat.beq i j = false := Bool.eq_false_iff.2 fun hb => hne (Nat.eq_of_beq_eq_true hb)
    simp only [e1, hd, Bool.false_or, beq_self_eq_true, Bool.not_true] at h3
    by_cases hlt : i < j
    · rw [if_pos (by simpa [Nat.blt_eq] using hlt)] at h3
      exact .inl ⟨hlt, h3⟩
    · rw [if_neg (by simp [Nat.blt_eq]; omega)] at h3
      exact .inr ⟨by omega, h3⟩
  · have := (get j o ho).2
    rw [if_neg (by simp [Nat.ble_eq]; omega)] at this
    simp only [Bool.and_eq_true] at this
    have h1 := this.2
    simp only [hd, Bool.or_eq_true, List.all_eq_true, List.mem_range] at h1
    rcases h1 with h1 | h1
    · cases h1
    · have h3 := h1 i hi
      intro hc
      rcases h3 with h3 | h3
      · exact hne (Nat.eq_of_beq_eq_true h3)
      · simp [hc] at h3

section
variable {C : Ctx} {n : Nat} {σ : List CObj} {ops : Array Oper}
def initL (ops : Array Oper) (nh : Nat) : Array Bool := ((List.range ops.size).map fun i => Nat.blt i nh).toArray
def COpsT (C : Ctx) (n : Nat) (ops : Array Oper) (Q : CExit → Env → List CObj → Prop) (fuel : Nat) (listed : Array Bool) (E : Env) (σ : List CObj) : Prop :=
  ∀ M w a, Rel C M σ w → FRel M w n E a → ∀ M0 w0, Ext M0 w0 M w → wpAny C.P .any ops (Lift C n Q M0 w0) fuel listed a w
theorem anc_listedT {nh : Nat} {ms : List Nat} (hok : HeadOkT ops nh ms) {listed : Array Bool} (hcl : ∀ k o, ops[k]? = some o → listed.getD k false = true → ∀ e ∈ o.after, binding e = true → listed.getD e.on false = true) :
    ∀ (j : Nat) (o : Oper), ops[j]? = some o → (∀ e ∈ o.after, binding e = true → listed.getD e.on false = true) → ∀ i, i < ops.size → (ms.getD j 0).testBit i = true → listed.getD i false = true := by
  intro j
  induction j using Nat.strongRecOn with
  | _ j ih =>
    intro o ho he i hi hm
    obtain ⟨e, hmem, hb, hx⟩ := hok.mask j o ho i hi hm
    rcases hx with hx | hx
    · subst hx; exact he e hmem hb
    · have hlt := hok.edge j o ho e hmem hb
      have hj : j < ops.size := (Array.getElem?_eq_some_iff.1 ho).1
      have ho' : ops[e.on]? = some (ops[e.on]'(by omega)) := by simp [show e.on < ops.size by omega]
      exact ih e.on hlt _ ho' (hcl _ _ ho' (he e hmem hb)) i hi hx

theorem any_headT {nh : Nat} {ms : List Nat} (hok : HeadOkT ops nh ms) {Q : CExit → Env → List CObj → Prop} {E : Env} {hs : List (Oper × CV × Prop)} (hhs : hs.map (·.1) = ops.toList.take nh)
    (hd : ∀ o ∈ ops, ∀ d, o.dst = some d → d < n)
    (hval : ∀ i o c g, hs[i]? = some (o, c, g) → HeadOp C σ ops o (envOf (fun k => decide (k < i)) 0 hs E) c g)
    (hfin : COpsT C n ops Q (ops.size - nh) (initL ops nh) (envOf (fun _ => true) 0 hs E) σ) (M0 : Plan) (w0 : World) :
    ∀ (fuel : Nat) (listed : Array Bool) (u : List Nat) (a : Act) (w : World) (M : Plan), listed.size = ops.size → u.length = fuel → (∀ i, i < ops.size → listed.getD i false = false → i ∈ u) → (∀ i, i ∈ u → i < ops.size ∧ listed.getD i false = false) → u.Nodup →
      (∀ k o, ops[k]? = some o → listed.getD k false = true → ∀ e ∈ o.after, binding e = true → listed.getD e.on false = true) → (∀ i, nh ≤ i → i < ops.size → listed.getD i false = false) →
      Ext M0 w0 M w → Rel C M σ w → FRel M w n (envOf (fun k => listed.getD k false) 0 hs E) a → wpAny C.P .any ops (Lift C n Q M0 w0) fuel listed a w := by
  have hget : ∀ i o, i < nh → ops[i]? = some o → ∃ c g, hs[i]? = some (o, c, g) := fun i o hi ho => by
    have h1 : (hs.map (·.1))[i]? = some o := by rw [hhs, List.getElem?_take, if_pos hi]; simpa using ho
    rw [List.getElem?_map, Option.map_eq_some_iff] at h1
    obtain ⟨⟨o', c, g⟩, h1, rfl⟩ := h1
    exact ⟨c, g, h1⟩
  have hback : ∀ i x, hs[i]? = some x → i < nh ∧ ops[i]? = some x.1 := fun i x hi => by
    have h1 : (hs.map (·.1))[i]? = some x.1 := by rw [List.getElem?_map, hi]; rfl
    rw [hhs, List.getElem?_take] at h1
    split at h1
    · exact ⟨‹_›, by simpa using h1⟩
    · cases h1
  -- the tail begins
  have toTail : ∀ (fuel : Nat) (listed : Array Bool) (a : Act) (w : World) (M : Plan), listed.size = ops.size → fuel = (ops.toList.drop nh).length → (∀ i, i < nh → listed.getD i false = true) → (∀ i, nh ≤ i → i < ops.size → listed.getD i false = false) →
      Ext M0 w0 M w → Rel C M σ w → FRel M w n (envOf (fun k => listed.getD k false) 0 hs E) a → wpAny C.P .any ops (Lift C n Q M0 w0) fuel listed a w := by
    intro fuel listed a w M hsz hfu h1 h2 hx hr hf
    have hle : listed = initL ops nh := by
      refine Array.ext (by rw [hsz]; simp [initL]) fun i hi _ => ?_
      have e1 : listed[i] = listed.getD i false := by simp [hi]
      have e2 : (initL ops nh)[i]'(by simpa [initL] using (by omega : i < ops.size)) = Nat.blt i nh := by simp [initL]
      rw [e1, e2]
      by_cases h : i < nh
      · rw [h1 i h]; symm; simpa [Nat.blt_eq] using h
      · rw [h2 i (by omega) (by omega)]; symm; exact Bool.eq_false_iff.2 fun hb => h (by simpa [Nat.blt_eq] using hb)
    have hag : ∀ t, (envOf (fun _ => true) 0 hs E).agree t (envOf (fun k => listed.getD k false) 0 hs E) := fun t => envOf_agree hs 0 E E ⟨rfl, rfl, rfl⟩ fun i x hi _ => by
      have := (hback i x hi).1
      simp [h1 i this]
    have hf' : FRel M w n (envOf (fun _ => true) 0 hs E) a := ⟨hf.defers, hf.size, fun t ht => (by rw [(hag t).1]; exact hf.rv t (by rw [← (hag t).2.1]; exact ht)), fun t ht => hf.un t (by rw [← (hag t).2.2]; exact ht)⟩
    have hfu' : fuel = ops.size - nh := by rw [hfu]; simp
    rw [hfu', hle]
    exact hfin M w a hr hf' M0 w0 hx
  intro fuel
  induction fuel with
  | zero =>
    intro listed u a w M hsz hu hun _ _ hcl htl hx hr hf
    have hu0 : u = [] := List.eq_nil_of_length_eq_zero hu
    subst hu0
    have hall : ∀ i, i < ops.size → listed.getD i false = true := fun i hi => by
      cases h : listed.getD i false with
      | true => rfl
      | false => exact absurd (hun i hi h) (by simp)
    have hns : ops.size ≤ nh := by
      rcases Nat.lt_or_ge nh ops.size with h | h
      · have h1 := hall nh h
        rw [htl nh (Nat.le_refl _) h] at h1
        cases h1
      · exact h
    refine toTail 0 listed a w M hsz (by simp; omega) (fun i hi => hall i (by have := hok.le; omega)) htl hx hr hf
  | succ fuel ih =>
    intro listed u a w M hsz hu hun hun' hnd hcl htl hx hr hf
    -- the least that has not come up is ready
    have hleast : ∃ j, j ∈ Region.ready .any ops listed := by
      have hex : ∃ j, j < ops.size ∧ listed.getD j false = false := by
        cases u with
        | nil => simp at hu
        | cons x u => exact ⟨x, hun' x (by simp)⟩
      obtain ⟨j, hj, hmin⟩ : ∃ j, (j < ops.size ∧ listed.getD j false = false) ∧ ∀ i, i < j → ¬ (i < ops.size ∧ listed.getD i false = false) := by
        obtain ⟨j, hj⟩ := hex
        induction j using Nat.strongRecOn with
        | _ j ihj =>
          by_cases h : ∃ i, i < j ∧ i < ops.size ∧ listed.getD i false = false
          · obtain ⟨i, hi, hp⟩ := h
            exact ihj i hi hp
          · exact ⟨j, hj, fun i hi hp => h ⟨i, hi, hp⟩⟩
      refine ⟨j, mem_ready.2 ⟨(getD_false_true (by omega)).2 hj.2, ops[j]'hj.1, by simp [hj.1], fun e he hb => ?_⟩⟩
      have hlt := hok.edge j _ (by simp [hj.1]) e he hb
      cases h : listed.getD e.on false with
      | true => rfl
      | false => exact absurd ⟨by omega, h⟩ (hmin e.on hlt)
    obtain ⟨j0, hj0⟩ := hleast
    by_cases htail : ∃ i ∈ Region.ready .any ops listed, nh ≤ i
    · -- the head is done
      obtain ⟨i, hi, hni⟩ := htail
      obtain ⟨h1, o, ho, he⟩ := mem_ready.1 hi
      have his : i < ops.size := (Array.getElem?_eq_some_iff.1 ho).1
      have hall : ∀ k, k < nh → listed.getD k false = true := fun k hk => anc_listedT hok hcl i o ho (fun e hek hb => he e hek hb) k (by omega) (hok.tail i hni his k hk)
      refine toTail (fuel + 1) listed a w M hsz ?_ hall htl hx hr hf
      -- as many are left as the tail has
      have hperm : u.length = (List.range' nh (ops.size - nh)).length := by
        apply List.Perm.length_eq
        apply (List.perm_ext_iff_of_nodup hnd (List.nodup_range')).2
        intro k
        rw [List.mem_range'_1]
        constructor
        · intro hk
          obtain ⟨h2, h3⟩ := hun' k hk
          refine ⟨?_, by omega⟩
          rcases Nat.lt_or_ge k nh with h4 | h4
          · rw [hall k h4] at h3; cases h3
          · exact h4
        · intro ⟨h2, h3⟩
          exact hun k (by omega) (htl k h2 (by omega))
      rw [hu] at hperm
      simp at hperm ⊢
      omega
    · refine ⟨fun h0 => (by rw [h0] at hj0; cases hj0), fun i hi => ?_⟩
      have hin : i < nh := by
        rcases Nat.lt_or_ge i nh with h | h
        · exact h
        · exact absurd ⟨i, hi, h⟩ htail
      obtain ⟨h1, o, ho, he⟩ := mem_ready.1 hi
      have his : i < ops.size := (Array.getElem?_eq_some_iff.1 ho).1
      have hiL : listed.getD i false = false := (getD_false_true (by omega)).1 h1
      obtain ⟨c, g, hc⟩ := hget i o hin ho
      have hop := hval i o c g hc
      -- what the operation looks at stands as in the text's order
      have hag : ∀ t, t ∈ o.looksAt ops → (envOf (fun k => decide (k < i)) 0 hs E).agree t (envOf (fun k => listed.getD k false) 0 hs E) := fun t ht => envOf_agree hs 0 E E ⟨rfl, rfl, rfl⟩ fun k x hk hkd => by
        rw [Nat.zero_add]
        obtain ⟨hkn, hko⟩ := hback k x hk
        have hks : k < ops.size := (Array.getElem?_eq_some_iff.1 hko).1
        by_cases hki : k = i
        · subst hki; rw [hiL]; simp
        · rcases hok.tmps i o hin ho t ht k hks hki (by rw [hko]; exact hkd) with ⟨h2, h3⟩ | ⟨h2, h3⟩
          · have := anc_listedT hok hcl i o ho (fun e hek hb => he e hek hb) k hks h3
            rw [this]; simp [h2]
          · have : listed.getD k false = false := by
              cases h : listed.getD k false with
              | false => rfl
              | true =>
                have := anc_listedT hok hcl k x.1 hko (hcl k x.1 hko h) i his h3
                rw [hiL] at this
                cases this
            rw [this]
            have : ¬ k < i := by omega
            simp [this]
      -- the next state
      have next : ∀ (v : Value) (w' : World) (M' : Plan), Ext M w M' w' → Rel C M' σ w' → (g → RV M' w' c v) → (¬ g → v = undef) → wpAny C.P .any ops (Lift C n Q M0 w0) fuel (listed.setIfInBounds i true) (a.put o.dst v) w' := by
        intro v w' M' hx' hr' hv hun0
        have hiu : i ∈ u := hun i his hiL
        have hgd : ∀ k, (listed.setIfInBounds i true).getD k false = if k = i then true else listed.getD k false := fun k => by
          by_cases hki : k = i
          · subst hki
            have : k < listed.size := by omega
            simp [this]
          · rw [if_neg hki]
            simp [Array.getElem?_setIfInBounds_ne (Ne.symm hki)]
        refine ih (listed.setIfInBounds i true) (u.erase i) _ w' M' (by simp [hsz]) (by rw [List.length_erase_of_mem hiu, hu]; rfl) (fun k hk hkl => ?_) (fun k hk => ?_) (hnd.erase i) (fun k ok hk hkl e hek hb => ?_) (fun k hk hks => ?_) (hx.trans hx') hr' ?_
        · rw [hgd] at hkl
          split at hkl
          · cases hkl
          · rename_i hne
            exact (List.mem_erase_of_ne hne).2 (hun k hk hkl)
        · have hne : k ≠ i := fun e => by subst e; exact (hnd.not_mem_erase) hk
          rw [hgd, if_neg hne]
          exact hun' k (List.mem_of_mem_erase hk)
        · rw [hgd] at hkl ⊢
          split
          · rfl
          · split at hkl
            · rename_i hki
              subst hki
              rw [ho] at hk
              injection hk with hk
              subst hk
              exact he e hek hb
            · exact hcl k ok hk hkl e hek hb
        · rw [hgd, if_neg (by omega)]
          exact htl k hk hks
        · have hput := (hf.mono hx').put (d := o.dst) (c := c) (v := v) (g := g) (fun t ht => hd o (Array.mem_of_getElem? ho) t ht) hv hun0
          have hag' : ∀ t, (envOf (fun k => (listed.setIfInBounds i true).getD k false) 0 hs E).agree t ((envOf (fun k => listed.getD k false) 0 hs E).put o.dst c g) := by
            intro t
            by_cases hdt : o.dst = some t
            · have hat := envOf_at (L := fun k => (listed.setIfInBounds i true).getD k false) hs 0 i E o c g hc hdt (by simp only [Nat.zero_add, hgd, if_true]) (fun k x hk hne => by
                obtain ⟨hkn, hko⟩ := hback k x hk
                have := hok.uniq i o t hin ho hdt k hkn hne
                rw [hko] at this
                exact this)
              unfold Env.agree
              rw [hat.1, hat.2.1, hat.2.2, hdt, Env.put_f, Env.put_ok, Env.put_un]
              simp
            · refine (agree_put_other hdt ?_).symm
              refine envOf_agree hs 0 E E ⟨rfl, rfl, rfl⟩ fun k x hk hkd => ?_
              rw [Nat.zero_add, hgd]
              split
              · rename_i hki
                subst hki
                rw [hc] at hk
                injection hk with hk
                subst hk
                exact absurd hkd hdt
              · rfl
          refine ⟨hput.defers, hput.size, fun t ht => ?_, fun t ht => hput.un t (by rw [← (hag' t).2.2]; exact ht)⟩
          rw [(hag' t).1]
          exact hput.rv t (by rw [← (hag' t).2.1]; exact ht)
      unfold wpOp
      simp only [ho]
      have hopr : ∀ x ∈ o.op.operands, (envOf (fun k => decide (k < i)) 0 hs E).valid x → RV M w ((envOf (fun k => decide (k < i)) 0 hs E).val C x) (a.eval x) := fun x hx hv => by
        cases x with
        | tmp t =>
          have h2 := hag t (looksAt_op hx)
          simp only [Env.val, Env.valid] at hv ⊢
          rw [h2.1]
          exact hf.rv t (by rw [← h2.2.1]; exact hv)
        | const v => exact hf.eval (x := .const v) hr hv
        | global v => exact hf.eval (x := .global v) hr hv
        | func v => exact hf.eval (x := .func v) hr hv
      rcases hop with ⟨hg, hgp, hy⟩ | ⟨j, t, want, b, hg, ht, hok', hb, hgb, hy⟩
      · rw [if_pos (by simp [Region.wanted, hg])]
        refine .inl (wp_of_upon (hy M w a.eval hr hopr) (fun v w' ha => ?_) (fun ch w' ha => ?_))
        · obtain ⟨c', σ', M', h1, h2, h3, h4, rfl⟩ := ha
          injection h4 with h4
          subst h4
          exact next v w' M' h1 h2 (fun _ => h3) fun hh => absurd hgp hh
        · obtain ⟨c', v, σ', M', _, _, _, _, h4, _⟩ := ha
          cases h4
      · have h2 := hag t (looksAt_guard hg ht)
        by_cases hokt : (envOf (fun k => decide (k < i)) 0 hs E).ok t
        · have h3 : RV M w ((envOf (fun k => listed.getD k false) 0 hs E).f t) (a.tmps.getD t undef) := hf.rv t (by rw [← h2.2.1]; exact hokt)
          rw [← h2.1, hb] at h3
          have h4 := rv_val h3
          have hszt : t < a.tmps.size := by
            rcases Nat.lt_or_ge t a.tmps.size with h' | h'
            · exact h'
            · simp [Array.getElem?_eq_none h', undef] at h4
          have h5 : a.tmps[t]? = some (.bool b) := by
            rw [Array.getD_eq_getD_getElem?, Array.getElem?_eq_getElem hszt] at h4
            rw [Array.getElem?_eq_getElem hszt, ← h4]; rfl
          have h6 : yielded ops a.tmps j = some b := by unfold yielded; rw [ht, Option.bind_some, h5]
          have hw : Region.wanted o (yielded ops a.tmps) = (b == want) := by
            simp only [Region.wanted, hg, h6]
            cases b <;> cases want <;> rfl
          by_cases hbw : b = want
          · rw [if_pos (by rw [hw]; simpa using hbw)]
            refine .inl (wp_of_upon (hy hokt hbw M w a.eval hr hopr) (fun v w' ha => ?_) (fun ch w' ha => ?_))
            · obtain ⟨c', σ', M', h1, h2, h3, h4, rfl⟩ := ha
              injection h4 with h4
              subst h4
              exact next v w' M' h1 h2 (fun _ => h3) fun hh => absurd (hgb.2 ⟨hokt, hbw⟩) hh
            · obtain ⟨c', v, σ', M', _, _, _, _, h4, _⟩ := ha
              cases h4
          · rw [if_neg (by rw [hw]; simpa using hbw)]
            exact next undef w M (Ext.refl M w) hr (fun hgg => absurd (hgb.1 hgg).2 hbw) fun _ => rfl
        · have h3 := hf.un t (by rw [← h2.2.2]; exact hok' hokt)
          have h6 : yielded ops a.tmps j = none := by
            unfold yielded
            rw [ht, Option.bind_some]
            rcases Nat.lt_or_ge t a.tmps.size with h' | h'
            · rw [Array.getD_eq_getD_getElem?, Array.getElem?_eq_getElem h'] at h3
              rw [Array.getElem?_eq_getElem h']
              simp only [Option.getD_some] at h3
              rw [h3]
              rfl
            · rw [Array.getElem?_eq_none h']
          have hw : Region.wanted o (yielded ops a.tmps) = false := by
            simp only [Region.wanted, hg, h6]
            cases want <;> rfl
          rw [if_neg (by rw [hw]; simp)]
          exact next undef w M (Ext.refl M w) hr (fun hgg => absurd (hgb.1 hgg).1 hokt) fun _ => rfl

theorem cw_drawT {id : Nat} {Q : CExit → Env → List CObj → Prop} {E : Env} (nh : Nat) (ms : List Nat) (hm : C.P.follows .mixedOrders = true) (hB : headBT ops nh ms = true) (hd : (ops.toList.all fun o => match o.dst with | some d => Nat.blt d n | none => true) = true)
    (h : CHead C σ ops (fun E' => COpsT C n ops Q (ops.size - nh) (initL ops nh) E' σ) (ops.toList.take nh) E) : CWp C n (.region id ops true) Q E σ := fun M w a hr hf => by
  have hok := headOkT hB
  obtain ⟨hs, h1, h2, h3⟩ := chead_vals _ _ h
  obtain ⟨hr', hx⟩ := hr.drew
  refine wp_region_any hm (any_headT hok h1 (fun o ho d hod => ?_) h3 h2 M w ops.size (Array.replicate ops.size false) (List.range ops.size) a _ M (by simp) (by simp) (fun i hi _ => by simpa using hi) (fun i hi => ?_) List.nodup_range (fun k o hk hkl => ?_) (fun i _ hi => ?_) hx hr' ?_)
  · rw [List.all_eq_true] at hd
    have := hd o (by simpa using ho)
    rw [hod] at this
    simpa [Nat.blt_eq] using this
  · have : i < ops.size := by simpa using hi
    exact ⟨this, by simp [this]⟩
  · have hks : k < ops.size := (Array.getElem?_eq_some_iff.1 hk).1
    simp [hks] at hkl
  · simp [hi]
  · have hff : (fun k => (Array.replicate ops.size false).getD k false) = fun _ => false := by
      funext k
      simp only [Array.getD_eq_getD_getElem?, Array.getElem?_replicate]
      split <;> rfl
    rw [hff]
    have hall : ∀ (l : List (Oper × CV × Prop)) (k : Nat) (E : Env), envOf (fun _ => false) k l E = E := by
      intro l
      induction l with
      | nil => intros; rfl
      | cons x l ih => intro k E; obtain ⟨a, b, c⟩ := x; simp only [envOf]; exact ih _ _
    rw [hall]
    exact hf.mono hx

theorem ct_nil {Q : CExit → Env → List CObj → Prop} {E : Env} {fuel : Nat} {listed : Array Bool} (h : Region.ready .any ops listed = []) (hQ : Q .normal E σ) : COpsT C n ops Q fuel listed E σ := fun M w a hr hf M0 w0 hx => by
  cases fuel with
  | zero => exact ⟨h, E, σ, M, hx, hr, hf, hQ⟩
  | succ f => exact ⟨fun _ => ⟨E, σ, M, hx, hr, hf, hQ⟩, fun i hi => by rw [h] at hi; cases hi⟩

/-- One operation that is ready. -/
def COp1 (C : Ctx) (n : Nat) (ops : Array Oper) (Q : CExit → Env → List CObj → Prop) (fuel : Nat) (listed : Array Bool) (E : Env) (σ : List CObj) (i : Nat) : Prop :=
  ∀ M w a, Rel C M σ w → FRel M w n E a → ∀ M0 w0, Ext M0 w0 M w → wpOp C.P ops (Lift C n Q M0 w0) i (wpAny C.P .any ops (Lift C n Q M0 w0) fuel (listed.setIfInBounds i true)) a w
def CAll (P : Nat → Prop) : List Nat → Prop
  | [] => True
  | i :: l => P i ∧ CAll P l
theorem CAll.get {P : Nat → Prop} : ∀ {l : List Nat}, CAll P l → ∀ i ∈ l, P i
  | [], _, i, h => by cases h
  | x :: l, ⟨h1, h2⟩, i, h => by
    rcases List.mem_cons.1 h with rfl | h
    · exact h1
    · exact CAll.get h2 i h
theorem ct_step {Q : CExit → Env → List CObj → Prop} {E : Env} {fuel : Nat} {listed : Array Bool} (rd : List Nat) (h : Region.ready .any ops listed = rd) (hne : rd.isEmpty = false) (hc : CAll (COp1 C n ops Q fuel listed E σ) rd) : COpsT C n ops Q (fuel + 1) listed E σ := fun M w a hr hf M0 w0 hx => by
  refine ⟨fun h0 => ?_, fun i hi => hc.get i (h ▸ hi) M w a hr hf M0 w0 hx⟩
  rw [h] at h0; rw [h0] at hne; cases hne
theorem ct_d {Q : CExit → Env → List CObj → Prop} {E : Env} {fuel : Nat} {listed : Array Bool} {i : Nat} {o : Oper} (ho : ops[i]? = some o) (hg : o.guard = none) (hd : (match o.dst with | some d => Nat.blt d n | none => true) = true) (h : Does C σ E o fun r σ' => match r with
      | .ret c => COpsT C n ops Q fuel (listed.setIfInBounds i true) (E.put o.dst c True) σ'
      | .pan c => Q (.pan c) E σ') : COp1 C n ops Q fuel listed E σ i := fun M w a hr hf M0 w0 hx => by
  unfold wpOp
  simp only [ho]
  rw [if_pos (by simp [Region.wanted, hg])]
  have hd' : ∀ t, o.dst = some t → t < n := fun t ht => by rw [ht] at hd; simpa [Nat.blt_eq] using hd
  refine .inl (wp_of_upon (h M w a.eval hr fun x _ hx => hf.eval hr hx) (fun v w' ha => ?_) (fun ch w' ha => ?_))
  · obtain ⟨c, σ', M', h1, h2, h3, h4⟩ := ha
    exact h4 M' w' _ h2 ((hf.mono h1).put hd' (fun _ => h3) fun hh => absurd trivial hh) M0 w0 (hx.trans h1)
  · obtain ⟨c, v, σ', M', h0, h1, h2, h3, h4⟩ := ha
    exact ⟨E, σ', M', hx.trans h1, h2, hf.mono h1, c, v, h0, h3, h4⟩
theorem ct_y {Q : CExit → Env → List CObj → Prop} {E : Env} {fuel : Nat} {listed : Array Bool} {i : Nat} {o : Oper} {c : CV} (ho : ops[i]? = some o) (hg : o.guard = none) (hd : (match o.dst with | some d => Nat.blt d n | none => true) = true) (hy : Yields C σ E o c) (h : COpsT C n ops Q fuel (listed.setIfInBounds i true) (E.put o.dst c True) σ) : COp1 C n ops Q fuel listed E σ i :=
  ct_d ho hg hd (hy.mono fun r σ' hr => by
    obtain ⟨rfl, rfl⟩ := hr
    exact h)
end
end Go.Cl
