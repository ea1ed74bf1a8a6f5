import Derived.Test.YtchaklkfaemfgaaK9
namespace Go.Cl

/-! ### Jumps back to a label -/
def CExit.jump (l : Nat) (J : Env → List CObj → Prop) (Q : CExit → Env → List CObj → Prop) : CExit → Env → List CObj → Prop
  | .goto l', E, σ => l' = l ∧ J E σ
  | e, E, σ => Q e E σ

theorem cw_scope {C : Ctx} {n : Nat} {Q : CExit → Env → List CObj → Prop} {E : Env} {σ : List CObj} {c rest : Code} (l : Nat) (J : Nat → Env → List CObj → Prop) (hf : findLabel c l = some rest)
    (first : CWp C n c (CExit.jump l (fun E σ => ∃ m, J m E σ) Q) E σ) (pass : ∀ m E σ, J m E σ → CWp C n rest (CExit.jump l (fun E' σ' => ∃ m', m' < m ∧ J m' E' σ') Q) E σ) : CWp C n (.scope c) Q E σ := fun M w a hr hfr => by
  intro b k cs
  have hg : gotoIn l (.inScope c :: k) = some (.code rest :: .inScope c :: k) := by simp [gotoIn, hf]
  have key : ∀ m E σ M1 w1 a1, J m E σ → Ext M w M1 w1 → Rel C M1 σ w1 → FRel M1 w1 n E a1 →
      ∃ e a' w', Lift C n Q M w e a' w' ∧ Arrives C.P (lone (b.at a1 (.code rest :: .inScope c :: k)) cs w1) b k cs e a' w' := by
    intro m
    induction m using Nat.strongRecOn with
    | _ m ih =>
      intro E σ M1 w1 a1 hJ hx hr1 hf1
      obtain ⟨e, a2, w2, hq, harr⟩ := pass m E σ hJ M1 w1 a1 hr1 hf1 b (.inScope c :: k) cs
      obtain ⟨E', σ', M', h1, h2, h3, h4⟩ := hq
      cases e with
      | normal => exact ⟨.normal, a2, w2, ⟨E', σ', M', hx.trans h1, h2, h3, h4⟩, Steps.trans harr (.one step_inScope)⟩
      | exit id => exact ⟨.exit id, a2, w2, ⟨E', σ', M', hx.trans h1, h2, h3, h4⟩, fun k' hk => harr k' (by simp [exitTo, hk])⟩
      | goto l' =>
        obtain ⟨rfl, m', hlt, hJ'⟩ := h4
        obtain ⟨e₂, a₂, w₂, hq₂, harr₂⟩ := ih m' hlt E' σ' M' w2 a2 hJ' (hx.trans h1) h2 h3
        exact ⟨e₂, a₂, w₂, hq₂, .of_steps (harr _ hg) harr₂⟩
      | ret => exact ⟨.ret, a2, w2, ⟨E', σ', M', hx.trans h1, h2, h3, h4⟩, harr⟩
      | panic ch => exact ⟨.panic ch, a2, w2, ⟨E', σ', M', hx.trans h1, h2, h3, h4⟩, harr⟩
      | outgrown => exact h4.elim
  obtain ⟨e, a1, w1, hq, harr⟩ := first M w a hr hfr b (.inScope c :: k) cs
  obtain ⟨E', σ', M', h1, h2, h3, h4⟩ := hq
  cases e with
  | normal => exact ⟨.normal, a1, w1, ⟨E', σ', M', h1, h2, h3, h4⟩, .head step_scope (Steps.trans harr (.one step_inScope))⟩
  | exit id => exact ⟨.exit id, a1, w1, ⟨E', σ', M', h1, h2, h3, h4⟩, fun k' hk => .head step_scope (harr k' (by simp [exitTo, hk]))⟩
  | goto l' =>
    obtain ⟨rfl, m, hJ⟩ := h4
    obtain ⟨e₂, a₂, w₂, hq₂, harr₂⟩ := key m E' σ' M' w1 a1 hJ h1 h2 h3
    exact ⟨e₂, a₂, w₂, hq₂, .of_steps (.head step_scope (harr _ hg)) harr₂⟩
  | ret => exact ⟨.ret, a1, w1, ⟨E', σ', M', h1, h2, h3, h4⟩, .of_steps (.one step_scope) harr⟩
  | panic ch => exact ⟨.panic ch, a1, w1, ⟨E', σ', M', h1, h2, h3, h4⟩, .of_steps (.one step_scope) harr⟩
  | outgrown => exact h4.elim

/-! ### What a call leaves behind is dropped -/
/-- All numbers of objects are below n. -/
inductive Old (n : Nat) : CV → Prop where
  | val (v : Value) : Old n (.val v)
  | agg {cs : List CV} : (∀ (i : Nat) (c : CV), cs[i]? = some c → Old n c) → Old n (.agg cs)
  | tup {cs : List CV} : (∀ (i : Nat) (c : CV), cs[i]? = some c → Old n c) → Old n (.tup cs)
  | list {rows : List (List CV)} {nn : Bool} {tok : Option Nat} : (∀ (i j : Nat) (r : List CV) (c : CV), rows[i]? = some r → r[j]? = some c → Old n c) → (∀ k, tok = some k → k < n) → Old n (.list rows nn tok)
  | ptr {k off : Nat} : k < n → Old n (.ptr k off)
  | cptr {cells : List CV} : (∀ (j : Nat) (c : CV), cells[j]? = some c → Old n c) → Old n (.cptr cells)
  | eptr {k i off : Nat} : k < n → Old n (.eptr k i off)
  | vec {k off len : Nat} : k < n → Old n (.vec k off len)
  | map {k : Nat} : k < n → Old n (.map k)

theorem RV.old {M : Plan} {w : World} {c : CV} {v : Value} (h : RV M w c v) : Old M.pl.length c := by
  induction h with
  | val v => exact .val v
  | agg _ _ _ ih => exact .agg ih
  | tup _ _ ih => exact .tup ih
  | list vals _ _ _ _ _ _ _ _ _ htok ih =>
    exact .list ih fun k hk => (by
      obtain ⟨s', hp, _⟩ := htok k hk
      exact (List.getElem?_eq_some_iff.1 hp).1)
  | ptr hk => exact .ptr (List.getElem?_eq_some_iff.1 hk).1
  | cptr _ _ _ _ ih => exact .cptr ih
  | eptr hk => exact .eptr (List.getElem?_eq_some_iff.1 hk).1
  | vec hk => exact .vec (List.getElem?_eq_some_iff.1 hk).1
  | map hk => exact .map (List.getElem?_eq_some_iff.1 hk).1

/-- Fewer objects, more settled blocks. -/
structure Cut (n : Nat) (M M' : Plan) : Prop where
  pl : M'.pl = M.pl.take n
  full : ∀ b, M.full b → M'.full b
  cell : ∀ b o, M.cell b o → M'.at b o

theorem Cut.at {n : Nat} {M M' : Plan} (h : Cut n M M') {b o : Nat} (ha : M.at b o) : M'.at b o := by
  rcases ha with ha | ha
  · exact .inl (h.full _ ha)
  · exact h.cell _ _ ha
theorem Cut.get {n : Nat} {M M' : Plan} (h : Cut n M M') {k : Nat} {p : Pl} (hk : k < n) (hp : M.pl[k]? = some p) : M'.pl[k]? = some p := by
  rw [h.pl, List.getElem?_take, if_pos hk]; exact hp

theorem RV.cut {n : Nat} {M M' : Plan} (hc : Cut n M M') {w : World} {c : CV} {v : Value} (h : RV M w c v) (ho : Old n c) : RV M' w c v := by
  induction h with
  | val v => exact .val v
  | agg h1 h2 _ ih => cases ho with | agg ho => exact .agg h1 h2 fun i c hi => ih i c hi (ho i c hi)
  | tup h1 _ ih => cases ho with | tup ho => exact .tup h1 fun i c hi => ih i c hi (ho i c hi)
  | list vals h1 h2 h3 h4 h5 h6 h7 h8 _ h10 ih =>
    cases ho with
    | list ho ht =>
      exact .list vals h1 h2 h3 h4 h5 h6 h7 (fun i j r c hi hj => ⟨hc.at (h8 i j r c hi hj).1, (h8 i j r c hi hj).2⟩) (fun i j r c hi hj => ih i j r c hi hj (ho i j r c hi hj)) fun k hk => by
        obtain ⟨s', hp, hrest⟩ := h10 k hk
        exact ⟨s', hc.get (ht k hk) hp, hrest⟩
  | ptr hk => cases ho with | ptr ho => exact .ptr (hc.get ho hk)
  | cptr vals h1 h2 _ ih => cases ho with | cptr ho => exact .cptr vals h1 (fun j c hj => ⟨hc.at (h2 j c hj).1, (h2 j c hj).2⟩) fun j c hj => ih j c hj (ho j c hj)
  | eptr hk => cases ho with | eptr ho => exact .eptr (hc.get ho hk)
  | vec hk h1 h2 h3 => cases ho with | vec ho => exact .vec (hc.get ho hk) h1 h2 h3
  | map hk => cases ho with | map ho => exact .map (hc.get ho hk)

/-- A value as it reads when the objects from n on are dropped: what they held is settled. -/
inductive Cls (n : Nat) (σ : List CObj) : CV → CV → Prop where
  | old {c : CV} : Old n c → Cls n σ c c
  | agg {cs cs' : List CV} : cs.length = cs'.length → (∀ (i : Nat) (c c' : CV), cs[i]? = some c → cs'[i]? = some c' → Cls n σ c c') → Cls n σ (.agg cs) (.agg cs')
  | tup {cs cs' : List CV} : cs.length = cs'.length → (∀ (i : Nat) (c c' : CV), cs[i]? = some c → cs'[i]? = some c' → Cls n σ c c') → Cls n σ (.tup cs) (.tup cs')
  | list {rows rows' : List (List CV)} {nn : Bool} {tok : Option Nat} : rows.length = rows'.length → (∀ (i : Nat) (r r' : List CV), rows[i]? = some r → rows'[i]? = some r' → r.length = r'.length) →
      (∀ (i j : Nat) (r r' : List CV) (c c' : CV), rows[i]? = some r → rows'[i]? = some r' → r[j]? = some c → r'[j]? = some c' → Cls n σ c c') → Cls n σ (.list rows nn tok) (.list rows' nn none)
  | vec {k off len s : Nat} {rows rows' : List (List CV)} : n ≤ k → σ[k]? = some (.vec s rows) → off + len ≤ rows.length → ((rows.drop off).take len).length = rows'.length → (∀ (i : Nat) (r r' : List CV), ((rows.drop off).take len)[i]? = some r → rows'[i]? = some r' → r.length = r'.length) →
      (∀ (i j : Nat) (r r' : List CV) (c c' : CV), ((rows.drop off).take len)[i]? = some r → rows'[i]? = some r' → r[j]? = some c → r'[j]? = some c' → Cls n σ c c') → Cls n σ (.vec k off len) (.list rows' true none)

theorem Cls.one {n : Nat} {σ : List CObj} {c c' : CV} (h : Cls n σ c c') (ho : c.one = true) : c'.one = true := by
  cases h <;> first | exact ho | rfl | (simp [CV.one] at ho)

theorem get_pair {α β : Type} {l : List α} {l' : List β} (h : l.length = l'.length) {i : Nat} {x : β} (hx : l'[i]? = some x) : ∃ y, l[i]? = some y := by
  have := (List.getElem?_eq_some_iff.1 hx).1
  exact ⟨l[i], by simp [h, this]⟩

theorem RV.close {C : Ctx} {n : Nat} {M M' : Plan} {σ : List CObj} {w : World} (hr : Rel C M σ w) (hc : Cut n M M') (hfull : ∀ (k : Nat) (p : Pl) (s : Nat) (rows : List (List CV)), n ≤ k → M.pl[k]? = some p → σ[k]? = some (.vec s rows) → M'.full p.block) {c c' : CV} {v : Value} (h : Cls n σ c c') (hv : RV M w c v) : RV M' w c' v := by
  induction h generalizing v with
  | old ho => exact hv.cut hc ho
  | agg hl hcls ih =>
    cases hv with
    | agg h1 h2 h3 =>
      refine .agg (by omega) (fun c hcm => ?_) (fun i c' hi => ?_)
      · obtain ⟨i, hi⟩ := List.mem_iff_getElem?.1 hcm
        obtain ⟨y, hy⟩ := get_pair hl hi
        exact (hcls i y c hy hi).one (h2 y (List.mem_of_getElem? hy))
      · obtain ⟨y, hy⟩ := get_pair hl hi
        exact ih i y c' hy hi (h3 i y hy)
  | tup hl _ ih =>
    cases hv with
    | tup h1 h3 =>
      refine .tup (by omega) (fun i c' hi => ?_)
      obtain ⟨y, hy⟩ := get_pair hl hi
      exact ih i y c' hy hi (h3 i y hy)
  | list hl hlr hcls ih =>
    obtain ⟨a, cap, b, off, s, vals, rfl, h1, h2, h3, h4, h5, h6, h7, h8, h9, _⟩ := hv.list_inv
    rename_i rows rows' nn tok
    refine RV.list' hl (b := b) (off := off) (s := s) vals (by omega) h2 h3 h4 (fun hne => h5 fun e => hne (List.eq_nil_of_length_eq_zero (by rw [← hl, e]; rfl))) (fun r' hr' => ?_) (fun r' hr' c' hc' => ?_) (fun i j r' c' hi hj => ?_) (fun i j r' c' hi hj => ?_) (fun k hk => by cases hk)
    · obtain ⟨i, hi⟩ := List.mem_iff_getElem?.1 hr'
      obtain ⟨r, hr0⟩ := get_pair hl hi
      rw [← hlr i r r' hr0 hi]
      exact h6 r (List.mem_of_getElem? hr0)
    · obtain ⟨i, hi⟩ := List.mem_iff_getElem?.1 hr'
      obtain ⟨r, hr0⟩ := get_pair hl hi
      obtain ⟨j, hj⟩ := List.mem_iff_getElem?.1 hc'
      obtain ⟨c, hc0⟩ := get_pair (hlr i r r' hr0 hi) hj
      exact (hcls i j r r' c c' hr0 hi hc0 hj).one (h7 r (List.mem_of_getElem? hr0) c (List.mem_of_getElem? hc0))
    · obtain ⟨r, hr0⟩ := get_pair hl hi
      obtain ⟨c, hc0⟩ := get_pair (hlr i r r' hr0 hi) hj
      exact ⟨hc.at (h8 i j r c hr0 hc0).1, (h8 i j r c hr0 hc0).2⟩
    · obtain ⟨r, hr0⟩ := get_pair hl hi
      obtain ⟨c, hc0⟩ := get_pair (hlr i r r' hr0 hi) hj
      exact ih i j r r' c c' hr0 hi hc0 hj (h9 i j r c hr0 hc0)
  | vec hk hσ hle hl hlr hcls ih =>
    cases hv with
    | vec hp g1 g2 g3 =>
      rename_i k off len s rows rows' p a
      have hfp := hfull k p s rows hk hp hσ
      obtain ⟨⟨hps, q1, q2, q3, q4, arr, ty, q5, q6, q7⟩, _⟩ := hr.obj k p _ hp hσ
      have hlen : ((rows.drop off).take len).length = len := by simp; omega
      have hget : ∀ i r, ((rows.drop off).take len)[i]? = some r → i < len ∧ rows[off + i]? = some r := fun i r hi => by
        rw [List.getElem?_take] at hi
        split at hi
        · rw [List.getElem?_drop] at hi; exact ⟨‹_›, hi⟩
        · cases hi
      have hoff : rows' ≠ [] → off < p.cap := fun hne => by
        have : 0 < rows'.length := List.length_pos_iff.2 hne
        omega
      refine RV.list' (L := len) (by omega) (b := p.block) (off := off * p.size) (s := p.size) (fun i j => arr.getD ((off + i) * p.size + j) undef) (by omega) (by omega) rfl (fun h => by cases h) (fun hne => by rw [g3 (hoff hne)]) (fun r' hr' => ?_) (fun r' hr' c' hc' => ?_) (fun i j r' c' hi hj => ?_) (fun i j r' c' hi hj => ?_) (fun k hk => by cases hk)
      · obtain ⟨i, hi⟩ := List.mem_iff_getElem?.1 hr'
        obtain ⟨r, hr0⟩ := get_pair hl hi
        rw [← hlr i r r' hr0 hi]
        exact q3 r (List.mem_of_getElem? (hget i r hr0).2)
      · obtain ⟨i, hi⟩ := List.mem_iff_getElem?.1 hr'
        obtain ⟨r, hr0⟩ := get_pair hl hi
        obtain ⟨j, hj⟩ := List.mem_iff_getElem?.1 hc'
        obtain ⟨c, hc0⟩ := get_pair (hlr i r r' hr0 hi) hj
        exact (hcls i j r r' c c' hr0 hi hc0 hj).one (q4 r (List.mem_of_getElem? (hget i r hr0).2) c (List.mem_of_getElem? hc0))
      · obtain ⟨r, hr0⟩ := get_pair hl hi
        obtain ⟨c, hc0⟩ := get_pair (hlr i r r' hr0 hi) hj
        obtain ⟨hil, hri⟩ := hget i r hr0
        have hjl : j < p.size := by have := (List.getElem?_eq_some_iff.1 hc0).1; rwa [q3 r (List.mem_of_getElem? hri)] at this
        have hq : (off + i) * p.size + j < arr.size := by
          rw [q6]
          have : (off + i + 1) * p.size ≤ p.cap * p.size := Nat.mul_le_mul_right _ (by omega)
          rw [Nat.add_mul (off + i)] at this; omega
        refine ⟨.inl hfp, ?_⟩
        rw [show off * p.size + i * p.size + j = (off + i) * p.size + j from by rw [Nat.add_mul off]]
        simp [World.cell?, q5, hq]
      · obtain ⟨r, hr0⟩ := get_pair hl hi
        obtain ⟨c, hc0⟩ := get_pair (hlr i r r' hr0 hi) hj
        exact ih i j r r' c c' hr0 hi hc0 hj (q7 _ _ _ _ (hget i r hr0).2 hc0)

def Plan.cutAt (M : Plan) (n : Nat) (σ : List CObj) : Plan :=
  { pl := M.pl.take n, full := fun b => M.full b ∨ ∃ k p ob, n ≤ k ∧ M.pl[k]? = some p ∧ σ[k]? = some ob ∧ ob.live = true ∧ p.block = b, cell := M.cell, keep := M.keep }

theorem Rel.cut {C : Ctx} {M0 M : Plan} {σ extra : List CObj} {w0 w : World} (h0 : Rel C M0 σ w0) (hx : Ext M0 w0 M w) (hr : Rel C M (σ ++ extra) w) :
    Rel C (M.cutAt σ.length (σ ++ extra)) σ w ∧ Cut σ.length M (M.cutAt σ.length (σ ++ extra)) ∧ Ext M0 w0 (M.cutAt σ.length (σ ++ extra)) w := by
  have hcut : Cut σ.length M (M.cutAt σ.length (σ ++ extra)) := ⟨rfl, fun _ h => .inl h, fun _ _ h => .inr h⟩
  obtain ⟨l, hl⟩ := hx.pl
  have hpl : (M.cutAt σ.length (σ ++ extra)).pl = M0.pl := by
    show M.pl.take σ.length = M0.pl
    rw [hl, ← h0.len, List.take_left]
  have hx' : Ext M0 w0 (M.cutAt σ.length (σ ++ extra)) w := ⟨⟨[], by rw [hpl]; simp⟩, fun b h => .inl (hx.full b h), fun b o h => hcut.at (hx.cell b o h), hx.same, hx.sameC, hx.size, hx.os, hx.tape, hx.output, fun b hb => (by
    obtain ⟨k1, k2, k3, k4⟩ := hx.kept b hb
    refine ⟨k1, k2, fun f => ?_, k4⟩
    rcases f with f | ⟨k, p, ob, _, hp, hs, hlv, rfl⟩
    · exact k3 f
    · exact absurd k1 (hr.nk k p ob hp hs hlv))⟩
  have hget : ∀ {k : Nat} {p : Pl}, (M.cutAt σ.length (σ ++ extra)).pl[k]? = some p → k < σ.length ∧ M.pl[k]? = some p ∧ M0.pl[k]? = some p := by
    intro k p hk
    have h1 : M0.pl[k]? = some p := by rw [← hpl]; exact hk
    have hlt : k < σ.length := by rw [← h0.len]; exact (List.getElem?_eq_some_iff.1 h1).1
    exact ⟨hlt, hx.get h1, h1⟩
  have hσ : ∀ {k : Nat} {ob : CObj}, σ[k]? = some ob → (σ ++ extra)[k]? = some ob := by
    intro k ob h
    rw [List.getElem?_append_left (List.getElem?_eq_some_iff.1 h).1]; exact h
  refine ⟨⟨by rw [hpl, h0.len], fun b o ha => ?_, fun k p ob hk hs => ?_, fun k k' p p' ob ob' hk hk' hs hs' hl1 hl2 hb => hr.inj k k' p p' ob ob' (hget hk).2.1 (hget hk').2.1 (hσ hs) (hσ hs') hl1 hl2 hb, fun g cells hg => (h0.glob g cells hg).mono hx', hr.kep, fun k p ob hk hs hlv => hr.nk k p ob (hget hk).2.1 (hσ hs) hlv⟩, hcut, hx'⟩
  · rcases ha with (ha | ⟨k, p, ob, _, hp, hs, hl, rfl⟩) | ha
    · exact hr.blk b o (.inl ha)
    · exact (hr.obj k p ob hp hs).1.lt hl
    · exact hr.blk b o (.inr ha)
  · obtain ⟨hlt, hp, hp0⟩ := hget hk
    obtain ⟨h1, h2⟩ := hr.obj k p ob hp (hσ hs)
    have hobj0 := (h0.obj k p ob hp0 hs).1
    have hnf : ob.live = true → ¬ M.full p.block → ¬ (M.cutAt σ.length (σ ++ extra)).full p.block := fun hlv hnf h => by
      rcases h with h | ⟨k', p', ob', hk', hp', hs', hl', hb⟩
      · exact hnf h
      · have := hr.inj k' k p' p ob' ob hp' hp hs' (hσ hs) hl' hlv hb
        omega
    -- what the object holds is old
    have old : ∀ {c : CV} {v v' : Value}, RV M0 w0 c v' → RV M w c v → RV (M.cutAt σ.length (σ ++ extra)) w c v := fun h h' => h'.cut hcut (by rw [← h0.len]; exact h.old)
    refine ⟨?_, ?_⟩
    · cases ob with
      | dead => trivial
      | box cells =>
        obtain ⟨arr, ty, e1, e2, e3, e4⟩ := h1
        obtain ⟨arr0, ty0, f1, f2, f3, f4⟩ := hobj0
        exact ⟨arr, ty, e1, e2, e3, fun i c hi => old (f4 i c hi) (e4 i c hi)⟩
      | tip m => exact h1
      | vec s rows =>
        obtain ⟨e0, e1, e2, e3, e4, arr, ty, e5, e6, e7⟩ := h1
        obtain ⟨f0, f1, f2, f3, f4, arr0, ty0, f5, f6, f7⟩ := hobj0
        exact ⟨e0, e1, e2, e3, e4, arr, ty, e5, e6, fun i j r c hi hj => old (f7 i j r c hi hj) (e7 i j r c hi hj)⟩
      | map es =>
        obtain ⟨ents, clock, e1, e2, e3⟩ := h1
        obtain ⟨ents0, clock0, f1, f2, f3⟩ := hobj0
        refine ⟨ents, clock, e1, e2, fun i x hi => ?_⟩
        obtain ⟨e, g1, g2, g3, g4⟩ := e3 i x hi
        obtain ⟨e', g1', g2', g3', g4'⟩ := f3 i x hi
        exact ⟨e, g1, old g2' g2, old g3' g3, g4⟩
    · cases ob with
      | dead => trivial
      | tip m => exact hnf rfl h2
      | _ => exact ⟨hnf rfl h2.1, h2.2⟩

/-- A call whose objects nobody sees any more. -/
theorem ccalls_close {C : Ctx} {f : FuncId} {args : List CV} {σ : List CObj} {K : CV → Prop} (h : CCalls C f args σ fun r σ' => ∃ extra c c', σ' = σ ++ extra ∧ r = .ret c ∧ Cls σ.length σ' c c' ∧ K c') : CCalls C f args σ fun r σ' => (∃ c, r = .ret c ∧ K c) ∧ σ' = σ :=
  fun M w vs hr hn hx => (h M w vs hr hn hx).mono fun e w' he => by
    cases e with
    | returned v =>
      obtain ⟨c, σ', M', h1, h2, h3, extra, c0, c', rfl, h5, h6, h7⟩ := he
      injection h5 with h5
      subst h5
      obtain ⟨g1, g2, g3⟩ := hr.cut h1 h2
      exact ⟨c', σ, _, g3, g1, RV.close h2 g2 (fun k p s rows hk hp hs => .inr ⟨k, p, _, hk, hp, hs, rfl, rfl⟩) h6 h3, ⟨c', rfl, h7⟩, rfl⟩
    | panicked ch =>
      obtain ⟨c, v, σ', M', h0, h1, h2, h3, extra, c0, c', h4, h5, _⟩ := he
      cases h5
    | outgrown => exact he
/-- The same, one value. -/
theorem ccalls_val {C : Ctx} {f : FuncId} {args : List CV} {σ : List CObj} {c0 : CV} (h : CCalls C f args σ fun r σ' => ∃ extra c, σ' = σ ++ extra ∧ r = .ret c ∧ Cls σ.length σ' c c0) : CCalls C f args σ fun r σ' => r = .ret c0 ∧ σ' = σ :=
  (ccalls_close (K := fun c => c = c0) (h.mono fun _ _ ⟨extra, c, h1, h2, h3⟩ => ⟨extra, c, c0, h1, h2, h3, rfl⟩)).mono fun _ _ ⟨⟨_, h1, h2⟩, h3⟩ => ⟨h2 ▸ h1, h3⟩

/-! ### Values without objects -/
inductive Pure : CV → Prop where
  | val (v : Value) : Pure (.val v)
  | agg {cs : List CV} : (∀ c ∈ cs, Pure c) → Pure (.agg cs)
  | tup {cs : List CV} : (∀ c ∈ cs, Pure c) → Pure (.tup cs)
  | list {rows : List (List CV)} {nn : Bool} : (∀ r ∈ rows, ∀ c ∈ r, Pure c) → Pure (.list rows nn none)

theorem Pure.old {n : Nat} {c : CV} (h : Pure c) : Old n c := by
  induction h with
  | val v => exact .val v
  | agg _ ih => exact .agg fun i c hi => ih c (List.mem_of_getElem? hi)
  | tup _ ih => exact .tup fun i c hi => ih c (List.mem_of_getElem? hi)
  | list _ ih => exact .list (fun i j r c hi hj => ih r (List.mem_of_getElem? hi) c (List.mem_of_getElem? hj)) (fun k hk => by cases hk)
theorem Cls.pure {n : Nat} {σ : List CObj} {c : CV} (h : Pure c) : Cls n σ c c := .old h.old
theorem Cls.tok {n : Nat} {σ : List CObj} {rows : List (List CV)} {nn : Bool} {tok : Option Nat} (h : ∀ r ∈ rows, ∀ c ∈ r, Pure c) : Cls n σ (.list rows nn tok) (.list rows nn none) :=
  .list rfl (fun i r r' h1 h2 => by rw [h1] at h2; injection h2 with h2; rw [h2]) fun i j r r' c c' h1 h2 h3 h4 => by
    rw [h1] at h2
    injection h2 with h2
    subst h2
    rw [h3] at h4
    injection h4 with h4
    subst h4
    exact .pure (h r (List.mem_of_getElem? h1) c (List.mem_of_getElem? h3))
theorem Cls.vecs {n k off len s : Nat} {σ : List CObj} {rows rows' : List (List CV)} (hk : n ≤ k) (hσ : σ[k]? = some (.vec s rows)) (hl : off + len ≤ rows.length) (he : (rows.drop off).take len = rows') (h : ∀ r ∈ rows', ∀ c ∈ r, Pure c) : Cls n σ (.vec k off len) (.list rows' true none) := by
  subst he
  exact .vec hk hσ hl rfl (fun i r r' h1 h2 => by rw [h1] at h2; injection h2 with h2; rw [h2]) fun i j r r' c c' h1 h2 h3 h4 => by
    rw [h1] at h2
    injection h2 with h2
    subst h2
    rw [h3] at h4
    injection h4 with h4
    subst h4
    exact .pure (h r (List.mem_of_getElem? h1) c (List.mem_of_getElem? h3))
/-- Lists of values, one by one. -/
def ClsAll (n : Nat) (σ : List CObj) : List CV → List CV → Prop
  | [], [] => True
  | c :: cs, c' :: cs' => Cls n σ c c' ∧ ClsAll n σ cs cs'
  | _, _ => False
theorem ClsAll.get {n : Nat} {σ : List CObj} : ∀ {cs cs' : List CV}, ClsAll n σ cs cs' → cs.length = cs'.length ∧ ∀ (i : Nat) (c c' : CV), cs[i]? = some c → cs'[i]? = some c' → Cls n σ c c'
  | [], [], _ => ⟨rfl, by simp⟩
  | c :: cs, c' :: cs', ⟨h1, h2⟩ => by
    obtain ⟨h3, h4⟩ := ClsAll.get h2
    refine ⟨by simp [h3], fun i x x' hx hx' => ?_⟩
    rcases i with _ | i
    · simp at hx hx'; subst hx hx'; exact h1
    · exact h4 i x x' (by simpa using hx) (by simpa using hx')
theorem Cls.aggs {n : Nat} {σ : List CObj} {cs cs' : List CV} (h : ClsAll n σ cs cs') : Cls n σ (.agg cs) (.agg cs') := .agg h.get.1 h.get.2
theorem Cls.tups {n : Nat} {σ : List CObj} {cs cs' : List CV} (h : ClsAll n σ cs cs') : Cls n σ (.tup cs) (.tup cs') := .tup h.get.1 h.get.2
end Go.Cl
