import Derived.Test.YtchaklkfaemfgaaK16
namespace Go.Cl

/-! ### Renumbering: the objects that are kept get new numbers -/
inductive RenV (L : Nat) (sel : List Nat) : CV → CV → Prop where
  | old {c : CV} : Old L c → RenV L sel c c
  | agg {cs cs' : List CV} : cs.length = cs'.length → (∀ (i : Nat) (c c' : CV), cs[i]? = some c → cs'[i]? = some c' → RenV L sel c c') → RenV L sel (.agg cs) (.agg cs')
  | list {rows : List (List CV)} {nn : Bool} {tok tok' : Option Nat} : (∀ r ∈ rows, ∀ c ∈ r, Old L c) → (∀ j, tok' = some j → ∃ k, tok = some k ∧ sel[j]? = some k) → RenV L sel (.list rows nn tok) (.list rows nn tok')
  | ptr {k j off : Nat} : sel[j]? = some k → RenV L sel (.ptr k off) (.ptr j off)
  | eptr {k j i off : Nat} : sel[j]? = some k → RenV L sel (.eptr k i off) (.eptr j i off)
  | vec {k j off len : Nat} : sel[j]? = some k → RenV L sel (.vec k off len) (.vec j off len)
  | map {k j : Nat} : sel[j]? = some k → RenV L sel (.map k) (.map j)

theorem RenV.same {L : Nat} {sel : List Nat} {c c' : CV} (h : c = c') (ho : Old L c') : RenV L sel c c' := h ▸ .old (h ▸ ho)
theorem RenV.one {L : Nat} {sel : List Nat} {c c' : CV} (h : RenV L sel c c') : c'.one = c.one := by
  cases h <;> rfl

/-- The plan with the objects renumbered. -/
def Plan.ren (M : Plan) (sel : List Nat) : Plan := { M with pl := sel.map fun k => M.pl.getD k ⟨0, 0, 0⟩ }

theorem ren_get {M : Plan} {sel : List Nat} {j k : Nat} {p : Pl} (hj : sel[j]? = some k) (hk : M.pl[k]? = some p) : (M.ren sel).pl[j]? = some p := by
  show (sel.map fun k => M.pl.getD k ⟨0, 0, 0⟩)[j]? = some p
  rw [List.getElem?_map, hj]
  simp [hk]

theorem ren_old {M : Plan} {w : World} {L : Nat} {sel : List Nat} (hsel : ∀ k, k < L → sel[k]? = some k) (hL : L ≤ M.pl.length) {c : CV} {v : Value} (h : RV M w c v) (ho : Old L c) : RV (M.ren sel) w c v := by
  have hc : Cut L M { M with pl := M.pl.take L } := ⟨rfl, fun _ h => h, fun _ _ h => .inr h⟩
  have h1 := h.cut hc ho
  refine RV.mono (M := { M with pl := M.pl.take L }) (M' := M.ren sel) (w := w) (w' := w) ⟨⟨(M.ren sel).pl.drop L, ?_⟩, fun _ h => h, fun _ _ h => .inr h, fun _ _ => rfl, fun _ _ _ => rfl, Nat.le_refl _, rfl, rfl, rfl, fun _ h => ⟨h, rfl, id, fun _ => id⟩⟩ h1
  have : (M.ren sel).pl.take L = M.pl.take L := by
    refine List.ext_getElem? fun i => ?_
    rw [List.getElem?_take, List.getElem?_take]
    split
    · rename_i hi
      have hp : M.pl[i]? = some (M.pl[i]'(by omega)) := by simp
      rw [ren_get (hsel i hi) hp, hp]
    · rfl
  show (M.ren sel).pl = M.pl.take L ++ _
  rw [← this, List.take_append_drop]

theorem RV.ren {M : Plan} {w : World} {L : Nat} {sel : List Nat} (hsel : ∀ k, k < L → sel[k]? = some k) (hL : L ≤ M.pl.length) {c c' : CV} {v : Value} (h : RV M w c v) (hr : RenV L sel c c') : RV (M.ren sel) w c' v := by
  induction hr generalizing v with
  | old ho => exact ren_old hsel hL h ho
  | agg hl hcls ih =>
    cases h with
    | agg h1 h2 h3 =>
      refine .agg (by omega) (fun c hcm => ?_) (fun i c' hi => ?_)
      · obtain ⟨i, hi⟩ := List.mem_iff_getElem?.1 hcm
        obtain ⟨y, hy⟩ := get_pair hl hi
        rw [(hcls i y c hy hi).one]
        exact h2 y (List.mem_of_getElem? hy)
      · obtain ⟨y, hy⟩ := get_pair hl hi
        exact ih i y c' hy hi (h3 i y hy)
  | list hrows htok =>
    cases h with
    | list vals h1 h2 h3 h4 h5 h6 h7 h8 h9 h10 =>
      refine .list vals h1 h2 h3 h4 h5 h6 h7 h8 (fun i j r c hi hj => ren_old hsel hL (h9 i j r c hi hj) (hrows r (List.mem_of_getElem? hi) c (List.mem_of_getElem? hj))) (fun j hj => ?_)
      obtain ⟨k, hk, hs⟩ := htok j hj
      obtain ⟨s', hp, hrest⟩ := h10 k hk
      exact ⟨s', ren_get hs hp, hrest⟩
  | ptr hs => cases h with | ptr hk => exact .ptr (ren_get hs hk)
  | eptr hs => cases h with | eptr hk => exact .eptr (ren_get hs hk)
  | vec hs => cases h with | vec hk h1 h2 h3 => exact .vec (ren_get hs hk) h1 h2 h3
  | map hs => cases h with | map hk => exact .map (ren_get hs hk)

/-- Cells, one by one. -/
def RenL (L : Nat) (sel : List Nat) : List CV → List CV → Prop
  | [], [] => True
  | c :: l, c' :: l' => RenV L sel c c' ∧ RenL L sel l l'
  | _, _ => False
theorem RenL.len {L : Nat} {sel : List Nat} : ∀ {l l' : List CV}, RenL L sel l l' → l.length = l'.length
  | [], [], _ => rfl
  | _ :: _, _ :: _, h => congrArg (· + 1) h.2.len
theorem RenL.get {L : Nat} {sel : List Nat} : ∀ {l l' : List CV}, RenL L sel l l' → ∀ (i : Nat) (c c' : CV), l[i]? = some c → l'[i]? = some c' → RenV L sel c c'
  | [], [], _, i, c, c', h, _ => by simp at h
  | _ :: _, _ :: _, h, 0, c, c', h1, h2 => by
    simp at h1 h2; subst h1; subst h2; exact h.1
  | _ :: _, _ :: _, h, i + 1, c, c', h1, h2 => h.2.get i c c' (by simpa using h1) (by simpa using h2)

inductive RenO (L : Nat) (sel : List Nat) : CObj → CObj → Prop where
  | dead {ob : CObj} : RenO L sel ob .dead
  | same {ob ob' : CObj} : ob = ob' → OldObj L ob' → RenO L sel ob ob'
  | box {cells cells' : List CV} : RenL L sel cells cells' → RenO L sel (.box cells) (.box cells')

theorem ObjRel.ren {M : Plan} {w : World} {L : Nat} {sel : List Nat} (hsel : ∀ k, k < L → sel[k]? = some k) (hL : L ≤ M.pl.length) {p : Pl} {ob ob' : CObj} (h : ObjRel M w p ob ∧ ObjFree M p ob) (hr : RenO L sel ob ob') : ObjRel (M.ren sel) w p ob' ∧ ObjFree (M.ren sel) p ob' := by
  obtain ⟨h1, h2⟩ := h
  cases hr with
  | dead => exact ⟨trivial, trivial⟩
  | same he ho =>
    subst he
    refine ⟨?_, by cases ob <;> exact h2⟩
    cases ob with
    | dead => trivial
    | box cells =>
      obtain ⟨arr, ty, e1, e2, e3, e4⟩ := h1
      exact ⟨arr, ty, e1, e2, e3, fun i c hi => ren_old hsel hL (e4 i c hi) (ho c (List.mem_of_getElem? hi))⟩
    | tip m => exact h1
    | vec s rows =>
      obtain ⟨e0, e1, e2, e3, e4, arr, ty, e5, e6, e7⟩ := h1
      exact ⟨e0, e1, e2, e3, e4, arr, ty, e5, e6, fun i j r c hi hj => ren_old hsel hL (e7 i j r c hi hj) (ho r (List.mem_of_getElem? hi) c (List.mem_of_getElem? hj))⟩
    | map es =>
      obtain ⟨ents, clock, e1, e2, e3⟩ := h1
      refine ⟨ents, clock, e1, e2, fun i x hi => ?_⟩
      obtain ⟨e, g1, g2, g3, g4⟩ := e3 i x hi
      have := ho x (List.mem_of_getElem? hi)
      exact ⟨e, g1, ren_old hsel hL g2 this.1, ren_old hsel hL g3 this.2, g4⟩
  | box hc =>
    obtain ⟨arr, ty, e1, e2, e3, e4⟩ := h1
    refine ⟨⟨arr, ty, e1, by rw [e2, hc.len], fun c hm => ?_, fun i c' hi => ?_⟩, h2⟩
    · obtain ⟨i, hi⟩ := List.mem_iff_getElem?.1 hm
      obtain ⟨y, hy⟩ := get_pair hc.len hi
      rw [(hc.get i y c hy hi).one]
      exact e3 y (List.mem_of_getElem? hy)
    · obtain ⟨y, hy⟩ := get_pair hc.len hi
      exact (e4 i y hy).ren hsel hL (hc.get i y c' hy hi)

/-- Which object each new one is. -/
def RenS (L : Nat) (all : List Nat) (σ : List CObj) : List Nat → List CObj → Prop
  | [], [] => True
  | k :: ks, ob :: obs => (ob = .dead ∨ ∃ ob0, σ[k]? = some ob0 ∧ RenO L all ob0 ob) ∧ RenS L all σ ks obs
  | _, _ => False
theorem RenS.len {L : Nat} {all : List Nat} {σ : List CObj} : ∀ {ks : List Nat} {obs : List CObj}, RenS L all σ ks obs → ks.length = obs.length
  | [], [], _ => rfl
  | _ :: _, _ :: _, h => congrArg (· + 1) h.2.len
theorem RenS.get {L : Nat} {all : List Nat} {σ : List CObj} : ∀ {ks : List Nat} {obs : List CObj}, RenS L all σ ks obs → ∀ (j k : Nat) (ob : CObj), ks[j]? = some k → obs[j]? = some ob → ob = .dead ∨ ∃ ob0, σ[k]? = some ob0 ∧ RenO L all ob0 ob
  | [], [], _, j, k, ob, h, _ => by simp at h
  | _ :: _, _ :: _, h, 0, k, ob, h1, h2 => by
    simp at h1 h2; subst h1; subst h2; exact h.1
  | _ :: _, _ :: _, h, j + 1, k, ob, h1, h2 => h.2.get j k ob (by simpa using h1) (by simpa using h2)

def nodupB : List Nat → Bool
  | [] => true
  | k :: l => !l.contains k && nodupB l
theorem nodupB_get : ∀ {l : List Nat}, nodupB l = true → ∀ (i j k : Nat), l[i]? = some k → l[j]? = some k → i = j
  | [], _, i, j, k, h, _ => by simp at h
  | x :: l, h, i, j, k, h1, h2 => by
    simp only [nodupB, Bool.and_eq_true, Bool.not_eq_true', List.contains_eq_mem, decide_eq_false_iff_not] at h
    rcases i with _ | i <;> rcases j with _ | j
    · rfl
    · simp at h1 h2; subst h1; exact absurd (List.mem_of_getElem? h2) h.1
    · simp at h1 h2; subst h2; exact absurd (List.mem_of_getElem? h1) h.1
    · exact congrArg (· + 1) (nodupB_get h.2 i j k (by simpa using h1) (by simpa using h2))
/-- The first L numbers stay. -/
def keepB (L : Nat) (sel : List Nat) : Bool := Nat.ble L sel.length && (List.range L).all fun k => Nat.beq (sel.getD k 0) k
theorem keepB_get {L : Nat} {sel : List Nat} (h : keepB L sel = true) (k : Nat) (hk : k < L) : sel[k]? = some k := by
  simp only [keepB, Bool.and_eq_true, List.all_eq_true, List.mem_range] at h
  have h1 := Nat.le_of_ble_eq_true h.1
  have h2 := Nat.eq_of_beq_eq_true (h.2 k hk)
  have hlt : k < sel.length := by omega
  rw [List.getElem?_eq_getElem hlt]
  simpa [hlt] using h2

theorem Rel.ren {C : Ctx} {M : Plan} {σ S : List CObj} {w : World} {L : Nat} {sel : List Nat} (hC : C.plain) (hr : Rel C M σ w) (hsel : keepB L sel = true) (hnd : nodupB sel = true) (hL : L ≤ M.pl.length) (hS : RenS L sel σ sel S) : Rel C (M.ren sel) S w := by
  have hk := keepB_get hsel
  have hpl : ∀ {j : Nat} {p : Pl} {ob : CObj}, (M.ren sel).pl[j]? = some p → S[j]? = some ob → ∃ k, sel[j]? = some k ∧ (ob = .dead ∨ ∃ ob0, σ[k]? = some ob0 ∧ M.pl[k]? = some p ∧ RenO L sel ob0 ob) := by
    intro j p ob hp hs
    have hp' : (sel.map fun k => M.pl.getD k ⟨0, 0, 0⟩)[j]? = some p := hp
    rw [List.getElem?_map, Option.map_eq_some_iff] at hp'
    obtain ⟨k, hk, hp'⟩ := hp'
    refine ⟨k, hk, ?_⟩
    rcases hS.get j k ob hk hs with rfl | ⟨ob0, h1, h2⟩
    · exact .inl rfl
    · have hlt : k < M.pl.length := by rw [hr.len]; exact (List.getElem?_eq_some_iff.1 h1).1
      refine .inr ⟨ob0, h1, ?_, h2⟩
      rw [← hp']; simp [hlt]
  have hlive : ∀ {ob0 ob : CObj}, RenO L sel ob0 ob → ob.live = true → ob0.live = true := by
    intro ob0 ob h hl
    cases h with
    | dead => cases hl
    | same he _ => exact he ▸ hl
    | box _ => rfl
  refine ⟨by show (sel.map _).length = _; rw [List.length_map, hS.len], hr.blk, fun j p ob hp hs => ?_, fun j j' p p' ob ob' hp hp' hs hs' hl hl' hb => ?_, fun g cells hg => ?_, hr.kep, fun j p ob hp hs hl => ?_⟩
  · obtain ⟨k, hk1, h | ⟨ob0, h1, h2, h3⟩⟩ := hpl hp hs
    · subst h; exact ⟨trivial, trivial⟩
    · exact ObjRel.ren hk hL (hr.obj k p ob0 h2 h1) h3
  · obtain ⟨k, hk1, h | ⟨ob0, h1, h2, h3⟩⟩ := hpl hp hs
    · subst h; cases hl
    · obtain ⟨k', hk1', h' | ⟨ob0', h1', h2', h3'⟩⟩ := hpl hp' hs'
      · subst h'; cases hl'
      · have e := hr.inj k k' p p' ob0 ob0' h2 h2' h1 h1' (hlive h3 hl) (hlive h3' hl') hb
        subst e
        exact nodupB_get hnd j j' k hk1 hk1'
  · exact ren_old hk hL (hr.glob g cells hg) (.cptr fun j c hj => (hC g cells hg c (List.mem_of_getElem? hj)).old)
  · obtain ⟨k, hk1, h | ⟨ob0, h1, h2, h3⟩⟩ := hpl hp hs
    · subst h; cases hl
    · exact hr.nk k p ob0 h2 h1 (hlive h3 hl)

theorem Ext.ren {M0 M : Plan} {w0 w : World} {L : Nat} {sel : List Nat} (hx : Ext M0 w0 M w) (hsel : keepB L sel = true) (hL0 : M0.pl.length = L) : Ext M0 w0 (M.ren sel) w := by
  have hk := keepB_get hsel
  obtain ⟨l, hl⟩ := hx.pl
  refine ⟨⟨(M.ren sel).pl.drop L, ?_⟩, hx.full, hx.cell, hx.same, hx.sameC, hx.size, hx.os, hx.tape, hx.output, hx.kept⟩
  have : (M.ren sel).pl.take L = M0.pl := by
    refine List.ext_getElem? fun i => ?_
    rw [List.getElem?_take]
    split
    · rename_i hi
      have hp0 : M0.pl[i]? = some (M0.pl[i]'(by omega)) := by simp
      rw [ren_get (hk i hi) (hx.get hp0), hp0]
    · rw [List.getElem?_eq_none (by omega)]
  rw [← this, List.take_append_drop]

/-- The slots, renumbered. -/
def Env.isR (E : Env) (L : Nat) (sel : List Nat) : List (Nat × CV) → Prop
  | [] => True
  | (t, c) :: l => (E.ok t ∧ RenV L sel (E.f t) c) ∧ E.isR L sel l

theorem FRel.onlyR {M : Plan} {w : World} {n L : Nat} {sel : List Nat} {E : Env} {a : Act} (hsel : keepB L sel = true) (hL : L ≤ M.pl.length) (hf : FRel M w n E a) : ∀ {l : List (Nat × CV)}, E.isR L sel l → FRel (M.ren sel) w n (Env.only l) a
  | [], _ => ⟨hf.defers, hf.size, fun _ h => h.elim, fun _ h => h.elim⟩
  | (t, c) :: l, ⟨⟨h1, h2⟩, h⟩ => by
    have ih := FRel.onlyR hsel hL hf h
    refine ⟨hf.defers, hf.size, fun x hx => ?_, fun x hx => ?_⟩
    · show RV (M.ren sel) w (((Env.only l).put (some t) c True).f x) _
      have hx : ((Env.only l).put (some t) c True).ok x := hx
      rw [Env.put_f]
      rw [Env.put_ok] at hx
      split
      · subst x; exact (hf.rv t h1).ren (keepB_get hsel) hL h2
      · rename_i hne
        rw [if_neg hne] at hx
        exact ih.rv x hx
    · have hx : ((Env.only l).put (some t) c True).un x := hx
      rw [Env.put_un] at hx
      split at hx
      · exact absurd trivial hx
      · exact ih.un x hx

section
variable {C : Ctx} {n : Nat} {Q : CExit → Env → List CObj → Prop} {E : Env} {σ : List CObj}

/-- The state behind a piece: slots and objects, renumbered. -/
def UptoR {α : Type} (L : Nat) (l : α → List (Nat × CV)) (S : α → List CObj) (P : α → Prop) (E' : Env) (σ' : List CObj) : Prop :=
  ∃ (a : α) (sel : List Nat), P a ∧ (keepB L sel = true ∧ nodupB sel = true) ∧ E'.isR L sel (l a) ∧ RenS L sel σ' sel (S a)

theorem UptoR.go {c : Code} {α : Type} (hC : C.plain) {L : Nat} {l : α → List (Nat × CV)} {S : α → List CObj} {P : α → Prop} {E' : Env} {σ' : List CObj} (hE : UptoR L l S P E' σ') (k : ∀ a, P a → CWp C n c Q (Env.only (l a)) (S a)) {M0 : Plan} {w0 : World} (hlen : M0.pl.length = L) {M : Plan} {w : World} {a : Act} (hx : Ext M0 w0 M w) (hr : Rel C M σ' w) (hf : FRel M w n E' a) :
    c.wp C.P (Lift C n Q M0 w0) a w := by
  obtain ⟨x, sel, hP, ⟨h1, h2⟩, hE, hS⟩ := hE
  have hL : L ≤ M.pl.length := by
    obtain ⟨l, hl⟩ := hx.pl
    rw [hl]; simp; omega
  exact wp_mono (k x hP _ w a (hr.ren hC h1 h2 hL hS) (hf.onlyR h1 hL hE)) fun _ _ _ => Lift.later (hx.ren h1 hlen)

/-- A cut: what stands behind is shown once, from some slots on. -/
theorem cw_cutr {x y : Code} {α : Type} (hC : C.plain) (L : Nat) (hL : Nat.beq L σ.length = true) (l : α → List (Nat × CV)) (S : α → List CObj) (P : α → Prop) (h : CWp C n x (CExit.next (UptoR L l S P) Q) E σ) (k : ∀ a, P a → CWp C n y Q (Env.only (l a)) (S a)) : CWp C n (.seq x y) Q E σ := fun M w a hr hf => by
  refine wp_seq (wp_mono (h M w a hr hf) fun e a' w' hl => ?_)
  obtain ⟨E', σ', M', h1, h2, h3, h4⟩ := hl
  cases e with
  | normal => exact UptoR.go hC h4 k (by rw [hr.len]; exact (Nat.eq_of_beq_eq_true hL).symm) h1 h2 h3
  | _ => exact ⟨E', σ', M', h1, h2, h3, h4⟩

/-- A loop. -/
theorem cw_loopr {α : Type} {c : Code} (hC : C.plain) (L : Nat) (hL : Nat.beq L σ.length = true) (l : α → List (Nat × CV)) (S : α → List CObj) (I : α → Prop) (m : α → Nat) (h0 : UptoR L l S I E σ)
    (round : ∀ (a : α), I a → CWp C n c (CExit.next (UptoR L l S fun a' => m a' < m a ∧ I a') Q) (Env.only (l a)) (S a)) : CWp C n (.loop c) Q E σ := fun M w a hr hf => by
  intro b k cs
  have hL := Nat.eq_of_beq_eq_true hL
  have key : ∀ d (x : α) M1 w1 a1, m x = d → I x → Ext M w M1 w1 → Rel C M1 (S x) w1 → FRel M1 w1 n (Env.only (l x)) a1 →
      ∃ e a' w', Lift C n Q M w e a' w' ∧ Arrives C.P (lone (b.at a1 (.code c :: .inLoop c :: k)) cs w1) b k cs e a' w' := by
    intro d
    induction d using Nat.strongRecOn with
    | _ d ih =>
      intro x M1 w1 a1 hd hI hx hr1 hf1
      obtain ⟨e, a2, w2, hq, harr⟩ := round x hI M1 w1 a1 hr1 hf1 b (.inLoop c :: k) cs
      obtain ⟨E', σ', M', h1, h2, h3, h4⟩ := hq
      cases e with
      | normal =>
        obtain ⟨x', sel, ⟨hlt, hI'⟩, ⟨g1, g2⟩, hE', hS⟩ := h4
        have hx' := hx.trans h1
        have hLe : L ≤ M'.pl.length := by
          obtain ⟨l, hl⟩ := hx'.pl
          rw [hl]; simp; rw [hr.len, hL]; omega
        obtain ⟨e₂, a₂, w₂, hq₂, harr₂⟩ := ih (m x') (by omega) x' _ w2 a2 rfl hI' (hx'.ren g1 (by rw [hr.len, hL])) (h2.ren hC g1 g2 hLe hS) (h3.onlyR g1 hLe hE')
        exact ⟨e₂, a₂, w₂, hq₂, .of_steps (Steps.trans harr (.one step_inLoop)) harr₂⟩
      | exit id => exact ⟨_, a2, w2, ⟨E', σ', M', hx.trans h1, h2, h3, h4⟩, .pass (x := .inLoop c) rfl (fun _ _ => .inl (by simp)) harr⟩
      | goto l => exact ⟨_, a2, w2, ⟨E', σ', M', hx.trans h1, h2, h3, h4⟩, .pass (x := .inLoop c) rfl (fun _ _ => .inl (by simp)) harr⟩
      | ret => exact ⟨_, a2, w2, ⟨E', σ', M', hx.trans h1, h2, h3, h4⟩, .pass (x := .inLoop c) rfl (fun _ _ => .inl (by simp)) harr⟩
      | panic ch => exact ⟨_, a2, w2, ⟨E', σ', M', hx.trans h1, h2, h3, h4⟩, .pass (x := .inLoop c) rfl (fun _ _ => .inl (by simp)) harr⟩
      | outgrown => exact h4.elim
  obtain ⟨x, sel, hP, ⟨g1, g2⟩, hE, hS⟩ := h0
  have hLe : L ≤ M.pl.length := by rw [hr.len, hL]; omega
  obtain ⟨e, a', w', hq, harr⟩ := key _ x _ w a rfl hP ((Ext.refl M w).ren g1 (by rw [hr.len, hL])) (hr.ren hC g1 g2 hLe hS) (hf.onlyR g1 hLe hE)
  exact ⟨e, a', w', hq, .of_steps (.one step_loop) harr⟩

/-! ### A list that grows: its array has one number, and is dead as long as the list is empty. -/
def gtok : Nat → Nat → Option Nat
  | 0, _ => none
  | _ + 1, p => some p
def gobj : Nat → CObj
  | 0 => .dead
  | m + 1 => .tip (m + 1)
def gnn : Nat → Bool
  | 0 => false
  | _ + 1 => true
theorem old_gobj (n m : Nat) : OldObj n (gobj m) := by cases m <;> trivial

theorem d_appg {o : Oper} {t e : TypeId} {x y : Operand} {rows new : List (List CV)} {p m : Nat} {s : Nat} {ti : TypeInfo} {z : Value} {K : CRes → List CObj → Prop} (ho : o.op = .call { callee := .builtin .append, args := #[x, y], argTypes := #[t, t] }) (hx : E.valid x) (hy : E.valid y) (ex : E.val C x = .list rows (gnn m) (gtok m p)) (hm : m = rows.length)
    (hsrc : ∀ M w v, Rel C M σ w → RV M w (E.val C y) v → Src C M w new s v) (hu : ∀ w, (underlying t).run C.P w = .ok (.slice e) w) (hs : ∀ w, (sizeOf e).run C.P w = .ok s w) (hti : ∀ w, (typeInfo e).run C.P w = .ok ti w) (hz : ∀ w, (zeroValue e).run C.P w = .ok z w) (hzs : z.cells.size = s)
    (happ : σ[p]? = some (gobj m)) (hrs : ∀ r ∈ rows, r.length = s) (hnew : new ≠ []) (hb : (rows.length + new.length) * ti.bytes ≤ 140737488355328) (hmax : rows.length + new.length ≤ 9223372036854775807)
    (hk : K (.ret (.list (rows ++ new) true (some σ.length))) (σ.set p .dead ++ [.tip (rows.length + new.length)])) : Does C σ E o K := by
  have hp : p < σ.length := (List.getElem?_eq_some_iff.1 happ).1
  subst hm
  rcases rows with _ | ⟨r, rows⟩
  · refine d_append ho hx hy ex hsrc hu hs hti hz hzs (.inl ⟨rfl, rfl, rfl⟩) hrs hnew hb hmax ?_
    have e : σ.set p .dead = σ := by
      refine List.ext_getElem? fun i => ?_
      rw [List.getElem?_set]
      split
      · rename_i h; subst h; rw [happ]; rfl
      · rfl
    rw [e] at hk
    exact hk
  · exact d_append ho hx hy ex hsrc hu hs hti hz hzs (.inr ⟨by simp, p, rfl, happ⟩) hrs hnew hb hmax hk
theorem d_app0 {o : Oper} {t e : TypeId} {x y : Operand} {new : List (List CV)} {s : Nat} {ti : TypeInfo} {z : Value} {K : CRes → List CObj → Prop} (ho : o.op = .call { callee := .builtin .append, args := #[x, y], argTypes := #[t, t] }) (hx : E.valid x) (hy : E.valid y) (ex : E.val C x = .list [] false none)
    (hsrc : ∀ M w v, Rel C M σ w → RV M w (E.val C y) v → Src C M w new s v) (hu : ∀ w, (underlying t).run C.P w = .ok (.slice e) w) (hs : ∀ w, (sizeOf e).run C.P w = .ok s w) (hti : ∀ w, (typeInfo e).run C.P w = .ok ti w) (hz : ∀ w, (zeroValue e).run C.P w = .ok z w) (hzs : z.cells.size = s)
    (hnew : new ≠ []) (hb : new.length * ti.bytes ≤ 140737488355328) (hmax : new.length ≤ 9223372036854775807)
    (hk : K (.ret (.list new true (some σ.length))) (σ ++ [.tip new.length])) : Does C σ E o K :=
  d_append ho hx hy ex hsrc hu hs hti hz hzs (.inl ⟨rfl, rfl, rfl⟩) (by simp) hnew (by simpa using hb) (by simpa using hmax) (by simpa [kill] using hk)
end
theorem gobj_snoc {α : Type} (f : α → List CV) (l : List α) (x : α) : CObj.tip ((l.map f).length + 1) = gobj (l ++ [x]).length := by
  rw [List.length_map, List.length_append]; rfl
theorem RenV.snoc {α : Type} {f : α → List CV} {L : Nat} {sel : List Nat} {k p : Nat} {l : List α} {x : α} (h : ∀ a, OldL L (f a)) (hs : sel[p]? = some k) : RenV L sel (.list (l.map f ++ [f x]) true (some k)) (.list ((l ++ [x]).map f) (gnn (l ++ [x]).length) (gtok (l ++ [x]).length p)) := by
  have e1 : gnn (l ++ [x]).length = true := by rw [List.length_append]; rfl
  have e2 : gtok (l ++ [x]).length p = some p := by rw [List.length_append]; rfl
  have e3 : (l ++ [x]).map f = l.map f ++ [f x] := by simp
  rw [e1, e2, e3]
  refine .list (fun r hr c hc => ?_) (fun j hj => ⟨k, rfl, by cases hj; exact hs⟩)
  rw [← e3] at hr
  obtain ⟨a, _, rfl⟩ := List.mem_map.1 hr
  exact old_box (h a) c hc
/-- The list as it is: its array keeps its place, or has a new number. -/
theorem RenV.grow {α : Type} {f : α → List CV} {L : Nat} {sel : List Nat} {m k p : Nat} {l : List α} (h : ∀ a, OldL L (f a)) (hs : sel[p]? = some k) : RenV L sel (.list (l.map f) (gnn m) (gtok m k)) (.list (l.map f) (gnn m) (gtok m p)) := by
  refine .list (fun r hr c hc => ?_) (fun j hj => ?_)
  · obtain ⟨a, _, rfl⟩ := List.mem_map.1 hr
    exact old_box (h a) c hc
  · cases m with
    | zero => cases hj
    | succ m => cases hj; exact ⟨k, rfl, hs⟩
end Go.Cl
