import Derived.Test.YtchaklkfaemfgaaK13
namespace Go.Cl

/-! ### Loops whose rounds leave objects behind -/
def OldObj (n : Nat) : CObj → Prop
  | .dead => True
  | .box cells => ∀ c ∈ cells, Old n c
  | .tip _ => True
  | .vec _ rows => ∀ r ∈ rows, ∀ c ∈ r, Old n c
  | .map es => ∀ x ∈ es, Old n x.1 ∧ Old n x.2

def OldAll (n : Nat) : List CObj → Prop
  | [] => True
  | ob :: l => OldObj n ob ∧ OldAll n l
theorem OldAll.get {n : Nat} : ∀ {l : List CObj}, OldAll n l → ∀ (k : Nat) (ob : CObj), l[k]? = some ob → OldObj n ob
  | [], _, _, _, h => by simp at h
  | o :: l, ⟨h1, h2⟩, k, ob, h => by
    rcases k with _ | k
    · simp at h; subst h; exact h1
    · exact OldAll.get h2 k ob (by simpa using h)
def Olds (n : Nat) : List (Nat × CV) → Prop
  | [] => True
  | (_, c) :: l => Old n c ∧ Olds n l

theorem Rel.cutObj {C : Ctx} {M : Plan} {σ extra : List CObj} {w : World} (hr : Rel C M (σ ++ extra) w) (hold : OldAll σ.length σ) (hglob : ∀ g cells, C.glob g = some cells → ∀ c ∈ cells, Pure c) :
    Rel C (M.cutAt σ.length (σ ++ extra)) σ w ∧ Cut σ.length M (M.cutAt σ.length (σ ++ extra)) ∧ ∀ M0 w0, Ext M0 w0 M w → M0.pl.length ≤ σ.length → Ext M0 w0 (M.cutAt σ.length (σ ++ extra)) w := by
  have hcut : Cut σ.length M (M.cutAt σ.length (σ ++ extra)) := ⟨rfl, fun _ h => .inl h, fun _ _ h => .inr h⟩
  have hget : ∀ {k : Nat} {p : Pl}, (M.cutAt σ.length (σ ++ extra)).pl[k]? = some p → k < σ.length ∧ M.pl[k]? = some p := by
    intro k p hk
    have hk : (M.pl.take σ.length)[k]? = some p := hk
    rw [List.getElem?_take] at hk
    split at hk
    · exact ⟨‹_›, hk⟩
    · cases hk
  have hσ : ∀ {k : Nat} {ob : CObj}, σ[k]? = some ob → (σ ++ extra)[k]? = some ob := by
    intro k ob h
    rw [List.getElem?_append_left (List.getElem?_eq_some_iff.1 h).1]; exact h
  have hlen : σ.length ≤ M.pl.length := by rw [hr.len]; simp
  refine ⟨⟨by show (M.pl.take σ.length).length = _; simp; omega, fun b o ha => ?_, fun k p ob hk hs => ?_, fun k k' p p' ob ob' hk hk' hs hs' hl1 hl2 hb => hr.inj k k' p p' ob ob' (hget hk).2 (hget hk').2 (hσ hs) (hσ hs') hl1 hl2 hb, fun g cells hg => ?_, hr.kep, fun k p ob hk hs hlv => hr.nk k p ob (hget hk).2 (hσ hs) hlv⟩, hcut, fun M0 w0 hx hle => ?_⟩
  · rcases ha with (ha | ⟨k, p, ob, _, hp, hs, hl, rfl⟩) | ha
    · exact hr.blk b o (.inl ha)
    · exact (hr.obj k p ob hp hs).1.lt hl
    · exact hr.blk b o (.inr ha)
  · obtain ⟨hlt, hp⟩ := hget hk
    obtain ⟨h1, h2⟩ := hr.obj k p ob hp (hσ hs)
    have ho := hold.get k ob hs
    have hnf : ob.live = true → ¬ M.full p.block → ¬ (M.cutAt σ.length (σ ++ extra)).full p.block := fun hlv hnf h => by
      rcases h with h | ⟨k', p', ob', hk', hp', hs', hl', hb⟩
      · exact hnf h
      · have := hr.inj k' k p' p ob' ob hp' hp hs' (hσ hs) hl' hlv hb
        omega
    refine ⟨?_, ?_⟩
    · cases ob with
      | dead => trivial
      | box cells =>
        obtain ⟨arr, ty, e1, e2, e3, e4⟩ := h1
        exact ⟨arr, ty, e1, e2, e3, fun i c hi => (e4 i c hi).cut hcut (ho c (List.mem_of_getElem? hi))⟩
      | tip m => exact h1
      | vec s rows =>
        obtain ⟨e0, e1, e2, e3, e4, arr, ty, e5, e6, e7⟩ := h1
        exact ⟨e0, e1, e2, e3, e4, arr, ty, e5, e6, fun i j r c hi hj => (e7 i j r c hi hj).cut hcut (ho r (List.mem_of_getElem? hi) c (List.mem_of_getElem? hj))⟩
      | map es =>
        obtain ⟨ents, clock, e1, e2, e3⟩ := h1
        refine ⟨ents, clock, e1, e2, fun i x hi => ?_⟩
        obtain ⟨e, g1, g2, g3, g4⟩ := e3 i x hi
        have := ho x (List.mem_of_getElem? hi)
        exact ⟨e, g1, g2.cut hcut this.1, g3.cut hcut this.2, g4⟩
    · cases ob with
      | dead => trivial
      | tip m => exact hnf rfl h2
      | _ => exact ⟨hnf rfl h2.1, h2.2⟩
  · have := hr.glob g cells hg
    exact this.cut hcut (.cptr fun j c hj => (hglob g cells hg c (List.mem_of_getElem? hj)).old)
  · obtain ⟨l, hl⟩ := hx.pl
    refine ⟨⟨l.take (σ.length - M0.pl.length), ?_⟩, fun b h => .inl (hx.full b h), fun b o h => hcut.at (hx.cell b o h), hx.same, hx.sameC, hx.size, hx.os, hx.tape, hx.output, fun b hb => ?_⟩
    · show M.pl.take σ.length = _
      rw [hl, List.take_append, List.take_of_length_le hle]
    · obtain ⟨k1, k2, k3, k4⟩ := hx.kept b hb
      refine ⟨k1, k2, fun f => ?_, k4⟩
      rcases f with f | ⟨k, p, ob, _, hp, hs, hlv, rfl⟩
      · exact k3 f
      · exact absurd k1 (hr.nk k p ob hp hs hlv)

/-- A frame of which just some slots are known. -/
def Env.none : Env := { f := fun _ => .val undef, ok := fun _ => False, un := fun _ => False }
def Env.only (l : List (Nat × CV)) : Env := Env.none.puts l

theorem FRel.only {M M' : Plan} {w : World} {n k : Nat} {E : Env} {a : Act} (hc : Cut k M M') (hf : FRel M w n E a) : ∀ {l : List (Nat × CV)}, E.is l → Olds k l → FRel M' w n (Env.only l) a
  | [], _, _ => ⟨hf.defers, hf.size, fun _ h => h.elim, fun _ h => h.elim⟩
  | (t, c) :: l, ⟨⟨h1, h2⟩, h⟩, ⟨h3, h4⟩ => by
    have ih := FRel.only hc hf h h4
    refine ⟨hf.defers, hf.size, fun x hx => ?_, fun x hx => ?_⟩
    · show RV M' w (((Env.only l).put (some t) c True).f x) _
      have hx : ((Env.only l).put (some t) c True).ok x := hx
      rw [Env.put_f]
      rw [Env.put_ok] at hx
      split
      · subst x; exact (h2 ▸ hf.rv t h1 : RV M w c _).cut hc h3
      · rename_i hne
        rw [if_neg hne] at hx
        exact ih.rv x hx
    · have hx : ((Env.only l).put (some t) c True).un x := hx
      rw [Env.put_un] at hx
      split at hx
      · exact absurd trivial hx
      · exact ih.un x hx

section
variable {C : Ctx} {n : Nat} {Q : CExit → Env → List CObj → Prop} {E : Env} {σ : List CObj}

/-- A program without package-level variables that hold objects. -/
def Ctx.plain (C : Ctx) : Prop := ∀ g cells, C.glob g = some cells → ∀ c ∈ cells, Pure c

/-- The state behind a piece: some slots, the objects but for those that nobody needs any more. -/
def Upto {α : Type} (l : α → List (Nat × CV)) (S : α → List CObj) (P : α → Prop) (E' : Env) (σ' : List CObj) : Prop :=
  ∃ a extra, P a ∧ E'.is (l a) ∧ σ' = S a ++ extra

theorem CWp.upto {c : Code} {α : Type} (hC : C.plain) {l : α → List (Nat × CV)} {S : α → List CObj} {P : α → Prop} {E' : Env} {σ' : List CObj} (hE : Upto l S P E' σ') (hold : ∀ a, P a → Olds (S a).length (l a) ∧ OldAll (S a).length (S a)) (k : ∀ a, P a → CWp C n c Q (Env.only (l a)) (S a)) {M0 : Plan} {w0 : World} (hlen : ∀ a, P a → M0.pl.length ≤ (S a).length) {M : Plan} {w : World} {a : Act} (hx : Ext M0 w0 M w) (hr : Rel C M σ' w) (hf : FRel M w n E' a) :
    c.wp C.P (Lift C n Q M0 w0) a w := by
  obtain ⟨x, extra, hP, hE, rfl⟩ := hE
  obtain ⟨h1, h2⟩ := hold x hP
  obtain ⟨g1, g2, g3⟩ := hr.cutObj h2 hC
  have hx' := g3 M0 w0 hx (hlen x hP)
  exact wp_mono (k x hP _ w a g1 (hf.only g2 hE h1)) fun _ _ _ => Lift.later hx'

/-- A loop. -/
theorem cw_loopd {α : Type} {c : Code} (hC : C.plain) (l : α → List (Nat × CV)) (S : α → List CObj) (I : α → Prop) (m : α → Nat) (a0 : α) (h0 : I a0) (hE : E.is (l a0)) {extra0 : List CObj} (hσ : σ = S a0 ++ extra0) (hlen : ∀ a, I a → σ.length ≤ (S a).length) (hold : ∀ a, I a → Olds (S a).length (l a) ∧ OldAll (S a).length (S a))
    (round : ∀ (a : α), I a → CWp C n c (CExit.next (Upto l S fun a' => m a' < m a ∧ I a') Q) (Env.only (l a)) (S a)) : CWp C n (.loop c) Q E σ := fun M w a hr hf => by
  intro b k cs
  have key : ∀ d (x : α) M1 w1 a1, m x = d → I x → Ext M w M1 w1 → Rel C M1 (S x) w1 → FRel M1 w1 n (Env.only (l x)) a1 →
      ∃ e a' w', Lift C n Q M w e a' w' ∧ Arrives C.P (lone (b.at a1 (.code c :: .inLoop c :: k)) cs w1) b k cs e a' w' := by
    intro d
    induction d using Nat.strongRecOn with
    | _ d ih =>
      intro x M1 w1 a1 hd hI hx hr1 hf1
      obtain ⟨e, a2, w2, hq, harr⟩ := round x hI M1 w1 a1 hr1 hf1 b (.inLoop c :: k) cs
      obtain ⟨E', σ', M', h1, h2, h3, h4⟩ := hq
      cases e with
      | normal =>
        obtain ⟨x', extra, ⟨hlt, hI'⟩, hE', rfl⟩ := h4
        obtain ⟨o1, o2⟩ := hold x' hI'
        obtain ⟨g1, g2, g3⟩ := h2.cutObj o2 hC
        have hx' := g3 M w (hx.trans h1) (by rw [hr.len]; exact hlen x' hI')
        obtain ⟨e₂, a₂, w₂, hq₂, harr₂⟩ := ih (m x') (by omega) x' _ w2 a2 rfl hI' hx' g1 (h3.only g2 hE' o1)
        exact ⟨e₂, a₂, w₂, hq₂, .of_steps (Steps.trans harr (.one step_inLoop)) harr₂⟩
      | exit id => exact ⟨_, a2, w2, ⟨E', σ', M', hx.trans h1, h2, h3, h4⟩, .pass (x := .inLoop c) rfl (fun _ _ => .inl (by simp)) harr⟩
      | goto l => exact ⟨_, a2, w2, ⟨E', σ', M', hx.trans h1, h2, h3, h4⟩, .pass (x := .inLoop c) rfl (fun _ _ => .inl (by simp)) harr⟩
      | ret => exact ⟨_, a2, w2, ⟨E', σ', M', hx.trans h1, h2, h3, h4⟩, .pass (x := .inLoop c) rfl (fun _ _ => .inl (by simp)) harr⟩
      | panic ch => exact ⟨_, a2, w2, ⟨E', σ', M', hx.trans h1, h2, h3, h4⟩, .pass (x := .inLoop c) rfl (fun _ _ => .inl (by simp)) harr⟩
      | outgrown => exact h4.elim
  have hlen0 := hlen a0 h0
  have hex : extra0 = [] := by
    apply List.eq_nil_of_length_eq_zero
    rw [hσ] at hlen0
    simp at hlen0
    omega
  subst hex
  rw [List.append_nil] at hσ
  subst hσ
  obtain ⟨o1, o2⟩ := hold a0 h0
  have hcut0 : Cut (S a0).length M M := ⟨by rw [← hr.len, List.take_length], fun _ h => h, fun _ _ h => .inr h⟩
  obtain ⟨e, a', w', hq, harr⟩ := key _ a0 M w a rfl h0 (Ext.refl M w) hr (hf.only hcut0 hE o1)
  exact ⟨e, a', w', hq, .of_steps (.one step_loop) harr⟩

/-- A cut: what stands behind is shown once, from some slots on. -/
theorem cw_cutd {x y : Code} {α : Type} (hC : C.plain) (l : α → List (Nat × CV)) (S : α → List CObj) (P : α → Prop) (hlen : ∀ a, P a → σ.length ≤ (S a).length) (hold : ∀ a, P a → Olds (S a).length (l a) ∧ OldAll (S a).length (S a)) (h : CWp C n x (CExit.next (Upto l S P) Q) E σ) (k : ∀ a, P a → CWp C n y Q (Env.only (l a)) (S a)) : CWp C n (.seq x y) Q E σ := fun M w a hr hf => by
  refine wp_seq (wp_mono (h M w a hr hf) fun e a' w' hl => ?_)
  obtain ⟨E', σ', M', h1, h2, h3, h4⟩ := hl
  cases e with
  | normal => exact CWp.upto hC h4 hold k (fun a ha => by rw [hr.len]; exact hlen a ha) h1 h2 h3
  | _ => exact ⟨E', σ', M', h1, h2, h3, h4⟩
end

def OldL (n : Nat) : List CV → Prop
  | [] => True
  | c :: l => Old n c ∧ OldL n l
theorem old_box {n : Nat} : ∀ {cells : List CV}, OldL n cells → OldObj n (.box cells)
  | [], _ => fun c h => by simp at h
  | x :: l, ⟨h1, h2⟩ => fun c h => by
    rcases List.mem_cons.1 h with rfl | h
    · exact h1
    · exact old_box h2 c h
theorem old_agg {n : Nat} {cs : List CV} (h : OldL n cs) : Old n (.agg cs) := .agg fun _ c hi => old_box h c (List.mem_of_getElem? hi)
theorem old_rows {n : Nat} {α : Type} {f : α → List CV} (h : ∀ a, OldL n (f a)) (l : List α) (nn : Bool) : Old n (.list (l.map f) nn none) := .list (fun i j r c hi hj => by
    rw [List.getElem?_map, Option.map_eq_some_iff] at hi
    obtain ⟨a, _, rfl⟩ := hi
    exact old_box (h a) c (List.mem_of_getElem? hj)) (fun k hk => by cases hk)

/-! ### The last steps -/
theorem cls_eq {n : Nat} {σ : List CObj} {c c0 : CV} (h : c = c0) (hp : Pure c0) : Cls n σ c c0 := by
  subst h
  exact .pure hp
theorem cls_bool {n : Nat} {σ : List CObj} {x y : Bool} (h : x = y) : Cls n σ (.val (.bool x)) (.val (.bool y)) := h ▸ .old (.val _)
theorem cls_int {n : Nat} {σ : List CObj} {k : IntKind} {x y : Int} (h : x = y) : Cls n σ (.val (.int k x)) (.val (.int k y)) := h ▸ .old (.val _)
theorem cls_str {n : Nat} {σ : List CObj} {x y : ByteArray} (h : x = y) : Cls n σ (.val (.string x)) (.val (.string y)) := h ▸ .old (.val _)
theorem len_map {α β : Type} (f : α → β) (l : List α) : ((l.map f).length : Int) = (l.length : Int) := by simp

/-- Pure lists, by lists. -/
def Pures : List CV → Prop
  | [] => True
  | c :: l => Pure c ∧ Pures l
theorem Pures.all : ∀ {l : List CV}, Pures l → ∀ c ∈ l, Pure c
  | [], _, c, h => by simp at h
  | x :: l, ⟨h1, h2⟩, c, h => by
    rcases List.mem_cons.1 h with rfl | h
    · exact h1
    · exact Pures.all h2 c h
theorem pure_rows {α : Type} {f : α → List CV} (h : ∀ a, Pures (f a)) (l : List α) (nn : Bool) : Pure (.list (l.map f) nn none) := .list (rows_pure (fun a => (h a).all) l)

/-- A contract at no objects serves at any. -/
theorem CCalls.anyw {C : Ctx} {f : FuncId} {args : List CV} {c : CV} (hC : C.plain) (hargs : Pures args) (hc : Pure c) (h : CCalls C f args [] fun r σ' => r = .ret c ∧ σ' = []) (σ : List CObj) : CCalls C f args σ fun r σ' => r = .ret c ∧ σ' = σ :=
  ccalls_frame hargs.all hc hC h σ
end Go.Cl
