import Derived.Test.YtchaklkfaemfgaaK25
namespace Go.Cl
/-! ### append to nil that makes an array which changes; a cut that settles such arrays -/
section
variable {C : Ctx} {E : Env} {σ : List CObj} {o : Oper}
theorem d_app0v {t e : TypeId} {x y : Operand} {s : Nat} {new : List (List CV)} {ti : TypeInfo} {z : Value} {K : CRes → List CObj → Prop} (m' : Nat) (ho : o.op = .call { callee := .builtin .append, args := #[x, y], argTypes := #[t, t] }) (hx : E.valid x) (hy : E.valid y) (ex : E.val C x = .list [] false none)
    (hsrc : ∀ M w v, Rel C M σ w → RV M w (E.val C y) v → Src C M w new s v) (hu : ∀ w, (underlying t).run C.P w = .ok (.slice e) w) (hs : ∀ w, (sizeOf e).run C.P w = .ok s w) (hti : ∀ w, (typeInfo e).run C.P w = .ok ti w) (hz : ∀ w, (zeroValue e).run C.P w = .ok z w) (hzs : z.cells.size = s)
    (hnew : 0 < new.length) (hb : new.length * ti.bytes ≤ 140737488355328) (hmax : new.length ≤ 9223372036854775807) (hm : new.length = m')
    (hk : K (.ret (.vec σ.length 0 m')) (σ ++ [.vec s new])) : Does C σ E o K := fun M w ρ hr hh => by
  subst hm
  have h1 := hh x (by simp [ho, Op.operands, Call.operands]) hx
  have h2 := hh y (by simp [ho, Op.operands, Call.operands]) hy
  rw [ex] at h1
  have hlen := (hsrc M w _ hr h2).lenOf
  have hexec : (execOp ρ o).run C.P w = ((Builtin.append_ #[t, t] o.type #[ρ x, ρ y]).run C.P w).andThen fun v w => .ok (.value v) w := by
    simp [execOp, ho, resolve, invoke, builtin]
  have h1i := h1
  obtain ⟨a, cap, b, off, s', vals, hv, hcap, hcmax, hnn, hn0, -, -, -, -, -, -⟩ := h1i.list_inv
  have hc0 := hn0 rfl
  subst hc0
  obtain ⟨hrd, hxd⟩ := hr.drewN
  have hso' := src_of_list (C := C) (s := s) (rv_drew h1) (fun r hr => by simp at hr)
  rw [hv] at hso'
  obtain ⟨a1, c1, hv1, _, hrs, old, hfo, hszo, hrvo⟩ := hso'
  obtain ⟨an, cn, hvn, _, hns, arr, hfn, hszn, hrvn⟩ := hsrc M w.drew _ hrd (rv_drew h2)
  obtain ⟨c', hc1, hc2, hrun⟩ := run_append_grows (P := C.P) (ty := o.type) (a := a) (c := 0) (w := w) (n := ([] : List (List CV)).length) (m := new.length) hu hs hti hz hlen hfo hfn (by simp; omega) (by simpa using hmax) (by simpa using hb)
  rw [hexec, hv, hrun]
  simp only [Result.andThen_ok]
  have hwsz : w.drew.heap.size = w.heap.size := rfl
  rw [← hwsz]
  have hasz : (old ++ arr ++ Builtin.zeroCells z.cells (c' - (([] : List (List CV)).length + new.length))).size = c' * s := by
    simp only [Array.size_append, zeroCells_size, hszo, hszn, hzs]
    rw [← Nat.add_mul, ← Nat.add_mul]
    congr 1; omega
  have hx2 := Ext.alloc hrd ⟨w.drew.heap.size, c', s⟩ (.cells (old ++ arr ++ Builtin.zeroCells z.cells (c' - (([] : List (List CV)).length + new.length))) e)
  have hget := append_rows (rest := Builtin.zeroCells z.cells (c' - (([] : List (List CV)).length + new.length))) hszo hszn hrs hns (fun i j r c hi hj => (hrvo i j r c hi hj).1) (fun i j r c hi hj => (hrvn i j r c hi hj).1)
  have hr2 := hrd.alloc ⟨w.drew.heap.size, c', s⟩ (.cells (old ++ arr ++ Builtin.zeroCells z.cells (c' - (([] : List (List CV)).length + new.length))) e) (.vec s ([] ++ new)) rfl
    ⟨rfl, by simpa using hc1, by unfold maxLen; simp only; omega, by simpa using hns, fun r hr c hc => (by
      obtain ⟨i, hi⟩ := List.mem_iff_getElem?.1 (by simpa using hr : r ∈ new)
      obtain ⟨j, hj⟩ := List.mem_iff_getElem?.1 hc
      exact (hrvn i j r c hi hj).2), _, e, heap_alloc_new _ _, hasz, fun i j r c hi hj => ((hget i j r c hi hj).2.mono hx2)⟩
  refine ⟨.vec σ.length 0 new.length, _, _, hxd.trans hx2, hr2, ?_, hk⟩
  have := RV.vec (M := M.add ⟨w.drew.heap.size, c', s⟩) (w := w.drew.alloc (.cells (old ++ arr ++ Builtin.zeroCells z.cells (c' - (([] : List (List CV)).length + new.length))) e)) (k := σ.length) (off := 0) (len := new.length) (p := ⟨w.drew.heap.size, c', s⟩) (a := ⟨w.drew.heap.size, 0, none⟩) (by simp [Plan.add, ← hr.len]) (by simpa using hc1) (by unfold maxLen; simp only; omega) (fun _ => by simp)
  simpa using this
end

/-! A cut that drops the objects from some number on; what arrays among them held is settled. -/
inductive ClO (n : Nat) (σ : List CObj) : CObj → CObj → Prop where
  | dead {ob : CObj} : ClO n σ ob .dead
  | same {ob : CObj} : OldObj n ob → ClO n σ ob ob
  | box {cells cells' : List CV} : ClsAll n σ cells cells' → ClO n σ (.box cells) (.box cells')
def ClOs (n : Nat) (σ : List CObj) : List CObj → List CObj → Prop
  | _, [] => True
  | a :: l, b :: l' => ClO n σ a b ∧ ClOs n σ l l'
  | [], _ :: _ => False
theorem ClOs.get {n : Nat} {σ : List CObj} : ∀ {l l' : List CObj}, ClOs n σ l l' → l'.length ≤ l.length ∧ ∀ (k : Nat) (b : CObj), l'[k]? = some b → ∃ a, l[k]? = some a ∧ ClO n σ a b
  | _, [], _ => ⟨Nat.zero_le _, fun k b h => by simp at h⟩
  | a :: l, b :: l', ⟨h1, h⟩ => by
    obtain ⟨g1, g2⟩ := h.get
    refine ⟨Nat.succ_le_succ g1, fun k b hk => ?_⟩
    rcases k with _ | k
    · simp at hk; subst hk; exact ⟨a, rfl, h1⟩
    · exact g2 k b (by simpa using hk)
def ClSl (n : Nat) (σ : List CObj) (E : Env) : List (Nat × CV) → Prop
  | [] => True
  | (t, c) :: l => (E.ok t ∧ Cls n σ (E.f t) c) ∧ ClSl n σ E l

theorem Rel.cutCls {C : Ctx} (hC : C.plain) {M : Plan} {σ S : List CObj} {w : World} (hr : Rel C M σ w) (hS : ClOs S.length σ σ S) :
    Rel C (M.cutAt S.length σ) S w ∧ Cut S.length M (M.cutAt S.length σ) ∧ ∀ M0 w0, Ext M0 w0 M w → M0.pl.length ≤ S.length → Ext M0 w0 (M.cutAt S.length σ) w := by
  obtain ⟨hle, hgetS⟩ := hS.get
  have hcut : Cut S.length M (M.cutAt S.length σ) := ⟨rfl, fun _ h => .inl h, fun _ _ h => .inr h⟩
  have hfull : ∀ (k : Nat) (p : Pl) (s : Nat) (rows : List (List CV)), S.length ≤ k → M.pl[k]? = some p → σ[k]? = some (.vec s rows) → (M.cutAt S.length σ).full p.block := fun k p s rows hk hp hσ => .inr ⟨k, p, _, hk, hp, hσ, rfl, rfl⟩
  have hget : ∀ {k : Nat} {p : Pl}, (M.cutAt S.length σ).pl[k]? = some p → k < S.length ∧ M.pl[k]? = some p := by
    intro k p hk
    have hk : (M.pl.take S.length)[k]? = some p := hk
    rw [List.getElem?_take] at hk
    split at hk
    · exact ⟨‹_›, hk⟩
    · cases hk
  have hlen : S.length ≤ M.pl.length := by rw [hr.len]; exact hle
  have hlive : ∀ {a b : CObj}, ClO S.length σ a b → b.live = true → a.live = true := by
    intro a b h hl
    cases h with
    | dead => cases hl
    | same _ => exact hl
    | box _ => rfl
  refine ⟨⟨by show (M.pl.take S.length).length = _; simp; omega, fun b o ha => ?_, fun k p ob hk hs => ?_, fun k k' p p' ob ob' hk hk' hs hs' hl1 hl2 hb => ?_, fun g cells hg => ?_, hr.kep, fun k p ob hk hs hlv => ?_⟩, hcut, fun M0 w0 hx hle => ?_⟩
  · rcases ha with (ha | ⟨k, p, ob, _, hp, hs, hl, rfl⟩) | ha
    · exact hr.blk b o (.inl ha)
    · exact (hr.obj k p ob hp hs).1.lt hl
    · exact hr.blk b o (.inr ha)
  · obtain ⟨hlt, hp⟩ := hget hk
    obtain ⟨a, ha, hab⟩ := hgetS k ob hs
    obtain ⟨h1, h2⟩ := hr.obj k p a hp ha
    have hnf : a.live = true → ¬ M.full p.block → ¬ (M.cutAt S.length σ).full p.block := fun hlv hnf h => by
      rcases h with h | ⟨k', p', ob', hk', hp', hs', hl', hb⟩
      · exact hnf h
      · have := hr.inj k' k p' p ob' a hp' hp hs' ha hl' hlv hb
        omega
    cases hab with
    | dead => exact ⟨trivial, trivial⟩
    | same ho =>
      refine ⟨?_, ?_⟩
      · cases ob with
        | dead => trivial
        | box cells =>
          obtain ⟨arr, ty, e1, e2, e3, e4⟩ := h1
          exact ⟨arr, ty, e1, e2, e3, fun i c hi => (e4 i c hi).cut hcut (ho c (List.mem_of_getElem? hi))⟩
        | tip m => exact h1
        | vec s rows =>
          obtain ⟨e0, e1, e2, e3, e4, arr, ty, e5, e6, e7⟩ := h1
          exact ⟨e0, e1, e2, e3, e4, arr, ty, e5, e6, fun i j r c hi hj => (e7 i j r c hi hj).cut hcut (ho r (List.mem_of_getElem? hi) c (List.mem_of_getElem? hj))⟩
        | map es =>
          obtain ⟨ents, clock, e1, e2, e3⟩ := h1
          refine ⟨ents, clock, e1, e2, fun i x hi => ?_⟩
          obtain ⟨e, g1, g2, g3, g4⟩ := e3 i x hi
          have := ho x (List.mem_of_getElem? hi)
          exact ⟨e, g1, g2.cut hcut this.1, g3.cut hcut this.2, g4⟩
      · cases ob with
        | dead => trivial
        | tip m => exact hnf rfl h2
        | _ => exact ⟨hnf rfl h2.1, h2.2⟩
    | box hc =>
      obtain ⟨hcl, hcg⟩ := hc.get
      obtain ⟨arr, ty, e1, e2, e3, e4⟩ := h1
      refine ⟨⟨arr, ty, e1, by rw [e2, hcl], fun c hm => ?_, fun i c' hi => ?_⟩, hnf rfl h2.1, h2.2⟩
      · obtain ⟨i, hi⟩ := List.mem_iff_getElem?.1 hm
        obtain ⟨y, hy⟩ := get_pair hcl hi
        exact (hcg i y c hy hi).one (e3 y (List.mem_of_getElem? hy))
      · obtain ⟨y, hy⟩ := get_pair hcl hi
        exact RV.close hr hcut hfull (hcg i y c' hy hi) (e4 i y hy)
  · obtain ⟨a, ha, hab⟩ := hgetS k ob hs
    obtain ⟨a', ha', hab'⟩ := hgetS k' ob' hs'
    exact hr.inj k k' p p' a a' (hget hk).2 (hget hk').2 ha ha' (hlive hab hl1) (hlive hab' hl2) hb
  · exact (hr.glob g cells hg).cut hcut (.cptr fun j c hj => (hC g cells hg c (List.mem_of_getElem? hj)).old)
  · obtain ⟨a, ha, hab⟩ := hgetS k ob hs
    exact hr.nk k p a (hget hk).2 ha (hlive hab hlv)
  · obtain ⟨l, hl⟩ := hx.pl
    refine ⟨⟨l.take (S.length - M0.pl.length), ?_⟩, fun b h => .inl (hx.full b h), fun b o h => hcut.at (hx.cell b o h), hx.same, hx.sameC, hx.size, hx.os, hx.tape, hx.output, fun b hb => ?_⟩
    · show M.pl.take S.length = _
      rw [hl, List.take_append, List.take_of_length_le hle]
    · obtain ⟨k1, k2, k3, k4⟩ := hx.kept b hb
      refine ⟨k1, k2, fun f => ?_, k4⟩
      rcases f with f | ⟨k, p, ob, _, hp, hs, hlv, rfl⟩
      · exact k3 f
      · exact absurd k1 (hr.nk k p ob hp hs hlv)

theorem FRel.onlyC {C : Ctx} {M M' : Plan} {σ : List CObj} {w : World} {n k : Nat} {E : Env} {a : Act} (hr : Rel C M σ w) (hc : Cut k M M') (hfull : ∀ (j : Nat) (p : Pl) (s : Nat) (rows : List (List CV)), k ≤ j → M.pl[j]? = some p → σ[j]? = some (.vec s rows) → M'.full p.block) (hf : FRel M w n E a) : ∀ {l : List (Nat × CV)}, ClSl k σ E l → FRel M' w n (Env.only l) a
  | [], _ => ⟨hf.defers, hf.size, fun _ h => h.elim, fun _ h => h.elim⟩
  | (t, c) :: l, ⟨⟨h1, h2⟩, h⟩ => by
    have ih := FRel.onlyC hr hc hfull hf h
    refine ⟨hf.defers, hf.size, fun x hx => ?_, fun x hx => ?_⟩
    · show RV M' w (((Env.only l).put (some t) c True).f x) _
      have hx : ((Env.only l).put (some t) c True).ok x := hx
      rw [Env.put_f]
      rw [Env.put_ok] at hx
      split
      · subst x; exact RV.close hr hc hfull h2 (hf.rv t h1)
      · rename_i hne
        rw [if_neg hne] at hx
        exact ih.rv x hx
    · have hx : ((Env.only l).put (some t) c True).un x := hx
      rw [Env.put_un] at hx
      split at hx
      · exact absurd trivial hx
      · exact ih.un x hx

section
variable {C : Ctx} {n : Nat} {Q : CExit → Env → List CObj → Prop} {E : Env} {σ : List CObj}
def UptoC {α : Type} (l : α → List (Nat × CV)) (S : α → List CObj) (P : α → Prop) (E' : Env) (σ' : List CObj) : Prop :=
  ∃ a, P a ∧ ClSl (S a).length σ' E' (l a) ∧ ClOs (S a).length σ' σ' (S a)
theorem cw_cutc {x y : Code} {α : Type} (hC : C.plain) (l : α → List (Nat × CV)) (S : α → List CObj) (P : α → Prop) (hlen : ∀ a, P a → σ.length ≤ (S a).length) (h : CWp C n x (CExit.next (UptoC l S P) Q) E σ) (k : ∀ a, P a → CWp C n y Q (Env.only (l a)) (S a)) : CWp C n (.seq x y) Q E σ := fun M w a hr hf => by
  refine wp_seq (wp_mono (h M w a hr hf) fun e a' w' hl => ?_)
  obtain ⟨E', σ', M', h1, h2, h3, h4⟩ := hl
  cases e with
  | normal =>
    obtain ⟨x, hP, hE, hS⟩ := h4
    obtain ⟨g1, g2, g3⟩ := h2.cutCls hC hS
    exact wp_mono (k x hP _ w' a' g1 (FRel.onlyC h2 g2 (fun j p s rows hj hp hs => .inr ⟨j, p, _, hj, hp, hs, rfl, rfl⟩) h3 hE)) fun _ _ _ => Lift.later (g3 M w h1 (by rw [hr.len]; exact hlen x hP))
  | _ => exact ⟨E', σ', M', h1, h2, h3, h4⟩
end
end Go.Cl
