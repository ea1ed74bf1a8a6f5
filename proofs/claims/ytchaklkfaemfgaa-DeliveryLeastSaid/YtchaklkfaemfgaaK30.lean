import Derived.Test.YtchaklkfaemfgaaK29
namespace Go.Cl
/-! ### Calls that change one object whose contents are plain -/
def PureO : CObj → Prop
  | .dead => True
  | .box cells => ∀ c ∈ cells, Pure c
  | _ => False
theorem PureO.old {n : Nat} {ob : CObj} (h : PureO ob) : OldObj n ob := by
  cases ob with
  | dead => trivial
  | box cells => exact fun c hc => (h c hc).old
  | _ => exact h.elim
theorem PureO.rel {M M' : Plan} {w : World} {p : Pl} {ob : CObj} (hat : ∀ b o, M.at b o → M'.at b o) (hf : ∀ b, M'.full b → M.full b) (hcl : ∀ b o, M'.cell b o → M.cell b o) (hp : PureO ob) (h : ObjRel M w p ob ∧ ObjFree M p ob) : ObjRel M' w p ob ∧ ObjFree M' p ob := by
  cases ob with
  | dead => exact ⟨trivial, trivial⟩
  | box cells =>
    obtain ⟨⟨arr, ty, e1, e2, e3, e4⟩, g1, g2⟩ := h
    exact ⟨⟨arr, ty, e1, e2, e3, fun i c hi => (e4 i c hi).pure (fun b o ha => ⟨hat b o ha, rfl⟩) (hp c (List.mem_of_getElem? hi))⟩, fun hh => g1 (hf _ hh), fun o hh => g2 o (hcl _ o hh)⟩
  | _ => exact hp.elim

theorem ClOs.nil {n : Nat} {σ l : List CObj} : ClOs n σ l [] := by cases l <;> trivial
theorem ccalls_close1 {α : Type} {C : Ctx} {f : FuncId} {args : List CV} {ob : CObj} {c : α → CV} {S : α → CObj} {P : α → Prop} (hC : C.plain) (hS : ∀ a, PureO (S a)) (h : CCalls C f args [ob] fun r σ' => ∃ (a : α) (rest : List CObj) (c0 : CV), σ' = S a :: rest ∧ r = .ret c0 ∧ Cls 1 σ' c0 (c a) ∧ P a) :
    CCalls C f args [ob] fun r σ' => ∃ a, r = .ret (c a) ∧ σ' = [S a] ∧ P a := fun M w vs hr hn hx => (h M w vs hr hn hx).mono fun e w' he => by
  cases e with
  | returned v =>
    obtain ⟨c', σ', M', h1, h2, h3, a, rest, c0, rfl, h5, h6, h7⟩ := he
    injection h5 with h5
    subst h5
    obtain ⟨g1, g2, g3⟩ := h2.cutCls hC (S := [S a]) ⟨.same (hS a).old, .nil⟩
    exact ⟨c a, [S a], _, g3 M w h1 (by rw [hr.len]; exact Nat.le_refl _), g1, RV.close h2 g2 (fun k p s rows hk hp hs => .inr ⟨k, p, _, hk, hp, hs, rfl, rfl⟩) h6 h3, ⟨a, rfl, rfl, h7⟩⟩
  | panicked ch =>
    obtain ⟨c', v, σ', M', h0, h1, h2, h3, a, rest, c0, h4, h5, _⟩ := he
    cases h5
  | outgrown => exact he

theorem ccalls_frame1 {α : Type} {C : Ctx} {f : FuncId} {args : List CV} {ob : CObj} {c : α → CV} {S : α → CObj} {P : α → Prop} (hC : C.plain) (hargs : ∀ a ∈ args, Pure a) (hc : ∀ a, Pure (c a)) (hS : ∀ a, PureO (S a)) (hob : PureO ob) (hlive : ob.live = true)
    (h : CCalls C f (.ptr 0 0 :: args) [ob] fun r σ' => ∃ a, r = .ret (c a) ∧ σ' = [S a] ∧ P a) (σ : List CObj) (q : Nat) (hq : σ[q]? = some ob) : CCalls C f (.ptr q 0 :: args) σ fun r σ' => ∃ a, r = .ret (c a) ∧ σ' = σ.set q (S a) ∧ P a := fun M w vs hr hn hx => by
  have hqs : q < σ.length := (List.getElem?_eq_some_iff.1 hq).1
  obtain ⟨pq, hpq⟩ : ∃ p, M.pl[q]? = some p := ⟨M.pl[q]'(by rw [hr.len]; exact hqs), by simp⟩
  let LB : Nat → Prop := fun b => ∃ (k : Nat) (p : Pl) (ob' : CObj), k ≠ q ∧ M.pl[k]? = some p ∧ σ[k]? = some ob' ∧ ob'.live = true ∧ p.block = b
  let M0 : Plan := { pl := [pq], full := M.full, cell := M.cell, keep := fun b => M.keep b ∨ LB b }
  have hat : ∀ b o, M.at b o → M0.at b o ∧ w.cell? ⟨b, o, none⟩ = w.cell? ⟨b, o, none⟩ := fun b o h => ⟨h, rfl⟩
  have hLB : ∀ b, LB b → b < w.heap.size := fun b ⟨k, p, ob', _, hp, hs, hl, hb⟩ => hb ▸ (hr.obj k p ob' hp hs).1.lt hl
  have h0 : ∀ {k : Nat} {p : Pl}, M0.pl[k]? = some p → k = 0 ∧ p = pq := fun {k p} hp => by
    rcases k with _ | k
    · exact ⟨rfl, (Option.some.inj hp).symm⟩
    · simp [M0] at hp
  have h0o : ∀ {k : Nat} {x : CObj}, [ob][k]? = some x → x = ob := fun {k x} hx => by
    rcases k with _ | k
    · exact (Option.some.inj hx).symm
    · simp at hx
  have hr0 : Rel C M0 [ob] w := ⟨rfl, hr.blk, fun k p x hp hs => by
      obtain ⟨rfl, rfl⟩ := h0 hp
      obtain rfl := h0o hs
      exact hob.rel (M := M) (M' := M0) (fun b o h => h) (fun b h => h) (fun b o h => h) (hr.obj q p x hpq hq), fun k k' p p' x x' hp hp' _ _ _ _ _ => by
      rw [(h0 hp).1, (h0 hp').1], fun g cells hg => by
      have := hr.glob g cells hg
      cases this with
      | cptr vals h1 h2 h3 => exact .cptr vals h1 h2 fun j c hj => (h3 j c hj).pure hat (hC g cells hg c (List.mem_of_getElem? hj)),
      fun b hb => (by
        rcases hb with hb | hb
        · exact hr.kep b hb
        · exact hLB b hb), fun k p x hp hs hl hb => by
      obtain ⟨rfl, rfl⟩ := h0 hp
      obtain rfl := h0o hs
      rcases hb with hb | ⟨k, p', ob', hk, hp', hs', hl', hb⟩
      · exact hr.nk q p x hpq hq hl hb
      · exact hk (hr.inj k q p' p ob' x hp' hpq hs' hq hl' hl hb)⟩
  refine (h M0 w vs hr0 (by simpa using hn) fun i a hi => ?_).mono fun e w' he => ?_
  · rcases i with _ | i
    · simp at hi
      subst hi
      have := hx 0 (.ptr q 0) (by simp)
      generalize vs.getD 0 undef = v0 at this ⊢
      cases this with
      | ptr hk =>
        rw [hpq] at hk
        injection hk with hk
        subst hk
        exact .ptr (M := M0) (k := 0) rfl
    · simp at hi
      exact (hx (i + 1) a (by simpa using hi)).pure hat (hargs a (List.mem_of_getElem? hi))
  cases e with
  | panicked ch =>
    obtain ⟨c', v, σ', M', _, _, _, _, ⟨a, h5, _⟩⟩ := he
    cases h5
  | outgrown => exact he
  | returned v =>
    obtain ⟨c', σ', M', h1, h2, h3, a, h4, rfl, hP⟩ := he
    injection h4 with h4
    subst h4
    have hpl : M'.pl[0]? = some pq := h1.get (M := M0) rfl
    let M2 : Plan := { pl := M.pl, full := M'.full, cell := M'.cell, keep := M.keep }
    have hx2 : Ext M w M2 w' := ⟨⟨[], by simp [M2]⟩, h1.full, h1.cell, h1.same, h1.sameC, h1.size, h1.os, h1.tape, h1.output, fun b hb => by
      obtain ⟨k1, k2, k3, k4⟩ := h1.kept b (.inl hb)
      exact ⟨hb, k2, k3, k4⟩⟩
    have hset : ∀ {k : Nat} {x : CObj}, (σ.set q (S a))[k]? = some x → (k = q ∧ x = S a) ∨ (k ≠ q ∧ σ[k]? = some x) := fun {k x} hk => by
      rw [List.getElem?_set] at hk
      split at hk
      · rename_i e
        exact .inl ⟨e.symm, (Option.some.inj hk).symm⟩
      · rename_i e
        exact .inr ⟨fun h => e h.symm, hk⟩
    have hlv : ∀ {k : Nat} {x : CObj}, (σ.set q (S a))[k]? = some x → x.live = true → ∃ y, σ[k]? = some y ∧ y.live = true := fun {k x} hk hl => by
      rcases hset hk with ⟨rfl, rfl⟩ | ⟨_, h⟩
      · exact ⟨ob, hq, hlive⟩
      · exact ⟨x, h, hl⟩
    refine ⟨c a, σ.set q (S a), M2, hx2, ⟨by simp [M2, hr.len], h2.blk, fun k p x hp hs => ?_, fun k k' p p' x x' hp hp' hs hs' hl hl' hb => ?_, fun g cells hg => (hr.glob g cells hg).mono hx2, fun b hb => Nat.lt_of_lt_of_le (hr.kep b hb) h1.size, fun k p x hp hs hl => ?_⟩, h3.pure (M := M') (M' := M2) (w' := w') (fun b o h => ⟨h, rfl⟩) (hc a), ⟨a, rfl, rfl, hP⟩⟩
    · rcases hset hs with ⟨rfl, rfl⟩ | ⟨hk, hs⟩
      · have e : p = pq := by
          have hp : M.pl[k]? = some p := hp
          rw [hpq] at hp; exact (Option.some.inj hp).symm
        subst e
        exact (hS a).rel (M := M') (M' := M2) (fun b o h => h) (fun b h => h) (fun b o h => h) (h2.obj 0 p (S a) hpl rfl)
      · by_cases hl : x.live = true
        · obtain ⟨k1, k2, k3, k4⟩ := h1.kept p.block (.inr ⟨k, p, x, hk, hp, hs, hl, rfl⟩)
          obtain ⟨g1, g2⟩ := hr.obj k p x hp hs
          refine ⟨g1.mono hx2 k2 (fun _ _ o ho => k4 o ho), ?_⟩
          cases x with
          | dead => trivial
          | tip n => exact fun hf => g2 (k3 hf)
          | _ => exact ⟨fun hf => g2.1 (k3 hf), fun o ho => g2.2 o (k4 o ho)⟩
        · cases x <;> first | exact ⟨trivial, trivial⟩ | simp [CObj.live] at hl
    · obtain ⟨y, hy, hyl⟩ := hlv hs hl
      obtain ⟨y', hy', hyl'⟩ := hlv hs' hl'
      exact hr.inj k k' p p' y y' hp hp' hy hy' hyl hyl' hb
    · obtain ⟨y, hy, hyl⟩ := hlv hs hl
      exact hr.nk k p y hp hy hyl
end Go.Cl
