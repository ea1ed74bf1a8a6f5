import Derived.Test.YtchaklkfaemfgaaK11
namespace Go.Cl

/-! ### A call that sees none of the objects -/
theorem RV.pure {M M' : Plan} {w w' : World} (h : ∀ b o, M.at b o → M'.at b o ∧ w'.cell? ⟨b, o, none⟩ = w.cell? ⟨b, o, none⟩) {c : CV} {v : Value} (hr : RV M w c v) (hp : Pure c) : RV M' w' c v := by
  induction hr with
  | val v => exact .val v
  | agg h1 h2 _ ih => cases hp with | agg hp => exact .agg h1 h2 fun i c hi => ih i c hi (hp c (List.mem_of_getElem? hi))
  | tup h1 _ ih => cases hp with | tup hp => exact .tup h1 fun i c hi => ih i c hi (hp c (List.mem_of_getElem? hi))
  | list vals h1 h2 h3 h4 h5 h6 h7 h8 _ h10 ih =>
    cases hp with
    | list hp => exact .list vals h1 h2 h3 h4 h5 h6 h7 (fun i j r c hi hj => ⟨(h _ _ (h8 i j r c hi hj).1).1, (h _ _ (h8 i j r c hi hj).1).2.trans (h8 i j r c hi hj).2⟩) (fun i j r c hi hj => ih i j r c hi hj (hp r (List.mem_of_getElem? hi) c (List.mem_of_getElem? hj))) fun k hk => by cases hk
  | ptr _ => cases hp
  | cptr _ _ _ _ _ => cases hp
  | eptr _ => cases hp
  | vec _ _ _ _ => cases hp
  | map _ => cases hp

/-- Of the value something is known. -/
theorem ccalls_frame' {C : Ctx} {f : FuncId} {args : List CV} {K : CV → Prop} (hargs : ∀ a ∈ args, Pure a) (hc : ∀ c, K c → Pure c) (hglob : ∀ g cells, C.glob g = some cells → ∀ c ∈ cells, Pure c) (h : CCalls C f args [] fun r σ' => (∃ c, r = .ret c ∧ K c) ∧ σ' = []) (σ : List CObj) : CCalls C f args σ fun r σ' => (∃ c, r = .ret c ∧ K c) ∧ σ' = σ :=
  fun M w vs hr hn hx => by
    let LB : Nat → Prop := fun b => ∃ (k : Nat) (p : Pl) (ob : CObj), M.pl[k]? = some p ∧ σ[k]? = some ob ∧ ob.live = true ∧ p.block = b
    let M0 : Plan := { pl := [], full := M.full, cell := M.cell, keep := fun b => M.keep b ∨ LB b }
    have hat : ∀ b o, M.at b o → M0.at b o ∧ w.cell? ⟨b, o, none⟩ = w.cell? ⟨b, o, none⟩ := fun b o h => ⟨h, rfl⟩
    have hLB : ∀ b, LB b → b < w.heap.size := fun b ⟨k, p, ob, hp, hs, hl, hb⟩ => hb ▸ (hr.obj k p ob hp hs).1.lt hl
    have hr0 : Rel C M0 [] w := ⟨rfl, hr.blk, fun k p ob hp => by simp [M0] at hp, fun k k' p p' ob ob' hp => by simp [M0] at hp, fun g cells hg => by
      have := hr.glob g cells hg
      cases this with
      | cptr vals h1 h2 h3 => exact .cptr vals h1 h2 fun j c hj => (h3 j c hj).pure hat (hglob g cells hg c (List.mem_of_getElem? hj)),
      fun b hb => (by
        rcases hb with hb | hb
        · exact hr.kep b hb
        · exact hLB b hb), fun k p ob hp => by simp [M0] at hp⟩
    refine (h M0 w vs hr0 hn fun i a hi => (hx i a hi).pure hat (hargs a (List.mem_of_getElem? hi))).mono fun e w' he => ?_
    cases e with
    | panicked ch =>
      obtain ⟨c', v, σ', M', _, _, _, _, ⟨⟨c0, h5, _⟩, _⟩⟩ := he
      cases h5
    | outgrown => exact he
    | returned v =>
      obtain ⟨c', σ', M', h1, h2, h3, ⟨⟨c0, h4, hK⟩, rfl⟩⟩ := he
      injection h4 with h4
      subst h4
      let M2 : Plan := { pl := M.pl, full := M'.full, cell := M'.cell, keep := M.keep }
      have hx2 : Ext M w M2 w' := ⟨⟨[], by simp [M2]⟩, h1.full, h1.cell, h1.same, h1.sameC, h1.size, h1.os, h1.tape, h1.output, fun b hb => by
        obtain ⟨k1, k2, k3, k4⟩ := h1.kept b (.inl hb)
        exact ⟨hb, k2, k3, k4⟩⟩
      refine ⟨c', σ, M2, hx2, ⟨hr.len, h2.blk, fun k p ob hp hs => ?_, hr.inj, fun g cells hg => (hr.glob g cells hg).mono hx2, fun b hb => Nat.lt_of_lt_of_le (hr.kep b hb) h1.size, hr.nk⟩, h3.pure (M := M') (M' := M2) (w' := w') (fun b o h => ⟨h, rfl⟩) (hc _ hK), ⟨c', rfl, hK⟩, rfl⟩
      by_cases hl : ob.live = true
      · obtain ⟨k1, k2, k3, k4⟩ := h1.kept p.block (.inr ⟨k, p, ob, hp, hs, hl, rfl⟩)
        obtain ⟨g1, g2⟩ := hr.obj k p ob hp hs
        refine ⟨g1.mono hx2 k2 (fun _ _ o ho => k4 o ho), ?_⟩
        cases ob with
        | dead => trivial
        | tip n => exact fun hf => g2 (k3 hf)
        | _ => exact ⟨fun hf => g2.1 (k3 hf), fun o ho => g2.2 o (k4 o ho)⟩
      · cases ob <;> first | exact ⟨trivial, trivial⟩ | simp [CObj.live] at hl
theorem ccalls_frame {C : Ctx} {f : FuncId} {args : List CV} {c : CV} (hargs : ∀ a ∈ args, Pure a) (hc : Pure c) (hglob : ∀ g cells, C.glob g = some cells → ∀ c ∈ cells, Pure c) (h : CCalls C f args [] fun r σ' => r = .ret c ∧ σ' = []) (σ : List CObj) : CCalls C f args σ fun r σ' => r = .ret c ∧ σ' = σ :=
  (ccalls_frame' (K := fun c' => c' = c) hargs (fun _ h => h ▸ hc) hglob (h.mono fun _ _ ⟨h1, h2⟩ => ⟨⟨c, h1, rfl⟩, h2⟩) σ).mono fun _ _ ⟨⟨_, h1, h2⟩, h3⟩ => ⟨h2 ▸ h1, h3⟩
end Go.Cl
