import Derived.Test.YtchaklkfaemfgaaK30
namespace Go.Cl
/-! ### An array that changes is read by a call; what is appended to an empty literal: nothing -/
theorem rv_borrow {C : Ctx} {M M0 : Plan} {σ : List CObj} {w : World} (hr : Rel C M σ w) {k off len s : Nat} {rows : List (List CV)} {p : Pl} (hp : M.pl[k]? = some p) (hσ : σ[k]? = some (.vec s rows)) (hle : off + len ≤ rows.length) (hrows : ∀ r ∈ rows, ∀ c ∈ r, Pure c)
    (hat : ∀ b o, M.at b o → M0.at b o) (hfp : M0.full p.block) {v : Value} (hv : RV M w (.vec k off len) v) : RV M0 w (.list ((rows.drop off).take len) true none) v := by
  cases hv with
  | vec hp' g1 g2 g3 =>
    rename_i p' a
    rw [hp] at hp'
    injection hp' with hp'
    subst hp'
    obtain ⟨⟨hps, q1, q2, q3, q4, arr, ty, q5, q6, q7⟩, _⟩ := hr.obj k p _ hp hσ
    have hlen : ((rows.drop off).take len).length = len := by simp; omega
    have hget : ∀ i r, ((rows.drop off).take len)[i]? = some r → i < len ∧ rows[off + i]? = some r := fun i r hi => by
      rw [List.getElem?_take] at hi
      split at hi
      · rw [List.getElem?_drop] at hi; exact ⟨‹_›, hi⟩
      · cases hi
    have hoff : (rows.drop off).take len ≠ [] → off < p.cap := fun hne => by
      have : 0 < ((rows.drop off).take len).length := List.length_pos_iff.2 hne
      omega
    refine RV.list' (L := len) (by omega) (b := p.block) (off := off * p.size) (s := p.size) (fun i j => arr.getD ((off + i) * p.size + j) undef) (by omega) (by omega) rfl (fun h => by cases h) (fun hne => by rw [g3 (hoff hne)]) (fun r hr' => ?_) (fun r hr' c hc' => ?_) (fun i j r c hi hj => ?_) (fun i j r c hi hj => ?_) (fun k hk => by cases hk)
    · obtain ⟨i, hi⟩ := List.mem_iff_getElem?.1 hr'
      exact q3 r (List.mem_of_getElem? (hget i r hi).2)
    · obtain ⟨i, hi⟩ := List.mem_iff_getElem?.1 hr'
      exact q4 r (List.mem_of_getElem? (hget i r hi).2) c hc'
    · obtain ⟨hil, hri⟩ := hget i r hi
      have hjl : j < p.size := by have := (List.getElem?_eq_some_iff.1 hj).1; rwa [q3 r (List.mem_of_getElem? hri)] at this
      have hq : (off + i) * p.size + j < arr.size := by
        rw [q6]
        have : (off + i + 1) * p.size ≤ p.cap * p.size := Nat.mul_le_mul_right _ (by omega)
        rw [Nat.add_mul (off + i)] at this; omega
      refine ⟨.inl hfp, ?_⟩
      rw [show off * p.size + i * p.size + j = (off + i) * p.size + j from by rw [Nat.add_mul off]]
      simp [World.cell?, q5, hq]
    · obtain ⟨hil, hri⟩ := hget i r hi
      exact (q7 _ _ _ _ hri hj).pure (fun b o h => ⟨hat b o h, rfl⟩) (hrows r (List.mem_of_getElem? hri) c (List.mem_of_getElem? hj))
theorem ccalls_borrow {C : Ctx} {f : FuncId} {args : List CV} {k off len s : Nat} {rows : List (List CV)} {v0 : Value} {σ : List CObj} (hC : C.plain) (hargs : ∀ a ∈ args, Pure a) (hrows : ∀ r ∈ rows, ∀ c ∈ r, Pure c) (hle : off + len ≤ rows.length) (hk : σ[k]? = some (.vec s rows))
    (h : CCalls C f (.list ((rows.drop off).take len) true none :: args) [] fun r σ' => r = .ret (.val v0) ∧ σ' = []) : CCalls C f (.vec k off len :: args) σ fun r σ' => r = .ret (.val v0) ∧ σ' = σ :=
  fun M w vs hr hn hx => by
    have hks : k < σ.length := (List.getElem?_eq_some_iff.1 hk).1
    obtain ⟨q, hq⟩ : ∃ p, M.pl[k]? = some p := ⟨M.pl[k]'(by rw [hr.len]; exact hks), by simp⟩
    obtain ⟨hqo, hqf⟩ := hr.obj k q _ hq hk
    let LB : Nat → Prop := fun b => ∃ (k : Nat) (p : Pl) (ob : CObj), M.pl[k]? = some p ∧ σ[k]? = some ob ∧ ob.live = true ∧ p.block = b
    let M0 : Plan := { pl := [], full := fun b => M.full b ∨ b = q.block, cell := M.cell, keep := fun b => M.keep b ∨ LB b }
    have hat : ∀ b o, M.at b o → M0.at b o ∧ w.cell? ⟨b, o, none⟩ = w.cell? ⟨b, o, none⟩ := fun b o h => ⟨h.imp .inl id, rfl⟩
    have hLB : ∀ b, LB b → b < w.heap.size := fun b ⟨k, p, ob, hp, hs, hl, hb⟩ => hb ▸ (hr.obj k p ob hp hs).1.lt hl
    have hr0 : Rel C M0 [] w := ⟨rfl, fun b o hb => (by
        rcases hb with (hb | rfl) | hb
        · exact hr.blk b o (.inl hb)
        · exact hqo.lt rfl
        · exact hr.blk b o (.inr hb)), fun k p ob hp => by simp [M0] at hp, fun k k' p p' ob ob' hp => by simp [M0] at hp, fun g cells hg => by
      have := hr.glob g cells hg
      cases this with
      | cptr vals h1 h2 h3 => exact .cptr vals h1 (fun j c hj => ⟨(hat _ _ (h2 j c hj).1).1, (h2 j c hj).2⟩) fun j c hj => (h3 j c hj).pure hat (hC g cells hg c (List.mem_of_getElem? hj)),
      fun b hb => (by
        rcases hb with hb | hb
        · exact hr.kep b hb
        · exact hLB b hb), fun k p ob hp => by simp [M0] at hp⟩
    refine (h M0 w vs hr0 hn fun i a hi => ?_).mono fun e w' he => ?_
    · rcases i with _ | i
      · simp at hi
        subst hi
        exact rv_borrow hr hq hk hle hrows (fun b o h => (hat b o h).1) (.inr rfl) (hx 0 _ (by simp))
      · exact (hx (i + 1) a (by simpa using hi)).pure hat (hargs a (List.mem_of_getElem? (by simpa using hi)))
    · cases e with
      | panicked ch =>
        obtain ⟨c', v, σ', M', _, _, _, _, ⟨h5, _⟩⟩ := he
        cases h5
      | outgrown => exact he
      | returned v =>
        obtain ⟨c', σ', M', h1, h2, h3, ⟨h4, rfl⟩⟩ := he
        injection h4 with h4
        subst h4
        let M2 : Plan := { pl := M.pl, full := fun b => M'.full b ∧ b ≠ q.block, cell := fun b o => M'.cell b o ∧ b ≠ q.block, keep := M.keep }
        have hx2 : Ext M w M2 w' := ⟨⟨[], by simp [M2]⟩, fun b hb => ⟨h1.full b (.inl hb), fun e => hqf.1 (e ▸ hb)⟩, fun b o hb => (h1.cell b o hb).imp (fun h => ⟨h, fun e => hqf.2 o (e ▸ hb)⟩) (fun h => ⟨h, fun e => hqf.2 o (e ▸ hb)⟩), fun b hb => h1.same b (.inl hb), h1.sameC, h1.size, h1.os, h1.tape, h1.output, fun b hb => by
          obtain ⟨k1, k2, k3, k4⟩ := h1.kept b (.inl hb)
          exact ⟨hb, k2, fun hf => (k3 hf.1).elim id fun e => absurd e hf.2, fun o ho => k4 o ho.1⟩⟩
        refine ⟨.val v0, σ, M2, hx2, ⟨hr.len, fun b o hb => h2.blk b o (hb.imp (·.1) (·.1)), fun k p ob hp hs => ?_, hr.inj, fun g cells hg => (hr.glob g cells hg).mono hx2, fun b hb => Nat.lt_of_lt_of_le (hr.kep b hb) h1.size, hr.nk⟩, by rw [rv_val h3]; exact .val _, rfl, rfl⟩
        by_cases hl : ob.live = true
        · obtain ⟨k1, k2, k3, k4⟩ := h1.kept p.block (.inr ⟨k, p, ob, hp, hs, hl, rfl⟩)
          obtain ⟨g1, g2⟩ := hr.obj k p ob hp hs
          have k3' : M2.full p.block → M.full p.block := fun hf => (k3 hf.1).elim id fun e => absurd e hf.2
          refine ⟨g1.mono hx2 k2 (fun _ _ o ho => k4 o ho.1), ?_⟩
          cases ob with
          | dead => trivial
          | tip n => exact fun hf => g2 (k3' hf)
          | _ => exact ⟨fun hf => g2.1 (k3' hf), fun o ho => g2.2 o (k4 o ho.1)⟩
        · cases ob <;> first | exact ⟨trivial, trivial⟩ | simp [CObj.live] at hl
section
variable {C : Ctx} {E : Env} {σ : List CObj} {o : Oper}
theorem d_appc0' {t e : TypeId} {x y : Operand} {a : Addr} {s : Nat} {K : CRes → List CObj → Prop} (ho : o.op = .call { callee := .builtin .append, args := #[x, y], argTypes := #[t, t] }) (hx : E.valid x) (hy : E.valid y) (ex : E.val C x = .val (.slice (some a) 0 0))
    (hsrc : ∀ M w v, Rel C M σ w → RV M w (E.val C y) v → Src C M w [] s v) (hu : ∀ w, (underlying t).run C.P w = .ok (.slice e) w) (hs : ∀ w, (sizeOf e).run C.P w = .ok s w)
    (hk : K (.ret (.val (.slice (some a) 0 0))) σ) : Does C σ E o K := fun M w ρ hr hh => by
  have h1 := hh x (by simp [ho, Op.operands, Call.operands]) hx
  have h2 := hh y (by simp [ho, Op.operands, Call.operands]) hy
  rw [ex] at h1
  have hv := rv_val h1
  have hsn := hsrc M w _ hr h2
  have hlen := hsn.lenOf
  obtain ⟨_, _, _, _, _, arr, hfn, hszn, _⟩ := hsn
  have hexec : (execOp ρ o).run C.P w = ((Builtin.append_ #[t, t] o.type #[ρ x, ρ y]).run C.P w).andThen fun v w => .ok (.value v) w := by
    simp [execOp, ho, resolve, invoke, builtin]
  have hrun : (execOp ρ o).run C.P w = .ok (.value (.slice (some a) 0 0)) w := by
    rw [hexec, hv, run_append_none hu hs (by simpa using hlen) (by simpa using hfn) (by simpa using hszn) (Nat.le_refl _)]
    rfl
  rw [hrun]
  exact ⟨_, σ, M, Ext.refl M w, hr, .val _, hk⟩
end
end Go.Cl
