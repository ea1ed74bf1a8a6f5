import Derived.Test.YtchaklkfaemfgaaK31
namespace Go.Cl
/-! ### An operation with effects under a guard: the guard is split -/
section
variable {C : Ctx} {n : Nat} {Q : CExit → Env → List CObj → Prop} {E : Env} {σ : List CObj}
theorem co_gd {ops : Array Oper} {o : Oper} {l : List Oper} {j t : Nat} {want b : Bool} (c0 : CV) (hg : o.guard = some (j, want)) (ht : (ops[j]?).bind (·.dst) = some t) (hv : E.ok t) (hb : E.f t = .val (.bool b))
    (hd : (match o.dst with | some d => Nat.blt d n | none => true) = true) (hy : b = want → Does C σ E o fun r σ' => match r with
      | .ret c => COps C n ops Q l (E.put o.dst c (b = want)) σ'
      | .pan c => Q (.pan c) E σ') (hn : ¬ b = want → COps C n ops Q l (E.put o.dst c0 (b = want)) σ) : COps C n ops Q (o :: l) E σ := fun M w a hr hf => by
  have hd1 : (match o.dst with | some d => d < n | none => True) := by
    cases hd' : o.dst with
    | none => trivial
    | some d => rw [hd'] at hd; simpa [Nat.blt_eq] using hd
  have h1 : RV M w (E.f t) (a.tmps.getD t undef) := hf.rv t hv
  rw [hb] at h1
  have h2 : a.tmps.getD t undef = .bool b := by generalize a.tmps.getD t undef = u at h1; cases h1; rfl
  have hsz : t < a.tmps.size := by
    rcases Nat.lt_or_ge t a.tmps.size with h' | h'
    · exact h'
    · simp [Array.getElem?_eq_none h', undef] at h2
  have hw : Region.wanted o (yielded ops a.tmps) = (b == want) := by
    have h3 : a.tmps[t]? = some (.bool b) := by
      rw [Array.getD_eq_getD_getElem?, Array.getElem?_eq_getElem hsz] at h2
      rw [Array.getElem?_eq_getElem hsz, ← h2]; rfl
    have h4 : yielded ops a.tmps j = some b := by unfold yielded; rw [ht, Option.bind_some, h3]
    simp only [Region.wanted, hg, h4]
    cases b <;> cases want <;> rfl
  have hd' : ∀ t, o.dst = some t → t < n := fun t ht => by rw [ht] at hd1; exact hd1
  unfold wpList
  by_cases hbw : b = want
  · rw [if_pos (by rw [hw]; simpa using hbw)]
    refine .inl (wp_of_upon (hy hbw M w a.eval hr fun x _ hx => hf.eval hr hx) (fun v w' ha => ?_) (fun ch w' ha => ?_))
    · obtain ⟨c', σ', M', h1, h2, h3, h4⟩ := ha
      exact h4.later h1 h2 ((hf.mono h1).put hd' (fun _ => h3) fun hh => absurd hbw hh)
    · obtain ⟨c, v, σ', M', h0, h1, h2, h3, h4⟩ := ha
      exact ⟨E, σ', M', h1, h2, hf.mono h1, c, v, h0, h3, h4⟩
  · rw [if_neg (by rw [hw]; simpa using hbw)]
    exact (hn hbw).later (Ext.refl M w) hr (hf.put hd' (fun hh => absurd hh hbw) fun _ => rfl)
end
end Go.Cl
