import Derived.Test.YtchaklkfaemfgaaK33
namespace Go.Cl
/-! ### Sets: maps from structs of plain cells to true -/
structure KeyOk {α : Type} [DecidableEq α] (P : Program) (kt : TypeId) (kc : α → CV) (kv : α → Value) : Prop where
  rv : ∀ M w a v, RV M w (kc a) v → v = kv a
  rv' : ∀ M w a, RV M w (kc a) (kv a)
  check : ∀ b a w, (Instr.checkKey b 10000 kt (kv a)).run P w = .ok () w
  eq : ∀ a b w, (Op.equal kt (kv a) (kv b)).run P w = .ok (decide (a = b)) w
  now : ∃ d, (∀ w, (underlying kt).run P w = .ok d w) ∧ ∀ a b, Instr.sameNow d (kv a) (kv b) = none
  bits : ∀ a, Instr.sameBits 10000 (kv a) (kv a) = true
def smap {α : Type} (kc : α → CV) (l : List α) : List (CV × CV) := l.map fun x => (kc x, .val (.bool true))
def sput {α : Type} [DecidableEq α] (l : List α) (a : α) : List α := if a ∈ l then l else l ++ [a]
section
variable {α : Type} [DecidableEq α] {P : Program} {kt : TypeId} {kc : α → CV} {kv : α → Value}
theorem set_asking (hK : KeyOk P kt kc kv) (a : α) : ∀ (l : List α) (ents : List MapEntry) (n : Nat), ents.length = l.length → (∀ (i : Nat) (x : α), l[i]? = some x → ∃ e, ents[i]? = some e ∧ e.key = kv x ∧ e.val = .bool true) →
    (a ∉ l → ∀ w, (Instr.findAsking kt (kv a) ents n).run P w = .ok none w) ∧ (a ∈ l → ∃ i : Nat, l[i]? = some a ∧ ∀ w, (Instr.findAsking kt (kv a) ents n).run P w = .ok (some (n + i, .bool true)) w)
  | [], [], n, _, _ => ⟨fun _ w => by simp [Instr.findAsking], fun h => by simp at h⟩
  | [], _ :: _, _, h, _ => by simp at h
  | _ :: _, [], _, h, _ => by simp at h
  | x :: l, e :: ents, n, hl, hh => by
    obtain ⟨e', he, hk, hv⟩ := hh 0 x rfl
    simp at he
    subst he
    obtain ⟨ih1, ih2⟩ := set_asking hK a l ents (n + 1) (by simpa using hl) fun i y hi => hh (i + 1) y (by simpa using hi)
    by_cases hax : a = x
    · subst hax
      refine ⟨fun h => absurd (by simp) h, fun _ => ⟨0, rfl, fun w => ?_⟩⟩
      simp [Instr.findAsking, hk, hK.eq, hv]
    · have step : ∀ w, (Instr.findAsking kt (kv a) (e :: ents) n).run P w = (Instr.findAsking kt (kv a) ents (n + 1)).run P w := fun w => by
        simp [Instr.findAsking, hk, hK.eq, hax]
      refine ⟨fun h w => ?_, fun h => ?_⟩
      · rw [step]
        exact ih1 (fun hm => h (by simp [hm])) w
      · obtain ⟨i, h1, h2⟩ := ih2 (by rcases List.mem_cons.1 h with h | h; exact absurd h hax; exact h)
        exact ⟨i + 1, by simpa using h1, fun w => by rw [step, h2]; congr 3; omega⟩
theorem set_find (hK : KeyOk P kt kc kv) (a : α) {l : List α} {ents : List MapEntry} (hl : ents.length = l.length) (hh : ∀ (i : Nat) (x : α), l[i]? = some x → ∃ e, ents[i]? = some e ∧ e.key = kv x ∧ e.val = .bool true) :
    (a ∉ l → ∀ w, (Instr.findKey kt (kv a) ents).run P w = .ok none w) ∧ (a ∈ l → ∃ i : Nat, l[i]? = some a ∧ ∀ w, (Instr.findKey kt (kv a) ents).run P w = .ok (some (i, .bool true)) w) := by
  obtain ⟨d, hd, hs⟩ := hK.now
  obtain ⟨h1, h2⟩ := set_asking hK a l ents 0 hl hh
  cases ents with
  | nil =>
    have : l = [] := List.eq_nil_of_length_eq_zero (by simpa using hl.symm)
    subst this
    exact ⟨fun _ w => by simp [Instr.findKey, hd, Instr.findNow], fun h => by simp at h⟩
  | cons e ents =>
    cases l with
    | nil => simp at hl
    | cons x l =>
      obtain ⟨e', he, hk, _⟩ := hh 0 x rfl
      simp at he
      subst he
      have hn : Instr.findNow d (kv a) (e :: ents) 0 = none := by simp [Instr.findNow, hk, hs]
      refine ⟨fun h w => ?_, fun h => ?_⟩
      · simp [Instr.findKey, hd, hn, h1 h]
      · obtain ⟨i, g1, g2⟩ := h2 h
        refine ⟨i, g1, fun w => ?_⟩
        simp [Instr.findKey, hd, hn, g2]
end
section
variable {C : Ctx} {σ : List CObj} {E : Env} {o : Oper} {α : Type} [DecidableEq α] {kt : TypeId} {kc : α → CV} {kv : α → Value}
theorem smap_obj (hK : KeyOk C.P kt kc kv) {M : Plan} {w : World} {p : Pl} {l : List α} (h : ObjRel M w p (.map (smap kc l))) :
    ∃ ents clock, w.heap[p.block]? = some (.map ents clock) ∧ ents.size = l.length ∧ ∀ (i : Nat) (x : α), l[i]? = some x → ∃ e, ents[i]? = some e ∧ e.key = kv x ∧ e.val = .bool true ∧ e.born < clock := by
  obtain ⟨ents, clock, h1, h2, h3⟩ := h
  refine ⟨ents, clock, h1, by simpa [smap] using h2, fun i x hi => ?_⟩
  obtain ⟨e, he, hk, hv, hb⟩ := h3 i (kc x, .val (.bool true)) (by simp [smap, hi])
  exact ⟨e, he, hK.rv _ _ _ _ hk, rv_val hv, hb⟩
theorem y_lookup_set (hK : KeyOk C.P kt kc kv) {t et : TypeId} {m kx : Operand} {q : Nat} {l : List α} {a : α} (ho : o.op = .lookup t m kx false) (hm : E.valid m) (hk : E.valid kx) (em : E.val C m = .map q) (ek : E.val C kx = kc a)
    (hu : ∀ w, (underlying t).run C.P w = .ok (.map kt et) w) (hz : ∀ w, (zeroValue et).run C.P w = .ok (.bool false) w) (hσ : σ[q]? = some (.map (smap kc l))) : Yields C σ E o (.val (.bool (decide (a ∈ l)))) :=
  yields_same fun M w ρ hr h => by
    have h1 := h m (by simp [ho, Op.operands]) hm
    have h2 := h kx (by simp [ho, Op.operands]) hk
    rw [em] at h1
    rw [ek] at h2
    have h2' := hK.rv _ _ _ _ h2
    generalize hv : ρ m = v at h1
    cases h1 with
    | map hp =>
      rename_i p
      obtain ⟨ents, clock, g1, g2, g3⟩ := smap_obj hK (hr.obj q p _ hp hσ).1
      obtain ⟨f1, f2⟩ := set_find hK a (l := l) (ents := ents.toList) (by simpa using g2) fun i x hi => by
        obtain ⟨e, e1, e2, e3, _⟩ := g3 i x hi
        exact ⟨e, by simpa using e1, e2, e3⟩
      by_cases ha : a ∈ l
      · obtain ⟨i, _, f3⟩ := f2 ha
        refine ⟨.bool true, ?_, by rw [decide_eq_true ha]; exact .val _⟩
        simp [execOp, ho, hv, h2', Instr.lookup, hu, run_getObj_map g1, hK.check, f3]
      · refine ⟨.bool false, ?_, by rw [decide_eq_false ha]; exact .val _⟩
        simp [execOp, ho, hv, h2', Instr.lookup, hu, run_getObj_map g1, hK.check, f1 ha, hz]
theorem d_mapUpdate_set (hK : KeyOk C.P kt kc kv) {t et : TypeId} {m kx vx : Operand} {q : Nat} {l : List α} {a : α} {K : CRes → List CObj → Prop} (ho : o.op = .mapUpdate t m kx vx) (hm : E.valid m) (hk : E.valid kx) (hv : E.valid vx) (em : E.val C m = .map q) (ek : E.val C kx = kc a) (ev : E.val C vx = .val (.bool true))
    (hu : ∀ w, (underlying t).run C.P w = .ok (.map kt et) w) (hσ : σ[q]? = some (.map (smap kc l))) (hQ : K (.ret (.val undef)) (σ.set q (.map (smap kc (sput l a))))) : Does C σ E o K := fun M w ρ hr h => by
  have h1 := h m (by simp [ho, Op.operands]) hm
  have h2 := h kx (by simp [ho, Op.operands]) hk
  have h3 := h vx (by simp [ho, Op.operands]) hv
  rw [em] at h1
  rw [ek] at h2
  rw [ev] at h3
  have h2' := hK.rv _ _ _ _ h2
  have h3' := rv_val h3
  generalize hum : ρ m = um at h1
  cases h1 with
  | map hp =>
    rename_i p
    obtain ⟨ents, clock, g1, g2, g3⟩ := smap_obj hK (hr.obj q p _ hp hσ).1
    obtain ⟨f1, f2⟩ := set_find hK a (l := l) (ents := ents.toList) (by simpa using g2) fun i x hi => by
      obtain ⟨e, e1, e2, e3, _⟩ := g3 i x hi
      exact ⟨e, by simpa using e1, e2, e3⟩
    have old : ∀ (i : Nat) (x : α), l[i]? = some x → ∃ e, ents[i]? = some e ∧ RV M w (kc x) e.key ∧ RV M w (.val (.bool true)) e.val ∧ e.born < clock := fun i x hi => by
      obtain ⟨e, e1, e2, e3, e4⟩ := g3 i x hi
      exact ⟨e, e1, by rw [e2]; exact hK.rv' _ _ _, by rw [e3]; exact .val _, e4⟩
    by_cases ha : a ∈ l
    · obtain ⟨i, hi, f3⟩ := f2 ha
      obtain ⟨e, e1, e2, e3, e4⟩ := g3 i a hi
      have hsp : sput l a = l := by rw [sput, if_pos ha]
      rw [hsp] at hQ
      have hrun : (execOp ρ o).run C.P w = .ok .skip (World.putObj w p.block (.map (ents.modify i fun e => { e with key := kv a, val := .bool true }) clock)) := by
        simp [execOp, ho, hum, h2', h3', Instr.mapUpdate, hu, run_getObj_map g1, hK.check, f3, run_setObj_map _ g1, Instr.keyThatStays, e1, e2, hK.bits]
      rw [hrun]
      obtain ⟨hx, hr'⟩ := hr.setObj (es' := smap kc l) (ents' := ents.modify i fun e => { e with key := kv a, val := .bool true }) (clock' := clock) hp hσ (by simp [smap, g2]) (fun j x hj => by
        obtain ⟨y, hy, rfl⟩ : ∃ y, l[j]? = some y ∧ (kc y, CV.val (.bool true)) = x := by unfold smap at hj; rwa [List.getElem?_map, Option.map_eq_some_iff] at hj
        obtain ⟨e', q1, q2, q3, q4⟩ := old j y hy
        by_cases hij : i = j
        · subst hij
          rw [hi] at hy
          injection hy with hy
          subst hy
          exact ⟨{ e with key := kv a, val := .bool true }, by rw [Array.getElem?_modify, if_pos rfl, e1]; rfl, hK.rv' _ _ _, .val _, e4⟩
        · exact ⟨e', by rw [Array.getElem?_modify, if_neg hij]; exact q1, q2, q3, q4⟩)
      exact ⟨.val undef, _, M, hx, hr', .val _, hQ⟩
    · have hsp : sput l a = l ++ [a] := by rw [sput, if_neg ha]
      rw [hsp] at hQ
      have hrun : (execOp ρ o).run C.P w = .ok .skip (World.putObj w p.block (.map (ents.push { key := kv a, val := .bool true, born := clock }) (clock + 1))) := by
        simp [execOp, ho, hum, h2', h3', Instr.mapUpdate, hu, run_getObj_map g1, hK.check, f1 ha, run_setObj_map _ g1]
      rw [hrun]
      obtain ⟨hx, hr'⟩ := hr.setObj (es' := smap kc (l ++ [a])) (ents' := ents.push { key := kv a, val := .bool true, born := clock }) (clock' := clock + 1) hp hσ (by simp [smap, g2]) (fun i x hi => by
        obtain ⟨y, hy, rfl⟩ : ∃ y, (l ++ [a])[i]? = some y ∧ (kc y, CV.val (.bool true)) = x := by unfold smap at hi; rwa [List.getElem?_map, Option.map_eq_some_iff] at hi
        rw [List.getElem?_append] at hy
        split at hy
        · obtain ⟨e, q1, q2, q3, q4⟩ := old i y hy
          have hlt : i < ents.size := (Array.getElem?_eq_some_iff.1 q1).1
          exact ⟨e, by rw [Array.getElem?_push, if_neg (by omega)]; exact q1, q2, q3, by omega⟩
        · rename_i hge
          have hlt := (List.getElem?_eq_some_iff.1 hy).1
          simp at hlt
          have hi0 : i = l.length := by omega
          subst hi0
          simp at hy
          subst hy
          exact ⟨_, by rw [Array.getElem?_push, if_pos (by omega)], hK.rv' _ _ _, .val _, by simp⟩)
      exact ⟨.val undef, _, M, hx, hr', .val _, hQ⟩
theorem y_len_set (hK : KeyOk C.P kt kc kv) {x : Operand} {t ty et : TypeId} {q : Nat} {l : List α} (ho : o.op = .call { callee := .builtin .len, args := #[x], argTypes := #[t] }) (hx : E.valid x) (ex : E.val C x = .map q)
    (hu : ∀ w, (underlying t).run C.P w = .ok (.map kt et) w) (hσ : σ[q]? = some (.map (smap kc l))) (_ : o.type = ty) : Yields C σ E o (.val (.int .i64 l.length)) :=
  yields_same fun M w ρ hr h => by
    have h1 := h x (by simp [ho, Op.operands, Call.operands]) hx
    rw [ex] at h1
    generalize hv : ρ x = v at h1
    cases h1 with
    | map hp =>
      rename_i p
      obtain ⟨ents, clock, g1, g2, _⟩ := smap_obj hK (hr.obj q p _ hp hσ).1
      refine ⟨.int .i64 l.length, ?_, .val _⟩
      simp [execOp, ho, hv, resolve, invoke, builtin, Builtin.len_, hu, run_getObj_map g1, goInt, g2]
end
end Go.Cl
