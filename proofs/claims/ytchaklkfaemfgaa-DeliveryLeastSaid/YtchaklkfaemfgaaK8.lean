import Derived.Test.YtchaklkfaemfgaaK7
namespace Go.Cl

/-! ### Lists that grow by append -/
def kill (σ : List CObj) (tok : Option Nat) : List CObj :=
  match tok with
  | some k => σ.set k .dead
  | none => σ

/-- The list may be appended to: it is nil, or it is the whole of an array that only grows. -/
def CanApp (σ : List CObj) (rows : List (List CV)) (nn : Bool) (tok : Option Nat) : Prop :=
  (rows = [] ∧ nn = false ∧ tok = none) ∨ (rows ≠ [] ∧ ∃ k, tok = some k ∧ σ[k]? = some (.tip rows.length))

def Plan.settleCells (M : Plan) (b n : Nat) : Plan := { M with cell := fun x o => M.cell x o ∨ (x = b ∧ o < n) }

section
variable {C : Ctx} {σ : List CObj} {E : Env} {o : Oper}

theorem Rel.dead {M : Plan} {w : World} (hr : Rel C M σ w) (k : Nat) : Rel C M (σ.set k .dead) w := by
  have hget : ∀ {k' : Nat} {x : CObj}, (σ.set k .dead)[k']? = some x → x = .dead ∨ σ[k']? = some x := by
    intro k' x h
    rw [List.getElem?_set] at h
    split at h
    · split at h
      · injection h with h; exact .inl h.symm
      · cases h
    · exact .inr h
  refine ⟨by simp [hr.len], hr.blk, fun k' p x hp hx => ?_, fun k1 k2 p1 p2 x1 x2 h1 h2 hx1 hx2 hl1 hl2 hb => ?_, hr.glob, hr.kep, fun k' p x hp hx' hlv => ?_⟩
  · rcases hget hx with rfl | h
    · exact ⟨trivial, trivial⟩
    · exact hr.obj k' p x hp h
  · rcases hget hx1 with rfl | h1'
    · cases hl1
    · rcases hget hx2 with rfl | h2'
      · cases hl2
      · exact hr.inj k1 k2 p1 p2 x1 x2 h1 h2 h1' h2' hl1 hl2 hb
  · rcases hget hx' with rfl | h'
    · cases hlv
    · exact hr.nk k' p x hp h' hlv
theorem Rel.kill {M : Plan} {w : World} (hr : Rel C M σ w) (tok : Option Nat) : Rel C M (kill σ tok) w := by
  cases tok with
  | none => exact hr
  | some k => exact hr.dead k
theorem kill_length (σ : List CObj) (tok : Option Nat) : (kill σ tok).length = σ.length := by
  cases tok <;> simp [Go.Cl.kill]

theorem Rel.settleCells {M : Plan} {w : World} (hr : Rel C M σ w) {k n : Nat} {p : Pl} (hp : M.pl[k]? = some p) (hk : σ[k]? = some (.tip n)) : Ext M w (M.settleCells p.block (n * p.size)) w ∧ Rel C (M.settleCells p.block (n * p.size)) σ w := by
  have hx : Ext M w (M.settleCells p.block (n * p.size)) w := ⟨⟨[], by simp [Plan.settleCells]⟩, fun _ h => h, fun _ _ h => .inr (.inl h), fun _ _ => rfl, fun _ _ _ => rfl, Nat.le_refl _, rfl, rfl, rfl, fun b h => ⟨h, rfl, id, fun o f => (by
    rcases f with f | ⟨rfl, _⟩
    · exact f
    · exact absurd h (hr.nk k p _ hp hk rfl))⟩⟩
  have hlt := (hr.obj k p _ hp hk).1.lt rfl
  refine ⟨hx, hr.len, fun b o' ha => ?_, fun k' p' x hp' hx' => ?_, hr.inj, fun g cells hg => (hr.glob g cells hg).mono hx, hr.kep, hr.nk⟩
  · rcases ha with ha | ha | ⟨rfl, _⟩
    · exact hr.blk b o' (.inl ha)
    · exact hr.blk b o' (.inr ha)
    · exact hlt
  · obtain ⟨h1, h2⟩ := hr.obj k' p' x hp' hx'
    by_cases hl : x.live = true
    · by_cases hkk : k' = k
      · subst hkk
        have hp' : M.pl[k']? = some p' := hp'
        rw [hp] at hp'
        injection hp' with hp'
        subst hp'
        rw [hk] at hx'
        injection hx' with hx'
        subst hx'
        obtain ⟨q1, q2, q3, q4⟩ := h1
        refine ⟨⟨q1, q2, fun o ho => ?_, q4⟩, h2⟩
        rcases ho with ho | ⟨_, ho⟩
        · exact q3 o ho
        · exact ho
      · have hne : p'.block ≠ p.block := fun e => hkk (hr.inj k' k p' p x _ hp' hp hx' hk hl rfl e)
        refine ⟨h1.mono hx rfl (fun _ _ o ho => ?_), ?_⟩
        · rcases ho with ho | ⟨ho, _⟩
          · exact ho
          · exact absurd ho hne
        · have hc : (∀ o, ¬ M.cell p'.block o) → ∀ o, ¬ (M.settleCells p.block (n * p.size)).cell p'.block o := fun h o ho => by
            rcases ho with ho | ⟨ho, _⟩
            · exact h o ho
            · exact hne ho
          cases x <;> first | trivial | exact h2 | exact ⟨h2.1, hc h2.2⟩
    · cases x <;> first | exact ⟨trivial, trivial⟩ | simp [CObj.live] at hl

/-- The world behind the draw of a capacity. -/
theorem Rel.drewN {M : Plan} {w : World} (hr : Rel C M σ w) : Rel C M σ w.drew ∧ Ext M w M w.drew := hr.drew

theorem run_append_fits {P : Program} {t e ty : TypeId} {s b off n m c : Nat} {x : Value} {arr : Array Value} {w w' : World} (hu : ∀ w, (underlying t).run P w = .ok (.slice e) w) (hs : ∀ w, (sizeOf e).run P w = .ok s w)
    (hlen : ∀ w, (Builtin.lenOf x).run P w = .ok m w) (hfirst : (Builtin.firstCells s m x).run P w = .ok arr w) (hneed : n + m ≤ c) (hst : (storeCells ⟨b, off + n * s, none⟩ arr.toList).run P w = .ok () w') :
    (Builtin.append_ #[t, t] ty #[.slice (some ⟨b, off, none⟩) n c, x]).run P w = .ok (.slice (some ⟨b, off, none⟩) (n + m) c) w' := by
  simp [Builtin.append_, hu, hs, hlen, hfirst, hneed, add_none, hst]

theorem run_append_grows {P : Program} {t e ty : TypeId} {s n m c : Nat} {a : Option Addr} {x : Value} {old arr : Array Value} {w : World} {ti : TypeInfo} {z : Value} (hu : ∀ w, (underlying t).run P w = .ok (.slice e) w) (hs : ∀ w, (sizeOf e).run P w = .ok s w) (hti : ∀ w, (typeInfo e).run P w = .ok ti w) (hz : ∀ w, (zeroValue e).run P w = .ok z w)
    (hlen : ∀ w, (Builtin.lenOf x).run P w = .ok m w) (hold : (Builtin.firstCells s n (.slice a n c)).run P w.drew = .ok old w.drew) (hfirst : (Builtin.firstCells s m x).run P w.drew = .ok arr w.drew) (hneed : c < n + m) (hmax : n + m ≤ 9223372036854775807) (hb : (n + m) * ti.bytes ≤ 140737488355328) :
    ∃ c', n + m ≤ c' ∧ c' ≤ 9223372036854775807 ∧ (Builtin.append_ #[t, t] ty #[.slice a n c, x]).run P w = .ok (.slice (some ⟨w.heap.size, 0, none⟩) (n + m) c') (w.drew.alloc (.cells (old ++ arr ++ Builtin.zeroCells z.cells (c' - (n + m))) e)) := by
  have hg := growslice_fits hneed hb
  refine ⟨(Question.appendCap (n + m) c e).cut (w.tape w.drawn (.appendCap (n + m) c e)), ?_, ?_, ?_⟩
  · simp [Question.cut]
  · simp only [Question.cut]
    have : w.tape w.drawn (.appendCap (n + m) c e) % (2 ^ 63 - (n + m)) < 2 ^ 63 - (n + m) := Nat.mod_lt _ (by omega)
    omega
  · have h1 : ¬ (n + m ≤ c) := by omega
    have h2 : ¬ IntKind.i64.max < (n : Int) + (m : Int) := by
      have : IntKind.i64.max = 9223372036854775807 := by decide
      omega
    have h3 : ¬ (281474976710656 < Builtin.nextslicecap (n + m) c * ti.bytes) := by omega
    simp [Builtin.append_, hu, hs, hti, hz, hlen, h1, h3, Question.forced, hold, hfirst, newRow]
    intro h
    have : IntKind.i64.max = 9223372036854775807 := by decide
    omega

theorem rv_drew {M : Plan} {w : World} {c : CV} {v : Value} (h : RV M w c v) : RV M w.drew c v := by
  have hx : Ext M w M w.drew := ⟨⟨[], by simp⟩, fun _ h => h, fun _ _ h => .inr h, fun _ _ => rfl, fun _ _ _ => rfl, Nat.le_refl _, rfl, rfl, rfl, fun _ h => ⟨h, rfl, id, fun _ => id⟩⟩
  exact h.mono hx

/-- A store behind the filled part of an array that grows. -/
theorem Rel.tipStore {M : Plan} {w : World} (hr : Rel C M σ w) {k n : Nat} {p : Pl} {cur cur' : Array Value} {ty : TypeId} (hp : M.pl[k]? = some p) (hk : σ[k]? = some (.tip n)) (hc : w.heap[p.block]? = some (.cells cur ty (0, 0))) (hsz : cur'.size = cur.size) (hsame : ∀ o, o < n * p.size → cur'[o]? = cur[o]?) :
    Ext M w M (World.putObj w p.block (.cells cur' ty (0, 0))) ∧ Rel C M σ (World.putObj w p.block (.cells cur' ty (0, 0))) := by
  obtain ⟨⟨q1, q2, q3, cur0, ty0, q4, q5⟩, hfree⟩ := hr.obj k _ _ hp hk
  have hb : p.block < w.heap.size := (Array.getElem?_eq_some_iff.1 hc).1
  have hx : Ext M w M (World.putObj w p.block (.cells cur' ty (0, 0))) := by
    refine ⟨⟨[], by simp⟩, fun _ h => h, fun _ _ h => .inr h, fun b' h => World.putObj_other w _ (fun e => hfree (e ▸ h)), fun b' o' h => ?_, by rw [World.putObj_size]; exact Nat.le_refl _, rfl, rfl, rfl, fun b' h => ⟨h, World.putObj_other w _ (fun e => hr.nk k p _ hp hk rfl (e ▸ h)), id, fun _ => id⟩⟩
    by_cases he : p.block = b'
    · subst he
      have hlt := q3 o' h
      simp only [World.cell?, World.putObj_same w _ hb, hc, Option.isSome_none, Bool.false_eq_true, if_false]
      exact hsame o' hlt
    · exact cell?_of_same (World.putObj_other w _ he)
  refine ⟨hx, hr.len, fun b o' ha => by rw [World.putObj_size]; exact hr.blk b o' ha, fun k' p' x hp' hx' => ?_, hr.inj, fun g cells hg => (hr.glob g cells hg).mono hx, fun b h => (by rw [World.putObj_size]; exact hr.kep b h), hr.nk⟩
  obtain ⟨h1, h2⟩ := hr.obj k' p' x hp' hx'
  refine ⟨?_, h2⟩
  by_cases hl : x.live = true
  · by_cases hkk : k' = k
    · subst hkk
      rw [hp] at hp'
      injection hp' with hp'
      subst hp'
      rw [hk] at hx'
      injection hx' with hx'
      subst hx'
      rw [q4] at hc
      injection hc with hc
      injection hc with hc _ _
      exact ⟨q1, q2, q3, cur', ty, World.putObj_same w _ hb, by rw [hsz, ← hc, q5]⟩
    · have hne : p.block ≠ p'.block := fun e => hkk (hr.inj k' k p' p x _ hp' hp hx' hk hl rfl e.symm)
      exact h1.mono hx (World.putObj_other w _ hne) (fun _ _ _ h => h)
  · cases x <;> first | trivial | simp [CObj.live] at hl

/-- The same array under a new number, with more rows in use. -/
theorem Rel.tipNew {M : Plan} {w : World} (hr : Rel C M σ w) {k n m : Nat} {p : Pl} (hp : M.pl[k]? = some p) (hk : σ[k]? = some (.tip n)) (hn : n ≤ m) (hm : m ≤ p.cap) : Ext M w (M.add p) w ∧ Rel C (M.add p) (σ.set k .dead ++ [.tip m]) w := by
  obtain ⟨⟨q1, q2, q3, cur0, ty0, q4, q5⟩, hfree⟩ := hr.obj k _ _ hp hk
  have hx : Ext M w (M.add p) w := ⟨⟨[p], rfl⟩, fun _ h => h, fun _ _ h => .inr h, fun _ _ => rfl, fun _ _ _ => rfl, Nat.le_refl _, rfl, rfl, rfl, fun _ h => ⟨h, rfl, id, fun _ => id⟩⟩
  have hd := hr.dead k
  have hlen : (σ.set k CObj.dead).length = σ.length := by simp
  have hget : ∀ {j : Nat} {q : Pl}, (M.add p).pl[j]? = some q → (j < σ.length ∧ M.pl[j]? = some q) ∨ (j = σ.length ∧ q = p) := by
    intro j q hj
    simp only [Plan.add, List.getElem?_append, hr.len] at hj
    split at hj
    · exact .inl ⟨‹_›, hj⟩
    · rename_i hlt
      have : j - σ.length = 0 := by
        have := (List.getElem?_eq_some_iff.1 hj).1
        simp at this; omega
      rw [this] at hj
      simp at hj
      exact .inr ⟨by omega, hj.symm⟩
  have hgo : ∀ {j : Nat} {x : CObj}, (σ.set k CObj.dead ++ [CObj.tip m])[j]? = some x → (j < σ.length ∧ (σ.set k CObj.dead)[j]? = some x) ∨ (j = σ.length ∧ x = .tip m) := by
    intro j x hj
    rw [List.getElem?_append] at hj
    split at hj
    · exact .inl ⟨by omega, hj⟩
    · have : j - (σ.set k CObj.dead).length = 0 := by
        have := (List.getElem?_eq_some_iff.1 hj).1
        simp at this ⊢; omega
      rw [this] at hj
      simp at hj
      exact .inr ⟨by omega, hj.symm⟩
  have hks : k < σ.length := (List.getElem?_eq_some_iff.1 hk).1
  have hother : ∀ {j : Nat} {q : Pl} {x : CObj}, M.pl[j]? = some q → (σ.set k CObj.dead)[j]? = some x → x.live = true → q.block ≠ p.block := by
    intro j q x hj hxj hl e
    have hjk : j ≠ k := by
      rintro rfl
      rw [List.getElem?_set_self (by omega)] at hxj
      injection hxj with hxj
      subst hxj
      cases hl
    have hxj' : σ[j]? = some x := by rwa [List.getElem?_set_ne (Ne.symm hjk)] at hxj
    exact hjk (hr.inj j k q p x _ hj hp hxj' hk hl rfl e)
  refine ⟨hx, by simp [Plan.add, hr.len], fun b o' ha => hr.blk b o' ha, fun j q x hj hxj => ?_, fun j j' q q' x x' hj hj' hxj hxj' hl hl' hb => ?_, fun g cells hg => (hr.glob g cells hg).mono hx, hr.kep, fun j q x hj hxj hlv => ?_⟩
  · rcases hgo hxj with ⟨hlt, h⟩ | ⟨rfl, rfl⟩
    · rcases hget hj with ⟨_, hq⟩ | ⟨rfl, _⟩
      · obtain ⟨h1, h2⟩ := hd.obj j q x hq h
        refine ⟨?_, h2⟩
        by_cases hl : x.live = true
        · exact h1.mono hx rfl (fun _ _ _ h => h)
        · cases x <;> first | trivial | simp [CObj.live] at hl
      · omega
    · rcases hget hj with ⟨h, _⟩ | ⟨_, rfl⟩
      · omega
      · refine ⟨⟨hm, q2, fun o ho => Nat.lt_of_lt_of_le (q3 o ho) (Nat.mul_le_mul_right _ hn), cur0, ty0, q4, q5⟩, hfree⟩
  · rcases hgo hxj with ⟨hlt, h⟩ | ⟨rfl, rfl⟩
    · rcases hget hj with ⟨_, hq⟩ | ⟨rfl, _⟩
      · rcases hgo hxj' with ⟨hlt', h'⟩ | ⟨rfl, rfl⟩
        · rcases hget hj' with ⟨_, hq'⟩ | ⟨rfl, _⟩
          · exact hd.inj j j' q q' x x' hq hq' h h' hl hl' hb
          · omega
        · rcases hget hj' with ⟨h0, _⟩ | ⟨_, rfl⟩
          · omega
          · exact absurd hb (hother hq h hl)
      · omega
    · rcases hget hj with ⟨h0, _⟩ | ⟨_, rfl⟩
      · omega
      · rcases hgo hxj' with ⟨hlt', h'⟩ | ⟨rfl, rfl⟩
        · rcases hget hj' with ⟨_, hq'⟩ | ⟨rfl, _⟩
          · exact absurd hb.symm (hother hq' h' hl')
          · omega
        · rfl
  · rcases hgo hxj with ⟨hlt, h⟩ | ⟨rfl, rfl⟩
    · rcases hget hj with ⟨_, hq⟩ | ⟨rfl, _⟩
      · exact hd.nk j q x hq h hlv
      · omega
    · rcases hget hj with ⟨h0, _⟩ | ⟨_, rfl⟩
      · omega
      · exact hr.nk k q _ hp hk rfl

theorem Src.lenOf {M : Plan} {w : World} {rows : List (List CV)} {s : Nat} {v : Value} (h : Src C M w rows s v) (w' : World) : (Builtin.lenOf v).run C.P w' = .ok rows.length w' := by
  obtain ⟨a, c, rfl, _⟩ := h
  simp [Builtin.lenOf]

/-- Old rows and new ones, one behind the other. -/
theorem append_rows {M : Plan} {w : World} {rows new : List (List CV)} {s : Nat} {old arr rest : Array Value} (h1 : old.size = rows.length * s) (h2 : arr.size = new.length * s) (hrs : ∀ r ∈ rows, r.length = s) (hns : ∀ r ∈ new, r.length = s)
    (ho : ∀ (i j : Nat) (r : List CV) (c : CV), rows[i]? = some r → r[j]? = some c → RV M w c (old.getD (i * s + j) undef))
    (ha : ∀ (i j : Nat) (r : List CV) (c : CV), new[i]? = some r → r[j]? = some c → RV M w c (arr.getD (i * s + j) undef)) (i j : Nat) (r : List CV) (c : CV) (hi : (rows ++ new)[i]? = some r) (hj : r[j]? = some c) :
    i * s + j < (old ++ arr ++ rest).size ∧ RV M w c ((old ++ arr ++ rest).getD (i * s + j) undef) := by
  rw [List.getElem?_append] at hi
  split at hi
  · rename_i hlt
    have hjl : j < s := by have := (List.getElem?_eq_some_iff.1 hj).1; rwa [hrs r (List.mem_of_getElem? hi)] at this
    have hq : i * s + j < old.size := by
      rw [h1]
      have : (i + 1) * s ≤ rows.length * s := Nat.mul_le_mul_right _ hlt
      rw [Nat.add_mul] at this; omega
    refine ⟨by simp; omega, ?_⟩
    have hq2 : i * s + j < (old ++ arr).size := by simp; omega
    have e : (old ++ arr ++ rest).getD (i * s + j) undef = old.getD (i * s + j) undef := by
      simp only [Array.getD_eq_getD_getElem?]
      rw [Array.getElem?_append_left hq2, Array.getElem?_append_left hq]
    rw [e]
    exact ho i j r c hi hj
  · rename_i hge
    have hil := (List.getElem?_eq_some_iff.1 hi).1
    have hjl : j < s := by have := (List.getElem?_eq_some_iff.1 hj).1; rwa [hns r (List.mem_of_getElem? hi)] at this
    have e1 : (i - rows.length) * s = i * s - rows.length * s := Nat.sub_mul _ _ _
    have e2 : rows.length * s ≤ i * s := Nat.mul_le_mul_right _ (by omega)
    have e3 : (i - rows.length + 1) * s ≤ new.length * s := Nat.mul_le_mul_right _ hil
    rw [Nat.add_mul] at e3
    refine ⟨by simp; omega, ?_⟩
    have hq2 : i * s + j < (old ++ arr).size := by simp; omega
    have e : (old ++ arr ++ rest).getD (i * s + j) undef = arr.getD ((i - rows.length) * s + j) undef := by
      simp only [Array.getD_eq_getD_getElem?]
      rw [Array.getElem?_append_left hq2, Array.getElem?_append_right (by omega)]
      congr 2; omega
    rw [e]
    exact ha _ j r c hi hj

theorem zeroCells_size (z : Array Value) (n : Nat) : (Builtin.zeroCells z n).size = n * z.size := by simp [Builtin.zeroCells]

theorem RV.list' {M : Plan} {w : World} {rows : List (List CV)} {nn : Bool} {tok : Option Nat} {a : Option Addr} {cap b off s L : Nat} (hL : L = rows.length) (vals : Nat → Nat → Value) :
      rows.length ≤ cap → cap ≤ maxLen → a.isSome = nn → (nn = false → cap = 0) → (rows ≠ [] → a = some ⟨b, off, none⟩) →
      (∀ r ∈ rows, r.length = s) → (∀ r ∈ rows, ∀ c ∈ r, c.one = true) →
      (∀ (i j : Nat) (r : List CV) (c : CV), rows[i]? = some r → r[j]? = some c → M.at b (off + i * s + j) ∧ w.cell? ⟨b, off + i * s + j, none⟩ = some (vals i j)) →
      (∀ (i j : Nat) (r : List CV) (c : CV), rows[i]? = some r → r[j]? = some c → RV M w c (vals i j)) →
      (∀ k, tok = some k → ∃ s', M.pl[k]? = some ⟨b, cap, s'⟩ ∧ a = some ⟨b, 0, none⟩ ∧ off = 0 ∧ (rows ≠ [] → s' = s)) →
      RV M w (.list rows nn tok) (.slice a L cap) := by
  subst hL
  exact RV.list vals

/-- append to a list: the elements come from any source. -/
theorem d_append {t e : TypeId} {x y : Operand} {rows new : List (List CV)} {nn : Bool} {tok : Option Nat} {s : Nat} {ti : TypeInfo} {z : Value} {K : CRes → List CObj → Prop} (ho : o.op = .call { callee := .builtin .append, args := #[x, y], argTypes := #[t, t] }) (hx : E.valid x) (hy : E.valid y) (ex : E.val C x = .list rows nn tok)
    (hsrc : ∀ M w v, Rel C M σ w → RV M w (E.val C y) v → Src C M w new s v) (hu : ∀ w, (underlying t).run C.P w = .ok (.slice e) w) (hs : ∀ w, (sizeOf e).run C.P w = .ok s w) (hti : ∀ w, (typeInfo e).run C.P w = .ok ti w) (hz : ∀ w, (zeroValue e).run C.P w = .ok z w) (hzs : z.cells.size = s)
    (happ : CanApp σ rows nn tok) (hrs : ∀ r ∈ rows, r.length = s) (hnew : new ≠ []) (hb : (rows.length + new.length) * ti.bytes ≤ 140737488355328) (hmax : rows.length + new.length ≤ 9223372036854775807)
    (hk : K (.ret (.list (rows ++ new) true (some σ.length))) (kill σ tok ++ [.tip (rows.length + new.length)])) : Does C σ E o K := fun M w ρ hr hh => by
  have h1 := hh x (by simp [ho, Op.operands, Call.operands]) hx
  have h2 := hh y (by simp [ho, Op.operands, Call.operands]) hy
  rw [ex] at h1
  have hso := src_of_list (C := C) h1 hrs
  have hsn := hsrc M w _ hr h2
  have hlen := hsn.lenOf
  obtain ⟨a, cap, b, off, s', vals, hv, hcap, hcmax, hnn, hn0, ha, hrl, hone, hc, hrv, htok⟩ := h1.list_inv
  have hnl : 0 < new.length := List.length_pos_iff.2 hnew
  have hexec : (execOp ρ o).run C.P w = ((Builtin.append_ #[t, t] o.type #[ρ x, ρ y]).run C.P w).andThen fun v w => .ok (.value v) w := by
    simp [execOp, ho, resolve, invoke, builtin]
  have hrow : ∀ r ∈ rows ++ new, r.length = s := fun r hr => by
    rcases List.mem_append.1 hr with h | h
    · exact hrs r h
    · obtain ⟨_, _, _, _, hns, _⟩ := hsn; exact hns r h
  have hlenapp : (rows ++ new).length = rows.length + new.length := List.length_append
  by_cases hfit : rows.length + new.length ≤ cap
  · -- in place
    rcases happ with ⟨rfl, rfl, rfl⟩ | ⟨hrne, k, rfl, hkt⟩
    · have := hn0 rfl
      simp at hfit; omega
    · obtain ⟨sz, hp, ha0, rfl, hsz⟩ := htok k rfl
      obtain ⟨⟨q1, q2, q3, cur, ty, q4, q5⟩, hfree⟩ := hr.obj k _ _ hp hkt
      simp only at q1 q2 q3 q4 q5
      obtain ⟨an, cn, hvn, _, hns, arr, hfn, hszn, hrvn⟩ := hsn
      -- the size of a row
      obtain ⟨r0, rs, hrr⟩ : ∃ r0 rs, rows = r0 :: rs := by
        cases rows with
        | nil => exact absurd rfl hrne
        | cons r0 rs => exact ⟨r0, rs, rfl⟩
      have hs1 : s' = s := by rw [← hrl r0 (by simp [hrr]), hrs r0 (by simp [hrr])]
      have hss : sz = s := (hsz hrne).trans hs1
      subst hss
      subst hs1
      have harr : arr.toList.length = arr.size := Array.length_toList
      have hend : rows.length * s' + arr.toList.length ≤ cur.size := by
        rw [harr, hszn, q5, ← Nat.add_mul]
        exact Nat.mul_le_mul_right _ hfit
      have hst := run_storeCells' (P := C.P) (b := b) (off := rows.length * s') (t := ty) arr.toList 0 cur w q4 (by omega) (Src.one hns hszn hrvn)
      rw [Nat.add_zero] at hst
      have hrun : (execOp ρ o).run C.P w = .ok (.value (.slice (some ⟨b, 0, none⟩) (rows.length + new.length) cap)) (World.putObj w b (.cells (spliceA cur (rows.length * s') arr.toList) ty (0, 0))) := by
        rw [hexec, hv, ha0, run_append_fits hu hs hlen hfn hfit (by rw [Nat.zero_add]; exact hst)]
        rfl
      rw [hrun]
      obtain ⟨hx1, hr1⟩ := hr.tipStore (cur' := spliceA cur (rows.length * s') arr.toList) hp hkt q4 (spliceA_size _ _ _) (fun o' ho' => by
        have h0 : o' < cur.size := by
          rw [q5]
          exact Nat.lt_of_lt_of_le ho' (Nat.mul_le_mul_right _ q1)
        have h1 : o' < (spliceA cur (rows.length * s') arr.toList).size := by rw [spliceA_size]; exact h0
        have := spliceA_getD arr.toList cur (rows.length * s') o' hend
        rw [if_neg (by simp only at ho'; omega)] at this
        simp only [Array.getD_eq_getD_getElem?, Array.getElem?_eq_getElem h0, Array.getElem?_eq_getElem h1, Option.getD_some] at this
        rw [Array.getElem?_eq_getElem h0, Array.getElem?_eq_getElem h1, this])
      obtain ⟨hx2, hr2⟩ := hr1.tipNew (m := rows.length + new.length) hp hkt (by omega) hfit
      have hp2 : (M.add ⟨b, cap, s'⟩).pl[σ.length]? = some ⟨b, cap, s'⟩ := by simp [Plan.add, ← hr.len]
      have hk2 : (σ.set k CObj.dead ++ [CObj.tip (rows.length + new.length)])[σ.length]? = some (.tip (rows.length + new.length)) := by simp
      obtain ⟨hx3, hr3⟩ := hr2.settleCells hp2 hk2
      have hx := (hx1.trans hx2).trans hx3
      refine ⟨_, _, _, hx, hr3, ?_, hk⟩
      have hbs : b < w.heap.size := (Array.getElem?_eq_some_iff.1 q4).1
      have hcell : ∀ q, q < cur.size → (World.putObj w b (.cells (spliceA cur (rows.length * s') arr.toList) ty (0, 0))).cell? ⟨b, q, none⟩ = some ((spliceA cur (rows.length * s') arr.toList).getD q undef) := fun q hq => by
        have : q < (spliceA cur (rows.length * s') arr.toList).size := by rw [spliceA_size]; exact hq
        simp [World.cell?, World.putObj_same w _ hbs, this]
      have hq : ∀ i j r c, (rows ++ new)[i]? = some r → r[j]? = some c → i * s' + j < (rows.length + new.length) * s' := fun i j r c hi hj => by
        have hil := (List.getElem?_eq_some_iff.1 hi).1
        rw [hlenapp] at hil
        have hjl : j < s' := by have := (List.getElem?_eq_some_iff.1 hj).1; rwa [hrow r (List.mem_of_getElem? hi)] at this
        have : (i + 1) * s' ≤ (rows.length + new.length) * s' := Nat.mul_le_mul_right _ hil
        rw [Nat.add_mul] at this; omega
      have hqc : (rows.length + new.length) * s' ≤ cur.size := by rw [q5]; exact Nat.mul_le_mul_right _ hfit
      refine RV.list' (b := b) (off := 0) (s := s') hlenapp.symm (fun i j => (spliceA cur (rows.length * s') arr.toList).getD (i * s' + j) undef) (by rw [hlenapp]; exact hfit) q2 rfl (fun h => by cases h) (fun _ => rfl) hrow (fun r hr c hc => ?_) (fun i j r c hi hj => ⟨.inr (.inr ⟨rfl, by rw [Nat.zero_add]; exact hq i j r c hi hj⟩), by rw [Nat.zero_add]; exact hcell _ (Nat.lt_of_lt_of_le (hq i j r c hi hj) hqc)⟩) (fun i j r c hi hj => ?_) (fun k' hk' => ⟨s', ?_, rfl, rfl, fun _ => rfl⟩)
      · rcases List.mem_append.1 hr with h | h
        · exact hone r h c hc
        · obtain ⟨i, hi⟩ := List.mem_iff_getElem?.1 h
          obtain ⟨j, hj⟩ := List.mem_iff_getElem?.1 hc
          exact (hrvn i j r c hi hj).2
      · rw [spliceA_getD _ _ _ _ hend]
        rw [List.getElem?_append] at hi
        split at hi
        · rename_i hlt
          have hjl : j < s' := by have := (List.getElem?_eq_some_iff.1 hj).1; rwa [hrs r (List.mem_of_getElem? hi)] at this
          have hql : i * s' + j < rows.length * s' := by
            have : (i + 1) * s' ≤ rows.length * s' := Nat.mul_le_mul_right _ hlt
            rw [Nat.add_mul] at this; omega
          rw [if_neg (by omega)]
          have h3 := (hc i j r c hi hj).2
          rw [Nat.zero_add] at h3
          have h4 : w.cell? ⟨b, i * s' + j, none⟩ = some (cur.getD (i * s' + j) undef) := by
            have : i * s' + j < cur.size := by omega
            simp [World.cell?, q4, this]
          rw [h4] at h3
          injection h3 with h3
          rw [h3]
          exact (hrv i j r c hi hj).mono hx
        · rename_i hge
          have hil := (List.getElem?_eq_some_iff.1 hi).1
          have hjl : j < s' := by have := (List.getElem?_eq_some_iff.1 hj).1; rwa [hns r (List.mem_of_getElem? hi)] at this
          have e1 : (i - rows.length) * s' = i * s' - rows.length * s' := Nat.sub_mul _ _ _
          have e2 : rows.length * s' ≤ i * s' := Nat.mul_le_mul_right _ (by omega)
          have e3 : (i - rows.length + 1) * s' ≤ new.length * s' := Nat.mul_le_mul_right _ hil
          rw [Nat.add_mul] at e3
          rw [if_pos (by rw [harr, hszn]; omega)]
          have := (hrvn _ j r c hi hj).1.mono hx
          rw [show i * s' + j - rows.length * s' = (i - rows.length) * s' + j from by omega]
          simpa using this
      · injection hk' with hk'
        subst hk'
        exact hp2
  · -- a new array
    obtain ⟨hrd, hxd⟩ := hr.drewN
    have hso' := src_of_list (C := C) (rv_drew h1) hrs
    have hsn' := hsrc M w.drew _ hrd (rv_drew h2)
    rw [hv] at hso'
    obtain ⟨a1, c1, hv1, _, _, old, hfo, hszo, hrvo⟩ := hso'
    obtain ⟨an, cn, hvn, _, hns, arr, hfn, hszn, hrvn⟩ := hsn'
    obtain ⟨c', hc1, hc2, hrun⟩ := run_append_grows (P := C.P) (ty := o.type) (a := a) (c := cap) (w := w) hu hs hti hz hlen hfo hfn (by omega) hmax hb
    rw [hexec, hv, hrun]
    simp only [Result.andThen_ok]
    have hwsz : w.drew.heap.size = w.heap.size := rfl
    rw [← hwsz]
    have hrk := hrd.kill tok
    have hkl := kill_length σ tok
    have hasz : (old ++ arr ++ Builtin.zeroCells z.cells (c' - (rows.length + new.length))).size = c' * s := by
      simp only [Array.size_append, zeroCells_size, hszo, hszn, hzs]
      rw [← Nat.add_mul, ← Nat.add_mul]
      congr 1; omega
    have hr2 := hrk.alloc ⟨w.drew.heap.size, c', s⟩ (.cells (old ++ arr ++ Builtin.zeroCells z.cells (c' - (rows.length + new.length))) e) (.tip (rows.length + new.length)) rfl
      ⟨hc1, by unfold maxLen; simp only; omega, fun o' ho' => by have := hrd.blk _ _ (.inr ho'); simp only at this; omega, _, e, heap_alloc_new _ _, hasz⟩
    have hx2 := Ext.alloc hrk ⟨w.drew.heap.size, c', s⟩ (.cells (old ++ arr ++ Builtin.zeroCells z.cells (c' - (rows.length + new.length))) e)
    have hp2 : (M.add ⟨w.drew.heap.size, c', s⟩).pl[σ.length]? = some ⟨w.drew.heap.size, c', s⟩ := by simp [Plan.add, ← hr.len]
    have hk2 : (kill σ tok ++ [CObj.tip (rows.length + new.length)])[σ.length]? = some (.tip (rows.length + new.length)) := by rw [← hkl]; simp
    obtain ⟨hx3, hr3⟩ := hr2.settleCells hp2 hk2
    have hx := (hxd.trans hx2).trans hx3
    refine ⟨_, _, _, hx, hr3, ?_, hk⟩
    have hget := append_rows (rest := Builtin.zeroCells z.cells (c' - (rows.length + new.length))) hszo hszn hrs hns (fun i j r c hi hj => (hrvo i j r c hi hj).1) (fun i j r c hi hj => (hrvn i j r c hi hj).1)
    have hq : ∀ i j r c, (rows ++ new)[i]? = some r → r[j]? = some c → i * s + j < (rows.length + new.length) * s := fun i j r c hi hj => by
      have hil := (List.getElem?_eq_some_iff.1 hi).1
      rw [hlenapp] at hil
      have hjl : j < s := by have := (List.getElem?_eq_some_iff.1 hj).1; rwa [hrow r (List.mem_of_getElem? hi)] at this
      have : (i + 1) * s ≤ (rows.length + new.length) * s := Nat.mul_le_mul_right _ hil
      rw [Nat.add_mul] at this; omega
    refine RV.list' (b := w.drew.heap.size) (off := 0) (s := s) hlenapp.symm (fun i j => (old ++ arr ++ Builtin.zeroCells z.cells (c' - (rows.length + new.length))).getD (i * s + j) undef) (by rw [hlenapp]; exact hc1) (by unfold maxLen; omega) rfl (fun h => by cases h) (fun _ => rfl) hrow (fun r hr c hc => ?_) (fun i j r c hi hj => ⟨.inr (.inr ⟨rfl, by rw [Nat.zero_add]; exact hq i j r c hi hj⟩), ?_⟩) (fun i j r c hi hj => ?_) (fun k' hk' => ⟨s, ?_, rfl, rfl, fun _ => rfl⟩)
    · rcases List.mem_append.1 hr with h | h
      · obtain ⟨i, hi⟩ := List.mem_iff_getElem?.1 h
        obtain ⟨j, hj⟩ := List.mem_iff_getElem?.1 hc
        exact (hrvo i j r c hi hj).2
      · obtain ⟨i, hi⟩ := List.mem_iff_getElem?.1 h
        obtain ⟨j, hj⟩ := List.mem_iff_getElem?.1 hc
        exact (hrvn i j r c hi hj).2
    · rw [Nat.zero_add, World.cell?_alloc_new]
      have := (hget i j r c hi hj).1
      rw [Array.getElem?_eq_getElem this, Array.getD_eq_getD_getElem?, Array.getElem?_eq_getElem this]
      rfl
    · exact (hget i j r c hi hj).2.mono (hx2.trans hx3)
    · injection hk' with hk'
      subst hk'
      exact hp2
end
end Go.Cl
