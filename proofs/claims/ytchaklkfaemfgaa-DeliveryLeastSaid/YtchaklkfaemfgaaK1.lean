import Derived.WalkKit
namespace Go.Cl
/-! Clean values, placements, readings. -/

/-- Clean values: trees. -/
inductive CV where
  | val (v : Value)
  | agg (cs : List CV)
  | tup (cs : List CV)
  | list (rows : List (List CV)) (nn : Bool) (tok : Option Nat)
  | ptr (k off : Nat)
  | cptr (cells : List CV)
  | eptr (k i off : Nat)
  | vec (k off len : Nat)
  | map (k : Nat)

instance : Inhabited CV := ⟨.val undef⟩

/-- Where an object lies: its block; for rows: the capacity in rows, the cells of one row. -/
structure Pl where
  block : Nat
  cap : Nat
  size : Nat

/-- A placement: where the objects lie, which blocks and which cells never change any more. -/
structure Plan where
  pl : List Pl
  full : Nat → Prop
  cell : Nat → Nat → Prop
  keep : Nat → Prop

def Plan.at (M : Plan) (b o : Nat) : Prop := M.full b ∨ M.cell b o

def CV.one : CV → Bool
  | .val v => v.oneCell'
  | .agg _ | .tup _ => false
  | _ => true

/-- The real value reads as the clean one. -/
inductive RV (M : Plan) (w : World) : CV → Value → Prop where
  | val (v : Value) : RV M w (.val v) v
  | agg {cs : List CV} {vs : Array Value} : vs.size = cs.length → (∀ c ∈ cs, c.one = true) → (∀ (i : Nat) (c : CV), cs[i]? = some c → RV M w c (vs.getD i undef)) → RV M w (.agg cs) (.agg vs)
  | tup {cs : List CV} {vs : Array Value} : vs.size = cs.length → (∀ (i : Nat) (c : CV), cs[i]? = some c → RV M w c (vs.getD i undef)) → RV M w (.tup cs) (.tuple vs)
  | list {rows : List (List CV)} {nn : Bool} {tok : Option Nat} {a : Option Addr} {cap b off s : Nat} (vals : Nat → Nat → Value) :
      rows.length ≤ cap → cap ≤ maxLen → a.isSome = nn → (nn = false → cap = 0) → (rows ≠ [] → a = some ⟨b, off, none⟩) →
      (∀ r ∈ rows, r.length = s) → (∀ r ∈ rows, ∀ c ∈ r, c.one = true) →
      (∀ (i j : Nat) (r : List CV) (c : CV), rows[i]? = some r → r[j]? = some c → M.at b (off + i * s + j) ∧ w.cell? ⟨b, off + i * s + j, none⟩ = some (vals i j)) →
      (∀ (i j : Nat) (r : List CV) (c : CV), rows[i]? = some r → r[j]? = some c → RV M w c (vals i j)) →
      (∀ k, tok = some k → ∃ s', M.pl[k]? = some ⟨b, cap, s'⟩ ∧ a = some ⟨b, 0, none⟩ ∧ off = 0 ∧ (rows ≠ [] → s' = s)) →
      RV M w (.list rows nn tok) (.slice a rows.length cap)
  | ptr {k off : Nat} {p : Pl} : M.pl[k]? = some p → RV M w (.ptr k off) (.pointer (some ⟨p.block, off, none⟩))
  | cptr {cells : List CV} {b off : Nat} (vals : Nat → Value) : (∀ c ∈ cells, c.one = true) →
      (∀ (j : Nat) (c : CV), cells[j]? = some c → M.at b (off + j) ∧ w.cell? ⟨b, off + j, none⟩ = some (vals j)) →
      (∀ (j : Nat) (c : CV), cells[j]? = some c → RV M w c (vals j)) →
      RV M w (.cptr cells) (.pointer (some ⟨b, off, none⟩))
  | eptr {k i off : Nat} {p : Pl} : M.pl[k]? = some p → RV M w (.eptr k i off) (.pointer (some ⟨p.block, i * p.size + off, none⟩))
  | vec {k off len : Nat} {p : Pl} {a : Addr} : M.pl[k]? = some p → off + len ≤ p.cap → p.cap ≤ maxLen → (off < p.cap → a = ⟨p.block, off * p.size, none⟩) → RV M w (.vec k off len) (.slice (some a) len (p.cap - off))
  | map {k : Nat} {p : Pl} : M.pl[k]? = some p → RV M w (.map k) (.map (some p.block))

/-- One world after another: what is settled stays. -/
structure Ext (M : Plan) (w : World) (M' : Plan) (w' : World) : Prop where
  pl : ∃ l, M'.pl = M.pl ++ l
  full : ∀ b, M.full b → M'.full b
  cell : ∀ b o, M.cell b o → M'.at b o
  same : ∀ b, M.full b → w'.heap[b]? = w.heap[b]?
  sameC : ∀ b o, M.cell b o → w'.cell? ⟨b, o, none⟩ = w.cell? ⟨b, o, none⟩
  size : w.heap.size ≤ w'.heap.size
  os : w'.os = w.os
  tape : w'.tape = w.tape
  output : w'.output = w.output
  kept : ∀ b, M.keep b → M'.keep b ∧ w'.heap[b]? = w.heap[b]? ∧ (M'.full b → M.full b) ∧ ∀ o, M'.cell b o → M.cell b o

theorem Ext.refl (M : Plan) (w : World) : Ext M w M w :=
  ⟨⟨[], by simp⟩, fun _ h => h, fun _ _ h => .inr h, fun _ _ => rfl, fun _ _ _ => rfl, Nat.le_refl _, rfl, rfl, rfl, fun _ h => ⟨h, rfl, id, fun _ => id⟩⟩

theorem cell?_of_same {w w' : World} {b o : Nat} (h : w'.heap[b]? = w.heap[b]?) : w'.cell? ⟨b, o, none⟩ = w.cell? ⟨b, o, none⟩ := by
  simp [World.cell?, h]

theorem Ext.at {M M' : Plan} {w w' : World} (h : Ext M w M' w') {b o : Nat} (ha : M.at b o) : M'.at b o ∧ w'.cell? ⟨b, o, none⟩ = w.cell? ⟨b, o, none⟩ := by
  rcases ha with ha | ha
  · exact ⟨.inl (h.full _ ha), cell?_of_same (h.same _ ha)⟩
  · exact ⟨h.cell _ _ ha, h.sameC _ _ ha⟩

theorem Ext.get {M M' : Plan} {w w' : World} (h : Ext M w M' w') {k : Nat} {p : Pl} (hk : M.pl[k]? = some p) : M'.pl[k]? = some p := by
  obtain ⟨l, hl⟩ := h.pl
  rw [hl, List.getElem?_append_left (List.getElem?_eq_some_iff.1 hk).1]
  exact hk

theorem Ext.trans {M M' M'' : Plan} {w w' w'' : World} (h : Ext M w M' w') (k : Ext M' w' M'' w'') : Ext M w M'' w'' := by
  obtain ⟨l, hl⟩ := h.pl
  obtain ⟨l', hl'⟩ := k.pl
  refine ⟨⟨l ++ l', by rw [hl', hl, List.append_assoc]⟩, fun b hb => k.full _ (h.full _ hb), fun b o hb => (k.at (h.cell _ _ hb)).1, fun b hb => (k.same _ (h.full _ hb)).trans (h.same _ hb), fun b o hb => ?_, Nat.le_trans h.size k.size, k.os.trans h.os, k.tape.trans h.tape, k.output.trans h.output, fun b hb => ?_⟩
  · exact (k.at (h.cell _ _ hb)).2.trans (h.sameC _ _ hb)
  · obtain ⟨h1, h2, h3, h4⟩ := h.kept b hb
    obtain ⟨k1, k2, k3, k4⟩ := k.kept b h1
    exact ⟨k1, k2.trans h2, fun f => h3 (k3 f), fun o f => h4 o (k4 o f)⟩

theorem RV.mono {M M' : Plan} {w w' : World} (h : Ext M w M' w') {c : CV} {v : Value} (hr : RV M w c v) : RV M' w' c v := by
  induction hr with
  | val v => exact .val v
  | agg h1 h2 _ ih => exact .agg h1 h2 ih
  | tup h1 _ ih => exact .tup h1 ih
  | list vals h1 h2 h3 h4 h5 h6 h7 h8 _ h10 ih =>
    refine .list vals h1 h2 h3 h4 h5 h6 h7 (fun i j r c hi hj => ?_) ih (fun k hk => ?_)
    · obtain ⟨ha, hc⟩ := h8 i j r c hi hj
      exact ⟨(h.at ha).1, (h.at ha).2.trans hc⟩
    · obtain ⟨s', hp, hrest⟩ := h10 k hk
      exact ⟨s', h.get hp, hrest⟩
  | ptr hk => exact .ptr (h.get hk)
  | cptr vals h1 h2 _ ih =>
    refine .cptr vals h1 (fun j c hj => ?_) ih
    obtain ⟨ha, hc⟩ := h2 j c hj
    exact ⟨(h.at ha).1, (h.at ha).2.trans hc⟩
  | eptr hk => exact .eptr (h.get hk)
  | vec hk h1 h2 h3 => exact .vec (h.get hk) h1 h2 h3
  | map hk => exact .map (h.get hk)

theorem RV.one {M : Plan} {w : World} {c : CV} {v : Value} (hr : RV M w c v) (hc : c.one = true) : v.oneCell' = true := by
  cases hr <;> first | rfl | exact hc | (simp [CV.one] at hc)

/-! ### Objects -/
inductive CObj where
  | dead
  | box (cells : List CV)
  | tip (n : Nat)
  | vec (s : Nat) (rows : List (List CV))
  | map (es : List (CV × CV))

def CObj.live : CObj → Bool
  | .dead => false
  | _ => true

/-- A key of a map: a value of one cell that is compared by itself. -/
def ObjRel (M : Plan) (w : World) (p : Pl) : CObj → Prop
  | .dead => True
  | .box cells => ∃ arr ty, w.heap[p.block]? = some (.cells arr ty (0, 0)) ∧ arr.size = cells.length ∧ (∀ c ∈ cells, c.one = true) ∧ ∀ (i : Nat) (c : CV), cells[i]? = some c → RV M w c (arr.getD i undef)
  | .tip n => n ≤ p.cap ∧ p.cap ≤ maxLen ∧ (∀ o, M.cell p.block o → o < n * p.size) ∧ ∃ arr ty, w.heap[p.block]? = some (.cells arr ty (0, 0)) ∧ arr.size = p.cap * p.size
  | .vec s rows => p.size = s ∧ rows.length ≤ p.cap ∧ p.cap ≤ maxLen ∧ (∀ r ∈ rows, r.length = p.size) ∧ (∀ r ∈ rows, ∀ c ∈ r, c.one = true) ∧ ∃ arr ty, w.heap[p.block]? = some (.cells arr ty (0, 0)) ∧ arr.size = p.cap * p.size ∧
      ∀ (i j : Nat) (r : List CV) (c : CV), rows[i]? = some r → r[j]? = some c → RV M w c (arr.getD (i * p.size + j) undef)
  | .map es => ∃ (ents : Array MapEntry) (clock : Nat), w.heap[p.block]? = some (.map ents clock) ∧ ents.size = es.length ∧ (∀ (i : Nat) (x : CV × CV), es[i]? = some x → ∃ e, ents[i]? = some e ∧ RV M w x.1 e.key ∧ RV M w x.2 e.val ∧ e.born < clock)

/-- An object's block is not settled; but the filled part of an array that only grows is. -/
def ObjFree (M : Plan) (p : Pl) : CObj → Prop
  | .dead => True
  | .tip _ => ¬ M.full p.block
  | _ => ¬ M.full p.block ∧ ∀ o, ¬ M.cell p.block o

/-- What is constant: the program, and what its listed package-level variables read as. -/
structure Ctx where
  P : Program
  glob : Nat → Option (List CV)

structure Rel (C : Ctx) (M : Plan) (σ : List CObj) (w : World) : Prop where
  len : M.pl.length = σ.length
  blk : ∀ b o, M.at b o → b < w.heap.size
  obj : ∀ (k : Nat) (p : Pl) (ob : CObj), M.pl[k]? = some p → σ[k]? = some ob → ObjRel M w p ob ∧ ObjFree M p ob
  inj : ∀ (k k' : Nat) (p p' : Pl) (ob ob' : CObj), M.pl[k]? = some p → M.pl[k']? = some p' → σ[k]? = some ob → σ[k']? = some ob' → ob.live = true → ob'.live = true → p.block = p'.block → k = k'
  glob : ∀ g cells, C.glob g = some cells → RV M w (.cptr cells) (.pointer (some ⟨g, 0, none⟩))
  kep : ∀ b, M.keep b → b < w.heap.size
  nk : ∀ (k : Nat) (p : Pl) (ob : CObj), M.pl[k]? = some p → σ[k]? = some ob → ob.live = true → ¬ M.keep p.block

/-! ### Frames -/
structure Env where
  f : Nat → CV
  ok : Nat → Prop
  un : Nat → Prop

def Env.put (E : Env) (d : Option Nat) (c : CV) (g : Prop) : Env :=
  match d with
  | none => E
  | some d => { f := fun t => match Nat.beq t d with | true => c | false => E.f t, ok := fun t => match Nat.beq t d with | true => g | false => E.ok t, un := fun t => match Nat.beq t d with | true => ¬ g | false => E.un t }
/-- A slot of which nothing is said. -/
def Env.hide (E : Env) (d : Option Nat) : Env :=
  match d with
  | none => E
  | some d => { f := E.f, ok := fun t => match Nat.beq t d with | true => False | false => E.ok t, un := fun t => match Nat.beq t d with | true => False | false => E.un t }

theorem Env.put_f (E : Env) (d : Nat) (c : CV) (g : Prop) (t : Nat) : (E.put (some d) c g).f t = if t = d then c else E.f t := by
  show (match Nat.beq t d with | true => c | false => E.f t) = _
  by_cases h : t = d
  · subst h; simp
  · have : Nat.beq t d = false := Bool.eq_false_iff.2 fun hb => h (Nat.eq_of_beq_eq_true hb)
    rw [this, if_neg h]
theorem Env.put_ok (E : Env) (d : Nat) (c : CV) (g : Prop) (t : Nat) : (E.put (some d) c g).ok t = if t = d then g else E.ok t := by
  show (match Nat.beq t d with | true => g | false => E.ok t) = _
  by_cases h : t = d
  · subst h; simp
  · have : Nat.beq t d = false := Bool.eq_false_iff.2 fun hb => h (Nat.eq_of_beq_eq_true hb)
    rw [this, if_neg h]
theorem Env.put_un (E : Env) (d : Nat) (c : CV) (g : Prop) (t : Nat) : (E.put (some d) c g).un t = if t = d then ¬ g else E.un t := by
  show (match Nat.beq t d with | true => ¬ g | false => E.un t) = _
  by_cases h : t = d
  · subst h; simp
  · have : Nat.beq t d = false := Bool.eq_false_iff.2 fun hb => h (Nat.eq_of_beq_eq_true hb)
    rw [this, if_neg h]
theorem Env.hide_at (E : Env) (d t : Nat) : (E.hide (some d)).f t = E.f t ∧ (E.hide (some d)).ok t = (if t = d then False else E.ok t) ∧ (E.hide (some d)).un t = (if t = d then False else E.un t) := by
  refine ⟨rfl, ?_, ?_⟩
  · show (match Nat.beq t d with | true => False | false => E.ok t) = _
    by_cases h : t = d
    · subst h; simp
    · have : Nat.beq t d = false := Bool.eq_false_iff.2 fun hb => h (Nat.eq_of_beq_eq_true hb)
      rw [this, if_neg h]
  · show (match Nat.beq t d with | true => False | false => E.un t) = _
    by_cases h : t = d
    · subst h; simp
    · have : Nat.beq t d = false := Bool.eq_false_iff.2 fun hb => h (Nat.eq_of_beq_eq_true hb)
      rw [this, if_neg h]

def cvOf1 : Value → CV
  | .slice none _ _ => .list [] false none
  | v => .val v
def cvOf : Value → CV
  | .agg cs => .agg (cs.toList.map cvOf1)
  | v => cvOf1 v
def constOk1 : Value → Bool
  | .slice none 0 0 => true
  | .slice _ _ _ => false
  | v => v.oneCell'
def constOk : Value → Bool
  | .agg cs => cs.toList.all constOk1
  | .slice none 0 0 => true
  | .slice _ _ _ => false
  | _ => true

def Env.val (C : Ctx) (E : Env) : Operand → CV
  | .tmp t => E.f t
  | .const v => cvOf v
  | .global g => match C.glob g with
    | some cells => .cptr cells
    | none => .val (.pointer (some ⟨g, 0, none⟩))
  | .func f => .val (.func (.func f) #[] #[])

def Env.valid (E : Env) : Operand → Prop
  | .tmp t => E.ok t
  | .const v => constOk v = true
  | _ => True

theorem rv_cvOf1 {M : Plan} {w : World} {v : Value} (h : constOk1 v = true) : RV M w (cvOf1 v) v := by
  cases v with
  | slice a n c =>
    cases a with
    | some a => simp [constOk1] at h
    | none =>
      have : n = 0 ∧ c = 0 := by
        rcases n with _ | n <;> rcases c with _ | c <;> simp [constOk1] at h ⊢
      obtain ⟨rfl, rfl⟩ := this
      exact RV.list (rows := []) (b := 0) (off := 0) (s := 0) (fun _ _ => undef) (Nat.le_refl _) (by simp [maxLen]) rfl (fun _ => rfl) (fun h => absurd rfl h) (by simp) (by simp) (by simp) (by simp) (by simp)
  | _ => exact .val _

theorem cvOf1_one {v : Value} (h : constOk1 v = true) : (cvOf1 v).one = true := by
  cases v with
  | slice a n c => cases a <;> rfl
  | _ => simpa [cvOf1, CV.one, constOk1] using h

theorem rv_cvOf {M : Plan} {w : World} {v : Value} (h : constOk v = true) : RV M w (cvOf v) v := by
  cases v with
  | agg cs =>
    have hc : ∀ v ∈ cs, constOk1 v = true := by
      have h' : ∀ v ∈ cs.toList, constOk1 v = true := List.all_eq_true.1 h
      exact fun v hv => h' v (by simpa using hv)
    refine .agg (by simp) (fun c hm => ?_) (fun i c hi => ?_)
    · obtain ⟨v, hv, rfl⟩ := List.mem_map.1 hm
      exact cvOf1_one (hc v (by simpa using hv))
    · simp only [List.getElem?_map, Option.map_eq_some_iff] at hi
      obtain ⟨v, hv, rfl⟩ := hi
      have hv' : cs[i]? = some v := by simpa using hv
      rw [Array.getD_eq_getD_getElem?, hv']
      exact rv_cvOf1 (hc v (Array.mem_of_getElem? hv'))
  | slice a n c =>
    refine rv_cvOf1 ?_
    rcases a with _ | a
    · rcases n with _ | n <;> rcases c with _ | c <;> simp [constOk, constOk1] at h ⊢
    · simp [constOk] at h
  | _ => exact .val _

structure FRel (M : Plan) (w : World) (n : Nat) (E : Env) (a : Act) : Prop where
  defers : a.defers = []
  size : a.tmps.size = n
  rv : ∀ t, E.ok t → RV M w (E.f t) (a.tmps.getD t undef)
  un : ∀ t, E.un t → a.tmps.getD t undef = undef

theorem FRel.mono {M M' : Plan} {w w' : World} {n : Nat} {E : Env} {a : Act} (h : Ext M w M' w') (hf : FRel M w n E a) : FRel M' w' n E a :=
  ⟨hf.defers, hf.size, fun t ht => (hf.rv t ht).mono h, hf.un⟩

theorem FRel.put {M : Plan} {w : World} {n : Nat} {E : Env} {a : Act} {d : Option Nat} {c : CV} {v : Value} {g : Prop} (hf : FRel M w n E a) (hd : ∀ t, d = some t → t < n) (hv : g → RV M w c v) (hu : ¬ g → v = undef) :
    FRel M w n (E.put d c g) (a.put d v) := by
  cases d with
  | none => exact hf
  | some d =>
    have hdn := hd d rfl
    refine ⟨hf.defers, by simp [Act.put, hf.size], fun t ht => ?_, fun t ht => ?_⟩
    by_cases htd : t = d
    · subst htd
      simp only [Env.put_f, Env.put_ok, if_true] at ht ⊢
      have : (a.put (some t) v).tmps.getD t undef = v := by simp [Act.put, hf.size, hdn]
      rw [this]
      exact hv ht
    · simp only [Env.put_f, Env.put_ok, if_neg htd] at ht ⊢
      have : (a.put (some d) v).tmps.getD t undef = a.tmps.getD t undef := by simp [Act.put, Array.getElem?_setIfInBounds_ne (Ne.symm htd)]
      rw [this]
      exact hf.rv t ht
    · by_cases htd : t = d
      · subst htd
        simp only [Env.put_un, if_true] at ht
        have : (a.put (some t) v).tmps.getD t undef = v := by simp [Act.put, hf.size, hdn]
        rw [this]
        exact hu ht
      · simp only [Env.put_un, if_neg htd] at ht
        have : (a.put (some d) v).tmps.getD t undef = a.tmps.getD t undef := by simp [Act.put, Array.getElem?_setIfInBounds_ne (Ne.symm htd)]
        rw [this]
        exact hf.un t ht

theorem FRel.hide {M : Plan} {w : World} {n : Nat} {E : Env} {a : Act} {d : Option Nat} {v : Value} (hf : FRel M w n E a) : FRel M w n (E.hide d) (a.put d v) := by
  cases d with
  | none => exact hf
  | some d =>
    refine ⟨hf.defers, by simp [Act.put, hf.size], fun t ht => ?_, fun t ht => ?_⟩
    · rw [(E.hide_at d t).2.1] at ht
      split at ht
      · exact ht.elim
      · rename_i htd
        have : (a.put (some d) v).tmps.getD t undef = a.tmps.getD t undef := by simp [Act.put, Array.getElem?_setIfInBounds_ne (Ne.symm htd)]
        rw [this]
        exact hf.rv t ht
    · rw [(E.hide_at d t).2.2] at ht
      split at ht
      · exact ht.elim
      · rename_i htd
        have : (a.put (some d) v).tmps.getD t undef = a.tmps.getD t undef := by simp [Act.put, Array.getElem?_setIfInBounds_ne (Ne.symm htd)]
        rw [this]
        exact hf.un t ht

theorem FRel.eval {C : Ctx} {M : Plan} {σ : List CObj} {w : World} {n : Nat} {E : Env} {a : Act} (hr : Rel C M σ w) (hf : FRel M w n E a) {x : Operand} (hx : E.valid x) : RV M w (E.val C x) (a.eval x) := by
  cases x with
  | tmp t => exact hf.rv t hx
  | const v => exact rv_cvOf hx
  | global g =>
    simp only [Env.val, Act.eval]
    split
    · rename_i cells hc
      exact hr.glob g cells hc
    · exact .val _
  | func f => exact .val _

/-! ### What an operation does -/
inductive CRes where
  | ret (c : CV)
  | pan (c : CV)

def Upon (P : Program) (K : Value → World → Prop) (Kp : List PanicEntry → World → Prop) : Result Next → Prop
  | .ok (.value v) w' => K v w'
  | .ok .skip w' => K undef w'
  | .ok (.enter f args) w' => Calls P f args w' fun
      | .returned v, w'' => K v w''
      | .panicked ch, w'' => Kp ch w''
      | .outgrown, _ => False
  | .halt (.panic v) w' => Kp [{ v, recovered := false }] w'
  | _ => False

theorem Upon.mono {P : Program} {K K' : Value → World → Prop} {Kp Kp' : List PanicEntry → World → Prop} {r : Result Next} (h : Upon P K Kp r) (hk : ∀ v w, K v w → K' v w) (hp : ∀ c w, Kp c w → Kp' c w) : Upon P K' Kp' r := by
  cases r with
  | ok x w =>
    cases x <;> simp only [Upon] at h ⊢
    case value v => exact hk _ _ h
    case skip => exact hk _ _ h
    case enter f args =>
      refine h.mono fun e w' he => ?_
      cases e with
      | returned v => exact hk _ _ he
      | panicked c => exact hp _ _ he
      | outgrown => exact he
  | halt x w =>
    cases x <;> simp only [Upon] at h ⊢
    exact hp _ _ h

theorem wp_of_upon {P : Program} {o : Oper} {a : Act} {w : World} {K : Value → World → Prop} {Kp : List PanicEntry → World → Prop} {next : Act → World → Prop} {Q : Exit → Act → World → Prop}
    (h : Upon P K Kp ((execOp a.eval o).run P w)) (hk : ∀ v w', K v w' → next (a.put o.dst v) w') (hp : ∀ c w', Kp c w' → Q (.panic c) a w') : o.wp P a w next Q := by
  unfold Oper.wp
  generalize (execOp a.eval o).run P w = r at h
  cases r with
  | ok x w =>
    cases x <;> simp only [Upon] at h <;> simp only [Oper.upon]
    case value v => exact hk _ _ h
    case skip => exact hk _ _ h
    case enter f args =>
      refine h.mono fun e w' he => ?_
      cases e with
      | returned v => exact hk _ _ he
      | panicked c => exact hp _ _ he
      | outgrown => exact he.elim
  | halt x w =>
    cases x <;> simp only [Upon] at h <;> simp only [Oper.upon]
    exact hp _ _ h

/-- What is left behind a step: a later world that is related to a clean state. -/
def After (C : Ctx) (M : Plan) (w : World) (K : CRes → List CObj → Prop) (v : Value) (w' : World) : Prop :=
  ∃ c σ' M', Ext M w M' w' ∧ Rel C M' σ' w' ∧ RV M' w' c v ∧ K (.ret c) σ'
def AfterPan (C : Ctx) (M : Plan) (w : World) (K : CRes → List CObj → Prop) (ch : List PanicEntry) (w' : World) : Prop :=
  ∃ c v σ' M', ch = [{ v, recovered := false }] ∧ Ext M w M' w' ∧ Rel C M' σ' w' ∧ RV M' w' c v ∧ K (.pan c) σ'

def Does (C : Ctx) (σ : List CObj) (E : Env) (o : Oper) (K : CRes → List CObj → Prop) : Prop :=
  ∀ (M : Plan) (w : World) (ρ : Operand → Value), Rel C M σ w → (∀ x ∈ o.op.operands, E.valid x → RV M w (E.val C x) (ρ x)) →
    Upon C.P (After C M w K) (AfterPan C M w K) ((execOp ρ o).run C.P w)

def Yields (C : Ctx) (σ : List CObj) (E : Env) (o : Oper) (c : CV) : Prop := Does C σ E o fun r σ' => r = .ret c ∧ σ' = σ

def CCalls (C : Ctx) (f : FuncId) (args : List CV) (σ : List CObj) (K : CRes → List CObj → Prop) : Prop :=
  ∀ (M : Plan) (w : World) (vs : Array Value), Rel C M σ w → vs.size = args.length → (∀ (i : Nat) (c : CV), args[i]? = some c → RV M w c (vs.getD i undef)) →
    Calls C.P f vs w fun
      | .returned v, w' => After C M w K v w'
      | .panicked ch, w' => AfterPan C M w K ch w'
      | .outgrown, _ => False

theorem After.mono {C : Ctx} {M : Plan} {w : World} {K K' : CRes → List CObj → Prop} (h : ∀ r σ, K r σ → K' r σ) {v : Value} {w' : World} (ha : After C M w K v w') : After C M w K' v w' := by
  obtain ⟨c, σ', M', h1, h2, h3, h4⟩ := ha
  exact ⟨c, σ', M', h1, h2, h3, h _ _ h4⟩
theorem AfterPan.mono {C : Ctx} {M : Plan} {w : World} {K K' : CRes → List CObj → Prop} (h : ∀ r σ, K r σ → K' r σ) {v : List PanicEntry} {w' : World} (ha : AfterPan C M w K v w') : AfterPan C M w K' v w' := by
  obtain ⟨c, u, σ', M', h0, h1, h2, h3, h4⟩ := ha
  exact ⟨c, u, σ', M', h0, h1, h2, h3, h _ _ h4⟩
theorem Does.mono {C : Ctx} {σ : List CObj} {E : Env} {o : Oper} {K K' : CRes → List CObj → Prop} (hd : Does C σ E o K) (h : ∀ r σ, K r σ → K' r σ) : Does C σ E o K' :=
  fun M w ρ hr hx => (hd M w ρ hr hx).mono (fun _ _ => After.mono h) (fun _ _ => AfterPan.mono h)
theorem CCalls.mono {C : Ctx} {f : FuncId} {args : List CV} {σ : List CObj} {K K' : CRes → List CObj → Prop} (hd : CCalls C f args σ K) (h : ∀ r σ, K r σ → K' r σ) : CCalls C f args σ K' :=
  fun M w vs hr hn hx => (hd M w vs hr hn hx).mono fun e w' he => by
    cases e with
    | returned v => exact After.mono h he
    | panicked c => exact AfterPan.mono h he
    | outgrown => exact he

/-! ### Code -/
inductive CExit where
  | normal
  | exit (id : Nat)
  | goto (l : Nat)
  | ret
  | pan (c : CV)

def Lift (C : Ctx) (n : Nat) (Q : CExit → Env → List CObj → Prop) (M : Plan) (w : World) (e : Exit) (a' : Act) (w' : World) : Prop :=
  ∃ E' σ' M', Ext M w M' w' ∧ Rel C M' σ' w' ∧ FRel M' w' n E' a' ∧
    match e with
    | .normal => Q .normal E' σ'
    | .exit id => Q (.exit id) E' σ'
    | .goto l => Q (.goto l) E' σ'
    | .ret => Q .ret E' σ'
    | .panic ch => ∃ c v, ch = [{ v, recovered := false }] ∧ RV M' w' c v ∧ Q (.pan c) E' σ'
    | .outgrown => False

def CWp (C : Ctx) (n : Nat) (c : Code) (Q : CExit → Env → List CObj → Prop) (E : Env) (σ : List CObj) : Prop :=
  ∀ (M : Plan) (w : World) (a : Act), Rel C M σ w → FRel M w n E a → c.wp C.P (Lift C n Q M w) a w

def COps (C : Ctx) (n : Nat) (ops : Array Oper) (Q : CExit → Env → List CObj → Prop) (l : List Oper) (E : Env) (σ : List CObj) : Prop :=
  ∀ (M : Plan) (w : World) (a : Act), Rel C M σ w → FRel M w n E a → wpList C.P ops (Lift C n Q M w) l a w

theorem Lift.mono {C : Ctx} {n : Nat} {Q Q' : CExit → Env → List CObj → Prop} (h : ∀ e E σ, Q e E σ → Q' e E σ) {M : Plan} {w : World} {e : Exit} {a : Act} {w' : World} (hl : Lift C n Q M w e a w') : Lift C n Q' M w e a w' := by
  obtain ⟨E', σ', M', h1, h2, h3, h4⟩ := hl
  refine ⟨E', σ', M', h1, h2, h3, ?_⟩
  cases e <;> first | exact h _ _ _ h4 | (obtain ⟨c, v, hc, hv, hq⟩ := h4; exact ⟨c, v, hc, hv, h _ _ _ hq⟩) | exact h4

theorem Lift.later {C : Ctx} {n : Nat} {Q : CExit → Env → List CObj → Prop} {M M1 : Plan} {w w1 : World} (he : Ext M w M1 w1) {e : Exit} {a : Act} {w' : World} (hl : Lift C n Q M1 w1 e a w') : Lift C n Q M w e a w' := by
  obtain ⟨E', σ', M', h1, h2, h3, h4⟩ := hl
  exact ⟨E', σ', M', he.trans h1, h2, h3, h4⟩

theorem CWp.mono {C : Ctx} {n : Nat} {c : Code} {Q Q' : CExit → Env → List CObj → Prop} {E : Env} {σ : List CObj} (h : CWp C n c Q E σ) (hq : ∀ e E σ, Q e E σ → Q' e E σ) : CWp C n c Q' E σ :=
  fun M w a hr hf => wp_mono (h M w a hr hf) fun _ _ _ => Lift.mono hq

def CExit.next (k : Env → List CObj → Prop) (Q : CExit → Env → List CObj → Prop) : CExit → Env → List CObj → Prop
  | .normal => k
  | e => Q e

section
variable {C : Ctx} {n : Nat} {Q : CExit → Env → List CObj → Prop} {E : Env} {σ : List CObj}

theorem cw_skip (h : Q .normal E σ) : CWp C n .skip Q E σ := fun M w _ hr hf => wp_skip ⟨E, σ, M, Ext.refl M w, hr, hf, h⟩
theorem cw_label {l : Nat} (h : Q .normal E σ) : CWp C n (.label l) Q E σ := fun M w _ hr hf => wp_label ⟨E, σ, M, Ext.refl M w, hr, hf, h⟩
theorem cw_exit {id : Nat} (h : Q (.exit id) E σ) : CWp C n (.exit id) Q E σ := fun M w _ hr hf => wp_exit ⟨E, σ, M, Ext.refl M w, hr, hf, h⟩
theorem cw_goto {l : Nat} (h : Q (.goto l) E σ) : CWp C n (.goto l) Q E σ := fun M w _ hr hf => wp_goto ⟨E, σ, M, Ext.refl M w, hr, hf, h⟩
theorem cw_ret (h : Q .ret E σ) : CWp C n .ret Q E σ := fun M w _ hr hf => wp_ret ⟨E, σ, M, Ext.refl M w, hr, hf, h⟩

theorem cw_seq {x y : Code} (h : CWp C n x (CExit.next (CWp C n y Q) Q) E σ) : CWp C n (.seq x y) Q E σ := fun M w a hr hf => by
  refine wp_seq (wp_mono (h M w a hr hf) fun e a' w' hl => ?_)
  obtain ⟨E', σ', M', h1, h2, h3, h4⟩ := hl
  cases e with
  | normal => exact wp_mono (h4 M' w' a' h2 h3) fun _ _ _ => Lift.later h1
  | _ => exact ⟨E', σ', M', h1, h2, h3, h4⟩

theorem cw_cond {c : Operand} {x y : Code} {b : Bool} (hv : E.valid c) (hc : E.val C c = .val (.bool b)) (ht : b = true → CWp C n x Q E σ) (hf' : b = false → CWp C n y Q E σ) : CWp C n (.cond c x y) Q E σ := fun M w a hr hf => by
  have h1 : RV M w (E.val C c) (a.eval c) := hf.eval hr hv
  rw [hc] at h1
  have h2 : a.eval c = .bool b := by generalize a.eval c = u at h1; cases h1; rfl
  exact wp_cond_split h2 (fun h => ht h M w a hr hf) (fun h => hf' h M w a hr hf)

def CExit.blk (id : Nat) (Q : CExit → Env → List CObj → Prop) : CExit → Env → List CObj → Prop
  | .exit id', E, σ => if id' = id then Q .normal E σ else Q (.exit id') E σ
  | e, E, σ => Q e E σ

theorem cw_block {id : Nat} {c : Code} (h : CWp C n c (CExit.blk id Q) E σ) : CWp C n (.block id c) Q E σ := fun M w a hr hf => by
  refine wp_block (wp_mono (h M w a hr hf) fun e a' w' hl => ?_)
  obtain ⟨E', σ', M', h1, h2, h3, h4⟩ := hl
  cases e with
  | exit id' =>
    simp only [Exit.inBlock]
    simp only [CExit.blk] at h4
    split <;> rename_i hid
    · rw [if_pos hid] at h4; exact ⟨E', σ', M', h1, h2, h3, h4⟩
    · rw [if_neg hid] at h4; exact ⟨E', σ', M', h1, h2, h3, h4⟩
  | _ => exact ⟨E', σ', M', h1, h2, h3, h4⟩

/-- A loop: what holds at each round's head, with a number that each round lowers. -/
theorem cw_loop {c : Code} (I : Nat → Env → List CObj → Prop) (m : Nat) (h0 : I m E σ)
    (round : ∀ m E σ, I m E σ → CWp C n c (CExit.next (fun E' σ' => ∃ m', m' < m ∧ I m' E' σ') Q) E σ) : CWp C n (.loop c) Q E σ := fun M w a hr hf => by
  intro b k cs
  have key : ∀ m E σ M1 w1 a1, I m E σ → Ext M w M1 w1 → Rel C M1 σ w1 → FRel M1 w1 n E a1 →
      ∃ e a' w', Lift C n Q M w e a' w' ∧ Arrives C.P (lone (b.at a1 (.code c :: .inLoop c :: k)) cs w1) b k cs e a' w' := by
    intro m
    induction m using Nat.strongRecOn with
    | _ m ih =>
      intro E σ M1 w1 a1 hI hx hr1 hf1
      obtain ⟨e, a2, w2, hq, harr⟩ := round m E σ hI M1 w1 a1 hr1 hf1 b (.inLoop c :: k) cs
      obtain ⟨E', σ', M', h1, h2, h3, h4⟩ := hq
      cases e with
      | normal =>
        obtain ⟨m', hlt, hI'⟩ := h4
        obtain ⟨e₂, a₂, w₂, hq₂, harr₂⟩ := ih m' hlt E' σ' M' w2 a2 hI' (hx.trans h1) h2 h3
        exact ⟨e₂, a₂, w₂, hq₂, .of_steps (Steps.trans harr (.one step_inLoop)) harr₂⟩
      | exit id => exact ⟨_, a2, w2, ⟨E', σ', M', hx.trans h1, h2, h3, h4⟩, .pass (x := .inLoop c) rfl (fun _ _ => .inl (by simp)) harr⟩
      | goto l => exact ⟨_, a2, w2, ⟨E', σ', M', hx.trans h1, h2, h3, h4⟩, .pass (x := .inLoop c) rfl (fun _ _ => .inl (by simp)) harr⟩
      | ret => exact ⟨_, a2, w2, ⟨E', σ', M', hx.trans h1, h2, h3, h4⟩, .pass (x := .inLoop c) rfl (fun _ _ => .inl (by simp)) harr⟩
      | panic ch => exact ⟨_, a2, w2, ⟨E', σ', M', hx.trans h1, h2, h3, h4⟩, .pass (x := .inLoop c) rfl (fun _ _ => .inl (by simp)) harr⟩
      | outgrown => exact h4.elim
  obtain ⟨e, a', w', hq, harr⟩ := key m E σ M w a h0 (Ext.refl M w) hr hf
  exact ⟨e, a', w', hq, .of_steps (.one step_loop) harr⟩

theorem cw_region {id : Nat} {ops : Array Oper} (h : COps C n ops Q ops.toList E σ) : CWp C n (.region id ops false) Q E σ :=
  fun M w a hr hf => wp_region_list (h M w a hr hf)

theorem co_nil {ops : Array Oper} (h : Q .normal E σ) : COps C n ops Q [] E σ := fun M w _ hr hf => wpList_nil ⟨E, σ, M, Ext.refl M w, hr, hf, h⟩

theorem COps.later {ops : Array Oper} {l : List Oper} (h : COps C n ops Q l E σ) {M M1 : Plan} {w w1 : World} {a : Act} (hx : Ext M w M1 w1) (hr : Rel C M1 σ w1) (hf : FRel M1 w1 n E a) : wpList C.P ops (Lift C n Q M w) l a w1 := by
  have := h M1 w1 a hr hf
  have hm : ∀ (l : List Oper) (a : Act) (w2 : World), wpList C.P ops (Lift C n Q M1 w1) l a w2 → wpList C.P ops (Lift C n Q M w) l a w2 := by
    intro l
    induction l with
    | nil => exact fun a w2 h => Lift.later hx h
    | cons o l ih =>
      intro a w2 h
      unfold wpList at h ⊢
      split
      · rename_i hw
        rw [if_pos hw] at h
        refine h.imp (fun h => ?_) (fun ⟨h1, a0, w0, hl⟩ => ⟨h1, a0, w0, Lift.later hx hl⟩)
        unfold Oper.wp at h ⊢
        generalize (execOp a.eval o).run C.P w2 = r at h
        cases r with
        | ok x w3 =>
          cases x <;> simp only [Oper.upon] at h ⊢
          case value v => exact ih _ _ h
          case skip => exact ih _ _ h
          case defer d => exact ih _ _ h
          case enter f args =>
            refine h.mono fun e w4 he => ?_
            cases e with
            | returned v => exact ih _ _ he
            | panicked ch => exact Lift.later hx he
            | outgrown => obtain ⟨a0, w0, hl⟩ := he; exact ⟨a0, w0, Lift.later hx hl⟩
          case row r args => exact Rows.mono h fun _ _ he => ih _ _ he
        | halt x w3 =>
          cases x <;> simp only [Oper.upon] at h ⊢
          exact Lift.later hx h
      · rename_i hw
        rw [if_neg hw] at h
        exact ih _ _ h
  exact hm _ _ _ this

/-- One operation without a guard. -/
theorem co_cons {ops : Array Oper} {o : Oper} {l : List Oper} (hg : o.guard = none) (hd : (match o.dst with | some d => d < n | none => True))
    (h : Does C σ E o fun r σ' => match r with
      | .ret c => COps C n ops Q l (E.put o.dst c True) σ'
      | .pan c => Q (.pan c) E σ') : COps C n ops Q (o :: l) E σ := fun M w a hr hf => by
  unfold wpList
  rw [if_pos (by simp [Region.wanted, hg])]
  refine .inl (wp_of_upon (h M w a.eval hr fun x _ hx => hf.eval hr hx) (fun v w' ha => ?_) (fun ch w' ha => ?_))
  · obtain ⟨c, σ', M', h1, h2, h3, h4⟩ := ha
    exact h4.later h1 h2 ((hf.mono h1).put (fun t ht => by rw [ht] at hd; exact hd) (fun _ => h3) fun hh => absurd trivial hh)
  · obtain ⟨c, v, σ', M', h0, h1, h2, h3, h4⟩ := ha
    exact ⟨E, σ', M', h1, h2, hf.mono h1, c, v, h0, h3, h4⟩

/-- One operation under a guard that need not be decided: it only yields. -/
theorem co_guard {ops : Array Oper} {o : Oper} {l : List Oper} {j t : Nat} {want b : Bool} {c : CV} (hg : o.guard = some (j, want)) (ht : (ops[j]?).bind (·.dst) = some t) (hv : E.ok t) (hb : E.f t = .val (.bool b))
    (hd : (match o.dst with | some d => d < n | none => True)) (hy : b = want → Yields C σ E o c) (h : COps C n ops Q l (E.put o.dst c (b = want)) σ) : COps C n ops Q (o :: l) E σ := fun M w a hr hf => by
  have h1 : RV M w (E.f t) (a.tmps.getD t undef) := hf.rv t hv
  rw [hb] at h1
  have h2 : a.tmps.getD t undef = .bool b := by generalize a.tmps.getD t undef = u at h1; cases h1; rfl
  have hsz : t < a.tmps.size := by
    rcases Nat.lt_or_ge t a.tmps.size with h' | h'
    · exact h'
    · simp [Array.getElem?_eq_none h', undef] at h2
  have hw : Region.wanted o (yielded ops a.tmps) = (b == want) := by
    have h3 : a.tmps[t]? = some (.bool b) := by
      rw [Array.getD_eq_getD_getElem?, Array.getElem?_eq_getElem hsz] at h2
      rw [Array.getElem?_eq_getElem hsz, ← h2]; rfl
    have h4 : yielded ops a.tmps j = some b := by unfold yielded; rw [ht, Option.bind_some, h3]
    simp only [Region.wanted, hg, h4]
    cases b <;> cases want <;> rfl
  have hd' : ∀ t, o.dst = some t → t < n := fun t ht => by rw [ht] at hd; exact hd
  unfold wpList
  by_cases hbw : b = want
  · rw [if_pos (by rw [hw]; simpa using hbw)]
    refine .inl (wp_of_upon (hy hbw M w a.eval hr fun x _ hx => hf.eval hr hx) (fun v w' ha => ?_) (fun ch w' ha => ?_))
    · obtain ⟨c', σ', M', h1, h2, h3, h4, rfl⟩ := ha
      injection h4 with h4
      subst h4
      exact h.later h1 h2 ((hf.mono h1).put hd' (fun _ => h3) fun hh => absurd hbw hh)
    · obtain ⟨c', v, σ', M', h0, h1, h2, h3, h4, _⟩ := ha
      cases h4
  · rw [if_neg (by rw [hw]; simpa using hbw)]
    exact h.later (Ext.refl M w) hr (hf.put hd' (fun hh => absurd hh hbw) fun _ => rfl)

/-- The guard itself stands under a guard. -/
theorem co_guard2 {ops : Array Oper} {o : Oper} {l : List Oper} {j t : Nat} {want b : Bool} {c : CV} (hg : o.guard = some (j, want)) (ht : (ops[j]?).bind (·.dst) = some t) (hv : ¬ E.ok t → E.un t) (hb : E.f t = .val (.bool b))
    (hd : (match o.dst with | some d => d < n | none => True)) (hy : E.ok t → b = want → Yields C σ E o c) (h : COps C n ops Q l (E.put o.dst c (E.ok t ∧ b = want)) σ) : COps C n ops Q (o :: l) E σ := by
  by_cases hok : E.ok t
  · have e : (E.ok t ∧ b = want) = (b = want) := propext ⟨fun h => h.2, fun h => ⟨hok, h⟩⟩
    rw [e] at h
    exact co_guard hg ht hok hb hd (hy hok) h
  · intro M w a hr hf
    have h2 := hf.un t (hv hok)
    have hd' : ∀ t, o.dst = some t → t < n := fun t ht => by rw [ht] at hd; exact hd
    have hw : Region.wanted o (yielded ops a.tmps) = false := by
      have h4 : yielded ops a.tmps j = none := by
        unfold yielded
        rw [ht, Option.bind_some]
        rcases Nat.lt_or_ge t a.tmps.size with h' | h'
        · rw [Array.getD_eq_getD_getElem?, Array.getElem?_eq_getElem h'] at h2
          rw [Array.getElem?_eq_getElem h']
          simp only [Option.getD_some] at h2
          rw [h2]
          rfl
        · rw [Array.getElem?_eq_none h']
      simp only [Region.wanted, hg, h4]
      cases want <;> rfl
    unfold wpList
    rw [if_neg (by rw [hw]; simp)]
    exact h.later (Ext.refl M w) hr (hf.put hd' (fun hh => absurd hh.1 hok) fun _ => rfl)
end

section
variable {C : Ctx} {n : Nat} {Q : CExit → Env → List CObj → Prop} {E : Env} {σ : List CObj}

theorem co_y {ops : Array Oper} {o : Oper} {l : List Oper} {c : CV} (hg : o.guard = none) (hd : (match o.dst with | some d => Nat.blt d n | none => true) = true) (hy : Yields C σ E o c) (h : COps C n ops Q l (E.put o.dst c True) σ) : COps C n ops Q (o :: l) E σ :=
  co_cons hg (by
    cases hd' : o.dst with
    | none => trivial
    | some d => rw [hd'] at hd; simpa [Nat.blt_eq] using hd) (hy.mono fun r σ' hr => by
    obtain ⟨rfl, rfl⟩ := hr
    exact h)
theorem co_d {ops : Array Oper} {o : Oper} {l : List Oper} (hg : o.guard = none) (hd : (match o.dst with | some d => Nat.blt d n | none => true) = true) (h : Does C σ E o fun r σ' => match r with
      | .ret c => COps C n ops Q l (E.put o.dst c True) σ'
      | .pan c => Q (.pan c) E σ') : COps C n ops Q (o :: l) E σ :=
  co_cons hg (by
    cases hd' : o.dst with
    | none => trivial
    | some d => rw [hd'] at hd; simpa [Nat.blt_eq] using hd) h
theorem co_g {ops : Array Oper} {o : Oper} {l : List Oper} {j t : Nat} {want b : Bool} {c : CV} (hg : o.guard = some (j, want)) (ht : (ops[j]?).bind (·.dst) = some t) (hv : E.ok t) (hb : E.f t = .val (.bool b))
    (hd : (match o.dst with | some d => Nat.blt d n | none => true) = true) (hy : b = want → Yields C σ E o c) (h : COps C n ops Q l (E.put o.dst c (b = want)) σ) : COps C n ops Q (o :: l) E σ :=
  co_guard hg ht hv hb (by
    cases hd' : o.dst with
    | none => trivial
    | some d => rw [hd'] at hd; simpa [Nat.blt_eq] using hd) hy h
theorem co_g2 {ops : Array Oper} {o : Oper} {l : List Oper} {j t : Nat} {want b : Bool} {c : CV} (hg : o.guard = some (j, want)) (ht : (ops[j]?).bind (·.dst) = some t) (hv : ¬ E.ok t → E.un t) (hb : E.f t = .val (.bool b))
    (hd : (match o.dst with | some d => Nat.blt d n | none => true) = true) (hy : E.ok t → b = want → Yields C σ E o c) (h : COps C n ops Q l (E.put o.dst c (E.ok t ∧ b = want)) σ) : COps C n ops Q (o :: l) E σ :=
  co_guard2 hg ht hv hb (by
    cases hd' : o.dst with
    | none => trivial
    | some d => rw [hd'] at hd; simpa [Nat.blt_eq] using hd) hy h

/-- The frame's slots that are spoken of. -/
def Env.is (E : Env) : List (Nat × CV) → Prop
  | [] => True
  | (t, c) :: l => (E.ok t ∧ E.f t = c) ∧ E.is l
def Env.puts (E : Env) : List (Nat × CV) → Env
  | [] => E
  | (t, c) :: l => (E.puts l).put (some t) c True

theorem FRel.puts {M : Plan} {w : World} {n : Nat} {E : Env} {a : Act} (hf : FRel M w n E a) : ∀ {l : List (Nat × CV)}, E.is l → FRel M w n (E.puts l) a
  | [], _ => hf
  | (t, c) :: l, ⟨⟨h1, h2⟩, h⟩ => by
    have ih := hf.puts h
    refine ⟨hf.defers, hf.size, fun x hx => ?_, fun x hx => ?_⟩
    · rw [Env.puts, Env.put_f]
      rw [Env.puts, Env.put_ok] at hx
      split
      · subst x; exact h2 ▸ hf.rv t h1
      · rename_i hne
        rw [if_neg hne] at hx
        exact ih.rv x hx
    · rw [Env.puts, Env.put_un] at hx
      split at hx
      · exact absurd trivial hx
      · exact ih.un x hx
theorem CWp.puts {c : Code} {l : List (Nat × CV)} (h : CWp C n c Q (E.puts l) σ) (hE : E.is l) : CWp C n c Q E σ := fun M w a hr hf => h M w a hr (hf.puts hE)

/-- A loop: its rounds are numbered by a state; the slots of each round's head, the objects, a measure. -/
theorem cw_loop' {α : Type} {c : Code} (l : α → List (Nat × CV)) (S : α → List CObj) (I : α → Prop) (m : α → Nat) (a0 : α) (h0 : I a0) (hE : E.is (l a0)) (hσ : σ = S a0)
    (round : ∀ (a : α) (E0 : Env), I a → CWp C n c (CExit.next (fun E' σ' => ∃ a', m a' < m a ∧ I a' ∧ E'.is (l a') ∧ σ' = S a') Q) (E0.puts (l a)) (S a)) : CWp C n (.loop c) Q E σ := by
  refine cw_loop (fun k E σ => ∃ a, k = m a ∧ I a ∧ E.is (l a) ∧ σ = S a) (m a0) ⟨a0, rfl, h0, hE, hσ⟩ fun k E σ hI => ?_
  obtain ⟨a, rfl, hI, hE, rfl⟩ := hI
  refine ((round a E hI).puts hE).mono fun e E' σ' h => ?_
  cases e with
  | normal =>
    obtain ⟨a', h1, h2, h3, h4⟩ := h
    exact ⟨m a', h1, a', rfl, h2, h3, h4⟩
  | _ => exact h

/-- What stands behind, from a few slots on. -/
theorem cw_cut {x y : Code} {α : Type} (l : α → List (Nat × CV)) (S : α → List CObj) (I : α → Prop) (h : CWp C n x (CExit.next (fun E' σ' => ∃ a, I a ∧ E'.is (l a) ∧ σ' = S a) Q) E σ) (k : ∀ (a : α) (E0 : Env), I a → CWp C n y Q (E0.puts (l a)) (S a)) : CWp C n (.seq x y) Q E σ := by
  refine cw_seq (h.mono fun e E' σ' h => ?_)
  cases e with
  | normal =>
    obtain ⟨a, h1, h2, rfl⟩ := h
    exact (k a E' h1).puts h2
  | _ => exact h
end

/-! ### Calls -/
/-- The results of a function's body in a clean frame. -/
def CResults (C : Ctx) (E : Env) (σ : List CObj) (fn : Func) (c : CV) : Prop :=
  ∀ (M : Plan) (w : World) (a : Act), Rel C M σ w → (∀ t, E.ok t → RV M w (E.f t) (a.tmps.getD t undef)) → ∃ v, (results fn a.tmps).run C.P w = .ok v w ∧ RV M w c v

def Env.args (args : List CV) : Env := { f := fun t => args.getD t (.val undef), ok := fun _ => True, un := fun _ => False }

/-- What a body must come to. -/
def Fin (C : Ctx) (fn : Func) (K : CRes → List CObj → Prop) : CExit → Env → List CObj → Prop
  | .normal, E, σ | .ret, E, σ => ∃ c, CResults C E σ fn c ∧ K (.ret c) σ
  | .pan c, _, σ => K (.pan c) σ
  | _, _, _ => False

theorem ccalls_of {C : Ctx} {f : FuncId} {fn : Func} {c : Code} {args : List CV} {σ : List CObj} {K : CRes → List CObj → Prop} (hf : C.P.funcs[f]? = some fn) (hb : fn.body = some c) (hn' : Nat.ble args.length fn.ntmps = true)
    (h : CWp C fn.ntmps c (Fin C fn K) (Env.args args) σ) : CCalls C f args σ K := fun M w vs hr hsz hx => by
  have hn := Nat.le_of_ble_eq_true hn'
  refine calls_of_wp hf hb (wp_mono (h M w _ hr ⟨rfl, by simp; omega, fun t _ => ?_, fun t ht => ht.elim⟩) fun e a w' hl => ?_)
  · simp only [Env.args]
    rcases Nat.lt_or_ge t args.length with ht | ht
    · have := hx t (args[t]) (by simp [ht])
      have h1 : (vs ++ Array.replicate (fn.ntmps - vs.size) undef).getD t undef = vs.getD t undef := by
        simp [Array.getElem?_append, hsz, ht]
      rw [h1]
      simpa [ht] using this
    · have h1 : (vs ++ Array.replicate (fn.ntmps - vs.size) undef).getD t undef = undef := by
        simp only [Array.getD_eq_getD_getElem?, Array.getElem?_append]
        rw [if_neg (by omega)]
        rw [Array.getElem?_replicate]
        split <;> rfl
      rw [h1]
      simp only [List.getD_eq_getElem?_getD, List.getElem?_eq_none ht, Option.getD_none]
      exact .val _
  · obtain ⟨E', σ', M', h1, h2, h3, h4⟩ := hl
    cases e with
    | normal =>
      obtain ⟨c, hc, hk⟩ := h4
      obtain ⟨v, hv, hrv⟩ := hc M' w' a h2 h3.rv
      exact ⟨h3.defers, v, hv, c, σ', M', h1, h2, hrv, hk⟩
    | ret =>
      obtain ⟨c, hc, hk⟩ := h4
      obtain ⟨v, hv, hrv⟩ := hc M' w' a h2 h3.rv
      exact ⟨h3.defers, v, hv, c, σ', M', h1, h2, hrv, hk⟩
    | panic ch =>
      obtain ⟨c, v, h0, hv, hk⟩ := h4
      exact ⟨h3.defers, c, v, σ', M', h0, h1, h2, hv, hk⟩
    | exit id => exact h4.elim
    | goto l => exact h4.elim
    | outgrown => exact h4.elim

end Go.Cl
