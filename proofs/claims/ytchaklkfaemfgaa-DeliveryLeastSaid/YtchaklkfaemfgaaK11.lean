import Derived.Test.YtchaklkfaemfgaaK10
namespace Go.Cl
section
variable {C : Ctx} {σ : List CObj} {E : Env} {o : Oper}

/-! ### Structs of plain cells, compared -/
def plain (l : List Value) : CV := .agg (l.map .val)
theorem rv_plain {M : Plan} {w : World} {l : List Value} {u : Value} (h : RV M w (plain l) u) : u = .agg l.toArray := by
  cases h with
  | agg h1 h2 h3 =>
    rename_i vs
    congr 1
    apply Array.ext_getElem?
    intro i
    rcases Nat.lt_or_ge i l.length with hi | hi
    · have hl : (l.map CV.val)[i]? = some (.val l[i]) := by simp [hi]
      have := rv_val (h3 i _ hl)
      have hv : i < vs.size := by rw [h1]; simpa using hi
      simp only [Array.getD_eq_getD_getElem?, Array.getElem?_eq_getElem hv, Option.getD_some] at this
      rw [Array.getElem?_eq_getElem hv, this]
      simp [hi]
    · have hv : vs.size ≤ i := by rw [h1]; simpa using hi
      rw [Array.getElem?_eq_none hv]
      simp [hi]

theorem y_eqs {t t' : TypeId} {x y : Operand} {xs ys : List Value} {r : Bool} (ho : o.op = .binOp .eql t x y t') (hx : E.valid x) (hy : E.valid y) (ex : E.val C x = plain xs) (ey : E.val C y = plain ys)
    (hg : C.P.eqGuardType C.P.depth t = false) (he : ∀ w, (Op.equal t (.agg xs.toArray) (.agg ys.toArray)).run C.P w = .ok r w) : Yields C σ E o (.val (.bool r)) :=
  yields_same fun M w ρ _ h => by
    have h1 := h x (by simp [ho, Op.operands]) hx
    have h2 := h y (by simp [ho, Op.operands]) hy
    rw [ex] at h1
    rw [ey] at h2
    exact ⟨.bool r, by simp [execOp, ho, rv_plain h1, rv_plain h2, eqGuard, hg, binOp, he], .val _⟩
theorem y_nes {t t' : TypeId} {x y : Operand} {xs ys : List Value} {r : Bool} (ho : o.op = .binOp .neq t x y t') (hx : E.valid x) (hy : E.valid y) (ex : E.val C x = plain xs) (ey : E.val C y = plain ys)
    (hg : C.P.eqGuardType C.P.depth t = false) (he : ∀ w, (Op.equal t (.agg xs.toArray) (.agg ys.toArray)).run C.P w = .ok r w) : Yields C σ E o (.val (.bool (!r))) :=
  yields_same fun M w ρ _ h => by
    have h1 := h x (by simp [ho, Op.operands]) hx
    have h2 := h y (by simp [ho, Op.operands]) hy
    rw [ex] at h1
    rw [ey] at h2
    exact ⟨.bool (!r), by simp [execOp, ho, rv_plain h1, rv_plain h2, eqGuard, hg, binOp, he], .val _⟩

/-! ### Bits -/
theorem y_and {t t' : TypeId} {x y : Operand} {a b : Nat} (ho : o.op = .binOp .and t x y t') (hx : E.valid x) (hy : E.valid y) (ex : E.val C x = .val (.int .i64 (a : Int))) (ey : E.val C y = .val (.int .i64 (b : Int))) (ha : a < 9223372036854775808) (hb : b < 9223372036854775808) : Yields C σ E o (.val (.int .i64 ((a &&& b : Nat) : Int))) :=
  yields_same fun M w ρ _ h => by
    have h1 := h x (by simp [ho, Op.operands]) hx
    have h2 := h y (by simp [ho, Op.operands]) hy
    rw [ex] at h1
    rw [ey] at h2
    have e1 : ∀ n : Nat, n < 9223372036854775808 → (BitVec.ofInt 64 (n : Int)).toNat = n := fun n hn => by
      rw [BitVec.ofInt_natCast, BitVec.toNat_ofNat]; exact Nat.mod_eq_of_lt (by omega)
    have e2 : a &&& b < 2 ^ 63 := Nat.and_lt_two_pow _ (by omega)
    have e3 : (BitVec.ofInt IntKind.i64.bits (a : Int) &&& BitVec.ofInt IntKind.i64.bits (b : Int)).toNat = a &&& b := by
      show (BitVec.ofInt 64 (a : Int) &&& BitVec.ofInt 64 (b : Int)).toNat = _
      rw [BitVec.toNat_and, e1 a ha, e1 b hb]
    have e4 : (Op.intBits .and .i64 (a : Int) (b : Int)).run C.P w = .ok (.int .i64 ((a &&& b : Nat) : Int)) w := by
      unfold Op.intBits
      simp only [Sem.run_pure, e3]
      rw [wr64 (by omega) (by omega)]
    refine ⟨_, ?_, .val _⟩
    simp only [execOp, ho, rv_val h1, rv_val h2, eqGuard, binOp]
    simp [e4]

/-! ### Maps from integers -/
def imap (es : List (Int × CV)) : List (CV × CV) := es.map fun x => (.val (.int .i64 x.1), x.2)

/-- What the entries hold, key by key. -/
theorem imap_ents {M : Plan} {w : World} : ∀ (es : List (Int × CV)) (ents : List MapEntry), ents.length = es.length → (∀ (i : Nat) (x : CV × CV), (imap es)[i]? = some x → ∃ e, ents[i]? = some e ∧ RV M w x.1 e.key ∧ RV M w x.2 e.val) →
    ∀ (k0 : IntKind) (a : Int) (n : Nat),
    (match es.lookup a with
      | none => Instr.findNow (.int k0) (.int .i64 a) ents n = some none
      | some c => ∃ i v, Instr.findNow (.int k0) (.int .i64 a) ents n = some (some (n + i, v)) ∧ i < es.length ∧ RV M w c v ∧ (es[i]?.map (·.1)) = some a ∧ ∀ j, j < i → (es[j]?.map (·.1)) ≠ some a)
  | [], [], _, _, k0, a, n => by simp [Instr.findNow]
  | [], _ :: _, h, _, _, _, _ => by simp at h
  | _ :: _, [], h, _, _, _, _ => by simp at h
  | (b, c) :: es, e :: ents, hl, hh, k0, a, n => by
    obtain ⟨e', he, hk, hv⟩ := hh 0 (.val (.int .i64 b), c) rfl
    simp at he
    subst he
    have hkey := rv_val hk
    have ih := imap_ents es ents (by simpa using hl) (fun i x hi => hh (i + 1) x (by simpa [imap] using hi)) k0 a (n + 1)
    rw [List.lookup_cons]
    by_cases hab : a = b
    · subst hab
      simp only [beq_self_eq_true]
      exact ⟨0, e.val, by simp [Instr.findNow, Instr.sameNow, hkey], by simp, hv, by simp, fun j hj => by omega⟩
    · have h1 : (a == b) = false := by simpa using hab
      rw [h1]
      simp only
      have hf : Instr.findNow (.int k0) (.int .i64 a) (e :: ents) n = Instr.findNow (.int k0) (.int .i64 a) ents (n + 1) := by
        simp [Instr.findNow, Instr.sameNow, hkey, h1]
      rw [hf]
      cases hlk : es.lookup a with
      | none => rw [hlk] at ih; exact ih
      | some c' =>
        rw [hlk] at ih
        obtain ⟨i, v, g1, g2, g3, g4, g5⟩ := ih
        refine ⟨i + 1, v, by rw [g1]; congr 3; omega, by simp; omega, g3, by simpa using g4, fun j hj => ?_⟩
        rcases j with _ | j
        · simp; exact fun h => hab h.symm
        · simpa using g5 j (by omega)

theorem imap_obj {M : Plan} {w : World} {p : Pl} {es : List (Int × CV)} (h : ObjRel M w p (.map (imap es))) :
    ∃ ents clock, w.heap[p.block]? = some (.map ents clock) ∧ ents.toList.length = es.length ∧ (∀ (i : Nat) (x : CV × CV), (imap es)[i]? = some x → ∃ e, ents.toList[i]? = some e ∧ RV M w x.1 e.key ∧ RV M w x.2 e.val) ∧ (∀ (i : Nat) (x : CV × CV), (imap es)[i]? = some x → ∃ e, ents[i]? = some e ∧ RV M w x.1 e.key ∧ RV M w x.2 e.val ∧ e.born < clock) := by
  obtain ⟨ents, clock, h1, h2, h3⟩ := h
  refine ⟨ents, clock, h1, by simpa [imap] using h2, fun i x hi => ?_, h3⟩
  obtain ⟨e, he, hk, hv, _⟩ := h3 i x hi
  exact ⟨e, by simpa using he, hk, hv⟩

theorem run_getObj_map {P : Program} {w : World} {r : Nat} {ents : Array MapEntry} {clock : Nat} (h : w.heap[r]? = some (.map ents clock)) : (getObj r).run P w = .ok (.map ents clock) w := by
  simp [getObj, Sem.run, h]

theorem run_checkKey_int {P : Program} {w : World} {t : TypeId} {k0 : IntKind} {b : Bool} {a : Int} (h : ∀ w, (underlying t).run P w = .ok (.int k0) w) : (Instr.checkKey b 10000 t (.int .i64 a)).run P w = .ok () w := by
  have : ∀ n, (Instr.checkKey b (n + 1) t (.int .i64 a)).run P w = .ok () w := fun n => by simp [Instr.checkKey, h]
  exact this 9999

theorem y_lookup_int {t kt et : TypeId} {m kx : Operand} {q : Nat} {es : List (Int × CV)} {a : Int} {z : Value} {k0 : IntKind} (ho : o.op = .lookup t m kx false) (hm : E.valid m) (hk : E.valid kx) (em : E.val C m = .map q) (ek : E.val C kx = .val (.int .i64 a))
    (hu : ∀ w, (underlying t).run C.P w = .ok (.map kt et) w) (hkt : ∀ w, (underlying kt).run C.P w = .ok (.int k0) w) (hz : ∀ w, (zeroValue et).run C.P w = .ok z w) (hz1 : constOk z = true) (hσ : σ[q]? = some (.map (imap es))) : Yields C σ E o ((es.lookup a).getD (cvOf z)) :=
  yields_same fun M w ρ hr h => by
    have h1 := h m (by simp [ho, Op.operands]) hm
    have h2 := h kx (by simp [ho, Op.operands]) hk
    rw [em] at h1
    rw [ek] at h2
    generalize hv : ρ m = v at h1
    cases h1 with
    | map hp =>
      rename_i p
      obtain ⟨ents, clock, g1, g2, g3, _⟩ := imap_obj (hr.obj q p _ hp hσ).1
      have hf := imap_ents es ents.toList g2 g3 k0 a 0
      cases hlk : es.lookup a with
      | none =>
        rw [hlk] at hf
        refine ⟨z, ?_, rv_cvOf hz1⟩
        simp [execOp, ho, hv, rv_val h2, Instr.lookup, hu, run_getObj_map g1, run_checkKey_int hkt, Instr.findKey, hkt, hf, hz]
      | some c =>
        rw [hlk] at hf
        obtain ⟨i, u, f1, f2, f3, _⟩ := hf
        refine ⟨u, ?_, f3⟩
        simp [execOp, ho, hv, rv_val h2, Instr.lookup, hu, run_getObj_map g1, run_checkKey_int hkt, Instr.findKey, hkt, f1]

theorem d_makeMap {t : TypeId} {K : CRes → List CObj → Prop} (ho : o.op = .makeMap t none) (hk : K (.ret (.map σ.length)) (σ ++ [.map []])) : Does C σ E o K := fun M w ρ hr _ => by
  have hrun : (execOp ρ o).run C.P w = .ok (.value (.map (some w.heap.size))) (w.alloc (.map #[] 0)) := by
    simp [execOp, ho, Instr.makeMap]
  rw [hrun]
  have hx := Ext.alloc hr ⟨w.heap.size, 0, 0⟩ (.map #[] 0)
  exact ⟨.map σ.length, _, _, hx, hr.alloc ⟨w.heap.size, 0, 0⟩ _ (.map []) rfl ⟨#[], 0, heap_alloc_new _ _, rfl, by simp⟩, RV.map (p := ⟨w.heap.size, 0, 0⟩) (by simp [Plan.add, ← hr.len]), hk⟩

/-- The entries with one put in. -/
def iput : List (Int × CV) → Int → CV → List (Int × CV)
  | [], a, c => [(a, c)]
  | (b, d) :: es, a, c => if a = b then (b, c) :: es else (b, d) :: iput es a c
theorem iput_none {es : List (Int × CV)} {a : Int} {c : CV} (h : es.lookup a = none) : iput es a c = es ++ [(a, c)] := by
  induction es with
  | nil => rfl
  | cons x es ih =>
    obtain ⟨b, d⟩ := x
    rw [List.lookup_cons] at h
    by_cases hab : a = b
    · subst hab; simp at h
    · have h1 : (a == b) = false := by simpa using hab
      rw [h1] at h
      rw [iput, if_neg hab, ih h]
      rfl
theorem iput_some {es : List (Int × CV)} {a : Int} {c : CV} : ∀ {i : Nat}, (es[i]?.map (·.1)) = some a → (∀ j, j < i → (es[j]?.map (·.1)) ≠ some a) → iput es a c = es.set i (a, c) := by
  induction es with
  | nil => intro i h; simp at h
  | cons x es ih =>
    obtain ⟨b, d⟩ := x
    intro i h hmin
    rcases i with _ | i
    · simp at h; subst h; simp [iput]
    · have h0 := hmin 0 (by omega)
      simp at h0
      rw [iput, if_neg (fun h => h0 h.symm), ih (by simpa using h) (fun j hj => by simpa using hmin (j + 1) (by omega))]
      rfl
theorem iput_lookup (es : List (Int × CV)) (a b : Int) (c : CV) : (iput es a c).lookup b = if b = a then some c else es.lookup b := by
  induction es with
  | nil =>
    by_cases h : b = a
    · subst h; simp [iput]
    · have h1 : (b == a) = false := by simpa using h
      simp [iput, h, List.lookup_cons, h1]
  | cons x es ih =>
    obtain ⟨k, d⟩ := x
    by_cases hak : a = k
    · subst hak
      rw [iput, if_pos rfl, List.lookup_cons, List.lookup_cons]
      by_cases h : b = a
      · subst h; simp
      · have h1 : (b == a) = false := by simpa using h
        rw [h1, if_neg h]
    · rw [iput, if_neg hak, List.lookup_cons, List.lookup_cons]
      by_cases h : b = k
      · subst h
        have : ¬ b = a := fun e => hak e.symm
        simp [this]
      · have h1 : (b == k) = false := by simpa using h
        rw [h1]
        exact ih

theorem Rel.setObj {M : Plan} {w : World} (hr : Rel C M σ w) {q : Nat} {p : Pl} {es es' : List (CV × CV)} {ents' : Array MapEntry} {clock' : Nat} (hp : M.pl[q]? = some p) (hσ : σ[q]? = some (.map es)) (hsz : ents'.size = es'.length) (h : ∀ (i : Nat) (x : CV × CV), es'[i]? = some x → ∃ e, ents'[i]? = some e ∧ RV M w x.1 e.key ∧ RV M w x.2 e.val ∧ e.born < clock') :
    Ext M w M (World.putObj w p.block (.map ents' clock')) ∧ Rel C M (σ.set q (.map es')) (World.putObj w p.block (.map ents' clock')) := by
  obtain ⟨h1, hf, hc⟩ := hr.obj q p _ hp hσ
  have hlt := h1.lt rfl
  have hx := Ext.putObj (w := w) (.map ents' clock') (hr.nk q p _ hp hσ rfl) hf hc
  refine ⟨hx, hr.putObj hp hσ rfl hf hc _ ⟨ents', clock', World.putObj_same w _ hlt, hsz, fun i x hi => ?_⟩⟩
  obtain ⟨e, g1, g2, g3, g4⟩ := h i x hi
  exact ⟨e, g1, g2.mono hx, g3.mono hx, g4⟩

theorem run_setObj_map {P : Program} {w : World} {r : Nat} {ents : Array MapEntry} {clock : Nat} (o' : Obj) (h : w.heap[r]? = some (.map ents clock)) : (setObj r o').run P w = .ok () (World.putObj w r o') := by
  simp [setObj, Sem.run, h, World.putObj]

theorem d_mapUpdate_int {t kt et : TypeId} {m kx vx : Operand} {q : Nat} {es : List (Int × CV)} {a : Int} {c : CV} {k0 : IntKind} {K : CRes → List CObj → Prop} (ho : o.op = .mapUpdate t m kx vx) (hm : E.valid m) (hk : E.valid kx) (hv : E.valid vx) (em : E.val C m = .map q) (ek : E.val C kx = .val (.int .i64 a)) (ev : E.val C vx = c)
    (hu : ∀ w, (underlying t).run C.P w = .ok (.map kt et) w) (hkt : ∀ w, (underlying kt).run C.P w = .ok (.int k0) w) (hσ : σ[q]? = some (.map (imap es))) (hK : K (.ret (.val undef)) (σ.set q (.map (imap (iput es a c))))) : Does C σ E o K := fun M w ρ hr h => by
  have h1 := h m (by simp [ho, Op.operands]) hm
  have h2 := h kx (by simp [ho, Op.operands]) hk
  have h3 := h vx (by simp [ho, Op.operands]) hv
  rw [em] at h1
  rw [ek] at h2
  rw [ev] at h3
  generalize hum : ρ m = um at h1
  cases h1 with
  | map hp =>
    rename_i p
    obtain ⟨ents, clock, g1, g2, g3, g4⟩ := imap_obj (hr.obj q p _ hp hσ).1
    have g2' : ents.size = es.length := by simpa using g2
    have hf := imap_ents es ents.toList g2 g3 k0 a 0
    cases hlk : es.lookup a with
    | none =>
      rw [hlk] at hf
      have hrun : (execOp ρ o).run C.P w = .ok .skip (World.putObj w p.block (.map (ents.push { key := .int .i64 a, val := ρ vx, born := clock }) (clock + 1))) := by
        simp [execOp, ho, hum, rv_val h2, Instr.mapUpdate, hu, run_getObj_map g1, run_checkKey_int hkt, Instr.findKey, hkt, hf, run_setObj_map _ g1]
      rw [hrun]
      obtain ⟨hx, hr'⟩ := hr.setObj (es' := imap (iput es a c)) (ents' := ents.push { key := .int .i64 a, val := ρ vx, born := clock }) (clock' := clock + 1) hp hσ (by rw [iput_none hlk]; simp [imap, g2']) (fun i x hi => by
        rw [iput_none hlk] at hi
        simp only [imap, List.map_append, List.map_cons, List.map_nil] at hi
        rw [List.getElem?_append] at hi
        split at hi
        · obtain ⟨e, f1, f2, f3, f4⟩ := g4 i x hi
          have hlt : i < ents.size := (Array.getElem?_eq_some_iff.1 f1).1
          exact ⟨e, by rw [Array.getElem?_push, if_neg (by omega)]; exact f1, f2, f3, by omega⟩
        · rename_i hge
          have hlt := (List.getElem?_eq_some_iff.1 hi).1
          simp at hlt hge
          have hi0 : i = es.length := by omega
          subst hi0
          simp at hi
          subst hi
          exact ⟨_, by rw [Array.getElem?_push, if_pos (by omega)], .val _, h3, by simp⟩)
      exact ⟨.val undef, _, M, hx, hr', .val _, hK⟩
    | some c0 =>
      rw [hlk] at hf
      obtain ⟨i, u, f1, f2, f3, f4, f5⟩ := hf
      rw [Nat.zero_add] at f1
      have hie : i < ents.size := by omega
      obtain ⟨⟨b, d⟩, hes⟩ : ∃ x, es[i]? = some x := ⟨es[i], by simp [f2]⟩
      have hb : b = a := by rw [hes] at f4; simpa using f4
      subst hb
      obtain ⟨e, e1, e2, e3, e4⟩ := g4 i (.val (.int .i64 b), d) (by simp [imap, hes])
      have hkey : e.key = .int .i64 b := rv_val e2
      have hei : ents[i] = e := by
        have := e1
        rw [Array.getElem?_eq_getElem hie] at this
        injection this
      have hrun : (execOp ρ o).run C.P w = .ok .skip (World.putObj w p.block (.map (ents.modify i fun e => { e with key := .int .i64 b, val := ρ vx }) clock)) := by
        simp [execOp, ho, hum, rv_val h2, Instr.mapUpdate, hu, run_getObj_map g1, run_checkKey_int hkt, Instr.findKey, hkt, f1, run_setObj_map _ g1, Instr.keyThatStays, e1, hkey, Instr.sameBits]
      rw [hrun]
      have hput := iput_some (c := c) f4 f5
      obtain ⟨hx, hr'⟩ := hr.setObj (es' := imap (iput es b c)) (ents' := ents.modify i fun e => { e with key := .int .i64 b, val := ρ vx }) (clock' := clock) hp hσ (by rw [hput]; simp [imap, g2']) (fun j x hj => by
        rw [hput] at hj
        simp only [imap, List.map_set, List.getElem?_set] at hj
        split at hj
        · rename_i hij
          subst hij
          split at hj
          · injection hj with hj
            subst hj
            exact ⟨{ e with key := .int .i64 b, val := ρ vx }, by rw [Array.getElem?_modify, if_pos rfl, e1]; rfl, .val _, h3, e4⟩
          · cases hj
        · rename_i hij
          obtain ⟨e', g1', g2'', g3', g4'⟩ := g4 j x hj
          exact ⟨e', by rw [Array.getElem?_modify, if_neg hij]; exact g1', g2'', g3', g4'⟩)
      exact ⟨.val undef, _, M, hx, hr', .val _, hK⟩
end
end Go.Cl
