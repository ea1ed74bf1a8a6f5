import Derived.Test.YtchaklkfaemfgaaK23
import Derived.Below
import Derived.WideKeyArgs
import Derived.ChangeSame
import Derived.ChangeSlices
import Derived.Lib.SmallJoins
import Derived.LaidLaws
import Derived.LaidMore
import Derived.LaidHandle
import Derived.JoinedOf
import Derived.Handed
import Derived.Stop.Joined
namespace Go.Cl
open Go Go.ChangeShapes Go.WideShapes Go.RowKit Go.ChangeAt
/-! From a clean contract to a row: the arguments' readings; the end of a row. -/

/-- All that is there before a call: settled. -/
def whole (w : World) : Plan := { pl := [], full := fun b => b < w.heap.size, cell := fun _ _ => False, keep := fun b => b < w.heap.size }
theorem heap_of_cell {w : World} {a : Addr} {v : Value} (h : w.cell? a = some v) : a.block < w.heap.size ∧ a.spot = none := by
  unfold World.cell? at h
  split at h
  · rename_i hw
    refine ⟨(Array.getElem?_eq_some_iff.1 hw).1, ?_⟩
    cases hs : a.spot with
    | none => rfl
    | some s => rw [hs] at h; simp at h
  · cases h
theorem add_of_cell {w : World} {a : Addr} {k : Nat} {v : Value} (h : w.cell? (a.add k) = some v) : a.add k = ⟨a.block, a.off + k, none⟩ := by
  have hs := (heap_of_cell h).2
  unfold Addr.add at hs ⊢
  by_cases hk : k = 0
  · rw [if_pos hk] at hs ⊢
    subst hk; cases a; simp at hs; subst hs; rfl
  · rw [if_neg hk]
theorem whole_at {w : World} {a : Addr} {v : Value} (h : w.cell? a = some v) (o : Nat) : (whole w).at a.block o := .inl (heap_of_cell h).1
theorem whole_rel {C : Ctx} {w : World} (hg : ∀ g cells, C.glob g = some cells → RV (whole w) w (.cptr cells) (.pointer (some ⟨g, 0, none⟩))) : Rel C (whole w) [] w := by
  refine ⟨rfl, fun b o h => ?_, fun k p ob h => ?_, fun k k' p p' ob ob' h => ?_, hg, fun b h => h, fun k p ob h => ?_⟩
  · rcases h with h | h
    · exact h
    · exact h.elim
  all_goals simp [whole] at h

theorem below_of_ext {w w' : World} {M' : Plan} (h : Ext (whole w) w M' w') : Below w.heap.size w w' :=
  ⟨h.os, h.tape, h.output, h.size, fun k hk => h.same k hk⟩

theorem calls_of_ccalls {C : Ctx} {f : FuncId} {cvs : List CV} {W : World} {args : Array Value} {u : Value}
    (hg : ∀ g cells, C.glob g = some cells → RV (whole W) W (.cptr cells) (.pointer (some ⟨g, 0, none⟩)))
    (hn : args.size = cvs.length) (ha : ∀ (i : Nat) (c : CV), cvs[i]? = some c → RV (whole W) W c (args.getD i undef))
    (h : CCalls C f cvs [] fun r σ' => r = .ret (.val u) ∧ σ' = []) : Calls C.P f args W fun e W' => e = .returned u ∧ Below W.heap.size W W' := by
  refine (h (whole W) W args (whole_rel hg) hn ha).mono fun e W' he => ?_
  cases e with
  | returned v =>
    obtain ⟨c, σ', M', h1, h2, h3, h4, h5⟩ := he
    cases h4
    cases h3
    exact ⟨rfl, below_of_ext h1⟩
  | panicked ch =>
    obtain ⟨c, v, σ', M', -, -, -, -, h4, -⟩ := he
    cases h4
  | outgrown => exact he.elim

/-! ### Readings, cell by cell -/
structure RCs (w : World) (row : List CV) (cs : List Value) : Prop where
  len : row.length = cs.length
  one : ∀ c ∈ row, c.one = true
  rv : ∀ (j : Nat) (c : CV), row[j]? = some c → RV (whole w) w c (cs.getD j undef)

theorem RCs.nil {w : World} : RCs w [] [] := ⟨rfl, fun c h => by simp at h, fun j c h => by simp at h⟩
theorem RCs.cons {w : World} {c : CV} {v : Value} {row : List CV} {cs : List Value} (h1 : c.one = true) (h2 : RV (whole w) w c v) (h : RCs w row cs) : RCs w (c :: row) (v :: cs) := by
  refine ⟨by simp [h.len], fun x hx => ?_, fun j x hj => ?_⟩
  · rcases List.mem_cons.1 hx with rfl | hx
    · exact h1
    · exact h.one x hx
  · rcases j with _ | j
    · simp at hj; subst hj; simpa using h2
    · simpa using h.rv j x (by simpa using hj)
theorem RCs.val {w : World} {v : Value} {row : List CV} {cs : List Value} (h1 : v.oneCell' = true) (h : RCs w row cs) : RCs w (.val v :: row) (v :: cs) := h.cons h1 (.val v)
theorem RCs.agg {w : World} {row : List CV} {cs : List Value} (h : RCs w row cs) : RV (whole w) w (.agg row) (.agg cs.toArray) := by
  refine .agg (by simp [h.len]) h.one fun i c hi => ?_
  have := h.rv i c hi
  rw [List.getD_eq_getElem?_getD] at this
  rw [Array.getD_eq_getD_getElem?]
  simpa using this

section
variable {H : Type} {enc : TypeId × Value → H} {P : Program} {w : World} {base : Nat} {spare : Nat → Bool} {held : Bool}
/-- A slice of elements that read. -/
theorem tr_slice {α : Type} [Inhabited α] (f : α → List CV) (Q : α → Prop) {t e : TypeId} {fuel : Nat} {cs : List Value} {x : DataW H × List MemPlace} (ht : P.underlying t = some (.slice e)) {s : Nat} (hs : P.cellsOf e = s) (h0 : 0 < s)
    (hel : ∀ (n : Nat) (cs : List Value) (y : DataW H × List MemPlace), DataW.trod enc P w base spare held n e cs = some y → ∃ a, Q a ∧ RCs w (f a) cs)
    (h : DataW.trod enc P w base spare held fuel t cs = some x) :
    ∃ (l : List α) (nn : Bool) (v : Value), cs = [v] ∧ RV (whole w) w (.list (l.map f) nn none) v ∧ l.length ≤ maxLen ∧ (∀ a ∈ l, Q a) ∧ (nn = false → l = []) := by
  rcases DataW.trod_slice ht h with ⟨rfl, -⟩ | ⟨a, len, cap, elems, rest, n, -, rfl, -, hb, hl, hm, hlen, hE, -, -⟩
  · exact ⟨[], false, _, rfl, .list (b := 0) (off := 0) (s := s) (fun _ _ => undef) (Nat.le_refl _) (Nat.zero_le _) rfl (fun _ => rfl) (fun h => by simp at h) (fun r hr => by simp at hr) (fun r hr => by simp at hr) (fun i j r c hi => by simp at hi) (fun i j r c hi => by simp at hi) (fun k hk => by cases hk), Nat.zero_le _, fun a ha => by simp at ha, fun _ => rfl⟩
  · have key : ∀ i : Nat, i < len → ∃ (a' : α) (cs' : List Value), Q a' ∧ RCs w (f a') cs' ∧ cs'.length = s ∧ ∀ j, j < s → w.cell? (a.add (i * s + j)) = some (cs'.getD j undef) := by
      intro i hi
      have h1 := hE i hi
      have h2 : elems[i]? = some (elems[i]'(by omega)) := List.getElem?_eq_getElem (by omega)
      rw [h2, Option.bind_eq_some_iff] at h1
      obtain ⟨cs', hc, hy⟩ := h1
      obtain ⟨a', hQ, hR⟩ := hel _ _ _ hy
      obtain ⟨-, hcl, hat⟩ := World.cells?_some hc
      rw [hs] at hcl hat
      refine ⟨a', cs', hQ, hR, hcl, fun j hj => ?_⟩
      have := hat j hj
      rw [List.getElem?_eq_getElem (by omega)] at this
      rw [List.getD_eq_getElem?_getD, List.getElem?_eq_getElem (by omega)]
      rw [← Go.Deep.add_add, this]; rfl
    have hch : ∃ F : Nat → α, ∃ G : Nat → List Value, ∀ i, i < len → Q (F i) ∧ RCs w (f (F i)) (G i) ∧ (G i).length = s ∧ ∀ j, j < s → w.cell? (a.add (i * s + j)) = some ((G i).getD j undef) := by
      classical
      by_cases hlz : len = 0
      · subst hlz
        exact ⟨fun _ => default, fun _ => [], fun i hi => absurd hi (Nat.not_lt_zero _)⟩
      · obtain ⟨a0, -⟩ := key 0 (by omega)
        have : ∀ i : Nat, ∃ p : α × List Value, i < len → Q p.1 ∧ RCs w (f p.1) p.2 ∧ p.2.length = s ∧ ∀ j, j < s → w.cell? (a.add (i * s + j)) = some (p.2.getD j undef) := fun i => by
          by_cases hi : i < len
          · obtain ⟨a', cs', h⟩ := key i hi
            exact ⟨(a', cs'), fun _ => h⟩
          · exact ⟨(a0, []), fun h => absurd h hi⟩
        exact ⟨fun i => (Classical.choose (this i)).1, fun i => (Classical.choose (this i)).2, fun i hi => Classical.choose_spec (this i) hi⟩
    obtain ⟨F, G, hF⟩ := hch
    have hrow : ∀ (i : Nat) (r : List CV), (((List.range len).map F).map f)[i]? = some r → i < len ∧ r = f (F i) := fun i r hi => by
      rw [List.map_map, List.getElem?_map] at hi
      rcases Nat.lt_or_ge i len with h | h
      · rw [List.getElem?_range h] at hi
        exact ⟨h, (Option.some.inj hi).symm⟩
      · rw [List.getElem?_eq_none (by simpa using h)] at hi
        cases hi
    have hmem : ∀ r ∈ ((List.range len).map F).map f, ∃ i, i < len ∧ r = f (F i) := fun r hr => by
      obtain ⟨i, hi⟩ := List.mem_iff_getElem?.1 hr
      exact ⟨i, hrow i r hi⟩
    have hlen' : (((List.range len).map F).map f).length = len := by simp
    refine ⟨(List.range len).map F, true, _, rfl, ?_, by simp; omega, fun x hx => ?_, fun h => by cases h⟩
    · have := RV.list (M := whole w) (w := w) (rows := ((List.range len).map F).map f) (nn := true) (tok := none) (a := some a) (cap := cap) (b := a.block) (off := a.off) (s := s) (fun i j => (G i).getD j undef)
        (by rw [hlen']; exact hl) hm rfl (fun h => by cases h) (fun hne => ?_) (fun r hr => ?_) (fun r hr => ?_) (fun i j r c hi hj => ?_) (fun i j r c hi hj => ?_) (fun k hk => by cases hk)
      · rw [hlen'] at this; exact this
      · rcases Nat.eq_zero_or_pos len with hz | hz
        · subst hz; exact absurd rfl hne
        · have := (hF 0 hz).2.2.2 0 h0
          have := add_of_cell this
          simpa [Addr.add] using this
      · obtain ⟨i, hi, rfl⟩ := hmem r hr
        rw [(hF i hi).2.1.len, (hF i hi).2.2.1]
      · obtain ⟨i, hi, rfl⟩ := hmem r hr
        exact (hF i hi).2.1.one
      · obtain ⟨hi', rfl⟩ := hrow i r hi
        have hjs : j < s := by
          have := (List.getElem?_eq_some_iff.1 hj).1
          rw [(hF i hi').2.1.len, (hF i hi').2.2.1] at this
          exact this
        have hc := (hF i hi').2.2.2 j hjs
        rw [add_of_cell hc, ← Nat.add_assoc] at hc
        exact ⟨whole_at hc _, hc⟩
      · obtain ⟨hi', rfl⟩ := hrow i r hi
        exact (hF i hi').2.1.rv j c hj
    · obtain ⟨i, hi, rfl⟩ := List.mem_map.1 hx
      exact (hF i (by simpa using hi)).1
end

/-! ### The end of a row of a law -/
theorem trodAll_stays {H : Type} {enc : TypeId × Value → H} {P : Program} (hl : laidOutB P = true) {W W' : World} (hb : Below W.heap.size W W') {sp : Nat → Bool} : ∀ {ts : List TypeId} {vs : List Value} {ds : List (DataW H)} {ps : List MemPlace}, (∀ t ∈ ts, P.readableRec t = true ∧ t < P.types.size) → DataW.TrodAll enc P W 0 (fun _ => true) true ts vs ds ps → (∀ p ∈ ps, p.block < W.heap.size) → (∀ p ∈ ps, sp p.block = true) → DataW.TrodAll enc P W' 0 sp true ts vs ds ps
  | [], [], [], _, _, h, _, _ => h
  | t :: ts, v :: vs, d :: ds, ps, hr, h, hlt, hsp => by
    obtain ⟨p, q, h1, h2, rfl⟩ := h
    exact ⟨p, q, WideElems.Trod_stays hl (hr t (by simp)).1 (hr t (by simp)).2 h1 (fun x hx => hb.same (hlt x (by simp [hx]))) (fun x hx => hsp x (by simp [hx])),
      trodAll_stays hl hb (fun t ht => hr t (by simp [ht])) h2 (fun x hx => hlt x (by simp [hx])) (fun x hx => hsp x (by simp [hx])), rfl⟩
  | [], _ :: _, _, _, _, h, _, _ => h.elim
  | [], [], _ :: _, _, _, h, _, _ => h.elim
  | _ :: _, [], _, _, _, h, _, _ => h.elim
  | _ :: _, _ :: _, [], _, _, h, _, _ => h.elim

theorem read_all {P : Program} {ts : List TypeId} (h : (ts.all fun t => P.readableRec t && decide (t < P.types.size)) = true) : ∀ t ∈ ts, P.readableRec t = true ∧ t < P.types.size := fun t ht => by
  have := List.all_eq_true.1 h t ht
  simpa using this

theorem post_below {H : Type} {enc : TypeId × Value → H} {P : Program} {f : Func} {s : ChangeSpec} {apart fresh handsOn again : Bool} {W W' : World} {args : Array Value} {v : Value} {ds gs : List (DataW H)} {before pa pv : List MemPlace}
    (hW : DataW.Whole enc P f.params.toList s.vars apart W args.toList ds gs before)
    (hres : ∀ (b : Nat) (sp : Nat → Bool) (hd : Bool), DataW.TrodAll enc P W' b sp hd f.resultTypes.toList (v.resultList f.resultTypes.size) (s.fn H (ds ++ gs)).results [])
    (hargs : ∀ sp : Nat → Bool, (∀ p ∈ before, sp p.block = true) → DataW.TrodAll enc P W' 0 sp true f.params.toList args.toList (s.fn H (ds ++ gs)).args pa)
    (hvars : ∀ sp : Nat → Bool, (∀ p ∈ before, sp p.block = true) → DataW.TrodVars enc P W' sp s.vars (s.fn H (ds ++ gs)).vars pv)
    (hps : before = pa ++ pv) (hb : Below W.heap.size W W')
    (hok : ∀ (j : Nat) (t : TypeId) (r : Value), f.resultTypes[j]? = some t → (v.resultList f.resultTypes.size)[j]? = some r → Value.okWide P W' .any 0 t r) :
    s.post enc P f apart fresh handsOn again W args v W' := by
  have hlt : ∀ p ∈ before, p.block < W.heap.size := fun p hp => hW.lt p hp
  have hold : ∀ p ∈ before, (fun b => decide (b < W.heap.size)) p.block = true := fun p hp => by simpa using hlt p hp
  refine ⟨ds, gs, before, [], pa, pv, hW, hres _ _ _, hargs _ hold, hvars _ hold, World.keptBut_mono (fun p hp => ⟨hp, ?_⟩) (hb.frame (· ∈ before)), fun _ => ?_⟩
  · rw [hps, List.mem_append] at hp
    exact Or.inr hp
  · obtain ⟨_, _, _, _, _, hz, hn⟩ := hW
    refine ⟨hok, _, _, ([] ++ pa) ++ pv, ⟨[] ++ pa, pv, trodAll_append (hargs _ (fun _ _ => rfl)) (hres _ _ _), hvars _ (fun _ _ => rfl), rfl, ?_, ?_⟩, ?_⟩
    · intro b off hp
      have hin : MemPlace.cell b off ∈ before := by rw [hps]; simpa using hp
      rw [hb.frozen (hlt _ hin)]
      exact hz b off hin
    · intro ha
      have := hn ha
      rw [hps] at this
      simpa using this
    · intro p hp _
      rw [hps]
      simpa using hp

/-- A law's row, lifted: from the clean contract at every input. -/
theorem law_lifted {C : Checked} {os : Os} {f : FuncId} {fn : Func} {s : ChangeSpec} {CX : Ctx} {laid : List (String × DataW Unit)} {H : Type} {enc : TypeId × Value → H} {fresh handsOn again : Bool} {tb : TypeId} (args0 : Array Value) (fuel : Nat) (w0 : World)
    (hP : CX.P = C.prog) (own : ownKnob C.prog.godebug = none) (started : os.Started) (noInit : C.prog.inits.idxOf? f = none) (hfn : C.prog.funcs[f]? = some fn)
    (hl : laidOutB C.prog = true) (hread : ∀ t ∈ fn.params.toList, C.prog.readableRec t = true ∧ t < C.prog.types.size) (hv : s.vars = [])
    (hs : ∀ ds : List (DataW H), ds.length = fn.params.size → s.fn H ds = { results := [.lit (.bool true)], args := ds })
    (hrt : fn.resultTypes = #[tb]) (htb : C.prog.underlying tb = some .bool)
    (hg : ∀ W, laidMetH C.prog laid W → ∀ g cells, CX.glob g = some cells → RV (whole W) W (.cptr cells) (.pointer (some ⟨g, 0, none⟩)))
    (hos : w0.os = os) (hsh : (w0.forCall (fun _ _ => 0) ⟨#[], args0, []⟩).Shaped C.prog)
    (hok : Input.okWideB C.prog (w0.forCall (fun _ _ => 0) ⟨#[], args0, []⟩) f ⟨#[], args0, []⟩ = true)
    (hpre : s.preB enc C.prog fn [] false (w0.forCall (fun _ _ => 0) ⟨#[], args0, []⟩).memory args0 fuel = true)
    (hsz : s.sizedB enc C.prog fn false (w0.forCall (fun _ _ => 0) ⟨#[], args0, []⟩).memory args0 fuel = true)
    (hx : laidMetH C.prog laid (w0.forCall (fun _ _ => 0) ⟨#[], args0, []⟩).memory)
    (walk : ∀ (W : World) (base : Nat) (args : Array Value) (ds : List (DataW H)) (ps : List MemPlace), (∀ (j : Nat) t v, fn.params[j]? = some t → args[j]? = some v → Value.okWide C.prog W .any base t v) →
      DataW.TrodAll enc C.prog W 0 (fun _ => true) true fn.params.toList args.toList ds ps →
      ∃ cvs : List CV, args.size = cvs.length ∧ (∀ (i : Nat) (c : CV), cvs[i]? = some c → RV (whole W) W c (args.getD i undef)) ∧ CCalls CX f cvs [] fun r σ' => r = .ret (.val (.bool true)) ∧ σ' = []) :
    ReturnsInHanded {} C os f .any (fun w args => (s.pre enc C.prog fn [] false w args ∧ laidMetH C.prog laid w) ∧ sizedMet enc C.prog fn (OpenSpec.ofChange s) false w args) (s.post enc C.prog fn false fresh handsOn again) := by
  refine returnsInHanded_of_change_and (C := C) (X := fun w _ => laidMetH C.prog laid w) (fun _ _ _ hh h => h.of_heap hh) own started noInit hfn
    (ChangeSpec.witness_shaped (enc := enc) (C := C) (os := os) (X := fun w _ => laidMetH C.prog laid w) false w0 args0 fuel hos hsh hok hpre hsz hx) ?_
  intro W base args ds gs before hval hW _ _ hL _
  have hW' := hW
  obtain ⟨p, q, hA, hV, rfl, -, -⟩ := hW
  rw [hv] at hV
  have hgs : gs = [] ∧ q = [] := by
    cases gs with
    | nil => exact ⟨rfl, hV⟩
    | cons g r => exact hV.elim
  obtain ⟨rfl, rfl⟩ := hgs
  obtain ⟨cvs, h1, h2, h3⟩ := walk W base args ds p hval hA
  have hdl : ds.length = fn.params.size := by
    have : ∀ {ts : List TypeId} {vs : List Value} {ds : List (DataW H)} {ps : List MemPlace}, DataW.TrodAll enc C.prog W 0 (fun _ => true) true ts vs ds ps → ds.length = ts.length := by
      intro ts
      induction ts with
      | nil => intro vs ds ps h; obtain ⟨-, rfl, -⟩ := trodAll_nil h; rfl
      | cons t ts ih => intro vs ds ps h; obtain ⟨v, vs1, d, ds1, a, b, -, rfl, -, -, h2⟩ := trodAll_cons h; simp [ih h2]
    simpa using this hA
  have hsd := hs (ds ++ []) (by simpa using hdl)
  have hc := calls_of_ccalls (hg W hL) h1 h2 h3
  rw [hP] at hc
  refine hc.mono fun e W' ⟨he, hb⟩ => ⟨_, he, ?_⟩
  refine post_below (pa := p) (pv := []) hW' (fun b sp hd => ?_) (fun sp hsp => ?_) (fun sp _ => ?_) rfl hb ?_
  · rw [hsd, hrt]; exact trodAll_mk1 (shut_bool htb _)
  · rw [hsd]
    have hlt : ∀ x ∈ p, x.block < W.heap.size := fun x hx => hW'.lt x (by simp [hx])
    simpa using trodAll_stays hl hb hread hA hlt fun x hx => hsp x (by simp [hx])
  · rw [hsd, hv]; rfl
  · exact ok_one hrt rfl (okWide_bool_mk htb _)
end Go.Cl
