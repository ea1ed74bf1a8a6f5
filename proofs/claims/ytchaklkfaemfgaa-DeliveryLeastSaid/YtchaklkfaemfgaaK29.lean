import Derived.Test.YtchaklkfaemfgaaK28
namespace Go.Cl
open Go Go.ChangeShapes Go.WideShapes Go.RowKit Go.ChangeAt
/-- A law's row without listed variables, lifted. -/
theorem law_lifted0 {C : Checked} {os : Os} {f : FuncId} {fn : Func} {s : ChangeSpec} {CX : Ctx} {H : Type} {enc : TypeId × Value → H} {fresh handsOn again : Bool} {tb : TypeId}
    (hP : CX.P = C.prog) (own : ownKnob C.prog.godebug = none) (started : os.Started) (noInit : C.prog.inits.idxOf? f = none) (hfn : C.prog.funcs[f]? = some fn)
    (hl : laidOutB C.prog = true) (hread : ∀ t ∈ fn.params.toList, C.prog.readableRec t = true ∧ t < C.prog.types.size) (hv : s.vars = [])
    (hs : ∀ ds : List (DataW H), ds.length = fn.params.size → s.fn H ds = { results := [.lit (.bool true)], args := ds })
    (hrt : fn.resultTypes = #[tb]) (htb : C.prog.underlying tb = some .bool) (hg : ∀ g, CX.glob g = none)
    (witness : ∃ (w : World) (tape : Tape) (i : Input), w.os = os ∧ (w.forCall tape i).Shaped C.prog ∧ i.vars = [] ∧ Input.okWide C.prog (w.forCall tape i) .any w.heap.size f i ∧
      s.pre6 enc C.prog fn [] false (w.forCall tape i).memory i.args ∧ ({} : Assume).holds C.prog (lone (Frame.enter C.prog f i.args .normal) [] (w.forCall tape i)))
    (walk : ∀ (W : World) (base : Nat) (args : Array Value) (ds : List (DataW H)) (ps : List MemPlace), (∀ (j : Nat) t v, fn.params[j]? = some t → args[j]? = some v → Value.okWide C.prog W .any base t v) →
      DataW.TrodAll enc C.prog W 0 (fun _ => true) true fn.params.toList args.toList ds ps →
      ∃ cvs : List CV, args.size = cvs.length ∧ (∀ (i : Nat) (c : CV), cvs[i]? = some c → RV (whole W) W c (args.getD i undef)) ∧ CCalls CX f cvs [] fun r σ' => r = .ret (.val (.bool true)) ∧ σ' = []) :
    ReturnsInHanded {} C os f .any (s.pre6 enc C.prog fn [] false) (s.post enc C.prog fn false fresh handsOn again) := by
  refine returnsInHanded_of_change (C := C) own started noInit hfn witness ?_
  intro W base args ds gs before hval hW _ _
  have hW' := hW
  obtain ⟨p, q, hA, hV, rfl, -, -⟩ := hW
  rw [hv] at hV
  have hgs : gs = [] ∧ q = [] := by
    cases gs with
    | nil => exact ⟨rfl, hV⟩
    | cons g r => exact hV.elim
  obtain ⟨rfl, rfl⟩ := hgs
  obtain ⟨cvs, h1, h2, h3⟩ := walk W base args ds p hval hA
  have hdl : ds.length = fn.params.size := by
    have : ∀ {ts : List TypeId} {vs : List Value} {ds : List (DataW H)} {ps : List MemPlace}, DataW.TrodAll enc C.prog W 0 (fun _ => true) true ts vs ds ps → ds.length = ts.length := by
      intro ts
      induction ts with
      | nil => intro vs ds ps h; obtain ⟨-, rfl, -⟩ := trodAll_nil h; rfl
      | cons t ts ih => intro vs ds ps h; obtain ⟨v, vs1, d, ds1, a, b, -, rfl, -, -, h2⟩ := trodAll_cons h; simp [ih h2]
    simpa using this hA
  have hsd := hs (ds ++ []) (by simpa using hdl)
  have hc := calls_of_ccalls (C := CX) (fun g cells h => by rw [hg g] at h; cases h) h1 h2 h3
  rw [hP] at hc
  refine hc.mono fun e W' ⟨he, hb⟩ => ⟨_, he, ?_⟩
  refine post_below (pa := p) (pv := []) hW' (fun b sp hd => ?_) (fun sp hsp => ?_) (fun sp _ => ?_) rfl hb ?_
  · rw [hsd, hrt]; exact trodAll_mk1 (shut_bool htb _)
  · rw [hsd]
    have hlt : ∀ x ∈ p, x.block < W.heap.size := fun x hx => hW'.lt x (by simp [hx])
    simpa using trodAll_stays hl hb hread hA hlt fun x hx => hsp x (by simp [hx])
  · rw [hsd, hv]; rfl
  · exact ok_one hrt rfl (okWide_bool_mk htb _)
end Go.Cl
