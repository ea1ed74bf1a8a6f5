import Derived.Test.YtchaklkfaemfgaaK20
namespace Go.Cl
section
variable {C : Ctx} {n : Nat} {σ : List CObj} {ops : Array Oper}
theorem hop_y {E : Env} {o : Oper} {c : CV} (hg : o.guard = none) (hy : Yields C σ E o c) : HeadOp C σ ops o E c True := .inl ⟨hg, trivial, hy⟩
theorem hop_g {E : Env} {o : Oper} {j t : Nat} {want b : Bool} {c : CV} (hg : o.guard = some (j, want)) (ht : (ops[j]?).bind (·.dst) = some t) (hv : E.ok t) (hb : E.f t = .val (.bool b)) (hy : b = want → Yields C σ E o c) : HeadOp C σ ops o E c (b = want) :=
  .inr ⟨j, t, want, b, hg, ht, fun h => absurd hv h, hb, ⟨fun h => ⟨hv, h⟩, fun h => h.2⟩, fun _ => hy⟩
theorem hop_g2 {E : Env} {o : Oper} {j t : Nat} {want b : Bool} {c : CV} (hg : o.guard = some (j, want)) (ht : (ops[j]?).bind (·.dst) = some t) (hv : ¬ E.ok t → E.un t) (hb : E.f t = .val (.bool b)) (hy : E.ok t → b = want → Yields C σ E o c) : HeadOp C σ ops o E c (E.ok t ∧ b = want) :=
  .inr ⟨j, t, want, b, hg, ht, hv, hb, Iff.rfl, hy⟩
theorem chf_nil {K : Env → List (List CObj → Prop) → Prop} {E : Env} {S : List (List CObj → Prop)} (h : K E S) : CHeadF C σ ops K [] E S := h
theorem chf {K : Env → List (List CObj → Prop) → Prop} {i : Nat} {l : List Nat} {E : Env} {S : List (List CObj → Prop)} {o : Oper} {c : CV} {g : Prop} (ho : ops[i]? = some o) (hop : HeadOp C σ ops o E c g) (h : CHeadF C σ ops K l (E.put o.dst c g) (S ++ [fun σ' => HeadOp C σ' ops o E c g])) : CHeadF C σ ops K (i :: l) E S :=
  ⟨o, c, g, ho, hop, h⟩
theorem ctl_nil {Q : CExit → Env → List CObj → Prop} {E : Env} {S : List (List CObj → Prop)} (h : Q .normal E σ) : CTail C ops Q S [] E σ := h
theorem ctl_d {Q : CExit → Env → List CObj → Prop} {E : Env} {S : List (List CObj → Prop)} {i : Nat} {fl : List Nat} {l : List (Nat × List Nat)} {o : Oper} (ho : ops[i]? = some o) (hg : o.guard = none) (h : Does C σ E o fun r σ' => match r with | .ret c => Floats S σ' fl ∧ CTail C ops Q S l (E.put o.dst c True) σ' | .pan _ => False) : CTail C ops Q S ((i, fl) :: l) E σ :=
  ⟨o, ho, .inl ⟨hg, h⟩⟩
theorem ctl_h {Q : CExit → Env → List CObj → Prop} {E : Env} {S : List (List CObj → Prop)} {i : Nat} {fl : List Nat} {l : List (Nat × List Nat)} {o : Oper} {c : CV} {g : Prop} (ho : ops[i]? = some o) (hop : HeadOp C σ ops o E c g) (h : Floats S σ fl ∧ CTail C ops Q S l (E.put o.dst c g) σ) : CTail C ops Q S ((i, fl) :: l) E σ :=
  ⟨o, ho, .inr ⟨c, g, hop, h⟩⟩
end
end Go.Cl
