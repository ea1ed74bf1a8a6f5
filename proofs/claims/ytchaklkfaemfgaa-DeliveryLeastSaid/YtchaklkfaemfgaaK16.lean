import Derived.Test.YtchaklkfaemfgaaK15
namespace Go.Cl

noncomputable def pb (P : Prop) : Bool := @decide P (Classical.propDecidable P)
theorem pb_iff {b : Bool} {P : Prop} (h : b = true ↔ P) : b = pb P := by
  unfold pb
  rw [Bool.eq_iff_iff, h]; simp
theorem pb_true {P : Prop} (h : P) : true = pb P := pb_iff ⟨fun _ => h, fun _ => rfl⟩
theorem pb_false {P : Prop} (h : ¬ P) : false = pb P := pb_iff ⟨fun e => absurd e (by decide), fun e => absurd e h⟩
theorem pb_eq {P : Prop} : pb P = true ↔ P := by simp [pb]
theorem pb_ne {P : Prop} : pb P = false ↔ ¬ P := by simp [pb]
theorem pb_congr {P R : Prop} (h : P ↔ R) : pb P = pb R := by rw [propext h]

/-- Maps from numbers to numbers. -/
def iimap (es : List (Int × Int)) : List (CV × CV) := imap (es.map fun x => (x.1, .val (.int .i64 x.2)))
def ilk (es : List (Int × Int)) (a : Int) : Int := (es.lookup a).getD 0
def iset : List (Int × Int) → Int → Int → List (Int × Int)
  | [], a, c => [(a, c)]
  | (b, d) :: es, a, c => if a = b then (b, c) :: es else (b, d) :: iset es a c
theorem iset_iput (es : List (Int × Int)) (a v : Int) : iput (es.map fun x => (x.1, CV.val (.int .i64 x.2))) a (.val (.int .i64 v)) = (iset es a v).map fun x => (x.1, CV.val (.int .i64 x.2)) := by
  induction es with
  | nil => rfl
  | cons x es ih =>
    obtain ⟨b, d⟩ := x
    simp only [List.map_cons, iput, iset]
    split
    · rfl
    · rw [List.map_cons, ih]
theorem ilk_iset (es : List (Int × Int)) (a v b : Int) : ilk (iset es a v) b = if b = a then v else ilk es b := by
  unfold ilk
  induction es with
  | nil =>
    by_cases h : b = a
    · subst h; simp [iset]
    · have h1 : (b == a) = false := by simpa using h
      simp [iset, h, List.lookup_cons, h1]
  | cons x es ih =>
    obtain ⟨k, d⟩ := x
    by_cases hak : a = k
    · subst hak
      rw [iset, if_pos rfl, List.lookup_cons, List.lookup_cons]
      by_cases h : b = a
      · subst h; simp
      · have h1 : (b == a) = false := by simpa using h
        rw [h1, if_neg h]
    · rw [iset, if_neg hak, List.lookup_cons, List.lookup_cons]
      by_cases h : b = k
      · subst h
        have : ¬ b = a := fun e => hak e.symm
        simp [this]
      · have h1 : (b == k) = false := by simpa using h
        rw [h1]
        exact ih
theorem lookup_ii (es : List (Int × Int)) (a : Int) : ((es.map fun x => (x.1, CV.val (.int .i64 x.2))).lookup a).getD (.val (.int .i64 0)) = .val (.int .i64 (ilk es a)) := by
  unfold ilk
  induction es with
  | nil => rfl
  | cons x es ih =>
    obtain ⟨k, d⟩ := x
    rw [List.map_cons, List.lookup_cons, List.lookup_cons]
    by_cases h : a = k
    · subst h; simp
    · have h1 : (a == k) = false := by simpa using h
      rw [h1]
      exact ih

section
variable {C : Ctx} {n : Nat} {Q : CExit → Env → List CObj → Prop} {E : Env} {σ : List CObj} {o : Oper}
theorem y_lookup_ii {t kt et : TypeId} {m kx : Operand} {q : Nat} {es : List (Int × Int)} {a : Int} {k0 : IntKind} (ho : o.op = .lookup t m kx false) (hm : E.valid m) (hk : E.valid kx) (em : E.val C m = .map q) (ek : E.val C kx = .val (.int .i64 a))
    (hu : ∀ w, (underlying t).run C.P w = .ok (.map kt et) w) (hkt : ∀ w, (underlying kt).run C.P w = .ok (.int k0) w) (hz : ∀ w, (zeroValue et).run C.P w = .ok (.int .i64 0) w) (hσ : σ[q]? = some (.map (iimap es))) : Yields C σ E o (.val (.int .i64 (ilk es a))) := by
  have := y_lookup_int ho hm hk em ek hu hkt hz rfl hσ
  rw [show cvOf (.int .i64 0) = CV.val (.int .i64 0) from rfl, lookup_ii] at this
  exact this
theorem d_mapUpdate_ii {t kt et : TypeId} {m kx vx : Operand} {q : Nat} {es : List (Int × Int)} {a v : Int} {k0 : IntKind} {K : CRes → List CObj → Prop} (ho : o.op = .mapUpdate t m kx vx) (hm : E.valid m) (hk : E.valid kx) (hv : E.valid vx) (em : E.val C m = .map q) (ek : E.val C kx = .val (.int .i64 a)) (ev : E.val C vx = .val (.int .i64 v))
    (hu : ∀ w, (underlying t).run C.P w = .ok (.map kt et) w) (hkt : ∀ w, (underlying kt).run C.P w = .ok (.int k0) w) (hσ : σ[q]? = some (.map (iimap es))) (hK : K (.ret (.val undef)) (σ.set q (.map (iimap (iset es a v))))) : Does C σ E o K :=
  d_mapUpdate_int ho hm hk hv em ek ev hu hkt hσ (by unfold iimap at hK; rw [← iset_iput] at hK; exact hK)
theorem y_and' {t t' : TypeId} {x y : Operand} {a b : Int} (ho : o.op = .binOp .and t x y t') (hx : E.valid x) (hy : E.valid y) (ex : E.val C x = .val (.int .i64 a)) (ey : E.val C y = .val (.int .i64 b)) (ha : 0 ≤ a ∧ a < 9223372036854775808) (hb : 0 ≤ b ∧ b < 9223372036854775808) : Yields C σ E o (.val (.int .i64 ((a.toNat &&& b.toNat : Nat) : Int))) :=
  y_and ho hx hy (by rw [ex]; congr 2; omega) (by rw [ey]; congr 2; omega) (by omega) (by omega)
end
end Go.Cl
