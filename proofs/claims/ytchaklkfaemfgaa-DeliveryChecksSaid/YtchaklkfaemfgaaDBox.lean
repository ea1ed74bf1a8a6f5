import Derived.Test.YtchaklkfaemfgaaDShared
import Derived.Test.YtchaklkfaemfgaaD15
namespace Go.Proofs.Ytchaklkfaemfgaa
open Go Go.Cl Go.ChangeShapes Go.WideShapes Go.RowKit Go.ChangeAt Go.ChangeMaps Go.Joins Go.Deep
section
variable {H : Type} {enc : TypeId × Value → H} {w : World} {r : Reach} {b0 : Nat}
instance : Inhabited Rp := ⟨⟨0, 0, 0, 0, 0⟩⟩
instance : Inhabited Lt := ⟨⟨0, ⟨0, 0, 0, 0, 0⟩⟩⟩
theorem n_rp : Try.prog.cellsOf 30 = 5 := by kernel_rfl
theorem n_lt : Try.prog.cellsOf 50 = 6 := by kernel_rfl
theorem n_int : Try.prog.cellsOf 3 = 1 := by kernel_rfl
theorem t_rp {n : Nat} {cs : List Value} {y : DataW H × List MemPlace} (h : DataW.trod enc Try.prog w 0 (fun _ => true) true n 30 cs = some y) : ∃ x : Rp, cs = [.int .i64 x.t, .int .i64 x.a, .int .i64 x.m, .int .i64 x.e, .int .i64 x.o] := by
  obtain ⟨ys, n, -, -, hl, hlen, hg⟩ := DataW.trod_struct Try.underlying30 h
  rw [n_rp] at hl
  match cs, hl with
  | [c0, c1, c2, c3, c4], _ =>
    match ys, hlen with
    | [y0, y1, y2, y3, y4], _ =>
      have g0 := hg 0 _ rfl
      have g1 := hg 1 _ rfl
      have g2 := hg 2 _ rfl
      have g3 := hg 3 _ rfl
      have g4 := hg 4 _ rfl
      simp [n_int] at g0 g1 g2 g3 g4
      obtain ⟨m0, e0, -, -⟩ := DataW.trod_int Try.underlying3 g0
      obtain ⟨m1, e1, -, -⟩ := DataW.trod_int Try.underlying3 g1
      obtain ⟨m2, e2, -, -⟩ := DataW.trod_int Try.underlying3 g2
      obtain ⟨m3, e3, -, -⟩ := DataW.trod_int Try.underlying3 g3
      obtain ⟨m4, e4, -, -⟩ := DataW.trod_int Try.underlying3 g4
      simp at e0 e1 e2 e3 e4
      subst e0; subst e1; subst e2; subst e3; subst e4
      exact ⟨⟨m0, m1, m2, m3, m4⟩, rfl⟩
theorem r_rp (x : Rp) : RCs w x.cv [.int .i64 x.t, .int .i64 x.a, .int .i64 x.m, .int .i64 x.e, .int .i64 x.o] := .val rfl (.val rfl (.val rfl (.val rfl (.val rfl .nil))))
theorem t_lt {n : Nat} {cs : List Value} {y : DataW H × List MemPlace} (h : DataW.trod enc Try.prog w 0 (fun _ => true) true n 50 cs = some y) : ∃ x : Lt, RCs w x.cv cs := by
  obtain ⟨y0, y1, n, -, hl, g0, g1⟩ := trod_struct2 Try.underlying50 h
  rw [n_lt] at hl
  match cs, hl with
  | [c0, c1, c2, c3, c4, c5], _ =>
    simp only [n_int, n_rp] at g0 g1
    simp at g0 g1
    obtain ⟨m0, e0, -, -⟩ := DataW.trod_int Try.underlying3 g0
    obtain ⟨x, ex⟩ := t_rp g1
    simp at e0 ex
    subst e0
    obtain ⟨rfl, rfl, rfl, rfl, rfl⟩ := ex
    exact ⟨⟨m0, x⟩, .val rfl (r_rp x)⟩
theorem a_net {v : Value} {d : DataW H} {p : List MemPlace} (hv : Value.okWide Try.prog w r b0 25 v) (h : Tr enc w 25 v d p) : ∃ n : Net, RV (whole w) w (.agg n.cells) v ∧ NetOk n := by
  obtain ⟨cs, rfl, hsz⟩ := okWide_struct Try.underlying25 hv
  have hC : Try.prog.cellsOf 25 = 2 := by kernel_rfl
  have hL : Try.prog.cellsOf 23 = 1 := by kernel_rfl
  rw [hC] at hsz
  obtain ⟨fuel, hf⟩ := h
  obtain ⟨y0, y1, n, -, -, g0, g1⟩ := trod_struct2 Try.underlying25 hf
  obtain ⟨l⟩ := cs
  match l, hsz with
  | [c0, c1], _ =>
    simp only [Value.cells, n_int, hL] at g0 g1
    simp at g0 g1
    obtain ⟨m0, e0, -, -⟩ := DataW.trod_int Try.underlying3 g0
    obtain ⟨bl, nn, v7, e7, hrv, hlen, -, hnn⟩ := tr_slice (α := Lt) Lt.cv (fun _ => True) Try.underlying23 (s := 6) n_lt (by decide) (fun n cs y hy => by
      obtain ⟨x, hx⟩ := t_lt hy
      exact ⟨x, trivial, hx⟩) g1
    simp at e0 e7
    subst e0; subst e7
    exact ⟨⟨m0, bl, nn⟩, RCs.agg (.val rfl (.cons rfl hrv .nil)), hlen, hnn⟩
theorem a_box {v : Value} {d : DataW H} {p : List MemPlace} (hv : Value.okWide Try.prog w r b0 46 v) (h : Tr enc w 46 v d p) : ∃ b : Bx, RV (whole w) w (.agg b.cells) v ∧ b.pend.length ≤ maxLen := by
  obtain ⟨cs, rfl, hsz⟩ := okWide_struct Try.underlying46 hv
  have hC : Try.prog.cellsOf 46 = 1 := by kernel_rfl
  have hL : Try.prog.cellsOf 44 = 1 := by kernel_rfl
  rw [hC] at hsz
  obtain ⟨fuel, hf⟩ := h
  obtain ⟨y0, n, -, -, g0⟩ := trod_struct1 Try.underlying46 hf
  obtain ⟨l⟩ := cs
  match l, hsz with
  | [c0], _ =>
    simp only [Value.cells, hL] at g0
    simp at g0
    obtain ⟨bl, nn, v7, e7, hrv, hlen, -, hnn⟩ := tr_slice (α := Rp) Rp.cv (fun _ => True) Try.underlying44 (s := 5) n_rp (by decide) (fun n cs y hy => by
      obtain ⟨x, rfl⟩ := t_rp hy
      exact ⟨x, trivial, r_rp x⟩) g0
    simp at e7
    subst e7
    exact ⟨⟨bl, nn⟩, RCs.agg (.cons rfl hrv .nil), hlen⟩
end
theorem trodAll_five {H : Type} {enc : TypeId × Value → H} {P : Program} {w : World} {base : Nat} {spare : Nat → Bool} {held : Bool} {t0 t1 t2 t3 t4 : TypeId} {args : Array Value} {ds : List (DataW H)} {ps : List MemPlace} (h : DataW.TrodAll enc P w base spare held [t0, t1, t2, t3, t4] args.toList ds ps) :
    ∃ v0 v1 v2 v3 v4 d0 d1 d2 d3 d4 p0 p1 p2 p3 p4, args = #[v0, v1, v2, v3, v4] ∧ ds = [d0, d1, d2, d3, d4] ∧ ps = p0 ++ p1 ++ p2 ++ p3 ++ p4 ∧ DataW.Trod enc P w base spare held t0 v0 d0 p0 ∧ DataW.Trod enc P w base spare held t1 v1 d1 p1 ∧ DataW.Trod enc P w base spare held t2 v2 d2 p2 ∧ DataW.Trod enc P w base spare held t3 v3 d3 p3 ∧ DataW.Trod enc P w base spare held t4 v4 d4 p4 := by
  obtain ⟨v0, vs0, d0, ds0, p0, q0, hargs, rfl, rfl, hd0, hr0⟩ := trodAll_cons h
  obtain ⟨v1, vs1, d1, ds1, p1, q1, rfl, rfl, rfl, hd1, hr1⟩ := trodAll_cons hr0
  obtain ⟨v2, vs2, d2, ds2, p2, q2, rfl, rfl, rfl, hd2, hr2⟩ := trodAll_cons hr1
  obtain ⟨v3, vs3, d3, ds3, p3, q3, rfl, rfl, rfl, hd3, hr3⟩ := trodAll_cons hr2
  obtain ⟨v4, vs4, d4, ds4, p4, q4, rfl, rfl, rfl, hd4, hr4⟩ := trodAll_cons hr3
  obtain ⟨rfl, rfl, rfl⟩ := trodAll_nil hr4
  exact ⟨v0, v1, v2, v3, v4, d0, d1, d2, d3, d4, p0, p1, p2, p3, p4, by cases args; simp_all, rfl, by simp, hd0, hd1, hd2, hd3, hd4⟩
theorem rvs5 {w : World} {v0 v1 v2 v3 v4 : Value} {c0 c1 c2 c3 c4 : CV} (h0 : RV (whole w) w c0 v0) (h1 : RV (whole w) w c1 v1) (h2 : RV (whole w) w c2 v2) (h3 : RV (whole w) w c3 v3) (h4 : RV (whole w) w c4 v4) : ∀ (i : Nat) (c : CV), [c0, c1, c2, c3, c4][i]? = some c → RV (whole w) w c ((#[v0, v1, v2, v3, v4] : Array Value).getD i undef) := fun i c hi => by
  rcases i with _ | _ | _ | _ | _ | i
  · simp at hi; subst hi; exact h0
  · simp at hi; subst hi; exact h1
  · simp at hi; subst hi; exact h2
  · simp at hi; subst hi; exact h3
  · simp at hi; subst hi; exact h4
  · simp at hi
end Go.Proofs.Ytchaklkfaemfgaa
