import Derived.Test.YtkhebelajdcjgaaDoorShared
namespace Go.Proofs.YtkhebelajdcjgaaDoor
open Go Go.Cl Go.ChangeShapes Go.WideShapes Go.RowKit Go.ChangeAt Go.ChangeMaps Go.Joins Go.Deep
section
variable {H : Type} {enc : TypeId × Value → H} {w : World} {r : Reach} {b0 : Nat}
instance : Inhabited Bkt := ⟨⟨0, 0, 0⟩⟩
theorem a_hist {v : Value} {d : DataW H} {p : List MemPlace} (hv : Value.okWide Tryd.prog w r b0 26 v) (h : Tr enc w 26 v d p) : ∃ hh : Hist, RV (whole w) w (.agg hh.cells) v ∧ ∀ b ∈ hh.bs, -9223372036854775808 ≤ b.count ∧ b.count ≤ 9223372036854775807 := by
  obtain ⟨cs, rfl, hsz⟩ := okWide_struct Tryd.underlying26 hv
  have hC : Tryd.prog.cellsOf 26 = 8 := by kernel_rfl
  have hN : Tryd.prog.cellsOf 23 = 2 := by kernel_rfl
  have hS : Tryd.prog.cellsOf 9 = 1 := by kernel_rfl
  have hI : Tryd.prog.cellsOf 3 = 1 := by kernel_rfl
  have hL : Tryd.prog.cellsOf 24 = 1 := by kernel_rfl
  have hB : Tryd.prog.cellsOf 39 = 3 := by kernel_rfl
  rw [hC] at hsz
  obtain ⟨fuel, hf⟩ := h
  obtain ⟨ys, n, -, -, -, hlen, hg⟩ := DataW.trod_struct Tryd.underlying26 hf
  obtain ⟨l⟩ := cs
  match l, hsz with
  | [c0, c1, c2, c3, c4, c5, c6, c7], _ =>
    match ys, hlen with
    | [y0, y1, y2, y3, y4, y5, y6], _ =>
      have g0 := hg 0 _ rfl
      have g1 := hg 1 _ rfl
      have g2 := hg 2 _ rfl
      have g3 := hg 3 _ rfl
      have g4 := hg 4 _ rfl
      have g5 := hg 5 _ rfl
      have g6 := hg 6 _ rfl
      simp [Value.cells, hN, hI, hL] at g0 g1 g2 g3 g4 g5 g6
      obtain ⟨z0, z1, m, -, -, k0, k1⟩ := trod_struct2 Tryd.underlying23 g0
      simp only [hS] at k0 k1
      obtain ⟨s0, e0, -, -⟩ := DataW.trod_string Tryd.underlying9 k0
      obtain ⟨s1, e1, -, -⟩ := DataW.trod_string Tryd.underlying9 k1
      obtain ⟨n1, e2, -, -⟩ := DataW.trod_int Tryd.underlying3 g1
      obtain ⟨n2, e3, -, -⟩ := DataW.trod_int Tryd.underlying3 g2
      obtain ⟨n3, e4, -, -⟩ := DataW.trod_int Tryd.underlying3 g3
      obtain ⟨n4, e5, -, -⟩ := DataW.trod_int Tryd.underlying3 g4
      obtain ⟨n5, e6, -, -⟩ := DataW.trod_int Tryd.underlying3 g5
      obtain ⟨bl, nn, v7, e7, hrv, -, hq, -⟩ := tr_slice (α := Bkt) Bkt.cv (fun b => -9223372036854775808 ≤ b.count ∧ b.count ≤ 9223372036854775807) Tryd.underlying24 (s := 3) hB (by decide) (fun n cs y hy => by
        obtain ⟨y0, y1, y2, m, -, hl, q0, q1, q2⟩ := trod_struct3 Tryd.underlying39 hy
        rw [hB] at hl
        match cs, hl with
        | [a0, a1, a2], _ =>
          simp only [hI] at q0 q1 q2
          simp at q0 q1 q2
          obtain ⟨m0, f0, -, -⟩ := DataW.trod_int Tryd.underlying3 q0
          obtain ⟨m1, f1, -, -⟩ := DataW.trod_int Tryd.underlying3 q1
          obtain ⟨m2, f2, -, hw⟩ := DataW.trod_int Tryd.underlying3 q2
          simp at f0 f1 f2
          subst f0; subst f1; subst f2
          simp [Lit.wf, IntKind.min, IntKind.max, IntKind.bits, IntKind.signed] at hw
          exact ⟨⟨m0, m1, m2⟩, by simp only; omega, RCs.val rfl (RCs.val rfl (RCs.val rfl .nil))⟩) g6
      simp at e0 e1 e2 e3 e4 e5 e6 e7
      subst e0; subst e1; subst e2; subst e3; subst e4; subst e5; subst e6; subst e7
      exact ⟨⟨s0, s1, n1, n2, n3, n4, n5, bl, nn⟩, RCs.agg (.val rfl (.val rfl (.val rfl (.val rfl (.val rfl (.val rfl (.val rfl (.cons rfl hrv .nil)))))))), hq⟩
end
end Go.Proofs.YtkhebelajdcjgaaDoor
