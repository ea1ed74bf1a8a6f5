import Derived.Test.YtkhebelajdcjgaaDoorK24
import Derived.Test.YtkhebelajdcjgaaDoorH11
import Derived.Test.YtkhebelajdcjgaaDoorRows
import Derived.Test.YtkhebelajdcjgaaDoorTie
import Derived.Test.YtkhebelajdcjgaaDoorCards
import Derived.SevenTiedAt
namespace Go.Proofs.YtkhebelajdcjgaaDoor
open Go Go.Cl Go.ChangeShapes Go.WideShapes Go.RowKit Go.ChangeAt Go.ChangeMaps Go.Joins Go.Deep

theorem r_own : ownKnob Tryd.prog.godebug = none := by kernel_rfl
theorem r_laidOut : laidOutB Tryd.prog = true := by kernel_rfl
abbrev laidL : List (String × DataW Unit) := [("testgate/testgatelaw21.own", Rows.laid_testgate_testgatelaw21_own)]
theorem r_gown : Tryd.prog.globalNamed "testgate/testgatelaw21.own" = some 0 := by kernel_rfl
theorem r_town : (Tryd.prog.globals[0]?).map (·.type) = some 23 := by kernel_rfl
theorem r_door (os : Os) (args : Array Value) : laidMetH Tryd.prog laidL ((World.doorLaid Tryd.prog 400 os).forCall (fun _ _ => 0) ⟨#[], args, []⟩).memory :=
  laidMetH_of_parts3 (fuel := 8) (laidMet_of_run' 8 (by kernel_rfl) (by kernel_rfl)) (by kernel_rfl) (by kernel_rfl)
theorem bytes_lit {s : ByteArray} {l : List UInt8} (h : s.data.toList = l) : s = ⟨l.toArray⟩ := by
  cases s with
  | mk a => cases a with
    | mk x => simp at h; subst h; rfl
/-- What the condition gives: the one listed variable's cells. -/
theorem r_glob {W : World} (h : laidMetH Tryd.prog laidL W) : ∀ g cells, CC.glob g = some cells → RV (whole W) W (.cptr cells) (.pointer (some ⟨g, 0, none⟩)) := by
  rw [MakeChecks.laidMetH_plain _ _ _ (by kernel_rfl)] at h
  obtain ⟨ps, ⟨g0, t0, cs0, f0, p0, q0, hg0, ht0, hv0, hd0, _, _⟩, _, _⟩ := h
  obtain rfl := Option.some.inj (r_gown.symm.trans hg0)
  obtain rfl := Option.some.inj (r_town.symm.trans ht0)
  obtain ⟨y0, y1, n, hx, hl, h0, h1⟩ := trod_struct2 Tryd.underlying23 hd0
  have hC : Tryd.prog.cellsOf 23 = 2 := by kernel_rfl
  have hS : Tryd.prog.cellsOf 9 = 1 := by kernel_rfl
  rw [hC] at hl
  obtain ⟨l⟩ := cs0
  match l, hl with
  | [c0, c1], _ =>
    simp only [hS] at h0 h1
    obtain ⟨s0, e0, hy0, -⟩ := DataW.trod_string Tryd.underlying9 h0
    obtain ⟨s1, e1, hy1, -⟩ := DataW.trod_string Tryd.underlying9 h1
    simp at e0 e1
    subst hy0; subst hy1
    simp only [Prod.mk.injEq, Rows.laid_testgate_testgatelaw21_own, DataW.agg.injEq, List.cons.injEq, DataW.lit.injEq, Lit.string.injEq, and_true] at hx
    have b0 := bytes_lit hx.1.1.symm
    have b1 := bytes_lit hx.1.2.symm
    subst b0; subst b1; subst e0; subst e1
    intro g cells hgc
    have hgc' : g = 0 ∧ cells = nm := by
      rcases g with _ | g
      · exact ⟨rfl, (Option.some.inj hgc).symm⟩
      · cases hgc
    obtain ⟨rfl, rfl⟩ := hgc'
    have hc := World.var?_cell hg0 hv0
    have h0' : W.cell? ⟨0, 0, none⟩ = some (.string ⟨#[112]⟩) := by simpa using hc 0
    have h1' : W.cell? ⟨0, 1, none⟩ = some (.string ⟨#[116]⟩) := by simpa using hc 1
    refine .cptr (fun j => if j = 0 then .string ⟨#[112]⟩ else .string ⟨#[116]⟩) (fun c hc => ?_) (fun j c hj => ?_) (fun j c hj => ?_)
    · simp [nm] at hc; rcases hc with rfl | rfl <;> rfl
    · rcases j with _ | _ | j
      · exact ⟨whole_at h0' _, h0'⟩
      · exact ⟨whole_at h1' _, h1'⟩
      · simp [nm] at hj
    · rcases j with _ | _ | j
      · simp [nm] at hj; subst hj; exact .val _
      · simp [nm] at hj; subst hj; exact .val _
      · simp [nm] at hj

section
variable {H : Type} {enc : TypeId × Value → H} {w : World} {r : Reach} {b0 : Nat}
abbrev Tr (enc : TypeId × Value → H) (w : World) (t : TypeId) (v : Value) (d : DataW H) (p : List MemPlace) : Prop := DataW.Trod enc Tryd.prog w 0 (fun _ => true) true t v d p
theorem a_int {v : Value} {d : DataW H} {p : List MemPlace} (hv : Value.okWide Tryd.prog w r b0 3 v) (h : Tr enc w 3 v d p) : ∃ n : Int, v = .int .i64 n ∧ -9223372036854775808 ≤ n ∧ n ≤ 9223372036854775807 := by
  obtain ⟨n, rfl, -, -, hw⟩ := open_int Tryd.underlying3 hv h
  simp [Lit.wf, IntKind.min, IntKind.max, IntKind.bits, IntKind.signed] at hw
  exact ⟨n, rfl, by omega, by omega⟩
theorem a_bool {v : Value} {d : DataW H} {p : List MemPlace} (hv : Value.okWide Tryd.prog w r b0 4 v) (h : Tr enc w 4 v d p) : ∃ b : Bool, v = .bool b := by
  obtain ⟨b, rfl, -, -⟩ := open_bool Tryd.underlying4 hv h
  exact ⟨b, rfl⟩
theorem a_name {v : Value} {d : DataW H} {p : List MemPlace} (hv : Value.okWide Tryd.prog w r b0 23 v) (h : Tr enc w 23 v d p) : ∃ x y : ByteArray, RV (whole w) w (.agg [.val (.string x), .val (.string y)]) v := by
  obtain ⟨v0, v1, y0, y1, n, rfl, -, -, h0, h1⟩ := open_agg2 Tryd.underlying23 (by kernel_rfl) (by kernel_rfl) hv h
  obtain ⟨s0, e0, -, -⟩ := DataW.trod_string Tryd.underlying9 h0
  obtain ⟨s1, e1, -, -⟩ := DataW.trod_string Tryd.underlying9 h1
  simp at e0 e1
  subst e0; subst e1
  exact ⟨s0, s1, RCs.agg (.val rfl (.val rfl .nil))⟩
theorem a_ints {v : Value} {d : DataW H} {p : List MemPlace} (hv : Value.okWide Tryd.prog w r b0 34 v) (h : Tr enc w 34 v d p) : ∃ (l : List Int) (nn : Bool), RV (whole w) w (.list (l.map icv) nn none) v ∧ l.length ≤ maxLen ∧ ∀ a ∈ l, -9223372036854775808 ≤ a ∧ a ≤ 9223372036854775807 := by
  obtain ⟨a, len, cap, rfl⟩ := okWide_slice Tryd.underlying34 hv
  obtain ⟨fuel, h⟩ := h
  obtain ⟨l, nn, v', e, h1, h2, h3, -⟩ := tr_slice (α := Int) icv (fun a => -9223372036854775808 ≤ a ∧ a ≤ 9223372036854775807) Tryd.underlying34 (s := 1) (by kernel_rfl) (by decide) (fun n cs y hy => by
    obtain ⟨z, rfl, -, hw⟩ := DataW.trod_int Tryd.underlying3 hy
    simp [Lit.wf, IntKind.min, IntKind.max, IntKind.bits, IntKind.signed] at hw
    exact ⟨z, by omega, RCs.val rfl .nil⟩) h
  simp [Value.cells] at e
  subst e
  exact ⟨l, nn, h1, h2, h3⟩
end
theorem rvs1 {w : World} {v0 : Value} {c0 : CV} (h0 : RV (whole w) w c0 v0) : ∀ (i : Nat) (c : CV), [c0][i]? = some c → RV (whole w) w c ((#[v0] : Array Value).getD i undef) := fun i c hi => by
  rcases i with _ | i
  · simp at hi; subst hi; exact h0
  · simp at hi
theorem rvs2 {w : World} {v0 v1 : Value} {c0 c1 : CV} (h0 : RV (whole w) w c0 v0) (h1 : RV (whole w) w c1 v1) : ∀ (i : Nat) (c : CV), [c0, c1][i]? = some c → RV (whole w) w c ((#[v0, v1] : Array Value).getD i undef) := fun i c hi => by
  rcases i with _ | _ | i
  · simp at hi; subst hi; exact h0
  · simp at hi; subst hi; exact h1
  · simp at hi
theorem rvs3 {w : World} {v0 v1 v2 : Value} {c0 c1 c2 : CV} (h0 : RV (whole w) w c0 v0) (h1 : RV (whole w) w c1 v1) (h2 : RV (whole w) w c2 v2) : ∀ (i : Nat) (c : CV), [c0, c1, c2][i]? = some c → RV (whole w) w c ((#[v0, v1, v2] : Array Value).getD i undef) := fun i c hi => by
  rcases i with _ | _ | _ | i
  · simp at hi; subst hi; exact h0
  · simp at hi; subst hi; exact h1
  · simp at hi; subst hi; exact h2
  · simp at hi
theorem rvs4 {w : World} {v0 v1 v2 v3 : Value} {c0 c1 c2 c3 : CV} (h0 : RV (whole w) w c0 v0) (h1 : RV (whole w) w c1 v1) (h2 : RV (whole w) w c2 v2) (h3 : RV (whole w) w c3 v3) : ∀ (i : Nat) (c : CV), [c0, c1, c2, c3][i]? = some c → RV (whole w) w c ((#[v0, v1, v2, v3] : Array Value).getD i undef) := fun i c hi => by
  rcases i with _ | _ | _ | _ | i
  · simp at hi; subst hi; exact h0
  · simp at hi; subst hi; exact h1
  · simp at hi; subst hi; exact h2
  · simp at hi; subst hi; exact h3
  · simp at hi
end Go.Proofs.YtkhebelajdcjgaaDoor
