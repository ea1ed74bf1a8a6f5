import Derived.Test.YtchaklkfaemfgaaK29
import Derived.Test.YtchaklkfaemfgaaD1
import Derived.Test.YtchaklkfaemfgaaRows
namespace Go.Proofs.Ytchaklkfaemfgaa
open Go Go.Cl Go.ChangeShapes Go.WideShapes Go.RowKit Go.ChangeAt Go.ChangeMaps Go.Joins Go.Deep

theorem r_own : ownKnob Try.prog.godebug = none := by kernel_rfl
theorem r_laidOut : laidOutB Try.prog = true := by kernel_rfl
section
variable {H : Type} {enc : TypeId × Value → H} {w : World} {r : Reach} {b0 : Nat}
abbrev Tr (enc : TypeId × Value → H) (w : World) (t : TypeId) (v : Value) (d : DataW H) (p : List MemPlace) : Prop := DataW.Trod enc Try.prog w 0 (fun _ => true) true t v d p
theorem a_int {v : Value} {d : DataW H} {p : List MemPlace} (hv : Value.okWide Try.prog w r b0 3 v) (h : Tr enc w 3 v d p) : ∃ n : Int, v = .int .i64 n ∧ -9223372036854775808 ≤ n ∧ n ≤ 9223372036854775807 := by
  obtain ⟨n, rfl, -, -, hw⟩ := open_int Try.underlying3 hv h
  simp [Lit.wf, IntKind.min, IntKind.max, IntKind.bits, IntKind.signed] at hw
  exact ⟨n, rfl, by omega, by omega⟩
theorem a_ints {v : Value} {d : DataW H} {p : List MemPlace} (hv : Value.okWide Try.prog w r b0 36 v) (h : Tr enc w 36 v d p) : ∃ (l : List Int) (nn : Bool), RV (whole w) w (.list (l.map icv) nn none) v ∧ l.length ≤ maxLen ∧ ∀ a ∈ l, -9223372036854775808 ≤ a ∧ a ≤ 9223372036854775807 := by
  obtain ⟨a, len, cap, rfl⟩ := okWide_slice Try.underlying36 hv
  obtain ⟨fuel, h⟩ := h
  obtain ⟨l, nn, v', e, h1, h2, h3, -⟩ := tr_slice (α := Int) icv (fun a => -9223372036854775808 ≤ a ∧ a ≤ 9223372036854775807) Try.underlying36 (s := 1) (by kernel_rfl) (by decide) (fun n cs y hy => by
    obtain ⟨z, rfl, -, hw⟩ := DataW.trod_int Try.underlying3 hy
    simp [Lit.wf, IntKind.min, IntKind.max, IntKind.bits, IntKind.signed] at hw
    exact ⟨z, by omega, RCs.val rfl .nil⟩) h
  simp [Value.cells] at e
  subst e
  exact ⟨l, nn, h1, h2, h3⟩
end
theorem rvs1 {w : World} {v0 : Value} {c0 : CV} (h0 : RV (whole w) w c0 v0) : ∀ (i : Nat) (c : CV), [c0][i]? = some c → RV (whole w) w c ((#[v0] : Array Value).getD i undef) := fun i c hi => by
  rcases i with _ | i
  · simp at hi; subst hi; exact h0
  · simp at hi
theorem rvs2 {w : World} {v0 v1 : Value} {c0 c1 : CV} (h0 : RV (whole w) w c0 v0) (h1 : RV (whole w) w c1 v1) : ∀ (i : Nat) (c : CV), [c0, c1][i]? = some c → RV (whole w) w c ((#[v0, v1] : Array Value).getD i undef) := fun i c hi => by
  rcases i with _ | _ | i
  · simp at hi; subst hi; exact h0
  · simp at hi; subst hi; exact h1
  · simp at hi
end Go.Proofs.Ytchaklkfaemfgaa
