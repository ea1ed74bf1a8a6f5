import Derived.Test.YtkhebelajdcjgaaDoorK25
import Derived.Test.YtkhebelajdcjgaaDoorH14
namespace Go.Proofs.YtkhebelajdcjgaaDoor
open Go Go.Cl

theorem mstep_cov {l : List Int} {s : MSt} {i : Nat} (h : MI s i) (hc : Cov s.h.bs s.out) (hi : i < 1000000) : Cov (mstep l s).h.bs (mstep l s).out := by
  obtain ⟨hN, hI, hh⟩ := h.next (l := l) hi
  rw [hh]
  show Cov (if mfail l s = true then carry s.h.k (s.h.bs.length + 1) (s.h.bs ++ [bk1 (mrev l s)]) 1 else s.h.bs) (if mfail l s = true then s.out ++ [mrev l s] else s.out)
  by_cases hf : mfail l s = true
  · rw [if_pos hf, if_pos hf]
    have hk := h.chk.k
    have hr := h.rev
    have hl := h.last
    have hv := hN.rv
    have hord : OrdP (s.h.bs ++ [bk1 (mrev l s)]) (mrev l s) := ord_append.2 ⟨ord_mono h.chk.ord (by show s.h.last ≤ mrev l s; omega), ⟨⟨by show 1 ≤ mrev l s; omega, Int.le_refl _, Int.le_refl _, fun _ => rfl⟩, trivial⟩⟩
    exact carry_cov hk.1 _ _ 1 (inv_of_siz hk.1 h.chk.siz (mrev l s)) hord (cov_snoc hc _)
  · rw [if_neg hf, if_neg hf]; exact hc
/-- What the laws ask of what was made. -/
structure MF (s : MSt) : Prop where
  chk : ChkP s.h
  same : s.w = { s.h with nn := s.w.nn }
  cov : Cov s.h.bs s.out
  last : s.h.last ≤ 3000000
  runs : s.h.runs ≤ 1000000
  kk : s.h.k ≤ 5
  out : s.out.length ≤ 1000000
theorem made_MF (l : List Int) {most : Int} (hm : 2 ≤ most ∧ most ≤ 1000000) : MF (madeS l most) := by
  have hr := made_runs l hm
  have h := mrun_all (l := l) (P := fun s _ => Cov s.h.bs s.out) (fun s i hI hc hi => mstep_cov hI hc hi) (tapeN l 1 most).toNat (mzero l) 0 (MI.zero l) (by show Cov (newS _ _ _ _).1.bs []; rw [newS_bs]; rfl) (by omega)
  rw [Nat.zero_add] at h
  obtain ⟨hI, hc⟩ := h
  have h1 := hI.rev
  have h2 := hI.last
  have h3 := hI.runs
  have h4 := hI.out
  exact ⟨hI.chk, hI.same, hc, by show (madeS l most).h.last ≤ _; change (madeS l most).h.last ≤ _ at h2; omega, by show (madeS l most).h.runs ≤ _; change (madeS l most).h.runs = _ at h3; omega, hI.kk, by show (madeS l most).out.length ≤ _; change (madeS l most).out.length ≤ _ at h4; omega⟩
theorem same_chk {a b : Hist} (h : b = { a with nn := b.nn }) : pb (RChkP b) = pb (ChkP a) ∧ b.bs = a.bs ∧ SameP a b ∧ (Fits a → Fits b) := by
  have e : RChkP b ↔ ChkP a := by
    rw [← chk_iff, h]
    exact ⟨fun hc => ⟨⟨hc.use, hc.env, hc.k, hc.fail, hc.last, hc.zero⟩, hc.ord, hc.siz⟩, fun hc => chk_nn hc _⟩
  refine ⟨pb_congr e, by rw [h], by rw [h]; exact same_refl a, fun hf => by rw [h]; exact ⟨hf.len, hf.cnt⟩⟩
theorem zero_fits : Fits zeroH := ⟨by simp [zeroH], fun b hb => by simp [zeroH] at hb⟩
theorem add_same {h w : Hist} (hs : w = { h with nn := w.nn }) (hc : ChkP h) (rev : Int) (failed b : Bool) :
    (addS (pb (ChkP h)) h rev failed true).2 = (addS (pb (RChkP w)) w rev failed b).2 ∧ (addS (pb (RChkP w)) w rev failed b).1 = { (addS (pb (ChkP h)) h rev failed true).1 with nn := (addS (pb (RChkP w)) w rev failed b).1.nn } ∧ Fits (addS (pb (ChkP h)) h rev failed true).1 := by
  have p2 := (same_chk hs).1
  have p1 : pb (ChkP h) = true := pb_yes hc
  rw [p1] at p2
  rw [p1, p2]
  have g1 : w.last = h.last := by rw [hs]
  have g2 : w.runs = h.runs := by rw [hs]
  unfold addS
  have ht : ¬ (true = false) := by decide
  rw [if_neg ht, if_neg ht, g1, g2]
  by_cases c1 : rev < 1 ∨ 1073741824 < rev
  · rw [if_pos c1, if_pos c1]; exact ⟨rfl, rfl, zero_fits⟩
  · rw [if_neg c1, if_neg c1]
    by_cases c2 : rev < h.last
    · rw [if_pos c2, if_pos c2]; exact ⟨rfl, rfl, zero_fits⟩
    · rw [if_neg c2, if_neg c2]
      by_cases c3 : h.runs = 1073741824
      · rw [if_pos c3, if_pos c3]; exact ⟨rfl, rfl, zero_fits⟩
      · rw [if_neg c3, if_neg c3]
        have hr := hc.fail
        have hk := add_keeps hc (rev := rev) (by omega) (by omega) (by omega) failed true
        have hf := chk_fits hk
        rw [addS_ok (by omega) (by omega) (by omega)] at hf
        exact ⟨rfl, by rw [hs], hf⟩
theorem fits_sizS {c : Bool} {h : Hist} (hf : Fits h) : (sizS c h).length ≤ 4294967296 := by
  unfold sizS; split
  · simpa using hf.len
  · simp
theorem betS_ok {h : Hist} (hc : ChkP h) (f : Int) : betS (pb (ChkP h)) h f = (betLo h.bs f, betHi h.bs f, 0) := by
  rw [pb_yes hc]; rfl
theorem chk_pos {h : Hist} (hc : ChkP h) : ∀ b ∈ h.bs, 1 ≤ b.count ∧ b.count ≤ 1073741824 := fun b hb => by
  obtain ⟨i, hi⟩ := List.mem_iff_getElem?.1 hb
  exact ⟨(hc.siz.1 i b hi).1, (hc.siz.1 i b hi).2.1⟩
theorem bet_zero {h : Hist} (hc : ChkP h) : betLo h.bs 0 = h.failed ∧ betHi h.bs 0 = h.failed := by
  have := bet_whole (l := h.bs) (f := 0) fun b hb => by have := (ord_all hc.ord).1 b hb; omega
  rw [hc.siz.2.2] at this
  exact this
theorem bet_fit {h : Hist} (hc : ChkP h) (f : Int) : (0 ≤ betLo h.bs f ∧ betLo h.bs f ≤ 4398046511104) ∧ (0 ≤ betHi h.bs f ∧ betHi h.bs f ≤ 4398046511104) := by
  have h1 := bet_bound (l := h.bs) f (chk_pos hc)
  have h2 := siz_len hc.k hc.siz
  omega

end Go.Proofs.YtkhebelajdcjgaaDoor
