import Derived.Test.YtkhebelajdcjgaaDoorH13
namespace Go.Proofs.YtkhebelajdcjgaaDoor
open Go Go.Cl
/-! The plain laws of a history: its buckets cover the failures in their order. -/

structure Seg (b : Bkt) (seg : List Int) : Prop where
  len : (seg.length : Int) = b.count
  all : ∀ x ∈ seg, b.first ≤ x ∧ x ≤ b.last
  fst : b.first ∈ seg
  lst : b.last ∈ seg
def Cov : List Bkt → List Int → Prop
  | [], out => out = []
  | b :: l, out => ∃ seg rest, out = seg ++ rest ∧ Seg b seg ∧ Cov l rest
theorem cov_append : ∀ {A B : List Bkt} {out : List Int}, Cov (A ++ B) out ↔ ∃ o1 o2, out = o1 ++ o2 ∧ Cov A o1 ∧ Cov B o2
  | [], B, out => ⟨fun h => ⟨[], out, rfl, rfl, h⟩, fun ⟨o1, o2, e, h1, h2⟩ => by rw [e, show o1 = [] from h1]; exact h2⟩
  | a :: A, B, out => by
    constructor
    · rintro ⟨seg, rest, rfl, hs, h⟩
      obtain ⟨o1, o2, rfl, h1, h2⟩ := cov_append.1 h
      exact ⟨seg ++ o1, o2, by simp, ⟨seg, o1, rfl, hs, h1⟩, h2⟩
    · rintro ⟨o1, o2, rfl, ⟨seg, rest, rfl, hs, h⟩, h2⟩
      exact ⟨seg, rest ++ o2, by simp, hs, cov_append.2 ⟨rest, o2, rfl, h, h2⟩⟩
theorem seg_merge {x y : Bkt} {s1 s2 : List Int} (h1 : Seg x s1) (h2 : Seg y s2) (hx : x.first ≤ x.last) (hxy : x.last ≤ y.first) (hy : y.first ≤ y.last) : Seg ⟨x.first, y.last, x.count + y.count⟩ (s1 ++ s2) := by
  refine ⟨?_, fun z hz => ?_, ?_, ?_⟩
  · have e1 := h1.len
    have e2 := h2.len
    simp only [List.length_append]; push_cast; omega
  · rcases List.mem_append.1 hz with hz | hz
    · have := h1.all z hz; exact ⟨this.1, by simp only; omega⟩
    · have := h2.all z hz; exact ⟨by simp only; omega, this.2⟩
  · exact List.mem_append_left _ h1.fst
  · exact List.mem_append_right _ h2.lst
theorem cov_mrg {A B : List Bkt} {x y : Bkt} {s last : Int} {out : List Int} (hx : x.count = s) (hy : y.count = s) (ho : OrdP (A ++ x :: y :: B) last) (h : Cov (A ++ x :: y :: B) out) : Cov (A ++ ⟨x.first, y.last, 2 * s⟩ :: B) out := by
  rw [ord_append] at ho
  obtain ⟨-, ⟨h2, h3, h4, h5⟩, ⟨h6, h7, h8, h9⟩, h10⟩ := ho
  rw [cov_append] at h ⊢
  obtain ⟨o1, o2, rfl, hA, seg, rest, rfl, hs, seg2, rest2, rfl, hs2, hB⟩ := h
  refine ⟨o1, _, rfl, hA, seg ++ seg2, rest2, by simp, ?_, hB⟩
  have := seg_merge hs hs2 h3 h4 h7
  rwa [hx, hy, show s + s = 2 * s by omega] at this
theorem carry_cov {k : Int} (hk : 2 ≤ k) {last : Int} {out : List Int} : ∀ (n : Nat) (l : List Bkt) (s : Int), Inv k l s → OrdP l last → Cov l out → Cov (carry k n l s) out
  | 0, _, _, _, _, hc => hc
  | n + 1, l, s, h, ho, hc => by
    by_cases hn : k < num l s
    · obtain ⟨A, x, y, B, rfl, hA, hx, hy⟩ := decomp h.srt (s := s) (by omega)
      rw [carry, if_pos hn, mrg_eq hA hx]
      exact carry_cov hk n _ (2 * s) (h.step hA hx hy hn) (ord_mrg (isP_pos h.sp) ho) (cov_mrg hx hy ho hc)
    · rw [carry, if_neg hn]; exact hc
theorem cov_snoc {l : List Bkt} {out : List Int} (h : Cov l out) (r : Int) : Cov (l ++ [bk1 r]) (out ++ [r]) :=
  cov_append.2 ⟨out, [r], rfl, h, [r], [], rfl, ⟨rfl, fun x hx => by simp at hx; subst hx; exact ⟨Int.le_refl _, Int.le_refl _⟩, by simp, by simp⟩, rfl⟩

/-! The bounds. -/
theorem fromN_all {seg : List Int} {f : Int} (h : ∀ x ∈ seg, f ≤ x) : fromN seg f = seg.length := by
  induction seg with
  | nil => rfl
  | cons x l ih =>
    have := ih fun x hx => h x (by simp [hx])
    rw [fromN, if_pos (h x (by simp)), this]; simp; omega
theorem fromN_none {seg : List Int} {f : Int} (h : ∀ x ∈ seg, x < f) : fromN seg f = 0 := by
  induction seg with
  | nil => rfl
  | cons x l ih =>
    have := ih fun x hx => h x (by simp [hx])
    have hx := h x (by simp)
    rw [fromN, if_neg (by omega), this]; rfl
theorem fromN_some {seg : List Int} {f x : Int} (hx : x ∈ seg) (h : f ≤ x) : 1 ≤ fromN seg f := by
  induction seg with
  | nil => simp at hx
  | cons y l ih =>
    have h0 := (fromN_nonneg l f).1
    rcases List.mem_cons.1 hx with rfl | hx
    · rw [fromN, if_pos h]; omega
    · have := ih hx
      rw [fromN]; split <;> omega
theorem fromN_less {seg : List Int} {f x : Int} (hx : x ∈ seg) (h : x < f) : fromN seg f ≤ seg.length - 1 := by
  induction seg with
  | nil => simp at hx
  | cons y l ih =>
    have h0 := (fromN_nonneg l f).2
    rcases List.mem_cons.1 hx with rfl | hx
    · rw [fromN, if_neg (by omega)]; simp; omega
    · have := ih hx
      rw [fromN]; simp; split <;> omega
theorem seg_bound {b : Bkt} {seg : List Int} (h : Seg b seg) (f : Int) : loC b f ≤ fromN seg f ∧ fromN seg f ≤ hiC b f := by
  have hl := h.len
  unfold loC hiC
  by_cases h1 : f ≤ b.first
  · rw [if_pos h1, if_pos h1, fromN_all fun x hx => by have := h.all x hx; omega]; omega
  · rw [if_neg h1, if_neg h1]
    by_cases h2 : f ≤ b.last
    · rw [if_pos h2, if_pos h2]
      have := fromN_some h.lst h2
      have := fromN_less h.fst (show b.first < f by omega)
      omega
    · rw [if_neg h2, if_neg h2, fromN_none fun x hx => by have := h.all x hx; omega]; omega
theorem cov_bound : ∀ {l : List Bkt} {out : List Int}, Cov l out → ∀ f, betLo l f ≤ fromN out f ∧ fromN out f ≤ betHi l f
  | [], out, h, f => by rw [show out = [] from h]; simp [betLo, betHi, fromN]
  | b :: l, out, ⟨seg, rest, e, hs, h⟩, f => by
    subst e
    have h1 := seg_bound hs f
    have h2 := cov_bound h f
    rw [fromN_append]
    simp only [betLo, betHi]; omega
theorem cov_len : ∀ {l : List Bkt} {out : List Int}, Cov l out → (out.length : Int) = sumC l
  | [], out, h => by rw [show out = [] from h]; rfl
  | b :: l, out, ⟨seg, rest, e, hs, h⟩ => by
    subst e
    have := cov_len h
    have := hs.len
    simp only [List.length_append, sumC]; push_cast; omega
theorem cov_in : ∀ {l : List Bkt} {out : List Int}, Cov l out → ∀ x ∈ out, ∃ b ∈ l, b.first ≤ x ∧ x ≤ b.last
  | [], out, h, x, hx => by rw [show out = [] from h] at hx; simp at hx
  | b :: l, out, ⟨seg, rest, e, hs, h⟩, x, hx => by
    subst e
    rcases List.mem_append.1 hx with hx | hx
    · exact ⟨b, by simp, hs.all x hx⟩
    · obtain ⟨c, hc, h⟩ := cov_in h x hx
      exact ⟨c, by simp [hc], h⟩

/-! In an ordered list at most one bucket is cut by a revision; those behind count whole. -/
theorem bet_whole : ∀ {l : List Bkt} {f : Int}, (∀ b ∈ l, f ≤ b.first) → betLo l f = sumC l ∧ betHi l f = sumC l
  | [], _, _ => ⟨rfl, rfl⟩
  | b :: l, f, h => by
    have ih := bet_whole (l := l) fun b hb => h b (by simp [hb])
    have hb := h b (by simp)
    simp only [betLo, betHi, loC, hiC, if_pos hb, sumC]; omega
theorem ord_first : ∀ {l : List Bkt} {last : Int} {f : Int}, OrdP l last → (∀ b, l[0]? = some b → f ≤ b.first) → ∀ b ∈ l, f ≤ b.first
  | [], _, _, _, _, b, hb => by simp at hb
  | x :: l, last, f, ⟨⟨h1, h2, h3, h4⟩, h⟩, hf, b, hb => by
    have hx := hf x (by simp)
    rcases List.mem_cons.1 hb with rfl | hb
    · exact hx
    · refine ord_first h (fun c hc => ?_) b hb
      rcases l with _ | ⟨y, l⟩
      · simp at hc
      · simp at hc; subst hc
        simp only at h3; omega
/-- Either the bounds are one number, or one bucket is cut: then those behind it count whole. -/
theorem bet_cut : ∀ {l : List Bkt} {last : Int} (f : Int), OrdP l last → (betLo l f = betHi l f) ∨ ∃ A b B, l = A ++ b :: B ∧ b.first < f ∧ f ≤ b.last ∧ betHi l f - betLo l f = b.count - 2 ∧ betLo l f = 1 + sumC B
  | [], _, _, _ => .inl rfl
  | b :: l, last, f, ⟨⟨h1, h2, h3, h4⟩, h⟩ => by
    by_cases c1 : f ≤ b.first
    · have hall : ∀ c ∈ b :: l, f ≤ c.first := ord_first (last := last) ⟨⟨h1, h2, h3, h4⟩, h⟩ (fun c hc => by simp at hc; subst hc; exact c1)
      obtain ⟨e1, e2⟩ := bet_whole hall
      exact .inl (by omega)
    · by_cases c2 : f ≤ b.last
      · have hall : ∀ c ∈ l, f ≤ c.first := ord_first h (fun c hc => by
          rcases l with _ | ⟨y, l⟩
          · simp at hc
          · simp at hc; subst hc
            simp only at h3; omega)
        obtain ⟨e1, e2⟩ := bet_whole hall
        exact .inr ⟨[], b, l, rfl, by omega, c2, by simp only [betLo, betHi, loC, hiC, if_neg c1, if_pos c2]; omega, by simp only [betLo, loC, if_neg c1, if_pos c2]; omega⟩
      · have z1 : loC b f = 0 := by unfold loC; rw [if_neg c1, if_neg c2]
        have z2 : hiC b f = 0 := by unfold hiC; rw [if_neg c1, if_neg c2]
        rcases bet_cut f h with e | ⟨A, c, B, rfl, g1, g2, g3, g4⟩
        · exact .inl (by simp only [betLo, betHi]; omega)
        · exact .inr ⟨b :: A, c, B, rfl, g1, g2, by simp only [betLo, betHi] at g3 ⊢; omega, by simp only [betLo]; omega⟩

/-! Behind a bucket of size 2^j there are k - 1 of each smaller size. -/
def sumP : Nat → List Bkt → Int
  | 0, _ => 0
  | n + 1, l => sumP n l + 2 ^ n * num l (2 ^ n)
theorem pow2_pos (n : Nat) : (1 : Int) ≤ 2 ^ n := by simpa using pow2_mono (Nat.zero_le n)
theorem sumP_cons (x : Bkt) (l : List Bkt) : ∀ n, sumP n (x :: l) = sumP n l + (if ∃ j, j < n ∧ x.count = 2 ^ j then x.count else 0)
  | 0 => by rw [if_neg (fun ⟨j, h, _⟩ => absurd h (Nat.not_lt_zero j))]; rfl
  | n + 1 => by
    have e : num (x :: l) (2 ^ n) = (if x.count = 2 ^ n then 1 else 0) + num l (2 ^ n) := rfl
    simp only [sumP]; rw [sumP_cons x l n, e]
    by_cases h1 : x.count = 2 ^ n
    · have hno : ¬ ∃ j, j < n ∧ x.count = 2 ^ j := fun ⟨j, hj, hc⟩ => by
        rw [h1] at hc
        have := pow2_mono (show j + 1 ≤ n from hj)
        rw [Int.pow_succ] at this
        have := pow2_pos j
        omega
      rw [if_neg hno, if_pos h1, if_pos ⟨n, Nat.lt_succ_self n, h1⟩, Int.mul_add, h1]; omega
    · by_cases h2 : ∃ j, j < n ∧ x.count = 2 ^ j
      · obtain ⟨j, hj, hc⟩ := h2
        rw [if_pos ⟨j, hj, hc⟩, if_neg h1, if_pos ⟨j, Nat.lt_succ_of_lt hj, hc⟩, Int.zero_add]; omega
      · rw [if_neg h2, if_neg h1, if_neg (fun ⟨j, hj, hc⟩ => by
          rcases Nat.lt_succ_iff_lt_or_eq.1 hj with hj | rfl
          · exact h2 ⟨j, hj, hc⟩
          · exact h1 hc), Int.zero_add]; omega
theorem sumP_le {l : List Bkt} (h : ∀ b ∈ l, 1 ≤ b.count) (n : Nat) : sumP n l ≤ sumC l := by
  induction l with
  | nil =>
    have : ∀ n, sumP n [] = 0 := by
      intro n
      induction n with
      | zero => rfl
      | succ n ih => simp only [sumP, ih, num]; omega
    rw [this]; exact Int.le_refl _
  | cons x l ih =>
    have h1 := ih fun b hb => h b (by simp [hb])
    have h2 := h x (by simp)
    rw [sumP_cons]; simp only [sumC]; split <;> omega
theorem sumP_ge {l : List Bkt} {m : Int} : ∀ n : Nat, (∀ j, j < n → m ≤ num l (2 ^ j)) → m * (2 ^ n - 1) ≤ sumP n l
  | 0, _ => by simp [sumP]
  | n + 1, h => by
    have h1 := sumP_ge n fun j hj => h j (by omega)
    have h2 := h n (by omega)
    have h3 := Int.mul_le_mul_of_nonneg_left h2 (show (0 : Int) ≤ 2 ^ n by have := pow2_pos n; omega)
    simp only [sumP]
    have e : m * ((2 : Int) ^ (n + 1) - 1) = m * (2 ^ n - 1) + 2 ^ n * m := by
      rw [Int.pow_succ, Int.mul_sub, Int.mul_sub, Int.mul_comm m (2 ^ n * 2), Int.mul_comm m (2 ^ n), Int.mul_right_comm]; omega
    rw [e]; omega
theorem near_law {bs : List Bkt} {k failed last : Int} (hk : 2 ≤ k) (hs : SizP bs k failed) (ho : OrdP bs last) (f : Int) : betLo bs f ≤ betHi bs f ∧ (betHi bs f - betLo bs f) * (k - 1) ≤ betLo bs f := by
  have hpos : ∀ b ∈ bs, 1 ≤ b.count := fun b hb => by
    obtain ⟨i, hi⟩ := List.mem_iff_getElem?.1 hb
    exact (hs.1 i b hi).1
  have hlo0 : 0 ≤ betLo bs f := by
    have := (bet_bound (l := bs) f fun b hb => by
      obtain ⟨i, hi⟩ := List.mem_iff_getElem?.1 hb
      have g := hs.1 i b hi
      exact ⟨g.1, g.2.1⟩).1.1
    exact this
  rcases bet_cut f ho with e | ⟨A, b, B, rfl, g1, g2, g3, g4⟩
  · refine ⟨by omega, ?_⟩
    rw [show betHi bs f - betLo bs f = 0 by omega, Int.zero_mul]; exact hlo0
  · have hb := hpos b (by simp)
    have hP : isP b.count = true := by
      obtain ⟨i, hi⟩ := List.mem_iff_getElem?.1 (show b ∈ A ++ b :: B by simp)
      exact (hs.1 i b hi).2.2.1
    have hone : b.count ≠ 1 := fun hc => by
      rw [ord_append] at ho
      have := ho.2.1.2.2.2 hc
      omega
    obtain ⟨t, ht⟩ := isP_two hP
    have hsr : Srt (A ++ b :: B) := srt_of_at fun i b p hb hp => (hs.1 (i + 1) b hb).2.2.2.1 p (by omega) (by simpa using hp)
    obtain ⟨s1, s2, s3⟩ := List.pairwise_append.1 hsr
    have hnum : ∀ j, j < t → k - 1 ≤ num B (2 ^ j) := fun j hj => by
      have hjt : (2 : Int) ^ j < 2 ^ t := by
        have := pow2_mono (show j + 1 ≤ t from hj)
        rw [Int.pow_succ] at this
        have := pow2_pos j
        omega
      obtain ⟨b0, hb0⟩ : ∃ b0, (A ++ b :: B)[0]? = some b0 := ⟨(A ++ b :: B)[0]'(by simp; omega), by simp⟩
      have hge : b.count ≤ b0.count := by
        rcases A with _ | ⟨a, A⟩
        · simp at hb0; subst hb0; exact Int.le_refl _
        · simp at hb0; subst hb0; exact s3 _ (by simp) b (by simp)
      have := hs.2.1 j b0 hb0 (by omega)
      rw [num_append] at this
      have z : num A (2 ^ j) = 0 := num_zero fun a ha => by
        have := s3 a ha b (by simp)
        omega
      have z2 : num (b :: B) (2 ^ j) = num B (2 ^ j) := by
        rw [num, if_neg (by omega), Int.zero_add]
      omega
    have h1 := sumP_ge (m := k - 1) t hnum
    have h2 := sumP_le (l := B) (fun c hc => hpos c (by simp [hc])) t
    rw [← ht] at h1
    have h3 : (b.count - 2) * (k - 1) ≤ (k - 1) * (b.count - 1) := by
      rw [Int.mul_comm]
      exact Int.mul_le_mul_of_nonneg_left (by omega) (by omega)
    refine ⟨by omega, ?_⟩
    rw [g3]; omega
theorem few_law {bs : List Bkt} {k failed : Int} (hk : 2 ≤ k) (hs : SizP bs k failed) {d : Nat} (hd : failed < 2 ^ d) : (bs.length : Int) ≤ d * k := by
  have hle := num_le_of_at (by omega) fun i b hb => (hs.1 i b hb).2.2.2.2
  refine Int.le_trans (cntP_len (n := d) fun b hb => ?_) (cntP_le hle d)
  obtain ⟨i, hi⟩ := List.mem_iff_getElem?.1 hb
  obtain ⟨j, hj⟩ := isP_two (hs.1 i b hi).2.2.1
  refine ⟨j, ?_, hj⟩
  have hpos : ∀ b ∈ bs, 1 ≤ b.count := fun b hb => by
    obtain ⟨i, hi⟩ := List.mem_iff_getElem?.1 hb
    exact (hs.1 i b hi).1
  have := sumC_mem hpos hb
  rw [hs.2.2] at this
  rcases Nat.lt_or_ge j d with h | h
  · exact h
  · have := pow2_mono h
    omega
theorem loC_mono {b : Bkt} {f g : Int} (hb : 1 ≤ b.count) (h : f ≤ g) : loC b g ≤ loC b f ∧ hiC b g ≤ hiC b f := by
  unfold loC hiC
  split
  · rw [if_pos (show f ≤ b.first by omega), if_pos (show f ≤ b.first by omega)]; omega
  · by_cases hf : f ≤ b.first
    · rw [if_pos hf, if_pos hf]; split <;> omega
    · rw [if_neg hf, if_neg hf]
      by_cases hg : g ≤ b.last
      · rw [if_pos hg, if_pos hg, if_pos (show f ≤ b.last by omega), if_pos (show f ≤ b.last by omega)]; omega
      · rw [if_neg hg, if_neg hg]; split <;> omega
theorem bet_mono : ∀ {l : List Bkt} {f g : Int}, (∀ b ∈ l, 1 ≤ b.count) → f ≤ g → betLo l g ≤ betLo l f ∧ betHi l g ≤ betHi l f
  | [], _, _, _, _ => ⟨Int.le_refl _, Int.le_refl _⟩
  | b :: l, f, g, h, hfg => by
    have ih := bet_mono (l := l) (fun b hb => h b (by simp [hb])) hfg
    have := loC_mono (h b (by simp)) hfg
    simp only [betLo, betHi]; omega
theorem exact_law {A B : List Bkt} {b : Bkt} {last : Int} (ho : OrdP (A ++ b :: B) last) (hb : b.count = 1) (hB : ∀ c ∈ B, c.count = 1) : betLo (A ++ b :: B) (b.first + 1) = betHi (A ++ b :: B) (b.first + 1) := by
  rcases bet_cut (b.first + 1) ho with e | ⟨A', c, B', e, g1, g2, g3, g4⟩
  · exact e
  · exfalso
    have hall := ord_all ho
    have hone : ∀ x ∈ A ++ b :: B, x.count = 1 → x.first = x.last := fun x hx => (hall.1 x hx).2.2.2
    have hcm : c ∈ A ++ b :: B := by rw [e]; simp
    have hc1 : c.count ≠ 1 := fun hc => by have := hone c hcm hc; omega
    rw [ord_append] at ho
    have hbb := ho.2.1.2.2.2 hb
    rcases List.mem_append.1 hcm with hA | hBB
    · have : c.last ≤ b.first := by
        have h1 := (ord_all ho.1).1 c hA
        exact h1.2.2.1
      omega
    · rcases List.mem_cons.1 hBB with rfl | hBB
      · exact hc1 hb
      · exact hc1 (hB c hBB)
end Go.Proofs.YtkhebelajdcjgaaDoor
