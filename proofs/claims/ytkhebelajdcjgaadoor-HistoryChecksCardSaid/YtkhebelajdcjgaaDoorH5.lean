import Derived.Test.YtkhebelajdcjgaaDoorH4
namespace Go.Proofs.YtkhebelajdcjgaaDoor
open Go Go.Cl
/-! The plain law of joining. -/
theorem isP_two {c : Int} (h : isP c = true) : ∃ j : Nat, c = 2 ^ j := by
  simp only [isP, decide_eq_true_eq] at h
  obtain ⟨h1, j, hj⟩ := h
  refine ⟨j, ?_⟩
  have : c = (c.toNat : Int) := by omega
  rw [this, hj]
  exact_mod_cast rfl
theorem two_isP (j : Nat) : isP (2 ^ j) = true := by
  have h1 : (1 : Int) ≤ 2 ^ j := by have := pow2_mono (Nat.zero_le j); simpa using this
  simp only [isP, decide_eq_true_eq]
  refine ⟨h1, j, ?_⟩
  have : ((2 : Int) ^ j) = ((2 ^ j : Nat) : Int) := by exact_mod_cast rfl
  rw [this]; exact Int.toNat_natCast _
theorem isP_double {c : Int} (h : isP c = true) : isP (2 * c) = true := by
  obtain ⟨j, rfl⟩ := isP_two h
  rw [Int.mul_comm, ← Int.pow_succ]
  exact two_isP _
theorem pow_gap {i j : Nat} (h : (2 : Int) ^ i < 2 ^ j) : 2 * (2 : Int) ^ i ≤ 2 ^ j := by
  rcases Nat.lt_or_ge i j with hij | hij
  · have := pow2_mono (show i + 1 ≤ j from hij)
    rw [Int.pow_succ] at this; omega
  · have := pow2_mono hij; omega
theorem isP_gap {a b : Int} (ha : isP a = true) (hb : isP b = true) (h : a < b) : 2 * a ≤ b := by
  obtain ⟨i, rfl⟩ := isP_two ha
  obtain ⟨j, rfl⟩ := isP_two hb
  exact pow_gap h

abbrev Srt (l : List Bkt) : Prop := l.Pairwise fun a b => b.count ≤ a.count

structure Inv (k : Int) (l : List Bkt) (s : Int) : Prop where
  srt : Srt l
  pow : ∀ b ∈ l, isP b.count = true
  most : ∀ c, c ≠ s → num l c ≤ k
  here : num l s ≤ k + 1
  low : ∀ (j : Nat) (b : Bkt), l[0]? = some b → (2 : Int) ^ j < b.count → k - 1 ≤ num l (2 ^ j)
  sp : isP s = true

def mrg : List Bkt → Int → List Bkt
  | x :: y :: l, s => if x.count = s then ⟨x.first, y.last, 2 * s⟩ :: l else x :: mrg (y :: l) s
  | l, _ => l
def carry (k : Int) : Nat → List Bkt → Int → List Bkt
  | 0, l, _ => l
  | n + 1, l, s => if k < num l s then carry k n (mrg l s) (2 * s) else l

theorem num_pos {l : List Bkt} {c : Int} (h : 0 < num l c) : ∃ b ∈ l, b.count = c := by
  induction l with
  | nil => simp [num] at h
  | cons b l ih =>
    by_cases hb : b.count = c
    · exact ⟨b, by simp, hb⟩
    · rw [num, if_neg hb, Int.zero_add] at h
      obtain ⟨x, hx, hc⟩ := ih h
      exact ⟨x, by simp [hx], hc⟩
theorem num_mem {l : List Bkt} {c : Int} {b : Bkt} (h : b ∈ l) (hc : b.count = c) : 0 < num l c := by
  induction l with
  | nil => cases h
  | cons x l ih =>
    have := num_nonneg l c
    rw [num]
    rcases List.mem_cons.1 h with rfl | h
    · rw [if_pos hc]; omega
    · have := ih h
      split <;> omega
theorem num_zero {l : List Bkt} {c : Int} (h : ∀ b ∈ l, b.count ≠ c) : num l c = 0 := by
  have := num_nonneg l c
  rcases Int.lt_or_le 0 (num l c) with h' | h'
  · obtain ⟨b, hb, hc⟩ := num_pos h'
    exact absurd hc (h b hb)
  · omega

/-- The block of a size stands together. -/
theorem srt_head {x y : Bkt} {l : List Bkt} {s : Int} (h : Srt (x :: y :: l)) (hx : x.count = s) (hn : 0 < num (y :: l) s) : y.count = s := by
  obtain ⟨b, hb, hc⟩ := num_pos hn
  have h1 : y.count ≤ x.count := (List.pairwise_cons.1 h).1 y (by simp)
  have h2 : b.count ≤ y.count := by
    rcases List.mem_cons.1 hb with rfl | hb
    · exact Int.le_refl _
    · exact (List.pairwise_cons.1 (List.pairwise_cons.1 h).2).1 b hb
  omega
theorem decomp {l : List Bkt} {s : Int} (hs : Srt l) (hn : 2 ≤ num l s) : ∃ A x y B, l = A ++ x :: y :: B ∧ (∀ a ∈ A, s < a.count) ∧ x.count = s ∧ y.count = s := by
  induction l with
  | nil => simp [num] at hn
  | cons x l ih =>
    by_cases hx : x.count = s
    · rw [num, if_pos hx] at hn
      rcases l with _ | ⟨y, l⟩
      · simp [num] at hn
      · exact ⟨[], x, y, l, rfl, by simp, hx, srt_head hs hx (by omega)⟩
    · rw [num, if_neg hx, Int.zero_add] at hn
      obtain ⟨A, u, v, B, rfl, h1, h2, h3⟩ := ih (List.pairwise_cons.1 hs).2 hn
      refine ⟨x :: A, u, v, B, rfl, fun a ha => ?_, h2, h3⟩
      rcases List.mem_cons.1 ha with rfl | ha
      · have := (List.pairwise_cons.1 hs).1 u (by simp)
        omega
      · exact h1 a ha
theorem mrg_eq {A B : List Bkt} {x y : Bkt} {s : Int} (hA : ∀ a ∈ A, s < a.count) (hx : x.count = s) : mrg (A ++ x :: y :: B) s = A ++ ⟨x.first, y.last, 2 * s⟩ :: B := by
  induction A with
  | nil => simp [mrg, hx]
  | cons a A ih =>
    have h1 : ¬ a.count = s := by have := hA a (by simp); omega
    have ih := ih fun b hb => hA b (by simp [hb])
    rcases A with _ | ⟨b, A⟩
    · simp only [List.cons_append, List.nil_append] at ih ⊢
      rw [mrg, if_neg h1, ih]
    · simp only [List.cons_append] at ih ⊢
      rw [mrg, if_neg h1, ih]

theorem Inv.step {k : Int} {A B : List Bkt} {x y : Bkt} {s : Int} (h : Inv k (A ++ x :: y :: B) s) (hA : ∀ a ∈ A, s < a.count) (hx : x.count = s) (hy : y.count = s) (hn : k < num (A ++ x :: y :: B) s) : Inv k (A ++ ⟨x.first, y.last, 2 * s⟩ :: B) (2 * s) := by
  obtain ⟨srt, pow, most, here, low, sp⟩ := h
  have hs1 := isP_pos sp
  have hl : ∀ c, num (A ++ x :: y :: B) c = num A c + ((if s = c then 1 else 0) + ((if s = c then 1 else 0) + num B c)) := fun c => by
    rw [num_append, num, num, hx, hy]
  have hl' : ∀ c, num (A ++ ⟨x.first, y.last, 2 * s⟩ :: B) c = num A c + ((if 2 * s = c then 1 else 0) + num B c) := fun c => by
    rw [num_append, num]
  have hsA := List.pairwise_append.1 srt
  have hsx := List.pairwise_cons.1 hsA.2.1
  have hsy := List.pairwise_cons.1 hsx.2
  have gap : ∀ a ∈ A, 2 * s ≤ a.count := fun a ha => isP_gap sp (pow a (by simp [ha])) (hA a ha)
  refine ⟨List.pairwise_append.2 ⟨hsA.1, List.pairwise_cons.2 ⟨fun b hb => ?_, hsy.2⟩, fun a ha b hb => ?_⟩, fun b hb => ?_, fun c hc => ?_, ?_, fun j b hb hj => ?_, isP_double sp⟩
  · have := hsx.1 b (by simp [hb])
    simp only; omega
  · rcases List.mem_cons.1 hb with rfl | hb
    · exact gap a ha
    · exact hsA.2.2 a ha b (by simp [hb])
  · rcases List.mem_append.1 hb with hb | hb
    · exact pow b (by simp [hb])
    · rcases List.mem_cons.1 hb with rfl | hb
      · exact isP_double sp
      · exact pow b (by simp [hb])
  · have e1 := hl c
    have e2 := hl' c
    rw [if_neg (fun e => hc e.symm)] at e2
    by_cases hcs : c = s
    · subst hcs
      rw [if_pos rfl] at e1
      omega
    · rw [if_neg (fun e => hcs e.symm)] at e1
      have := most c hcs
      omega
  · have e1 := hl (2 * s)
    have e2 := hl' (2 * s)
    rw [if_neg (by omega)] at e1
    rw [if_pos rfl] at e2
    have := most (2 * s) (by omega)
    omega
  · have e1 := hl (2 ^ j)
    have e2 := hl' (2 ^ j)
    by_cases hjs : (2 : Int) ^ j = s
    · rw [hjs] at e1 e2 ⊢
      rw [if_pos rfl] at e1
      rw [if_neg (by omega)] at e2
      omega
    · rw [if_neg (fun e => hjs e.symm)] at e1
      have key : k - 1 ≤ num (A ++ x :: y :: B) (2 ^ j) ∨ (2 : Int) ^ j = 2 * s ∧ A = [] := by
        rcases A with _ | ⟨a, A⟩
        · simp at hb
          subst hb
          simp only at hj
          obtain ⟨i, rfl⟩ := isP_two sp
          rcases Int.lt_or_le ((2 : Int) ^ j) (2 ^ i) with h' | h'
          · exact .inl (low j x (by simp) (by rw [hx]; exact h'))
          · have := pow_gap (show (2 : Int) ^ i < 2 ^ j by omega)
            omega
        · simp at hb
          subst hb
          exact .inl (low j a (by simp) hj)
      rcases key with hk1 | ⟨hk1, hk2⟩
      · split at e2 <;> omega
      · subst hk2
        simp at hb
        subst hb
        simp only at hj
        omega

theorem carry_stop {k : Int} {n : Nat} {l : List Bkt} {s : Int} (h : ¬ k < num l s) : carry k n l s = l := by
  cases n with
  | zero => rfl
  | succ n => rw [carry, if_neg h]
theorem carry_step {k : Int} {A B : List Bkt} {x y : Bkt} {s : Int} (hA : ∀ a ∈ A, s < a.count) (hx : x.count = s) (hn : k < num (A ++ x :: y :: B) s) :
    carry k (A ++ x :: y :: B).length (A ++ x :: y :: B) s = carry k (A ++ ⟨x.first, y.last, 2 * s⟩ :: B).length (A ++ ⟨x.first, y.last, 2 * s⟩ :: B) (2 * s) := by
  have e : (A ++ x :: y :: B).length = (A ++ (⟨x.first, y.last, 2 * s⟩ : Bkt) :: B).length + 1 := by simp; omega
  rw [e, carry, if_pos hn, mrg_eq hA hx]

/-- Two of one count: all between are. -/
theorem srt_seg {l : List Bkt} (hs : Srt l) {i d : Nat} {a b : Bkt} (ha : l[i]? = some a) (hb : l[i + d]? = some b) (he : a.count = b.count) : (d : Int) + 1 ≤ num (l.drop i) a.count := by
  induction i generalizing l with
  | succ i ih =>
    rcases l with _ | ⟨x, l⟩
    · simp at ha
    · rw [List.drop_succ_cons]
      refine ih (List.pairwise_cons.1 hs).2 (by simpa using ha) ?_
      rw [show i + 1 + d = (i + d) + 1 by omega] at hb
      simpa using hb
  | zero =>
    rw [List.drop_zero]
    rw [Nat.zero_add] at hb
    induction d generalizing l a with
    | zero =>
      have := num_mem (List.mem_of_getElem? ha) rfl
      simp only [Int.natCast_zero]; omega
    | succ d ih =>
      rcases l with _ | ⟨x, l⟩
      · simp at ha
      · simp at ha
        subst ha
        rw [List.getElem?_cons_succ] at hb
        rcases l with _ | ⟨y, l⟩
        · simp at hb
        · have hmem : b ∈ y :: l := List.mem_of_getElem? hb
          have h1 := srt_head hs (s := x.count) rfl (num_mem hmem he.symm)
          have := ih (l := y :: l) (a := y) (h1.trans he) (List.pairwise_cons.1 hs).2 (by simp) hb
          rw [num, if_pos rfl, ← h1]
          push_cast
          omega
/-- As many as there are stand behind the first. -/
theorem srt_block {l : List Bkt} {s : Int} (hs : Srt l) {x : Bkt} (hx : l[0]? = some x) (hxs : x.count = s) {m : Nat} (hn : (m : Int) < num l s) : ∃ b, l[m]? = some b ∧ b.count = s := by
  induction m generalizing l x with
  | zero => exact ⟨x, hx, hxs⟩
  | succ m ih =>
    rcases l with _ | ⟨x', l⟩
    · simp at hx
    · simp at hx
      subst hx
      rw [num, if_pos hxs] at hn
      push_cast at hn
      rcases l with _ | ⟨y, l⟩
      · simp [num] at hn; omega
      · obtain ⟨b, hb, hc⟩ := ih (l := y :: l) (List.pairwise_cons.1 hs).2 (x := y) (by simp) (srt_head hs hxs (by omega)) (by omega)
        exact ⟨b, by simpa using hb, hc⟩

def isHit (l : List Bkt) (k i : Nat) : Prop := ∃ a b, l[i]? = some a ∧ l[i + k]? = some b ∧ a.count = b.count
theorem Inv.hit {k : Nat} {l : List Bkt} {s : Int} (h : Inv k l s) (hk : 2 ≤ k) {i : Nat} {a b : Bkt} (ha : l[i]? = some a) (hb : l[i + k]? = some b) (he : a.count = b.count) :
    ∃ y B, l = l.take i ++ a :: y :: B ∧ l[i + 1]? = some y ∧ (∀ u ∈ l.take i, s < u.count) ∧ a.count = s ∧ y.count = s ∧ (k : Int) < num l s := by
  have h1 := srt_seg h.srt ha hb he
  have hsplit : num l a.count = num (l.take i) a.count + num (l.drop i) a.count := by rw [← num_append, List.take_append_drop]
  have h0 := num_nonneg (l.take i) a.count
  have has : a.count = s := by
    rcases Classical.em (a.count = s) with h' | h'
    · exact h'
    · have := h.most _ h'; omega
  have hn := h.here
  rw [has] at hsplit h1 h0
  have hdi : l.drop i = a :: l.drop (i + 1) := by
    obtain ⟨hi, rfl⟩ := List.getElem?_eq_some_iff.1 ha
    exact List.drop_eq_getElem_cons hi
  have hlt := (List.getElem?_eq_some_iff.1 hb).1
  have hsd : Srt (l.drop i) := List.Pairwise.sublist (List.drop_sublist i l) h.srt
  obtain ⟨y, hy⟩ : ∃ y, l[i + 1]? = some y := ⟨l[i + 1]'(by omega), by simp⟩
  have hdi1 : l.drop (i + 1) = y :: l.drop (i + 2) := by
    obtain ⟨hi, rfl⟩ := List.getElem?_eq_some_iff.1 hy
    exact List.drop_eq_getElem_cons hi
  rw [hdi1] at hdi
  refine ⟨y, l.drop (i + 2), by rw [← hdi, List.take_append_drop], hy, fun u hu => ?_, has, ?_, by omega⟩
  · have hge : a.count ≤ u.count := by
      have hp := h.srt
      rw [← List.take_append_drop i l, hdi] at hp
      exact (List.pairwise_append.1 hp).2.2 u hu a (by simp)
    rcases Int.lt_or_le s u.count with h' | h'
    · exact h'
    · have := num_mem (c := s) hu (by omega)
      omega
  · rw [hdi] at hsd h1
    rw [num, if_pos has] at h1
    exact srt_head hsd has (by omega)
theorem Inv.nohit {k : Nat} {l : List Bkt} {s : Int} (h : Inv k l s) (hk : 2 ≤ k) (hno : ∀ i, ¬ isHit l k i) : ¬ (k : Int) < num l s := fun hn => by
  obtain ⟨A, x, y, B, rfl, hA, hx, hy⟩ := decomp h.srt (s := s) (by omega)
  have hnA : num A s = 0 := num_zero fun b hb => by have := hA b hb; omega
  have hrest : num (x :: y :: B) s = num (A ++ x :: y :: B) s := by rw [num_append, hnA, Int.zero_add]
  obtain ⟨b, hb, hc⟩ := srt_block (l := x :: y :: B) (List.pairwise_append.1 h.srt).2.1 (x := x) (by simp) hx (m := k) (by rw [hrest]; exact hn)
  exact hno A.length ⟨x, b, by simp, by rw [List.getElem?_append_right (by omega), Nat.add_sub_cancel_left]; exact hb, by rw [hx, hc]⟩
end Go.Proofs.YtkhebelajdcjgaaDoor
