import Derived.Test.YtkhebelajdcjgaaDoorK21
import Derived.Test.YtkhebelajdcjgaaDoorH6
namespace Go.Proofs.YtkhebelajdcjgaaDoor
open Go Go.Cl

abbrev bk1 (r : Int) : Bkt := ⟨r, r, 1⟩
/-- What Add makes: which check it asks, and whether its list of buckets is not nil. -/
noncomputable def addS (c : Bool) (h : Hist) (rev : Int) (failed : Bool) (nn : Bool) : Hist × Int :=
  if c = false then (zeroH, 1) else if rev < 1 ∨ 1073741824 < rev then (zeroH, 3) else if rev < h.last then (zeroH, 40) else if h.runs = 1073741824 then (zeroH, 2) else
  ({ h with runs := h.runs + 1, last := rev, failed := h.failed + (if failed = true then 1 else 0), bs := if failed = true then carry h.k (h.bs.length + 1) (h.bs ++ [bk1 rev]) 1 else h.bs, nn := nn }, 0)

theorem num_le_of_at {bs : List Bkt} {k : Int} (hk : 0 ≤ k) (h : ∀ (i : Nat) (b : Bkt), bs[i]? = some b → num (bs.take i) b.count ≠ k) : ∀ c, num bs c ≤ k := by
  have key : ∀ (n : Nat) c, num (bs.take n) c ≤ k := by
    intro n
    induction n with
    | zero => intro c; simpa [num] using hk
    | succ n ih =>
      intro c
      rcases hb : bs[n]? with _ | b
      · have : bs.take (n + 1) = bs.take n := by rw [List.take_add_one, hb]; simp
        rw [this]; exact ih c
      · rw [take_snoc hb, num_append]
        have h1 := ih c
        have h2 := h n b hb
        simp only [num]
        split
        · rename_i e; rw [e] at h2; omega
        · omega
  intro c
  have := key bs.length c
  rwa [List.take_length] at this
theorem srt_of_at {bs : List Bkt} (h : ∀ (i : Nat) (b p : Bkt), bs[i + 1]? = some b → bs[i]? = some p → b.count ≤ p.count) : Srt bs := by
  induction bs with
  | nil => exact List.Pairwise.nil
  | cons x l ih =>
    have ihl := ih fun i b p hb hp => h (i + 1) b p (by simpa using hb) (by simpa using hp)
    refine List.pairwise_cons.2 ⟨fun b hb => ?_, ihl⟩
    rcases l with _ | ⟨y, l⟩
    · cases hb
    · have h1 := h 0 y x (by simp) (by simp)
      rcases List.mem_cons.1 hb with rfl | hb
      · exact h1
      · have := (List.pairwise_cons.1 ihl).1 b hb
        omega
/-- A list that is right, with one of size 1 behind. -/
theorem inv_of_siz {bs : List Bkt} {k failed : Int} (hk : 2 ≤ k) (h : SizP bs k failed) (r : Int) : Inv k (bs ++ [bk1 r]) 1 := by
  obtain ⟨h1, h2, h3⟩ := h
  have hle := num_le_of_at (by omega) fun i b hb => (h1 i b hb).2.2.2.2
  have hsr : Srt bs := srt_of_at fun i b p hb hp => (h1 (i + 1) b hb).2.2.2.1 p (by omega) (by simpa using hp)
  have hn : ∀ c, num (bs ++ [bk1 r]) c = num bs c + (if (1 : Int) = c then 1 else 0) := fun c => by rw [num_append]; simp [num]
  refine ⟨List.pairwise_append.2 ⟨hsr, by simp, fun a ha b hb => ?_⟩, fun b hb => ?_, fun c hc => ?_, ?_, fun j b hb hj => ?_, by simpa using two_isP 0⟩
  · simp at hb; subst hb
    obtain ⟨i, hi⟩ := List.mem_iff_getElem?.1 ha
    exact (h1 i a hi).1
  · rcases List.mem_append.1 hb with hb | hb
    · obtain ⟨i, hi⟩ := List.mem_iff_getElem?.1 hb
      exact (h1 i b hi).2.2.1
    · simp at hb; subst hb; simpa using two_isP 0
  · rw [hn, if_neg (fun e => hc e.symm)]; have := hle c; omega
  · rw [hn, if_pos rfl]; have := hle 1; omega
  · rcases bs with _ | ⟨x, l⟩
    · simp at hb; subst hb
      have := pow2_mono (Nat.zero_le j)
      simp only at hj
      simp at this
      omega
    · simp at hb; subst hb
      have := h2 j x (by simp) hj
      rw [hn]
      split <;> omega
/-- The end of joining is right again. -/
theorem siz_of_inv {bs : List Bkt} {k s : Int} (h : Inv k bs s) (hs : num bs s ≤ k) (hb : ∀ b ∈ bs, b.count ≤ 1073741824) : SizP bs k (sumC bs) := by
  have hle : ∀ c, num bs c ≤ k := fun c => by
    by_cases hc : c = s
    · rw [hc]; exact hs
    · exact h.most c hc
  refine ⟨fun i b hi => ⟨isP_pos (h.pow b (List.mem_of_getElem? hi)), hb b (List.mem_of_getElem? hi), h.pow b (List.mem_of_getElem? hi), fun p h0 hp => ?_, fun he => ?_⟩, h.low, rfl⟩
  · obtain ⟨hi1, e1⟩ := List.getElem?_eq_some_iff.1 hi
    obtain ⟨hp1, e2⟩ := List.getElem?_eq_some_iff.1 hp
    have := (List.pairwise_iff_getElem.1 h.srt) (i - 1) i hp1 hi1 (by omega)
    rw [e1, e2] at this
    exact this
  · have h1 : num bs b.count = num (bs.take i) b.count + num (bs.drop i) b.count := by rw [← num_append, List.take_append_drop]
    have h2 : 0 < num (bs.drop i) b.count := by
      refine num_mem (b := b) ?_ rfl
      obtain ⟨hi1, e1⟩ := List.getElem?_eq_some_iff.1 hi
      rw [List.drop_eq_getElem_cons hi1, e1]; simp
    have := hle b.count
    omega
theorem ord_append {A B : List Bkt} {last : Int} : OrdP (A ++ B) last ↔ OrdP A (match B with | [] => last | c :: _ => c.first) ∧ OrdP B last := by
  induction A with
  | nil => simp [OrdP]
  | cons a A ih =>
    rcases A with _ | ⟨x, A⟩
    · rcases B with _ | ⟨y, B⟩ <;> simp [OrdP]
    · have e : ∀ (x : Bkt) (l : List Bkt) (q : Int), OrdP (a :: x :: l) q ↔ (1 ≤ a.first ∧ a.first ≤ a.last ∧ a.last ≤ x.first ∧ (a.count = 1 → a.first = a.last)) ∧ OrdP (x :: l) q := fun _ _ _ => Iff.rfl
      rw [List.cons_append, List.cons_append, e, e, ← List.cons_append, ih]
      constructor
      · rintro ⟨h1, h2, h3⟩; exact ⟨⟨h1, h2⟩, h3⟩
      · rintro ⟨⟨h1, h2⟩, h3⟩; exact ⟨h1, h2, h3⟩
theorem ord_mono {l : List Bkt} {a b : Int} (h : OrdP l a) (hab : a ≤ b) : OrdP l b := by
  induction l with
  | nil => trivial
  | cons x l ih =>
    obtain ⟨⟨h1, h2, h3, h4⟩, h5⟩ := h
    refine ⟨⟨h1, h2, ?_, h4⟩, ih h5⟩
    rcases l with _ | ⟨y, l⟩
    · simp only at h3 ⊢; omega
    · exact h3
theorem ord_mrg {A B : List Bkt} {x y : Bkt} {s last : Int} (_hs1 : 1 ≤ s) (h : OrdP (A ++ x :: y :: B) last) : OrdP (A ++ ⟨x.first, y.last, 2 * s⟩ :: B) last := by
  rw [ord_append] at h ⊢
  obtain ⟨h1, ⟨h2, h3, h4, h5⟩, ⟨h6, h7, h8, h9⟩, h10⟩ := h
  refine ⟨h1, ⟨h2, ?_, h8, fun e => ?_⟩, h10⟩
  · simp only at h4 ⊢; omega
  · simp only at e; omega
/-- What joining keeps. -/
theorem carry_keeps {k : Int} (hk : 2 ≤ k) {last : Int} : ∀ (n : Nat) (l : List Bkt) (s : Int), l.length ≤ n → Inv k l s → OrdP l last → ∃ s', Inv k (carry k n l s) s' ∧ num (carry k n l s) s' ≤ k ∧ sumC (carry k n l s) = sumC l ∧ OrdP (carry k n l s) last ∧ (carry k n l s).length ≤ l.length
  | 0, l, s, hl, h, ho => by
    have : l = [] := List.eq_nil_of_length_eq_zero (by omega)
    subst this
    exact ⟨s, h, by simp [carry, num]; omega, rfl, ho, Nat.le_refl _⟩
  | n + 1, l, s, hl, h, ho => by
    by_cases hn : k < num l s
    · obtain ⟨A, x, y, B, rfl, hA, hx, hy⟩ := decomp h.srt (s := s) (by omega)
      rw [carry, if_pos hn, mrg_eq hA hx]
      obtain ⟨s', g1, g2, g3, g4, g5⟩ := carry_keeps hk (last := last) n _ (2 * s) (by simp at hl ⊢; omega) (h.step hA hx hy hn) (ord_mrg (isP_pos h.sp) ho)
      refine ⟨s', g1, g2, ?_, g4, by simp at g5 ⊢; omega⟩
      rw [g3]; simp only [sumC_append, sumC]; omega
    · rw [carry, if_neg hn]
      exact ⟨s, h, by omega, rfl, ho, Nat.le_refl _⟩
theorem add_keeps {h : Hist} {rev : Int} (hc : ChkP h) (h1 : 1 ≤ rev ∧ rev ≤ 1073741824) (h2 : h.last ≤ rev) (h3 : h.runs < 1073741824) (failed nn : Bool) : ChkP (addS true h rev failed nn).1 := by
  have hk := hc.k
  have hf := hc.fail
  have e : addS true h rev failed nn = ({ h with runs := h.runs + 1, last := rev, failed := h.failed + (if failed = true then 1 else 0), bs := if failed = true then carry h.k (h.bs.length + 1) (h.bs ++ [bk1 rev]) 1 else h.bs, nn := nn }, 0) := by
    rw [addS, if_neg (by decide), if_neg (by omega), if_neg (by omega), if_neg (by omega)]
  rw [e]
  cases failed with
  | false => exact ⟨⟨hc.use, hc.env, hc.k, ⟨by simp; omega, by simp; omega, by simp; omega⟩, ⟨by simp; omega, by simp; omega⟩, by simp; omega⟩, ord_mono hc.ord h2, by simpa using hc.siz⟩
  | true =>
    have hord : OrdP (h.bs ++ [bk1 rev]) rev := ord_append.2 ⟨ord_mono hc.ord h2, ⟨⟨h1.1, Int.le_refl _, Int.le_refl _, fun _ => rfl⟩, trivial⟩⟩
    obtain ⟨s', g1, g2, g3, g4, g5⟩ := carry_keeps hk.1 (h.bs.length + 1) (h.bs ++ [bk1 rev]) 1 (by simp) (inv_of_siz hk.1 hc.siz rev) hord
    have hsum : sumC (h.bs ++ [bk1 rev]) = h.failed + 1 := by rw [sumC_append, hc.siz.2.2]; simp [sumC]
    have hs := siz_of_inv g1 g2 (fun b hb => by
      have := sumC_mem (fun b hb => isP_pos (g1.pow b hb)) hb
      rw [g3, hsum] at this
      omega)
    rw [g3, hsum] at hs
    exact ⟨⟨hc.use, hc.env, hc.k, ⟨by simp; omega, by simp; omega, by simp; omega⟩, ⟨by simp; omega, by simp; omega⟩, by simp; omega⟩, g4, hs⟩

set_option maxRecDepth 10000 in
theorem hi_Add (h : Hist) (hf : Fits h) (rev : Int) (failed : Bool) : CCalls CC 20 [.agg h.cells, (.val (.int .i64 (rev))), (.val (.bool (failed)))] [] fun r σ' => r = .ret (.tup [.agg (addS (pb (ChkP h)) h rev failed true).1.cells, (.val (.int .i64 ((addS (pb (ChkP h)) h rev failed true).2)))]) ∧ σ' = [] := by
  refine ccalls_val (ccalls_of Tryd.func20 rfl rfl ?_)
  refine cw_seq ?_
  refine cw_region ?_
  refine co_d rfl rfl (d_box rfl trivial (by conv => lhs; whnf) (.inr ⟨_, rfl⟩) ?_)
  refine co_d rfl rfl (d_alloc rfl Tryd.zeroValue26 rfl (.inr ⟨_, rfl⟩) ?_)
  refine co_y rfl rfl (y_assign rfl rfl (by conv => lhs; whnf)) ?_
  refine co_nil ?_
  refine cw_seq ?_
  refine cw_block ?_
  refine cw_seq ?_
  refine cw_region ?_
  refine co_y rfl rfl (y_load rfl trivial rfl Tryd.isAgg26 Tryd.sizeOf26 rfl (Nat.le_of_ble_eq_true rfl)) ?_
  refine co_y rfl rfl (y_callf rfl Tryd.call15 ⟨trivial, trivial⟩ (hi_Check_s h hf _) rfl) ?_
  refine co_y rfl rfl (y_not rfl trivial rfl) ?_
  refine co_y rfl rfl (y_assign rfl trivial (by conv => lhs; whnf)) ?_
  refine co_nil ?_
  refine cw_cond trivial rfl (fun h1 => ?_) (fun h1 => ?_)
  · have hc : pb (ChkP h) = false := by simpa using h1
    refine cw_seq ?_
    refine cw_region ?_
    refine co_y rfl rfl (y_build' #[(0, 2), (2, 1), (3, 1), (4, 1), (5, 1), (6, 1), (7, 1)] rfl trivial Tryd.runUnderlying26 Tryd.zeroValue26 rfl ⟨_, rfl⟩ (fun w => by kernel_rfl) rfl rfl) ?_
    refine co_d rfl rfl (d_store rfl trivial trivial rfl (by conv => lhs; whnf) Tryd.sizeOf26 (.inr ⟨_, rfl⟩) rfl rfl (Nat.le_of_ble_eq_true rfl) ?_)
    refine co_y rfl rfl (y_assign rfl rfl (by conv => lhs; whnf)) ?_
    refine co_nil ?_
    refine cw_ret ?_
    exact ⟨_, res_all (rs := [.cell 6 26, .tmp 7]) (cs := [_, _]) rfl ⟨⟨trivial, _, _, _, rfl, rfl, .inr ⟨_, Tryd.isAgg26, Tryd.sizeOf26, Nat.le_of_ble_eq_true rfl, rfl⟩⟩, ⟨trivial, (by conv => lhs; whnf)⟩, trivial⟩ (Nat.ne_of_beq_eq_false rfl), _, _, rfl, rfl, (cls_eq (by rw [addS, if_pos hc]; rfl) (by repeat' (first | exact .val _ | exact pure_bkts _ _ | exact pure_ints _ _ | exact trivial | refine pure_agg ?_ | refine pure_tup ?_ | refine ⟨?_, ?_⟩)))⟩
  · have hc : ¬ pb (ChkP h) = false := by simpa using h1
    have hcp : ChkP h := pb_eq.1 (by simpa using hc)
    have hfail := hcp.fail
    have hlen := hf.len
    have hlast := hcp.last
    have hk2 := hcp.k
    refine cw_seq ?_
    refine cw_region ?_
    refine co_y rfl rfl (y_move rfl trivial (by conv => lhs; whnf)) ?_
    refine co_y rfl rfl (y_int rfl trivial rfl rfl rfl rfl) ?_
    refine co_y rfl rfl (y_move rfl trivial (by conv => lhs; whnf)) ?_
    refine co_g rfl rfl trivial rfl rfl (fun hg => y_move rfl trivial (by conv => lhs; whnf)) ?_
    refine co_g rfl rfl trivial rfl rfl (fun hg => y_int rfl hg rfl rfl rfl rfl) ?_
    refine co_y rfl rfl (y_pick_or rfl trivial rfl (fun hp => hp) (fun _ => rfl)) ?_
    refine co_y rfl rfl (y_assign rfl trivial (by conv => lhs; whnf)) ?_
    refine co_nil ?_
    refine cw_cond trivial rfl (fun h2 => ?_) (fun h2 => ?_)
    · have hr : rev < 1 ∨ 1073741824 < rev := by simpa using h2
      refine cw_seq ?_
      refine cw_region ?_
      refine co_y rfl rfl (y_build' #[(0, 2), (2, 1), (3, 1), (4, 1), (5, 1), (6, 1), (7, 1)] rfl trivial Tryd.runUnderlying26 Tryd.zeroValue26 rfl ⟨_, rfl⟩ (fun w => by kernel_rfl) rfl rfl) ?_
      refine co_d rfl rfl (d_store rfl trivial trivial rfl (by conv => lhs; whnf) Tryd.sizeOf26 (.inr ⟨_, rfl⟩) rfl rfl (Nat.le_of_ble_eq_true rfl) ?_)
      refine co_y rfl rfl (y_assign rfl rfl (by conv => lhs; whnf)) ?_
      refine co_nil ?_
      refine cw_ret ?_
      exact ⟨_, res_all (rs := [.cell 6 26, .tmp 7]) (cs := [_, _]) rfl ⟨⟨trivial, _, _, _, rfl, rfl, .inr ⟨_, Tryd.isAgg26, Tryd.sizeOf26, Nat.le_of_ble_eq_true rfl, rfl⟩⟩, ⟨trivial, (by conv => lhs; whnf)⟩, trivial⟩ (Nat.ne_of_beq_eq_false rfl), _, _, rfl, rfl, (cls_eq (by rw [addS, if_neg hc, if_pos hr]; rfl) (by repeat' (first | exact .val _ | exact pure_bkts _ _ | exact pure_ints _ _ | exact trivial | refine pure_agg ?_ | refine pure_tup ?_ | refine ⟨?_, ?_⟩)))⟩
    · have hr : ¬ (rev < 1 ∨ 1073741824 < rev) := by simp at h2; omega
      refine cw_seq ?_
      refine cw_region ?_
      refine co_y rfl rfl (y_move rfl trivial (by conv => lhs; whnf)) ?_
      refine co_y rfl rfl (y_field rfl trivial rfl Tryd.runUnderlying26 rfl Tryd.sizeOf3 (by decide)) ?_
      refine co_y rfl rfl (y_load1 rfl trivial rfl Tryd.isAgg3 rfl rfl) ?_
      refine co_y rfl rfl (y_int rfl trivial trivial rfl rfl rfl) ?_
      refine co_y rfl rfl (y_assign rfl trivial (by conv => lhs; whnf)) ?_
      refine co_nil ?_
      refine cw_cond trivial rfl (fun h3 => ?_) (fun h3 => ?_)
      · have ho : rev < h.last := by simpa using h3
        refine cw_seq ?_
        refine cw_region ?_
        refine co_y rfl rfl (y_build' #[(0, 2), (2, 1), (3, 1), (4, 1), (5, 1), (6, 1), (7, 1)] rfl trivial Tryd.runUnderlying26 Tryd.zeroValue26 rfl ⟨_, rfl⟩ (fun w => by kernel_rfl) rfl rfl) ?_
        refine co_d rfl rfl (d_store rfl trivial trivial rfl (by conv => lhs; whnf) Tryd.sizeOf26 (.inr ⟨_, rfl⟩) rfl rfl (Nat.le_of_ble_eq_true rfl) ?_)
        refine co_y rfl rfl (y_assign rfl rfl (by conv => lhs; whnf)) ?_
        refine co_nil ?_
        refine cw_ret ?_
        exact ⟨_, res_all (rs := [.cell 6 26, .tmp 7]) (cs := [_, _]) rfl ⟨⟨trivial, _, _, _, rfl, rfl, .inr ⟨_, Tryd.isAgg26, Tryd.sizeOf26, Nat.le_of_ble_eq_true rfl, rfl⟩⟩, ⟨trivial, (by conv => lhs; whnf)⟩, trivial⟩ (Nat.ne_of_beq_eq_false rfl), _, _, rfl, rfl, (cls_eq (by rw [addS, if_neg hc, if_neg hr, if_pos ho]; rfl) (by repeat' (first | exact .val _ | exact pure_bkts _ _ | exact pure_ints _ _ | exact trivial | refine pure_agg ?_ | refine pure_tup ?_ | refine ⟨?_, ?_⟩)))⟩
      · have ho : ¬ rev < h.last := by simpa using h3
        refine cw_seq ?_
        refine cw_region ?_
        refine co_y rfl rfl (y_field rfl trivial rfl Tryd.runUnderlying26 rfl Tryd.sizeOf3 (by decide)) ?_
        refine co_y rfl rfl (y_load1 rfl trivial rfl Tryd.isAgg3 rfl rfl) ?_
        refine co_y rfl rfl (y_int rfl trivial rfl rfl rfl rfl) ?_
        refine co_y rfl rfl (y_assign rfl trivial (by conv => lhs; whnf)) ?_
        refine co_nil ?_
        refine cw_cond trivial rfl (fun h4 => ?_) (fun h4 => ?_)
        · have hm : h.runs = 1073741824 := by simpa using h4
          refine cw_seq ?_
          refine cw_region ?_
          refine co_y rfl rfl (y_build' #[(0, 2), (2, 1), (3, 1), (4, 1), (5, 1), (6, 1), (7, 1)] rfl trivial Tryd.runUnderlying26 Tryd.zeroValue26 rfl ⟨_, rfl⟩ (fun w => by kernel_rfl) rfl rfl) ?_
          refine co_d rfl rfl (d_store rfl trivial trivial rfl (by conv => lhs; whnf) Tryd.sizeOf26 (.inr ⟨_, rfl⟩) rfl rfl (Nat.le_of_ble_eq_true rfl) ?_)
          refine co_y rfl rfl (y_assign rfl rfl (by conv => lhs; whnf)) ?_
          refine co_nil ?_
          refine cw_ret ?_
          exact ⟨_, res_all (rs := [.cell 6 26, .tmp 7]) (cs := [_, _]) rfl ⟨⟨trivial, _, _, _, rfl, rfl, .inr ⟨_, Tryd.isAgg26, Tryd.sizeOf26, Nat.le_of_ble_eq_true rfl, rfl⟩⟩, ⟨trivial, (by conv => lhs; whnf)⟩, trivial⟩ (Nat.ne_of_beq_eq_false rfl), _, _, rfl, rfl, (cls_eq (by rw [addS, if_neg hc, if_neg hr, if_neg ho, if_pos hm]; rfl) (by repeat' (first | exact .val _ | exact pure_bkts _ _ | exact pure_ints _ _ | exact trivial | refine pure_agg ?_ | refine pure_tup ?_ | refine ⟨?_, ?_⟩)))⟩
        · have hm : ¬ h.runs = 1073741824 := by simpa using h4
          refine cw_skip ?_
          refine cw_seq ?_
          refine cw_region ?_
          refine co_y rfl rfl (y_field rfl trivial rfl Tryd.runUnderlying26 rfl Tryd.sizeOf3 (by decide)) ?_
          refine co_y rfl rfl (y_load1 rfl trivial rfl Tryd.isAgg3 rfl rfl) ?_
          refine co_y rfl rfl (y_add rfl trivial rfl rfl rfl (by omega) (by omega)) ?_
          refine co_y rfl rfl (y_move rfl trivial (by conv => lhs; whnf)) ?_
          refine co_y rfl rfl (y_field rfl trivial rfl Tryd.runUnderlying26 rfl Tryd.sizeOf3 (by decide)) ?_
          refine co_d rfl rfl (d_store rfl trivial trivial rfl (by conv => lhs; whnf) Tryd.sizeOf3 (.inl rfl) rfl rfl (Nat.le_of_ble_eq_true rfl) ?_)
          refine co_y rfl rfl (y_field rfl trivial rfl Tryd.runUnderlying26 rfl Tryd.sizeOf3 (by decide)) ?_
          refine co_d rfl rfl (d_store rfl trivial trivial rfl (by conv => lhs; whnf) Tryd.sizeOf3 (.inl rfl) rfl rfl (Nat.le_of_ble_eq_true rfl) ?_)
          refine co_nil ?_
          refine cw_seq ?_
          refine cw_region ?_
          refine co_y rfl rfl (y_field rfl trivial rfl Tryd.runUnderlying26 rfl Tryd.sizeOf24 (by decide)) ?_
          refine co_y rfl rfl (y_load1 rfl trivial rfl Tryd.isAgg24 rfl rfl) ?_
          refine co_y rfl rfl (y_len rfl trivial rfl Tryd.runUnderlying24 (by first | exact len_map _ _ | rfl) rfl) ?_
          refine co_y rfl rfl (y_field rfl trivial rfl Tryd.runUnderlying26 rfl Tryd.sizeOf24 (by decide)) ?_
          refine co_y rfl rfl (y_load1 rfl trivial rfl Tryd.isAgg24 rfl rfl) ?_
          refine co_y rfl rfl (y_len rfl trivial rfl Tryd.runUnderlying24 (by first | exact len_map _ _ | rfl) rfl) ?_
          refine co_y rfl rfl (y_add rfl trivial rfl rfl rfl (by omega) (by omega)) ?_
          refine co_d rfl rfl (d_make rfl trivial trivial rfl rfl (n := h.bs.length) (c := (h.bs.length + 1)) rfl rfl Tryd.runUnderlying24 Tryd.sizeOf39 Tryd.typeInfo39 Tryd.zeroValue39 rfl (oneB_or rfl) rfl (by omega) (by first | omega | (simp; omega) | simp) (by have hb : Tryd.t39.bytes = 24 := rfl; rw [hb]; first | omega | (simp; omega)) ?_)
          refine co_y rfl rfl (y_assign rfl trivial (by conv => lhs; whnf)) ?_
          refine co_nil ?_
          refine cw_seq ?_
          refine cw_region ?_
          refine co_y rfl rfl (y_move rfl trivial (by conv => lhs; whnf)) ?_
          refine co_y rfl rfl (y_field rfl trivial rfl Tryd.runUnderlying26 rfl Tryd.sizeOf24 (by decide)) ?_
          refine co_y rfl rfl (y_load1 rfl trivial rfl Tryd.isAgg24 rfl rfl) ?_
          refine co_d rfl rfl (d_copy' (h.bs.map Bkt.cv) rfl trivial trivial rfl (src_list rfl (by first | exact rows_len (by intro a; rfl) _ | (intro r hr; simp at hr; subst hr; rfl) | (intro r hr; exact rows_len (by intro a; rfl) _ r (List.mem_of_mem_take (List.mem_of_mem_drop hr))) | (intro r hr; simp at hr; obtain ⟨a, _, rfl⟩ := hr; rfl))) Tryd.runUnderlying24 Tryd.sizeOf39 rfl (by simp) (by simp) (by unfold spliceR; simp) rfl ?_)
          refine co_nil ?_
          refine cw_seq ?_
          refine cw_seq ?_
          refine cw_region ?_
          refine co_y rfl rfl (y_move rfl trivial (by conv => lhs; whnf)) ?_
          refine co_nil ?_
          refine cw_cond trivial rfl (fun h5 => ?_) (fun h5 => ?_)
          · subst h5
            have eA : addS (pb (ChkP h)) h rev true true = (⟨h.pkg, h.test, h.env, h.k, h.runs + 1, h.failed + 1, rev, carry h.k (h.bs.length + 1) (h.bs ++ [bk1 rev]) 1, true⟩, 0) := by
              rw [addS, if_neg hc, if_neg hr, if_neg ho, if_neg hm]; rfl
            have eL : (h.bs ++ [bk1 rev]).length = h.bs.length + 1 := by simp
            refine cw_seq ?_
            refine cw_region ?_
            refine co_y rfl rfl (y_field rfl trivial rfl Tryd.runUnderlying26 rfl Tryd.sizeOf3 (by decide)) ?_
            refine co_y rfl rfl (y_load1 rfl trivial rfl Tryd.isAgg3 rfl rfl) ?_
            refine co_y rfl rfl (y_add rfl trivial rfl rfl rfl (by omega) (by omega)) ?_
            refine co_y rfl rfl (y_field rfl trivial rfl Tryd.runUnderlying26 rfl Tryd.sizeOf3 (by decide)) ?_
            refine co_d rfl rfl (d_store rfl trivial trivial rfl (by conv => lhs; whnf) Tryd.sizeOf3 (.inl rfl) rfl rfl (Nat.le_of_ble_eq_true rfl) ?_)
            refine co_nil ?_
            refine cw_float [0, 1, 2, 3, 4, 6, 7, 5, 8, 9] 7 [0, 0, 0, 6, 14, 31, 0, 64, 255, 511] [[5, 6], [], []] (hd1l := [0, 1, 2, 3, 4, 6, 7]) (tll := [(5, [5, 6]), (8, []), (9, [])]) (by kernel_rfl) (by kernel_rfl) rfl rfl rfl ?_
            refine chf rfl (hop_y rfl (y_move rfl trivial (by conv => lhs; whnf))) ?_
            refine chf rfl (hop_y rfl (y_move rfl trivial (by conv => lhs; whnf))) ?_
            refine chf rfl (hop_y rfl (y_move rfl trivial (by conv => lhs; whnf))) ?_
            refine chf rfl (hop_y rfl (y_build' #[(0, 1), (1, 1), (2, 1)] rfl ⟨trivial, trivial, rfl, trivial⟩ Tryd.runUnderlying39 Tryd.zeroValue39 rfl ⟨_, rfl⟩ (fun w => by kernel_rfl) rfl rfl)) ?_
            refine chf rfl (hop_y rfl (y_lit [Bkt.cv (bk1 rev)] rfl ⟨trivial, trivial⟩ Tryd.runUnderlying24 Tryd.sizeOf39 Tryd.zeroValue39 rfl rfl rfl rfl rfl rfl rfl rfl rfl)) ?_
            refine chf rfl (hop_y rfl (y_field rfl trivial rfl Tryd.runUnderlying26 rfl Tryd.sizeOf3 (by decide))) ?_
            refine chf rfl (hop_y rfl (y_load1 rfl trivial rfl Tryd.isAgg3 rfl rfl)) ?_
            refine chf_nil ?_
            refine ctl_d rfl rfl (d_append_v' ((h.bs ++ [bk1 rev]).map Bkt.cv) (h.bs.length + 1) rfl trivial trivial rfl (src_list rfl (by first | exact rows_len (by intro a; rfl) _ | (intro r hr; simp at hr; subst hr; rfl) | (intro r hr; exact rows_len (by intro a; rfl) _ r (List.mem_of_mem_take (List.mem_of_mem_drop hr))) | (intro r hr; simp at hr; obtain ⟨a, _, rfl⟩ := hr; rfl))) Tryd.runUnderlying24 Tryd.sizeOf39 Tryd.typeInfo39 Tryd.zeroValue39 rfl rfl (by simp) (by simp) (by have hb : Tryd.t39.bytes = 24 := rfl; rw [hb]; first | omega | (simp; omega)) (by first | omega | (simp; omega) | simp) (by simp) (by simp) ?_)
            refine ⟨⟨(by exact hop_y rfl (y_field rfl trivial rfl Tryd.runUnderlying26 rfl Tryd.sizeOf3 (by decide))), (by exact hop_y rfl (y_load1 rfl trivial rfl Tryd.isAgg3 rfl rfl)), trivial⟩, ?_⟩
            refine ctl_d rfl rfl (d_callv rfl Tryd.call36 ⟨trivial, trivial, trivial⟩ (hi_join_c (h.bs ++ [bk1 rev]) [] _ 3 (by simp) h.k.toNat (by omega) 1 (by rw [show ((h.k.toNat : Nat) : Int) = h.k by omega]; exact inv_of_siz hcp.k.1 hcp.siz rev) (by simp; omega) (by rw [sumC_append, hcp.siz.2.2]; simp [sumC]; omega) (h.bs.length + 1) (by simp) _ (show h.k = _ by omega)) rfl ?_)
            intro tail' _
            refine ⟨trivial, ?_⟩
            refine ctl_h rfl (hop_y rfl (y_assign rfl trivial (by conv => lhs; whnf))) ⟨trivial, ?_⟩
            refine ctl_nil ?_
            refine cw_seq ?_
            refine cw_region ?_
            refine co_y rfl rfl (y_move rfl trivial (by conv => lhs; whnf)) ?_
            refine co_y rfl rfl (y_field rfl trivial rfl Tryd.runUnderlying26 rfl Tryd.sizeOf24 (by decide)) ?_
            refine co_d rfl rfl (d_store rfl trivial trivial rfl (by conv => lhs; whnf) Tryd.sizeOf24 (.inl rfl) rfl rfl (Nat.le_of_ble_eq_true rfl) ?_)
            refine co_nil ?_
            refine cw_seq ?_
            refine cw_region ?_
            refine co_y rfl rfl (y_load rfl trivial rfl Tryd.isAgg26 Tryd.sizeOf26 rfl (Nat.le_of_ble_eq_true rfl)) ?_
            refine co_d rfl rfl (d_store rfl trivial trivial rfl (by conv => lhs; whnf) Tryd.sizeOf26 (.inr ⟨_, rfl⟩) rfl rfl (Nat.le_of_ble_eq_true rfl) ?_)
            refine co_y rfl rfl (y_assign rfl rfl (by conv => lhs; whnf)) ?_
            refine co_nil ?_
            refine cw_ret ?_
            exact ⟨_, res_all (rs := [.cell 6 26, .tmp 7]) (cs := [_, _]) rfl ⟨⟨trivial, _, _, _, rfl, rfl, .inr ⟨_, Tryd.isAgg26, Tryd.sizeOf26, Nat.le_of_ble_eq_true rfl, rfl⟩⟩, ⟨trivial, (by conv => lhs; whnf)⟩, trivial⟩ (Nat.ne_of_beq_eq_false rfl), _, _, rfl, rfl, (by rw [eA]; exact .tups ⟨.aggs ⟨.old (.val _), .old (.val _), .old (.val _), .old (.val _), .old (.val _), .old (.val _), .old (.val _), .vecs (Nat.zero_le _) rfl (by simp) (by rw [List.drop_zero, eL]; simp) (fun r hr c hc => (rows_pure (f := Bkt.cv) (fun _ => Pures.all ⟨.val _, .val _, .val _, trivial⟩) _) r hr c hc), trivial⟩, .old (.val _), trivial⟩)⟩
          · have hft : failed = false := h5
            subst hft
            have eA : addS (pb (ChkP h)) h rev false true = (⟨h.pkg, h.test, h.env, h.k, h.runs + 1, h.failed + 0, rev, h.bs, true⟩, 0) := by
              rw [addS, if_neg hc, if_neg hr, if_neg ho, if_neg hm]; rfl
            refine cw_skip ?_
            refine cw_seq ?_
            refine cw_region ?_
            refine co_y rfl rfl (y_move rfl trivial (by conv => lhs; whnf)) ?_
            refine co_y rfl rfl (y_field rfl trivial rfl Tryd.runUnderlying26 rfl Tryd.sizeOf24 (by decide)) ?_
            refine co_d rfl rfl (d_store rfl trivial trivial rfl (by conv => lhs; whnf) Tryd.sizeOf24 (.inl rfl) rfl rfl (Nat.le_of_ble_eq_true rfl) ?_)
            refine co_nil ?_
            refine cw_seq ?_
            refine cw_region ?_
            refine co_y rfl rfl (y_load rfl trivial rfl Tryd.isAgg26 Tryd.sizeOf26 rfl (Nat.le_of_ble_eq_true rfl)) ?_
            refine co_d rfl rfl (d_store rfl trivial trivial rfl (by conv => lhs; whnf) Tryd.sizeOf26 (.inr ⟨_, rfl⟩) rfl rfl (Nat.le_of_ble_eq_true rfl) ?_)
            refine co_y rfl rfl (y_assign rfl rfl (by conv => lhs; whnf)) ?_
            refine co_nil ?_
            refine cw_ret ?_
            exact ⟨_, res_all (rs := [.cell 6 26, .tmp 7]) (cs := [_, _]) rfl ⟨⟨trivial, _, _, _, rfl, rfl, .inr ⟨_, Tryd.isAgg26, Tryd.sizeOf26, Nat.le_of_ble_eq_true rfl, rfl⟩⟩, ⟨trivial, (by conv => lhs; whnf)⟩, trivial⟩ (Nat.ne_of_beq_eq_false rfl), _, _, rfl, rfl, (by rw [eA, Int.add_zero]; exact .tups ⟨.aggs ⟨.old (.val _), .old (.val _), .old (.val _), .old (.val _), .old (.val _), .old (.val _), .old (.val _), .vecs (Nat.zero_le _) rfl (by simp) (by rw [List.drop_zero]; exact List.take_of_length_le (by simp)) (fun r hr c hc => (rows_pure (f := Bkt.cv) (fun _ => Pures.all ⟨.val _, .val _, .val _, trivial⟩) _) r hr c hc), trivial⟩, .old (.val _), trivial⟩)⟩

theorem hi_Add_s (h : Hist) (hf : Fits h) (rev : Int) (failed : Bool) (σ : List CObj) : CCalls CC 20 [.agg h.cells, (.val (.int .i64 (rev))), (.val (.bool (failed)))] σ fun r σ' => r = .ret (.tup [.agg (addS (pb (ChkP h)) h rev failed true).1.cells, (.val (.int .i64 ((addS (pb (ChkP h)) h rev failed true).2)))]) ∧ σ' = σ :=
  CCalls.anyw hCC (by repeat' (first | exact .val _ | exact pure_bkts _ _ | exact pure_ints _ _ | exact trivial | refine pure_agg ?_ | refine pure_tup ?_ | refine ⟨?_, ?_⟩)) (by repeat' (first | exact .val _ | exact pure_bkts _ _ | exact pure_ints _ _ | exact trivial | refine pure_agg ?_ | refine pure_tup ?_ | refine ⟨?_, ?_⟩)) (hi_Add h hf rev failed) σ

end Go.Proofs.YtkhebelajdcjgaaDoor
