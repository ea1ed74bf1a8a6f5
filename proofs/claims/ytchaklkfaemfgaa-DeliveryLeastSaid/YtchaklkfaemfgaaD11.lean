import Derived.Test.YtchaklkfaemfgaaD10
import Derived.Test.YtchaklkfaemfgaaK31
namespace Go.Proofs.Ytchaklkfaemfgaa
open Go Go.Cl

/-- The first place of a report, or -1. -/
def ixR : List Rp → Rp → Nat → Int
  | [], _, _ => -1
  | y :: l, x, i => if y = x then i else ixR l x (i + 1)
theorem ixR_step {l : List Rp} {i : Nat} {y : Rp} (h : l[i]? = some y) (x : Rp) : ixR (l.drop i) x i = if y = x then (i : Int) else ixR (l.drop (i + 1)) x (i + 1) := by
  obtain ⟨hlt, rfl⟩ := List.getElem?_eq_some_iff.1 h
  rw [List.drop_eq_getElem_cons hlt]
  rfl
theorem ixR_cases (x : Rp) : ∀ (l : List Rp) (i : Nat), (x ∉ l ∧ ixR l x i = -1) ∨ ∃ A B, l = A ++ x :: B ∧ x ∉ A ∧ ixR l x i = (i + A.length : Nat)
  | [], _ => .inl ⟨by simp, rfl⟩
  | y :: l, i => by
    by_cases h : y = x
    · refine .inr ⟨[], l, by rw [h]; rfl, by simp, ?_⟩
      show (if y = x then (i : Int) else _) = _
      rw [if_pos h]; rfl
    · have e : ixR (y :: l) x i = ixR l x (i + 1) := by
        show (if y = x then (i : Int) else _) = _
        rw [if_neg h]
      rcases ixR_cases x l (i + 1) with ⟨h1, h2⟩ | ⟨A, B, h1, h2, h3⟩
      · exact .inl ⟨by simp only [List.mem_cons, not_or]; exact ⟨fun e => h e.symm, h1⟩, e.trans h2⟩
      · refine .inr ⟨y :: A, B, by rw [h1]; rfl, by simp only [List.mem_cons, not_or]; exact ⟨fun e => h e.symm, h2⟩, ?_⟩
        rw [e, h3]
        simp only [List.length_cons]
        rw [show i + 1 + A.length = i + (A.length + 1) by omega]
theorem ixR_mem {l : List Rp} {x : Rp} : 0 ≤ ixR l x 0 ↔ x ∈ l := by
  rcases ixR_cases x l 0 with ⟨h1, h2⟩ | ⟨A, B, h1, h2, h3⟩
  · rw [h2]
    exact ⟨fun h => absurd h (by omega), fun h => absurd h h1⟩
  · rw [h3]
    exact ⟨fun _ => by rw [h1]; simp, fun _ => by omega⟩
/-- The first place is this one, exactly if the report is not ahead of it. -/
theorem ixR_at {l : List Rp} {x : Rp} {i : Nat} (h : l[i]? = some x) : ixR l x 0 = i ↔ x ∉ l.take i := by
  have hlt := (List.getElem?_eq_some_iff.1 h).1
  rcases ixR_cases x l 0 with ⟨h1, _⟩ | ⟨A, B, h1, h2, h3⟩
  · exact absurd (List.mem_of_getElem? h) h1
  · rw [h3]
    have hA : A = l.take A.length := by
      conv => rhs; rw [h1]
      simp
    constructor
    · intro h4
      have : A.length = i := by omega
      rwa [← this, ← hA]
    · intro h4
      rcases Nat.lt_trichotomy A.length i with h5 | h5 | h5
      · exfalso
        apply h4
        have : (l.take i)[A.length]? = some x := by
          rw [List.getElem?_take_of_lt h5]
          conv => lhs; rw [h1]
          simp
        exact List.mem_of_getElem? this
      · omega
      · exfalso
        apply h2
        have : A[i]? = some x := by
          have h6 : (A ++ x :: B)[i]? = some x := by rw [← h1]; exact h
          rwa [List.getElem?_append_left h5] at h6
        exact List.mem_of_getElem? this
structure WhP (l : List Rp) : Prop where
  len : l.length ≤ 64
  right : ∀ x ∈ l, RightP x
  nodup : l.Nodup
/-- What is known of the first ones. -/
def WhI (l : List Rp) (i : Nat) : Prop := (∀ x ∈ l.take i, RightP x) ∧ (l.take i).Nodup
theorem take_snoc {l : List Rp} {x : Rp} {i : Nat} (h : l[i]? = some x) : l.take (i + 1) = l.take i ++ [x] := by
  obtain ⟨hlt, rfl⟩ := List.getElem?_eq_some_iff.1 h
  exact (List.take_append_getElem hlt).symm
theorem WhI.step {l : List Rp} {x : Rp} {i : Nat} (h : l[i]? = some x) (hi : WhI l i) (hx : RightP x) (hn : x ∉ l.take i) : WhI l (i + 1) := by
  unfold WhI
  rw [take_snoc h]
  refine ⟨fun y hy => ?_, ?_⟩
  · rcases List.mem_append.1 hy with hy | hy
    · exact hi.1 y hy
    · rw [List.mem_singleton.1 hy]; exact hx
  · rw [List.nodup_append]
    exact ⟨hi.2, by simp, fun a ha b hb => by rw [List.mem_singleton.1 hb]; exact fun e => hn (e ▸ ha)⟩
theorem WhP.no {l : List Rp} {x : Rp} {i : Nat} (h : l[i]? = some x) (hno : ¬ (RightP x ∧ x ∉ l.take i)) : ¬ WhP l := fun hw => hno ⟨hw.right x (List.mem_of_getElem? h), fun hm => by
  have h1 : (l.take (i + 1)).Nodup := hw.nodup.sublist (List.take_sublist _ _)
  rw [take_snoc h, List.nodup_append] at h1
  exact h1.2.2 x hm x (by simp) rfl⟩
theorem WhP.mk' {l : List Rp} {i : Nat} (hl : l.length ≤ 64) (h : WhI l i) (hi : l.length ≤ i) : WhP l := by
  unfold WhI at h
  rw [List.take_of_length_le hi] at h
  exact ⟨hl, h.1, h.2⟩

set_option maxRecDepth 10000 in
theorem slices_Index (l : List Rp) (nn : Bool) (x : Rp) (hl : l.length ≤ maxLen) : CCalls CC 42 [(.list (l.map Rp.cv) nn none), .agg x.cells] [] fun r σ' => r = .ret (.val (.int .i64 (ixR l x 0))) ∧ σ' = [] := by
  unfold maxLen at hl
  refine ccalls_val (ccalls_of Try.func42 rfl rfl ?_)
  refine cw_seq ?_
  refine cw_region ?_
  refine co_d rfl rfl (d_box rfl trivial (by conv => lhs; whnf) (.inr ⟨_, rfl⟩) ?_)
  refine co_y rfl rfl (y_assign rfl rfl (by conv => lhs; whnf)) ?_
  refine co_nil ?_
  refine cw_seq ?_
  refine cw_seq ?_
  refine cw_region ?_
  refine co_y rfl rfl (y_move rfl trivial (by conv => lhs; whnf)) ?_
  refine co_y rfl rfl (y_len rfl trivial rfl Try.runUnderlying44 (by first | exact len_map _ _ | rfl) rfl) ?_
  refine co_y rfl rfl (y_move rfl rfl (by conv => lhs; whnf)) ?_
  refine co_nil ?_
  refine cw_block ?_
  refine cw_loopd hCC (α := Nat) (fun i => [(0, (.list (l.map Rp.cv) nn none)), (3, .ptr 0 0), (7, (.val (.int .i64 ((l.length : Int))))), (8, (.val (.int .i64 ((i : Int)))))]) (fun _ => [.box x.cells]) (fun i => i ≤ l.length ∧ ixR l x 0 = ixR (l.drop i) x i) (fun i => l.length - i) 0 ⟨Nat.zero_le _, rfl⟩ ⟨⟨trivial, rfl⟩, ⟨trivial, rfl⟩, ⟨trivial, rfl⟩, ⟨trivial, rfl⟩, trivial⟩ (extra0 := []) rfl (fun _ _ => Nat.le_of_ble_eq_true rfl) (fun a ha => by repeat' (first | exact trivial | exact .val _ | exact .ptr (Nat.le_of_ble_eq_true rfl) | exact .map (Nat.le_of_ble_eq_true rfl) | exact (by first | exact old_lts _ _ _ | exact old_rps _ _ _ | exact old_ints _ _ _) | refine old_box ?_ | refine ⟨?_, ?_⟩)) ?_
  intro i ⟨hi, hr⟩
  refine cw_seq ?_
  refine cw_region ?_
  refine co_y rfl rfl (y_int rfl trivial trivial rfl rfl rfl) ?_
  refine co_nil ?_
  refine cw_seq ?_
  refine cw_cond trivial rfl (fun h1 => ?_) (fun h1 => ?_)
  · have hlt : (i : Int) < l.length := by simpa using h1
    obtain ⟨y, hb⟩ : ∃ y, l[i]? = some y := ⟨l[i]'(by omega), by simp⟩
    rw [ixR_step hb] at hr
    refine cw_skip ?_
    refine cw_seq ?_
    refine cw_block ?_
    refine cw_seq ?_
    refine cw_region ?_
    refine co_y rfl rfl (y_move rfl trivial (by conv => lhs; whnf)) ?_
    refine co_y rfl rfl (y_assign rfl trivial (by conv => lhs; whnf)) ?_
    refine co_nil ?_
    refine cw_seq ?_
    refine cw_draw 6 [0, 0, 0, 6, 14, 31] (by kernel_rfl) (by kernel_rfl) rfl ?_
    refine ch_y rfl (y_load rfl trivial rfl Try.isAgg30 Try.sizeOf30 rfl (Nat.le_of_ble_eq_true rfl)) ?_
    refine ch_y rfl (y_move rfl trivial (by conv => lhs; whnf)) ?_
    refine ch_y rfl (y_move rfl trivial (by conv => lhs; whnf)) ?_
    refine ch_y rfl (y_index rfl trivial trivial rfl rfl Try.runUnderlying44 Try.sizeOf30 (by omega) (rows_get hb) rfl) ?_
    refine ch_y rfl (y_load_c rfl trivial rfl Try.isAgg30 Try.sizeOf30 (Nat.le_of_ble_eq_true rfl)) ?_
    refine ch_y rfl (y_eqs rfl trivial trivial (xs := [.int .i64 (x).t, .int .i64 (x).a, .int .i64 (x).m, .int .i64 (x).e, .int .i64 (x).o]) (ys := [.int .i64 (y).t, .int .i64 (y).a, .int .i64 (y).m, .int .i64 (y).e, .int .i64 (y).o]) rfl rfl Try.eqGuardType30 (eq_rp x y)) ?_
    refine ch_nil ?_
    refine co_nil ?_
    refine cw_cond trivial rfl (fun h2 => ?_) (fun h2 => ?_)
    · have hx : y = x := (show x = y by simpa using h2).symm
      rw [if_pos hx] at hr
      refine cw_seq ?_
      refine cw_region ?_
      refine co_y rfl rfl (y_move rfl trivial (by conv => lhs; whnf)) ?_
      refine co_y rfl rfl (y_assign rfl trivial (by conv => lhs; whnf)) ?_
      refine co_nil ?_
      refine cw_ret ?_
      exact ⟨_, res1 rfl trivial (by conv => lhs; whnf), _, _, rfl, rfl, cls_int hr.symm⟩
    · have hx : ¬ y = x := fun e => by subst e; simp at h2
      rw [if_neg hx] at hr
      refine cw_skip ?_
      refine cw_region ?_
      refine co_y rfl rfl (y_add rfl trivial rfl rfl rfl (by omega) (by omega)) ?_
      refine co_y rfl rfl (y_move rfl trivial (by conv => lhs; whnf)) ?_
      refine co_nil ?_
      exact ⟨(i + 1), _, ⟨by omega, by omega, hr⟩, ⟨⟨trivial, rfl⟩, ⟨trivial, rfl⟩, ⟨trivial, rfl⟩, ⟨trivial, rfl⟩, trivial⟩, rfl⟩
  · have hge : i = l.length := by
      have : ¬ (i : Int) < l.length := by simpa using h1
      omega
    refine cw_exit ?_
    refine cw_seq ?_
    refine cw_region ?_
    refine co_y rfl rfl (y_assign rfl rfl (by conv => lhs; whnf)) ?_
    refine co_nil ?_
    refine cw_ret ?_
    exact ⟨_, res1 rfl trivial (by conv => lhs; whnf), _, _, rfl, rfl, cls_int (by rw [hr, hge, List.drop_length]; rfl)⟩

theorem slices_Index_s (l : List Rp) (nn : Bool) (x : Rp) (hl : l.length ≤ maxLen) (σ : List CObj) : CCalls CC 42 [(.list (l.map Rp.cv) nn none), .agg x.cells] σ fun r σ' => r = .ret (.val (.int .i64 (ixR l x 0))) ∧ σ' = σ :=
  CCalls.anyw hCC (by repeat' (first | exact .val _ | exact pure_lts _ _ | exact pure_rps _ _ | exact pure_ints _ _ | exact trivial | refine pure_agg ?_ | refine pure_tup ?_ | refine ⟨?_, ?_⟩)) (by repeat' (first | exact .val _ | exact pure_lts _ _ | exact pure_rps _ _ | exact pure_ints _ _ | exact trivial | refine pure_agg ?_ | refine pure_tup ?_ | refine ⟨?_, ?_⟩)) (slices_Index l nn x hl) σ

set_option maxRecDepth 10000 in
theorem slices_Contains (l : List Rp) (nn : Bool) (x : Rp) (hl : l.length ≤ maxLen) : CCalls CC 39 [(.list (l.map Rp.cv) nn none), .agg x.cells] [] fun r σ' => r = .ret (.val (.bool (decide (x ∈ l)))) ∧ σ' = [] := by
  refine ccalls_val (ccalls_of Try.func39 rfl rfl ?_)
  refine cw_seq ?_
  refine cw_region ?_
  refine co_d rfl rfl (d_box rfl trivial (by conv => lhs; whnf) (.inr ⟨_, rfl⟩) ?_)
  refine co_y rfl rfl (y_assign rfl rfl (by conv => lhs; whnf)) ?_
  refine co_nil ?_
  refine cw_seq ?_
  refine cw_region ?_
  refine co_y rfl rfl (y_move rfl trivial (by conv => lhs; whnf)) ?_
  refine co_y rfl rfl (y_load rfl trivial rfl Try.isAgg30 Try.sizeOf30 rfl (Nat.le_of_ble_eq_true rfl)) ?_
  refine co_y rfl rfl (y_callf rfl Try.call42 ⟨trivial, trivial, trivial⟩ (slices_Index_s l nn x hl _) rfl) ?_
  refine co_y rfl rfl (y_int rfl trivial rfl rfl rfl rfl) ?_
  refine co_y rfl rfl (y_assign rfl trivial (by conv => lhs; whnf)) ?_
  refine co_nil ?_
  refine cw_ret ?_
  exact ⟨_, res1 rfl trivial (by conv => lhs; whnf), _, _, rfl, rfl, cls_bool (decide_eq_decide.2 ixR_mem)⟩

theorem slices_Contains_s (l : List Rp) (nn : Bool) (x : Rp) (hl : l.length ≤ maxLen) (σ : List CObj) : CCalls CC 39 [(.list (l.map Rp.cv) nn none), .agg x.cells] σ fun r σ' => r = .ret (.val (.bool (decide (x ∈ l)))) ∧ σ' = σ :=
  CCalls.anyw hCC (by repeat' (first | exact .val _ | exact pure_lts _ _ | exact pure_rps _ _ | exact pure_ints _ _ | exact trivial | refine pure_agg ?_ | refine pure_tup ?_ | refine ⟨?_, ?_⟩)) (by repeat' (first | exact .val _ | exact pure_lts _ _ | exact pure_rps _ _ | exact pure_ints _ _ | exact trivial | refine pure_agg ?_ | refine pure_tup ?_ | refine ⟨?_, ?_⟩)) (slices_Contains l nn x hl) σ

theorem contains_take (l : List Rp) (nn : Bool) (x : Rp) (i : Nat) (hl : l.length ≤ maxLen) (σ : List CObj) : CCalls CC 39 [(.list (((l.map Rp.cv).take i).drop 0) nn none), .agg x.cells] σ fun r σ' => r = .ret (.val (.bool (decide (x ∈ l.take i)))) ∧ σ' = σ := by
  rw [List.drop_zero, ← List.map_take]
  exact slices_Contains_s (l.take i) nn x (Nat.le_trans (by simp; omega) hl) σ

set_option maxRecDepth 10000 in
theorem de_WholeB (b : Bx) (hl : b.pend.length ≤ maxLen) : CCalls CC 21 [.agg b.cells] [] fun r σ' => r = .ret (.val (.bool (pb (WhP b.pend)))) ∧ σ' = [] := by
  have hlm := hl
  unfold maxLen at hl
  refine ccalls_val (ccalls_of Try.func21 rfl rfl ?_)
  refine cw_seq ?_
  refine cw_region ?_
  refine co_d rfl rfl (d_box rfl trivial (by conv => lhs; whnf) (.inr ⟨_, rfl⟩) ?_)
  refine co_y rfl rfl (y_assign rfl rfl (by conv => lhs; whnf)) ?_
  refine co_nil ?_
  refine cw_seq ?_
  refine cw_seq ?_
  refine cw_region ?_
  refine co_y rfl rfl (y_field rfl trivial rfl Try.runUnderlying46 rfl Try.sizeOf44 (by decide)) ?_
  refine co_y rfl rfl (y_load1 rfl trivial rfl Try.isAgg44 rfl rfl) ?_
  refine co_y rfl rfl (y_len rfl trivial rfl Try.runUnderlying44 (by first | exact len_map _ _ | rfl) rfl) ?_
  refine co_y rfl rfl (y_int rfl trivial rfl rfl rfl rfl) ?_
  refine co_nil ?_
  refine cw_cond trivial rfl (fun h1 => ?_) (fun h1 => ?_)
  · have hx : ¬ WhP b.pend := fun h => by
      have g1 := h.len
      simp at h1
      omega
    refine cw_seq ?_
    refine cw_region ?_
    refine co_y rfl rfl (y_assign rfl rfl (by conv => lhs; whnf)) ?_
    refine co_nil ?_
    refine cw_ret ?_
    exact ⟨_, res1 rfl trivial (by conv => lhs; whnf), _, _, rfl, rfl, cls_bool (pb_ne.2 hx).symm⟩
  · have hx : b.pend.length ≤ 64 := by simp at h1; omega
    refine cw_skip ?_
    refine cw_seq ?_
    refine cw_seq ?_
    refine cw_region ?_
    refine co_y rfl rfl (y_field rfl trivial rfl Try.runUnderlying46 rfl Try.sizeOf44 (by decide)) ?_
    refine co_y rfl rfl (y_load1 rfl trivial rfl Try.isAgg44 rfl rfl) ?_
    refine co_y rfl rfl (y_len rfl trivial rfl Try.runUnderlying44 (by first | exact len_map _ _ | rfl) rfl) ?_
    refine co_y rfl rfl (y_move rfl rfl (by conv => lhs; whnf)) ?_
    refine co_nil ?_
    refine cw_block ?_
    refine cw_loopd hCC (α := Nat) (fun i => [(1, .ptr 0 0), (10, (.list (b.pend.map Rp.cv) b.nn none)), (11, (.val (.int .i64 ((b.pend.length : Int))))), (12, (.val (.int .i64 ((i : Int)))))]) (fun _ => [.box b.cells]) (fun i => i ≤ b.pend.length ∧ WhI b.pend i) (fun i => b.pend.length - i) 0 ⟨Nat.zero_le _, by simp, by simp⟩ ⟨⟨trivial, rfl⟩, ⟨trivial, rfl⟩, ⟨trivial, rfl⟩, ⟨trivial, rfl⟩, trivial⟩ (extra0 := []) rfl (fun _ _ => Nat.le_of_ble_eq_true rfl) (fun a ha => by repeat' (first | exact trivial | exact .val _ | exact .ptr (Nat.le_of_ble_eq_true rfl) | exact .map (Nat.le_of_ble_eq_true rfl) | exact (by first | exact old_lts _ _ _ | exact old_rps _ _ _ | exact old_ints _ _ _) | refine old_box ?_ | refine ⟨?_, ?_⟩)) ?_
    intro i ⟨hi, hw⟩
    refine cw_seq ?_
    refine cw_region ?_
    refine co_y rfl rfl (y_int rfl trivial trivial rfl rfl rfl) ?_
    refine co_nil ?_
    refine cw_seq ?_
    refine cw_cond trivial rfl (fun h2 => ?_) (fun h2 => ?_)
    · have hlt : (i : Int) < b.pend.length := by simpa using h2
      obtain ⟨x, hb⟩ : ∃ x, b.pend[i]? = some x := ⟨b.pend[i]'(by omega), by simp⟩
      refine cw_skip ?_
      refine cw_seq ?_
      refine cw_block ?_
      refine cw_seq ?_
      refine cw_region ?_
      refine co_y rfl rfl (y_move rfl trivial (by conv => lhs; whnf)) ?_
      refine co_y rfl rfl (y_index rfl trivial trivial rfl rfl Try.runUnderlying44 Try.sizeOf30 (by omega) (rows_get hb) rfl) ?_
      refine co_y rfl rfl (y_load_c rfl trivial rfl Try.isAgg30 Try.sizeOf30 (Nat.le_of_ble_eq_true rfl)) ?_
      refine co_d rfl rfl (d_alloc rfl Try.zeroValue30 rfl (.inr ⟨_, rfl⟩) ?_)
      refine co_y rfl rfl (y_assign rfl trivial (by conv => lhs; whnf)) ?_
      refine co_d rfl rfl (d_store rfl trivial trivial rfl (by conv => lhs; whnf) Try.sizeOf30 (.inr ⟨_, rfl⟩) rfl rfl (Nat.le_of_ble_eq_true rfl) ?_)
      refine co_nil ?_
      refine cw_seq ?_
      refine cw_draw 11 [0, 1, 3, 7, 15, 31, 15, 127, 15, 511, 1023] (by kernel_rfl) (by kernel_rfl) rfl ?_
      refine ch_y rfl (y_load rfl trivial rfl Try.isAgg30 Try.sizeOf30 rfl (Nat.le_of_ble_eq_true rfl)) ?_
      refine ch_y rfl (y_callf rfl Try.call31 ⟨trivial, trivial⟩ (de_right_s x _) rfl) ?_
      refine ch_y rfl (y_not rfl trivial rfl) ?_
      refine ch_y rfl (y_move rfl trivial (by conv => lhs; whnf)) ?_
      refine ch_g rfl rfl trivial rfl (fun hg => y_field rfl trivial rfl Try.runUnderlying46 rfl Try.sizeOf44 (by decide)) ?_
      refine ch_g rfl rfl trivial rfl (fun hg => y_load1 rfl hg rfl Try.isAgg44 rfl rfl) ?_
      refine ch_g rfl rfl trivial rfl (fun hg => y_move rfl trivial (by conv => lhs; whnf)) ?_
      refine ch_g rfl rfl trivial rfl (fun hg => y_slice (h := i) rfl hg rfl Try.runUnderlying44 Try.sizeOf30 (by first | exact rows_len (by intro a; rfl) _ | assumption) rfl ⟨hg, _, _, rfl, by omega, by omega⟩ (by first | omega | (simp; done) | (simp; omega)) (by simp; omega)) ?_
      refine ch_g rfl rfl trivial rfl (fun hg => y_load rfl trivial rfl Try.isAgg30 Try.sizeOf30 rfl (Nat.le_of_ble_eq_true rfl)) ?_
      refine ch_g rfl rfl trivial rfl (fun hg => y_callf rfl Try.call39 ⟨hg, hg, trivial⟩ (contains_take b.pend b.nn x i hlm _) rfl) ?_
      refine ch_y rfl (y_pick_or rfl trivial rfl (fun hp => hp) (fun _ => rfl)) ?_
      refine ch_nil ?_
      refine co_nil ?_
      refine cw_cond trivial rfl (fun h3 => ?_) (fun h3 => ?_)
      · have hno : ¬ WhP b.pend := WhP.no hb fun ⟨g1, g2⟩ => by
          rw [pb_yes' g1] at h3
          simp at h3
          exact g2 h3
        refine cw_seq ?_
        refine cw_region ?_
        refine co_y rfl rfl (y_assign rfl rfl (by conv => lhs; whnf)) ?_
        refine co_nil ?_
        refine cw_ret ?_
        exact ⟨_, res1 rfl trivial (by conv => lhs; whnf), _, _, rfl, rfl, cls_bool (pb_ne.2 hno).symm⟩
      · have hyes : RightP x ∧ x ∉ b.pend.take i := by
          have h3' := h3
          simp at h3'
          exact ⟨pb_eq.1 (by simpa using h3'.1), h3'.2⟩
        refine cw_skip ?_
        refine cw_region ?_
        refine co_y rfl rfl (y_add rfl trivial rfl rfl rfl (by omega) (by omega)) ?_
        refine co_y rfl rfl (y_move rfl trivial (by conv => lhs; whnf)) ?_
        refine co_nil ?_
        exact ⟨(i + 1), _, ⟨by omega, by omega, hw.step hb hyes.1 hyes.2⟩, ⟨⟨trivial, rfl⟩, ⟨trivial, rfl⟩, ⟨trivial, rfl⟩, ⟨trivial, rfl⟩, trivial⟩, rfl⟩
    · have hge : b.pend.length ≤ i := by
        have : ¬ (i : Int) < b.pend.length := by simpa using h2
        omega
      have hyes : WhP b.pend := .mk' hx hw hge
      refine cw_exit ?_
      refine cw_seq ?_
      refine cw_region ?_
      refine co_y rfl rfl (y_assign rfl rfl (by conv => lhs; whnf)) ?_
      refine co_nil ?_
      refine cw_ret ?_
      exact ⟨_, res1 rfl trivial (by conv => lhs; whnf), _, _, rfl, rfl, cls_bool (pb_yes' hyes).symm⟩

theorem de_WholeB_s (b : Bx) (hl : b.pend.length ≤ maxLen) (σ : List CObj) : CCalls CC 21 [.agg b.cells] σ fun r σ' => r = .ret (.val (.bool (pb (WhP b.pend)))) ∧ σ' = σ :=
  CCalls.anyw hCC (by repeat' (first | exact .val _ | exact pure_lts _ _ | exact pure_rps _ _ | exact pure_ints _ _ | exact trivial | refine pure_agg ?_ | refine pure_tup ?_ | refine ⟨?_, ?_⟩)) (by repeat' (first | exact .val _ | exact pure_lts _ _ | exact pure_rps _ _ | exact pure_ints _ _ | exact trivial | refine pure_agg ?_ | refine pure_tup ?_ | refine ⟨?_, ?_⟩)) (de_WholeB b hl) σ

set_option maxRecDepth 10000 in
theorem rd_at (b : Bx) (x : Rp) (hl : b.pend.length ≤ maxLen) : CCalls CC 40 [.agg b.cells, .agg x.cells] [] fun r σ' => r = .ret (.val (.int .i64 (ixR b.pend x 0))) ∧ σ' = [] := by
  unfold maxLen at hl
  refine ccalls_val (ccalls_of Try.func40 rfl rfl ?_)
  refine cw_seq ?_
  refine cw_region ?_
  refine co_d rfl rfl (d_box rfl trivial (by conv => lhs; whnf) (.inr ⟨_, rfl⟩) ?_)
  refine co_d rfl rfl (d_box rfl trivial (by conv => lhs; whnf) (.inr ⟨_, rfl⟩) ?_)
  refine co_y rfl rfl (y_assign rfl rfl (by conv => lhs; whnf)) ?_
  refine co_nil ?_
  refine cw_seq ?_
  refine cw_seq ?_
  refine cw_region ?_
  refine co_y rfl rfl (y_assign rfl rfl (by conv => lhs; whnf)) ?_
  refine co_nil ?_
  refine cw_block ?_
  refine cw_loopd hCC (α := Nat) (fun i => [(2, .ptr 0 0), (3, .ptr 1 0), (5, (.val (.int .i64 ((i : Int)))))]) (fun _ => [.box b.cells, .box x.cells]) (fun i => i ≤ b.pend.length ∧ ixR b.pend x 0 = ixR (b.pend.drop i) x i) (fun i => b.pend.length - i) 0 ⟨Nat.zero_le _, rfl⟩ ⟨⟨trivial, rfl⟩, ⟨trivial, rfl⟩, ⟨trivial, rfl⟩, trivial⟩ (extra0 := []) rfl (fun _ _ => Nat.le_of_ble_eq_true rfl) (fun a ha => by repeat' (first | exact trivial | exact .val _ | exact .ptr (Nat.le_of_ble_eq_true rfl) | exact .map (Nat.le_of_ble_eq_true rfl) | exact (by first | exact old_lts _ _ _ | exact old_rps _ _ _ | exact old_ints _ _ _) | refine old_box ?_ | refine ⟨?_, ?_⟩)) ?_
  intro i ⟨hi, hr⟩
  refine cw_seq ?_
  refine cw_seq ?_
  refine cw_region ?_
  refine co_y rfl rfl (y_move rfl trivial (by conv => lhs; whnf)) ?_
  refine co_y rfl rfl (y_field rfl trivial rfl Try.runUnderlying46 rfl Try.sizeOf44 (by decide)) ?_
  refine co_y rfl rfl (y_load1 rfl trivial rfl Try.isAgg44 rfl rfl) ?_
  refine co_y rfl rfl (y_len rfl trivial rfl Try.runUnderlying44 (by first | exact len_map _ _ | rfl) rfl) ?_
  refine co_y rfl rfl (y_int rfl trivial trivial rfl rfl rfl) ?_
  refine co_nil ?_
  refine cw_cond trivial rfl (fun h1 => ?_) (fun h1 => ?_)
  · have hlt : (i : Int) < b.pend.length := by simpa using h1
    obtain ⟨y, hb⟩ : ∃ y, b.pend[i]? = some y := ⟨b.pend[i]'(by omega), by simp⟩
    rw [ixR_step hb] at hr
    refine cw_skip ?_
    refine cw_seq ?_
    refine cw_block ?_
    refine cw_seq ?_
    refine cw_draw 7 [0, 1, 0, 7, 15, 0, 63] (by kernel_rfl) (by kernel_rfl) rfl ?_
    refine ch_y rfl (y_field rfl trivial rfl Try.runUnderlying46 rfl Try.sizeOf44 (by decide)) ?_
    refine ch_y rfl (y_load1 rfl trivial rfl Try.isAgg44 rfl rfl) ?_
    refine ch_y rfl (y_move rfl trivial (by conv => lhs; whnf)) ?_
    refine ch_y rfl (y_index rfl trivial trivial rfl rfl Try.runUnderlying44 Try.sizeOf30 (by omega) (rows_get hb) rfl) ?_
    refine ch_y rfl (y_load_c rfl trivial rfl Try.isAgg30 Try.sizeOf30 (Nat.le_of_ble_eq_true rfl)) ?_
    refine ch_y rfl (y_load rfl trivial rfl Try.isAgg30 Try.sizeOf30 rfl (Nat.le_of_ble_eq_true rfl)) ?_
    refine ch_y rfl (y_eqs rfl trivial trivial (xs := [.int .i64 (y).t, .int .i64 (y).a, .int .i64 (y).m, .int .i64 (y).e, .int .i64 (y).o]) (ys := [.int .i64 (x).t, .int .i64 (x).a, .int .i64 (x).m, .int .i64 (x).e, .int .i64 (x).o]) rfl rfl Try.eqGuardType30 (eq_rp y x)) ?_
    refine ch_nil ?_
    refine co_nil ?_
    refine cw_cond trivial rfl (fun h2 => ?_) (fun h2 => ?_)
    · have hx : y = x := by simpa using h2
      rw [if_pos hx] at hr
      refine cw_seq ?_
      refine cw_region ?_
      refine co_y rfl rfl (y_move rfl trivial (by conv => lhs; whnf)) ?_
      refine co_y rfl rfl (y_assign rfl trivial (by conv => lhs; whnf)) ?_
      refine co_nil ?_
      refine cw_ret ?_
      exact ⟨_, res1 rfl trivial (by conv => lhs; whnf), _, _, rfl, rfl, cls_int hr.symm⟩
    · have hx : ¬ y = x := by simpa using h2
      rw [if_neg hx] at hr
      refine cw_skip ?_
      refine cw_region ?_
      refine co_y rfl rfl (y_move rfl trivial (by conv => lhs; whnf)) ?_
      refine co_y rfl rfl (y_add rfl trivial rfl rfl rfl (by omega) (by omega)) ?_
      refine co_y rfl rfl (y_assign rfl trivial (by conv => lhs; whnf)) ?_
      refine co_nil ?_
      exact ⟨(i + 1), _, ⟨by omega, by omega, hr⟩, ⟨⟨trivial, rfl⟩, ⟨trivial, rfl⟩, ⟨trivial, rfl⟩, trivial⟩, rfl⟩
  · have hge : i = b.pend.length := by
      have : ¬ (i : Int) < b.pend.length := by simpa using h1
      omega
    refine cw_exit ?_
    refine cw_seq ?_
    refine cw_region ?_
    refine co_y rfl rfl (y_assign rfl rfl (by conv => lhs; whnf)) ?_
    refine co_nil ?_
    refine cw_ret ?_
    exact ⟨_, res1 rfl trivial (by conv => lhs; whnf), _, _, rfl, rfl, cls_int (by rw [hr, hge, List.drop_length]; rfl)⟩

theorem rd_at_s (b : Bx) (x : Rp) (hl : b.pend.length ≤ maxLen) (σ : List CObj) : CCalls CC 40 [.agg b.cells, .agg x.cells] σ fun r σ' => r = .ret (.val (.int .i64 (ixR b.pend x 0))) ∧ σ' = σ :=
  CCalls.anyw hCC (by repeat' (first | exact .val _ | exact pure_lts _ _ | exact pure_rps _ _ | exact pure_ints _ _ | exact trivial | refine pure_agg ?_ | refine pure_tup ?_ | refine ⟨?_, ?_⟩)) (by repeat' (first | exact .val _ | exact pure_lts _ _ | exact pure_rps _ _ | exact pure_ints _ _ | exact trivial | refine pure_agg ?_ | refine pure_tup ?_ | refine ⟨?_, ?_⟩)) (rd_at b x hl) σ

set_option maxRecDepth 10000 in
theorem rd_WholeB (b : Bx) (hl : b.pend.length ≤ maxLen) : CCalls CC 22 [.agg b.cells] [] fun r σ' => r = .ret (.val (.bool (pb (WhP b.pend)))) ∧ σ' = [] := by
  have hlm := hl
  unfold maxLen at hl
  refine ccalls_val (ccalls_of Try.func22 rfl rfl ?_)
  refine cw_seq ?_
  refine cw_region ?_
  refine co_d rfl rfl (d_box rfl trivial (by conv => lhs; whnf) (.inr ⟨_, rfl⟩) ?_)
  refine co_y rfl rfl (y_assign rfl rfl (by conv => lhs; whnf)) ?_
  refine co_nil ?_
  refine cw_seq ?_
  refine cw_seq ?_
  refine cw_region ?_
  refine co_y rfl rfl (y_field rfl trivial rfl Try.runUnderlying46 rfl Try.sizeOf44 (by decide)) ?_
  refine co_y rfl rfl (y_load1 rfl trivial rfl Try.isAgg44 rfl rfl) ?_
  refine co_y rfl rfl (y_len rfl trivial rfl Try.runUnderlying44 (by first | exact len_map _ _ | rfl) rfl) ?_
  refine co_y rfl rfl (y_int rfl trivial rfl rfl rfl rfl) ?_
  refine co_nil ?_
  refine cw_cond trivial rfl (fun h1 => ?_) (fun h1 => ?_)
  · have hx : ¬ WhP b.pend := fun h => by
      have g1 := h.len
      simp at h1
      omega
    refine cw_seq ?_
    refine cw_region ?_
    refine co_y rfl rfl (y_assign rfl rfl (by conv => lhs; whnf)) ?_
    refine co_nil ?_
    refine cw_ret ?_
    exact ⟨_, res1 rfl trivial (by conv => lhs; whnf), _, _, rfl, rfl, cls_bool (pb_ne.2 hx).symm⟩
  · have hx : b.pend.length ≤ 64 := by simp at h1; omega
    refine cw_skip ?_
    refine cw_seq ?_
    refine cw_seq ?_
    refine cw_region ?_
    refine co_y rfl rfl (y_assign rfl rfl (by conv => lhs; whnf)) ?_
    refine co_nil ?_
    refine cw_block ?_
    refine cw_loopd hCC (α := Nat) (fun i => [(1, .ptr 0 0), (3, (.val (.int .i64 ((i : Int)))))]) (fun _ => [.box b.cells]) (fun i => i ≤ b.pend.length ∧ WhI b.pend i) (fun i => b.pend.length - i) 0 ⟨Nat.zero_le _, by simp, by simp⟩ ⟨⟨trivial, rfl⟩, ⟨trivial, rfl⟩, trivial⟩ (extra0 := []) rfl (fun _ _ => Nat.le_of_ble_eq_true rfl) (fun a ha => by repeat' (first | exact trivial | exact .val _ | exact .ptr (Nat.le_of_ble_eq_true rfl) | exact .map (Nat.le_of_ble_eq_true rfl) | exact (by first | exact old_lts _ _ _ | exact old_rps _ _ _ | exact old_ints _ _ _) | refine old_box ?_ | refine ⟨?_, ?_⟩)) ?_
    intro i ⟨hi, hw⟩
    refine cw_seq ?_
    refine cw_seq ?_
    refine cw_region ?_
    refine co_y rfl rfl (y_move rfl trivial (by conv => lhs; whnf)) ?_
    refine co_y rfl rfl (y_field rfl trivial rfl Try.runUnderlying46 rfl Try.sizeOf44 (by decide)) ?_
    refine co_y rfl rfl (y_load1 rfl trivial rfl Try.isAgg44 rfl rfl) ?_
    refine co_y rfl rfl (y_len rfl trivial rfl Try.runUnderlying44 (by first | exact len_map _ _ | rfl) rfl) ?_
    refine co_y rfl rfl (y_int rfl trivial trivial rfl rfl rfl) ?_
    refine co_nil ?_
    refine cw_cond trivial rfl (fun h2 => ?_) (fun h2 => ?_)
    · have hlt : (i : Int) < b.pend.length := by simpa using h2
      obtain ⟨x, hb⟩ : ∃ x, b.pend[i]? = some x := ⟨b.pend[i]'(by omega), by simp⟩
      refine cw_skip ?_
      refine cw_seq ?_
      refine cw_block ?_
      refine cw_seq ?_
      refine cw_draw 18 [0, 1, 0, 7, 15, 31, 63, 127, 255, 255, 767, 255, 3839, 7935, 16383, 255, 65535, 131071] (by kernel_rfl) (by kernel_rfl) rfl ?_
      refine ch_y rfl (y_field rfl trivial rfl Try.runUnderlying46 rfl Try.sizeOf44 (by decide)) ?_
      refine ch_y rfl (y_load1 rfl trivial rfl Try.isAgg44 rfl rfl) ?_
      refine ch_y rfl (y_move rfl trivial (by conv => lhs; whnf)) ?_
      refine ch_y rfl (y_index rfl trivial trivial rfl rfl Try.runUnderlying44 Try.sizeOf30 (by omega) (rows_get hb) rfl) ?_
      refine ch_y rfl (y_load_c rfl trivial rfl Try.isAgg30 Try.sizeOf30 (Nat.le_of_ble_eq_true rfl)) ?_
      refine ch_y rfl (y_callf rfl Try.call38 ⟨trivial, trivial⟩ (rd_Right_s x _) rfl) ?_
      refine ch_y rfl (y_not rfl trivial rfl) ?_
      refine ch_y rfl (y_move rfl trivial (by conv => lhs; whnf)) ?_
      refine ch_g rfl rfl trivial rfl (fun hg => y_load rfl trivial rfl Try.isAgg46 Try.sizeOf46 rfl (Nat.le_of_ble_eq_true rfl)) ?_
      refine ch_g rfl rfl trivial rfl (fun hg => y_field rfl trivial rfl Try.runUnderlying46 rfl Try.sizeOf44 (by decide)) ?_
      refine ch_g rfl rfl trivial rfl (fun hg => y_load1 rfl hg rfl Try.isAgg44 rfl rfl) ?_
      refine ch_g rfl rfl trivial rfl (fun hg => y_move rfl trivial (by conv => lhs; whnf)) ?_
      refine ch_g rfl rfl trivial rfl (fun hg => y_index rfl hg hg rfl rfl Try.runUnderlying44 Try.sizeOf30 (by first | omega | (simp at hg; omega)) (rows_get hb) rfl) ?_
      refine ch_g rfl rfl trivial rfl (fun hg => y_load_c rfl hg rfl Try.isAgg30 Try.sizeOf30 (Nat.le_of_ble_eq_true rfl)) ?_
      refine ch_g rfl rfl trivial rfl (fun hg => y_callf rfl Try.call40 ⟨hg, hg, trivial⟩ (rd_at_s b x hlm _) rfl) ?_
      refine ch_g rfl rfl trivial rfl (fun hg => y_move rfl trivial (by conv => lhs; whnf)) ?_
      refine ch_g rfl rfl trivial rfl (fun hg => y_int rfl hg hg rfl rfl rfl) ?_
      refine ch_y rfl (y_pick_or rfl trivial rfl (fun hp => hp) (fun _ => rfl)) ?_
      refine ch_nil ?_
      refine co_nil ?_
      refine cw_cond trivial rfl (fun h3 => ?_) (fun h3 => ?_)
      · have hno : ¬ WhP b.pend := WhP.no hb fun ⟨g1, g2⟩ => by
          rw [pb_yes' g1, (ixR_at hb).2 g2] at h3
          simp at h3
        refine cw_seq ?_
        refine cw_region ?_
        refine co_y rfl rfl (y_assign rfl rfl (by conv => lhs; whnf)) ?_
        refine co_nil ?_
        refine cw_ret ?_
        exact ⟨_, res1 rfl trivial (by conv => lhs; whnf), _, _, rfl, rfl, cls_bool (pb_ne.2 hno).symm⟩
      · have hyes : RightP x ∧ x ∉ b.pend.take i := by
          have h3' := h3
          simp at h3'
          exact ⟨pb_eq.1 (by simpa using h3'.1), (ixR_at hb).1 h3'.2⟩
        refine cw_skip ?_
        refine cw_region ?_
        refine co_y rfl rfl (y_move rfl trivial (by conv => lhs; whnf)) ?_
        refine co_y rfl rfl (y_add rfl trivial rfl rfl rfl (by omega) (by omega)) ?_
        refine co_y rfl rfl (y_assign rfl trivial (by conv => lhs; whnf)) ?_
        refine co_nil ?_
        exact ⟨(i + 1), _, ⟨by omega, by omega, hw.step hb hyes.1 hyes.2⟩, ⟨⟨trivial, rfl⟩, ⟨trivial, rfl⟩, trivial⟩, rfl⟩
    · have hge : b.pend.length ≤ i := by
        have : ¬ (i : Int) < b.pend.length := by simpa using h2
        omega
      have hyes : WhP b.pend := .mk' hx hw hge
      refine cw_exit ?_
      refine cw_seq ?_
      refine cw_region ?_
      refine co_y rfl rfl (y_assign rfl rfl (by conv => lhs; whnf)) ?_
      refine co_nil ?_
      refine cw_ret ?_
      exact ⟨_, res1 rfl trivial (by conv => lhs; whnf), _, _, rfl, rfl, cls_bool (pb_yes' hyes).symm⟩

theorem rd_WholeB_s (b : Bx) (hl : b.pend.length ≤ maxLen) (σ : List CObj) : CCalls CC 22 [.agg b.cells] σ fun r σ' => r = .ret (.val (.bool (pb (WhP b.pend)))) ∧ σ' = σ :=
  CCalls.anyw hCC (by repeat' (first | exact .val _ | exact pure_lts _ _ | exact pure_rps _ _ | exact pure_ints _ _ | exact trivial | refine pure_agg ?_ | refine pure_tup ?_ | refine ⟨?_, ?_⟩)) (by repeat' (first | exact .val _ | exact pure_lts _ _ | exact pure_rps _ _ | exact pure_ints _ _ | exact trivial | refine pure_agg ?_ | refine pure_tup ?_ | refine ⟨?_, ?_⟩)) (rd_WholeB b hl) σ

end Go.Proofs.Ytchaklkfaemfgaa
