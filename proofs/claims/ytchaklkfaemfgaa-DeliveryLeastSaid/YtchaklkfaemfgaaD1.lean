import Derived.Test.YtchaklkfaemfgaaK28
import Derived.Test.YtchaklkfaemfgaaProg
namespace Go.Proofs.Ytchaklkfaemfgaa
open Go Go.Cl

noncomputable def CC : Ctx := { P := Try.prog, glob := fun _ => none }
theorem hCC : CC.plain := fun g cells h => by cases h
def icv (x : Int) : List CV := [.val (.int .i64 x)]
structure Rp where
  t : Int
  a : Int
  m : Int
  e : Int
  o : Int
deriving DecidableEq
abbrev Rp.cells (x : Rp) : List CV := [.val (.int .i64 x.t), .val (.int .i64 x.a), .val (.int .i64 x.m), .val (.int .i64 x.e), .val (.int .i64 x.o)]
def Rp.cv (x : Rp) : List CV := x.cells
structure Lt where
  n : Int
  r : Rp
deriving DecidableEq
abbrev Lt.cells (x : Lt) : List CV := [.val (.int .i64 x.n), .val (.int .i64 x.r.t), .val (.int .i64 x.r.a), .val (.int .i64 x.r.m), .val (.int .i64 x.r.e), .val (.int .i64 x.r.o)]
def Lt.cv (x : Lt) : List CV := x.cells
structure Net where
  next : Int
  fly : List Lt
  nn : Bool
abbrev Net.cells (n : Net) : List CV := [.val (.int .i64 n.next), .list (n.fly.map Lt.cv) n.nn none]
structure Bx where
  pend : List Rp
  nn : Bool
abbrev Bx.cells (b : Bx) : List CV := [.list (b.pend.map Rp.cv) b.nn none]
theorem pb_yes' {P : Prop} (h : P) : pb P = true := pb_eq.2 h
theorem pure_lts (l : List Lt) (nn : Bool) : Pure (.list (l.map Lt.cv) nn none) := pure_rows (f := Lt.cv) (fun _ => ⟨.val _, .val _, .val _, .val _, .val _, .val _, trivial⟩) l nn
theorem pure_rps (l : List Rp) (nn : Bool) : Pure (.list (l.map Rp.cv) nn none) := pure_rows (f := Rp.cv) (fun _ => ⟨.val _, .val _, .val _, .val _, .val _, trivial⟩) l nn
theorem pure_ints (l : List Int) (nn : Bool) : Pure (.list (l.map icv) nn none) := pure_rows (f := icv) (fun _ => ⟨.val _, trivial⟩) l nn
theorem old_lts (n : Nat) (l : List Lt) (nn : Bool) : Old n (.list (l.map Lt.cv) nn none) := (pure_lts l nn).old
theorem old_rps (n : Nat) (l : List Rp) (nn : Bool) : Old n (.list (l.map Rp.cv) nn none) := (pure_rps l nn).old
theorem old_ints (n : Nat) (l : List Int) (nn : Bool) : Old n (.list (l.map icv) nn none) := (pure_ints l nn).old
def fold (v n : Int) : Int := if n ≤ 1 then 0 else v % n
structure RightP (x : Rp) : Prop where
  t : 0 ≤ x.t ∧ x.t < 128
  a : 1 ≤ x.a ∧ x.a ≤ 4
  m : 0 ≤ x.m ∧ x.m < 8
  e : 1 ≤ x.e ∧ x.e ≤ 1073741824
  o : 1 ≤ x.o ∧ x.o ≤ 3
/-- Numbers that go up, between two bounds; right reports. -/
def Asc : List Lt → Int → Int → Prop
  | [], _, _ => True
  | x :: l, lo, hi => (lo < x.n ∧ x.n < hi ∧ RightP x.r) ∧ Asc l x.n hi
structure CkP (n : Net) : Prop where
  len : n.fly.length ≤ 64
  next : 0 ≤ n.next ∧ n.next ≤ 1073741824
  asc : Asc n.fly (-1) n.next

set_option maxRecDepth 10000 in
theorem mk_Fold (v n : Int) (hn : n ≤ 4611686018427387904) : CCalls CC 8 [(.val (.int .i64 (v))), (.val (.int .i64 (n)))] [] fun r σ' => r = .ret (.val (.int .i64 (fold v n))) ∧ σ' = [] := by
  refine ccalls_val (ccalls_of Try.func8 rfl rfl ?_)
  refine cw_seq ?_
  refine cw_region ?_
  refine co_y rfl rfl (y_assign rfl rfl (by conv => lhs; whnf)) ?_
  refine co_nil ?_
  refine cw_seq ?_
  refine cw_seq ?_
  refine cw_region ?_
  refine co_y rfl rfl (y_move rfl trivial (by conv => lhs; whnf)) ?_
  refine co_y rfl rfl (y_int rfl trivial rfl rfl rfl rfl) ?_
  refine co_nil ?_
  refine cw_cond trivial rfl (fun h1 => ?_) (fun h1 => ?_)
  · have hn1 : n ≤ 1 := by simpa using h1
    refine cw_seq ?_
    refine cw_region ?_
    refine co_y rfl rfl (y_assign rfl rfl (by conv => lhs; whnf)) ?_
    refine co_nil ?_
    refine cw_ret ?_
    exact ⟨_, res1 rfl trivial (by conv => lhs; whnf), _, _, rfl, rfl, cls_int (by rw [fold, if_pos hn1])⟩
  · have hn1 : ¬ n ≤ 1 := by simpa using h1
    have ht : v.tmod n = v % n ∨ v.tmod n + n = v % n ∧ v.tmod n < 0 := by
      rcases Int.le_total 0 v with hv | hv
      · exact .inl (Int.tmod_eq_emod_of_nonneg hv)
      · rw [Int.tmod_eq_emod]; split
        · exact .inl (by omega)
        · right; have := Int.emod_lt_of_pos v (show 0 < n by omega); have h5 : (n.natAbs : Int) = n := by omega
          omega
    have hm1 := Int.emod_nonneg v (show n ≠ 0 by omega)
    have hm2 := Int.emod_lt_of_pos v (show 0 < n by omega)
    have hm3 := Int.tmod_lt_of_pos v (show 0 < n by omega)
    have hm4 : -n ≤ v.tmod n := by omega
    refine cw_skip ?_
    refine cw_seq ?_
    refine cw_region ?_
    refine co_y rfl rfl (y_move rfl trivial (by conv => lhs; whnf)) ?_
    refine co_y rfl rfl (y_move rfl trivial (by conv => lhs; whnf)) ?_
    refine co_y rfl rfl (y_int rfl trivial trivial rfl rfl (cq_rem (by omega))) ?_
    refine co_y rfl rfl (y_assign rfl trivial (by conv => lhs; whnf)) ?_
    refine co_nil ?_
    refine cw_seq ?_
    refine cw_seq ?_
    refine cw_region ?_
    refine co_y rfl rfl (y_move rfl trivial (by conv => lhs; whnf)) ?_
    refine co_y rfl rfl (y_int rfl trivial rfl rfl rfl rfl) ?_
    refine co_nil ?_
    refine cw_cond trivial rfl (fun h2 => ?_) (fun h2 => ?_)
    · have hlt : v.tmod n < 0 := by simpa using h2
      refine cw_region ?_
      refine co_y rfl rfl (y_move rfl trivial (by conv => lhs; whnf)) ?_
      refine co_y rfl rfl (y_move rfl trivial (by conv => lhs; whnf)) ?_
      refine co_y rfl rfl (y_add rfl trivial trivial rfl rfl (by omega) (by omega)) ?_
      refine co_y rfl rfl (y_assign rfl trivial (by conv => lhs; whnf)) ?_
      refine co_nil ?_
      refine cw_seq ?_
      refine cw_region ?_
      refine co_y rfl rfl (y_move rfl trivial (by conv => lhs; whnf)) ?_
      refine co_y rfl rfl (y_assign rfl trivial (by conv => lhs; whnf)) ?_
      refine co_nil ?_
      refine cw_ret ?_
      exact ⟨_, res1 rfl trivial (by conv => lhs; whnf), _, _, rfl, rfl, cls_int (by rw [fold, if_neg hn1]; omega)⟩
    · have hlt : ¬ v.tmod n < 0 := by simpa using h2
      refine cw_skip ?_
      refine cw_seq ?_
      refine cw_region ?_
      refine co_y rfl rfl (y_move rfl trivial (by conv => lhs; whnf)) ?_
      refine co_y rfl rfl (y_assign rfl trivial (by conv => lhs; whnf)) ?_
      refine co_nil ?_
      refine cw_ret ?_
      exact ⟨_, res1 rfl trivial (by conv => lhs; whnf), _, _, rfl, rfl, cls_int (by rw [fold, if_neg hn1]; omega)⟩

theorem mk_Fold_s (v n : Int) (hn : n ≤ 4611686018427387904) (σ : List CObj) : CCalls CC 8 [(.val (.int .i64 (v))), (.val (.int .i64 (n)))] σ fun r σ' => r = .ret (.val (.int .i64 (fold v n))) ∧ σ' = σ :=
  CCalls.anyw hCC (by repeat' (first | exact .val _ | exact pure_lts _ _ | exact pure_rps _ _ | exact pure_ints _ _ | exact trivial | refine pure_agg ?_ | refine pure_tup ?_ | refine ⟨?_, ?_⟩)) (by repeat' (first | exact .val _ | exact pure_lts _ _ | exact pure_rps _ _ | exact pure_ints _ _ | exact trivial | refine pure_agg ?_ | refine pure_tup ?_ | refine ⟨?_, ?_⟩)) (mk_Fold v n hn) σ

set_option maxRecDepth 10000 in
theorem de_right (x : Rp) : CCalls CC 31 [.agg x.cells] [] fun r σ' => r = .ret (.val (.bool (pb (RightP x)))) ∧ σ' = [] := by
  refine ccalls_val (ccalls_of Try.func31 rfl rfl ?_)
  refine cw_seq ?_
  refine cw_region ?_
  refine co_d rfl rfl (d_box rfl trivial (by conv => lhs; whnf) (.inr ⟨_, rfl⟩) ?_)
  refine co_y rfl rfl (y_assign rfl rfl (by conv => lhs; whnf)) ?_
  refine co_nil ?_
  refine cw_seq ?_
  refine cw_region ?_
  refine co_y rfl rfl (y_field rfl trivial rfl Try.runUnderlying30 rfl Try.sizeOf3 (by decide)) ?_
  refine co_y rfl rfl (y_load1 rfl trivial rfl Try.isAgg3 rfl rfl) ?_
  refine co_y rfl rfl (y_int rfl trivial rfl rfl rfl rfl) ?_
  refine co_y rfl rfl (y_move rfl trivial (by conv => lhs; whnf)) ?_
  refine co_g rfl rfl trivial rfl rfl (fun hg => y_field rfl trivial rfl Try.runUnderlying30 rfl Try.sizeOf3 (by decide)) ?_
  refine co_g rfl rfl trivial rfl rfl (fun hg => y_load1 rfl hg rfl Try.isAgg3 rfl rfl) ?_
  refine co_g rfl rfl trivial rfl rfl (fun hg => y_int rfl hg rfl rfl rfl rfl) ?_
  refine co_y rfl rfl (y_pick_and rfl trivial rfl (fun hp => hp) (fun _ => rfl)) ?_
  refine co_y rfl rfl (y_move rfl trivial (by conv => lhs; whnf)) ?_
  refine co_g rfl rfl trivial rfl rfl (fun hg => y_field rfl trivial rfl Try.runUnderlying30 rfl Try.sizeOf3 (by decide)) ?_
  refine co_g rfl rfl trivial rfl rfl (fun hg => y_load1 rfl hg rfl Try.isAgg3 rfl rfl) ?_
  refine co_g rfl rfl trivial rfl rfl (fun hg => y_int rfl hg rfl rfl rfl rfl) ?_
  refine co_y rfl rfl (y_pick_and rfl trivial rfl (fun hp => hp) (fun _ => rfl)) ?_
  refine co_y rfl rfl (y_move rfl trivial (by conv => lhs; whnf)) ?_
  refine co_g rfl rfl trivial rfl rfl (fun hg => y_field rfl trivial rfl Try.runUnderlying30 rfl Try.sizeOf3 (by decide)) ?_
  refine co_g rfl rfl trivial rfl rfl (fun hg => y_load1 rfl hg rfl Try.isAgg3 rfl rfl) ?_
  refine co_g rfl rfl trivial rfl rfl (fun hg => y_int rfl hg rfl rfl rfl rfl) ?_
  refine co_y rfl rfl (y_pick_and rfl trivial rfl (fun hp => hp) (fun _ => rfl)) ?_
  refine co_y rfl rfl (y_move rfl trivial (by conv => lhs; whnf)) ?_
  refine co_g rfl rfl trivial rfl rfl (fun hg => y_field rfl trivial rfl Try.runUnderlying30 rfl Try.sizeOf3 (by decide)) ?_
  refine co_g rfl rfl trivial rfl rfl (fun hg => y_load1 rfl hg rfl Try.isAgg3 rfl rfl) ?_
  refine co_g rfl rfl trivial rfl rfl (fun hg => y_int rfl hg rfl rfl rfl rfl) ?_
  refine co_y rfl rfl (y_pick_and rfl trivial rfl (fun hp => hp) (fun _ => rfl)) ?_
  refine co_y rfl rfl (y_move rfl trivial (by conv => lhs; whnf)) ?_
  refine co_g rfl rfl trivial rfl rfl (fun hg => y_field rfl trivial rfl Try.runUnderlying30 rfl Try.sizeOf3 (by decide)) ?_
  refine co_g rfl rfl trivial rfl rfl (fun hg => y_load1 rfl hg rfl Try.isAgg3 rfl rfl) ?_
  refine co_g rfl rfl trivial rfl rfl (fun hg => y_int rfl hg rfl rfl rfl rfl) ?_
  refine co_y rfl rfl (y_pick_and rfl trivial rfl (fun hp => hp) (fun _ => rfl)) ?_
  refine co_y rfl rfl (y_move rfl trivial (by conv => lhs; whnf)) ?_
  refine co_g rfl rfl trivial rfl rfl (fun hg => y_field rfl trivial rfl Try.runUnderlying30 rfl Try.sizeOf3 (by decide)) ?_
  refine co_g rfl rfl trivial rfl rfl (fun hg => y_load1 rfl hg rfl Try.isAgg3 rfl rfl) ?_
  refine co_g rfl rfl trivial rfl rfl (fun hg => y_int rfl hg rfl rfl rfl rfl) ?_
  refine co_y rfl rfl (y_pick_and rfl trivial rfl (fun hp => hp) (fun _ => rfl)) ?_
  refine co_y rfl rfl (y_move rfl trivial (by conv => lhs; whnf)) ?_
  refine co_g rfl rfl trivial rfl rfl (fun hg => y_field rfl trivial rfl Try.runUnderlying30 rfl Try.sizeOf3 (by decide)) ?_
  refine co_g rfl rfl trivial rfl rfl (fun hg => y_load1 rfl hg rfl Try.isAgg3 rfl rfl) ?_
  refine co_g rfl rfl trivial rfl rfl (fun hg => y_int rfl hg rfl rfl rfl rfl) ?_
  refine co_y rfl rfl (y_pick_and rfl trivial rfl (fun hp => hp) (fun _ => rfl)) ?_
  refine co_y rfl rfl (y_move rfl trivial (by conv => lhs; whnf)) ?_
  refine co_g rfl rfl trivial rfl rfl (fun hg => y_field rfl trivial rfl Try.runUnderlying30 rfl Try.sizeOf3 (by decide)) ?_
  refine co_g rfl rfl trivial rfl rfl (fun hg => y_load1 rfl hg rfl Try.isAgg3 rfl rfl) ?_
  refine co_g rfl rfl trivial rfl rfl (fun hg => y_int rfl hg rfl rfl rfl rfl) ?_
  refine co_y rfl rfl (y_pick_and rfl trivial rfl (fun hp => hp) (fun _ => rfl)) ?_
  refine co_y rfl rfl (y_move rfl trivial (by conv => lhs; whnf)) ?_
  refine co_g rfl rfl trivial rfl rfl (fun hg => y_field rfl trivial rfl Try.runUnderlying30 rfl Try.sizeOf3 (by decide)) ?_
  refine co_g rfl rfl trivial rfl rfl (fun hg => y_load1 rfl hg rfl Try.isAgg3 rfl rfl) ?_
  refine co_g rfl rfl trivial rfl rfl (fun hg => y_int rfl hg rfl rfl rfl rfl) ?_
  refine co_y rfl rfl (y_pick_and rfl trivial rfl (fun hp => hp) (fun _ => rfl)) ?_
  refine co_y rfl rfl (y_assign rfl trivial (by conv => lhs; whnf)) ?_
  refine co_nil ?_
  refine cw_ret ?_
  exact ⟨_, res1 rfl trivial (by conv => lhs; whnf), _, _, rfl, rfl, cls_bool (pb_iff (by simp; exact ⟨fun h => ⟨⟨by omega, by omega⟩, ⟨by omega, by omega⟩, ⟨by omega, by omega⟩, ⟨by omega, by omega⟩, ⟨by omega, by omega⟩⟩, fun h => by have := h.t; have := h.a; have := h.m; have := h.e; have := h.o; omega⟩))⟩

theorem de_right_s (x : Rp) (σ : List CObj) : CCalls CC 31 [.agg x.cells] σ fun r σ' => r = .ret (.val (.bool (pb (RightP x)))) ∧ σ' = σ :=
  CCalls.anyw hCC (by repeat' (first | exact .val _ | exact pure_lts _ _ | exact pure_rps _ _ | exact pure_ints _ _ | exact trivial | refine pure_agg ?_ | refine pure_tup ?_ | refine ⟨?_, ?_⟩)) (by repeat' (first | exact .val _ | exact pure_lts _ _ | exact pure_rps _ _ | exact pure_ints _ _ | exact trivial | refine pure_agg ?_ | refine pure_tup ?_ | refine ⟨?_, ?_⟩)) (de_right x) σ

theorem asc_step {l : List Lt} {i : Nat} {x : Lt} (h : l[i]? = some x) (lo hi : Int) : Asc (l.drop i) lo hi ↔ (lo < x.n ∧ x.n < hi ∧ RightP x.r) ∧ Asc (l.drop (i + 1)) x.n hi := by
  obtain ⟨hlt, rfl⟩ := List.getElem?_eq_some_iff.1 h
  rw [List.drop_eq_getElem_cons hlt]
  exact Iff.rfl

set_option maxRecDepth 10000 in
theorem de_Check (n : Net) (hl : n.fly.length ≤ maxLen) : CCalls CC 14 [.agg n.cells] [] fun r σ' => r = .ret (.val (.bool (pb (CkP n)))) ∧ σ' = [] := by
  unfold maxLen at hl
  refine ccalls_val (ccalls_of Try.func14 rfl rfl ?_)
  refine cw_seq ?_
  refine cw_region ?_
  refine co_d rfl rfl (d_box rfl trivial (by conv => lhs; whnf) (.inr ⟨_, rfl⟩) ?_)
  refine co_y rfl rfl (y_assign rfl rfl (by conv => lhs; whnf)) ?_
  refine co_nil ?_
  refine cw_seq ?_
  refine cw_seq ?_
  refine cw_region ?_
  refine co_y rfl rfl (y_field rfl trivial rfl Try.runUnderlying25 rfl Try.sizeOf23 (by decide)) ?_
  refine co_y rfl rfl (y_load1 rfl trivial rfl Try.isAgg23 rfl rfl) ?_
  refine co_y rfl rfl (y_len rfl trivial rfl Try.runUnderlying23 (by first | exact len_map _ _ | rfl) rfl) ?_
  refine co_y rfl rfl (y_int rfl trivial rfl rfl rfl rfl) ?_
  refine co_y rfl rfl (y_move rfl trivial (by conv => lhs; whnf)) ?_
  refine co_g rfl rfl trivial rfl rfl (fun hg => y_field rfl trivial rfl Try.runUnderlying25 rfl Try.sizeOf3 (by decide)) ?_
  refine co_g rfl rfl trivial rfl rfl (fun hg => y_load1 rfl hg rfl Try.isAgg3 rfl rfl) ?_
  refine co_g rfl rfl trivial rfl rfl (fun hg => y_int rfl hg rfl rfl rfl rfl) ?_
  refine co_y rfl rfl (y_pick_or rfl trivial rfl (fun hp => hp) (fun _ => rfl)) ?_
  refine co_y rfl rfl (y_move rfl trivial (by conv => lhs; whnf)) ?_
  refine co_g rfl rfl trivial rfl rfl (fun hg => y_field rfl trivial rfl Try.runUnderlying25 rfl Try.sizeOf3 (by decide)) ?_
  refine co_g rfl rfl trivial rfl rfl (fun hg => y_load1 rfl hg rfl Try.isAgg3 rfl rfl) ?_
  refine co_g rfl rfl trivial rfl rfl (fun hg => y_int rfl hg rfl rfl rfl rfl) ?_
  refine co_y rfl rfl (y_pick_or rfl trivial rfl (fun hp => hp) (fun _ => rfl)) ?_
  refine co_nil ?_
  refine cw_cond trivial rfl (fun h1 => ?_) (fun h1 => ?_)
  · have hx : ¬ CkP n := fun h => by
      have g1 := h.len
      have g2 := h.next
      simp at h1
      omega
    refine cw_seq ?_
    refine cw_region ?_
    refine co_y rfl rfl (y_assign rfl rfl (by conv => lhs; whnf)) ?_
    refine co_nil ?_
    refine cw_ret ?_
    exact ⟨_, res1 rfl trivial (by conv => lhs; whnf), _, _, rfl, rfl, cls_bool (pb_ne.2 hx).symm⟩
  · have hx : n.fly.length ≤ 64 ∧ 0 ≤ n.next ∧ n.next ≤ 1073741824 := by simp at h1; omega
    refine cw_skip ?_
    refine cw_seq ?_
    refine cw_region ?_
    refine co_y rfl rfl (y_assign rfl rfl (by conv => lhs; whnf)) ?_
    refine co_nil ?_
    refine cw_seq ?_
    refine cw_seq ?_
    refine cw_region ?_
    refine co_y rfl rfl (y_field rfl trivial rfl Try.runUnderlying25 rfl Try.sizeOf23 (by decide)) ?_
    refine co_y rfl rfl (y_load1 rfl trivial rfl Try.isAgg23 rfl rfl) ?_
    refine co_y rfl rfl (y_len rfl trivial rfl Try.runUnderlying23 (by first | exact len_map _ _ | rfl) rfl) ?_
    refine co_y rfl rfl (y_move rfl rfl (by conv => lhs; whnf)) ?_
    refine co_nil ?_
    refine cw_block ?_
    refine cw_loopd hCC (α := Nat × Int) (fun x => [(1, .ptr 0 0), (3, (.val (.int .i64 (x.2)))), (21, (.list (n.fly.map Lt.cv) n.nn none)), (22, (.val (.int .i64 ((n.fly.length : Int))))), (23, (.val (.int .i64 ((x.1 : Int)))))]) (fun _ => [.box n.cells]) (fun x => x.1 ≤ n.fly.length ∧ (Asc n.fly (-1) n.next ↔ Asc (n.fly.drop x.1) x.2 n.next)) (fun x => n.fly.length - x.1) (0, -1) ⟨Nat.zero_le _, Iff.rfl⟩ ⟨⟨trivial, rfl⟩, ⟨trivial, rfl⟩, ⟨trivial, rfl⟩, ⟨trivial, rfl⟩, ⟨trivial, rfl⟩, trivial⟩ (extra0 := []) rfl (fun _ _ => Nat.le_of_ble_eq_true rfl) (fun a ha => by repeat' (first | exact trivial | exact .val _ | exact .ptr (Nat.le_of_ble_eq_true rfl) | exact .map (Nat.le_of_ble_eq_true rfl) | exact (by first | exact old_lts _ _ _ | exact old_rps _ _ _ | exact old_ints _ _ _) | refine old_box ?_ | refine ⟨?_, ?_⟩)) ?_
    intro ⟨i, last⟩ ⟨hi, hiff⟩
    dsimp only at hi hiff ⊢
    refine cw_seq ?_
    refine cw_region ?_
    refine co_y rfl rfl (y_int rfl trivial trivial rfl rfl rfl) ?_
    refine co_nil ?_
    refine cw_seq ?_
    refine cw_cond trivial rfl (fun h2 => ?_) (fun h2 => ?_)
    · have hlt : (i : Int) < n.fly.length := by simpa using h2
      obtain ⟨x, hb⟩ : ∃ x, n.fly[i]? = some x := ⟨n.fly[i]'(by omega), by simp⟩
      rw [asc_step hb] at hiff
      refine cw_skip ?_
      refine cw_seq ?_
      refine cw_block ?_
      refine cw_seq ?_
      refine cw_region ?_
      refine co_y rfl rfl (y_index rfl trivial trivial rfl rfl Try.runUnderlying23 Try.sizeOf50 (by omega) (rows_get hb) rfl) ?_
      refine co_y rfl rfl (y_load_c rfl trivial rfl Try.isAgg50 Try.sizeOf50 (Nat.le_of_ble_eq_true rfl)) ?_
      refine co_d rfl rfl (d_alloc rfl Try.zeroValue50 rfl (.inr ⟨_, rfl⟩) ?_)
      refine co_d rfl rfl (d_store rfl trivial trivial rfl (by conv => lhs; whnf) Try.sizeOf50 (.inr ⟨_, rfl⟩) rfl rfl (Nat.le_of_ble_eq_true rfl) ?_)
      refine co_nil ?_
      refine cw_seq ?_
      refine cw_seq ?_
      refine cw_region ?_
      refine co_y rfl rfl (y_field rfl trivial rfl Try.runUnderlying50 rfl Try.sizeOf3 (by decide)) ?_
      refine co_y rfl rfl (y_load1 rfl trivial rfl Try.isAgg3 rfl rfl) ?_
      refine co_y rfl rfl (y_move rfl trivial (by conv => lhs; whnf)) ?_
      refine co_y rfl rfl (y_int rfl trivial trivial rfl rfl rfl) ?_
      refine co_y rfl rfl (y_move rfl trivial (by conv => lhs; whnf)) ?_
      refine co_g rfl rfl trivial rfl rfl (fun hg => y_field rfl trivial rfl Try.runUnderlying50 rfl Try.sizeOf3 (by decide)) ?_
      refine co_g rfl rfl trivial rfl rfl (fun hg => y_load1 rfl hg rfl Try.isAgg3 rfl rfl) ?_
      refine co_g rfl rfl trivial rfl rfl (fun hg => y_field rfl trivial rfl Try.runUnderlying25 rfl Try.sizeOf3 (by decide)) ?_
      refine co_g rfl rfl trivial rfl rfl (fun hg => y_load1 rfl hg rfl Try.isAgg3 rfl rfl) ?_
      refine co_g rfl rfl trivial rfl rfl (fun hg => y_int rfl hg hg rfl rfl rfl) ?_
      refine co_y rfl rfl (y_pick_or rfl trivial rfl (fun hp => hp) (fun _ => rfl)) ?_
      refine co_y rfl rfl (y_move rfl trivial (by conv => lhs; whnf)) ?_
      refine co_g rfl rfl trivial rfl rfl (fun hg => y_field rfl trivial rfl Try.runUnderlying50 rfl Try.sizeOf30 (by decide)) ?_
      refine co_g rfl rfl trivial rfl rfl (fun hg => y_load rfl hg rfl Try.isAgg30 Try.sizeOf30 rfl (Nat.le_of_ble_eq_true rfl)) ?_
      refine co_g rfl rfl trivial rfl rfl (fun hg => y_callf rfl Try.call31 ⟨hg, trivial⟩ (de_right_s x.r _) rfl) ?_
      refine co_g rfl rfl trivial rfl rfl (fun hg => y_not rfl hg rfl) ?_
      refine co_y rfl rfl (y_pick_or rfl trivial rfl (fun hp => hp) (fun _ => rfl)) ?_
      refine co_nil ?_
      refine cw_cond trivial rfl (fun h3 => ?_) (fun h3 => ?_)
      · have hno : ¬ CkP n := fun h => by
          obtain ⟨⟨g1, g2, g3⟩, -⟩ := hiff.1 h.asc
          rw [pb_eq.2 g3] at h3
          simp at h3
          omega
        refine cw_seq ?_
        refine cw_region ?_
        refine co_y rfl rfl (y_assign rfl rfl (by conv => lhs; whnf)) ?_
        refine co_nil ?_
        refine cw_ret ?_
        exact ⟨_, res1 rfl trivial (by conv => lhs; whnf), _, _, rfl, rfl, cls_bool (pb_ne.2 hno).symm⟩
      · have hyes : last < x.n ∧ x.n < n.next ∧ RightP x.r := by
          have h3' := h3
          simp at h3'
          exact ⟨by omega, by omega, pb_eq.1 (by simpa using h3'.2)⟩
        refine cw_skip ?_
        refine cw_region ?_
        refine co_y rfl rfl (y_field rfl trivial rfl Try.runUnderlying50 rfl Try.sizeOf3 (by decide)) ?_
        refine co_y rfl rfl (y_load1 rfl trivial rfl Try.isAgg3 rfl rfl) ?_
        refine co_y rfl rfl (y_assign rfl trivial (by conv => lhs; whnf)) ?_
        refine co_nil ?_
        refine cw_region ?_
        refine co_y rfl rfl (y_add rfl trivial rfl rfl rfl (by omega) (by omega)) ?_
        refine co_y rfl rfl (y_move rfl trivial (by conv => lhs; whnf)) ?_
        refine co_nil ?_
        exact ⟨(i + 1, x.n), _, ⟨by show n.fly.length - (i + 1) < n.fly.length - i; omega, by show i + 1 ≤ _; omega, hiff.trans ⟨fun h => h.2, fun h => ⟨hyes, h⟩⟩⟩, ⟨⟨trivial, rfl⟩, ⟨trivial, rfl⟩, ⟨trivial, rfl⟩, ⟨trivial, rfl⟩, ⟨trivial, rfl⟩, trivial⟩, rfl⟩
    · have hge : i = n.fly.length := by
        have : ¬ (i : Int) < n.fly.length := by simpa using h2
        omega
      have hyes : CkP n := ⟨hx.1, hx.2, hiff.2 (by rw [hge, List.drop_length]; trivial)⟩
      refine cw_exit ?_
      refine cw_seq ?_
      refine cw_region ?_
      refine co_y rfl rfl (y_assign rfl rfl (by conv => lhs; whnf)) ?_
      refine co_nil ?_
      refine cw_ret ?_
      exact ⟨_, res1 rfl trivial (by conv => lhs; whnf), _, _, rfl, rfl, cls_bool (pb_yes' hyes).symm⟩

theorem de_Check_s (n : Net) (hl : n.fly.length ≤ maxLen) (σ : List CObj) : CCalls CC 14 [.agg n.cells] σ fun r σ' => r = .ret (.val (.bool (pb (CkP n)))) ∧ σ' = σ :=
  CCalls.anyw hCC (by repeat' (first | exact .val _ | exact pure_lts _ _ | exact pure_rps _ _ | exact pure_ints _ _ | exact trivial | refine pure_agg ?_ | refine pure_tup ?_ | refine ⟨?_, ?_⟩)) (by repeat' (first | exact .val _ | exact pure_lts _ _ | exact pure_rps _ _ | exact pure_ints _ _ | exact trivial | refine pure_agg ?_ | refine pure_tup ?_ | refine ⟨?_, ?_⟩)) (de_Check n hl) σ

def cmpS (a b : Int) : Int := if a < b then -1 else if b < a then 1 else 0

set_option maxRecDepth 10000 in
theorem cmp_isNaN (a : Int) : CCalls CC 49 [(.val (.int .i64 (a)))] [] fun r σ' => r = .ret (.val (.bool (false))) ∧ σ' = [] := by
  refine ccalls_val (ccalls_of Try.func49 rfl rfl ?_)
  refine cw_seq ?_
  refine cw_region ?_
  refine co_y rfl rfl (y_assign rfl rfl (by conv => lhs; whnf)) ?_
  refine co_nil ?_
  refine cw_seq ?_
  refine cw_region ?_
  refine co_y rfl rfl (y_move rfl trivial (by conv => lhs; whnf)) ?_
  refine co_y rfl rfl (y_move rfl trivial (by conv => lhs; whnf)) ?_
  refine co_y rfl rfl (y_int rfl trivial trivial rfl rfl rfl) ?_
  refine co_y rfl rfl (y_assign rfl trivial (by conv => lhs; whnf)) ?_
  refine co_nil ?_
  refine cw_ret ?_
  exact ⟨_, res1 rfl trivial (by conv => lhs; whnf), _, _, rfl, rfl, cls_bool (by simp)⟩

theorem cmp_isNaN_s (a : Int) (σ : List CObj) : CCalls CC 49 [(.val (.int .i64 (a)))] σ fun r σ' => r = .ret (.val (.bool (false))) ∧ σ' = σ :=
  CCalls.anyw hCC (by repeat' (first | exact .val _ | exact pure_lts _ _ | exact pure_rps _ _ | exact pure_ints _ _ | exact trivial | refine pure_agg ?_ | refine pure_tup ?_ | refine ⟨?_, ?_⟩)) (by repeat' (first | exact .val _ | exact pure_lts _ _ | exact pure_rps _ _ | exact pure_ints _ _ | exact trivial | refine pure_agg ?_ | refine pure_tup ?_ | refine ⟨?_, ?_⟩)) (cmp_isNaN a) σ

set_option maxRecDepth 10000 in
theorem cmp_Compare (a b : Int) : CCalls CC 46 [(.val (.int .i64 (a))), (.val (.int .i64 (b)))] [] fun r σ' => r = .ret (.val (.int .i64 (cmpS a b))) ∧ σ' = [] := by
  refine ccalls_val (ccalls_of Try.func46 rfl rfl ?_)
  refine cw_seq ?_
  refine cw_region ?_
  refine co_y rfl rfl (y_assign rfl rfl (by conv => lhs; whnf)) ?_
  refine co_nil ?_
  refine cw_seq ?_
  refine cw_region ?_
  refine co_y rfl rfl (y_move rfl trivial (by conv => lhs; whnf)) ?_
  refine co_y rfl rfl (y_callf rfl Try.call49 ⟨trivial, trivial⟩ (cmp_isNaN_s a _) rfl) ?_
  refine co_y rfl rfl (y_assign rfl trivial (by conv => lhs; whnf)) ?_
  refine co_nil ?_
  refine cw_seq ?_
  refine cw_region ?_
  refine co_y rfl rfl (y_move rfl trivial (by conv => lhs; whnf)) ?_
  refine co_y rfl rfl (y_callf rfl Try.call49 ⟨trivial, trivial⟩ (cmp_isNaN_s b _) rfl) ?_
  refine co_y rfl rfl (y_assign rfl trivial (by conv => lhs; whnf)) ?_
  refine co_nil ?_
  refine cw_seq ?_
  refine cw_seq ?_
  refine cw_region ?_
  refine co_y rfl rfl (y_move rfl trivial (by conv => lhs; whnf)) ?_
  refine co_nil ?_
  refine cw_cond trivial rfl (fun h1 => ?_) (fun h1 => ?_)
  · exfalso
    cases h1
  · skip
    refine cw_skip ?_
    refine cw_seq ?_
    refine cw_seq ?_
    refine cw_region ?_
    refine co_y rfl rfl (y_move rfl trivial (by conv => lhs; whnf)) ?_
    refine co_nil ?_
    refine cw_cond trivial rfl (fun h3 => ?_) (fun h3 => ?_)
    · exfalso
      cases h3
    · skip
      refine cw_skip ?_
      refine cw_seq ?_
      refine cw_seq ?_
      refine cw_region ?_
      refine co_y rfl rfl (y_move rfl trivial (by conv => lhs; whnf)) ?_
      refine co_y rfl rfl (y_move rfl trivial (by conv => lhs; whnf)) ?_
      refine co_y rfl rfl (y_int rfl trivial trivial rfl rfl rfl) ?_
      refine co_nil ?_
      refine cw_cond trivial rfl (fun h4 => ?_) (fun h4 => ?_)
      · have h : a < b := by simpa using h4
        refine cw_seq ?_
        refine cw_region ?_
        refine co_y rfl rfl (y_assign rfl rfl (by conv => lhs; whnf)) ?_
        refine co_nil ?_
        refine cw_ret ?_
        exact ⟨_, res1 rfl trivial (by conv => lhs; whnf), _, _, rfl, rfl, cls_int (by rw [cmpS, if_pos h])⟩
      · have h : ¬ a < b := by simpa using h4
        refine cw_skip ?_
        refine cw_seq ?_
        refine cw_seq ?_
        refine cw_region ?_
        refine co_y rfl rfl (y_move rfl trivial (by conv => lhs; whnf)) ?_
        refine co_y rfl rfl (y_move rfl trivial (by conv => lhs; whnf)) ?_
        refine co_y rfl rfl (y_int rfl trivial trivial rfl rfl rfl) ?_
        refine co_nil ?_
        refine cw_cond trivial rfl (fun h5 => ?_) (fun h5 => ?_)
        · have h' : b < a := by simpa using h5
          refine cw_seq ?_
          refine cw_region ?_
          refine co_y rfl rfl (y_assign rfl rfl (by conv => lhs; whnf)) ?_
          refine co_nil ?_
          refine cw_ret ?_
          exact ⟨_, res1 rfl trivial (by conv => lhs; whnf), _, _, rfl, rfl, cls_int (by rw [cmpS, if_neg h, if_pos h'])⟩
        · have h' : ¬ b < a := by simpa using h5
          refine cw_skip ?_
          refine cw_seq ?_
          refine cw_region ?_
          refine co_y rfl rfl (y_assign rfl rfl (by conv => lhs; whnf)) ?_
          refine co_nil ?_
          refine cw_ret ?_
          exact ⟨_, res1 rfl trivial (by conv => lhs; whnf), _, _, rfl, rfl, cls_int (by rw [cmpS, if_neg h, if_neg h'])⟩

theorem cmp_Compare_s (a b : Int) (σ : List CObj) : CCalls CC 46 [(.val (.int .i64 (a))), (.val (.int .i64 (b)))] σ fun r σ' => r = .ret (.val (.int .i64 (cmpS a b))) ∧ σ' = σ :=
  CCalls.anyw hCC (by repeat' (first | exact .val _ | exact pure_lts _ _ | exact pure_rps _ _ | exact pure_ints _ _ | exact trivial | refine pure_agg ?_ | refine pure_tup ?_ | refine ⟨?_, ?_⟩)) (by repeat' (first | exact .val _ | exact pure_lts _ _ | exact pure_rps _ _ | exact pure_ints _ _ | exact trivial | refine pure_agg ?_ | refine pure_tup ?_ | refine ⟨?_, ?_⟩)) (cmp_Compare a b) σ

set_option maxRecDepth 10000 in
theorem de_find_1 (x : Lt) (b : Int) : CCalls CC 45 [.agg x.cells, (.val (.int .i64 (b)))] [] fun r σ' => r = .ret (.val (.int .i64 (cmpS x.n b))) ∧ σ' = [] := by
  refine ccalls_val (ccalls_of Try.func45 rfl rfl ?_)
  refine cw_seq ?_
  refine cw_region ?_
  refine co_d rfl rfl (d_box rfl trivial (by conv => lhs; whnf) (.inr ⟨_, rfl⟩) ?_)
  refine co_y rfl rfl (y_assign rfl rfl (by conv => lhs; whnf)) ?_
  refine co_nil ?_
  refine cw_seq ?_
  refine cw_region ?_
  refine co_y rfl rfl (y_field rfl trivial rfl Try.runUnderlying50 rfl Try.sizeOf3 (by decide)) ?_
  refine co_y rfl rfl (y_load1 rfl trivial rfl Try.isAgg3 rfl rfl) ?_
  refine co_y rfl rfl (y_move rfl trivial (by conv => lhs; whnf)) ?_
  refine co_y rfl rfl (y_callf rfl Try.call46 ⟨trivial, trivial, trivial⟩ (cmp_Compare_s x.n b _) rfl) ?_
  refine co_y rfl rfl (y_assign rfl trivial (by conv => lhs; whnf)) ?_
  refine co_nil ?_
  refine cw_ret ?_
  exact ⟨_, res1 rfl trivial (by conv => lhs; whnf), _, _, rfl, rfl, cls_int rfl⟩

theorem de_find_1_s (x : Lt) (b : Int) (σ : List CObj) : CCalls CC 45 [.agg x.cells, (.val (.int .i64 (b)))] σ fun r σ' => r = .ret (.val (.int .i64 (cmpS x.n b))) ∧ σ' = σ :=
  CCalls.anyw hCC (by repeat' (first | exact .val _ | exact pure_lts _ _ | exact pure_rps _ _ | exact pure_ints _ _ | exact trivial | refine pure_agg ?_ | refine pure_tup ?_ | refine ⟨?_, ?_⟩)) (by repeat' (first | exact .val _ | exact pure_lts _ _ | exact pure_rps _ _ | exact pure_ints _ _ | exact trivial | refine pure_agg ?_ | refine pure_tup ?_ | refine ⟨?_, ?_⟩)) (de_find_1 x b) σ

end Go.Proofs.Ytchaklkfaemfgaa
