import Derived.Test.YtchaklkfaemfgaaD11
namespace Go.Proofs.Ytchaklkfaemfgaa
open Go Go.Cl

set_option maxRecDepth 10000 in
theorem clone_nil_L  : CCalls CC 33 [(.list (([] : List Lt).map Lt.cv) false none)] [] fun r σ' => r = .ret (.list (([] : List Lt).map Lt.cv) false none) ∧ σ' = [] := by
  refine ccalls_val (ccalls_of Try.func33 rfl rfl ?_)
  refine cw_seq ?_
  refine cw_region ?_
  refine co_y rfl rfl (y_assign rfl rfl (by conv => lhs; whnf)) ?_
  refine co_nil ?_
  refine cw_seq ?_
  refine cw_seq ?_
  refine cw_region ?_
  refine co_y rfl rfl (y_move rfl trivial (by conv => lhs; whnf)) ?_
  refine co_y rfl rfl (y_slnil rfl trivial rfl Try.runUnderlying23 rfl) ?_
  refine co_nil ?_
  refine cw_cond trivial rfl (fun h1 => ?_) (fun h1 => ?_)
  · skip
    refine cw_seq ?_
    refine cw_region ?_
    refine co_y rfl rfl (y_assign rfl rfl (by conv => lhs; whnf)) ?_
    refine co_nil ?_
    refine cw_ret ?_
    exact ⟨_, res1 rfl trivial (by conv => lhs; whnf), _, _, rfl, rfl, (cls_eq (show CV.list [] false none = _ from rfl) (by repeat' (first | exact .val _ | exact pure_lts _ _ | exact pure_rps _ _ | exact pure_ints _ _ | exact trivial | refine pure_agg ?_ | refine pure_tup ?_ | refine ⟨?_, ?_⟩)))⟩
  · exfalso
    cases h1

theorem clone_nil_L_s  (σ : List CObj) : CCalls CC 33 [(.list (([] : List Lt).map Lt.cv) false none)] σ fun r σ' => r = .ret (.list (([] : List Lt).map Lt.cv) false none) ∧ σ' = σ :=
  CCalls.anyw hCC (by repeat' (first | exact .val _ | exact pure_lts _ _ | exact pure_rps _ _ | exact pure_ints _ _ | exact trivial | refine pure_agg ?_ | refine pure_tup ?_ | refine ⟨?_, ?_⟩)) (by repeat' (first | exact .val _ | exact pure_lts _ _ | exact pure_rps _ _ | exact pure_ints _ _ | exact trivial | refine pure_agg ?_ | refine pure_tup ?_ | refine ⟨?_, ?_⟩)) (clone_nil_L) σ

set_option maxRecDepth 10000 in
theorem clone_0_L  : CCalls CC 33 [(.list (([] : List Lt).map Lt.cv) true none)] [] fun r σ' => r = .ret (.list (([] : List Lt).map Lt.cv) true none) ∧ σ' = [] := by
  refine ccalls_val (ccalls_of Try.func33 rfl rfl ?_)
  refine cw_seq ?_
  refine cw_region ?_
  refine co_y rfl rfl (y_assign rfl rfl (by conv => lhs; whnf)) ?_
  refine co_nil ?_
  refine cw_seq ?_
  refine cw_seq ?_
  refine cw_region ?_
  refine co_y rfl rfl (y_move rfl trivial (by conv => lhs; whnf)) ?_
  refine co_y rfl rfl (y_slnil rfl trivial rfl Try.runUnderlying23 rfl) ?_
  refine co_nil ?_
  refine cw_cond trivial rfl (fun h1 => ?_) (fun h1 => ?_)
  · exfalso
    cases h1
  · skip
    refine cw_skip ?_
    refine cw_seq ?_
    refine cw_region ?_
    refine co_d rfl rfl (d_lit0 rfl Try.runUnderlying23 Try.sizeOf50 (fun a0 => ?_))
    refine co_y rfl rfl (y_move rfl trivial (by conv => lhs; whnf)) ?_
    refine co_d rfl rfl (d_appc0 rfl trivial trivial rfl (src_list rfl (by first | exact rows_len (by intro a; rfl) _ | (intro r hr; simp at hr; done) | (intro r hr; simp at hr; subst hr; rfl) | (intro r hr; exact rows_len (by intro a; rfl) _ r (List.mem_of_mem_take (List.mem_of_mem_drop hr))) | (intro r hr; simp at hr; obtain ⟨a, _, rfl⟩ := hr; rfl))) Try.runUnderlying23 Try.sizeOf50 ?_)
    refine co_y rfl rfl (y_assign rfl trivial (by conv => lhs; whnf)) ?_
    refine co_nil ?_
    refine cw_ret ?_
    exact ⟨_, res1 rfl trivial (by conv => lhs; whnf), _, _, rfl, rfl, (cls_eq (show CV.list [] true none = _ from rfl) (by repeat' (first | exact .val _ | exact pure_lts _ _ | exact pure_rps _ _ | exact pure_ints _ _ | exact trivial | refine pure_agg ?_ | refine pure_tup ?_ | refine ⟨?_, ?_⟩)))⟩

theorem clone_0_L_s  (σ : List CObj) : CCalls CC 33 [(.list (([] : List Lt).map Lt.cv) true none)] σ fun r σ' => r = .ret (.list (([] : List Lt).map Lt.cv) true none) ∧ σ' = σ :=
  CCalls.anyw hCC (by repeat' (first | exact .val _ | exact pure_lts _ _ | exact pure_rps _ _ | exact pure_ints _ _ | exact trivial | refine pure_agg ?_ | refine pure_tup ?_ | refine ⟨?_, ?_⟩)) (by repeat' (first | exact .val _ | exact pure_lts _ _ | exact pure_rps _ _ | exact pure_ints _ _ | exact trivial | refine pure_agg ?_ | refine pure_tup ?_ | refine ⟨?_, ?_⟩)) (clone_0_L) σ

set_option maxRecDepth 10000 in
theorem clone_nil_R  : CCalls CC 41 [(.list (([] : List Rp).map Rp.cv) false none)] [] fun r σ' => r = .ret (.list (([] : List Rp).map Rp.cv) false none) ∧ σ' = [] := by
  refine ccalls_val (ccalls_of Try.func41 rfl rfl ?_)
  refine cw_seq ?_
  refine cw_region ?_
  refine co_y rfl rfl (y_assign rfl rfl (by conv => lhs; whnf)) ?_
  refine co_nil ?_
  refine cw_seq ?_
  refine cw_seq ?_
  refine cw_region ?_
  refine co_y rfl rfl (y_move rfl trivial (by conv => lhs; whnf)) ?_
  refine co_y rfl rfl (y_slnil rfl trivial rfl Try.runUnderlying44 rfl) ?_
  refine co_nil ?_
  refine cw_cond trivial rfl (fun h1 => ?_) (fun h1 => ?_)
  · skip
    refine cw_seq ?_
    refine cw_region ?_
    refine co_y rfl rfl (y_assign rfl rfl (by conv => lhs; whnf)) ?_
    refine co_nil ?_
    refine cw_ret ?_
    exact ⟨_, res1 rfl trivial (by conv => lhs; whnf), _, _, rfl, rfl, (cls_eq (show CV.list [] false none = _ from rfl) (by repeat' (first | exact .val _ | exact pure_lts _ _ | exact pure_rps _ _ | exact pure_ints _ _ | exact trivial | refine pure_agg ?_ | refine pure_tup ?_ | refine ⟨?_, ?_⟩)))⟩
  · exfalso
    cases h1

theorem clone_nil_R_s  (σ : List CObj) : CCalls CC 41 [(.list (([] : List Rp).map Rp.cv) false none)] σ fun r σ' => r = .ret (.list (([] : List Rp).map Rp.cv) false none) ∧ σ' = σ :=
  CCalls.anyw hCC (by repeat' (first | exact .val _ | exact pure_lts _ _ | exact pure_rps _ _ | exact pure_ints _ _ | exact trivial | refine pure_agg ?_ | refine pure_tup ?_ | refine ⟨?_, ?_⟩)) (by repeat' (first | exact .val _ | exact pure_lts _ _ | exact pure_rps _ _ | exact pure_ints _ _ | exact trivial | refine pure_agg ?_ | refine pure_tup ?_ | refine ⟨?_, ?_⟩)) (clone_nil_R) σ

set_option maxRecDepth 10000 in
theorem clone_0_R  : CCalls CC 41 [(.list (([] : List Rp).map Rp.cv) true none)] [] fun r σ' => r = .ret (.list (([] : List Rp).map Rp.cv) true none) ∧ σ' = [] := by
  refine ccalls_val (ccalls_of Try.func41 rfl rfl ?_)
  refine cw_seq ?_
  refine cw_region ?_
  refine co_y rfl rfl (y_assign rfl rfl (by conv => lhs; whnf)) ?_
  refine co_nil ?_
  refine cw_seq ?_
  refine cw_seq ?_
  refine cw_region ?_
  refine co_y rfl rfl (y_move rfl trivial (by conv => lhs; whnf)) ?_
  refine co_y rfl rfl (y_slnil rfl trivial rfl Try.runUnderlying44 rfl) ?_
  refine co_nil ?_
  refine cw_cond trivial rfl (fun h1 => ?_) (fun h1 => ?_)
  · exfalso
    cases h1
  · skip
    refine cw_skip ?_
    refine cw_seq ?_
    refine cw_region ?_
    refine co_d rfl rfl (d_lit0 rfl Try.runUnderlying44 Try.sizeOf30 (fun a0 => ?_))
    refine co_y rfl rfl (y_move rfl trivial (by conv => lhs; whnf)) ?_
    refine co_d rfl rfl (d_appc0 rfl trivial trivial rfl (src_list rfl (by first | exact rows_len (by intro a; rfl) _ | (intro r hr; simp at hr; done) | (intro r hr; simp at hr; subst hr; rfl) | (intro r hr; exact rows_len (by intro a; rfl) _ r (List.mem_of_mem_take (List.mem_of_mem_drop hr))) | (intro r hr; simp at hr; obtain ⟨a, _, rfl⟩ := hr; rfl))) Try.runUnderlying44 Try.sizeOf30 ?_)
    refine co_y rfl rfl (y_assign rfl trivial (by conv => lhs; whnf)) ?_
    refine co_nil ?_
    refine cw_ret ?_
    exact ⟨_, res1 rfl trivial (by conv => lhs; whnf), _, _, rfl, rfl, (cls_eq (show CV.list [] true none = _ from rfl) (by repeat' (first | exact .val _ | exact pure_lts _ _ | exact pure_rps _ _ | exact pure_ints _ _ | exact trivial | refine pure_agg ?_ | refine pure_tup ?_ | refine ⟨?_, ?_⟩)))⟩

theorem clone_0_R_s  (σ : List CObj) : CCalls CC 41 [(.list (([] : List Rp).map Rp.cv) true none)] σ fun r σ' => r = .ret (.list (([] : List Rp).map Rp.cv) true none) ∧ σ' = σ :=
  CCalls.anyw hCC (by repeat' (first | exact .val _ | exact pure_lts _ _ | exact pure_rps _ _ | exact pure_ints _ _ | exact trivial | refine pure_agg ?_ | refine pure_tup ?_ | refine ⟨?_, ?_⟩)) (by repeat' (first | exact .val _ | exact pure_lts _ _ | exact pure_rps _ _ | exact pure_ints _ _ | exact trivial | refine pure_agg ?_ | refine pure_tup ?_ | refine ⟨?_, ?_⟩)) (clone_0_R) σ

set_option maxRecDepth 10000 in
theorem clone_lit_R (σ : List CObj) : CCalls CC 41 [(.list (([] : List Rp).map Rp.cv) true none)] σ fun r σ' => ∃ a0 : Addr, r = .ret (.val (.slice (some a0) 0 0)) ∧ σ' = σ ∧ True := by
  refine (ccalls_of Try.func41 rfl rfl ?_)
  refine cw_seq ?_
  refine cw_region ?_
  refine co_y rfl rfl (y_assign rfl rfl (by conv => lhs; whnf)) ?_
  refine co_nil ?_
  refine cw_seq ?_
  refine cw_seq ?_
  refine cw_region ?_
  refine co_y rfl rfl (y_move rfl trivial (by conv => lhs; whnf)) ?_
  refine co_y rfl rfl (y_slnil rfl trivial rfl Try.runUnderlying44 rfl) ?_
  refine co_nil ?_
  refine cw_cond trivial rfl (fun h1 => ?_) (fun h1 => ?_)
  · exfalso
    cases h1
  · skip
    refine cw_skip ?_
    refine cw_seq ?_
    refine cw_region ?_
    refine co_d rfl rfl (d_lit0 rfl Try.runUnderlying44 Try.sizeOf30 (fun a0 => ?_))
    refine co_y rfl rfl (y_move rfl trivial (by conv => lhs; whnf)) ?_
    refine co_d rfl rfl (d_appc0' rfl trivial trivial rfl (src_list rfl (by first | exact rows_len (by intro a; rfl) _ | (intro r hr; simp at hr; done) | (intro r hr; simp at hr; subst hr; rfl) | (intro r hr; exact rows_len (by intro a; rfl) _ r (List.mem_of_mem_take (List.mem_of_mem_drop hr))) | (intro r hr; simp at hr; obtain ⟨a, _, rfl⟩ := hr; rfl))) Try.runUnderlying44 Try.sizeOf30 ?_)
    refine co_y rfl rfl (y_assign rfl trivial (by conv => lhs; whnf)) ?_
    refine co_nil ?_
    refine cw_ret ?_
    exact ⟨_, res1 rfl trivial (by conv => lhs; whnf), ⟨_, rfl, rfl, trivial⟩⟩

set_option maxRecDepth 10000 in
theorem clone_vec_R (l : List Rp) (hn : l ≠ []) (hl : l.length ≤ 1000000000) (σ : List CObj) : CCalls CC 41 [(.list (l.map Rp.cv) true none)] σ fun r σ' => ∃ _ : Unit, r = .ret (.vec σ.length 0 l.length) ∧ σ' = σ ++ [.vec 5 (l.map Rp.cv)] ∧ True := by
  refine (ccalls_of Try.func41 rfl rfl ?_)
  refine cw_seq ?_
  refine cw_region ?_
  refine co_y rfl rfl (y_assign rfl rfl (by conv => lhs; whnf)) ?_
  refine co_nil ?_
  refine cw_seq ?_
  refine cw_seq ?_
  refine cw_region ?_
  refine co_y rfl rfl (y_move rfl trivial (by conv => lhs; whnf)) ?_
  refine co_y rfl rfl (y_slnil rfl trivial rfl Try.runUnderlying44 rfl) ?_
  refine co_nil ?_
  refine cw_cond trivial rfl (fun h1 => ?_) (fun h1 => ?_)
  · exfalso
    cases h1
  · skip
    refine cw_skip ?_
    refine cw_seq ?_
    refine cw_region ?_
    refine co_d rfl rfl (d_lit0 rfl Try.runUnderlying44 Try.sizeOf30 (fun a0 => ?_))
    refine co_y rfl rfl (y_move rfl trivial (by conv => lhs; whnf)) ?_
    refine co_d rfl rfl (d_appcv l.length rfl trivial trivial rfl (src_list rfl (by first | exact rows_len (by intro a; rfl) _ | (intro r hr; simp at hr; done) | (intro r hr; simp at hr; subst hr; rfl) | (intro r hr; exact rows_len (by intro a; rfl) _ r (List.mem_of_mem_take (List.mem_of_mem_drop hr))) | (intro r hr; simp at hr; obtain ⟨a, _, rfl⟩ := hr; rfl))) Try.runUnderlying44 Try.sizeOf30 Try.typeInfo30 Try.zeroValue30 rfl (by simp; exact List.length_pos_iff.2 hn) (by have hb : Try.t30.bytes = 40 := rfl; rw [hb]; first | omega | (simp; done) | (simp; omega)) (by first | omega | (simp; omega) | simp) (by simp) ?_)
    refine co_y rfl rfl (y_assign rfl trivial (by conv => lhs; whnf)) ?_
    refine co_nil ?_
    refine cw_ret ?_
    exact ⟨_, res1 rfl trivial (by conv => lhs; whnf), ⟨(), rfl, rfl, trivial⟩⟩

theorem clone_R (l : List Rp) (nn : Bool) (hnn : nn = false → l = []) (hl : l.length ≤ 1000000000) (σ : List CObj) : CCalls CC 41 [(.list (l.map Rp.cv) nn none)] σ fun r σ' => r = .ret (.list (l.map Rp.cv) nn none) ∧ σ' = σ := by
  cases nn with
  | false => rw [hnn rfl]; exact clone_nil_R_s σ
  | true =>
    by_cases h : l = []
    · rw [h]; exact clone_0_R_s σ
    · exact CCalls.anyw hCC (args := [.list (l.map Rp.cv) true none]) (c := .list (l.map Rp.cv) true none) ⟨pure_rps _ _, trivial⟩ (pure_rps _ _) (ccalls_val ((clone_vec_R l h hl []).mono fun r σ' ⟨_, h1, h2, _⟩ => ⟨_, _, h2, h1, by subst h2; exact .vecs (Nat.zero_le _) rfl (by simp) (by rw [List.drop_zero]; exact List.take_of_length_le (by simp)) (fun r hr c hc => (rows_pure (f := Rp.cv) (fun _ => Pures.all ⟨.val _, .val _, .val _, .val _, .val _, trivial⟩) _) r hr c hc)⟩)) σ
theorem clone_L (l : List Lt) (nn : Bool) (hnn : nn = false → l = []) (hl : l.length ≤ 1000000000) (σ : List CObj) : CCalls CC 33 [(.list (l.map Lt.cv) nn none)] σ fun r σ' => r = .ret (.list (l.map Lt.cv) nn none) ∧ σ' = σ := by
  cases nn with
  | false => rw [hnn rfl]; exact clone_nil_L_s σ
  | true =>
    by_cases h : l = []
    · rw [h]; exact clone_0_L_s σ
    · exact slices_Clone_L l h hl σ
theorem index_V (l : List Rp) (x : Rp) (hl : l.length ≤ maxLen) (σ : List CObj) (q : Nat) (hk : σ[q]? = some (.vec 5 (l.map Rp.cv))) : CCalls CC 42 [.vec q 0 l.length, .agg x.cells] σ fun r σ' => r = .ret (.val (.int .i64 (ixR l x 0))) ∧ σ' = σ :=
  ccalls_borrow hCC (fun a ha => by simp at ha; subst ha; exact (by repeat' (first | exact .val _ | exact pure_lts _ _ | exact pure_rps _ _ | exact pure_ints _ _ | exact trivial | refine pure_agg ?_ | refine pure_tup ?_ | refine ⟨?_, ?_⟩))) (fun r hr c hc => (rows_pure (f := Rp.cv) (fun _ => Pures.all ⟨.val _, .val _, .val _, .val _, .val _, trivial⟩) _) r hr c hc) (by simp) hk (by
    rw [List.drop_zero, List.take_of_length_le (by simp)]
    exact slices_Index l true x hl)
def z5 : List CV := [.val (.int .i64 0), .val (.int .i64 0), .val (.int .i64 0), .val (.int .i64 0), .val (.int .i64 0)]
theorem del_oneR (P : List Rp) (y : Rp) (B : List Rp) (tail : List (List CV)) : ∃ x, spliceR ((P ++ y :: B).map Rp.cv ++ tail) P.length (B.map Rp.cv) = (P ++ B).map Rp.cv ++ x :: tail := by
  have h1 : ((P ++ y :: B).map Rp.cv ++ tail).take P.length = P.map Rp.cv := by
    rw [List.map_append, List.append_assoc]
    exact List.take_left' (by simp)
  obtain ⟨x, hx⟩ : ∃ x, ((y :: B).map Rp.cv ++ tail).drop B.length = x :: tail := by
    have hl : B.length < ((y :: B).map Rp.cv).length := by simp
    refine ⟨((y :: B).map Rp.cv)[B.length], ?_⟩
    rw [List.drop_append_of_le_length (by omega), List.drop_eq_getElem_cons hl, List.drop_eq_nil_of_le (by simp)]
    rfl
  refine ⟨x, ?_⟩
  unfold spliceR
  rw [h1, List.length_map, ← List.drop_drop, List.map_append, List.append_assoc, List.drop_left' (by simp), hx, List.map_append, List.append_assoc]

set_option maxRecDepth 10000 in
theorem delete_R (P : List Rp) (y : Rp) (B : List Rp) (tail : List (List CV)) (σ : List CObj) (q : Nat) (hk : σ[q]? = some (.vec 5 ((P ++ y :: B).map Rp.cv ++ tail))) (a b : Int) (n : Nat) (ha : a = P.length) (hb : b = P.length + 1) (hn : n = P.length + 1 + B.length) (hl : n ≤ 1000000000000) :
    CCalls CC 43 [.vec q 0 n, .val (.int .i64 a), .val (.int .i64 b)] σ fun r σ' => ∃ _ : Unit, r = .ret (.vec q 0 (P.length + B.length)) ∧ σ' = σ.set q (.vec 5 ((P ++ B).map Rp.cv ++ z5 :: tail)) ∧ True := by
  have hq : q < σ.length := (List.getElem?_eq_some_iff.1 hk).1
  have hrl : ((P ++ y :: B).map Rp.cv ++ tail).length = P.length + 1 + B.length + tail.length := by simp; omega
  obtain ⟨x, hR1⟩ := del_oneR P y B tail
  have hBm : ((((P ++ y :: B).map Rp.cv ++ tail).drop (P.length + 1)).take B.length) = B.map Rp.cv := by
    rw [show (P ++ y :: B).map Rp.cv ++ tail = (P.map Rp.cv ++ [y.cv]) ++ (B.map Rp.cv ++ tail) by simp, List.drop_left' (by simp), List.take_left' (by simp)]
  refine (ccalls_of Try.func43 rfl rfl ?_)
  refine cw_seq ?_
  refine cw_region ?_
  refine co_y rfl rfl (y_assign rfl rfl (by conv => lhs; whnf)) ?_
  refine co_nil ?_
  refine cw_seq ?_
  refine cw_region ?_
  refine co_y rfl rfl (y_move rfl trivial (by conv => lhs; whnf)) ?_
  refine co_y rfl rfl (y_move rfl trivial (by conv => lhs; whnf)) ?_
  refine co_y rfl rfl (y_move rfl trivial (by conv => lhs; whnf)) ?_
  refine co_y rfl rfl (y_move rfl trivial (by conv => lhs; whnf)) ?_
  refine co_y rfl rfl (y_len_vec rfl trivial rfl Try.runUnderlying44 rfl rfl) ?_
  refine co_run rfl (r_slice3_v rfl trivial trivial trivial trivial rfl Try.runUnderlying44 Try.sizeOf30 hk rfl rfl rfl (by omega) (by omega) (by omega) (by rw [hrl]; omega)) ?_
  refine co_nil ?_
  refine cw_seq ?_
  refine cw_seq ?_
  refine cw_region ?_
  refine co_y rfl rfl (y_move rfl trivial (by conv => lhs; whnf)) ?_
  refine co_y rfl rfl (y_move rfl trivial (by conv => lhs; whnf)) ?_
  refine co_y rfl rfl (y_int rfl trivial trivial rfl rfl rfl) ?_
  refine co_nil ?_
  refine cw_cond trivial rfl (fun h1 => ?_) (fun h1 => ?_)
  · exfalso
    simp at h1
    omega
  · skip
    refine cw_skip ?_
    refine cw_seq ?_
    refine cw_region ?_
    refine co_y rfl rfl (y_move rfl trivial (by conv => lhs; whnf)) ?_
    refine co_y rfl rfl (y_len_vec rfl trivial rfl Try.runUnderlying44 rfl rfl) ?_
    refine co_y rfl rfl (y_assign rfl trivial (by conv => lhs; whnf)) ?_
    refine co_nil ?_
    refine cw_seq ?_
    refine cw_draw 6 [0, 0, 3, 0, 0, 24, 63, 127] (by kernel_rfl) (by kernel_rfl) rfl ?_
    refine ch_y rfl (y_move rfl trivial (by conv => lhs; whnf)) ?_
    refine ch_y rfl (y_move rfl trivial (by conv => lhs; whnf)) ?_
    refine ch_y rfl (y_slice_v (h := P.length) rfl trivial rfl Try.runUnderlying44 Try.sizeOf30 hk rfl ⟨trivial, _, _, rfl, by omega, by omega⟩ (by first | omega | (simp; done) | (simp; omega)) (by rw [hrl]; omega)) ?_
    refine ch_y rfl (y_move rfl trivial (by conv => lhs; whnf)) ?_
    refine ch_y rfl (y_move rfl trivial (by conv => lhs; whnf)) ?_
    refine ch_y rfl (y_slice_v (l := (P.length + 1)) rfl trivial rfl Try.runUnderlying44 Try.sizeOf30 hk ⟨trivial, _, _, rfl, by omega, by omega⟩ rfl (by first | omega | (simp; done) | (simp; omega)) (by rw [hrl]; omega)) ?_
    refine ch_nil ?_
    refine co_d rfl rfl (d_append_vin' ((P ++ B).map Rp.cv ++ x :: tail) (P.length + B.length) rfl trivial trivial rfl (src_vec' (new := B.map Rp.cv) rfl hk (by rw [hrl]; omega) (by rw [show n - (P.length + 1) = B.length by omega, Nat.zero_add]; exact hBm)) Try.runUnderlying44 Try.sizeOf30 hk (by rw [hrl]; simp; omega) (by simpa using hR1) (by simp) rfl ?_)
    refine co_y rfl rfl (y_assign rfl trivial (by conv => lhs; whnf)) ?_
    refine co_nil ?_
    refine cw_seq ?_
    refine cw_region ?_
    refine co_y rfl rfl (y_move rfl trivial (by conv => lhs; whnf)) ?_
    refine co_y rfl rfl (y_move rfl trivial (by conv => lhs; whnf)) ?_
    refine co_y rfl rfl (y_len_vec rfl trivial rfl Try.runUnderlying44 rfl rfl) ?_
    refine co_y rfl rfl (y_move rfl trivial (by conv => lhs; whnf)) ?_
    refine co_y rfl rfl (y_slice_v (l := (P.length + B.length)) (h := n) rfl trivial rfl Try.runUnderlying44 Try.sizeOf30 (List.getElem?_set_self hq) ⟨trivial, _, _, rfl, by omega, by omega⟩ ⟨trivial, _, _, rfl, by omega, by omega⟩ (by first | omega | (simp; done) | (simp; omega)) (by simp; omega)) ?_
    refine co_d rfl rfl (d_clear' ((P ++ B).map Rp.cv ++ z5 :: tail) rfl trivial rfl Try.runUnderlying44 Try.zeroValue30 rfl (oneB_or rfl) rfl (List.getElem?_set_self hq) (by simp; omega) (clr_one _ _ _ _ _ _ (by simp) (by omega)) (List.set_set ..) ?_)
    refine co_nil ?_
    refine cw_seq ?_
    refine cw_region ?_
    refine co_y rfl rfl (y_move rfl trivial (by conv => lhs; whnf)) ?_
    refine co_y rfl rfl (y_assign rfl trivial (by conv => lhs; whnf)) ?_
    refine co_nil ?_
    refine cw_ret ?_
    exact ⟨_, res1 rfl trivial (by conv => lhs; whnf), ⟨(), by congr 2, rfl, trivial⟩⟩

def zeroB : Bx := ⟨[], false⟩
def postS (w r : Bool) (b : Bx) (x : Rp) : Bx × Int :=
  if w = false ∨ r = false then (zeroB, 1) else if x ∈ b.pend then (⟨b.pend, true⟩, 0) else if b.pend.length = 64 then (zeroB, 42) else (⟨b.pend ++ [x], true⟩, 0)
def ackS (w : Bool) (b : Bx) (x : Rp) : Bx × Bool := if w = true ∧ x ∈ b.pend then (⟨b.pend.erase x, true⟩, true) else (b, false)
def rackS (w : Bool) (b : Bx) (x : Rp) : Bx × Bool := if w = true ∧ x ∈ b.pend then (⟨b.pend.erase x, gnn (b.pend.erase x).length⟩, true) else (b, false)
theorem erase_at {x : Rp} {A B : List Rp} (h : x ∉ A) : (A ++ x :: B).erase x = A ++ B := by
  rw [List.erase_append_right _ h, List.erase_cons_head]
theorem cutABR {fl A B : List Rp} {b : Rp} (h : fl = A ++ b :: B) : ((fl.map Rp.cv).take A.length).drop 0 ++ ((fl.map Rp.cv).take (fl.map Rp.cv).length).drop (A.length + 1) = (A ++ B).map Rp.cv := by
  rw [List.take_length, List.drop_zero, h, show (A ++ b :: B).map Rp.cv = (A.map Rp.cv ++ [b.cv]) ++ B.map Rp.cv by simp, List.drop_left' (by simp), List.append_assoc, List.take_left' (by simp)]
  simp

set_option maxRecDepth 10000 in
theorem de_PostV (b : Bx) (x : Rp) (hne : b.pend ≠ []) (hnt : b.nn = true) (hl : b.pend.length ≤ maxLen) : CCalls CC 25 [.agg b.cells, .agg x.cells] [] fun r σ' => r = .ret (.tup [.agg (postS (pb (WhP b.pend)) (pb (RightP x)) b x).1.cells, (.val (.int .i64 ((postS (pb (WhP b.pend)) (pb (RightP x)) b x).2)))]) ∧ σ' = [] := by
  refine ccalls_val (ccalls_of Try.func25 rfl rfl ?_)
  refine cw_seq ?_
  refine cw_region ?_
  refine co_d rfl rfl (d_box rfl trivial (by conv => lhs; whnf) (.inr ⟨_, rfl⟩) ?_)
  refine co_d rfl rfl (d_box rfl trivial (by conv => lhs; whnf) (.inr ⟨_, rfl⟩) ?_)
  refine co_d rfl rfl (d_alloc rfl Try.zeroValue46 rfl (.inr ⟨_, rfl⟩) ?_)
  refine co_y rfl rfl (y_assign rfl rfl (by conv => lhs; whnf)) ?_
  refine co_nil ?_
  refine cw_seq ?_
  refine cw_region ?_
  refine co_y rfl rfl (y_field rfl trivial rfl Try.runUnderlying46 rfl Try.sizeOf44 (by decide)) ?_
  refine co_y rfl rfl (y_load1 rfl trivial rfl Try.isAgg44 rfl rfl) ?_
  refine co_y rfl rfl (y_load rfl trivial rfl Try.isAgg30 Try.sizeOf30 rfl (Nat.le_of_ble_eq_true rfl)) ?_
  refine co_y rfl rfl (y_callf rfl Try.call39 ⟨trivial, trivial, trivial⟩ (slices_Contains_s b.pend b.nn x hl _) rfl) ?_
  refine co_y rfl rfl (y_assign rfl trivial (by conv => lhs; whnf)) ?_
  refine co_nil ?_
  refine cw_seq ?_
  refine cw_block ?_
  refine cw_seq ?_
  refine cw_region ?_
  refine co_y rfl rfl (y_load rfl trivial rfl Try.isAgg46 Try.sizeOf46 rfl (Nat.le_of_ble_eq_true rfl)) ?_
  refine co_y rfl rfl (y_callf rfl Try.call21 ⟨trivial, trivial⟩ (de_WholeB_s b hl _) rfl) ?_
  refine co_y rfl rfl (y_not rfl trivial rfl) ?_
  refine co_y rfl rfl (y_move rfl trivial (by conv => lhs; whnf)) ?_
  refine co_g rfl rfl trivial rfl rfl (fun hg => y_load rfl trivial rfl Try.isAgg30 Try.sizeOf30 rfl (Nat.le_of_ble_eq_true rfl)) ?_
  refine co_g rfl rfl trivial rfl rfl (fun hg => y_callf rfl Try.call31 ⟨hg, trivial⟩ (de_right_s x _) rfl) ?_
  refine co_g rfl rfl trivial rfl rfl (fun hg => y_not rfl hg rfl) ?_
  refine co_y rfl rfl (y_pick_or rfl trivial rfl (fun hp => hp) (fun _ => rfl)) ?_
  refine co_y rfl rfl (y_assign rfl trivial (by conv => lhs; whnf)) ?_
  refine co_nil ?_
  refine cw_cond trivial rfl (fun h1 => ?_) (fun h1 => ?_)
  · have hc : pb (WhP b.pend) = false ∨ pb (RightP x) = false := by simpa using h1
    refine cw_seq ?_
    refine cw_region ?_
    refine co_y rfl rfl (y_build' #[(0, 1)] rfl trivial Try.runUnderlying46 Try.zeroValue46 rfl ⟨_, rfl⟩ (fun w => by kernel_rfl) rfl rfl) ?_
    refine co_d rfl rfl (d_store rfl trivial trivial rfl (by conv => lhs; whnf) Try.sizeOf46 (.inr ⟨_, rfl⟩) rfl rfl (Nat.le_of_ble_eq_true rfl) ?_)
    refine co_y rfl rfl (y_assign rfl rfl (by conv => lhs; whnf)) ?_
    refine co_nil ?_
    refine cw_ret ?_
    exact ⟨_, res_all (rs := [.cell 4 46, .tmp 5]) (cs := [_, _]) rfl ⟨⟨trivial, _, _, _, rfl, rfl, .inr ⟨_, Try.isAgg46, Try.sizeOf46, Nat.le_of_ble_eq_true rfl, rfl⟩⟩, ⟨trivial, (by conv => lhs; whnf)⟩, trivial⟩ (Nat.ne_of_beq_eq_false rfl), _, _, rfl, rfl, (cls_eq (by rw [postS, if_pos hc]; rfl) (by repeat' (first | exact .val _ | exact pure_lts _ _ | exact pure_rps _ _ | exact pure_ints _ _ | exact trivial | refine pure_agg ?_ | refine pure_tup ?_ | refine ⟨?_, ?_⟩)))⟩
  · have hc : ¬ (pb (WhP b.pend) = false ∨ pb (RightP x) = false) := by simpa using h1
    have hlen : b.pend.length ≤ 64 := ((pb_eq (P := WhP b.pend)).1 (by simp at hc; exact hc.1)).len
    have hlr : (b.pend.map Rp.cv).length = b.pend.length := by simp
    refine cw_seq ?_
    refine cw_region ?_
    refine co_y rfl rfl (y_move rfl trivial (by conv => lhs; whnf)) ?_
    refine co_y rfl rfl (y_not rfl trivial rfl) ?_
    refine co_y rfl rfl (y_move rfl trivial (by conv => lhs; whnf)) ?_
    refine co_g rfl rfl trivial rfl rfl (fun hg => y_field rfl trivial rfl Try.runUnderlying46 rfl Try.sizeOf44 (by decide)) ?_
    refine co_g rfl rfl trivial rfl rfl (fun hg => y_load1 rfl hg rfl Try.isAgg44 rfl rfl) ?_
    refine co_g rfl rfl trivial rfl rfl (fun hg => y_len rfl hg rfl Try.runUnderlying44 (by first | exact len_map _ _ | rfl) rfl) ?_
    refine co_g rfl rfl trivial rfl rfl (fun hg => y_int rfl hg rfl rfl rfl rfl) ?_
    refine co_y rfl rfl (y_pick_and rfl trivial rfl (fun hp => hp) (fun _ => rfl)) ?_
    refine co_y rfl rfl (y_assign rfl trivial (by conv => lhs; whnf)) ?_
    refine co_nil ?_
    refine cw_cond trivial rfl (fun h2 => ?_) (fun h2 => ?_)
    · have h2' : x ∉ b.pend ∧ b.pend.length = 64 := by simp at h2; exact ⟨h2.1, by omega⟩
      refine cw_seq ?_
      refine cw_region ?_
      refine co_y rfl rfl (y_build' #[(0, 1)] rfl trivial Try.runUnderlying46 Try.zeroValue46 rfl ⟨_, rfl⟩ (fun w => by kernel_rfl) rfl rfl) ?_
      refine co_d rfl rfl (d_store rfl trivial trivial rfl (by conv => lhs; whnf) Try.sizeOf46 (.inr ⟨_, rfl⟩) rfl rfl (Nat.le_of_ble_eq_true rfl) ?_)
      refine co_y rfl rfl (y_assign rfl rfl (by conv => lhs; whnf)) ?_
      refine co_nil ?_
      refine cw_ret ?_
      exact ⟨_, res_all (rs := [.cell 4 46, .tmp 5]) (cs := [_, _]) rfl ⟨⟨trivial, _, _, _, rfl, rfl, .inr ⟨_, Try.isAgg46, Try.sizeOf46, Nat.le_of_ble_eq_true rfl, rfl⟩⟩, ⟨trivial, (by conv => lhs; whnf)⟩, trivial⟩ (Nat.ne_of_beq_eq_false rfl), _, _, rfl, rfl, (cls_eq (by rw [postS, if_neg hc, if_neg h2'.1, if_pos h2'.2]; rfl) (by repeat' (first | exact .val _ | exact pure_lts _ _ | exact pure_rps _ _ | exact pure_ints _ _ | exact trivial | refine pure_agg ?_ | refine pure_tup ?_ | refine ⟨?_, ?_⟩)))⟩
    · have h2' : x ∉ b.pend → b.pend.length ≠ 64 := fun g => by simp [g] at h2; omega
      refine cw_skip ?_
      refine cw_seq ?_
      refine cw_region ?_
      refine co_y rfl rfl (y_field rfl trivial rfl Try.runUnderlying46 rfl Try.sizeOf44 (by decide)) ?_
      refine co_y rfl rfl (y_load1 rfl trivial rfl Try.isAgg44 rfl rfl) ?_
      refine co_d rfl rfl (d_callv rfl Try.call41 ⟨trivial, trivial⟩ ((by rw [hnt]; exact clone_vec_R b.pend hne (by omega) _)) rfl ?_)
      intro _ _
      refine co_y rfl rfl (y_assign rfl trivial (by conv => lhs; whnf)) ?_
      refine co_nil ?_
      refine cw_seq ?_
      refine cw_seq ?_
      refine cw_region ?_
      refine co_y rfl rfl (y_move rfl trivial (by conv => lhs; whnf)) ?_
      refine co_y rfl rfl (y_not rfl trivial rfl) ?_
      refine co_nil ?_
      refine cw_cond trivial rfl (fun h3 => ?_) (fun h3 => ?_)
      · have hin : x ∉ b.pend := by simpa using h3
        refine cw_region ?_
        refine co_y rfl rfl (y_move rfl trivial (by conv => lhs; whnf)) ?_
        refine co_y rfl rfl (y_load rfl trivial rfl Try.isAgg30 Try.sizeOf30 rfl (Nat.le_of_ble_eq_true rfl)) ?_
        refine co_y rfl rfl (y_lit [Rp.cv x] rfl ⟨trivial, trivial⟩ Try.runUnderlying44 Try.sizeOf30 Try.zeroValue30 rfl rfl rfl rfl rfl rfl rfl rfl rfl) ?_
        refine co_d rfl rfl (d_append_v' ((b.pend ++ [x]).map Rp.cv) (b.pend.length + 1) rfl trivial trivial rfl (src_list rfl (by first | exact rows_len (by intro a; rfl) _ | (intro r hr; simp at hr; done) | (intro r hr; simp at hr; subst hr; rfl) | (intro r hr; exact rows_len (by intro a; rfl) _ r (List.mem_of_mem_take (List.mem_of_mem_drop hr))) | (intro r hr; simp at hr; obtain ⟨a, _, rfl⟩ := hr; rfl))) Try.runUnderlying44 Try.sizeOf30 Try.typeInfo30 Try.zeroValue30 rfl rfl (by simp) (by simp) (by have hb : Try.t30.bytes = 40 := rfl; rw [hb]; first | omega | (simp; done) | (simp; omega)) (by first | omega | (simp; omega) | simp) (by simp) (by simp) ?_)
        refine co_y rfl rfl (y_assign rfl trivial (by conv => lhs; whnf)) ?_
        refine co_nil ?_
        refine cw_seq ?_
        refine cw_region ?_
        refine co_y rfl rfl (y_move rfl trivial (by conv => lhs; whnf)) ?_
        refine co_y rfl rfl (y_build' #[(0, 1)] rfl ⟨trivial, trivial⟩ Try.runUnderlying46 Try.zeroValue46 rfl ⟨_, rfl⟩ (fun w => by kernel_rfl) rfl rfl) ?_
        refine co_d rfl rfl (d_store rfl trivial trivial rfl (by conv => lhs; whnf) Try.sizeOf46 (.inr ⟨_, rfl⟩) rfl rfl (Nat.le_of_ble_eq_true rfl) ?_)
        refine co_y rfl rfl (y_assign rfl rfl (by conv => lhs; whnf)) ?_
        refine co_nil ?_
        refine cw_ret ?_
        exact ⟨_, res_all (rs := [.cell 4 46, .tmp 5]) (cs := [_, _]) rfl ⟨⟨trivial, _, _, _, rfl, rfl, .inr ⟨_, Try.isAgg46, Try.sizeOf46, Nat.le_of_ble_eq_true rfl, rfl⟩⟩, ⟨trivial, (by conv => lhs; whnf)⟩, trivial⟩ (Nat.ne_of_beq_eq_false rfl), _, _, rfl, rfl, (by rw [postS, if_neg hc, if_neg hin, if_neg (h2' hin)]; exact .tups ⟨.aggs ⟨.vecs (Nat.zero_le _) rfl (by simp) (by rw [List.drop_zero]; exact List.take_of_length_le (by simp)) (fun r hr c hc => (rows_pure (f := Rp.cv) (fun _ => Pures.all ⟨.val _, .val _, .val _, .val _, .val _, trivial⟩) _) r hr c hc), trivial⟩, .old (.val _), trivial⟩)⟩
      · have hin : x ∈ b.pend := by simpa using h3
        refine cw_skip ?_
        refine cw_seq ?_
        refine cw_region ?_
        refine co_y rfl rfl (y_move rfl trivial (by conv => lhs; whnf)) ?_
        refine co_y rfl rfl (y_build' #[(0, 1)] rfl ⟨trivial, trivial⟩ Try.runUnderlying46 Try.zeroValue46 rfl ⟨_, rfl⟩ (fun w => by kernel_rfl) rfl rfl) ?_
        refine co_d rfl rfl (d_store rfl trivial trivial rfl (by conv => lhs; whnf) Try.sizeOf46 (.inr ⟨_, rfl⟩) rfl rfl (Nat.le_of_ble_eq_true rfl) ?_)
        refine co_y rfl rfl (y_assign rfl rfl (by conv => lhs; whnf)) ?_
        refine co_nil ?_
        refine cw_ret ?_
        exact ⟨_, res_all (rs := [.cell 4 46, .tmp 5]) (cs := [_, _]) rfl ⟨⟨trivial, _, _, _, rfl, rfl, .inr ⟨_, Try.isAgg46, Try.sizeOf46, Nat.le_of_ble_eq_true rfl, rfl⟩⟩, ⟨trivial, (by conv => lhs; whnf)⟩, trivial⟩ (Nat.ne_of_beq_eq_false rfl), _, _, rfl, rfl, (by rw [postS, if_neg hc, if_pos hin]; exact .tups ⟨.aggs ⟨.vecs (Nat.zero_le _) rfl (by simp) (by rw [List.drop_zero]; exact List.take_of_length_le (by simp)) (fun r hr c hc => (rows_pure (f := Rp.cv) (fun _ => Pures.all ⟨.val _, .val _, .val _, .val _, .val _, trivial⟩) _) r hr c hc), trivial⟩, .old (.val _), trivial⟩)⟩

theorem de_PostV_s (b : Bx) (x : Rp) (hne : b.pend ≠ []) (hnt : b.nn = true) (hl : b.pend.length ≤ maxLen) (σ : List CObj) : CCalls CC 25 [.agg b.cells, .agg x.cells] σ fun r σ' => r = .ret (.tup [.agg (postS (pb (WhP b.pend)) (pb (RightP x)) b x).1.cells, (.val (.int .i64 ((postS (pb (WhP b.pend)) (pb (RightP x)) b x).2)))]) ∧ σ' = σ :=
  CCalls.anyw hCC (by repeat' (first | exact .val _ | exact pure_lts _ _ | exact pure_rps _ _ | exact pure_ints _ _ | exact trivial | refine pure_agg ?_ | refine pure_tup ?_ | refine ⟨?_, ?_⟩)) (by repeat' (first | exact .val _ | exact pure_lts _ _ | exact pure_rps _ _ | exact pure_ints _ _ | exact trivial | refine pure_agg ?_ | refine pure_tup ?_ | refine ⟨?_, ?_⟩)) (de_PostV b x hne hnt hl) σ

set_option maxRecDepth 10000 in
theorem de_PostN (x : Rp) : CCalls CC 25 [.agg (Bx.cells ⟨[], false⟩), .agg x.cells] [] fun r σ' => r = .ret (.tup [.agg (postS (pb (WhP [])) (pb (RightP x)) ⟨[], false⟩ x).1.cells, (.val (.int .i64 ((postS (pb (WhP [])) (pb (RightP x)) ⟨[], false⟩ x).2)))]) ∧ σ' = [] := by
  refine ccalls_val (ccalls_of Try.func25 rfl rfl ?_)
  refine cw_seq ?_
  refine cw_region ?_
  refine co_d rfl rfl (d_box rfl trivial (by conv => lhs; whnf) (.inr ⟨_, rfl⟩) ?_)
  refine co_d rfl rfl (d_box rfl trivial (by conv => lhs; whnf) (.inr ⟨_, rfl⟩) ?_)
  refine co_d rfl rfl (d_alloc rfl Try.zeroValue46 rfl (.inr ⟨_, rfl⟩) ?_)
  refine co_y rfl rfl (y_assign rfl rfl (by conv => lhs; whnf)) ?_
  refine co_nil ?_
  refine cw_seq ?_
  refine cw_region ?_
  refine co_y rfl rfl (y_field rfl trivial rfl Try.runUnderlying46 rfl Try.sizeOf44 (by decide)) ?_
  refine co_y rfl rfl (y_load1 rfl trivial rfl Try.isAgg44 rfl rfl) ?_
  refine co_y rfl rfl (y_load rfl trivial rfl Try.isAgg30 Try.sizeOf30 rfl (Nat.le_of_ble_eq_true rfl)) ?_
  refine co_y rfl rfl (y_callf rfl Try.call39 ⟨trivial, trivial, trivial⟩ (slices_Contains_s [] false x (Nat.zero_le _) _) rfl) ?_
  refine co_y rfl rfl (y_assign rfl trivial (by conv => lhs; whnf)) ?_
  refine co_nil ?_
  refine cw_seq ?_
  refine cw_block ?_
  refine cw_seq ?_
  refine cw_region ?_
  refine co_y rfl rfl (y_load rfl trivial rfl Try.isAgg46 Try.sizeOf46 rfl (Nat.le_of_ble_eq_true rfl)) ?_
  refine co_y rfl rfl (y_callf rfl Try.call21 ⟨trivial, trivial⟩ (de_WholeB_s ⟨[], false⟩ (Nat.zero_le _) _) rfl) ?_
  refine co_y rfl rfl (y_not rfl trivial rfl) ?_
  refine co_y rfl rfl (y_move rfl trivial (by conv => lhs; whnf)) ?_
  refine co_g rfl rfl trivial rfl rfl (fun hg => y_load rfl trivial rfl Try.isAgg30 Try.sizeOf30 rfl (Nat.le_of_ble_eq_true rfl)) ?_
  refine co_g rfl rfl trivial rfl rfl (fun hg => y_callf rfl Try.call31 ⟨hg, trivial⟩ (de_right_s x _) rfl) ?_
  refine co_g rfl rfl trivial rfl rfl (fun hg => y_not rfl hg rfl) ?_
  refine co_y rfl rfl (y_pick_or rfl trivial rfl (fun hp => hp) (fun _ => rfl)) ?_
  refine co_y rfl rfl (y_assign rfl trivial (by conv => lhs; whnf)) ?_
  refine co_nil ?_
  refine cw_cond trivial rfl (fun h1 => ?_) (fun h1 => ?_)
  · have hc : pb (WhP []) = false ∨ pb (RightP x) = false := by simpa using h1
    refine cw_seq ?_
    refine cw_region ?_
    refine co_y rfl rfl (y_build' #[(0, 1)] rfl trivial Try.runUnderlying46 Try.zeroValue46 rfl ⟨_, rfl⟩ (fun w => by kernel_rfl) rfl rfl) ?_
    refine co_d rfl rfl (d_store rfl trivial trivial rfl (by conv => lhs; whnf) Try.sizeOf46 (.inr ⟨_, rfl⟩) rfl rfl (Nat.le_of_ble_eq_true rfl) ?_)
    refine co_y rfl rfl (y_assign rfl rfl (by conv => lhs; whnf)) ?_
    refine co_nil ?_
    refine cw_ret ?_
    exact ⟨_, res_all (rs := [.cell 4 46, .tmp 5]) (cs := [_, _]) rfl ⟨⟨trivial, _, _, _, rfl, rfl, .inr ⟨_, Try.isAgg46, Try.sizeOf46, Nat.le_of_ble_eq_true rfl, rfl⟩⟩, ⟨trivial, (by conv => lhs; whnf)⟩, trivial⟩ (Nat.ne_of_beq_eq_false rfl), _, _, rfl, rfl, (cls_eq (by rw [postS, if_pos hc]; rfl) (by repeat' (first | exact .val _ | exact pure_lts _ _ | exact pure_rps _ _ | exact pure_ints _ _ | exact trivial | refine pure_agg ?_ | refine pure_tup ?_ | refine ⟨?_, ?_⟩)))⟩
  · have hc : ¬ (pb (WhP []) = false ∨ pb (RightP x) = false) := by simpa using h1
    refine cw_seq ?_
    refine cw_region ?_
    refine co_y rfl rfl (y_move rfl trivial (by conv => lhs; whnf)) ?_
    refine co_y rfl rfl (y_not rfl trivial rfl) ?_
    refine co_y rfl rfl (y_move rfl trivial (by conv => lhs; whnf)) ?_
    refine co_g rfl rfl trivial rfl rfl (fun hg => y_field rfl trivial rfl Try.runUnderlying46 rfl Try.sizeOf44 (by decide)) ?_
    refine co_g rfl rfl trivial rfl rfl (fun hg => y_load1 rfl hg rfl Try.isAgg44 rfl rfl) ?_
    refine co_g rfl rfl trivial rfl rfl (fun hg => y_len rfl hg rfl Try.runUnderlying44 (by first | exact len_map _ _ | rfl) rfl) ?_
    refine co_g rfl rfl trivial rfl rfl (fun hg => y_int rfl hg rfl rfl rfl rfl) ?_
    refine co_y rfl rfl (y_pick_and rfl trivial rfl (fun hp => hp) (fun _ => rfl)) ?_
    refine co_y rfl rfl (y_assign rfl trivial (by conv => lhs; whnf)) ?_
    refine co_nil ?_
    refine cw_cond trivial rfl (fun h2 => ?_) (fun h2 => ?_)
    · exfalso
      simp at h2
    · skip
      refine cw_skip ?_
      refine cw_seq ?_
      refine cw_region ?_
      refine co_y rfl rfl (y_field rfl trivial rfl Try.runUnderlying46 rfl Try.sizeOf44 (by decide)) ?_
      refine co_y rfl rfl (y_load1 rfl trivial rfl Try.isAgg44 rfl rfl) ?_
      refine co_y rfl rfl (y_callf rfl Try.call41 ⟨trivial, trivial⟩ (clone_nil_R_s _) rfl) ?_
      refine co_y rfl rfl (y_assign rfl trivial (by conv => lhs; whnf)) ?_
      refine co_nil ?_
      refine cw_seq ?_
      refine cw_seq ?_
      refine cw_region ?_
      refine co_y rfl rfl (y_move rfl trivial (by conv => lhs; whnf)) ?_
      refine co_y rfl rfl (y_not rfl trivial rfl) ?_
      refine co_nil ?_
      refine cw_cond trivial rfl (fun h3 => ?_) (fun h3 => ?_)
      · skip
        refine cw_region ?_
        refine co_y rfl rfl (y_move rfl trivial (by conv => lhs; whnf)) ?_
        refine co_y rfl rfl (y_load rfl trivial rfl Try.isAgg30 Try.sizeOf30 rfl (Nat.le_of_ble_eq_true rfl)) ?_
        refine co_y rfl rfl (y_lit [Rp.cv x] rfl ⟨trivial, trivial⟩ Try.runUnderlying44 Try.sizeOf30 Try.zeroValue30 rfl rfl rfl rfl rfl rfl rfl rfl rfl) ?_
        refine co_d rfl rfl (d_app0v 1 rfl trivial trivial rfl (src_list rfl (by first | exact rows_len (by intro a; rfl) _ | (intro r hr; simp at hr; done) | (intro r hr; simp at hr; subst hr; rfl) | (intro r hr; exact rows_len (by intro a; rfl) _ r (List.mem_of_mem_take (List.mem_of_mem_drop hr))) | (intro r hr; simp at hr; obtain ⟨a, _, rfl⟩ := hr; rfl))) Try.runUnderlying44 Try.sizeOf30 Try.typeInfo30 Try.zeroValue30 rfl (by simp) (by have hb : Try.t30.bytes = 40 := rfl; rw [hb]; first | omega | (simp; done) | (simp; omega)) (by first | omega | (simp; omega) | simp) (by simp) ?_)
        refine co_y rfl rfl (y_assign rfl trivial (by conv => lhs; whnf)) ?_
        refine co_nil ?_
        refine cw_seq ?_
        refine cw_region ?_
        refine co_y rfl rfl (y_move rfl trivial (by conv => lhs; whnf)) ?_
        refine co_y rfl rfl (y_build' #[(0, 1)] rfl ⟨trivial, trivial⟩ Try.runUnderlying46 Try.zeroValue46 rfl ⟨_, rfl⟩ (fun w => by kernel_rfl) rfl rfl) ?_
        refine co_d rfl rfl (d_store rfl trivial trivial rfl (by conv => lhs; whnf) Try.sizeOf46 (.inr ⟨_, rfl⟩) rfl rfl (Nat.le_of_ble_eq_true rfl) ?_)
        refine co_y rfl rfl (y_assign rfl rfl (by conv => lhs; whnf)) ?_
        refine co_nil ?_
        refine cw_ret ?_
        exact ⟨_, res_all (rs := [.cell 4 46, .tmp 5]) (cs := [_, _]) rfl ⟨⟨trivial, _, _, _, rfl, rfl, .inr ⟨_, Try.isAgg46, Try.sizeOf46, Nat.le_of_ble_eq_true rfl, rfl⟩⟩, ⟨trivial, (by conv => lhs; whnf)⟩, trivial⟩ (Nat.ne_of_beq_eq_false rfl), _, _, rfl, rfl, (by rw [postS, if_neg hc, if_neg (by simp), if_neg (by simp)]; exact .tups ⟨.aggs ⟨.vecs (Nat.zero_le _) rfl (by simp) (by rw [List.drop_zero]; exact List.take_of_length_le (by simp)) (fun r hr c hc => (rows_pure (f := Rp.cv) (fun _ => Pures.all ⟨.val _, .val _, .val _, .val _, .val _, trivial⟩) _) r hr c hc), trivial⟩, .old (.val _), trivial⟩)⟩
      · exfalso
        simp at h3

theorem de_PostN_s (x : Rp) (σ : List CObj) : CCalls CC 25 [.agg (Bx.cells ⟨[], false⟩), .agg x.cells] σ fun r σ' => r = .ret (.tup [.agg (postS (pb (WhP [])) (pb (RightP x)) ⟨[], false⟩ x).1.cells, (.val (.int .i64 ((postS (pb (WhP [])) (pb (RightP x)) ⟨[], false⟩ x).2)))]) ∧ σ' = σ :=
  CCalls.anyw hCC (by repeat' (first | exact .val _ | exact pure_lts _ _ | exact pure_rps _ _ | exact pure_ints _ _ | exact trivial | refine pure_agg ?_ | refine pure_tup ?_ | refine ⟨?_, ?_⟩)) (by repeat' (first | exact .val _ | exact pure_lts _ _ | exact pure_rps _ _ | exact pure_ints _ _ | exact trivial | refine pure_agg ?_ | refine pure_tup ?_ | refine ⟨?_, ?_⟩)) (de_PostN x) σ

set_option maxRecDepth 10000 in
theorem de_Post0 (x : Rp) : CCalls CC 25 [.agg (Bx.cells ⟨[], true⟩), .agg x.cells] [] fun r σ' => r = .ret (.tup [.agg (postS (pb (WhP [])) (pb (RightP x)) ⟨[], true⟩ x).1.cells, (.val (.int .i64 ((postS (pb (WhP [])) (pb (RightP x)) ⟨[], true⟩ x).2)))]) ∧ σ' = [] := by
  refine ccalls_val (ccalls_of Try.func25 rfl rfl ?_)
  refine cw_seq ?_
  refine cw_region ?_
  refine co_d rfl rfl (d_box rfl trivial (by conv => lhs; whnf) (.inr ⟨_, rfl⟩) ?_)
  refine co_d rfl rfl (d_box rfl trivial (by conv => lhs; whnf) (.inr ⟨_, rfl⟩) ?_)
  refine co_d rfl rfl (d_alloc rfl Try.zeroValue46 rfl (.inr ⟨_, rfl⟩) ?_)
  refine co_y rfl rfl (y_assign rfl rfl (by conv => lhs; whnf)) ?_
  refine co_nil ?_
  refine cw_seq ?_
  refine cw_region ?_
  refine co_y rfl rfl (y_field rfl trivial rfl Try.runUnderlying46 rfl Try.sizeOf44 (by decide)) ?_
  refine co_y rfl rfl (y_load1 rfl trivial rfl Try.isAgg44 rfl rfl) ?_
  refine co_y rfl rfl (y_load rfl trivial rfl Try.isAgg30 Try.sizeOf30 rfl (Nat.le_of_ble_eq_true rfl)) ?_
  refine co_y rfl rfl (y_callf rfl Try.call39 ⟨trivial, trivial, trivial⟩ (slices_Contains_s [] true x (Nat.zero_le _) _) rfl) ?_
  refine co_y rfl rfl (y_assign rfl trivial (by conv => lhs; whnf)) ?_
  refine co_nil ?_
  refine cw_seq ?_
  refine cw_block ?_
  refine cw_seq ?_
  refine cw_region ?_
  refine co_y rfl rfl (y_load rfl trivial rfl Try.isAgg46 Try.sizeOf46 rfl (Nat.le_of_ble_eq_true rfl)) ?_
  refine co_y rfl rfl (y_callf rfl Try.call21 ⟨trivial, trivial⟩ (de_WholeB_s ⟨[], true⟩ (Nat.zero_le _) _) rfl) ?_
  refine co_y rfl rfl (y_not rfl trivial rfl) ?_
  refine co_y rfl rfl (y_move rfl trivial (by conv => lhs; whnf)) ?_
  refine co_g rfl rfl trivial rfl rfl (fun hg => y_load rfl trivial rfl Try.isAgg30 Try.sizeOf30 rfl (Nat.le_of_ble_eq_true rfl)) ?_
  refine co_g rfl rfl trivial rfl rfl (fun hg => y_callf rfl Try.call31 ⟨hg, trivial⟩ (de_right_s x _) rfl) ?_
  refine co_g rfl rfl trivial rfl rfl (fun hg => y_not rfl hg rfl) ?_
  refine co_y rfl rfl (y_pick_or rfl trivial rfl (fun hp => hp) (fun _ => rfl)) ?_
  refine co_y rfl rfl (y_assign rfl trivial (by conv => lhs; whnf)) ?_
  refine co_nil ?_
  refine cw_cond trivial rfl (fun h1 => ?_) (fun h1 => ?_)
  · have hc : pb (WhP []) = false ∨ pb (RightP x) = false := by simpa using h1
    refine cw_seq ?_
    refine cw_region ?_
    refine co_y rfl rfl (y_build' #[(0, 1)] rfl trivial Try.runUnderlying46 Try.zeroValue46 rfl ⟨_, rfl⟩ (fun w => by kernel_rfl) rfl rfl) ?_
    refine co_d rfl rfl (d_store rfl trivial trivial rfl (by conv => lhs; whnf) Try.sizeOf46 (.inr ⟨_, rfl⟩) rfl rfl (Nat.le_of_ble_eq_true rfl) ?_)
    refine co_y rfl rfl (y_assign rfl rfl (by conv => lhs; whnf)) ?_
    refine co_nil ?_
    refine cw_ret ?_
    exact ⟨_, res_all (rs := [.cell 4 46, .tmp 5]) (cs := [_, _]) rfl ⟨⟨trivial, _, _, _, rfl, rfl, .inr ⟨_, Try.isAgg46, Try.sizeOf46, Nat.le_of_ble_eq_true rfl, rfl⟩⟩, ⟨trivial, (by conv => lhs; whnf)⟩, trivial⟩ (Nat.ne_of_beq_eq_false rfl), _, _, rfl, rfl, (cls_eq (by rw [postS, if_pos hc]; rfl) (by repeat' (first | exact .val _ | exact pure_lts _ _ | exact pure_rps _ _ | exact pure_ints _ _ | exact trivial | refine pure_agg ?_ | refine pure_tup ?_ | refine ⟨?_, ?_⟩)))⟩
  · have hc : ¬ (pb (WhP []) = false ∨ pb (RightP x) = false) := by simpa using h1
    refine cw_seq ?_
    refine cw_region ?_
    refine co_y rfl rfl (y_move rfl trivial (by conv => lhs; whnf)) ?_
    refine co_y rfl rfl (y_not rfl trivial rfl) ?_
    refine co_y rfl rfl (y_move rfl trivial (by conv => lhs; whnf)) ?_
    refine co_g rfl rfl trivial rfl rfl (fun hg => y_field rfl trivial rfl Try.runUnderlying46 rfl Try.sizeOf44 (by decide)) ?_
    refine co_g rfl rfl trivial rfl rfl (fun hg => y_load1 rfl hg rfl Try.isAgg44 rfl rfl) ?_
    refine co_g rfl rfl trivial rfl rfl (fun hg => y_len rfl hg rfl Try.runUnderlying44 (by first | exact len_map _ _ | rfl) rfl) ?_
    refine co_g rfl rfl trivial rfl rfl (fun hg => y_int rfl hg rfl rfl rfl rfl) ?_
    refine co_y rfl rfl (y_pick_and rfl trivial rfl (fun hp => hp) (fun _ => rfl)) ?_
    refine co_y rfl rfl (y_assign rfl trivial (by conv => lhs; whnf)) ?_
    refine co_nil ?_
    refine cw_cond trivial rfl (fun h2 => ?_) (fun h2 => ?_)
    · exfalso
      simp at h2
    · skip
      refine cw_skip ?_
      refine cw_seq ?_
      refine cw_region ?_
      refine co_y rfl rfl (y_field rfl trivial rfl Try.runUnderlying46 rfl Try.sizeOf44 (by decide)) ?_
      refine co_y rfl rfl (y_load1 rfl trivial rfl Try.isAgg44 rfl rfl) ?_
      refine co_d rfl rfl (d_callv rfl Try.call41 ⟨trivial, trivial⟩ (clone_lit_R _) rfl ?_)
      intro _ _
      refine co_y rfl rfl (y_assign rfl trivial (by conv => lhs; whnf)) ?_
      refine co_nil ?_
      refine cw_seq ?_
      refine cw_seq ?_
      refine cw_region ?_
      refine co_y rfl rfl (y_move rfl trivial (by conv => lhs; whnf)) ?_
      refine co_y rfl rfl (y_not rfl trivial rfl) ?_
      refine co_nil ?_
      refine cw_cond trivial rfl (fun h3 => ?_) (fun h3 => ?_)
      · skip
        refine cw_region ?_
        refine co_y rfl rfl (y_move rfl trivial (by conv => lhs; whnf)) ?_
        refine co_y rfl rfl (y_load rfl trivial rfl Try.isAgg30 Try.sizeOf30 rfl (Nat.le_of_ble_eq_true rfl)) ?_
        refine co_y rfl rfl (y_lit [Rp.cv x] rfl ⟨trivial, trivial⟩ Try.runUnderlying44 Try.sizeOf30 Try.zeroValue30 rfl rfl rfl rfl rfl rfl rfl rfl rfl) ?_
        refine co_d rfl rfl (d_appcv 1 rfl trivial trivial rfl (src_list rfl (by first | exact rows_len (by intro a; rfl) _ | (intro r hr; simp at hr; done) | (intro r hr; simp at hr; subst hr; rfl) | (intro r hr; exact rows_len (by intro a; rfl) _ r (List.mem_of_mem_take (List.mem_of_mem_drop hr))) | (intro r hr; simp at hr; obtain ⟨a, _, rfl⟩ := hr; rfl))) Try.runUnderlying44 Try.sizeOf30 Try.typeInfo30 Try.zeroValue30 rfl (by simp) (by have hb : Try.t30.bytes = 40 := rfl; rw [hb]; first | omega | (simp; done) | (simp; omega)) (by first | omega | (simp; omega) | simp) (by simp) ?_)
        refine co_y rfl rfl (y_assign rfl trivial (by conv => lhs; whnf)) ?_
        refine co_nil ?_
        refine cw_seq ?_
        refine cw_region ?_
        refine co_y rfl rfl (y_move rfl trivial (by conv => lhs; whnf)) ?_
        refine co_y rfl rfl (y_build' #[(0, 1)] rfl ⟨trivial, trivial⟩ Try.runUnderlying46 Try.zeroValue46 rfl ⟨_, rfl⟩ (fun w => by kernel_rfl) rfl rfl) ?_
        refine co_d rfl rfl (d_store rfl trivial trivial rfl (by conv => lhs; whnf) Try.sizeOf46 (.inr ⟨_, rfl⟩) rfl rfl (Nat.le_of_ble_eq_true rfl) ?_)
        refine co_y rfl rfl (y_assign rfl rfl (by conv => lhs; whnf)) ?_
        refine co_nil ?_
        refine cw_ret ?_
        exact ⟨_, res_all (rs := [.cell 4 46, .tmp 5]) (cs := [_, _]) rfl ⟨⟨trivial, _, _, _, rfl, rfl, .inr ⟨_, Try.isAgg46, Try.sizeOf46, Nat.le_of_ble_eq_true rfl, rfl⟩⟩, ⟨trivial, (by conv => lhs; whnf)⟩, trivial⟩ (Nat.ne_of_beq_eq_false rfl), _, _, rfl, rfl, (by rw [postS, if_neg hc, if_neg (by simp), if_neg (by simp)]; exact .tups ⟨.aggs ⟨.vecs (Nat.zero_le _) rfl (by simp) (by rw [List.drop_zero]; exact List.take_of_length_le (by simp)) (fun r hr c hc => (rows_pure (f := Rp.cv) (fun _ => Pures.all ⟨.val _, .val _, .val _, .val _, .val _, trivial⟩) _) r hr c hc), trivial⟩, .old (.val _), trivial⟩)⟩
      · exfalso
        simp at h3

theorem de_Post0_s (x : Rp) (σ : List CObj) : CCalls CC 25 [.agg (Bx.cells ⟨[], true⟩), .agg x.cells] σ fun r σ' => r = .ret (.tup [.agg (postS (pb (WhP [])) (pb (RightP x)) ⟨[], true⟩ x).1.cells, (.val (.int .i64 ((postS (pb (WhP [])) (pb (RightP x)) ⟨[], true⟩ x).2)))]) ∧ σ' = σ :=
  CCalls.anyw hCC (by repeat' (first | exact .val _ | exact pure_lts _ _ | exact pure_rps _ _ | exact pure_ints _ _ | exact trivial | refine pure_agg ?_ | refine pure_tup ?_ | refine ⟨?_, ?_⟩)) (by repeat' (first | exact .val _ | exact pure_lts _ _ | exact pure_rps _ _ | exact pure_ints _ _ | exact trivial | refine pure_agg ?_ | refine pure_tup ?_ | refine ⟨?_, ?_⟩)) (de_Post0 x) σ

theorem de_Post_s (b : Bx) (x : Rp) (hnn : b.nn = false → b.pend = []) (hl : b.pend.length ≤ maxLen) (σ : List CObj) : CCalls CC 25 [.agg b.cells, .agg x.cells] σ fun r σ' => r = .ret (.tup [.agg (postS (pb (WhP b.pend)) (pb (RightP x)) b x).1.cells, (.val (.int .i64 (postS (pb (WhP b.pend)) (pb (RightP x)) b x).2))]) ∧ σ' = σ := by
  obtain ⟨pend, nn⟩ := b
  by_cases h : pend = []
  · subst h
    cases nn with
    | false => exact de_PostN_s x σ
    | true => exact de_Post0_s x σ
  · cases nn with
    | false => exact absurd (hnn rfl) h
    | true => exact de_PostV_s ⟨pend, true⟩ x h rfl hl σ

set_option maxRecDepth 10000 in
theorem rd_Post (b : Bx) (x : Rp) (hnn : b.nn = false → b.pend = []) (hl : b.pend.length ≤ maxLen) : CCalls CC 26 [.agg b.cells, .agg x.cells] [] fun r σ' => r = .ret (.tup [.agg (postS (pb (WhP b.pend)) (pb (RightP x)) b x).1.cells, (.val (.int .i64 ((postS (pb (WhP b.pend)) (pb (RightP x)) b x).2)))]) ∧ σ' = [] := by
  refine ccalls_val (ccalls_of Try.func26 rfl rfl ?_)
  refine cw_seq ?_
  refine cw_region ?_
  refine co_d rfl rfl (d_box rfl trivial (by conv => lhs; whnf) (.inr ⟨_, rfl⟩) ?_)
  refine co_d rfl rfl (d_box rfl trivial (by conv => lhs; whnf) (.inr ⟨_, rfl⟩) ?_)
  refine co_d rfl rfl (d_alloc rfl Try.zeroValue46 rfl (.inr ⟨_, rfl⟩) ?_)
  refine co_y rfl rfl (y_assign rfl rfl (by conv => lhs; whnf)) ?_
  refine co_nil ?_
  refine cw_seq ?_
  refine cw_block ?_
  refine cw_seq ?_
  refine cw_region ?_
  refine co_y rfl rfl (y_load rfl trivial rfl Try.isAgg46 Try.sizeOf46 rfl (Nat.le_of_ble_eq_true rfl)) ?_
  refine co_y rfl rfl (y_callf rfl Try.call22 ⟨trivial, trivial⟩ (rd_WholeB_s b hl _) rfl) ?_
  refine co_y rfl rfl (y_not rfl trivial rfl) ?_
  refine co_y rfl rfl (y_move rfl trivial (by conv => lhs; whnf)) ?_
  refine co_g rfl rfl trivial rfl rfl (fun hg => y_load rfl trivial rfl Try.isAgg30 Try.sizeOf30 rfl (Nat.le_of_ble_eq_true rfl)) ?_
  refine co_g rfl rfl trivial rfl rfl (fun hg => y_callf rfl Try.call38 ⟨hg, trivial⟩ (rd_Right_s x _) rfl) ?_
  refine co_g rfl rfl trivial rfl rfl (fun hg => y_not rfl hg rfl) ?_
  refine co_y rfl rfl (y_pick_or rfl trivial rfl (fun hp => hp) (fun _ => rfl)) ?_
  refine co_y rfl rfl (y_assign rfl trivial (by conv => lhs; whnf)) ?_
  refine co_nil ?_
  refine cw_cond trivial rfl (fun h1 => ?_) (fun h1 => ?_)
  · have hc : pb (WhP b.pend) = false ∨ pb (RightP x) = false := by simpa using h1
    refine cw_seq ?_
    refine cw_region ?_
    refine co_y rfl rfl (y_build' #[(0, 1)] rfl trivial Try.runUnderlying46 Try.zeroValue46 rfl ⟨_, rfl⟩ (fun w => by kernel_rfl) rfl rfl) ?_
    refine co_d rfl rfl (d_store rfl trivial trivial rfl (by conv => lhs; whnf) Try.sizeOf46 (.inr ⟨_, rfl⟩) rfl rfl (Nat.le_of_ble_eq_true rfl) ?_)
    refine co_y rfl rfl (y_assign rfl rfl (by conv => lhs; whnf)) ?_
    refine co_nil ?_
    refine cw_ret ?_
    exact ⟨_, res_all (rs := [.cell 4 46, .tmp 5]) (cs := [_, _]) rfl ⟨⟨trivial, _, _, _, rfl, rfl, .inr ⟨_, Try.isAgg46, Try.sizeOf46, Nat.le_of_ble_eq_true rfl, rfl⟩⟩, ⟨trivial, (by conv => lhs; whnf)⟩, trivial⟩ (Nat.ne_of_beq_eq_false rfl), _, _, rfl, rfl, (cls_eq (by rw [postS, if_pos hc]; rfl) (by repeat' (first | exact .val _ | exact pure_lts _ _ | exact pure_rps _ _ | exact pure_ints _ _ | exact trivial | refine pure_agg ?_ | refine pure_tup ?_ | refine ⟨?_, ?_⟩)))⟩
  · have hc : ¬ (pb (WhP b.pend) = false ∨ pb (RightP x) = false) := by simpa using h1
    have hlen : b.pend.length ≤ 64 := ((pb_eq (P := WhP b.pend)).1 (by simp at hc; exact hc.1)).len
    have hlr : (b.pend.map Rp.cv).length = b.pend.length := by simp
    refine cw_seq ?_
    refine cw_region ?_
    refine co_y rfl rfl (y_load rfl trivial rfl Try.isAgg46 Try.sizeOf46 rfl (Nat.le_of_ble_eq_true rfl)) ?_
    refine co_y rfl rfl (y_load rfl trivial rfl Try.isAgg30 Try.sizeOf30 rfl (Nat.le_of_ble_eq_true rfl)) ?_
    refine co_y rfl rfl (y_callf rfl Try.call40 ⟨trivial, trivial, trivial⟩ (rd_at_s b x hl _) rfl) ?_
    refine co_y rfl rfl (y_int rfl trivial rfl rfl rfl rfl) ?_
    refine co_y rfl rfl (y_assign rfl trivial (by conv => lhs; whnf)) ?_
    refine co_nil ?_
    refine cw_cond trivial rfl (fun h2 => ?_) (fun h2 => ?_)
    · have hin : x ∈ b.pend := ixR_mem.1 (by simpa using h2)
      have hb : (⟨b.pend, true⟩ : Bx) = b := by
        obtain ⟨p, nn⟩ := b
        cases nn with
        | true => rfl
        | false => have := hnn rfl; simp only at this hin; rw [this] at hin; simp at hin
      refine cw_seq ?_
      refine cw_region ?_
      refine co_y rfl rfl (y_load rfl trivial rfl Try.isAgg46 Try.sizeOf46 rfl (Nat.le_of_ble_eq_true rfl)) ?_
      refine co_d rfl rfl (d_store rfl trivial trivial rfl (by conv => lhs; whnf) Try.sizeOf46 (.inr ⟨_, rfl⟩) rfl rfl (Nat.le_of_ble_eq_true rfl) ?_)
      refine co_y rfl rfl (y_assign rfl rfl (by conv => lhs; whnf)) ?_
      refine co_nil ?_
      refine cw_ret ?_
      exact ⟨_, res_all (rs := [.cell 4 46, .tmp 5]) (cs := [_, _]) rfl ⟨⟨trivial, _, _, _, rfl, rfl, .inr ⟨_, Try.isAgg46, Try.sizeOf46, Nat.le_of_ble_eq_true rfl, rfl⟩⟩, ⟨trivial, (by conv => lhs; whnf)⟩, trivial⟩ (Nat.ne_of_beq_eq_false rfl), _, _, rfl, rfl, (cls_eq (by rw [postS, if_neg hc, if_pos hin, hb]; rfl) (by repeat' (first | exact .val _ | exact pure_lts _ _ | exact pure_rps _ _ | exact pure_ints _ _ | exact trivial | refine pure_agg ?_ | refine pure_tup ?_ | refine ⟨?_, ?_⟩)))⟩
    · have hin : x ∉ b.pend := fun g => by have := ixR_mem.2 g; simp at h2; omega
      refine cw_seq ?_
      refine cw_region ?_
      refine co_y rfl rfl (y_field rfl trivial rfl Try.runUnderlying46 rfl Try.sizeOf44 (by decide)) ?_
      refine co_y rfl rfl (y_load1 rfl trivial rfl Try.isAgg44 rfl rfl) ?_
      refine co_y rfl rfl (y_len rfl trivial rfl Try.runUnderlying44 (by first | exact len_map _ _ | rfl) rfl) ?_
      refine co_y rfl rfl (y_int rfl trivial rfl rfl rfl rfl) ?_
      refine co_y rfl rfl (y_assign rfl trivial (by conv => lhs; whnf)) ?_
      refine co_nil ?_
      refine cw_cond trivial rfl (fun h3 => ?_) (fun h3 => ?_)
      · have h64 : b.pend.length = 64 := by simp at h3; omega
        refine cw_seq ?_
        refine cw_region ?_
        refine co_y rfl rfl (y_build' #[(0, 1)] rfl trivial Try.runUnderlying46 Try.zeroValue46 rfl ⟨_, rfl⟩ (fun w => by kernel_rfl) rfl rfl) ?_
        refine co_d rfl rfl (d_store rfl trivial trivial rfl (by conv => lhs; whnf) Try.sizeOf46 (.inr ⟨_, rfl⟩) rfl rfl (Nat.le_of_ble_eq_true rfl) ?_)
        refine co_y rfl rfl (y_assign rfl rfl (by conv => lhs; whnf)) ?_
        refine co_nil ?_
        refine cw_ret ?_
        exact ⟨_, res_all (rs := [.cell 4 46, .tmp 5]) (cs := [_, _]) rfl ⟨⟨trivial, _, _, _, rfl, rfl, .inr ⟨_, Try.isAgg46, Try.sizeOf46, Nat.le_of_ble_eq_true rfl, rfl⟩⟩, ⟨trivial, (by conv => lhs; whnf)⟩, trivial⟩ (Nat.ne_of_beq_eq_false rfl), _, _, rfl, rfl, (cls_eq (by rw [postS, if_neg hc, if_neg hin, if_pos h64]; rfl) (by repeat' (first | exact .val _ | exact pure_lts _ _ | exact pure_rps _ _ | exact pure_ints _ _ | exact trivial | refine pure_agg ?_ | refine pure_tup ?_ | refine ⟨?_, ?_⟩)))⟩
      · have h64 : ¬ b.pend.length = 64 := by simp at h3; omega
        refine cw_skip ?_
        refine cw_seq ?_
        refine cw_float [0, 1, 3, 4, 2, 5, 6, 7, 8] 4 [0, 1, 3, 0, 8, 31, 63, 127, 255] [[2, 3], [], [], [], []] (hd1l := [0, 1, 3, 4]) (tll := [(2, [2, 3]), (5, []), (6, []), (7, []), (8, [])]) (by kernel_rfl) (by kernel_rfl) rfl rfl rfl ?_
        refine chf rfl (hop_y rfl (y_field rfl trivial rfl Try.runUnderlying46 rfl Try.sizeOf44 (by decide))) ?_
        refine chf rfl (hop_y rfl (y_load1 rfl trivial rfl Try.isAgg44 rfl rfl)) ?_
        refine chf rfl (hop_y rfl (y_load rfl trivial rfl Try.isAgg30 Try.sizeOf30 rfl (Nat.le_of_ble_eq_true rfl))) ?_
        refine chf rfl (hop_y rfl (y_lit [Rp.cv x] rfl ⟨trivial, trivial⟩ Try.runUnderlying44 Try.sizeOf30 Try.zeroValue30 rfl rfl rfl rfl rfl rfl rfl rfl rfl)) ?_
        refine chf_nil ?_
        refine ctl_d rfl rfl (d_appu0 rfl rfl trivial rfl (src_list rfl (by first | exact rows_len (by intro a; rfl) _ | (intro r hr; simp at hr; done) | (intro r hr; simp at hr; subst hr; rfl) | (intro r hr; exact rows_len (by intro a; rfl) _ r (List.mem_of_mem_take (List.mem_of_mem_drop hr))) | (intro r hr; simp at hr; obtain ⟨a, _, rfl⟩ := hr; rfl))) Try.runUnderlying44 Try.sizeOf30 Try.typeInfo30 Try.zeroValue30 rfl (by have hb : Try.t30.bytes = 40 := rfl; rw [hb]; first | omega | (simp; done) | (simp; omega)) (by first | omega | (simp; omega) | simp) b.pend.length (by simp) ?_)
        refine ⟨⟨(by exact hop_y rfl (y_load rfl trivial rfl Try.isAgg30 Try.sizeOf30 rfl (Nat.le_of_ble_eq_true rfl))), (by exact hop_y rfl (y_lit [Rp.cv x] rfl ⟨trivial, trivial⟩ Try.runUnderlying44 Try.sizeOf30 Try.zeroValue30 rfl rfl rfl rfl rfl rfl rfl rfl rfl)), trivial⟩, ?_⟩
        refine ctl_d rfl rfl (d_appu rfl trivial trivial rfl (by simp) (src_list rfl (by first | exact rows_len (by intro a; rfl) _ | (intro r hr; simp at hr; done) | (intro r hr; simp at hr; subst hr; rfl) | (intro r hr; exact rows_len (by intro a; rfl) _ r (List.mem_of_mem_take (List.mem_of_mem_drop hr))) | (intro r hr; simp at hr; obtain ⟨a, _, rfl⟩ := hr; rfl))) Try.runUnderlying44 Try.sizeOf30 Try.typeInfo30 Try.zeroValue30 rfl (.inr rfl) (by first | exact rows_len (by intro a; rfl) _ | assumption | (intro r hr; exact rows_len (by intro a; rfl) _ r (List.mem_of_mem_take (List.mem_of_mem_drop hr))) | (intro r hr; simp at hr; obtain ⟨a, _, rfl⟩ := hr; rfl)) (by have hb : Try.t30.bytes = 40 := rfl; rw [hb]; first | omega | (simp; done) | (simp; omega)) (by first | omega | (simp; omega) | simp) ((b.pend ++ [x]).map Rp.cv) (b.pend.length + 1) (by simp) (by simp) ?_)
        refine ⟨trivial, ?_⟩
        refine ctl_h rfl (hop_y rfl (y_build' #[(0, 1)] rfl ⟨trivial, trivial⟩ Try.runUnderlying46 Try.zeroValue46 rfl ⟨_, rfl⟩ (fun w => by kernel_rfl) rfl rfl)) ⟨trivial, ?_⟩
        refine ctl_d rfl rfl (d_store rfl trivial trivial rfl (by conv => lhs; whnf) Try.sizeOf46 (.inr ⟨_, rfl⟩) rfl rfl (Nat.le_of_ble_eq_true rfl) ?_)
        refine ⟨trivial, ?_⟩
        refine ctl_h rfl (hop_y rfl (y_assign rfl rfl (by conv => lhs; whnf))) ⟨trivial, ?_⟩
        refine ctl_nil ?_
        refine cw_ret ?_
        exact ⟨_, res_all (rs := [.cell 4 46, .tmp 5]) (cs := [_, _]) rfl ⟨⟨trivial, _, _, _, rfl, rfl, .inr ⟨_, Try.isAgg46, Try.sizeOf46, Nat.le_of_ble_eq_true rfl, rfl⟩⟩, ⟨trivial, (by conv => lhs; whnf)⟩, trivial⟩ (Nat.ne_of_beq_eq_false rfl), _, _, rfl, rfl, (by rw [postS, if_neg hc, if_neg hin, if_neg h64]; exact .tups ⟨.aggs ⟨.tok (fun r hr c hc => (rows_pure (f := Rp.cv) (fun _ => Pures.all ⟨.val _, .val _, .val _, .val _, .val _, trivial⟩) _) r hr c hc), trivial⟩, .old (.val _), trivial⟩)⟩

theorem rd_Post_s (b : Bx) (x : Rp) (hnn : b.nn = false → b.pend = []) (hl : b.pend.length ≤ maxLen) (σ : List CObj) : CCalls CC 26 [.agg b.cells, .agg x.cells] σ fun r σ' => r = .ret (.tup [.agg (postS (pb (WhP b.pend)) (pb (RightP x)) b x).1.cells, (.val (.int .i64 ((postS (pb (WhP b.pend)) (pb (RightP x)) b x).2)))]) ∧ σ' = σ :=
  CCalls.anyw hCC (by repeat' (first | exact .val _ | exact pure_lts _ _ | exact pure_rps _ _ | exact pure_ints _ _ | exact trivial | refine pure_agg ?_ | refine pure_tup ?_ | refine ⟨?_, ?_⟩)) (by repeat' (first | exact .val _ | exact pure_lts _ _ | exact pure_rps _ _ | exact pure_ints _ _ | exact trivial | refine pure_agg ?_ | refine pure_tup ?_ | refine ⟨?_, ?_⟩)) (rd_Post b x hnn hl) σ

end Go.Proofs.Ytchaklkfaemfgaa
