import Derived.Test.YtkhebelajdcjgaaDoorH11
namespace Go.Proofs.YtkhebelajdcjgaaDoor
open Go Go.Cl

theorem same_refl (a : Hist) : SameP a a := ⟨⟨rfl, rfl⟩, rfl, rfl, rfl, rfl, rfl, rfl⟩
theorem newS_bs (pkg test : ByteArray) (env k : Int) : (newS pkg test env k).1.bs = [] := by
  unfold newS; split <;> (try split) <;> rfl
theorem newS_fits (pkg test : ByteArray) (env k : Int) : Fits (newS pkg test env k).1 := ⟨by rw [newS_bs]; simp, fun b hb => by rw [newS_bs] at hb; simp at hb⟩
theorem chk_zero : ¬ ChkP zeroH := fun h => by have := h.use; revert this; decide
theorem newS_chk (pkg test : ByteArray) (env k : Int) : ChkP (newS pkg test env k).1 ↔ (newS pkg test env k).2 = 0 := by
  unfold newS
  split
  · exact ⟨fun h => absurd h chk_zero, fun h => by simp at h⟩
  · split
    · exact ⟨fun h => absurd h chk_zero, fun h => by simp at h⟩
    · exact ⟨fun _ => rfl, fun _ => chk_new (by simpa using ‹¬ _ = false›) (by omega) (by omega) _⟩

set_option maxRecDepth 10000 in
theorem la_HistoryNews (pkg test : ByteArray) (env k : Int) : CCalls CC 3 [.agg [(.val (.string (pkg))), (.val (.string (test)))], (.val (.int .i64 (env))), (.val (.int .i64 (k)))] [] fun r σ' => r = .ret (.val (.bool (true))) ∧ σ' = [] := by
  refine ccalls_val (ccalls_of Tryd.func3 rfl rfl ?_)
  refine cw_seq ?_
  refine cw_region ?_
  refine co_d rfl rfl (d_box rfl trivial (by conv => lhs; whnf) (.inr ⟨_, rfl⟩) ?_)
  refine co_y rfl rfl (y_assign rfl rfl (by conv => lhs; whnf)) ?_
  refine co_nil ?_
  refine cw_seq ?_
  refine cw_region ?_
  refine co_y rfl rfl (y_load rfl trivial rfl Tryd.isAgg23 Tryd.sizeOf23 rfl (Nat.le_of_ble_eq_true rfl)) ?_
  refine co_y rfl rfl (y_move rfl trivial (by conv => lhs; whnf)) ?_
  refine co_y rfl rfl (y_move rfl trivial (by conv => lhs; whnf)) ?_
  refine co_y rfl rfl (y_callf rfl Tryd.call12 ⟨trivial, trivial, trivial, trivial⟩ (hi_New_s pkg test env k _) rfl) ?_
  refine co_y rfl rfl (y_move rfl trivial (by conv => lhs; whnf)) ?_
  refine co_y rfl rfl (y_extract rfl trivial rfl rfl) ?_
  refine co_y rfl rfl (y_extract rfl trivial rfl rfl) ?_
  refine co_d rfl rfl (d_alloc rfl Tryd.zeroValue26 rfl (.inr ⟨_, rfl⟩) ?_)
  refine co_d rfl rfl (d_store rfl trivial trivial rfl (by conv => lhs; whnf) Tryd.sizeOf26 (.inr ⟨_, rfl⟩) rfl rfl (Nat.le_of_ble_eq_true rfl) ?_)
  refine co_y rfl rfl (y_assign rfl trivial (by conv => lhs; whnf)) ?_
  refine co_nil ?_
  refine cw_seq ?_
  refine cw_region ?_
  refine co_y rfl rfl (y_load rfl trivial rfl Tryd.isAgg23 Tryd.sizeOf23 rfl (Nat.le_of_ble_eq_true rfl)) ?_
  refine co_y rfl rfl (y_move rfl trivial (by conv => lhs; whnf)) ?_
  refine co_y rfl rfl (y_move rfl trivial (by conv => lhs; whnf)) ?_
  refine co_y rfl rfl (y_callf rfl Tryd.call13 ⟨trivial, trivial, trivial, trivial⟩ (re_New_s pkg test env k _) rfl) ?_
  refine co_y rfl rfl (y_move rfl trivial (by conv => lhs; whnf)) ?_
  refine co_y rfl rfl (y_extract rfl trivial rfl rfl) ?_
  refine co_y rfl rfl (y_extract rfl trivial rfl rfl) ?_
  refine co_d rfl rfl (d_alloc rfl Tryd.zeroValue26 rfl (.inr ⟨_, rfl⟩) ?_)
  refine co_d rfl rfl (d_store rfl trivial trivial rfl (by conv => lhs; whnf) Tryd.sizeOf26 (.inr ⟨_, rfl⟩) rfl rfl (Nat.le_of_ble_eq_true rfl) ?_)
  refine co_y rfl rfl (y_assign rfl trivial (by conv => lhs; whnf)) ?_
  refine co_nil ?_
  refine cw_seq ?_
  refine cw_region ?_
  refine co_y rfl rfl (y_move rfl trivial (by conv => lhs; whnf)) ?_
  refine co_y rfl rfl (y_move rfl trivial (by conv => lhs; whnf)) ?_
  refine co_y rfl rfl (y_int rfl trivial trivial rfl rfl rfl) ?_
  refine co_y rfl rfl (y_move rfl trivial (by conv => lhs; whnf)) ?_
  refine co_g rfl rfl trivial rfl rfl (fun hg => y_load rfl trivial rfl Tryd.isAgg26 Tryd.sizeOf26 rfl (Nat.le_of_ble_eq_true rfl)) ?_
  refine co_g rfl rfl trivial rfl rfl (fun hg => y_load rfl trivial rfl Tryd.isAgg26 Tryd.sizeOf26 rfl (Nat.le_of_ble_eq_true rfl)) ?_
  refine co_g rfl rfl trivial rfl rfl (fun hg => y_callf rfl Tryd.call14 ⟨hg, hg, trivial⟩ (re_Same_s _ _ (by rw [newS_bs]; unfold maxLen; simp) _) rfl) ?_
  refine co_y rfl rfl (y_pick_and rfl trivial rfl (fun hp => hp) (fun _ => rfl)) ?_
  refine co_y rfl rfl (y_move rfl trivial (by conv => lhs; whnf)) ?_
  refine co_g rfl rfl trivial rfl rfl (fun hg => y_load rfl trivial rfl Tryd.isAgg26 Tryd.sizeOf26 rfl (Nat.le_of_ble_eq_true rfl)) ?_
  refine co_g rfl rfl trivial rfl rfl (fun hg => y_callf rfl Tryd.call15 ⟨hg, trivial⟩ (hi_Check_s _ (newS_fits pkg test env k) _) rfl) ?_
  refine co_g rfl rfl trivial rfl rfl (fun hg => y_move rfl trivial (by conv => lhs; whnf)) ?_
  refine co_g rfl rfl trivial rfl rfl (fun hg => y_int rfl hg rfl rfl rfl rfl) ?_
  refine co_g rfl rfl trivial rfl rfl (fun hg => y_boolop rfl Tryd.runUnderlying4 hg hg rfl rfl rfl) ?_
  refine co_y rfl rfl (y_pick_and rfl trivial rfl (fun hp => hp) (fun _ => rfl)) ?_
  refine co_y rfl rfl (y_move rfl trivial (by conv => lhs; whnf)) ?_
  refine co_g rfl rfl trivial rfl rfl (fun hg => y_callf rfl Tryd.call16 trivial (la_known_s _) rfl) ?_
  refine co_y rfl rfl (y_pick_and rfl trivial rfl (fun hp => hp) (fun _ => rfl)) ?_
  refine co_y rfl rfl (y_assign rfl trivial (by conv => lhs; whnf)) ?_
  refine co_nil ?_
  refine cw_ret ?_
  exact ⟨_, res1 rfl trivial (by conv => lhs; whnf), _, _, rfl, rfl, cls_bool (by have e1 := pb_yes (same_refl (newS pkg test env k).1); have e2 : pb (ChkP (newS pkg test env k).1) = ((newS pkg test env k).2 == 0) := pb_iff (by rw [beq_iff_eq]; exact (newS_chk pkg test env k).symm) |>.symm; rw [e1, e2]; simp)⟩

theorem la_HistoryNews_s (pkg test : ByteArray) (env k : Int) (σ : List CObj) : CCalls CC 3 [.agg [(.val (.string (pkg))), (.val (.string (test)))], (.val (.int .i64 (env))), (.val (.int .i64 (k)))] σ fun r σ' => r = .ret (.val (.bool (true))) ∧ σ' = σ :=
  CCalls.anyw hCC (by repeat' (first | exact .val _ | exact pure_bkts _ _ | exact pure_ints _ _ | exact trivial | refine pure_agg ?_ | refine pure_tup ?_ | refine ⟨?_, ?_⟩)) (by repeat' (first | exact .val _ | exact pure_bkts _ _ | exact pure_ints _ _ | exact trivial | refine pure_agg ?_ | refine pure_tup ?_ | refine ⟨?_, ?_⟩)) (la_HistoryNews pkg test env k) σ

end Go.Proofs.YtkhebelajdcjgaaDoor
