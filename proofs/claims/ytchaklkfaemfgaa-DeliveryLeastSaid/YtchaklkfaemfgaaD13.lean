import Derived.Test.YtchaklkfaemfgaaD12
namespace Go.Proofs.Ytchaklkfaemfgaa
open Go Go.Cl

set_option maxRecDepth 10000 in
theorem de_AckV (b : Bx) (x : Rp) (hne : b.pend ≠ []) (hnt : b.nn = true) (hl : b.pend.length ≤ 1000000000) : CCalls CC 28 [.agg b.cells, .agg x.cells] [] fun r σ' => r = .ret (.tup [.agg (ackS (pb (WhP b.pend)) b x).1.cells, (.val (.bool ((ackS (pb (WhP b.pend)) b x).2)))]) ∧ σ' = [] := by
  refine ccalls_val (ccalls_of Try.func28 rfl rfl ?_)
  refine cw_seq ?_
  refine cw_region ?_
  refine co_d rfl rfl (d_box rfl trivial (by conv => lhs; whnf) (.inr ⟨_, rfl⟩) ?_)
  refine co_d rfl rfl (d_box rfl trivial (by conv => lhs; whnf) (.inr ⟨_, rfl⟩) ?_)
  refine co_d rfl rfl (d_alloc rfl Try.zeroValue46 rfl (.inr ⟨_, rfl⟩) ?_)
  refine co_y rfl rfl (y_assign rfl rfl (by conv => lhs; whnf)) ?_
  refine co_nil ?_
  refine cw_seq ?_
  refine cw_region ?_
  refine co_y rfl rfl (y_field rfl trivial rfl Try.runUnderlying46 rfl Try.sizeOf44 (by decide)) ?_
  refine co_y rfl rfl (y_load1 rfl trivial rfl Try.isAgg44 rfl rfl) ?_
  refine co_d rfl rfl (d_callv rfl Try.call41 ⟨trivial, trivial⟩ ((by rw [hnt]; exact clone_vec_R b.pend hne hl _)) rfl ?_)
  intro _ _
  refine co_y rfl rfl (y_assign rfl trivial (by conv => lhs; whnf)) ?_
  refine co_nil ?_
  refine cw_seq ?_
  refine cw_region ?_
  refine co_y rfl rfl (y_move rfl trivial (by conv => lhs; whnf)) ?_
  refine co_y rfl rfl (y_load rfl trivial rfl Try.isAgg30 Try.sizeOf30 rfl (Nat.le_of_ble_eq_true rfl)) ?_
  refine co_y rfl rfl (y_callf rfl Try.call42 ⟨trivial, trivial, trivial⟩ (index_V b.pend x (by unfold maxLen; omega) _ 3 rfl) rfl) ?_
  refine co_y rfl rfl (y_assign rfl trivial (by conv => lhs; whnf)) ?_
  refine co_nil ?_
  refine cw_seq ?_
  refine cw_seq ?_
  refine cw_region ?_
  refine co_y rfl rfl (y_move rfl trivial (by conv => lhs; whnf)) ?_
  refine co_y rfl rfl (y_int rfl trivial rfl rfl rfl rfl) ?_
  refine co_y rfl rfl (y_move rfl trivial (by conv => lhs; whnf)) ?_
  refine co_g rfl rfl trivial rfl rfl (fun hg => y_load rfl trivial rfl Try.isAgg46 Try.sizeOf46 rfl (Nat.le_of_ble_eq_true rfl)) ?_
  refine co_g rfl rfl trivial rfl rfl (fun hg => y_callf rfl Try.call21 ⟨hg, trivial⟩ (de_WholeB_s b (by unfold maxLen; omega) _) rfl) ?_
  refine co_g rfl rfl trivial rfl rfl (fun hg => y_not rfl hg rfl) ?_
  refine co_y rfl rfl (y_pick_or rfl trivial rfl (fun hp => hp) (fun _ => rfl)) ?_
  refine co_nil ?_
  refine cw_cond trivial rfl (fun h1 => ?_) (fun h1 => ?_)
  · have hno : ¬ (pb (WhP b.pend) = true ∧ x ∈ b.pend) := fun ⟨g1, g2⟩ => by
      have := ixR_mem.2 g2
      rw [g1] at h1
      simp at h1
      omega
    have hb : (⟨b.pend, true⟩ : Bx) = b := by rw [← hnt]
    refine cw_seq ?_
    refine cw_region ?_
    refine co_y rfl rfl (y_move rfl trivial (by conv => lhs; whnf)) ?_
    refine co_y rfl rfl (y_build' #[(0, 1)] rfl ⟨trivial, trivial⟩ Try.runUnderlying46 Try.zeroValue46 rfl ⟨_, rfl⟩ (fun w => by kernel_rfl) rfl rfl) ?_
    refine co_d rfl rfl (d_store rfl trivial trivial rfl (by conv => lhs; whnf) Try.sizeOf46 (.inr ⟨_, rfl⟩) rfl rfl (Nat.le_of_ble_eq_true rfl) ?_)
    refine co_y rfl rfl (y_assign rfl rfl (by conv => lhs; whnf)) ?_
    refine co_nil ?_
    refine cw_ret ?_
    exact ⟨_, res_all (rs := [.cell 4 46, .tmp 5]) (cs := [_, _]) rfl ⟨⟨trivial, _, _, _, rfl, rfl, .inr ⟨_, Try.isAgg46, Try.sizeOf46, Nat.le_of_ble_eq_true rfl, rfl⟩⟩, ⟨trivial, (by conv => lhs; whnf)⟩, trivial⟩ (Nat.ne_of_beq_eq_false rfl), _, _, rfl, rfl, (by rw [ackS, if_neg hno]; exact .tups ⟨.aggs ⟨by rw [hnt]; exact .vecs (Nat.zero_le _) (by first | rfl | (simp; done)) (by simp) (by rw [List.drop_zero]; exact List.take_of_length_le (by simp)) (fun r hr c hc => (rows_pure (f := Rp.cv) (fun _ => Pures.all ⟨.val _, .val _, .val _, .val _, .val _, trivial⟩) _) r hr c hc), trivial⟩, .old (.val _), trivial⟩)⟩
  · have hin : x ∈ b.pend := by
      apply ixR_mem.1
      simp at h1
      omega
    have hyes : pb (WhP b.pend) = true := by
      cases hq : pb (WhP b.pend) with
      | true => rfl
      | false => rw [hq] at h1; simp at h1
    obtain ⟨A, B, hAB, hA, hix⟩ : ∃ A B, b.pend = A ++ x :: B ∧ x ∉ A ∧ ixR b.pend x 0 = (0 + A.length : Nat) := by
      rcases ixR_cases x b.pend 0 with ⟨h, _⟩ | h
      · exact absurd hin h
      · exact h
    have hAl : b.pend.length = A.length + 1 + B.length := by rw [hAB]; simp; omega
    have her : b.pend.erase x = A ++ B := by rw [hAB]; exact erase_at hA
    refine cw_skip ?_
    refine cw_seq ?_
    refine cw_region ?_
    refine co_y rfl rfl (y_move rfl trivial (by conv => lhs; whnf)) ?_
    refine co_y rfl rfl (y_move rfl trivial (by conv => lhs; whnf)) ?_
    refine co_y rfl rfl (y_move rfl trivial (by conv => lhs; whnf)) ?_
    refine co_y rfl rfl (y_add rfl trivial rfl rfl rfl (by omega) (by omega)) ?_
    refine co_d rfl rfl (d_callv rfl Try.call43 ⟨trivial, trivial, trivial, trivial⟩ (delete_R A x B [] _ 3 (by rw [List.append_nil, ← hAB]; rfl) (ixR b.pend x 0) (ixR b.pend x 0 + 1) b.pend.length (by rw [hix]; omega) (by rw [hix]; omega) hAl (by omega)) rfl ?_)
    intro _ _
    refine co_y rfl rfl (y_build' #[(0, 1)] rfl ⟨trivial, trivial⟩ Try.runUnderlying46 Try.zeroValue46 rfl ⟨_, rfl⟩ (fun w => by kernel_rfl) rfl rfl) ?_
    refine co_d rfl rfl (d_store rfl trivial trivial rfl (by conv => lhs; whnf) Try.sizeOf46 (.inr ⟨_, rfl⟩) rfl rfl (Nat.le_of_ble_eq_true rfl) ?_)
    refine co_y rfl rfl (y_assign rfl rfl (by conv => lhs; whnf)) ?_
    refine co_nil ?_
    refine cw_ret ?_
    exact ⟨_, res_all (rs := [.cell 4 46, .tmp 5]) (cs := [_, _]) rfl ⟨⟨trivial, _, _, _, rfl, rfl, .inr ⟨_, Try.isAgg46, Try.sizeOf46, Nat.le_of_ble_eq_true rfl, rfl⟩⟩, ⟨trivial, (by conv => lhs; whnf)⟩, trivial⟩ (Nat.ne_of_beq_eq_false rfl), _, _, rfl, rfl, (by rw [ackS, if_pos ⟨hyes, hin⟩, her]; exact .tups ⟨.aggs ⟨.vecs (Nat.zero_le _) rfl (by simp) (by rw [List.drop_zero]; exact List.take_left' (by simp)) (fun r hr c hc => (rows_pure (f := Rp.cv) (fun _ => Pures.all ⟨.val _, .val _, .val _, .val _, .val _, trivial⟩) _) r hr c hc), trivial⟩, .old (.val _), trivial⟩)⟩

theorem de_AckV_s (b : Bx) (x : Rp) (hne : b.pend ≠ []) (hnt : b.nn = true) (hl : b.pend.length ≤ 1000000000) (σ : List CObj) : CCalls CC 28 [.agg b.cells, .agg x.cells] σ fun r σ' => r = .ret (.tup [.agg (ackS (pb (WhP b.pend)) b x).1.cells, (.val (.bool ((ackS (pb (WhP b.pend)) b x).2)))]) ∧ σ' = σ :=
  CCalls.anyw hCC (by repeat' (first | exact .val _ | exact pure_lts _ _ | exact pure_rps _ _ | exact pure_ints _ _ | exact trivial | refine pure_agg ?_ | refine pure_tup ?_ | refine ⟨?_, ?_⟩)) (by repeat' (first | exact .val _ | exact pure_lts _ _ | exact pure_rps _ _ | exact pure_ints _ _ | exact trivial | refine pure_agg ?_ | refine pure_tup ?_ | refine ⟨?_, ?_⟩)) (de_AckV b x hne hnt hl) σ

set_option maxRecDepth 10000 in
theorem de_AckE (b : Bx) (x : Rp) (he : b.pend = []) : CCalls CC 28 [.agg b.cells, .agg x.cells] [] fun r σ' => r = .ret (.tup [.agg (ackS (pb (WhP b.pend)) b x).1.cells, (.val (.bool ((ackS (pb (WhP b.pend)) b x).2)))]) ∧ σ' = [] := by
  refine ccalls_val (ccalls_of Try.func28 rfl rfl ?_)
  refine cw_seq ?_
  refine cw_region ?_
  refine co_d rfl rfl (d_box rfl trivial (by conv => lhs; whnf) (.inr ⟨_, rfl⟩) ?_)
  refine co_d rfl rfl (d_box rfl trivial (by conv => lhs; whnf) (.inr ⟨_, rfl⟩) ?_)
  refine co_d rfl rfl (d_alloc rfl Try.zeroValue46 rfl (.inr ⟨_, rfl⟩) ?_)
  refine co_y rfl rfl (y_assign rfl rfl (by conv => lhs; whnf)) ?_
  refine co_nil ?_
  refine cw_seq ?_
  refine cw_region ?_
  refine co_y rfl rfl (y_field rfl trivial rfl Try.runUnderlying46 rfl Try.sizeOf44 (by decide)) ?_
  refine co_y rfl rfl (y_load1 rfl trivial rfl Try.isAgg44 rfl rfl) ?_
  refine co_y rfl rfl (y_callf rfl Try.call41 ⟨trivial, trivial⟩ (clone_R b.pend b.nn (fun _ => he) (by rw [he]; simp) _) rfl) ?_
  refine co_y rfl rfl (y_assign rfl trivial (by conv => lhs; whnf)) ?_
  refine co_nil ?_
  refine cw_seq ?_
  refine cw_region ?_
  refine co_y rfl rfl (y_move rfl trivial (by conv => lhs; whnf)) ?_
  refine co_y rfl rfl (y_load rfl trivial rfl Try.isAgg30 Try.sizeOf30 rfl (Nat.le_of_ble_eq_true rfl)) ?_
  refine co_y rfl rfl (y_callf rfl Try.call42 ⟨trivial, trivial, trivial⟩ (slices_Index_s b.pend b.nn x (by rw [he]; exact Nat.zero_le _) _) rfl) ?_
  refine co_y rfl rfl (y_assign rfl trivial (by conv => lhs; whnf)) ?_
  refine co_nil ?_
  refine cw_seq ?_
  refine cw_seq ?_
  refine cw_region ?_
  refine co_y rfl rfl (y_move rfl trivial (by conv => lhs; whnf)) ?_
  refine co_y rfl rfl (y_int rfl trivial rfl rfl rfl rfl) ?_
  refine co_y rfl rfl (y_move rfl trivial (by conv => lhs; whnf)) ?_
  refine co_g rfl rfl trivial rfl rfl (fun hg => y_load rfl trivial rfl Try.isAgg46 Try.sizeOf46 rfl (Nat.le_of_ble_eq_true rfl)) ?_
  refine co_g rfl rfl trivial rfl rfl (fun hg => y_callf rfl Try.call21 ⟨hg, trivial⟩ (de_WholeB_s b (by rw [he]; exact Nat.zero_le _) _) rfl) ?_
  refine co_g rfl rfl trivial rfl rfl (fun hg => y_not rfl hg rfl) ?_
  refine co_y rfl rfl (y_pick_or rfl trivial rfl (fun hp => hp) (fun _ => rfl)) ?_
  refine co_nil ?_
  refine cw_cond trivial rfl (fun h1 => ?_) (fun h1 => ?_)
  · have hno : ¬ (pb (WhP b.pend) = true ∧ x ∈ b.pend) := fun ⟨g1, g2⟩ => by rw [he] at g2; simp at g2
    refine cw_seq ?_
    refine cw_region ?_
    refine co_y rfl rfl (y_move rfl trivial (by conv => lhs; whnf)) ?_
    refine co_y rfl rfl (y_build' #[(0, 1)] rfl ⟨trivial, trivial⟩ Try.runUnderlying46 Try.zeroValue46 rfl ⟨_, rfl⟩ (fun w => by kernel_rfl) rfl rfl) ?_
    refine co_d rfl rfl (d_store rfl trivial trivial rfl (by conv => lhs; whnf) Try.sizeOf46 (.inr ⟨_, rfl⟩) rfl rfl (Nat.le_of_ble_eq_true rfl) ?_)
    refine co_y rfl rfl (y_assign rfl rfl (by conv => lhs; whnf)) ?_
    refine co_nil ?_
    refine cw_ret ?_
    exact ⟨_, res_all (rs := [.cell 4 46, .tmp 5]) (cs := [_, _]) rfl ⟨⟨trivial, _, _, _, rfl, rfl, .inr ⟨_, Try.isAgg46, Try.sizeOf46, Nat.le_of_ble_eq_true rfl, rfl⟩⟩, ⟨trivial, (by conv => lhs; whnf)⟩, trivial⟩ (Nat.ne_of_beq_eq_false rfl), _, _, rfl, rfl, (cls_eq (by rw [ackS, if_neg hno]; rfl) (by repeat' (first | exact .val _ | exact pure_lts _ _ | exact pure_rps _ _ | exact pure_ints _ _ | exact trivial | refine pure_agg ?_ | refine pure_tup ?_ | refine ⟨?_, ?_⟩)))⟩
  · exfalso
    rw [he] at h1
    simp [ixR] at h1

theorem de_AckE_s (b : Bx) (x : Rp) (he : b.pend = []) (σ : List CObj) : CCalls CC 28 [.agg b.cells, .agg x.cells] σ fun r σ' => r = .ret (.tup [.agg (ackS (pb (WhP b.pend)) b x).1.cells, (.val (.bool ((ackS (pb (WhP b.pend)) b x).2)))]) ∧ σ' = σ :=
  CCalls.anyw hCC (by repeat' (first | exact .val _ | exact pure_lts _ _ | exact pure_rps _ _ | exact pure_ints _ _ | exact trivial | refine pure_agg ?_ | refine pure_tup ?_ | refine ⟨?_, ?_⟩)) (by repeat' (first | exact .val _ | exact pure_lts _ _ | exact pure_rps _ _ | exact pure_ints _ _ | exact trivial | refine pure_agg ?_ | refine pure_tup ?_ | refine ⟨?_, ?_⟩)) (de_AckE b x he) σ

theorem de_Ack_s (b : Bx) (x : Rp) (hnn : b.nn = false → b.pend = []) (hl : b.pend.length ≤ 1000000000) (σ : List CObj) : CCalls CC 28 [.agg b.cells, .agg x.cells] σ fun r σ' => r = .ret (.tup [.agg (ackS (pb (WhP b.pend)) b x).1.cells, (.val (.bool (ackS (pb (WhP b.pend)) b x).2))]) ∧ σ' = σ := by
  by_cases h : b.pend = []
  · exact de_AckE_s b x h σ
  · refine de_AckV_s b x h ?_ hl σ
    cases hn : b.nn with
    | true => rfl
    | false => exact absurd (hnn hn) h

set_option maxRecDepth 10000 in
theorem rd_Ack (b : Bx) (x : Rp) (hl : b.pend.length ≤ 1000000000) : CCalls CC 29 [.agg b.cells, .agg x.cells] [] fun r σ' => r = .ret (.tup [.agg (rackS (pb (WhP b.pend)) b x).1.cells, (.val (.bool ((rackS (pb (WhP b.pend)) b x).2)))]) ∧ σ' = [] := by
  have hlm : b.pend.length ≤ maxLen := by unfold maxLen; omega
  refine ccalls_val (ccalls_of Try.func29 rfl rfl ?_)
  refine cw_seq ?_
  refine cw_region ?_
  refine co_d rfl rfl (d_box rfl trivial (by conv => lhs; whnf) (.inr ⟨_, rfl⟩) ?_)
  refine co_d rfl rfl (d_box rfl trivial (by conv => lhs; whnf) (.inr ⟨_, rfl⟩) ?_)
  refine co_d rfl rfl (d_alloc rfl Try.zeroValue46 rfl (.inr ⟨_, rfl⟩) ?_)
  refine co_y rfl rfl (y_assign rfl rfl (by conv => lhs; whnf)) ?_
  refine co_nil ?_
  refine cw_seq ?_
  refine cw_region ?_
  refine co_y rfl rfl (y_load rfl trivial rfl Try.isAgg46 Try.sizeOf46 rfl (Nat.le_of_ble_eq_true rfl)) ?_
  refine co_y rfl rfl (y_load rfl trivial rfl Try.isAgg30 Try.sizeOf30 rfl (Nat.le_of_ble_eq_true rfl)) ?_
  refine co_y rfl rfl (y_callf rfl Try.call40 ⟨trivial, trivial, trivial⟩ (rd_at_s b x hlm _) rfl) ?_
  refine co_y rfl rfl (y_assign rfl trivial (by conv => lhs; whnf)) ?_
  refine co_nil ?_
  refine cw_seq ?_
  refine cw_seq ?_
  refine cw_region ?_
  refine co_y rfl rfl (y_load rfl trivial rfl Try.isAgg46 Try.sizeOf46 rfl (Nat.le_of_ble_eq_true rfl)) ?_
  refine co_y rfl rfl (y_callf rfl Try.call22 ⟨trivial, trivial⟩ (rd_WholeB_s b hlm _) rfl) ?_
  refine co_y rfl rfl (y_not rfl trivial rfl) ?_
  refine co_y rfl rfl (y_move rfl trivial (by conv => lhs; whnf)) ?_
  refine co_g rfl rfl trivial rfl rfl (fun hg => y_move rfl trivial (by conv => lhs; whnf)) ?_
  refine co_g rfl rfl trivial rfl rfl (fun hg => y_int rfl hg rfl rfl rfl rfl) ?_
  refine co_y rfl rfl (y_pick_or rfl trivial rfl (fun hp => hp) (fun _ => rfl)) ?_
  refine co_nil ?_
  refine cw_cond trivial rfl (fun h1 => ?_) (fun h1 => ?_)
  · have hno : ¬ (pb (WhP b.pend) = true ∧ x ∈ b.pend) := fun ⟨g1, g2⟩ => by
      have := ixR_mem.2 g2
      rw [g1] at h1
      simp at h1
      omega
    refine cw_seq ?_
    refine cw_region ?_
    refine co_y rfl rfl (y_load rfl trivial rfl Try.isAgg46 Try.sizeOf46 rfl (Nat.le_of_ble_eq_true rfl)) ?_
    refine co_d rfl rfl (d_store rfl trivial trivial rfl (by conv => lhs; whnf) Try.sizeOf46 (.inr ⟨_, rfl⟩) rfl rfl (Nat.le_of_ble_eq_true rfl) ?_)
    refine co_y rfl rfl (y_assign rfl rfl (by conv => lhs; whnf)) ?_
    refine co_nil ?_
    refine cw_ret ?_
    exact ⟨_, res_all (rs := [.cell 4 46, .tmp 5]) (cs := [_, _]) rfl ⟨⟨trivial, _, _, _, rfl, rfl, .inr ⟨_, Try.isAgg46, Try.sizeOf46, Nat.le_of_ble_eq_true rfl, rfl⟩⟩, ⟨trivial, (by conv => lhs; whnf)⟩, trivial⟩ (Nat.ne_of_beq_eq_false rfl), _, _, rfl, rfl, (cls_eq (by rw [rackS, if_neg hno]; rfl) (by repeat' (first | exact .val _ | exact pure_lts _ _ | exact pure_rps _ _ | exact pure_ints _ _ | exact trivial | refine pure_agg ?_ | refine pure_tup ?_ | refine ⟨?_, ?_⟩)))⟩
  · have hin : x ∈ b.pend := by
      apply ixR_mem.1
      simp at h1
      omega
    have hyes : pb (WhP b.pend) = true := by
      cases hq : pb (WhP b.pend) with
      | true => rfl
      | false => rw [hq] at h1; simp at h1
    obtain ⟨A, B, hAB, hA, hix⟩ : ∃ A B, b.pend = A ++ x :: B ∧ x ∉ A ∧ ixR b.pend x 0 = (0 + A.length : Nat) := by
      rcases ixR_cases x b.pend 0 with ⟨h, _⟩ | h
      · exact absurd hin h
      · exact h
    have hAl : b.pend.length = A.length + 1 + B.length := by rw [hAB]; simp; omega
    have her : b.pend.erase x = A ++ B := by rw [hAB]; exact erase_at hA
    have hml : (b.pend.map Rp.cv).length = b.pend.length := by simp
    refine cw_skip ?_
    refine cw_seq ?_
    refine cw_float [0, 1, 2, 3, 5, 6, 7, 8, 9, 4, 10, 11, 12, 13] 9 [0, 1, 0, 7, 15, 0, 32, 0, 128, 480, 1023, 2047, 4095, 8191] [[4, 5, 6, 7, 8], [], [], [], []] (hd1l := [0, 1, 2, 3, 5, 6, 7, 8, 9]) (tll := [(4, [4, 5, 6, 7, 8]), (10, []), (11, []), (12, []), (13, [])]) (by kernel_rfl) (by kernel_rfl) rfl rfl rfl ?_
    refine chf rfl (hop_y rfl (y_field rfl trivial rfl Try.runUnderlying46 rfl Try.sizeOf44 (by decide))) ?_
    refine chf rfl (hop_y rfl (y_load1 rfl trivial rfl Try.isAgg44 rfl rfl)) ?_
    refine chf rfl (hop_y rfl (y_move rfl trivial (by conv => lhs; whnf))) ?_
    refine chf rfl (hop_y rfl (y_slice (h := A.length) rfl trivial rfl Try.runUnderlying44 Try.sizeOf30 (by first | exact rows_len (by intro a; rfl) _ | assumption) rfl ⟨trivial, _, _, rfl, by omega, by omega⟩ (by first | omega | (simp; done) | (simp; omega)) (by rw [hml]; omega))) ?_
    refine chf rfl (hop_y rfl (y_field rfl trivial rfl Try.runUnderlying46 rfl Try.sizeOf44 (by decide))) ?_
    refine chf rfl (hop_y rfl (y_load1 rfl trivial rfl Try.isAgg44 rfl rfl)) ?_
    refine chf rfl (hop_y rfl (y_move rfl trivial (by conv => lhs; whnf))) ?_
    refine chf rfl (hop_y rfl (y_add rfl trivial rfl rfl rfl (by omega) (by omega))) ?_
    refine chf rfl (hop_y rfl (y_slice (l := (A.length + 1)) rfl trivial rfl Try.runUnderlying44 Try.sizeOf30 (by first | exact rows_len (by intro a; rfl) _ | assumption) ⟨trivial, _, _, rfl, by omega, by omega⟩ rfl (by first | omega | (simp; done) | (simp; omega)) (by rw [hml]; omega))) ?_
    refine chf_nil ?_
    refine ctl_d rfl rfl (d_appu0 rfl rfl trivial rfl (src_list rfl (by first | exact rows_len (by intro a; rfl) _ | (intro r hr; simp at hr; done) | (intro r hr; simp at hr; subst hr; rfl) | (intro r hr; exact rows_len (by intro a; rfl) _ r (List.mem_of_mem_take (List.mem_of_mem_drop hr))) | (intro r hr; simp at hr; obtain ⟨a, _, rfl⟩ := hr; rfl))) Try.runUnderlying44 Try.sizeOf30 Try.typeInfo30 Try.zeroValue30 rfl (by have hb : Try.t30.bytes = 40 := rfl; rw [hb]; first | omega | (simp; omega)) (by first | omega | (simp; omega) | simp) A.length (by simp; omega) ?_)
    refine ⟨⟨(by exact hop_y rfl (y_field rfl trivial rfl Try.runUnderlying46 rfl Try.sizeOf44 (by decide))), (by exact hop_y rfl (y_load1 rfl trivial rfl Try.isAgg44 rfl rfl)), (by exact hop_y rfl (y_move rfl trivial (by conv => lhs; whnf))), (by exact hop_y rfl (y_add rfl trivial rfl rfl rfl (by omega) (by omega))), (by exact hop_y rfl (y_slice (l := (A.length + 1)) rfl trivial rfl Try.runUnderlying44 Try.sizeOf30 (by first | exact rows_len (by intro a; rfl) _ | assumption) ⟨trivial, _, _, rfl, by omega, by omega⟩ rfl (by first | omega | (simp; done) | (simp; omega)) (by rw [hml]; omega))), trivial⟩, ?_⟩
    refine ctl_d rfl rfl (d_appu rfl trivial trivial rfl (by simp; omega) (src_list rfl (by first | exact rows_len (by intro a; rfl) _ | (intro r hr; simp at hr; done) | (intro r hr; simp at hr; subst hr; rfl) | (intro r hr; exact rows_len (by intro a; rfl) _ r (List.mem_of_mem_take (List.mem_of_mem_drop hr))) | (intro r hr; simp at hr; obtain ⟨a, _, rfl⟩ := hr; rfl))) Try.runUnderlying44 Try.sizeOf30 Try.typeInfo30 Try.zeroValue30 rfl (.inr rfl) (by first | exact rows_len (by intro a; rfl) _ | assumption | (intro r hr; exact rows_len (by intro a; rfl) _ r (List.mem_of_mem_take (List.mem_of_mem_drop hr))) | (intro r hr; simp at hr; obtain ⟨a, _, rfl⟩ := hr; rfl)) (by have hb : Try.t30.bytes = 40 := rfl; rw [hb]; first | omega | (simp; done) | (simp; omega)) (by first | omega | (simp; omega) | simp) ((A ++ B).map Rp.cv) (A ++ B).length (cutABR hAB) (by simp; omega) ?_)
    refine ⟨trivial, ?_⟩
    refine ctl_h rfl (hop_y rfl (y_build' #[(0, 1)] rfl ⟨trivial, trivial⟩ Try.runUnderlying46 Try.zeroValue46 rfl ⟨_, rfl⟩ (fun w => by kernel_rfl) rfl rfl)) ⟨trivial, ?_⟩
    refine ctl_d rfl rfl (d_store rfl trivial trivial rfl (by conv => lhs; whnf) Try.sizeOf46 (.inr ⟨_, rfl⟩) rfl rfl (Nat.le_of_ble_eq_true rfl) ?_)
    refine ⟨trivial, ?_⟩
    refine ctl_h rfl (hop_y rfl (y_assign rfl rfl (by conv => lhs; whnf))) ⟨trivial, ?_⟩
    refine ctl_nil ?_
    refine cw_ret ?_
    exact ⟨_, res_all (rs := [.cell 4 46, .tmp 5]) (cs := [_, _]) rfl ⟨⟨trivial, _, _, _, rfl, rfl, .inr ⟨_, Try.isAgg46, Try.sizeOf46, Nat.le_of_ble_eq_true rfl, rfl⟩⟩, ⟨trivial, (by conv => lhs; whnf)⟩, trivial⟩ (Nat.ne_of_beq_eq_false rfl), _, _, rfl, rfl, (by rw [rackS, if_pos ⟨hyes, hin⟩, her]; exact .tups ⟨.aggs ⟨.tok (fun r hr c hc => (rows_pure (f := Rp.cv) (fun _ => Pures.all ⟨.val _, .val _, .val _, .val _, .val _, trivial⟩) _) r hr c hc), trivial⟩, .old (.val _), trivial⟩)⟩

theorem rd_Ack_s (b : Bx) (x : Rp) (hl : b.pend.length ≤ 1000000000) (σ : List CObj) : CCalls CC 29 [.agg b.cells, .agg x.cells] σ fun r σ' => r = .ret (.tup [.agg (rackS (pb (WhP b.pend)) b x).1.cells, (.val (.bool ((rackS (pb (WhP b.pend)) b x).2)))]) ∧ σ' = σ :=
  CCalls.anyw hCC (by repeat' (first | exact .val _ | exact pure_lts _ _ | exact pure_rps _ _ | exact pure_ints _ _ | exact trivial | refine pure_agg ?_ | refine pure_tup ?_ | refine ⟨?_, ?_⟩)) (by repeat' (first | exact .val _ | exact pure_lts _ _ | exact pure_rps _ _ | exact pure_ints _ _ | exact trivial | refine pure_agg ?_ | refine pure_tup ?_ | refine ⟨?_, ?_⟩)) (rd_Ack b x hl) σ

set_option maxRecDepth 10000 in
theorem rd_SameBox (a b : Bx) (hl : a.pend.length ≤ maxLen) : CCalls CC 27 [.agg a.cells, .agg b.cells] [] fun r σ' => r = .ret (.val (.bool (decide (a.pend = b.pend)))) ∧ σ' = [] := by
  unfold maxLen at hl
  refine ccalls_val (ccalls_of Try.func27 rfl rfl ?_)
  refine cw_seq ?_
  refine cw_region ?_
  refine co_d rfl rfl (d_box rfl trivial (by conv => lhs; whnf) (.inr ⟨_, rfl⟩) ?_)
  refine co_d rfl rfl (d_box rfl trivial (by conv => lhs; whnf) (.inr ⟨_, rfl⟩) ?_)
  refine co_y rfl rfl (y_assign rfl rfl (by conv => lhs; whnf)) ?_
  refine co_nil ?_
  refine cw_seq ?_
  refine cw_seq ?_
  refine cw_region ?_
  refine co_y rfl rfl (y_field rfl trivial rfl Try.runUnderlying46 rfl Try.sizeOf44 (by decide)) ?_
  refine co_y rfl rfl (y_load1 rfl trivial rfl Try.isAgg44 rfl rfl) ?_
  refine co_y rfl rfl (y_len rfl trivial rfl Try.runUnderlying44 (by first | exact len_map _ _ | rfl) rfl) ?_
  refine co_y rfl rfl (y_field rfl trivial rfl Try.runUnderlying46 rfl Try.sizeOf44 (by decide)) ?_
  refine co_y rfl rfl (y_load1 rfl trivial rfl Try.isAgg44 rfl rfl) ?_
  refine co_y rfl rfl (y_len rfl trivial rfl Try.runUnderlying44 (by first | exact len_map _ _ | rfl) rfl) ?_
  refine co_y rfl rfl (y_int rfl trivial trivial rfl rfl rfl) ?_
  refine co_nil ?_
  refine cw_cond trivial rfl (fun h1 => ?_) (fun h1 => ?_)
  · have hx : ¬ a.pend = b.pend := fun g2 => by
      rw [g2] at h1
      simp at h1
    refine cw_seq ?_
    refine cw_region ?_
    refine co_y rfl rfl (y_assign rfl rfl (by conv => lhs; whnf)) ?_
    refine co_nil ?_
    refine cw_ret ?_
    exact ⟨_, res1 rfl trivial (by conv => lhs; whnf), _, _, rfl, rfl, cls_bool (decide_eq_false hx).symm⟩
  · have hx : a.pend.length = b.pend.length := by simp at h1; omega
    refine cw_skip ?_
    refine cw_seq ?_
    refine cw_seq ?_
    refine cw_region ?_
    refine co_y rfl rfl (y_assign rfl rfl (by conv => lhs; whnf)) ?_
    refine co_nil ?_
    refine cw_block ?_
    refine cw_loopd hCC (α := Nat) (fun i => [(2, .ptr 0 0), (3, .ptr 1 0), (5, (.val (.int .i64 ((i : Int)))))]) (fun _ => [.box a.cells, .box b.cells]) (fun i => i ≤ a.pend.length ∧ ∀ j, j < i → a.pend[j]? = b.pend[j]?) (fun i => a.pend.length - i) 0 ⟨Nat.zero_le _, fun j hj => absurd hj (Nat.not_lt_zero j)⟩ ⟨⟨trivial, rfl⟩, ⟨trivial, rfl⟩, ⟨trivial, rfl⟩, trivial⟩ (extra0 := []) rfl (fun _ _ => Nat.le_of_ble_eq_true rfl) (fun a ha => by repeat' (first | exact trivial | exact .val _ | exact .ptr (Nat.le_of_ble_eq_true rfl) | exact .map (Nat.le_of_ble_eq_true rfl) | exact (by first | exact old_lts _ _ _ | exact old_rps _ _ _ | exact old_ints _ _ _) | refine old_box ?_ | refine ⟨?_, ?_⟩)) ?_
    intro i ⟨hi, hp⟩
    refine cw_seq ?_
    refine cw_seq ?_
    refine cw_region ?_
    refine co_y rfl rfl (y_move rfl trivial (by conv => lhs; whnf)) ?_
    refine co_y rfl rfl (y_field rfl trivial rfl Try.runUnderlying46 rfl Try.sizeOf44 (by decide)) ?_
    refine co_y rfl rfl (y_load1 rfl trivial rfl Try.isAgg44 rfl rfl) ?_
    refine co_y rfl rfl (y_len rfl trivial rfl Try.runUnderlying44 (by first | exact len_map _ _ | rfl) rfl) ?_
    refine co_y rfl rfl (y_int rfl trivial trivial rfl rfl rfl) ?_
    refine co_nil ?_
    refine cw_cond trivial rfl (fun h2 => ?_) (fun h2 => ?_)
    · have hlt : (i : Int) < a.pend.length := by simpa using h2
      obtain ⟨x, hbx⟩ : ∃ x, a.pend[i]? = some x := ⟨a.pend[i]'(by omega), by simp⟩
      obtain ⟨y, hby⟩ : ∃ y, b.pend[i]? = some y := ⟨b.pend[i]'(by omega), by simp⟩
      refine cw_skip ?_
      refine cw_seq ?_
      refine cw_block ?_
      refine cw_seq ?_
      refine cw_draw 11 [0, 1, 0, 7, 15, 0, 32, 0, 224, 480, 1023] (by kernel_rfl) (by kernel_rfl) rfl ?_
      refine ch_y rfl (y_field rfl trivial rfl Try.runUnderlying46 rfl Try.sizeOf44 (by decide)) ?_
      refine ch_y rfl (y_load1 rfl trivial rfl Try.isAgg44 rfl rfl) ?_
      refine ch_y rfl (y_move rfl trivial (by conv => lhs; whnf)) ?_
      refine ch_y rfl (y_index rfl trivial trivial rfl rfl Try.runUnderlying44 Try.sizeOf30 (by omega) (rows_get hbx) rfl) ?_
      refine ch_y rfl (y_load_c rfl trivial rfl Try.isAgg30 Try.sizeOf30 (Nat.le_of_ble_eq_true rfl)) ?_
      refine ch_y rfl (y_field rfl trivial rfl Try.runUnderlying46 rfl Try.sizeOf44 (by decide)) ?_
      refine ch_y rfl (y_load1 rfl trivial rfl Try.isAgg44 rfl rfl) ?_
      refine ch_y rfl (y_move rfl trivial (by conv => lhs; whnf)) ?_
      refine ch_y rfl (y_index rfl trivial trivial rfl rfl Try.runUnderlying44 Try.sizeOf30 (by omega) (rows_get hby) rfl) ?_
      refine ch_y rfl (y_load_c rfl trivial rfl Try.isAgg30 Try.sizeOf30 (Nat.le_of_ble_eq_true rfl)) ?_
      refine ch_y rfl (y_nes rfl trivial trivial (xs := [.int .i64 (x).t, .int .i64 (x).a, .int .i64 (x).m, .int .i64 (x).e, .int .i64 (x).o]) (ys := [.int .i64 (y).t, .int .i64 (y).a, .int .i64 (y).m, .int .i64 (y).e, .int .i64 (y).o]) rfl rfl Try.eqGuardType30 (eq_rp x y)) ?_
      refine ch_nil ?_
      refine co_nil ?_
      refine cw_cond trivial rfl (fun h3 => ?_) (fun h3 => ?_)
      · have hxy : ¬ x = y := by simpa using h3
        have hno : ¬ a.pend = b.pend := fun g => hxy (by rw [g, hby] at hbx; exact (Option.some.inj hbx).symm)
        refine cw_seq ?_
        refine cw_region ?_
        refine co_y rfl rfl (y_assign rfl rfl (by conv => lhs; whnf)) ?_
        refine co_nil ?_
        refine cw_ret ?_
        exact ⟨_, res1 rfl trivial (by conv => lhs; whnf), _, _, rfl, rfl, cls_bool (decide_eq_false hno).symm⟩
      · have hxy : x = y := by simpa using h3
        refine cw_skip ?_
        refine cw_region ?_
        refine co_y rfl rfl (y_move rfl trivial (by conv => lhs; whnf)) ?_
        refine co_y rfl rfl (y_add rfl trivial rfl rfl rfl (by omega) (by omega)) ?_
        refine co_y rfl rfl (y_assign rfl trivial (by conv => lhs; whnf)) ?_
        refine co_nil ?_
        exact ⟨(i + 1), _, ⟨by omega, by omega, fun j hj => by
        rcases Nat.lt_or_ge j i with h | h
        · exact hp j h
        · obtain rfl : j = i := by omega
          rw [hbx, hby, hxy]⟩, ⟨⟨trivial, rfl⟩, ⟨trivial, rfl⟩, ⟨trivial, rfl⟩, trivial⟩, rfl⟩
    · have hge : a.pend.length ≤ i := by
        have : ¬ (i : Int) < a.pend.length := by simpa using h2
        omega
      refine cw_exit ?_
      refine cw_seq ?_
      refine cw_region ?_
      refine co_y rfl rfl (y_assign rfl rfl (by conv => lhs; whnf)) ?_
      refine co_nil ?_
      refine cw_ret ?_
      exact ⟨_, res1 rfl trivial (by conv => lhs; whnf), _, _, rfl, rfl, cls_bool (decide_eq_true (ext_take hx hp hge)).symm⟩

theorem rd_SameBox_s (a b : Bx) (hl : a.pend.length ≤ maxLen) (σ : List CObj) : CCalls CC 27 [.agg a.cells, .agg b.cells] σ fun r σ' => r = .ret (.val (.bool (decide (a.pend = b.pend)))) ∧ σ' = σ :=
  CCalls.anyw hCC (by repeat' (first | exact .val _ | exact pure_lts _ _ | exact pure_rps _ _ | exact pure_ints _ _ | exact trivial | refine pure_agg ?_ | refine pure_tup ?_ | refine ⟨?_, ?_⟩)) (by repeat' (first | exact .val _ | exact pure_lts _ _ | exact pure_rps _ _ | exact pure_ints _ _ | exact trivial | refine pure_agg ?_ | refine pure_tup ?_ | refine ⟨?_, ?_⟩)) (rd_SameBox a b hl) σ

/-- Reports are sent one by one; how many were. -/
noncomputable def sendsS (n : Net) : List Rp → Nat → Net × Int
  | [], i => (n, i)
  | x :: l, i => if (sendS (pb (CkP n)) (pb (RightP x)) n x).2 = 0 then sendsS (sendS (pb (CkP n)) (pb (RightP x)) n x).1 l (i + 1) else (n, i)
noncomputable def resS (c w : Bool) (n : Net) (b : Bx) : Net × Int × Int :=
  if c = false ∨ w = false then (zeroN, 0, 1) else ((sendsS n b.pend 0).1, (sendsS n b.pend 0).2, 0)
theorem sendsS_step {l : List Rp} {i : Nat} {x : Rp} (h : l[i]? = some x) (n : Net) : sendsS n (l.drop i) i = if (sendS (pb (CkP n)) (pb (RightP x)) n x).2 = 0 then sendsS (sendS (pb (CkP n)) (pb (RightP x)) n x).1 (l.drop (i + 1)) (i + 1) else (n, i) := by
  obtain ⟨hlt, rfl⟩ := List.getElem?_eq_some_iff.1 h
  rw [List.drop_eq_getElem_cons hlt]
  rfl
theorem send_len {c r : Bool} {n : Net} {x : Rp} {n1 : Net} {e1 : Int} (hs : sendS c r n x = (n1, e1)) (hc : c = pb (CkP n)) (hr : r = pb (RightP x)) : n1.fly.length ≤ 64 := by
  subst hc hr
  exact (send_same (w := n) rfl hs).2.1

set_option maxRecDepth 10000 in
theorem de_Resend (n : Net) (b : Bx) (hnn : n.nn = false → n.fly = []) (hl : n.fly.length ≤ maxLen) (hb : b.pend.length ≤ maxLen) : CCalls CC 17 [.agg n.cells, .agg b.cells] [] fun r σ' => r = .ret (.tup [.agg (resS (pb (CkP n)) (pb (WhP b.pend)) n b).1.cells, (.val (.int .i64 ((resS (pb (CkP n)) (pb (WhP b.pend)) n b).2.1))), (.val (.int .i64 ((resS (pb (CkP n)) (pb (WhP b.pend)) n b).2.2)))]) ∧ σ' = [] := by
  have hbm := hb
  unfold maxLen at hb
  refine ccalls_val (ccalls_of Try.func17 rfl rfl ?_)
  refine cw_seq ?_
  refine cw_region ?_
  refine co_d rfl rfl (d_box rfl trivial (by conv => lhs; whnf) (.inr ⟨_, rfl⟩) ?_)
  refine co_d rfl rfl (d_box rfl trivial (by conv => lhs; whnf) (.inr ⟨_, rfl⟩) ?_)
  refine co_d rfl rfl (d_alloc rfl Try.zeroValue25 rfl (.inr ⟨_, rfl⟩) ?_)
  refine co_y rfl rfl (y_assign rfl rfl (by conv => lhs; whnf)) ?_
  refine co_y rfl rfl (y_assign rfl rfl (by conv => lhs; whnf)) ?_
  refine co_nil ?_
  refine cw_seq ?_
  refine cw_seq ?_
  refine cw_region ?_
  refine co_y rfl rfl (y_load rfl trivial rfl Try.isAgg25 Try.sizeOf25 rfl (Nat.le_of_ble_eq_true rfl)) ?_
  refine co_y rfl rfl (y_callf rfl Try.call14 ⟨trivial, trivial⟩ (de_Check_s n hl _) rfl) ?_
  refine co_y rfl rfl (y_not rfl trivial rfl) ?_
  refine co_y rfl rfl (y_move rfl trivial (by conv => lhs; whnf)) ?_
  refine co_g rfl rfl trivial rfl rfl (fun hg => y_load rfl trivial rfl Try.isAgg46 Try.sizeOf46 rfl (Nat.le_of_ble_eq_true rfl)) ?_
  refine co_g rfl rfl trivial rfl rfl (fun hg => y_callf rfl Try.call21 ⟨hg, trivial⟩ (de_WholeB_s b hb _) rfl) ?_
  refine co_g rfl rfl trivial rfl rfl (fun hg => y_not rfl hg rfl) ?_
  refine co_y rfl rfl (y_pick_or rfl trivial rfl (fun hp => hp) (fun _ => rfl)) ?_
  refine co_nil ?_
  refine cw_cond trivial rfl (fun h1 => ?_) (fun h1 => ?_)
  · have hc : pb (CkP n) = false ∨ pb (WhP b.pend) = false := by simpa using h1
    refine cw_seq ?_
    refine cw_region ?_
    refine co_y rfl rfl (y_build' #[(0, 1), (1, 1)] rfl trivial Try.runUnderlying25 Try.zeroValue25 rfl ⟨_, rfl⟩ (fun w => by kernel_rfl) rfl rfl) ?_
    refine co_d rfl rfl (d_store rfl trivial trivial rfl (by conv => lhs; whnf) Try.sizeOf25 (.inr ⟨_, rfl⟩) rfl rfl (Nat.le_of_ble_eq_true rfl) ?_)
    refine co_y rfl rfl (y_assign rfl rfl (by conv => lhs; whnf)) ?_
    refine co_y rfl rfl (y_assign rfl rfl (by conv => lhs; whnf)) ?_
    refine co_nil ?_
    refine cw_ret ?_
    exact ⟨_, res_all (rs := [.cell 4 25, .tmp 5, .tmp 6]) (cs := [_, _, _]) rfl ⟨⟨trivial, _, _, _, rfl, rfl, .inr ⟨_, Try.isAgg25, Try.sizeOf25, Nat.le_of_ble_eq_true rfl, rfl⟩⟩, ⟨trivial, (by conv => lhs; whnf)⟩, ⟨trivial, (by conv => lhs; whnf)⟩, trivial⟩ (Nat.ne_of_beq_eq_false rfl), _, _, rfl, rfl, (cls_eq (by rw [resS, if_pos hc]; rfl) (by repeat' (first | exact .val _ | exact pure_lts _ _ | exact pure_rps _ _ | exact pure_ints _ _ | exact trivial | refine pure_agg ?_ | refine pure_tup ?_ | refine ⟨?_, ?_⟩)))⟩
  · have hc : ¬ (pb (CkP n) = false ∨ pb (WhP b.pend) = false) := by simpa using h1
    have hck : CkP n := pb_eq.1 (by simp at hc; exact hc.1)
    have hlen := hck.len
    have hml := ck_max hck
    refine cw_skip ?_
    refine cw_seq ?_
    refine cw_region ?_
    refine co_y rfl rfl (y_field rfl trivial rfl Try.runUnderlying25 rfl Try.sizeOf23 (by decide)) ?_
    refine co_y rfl rfl (y_load1 rfl trivial rfl Try.isAgg23 rfl rfl) ?_
    refine co_y rfl rfl (y_callf rfl Try.call33 ⟨trivial, trivial⟩ (clone_L n.fly n.nn hnn (by omega) _) rfl) ?_
    refine co_y rfl rfl (y_field rfl trivial rfl Try.runUnderlying25 rfl Try.sizeOf23 (by decide)) ?_
    refine co_d rfl rfl (d_store rfl trivial trivial rfl (by conv => lhs; whnf) Try.sizeOf23 (.inl rfl) rfl rfl (Nat.le_of_ble_eq_true rfl) ?_)
    refine co_nil ?_
    refine cw_seq ?_
    refine cw_seq ?_
    refine cw_region ?_
    refine co_y rfl rfl (y_field rfl trivial rfl Try.runUnderlying46 rfl Try.sizeOf44 (by decide)) ?_
    refine co_y rfl rfl (y_load1 rfl trivial rfl Try.isAgg44 rfl rfl) ?_
    refine co_y rfl rfl (y_len rfl trivial rfl Try.runUnderlying44 (by first | exact len_map _ _ | rfl) rfl) ?_
    refine co_y rfl rfl (y_move rfl rfl (by conv => lhs; whnf)) ?_
    refine co_nil ?_
    refine cw_block ?_
    refine cw_loopd hCC (α := Nat × Net) (fun x => [(2, .ptr 0 0), (3, .ptr 1 0), (4, .ptr 2 0), (25, (.list (b.pend.map Rp.cv) b.nn none)), (26, (.val (.int .i64 ((b.pend.length : Int))))), (27, (.val (.int .i64 ((x.1 : Int)))))]) (fun x => [.box x.2.cells, .box b.cells, .box zeroN.cells]) (fun x => x.1 ≤ b.pend.length ∧ x.2.fly.length ≤ maxLen ∧ sendsS n b.pend 0 = sendsS x.2 (b.pend.drop x.1) x.1) (fun x => b.pend.length - x.1) (0, n) ⟨Nat.zero_le _, hml, rfl⟩ ⟨⟨trivial, rfl⟩, ⟨trivial, rfl⟩, ⟨trivial, rfl⟩, ⟨trivial, rfl⟩, ⟨trivial, rfl⟩, ⟨trivial, rfl⟩, trivial⟩ (extra0 := []) rfl (fun _ _ => Nat.le_of_ble_eq_true rfl) (fun a ha => by repeat' (first | exact trivial | exact .val _ | exact .ptr (Nat.le_of_ble_eq_true rfl) | exact .map (Nat.le_of_ble_eq_true rfl) | exact (by first | exact old_lts _ _ _ | exact old_rps _ _ _ | exact old_ints _ _ _) | refine old_box ?_ | refine ⟨?_, ?_⟩)) ?_
    intro ⟨i, m⟩ ⟨hi, hm, hs⟩
    dsimp only at hi hm hs ⊢
    refine cw_seq ?_
    refine cw_region ?_
    refine co_y rfl rfl (y_int rfl trivial trivial rfl rfl rfl) ?_
    refine co_nil ?_
    refine cw_seq ?_
    refine cw_cond trivial rfl (fun h2 => ?_) (fun h2 => ?_)
    · have hlt : (i : Int) < b.pend.length := by simpa using h2
      obtain ⟨x, hb⟩ : ∃ x, b.pend[i]? = some x := ⟨b.pend[i]'(by omega), by simp⟩
      rw [sendsS_step hb] at hs
      obtain ⟨m1, e1, hsd⟩ : ∃ m1 e1, sendS (pb (CkP m)) (pb (RightP x)) m x = (m1, e1) := ⟨_, _, rfl⟩
      rw [hsd] at hs
      refine cw_skip ?_
      refine cw_seq ?_
      refine cw_block ?_
      refine cw_seq ?_
      refine cw_region ?_
      refine co_y rfl rfl (y_move rfl trivial (by conv => lhs; whnf)) ?_
      refine co_y rfl rfl (y_index rfl trivial trivial rfl rfl Try.runUnderlying44 Try.sizeOf30 (by omega) (rows_get hb) rfl) ?_
      refine co_y rfl rfl (y_load_c rfl trivial rfl Try.isAgg30 Try.sizeOf30 (Nat.le_of_ble_eq_true rfl)) ?_
      refine co_d rfl rfl (d_alloc rfl Try.zeroValue30 rfl (.inr ⟨_, rfl⟩) ?_)
      refine co_y rfl rfl (y_assign rfl trivial (by conv => lhs; whnf)) ?_
      refine co_d rfl rfl (d_store rfl trivial trivial rfl (by conv => lhs; whnf) Try.sizeOf30 (.inr ⟨_, rfl⟩) rfl rfl (Nat.le_of_ble_eq_true rfl) ?_)
      refine co_nil ?_
      refine cw_seq ?_
      refine cw_region ?_
      refine co_y rfl rfl (y_load rfl trivial rfl Try.isAgg25 Try.sizeOf25 rfl (Nat.le_of_ble_eq_true rfl)) ?_
      refine co_y rfl rfl (y_load rfl trivial rfl Try.isAgg30 Try.sizeOf30 rfl (Nat.le_of_ble_eq_true rfl)) ?_
      refine co_y rfl rfl (y_callf rfl Try.call9 ⟨trivial, trivial, trivial⟩ (de_Send_r hsd hm _) rfl) ?_
      refine co_y rfl rfl (y_move rfl trivial (by conv => lhs; whnf)) ?_
      refine co_y rfl rfl (y_extract rfl trivial rfl rfl) ?_
      refine co_y rfl rfl (y_extract rfl trivial rfl rfl) ?_
      refine co_d rfl rfl (d_alloc rfl Try.zeroValue25 rfl (.inr ⟨_, rfl⟩) ?_)
      refine co_d rfl rfl (d_store rfl trivial trivial rfl (by conv => lhs; whnf) Try.sizeOf25 (.inr ⟨_, rfl⟩) rfl rfl (Nat.le_of_ble_eq_true rfl) ?_)
      refine co_y rfl rfl (y_assign rfl trivial (by conv => lhs; whnf)) ?_
      refine co_nil ?_
      refine cw_seq ?_
      refine cw_seq ?_
      refine cw_region ?_
      refine co_y rfl rfl (y_move rfl trivial (by conv => lhs; whnf)) ?_
      refine co_y rfl rfl (y_int rfl trivial rfl rfl rfl rfl) ?_
      refine co_nil ?_
      refine cw_cond trivial rfl (fun h3 => ?_) (fun h3 => ?_)
      · have he : ¬ e1 = 0 := by simpa using h3
        rw [if_neg he] at hs
        refine cw_seq ?_
        refine cw_region ?_
        refine co_y rfl rfl (y_load rfl trivial rfl Try.isAgg25 Try.sizeOf25 rfl (Nat.le_of_ble_eq_true rfl)) ?_
        refine co_y rfl rfl (y_move rfl trivial (by conv => lhs; whnf)) ?_
        refine co_d rfl rfl (d_store rfl trivial trivial rfl (by conv => lhs; whnf) Try.sizeOf25 (.inr ⟨_, rfl⟩) rfl rfl (Nat.le_of_ble_eq_true rfl) ?_)
        refine co_y rfl rfl (y_assign rfl trivial (by conv => lhs; whnf)) ?_
        refine co_y rfl rfl (y_assign rfl rfl (by conv => lhs; whnf)) ?_
        refine co_nil ?_
        refine cw_ret ?_
        exact ⟨_, res_all (rs := [.cell 4 25, .tmp 5, .tmp 6]) (cs := [_, _, _]) rfl ⟨⟨trivial, _, _, _, rfl, rfl, .inr ⟨_, Try.isAgg25, Try.sizeOf25, Nat.le_of_ble_eq_true rfl, rfl⟩⟩, ⟨trivial, (by conv => lhs; whnf)⟩, ⟨trivial, (by conv => lhs; whnf)⟩, trivial⟩ (Nat.ne_of_beq_eq_false rfl), _, _, rfl, rfl, (cls_eq (by rw [resS, if_neg hc, hs]; rfl) (by repeat' (first | exact .val _ | exact pure_lts _ _ | exact pure_rps _ _ | exact pure_ints _ _ | exact trivial | refine pure_agg ?_ | refine pure_tup ?_ | refine ⟨?_, ?_⟩)))⟩
      · have he : e1 = 0 := by simpa using h3
        rw [if_pos he] at hs
        have hm1 := send_len hsd rfl rfl
        refine cw_skip ?_
        refine cw_region ?_
        refine co_y rfl rfl (y_load rfl trivial rfl Try.isAgg25 Try.sizeOf25 rfl (Nat.le_of_ble_eq_true rfl)) ?_
        refine co_d rfl rfl (d_store rfl trivial trivial rfl (by conv => lhs; whnf) Try.sizeOf25 (.inr ⟨_, rfl⟩) rfl rfl (Nat.le_of_ble_eq_true rfl) ?_)
        refine co_nil ?_
        refine cw_region ?_
        refine co_y rfl rfl (y_add rfl trivial rfl rfl rfl (by omega) (by omega)) ?_
        refine co_y rfl rfl (y_move rfl trivial (by conv => lhs; whnf)) ?_
        refine co_nil ?_
        exact ⟨(i + 1, m1), _, ⟨by show _ - (i + 1) < _; omega, by show i + 1 ≤ _; omega, by show m1.fly.length ≤ maxLen; unfold maxLen; omega, hs⟩, ⟨⟨trivial, rfl⟩, ⟨trivial, rfl⟩, ⟨trivial, rfl⟩, ⟨trivial, rfl⟩, ⟨trivial, rfl⟩, ⟨trivial, rfl⟩, trivial⟩, rfl⟩
    · have hge : i = b.pend.length := by
        have : ¬ (i : Int) < b.pend.length := by simpa using h2
        omega
      rw [hge, List.drop_length] at hs
      refine cw_exit ?_
      refine cw_seq ?_
      refine cw_float [0, 1, 2, 3, 4, 5, 6] 4 [0, 0, 2, 6, 1, 31, 63] [[1, 2, 3], [], []] (hd1l := [0, 1, 2, 3]) (tll := [(4, [1, 2, 3]), (5, []), (6, [])]) (by kernel_rfl) (by kernel_rfl) rfl rfl rfl ?_
      refine chf rfl (hop_y rfl (y_load rfl trivial rfl Try.isAgg25 Try.sizeOf25 rfl (Nat.le_of_ble_eq_true rfl))) ?_
      refine chf rfl (hop_y rfl (y_field rfl trivial rfl Try.runUnderlying46 rfl Try.sizeOf44 (by decide))) ?_
      refine chf rfl (hop_y rfl (y_load1 rfl trivial rfl Try.isAgg44 rfl rfl)) ?_
      refine chf rfl (hop_y rfl (y_len rfl trivial rfl Try.runUnderlying44 (by first | exact len_map _ _ | rfl) rfl)) ?_
      refine chf_nil ?_
      refine ctl_d rfl rfl (d_store rfl trivial trivial rfl (by conv => lhs; whnf) Try.sizeOf25 (.inr ⟨_, rfl⟩) rfl rfl (Nat.le_of_ble_eq_true rfl) ?_)
      refine ⟨⟨(by exact hop_y rfl (y_field rfl trivial rfl Try.runUnderlying46 rfl Try.sizeOf44 (by decide))), (by exact hop_y rfl (y_load1 rfl trivial rfl Try.isAgg44 rfl rfl)), (by exact hop_y rfl (y_len rfl trivial rfl Try.runUnderlying44 (by first | exact len_map _ _ | rfl) rfl)), trivial⟩, ?_⟩
      refine ctl_h rfl (hop_y rfl (y_assign rfl trivial (by conv => lhs; whnf))) ⟨trivial, ?_⟩
      refine ctl_h rfl (hop_y rfl (y_assign rfl rfl (by conv => lhs; whnf))) ⟨trivial, ?_⟩
      refine ctl_nil ?_
      refine cw_ret ?_
      exact ⟨_, res_all (rs := [.cell 4 25, .tmp 5, .tmp 6]) (cs := [_, _, _]) rfl ⟨⟨trivial, _, _, _, rfl, rfl, .inr ⟨_, Try.isAgg25, Try.sizeOf25, Nat.le_of_ble_eq_true rfl, rfl⟩⟩, ⟨trivial, (by conv => lhs; whnf)⟩, ⟨trivial, (by conv => lhs; whnf)⟩, trivial⟩ (Nat.ne_of_beq_eq_false rfl), _, _, rfl, rfl, (cls_eq (by rw [resS, if_neg hc, hs]; rfl) (by repeat' (first | exact .val _ | exact pure_lts _ _ | exact pure_rps _ _ | exact pure_ints _ _ | exact trivial | refine pure_agg ?_ | refine pure_tup ?_ | refine ⟨?_, ?_⟩)))⟩

theorem de_Resend_s (n : Net) (b : Bx) (hnn : n.nn = false → n.fly = []) (hl : n.fly.length ≤ maxLen) (hb : b.pend.length ≤ maxLen) (σ : List CObj) : CCalls CC 17 [.agg n.cells, .agg b.cells] σ fun r σ' => r = .ret (.tup [.agg (resS (pb (CkP n)) (pb (WhP b.pend)) n b).1.cells, (.val (.int .i64 ((resS (pb (CkP n)) (pb (WhP b.pend)) n b).2.1))), (.val (.int .i64 ((resS (pb (CkP n)) (pb (WhP b.pend)) n b).2.2)))]) ∧ σ' = σ :=
  CCalls.anyw hCC (by repeat' (first | exact .val _ | exact pure_lts _ _ | exact pure_rps _ _ | exact pure_ints _ _ | exact trivial | refine pure_agg ?_ | refine pure_tup ?_ | refine ⟨?_, ?_⟩)) (by repeat' (first | exact .val _ | exact pure_lts _ _ | exact pure_rps _ _ | exact pure_ints _ _ | exact trivial | refine pure_agg ?_ | refine pure_tup ?_ | refine ⟨?_, ?_⟩)) (de_Resend n b hnn hl hb) σ

set_option maxRecDepth 10000 in
theorem rd_Resend (n : Net) (b : Bx) (hl : n.fly.length ≤ maxLen) (hb : b.pend.length ≤ maxLen) : CCalls CC 18 [.agg n.cells, .agg b.cells] [] fun r σ' => r = .ret (.tup [.agg (resS (pb (CkP n)) (pb (WhP b.pend)) n b).1.cells, (.val (.int .i64 ((resS (pb (CkP n)) (pb (WhP b.pend)) n b).2.1))), (.val (.int .i64 ((resS (pb (CkP n)) (pb (WhP b.pend)) n b).2.2)))]) ∧ σ' = [] := by
  have hbm := hb
  unfold maxLen at hb
  refine ccalls_val (ccalls_of Try.func18 rfl rfl ?_)
  refine cw_seq ?_
  refine cw_region ?_
  refine co_d rfl rfl (d_box rfl trivial (by conv => lhs; whnf) (.inr ⟨_, rfl⟩) ?_)
  refine co_d rfl rfl (d_box rfl trivial (by conv => lhs; whnf) (.inr ⟨_, rfl⟩) ?_)
  refine co_d rfl rfl (d_alloc rfl Try.zeroValue25 rfl (.inr ⟨_, rfl⟩) ?_)
  refine co_y rfl rfl (y_assign rfl rfl (by conv => lhs; whnf)) ?_
  refine co_y rfl rfl (y_assign rfl rfl (by conv => lhs; whnf)) ?_
  refine co_nil ?_
  refine cw_seq ?_
  refine cw_seq ?_
  refine cw_region ?_
  refine co_y rfl rfl (y_load rfl trivial rfl Try.isAgg25 Try.sizeOf25 rfl (Nat.le_of_ble_eq_true rfl)) ?_
  refine co_y rfl rfl (y_callf rfl Try.call20 ⟨trivial, trivial⟩ (rd_Check_s n hl _) rfl) ?_
  refine co_y rfl rfl (y_not rfl trivial rfl) ?_
  refine co_y rfl rfl (y_move rfl trivial (by conv => lhs; whnf)) ?_
  refine co_g rfl rfl trivial rfl rfl (fun hg => y_load rfl trivial rfl Try.isAgg46 Try.sizeOf46 rfl (Nat.le_of_ble_eq_true rfl)) ?_
  refine co_g rfl rfl trivial rfl rfl (fun hg => y_callf rfl Try.call22 ⟨hg, trivial⟩ (rd_WholeB_s b hb _) rfl) ?_
  refine co_g rfl rfl trivial rfl rfl (fun hg => y_not rfl hg rfl) ?_
  refine co_y rfl rfl (y_pick_or rfl trivial rfl (fun hp => hp) (fun _ => rfl)) ?_
  refine co_nil ?_
  refine cw_cond trivial rfl (fun h1 => ?_) (fun h1 => ?_)
  · have hc : pb (CkP n) = false ∨ pb (WhP b.pend) = false := by simpa using h1
    refine cw_seq ?_
    refine cw_region ?_
    refine co_y rfl rfl (y_build' #[(0, 1), (1, 1)] rfl trivial Try.runUnderlying25 Try.zeroValue25 rfl ⟨_, rfl⟩ (fun w => by kernel_rfl) rfl rfl) ?_
    refine co_d rfl rfl (d_store rfl trivial trivial rfl (by conv => lhs; whnf) Try.sizeOf25 (.inr ⟨_, rfl⟩) rfl rfl (Nat.le_of_ble_eq_true rfl) ?_)
    refine co_y rfl rfl (y_assign rfl rfl (by conv => lhs; whnf)) ?_
    refine co_y rfl rfl (y_assign rfl rfl (by conv => lhs; whnf)) ?_
    refine co_nil ?_
    refine cw_ret ?_
    exact ⟨_, res_all (rs := [.cell 4 25, .tmp 5, .tmp 6]) (cs := [_, _, _]) rfl ⟨⟨trivial, _, _, _, rfl, rfl, .inr ⟨_, Try.isAgg25, Try.sizeOf25, Nat.le_of_ble_eq_true rfl, rfl⟩⟩, ⟨trivial, (by conv => lhs; whnf)⟩, ⟨trivial, (by conv => lhs; whnf)⟩, trivial⟩ (Nat.ne_of_beq_eq_false rfl), _, _, rfl, rfl, (cls_eq (by rw [resS, if_pos hc]; rfl) (by repeat' (first | exact .val _ | exact pure_lts _ _ | exact pure_rps _ _ | exact pure_ints _ _ | exact trivial | refine pure_agg ?_ | refine pure_tup ?_ | refine ⟨?_, ?_⟩)))⟩
  · have hc : ¬ (pb (CkP n) = false ∨ pb (WhP b.pend) = false) := by simpa using h1
    have hck : CkP n := pb_eq.1 (by simp at hc; exact hc.1)
    have hlen := hck.len
    have hml := ck_max hck
    refine cw_skip ?_
    refine cw_seq ?_
    refine cw_seq ?_
    refine cw_region ?_
    refine co_y rfl rfl (y_assign rfl rfl (by conv => lhs; whnf)) ?_
    refine co_nil ?_
    refine cw_block ?_
    refine cw_loopd hCC (α := Nat × Net) (fun x => [(2, .ptr 0 0), (3, .ptr 1 0), (4, .ptr 2 0), (7, (.val (.int .i64 ((x.1 : Int)))))]) (fun x => [.box x.2.cells, .box b.cells, .box zeroN.cells]) (fun x => x.1 ≤ b.pend.length ∧ x.2.fly.length ≤ maxLen ∧ sendsS n b.pend 0 = sendsS x.2 (b.pend.drop x.1) x.1) (fun x => b.pend.length - x.1) (0, n) ⟨Nat.zero_le _, hml, rfl⟩ ⟨⟨trivial, rfl⟩, ⟨trivial, rfl⟩, ⟨trivial, rfl⟩, ⟨trivial, rfl⟩, trivial⟩ (extra0 := []) rfl (fun _ _ => Nat.le_of_ble_eq_true rfl) (fun a ha => by repeat' (first | exact trivial | exact .val _ | exact .ptr (Nat.le_of_ble_eq_true rfl) | exact .map (Nat.le_of_ble_eq_true rfl) | exact (by first | exact old_lts _ _ _ | exact old_rps _ _ _ | exact old_ints _ _ _) | refine old_box ?_ | refine ⟨?_, ?_⟩)) ?_
    intro ⟨i, m⟩ ⟨hi, hm, hs⟩
    dsimp only at hi hm hs ⊢
    refine cw_seq ?_
    refine cw_seq ?_
    refine cw_region ?_
    refine co_y rfl rfl (y_move rfl trivial (by conv => lhs; whnf)) ?_
    refine co_y rfl rfl (y_field rfl trivial rfl Try.runUnderlying46 rfl Try.sizeOf44 (by decide)) ?_
    refine co_y rfl rfl (y_load1 rfl trivial rfl Try.isAgg44 rfl rfl) ?_
    refine co_y rfl rfl (y_len rfl trivial rfl Try.runUnderlying44 (by first | exact len_map _ _ | rfl) rfl) ?_
    refine co_y rfl rfl (y_int rfl trivial trivial rfl rfl rfl) ?_
    refine co_nil ?_
    refine cw_cond trivial rfl (fun h2 => ?_) (fun h2 => ?_)
    · have hlt : (i : Int) < b.pend.length := by simpa using h2
      obtain ⟨x, hb⟩ : ∃ x, b.pend[i]? = some x := ⟨b.pend[i]'(by omega), by simp⟩
      rw [sendsS_step hb] at hs
      obtain ⟨m1, e1, hsd⟩ : ∃ m1 e1, sendS (pb (CkP m)) (pb (RightP x)) m x = (m1, e1) := ⟨_, _, rfl⟩
      rw [hsd] at hs
      refine cw_skip ?_
      refine cw_seq ?_
      refine cw_block ?_
      refine cw_seq ?_
      refine cw_float [0, 1, 2, 3, 4, 5, 6, 7, 8, 9, 10, 11, 12] 10 [0, 0, 2, 0, 14, 30, 63, 127, 255, 255, 0, 1535, 4095] [[0, 1, 2, 3, 4, 5, 6, 7, 8, 9], [9], []] (hd1l := [0, 1, 2, 3, 4, 5, 6, 7, 8, 9]) (tll := [(10, [0, 1, 2, 3, 4, 5, 6, 7, 8, 9]), (11, [9]), (12, [])]) (by kernel_rfl) (by kernel_rfl) rfl rfl rfl ?_
      refine chf rfl (hop_y rfl (y_load rfl trivial rfl Try.isAgg25 Try.sizeOf25 rfl (Nat.le_of_ble_eq_true rfl))) ?_
      refine chf rfl (hop_y rfl (y_field rfl trivial rfl Try.runUnderlying46 rfl Try.sizeOf44 (by decide))) ?_
      refine chf rfl (hop_y rfl (y_load1 rfl trivial rfl Try.isAgg44 rfl rfl)) ?_
      refine chf rfl (hop_y rfl (y_move rfl trivial (by conv => lhs; whnf))) ?_
      refine chf rfl (hop_y rfl (y_index rfl trivial trivial rfl rfl Try.runUnderlying44 Try.sizeOf30 (by omega) (rows_get hb) rfl)) ?_
      refine chf rfl (hop_y rfl (y_load_c rfl trivial rfl Try.isAgg30 Try.sizeOf30 (Nat.le_of_ble_eq_true rfl))) ?_
      refine chf rfl (hop_y rfl (y_callf rfl Try.call19 ⟨trivial, trivial, trivial⟩ (rd_Send_r hsd hm _) rfl)) ?_
      refine chf rfl (hop_y rfl (y_move rfl trivial (by conv => lhs; whnf))) ?_
      refine chf rfl (hop_y rfl (y_extract rfl trivial rfl rfl)) ?_
      refine chf rfl (hop_y rfl (y_extract rfl trivial rfl rfl)) ?_
      refine chf_nil ?_
      refine ctl_d rfl rfl (d_alloc rfl Try.zeroValue25 rfl (.inr ⟨_, rfl⟩) ?_)
      refine ⟨⟨(by exact hop_y rfl (y_load rfl trivial rfl Try.isAgg25 Try.sizeOf25 rfl (Nat.le_of_ble_eq_true rfl))), (by exact hop_y rfl (y_field rfl trivial rfl Try.runUnderlying46 rfl Try.sizeOf44 (by decide))), (by exact hop_y rfl (y_load1 rfl trivial rfl Try.isAgg44 rfl rfl)), (by exact hop_y rfl (y_move rfl trivial (by conv => lhs; whnf))), (by exact hop_y rfl (y_index rfl trivial trivial rfl rfl Try.runUnderlying44 Try.sizeOf30 (by omega) (rows_get hb) rfl)), (by exact hop_y rfl (y_load_c rfl trivial rfl Try.isAgg30 Try.sizeOf30 (Nat.le_of_ble_eq_true rfl))), (by exact hop_y rfl (y_callf rfl Try.call19 ⟨trivial, trivial, trivial⟩ (rd_Send_r hsd hm _) rfl)), (by exact hop_y rfl (y_move rfl trivial (by conv => lhs; whnf))), (by exact hop_y rfl (y_extract rfl trivial rfl rfl)), (by exact hop_y rfl (y_extract rfl trivial rfl rfl)), trivial⟩, ?_⟩
      refine ctl_d rfl rfl (d_store rfl trivial trivial rfl (by conv => lhs; whnf) Try.sizeOf25 (.inr ⟨_, rfl⟩) rfl rfl (Nat.le_of_ble_eq_true rfl) ?_)
      refine ⟨⟨(by exact hop_y rfl (y_extract rfl trivial rfl rfl)), trivial⟩, ?_⟩
      refine ctl_h rfl (hop_y rfl (y_assign rfl trivial (by conv => lhs; whnf))) ⟨trivial, ?_⟩
      refine ctl_nil ?_
      refine cw_seq ?_
      refine cw_seq ?_
      refine cw_region ?_
      refine co_y rfl rfl (y_move rfl trivial (by conv => lhs; whnf)) ?_
      refine co_y rfl rfl (y_int rfl trivial rfl rfl rfl rfl) ?_
      refine co_nil ?_
      refine cw_cond trivial rfl (fun h3 => ?_) (fun h3 => ?_)
      · have he : ¬ e1 = 0 := by simpa using h3
        rw [if_neg he] at hs
        refine cw_seq ?_
        refine cw_region ?_
        refine co_y rfl rfl (y_load rfl trivial rfl Try.isAgg25 Try.sizeOf25 rfl (Nat.le_of_ble_eq_true rfl)) ?_
        refine co_y rfl rfl (y_move rfl trivial (by conv => lhs; whnf)) ?_
        refine co_d rfl rfl (d_store rfl trivial trivial rfl (by conv => lhs; whnf) Try.sizeOf25 (.inr ⟨_, rfl⟩) rfl rfl (Nat.le_of_ble_eq_true rfl) ?_)
        refine co_y rfl rfl (y_assign rfl trivial (by conv => lhs; whnf)) ?_
        refine co_y rfl rfl (y_assign rfl rfl (by conv => lhs; whnf)) ?_
        refine co_nil ?_
        refine cw_ret ?_
        exact ⟨_, res_all (rs := [.cell 4 25, .tmp 5, .tmp 6]) (cs := [_, _, _]) rfl ⟨⟨trivial, _, _, _, rfl, rfl, .inr ⟨_, Try.isAgg25, Try.sizeOf25, Nat.le_of_ble_eq_true rfl, rfl⟩⟩, ⟨trivial, (by conv => lhs; whnf)⟩, ⟨trivial, (by conv => lhs; whnf)⟩, trivial⟩ (Nat.ne_of_beq_eq_false rfl), _, _, rfl, rfl, (cls_eq (by rw [resS, if_neg hc, hs]; rfl) (by repeat' (first | exact .val _ | exact pure_lts _ _ | exact pure_rps _ _ | exact pure_ints _ _ | exact trivial | refine pure_agg ?_ | refine pure_tup ?_ | refine ⟨?_, ?_⟩)))⟩
      · have he : e1 = 0 := by simpa using h3
        rw [if_pos he] at hs
        have hm1 := send_len hsd rfl rfl
        refine cw_skip ?_
        refine cw_region ?_
        refine co_y rfl rfl (y_load rfl trivial rfl Try.isAgg25 Try.sizeOf25 rfl (Nat.le_of_ble_eq_true rfl)) ?_
        refine co_d rfl rfl (d_store rfl trivial trivial rfl (by conv => lhs; whnf) Try.sizeOf25 (.inr ⟨_, rfl⟩) rfl rfl (Nat.le_of_ble_eq_true rfl) ?_)
        refine co_nil ?_
        refine cw_region ?_
        refine co_y rfl rfl (y_move rfl trivial (by conv => lhs; whnf)) ?_
        refine co_y rfl rfl (y_add rfl trivial rfl rfl rfl (by omega) (by omega)) ?_
        refine co_y rfl rfl (y_assign rfl trivial (by conv => lhs; whnf)) ?_
        refine co_nil ?_
        exact ⟨(i + 1, m1), _, ⟨by show _ - (i + 1) < _; omega, by show i + 1 ≤ _; omega, by show m1.fly.length ≤ maxLen; unfold maxLen; omega, hs⟩, ⟨⟨trivial, rfl⟩, ⟨trivial, rfl⟩, ⟨trivial, rfl⟩, ⟨trivial, rfl⟩, trivial⟩, rfl⟩
    · have hge : i = b.pend.length := by
        have : ¬ (i : Int) < b.pend.length := by simpa using h2
        omega
      rw [hge, List.drop_length] at hs
      refine cw_exit ?_
      refine cw_seq ?_
      refine cw_float [0, 1, 2, 3, 4, 5, 6] 4 [0, 0, 2, 6, 1, 31, 63] [[1, 2, 3], [], []] (hd1l := [0, 1, 2, 3]) (tll := [(4, [1, 2, 3]), (5, []), (6, [])]) (by kernel_rfl) (by kernel_rfl) rfl rfl rfl ?_
      refine chf rfl (hop_y rfl (y_load rfl trivial rfl Try.isAgg25 Try.sizeOf25 rfl (Nat.le_of_ble_eq_true rfl))) ?_
      refine chf rfl (hop_y rfl (y_field rfl trivial rfl Try.runUnderlying46 rfl Try.sizeOf44 (by decide))) ?_
      refine chf rfl (hop_y rfl (y_load1 rfl trivial rfl Try.isAgg44 rfl rfl)) ?_
      refine chf rfl (hop_y rfl (y_len rfl trivial rfl Try.runUnderlying44 (by first | exact len_map _ _ | rfl) rfl)) ?_
      refine chf_nil ?_
      refine ctl_d rfl rfl (d_store rfl trivial trivial rfl (by conv => lhs; whnf) Try.sizeOf25 (.inr ⟨_, rfl⟩) rfl rfl (Nat.le_of_ble_eq_true rfl) ?_)
      refine ⟨⟨(by exact hop_y rfl (y_field rfl trivial rfl Try.runUnderlying46 rfl Try.sizeOf44 (by decide))), (by exact hop_y rfl (y_load1 rfl trivial rfl Try.isAgg44 rfl rfl)), (by exact hop_y rfl (y_len rfl trivial rfl Try.runUnderlying44 (by first | exact len_map _ _ | rfl) rfl)), trivial⟩, ?_⟩
      refine ctl_h rfl (hop_y rfl (y_assign rfl trivial (by conv => lhs; whnf))) ⟨trivial, ?_⟩
      refine ctl_h rfl (hop_y rfl (y_assign rfl rfl (by conv => lhs; whnf))) ⟨trivial, ?_⟩
      refine ctl_nil ?_
      refine cw_ret ?_
      exact ⟨_, res_all (rs := [.cell 4 25, .tmp 5, .tmp 6]) (cs := [_, _, _]) rfl ⟨⟨trivial, _, _, _, rfl, rfl, .inr ⟨_, Try.isAgg25, Try.sizeOf25, Nat.le_of_ble_eq_true rfl, rfl⟩⟩, ⟨trivial, (by conv => lhs; whnf)⟩, ⟨trivial, (by conv => lhs; whnf)⟩, trivial⟩ (Nat.ne_of_beq_eq_false rfl), _, _, rfl, rfl, (cls_eq (by rw [resS, if_neg hc, hs]; rfl) (by repeat' (first | exact .val _ | exact pure_lts _ _ | exact pure_rps _ _ | exact pure_ints _ _ | exact trivial | refine pure_agg ?_ | refine pure_tup ?_ | refine ⟨?_, ?_⟩)))⟩

theorem rd_Resend_s (n : Net) (b : Bx) (hl : n.fly.length ≤ maxLen) (hb : b.pend.length ≤ maxLen) (σ : List CObj) : CCalls CC 18 [.agg n.cells, .agg b.cells] σ fun r σ' => r = .ret (.tup [.agg (resS (pb (CkP n)) (pb (WhP b.pend)) n b).1.cells, (.val (.int .i64 ((resS (pb (CkP n)) (pb (WhP b.pend)) n b).2.1))), (.val (.int .i64 ((resS (pb (CkP n)) (pb (WhP b.pend)) n b).2.2)))]) ∧ σ' = σ :=
  CCalls.anyw hCC (by repeat' (first | exact .val _ | exact pure_lts _ _ | exact pure_rps _ _ | exact pure_ints _ _ | exact trivial | refine pure_agg ?_ | refine pure_tup ?_ | refine ⟨?_, ?_⟩)) (by repeat' (first | exact .val _ | exact pure_lts _ _ | exact pure_rps _ _ | exact pure_ints _ _ | exact trivial | refine pure_agg ?_ | refine pure_tup ?_ | refine ⟨?_, ?_⟩)) (rd_Resend n b hl hb) σ

end Go.Proofs.Ytchaklkfaemfgaa
