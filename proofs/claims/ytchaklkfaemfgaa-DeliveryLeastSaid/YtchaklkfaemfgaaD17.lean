import Derived.Test.YtchaklkfaemfgaaD16
namespace Go.Proofs.Ytchaklkfaemfgaa
open Go Go.Cl

theorem old_set (n : Nat) (l : List Rp) : OldObj n (.map (smap (fun x : Rp => CV.agg x.cells) l)) := by
  intro e he
  obtain ⟨x, _, rfl⟩ := List.mem_map.1 he
  exact ⟨old_agg (n := n) (cs := x.cells) ⟨.val _, .val _, .val _, .val _, .val _, trivial⟩, .val _⟩

set_option maxRecDepth 10000 in
set_option maxHeartbeats 4000000 in
theorem ld_DeliveryLeast (l : List Int) (nn : Bool) (hl : l.length ≤ maxLen) (cnt : Int) : CCalls CC 7 [.list (l.map icv) nn none, (.val (.int .i64 (cnt)))] [] fun r σ' => r = .ret (.val (.bool (true))) ∧ σ' = [] := by
  obtain ⟨hc0, hc1⟩ := fold_bound (v := cnt) (n := 9) (by omega)
  obtain ⟨c, hc⟩ : ∃ c : Nat, fold cnt 9 = c := ⟨_, (Int.toNat_of_nonneg hc0).symm⟩
  have hc8 : c ≤ 8 := by omega
  refine ccalls_val (ccalls_of Try.func7 rfl rfl ?_)
  refine cw_seq ?_
  refine cw_region ?_
  refine co_y rfl rfl (y_assign rfl rfl (by conv => lhs; whnf)) ?_
  refine co_nil ?_
  refine cw_seq ?_
  refine cw_region ?_
  refine co_y rfl rfl (y_move rfl trivial (by conv => lhs; whnf)) ?_
  refine co_y rfl rfl (y_build' #[(0, 1), (1, 1)] rfl ⟨trivial, trivial⟩ Try.runUnderlying41 Try.zeroValue41 rfl ⟨_, rfl⟩ (fun w => by kernel_rfl) rfl rfl) ?_
  refine co_d rfl rfl (d_box rfl trivial (by conv => lhs; whnf) (.inr ⟨_, rfl⟩) ?_)
  refine co_y rfl rfl (y_assign rfl trivial (by conv => lhs; whnf)) ?_
  refine co_nil ?_
  refine cw_seq ?_
  refine cw_region ?_
  refine co_y rfl rfl (y_move rfl trivial (by conv => lhs; whnf)) ?_
  refine co_y rfl rfl (y_callf rfl Try.call8 ⟨trivial, rfl, trivial⟩ ((by have := mk_Fold_s cnt 9 (by omega); rw [hc] at this; exact this _)) rfl) ?_
  refine co_y rfl rfl (y_assign rfl trivial (by conv => lhs; whnf)) ?_
  refine co_nil ?_
  refine cw_seq ?_
  refine cw_region ?_
  refine co_d rfl rfl (d_alloc rfl Try.zeroValue46 rfl (.inr ⟨_, rfl⟩) ?_)
  refine co_nil ?_
  refine cw_seq ?_
  refine cw_seq ?_
  refine cw_region ?_
  refine co_y rfl rfl (y_assign rfl rfl (by conv => lhs; whnf)) ?_
  refine co_nil ?_
  refine cw_block ?_
  refine cw_loopd hCC (α := Nat) (fun i => [(1, (.val (.int .i64 ((c : Int))))), (5, .ptr 0 0), (6, .ptr 1 0), (7, (.val (.int .i64 ((i : Int)))))]) (fun i => [tapeC l nn 0, .box (pst i).cells]) (fun i => i ≤ c) (fun i => c - i) 0 (Nat.zero_le _) ⟨⟨trivial, rfl⟩, ⟨trivial, rfl⟩, ⟨trivial, rfl⟩, ⟨trivial, rfl⟩, trivial⟩ (extra0 := []) rfl (fun _ _ => Nat.le_of_ble_eq_true rfl) (fun a ha => by repeat' (first | exact trivial | exact .val _ | exact .ptr (Nat.le_of_ble_eq_true rfl) | exact .map (Nat.le_of_ble_eq_true rfl) | exact (by first | exact old_lts _ _ _ | exact old_rps _ _ _ | exact old_ints _ _ _ | exact old_set _ _) | refine old_box ?_ | refine ⟨?_, ?_⟩)) ?_
  intro i hi
  refine cw_seq ?_
  refine cw_seq ?_
  refine cw_region ?_
  refine co_y rfl rfl (y_move rfl trivial (by conv => lhs; whnf)) ?_
  refine co_y rfl rfl (y_move rfl trivial (by conv => lhs; whnf)) ?_
  refine co_y rfl rfl (y_int rfl trivial trivial rfl rfl rfl) ?_
  refine co_nil ?_
  refine cw_cond trivial rfl (fun h1 => ?_) (fun h1 => ?_)
  · have hic : i < c := by simp at h1; omega
    refine cw_skip ?_
    refine cw_seq ?_
    refine cw_block ?_
    refine cw_seq ?_
    refine cw_float [0, 1, 2, 3, 4, 5, 6, 7, 8, 9, 10] 8 [0, 0, 2, 6, 15, 31, 63, 63, 0, 383, 1023] [[0, 1, 2, 3, 4, 5, 6, 7], [7], []] (hd1l := [0, 1, 2, 3, 4, 5, 6, 7]) (tll := [(8, [0, 1, 2, 3, 4, 5, 6, 7]), (9, [7]), (10, [])]) (by kernel_rfl) (by kernel_rfl) rfl rfl rfl ?_
    refine chf rfl (hop_y rfl (y_load rfl trivial rfl Try.isAgg46 Try.sizeOf46 rfl (Nat.le_of_ble_eq_true rfl))) ?_
    refine chf rfl (hop_y rfl (y_move rfl trivial (by conv => lhs; whnf))) ?_
    refine chf rfl (hop_y rfl (y_mul rfl trivial rfl rfl rfl (by omega) (by omega))) ?_
    refine chf rfl (hop_y rfl (y_callf rfl Try.call10 ⟨trivial, trivial⟩ (ld_report_s ((i : Int) * 7) _) rfl)) ?_
    refine chf rfl (hop_y rfl (y_callf rfl Try.call25 ⟨trivial, trivial, trivial⟩ (de_Post_r (pst_step (i := i) (by omega)) pst_nn (by rw [pst_len]; unfold maxLen; omega) _) rfl)) ?_
    refine chf rfl (hop_y rfl (y_move rfl trivial (by conv => lhs; whnf))) ?_
    refine chf rfl (hop_y rfl (y_extract rfl trivial rfl rfl)) ?_
    refine chf rfl (hop_y rfl (y_extract rfl trivial rfl rfl)) ?_
    refine chf_nil ?_
    refine ctl_d rfl rfl (d_alloc rfl Try.zeroValue46 rfl (.inr ⟨_, rfl⟩) ?_)
    refine ⟨⟨(by exact hop_y rfl (y_load rfl trivial rfl Try.isAgg46 Try.sizeOf46 rfl (Nat.le_of_ble_eq_true rfl))), (by exact hop_y rfl (y_move rfl trivial (by conv => lhs; whnf))), (by exact hop_y rfl (y_mul rfl trivial rfl rfl rfl (by omega) (by omega))), (by exact hop_y rfl (y_callf rfl Try.call10 ⟨trivial, trivial⟩ (ld_report_s ((i : Int) * 7) _) rfl)), (by exact hop_y rfl (y_callf rfl Try.call25 ⟨trivial, trivial, trivial⟩ (de_Post_r (pst_step (i := i) (by omega)) pst_nn (by rw [pst_len]; unfold maxLen; omega) _) rfl)), (by exact hop_y rfl (y_move rfl trivial (by conv => lhs; whnf))), (by exact hop_y rfl (y_extract rfl trivial rfl rfl)), (by exact hop_y rfl (y_extract rfl trivial rfl rfl)), trivial⟩, ?_⟩
    refine ctl_d rfl rfl (d_store rfl trivial trivial rfl (by conv => lhs; whnf) Try.sizeOf46 (.inr ⟨_, rfl⟩) rfl rfl (Nat.le_of_ble_eq_true rfl) ?_)
    refine ⟨⟨(by exact hop_y rfl (y_extract rfl trivial rfl rfl)), trivial⟩, ?_⟩
    refine ctl_h rfl (hop_y rfl (y_assign rfl trivial (by conv => lhs; whnf))) ⟨trivial, ?_⟩
    refine ctl_nil ?_
    refine cw_seq ?_
    refine cw_region ?_
    refine co_y rfl rfl (y_load rfl trivial rfl Try.isAgg46 Try.sizeOf46 rfl (Nat.le_of_ble_eq_true rfl)) ?_
    refine co_d rfl rfl (d_store rfl trivial trivial rfl (by conv => lhs; whnf) Try.sizeOf46 (.inr ⟨_, rfl⟩) rfl rfl (Nat.le_of_ble_eq_true rfl) ?_)
    refine co_nil ?_
    refine cw_seq ?_
    refine cw_region ?_
    refine co_y rfl rfl (y_move rfl trivial (by conv => lhs; whnf)) ?_
    refine co_y rfl rfl (y_int rfl trivial rfl rfl rfl rfl) ?_
    refine co_nil ?_
    refine cw_cond trivial rfl (fun h2 => ?_) (fun h2 => ?_)
    · exfalso
      simp at h2
    · skip
      refine cw_skip ?_
      refine cw_region ?_
      refine co_y rfl rfl (y_move rfl trivial (by conv => lhs; whnf)) ?_
      refine co_y rfl rfl (y_add rfl trivial rfl rfl rfl (by omega) (by omega)) ?_
      refine co_y rfl rfl (y_assign rfl trivial (by conv => lhs; whnf)) ?_
      refine co_nil ?_
      exact ⟨(i + 1), _, ⟨by omega, by omega⟩, ⟨⟨trivial, rfl⟩, ⟨trivial, rfl⟩, ⟨trivial, rfl⟩, ⟨trivial, rfl⟩, trivial⟩, rfl⟩
  · have hic : i = c := by
      have : ¬ (i : Int) < c := by simpa using h1
      omega
    subst hic
    have hps : (pst i).pend.length = i := pst_len i
    refine cw_exit ?_
    refine cw_seq ?_
    refine cw_region ?_
    refine co_y rfl rfl (y_load rfl trivial rfl Try.isAgg46 Try.sizeOf46 rfl (Nat.le_of_ble_eq_true rfl)) ?_
    refine co_d rfl rfl (d_alloc rfl Try.zeroValue46 rfl (.inr ⟨_, rfl⟩) ?_)
    refine co_d rfl rfl (d_store rfl trivial trivial rfl (by conv => lhs; whnf) Try.sizeOf46 (.inr ⟨_, rfl⟩) rfl rfl (Nat.le_of_ble_eq_true rfl) ?_)
    refine co_nil ?_
    refine cw_seq ?_
    refine cw_region ?_
    refine co_d rfl rfl (d_alloc rfl Try.zeroValue25 rfl (.inr ⟨_, rfl⟩) ?_)
    refine co_nil ?_
    refine cw_seq ?_
    refine cw_region ?_
    refine co_d rfl rfl (d_makeMap rfl ?_)
    refine co_y rfl rfl (y_assign rfl trivial (by conv => lhs; whnf)) ?_
    refine co_nil ?_
    refine cw_seq ?_
    refine cw_seq ?_
    refine cw_region ?_
    refine co_y rfl rfl (y_assign rfl rfl (by conv => lhs; whnf)) ?_
    refine co_nil ?_
    refine cw_block ?_
    refine cw_loopd hCC (α := Bx × Net × List Rp × Nat × Nat) (fun x => [(1, (.val (.int .i64 ((i : Int))))), (5, .ptr 0 0), (6, .ptr 1 0), (10, .ptr 2 0), (11, .ptr 3 0), (12, .map 4), (13, (.val (.int .i64 ((x.2.2.2.2 : Int)))))]) (fun x => [tapeC l nn (x.2.2.2.1), .box (x.1).cells, .box (pst i).cells, .box (x.2.1).cells, .map (smap (fun x : Rp => CV.agg x.cells) (x.2.2.1))]) (fun x => LI (pst i).pend x.1 x.2.1 x.2.2.1 ∧ x.2.1.fly = [] ∧ x.2.1.next ≤ 8 * (x.2.2.2.2 : Int) ∧ x.2.2.2.1 ≤ 200 * x.2.2.2.2 ∧ x.2.2.2.2 ≤ 6 ∧ (x.2.2.2.2 = 6 → x.1.pend = [])) (fun x => 6 - x.2.2.2.2) (pst i, ⟨0, [], false⟩, [], 0, 0) ⟨⟨pst_wh (by omega), pst_nn, fun _ h => h, fun _ h => .inl h, (fun _ h => by cases h), List.nodup_nil, ck_zero _, fun _ => rfl, (fun _ h => by cases h)⟩, rfl, by simp, by simp, by simp, fun h => by cases h⟩ ⟨⟨trivial, rfl⟩, ⟨trivial, rfl⟩, ⟨trivial, rfl⟩, ⟨trivial, rfl⟩, ⟨trivial, rfl⟩, ⟨trivial, rfl⟩, ⟨trivial, rfl⟩, trivial⟩ (extra0 := []) rfl (fun _ _ => Nat.le_of_ble_eq_true rfl) (fun a ha => by repeat' (first | exact trivial | exact .val _ | exact .ptr (Nat.le_of_ble_eq_true rfl) | exact .map (Nat.le_of_ble_eq_true rfl) | exact (by first | exact old_lts _ _ _ | exact old_rps _ _ _ | exact old_ints _ _ _ | exact old_set _ _) | refine old_box ?_ | refine ⟨?_, ?_⟩)) ?_
    intro ⟨o, n, got, k, rd⟩ ⟨hli, hfl, hnx, hk, hrd, hr6⟩
    dsimp only at hli hfl hnx hk hrd hr6 ⊢
    refine cw_seq ?_
    refine cw_seq ?_
    refine cw_region ?_
    refine co_y rfl rfl (y_field rfl trivial rfl Try.runUnderlying46 rfl Try.sizeOf44 (by decide)) ?_
    refine co_y rfl rfl (y_load1 rfl trivial rfl Try.isAgg44 rfl rfl) ?_
    refine co_y rfl rfl (y_len rfl trivial rfl Try.runUnderlying44 (by first | exact len_map _ _ | rfl) rfl) ?_
    refine co_y rfl rfl (y_int rfl trivial rfl rfl rfl rfl) ?_
    refine co_nil ?_
    refine cw_cond trivial rfl (fun h3 => ?_) (fun h3 => ?_)
    · have hpe : o.pend ≠ [] := by
        intro e
        rw [e] at h3
        simp at h3
      have hrd5 : rd ≤ 5 := by
        rcases Nat.lt_or_ge 5 rd with h | h
        · exact absurd (hr6 (by omega)) hpe
        · exact h
      obtain ⟨n1, hrs, hlj⟩ := LJ.resend hli hfl hnx (by omega) (by omega)
      refine cw_skip ?_
      refine cw_seq ?_
      refine cw_block ?_
      refine cw_seq ?_
      refine cw_region ?_
      refine co_y rfl rfl (y_load rfl trivial rfl Try.isAgg25 Try.sizeOf25 rfl (Nat.le_of_ble_eq_true rfl)) ?_
      refine co_y rfl rfl (y_load rfl trivial rfl Try.isAgg46 Try.sizeOf46 rfl (Nat.le_of_ble_eq_true rfl)) ?_
      refine co_y rfl rfl (y_callf rfl Try.call17 ⟨trivial, trivial, trivial⟩ ((by have := de_Resend_s n o hli.nnn (ck_max hli.ck) (wh_max hli.wh); rw [hrs] at this; exact this _)) rfl) ?_
      refine co_y rfl rfl (y_move rfl trivial (by conv => lhs; whnf)) ?_
      refine co_y rfl rfl (y_extract rfl trivial rfl rfl) ?_
      refine co_y rfl rfl (y_extract rfl trivial rfl rfl) ?_
      refine co_y rfl rfl (y_extract rfl trivial rfl rfl) ?_
      refine co_d rfl rfl (d_alloc rfl Try.zeroValue25 rfl (.inr ⟨_, rfl⟩) ?_)
      refine co_d rfl rfl (d_store rfl trivial trivial rfl (by conv => lhs; whnf) Try.sizeOf25 (.inr ⟨_, rfl⟩) rfl rfl (Nat.le_of_ble_eq_true rfl) ?_)
      refine co_y rfl rfl (y_assign rfl trivial (by conv => lhs; whnf)) ?_
      refine co_y rfl rfl (y_assign rfl trivial (by conv => lhs; whnf)) ?_
      refine co_nil ?_
      refine cw_seq ?_
      refine cw_seq ?_
      refine cw_region ?_
      refine co_y rfl rfl (y_load rfl trivial rfl Try.isAgg25 Try.sizeOf25 rfl (Nat.le_of_ble_eq_true rfl)) ?_
      refine co_d rfl rfl (d_store rfl trivial trivial rfl (by conv => lhs; whnf) Try.sizeOf25 (.inr ⟨_, rfl⟩) rfl rfl (Nat.le_of_ble_eq_true rfl) ?_)
      refine co_nil ?_
      refine cw_seq ?_
      refine cw_region ?_
      refine co_y rfl rfl (y_move rfl trivial (by conv => lhs; whnf)) ?_
      refine co_y rfl rfl (y_int rfl trivial rfl rfl rfl rfl) ?_
      refine co_y rfl rfl (y_move rfl trivial (by conv => lhs; whnf)) ?_
      refine co_g rfl rfl trivial rfl rfl (fun hg => y_move rfl trivial (by conv => lhs; whnf)) ?_
      refine co_g rfl rfl trivial rfl rfl (fun hg => y_int rfl hg rfl rfl rfl rfl) ?_
      refine co_y rfl rfl (y_pick_or rfl trivial rfl (fun hp => hp) (fun _ => rfl)) ?_
      refine co_nil ?_
      refine cw_cond trivial rfl (fun h4 => ?_) (fun h4 => ?_)
      · exfalso
        simp at h4
        exact hpe h4
      · skip
        refine cw_skip ?_
        refine cw_seq ?_
        refine cw_region ?_
        refine co_y rfl rfl (y_assign rfl rfl (by conv => lhs; whnf)) ?_
        refine co_nil ?_
        refine cw_block ?_
        refine cw_loopd hCC (α := Bx × Net × List Rp × Nat × Nat) (fun x => [(1, (.val (.int .i64 ((i : Int))))), (5, .ptr 0 0), (6, .ptr 1 0), (10, .ptr 2 0), (11, .ptr 3 0), (12, .map 4), (13, (.val (.int .i64 ((rd : Int))))), (17, (.val (.int .i64 ((x.2.2.2.2 : Int)))))]) (fun x => [tapeC l nn (x.2.2.2.1), .box (x.1).cells, .box (pst i).cells, .box (x.2.1).cells, .map (smap (fun x : Rp => CV.agg x.cells) (x.2.2.1)), .box (n1).cells]) (fun x => LJ (pst i).pend rd x.1 x.2.1 x.2.2.1 ∧ x.2.2.2.1 ≤ 200 * rd + 7 * x.2.2.2.2 ∧ (x.2.2.2.2 ≤ 20 ∨ x.2.2.2.2 + x.2.1.fly.length ≤ 28)) (fun x => (20 - x.2.2.2.2) + x.2.1.fly.length) (o, n1, got, k, 0) ⟨hlj, by dsimp only; omega, by simp⟩ ⟨⟨trivial, rfl⟩, ⟨trivial, rfl⟩, ⟨trivial, rfl⟩, ⟨trivial, rfl⟩, ⟨trivial, rfl⟩, ⟨trivial, rfl⟩, ⟨trivial, rfl⟩, ⟨trivial, rfl⟩, trivial⟩ (extra0 := []) rfl (fun _ _ => Nat.le_of_ble_eq_true rfl) (fun a ha => by repeat' (first | exact trivial | exact .val _ | exact .ptr (Nat.le_of_ble_eq_true rfl) | exact .map (Nat.le_of_ble_eq_true rfl) | exact (by first | exact old_lts _ _ _ | exact old_rps _ _ _ | exact old_ints _ _ _ | exact old_set _ _) | refine old_box ?_ | refine ⟨?_, ?_⟩)) ?_
        intro ⟨o, n, got, k, kk⟩ ⟨hlj, hk3, hkk⟩
        dsimp only at hlj hk3 hkk ⊢
        have hf8 := hlj.f8
        have hml := ck_max hlj.li.ck
        refine cw_seq ?_
        refine cw_seq ?_
        refine cw_region ?_
        refine co_y rfl rfl (y_field rfl trivial rfl Try.runUnderlying25 rfl Try.sizeOf23 (by decide)) ?_
        refine co_y rfl rfl (y_load1 rfl trivial rfl Try.isAgg23 rfl rfl) ?_
        refine co_y rfl rfl (y_len rfl trivial rfl Try.runUnderlying23 (by first | exact len_map _ _ | rfl) rfl) ?_
        refine co_y rfl rfl (y_int rfl trivial rfl rfl rfl rfl) ?_
        refine co_nil ?_
        refine cw_cond trivial rfl (fun h5 => ?_) (fun h5 => ?_)
        · have hfl0 : 0 < (n.fly.length : Int) := by simpa using h5
          refine cw_skip ?_
          refine cw_cutd hCC (α := Bx × Net × List Rp × Nat) (fun x => [(1, (.val (.int .i64 ((i : Int))))), (5, .ptr 0 0), (6, .ptr 1 0), (10, .ptr 2 0), (11, .ptr 3 0), (12, .map 4), (13, (.val (.int .i64 ((rd : Int))))), (17, (.val (.int .i64 ((kk : Int)))))]) (fun x => [tapeC l nn (x.2.2.2), .box (x.1).cells, .box (pst i).cells, .box (x.2.1).cells, .map (smap (fun x : Rp => CV.agg x.cells) (x.2.2.1)), .box (n1).cells]) (fun x => LJ (pst i).pend rd x.1 x.2.1 x.2.2.1 ∧ x.2.2.2 ≤ 200 * rd + 7 * (kk + 1) ∧ x.2.1.fly.length ≤ n.fly.length ∧ (20 ≤ kk → x.2.1.fly.length < n.fly.length)) (fun _ _ => Nat.le_of_ble_eq_true rfl) (fun a ha => by repeat' (first | exact trivial | exact .val _ | exact .ptr (Nat.le_of_ble_eq_true rfl) | exact .map (Nat.le_of_ble_eq_true rfl) | exact (by first | exact old_lts _ _ _ | exact old_rps _ _ _ | exact old_ints _ _ _ | exact old_set _ _) | refine old_box ?_ | refine ⟨?_, ?_⟩)) ?_ ?_
          · -- up to the cut
            refine cw_block ?_
            refine cw_seq ?_
            refine cw_float [0, 1, 2, 3, 4, 5, 6, 7, 8, 9, 10] 6 [0, 1, 0, 0, 8, 24, 60, 127, 255, 511, 1023] [[0, 1], [], [], [], []] (hd1l := [0, 1, 2, 3, 4, 5]) (tll := [(6, [0, 1]), (7, []), (8, []), (9, []), (10, [])]) (by kernel_rfl) (by kernel_rfl) rfl rfl rfl ?_
            refine chf rfl (hop_y rfl (y_field rfl trivial rfl Try.runUnderlying25 rfl Try.sizeOf23 (by decide))) ?_
            refine chf rfl (hop_y rfl (y_load1 rfl trivial rfl Try.isAgg23 rfl rfl)) ?_
            refine chf rfl (hop_y rfl (y_move rfl trivial (by conv => lhs; whnf))) ?_
            refine chf rfl (hop_y rfl (y_field rfl trivial rfl Try.runUnderlying25 rfl Try.sizeOf23 (by decide))) ?_
            refine chf rfl (hop_y rfl (y_load1 rfl trivial rfl Try.isAgg23 rfl rfl)) ?_
            refine chf rfl (hop_y rfl (y_len rfl trivial rfl Try.runUnderlying23 (by first | exact len_map _ _ | rfl) rfl)) ?_
            refine chf_nil ?_
            refine ctl_d rfl rfl (d_callv rfl Try.call15 ⟨trivial, trivial, trivial⟩ (tape_next l nn k _ 0 rfl (by omega) hl (n.fly.length : Int) (by omega)) rfl ?_)
            intro _ _
            obtain ⟨hb0, hb1⟩ := fold_lt (v := tapeV l k) (n := (n.fly.length : Int)) (by omega)
            obtain ⟨j, hj⟩ : ∃ j : Nat, fold (tapeV l k) (n.fly.length : Int) = j := ⟨_, (Int.toNat_of_nonneg hb0).symm⟩
            rw [show tapeN l k (n.fly.length : Int) = j from hj]
            obtain ⟨b, hb⟩ : ∃ b, n.fly[j]? = some b := ⟨n.fly[j]'(by omega), by simp⟩
            have hbm : b ∈ n.fly := List.mem_of_getElem? hb
            have hdel : ∀ keep, delS (pb (CkP n)) n b.n keep = (⟨n.next, if keep = true then n.fly else n.fly.filter (fun x => decide (x.n ≠ b.n)), true⟩, b.r, 0) := fun keep => del_some hlj.li.ck hbm rfl
            have hless := filter_less hbm
            refine ⟨⟨(by exact hop_y rfl (y_field rfl trivial rfl Try.runUnderlying25 rfl Try.sizeOf23 (by decide))), (by exact hop_y rfl (y_load1 rfl trivial rfl Try.isAgg23 rfl rfl)), trivial⟩, ?_⟩
            refine ctl_h rfl (hop_y rfl (y_index rfl trivial trivial rfl rfl Try.runUnderlying23 Try.sizeOf50 (by omega) (rows_get hb) rfl)) ⟨trivial, ?_⟩
            refine ctl_h rfl (hop_y rfl (y_field_c rfl trivial rfl Try.runUnderlying50 rfl Try.sizeOf3 (by decide))) ⟨trivial, ?_⟩
            refine ctl_h rfl (hop_y rfl (y_load_c1 rfl trivial rfl Try.isAgg3 rfl)) ⟨trivial, ?_⟩
            refine ctl_h rfl (hop_y rfl (y_assign rfl trivial (by conv => lhs; whnf))) ⟨trivial, ?_⟩
            refine ctl_nil ?_
            refine cw_seq ?_
            refine cw_seq ?_
            refine cw_region ?_
            refine co_y rfl rfl (y_move rfl trivial (by conv => lhs; whnf)) ?_
            refine co_y rfl rfl (y_int rfl trivial rfl rfl rfl rfl) ?_
            refine co_y rfl rfl (y_move rfl trivial (by conv => lhs; whnf)) ?_
            refine co_g rfl rfl trivial rfl rfl (fun hg => y_move rfl trivial (by conv => lhs; whnf)) ?_
            refine co_gd (.val (.bool false)) rfl rfl trivial rfl rfl (fun hg => d_callv rfl Try.call24 ⟨hg, rfl, rfl, trivial⟩ (tape_chance l nn (k + 1) _ 0 rfl (by omega) hl 1 2 (by omega)) rfl ?_) (fun hg => ?_)
            · -- under the guard
              intro _ _
              have hrd4 : rd < 5 := by simp at hg; omega
              refine co_y rfl rfl (y_pick_and rfl trivial rfl (fun hp => hp) (fun _ => rfl)) ?_
              refine co_nil ?_
              refine cw_cond trivial rfl (fun h6 => ?_) (fun h6 => ?_)
              · skip
                refine cw_seq ?_
                refine cw_region ?_
                refine co_y rfl rfl (y_load rfl trivial rfl Try.isAgg25 Try.sizeOf25 rfl (Nat.le_of_ble_eq_true rfl)) ?_
                refine co_y rfl rfl (y_move rfl trivial (by conv => lhs; whnf)) ?_
                refine co_y rfl rfl (y_callf rfl Try.call30 ⟨trivial, trivial, trivial⟩ ((de_Drop_r (hdel false) hlj.li.nnn hml _)) rfl) ?_
                refine co_y rfl rfl (y_move rfl trivial (by conv => lhs; whnf)) ?_
                refine co_y rfl rfl (y_extract rfl trivial rfl rfl) ?_
                refine co_y rfl rfl (y_extract rfl trivial rfl rfl) ?_
                refine co_d rfl rfl (d_alloc rfl Try.zeroValue25 rfl (.inr ⟨_, rfl⟩) ?_)
                refine co_d rfl rfl (d_store rfl trivial trivial rfl (by conv => lhs; whnf) Try.sizeOf25 (.inr ⟨_, rfl⟩) rfl rfl (Nat.le_of_ble_eq_true rfl) ?_)
                refine co_y rfl rfl (y_assign rfl trivial (by conv => lhs; whnf)) ?_
                refine co_nil ?_
                refine cw_seq ?_
                refine cw_seq ?_
                refine cw_region ?_
                refine co_y rfl rfl (y_load rfl trivial rfl Try.isAgg25 Try.sizeOf25 rfl (Nat.le_of_ble_eq_true rfl)) ?_
                refine co_d rfl rfl (d_store rfl trivial trivial rfl (by conv => lhs; whnf) Try.sizeOf25 (.inr ⟨_, rfl⟩) rfl rfl (Nat.le_of_ble_eq_true rfl) ?_)
                refine co_nil ?_
                refine cw_seq ?_
                refine cw_region ?_
                refine co_y rfl rfl (y_move rfl trivial (by conv => lhs; whnf)) ?_
                refine co_y rfl rfl (y_int rfl trivial rfl rfl rfl rfl) ?_
                refine co_nil ?_
                refine cw_cond trivial rfl (fun h7 => ?_) (fun h7 => ?_)
                · exfalso
                  simp at h7
                · skip
                  refine cw_skip ?_
                  refine cw_exit ?_
                  exact ⟨(o, ⟨n.next, n.fly.filter (fun x => decide (x.n ≠ b.n)), true⟩, got, k + 1 + 1), _, ⟨hlj.drop hrd4 b, by dsimp only; omega, by dsimp only; omega, fun _ => by dsimp only; omega⟩, ⟨⟨trivial, rfl⟩, ⟨trivial, rfl⟩, ⟨trivial, rfl⟩, ⟨trivial, rfl⟩, ⟨trivial, rfl⟩, ⟨trivial, rfl⟩, ⟨trivial, rfl⟩, ⟨trivial, rfl⟩, trivial⟩, rfl⟩
              · skip
                refine cw_skip ?_
                refine cw_seq ?_
                refine cw_floatA [13, 14] [10, 11, 12] [0, 1, 2, 3, 4, 5, 6, 7, 8, 9, 10, 11, 12, 13, 14, 15, 16, 17] 6 [0, 0, 0, 4, 12, 28, 60, 124, 255, 511, 1023, 1023, 1023, 0, 0, 26623, 61439, 131071] [[0, 1], [0, 1], [], [], [], [], [], [], [], [], [], []] (hd1l := [0, 1, 2, 3, 4, 5]) (tll := [(6, [0, 1]), (7, [0, 1]), (8, []), (9, []), (10, []), (11, []), (12, []), (13, []), (14, []), (15, []), (16, []), (17, [])]) (by kernel_rfl) (by kernel_rfl) (by kernel_rfl) ⟨⟨_, _, _, _, rfl, rfl, rfl, rfl, Try.zeroValue25⟩, ⟨_, _, _, _, rfl, rfl, rfl, rfl, Try.zeroValue30⟩, trivial⟩ rfl rfl rfl ?_
                refine chf rfl (hop_y rfl (y_load rfl trivial rfl Try.isAgg25 Try.sizeOf25 rfl (Nat.le_of_ble_eq_true rfl))) ?_
                refine chf rfl (hop_y rfl (y_move rfl trivial (by conv => lhs; whnf))) ?_
                refine chf rfl (hop_y rfl (y_move rfl trivial (by conv => lhs; whnf))) ?_
                refine chf rfl (hop_y rfl (y_int rfl trivial rfl rfl rfl rfl)) ?_
                refine chf rfl (hop_y rfl (y_move rfl trivial (by conv => lhs; whnf))) ?_
                refine chf rfl (hop_g rfl rfl trivial rfl (fun hg => y_move rfl trivial (by conv => lhs; whnf))) ?_
                refine chf_nil ?_
                refine cta_gd (.val (.bool false)) rfl rfl rfl rfl rfl trivial rfl (fun hg => d_callv rfl Try.call24 ⟨hg, rfl, rfl, trivial⟩ (tape_chance l nn (k + 1 + 1) _ 0 rfl (by omega) hl 1 4 (by omega)) rfl ?_) (fun hg => ?_)
                · -- under the guard
                  intro _ _
                  refine ⟨⟨(by exact hop_y rfl (y_load rfl trivial rfl Try.isAgg25 Try.sizeOf25 rfl (Nat.le_of_ble_eq_true rfl))), (by exact hop_y rfl (y_move rfl trivial (by conv => lhs; whnf))), trivial⟩, ?_⟩
                  refine cta_h rfl rfl rfl (hop_y rfl (y_pick_and rfl trivial rfl (fun hp => hp) (fun _ => rfl))) ⟨⟨(by exact hop_y rfl (y_load rfl trivial rfl Try.isAgg25 Try.sizeOf25 rfl (Nat.le_of_ble_eq_true rfl))), (by exact hop_y rfl (y_move rfl trivial (by conv => lhs; whnf))), trivial⟩, ?_⟩
                  refine cta_h rfl rfl rfl (hop_y rfl (y_callf rfl Try.call11 ⟨trivial, trivial, trivial, trivial⟩ ((de_Deliver_r (hdel _) hlj.li.nnn hml _)) rfl)) ⟨trivial, ?_⟩
                  refine cta_h rfl rfl rfl (hop_y rfl (y_move rfl trivial (by conv => lhs; whnf))) ⟨trivial, ?_⟩
                  refine cta_q rfl rfl (fun _ => hop_y rfl (y_extract rfl trivial rfl rfl)) ?_
                  refine cta_q rfl rfl (fun _ => hop_y rfl (y_extract rfl trivial rfl rfl)) ?_
                  refine cta_q rfl rfl (fun _ => hop_y rfl (y_extract rfl trivial rfl rfl)) ?_
                  refine cta_a rfl rfl rfl rfl Try.zeroValue25 rfl (.inr ⟨_, rfl⟩) ?_
                  refine ⟨trivial, ?_⟩
                  refine cta_a rfl rfl rfl rfl Try.zeroValue30 rfl (.inr ⟨_, rfl⟩) ?_
                  refine ⟨trivial, ?_⟩
                  refine cta_d rfl rfl rfl rfl (d_store rfl trivial trivial rfl (by conv => lhs; whnf) Try.sizeOf25 (.inr ⟨_, rfl⟩) rfl rfl (Nat.le_of_ble_eq_true rfl) ?_)
                  refine ⟨trivial, ?_⟩
                  refine cta_d rfl rfl rfl rfl (d_store rfl trivial trivial rfl (by conv => lhs; whnf) Try.sizeOf30 (.inr ⟨_, rfl⟩) rfl rfl (Nat.le_of_ble_eq_true rfl) ?_)
                  refine ⟨trivial, ?_⟩
                  refine cta_h rfl rfl rfl (hop_y rfl (y_assign rfl trivial (by conv => lhs; whnf))) ⟨trivial, ?_⟩
                  refine cta_nil ?_
                  refine cw_seq ?_
                  refine cw_seq ?_
                  refine cw_region ?_
                  refine co_y rfl rfl (y_load rfl trivial rfl Try.isAgg25 Try.sizeOf25 rfl (Nat.le_of_ble_eq_true rfl)) ?_
                  refine co_d rfl rfl (d_store rfl trivial trivial rfl (by conv => lhs; whnf) Try.sizeOf25 (.inr ⟨_, rfl⟩) rfl rfl (Nat.le_of_ble_eq_true rfl) ?_)
                  refine co_nil ?_
                  refine cw_seq ?_
                  refine cw_region ?_
                  refine co_y rfl rfl (y_move rfl trivial (by conv => lhs; whnf)) ?_
                  refine co_y rfl rfl (y_int rfl trivial rfl rfl rfl rfl) ?_
                  refine co_nil ?_
                  refine cw_cond trivial rfl (fun h8 => ?_) (fun h8 => ?_)
                  · exfalso
                    simp at h8
                  · skip
                    refine cw_skip ?_
                    refine cw_seq ?_
                    refine cw_region ?_
                    refine co_y rfl rfl (y_move rfl trivial (by conv => lhs; whnf)) ?_
                    refine co_y rfl rfl (y_load rfl trivial rfl Try.isAgg30 Try.sizeOf30 rfl (Nat.le_of_ble_eq_true rfl)) ?_
                    refine co_d rfl rfl (d_mapUpdate_set rp_key (a := b.r) rfl trivial trivial rfl rfl rfl rfl Try.runUnderlying63 rfl ?_)
                    refine co_nil ?_
                    refine cw_region ?_
                    refine co_y rfl rfl (y_load rfl trivial rfl Try.isAgg46 Try.sizeOf46 rfl (Nat.le_of_ble_eq_true rfl)) ?_
                    refine co_y rfl rfl (y_load rfl trivial rfl Try.isAgg30 Try.sizeOf30 rfl (Nat.le_of_ble_eq_true rfl)) ?_
                    refine co_y rfl rfl (y_callf rfl Try.call28 ⟨trivial, trivial, trivial⟩ ((de_Ack_s o b.r hlj.li.onn (by have := hlj.li.wh.len; omega) _)) rfl) ?_
                    refine co_y rfl rfl (y_move rfl trivial (by conv => lhs; whnf)) ?_
                    refine co_y rfl rfl (y_extract rfl trivial rfl rfl) ?_
                    refine co_y rfl rfl (y_extract rfl trivial rfl rfl) ?_
                    refine co_d rfl rfl (d_store rfl trivial trivial rfl (by conv => lhs; whnf) Try.sizeOf46 (.inr ⟨_, rfl⟩) rfl rfl (Nat.le_of_ble_eq_true rfl) ?_)
                    refine co_nil ?_
                    exact ⟨((ackS (pb (WhP o.pend)) o b.r).1, ⟨n.next, if (decide ((kk : Int) < 20) && decide (tapeN l (k + 1 + 1) 4 < 1)) = true then n.fly else n.fly.filter (fun x => decide (x.n ≠ b.n)), true⟩, sput got b.r, k + 1 + 1 + 1), _, ⟨hlj.deliver hbm _, by dsimp only; omega, by dsimp only; split <;> omega, fun h20 => by dsimp only; rw [if_neg (by simp; try omega)]; exact hless⟩, ⟨⟨trivial, rfl⟩, ⟨trivial, rfl⟩, ⟨trivial, rfl⟩, ⟨trivial, rfl⟩, ⟨trivial, rfl⟩, ⟨trivial, rfl⟩, ⟨trivial, rfl⟩, ⟨trivial, rfl⟩, trivial⟩, rfl⟩
                · -- not under the guard
                  refine ⟨⟨(by exact hop_y rfl (y_load rfl trivial rfl Try.isAgg25 Try.sizeOf25 rfl (Nat.le_of_ble_eq_true rfl))), (by exact hop_y rfl (y_move rfl trivial (by conv => lhs; whnf))), trivial⟩, ?_⟩
                  refine cta_h rfl rfl rfl (hop_y rfl (y_pick_and rfl trivial rfl (fun hp => hp) (fun _ => rfl))) ⟨⟨(by exact hop_y rfl (y_load rfl trivial rfl Try.isAgg25 Try.sizeOf25 rfl (Nat.le_of_ble_eq_true rfl))), (by exact hop_y rfl (y_move rfl trivial (by conv => lhs; whnf))), trivial⟩, ?_⟩
                  refine cta_h rfl rfl rfl (hop_y rfl (y_callf rfl Try.call11 ⟨trivial, trivial, trivial, trivial⟩ ((de_Deliver_r (hdel _) hlj.li.nnn hml _)) rfl)) ⟨trivial, ?_⟩
                  refine cta_h rfl rfl rfl (hop_y rfl (y_move rfl trivial (by conv => lhs; whnf))) ⟨trivial, ?_⟩
                  refine cta_q rfl rfl (fun _ => hop_y rfl (y_extract rfl trivial rfl rfl)) ?_
                  refine cta_q rfl rfl (fun _ => hop_y rfl (y_extract rfl trivial rfl rfl)) ?_
                  refine cta_q rfl rfl (fun _ => hop_y rfl (y_extract rfl trivial rfl rfl)) ?_
                  refine cta_a rfl rfl rfl rfl Try.zeroValue25 rfl (.inr ⟨_, rfl⟩) ?_
                  refine ⟨trivial, ?_⟩
                  refine cta_a rfl rfl rfl rfl Try.zeroValue30 rfl (.inr ⟨_, rfl⟩) ?_
                  refine ⟨trivial, ?_⟩
                  refine cta_d rfl rfl rfl rfl (d_store rfl trivial trivial rfl (by conv => lhs; whnf) Try.sizeOf25 (.inr ⟨_, rfl⟩) rfl rfl (Nat.le_of_ble_eq_true rfl) ?_)
                  refine ⟨trivial, ?_⟩
                  refine cta_d rfl rfl rfl rfl (d_store rfl trivial trivial rfl (by conv => lhs; whnf) Try.sizeOf30 (.inr ⟨_, rfl⟩) rfl rfl (Nat.le_of_ble_eq_true rfl) ?_)
                  refine ⟨trivial, ?_⟩
                  refine cta_h rfl rfl rfl (hop_y rfl (y_assign rfl trivial (by conv => lhs; whnf))) ⟨trivial, ?_⟩
                  refine cta_nil ?_
                  refine cw_seq ?_
                  refine cw_seq ?_
                  refine cw_region ?_
                  refine co_y rfl rfl (y_load rfl trivial rfl Try.isAgg25 Try.sizeOf25 rfl (Nat.le_of_ble_eq_true rfl)) ?_
                  refine co_d rfl rfl (d_store rfl trivial trivial rfl (by conv => lhs; whnf) Try.sizeOf25 (.inr ⟨_, rfl⟩) rfl rfl (Nat.le_of_ble_eq_true rfl) ?_)
                  refine co_nil ?_
                  refine cw_seq ?_
                  refine cw_region ?_
                  refine co_y rfl rfl (y_move rfl trivial (by conv => lhs; whnf)) ?_
                  refine co_y rfl rfl (y_int rfl trivial rfl rfl rfl rfl) ?_
                  refine co_nil ?_
                  refine cw_cond trivial rfl (fun h9 => ?_) (fun h9 => ?_)
                  · exfalso
                    simp at h9
                  · skip
                    refine cw_skip ?_
                    refine cw_seq ?_
                    refine cw_region ?_
                    refine co_y rfl rfl (y_move rfl trivial (by conv => lhs; whnf)) ?_
                    refine co_y rfl rfl (y_load rfl trivial rfl Try.isAgg30 Try.sizeOf30 rfl (Nat.le_of_ble_eq_true rfl)) ?_
                    refine co_d rfl rfl (d_mapUpdate_set rp_key (a := b.r) rfl trivial trivial rfl rfl rfl rfl Try.runUnderlying63 rfl ?_)
                    refine co_nil ?_
                    refine cw_region ?_
                    refine co_y rfl rfl (y_load rfl trivial rfl Try.isAgg46 Try.sizeOf46 rfl (Nat.le_of_ble_eq_true rfl)) ?_
                    refine co_y rfl rfl (y_load rfl trivial rfl Try.isAgg30 Try.sizeOf30 rfl (Nat.le_of_ble_eq_true rfl)) ?_
                    refine co_y rfl rfl (y_callf rfl Try.call28 ⟨trivial, trivial, trivial⟩ ((de_Ack_s o b.r hlj.li.onn (by have := hlj.li.wh.len; omega) _)) rfl) ?_
                    refine co_y rfl rfl (y_move rfl trivial (by conv => lhs; whnf)) ?_
                    refine co_y rfl rfl (y_extract rfl trivial rfl rfl) ?_
                    refine co_y rfl rfl (y_extract rfl trivial rfl rfl) ?_
                    refine co_d rfl rfl (d_store rfl trivial trivial rfl (by conv => lhs; whnf) Try.sizeOf46 (.inr ⟨_, rfl⟩) rfl rfl (Nat.le_of_ble_eq_true rfl) ?_)
                    refine co_nil ?_
                    exact ⟨((ackS (pb (WhP o.pend)) o b.r).1, ⟨n.next, if (decide ((kk : Int) < 20) && false) = true then n.fly else n.fly.filter (fun x => decide (x.n ≠ b.n)), true⟩, sput got b.r, k + 1 + 1), _, ⟨hlj.deliver hbm _, by dsimp only; omega, by dsimp only; split <;> omega, fun h20 => by dsimp only; rw [if_neg (by simp; try omega)]; exact hless⟩, ⟨⟨trivial, rfl⟩, ⟨trivial, rfl⟩, ⟨trivial, rfl⟩, ⟨trivial, rfl⟩, ⟨trivial, rfl⟩, ⟨trivial, rfl⟩, ⟨trivial, rfl⟩, ⟨trivial, rfl⟩, trivial⟩, rfl⟩
            · -- not under the guard
              refine co_y rfl rfl (y_pick_and rfl trivial rfl (fun hp => hp) (fun _ => rfl)) ?_
              refine co_nil ?_
              refine cw_cond trivial rfl (fun h10 => ?_) (fun h10 => ?_)
              · exfalso
                simp at h10
              · skip
                refine cw_skip ?_
                refine cw_seq ?_
                refine cw_floatA [13, 14] [10, 11, 12] [0, 1, 2, 3, 4, 5, 6, 7, 8, 9, 10, 11, 12, 13, 14, 15, 16, 17] 6 [0, 0, 0, 4, 12, 28, 60, 124, 255, 511, 1023, 1023, 1023, 0, 0, 26623, 61439, 131071] [[0, 1], [0, 1], [], [], [], [], [], [], [], [], [], []] (hd1l := [0, 1, 2, 3, 4, 5]) (tll := [(6, [0, 1]), (7, [0, 1]), (8, []), (9, []), (10, []), (11, []), (12, []), (13, []), (14, []), (15, []), (16, []), (17, [])]) (by kernel_rfl) (by kernel_rfl) (by kernel_rfl) ⟨⟨_, _, _, _, rfl, rfl, rfl, rfl, Try.zeroValue25⟩, ⟨_, _, _, _, rfl, rfl, rfl, rfl, Try.zeroValue30⟩, trivial⟩ rfl rfl rfl ?_
                refine chf rfl (hop_y rfl (y_load rfl trivial rfl Try.isAgg25 Try.sizeOf25 rfl (Nat.le_of_ble_eq_true rfl))) ?_
                refine chf rfl (hop_y rfl (y_move rfl trivial (by conv => lhs; whnf))) ?_
                refine chf rfl (hop_y rfl (y_move rfl trivial (by conv => lhs; whnf))) ?_
                refine chf rfl (hop_y rfl (y_int rfl trivial rfl rfl rfl rfl)) ?_
                refine chf rfl (hop_y rfl (y_move rfl trivial (by conv => lhs; whnf))) ?_
                refine chf rfl (hop_g rfl rfl trivial rfl (fun hg => y_move rfl trivial (by conv => lhs; whnf))) ?_
                refine chf_nil ?_
                refine cta_gd (.val (.bool false)) rfl rfl rfl rfl rfl trivial rfl (fun hg => d_callv rfl Try.call24 ⟨hg, rfl, rfl, trivial⟩ (tape_chance l nn (k + 1) _ 0 rfl (by omega) hl 1 4 (by omega)) rfl ?_) (fun hg => ?_)
                · -- under the guard
                  intro _ _
                  refine ⟨⟨(by exact hop_y rfl (y_load rfl trivial rfl Try.isAgg25 Try.sizeOf25 rfl (Nat.le_of_ble_eq_true rfl))), (by exact hop_y rfl (y_move rfl trivial (by conv => lhs; whnf))), trivial⟩, ?_⟩
                  refine cta_h rfl rfl rfl (hop_y rfl (y_pick_and rfl trivial rfl (fun hp => hp) (fun _ => rfl))) ⟨⟨(by exact hop_y rfl (y_load rfl trivial rfl Try.isAgg25 Try.sizeOf25 rfl (Nat.le_of_ble_eq_true rfl))), (by exact hop_y rfl (y_move rfl trivial (by conv => lhs; whnf))), trivial⟩, ?_⟩
                  refine cta_h rfl rfl rfl (hop_y rfl (y_callf rfl Try.call11 ⟨trivial, trivial, trivial, trivial⟩ ((de_Deliver_r (hdel _) hlj.li.nnn hml _)) rfl)) ⟨trivial, ?_⟩
                  refine cta_h rfl rfl rfl (hop_y rfl (y_move rfl trivial (by conv => lhs; whnf))) ⟨trivial, ?_⟩
                  refine cta_q rfl rfl (fun _ => hop_y rfl (y_extract rfl trivial rfl rfl)) ?_
                  refine cta_q rfl rfl (fun _ => hop_y rfl (y_extract rfl trivial rfl rfl)) ?_
                  refine cta_q rfl rfl (fun _ => hop_y rfl (y_extract rfl trivial rfl rfl)) ?_
                  refine cta_a rfl rfl rfl rfl Try.zeroValue25 rfl (.inr ⟨_, rfl⟩) ?_
                  refine ⟨trivial, ?_⟩
                  refine cta_a rfl rfl rfl rfl Try.zeroValue30 rfl (.inr ⟨_, rfl⟩) ?_
                  refine ⟨trivial, ?_⟩
                  refine cta_d rfl rfl rfl rfl (d_store rfl trivial trivial rfl (by conv => lhs; whnf) Try.sizeOf25 (.inr ⟨_, rfl⟩) rfl rfl (Nat.le_of_ble_eq_true rfl) ?_)
                  refine ⟨trivial, ?_⟩
                  refine cta_d rfl rfl rfl rfl (d_store rfl trivial trivial rfl (by conv => lhs; whnf) Try.sizeOf30 (.inr ⟨_, rfl⟩) rfl rfl (Nat.le_of_ble_eq_true rfl) ?_)
                  refine ⟨trivial, ?_⟩
                  refine cta_h rfl rfl rfl (hop_y rfl (y_assign rfl trivial (by conv => lhs; whnf))) ⟨trivial, ?_⟩
                  refine cta_nil ?_
                  refine cw_seq ?_
                  refine cw_seq ?_
                  refine cw_region ?_
                  refine co_y rfl rfl (y_load rfl trivial rfl Try.isAgg25 Try.sizeOf25 rfl (Nat.le_of_ble_eq_true rfl)) ?_
                  refine co_d rfl rfl (d_store rfl trivial trivial rfl (by conv => lhs; whnf) Try.sizeOf25 (.inr ⟨_, rfl⟩) rfl rfl (Nat.le_of_ble_eq_true rfl) ?_)
                  refine co_nil ?_
                  refine cw_seq ?_
                  refine cw_region ?_
                  refine co_y rfl rfl (y_move rfl trivial (by conv => lhs; whnf)) ?_
                  refine co_y rfl rfl (y_int rfl trivial rfl rfl rfl rfl) ?_
                  refine co_nil ?_
                  refine cw_cond trivial rfl (fun h12 => ?_) (fun h12 => ?_)
                  · exfalso
                    simp at h12
                  · skip
                    refine cw_skip ?_
                    refine cw_seq ?_
                    refine cw_region ?_
                    refine co_y rfl rfl (y_move rfl trivial (by conv => lhs; whnf)) ?_
                    refine co_y rfl rfl (y_load rfl trivial rfl Try.isAgg30 Try.sizeOf30 rfl (Nat.le_of_ble_eq_true rfl)) ?_
                    refine co_d rfl rfl (d_mapUpdate_set rp_key (a := b.r) rfl trivial trivial rfl rfl rfl rfl Try.runUnderlying63 rfl ?_)
                    refine co_nil ?_
                    refine cw_region ?_
                    refine co_y rfl rfl (y_load rfl trivial rfl Try.isAgg46 Try.sizeOf46 rfl (Nat.le_of_ble_eq_true rfl)) ?_
                    refine co_y rfl rfl (y_load rfl trivial rfl Try.isAgg30 Try.sizeOf30 rfl (Nat.le_of_ble_eq_true rfl)) ?_
                    refine co_y rfl rfl (y_callf rfl Try.call28 ⟨trivial, trivial, trivial⟩ ((de_Ack_s o b.r hlj.li.onn (by have := hlj.li.wh.len; omega) _)) rfl) ?_
                    refine co_y rfl rfl (y_move rfl trivial (by conv => lhs; whnf)) ?_
                    refine co_y rfl rfl (y_extract rfl trivial rfl rfl) ?_
                    refine co_y rfl rfl (y_extract rfl trivial rfl rfl) ?_
                    refine co_d rfl rfl (d_store rfl trivial trivial rfl (by conv => lhs; whnf) Try.sizeOf46 (.inr ⟨_, rfl⟩) rfl rfl (Nat.le_of_ble_eq_true rfl) ?_)
                    refine co_nil ?_
                    exact ⟨((ackS (pb (WhP o.pend)) o b.r).1, ⟨n.next, if (decide ((kk : Int) < 20) && decide (tapeN l (k + 1) 4 < 1)) = true then n.fly else n.fly.filter (fun x => decide (x.n ≠ b.n)), true⟩, sput got b.r, k + 1 + 1), _, ⟨hlj.deliver hbm _, by dsimp only; omega, by dsimp only; split <;> omega, fun h20 => by dsimp only; rw [if_neg (by simp; try omega)]; exact hless⟩, ⟨⟨trivial, rfl⟩, ⟨trivial, rfl⟩, ⟨trivial, rfl⟩, ⟨trivial, rfl⟩, ⟨trivial, rfl⟩, ⟨trivial, rfl⟩, ⟨trivial, rfl⟩, ⟨trivial, rfl⟩, trivial⟩, rfl⟩
                · -- not under the guard
                  refine ⟨⟨(by exact hop_y rfl (y_load rfl trivial rfl Try.isAgg25 Try.sizeOf25 rfl (Nat.le_of_ble_eq_true rfl))), (by exact hop_y rfl (y_move rfl trivial (by conv => lhs; whnf))), trivial⟩, ?_⟩
                  refine cta_h rfl rfl rfl (hop_y rfl (y_pick_and rfl trivial rfl (fun hp => hp) (fun _ => rfl))) ⟨⟨(by exact hop_y rfl (y_load rfl trivial rfl Try.isAgg25 Try.sizeOf25 rfl (Nat.le_of_ble_eq_true rfl))), (by exact hop_y rfl (y_move rfl trivial (by conv => lhs; whnf))), trivial⟩, ?_⟩
                  refine cta_h rfl rfl rfl (hop_y rfl (y_callf rfl Try.call11 ⟨trivial, trivial, trivial, trivial⟩ ((de_Deliver_r (hdel _) hlj.li.nnn hml _)) rfl)) ⟨trivial, ?_⟩
                  refine cta_h rfl rfl rfl (hop_y rfl (y_move rfl trivial (by conv => lhs; whnf))) ⟨trivial, ?_⟩
                  refine cta_q rfl rfl (fun _ => hop_y rfl (y_extract rfl trivial rfl rfl)) ?_
                  refine cta_q rfl rfl (fun _ => hop_y rfl (y_extract rfl trivial rfl rfl)) ?_
                  refine cta_q rfl rfl (fun _ => hop_y rfl (y_extract rfl trivial rfl rfl)) ?_
                  refine cta_a rfl rfl rfl rfl Try.zeroValue25 rfl (.inr ⟨_, rfl⟩) ?_
                  refine ⟨trivial, ?_⟩
                  refine cta_a rfl rfl rfl rfl Try.zeroValue30 rfl (.inr ⟨_, rfl⟩) ?_
                  refine ⟨trivial, ?_⟩
                  refine cta_d rfl rfl rfl rfl (d_store rfl trivial trivial rfl (by conv => lhs; whnf) Try.sizeOf25 (.inr ⟨_, rfl⟩) rfl rfl (Nat.le_of_ble_eq_true rfl) ?_)
                  refine ⟨trivial, ?_⟩
                  refine cta_d rfl rfl rfl rfl (d_store rfl trivial trivial rfl (by conv => lhs; whnf) Try.sizeOf30 (.inr ⟨_, rfl⟩) rfl rfl (Nat.le_of_ble_eq_true rfl) ?_)
                  refine ⟨trivial, ?_⟩
                  refine cta_h rfl rfl rfl (hop_y rfl (y_assign rfl trivial (by conv => lhs; whnf))) ⟨trivial, ?_⟩
                  refine cta_nil ?_
                  refine cw_seq ?_
                  refine cw_seq ?_
                  refine cw_region ?_
                  refine co_y rfl rfl (y_load rfl trivial rfl Try.isAgg25 Try.sizeOf25 rfl (Nat.le_of_ble_eq_true rfl)) ?_
                  refine co_d rfl rfl (d_store rfl trivial trivial rfl (by conv => lhs; whnf) Try.sizeOf25 (.inr ⟨_, rfl⟩) rfl rfl (Nat.le_of_ble_eq_true rfl) ?_)
                  refine co_nil ?_
                  refine cw_seq ?_
                  refine cw_region ?_
                  refine co_y rfl rfl (y_move rfl trivial (by conv => lhs; whnf)) ?_
                  refine co_y rfl rfl (y_int rfl trivial rfl rfl rfl rfl) ?_
                  refine co_nil ?_
                  refine cw_cond trivial rfl (fun h13 => ?_) (fun h13 => ?_)
                  · exfalso
                    simp at h13
                  · skip
                    refine cw_skip ?_
                    refine cw_seq ?_
                    refine cw_region ?_
                    refine co_y rfl rfl (y_move rfl trivial (by conv => lhs; whnf)) ?_
                    refine co_y rfl rfl (y_load rfl trivial rfl Try.isAgg30 Try.sizeOf30 rfl (Nat.le_of_ble_eq_true rfl)) ?_
                    refine co_d rfl rfl (d_mapUpdate_set rp_key (a := b.r) rfl trivial trivial rfl rfl rfl rfl Try.runUnderlying63 rfl ?_)
                    refine co_nil ?_
                    refine cw_region ?_
                    refine co_y rfl rfl (y_load rfl trivial rfl Try.isAgg46 Try.sizeOf46 rfl (Nat.le_of_ble_eq_true rfl)) ?_
                    refine co_y rfl rfl (y_load rfl trivial rfl Try.isAgg30 Try.sizeOf30 rfl (Nat.le_of_ble_eq_true rfl)) ?_
                    refine co_y rfl rfl (y_callf rfl Try.call28 ⟨trivial, trivial, trivial⟩ ((de_Ack_s o b.r hlj.li.onn (by have := hlj.li.wh.len; omega) _)) rfl) ?_
                    refine co_y rfl rfl (y_move rfl trivial (by conv => lhs; whnf)) ?_
                    refine co_y rfl rfl (y_extract rfl trivial rfl rfl) ?_
                    refine co_y rfl rfl (y_extract rfl trivial rfl rfl) ?_
                    refine co_d rfl rfl (d_store rfl trivial trivial rfl (by conv => lhs; whnf) Try.sizeOf46 (.inr ⟨_, rfl⟩) rfl rfl (Nat.le_of_ble_eq_true rfl) ?_)
                    refine co_nil ?_
                    exact ⟨((ackS (pb (WhP o.pend)) o b.r).1, ⟨n.next, if (decide ((kk : Int) < 20) && false) = true then n.fly else n.fly.filter (fun x => decide (x.n ≠ b.n)), true⟩, sput got b.r, k + 1), _, ⟨hlj.deliver hbm _, by dsimp only; omega, by dsimp only; split <;> omega, fun h20 => by dsimp only; rw [if_neg (by simp; try omega)]; exact hless⟩, ⟨⟨trivial, rfl⟩, ⟨trivial, rfl⟩, ⟨trivial, rfl⟩, ⟨trivial, rfl⟩, ⟨trivial, rfl⟩, ⟨trivial, rfl⟩, ⟨trivial, rfl⟩, ⟨trivial, rfl⟩, trivial⟩, rfl⟩
          · intro ⟨o1, n2, got1, k1⟩ ⟨hlj1, hk4, hle, hlt⟩
            dsimp only at hlj1 hk4 hle hlt ⊢
            refine cw_region ?_
            refine co_y rfl rfl (y_move rfl trivial (by conv => lhs; whnf)) ?_
            refine co_y rfl rfl (y_add rfl trivial rfl rfl rfl (by omega) (by omega)) ?_
            refine co_y rfl rfl (y_assign rfl trivial (by conv => lhs; whnf)) ?_
            refine co_nil ?_
            exact ⟨(o1, n2, got1, k1, kk + 1), _, ⟨by dsimp only; omega, hlj1, by dsimp only; omega, by dsimp only; omega⟩, ⟨⟨trivial, rfl⟩, ⟨trivial, rfl⟩, ⟨trivial, rfl⟩, ⟨trivial, rfl⟩, ⟨trivial, rfl⟩, ⟨trivial, rfl⟩, ⟨trivial, rfl⟩, ⟨trivial, rfl⟩, trivial⟩, rfl⟩
        · have hf0 : n.fly = [] := by
            have : ¬ (0 : Int) < n.fly.length := by simpa using h5
            exact List.eq_nil_of_length_eq_zero (by omega)
          refine cw_exit ?_
          refine cw_region ?_
          refine co_y rfl rfl (y_move rfl trivial (by conv => lhs; whnf)) ?_
          refine co_y rfl rfl (y_add rfl trivial rfl rfl rfl (by omega) (by omega)) ?_
          refine co_y rfl rfl (y_assign rfl trivial (by conv => lhs; whnf)) ?_
          refine co_nil ?_
          exact ⟨(o, n, got, k, rd + 1), _, ⟨by dsimp only; omega, hlj.li, hf0, by have := hlj.nx; push_cast; omega, by dsimp only; omega, by dsimp only; omega, fun h => by
  have h5 : 5 ≤ rd := by dsimp only at h; omega
  refine List.eq_nil_iff_forall_not_mem.2 fun x hx => ?_
  obtain ⟨y, hy, _⟩ := hlj.late h5 x hx
  rw [hf0] at hy
  cases hy⟩, ⟨⟨trivial, rfl⟩, ⟨trivial, rfl⟩, ⟨trivial, rfl⟩, ⟨trivial, rfl⟩, ⟨trivial, rfl⟩, ⟨trivial, rfl⟩, ⟨trivial, rfl⟩, trivial⟩, rfl⟩
    · have hpe : o.pend = [] := by
        rcases hq : o.pend with _ | ⟨x, r⟩
        · rfl
        · rw [hq] at h3; simp at h3
      have hall : ∀ x ∈ (pst i).pend, x ∈ got := fun x hx => by
        rcases hli.cov x hx with h | h
        · rw [hpe] at h; cases h
        · exact h
      have hgl := got_all (pst_wh (i := i) (by omega)).nodup hli.gn hall hli.gs
      refine cw_exit ?_
      refine cw_seq ?_
      refine cw_seq ?_
      refine cw_region ?_
      refine co_y rfl rfl (y_assign rfl rfl (by conv => lhs; whnf)) ?_
      refine co_nil ?_
      refine cw_block ?_
      refine cw_loopd hCC (α := Nat) (fun j => [(1, (.val (.int .i64 ((i : Int))))), (10, .ptr 2 0), (12, .map 4), (24, (.val (.int .i64 ((j : Int)))))]) (fun _ => [tapeC l nn (k), .box (o).cells, .box (pst i).cells, .box (n).cells, .map (smap (fun x : Rp => CV.agg x.cells) (got))]) (fun j => j ≤ i) (fun j => i - j) 0 (Nat.zero_le _) ⟨⟨trivial, rfl⟩, ⟨trivial, rfl⟩, ⟨trivial, rfl⟩, ⟨trivial, rfl⟩, trivial⟩ (extra0 := []) rfl (fun _ _ => Nat.le_of_ble_eq_true rfl) (fun a ha => by repeat' (first | exact trivial | exact .val _ | exact .ptr (Nat.le_of_ble_eq_true rfl) | exact .map (Nat.le_of_ble_eq_true rfl) | exact (by first | exact old_lts _ _ _ | exact old_rps _ _ _ | exact old_ints _ _ _ | exact old_set _ _) | refine old_box ?_ | refine ⟨?_, ?_⟩)) ?_
      intro j hj
      refine cw_seq ?_
      refine cw_seq ?_
      refine cw_region ?_
      refine co_y rfl rfl (y_move rfl trivial (by conv => lhs; whnf)) ?_
      refine co_y rfl rfl (y_field rfl trivial rfl Try.runUnderlying46 rfl Try.sizeOf44 (by decide)) ?_
      refine co_y rfl rfl (y_load1 rfl trivial rfl Try.isAgg44 rfl rfl) ?_
      refine co_y rfl rfl (y_len rfl trivial rfl Try.runUnderlying44 (by first | exact len_map _ _ | rfl) rfl) ?_
      refine co_y rfl rfl (y_int rfl trivial trivial rfl rfl rfl) ?_
      refine co_nil ?_
      refine cw_cond trivial rfl (fun h14 => ?_) (fun h14 => ?_)
      · have hji : j < i := by simp at h14; omega
        obtain ⟨x, hb⟩ : ∃ x, (pst i).pend[j]? = some x := ⟨(pst i).pend[j]'(by omega), by simp⟩
        refine cw_skip ?_
        refine cw_seq ?_
        refine cw_block ?_
        refine cw_seq ?_
        refine cw_region ?_
        refine co_y rfl rfl (y_move rfl trivial (by conv => lhs; whnf)) ?_
        refine co_y rfl rfl (y_field rfl trivial rfl Try.runUnderlying46 rfl Try.sizeOf44 (by decide)) ?_
        refine co_y rfl rfl (y_load1 rfl trivial rfl Try.isAgg44 rfl rfl) ?_
        refine co_y rfl rfl (y_move rfl trivial (by conv => lhs; whnf)) ?_
        refine co_y rfl rfl (y_index rfl trivial trivial rfl rfl Try.runUnderlying44 Try.sizeOf30 (by omega) (rows_get hb) rfl) ?_
        refine co_y rfl rfl (y_load_c rfl trivial rfl Try.isAgg30 Try.sizeOf30 (Nat.le_of_ble_eq_true rfl)) ?_
        refine co_y rfl rfl (y_lookup_set rp_key (a := x) rfl trivial trivial rfl rfl Try.runUnderlying63 Try.zeroValue4 rfl) ?_
        refine co_y rfl rfl (y_not rfl trivial rfl) ?_
        refine co_nil ?_
        refine cw_cond trivial rfl (fun h15 => ?_) (fun h15 => ?_)
        · exfalso
          simp at h15
          exact h15 (hall x (List.mem_of_getElem? hb))
        · skip
          refine cw_skip ?_
          refine cw_region ?_
          refine co_y rfl rfl (y_move rfl trivial (by conv => lhs; whnf)) ?_
          refine co_y rfl rfl (y_add rfl trivial rfl rfl rfl (by omega) (by omega)) ?_
          refine co_y rfl rfl (y_assign rfl trivial (by conv => lhs; whnf)) ?_
          refine co_nil ?_
          exact ⟨(j + 1), _, ⟨by omega, by omega⟩, ⟨⟨trivial, rfl⟩, ⟨trivial, rfl⟩, ⟨trivial, rfl⟩, ⟨trivial, rfl⟩, trivial⟩, rfl⟩
      · skip
        refine cw_exit ?_
        refine cw_seq ?_
        refine cw_region ?_
        refine co_y rfl rfl (y_move rfl trivial (by conv => lhs; whnf)) ?_
        refine co_y rfl rfl (y_len_set rp_key rfl trivial rfl Try.runUnderlying63 rfl rfl) ?_
        refine co_y rfl rfl (y_move rfl trivial (by conv => lhs; whnf)) ?_
        refine co_y rfl rfl (y_int rfl trivial trivial rfl rfl rfl) ?_
        refine co_y rfl rfl (y_move rfl trivial (by conv => lhs; whnf)) ?_
        refine co_g rfl rfl trivial rfl rfl (fun hg => y_callf rfl Try.call12 trivial (ld_known_s _) rfl) ?_
        refine co_y rfl rfl (y_pick_and rfl trivial rfl (fun hp => hp) (fun _ => rfl)) ?_
        refine co_y rfl rfl (y_assign rfl trivial (by conv => lhs; whnf)) ?_
        refine co_nil ?_
        refine cw_ret ?_
        exact ⟨_, res1 rfl trivial (by conv => lhs; whnf), _, _, rfl, rfl, cls_bool (by rw [hgl, hps]; simp)⟩

theorem ld_DeliveryLeast_s (l : List Int) (nn : Bool) (hl : l.length ≤ maxLen) (cnt : Int) (σ : List CObj) : CCalls CC 7 [.list (l.map icv) nn none, (.val (.int .i64 (cnt)))] σ fun r σ' => r = .ret (.val (.bool (true))) ∧ σ' = σ :=
  CCalls.anyw hCC (by repeat' (first | exact .val _ | exact pure_lts _ _ | exact pure_rps _ _ | exact pure_ints _ _ | exact trivial | refine pure_agg ?_ | refine pure_tup ?_ | refine ⟨?_, ?_⟩)) (by repeat' (first | exact .val _ | exact pure_lts _ _ | exact pure_rps _ _ | exact pure_ints _ _ | exact trivial | refine pure_agg ?_ | refine pure_tup ?_ | refine ⟨?_, ?_⟩)) (ld_DeliveryLeast l nn hl cnt) σ

end Go.Proofs.Ytchaklkfaemfgaa
