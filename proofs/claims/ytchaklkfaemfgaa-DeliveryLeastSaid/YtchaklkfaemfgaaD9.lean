import Derived.Test.YtchaklkfaemfgaaD8
namespace Go.Proofs.Ytchaklkfaemfgaa
open Go Go.Cl

theorem rd_find_r {n : Net} {num v : Int} (h : rfind n.fly num 0 = v) (hl : n.fly.length ≤ maxLen) (σ : List CObj) : CCalls CC 48 [.agg n.cells, (.val (.int .i64 num))] σ fun r σ' => r = .ret (.val (.int .i64 v)) ∧ σ' = σ := by
  have := rd_find_s n num hl σ
  rw [h] at this
  exact this
theorem cutAB {fl A B : List Lt} {b : Lt} (h : fl = A ++ b :: B) : ((fl.map Lt.cv).take A.length).drop 0 ++ ((fl.map Lt.cv).take (fl.map Lt.cv).length).drop (A.length + 1) = (A ++ B).map Lt.cv := by
  rw [List.take_length, List.drop_zero, h, show (A ++ b :: B).map Lt.cv = (A.map Lt.cv ++ [b.cv]) ++ B.map Lt.cv by simp, List.drop_left' (by simp), List.append_assoc, List.take_left' (by simp)]
  simp

set_option maxRecDepth 10000 in
theorem rd_Deliver (n : Net) (num : Int) (keep : Bool) (hl : n.fly.length ≤ maxLen) : CCalls CC 35 [.agg n.cells, (.val (.int .i64 (num))), (.val (.bool (keep)))] [] fun r σ' => r = .ret (.tup [.agg (rdelS (pb (CkP n)) n num keep).1.cells, .agg (rdelS (pb (CkP n)) n num keep).2.1.cells, (.val (.int .i64 ((rdelS (pb (CkP n)) n num keep).2.2)))]) ∧ σ' = [] := by
  obtain ⟨v, hv⟩ : ∃ v, rfind n.fly num 0 = v := ⟨_, rfl⟩
  refine ccalls_val (ccalls_of Try.func35 rfl rfl ?_)
  refine cw_seq ?_
  refine cw_region ?_
  refine co_d rfl rfl (d_box rfl trivial (by conv => lhs; whnf) (.inr ⟨_, rfl⟩) ?_)
  refine co_d rfl rfl (d_alloc rfl Try.zeroValue25 rfl (.inr ⟨_, rfl⟩) ?_)
  refine co_d rfl rfl (d_alloc rfl Try.zeroValue30 rfl (.inr ⟨_, rfl⟩) ?_)
  refine co_y rfl rfl (y_assign rfl rfl (by conv => lhs; whnf)) ?_
  refine co_nil ?_
  refine cw_seq ?_
  refine cw_seq ?_
  refine cw_region ?_
  refine co_y rfl rfl (y_load rfl trivial rfl Try.isAgg25 Try.sizeOf25 rfl (Nat.le_of_ble_eq_true rfl)) ?_
  refine co_y rfl rfl (y_callf rfl Try.call20 ⟨trivial, trivial⟩ (rd_Check_s n hl _) rfl) ?_
  refine co_y rfl rfl (y_not rfl trivial rfl) ?_
  refine co_nil ?_
  refine cw_cond trivial rfl (fun h1 => ?_) (fun h1 => ?_)
  · have hc : pb (CkP n) = false := by simpa using h1
    refine cw_seq ?_
    refine cw_region ?_
    refine co_y rfl rfl (y_build' #[(0, 1), (1, 1)] rfl trivial Try.runUnderlying25 Try.zeroValue25 rfl ⟨_, rfl⟩ (fun w => by kernel_rfl) rfl rfl) ?_
    refine co_y rfl rfl (y_build' #[(0, 1), (1, 1), (2, 1), (3, 1), (4, 1)] rfl trivial Try.runUnderlying30 Try.zeroValue30 rfl ⟨_, rfl⟩ (fun w => by kernel_rfl) rfl rfl) ?_
    refine co_d rfl rfl (d_store rfl trivial trivial rfl (by conv => lhs; whnf) Try.sizeOf25 (.inr ⟨_, rfl⟩) rfl rfl (Nat.le_of_ble_eq_true rfl) ?_)
    refine co_d rfl rfl (d_store rfl trivial trivial rfl (by conv => lhs; whnf) Try.sizeOf30 (.inr ⟨_, rfl⟩) rfl rfl (Nat.le_of_ble_eq_true rfl) ?_)
    refine co_y rfl rfl (y_assign rfl rfl (by conv => lhs; whnf)) ?_
    refine co_nil ?_
    refine cw_ret ?_
    exact ⟨_, res_all (rs := [.cell 6 25, .cell 7 30, .tmp 8]) (cs := [_, _, _]) rfl ⟨⟨trivial, _, _, _, rfl, rfl, .inr ⟨_, Try.isAgg25, Try.sizeOf25, Nat.le_of_ble_eq_true rfl, rfl⟩⟩, ⟨trivial, _, _, _, rfl, rfl, .inr ⟨_, Try.isAgg30, Try.sizeOf30, Nat.le_of_ble_eq_true rfl, rfl⟩⟩, ⟨trivial, (by conv => lhs; whnf)⟩, trivial⟩ (Nat.ne_of_beq_eq_false rfl), _, _, rfl, rfl, (cls_eq (by rw [rdelS, if_pos hc]; rfl) (by repeat' (first | exact .val _ | exact pure_lts _ _ | exact pure_rps _ _ | exact pure_ints _ _ | exact trivial | refine pure_agg ?_ | refine pure_tup ?_ | refine ⟨?_, ?_⟩)))⟩
  · have hc : pb (CkP n) = true := by simpa using h1
    have hck : CkP n := pb_eq.1 hc
    have hlen := hck.len
    refine cw_skip ?_
    refine cw_seq ?_
    refine cw_region ?_
    refine co_y rfl rfl (y_load rfl trivial rfl Try.isAgg25 Try.sizeOf25 rfl (Nat.le_of_ble_eq_true rfl)) ?_
    refine co_y rfl rfl (y_move rfl trivial (by conv => lhs; whnf)) ?_
    refine co_y rfl rfl (y_callf rfl Try.call48 ⟨trivial, trivial, trivial⟩ (rd_find_r hv hl _) rfl) ?_
    refine co_y rfl rfl (y_assign rfl trivial (by conv => lhs; whnf)) ?_
    refine co_nil ?_
    refine cw_seq ?_
    refine cw_seq ?_
    refine cw_region ?_
    refine co_y rfl rfl (y_move rfl trivial (by conv => lhs; whnf)) ?_
    refine co_y rfl rfl (y_int rfl trivial rfl rfl rfl rfl) ?_
    refine co_nil ?_
    refine cw_cond trivial rfl (fun h2 => ?_) (fun h2 => ?_)
    · have hh : hdEq (fB n num) num = false := by
        rcases fAB_ne (num := num) hck with ⟨b, B, hB, hb, hr⟩ | ⟨_, _, hh⟩
        · rw [hv] at hr
          simp at h2
          omega
        · exact hh
      refine cw_seq ?_
      refine cw_region ?_
      refine co_y rfl rfl (y_build' #[(0, 1), (1, 1)] rfl trivial Try.runUnderlying25 Try.zeroValue25 rfl ⟨_, rfl⟩ (fun w => by kernel_rfl) rfl rfl) ?_
      refine co_y rfl rfl (y_build' #[(0, 1), (1, 1), (2, 1), (3, 1), (4, 1)] rfl trivial Try.runUnderlying30 Try.zeroValue30 rfl ⟨_, rfl⟩ (fun w => by kernel_rfl) rfl rfl) ?_
      refine co_d rfl rfl (d_store rfl trivial trivial rfl (by conv => lhs; whnf) Try.sizeOf25 (.inr ⟨_, rfl⟩) rfl rfl (Nat.le_of_ble_eq_true rfl) ?_)
      refine co_d rfl rfl (d_store rfl trivial trivial rfl (by conv => lhs; whnf) Try.sizeOf30 (.inr ⟨_, rfl⟩) rfl rfl (Nat.le_of_ble_eq_true rfl) ?_)
      refine co_y rfl rfl (y_assign rfl rfl (by conv => lhs; whnf)) ?_
      refine co_nil ?_
      refine cw_ret ?_
      exact ⟨_, res_all (rs := [.cell 6 25, .cell 7 30, .tmp 8]) (cs := [_, _, _]) rfl ⟨⟨trivial, _, _, _, rfl, rfl, .inr ⟨_, Try.isAgg25, Try.sizeOf25, Nat.le_of_ble_eq_true rfl, rfl⟩⟩, ⟨trivial, _, _, _, rfl, rfl, .inr ⟨_, Try.isAgg30, Try.sizeOf30, Nat.le_of_ble_eq_true rfl, rfl⟩⟩, ⟨trivial, (by conv => lhs; whnf)⟩, trivial⟩ (Nat.ne_of_beq_eq_false rfl), _, _, rfl, rfl, (cls_eq (by rw [rdel_no hc hh]; rfl) (by repeat' (first | exact .val _ | exact pure_lts _ _ | exact pure_rps _ _ | exact pure_ints _ _ | exact trivial | refine pure_agg ?_ | refine pure_tup ?_ | refine ⟨?_, ?_⟩)))⟩
    · obtain ⟨b, B, hB, hb, hr⟩ : ∃ b B, fB n num = b :: B ∧ b.n = num ∧ v = (fA n num).length := by
        rcases fAB_ne (num := num) hck with ⟨b, B, hB, hb, hr⟩ | ⟨_, hr, _⟩
        · exact ⟨b, B, hB, hb, hv.symm.trans hr⟩
        · rw [hv] at hr
          simp at h2
          omega
      subst hr
      have hfl : n.fly = fA n num ++ b :: B := by rw [← hB]; exact fAB n num
      have hlA : (fA n num).length + (B.length + 1) = n.fly.length := by
        conv => rhs; rw [hfl]
        simp
      have hb1 : n.fly[((fA n num).length : Int).toNat]? = some b := by
        rw [Int.toNat_natCast]
        have h3 : (fA n num ++ b :: B)[(fA n num).length]? = some b := by simp
        rwa [← hfl] at h3
      have hml : (n.fly.map Lt.cv).length = n.fly.length := by simp
      refine cw_skip ?_
      refine cw_seq ?_
      refine cw_region ?_
      refine co_y rfl rfl (y_field rfl trivial rfl Try.runUnderlying25 rfl Try.sizeOf23 (by decide)) ?_
      refine co_y rfl rfl (y_load1 rfl trivial rfl Try.isAgg23 rfl rfl) ?_
      refine co_y rfl rfl (y_move rfl trivial (by conv => lhs; whnf)) ?_
      refine co_y rfl rfl (y_index rfl trivial trivial rfl rfl Try.runUnderlying23 Try.sizeOf50 (by omega) (rows_get hb1) rfl) ?_
      refine co_y rfl rfl (y_field_c rfl trivial rfl Try.runUnderlying50 rfl Try.sizeOf30 (by decide)) ?_
      refine co_y rfl rfl (y_load_c rfl trivial rfl Try.isAgg30 Try.sizeOf30 (Nat.le_of_ble_eq_true rfl)) ?_
      refine co_d rfl rfl (d_alloc rfl Try.zeroValue30 rfl (.inr ⟨_, rfl⟩) ?_)
      refine co_d rfl rfl (d_store rfl trivial trivial rfl (by conv => lhs; whnf) Try.sizeOf30 (.inr ⟨_, rfl⟩) rfl rfl (Nat.le_of_ble_eq_true rfl) ?_)
      refine co_nil ?_
      refine cw_seq ?_
      refine cw_seq ?_
      refine cw_region ?_
      refine co_y rfl rfl (y_move rfl trivial (by conv => lhs; whnf)) ?_
      refine co_y rfl rfl (y_not rfl trivial rfl) ?_
      refine co_nil ?_
      refine cw_cond trivial rfl (fun h3 => ?_) (fun h3 => ?_)
      · have hk : keep = false := by simpa using h3
        subst hk
        refine cw_float [0, 1, 2, 3, 5, 6, 7, 8, 9, 4, 10, 11, 12] 9 [0, 1, 0, 7, 15, 0, 32, 0, 128, 480, 1023, 2047, 4095] [[4, 5, 6, 7, 8], [], [], []] (hd1l := [0, 1, 2, 3, 5, 6, 7, 8, 9]) (tll := [(4, [4, 5, 6, 7, 8]), (10, []), (11, []), (12, [])]) (by kernel_rfl) (by kernel_rfl) rfl rfl rfl ?_
        refine chf rfl (hop_y rfl (y_field rfl trivial rfl Try.runUnderlying25 rfl Try.sizeOf23 (by decide))) ?_
        refine chf rfl (hop_y rfl (y_load1 rfl trivial rfl Try.isAgg23 rfl rfl)) ?_
        refine chf rfl (hop_y rfl (y_move rfl trivial (by conv => lhs; whnf))) ?_
        refine chf rfl (hop_y rfl (y_slice (h := (fA n num).length) rfl trivial rfl Try.runUnderlying23 Try.sizeOf50 (by first | exact rows_len (by intro a; rfl) _ | assumption) rfl ⟨trivial, _, _, rfl, by omega, by omega⟩ (by first | omega | (simp; done) | (simp; omega)) (by rw [hml]; omega))) ?_
        refine chf rfl (hop_y rfl (y_field rfl trivial rfl Try.runUnderlying25 rfl Try.sizeOf23 (by decide))) ?_
        refine chf rfl (hop_y rfl (y_load1 rfl trivial rfl Try.isAgg23 rfl rfl)) ?_
        refine chf rfl (hop_y rfl (y_move rfl trivial (by conv => lhs; whnf))) ?_
        refine chf rfl (hop_y rfl (y_add rfl trivial rfl rfl rfl (by omega) (by omega))) ?_
        refine chf rfl (hop_y rfl (y_slice (l := ((fA n num).length + 1)) rfl trivial rfl Try.runUnderlying23 Try.sizeOf50 (by first | exact rows_len (by intro a; rfl) _ | assumption) ⟨trivial, _, _, rfl, by omega, by omega⟩ rfl (by first | omega | (simp; done) | (simp; omega)) (by rw [hml]; omega))) ?_
        refine chf_nil ?_
        refine ctl_d rfl rfl (d_appu0 rfl rfl trivial rfl (src_list rfl (by first | exact rows_len (by intro a; rfl) _ | (intro r hr; simp at hr; subst hr; rfl) | (intro r hr; exact rows_len (by intro a; rfl) _ r (List.mem_of_mem_take (List.mem_of_mem_drop hr))) | (intro r hr; simp at hr; obtain ⟨a, _, rfl⟩ := hr; rfl))) Try.runUnderlying23 Try.sizeOf50 Try.typeInfo50 Try.zeroValue50 rfl (by have hb : Try.t50.bytes = 48 := rfl; rw [hb]; first | omega | (simp; omega)) (by first | omega | (simp; omega) | simp) (fA n num).length (by simp; omega) ?_)
        refine ⟨⟨(by exact hop_y rfl (y_field rfl trivial rfl Try.runUnderlying25 rfl Try.sizeOf23 (by decide))), (by exact hop_y rfl (y_load1 rfl trivial rfl Try.isAgg23 rfl rfl)), (by exact hop_y rfl (y_move rfl trivial (by conv => lhs; whnf))), (by exact hop_y rfl (y_add rfl trivial rfl rfl rfl (by omega) (by omega))), (by exact hop_y rfl (y_slice (l := ((fA n num).length + 1)) rfl trivial rfl Try.runUnderlying23 Try.sizeOf50 (by first | exact rows_len (by intro a; rfl) _ | assumption) ⟨trivial, _, _, rfl, by omega, by omega⟩ rfl (by first | omega | (simp; done) | (simp; omega)) (by rw [hml]; omega))), trivial⟩, ?_⟩
        refine ctl_d rfl rfl (d_appu rfl trivial trivial rfl (by simp; omega) (src_list rfl (by first | exact rows_len (by intro a; rfl) _ | (intro r hr; simp at hr; subst hr; rfl) | (intro r hr; exact rows_len (by intro a; rfl) _ r (List.mem_of_mem_take (List.mem_of_mem_drop hr))) | (intro r hr; simp at hr; obtain ⟨a, _, rfl⟩ := hr; rfl))) Try.runUnderlying23 Try.sizeOf50 Try.typeInfo50 Try.zeroValue50 rfl (.inr rfl) (by first | exact rows_len (by intro a; rfl) _ | assumption | (intro r hr; exact rows_len (by intro a; rfl) _ r (List.mem_of_mem_take (List.mem_of_mem_drop hr))) | (intro r hr; simp at hr; obtain ⟨a, _, rfl⟩ := hr; rfl)) (by have hb : Try.t50.bytes = 48 := rfl; rw [hb]; first | omega | (simp; omega)) (by first | omega | (simp; omega) | simp) ((fA n num ++ B).map Lt.cv) (fA n num ++ B).length (cutAB hfl) (by simp; omega) ?_)
        refine ⟨trivial, ?_⟩
        refine ctl_h rfl (hop_y rfl (y_field rfl trivial rfl Try.runUnderlying25 rfl Try.sizeOf23 (by decide))) ⟨trivial, ?_⟩
        refine ctl_d rfl rfl (d_store rfl trivial trivial rfl (by conv => lhs; whnf) Try.sizeOf23 (.inl rfl) rfl rfl (Nat.le_of_ble_eq_true rfl) ?_)
        refine ⟨trivial, ?_⟩
        refine ctl_nil ?_
        refine cw_seq ?_
        refine cw_float [0, 1, 2, 3, 4] 2 [0, 0, 1, 7, 15] [[1], [], []] (hd1l := [0, 1]) (tll := [(2, [1]), (3, []), (4, [])]) (by kernel_rfl) (by kernel_rfl) rfl rfl rfl ?_
        refine chf rfl (hop_y rfl (y_load rfl trivial rfl Try.isAgg25 Try.sizeOf25 rfl (Nat.le_of_ble_eq_true rfl))) ?_
        refine chf rfl (hop_y rfl (y_load rfl trivial rfl Try.isAgg30 Try.sizeOf30 rfl (Nat.le_of_ble_eq_true rfl))) ?_
        refine chf_nil ?_
        refine ctl_d rfl rfl (d_store rfl trivial trivial rfl (by conv => lhs; whnf) Try.sizeOf25 (.inr ⟨_, rfl⟩) rfl rfl (Nat.le_of_ble_eq_true rfl) ?_)
        refine ⟨⟨(by exact hop_y rfl (y_load rfl trivial rfl Try.isAgg30 Try.sizeOf30 rfl (Nat.le_of_ble_eq_true rfl))), trivial⟩, ?_⟩
        refine ctl_d rfl rfl (d_store rfl trivial trivial rfl (by conv => lhs; whnf) Try.sizeOf30 (.inr ⟨_, rfl⟩) rfl rfl (Nat.le_of_ble_eq_true rfl) ?_)
        refine ⟨trivial, ?_⟩
        refine ctl_h rfl (hop_y rfl (y_assign rfl rfl (by conv => lhs; whnf))) ⟨trivial, ?_⟩
        refine ctl_nil ?_
        refine cw_ret ?_
        exact ⟨_, res_all (rs := [.cell 6 25, .cell 7 30, .tmp 8]) (cs := [_, _, _]) rfl ⟨⟨trivial, _, _, _, rfl, rfl, .inr ⟨_, Try.isAgg25, Try.sizeOf25, Nat.le_of_ble_eq_true rfl, rfl⟩⟩, ⟨trivial, _, _, _, rfl, rfl, .inr ⟨_, Try.isAgg30, Try.sizeOf30, Nat.le_of_ble_eq_true rfl, rfl⟩⟩, ⟨trivial, (by conv => lhs; whnf)⟩, trivial⟩ (Nat.ne_of_beq_eq_false rfl), _, _, rfl, rfl, (by rw [rdel_yes hc hB hb]; exact .tups ⟨.aggs ⟨.old (.val _), .tok (fun r hr c hc => (rows_pure (f := Lt.cv) (fun _ => Pures.all ⟨.val _, .val _, .val _, .val _, .val _, .val _, trivial⟩) _) r hr c hc), trivial⟩, .old (pure_agg (by repeat' (first | exact .val _ | exact pure_lts _ _ | exact pure_rps _ _ | exact pure_ints _ _ | exact trivial | refine pure_agg ?_ | refine pure_tup ?_ | refine ⟨?_, ?_⟩))).old, .old (.val _), trivial⟩)⟩
      · have hk : keep = true := by simpa using h3
        subst hk
        refine cw_skip ?_
        refine cw_seq ?_
        refine cw_float [0, 1, 2, 3, 4] 2 [0, 0, 1, 7, 15] [[1], [], []] (hd1l := [0, 1]) (tll := [(2, [1]), (3, []), (4, [])]) (by kernel_rfl) (by kernel_rfl) rfl rfl rfl ?_
        refine chf rfl (hop_y rfl (y_load rfl trivial rfl Try.isAgg25 Try.sizeOf25 rfl (Nat.le_of_ble_eq_true rfl))) ?_
        refine chf rfl (hop_y rfl (y_load rfl trivial rfl Try.isAgg30 Try.sizeOf30 rfl (Nat.le_of_ble_eq_true rfl))) ?_
        refine chf_nil ?_
        refine ctl_d rfl rfl (d_store rfl trivial trivial rfl (by conv => lhs; whnf) Try.sizeOf25 (.inr ⟨_, rfl⟩) rfl rfl (Nat.le_of_ble_eq_true rfl) ?_)
        refine ⟨⟨(by exact hop_y rfl (y_load rfl trivial rfl Try.isAgg30 Try.sizeOf30 rfl (Nat.le_of_ble_eq_true rfl))), trivial⟩, ?_⟩
        refine ctl_d rfl rfl (d_store rfl trivial trivial rfl (by conv => lhs; whnf) Try.sizeOf30 (.inr ⟨_, rfl⟩) rfl rfl (Nat.le_of_ble_eq_true rfl) ?_)
        refine ⟨trivial, ?_⟩
        refine ctl_h rfl (hop_y rfl (y_assign rfl rfl (by conv => lhs; whnf))) ⟨trivial, ?_⟩
        refine ctl_nil ?_
        refine cw_ret ?_
        exact ⟨_, res_all (rs := [.cell 6 25, .cell 7 30, .tmp 8]) (cs := [_, _, _]) rfl ⟨⟨trivial, _, _, _, rfl, rfl, .inr ⟨_, Try.isAgg25, Try.sizeOf25, Nat.le_of_ble_eq_true rfl, rfl⟩⟩, ⟨trivial, _, _, _, rfl, rfl, .inr ⟨_, Try.isAgg30, Try.sizeOf30, Nat.le_of_ble_eq_true rfl, rfl⟩⟩, ⟨trivial, (by conv => lhs; whnf)⟩, trivial⟩ (Nat.ne_of_beq_eq_false rfl), _, _, rfl, rfl, (cls_eq (by rw [rdel_yes hc hB hb]; rfl) (by repeat' (first | exact .val _ | exact pure_lts _ _ | exact pure_rps _ _ | exact pure_ints _ _ | exact trivial | refine pure_agg ?_ | refine pure_tup ?_ | refine ⟨?_, ?_⟩)))⟩

theorem rd_Deliver_s (n : Net) (num : Int) (keep : Bool) (hl : n.fly.length ≤ maxLen) (σ : List CObj) : CCalls CC 35 [.agg n.cells, (.val (.int .i64 (num))), (.val (.bool (keep)))] σ fun r σ' => r = .ret (.tup [.agg (rdelS (pb (CkP n)) n num keep).1.cells, .agg (rdelS (pb (CkP n)) n num keep).2.1.cells, (.val (.int .i64 ((rdelS (pb (CkP n)) n num keep).2.2)))]) ∧ σ' = σ :=
  CCalls.anyw hCC (by repeat' (first | exact .val _ | exact pure_lts _ _ | exact pure_rps _ _ | exact pure_ints _ _ | exact trivial | refine pure_agg ?_ | refine pure_tup ?_ | refine ⟨?_, ?_⟩)) (by repeat' (first | exact .val _ | exact pure_lts _ _ | exact pure_rps _ _ | exact pure_ints _ _ | exact trivial | refine pure_agg ?_ | refine pure_tup ?_ | refine ⟨?_, ?_⟩)) (rd_Deliver n num keep hl) σ

set_option maxRecDepth 10000 in
theorem rd_Drop (n : Net) (num : Int) (hl : n.fly.length ≤ maxLen) : CCalls CC 36 [.agg n.cells, (.val (.int .i64 (num)))] [] fun r σ' => r = .ret (.tup [.agg (rdelS (pb (CkP n)) n num false).1.cells, (.val (.int .i64 ((rdelS (pb (CkP n)) n num false).2.2)))]) ∧ σ' = [] := by
  refine ccalls_val (ccalls_of Try.func36 rfl rfl ?_)
  refine cw_seq ?_
  refine cw_region ?_
  refine co_d rfl rfl (d_box rfl trivial (by conv => lhs; whnf) (.inr ⟨_, rfl⟩) ?_)
  refine co_d rfl rfl (d_alloc rfl Try.zeroValue25 rfl (.inr ⟨_, rfl⟩) ?_)
  refine co_y rfl rfl (y_assign rfl rfl (by conv => lhs; whnf)) ?_
  refine co_nil ?_
  refine cw_seq ?_
  refine cw_region ?_
  refine co_y rfl rfl (y_load rfl trivial rfl Try.isAgg25 Try.sizeOf25 rfl (Nat.le_of_ble_eq_true rfl)) ?_
  refine co_y rfl rfl (y_move rfl trivial (by conv => lhs; whnf)) ?_
  refine co_y rfl rfl (y_callf rfl Try.call35 ⟨trivial, trivial, rfl, trivial⟩ (rd_Deliver_s n num false hl _) rfl) ?_
  refine co_y rfl rfl (y_move rfl trivial (by conv => lhs; whnf)) ?_
  refine co_y rfl rfl (y_extract rfl trivial rfl rfl) ?_
  refine co_y rfl rfl (y_extract rfl trivial rfl rfl) ?_
  refine co_y rfl rfl (y_extract rfl trivial rfl rfl) ?_
  refine co_d rfl rfl (d_alloc rfl Try.zeroValue30 rfl (.inr ⟨_, rfl⟩) ?_)
  refine co_d rfl rfl (d_store rfl trivial trivial rfl (by conv => lhs; whnf) Try.sizeOf25 (.inr ⟨_, rfl⟩) rfl rfl (Nat.le_of_ble_eq_true rfl) ?_)
  refine co_d rfl rfl (d_store rfl trivial trivial rfl (by conv => lhs; whnf) Try.sizeOf30 (.inr ⟨_, rfl⟩) rfl rfl (Nat.le_of_ble_eq_true rfl) ?_)
  refine co_y rfl rfl (y_assign rfl trivial (by conv => lhs; whnf)) ?_
  refine co_nil ?_
  refine cw_seq ?_
  refine cw_region ?_
  refine co_y rfl rfl (y_load rfl trivial rfl Try.isAgg25 Try.sizeOf25 rfl (Nat.le_of_ble_eq_true rfl)) ?_
  refine co_y rfl rfl (y_move rfl trivial (by conv => lhs; whnf)) ?_
  refine co_d rfl rfl (d_store rfl trivial trivial rfl (by conv => lhs; whnf) Try.sizeOf25 (.inr ⟨_, rfl⟩) rfl rfl (Nat.le_of_ble_eq_true rfl) ?_)
  refine co_y rfl rfl (y_assign rfl trivial (by conv => lhs; whnf)) ?_
  refine co_nil ?_
  refine cw_ret ?_
  exact ⟨_, res_all (rs := [.cell 4 25, .tmp 5]) (cs := [_, _]) rfl ⟨⟨trivial, _, _, _, rfl, rfl, .inr ⟨_, Try.isAgg25, Try.sizeOf25, Nat.le_of_ble_eq_true rfl, rfl⟩⟩, ⟨trivial, (by conv => lhs; whnf)⟩, trivial⟩ (Nat.ne_of_beq_eq_false rfl), _, _, rfl, rfl, (cls_eq rfl (by repeat' (first | exact .val _ | exact pure_lts _ _ | exact pure_rps _ _ | exact pure_ints _ _ | exact trivial | refine pure_agg ?_ | refine pure_tup ?_ | refine ⟨?_, ?_⟩)))⟩

theorem rd_Drop_s (n : Net) (num : Int) (hl : n.fly.length ≤ maxLen) (σ : List CObj) : CCalls CC 36 [.agg n.cells, (.val (.int .i64 (num)))] σ fun r σ' => r = .ret (.tup [.agg (rdelS (pb (CkP n)) n num false).1.cells, (.val (.int .i64 ((rdelS (pb (CkP n)) n num false).2.2)))]) ∧ σ' = σ :=
  CCalls.anyw hCC (by repeat' (first | exact .val _ | exact pure_lts _ _ | exact pure_rps _ _ | exact pure_ints _ _ | exact trivial | refine pure_agg ?_ | refine pure_tup ?_ | refine ⟨?_, ?_⟩)) (by repeat' (first | exact .val _ | exact pure_lts _ _ | exact pure_rps _ _ | exact pure_ints _ _ | exact trivial | refine pure_agg ?_ | refine pure_tup ?_ | refine ⟨?_, ?_⟩)) (rd_Drop n num hl) σ

set_option maxRecDepth 10000 in
theorem de_Drop (n : Net) (num : Int) (hnn : n.nn = false → n.fly = []) (hl : n.fly.length ≤ maxLen) : CCalls CC 30 [.agg n.cells, (.val (.int .i64 (num)))] [] fun r σ' => r = .ret (.tup [.agg (delS (pb (CkP n)) n num false).1.cells, (.val (.int .i64 ((delS (pb (CkP n)) n num false).2.2)))]) ∧ σ' = [] := by
  obtain ⟨v, er, hfs⟩ : ∃ v er, findS (pb (CkP n)) n num = (v, er) := ⟨_, _, rfl⟩
  obtain ⟨nx, fl, nn0⟩ := n
  refine ccalls_val (ccalls_of Try.func30 rfl rfl ?_)
  refine cw_seq ?_
  refine cw_region ?_
  refine co_d rfl rfl (d_box rfl trivial (by conv => lhs; whnf) (.inr ⟨_, rfl⟩) ?_)
  refine co_d rfl rfl (d_alloc rfl Try.zeroValue25 rfl (.inr ⟨_, rfl⟩) ?_)
  refine co_y rfl rfl (y_assign rfl rfl (by conv => lhs; whnf)) ?_
  refine co_nil ?_
  refine cw_seq ?_
  refine cw_region ?_
  refine co_y rfl rfl (y_load rfl trivial rfl Try.isAgg25 Try.sizeOf25 rfl (Nat.le_of_ble_eq_true rfl)) ?_
  refine co_y rfl rfl (y_move rfl trivial (by conv => lhs; whnf)) ?_
  refine co_y rfl rfl (y_callf rfl Try.call32 ⟨trivial, trivial, trivial⟩ (de_find_r hfs hl _) rfl) ?_
  refine co_y rfl rfl (y_move rfl trivial (by conv => lhs; whnf)) ?_
  refine co_y rfl rfl (y_extract rfl trivial rfl rfl) ?_
  refine co_y rfl rfl (y_extract rfl trivial rfl rfl) ?_
  refine co_y rfl rfl (y_assign rfl trivial (by conv => lhs; whnf)) ?_
  refine co_y rfl rfl (y_assign rfl trivial (by conv => lhs; whnf)) ?_
  refine co_nil ?_
  refine cw_seq ?_
  refine cw_seq ?_
  refine cw_region ?_
  refine co_y rfl rfl (y_move rfl trivial (by conv => lhs; whnf)) ?_
  refine co_y rfl rfl (y_int rfl trivial rfl rfl rfl rfl) ?_
  refine co_nil ?_
  refine cw_cond trivial rfl (fun h1 => ?_) (fun h1 => ?_)
  · have he : er ≠ 0 := by simpa using h1
    refine cw_seq ?_
    refine cw_region ?_
    refine co_y rfl rfl (y_build' #[(0, 1), (1, 1)] rfl trivial Try.runUnderlying25 Try.zeroValue25 rfl ⟨_, rfl⟩ (fun w => by kernel_rfl) rfl rfl) ?_
    refine co_y rfl rfl (y_move rfl trivial (by conv => lhs; whnf)) ?_
    refine co_d rfl rfl (d_store rfl trivial trivial rfl (by conv => lhs; whnf) Try.sizeOf25 (.inr ⟨_, rfl⟩) rfl rfl (Nat.le_of_ble_eq_true rfl) ?_)
    refine co_y rfl rfl (y_assign rfl trivial (by conv => lhs; whnf)) ?_
    refine co_nil ?_
    refine cw_ret ?_
    exact ⟨_, res_all (rs := [.cell 4 25, .tmp 5]) (cs := [_, _]) rfl ⟨⟨trivial, _, _, _, rfl, rfl, .inr ⟨_, Try.isAgg25, Try.sizeOf25, Nat.le_of_ble_eq_true rfl, rfl⟩⟩, ⟨trivial, (by conv => lhs; whnf)⟩, trivial⟩ (Nat.ne_of_beq_eq_false rfl), _, _, rfl, rfl, (cls_eq (by rw [del_err hfs he]; rfl) (by repeat' (first | exact .val _ | exact pure_lts _ _ | exact pure_rps _ _ | exact pure_ints _ _ | exact trivial | refine pure_agg ?_ | refine pure_tup ?_ | refine ⟨?_, ?_⟩)))⟩
  · have he : er = 0 := by simpa using h1
    subst he
    obtain ⟨hck, b, B, hB, hb, hv⟩ := find_ok hfs
    subst hv
    have hnn1 : nn0 = true := by
      cases nn0 with
      | true => rfl
      | false =>
        have h1 := hnn rfl
        have h2 := fAB (Net.mk nx fl false) num
        rw [hB] at h2
        simp only at h1 h2
        rw [h1] at h2
        simp at h2
    subst hnn1
    have hfl : fl = fA (Net.mk nx fl true) num ++ b :: B := by
      have h2 := fAB (Net.mk nx fl true) num
      rw [hB] at h2
      exact h2
    have hlen := hck.len
    have hb1 : fl[((fA (Net.mk nx fl true) num).length : Int).toNat]? = some b := by
      rw [Int.toNat_natCast]
      have h3 : (fA (Net.mk nx fl true) num ++ b :: B)[(fA (Net.mk nx fl true) num).length]? = some b := by simp
      rwa [← hfl] at h3
    have hne : fl ≠ [] := by rw [hfl]; simp
    dsimp only at hlen
    refine cw_skip ?_
    refine cw_seq ?_
    refine cw_region ?_
    refine co_y rfl rfl (y_load rfl trivial rfl Try.isAgg25 Try.sizeOf25 rfl (Nat.le_of_ble_eq_true rfl)) ?_
    refine co_y rfl rfl (y_move rfl trivial (by conv => lhs; whnf)) ?_
    refine co_y rfl rfl (y_callf rfl Try.call34 ⟨trivial, trivial, trivial⟩ (de_without_s (Net.mk nx fl true) (fA (Net.mk nx fl true) num) b B hfl rfl (by dsimp only; omega) _) rfl) ?_
    refine co_d rfl rfl (d_store rfl trivial trivial rfl (by conv => lhs; whnf) Try.sizeOf25 (.inr ⟨_, rfl⟩) rfl rfl (Nat.le_of_ble_eq_true rfl) ?_)
    refine co_y rfl rfl (y_assign rfl rfl (by conv => lhs; whnf)) ?_
    refine co_nil ?_
    refine cw_ret ?_
    exact ⟨_, res_all (rs := [.cell 4 25, .tmp 5]) (cs := [_, _]) rfl ⟨⟨trivial, _, _, _, rfl, rfl, .inr ⟨_, Try.isAgg25, Try.sizeOf25, Nat.le_of_ble_eq_true rfl, rfl⟩⟩, ⟨trivial, (by conv => lhs; whnf)⟩, trivial⟩ (Nat.ne_of_beq_eq_false rfl), _, _, rfl, rfl, (cls_eq (by rw [del_ok hck hB hb]; rfl) (by repeat' (first | exact .val _ | exact pure_lts _ _ | exact pure_rps _ _ | exact pure_ints _ _ | exact trivial | refine pure_agg ?_ | refine pure_tup ?_ | refine ⟨?_, ?_⟩)))⟩

theorem de_Drop_s (n : Net) (num : Int) (hnn : n.nn = false → n.fly = []) (hl : n.fly.length ≤ maxLen) (σ : List CObj) : CCalls CC 30 [.agg n.cells, (.val (.int .i64 (num)))] σ fun r σ' => r = .ret (.tup [.agg (delS (pb (CkP n)) n num false).1.cells, (.val (.int .i64 ((delS (pb (CkP n)) n num false).2.2)))]) ∧ σ' = σ :=
  CCalls.anyw hCC (by repeat' (first | exact .val _ | exact pure_lts _ _ | exact pure_rps _ _ | exact pure_ints _ _ | exact trivial | refine pure_agg ?_ | refine pure_tup ?_ | refine ⟨?_, ?_⟩)) (by repeat' (first | exact .val _ | exact pure_lts _ _ | exact pure_rps _ _ | exact pure_ints _ _ | exact trivial | refine pure_agg ?_ | refine pure_tup ?_ | refine ⟨?_, ?_⟩)) (de_Drop n num hnn hl) σ

end Go.Proofs.Ytchaklkfaemfgaa
