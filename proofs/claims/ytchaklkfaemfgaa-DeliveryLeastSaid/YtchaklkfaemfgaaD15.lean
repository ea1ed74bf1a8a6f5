import Derived.Test.YtchaklkfaemfgaaD14
namespace Go.Proofs.Ytchaklkfaemfgaa
open Go Go.Cl

theorem cq_div {a b : Int} (hb : 1 < b) (h1 : -9223372036854775808 ≤ a) (h2 : a ≤ 9223372036854775807) : cint .quo .i64 a b = some (.int .i64 (a.tdiv b)) := by
  have hr : -9223372036854775808 ≤ a.tdiv b ∧ a.tdiv b ≤ 9223372036854775807 := by
    rcases Int.le_total 0 a with h | h
    · rw [Int.tdiv_eq_ediv_of_nonneg h]
      have := Int.ediv_nonneg h (show 0 ≤ b by omega)
      have := Int.ediv_le_self b h
      omega
    · have e : a.tdiv b = -((-a).tdiv b) := by rw [Int.neg_tdiv]; omega
      rw [e, Int.tdiv_eq_ediv_of_nonneg (show 0 ≤ -a by omega)]
      have := Int.ediv_nonneg (show 0 ≤ -a by omega) (show 0 ≤ b by omega)
      have := Int.ediv_le_self b (show 0 ≤ -a by omega)
      omega
  simp only [cint, if_neg (show ¬ b = 0 by omega)]
  rw [wr64 (by omega) (by omega)]
theorem pure_nets (l : List Net) (nn : Bool) : Pure (.list (l.map Net.cells) nn none) := pure_rows (f := Net.cells) (fun _ => ⟨.val _, pure_lts _ _, trivial⟩) l nn
theorem pure_bxs (l : List Bx) (nn : Bool) : Pure (.list (l.map Bx.cells) nn none) := pure_rows (f := Bx.cells) (fun _ => ⟨pure_rps _ _, trivial⟩) l nn
theorem old_nets (n : Nat) (l : List Net) {nn : Bool} : Old n (.list (l.map Net.cells) nn none) := (pure_nets l nn).old
theorem old_bxs (n : Nat) (l : List Bx) {nn : Bool} : Old n (.list (l.map Bx.cells) nn none) := (pure_bxs l nn).old
/-- What any network is. -/
def NetOk (n : Net) : Prop := n.fly.length ≤ maxLen ∧ (n.nn = false → n.fly = [])
theorem sendsS_len (l : List Rp) : ∀ (n : Net) (i : Nat), n.fly.length ≤ maxLen → (sendsS n l i).1.fly.length ≤ maxLen := by
  induction l with
  | nil => exact fun n i h => h
  | cons x l ih =>
    intro n i h
    unfold sendsS
    obtain ⟨n1, e1, hs⟩ : ∃ n1 e1, sendS (pb (CkP n)) (pb (RightP x)) n x = (n1, e1) := ⟨_, _, rfl⟩
    rw [hs]
    split
    · exact ih _ _ (by have := send_len hs rfl rfl; show n1.fly.length ≤ maxLen; unfold maxLen; omega)
    · exact h
theorem resS_len {c w : Bool} {n : Net} {b : Bx} (h : n.fly.length ≤ maxLen) : (resS c w n b).1.fly.length ≤ maxLen := by
  unfold resS
  split
  · exact Nat.zero_le _
  · exact sendsS_len _ _ _ h

set_option maxRecDepth 10000 in
set_option maxHeartbeats 4000000 in
theorem ld_DeliveryChecks (l : List Int) (nn : Bool) (hl : l.length ≤ maxLen) (raw : Net) (hrw : NetOk raw) (bx : Bx) (hbl : bx.pend.length ≤ maxLen) (at_ by_ : Int) (hat : -9223372036854775808 ≤ at_ ∧ at_ ≤ 9223372036854775807) : CCalls CC 5 [.list (l.map icv) nn none, .agg raw.cells, .agg bx.cells, (.val (.int .i64 (at_))), (.val (.int .i64 (by_)))] [] fun r σ' => r = .ret (.val (.bool (true))) ∧ σ' = [] := by
  refine ccalls_val (ccalls_of Try.func5 rfl rfl ?_)
  refine cw_seq ?_
  refine cw_region ?_
  refine co_d rfl rfl (d_box rfl trivial (by conv => lhs; whnf) (.inr ⟨_, rfl⟩) ?_)
  refine co_d rfl rfl (d_box rfl trivial (by conv => lhs; whnf) (.inr ⟨_, rfl⟩) ?_)
  refine co_y rfl rfl (y_assign rfl rfl (by conv => lhs; whnf)) ?_
  refine co_nil ?_
  refine cw_seq ?_
  refine cw_seq ?_
  refine cw_region ?_
  refine co_y rfl rfl (y_field rfl trivial rfl Try.runUnderlying25 rfl Try.sizeOf23 (by decide)) ?_
  refine co_y rfl rfl (y_load1 rfl trivial rfl Try.isAgg23 rfl rfl) ?_
  refine co_y rfl rfl (y_len rfl trivial rfl Try.runUnderlying23 (by first | exact len_map _ _ | rfl) rfl) ?_
  refine co_y rfl rfl (y_field rfl trivial rfl Try.runUnderlying46 rfl Try.sizeOf44 (by decide)) ?_
  refine co_y rfl rfl (y_load1 rfl trivial rfl Try.isAgg44 rfl rfl) ?_
  refine co_y rfl rfl (y_len rfl trivial rfl Try.runUnderlying44 (by first | exact len_map _ _ | rfl) rfl) ?_
  refine co_y rfl rfl (y_int rfl trivial trivial rfl rfl (rfl)) ?_
  refine co_y rfl rfl (y_int rfl trivial rfl rfl rfl rfl) ?_
  refine co_nil ?_
  refine cw_cond trivial rfl (fun h1 => ?_) (fun h1 => ?_)
  · skip
    refine cw_seq ?_
    refine cw_region ?_
    refine co_y rfl rfl (y_callf rfl Try.call12 trivial (ld_known_s _) rfl) ?_
    refine co_y rfl rfl (y_assign rfl trivial (by conv => lhs; whnf)) ?_
    refine co_nil ?_
    refine cw_ret ?_
    exact ⟨_, res1 rfl trivial (by conv => lhs; whnf), _, _, rfl, rfl, cls_bool rfl⟩
  · skip
    refine cw_skip ?_
    refine cw_seq ?_
    refine cw_region ?_
    refine co_y rfl rfl (y_move rfl trivial (by conv => lhs; whnf)) ?_
    refine co_y rfl rfl (y_build' #[(0, 1), (1, 1)] rfl ⟨trivial, trivial⟩ Try.runUnderlying41 Try.zeroValue41 rfl ⟨_, rfl⟩ (fun w => by kernel_rfl) rfl rfl) ?_
    refine co_d rfl rfl (d_box rfl trivial (by conv => lhs; whnf) (.inr ⟨_, rfl⟩) ?_)
    refine co_y rfl rfl (y_assign rfl trivial (by conv => lhs; whnf)) ?_
    refine co_nil ?_
    refine cw_seq ?_
    refine cw_region ?_
    refine co_y rfl rfl (y_move rfl trivial (by conv => lhs; whnf)) ?_
    refine co_d rfl rfl (d_callv rfl Try.call13 ⟨trivial, rfl, trivial⟩ (ld_network l nn 0 (by omega) hl 40 (by omega) _ 2 rfl) rfl ?_)
    intro ⟨⟨nx, fl, nt⟩, k0⟩ ⟨hck, hnn, hk1, hk2⟩
    dsimp only at hck hnn hk1 hk2 ⊢
    have hlen : fl.length ≤ 64 := hck.len
    have hnx : 0 ≤ nx ∧ nx ≤ 1073741824 := hck.next
    refine co_y rfl rfl (y_move rfl trivial (by conv => lhs; whnf)) ?_
    refine co_y rfl rfl (y_extract rfl trivial rfl rfl) ?_
    refine co_y rfl rfl (y_extract rfl trivial rfl rfl) ?_
    refine co_d rfl rfl (d_alloc rfl Try.zeroValue25 rfl (.inr ⟨_, rfl⟩) ?_)
    refine co_d rfl rfl (d_store rfl trivial trivial rfl (by conv => lhs; whnf) Try.sizeOf25 (.inr ⟨_, rfl⟩) rfl rfl (Nat.le_of_ble_eq_true rfl) ?_)
    refine co_y rfl rfl (y_assign rfl trivial (by conv => lhs; whnf)) ?_
    refine co_nil ?_
    refine cw_seq ?_
    refine cw_seq ?_
    refine cw_region ?_
    refine co_y rfl rfl (y_move rfl trivial (by conv => lhs; whnf)) ?_
    refine co_y rfl rfl (y_not rfl trivial rfl) ?_
    refine co_nil ?_
    refine cw_cond trivial rfl (fun h2 => ?_) (fun h2 => ?_)
    · exfalso
      simp at h2
    · skip
      refine cw_skip ?_
      refine cw_seq ?_
      refine cw_region ?_
      refine co_d rfl rfl (d_alloc rfl Try.zeroValue46 rfl (.inr ⟨_, rfl⟩) ?_)
      refine co_nil ?_
      refine cw_seq ?_
      refine cw_seq ?_
      refine cw_region ?_
      refine co_y rfl rfl (y_move rfl trivial (by conv => lhs; whnf)) ?_
      refine co_d rfl rfl (d_callv rfl Try.call15 ⟨trivial, rfl, trivial⟩ (tape_next l nn k0 _ 2 rfl (by omega) hl 6 (by omega)) rfl ?_)
      intro _ _
      have hb6 := fold_lt (v := tapeV l k0) (n := 6) (by omega)
      have hb62 : 0 ≤ tapeN l k0 6 ∧ tapeN l k0 6 < 6 := hb6
      refine co_y rfl rfl (y_assign rfl trivial (by conv => lhs; whnf)) ?_
      refine co_nil ?_
      refine cw_block ?_
      refine cw_loopr hCC 5 rfl (α := List Rp × Nat × Nat) (fun x => [(3, (.val (.int .i64 (at_)))), (4, (.val (.int .i64 (by_)))), (6, .ptr 0 0), (7, .ptr 1 0), (11, .ptr 2 0), (12, .ptr 3 0), (14, .ptr 4 0), (15, (.val (.int .i64 ((x.2.2 : Int)))))]) (fun x => [.box raw.cells, .box bx.cells, tapeC l nn (x.2.1), .box (Net.mk nx fl nt).cells, .box [.list (x.1.map Rp.cv) (gnn x.1.length) (gtok x.1.length 5)], gobj x.1.length]) (fun x => x.2.1 + 10 * x.2.2 ≤ 200000 ∧ x.1.length + x.2.2 ≤ 6) (fun x => x.2.2) ⟨([], k0 + 1, (tapeN l k0 6).toNat), [0, 1, 2, 3, 4, 9], ⟨by dsimp only; omega, by simp; omega⟩, ⟨rfl, rfl⟩, ⟨⟨trivial, (by first | exact .ptr rfl | exact .map rfl | exact .vec rfl | exact .same rfl (by first | exact .val _ | exact .ptr (Nat.le_of_ble_eq_true rfl) | exact .map (Nat.le_of_ble_eq_true rfl) | exact (by first | exact old_lts _ _ _ | exact old_rps _ _ _ | exact old_ints _ _ _ | exact old_nets _ _ | exact old_bxs _ _)) | exact RenV.grow (f := Rp.cv) (fun _ => ⟨.val _, .val _, .val _, .val _, .val _, trivial⟩) rfl)⟩, ⟨trivial, (by first | exact .ptr rfl | exact .map rfl | exact .vec rfl | exact .same rfl (by first | exact .val _ | exact .ptr (Nat.le_of_ble_eq_true rfl) | exact .map (Nat.le_of_ble_eq_true rfl) | exact (by first | exact old_lts _ _ _ | exact old_rps _ _ _ | exact old_ints _ _ _ | exact old_nets _ _ | exact old_bxs _ _)) | exact RenV.grow (f := Rp.cv) (fun _ => ⟨.val _, .val _, .val _, .val _, .val _, trivial⟩) rfl)⟩, ⟨trivial, (by first | exact .ptr rfl | exact .map rfl | exact .vec rfl | exact .same rfl (by first | exact .val _ | exact .ptr (Nat.le_of_ble_eq_true rfl) | exact .map (Nat.le_of_ble_eq_true rfl) | exact (by first | exact old_lts _ _ _ | exact old_rps _ _ _ | exact old_ints _ _ _ | exact old_nets _ _ | exact old_bxs _ _)) | exact RenV.grow (f := Rp.cv) (fun _ => ⟨.val _, .val _, .val _, .val _, .val _, trivial⟩) rfl)⟩, ⟨trivial, (by first | exact .ptr rfl | exact .map rfl | exact .vec rfl | exact .same rfl (by first | exact .val _ | exact .ptr (Nat.le_of_ble_eq_true rfl) | exact .map (Nat.le_of_ble_eq_true rfl) | exact (by first | exact old_lts _ _ _ | exact old_rps _ _ _ | exact old_ints _ _ _ | exact old_nets _ _ | exact old_bxs _ _)) | exact RenV.grow (f := Rp.cv) (fun _ => ⟨.val _, .val _, .val _, .val _, .val _, trivial⟩) rfl)⟩, ⟨trivial, (by first | exact .ptr rfl | exact .map rfl | exact .vec rfl | exact .same rfl (by first | exact .val _ | exact .ptr (Nat.le_of_ble_eq_true rfl) | exact .map (Nat.le_of_ble_eq_true rfl) | exact (by first | exact old_lts _ _ _ | exact old_rps _ _ _ | exact old_ints _ _ _ | exact old_nets _ _ | exact old_bxs _ _)) | exact RenV.grow (f := Rp.cv) (fun _ => ⟨.val _, .val _, .val _, .val _, .val _, trivial⟩) rfl)⟩, ⟨trivial, (by first | exact .ptr rfl | exact .map rfl | exact .vec rfl | exact .same rfl (by first | exact .val _ | exact .ptr (Nat.le_of_ble_eq_true rfl) | exact .map (Nat.le_of_ble_eq_true rfl) | exact (by first | exact old_lts _ _ _ | exact old_rps _ _ _ | exact old_ints _ _ _ | exact old_nets _ _ | exact old_bxs _ _)) | exact RenV.grow (f := Rp.cv) (fun _ => ⟨.val _, .val _, .val _, .val _, .val _, trivial⟩) rfl)⟩, ⟨trivial, (by first | exact .ptr rfl | exact .map rfl | exact .vec rfl | exact .same rfl (by first | exact .val _ | exact .ptr (Nat.le_of_ble_eq_true rfl) | exact .map (Nat.le_of_ble_eq_true rfl) | exact (by first | exact old_lts _ _ _ | exact old_rps _ _ _ | exact old_ints _ _ _ | exact old_nets _ _ | exact old_bxs _ _)) | exact RenV.grow (f := Rp.cv) (fun _ => ⟨.val _, .val _, .val _, .val _, .val _, trivial⟩) rfl)⟩, ⟨trivial, (by first | exact .ptr rfl | exact .map rfl | exact .vec rfl | exact .same (congrArg (fun z : Int => (CV.val (.int .i64 z))) (by show tapeN l k0 6 = ((tapeN l k0 6).toNat : Int); omega)) (by first | exact .val _ | exact .ptr (Nat.le_of_ble_eq_true rfl) | exact .map (Nat.le_of_ble_eq_true rfl) | exact (by first | exact old_lts _ _ _ | exact old_rps _ _ _ | exact old_ints _ _ _ | exact old_nets _ _ | exact old_bxs _ _)) | exact RenV.grow (f := Rp.cv) (fun _ => ⟨.val _, .val _, .val _, .val _, .val _, trivial⟩) rfl)⟩, trivial⟩, (by repeat' (first | exact trivial | exact .inl rfl | exact .inr ⟨_, rfl, .same rfl (old_gobj _ _)⟩ | exact .inr ⟨_, rfl, .same (gobj_snoc _ _ _) (old_gobj _ _)⟩ | exact .inr ⟨_, rfl, .same rfl (by repeat' (first | exact trivial | exact .val _ | exact .ptr (Nat.le_of_ble_eq_true rfl) | exact .map (Nat.le_of_ble_eq_true rfl) | exact (by first | exact old_lts _ _ _ | exact old_rps _ _ _ | exact old_ints _ _ _ | exact old_nets _ _ | exact old_bxs _ _) | refine old_box ?_ | refine ⟨?_, ?_⟩))⟩ | exact .inr ⟨_, rfl, .box (by repeat' (first | exact trivial | exact .same rfl (by first | exact .val _ | exact .ptr (Nat.le_of_ble_eq_true rfl) | exact .map (Nat.le_of_ble_eq_true rfl) | exact (by first | exact old_lts _ _ _ | exact old_rps _ _ _ | exact old_ints _ _ _ | exact old_nets _ _ | exact old_bxs _ _)) | exact .ptr rfl | exact .map rfl | exact .vec rfl | exact RenV.grow (f := Rp.cv) (fun _ => ⟨.val _, .val _, .val _, .val _, .val _, trivial⟩) rfl | refine ⟨?_, ?_⟩))⟩ | refine ⟨?_, ?_⟩))⟩ ?_
      intro ⟨pend, k1, m⟩ ⟨hk3, hpm⟩
      dsimp only at hk3 hpm ⊢
      refine cw_seq ?_
      refine cw_seq ?_
      refine cw_region ?_
      refine co_y rfl rfl (y_move rfl trivial (by conv => lhs; whnf)) ?_
      refine co_y rfl rfl (y_int rfl trivial rfl rfl rfl rfl) ?_
      refine co_nil ?_
      refine cw_cond trivial rfl (fun h3 => ?_) (fun h3 => ?_)
      · have hm0 : 0 < m := by simp at h3; omega
        refine cw_skip ?_
        refine cw_seq ?_
        refine cw_block ?_
        refine cw_float [0, 1, 2, 3, 4, 5, 6, 7] 3 [0, 1, 0, 4, 12, 31, 63, 127] [[0, 1], [0, 1], [], [], []] (hd1l := [0, 1, 2]) (tll := [(3, [0, 1]), (4, [0, 1]), (5, []), (6, []), (7, [])]) (by kernel_rfl) (by kernel_rfl) rfl rfl rfl ?_
        refine chf rfl (hop_y rfl (y_field rfl trivial rfl Try.runUnderlying46 rfl Try.sizeOf44 (by decide))) ?_
        refine chf rfl (hop_y rfl (y_load1 rfl trivial rfl Try.isAgg44 rfl rfl)) ?_
        refine chf rfl (hop_y rfl (y_move rfl trivial (by conv => lhs; whnf))) ?_
        refine chf_nil ?_
        refine ctl_d rfl rfl (d_callv rfl Try.call16 ⟨trivial, trivial⟩ (ld_odd l nn k1 (by omega) hl _ 2 rfl) rfl ?_)
        intro p hp
        refine ⟨⟨(by exact hop_y rfl (y_field rfl trivial rfl Try.runUnderlying46 rfl Try.sizeOf44 (by decide))), (by exact hop_y rfl (y_load1 rfl trivial rfl Try.isAgg44 rfl rfl)), trivial⟩, ?_⟩
        refine ctl_h rfl (hop_y rfl (y_lit [Rp.cv p.1] rfl ⟨trivial, trivial⟩ Try.runUnderlying44 Try.sizeOf30 Try.zeroValue30 rfl rfl rfl rfl rfl rfl rfl rfl rfl)) ⟨⟨(by exact hop_y rfl (y_field rfl trivial rfl Try.runUnderlying46 rfl Try.sizeOf44 (by decide))), (by exact hop_y rfl (y_load1 rfl trivial rfl Try.isAgg44 rfl rfl)), trivial⟩, ?_⟩
        refine ctl_d rfl rfl (d_appu rfl trivial trivial rfl (by simp) (src_list rfl (by first | exact rows_len (by intro a; rfl) _ | (intro r hr; simp at hr; done) | (intro r hr; simp at hr; subst hr; rfl) | (intro r hr; exact rows_len (by intro a; rfl) _ r (List.mem_of_mem_take (List.mem_of_mem_drop hr))) | (intro r hr; simp at hr; obtain ⟨a, _, rfl⟩ := hr; rfl))) Try.runUnderlying44 Try.sizeOf30 Try.typeInfo30 Try.zeroValue30 rfl (.inr rfl) (by first | exact rows_len (by intro a; rfl) _ | assumption | (intro r hr; exact rows_len (by intro a; rfl) _ r (List.mem_of_mem_take (List.mem_of_mem_drop hr))) | (intro r hr; simp at hr; obtain ⟨a, _, rfl⟩ := hr; rfl)) (by have hb : Try.t30.bytes = 40 := rfl; rw [hb]; first | omega | (simp; done) | (simp; omega)) (by first | omega | (simp; omega) | simp) ((pend ++ [p.1]).map Rp.cv) (pend ++ [p.1]).length (by simp) (by simp) ?_)
        refine ⟨trivial, ?_⟩
        refine ctl_h rfl (hop_y rfl (y_field rfl trivial rfl Try.runUnderlying46 rfl Try.sizeOf44 (by decide))) ⟨trivial, ?_⟩
        refine ctl_d rfl rfl (d_store rfl trivial trivial rfl (by conv => lhs; whnf) Try.sizeOf44 (.inl rfl) rfl rfl (Nat.le_of_ble_eq_true rfl) ?_)
        refine ⟨trivial, ?_⟩
        refine ctl_nil ?_
        refine cw_region ?_
        refine co_y rfl rfl (y_move rfl trivial (by conv => lhs; whnf)) ?_
        refine co_y rfl rfl (y_sub rfl trivial rfl rfl rfl (by omega) (by omega)) ?_
        refine co_y rfl rfl (y_assign rfl trivial (by conv => lhs; whnf)) ?_
        refine co_nil ?_
        exact ⟨(pend ++ [p.1], p.2, m - 1), [0, 1, 2, 3, 4, 6], ⟨by show m - 1 < m; omega, by show p.2 + 10 * (m - 1) ≤ _; omega, by simp; omega⟩, ⟨rfl, rfl⟩, ⟨⟨trivial, (by first | exact .ptr rfl | exact .map rfl | exact .vec rfl | exact .same rfl (by first | exact .val _ | exact .ptr (Nat.le_of_ble_eq_true rfl) | exact .map (Nat.le_of_ble_eq_true rfl) | exact (by first | exact old_lts _ _ _ | exact old_rps _ _ _ | exact old_ints _ _ _ | exact old_nets _ _ | exact old_bxs _ _)) | exact RenV.grow (f := Rp.cv) (fun _ => ⟨.val _, .val _, .val _, .val _, .val _, trivial⟩) rfl)⟩, ⟨trivial, (by first | exact .ptr rfl | exact .map rfl | exact .vec rfl | exact .same rfl (by first | exact .val _ | exact .ptr (Nat.le_of_ble_eq_true rfl) | exact .map (Nat.le_of_ble_eq_true rfl) | exact (by first | exact old_lts _ _ _ | exact old_rps _ _ _ | exact old_ints _ _ _ | exact old_nets _ _ | exact old_bxs _ _)) | exact RenV.grow (f := Rp.cv) (fun _ => ⟨.val _, .val _, .val _, .val _, .val _, trivial⟩) rfl)⟩, ⟨trivial, (by first | exact .ptr rfl | exact .map rfl | exact .vec rfl | exact .same rfl (by first | exact .val _ | exact .ptr (Nat.le_of_ble_eq_true rfl) | exact .map (Nat.le_of_ble_eq_true rfl) | exact (by first | exact old_lts _ _ _ | exact old_rps _ _ _ | exact old_ints _ _ _ | exact old_nets _ _ | exact old_bxs _ _)) | exact RenV.grow (f := Rp.cv) (fun _ => ⟨.val _, .val _, .val _, .val _, .val _, trivial⟩) rfl)⟩, ⟨trivial, (by first | exact .ptr rfl | exact .map rfl | exact .vec rfl | exact .same rfl (by first | exact .val _ | exact .ptr (Nat.le_of_ble_eq_true rfl) | exact .map (Nat.le_of_ble_eq_true rfl) | exact (by first | exact old_lts _ _ _ | exact old_rps _ _ _ | exact old_ints _ _ _ | exact old_nets _ _ | exact old_bxs _ _)) | exact RenV.grow (f := Rp.cv) (fun _ => ⟨.val _, .val _, .val _, .val _, .val _, trivial⟩) rfl)⟩, ⟨trivial, (by first | exact .ptr rfl | exact .map rfl | exact .vec rfl | exact .same rfl (by first | exact .val _ | exact .ptr (Nat.le_of_ble_eq_true rfl) | exact .map (Nat.le_of_ble_eq_true rfl) | exact (by first | exact old_lts _ _ _ | exact old_rps _ _ _ | exact old_ints _ _ _ | exact old_nets _ _ | exact old_bxs _ _)) | exact RenV.grow (f := Rp.cv) (fun _ => ⟨.val _, .val _, .val _, .val _, .val _, trivial⟩) rfl)⟩, ⟨trivial, (by first | exact .ptr rfl | exact .map rfl | exact .vec rfl | exact .same rfl (by first | exact .val _ | exact .ptr (Nat.le_of_ble_eq_true rfl) | exact .map (Nat.le_of_ble_eq_true rfl) | exact (by first | exact old_lts _ _ _ | exact old_rps _ _ _ | exact old_ints _ _ _ | exact old_nets _ _ | exact old_bxs _ _)) | exact RenV.grow (f := Rp.cv) (fun _ => ⟨.val _, .val _, .val _, .val _, .val _, trivial⟩) rfl)⟩, ⟨trivial, (by first | exact .ptr rfl | exact .map rfl | exact .vec rfl | exact .same rfl (by first | exact .val _ | exact .ptr (Nat.le_of_ble_eq_true rfl) | exact .map (Nat.le_of_ble_eq_true rfl) | exact (by first | exact old_lts _ _ _ | exact old_rps _ _ _ | exact old_ints _ _ _ | exact old_nets _ _ | exact old_bxs _ _)) | exact RenV.grow (f := Rp.cv) (fun _ => ⟨.val _, .val _, .val _, .val _, .val _, trivial⟩) rfl)⟩, ⟨trivial, (by first | exact .ptr rfl | exact .map rfl | exact .vec rfl | exact .same (congrArg (fun z : Int => (CV.val (.int .i64 z))) (by show (m : Int) - 1 = ((m - 1 : Nat) : Int); omega)) (by first | exact .val _ | exact .ptr (Nat.le_of_ble_eq_true rfl) | exact .map (Nat.le_of_ble_eq_true rfl) | exact (by first | exact old_lts _ _ _ | exact old_rps _ _ _ | exact old_ints _ _ _ | exact old_nets _ _ | exact old_bxs _ _)) | exact RenV.grow (f := Rp.cv) (fun _ => ⟨.val _, .val _, .val _, .val _, .val _, trivial⟩) rfl)⟩, trivial⟩, (by repeat' (first | exact trivial | exact .inl rfl | exact .inr ⟨_, rfl, .same rfl (old_gobj _ _)⟩ | exact .inr ⟨_, rfl, .same (gobj_snoc _ _ _) (old_gobj _ _)⟩ | exact .inr ⟨_, rfl, .same rfl (by repeat' (first | exact trivial | exact .val _ | exact .ptr (Nat.le_of_ble_eq_true rfl) | exact .map (Nat.le_of_ble_eq_true rfl) | exact (by first | exact old_lts _ _ _ | exact old_rps _ _ _ | exact old_ints _ _ _ | exact old_nets _ _ | exact old_bxs _ _) | refine old_box ?_ | refine ⟨?_, ?_⟩))⟩ | exact .inr ⟨_, rfl, .box (by repeat' (first | exact trivial | exact .same rfl (by first | exact .val _ | exact .ptr (Nat.le_of_ble_eq_true rfl) | exact .map (Nat.le_of_ble_eq_true rfl) | exact (by first | exact old_lts _ _ _ | exact old_rps _ _ _ | exact old_ints _ _ _ | exact old_nets _ _ | exact old_bxs _ _)) | exact .ptr rfl | exact .map rfl | exact .vec rfl | exact RenV.grow (f := Rp.cv) (fun _ => ⟨.val _, .val _, .val _, .val _, .val _, trivial⟩) rfl | refine ⟨?_, ?_⟩))⟩ | refine ⟨?_, ?_⟩))⟩
      · skip
        refine cw_exit ?_
        refine cw_cutc hCC (α := Net × Nat) (fun _ => [(6, .ptr 0 0), (7, .ptr 1 0), (12, .ptr 3 0), (14, .ptr 4 0)]) (fun a => [.box raw.cells, .box bx.cells, tapeC l nn (a.2), .box (a.1).cells, .box (Bx.cells ⟨pend, gnn pend.length⟩), .dead]) (fun a => NetOk a.1) (fun _ _ => Nat.le_of_ble_eq_true rfl) ?_ ?_
        · -- up to the cut
          refine cw_seq ?_
          refine cw_region ?_
          refine co_y rfl rfl (y_field rfl trivial rfl Try.runUnderlying25 rfl Try.sizeOf23 (by decide)) ?_
          refine co_y rfl rfl (y_load1 rfl trivial rfl Try.isAgg23 rfl rfl) ?_
          refine co_y rfl rfl (y_len rfl trivial rfl Try.runUnderlying23 (by first | exact len_map _ _ | rfl) rfl) ?_
          refine co_y rfl rfl (y_int rfl trivial rfl rfl rfl rfl) ?_
          refine co_nil ?_
          refine cw_cond trivial rfl (fun h4 => ?_) (fun h4 => ?_)
          · have hl0 : 0 < (fl.length : Int) := by simpa using h4
            obtain ⟨hx0, hx1⟩ := fold_lt (v := at_) (n := (fl.length : Int)) (by omega)
            obtain ⟨hby0, hby1⟩ := fold_bound (v := by_) (n := 5) (by omega)
            obtain ⟨b, hb⟩ : ∃ b, fl[(fold at_ (fl.length : Int)).toNat]? = some b := ⟨fl[(fold at_ (fl.length : Int)).toNat]'(by omega), by simp⟩
            have hbb : -1 < b.n ∧ b.n < nx := by
              have := asc_all hck.asc b (List.mem_of_getElem? hb)
              exact ⟨this.1, this.2.1⟩
            refine cw_seq ?_
            refine cw_region ?_
            refine co_y rfl rfl (y_field rfl trivial rfl Try.runUnderlying25 rfl Try.sizeOf23 (by decide)) ?_
            refine co_y rfl rfl (y_load1 rfl trivial rfl Try.isAgg23 rfl rfl) ?_
            refine co_d rfl rfl (d_app0v fl.length rfl rfl trivial rfl (src_list rfl (by first | exact rows_len (by intro a; rfl) _ | (intro r hr; simp at hr; done) | (intro r hr; simp at hr; subst hr; rfl) | (intro r hr; exact rows_len (by intro a; rfl) _ r (List.mem_of_mem_take (List.mem_of_mem_drop hr))) | (intro r hr; simp at hr; obtain ⟨a, _, rfl⟩ := hr; rfl))) Try.runUnderlying23 Try.sizeOf50 Try.typeInfo50 Try.zeroValue50 rfl (by simp; omega) (by have hb : Try.t50.bytes = 48 := rfl; rw [hb]; first | omega | (simp; done) | (simp; omega)) (by first | omega | (simp; omega) | simp) (by simp) ?_)
            refine co_y rfl rfl (y_field rfl trivial rfl Try.runUnderlying25 rfl Try.sizeOf23 (by decide)) ?_
            refine co_d rfl rfl (d_store rfl trivial trivial rfl (by conv => lhs; whnf) Try.sizeOf23 (.inl rfl) rfl rfl (Nat.le_of_ble_eq_true rfl) ?_)
            refine co_nil ?_
            refine cw_seq ?_
            refine cw_region ?_
            refine co_y rfl rfl (y_move rfl trivial (by conv => lhs; whnf)) ?_
            refine co_y rfl rfl (y_field rfl trivial rfl Try.runUnderlying25 rfl Try.sizeOf23 (by decide)) ?_
            refine co_y rfl rfl (y_load1 rfl trivial rfl Try.isAgg23 rfl rfl) ?_
            refine co_y rfl rfl (y_len_vec rfl trivial rfl Try.runUnderlying23 rfl rfl) ?_
            refine co_y rfl rfl (y_callf rfl Try.call8 ⟨trivial, trivial, trivial⟩ (mk_Fold_s at_ (fl.length : Int) (by omega) _) rfl) ?_
            refine co_y rfl rfl (y_assign rfl trivial (by conv => lhs; whnf)) ?_
            refine co_nil ?_
            refine cw_seq ?_
            refine cw_region ?_
            refine co_y rfl rfl (y_move rfl trivial (by conv => lhs; whnf)) ?_
            refine co_y rfl rfl (y_int rfl trivial rfl rfl rfl (cq_div (by omega) hat.1 hat.2)) ?_
            refine co_y rfl rfl (y_callf rfl Try.call8 ⟨trivial, rfl, trivial⟩ (mk_Fold_s (at_.tdiv 7) 4 (by omega) _) rfl) ?_
            refine co_nil ?_
            refine cw_block ?_
            refine cw_seq ?_
            refine cw_region ?_
            refine co_y rfl rfl (y_int rfl trivial rfl rfl rfl rfl) ?_
            refine co_y rfl rfl (y_assign rfl trivial (by conv => lhs; whnf)) ?_
            refine co_nil ?_
            refine cw_cond trivial rfl (fun h5 => ?_) (fun h5 => ?_)
            · skip
              refine cw_draw 12 [0, 1, 0, 7, 15, 31, 0, 64, 192, 511, 1023, 2047, 4095] (by kernel_rfl) (by kernel_rfl) rfl ?_
              refine ch_y rfl (y_field rfl trivial rfl Try.runUnderlying25 rfl Try.sizeOf23 (by decide)) ?_
              refine ch_y rfl (y_load1 rfl trivial rfl Try.isAgg23 rfl rfl) ?_
              refine ch_y rfl (y_move rfl trivial (by conv => lhs; whnf)) ?_
              refine ch_y rfl (y_index_v rfl trivial trivial rfl rfl Try.runUnderlying23 Try.sizeOf50 rfl (by omega) (by omega)) ?_
              refine ch_y rfl (y_field_e rfl trivial rfl Try.runUnderlying50 rfl Try.sizeOf3 (by decide)) ?_
              refine ch_y rfl (y_load_e1 rfl trivial rfl Try.isAgg3 rfl (vget (rows_get hb) (by omega)) rfl) ?_
              refine ch_y rfl (y_move rfl trivial (by conv => lhs; whnf)) ?_
              refine ch_y rfl (y_callf rfl Try.call8 ⟨trivial, rfl, trivial⟩ (mk_Fold_s by_ 5 (by omega) _) rfl) ?_
              refine ch_y rfl (y_sub rfl trivial rfl rfl rfl (by omega) (by omega)) ?_
              refine ch_y rfl (y_add rfl trivial trivial rfl rfl (by omega) (by omega)) ?_
              refine ch_y rfl (y_index_v rfl trivial trivial rfl rfl Try.runUnderlying23 Try.sizeOf50 rfl (by omega) (by omega)) ?_
              refine ch_y rfl (y_field_e rfl trivial rfl Try.runUnderlying50 rfl Try.sizeOf3 (by decide)) ?_
              refine ch_nil ?_
              refine co_d rfl rfl (d_store_e' ((fl.set (0 + (fold at_ (fl.length : Int)).toNat) ((⟨b.n + (fold by_ 5 - 2), b.r⟩ : Lt) : Lt)).map Lt.cv) rfl trivial trivial rfl (by conv => lhs; whnf) Try.sizeOf3 (.inl rfl) rfl (vget (rows_get hb) (by omega)) rfl (Nat.le_of_ble_eq_true rfl) (by rw [List.map_set]; rfl) rfl ?_)
              refine co_nil ?_
              exact ⟨((⟨nx, fl.set (0 + (fold at_ (fl.length : Int)).toNat) (⟨b.n + (fold by_ 5 - 2), b.r⟩ : Lt), true⟩ : Net), k1), ⟨by show (fl.set _ _).length ≤ maxLen; rw [List.length_set]; unfold maxLen; omega, fun h => by cases h⟩, ⟨⟨trivial, (by first | exact .old (.val _) | exact .old (.ptr (Nat.le_of_ble_eq_true rfl)))⟩, ⟨trivial, (by first | exact .old (.val _) | exact .old (.ptr (Nat.le_of_ble_eq_true rfl)))⟩, ⟨trivial, (by first | exact .old (.val _) | exact .old (.ptr (Nat.le_of_ble_eq_true rfl)))⟩, ⟨trivial, (by first | exact .old (.val _) | exact .old (.ptr (Nat.le_of_ble_eq_true rfl)))⟩, trivial⟩, ⟨.same (by repeat' (first | exact .val _ | exact trivial | exact old_lts _ _ _ | exact old_rps _ _ _ | exact old_ints _ _ _ | refine old_box ?_ | refine ⟨?_, ?_⟩)), .same (by repeat' (first | exact .val _ | exact trivial | exact old_lts _ _ _ | exact old_rps _ _ _ | exact old_ints _ _ _ | refine old_box ?_ | refine ⟨?_, ?_⟩)), .same (by repeat' (first | exact .val _ | exact trivial | exact old_lts _ _ _ | exact old_rps _ _ _ | exact old_ints _ _ _ | refine old_box ?_ | refine ⟨?_, ?_⟩)), .box ⟨.old (.val _), .vecs (Nat.le_refl _) rfl (by simp) (by rw [List.drop_zero]; exact List.take_of_length_le (by simp)) (fun r hr c hc => (rows_pure (f := Lt.cv) (fun _ => Pures.all ⟨.val _, .val _, .val _, .val _, .val _, .val _, trivial⟩) _) r hr c hc), trivial⟩, .box ⟨.tok (fun r hr c hc => (rows_pure (f := Rp.cv) (fun _ => Pures.all ⟨.val _, .val _, .val _, .val _, .val _, trivial⟩) _) r hr c hc), trivial⟩, .dead, trivial⟩⟩
            · skip
              refine cw_seq ?_
              refine cw_region ?_
              refine co_y rfl rfl (y_int rfl trivial rfl rfl rfl rfl) ?_
              refine co_y rfl rfl (y_assign rfl trivial (by conv => lhs; whnf)) ?_
              refine co_nil ?_
              refine cw_cond trivial rfl (fun h6 => ?_) (fun h6 => ?_)
              · have hnx3 : (Net.mk nx fl nt).next = nx := rfl
                have hnx4 : (Net.mk nx fl true).next = nx := rfl
                refine cw_draw 7 [0, 1, 0, 4, 12, 31, 63, 127] (by kernel_rfl) (by kernel_rfl) rfl ?_
                refine ch_y rfl (y_field rfl trivial rfl Try.runUnderlying25 rfl Try.sizeOf3 (by decide)) ?_
                refine ch_y rfl (y_load1 rfl trivial rfl Try.isAgg3 rfl rfl) ?_
                refine ch_y rfl (y_move rfl trivial (by conv => lhs; whnf)) ?_
                refine ch_y rfl (y_callf rfl Try.call8 ⟨trivial, rfl, trivial⟩ (mk_Fold_s by_ 5 (by omega) _) rfl) ?_
                refine ch_y rfl (y_sub rfl trivial rfl rfl rfl (by omega) (by omega)) ?_
                refine ch_y rfl (y_add rfl trivial trivial rfl rfl (by omega) (by omega)) ?_
                refine ch_y rfl (y_field rfl trivial rfl Try.runUnderlying25 rfl Try.sizeOf3 (by decide)) ?_
                refine ch_nil ?_
                refine co_d rfl rfl (d_store rfl trivial trivial rfl (by conv => lhs; whnf) Try.sizeOf3 (.inl rfl) rfl rfl (Nat.le_of_ble_eq_true rfl) ?_)
                refine co_nil ?_
                exact ⟨(⟨nx + (fold by_ 5 - 2), fl, true⟩, k1), ⟨by show fl.length ≤ maxLen; unfold maxLen; omega, fun h => by cases h⟩, ⟨⟨trivial, (by first | exact .old (.val _) | exact .old (.ptr (Nat.le_of_ble_eq_true rfl)))⟩, ⟨trivial, (by first | exact .old (.val _) | exact .old (.ptr (Nat.le_of_ble_eq_true rfl)))⟩, ⟨trivial, (by first | exact .old (.val _) | exact .old (.ptr (Nat.le_of_ble_eq_true rfl)))⟩, ⟨trivial, (by first | exact .old (.val _) | exact .old (.ptr (Nat.le_of_ble_eq_true rfl)))⟩, trivial⟩, ⟨.same (by repeat' (first | exact .val _ | exact trivial | exact old_lts _ _ _ | exact old_rps _ _ _ | exact old_ints _ _ _ | refine old_box ?_ | refine ⟨?_, ?_⟩)), .same (by repeat' (first | exact .val _ | exact trivial | exact old_lts _ _ _ | exact old_rps _ _ _ | exact old_ints _ _ _ | refine old_box ?_ | refine ⟨?_, ?_⟩)), .same (by repeat' (first | exact .val _ | exact trivial | exact old_lts _ _ _ | exact old_rps _ _ _ | exact old_ints _ _ _ | refine old_box ?_ | refine ⟨?_, ?_⟩)), .box ⟨.old (.val _), .vecs (Nat.le_refl _) rfl (by simp) (by rw [List.drop_zero]; exact List.take_of_length_le (by simp)) (fun r hr c hc => (rows_pure (f := Lt.cv) (fun _ => Pures.all ⟨.val _, .val _, .val _, .val _, .val _, .val _, trivial⟩) _) r hr c hc), trivial⟩, .box ⟨.tok (fun r hr c hc => (rows_pure (f := Rp.cv) (fun _ => Pures.all ⟨.val _, .val _, .val _, .val _, .val _, trivial⟩) _) r hr c hc), trivial⟩, .dead, trivial⟩⟩
              · skip
                refine cw_seq ?_
                refine cw_region ?_
                refine co_y rfl rfl (y_int rfl trivial rfl rfl rfl rfl) ?_
                refine co_y rfl rfl (y_assign rfl trivial (by conv => lhs; whnf)) ?_
                refine co_nil ?_
                refine cw_cond trivial rfl (fun h7 => ?_) (fun h7 => ?_)
                · skip
                  refine cw_float [0, 1, 2, 3, 4, 5, 6, 7] 4 [0, 1, 0, 0, 8, 31, 63, 127] [[0, 1, 2], [], [], []] (hd1l := [0, 1, 2, 3]) (tll := [(4, [0, 1, 2]), (5, []), (6, []), (7, [])]) (by kernel_rfl) (by kernel_rfl) rfl rfl rfl ?_
                  refine chf rfl (hop_y rfl (y_field rfl trivial rfl Try.runUnderlying25 rfl Try.sizeOf23 (by decide))) ?_
                  refine chf rfl (hop_y rfl (y_load1 rfl trivial rfl Try.isAgg23 rfl rfl)) ?_
                  refine chf rfl (hop_y rfl (y_move rfl trivial (by conv => lhs; whnf))) ?_
                  refine chf rfl (hop_y rfl (y_move rfl trivial (by conv => lhs; whnf))) ?_
                  refine chf_nil ?_
                  refine ctl_d rfl rfl (d_callv rfl Try.call16 ⟨trivial, trivial⟩ (ld_odd l nn k1 (by omega) hl _ 2 rfl) rfl ?_)
                  intro p hp
                  refine ⟨⟨(by exact hop_y rfl (y_field rfl trivial rfl Try.runUnderlying25 rfl Try.sizeOf23 (by decide))), (by exact hop_y rfl (y_load1 rfl trivial rfl Try.isAgg23 rfl rfl)), (by exact hop_y rfl (y_move rfl trivial (by conv => lhs; whnf))), trivial⟩, ?_⟩
                  refine ctl_h rfl (hop_y rfl (y_index_v rfl trivial trivial rfl rfl Try.runUnderlying23 Try.sizeOf50 rfl (by omega) (by omega))) ⟨trivial, ?_⟩
                  refine ctl_h rfl (hop_y rfl (y_field_e rfl trivial rfl Try.runUnderlying50 rfl Try.sizeOf30 (by decide))) ⟨trivial, ?_⟩
                  refine ctl_d rfl rfl (d_store_e' ((fl.set (0 + (fold at_ (fl.length : Int)).toNat) ((⟨b.n, p.1⟩ : Lt) : Lt)).map Lt.cv) rfl trivial trivial rfl (by conv => lhs; whnf) Try.sizeOf30 (.inr ⟨_, rfl⟩) rfl (vget (rows_get hb) (by omega)) rfl (Nat.le_of_ble_eq_true rfl) (by rw [List.map_set]; rfl) rfl ?_)
                  refine ⟨trivial, ?_⟩
                  refine ctl_nil ?_
                  exact ⟨((⟨nx, fl.set (0 + (fold at_ (fl.length : Int)).toNat) (⟨b.n, p.1⟩ : Lt), true⟩ : Net), p.2), ⟨by show (fl.set _ _).length ≤ maxLen; rw [List.length_set]; unfold maxLen; omega, fun h => by cases h⟩, ⟨⟨trivial, (by first | exact .old (.val _) | exact .old (.ptr (Nat.le_of_ble_eq_true rfl)))⟩, ⟨trivial, (by first | exact .old (.val _) | exact .old (.ptr (Nat.le_of_ble_eq_true rfl)))⟩, ⟨trivial, (by first | exact .old (.val _) | exact .old (.ptr (Nat.le_of_ble_eq_true rfl)))⟩, ⟨trivial, (by first | exact .old (.val _) | exact .old (.ptr (Nat.le_of_ble_eq_true rfl)))⟩, trivial⟩, ⟨.same (by repeat' (first | exact .val _ | exact trivial | exact old_lts _ _ _ | exact old_rps _ _ _ | exact old_ints _ _ _ | refine old_box ?_ | refine ⟨?_, ?_⟩)), .same (by repeat' (first | exact .val _ | exact trivial | exact old_lts _ _ _ | exact old_rps _ _ _ | exact old_ints _ _ _ | refine old_box ?_ | refine ⟨?_, ?_⟩)), .same (by repeat' (first | exact .val _ | exact trivial | exact old_lts _ _ _ | exact old_rps _ _ _ | exact old_ints _ _ _ | refine old_box ?_ | refine ⟨?_, ?_⟩)), .box ⟨.old (.val _), .vecs (Nat.le_refl _) rfl (by simp) (by rw [List.drop_zero]; exact List.take_of_length_le (by simp)) (fun r hr c hc => (rows_pure (f := Lt.cv) (fun _ => Pures.all ⟨.val _, .val _, .val _, .val _, .val _, .val _, trivial⟩) _) r hr c hc), trivial⟩, .box ⟨.tok (fun r hr c hc => (rows_pure (f := Rp.cv) (fun _ => Pures.all ⟨.val _, .val _, .val _, .val _, .val _, trivial⟩) _) r hr c hc), trivial⟩, .dead, trivial⟩⟩
                · skip
                  refine cw_skip ?_
                  exact ⟨(⟨nx, fl, true⟩, k1), ⟨by show fl.length ≤ maxLen; unfold maxLen; omega, fun h => by cases h⟩, ⟨⟨trivial, (by first | exact .old (.val _) | exact .old (.ptr (Nat.le_of_ble_eq_true rfl)))⟩, ⟨trivial, (by first | exact .old (.val _) | exact .old (.ptr (Nat.le_of_ble_eq_true rfl)))⟩, ⟨trivial, (by first | exact .old (.val _) | exact .old (.ptr (Nat.le_of_ble_eq_true rfl)))⟩, ⟨trivial, (by first | exact .old (.val _) | exact .old (.ptr (Nat.le_of_ble_eq_true rfl)))⟩, trivial⟩, ⟨.same (by repeat' (first | exact .val _ | exact trivial | exact old_lts _ _ _ | exact old_rps _ _ _ | exact old_ints _ _ _ | refine old_box ?_ | refine ⟨?_, ?_⟩)), .same (by repeat' (first | exact .val _ | exact trivial | exact old_lts _ _ _ | exact old_rps _ _ _ | exact old_ints _ _ _ | refine old_box ?_ | refine ⟨?_, ?_⟩)), .same (by repeat' (first | exact .val _ | exact trivial | exact old_lts _ _ _ | exact old_rps _ _ _ | exact old_ints _ _ _ | refine old_box ?_ | refine ⟨?_, ?_⟩)), .box ⟨.old (.val _), .vecs (Nat.le_refl _) rfl (by simp) (by rw [List.drop_zero]; exact List.take_of_length_le (by simp)) (fun r hr c hc => (rows_pure (f := Lt.cv) (fun _ => Pures.all ⟨.val _, .val _, .val _, .val _, .val _, .val _, trivial⟩) _) r hr c hc), trivial⟩, .box ⟨.tok (fun r hr c hc => (rows_pure (f := Rp.cv) (fun _ => Pures.all ⟨.val _, .val _, .val _, .val _, .val _, trivial⟩) _) r hr c hc), trivial⟩, .dead, trivial⟩⟩
          · skip
            refine cw_skip ?_
            exact ⟨(⟨nx, fl, nt⟩, k1), ⟨by show fl.length ≤ maxLen; unfold maxLen; omega, hnn⟩, ⟨⟨trivial, (by first | exact .old (.val _) | exact .old (.ptr (Nat.le_of_ble_eq_true rfl)))⟩, ⟨trivial, (by first | exact .old (.val _) | exact .old (.ptr (Nat.le_of_ble_eq_true rfl)))⟩, ⟨trivial, (by first | exact .old (.val _) | exact .old (.ptr (Nat.le_of_ble_eq_true rfl)))⟩, ⟨trivial, (by first | exact .old (.val _) | exact .old (.ptr (Nat.le_of_ble_eq_true rfl)))⟩, trivial⟩, ⟨.same (by repeat' (first | exact .val _ | exact trivial | exact old_lts _ _ _ | exact old_rps _ _ _ | exact old_ints _ _ _ | refine old_box ?_ | refine ⟨?_, ?_⟩)), .same (by repeat' (first | exact .val _ | exact trivial | exact old_lts _ _ _ | exact old_rps _ _ _ | exact old_ints _ _ _ | refine old_box ?_ | refine ⟨?_, ?_⟩)), .same (by repeat' (first | exact .val _ | exact trivial | exact old_lts _ _ _ | exact old_rps _ _ _ | exact old_ints _ _ _ | refine old_box ?_ | refine ⟨?_, ?_⟩)), .same (by repeat' (first | exact .val _ | exact trivial | exact old_lts _ _ _ | exact old_rps _ _ _ | exact old_ints _ _ _ | refine old_box ?_ | refine ⟨?_, ?_⟩)), .box ⟨.tok (fun r hr c hc => (rows_pure (f := Rp.cv) (fun _ => Pures.all ⟨.val _, .val _, .val _, .val _, .val _, trivial⟩) _) r hr c hc), trivial⟩, .dead, trivial⟩⟩
        · intro ⟨w, k2⟩ hw
          dsimp only at hw ⊢
          refine cw_seq ?_
          refine cw_seq ?_
          refine cw_region ?_
          refine co_y rfl rfl (y_load rfl trivial rfl Try.isAgg25 Try.sizeOf25 rfl (Nat.le_of_ble_eq_true rfl)) ?_
          refine co_y rfl rfl (y_load rfl trivial rfl Try.isAgg25 Try.sizeOf25 rfl (Nat.le_of_ble_eq_true rfl)) ?_
          refine co_y rfl rfl (y_lit ([raw, w].map Net.cells) rfl ⟨trivial, trivial, trivial⟩ Try.runUnderlying51 Try.sizeOf25 Try.zeroValue25 rfl rfl rfl rfl rfl rfl rfl rfl rfl) ?_
          refine co_y rfl rfl (y_len rfl trivial rfl Try.runUnderlying51 (by first | exact len_map _ _ | rfl) rfl) ?_
          refine co_y rfl rfl (y_move rfl rfl (by conv => lhs; whnf)) ?_
          refine co_nil ?_
          refine cw_block ?_
          refine cw_loopd hCC (α := Nat) (fun i => [(7, .ptr 1 0), (14, .ptr 4 0), (113, (.list ([raw, w].map Net.cells) true none)), (114, (.val (.int .i64 (2)))), (115, (.val (.int .i64 ((i : Int)))))]) (fun _ => [.box raw.cells, .box bx.cells, tapeC l nn (k2), .box (w).cells, .box (Bx.cells ⟨pend, gnn pend.length⟩), .dead]) (fun i => i ≤ 2) (fun i => 2 - i) 0 (Nat.zero_le _) ⟨⟨trivial, rfl⟩, ⟨trivial, rfl⟩, ⟨trivial, rfl⟩, ⟨trivial, rfl⟩, ⟨trivial, rfl⟩, trivial⟩ (extra0 := []) rfl (fun _ _ => Nat.le_of_ble_eq_true rfl) (fun a ha => by repeat' (first | exact trivial | exact .val _ | exact .ptr (Nat.le_of_ble_eq_true rfl) | exact .map (Nat.le_of_ble_eq_true rfl) | exact (by first | exact old_lts _ _ _ | exact old_rps _ _ _ | exact old_ints _ _ _ | exact old_nets _ _ | exact old_bxs _ _) | refine old_box ?_ | refine ⟨?_, ?_⟩)) ?_
          intro i hi
          refine cw_seq ?_
          refine cw_region ?_
          refine co_y rfl rfl (y_int rfl trivial trivial rfl rfl rfl) ?_
          refine co_nil ?_
          refine cw_seq ?_
          refine cw_cond trivial rfl (fun h8 => ?_) (fun h8 => ?_)
          · have hi2 : i < 2 := by simp at h8; omega
            obtain ⟨x, hb⟩ : ∃ x, [raw, w][i]? = some x := ⟨[raw, w][i]'(by simp; omega), by simp⟩
            have hxo : NetOk x := by
              have := List.mem_of_getElem? hb
              simp at this
              rcases this with rfl | rfl <;> assumption
            refine cw_skip ?_
            refine cw_seq ?_
            refine cw_block ?_
            refine cw_seq ?_
            refine cw_region ?_
            refine co_y rfl rfl (y_index rfl trivial trivial rfl rfl Try.runUnderlying51 Try.sizeOf25 (by omega) (rows_get hb) rfl) ?_
            refine co_y rfl rfl (y_load_c rfl trivial rfl Try.isAgg25 Try.sizeOf25 (Nat.le_of_ble_eq_true rfl)) ?_
            refine co_d rfl rfl (d_alloc rfl Try.zeroValue25 rfl (.inr ⟨_, rfl⟩) ?_)
            refine co_d rfl rfl (d_store rfl trivial trivial rfl (by conv => lhs; whnf) Try.sizeOf25 (.inr ⟨_, rfl⟩) rfl rfl (Nat.le_of_ble_eq_true rfl) ?_)
            refine co_nil ?_
            refine cw_seq ?_
            refine cw_region ?_
            refine co_y rfl rfl (y_load rfl trivial rfl Try.isAgg46 Try.sizeOf46 rfl (Nat.le_of_ble_eq_true rfl)) ?_
            refine co_y rfl rfl (y_load rfl trivial rfl Try.isAgg46 Try.sizeOf46 rfl (Nat.le_of_ble_eq_true rfl)) ?_
            refine co_y rfl rfl (y_lit ([bx, ⟨pend, gnn pend.length⟩].map Bx.cells) rfl ⟨trivial, trivial, trivial⟩ Try.runUnderlying52 Try.sizeOf46 Try.zeroValue46 rfl rfl rfl rfl rfl rfl rfl rfl rfl) ?_
            refine co_y rfl rfl (y_len rfl trivial rfl Try.runUnderlying52 (by first | exact len_map _ _ | rfl) rfl) ?_
            refine co_y rfl rfl (y_move rfl rfl (by conv => lhs; whnf)) ?_
            refine co_nil ?_
            refine cw_block ?_
            refine cw_loopd hCC (α := Nat) (fun j => [(7, .ptr 1 0), (14, .ptr 4 0), (18, .ptr 6 0), (113, (.list ([raw, w].map Net.cells) true none)), (114, (.val (.int .i64 (2)))), (115, (.val (.int .i64 ((i : Int))))), (121, (.list ([bx, ⟨pend, gnn pend.length⟩].map Bx.cells) true none)), (122, (.val (.int .i64 (2)))), (123, (.val (.int .i64 ((j : Int)))))]) (fun _ => [.box raw.cells, .box bx.cells, tapeC l nn (k2), .box (w).cells, .box (Bx.cells ⟨pend, gnn pend.length⟩), .dead, .box x.cells]) (fun j => j ≤ 2) (fun j => 2 - j) 0 (Nat.zero_le _) ⟨⟨trivial, rfl⟩, ⟨trivial, rfl⟩, ⟨trivial, rfl⟩, ⟨trivial, rfl⟩, ⟨trivial, rfl⟩, ⟨trivial, rfl⟩, ⟨trivial, rfl⟩, ⟨trivial, rfl⟩, ⟨trivial, rfl⟩, trivial⟩ (extra0 := []) rfl (fun _ _ => Nat.le_of_ble_eq_true rfl) (fun a ha => by repeat' (first | exact trivial | exact .val _ | exact .ptr (Nat.le_of_ble_eq_true rfl) | exact .map (Nat.le_of_ble_eq_true rfl) | exact (by first | exact old_lts _ _ _ | exact old_rps _ _ _ | exact old_ints _ _ _ | exact old_nets _ _ | exact old_bxs _ _) | refine old_box ?_ | refine ⟨?_, ?_⟩)) ?_
            intro j hj
            refine cw_seq ?_
            refine cw_region ?_
            refine co_y rfl rfl (y_int rfl trivial trivial rfl rfl rfl) ?_
            refine co_nil ?_
            refine cw_seq ?_
            refine cw_cond trivial rfl (fun h9 => ?_) (fun h9 => ?_)
            · have hj2 : j < 2 := by simp at h9; omega
              obtain ⟨y, hy⟩ : ∃ y, [bx, (⟨pend, gnn pend.length⟩ : Bx)][j]? = some y := ⟨[bx, (⟨pend, gnn pend.length⟩ : Bx)][j]'(by simp; omega), by simp⟩
              have hyo : y.pend.length ≤ maxLen := by
                have := List.mem_of_getElem? hy
                simp at this
                rcases this with rfl | rfl
                · exact hbl
                · show pend.length ≤ maxLen; unfold maxLen; omega
              refine cw_skip ?_
              refine cw_seq ?_
              refine cw_block ?_
              refine cw_seq ?_
              refine cw_region ?_
              refine co_y rfl rfl (y_index rfl trivial trivial rfl rfl Try.runUnderlying52 Try.sizeOf46 (by omega) (rows_get hy) rfl) ?_
              refine co_y rfl rfl (y_load_c rfl trivial rfl Try.isAgg46 Try.sizeOf46 (Nat.le_of_ble_eq_true rfl)) ?_
              refine co_d rfl rfl (d_alloc rfl Try.zeroValue46 rfl (.inr ⟨_, rfl⟩) ?_)
              refine co_d rfl rfl (d_store rfl trivial trivial rfl (by conv => lhs; whnf) Try.sizeOf46 (.inr ⟨_, rfl⟩) rfl rfl (Nat.le_of_ble_eq_true rfl) ?_)
              refine co_nil ?_
              refine cw_seq ?_
              refine cw_region ?_
              refine co_y rfl rfl (y_load rfl trivial rfl Try.isAgg25 Try.sizeOf25 rfl (Nat.le_of_ble_eq_true rfl)) ?_
              refine co_y rfl rfl (y_load rfl trivial rfl Try.isAgg46 Try.sizeOf46 rfl (Nat.le_of_ble_eq_true rfl)) ?_
              refine co_y rfl rfl (y_callf rfl Try.call17 ⟨trivial, trivial, trivial⟩ (de_Resend_s x y hxo.2 hxo.1 hyo _) rfl) ?_
              refine co_y rfl rfl (y_move rfl trivial (by conv => lhs; whnf)) ?_
              refine co_y rfl rfl (y_extract rfl trivial rfl rfl) ?_
              refine co_y rfl rfl (y_extract rfl trivial rfl rfl) ?_
              refine co_y rfl rfl (y_extract rfl trivial rfl rfl) ?_
              refine co_d rfl rfl (d_alloc rfl Try.zeroValue25 rfl (.inr ⟨_, rfl⟩) ?_)
              refine co_d rfl rfl (d_store rfl trivial trivial rfl (by conv => lhs; whnf) Try.sizeOf25 (.inr ⟨_, rfl⟩) rfl rfl (Nat.le_of_ble_eq_true rfl) ?_)
              refine co_y rfl rfl (y_assign rfl trivial (by conv => lhs; whnf)) ?_
              refine co_y rfl rfl (y_assign rfl trivial (by conv => lhs; whnf)) ?_
              refine co_nil ?_
              refine cw_seq ?_
              refine cw_region ?_
              refine co_y rfl rfl (y_load rfl trivial rfl Try.isAgg25 Try.sizeOf25 rfl (Nat.le_of_ble_eq_true rfl)) ?_
              refine co_y rfl rfl (y_load rfl trivial rfl Try.isAgg46 Try.sizeOf46 rfl (Nat.le_of_ble_eq_true rfl)) ?_
              refine co_y rfl rfl (y_callf rfl Try.call18 ⟨trivial, trivial, trivial⟩ (rd_Resend_s x y hxo.1 hyo _) rfl) ?_
              refine co_y rfl rfl (y_move rfl trivial (by conv => lhs; whnf)) ?_
              refine co_y rfl rfl (y_extract rfl trivial rfl rfl) ?_
              refine co_y rfl rfl (y_extract rfl trivial rfl rfl) ?_
              refine co_y rfl rfl (y_extract rfl trivial rfl rfl) ?_
              refine co_d rfl rfl (d_alloc rfl Try.zeroValue25 rfl (.inr ⟨_, rfl⟩) ?_)
              refine co_d rfl rfl (d_store rfl trivial trivial rfl (by conv => lhs; whnf) Try.sizeOf25 (.inr ⟨_, rfl⟩) rfl rfl (Nat.le_of_ble_eq_true rfl) ?_)
              refine co_y rfl rfl (y_assign rfl trivial (by conv => lhs; whnf)) ?_
              refine co_y rfl rfl (y_assign rfl trivial (by conv => lhs; whnf)) ?_
              refine co_nil ?_
              refine cw_seq ?_
              refine cw_float [0, 1, 2, 3, 4, 5, 6, 7, 8] 6 [0, 0, 3, 7, 15, 15, 0, 95, 255] [[0, 1, 2, 3, 4, 5], [5], []] (hd1l := [0, 1, 2, 3, 4, 5]) (tll := [(6, [0, 1, 2, 3, 4, 5]), (7, [5]), (8, [])]) (by kernel_rfl) (by kernel_rfl) rfl rfl rfl ?_
              refine chf rfl (hop_y rfl (y_load rfl trivial rfl Try.isAgg25 Try.sizeOf25 rfl (Nat.le_of_ble_eq_true rfl))) ?_
              refine chf rfl (hop_y rfl (y_callf rfl Try.call10 ⟨rfl, trivial⟩ (ld_report_s 1 _) rfl)) ?_
              refine chf rfl (hop_y rfl (y_callf rfl Try.call9 ⟨trivial, trivial, trivial⟩ (de_Send_s x (repS 1) hxo.1 _) rfl)) ?_
              refine chf rfl (hop_y rfl (y_move rfl trivial (by conv => lhs; whnf))) ?_
              refine chf rfl (hop_y rfl (y_extract rfl trivial rfl rfl)) ?_
              refine chf rfl (hop_y rfl (y_extract rfl trivial rfl rfl)) ?_
              refine chf_nil ?_
              refine ctl_d rfl rfl (d_alloc rfl Try.zeroValue25 rfl (.inr ⟨_, rfl⟩) ?_)
              refine ⟨⟨(by exact hop_y rfl (y_load rfl trivial rfl Try.isAgg25 Try.sizeOf25 rfl (Nat.le_of_ble_eq_true rfl))), (by exact hop_y rfl (y_callf rfl Try.call10 ⟨rfl, trivial⟩ (ld_report_s 1 _) rfl)), (by exact hop_y rfl (y_callf rfl Try.call9 ⟨trivial, trivial, trivial⟩ (de_Send_s x (repS 1) hxo.1 _) rfl)), (by exact hop_y rfl (y_move rfl trivial (by conv => lhs; whnf))), (by exact hop_y rfl (y_extract rfl trivial rfl rfl)), (by exact hop_y rfl (y_extract rfl trivial rfl rfl)), trivial⟩, ?_⟩
              refine ctl_d rfl rfl (d_store rfl trivial trivial rfl (by conv => lhs; whnf) Try.sizeOf25 (.inr ⟨_, rfl⟩) rfl rfl (Nat.le_of_ble_eq_true rfl) ?_)
              refine ⟨⟨(by exact hop_y rfl (y_extract rfl trivial rfl rfl)), trivial⟩, ?_⟩
              refine ctl_h rfl (hop_y rfl (y_assign rfl trivial (by conv => lhs; whnf))) ⟨trivial, ?_⟩
              refine ctl_nil ?_
              refine cw_seq ?_
              refine cw_float [0, 1, 2, 3, 4, 5, 6, 7, 8] 6 [0, 0, 3, 7, 15, 15, 0, 95, 255] [[0, 1, 2, 3, 4, 5], [5], []] (hd1l := [0, 1, 2, 3, 4, 5]) (tll := [(6, [0, 1, 2, 3, 4, 5]), (7, [5]), (8, [])]) (by kernel_rfl) (by kernel_rfl) rfl rfl rfl ?_
              refine chf rfl (hop_y rfl (y_load rfl trivial rfl Try.isAgg25 Try.sizeOf25 rfl (Nat.le_of_ble_eq_true rfl))) ?_
              refine chf rfl (hop_y rfl (y_callf rfl Try.call10 ⟨rfl, trivial⟩ (ld_report_s 1 _) rfl)) ?_
              refine chf rfl (hop_y rfl (y_callf rfl Try.call19 ⟨trivial, trivial, trivial⟩ (rd_Send_s x (repS 1) hxo.1 _) rfl)) ?_
              refine chf rfl (hop_y rfl (y_move rfl trivial (by conv => lhs; whnf))) ?_
              refine chf rfl (hop_y rfl (y_extract rfl trivial rfl rfl)) ?_
              refine chf rfl (hop_y rfl (y_extract rfl trivial rfl rfl)) ?_
              refine chf_nil ?_
              refine ctl_d rfl rfl (d_alloc rfl Try.zeroValue25 rfl (.inr ⟨_, rfl⟩) ?_)
              refine ⟨⟨(by exact hop_y rfl (y_load rfl trivial rfl Try.isAgg25 Try.sizeOf25 rfl (Nat.le_of_ble_eq_true rfl))), (by exact hop_y rfl (y_callf rfl Try.call10 ⟨rfl, trivial⟩ (ld_report_s 1 _) rfl)), (by exact hop_y rfl (y_callf rfl Try.call19 ⟨trivial, trivial, trivial⟩ (rd_Send_s x (repS 1) hxo.1 _) rfl)), (by exact hop_y rfl (y_move rfl trivial (by conv => lhs; whnf))), (by exact hop_y rfl (y_extract rfl trivial rfl rfl)), (by exact hop_y rfl (y_extract rfl trivial rfl rfl)), trivial⟩, ?_⟩
              refine ctl_d rfl rfl (d_store rfl trivial trivial rfl (by conv => lhs; whnf) Try.sizeOf25 (.inr ⟨_, rfl⟩) rfl rfl (Nat.le_of_ble_eq_true rfl) ?_)
              refine ⟨⟨(by exact hop_y rfl (y_extract rfl trivial rfl rfl)), trivial⟩, ?_⟩
              refine ctl_h rfl (hop_y rfl (y_assign rfl trivial (by conv => lhs; whnf))) ⟨trivial, ?_⟩
              refine ctl_nil ?_
              refine cw_seq ?_
              refine cw_draw 33 [0, 1, 0, 7, 15, 31, 63, 127, 63, 511, 1023, 2047, 4095, 8191, 8191, 32767, 65535, 131071, 262143, 262143, 1048575, 2097151, 4194303, 8388607, 8388607, 33554431, 67108863, 134217727, 268435455, 268435455, 1073741823, 2147483647, 4294967295] (by kernel_rfl) (by kernel_rfl) rfl ?_
              refine ch_y rfl (y_load rfl trivial rfl Try.isAgg25 Try.sizeOf25 rfl (Nat.le_of_ble_eq_true rfl)) ?_
              refine ch_y rfl (y_callf rfl Try.call14 ⟨trivial, trivial⟩ (de_Check_s x hxo.1 _) rfl) ?_
              refine ch_y rfl (y_load rfl trivial rfl Try.isAgg25 Try.sizeOf25 rfl (Nat.le_of_ble_eq_true rfl)) ?_
              refine ch_y rfl (y_callf rfl Try.call20 ⟨trivial, trivial⟩ (rd_Check_s x hxo.1 _) rfl) ?_
              refine ch_y rfl (y_boolop rfl Try.runUnderlying4 trivial trivial rfl rfl rfl) ?_
              refine ch_y rfl (y_move rfl trivial (by conv => lhs; whnf)) ?_
              refine ch_g rfl rfl trivial rfl (fun hg => y_load rfl trivial rfl Try.isAgg46 Try.sizeOf46 rfl (Nat.le_of_ble_eq_true rfl)) ?_
              refine ch_g rfl rfl trivial rfl (fun hg => y_callf rfl Try.call21 ⟨hg, trivial⟩ (de_WholeB_s y hyo _) rfl) ?_
              refine ch_g rfl rfl trivial rfl (fun hg => y_load rfl trivial rfl Try.isAgg46 Try.sizeOf46 rfl (Nat.le_of_ble_eq_true rfl)) ?_
              refine ch_g rfl rfl trivial rfl (fun hg => y_callf rfl Try.call22 ⟨hg, trivial⟩ (rd_WholeB_s y hyo _) rfl) ?_
              refine ch_g rfl rfl trivial rfl (fun hg => y_boolop rfl Try.runUnderlying4 hg hg rfl rfl rfl) ?_
              refine ch_y rfl (y_pick_or rfl trivial rfl (fun hp => hp) (fun _ => rfl)) ?_
              refine ch_y rfl (y_move rfl trivial (by conv => lhs; whnf)) ?_
              refine ch_g rfl rfl trivial rfl (fun hg => y_move rfl trivial (by conv => lhs; whnf)) ?_
              refine ch_g rfl rfl trivial rfl (fun hg => y_move rfl trivial (by conv => lhs; whnf)) ?_
              refine ch_g rfl rfl trivial rfl (fun hg => y_int rfl hg hg rfl rfl rfl) ?_
              refine ch_y rfl (y_pick_or rfl trivial rfl (fun hp => hp) (fun _ => rfl)) ?_
              refine ch_y rfl (y_move rfl trivial (by conv => lhs; whnf)) ?_
              refine ch_g rfl rfl trivial rfl (fun hg => y_move rfl trivial (by conv => lhs; whnf)) ?_
              refine ch_g rfl rfl trivial rfl (fun hg => y_move rfl trivial (by conv => lhs; whnf)) ?_
              refine ch_g rfl rfl trivial rfl (fun hg => y_int rfl hg hg rfl rfl rfl) ?_
              refine ch_y rfl (y_pick_or rfl trivial rfl (fun hp => hp) (fun _ => rfl)) ?_
              refine ch_y rfl (y_move rfl trivial (by conv => lhs; whnf)) ?_
              refine ch_g rfl rfl trivial rfl (fun hg => y_move rfl trivial (by conv => lhs; whnf)) ?_
              refine ch_g rfl rfl trivial rfl (fun hg => y_move rfl trivial (by conv => lhs; whnf)) ?_
              refine ch_g rfl rfl trivial rfl (fun hg => y_int rfl hg hg rfl rfl rfl) ?_
              refine ch_y rfl (y_pick_or rfl trivial rfl (fun hp => hp) (fun _ => rfl)) ?_
              refine ch_y rfl (y_move rfl trivial (by conv => lhs; whnf)) ?_
              refine ch_g rfl rfl trivial rfl (fun hg => y_load rfl trivial rfl Try.isAgg25 Try.sizeOf25 rfl (Nat.le_of_ble_eq_true rfl)) ?_
              refine ch_g rfl rfl trivial rfl (fun hg => y_load rfl trivial rfl Try.isAgg25 Try.sizeOf25 rfl (Nat.le_of_ble_eq_true rfl)) ?_
              refine ch_g rfl rfl trivial rfl (fun hg => y_callf rfl Try.call23 ⟨hg, hg, trivial⟩ (rd_Same_s (resS (pb (CkP x)) (pb (WhP y.pend)) x y).1 (resS (pb (CkP x)) (pb (WhP y.pend)) x y).1 (resS_len hxo.1) _) rfl) ?_
              refine ch_g rfl rfl trivial rfl (fun hg => y_not rfl hg rfl) ?_
              refine ch_y rfl (y_pick_or rfl trivial rfl (fun hp => hp) (fun _ => rfl)) ?_
              refine ch_nil ?_
              refine co_nil ?_
              refine cw_cond trivial rfl (fun h10 => ?_) (fun h10 => ?_)
              · exfalso
                simp at h10
              · skip
                refine cw_skip ?_
                refine cw_region ?_
                refine co_y rfl rfl (y_add rfl trivial rfl rfl rfl (by omega) (by omega)) ?_
                refine co_y rfl rfl (y_move rfl trivial (by conv => lhs; whnf)) ?_
                refine co_nil ?_
                exact ⟨(j + 1), _, ⟨by omega, by omega⟩, ⟨⟨trivial, rfl⟩, ⟨trivial, rfl⟩, ⟨trivial, rfl⟩, ⟨trivial, rfl⟩, ⟨trivial, rfl⟩, ⟨trivial, rfl⟩, ⟨trivial, rfl⟩, ⟨trivial, rfl⟩, ⟨trivial, rfl⟩, trivial⟩, rfl⟩
            · skip
              refine cw_exit ?_
              refine cw_region ?_
              refine co_y rfl rfl (y_add rfl trivial rfl rfl rfl (by omega) (by omega)) ?_
              refine co_y rfl rfl (y_move rfl trivial (by conv => lhs; whnf)) ?_
              refine co_nil ?_
              exact ⟨(i + 1), _, ⟨by omega, by omega⟩, ⟨⟨trivial, rfl⟩, ⟨trivial, rfl⟩, ⟨trivial, rfl⟩, ⟨trivial, rfl⟩, ⟨trivial, rfl⟩, trivial⟩, rfl⟩
          · skip
            refine cw_exit ?_
            refine cw_seq ?_
            refine cw_region ?_
            refine co_y rfl rfl (y_callf rfl Try.call12 trivial (ld_known_s _) rfl) ?_
            refine co_y rfl rfl (y_assign rfl trivial (by conv => lhs; whnf)) ?_
            refine co_nil ?_
            refine cw_ret ?_
            exact ⟨_, res1 rfl trivial (by conv => lhs; whnf), _, _, rfl, rfl, cls_bool rfl⟩

theorem ld_DeliveryChecks_s (l : List Int) (nn : Bool) (hl : l.length ≤ maxLen) (raw : Net) (hrw : NetOk raw) (bx : Bx) (hbl : bx.pend.length ≤ maxLen) (at_ by_ : Int) (hat : -9223372036854775808 ≤ at_ ∧ at_ ≤ 9223372036854775807) (σ : List CObj) : CCalls CC 5 [.list (l.map icv) nn none, .agg raw.cells, .agg bx.cells, (.val (.int .i64 (at_))), (.val (.int .i64 (by_)))] σ fun r σ' => r = .ret (.val (.bool (true))) ∧ σ' = σ :=
  CCalls.anyw hCC (by repeat' (first | exact .val _ | exact pure_lts _ _ | exact pure_rps _ _ | exact pure_ints _ _ | exact trivial | refine pure_agg ?_ | refine pure_tup ?_ | refine ⟨?_, ?_⟩)) (by repeat' (first | exact .val _ | exact pure_lts _ _ | exact pure_rps _ _ | exact pure_ints _ _ | exact trivial | refine pure_agg ?_ | refine pure_tup ?_ | refine ⟨?_, ?_⟩)) (ld_DeliveryChecks l nn hl raw hrw bx hbl at_ by_ hat) σ

end Go.Proofs.Ytchaklkfaemfgaa
