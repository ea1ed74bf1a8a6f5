import Derived.Test.YtkhebelajdcjgaaDoorH15
namespace Go.Proofs.YtkhebelajdcjgaaDoor
open Go Go.Cl

set_option maxRecDepth 10000 in
theorem la_HistoryAdds (l : List Int) (nn : Bool) (hl : l.length ≤ maxLen) (rev : Int) (failed : Bool) : CCalls CC 5 [.list (l.map icv) nn none, (.val (.int .i64 (rev))), (.val (.bool (failed)))] [] fun r σ' => r = .ret (.val (.bool (true))) ∧ σ' = [] := by
  refine ccalls_val (ccalls_of Tryd.func5 rfl rfl ?_)
  refine cw_seq ?_
  refine cw_region ?_
  refine co_y rfl rfl (y_assign rfl rfl (by conv => lhs; whnf)) ?_
  refine co_nil ?_
  refine cw_seq ?_
  refine cw_region ?_
  refine co_y rfl rfl (y_move rfl trivial (by conv => lhs; whnf)) ?_
  refine co_y rfl rfl (y_callf rfl Tryd.call17 ⟨trivial, rfl, trivial⟩ (la_made_s l nn hl 60 (by omega) _) rfl) ?_
  refine co_y rfl rfl (y_move rfl trivial (by conv => lhs; whnf)) ?_
  refine co_y rfl rfl (y_extract rfl trivial rfl rfl) ?_
  refine co_y rfl rfl (y_extract rfl trivial rfl rfl) ?_
  refine co_y rfl rfl (y_extract rfl trivial rfl rfl) ?_
  refine co_y rfl rfl (y_extract rfl trivial rfl rfl) ?_
  refine co_d rfl rfl (d_alloc rfl Tryd.zeroValue26 rfl (.inr ⟨_, rfl⟩) ?_)
  refine co_d rfl rfl (d_alloc rfl Tryd.zeroValue26 rfl (.inr ⟨_, rfl⟩) ?_)
  refine co_d rfl rfl (d_store rfl trivial trivial rfl (by conv => lhs; whnf) Tryd.sizeOf26 (.inr ⟨_, rfl⟩) rfl rfl (Nat.le_of_ble_eq_true rfl) ?_)
  refine co_d rfl rfl (d_store rfl trivial trivial rfl (by conv => lhs; whnf) Tryd.sizeOf26 (.inr ⟨_, rfl⟩) rfl rfl (Nat.le_of_ble_eq_true rfl) ?_)
  refine co_y rfl rfl (y_assign rfl trivial (by conv => lhs; whnf)) ?_
  refine co_y rfl rfl (y_assign rfl trivial (by conv => lhs; whnf)) ?_
  refine co_nil ?_
  refine cw_seq ?_
  refine cw_seq ?_
  refine cw_region ?_
  refine co_y rfl rfl (y_move rfl trivial (by conv => lhs; whnf)) ?_
  refine co_y rfl rfl (y_not rfl trivial rfl) ?_
  refine co_nil ?_
  refine cw_cond trivial rfl (fun h1 => ?_) (fun h1 => ?_)
  · exfalso
    simp at h1
  · have hF := made_MF l (most := 60) (by omega)
    have hch := hF.chk
    have hla := hF.last
    have hru := hF.runs
    have hkk := hF.kk
    have hk2 := hch.k
    have hfit := chk_fits hch
    have hcl := hch.last
    obtain ⟨a1, a2, a3⟩ := add_same hF.same hch rev failed (failed || gnn (madeS l 60).w.bs.length)
    obtain ⟨q1, q2, q3, q4⟩ := same_chk a2
    have hwf := (same_chk hF.same).2.2.2 hfit
    refine cw_skip ?_
    refine cw_seq ?_
    refine cw_region ?_
    refine co_y rfl rfl (y_load rfl trivial rfl Tryd.isAgg26 Tryd.sizeOf26 rfl (Nat.le_of_ble_eq_true rfl)) ?_
    refine co_y rfl rfl (y_move rfl trivial (by conv => lhs; whnf)) ?_
    refine co_y rfl rfl (y_move rfl trivial (by conv => lhs; whnf)) ?_
    refine co_y rfl rfl (y_callf rfl Tryd.call20 ⟨trivial, trivial, trivial, trivial⟩ (hi_Add_s (madeS l 60).h hfit rev failed _) rfl) ?_
    refine co_y rfl rfl (y_move rfl trivial (by conv => lhs; whnf)) ?_
    refine co_y rfl rfl (y_extract rfl trivial rfl rfl) ?_
    refine co_y rfl rfl (y_extract rfl trivial rfl rfl) ?_
    refine co_d rfl rfl (d_store rfl trivial trivial rfl (by conv => lhs; whnf) Tryd.sizeOf26 (.inr ⟨_, rfl⟩) rfl rfl (Nat.le_of_ble_eq_true rfl) ?_)
    refine co_y rfl rfl (y_assign rfl trivial (by conv => lhs; whnf)) ?_
    refine co_nil ?_
    refine cw_seq ?_
    refine cw_region ?_
    refine co_y rfl rfl (y_load rfl trivial rfl Tryd.isAgg26 Tryd.sizeOf26 rfl (Nat.le_of_ble_eq_true rfl)) ?_
    refine co_y rfl rfl (y_move rfl trivial (by conv => lhs; whnf)) ?_
    refine co_y rfl rfl (y_move rfl trivial (by conv => lhs; whnf)) ?_
    refine co_y rfl rfl (y_callf rfl Tryd.call21 ⟨trivial, trivial, trivial, trivial⟩ (re_Add_s (madeS l 60).w hwf rev failed _) rfl) ?_
    refine co_y rfl rfl (y_move rfl trivial (by conv => lhs; whnf)) ?_
    refine co_y rfl rfl (y_extract rfl trivial rfl rfl) ?_
    refine co_y rfl rfl (y_extract rfl trivial rfl rfl) ?_
    refine co_d rfl rfl (d_store rfl trivial trivial rfl (by conv => lhs; whnf) Tryd.sizeOf26 (.inr ⟨_, rfl⟩) rfl rfl (Nat.le_of_ble_eq_true rfl) ?_)
    refine co_y rfl rfl (y_assign rfl trivial (by conv => lhs; whnf)) ?_
    refine co_nil ?_
    refine cw_seq ?_
    refine cw_draw 19 [0, 0, 3, 7, 15, 15, 63, 127, 255, 511, 1023, 511, 4095, 8191, 16383, 32767, 65535, 131071, 262143] (by kernel_rfl) (by kernel_rfl) rfl ?_
    refine ch_y rfl (y_move rfl trivial (by conv => lhs; whnf)) ?_
    refine ch_y rfl (y_move rfl trivial (by conv => lhs; whnf)) ?_
    refine ch_y rfl (y_int rfl trivial trivial rfl rfl rfl) ?_
    refine ch_y rfl (y_move rfl trivial (by conv => lhs; whnf)) ?_
    refine ch_g rfl rfl trivial rfl (fun hg => y_load rfl trivial rfl Tryd.isAgg26 Tryd.sizeOf26 rfl (Nat.le_of_ble_eq_true rfl)) ?_
    refine ch_g rfl rfl trivial rfl (fun hg => y_load rfl trivial rfl Tryd.isAgg26 Tryd.sizeOf26 rfl (Nat.le_of_ble_eq_true rfl)) ?_
    refine ch_g rfl rfl trivial rfl (fun hg => y_callf rfl Tryd.call14 ⟨hg, hg, trivial⟩ (re_Same_s _ _ (by have := a3.len; unfold maxLen; omega) _) rfl) ?_
    refine ch_y rfl (y_pick_and rfl trivial rfl (fun hp => hp) (fun _ => rfl)) ?_
    refine ch_y rfl (y_move rfl trivial (by conv => lhs; whnf)) ?_
    refine ch_g rfl rfl trivial rfl (fun hg => y_load rfl trivial rfl Tryd.isAgg26 Tryd.sizeOf26 rfl (Nat.le_of_ble_eq_true rfl)) ?_
    refine ch_g rfl rfl trivial rfl (fun hg => y_callf rfl Tryd.call23 ⟨hg, trivial⟩ (hi_Sizes_s _ a3 _) rfl) ?_
    refine ch_g rfl rfl trivial rfl (fun hg => y_load rfl trivial rfl Tryd.isAgg26 Tryd.sizeOf26 rfl (Nat.le_of_ble_eq_true rfl)) ?_
    refine ch_g rfl rfl trivial rfl (fun hg => y_callf rfl Tryd.call24 ⟨hg, trivial⟩ (re_Sizes_s _ (q4 a3) _) rfl) ?_
    refine ch_g rfl rfl trivial rfl (fun hg => y_callf rfl Tryd.call25 ⟨hg, hg, trivial⟩ (mk_SameInts_s _ _ _ _ (by have := fits_sizS (c := pb (ChkP (addS (pb (ChkP (madeS l 60).h)) (madeS l 60).h rev failed true).1)) a3; unfold maxLen; omega) _) rfl) ?_
    refine ch_y rfl (y_pick_and rfl trivial rfl (fun hp => hp) (fun _ => rfl)) ?_
    refine ch_y rfl (y_move rfl trivial (by conv => lhs; whnf)) ?_
    refine ch_g rfl rfl trivial rfl (fun hg => y_callf rfl Tryd.call16 trivial (la_known_s _) rfl) ?_
    refine ch_y rfl (y_pick_and rfl trivial rfl (fun hp => hp) (fun _ => rfl)) ?_
    refine ch_y rfl (y_assign rfl trivial (by conv => lhs; whnf)) ?_
    refine ch_nil ?_
    refine co_nil ?_
    refine cw_ret ?_
    exact ⟨_, res1 rfl trivial (by conv => lhs; whnf), _, _, rfl, rfl, cls_bool (by rw [pb_yes q3, a1]; simp [sizS, q1, q2])⟩

theorem la_HistoryAdds_s (l : List Int) (nn : Bool) (hl : l.length ≤ maxLen) (rev : Int) (failed : Bool) (σ : List CObj) : CCalls CC 5 [.list (l.map icv) nn none, (.val (.int .i64 (rev))), (.val (.bool (failed)))] σ fun r σ' => r = .ret (.val (.bool (true))) ∧ σ' = σ :=
  CCalls.anyw hCC (by repeat' (first | exact .val _ | exact pure_bkts _ _ | exact pure_ints _ _ | exact trivial | refine pure_agg ?_ | refine pure_tup ?_ | refine ⟨?_, ?_⟩)) (by repeat' (first | exact .val _ | exact pure_bkts _ _ | exact pure_ints _ _ | exact trivial | refine pure_agg ?_ | refine pure_tup ?_ | refine ⟨?_, ?_⟩)) (la_HistoryAdds l nn hl rev failed) σ

set_option maxRecDepth 10000 in
theorem la_HistoryBetween (l : List Int) (nn : Bool) (hl : l.length ≤ maxLen) (n : Int) : CCalls CC 6 [.list (l.map icv) nn none, (.val (.int .i64 (n)))] [] fun r σ' => r = .ret (.val (.bool (true))) ∧ σ' = [] := by
  refine ccalls_val (ccalls_of Tryd.func6 rfl rfl ?_)
  refine cw_seq ?_
  refine cw_region ?_
  refine co_y rfl rfl (y_assign rfl rfl (by conv => lhs; whnf)) ?_
  refine co_nil ?_
  refine cw_seq ?_
  refine cw_region ?_
  refine co_y rfl rfl (y_move rfl trivial (by conv => lhs; whnf)) ?_
  refine co_y rfl rfl (y_callf rfl Tryd.call17 ⟨trivial, rfl, trivial⟩ (la_made_s l nn hl 60 (by omega) _) rfl) ?_
  refine co_y rfl rfl (y_move rfl trivial (by conv => lhs; whnf)) ?_
  refine co_y rfl rfl (y_extract rfl trivial rfl rfl) ?_
  refine co_y rfl rfl (y_extract rfl trivial rfl rfl) ?_
  refine co_y rfl rfl (y_extract rfl trivial rfl rfl) ?_
  refine co_y rfl rfl (y_extract rfl trivial rfl rfl) ?_
  refine co_d rfl rfl (d_alloc rfl Tryd.zeroValue26 rfl (.inr ⟨_, rfl⟩) ?_)
  refine co_d rfl rfl (d_alloc rfl Tryd.zeroValue26 rfl (.inr ⟨_, rfl⟩) ?_)
  refine co_d rfl rfl (d_store rfl trivial trivial rfl (by conv => lhs; whnf) Tryd.sizeOf26 (.inr ⟨_, rfl⟩) rfl rfl (Nat.le_of_ble_eq_true rfl) ?_)
  refine co_d rfl rfl (d_store rfl trivial trivial rfl (by conv => lhs; whnf) Tryd.sizeOf26 (.inr ⟨_, rfl⟩) rfl rfl (Nat.le_of_ble_eq_true rfl) ?_)
  refine co_y rfl rfl (y_assign rfl trivial (by conv => lhs; whnf)) ?_
  refine co_y rfl rfl (y_assign rfl trivial (by conv => lhs; whnf)) ?_
  refine co_nil ?_
  refine cw_seq ?_
  refine cw_seq ?_
  refine cw_region ?_
  refine co_y rfl rfl (y_move rfl trivial (by conv => lhs; whnf)) ?_
  refine co_y rfl rfl (y_not rfl trivial rfl) ?_
  refine co_nil ?_
  refine cw_cond trivial rfl (fun h1 => ?_) (fun h1 => ?_)
  · exfalso
    simp at h1
  · have hF := made_MF l (most := 60) (by omega)
    have hch := hF.chk
    have hla := hF.last
    have hru := hF.runs
    have hkk := hF.kk
    have hk2 := hch.k
    have hfit := chk_fits hch
    have hcl := hch.last
    obtain ⟨q1, q2, q3, q4⟩ := same_chk hF.same
    refine cw_skip ?_
    refine cw_seq ?_
    refine cw_seq ?_
    refine cw_region ?_
    refine co_y rfl rfl (y_move rfl trivial (by conv => lhs; whnf)) ?_
    refine co_y rfl rfl (y_move rfl trivial (by conv => lhs; whnf)) ?_
    refine co_y rfl rfl (y_callf rfl Tryd.call18 ⟨trivial, rfl, trivial⟩ (mk_Fold_s n 60 (by omega) _) rfl) ?_
    refine co_y rfl rfl (y_lit ([n, fold n 60].map icv) rfl ⟨trivial, trivial, trivial⟩ Tryd.runUnderlying34 Tryd.sizeOf3 Tryd.zeroValue3 rfl rfl rfl rfl rfl rfl rfl rfl rfl) ?_
    refine co_y rfl rfl (y_len rfl trivial rfl Tryd.runUnderlying34 (by first | exact len_map _ _ | rfl) rfl) ?_
    refine co_y rfl rfl (y_move rfl rfl (by conv => lhs; whnf)) ?_
    refine co_nil ?_
    refine cw_block ?_
    refine cw_loopd hCC (α := Nat) (fun i => [(5, .ptr 0 0), (6, .ptr 1 0), (29, (.list ([n, fold n 60].map icv) true none)), (30, (.val (.int .i64 (2)))), (31, (.val (.int .i64 ((i : Int)))))]) (fun _ => [.box (madeS l 60).h.cells, .box (madeS l 60).w.cells]) (fun i => i ≤ 2) (fun i => 2 - i) 0 (Nat.zero_le _) ⟨⟨trivial, rfl⟩, ⟨trivial, rfl⟩, ⟨trivial, rfl⟩, ⟨trivial, rfl⟩, ⟨trivial, rfl⟩, trivial⟩ (extra0 := []) rfl (fun _ _ => Nat.le_of_ble_eq_true rfl) (fun a ha => by repeat' (first | exact trivial | exact .val _ | exact .ptr (Nat.le_of_ble_eq_true rfl) | exact .map (Nat.le_of_ble_eq_true rfl) | exact (by first | exact old_bkts _ _ _ | exact old_ints _ _ _) | refine old_box ?_ | refine ⟨?_, ?_⟩)) ?_
    intro i hi
    refine cw_seq ?_
    refine cw_region ?_
    refine co_y rfl rfl (y_int rfl trivial trivial rfl rfl rfl) ?_
    refine co_nil ?_
    refine cw_seq ?_
    refine cw_cond trivial rfl (fun h2 => ?_) (fun h2 => ?_)
    · have hi2 : i < 2 := by simp at h2; omega
      obtain ⟨v, hb⟩ : ∃ v, [n, fold n 60][i]? = some v := ⟨[n, fold n 60][i]'(by simp; omega), by simp⟩
      refine cw_skip ?_
      refine cw_seq ?_
      refine cw_block ?_
      refine cw_seq ?_
      refine cw_region ?_
      refine co_y rfl rfl (y_index rfl trivial trivial rfl rfl Tryd.runUnderlying34 Tryd.sizeOf3 (by omega) (rows_get hb) rfl) ?_
      refine co_y rfl rfl (y_load_c1 rfl trivial rfl Tryd.isAgg3 rfl) ?_
      refine co_y rfl rfl (y_assign rfl trivial (by conv => lhs; whnf)) ?_
      refine co_nil ?_
      refine cw_seq ?_
      refine cw_region ?_
      refine co_y rfl rfl (y_load rfl trivial rfl Tryd.isAgg26 Tryd.sizeOf26 rfl (Nat.le_of_ble_eq_true rfl)) ?_
      refine co_y rfl rfl (y_move rfl trivial (by conv => lhs; whnf)) ?_
      refine co_y rfl rfl (y_callf rfl Tryd.call22 ⟨trivial, trivial, trivial⟩ (hi_Between_s (madeS l 60).h hfit v _) rfl) ?_
      refine co_y rfl rfl (y_move rfl trivial (by conv => lhs; whnf)) ?_
      refine co_y rfl rfl (y_extract rfl trivial rfl rfl) ?_
      refine co_y rfl rfl (y_extract rfl trivial rfl rfl) ?_
      refine co_y rfl rfl (y_extract rfl trivial rfl rfl) ?_
      refine co_y rfl rfl (y_assign rfl trivial (by conv => lhs; whnf)) ?_
      refine co_y rfl rfl (y_assign rfl trivial (by conv => lhs; whnf)) ?_
      refine co_y rfl rfl (y_assign rfl trivial (by conv => lhs; whnf)) ?_
      refine co_nil ?_
      refine cw_seq ?_
      refine cw_region ?_
      refine co_y rfl rfl (y_load rfl trivial rfl Tryd.isAgg26 Tryd.sizeOf26 rfl (Nat.le_of_ble_eq_true rfl)) ?_
      refine co_y rfl rfl (y_move rfl trivial (by conv => lhs; whnf)) ?_
      refine co_y rfl rfl (y_callf rfl Tryd.call26 ⟨trivial, trivial, trivial⟩ (re_Between_s (madeS l 60).w (q4 hfit) v _) rfl) ?_
      refine co_y rfl rfl (y_move rfl trivial (by conv => lhs; whnf)) ?_
      refine co_y rfl rfl (y_extract rfl trivial rfl rfl) ?_
      refine co_y rfl rfl (y_extract rfl trivial rfl rfl) ?_
      refine co_y rfl rfl (y_extract rfl trivial rfl rfl) ?_
      refine co_y rfl rfl (y_assign rfl trivial (by conv => lhs; whnf)) ?_
      refine co_y rfl rfl (y_assign rfl trivial (by conv => lhs; whnf)) ?_
      refine co_y rfl rfl (y_assign rfl trivial (by conv => lhs; whnf)) ?_
      refine co_nil ?_
      refine cw_seq ?_
      refine cw_region ?_
      refine co_y rfl rfl (y_move rfl trivial (by conv => lhs; whnf)) ?_
      refine co_y rfl rfl (y_move rfl trivial (by conv => lhs; whnf)) ?_
      refine co_y rfl rfl (y_int rfl trivial trivial rfl rfl rfl) ?_
      refine co_y rfl rfl (y_move rfl trivial (by conv => lhs; whnf)) ?_
      refine co_g rfl rfl trivial rfl rfl (fun hg => y_move rfl trivial (by conv => lhs; whnf)) ?_
      refine co_g rfl rfl trivial rfl rfl (fun hg => y_move rfl trivial (by conv => lhs; whnf)) ?_
      refine co_g rfl rfl trivial rfl rfl (fun hg => y_int rfl hg hg rfl rfl rfl) ?_
      refine co_y rfl rfl (y_pick_or rfl trivial rfl (fun hp => hp) (fun _ => rfl)) ?_
      refine co_y rfl rfl (y_move rfl trivial (by conv => lhs; whnf)) ?_
      refine co_g rfl rfl trivial rfl rfl (fun hg => y_move rfl trivial (by conv => lhs; whnf)) ?_
      refine co_g rfl rfl trivial rfl rfl (fun hg => y_move rfl trivial (by conv => lhs; whnf)) ?_
      refine co_g rfl rfl trivial rfl rfl (fun hg => y_int rfl hg hg rfl rfl rfl) ?_
      refine co_y rfl rfl (y_pick_or rfl trivial rfl (fun hp => hp) (fun _ => rfl)) ?_
      refine co_nil ?_
      refine cw_cond trivial rfl (fun h3 => ?_) (fun h3 => ?_)
      · exfalso
        rw [q1] at h3
        simp [betS, q2] at h3
      · skip
        refine cw_skip ?_
        refine cw_region ?_
        refine co_y rfl rfl (y_add rfl trivial rfl rfl rfl (by omega) (by omega)) ?_
        refine co_y rfl rfl (y_move rfl trivial (by conv => lhs; whnf)) ?_
        refine co_nil ?_
        exact ⟨(i + 1), _, ⟨by omega, by omega⟩, ⟨⟨trivial, rfl⟩, ⟨trivial, rfl⟩, ⟨trivial, rfl⟩, ⟨trivial, rfl⟩, ⟨trivial, rfl⟩, trivial⟩, rfl⟩
    · skip
      refine cw_exit ?_
      refine cw_seq ?_
      refine cw_region ?_
      refine co_y rfl rfl (y_callf rfl Tryd.call16 trivial (la_known_s _) rfl) ?_
      refine co_y rfl rfl (y_assign rfl trivial (by conv => lhs; whnf)) ?_
      refine co_nil ?_
      refine cw_ret ?_
      exact ⟨_, res1 rfl trivial (by conv => lhs; whnf), _, _, rfl, rfl, cls_bool rfl⟩

theorem la_HistoryBetween_s (l : List Int) (nn : Bool) (hl : l.length ≤ maxLen) (n : Int) (σ : List CObj) : CCalls CC 6 [.list (l.map icv) nn none, (.val (.int .i64 (n)))] σ fun r σ' => r = .ret (.val (.bool (true))) ∧ σ' = σ :=
  CCalls.anyw hCC (by repeat' (first | exact .val _ | exact pure_bkts _ _ | exact pure_ints _ _ | exact trivial | refine pure_agg ?_ | refine pure_tup ?_ | refine ⟨?_, ?_⟩)) (by repeat' (first | exact .val _ | exact pure_bkts _ _ | exact pure_ints _ _ | exact trivial | refine pure_agg ?_ | refine pure_tup ?_ | refine ⟨?_, ?_⟩)) (la_HistoryBetween l nn hl n) σ

set_option maxRecDepth 10000 in
theorem la_HistoryBounds (l : List Int) (nn : Bool) (hl : l.length ≤ maxLen) : CCalls CC 7 [.list (l.map icv) nn none] [] fun r σ' => r = .ret (.val (.bool (true))) ∧ σ' = [] := by
  refine ccalls_val (ccalls_of Tryd.func7 rfl rfl ?_)
  refine cw_seq ?_
  refine cw_region ?_
  refine co_y rfl rfl (y_assign rfl rfl (by conv => lhs; whnf)) ?_
  refine co_nil ?_
  refine cw_seq ?_
  refine cw_region ?_
  refine co_y rfl rfl (y_move rfl trivial (by conv => lhs; whnf)) ?_
  refine co_y rfl rfl (y_callf rfl Tryd.call17 ⟨trivial, rfl, trivial⟩ (la_made_s l nn hl 80 (by omega) _) rfl) ?_
  refine co_y rfl rfl (y_move rfl trivial (by conv => lhs; whnf)) ?_
  refine co_y rfl rfl (y_extract rfl trivial rfl rfl) ?_
  refine co_y rfl rfl (y_extract rfl trivial rfl rfl) ?_
  refine co_y rfl rfl (y_extract rfl trivial rfl rfl) ?_
  refine co_y rfl rfl (y_extract rfl trivial rfl rfl) ?_
  refine co_d rfl rfl (d_alloc rfl Tryd.zeroValue26 rfl (.inr ⟨_, rfl⟩) ?_)
  refine co_d rfl rfl (d_alloc rfl Tryd.zeroValue26 rfl (.inr ⟨_, rfl⟩) ?_)
  refine co_d rfl rfl (d_store rfl trivial trivial rfl (by conv => lhs; whnf) Tryd.sizeOf26 (.inr ⟨_, rfl⟩) rfl rfl (Nat.le_of_ble_eq_true rfl) ?_)
  refine co_d rfl rfl (d_store rfl trivial trivial rfl (by conv => lhs; whnf) Tryd.sizeOf26 (.inr ⟨_, rfl⟩) rfl rfl (Nat.le_of_ble_eq_true rfl) ?_)
  refine co_y rfl rfl (y_assign rfl trivial (by conv => lhs; whnf)) ?_
  refine co_y rfl rfl (y_assign rfl trivial (by conv => lhs; whnf)) ?_
  refine co_nil ?_
  refine cw_seq ?_
  refine cw_seq ?_
  refine cw_region ?_
  refine co_y rfl rfl (y_move rfl trivial (by conv => lhs; whnf)) ?_
  refine co_y rfl rfl (y_not rfl trivial rfl) ?_
  refine co_nil ?_
  refine cw_cond trivial rfl (fun h1 => ?_) (fun h1 => ?_)
  · exfalso
    simp at h1
  · have hF := made_MF l (most := 80) (by omega)
    have hch := hF.chk
    have hla := hF.last
    have hru := hF.runs
    have hkk := hF.kk
    have hk2 := hch.k
    have hfit := chk_fits hch
    have hcl := hch.last
    refine cw_skip ?_
    refine cw_seq ?_
    refine cw_seq ?_
    refine cw_region ?_
    refine co_y rfl rfl (y_assign rfl rfl (by conv => lhs; whnf)) ?_
    refine co_nil ?_
    refine cw_block ?_
    refine cw_loopd hCC (α := Nat) (fun i => [(3, .ptr 0 0), (5, (.list ((madeS l 80).out.map icv) (gnn (madeS l 80).out.length) none)), (7, (.val (.int .i64 ((i : Int)))))]) (fun _ => [.box (madeS l 80).h.cells, .box (madeS l 80).w.cells]) (fun i => (i : Int) ≤ (madeS l 80).h.last + 2) (fun i => ((madeS l 80).h.last + 2).toNat - i) 0 (by show (0 : Int) ≤ _; omega) ⟨⟨trivial, rfl⟩, ⟨trivial, rfl⟩, ⟨trivial, rfl⟩, trivial⟩ (extra0 := []) rfl (fun _ _ => Nat.le_of_ble_eq_true rfl) (fun a ha => by repeat' (first | exact trivial | exact .val _ | exact .ptr (Nat.le_of_ble_eq_true rfl) | exact .map (Nat.le_of_ble_eq_true rfl) | exact (by first | exact old_bkts _ _ _ | exact old_ints _ _ _) | refine old_box ?_ | refine ⟨?_, ?_⟩)) ?_
    intro i hi
    refine cw_seq ?_
    refine cw_seq ?_
    refine cw_region ?_
    refine co_y rfl rfl (y_move rfl trivial (by conv => lhs; whnf)) ?_
    refine co_y rfl rfl (y_field rfl trivial rfl Tryd.runUnderlying26 rfl Tryd.sizeOf3 (by decide)) ?_
    refine co_y rfl rfl (y_load1 rfl trivial rfl Tryd.isAgg3 rfl rfl) ?_
    refine co_y rfl rfl (y_add rfl trivial rfl rfl rfl (by omega) (by omega)) ?_
    refine co_y rfl rfl (y_int rfl trivial trivial rfl rfl rfl) ?_
    refine co_nil ?_
    refine cw_cond trivial rfl (fun h2 => ?_) (fun h2 => ?_)
    · have hi2 : (i : Int) ≤ (madeS l 80).h.last + 1 := by simpa using h2
      have eb := betS_ok hch (i : Int)
      refine cw_skip ?_
      refine cw_seq ?_
      refine cw_block ?_
      refine cw_seq ?_
      refine cw_region ?_
      refine co_y rfl rfl (y_load rfl trivial rfl Tryd.isAgg26 Tryd.sizeOf26 rfl (Nat.le_of_ble_eq_true rfl)) ?_
      refine co_y rfl rfl (y_move rfl trivial (by conv => lhs; whnf)) ?_
      refine co_y rfl rfl (y_callf rfl Tryd.call22 ⟨trivial, trivial, trivial⟩ (hi_Between_s (madeS l 80).h hfit (i : Int) _) rfl) ?_
      refine co_y rfl rfl (y_move rfl trivial (by conv => lhs; whnf)) ?_
      refine co_y rfl rfl (y_extract rfl trivial rfl rfl) ?_
      refine co_y rfl rfl (y_extract rfl trivial rfl rfl) ?_
      refine co_y rfl rfl (y_extract rfl trivial rfl rfl) ?_
      refine co_y rfl rfl (y_assign rfl trivial (by conv => lhs; whnf)) ?_
      refine co_y rfl rfl (y_assign rfl trivial (by conv => lhs; whnf)) ?_
      refine co_y rfl rfl (y_assign rfl trivial (by conv => lhs; whnf)) ?_
      refine co_nil ?_
      refine cw_seq ?_
      refine cw_region ?_
      refine co_y rfl rfl (y_move rfl trivial (by conv => lhs; whnf)) ?_
      refine co_y rfl rfl (y_move rfl trivial (by conv => lhs; whnf)) ?_
      refine co_y rfl rfl (y_callf rfl Tryd.call27 ⟨trivial, trivial, trivial⟩ (la_from_s (madeS l 80).out _ (i : Int) (by have := hF.out; unfold maxLen; omega) _) rfl) ?_
      refine co_y rfl rfl (y_assign rfl trivial (by conv => lhs; whnf)) ?_
      refine co_nil ?_
      refine cw_seq ?_
      refine cw_region ?_
      refine co_y rfl rfl (y_move rfl trivial (by conv => lhs; whnf)) ?_
      refine co_y rfl rfl (y_int rfl trivial rfl rfl rfl rfl) ?_
      refine co_y rfl rfl (y_move rfl trivial (by conv => lhs; whnf)) ?_
      refine co_g rfl rfl trivial rfl rfl (fun hg => y_move rfl trivial (by conv => lhs; whnf)) ?_
      refine co_g rfl rfl trivial rfl rfl (fun hg => y_move rfl trivial (by conv => lhs; whnf)) ?_
      refine co_g rfl rfl trivial rfl rfl (fun hg => y_int rfl hg hg rfl rfl rfl) ?_
      refine co_y rfl rfl (y_pick_or rfl trivial rfl (fun hp => hp) (fun _ => rfl)) ?_
      refine co_y rfl rfl (y_move rfl trivial (by conv => lhs; whnf)) ?_
      refine co_g rfl rfl trivial rfl rfl (fun hg => y_move rfl trivial (by conv => lhs; whnf)) ?_
      refine co_g rfl rfl trivial rfl rfl (fun hg => y_move rfl trivial (by conv => lhs; whnf)) ?_
      refine co_g rfl rfl trivial rfl rfl (fun hg => y_int rfl hg hg rfl rfl rfl) ?_
      refine co_y rfl rfl (y_pick_or rfl trivial rfl (fun hp => hp) (fun _ => rfl)) ?_
      refine co_nil ?_
      refine cw_cond trivial rfl (fun h3 => ?_) (fun h3 => ?_)
      · exfalso
        have hb := cov_bound hF.cov (i : Int)
        rw [eb] at h3
        simp at h3
        omega
      · skip
        refine cw_skip ?_
        refine cw_region ?_
        refine co_y rfl rfl (y_move rfl trivial (by conv => lhs; whnf)) ?_
        refine co_y rfl rfl (y_add rfl trivial rfl rfl rfl (by omega) (by omega)) ?_
        refine co_y rfl rfl (y_assign rfl trivial (by conv => lhs; whnf)) ?_
        refine co_nil ?_
        exact ⟨(i + 1), _, ⟨by omega, by push_cast; omega⟩, ⟨⟨trivial, rfl⟩, ⟨trivial, rfl⟩, ⟨trivial, rfl⟩, trivial⟩, rfl⟩
    · skip
      refine cw_exit ?_
      refine cw_seq ?_
      refine cw_region ?_
      refine co_y rfl rfl (y_callf rfl Tryd.call16 trivial (la_known_s _) rfl) ?_
      refine co_y rfl rfl (y_assign rfl trivial (by conv => lhs; whnf)) ?_
      refine co_nil ?_
      refine cw_ret ?_
      exact ⟨_, res1 rfl trivial (by conv => lhs; whnf), _, _, rfl, rfl, cls_bool rfl⟩

theorem la_HistoryBounds_s (l : List Int) (nn : Bool) (hl : l.length ≤ maxLen) (σ : List CObj) : CCalls CC 7 [.list (l.map icv) nn none] σ fun r σ' => r = .ret (.val (.bool (true))) ∧ σ' = σ :=
  CCalls.anyw hCC (by repeat' (first | exact .val _ | exact pure_bkts _ _ | exact pure_ints _ _ | exact trivial | refine pure_agg ?_ | refine pure_tup ?_ | refine ⟨?_, ?_⟩)) (by repeat' (first | exact .val _ | exact pure_bkts _ _ | exact pure_ints _ _ | exact trivial | refine pure_agg ?_ | refine pure_tup ?_ | refine ⟨?_, ?_⟩)) (la_HistoryBounds l nn hl) σ

set_option maxRecDepth 10000 in
theorem la_HistoryNear (l : List Int) (nn : Bool) (hl : l.length ≤ maxLen) : CCalls CC 8 [.list (l.map icv) nn none] [] fun r σ' => r = .ret (.val (.bool (true))) ∧ σ' = [] := by
  refine ccalls_val (ccalls_of Tryd.func8 rfl rfl ?_)
  refine cw_seq ?_
  refine cw_region ?_
  refine co_y rfl rfl (y_assign rfl rfl (by conv => lhs; whnf)) ?_
  refine co_nil ?_
  refine cw_seq ?_
  refine cw_region ?_
  refine co_y rfl rfl (y_move rfl trivial (by conv => lhs; whnf)) ?_
  refine co_y rfl rfl (y_callf rfl Tryd.call17 ⟨trivial, rfl, trivial⟩ (la_made_s l nn hl 80 (by omega) _) rfl) ?_
  refine co_y rfl rfl (y_move rfl trivial (by conv => lhs; whnf)) ?_
  refine co_y rfl rfl (y_extract rfl trivial rfl rfl) ?_
  refine co_y rfl rfl (y_extract rfl trivial rfl rfl) ?_
  refine co_y rfl rfl (y_extract rfl trivial rfl rfl) ?_
  refine co_y rfl rfl (y_extract rfl trivial rfl rfl) ?_
  refine co_d rfl rfl (d_alloc rfl Tryd.zeroValue26 rfl (.inr ⟨_, rfl⟩) ?_)
  refine co_d rfl rfl (d_alloc rfl Tryd.zeroValue26 rfl (.inr ⟨_, rfl⟩) ?_)
  refine co_d rfl rfl (d_store rfl trivial trivial rfl (by conv => lhs; whnf) Tryd.sizeOf26 (.inr ⟨_, rfl⟩) rfl rfl (Nat.le_of_ble_eq_true rfl) ?_)
  refine co_d rfl rfl (d_store rfl trivial trivial rfl (by conv => lhs; whnf) Tryd.sizeOf26 (.inr ⟨_, rfl⟩) rfl rfl (Nat.le_of_ble_eq_true rfl) ?_)
  refine co_y rfl rfl (y_assign rfl trivial (by conv => lhs; whnf)) ?_
  refine co_y rfl rfl (y_assign rfl trivial (by conv => lhs; whnf)) ?_
  refine co_nil ?_
  refine cw_seq ?_
  refine cw_seq ?_
  refine cw_region ?_
  refine co_y rfl rfl (y_move rfl trivial (by conv => lhs; whnf)) ?_
  refine co_y rfl rfl (y_not rfl trivial rfl) ?_
  refine co_nil ?_
  refine cw_cond trivial rfl (fun h1 => ?_) (fun h1 => ?_)
  · exfalso
    simp at h1
  · have hF := made_MF l (most := 80) (by omega)
    have hch := hF.chk
    have hla := hF.last
    have hru := hF.runs
    have hkk := hF.kk
    have hk2 := hch.k
    have hfit := chk_fits hch
    have hcl := hch.last
    refine cw_skip ?_
    refine cw_seq ?_
    refine cw_seq ?_
    refine cw_region ?_
    refine co_y rfl rfl (y_assign rfl rfl (by conv => lhs; whnf)) ?_
    refine co_nil ?_
    refine cw_block ?_
    refine cw_loopd hCC (α := Nat) (fun i => [(3, .ptr 0 0), (7, (.val (.int .i64 ((i : Int)))))]) (fun _ => [.box (madeS l 80).h.cells, .box (madeS l 80).w.cells]) (fun i => (i : Int) ≤ (madeS l 80).h.last + 2) (fun i => ((madeS l 80).h.last + 2).toNat - i) 0 (by show (0 : Int) ≤ _; omega) ⟨⟨trivial, rfl⟩, ⟨trivial, rfl⟩, trivial⟩ (extra0 := []) rfl (fun _ _ => Nat.le_of_ble_eq_true rfl) (fun a ha => by repeat' (first | exact trivial | exact .val _ | exact .ptr (Nat.le_of_ble_eq_true rfl) | exact .map (Nat.le_of_ble_eq_true rfl) | exact (by first | exact old_bkts _ _ _ | exact old_ints _ _ _) | refine old_box ?_ | refine ⟨?_, ?_⟩)) ?_
    intro i hi
    refine cw_seq ?_
    refine cw_seq ?_
    refine cw_region ?_
    refine co_y rfl rfl (y_move rfl trivial (by conv => lhs; whnf)) ?_
    refine co_y rfl rfl (y_field rfl trivial rfl Tryd.runUnderlying26 rfl Tryd.sizeOf3 (by decide)) ?_
    refine co_y rfl rfl (y_load1 rfl trivial rfl Tryd.isAgg3 rfl rfl) ?_
    refine co_y rfl rfl (y_add rfl trivial rfl rfl rfl (by omega) (by omega)) ?_
    refine co_y rfl rfl (y_int rfl trivial trivial rfl rfl rfl) ?_
    refine co_nil ?_
    refine cw_cond trivial rfl (fun h2 => ?_) (fun h2 => ?_)
    · have hi2 : (i : Int) ≤ (madeS l 80).h.last + 1 := by simpa using h2
      have eb := betS_ok hch (i : Int)
      have hft := bet_fit hch (i : Int)
      obtain ⟨hn1, hn2⟩ := near_law hk2.1 hch.siz hch.ord (i : Int)
      have hn3 : 0 ≤ (betHi (madeS l 80).h.bs i - betLo (madeS l 80).h.bs i) * ((madeS l 80).h.k - 1) := Int.mul_nonneg (by omega) (by omega)
      have e1 : (betS (pb (ChkP (madeS l 80).h)) (madeS l 80).h i).1 = betLo (madeS l 80).h.bs i := by rw [eb]
      have e2 : (betS (pb (ChkP (madeS l 80).h)) (madeS l 80).h i).2.1 = betHi (madeS l 80).h.bs i := by rw [eb]
      rw [← e1, ← e2] at hn1 hn2 hn3 hft
      refine cw_skip ?_
      refine cw_seq ?_
      refine cw_block ?_
      refine cw_seq ?_
      refine cw_region ?_
      refine co_y rfl rfl (y_load rfl trivial rfl Tryd.isAgg26 Tryd.sizeOf26 rfl (Nat.le_of_ble_eq_true rfl)) ?_
      refine co_y rfl rfl (y_move rfl trivial (by conv => lhs; whnf)) ?_
      refine co_y rfl rfl (y_callf rfl Tryd.call22 ⟨trivial, trivial, trivial⟩ (hi_Between_s (madeS l 80).h hfit (i : Int) _) rfl) ?_
      refine co_y rfl rfl (y_move rfl trivial (by conv => lhs; whnf)) ?_
      refine co_y rfl rfl (y_extract rfl trivial rfl rfl) ?_
      refine co_y rfl rfl (y_extract rfl trivial rfl rfl) ?_
      refine co_y rfl rfl (y_extract rfl trivial rfl rfl) ?_
      refine co_y rfl rfl (y_assign rfl trivial (by conv => lhs; whnf)) ?_
      refine co_y rfl rfl (y_assign rfl trivial (by conv => lhs; whnf)) ?_
      refine co_y rfl rfl (y_assign rfl trivial (by conv => lhs; whnf)) ?_
      refine co_nil ?_
      refine cw_seq ?_
      refine cw_region ?_
      refine co_y rfl rfl (y_move rfl trivial (by conv => lhs; whnf)) ?_
      refine co_y rfl rfl (y_int rfl trivial rfl rfl rfl rfl) ?_
      refine co_y rfl rfl (y_move rfl trivial (by conv => lhs; whnf)) ?_
      refine co_g rfl rfl trivial rfl rfl (fun hg => y_move rfl trivial (by conv => lhs; whnf)) ?_
      refine co_g rfl rfl trivial rfl rfl (fun hg => y_move rfl trivial (by conv => lhs; whnf)) ?_
      refine co_g rfl rfl trivial rfl rfl (fun hg => y_int rfl hg hg rfl rfl rfl) ?_
      refine co_y rfl rfl (y_pick_or rfl trivial rfl (fun hp => hp) (fun _ => rfl)) ?_
      refine co_y rfl rfl (y_move rfl trivial (by conv => lhs; whnf)) ?_
      refine co_g rfl rfl trivial rfl rfl (fun hg => y_move rfl trivial (by conv => lhs; whnf)) ?_
      refine co_g rfl rfl trivial rfl rfl (fun hg => y_move rfl trivial (by conv => lhs; whnf)) ?_
      refine co_g rfl rfl trivial rfl rfl (fun hg => y_sub rfl hg hg rfl rfl (by first | omega | (simp at hg; omega)) (by first | omega | (simp at hg; omega))) ?_
      refine co_g rfl rfl trivial rfl rfl (fun hg => y_field rfl trivial rfl Tryd.runUnderlying26 rfl Tryd.sizeOf3 (by decide)) ?_
      refine co_g rfl rfl trivial rfl rfl (fun hg => y_load1 rfl hg rfl Tryd.isAgg3 rfl rfl) ?_
      refine co_g rfl rfl trivial rfl rfl (fun hg => y_sub rfl hg rfl rfl rfl (by first | omega | (simp at hg; omega)) (by first | omega | (simp at hg; omega))) ?_
      refine co_g rfl rfl trivial rfl rfl (fun hg => y_mul rfl hg hg rfl rfl (by first | omega | (simp at hg; omega)) (by first | omega | (simp at hg; omega))) ?_
      refine co_g rfl rfl trivial rfl rfl (fun hg => y_move rfl trivial (by conv => lhs; whnf)) ?_
      refine co_g rfl rfl trivial rfl rfl (fun hg => y_int rfl hg hg rfl rfl rfl) ?_
      refine co_y rfl rfl (y_pick_or rfl trivial rfl (fun hp => hp) (fun _ => rfl)) ?_
      refine co_nil ?_
      refine cw_cond trivial rfl (fun h3 => ?_) (fun h3 => ?_)
      · exfalso
        rw [eb] at h3 hn1 hn2
        simp at h3
        dsimp only at hn1 hn2
        omega
      · skip
        refine cw_skip ?_
        refine cw_region ?_
        refine co_y rfl rfl (y_move rfl trivial (by conv => lhs; whnf)) ?_
        refine co_y rfl rfl (y_add rfl trivial rfl rfl rfl (by omega) (by omega)) ?_
        refine co_y rfl rfl (y_assign rfl trivial (by conv => lhs; whnf)) ?_
        refine co_nil ?_
        exact ⟨(i + 1), _, ⟨by omega, by push_cast; omega⟩, ⟨⟨trivial, rfl⟩, ⟨trivial, rfl⟩, trivial⟩, rfl⟩
    · skip
      refine cw_exit ?_
      refine cw_seq ?_
      refine cw_region ?_
      refine co_y rfl rfl (y_callf rfl Tryd.call16 trivial (la_known_s _) rfl) ?_
      refine co_y rfl rfl (y_assign rfl trivial (by conv => lhs; whnf)) ?_
      refine co_nil ?_
      refine cw_ret ?_
      exact ⟨_, res1 rfl trivial (by conv => lhs; whnf), _, _, rfl, rfl, cls_bool rfl⟩

theorem la_HistoryNear_s (l : List Int) (nn : Bool) (hl : l.length ≤ maxLen) (σ : List CObj) : CCalls CC 8 [.list (l.map icv) nn none] σ fun r σ' => r = .ret (.val (.bool (true))) ∧ σ' = σ :=
  CCalls.anyw hCC (by repeat' (first | exact .val _ | exact pure_bkts _ _ | exact pure_ints _ _ | exact trivial | refine pure_agg ?_ | refine pure_tup ?_ | refine ⟨?_, ?_⟩)) (by repeat' (first | exact .val _ | exact pure_bkts _ _ | exact pure_ints _ _ | exact trivial | refine pure_agg ?_ | refine pure_tup ?_ | refine ⟨?_, ?_⟩)) (la_HistoryNear l nn hl) σ

end Go.Proofs.YtkhebelajdcjgaaDoor
