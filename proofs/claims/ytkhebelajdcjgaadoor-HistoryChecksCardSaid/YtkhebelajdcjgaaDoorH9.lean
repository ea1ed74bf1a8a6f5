import Derived.Test.YtkhebelajdcjgaaDoorH8
namespace Go.Proofs.YtkhebelajdcjgaaDoor
open Go Go.Cl

theorem cnt_snoc {bs : List Bkt} {acc : List Int} {b : Bkt} (h : acc = (bs.take acc.length).map (·.count)) (hb : bs[acc.length]? = some b) : acc ++ [b.count] = (bs.take (acc ++ [b.count]).length).map (·.count) := by
  rw [List.length_append, List.length_singleton, take_snoc hb, List.map_append, ← h]; rfl

set_option maxRecDepth 10000 in
theorem hi_Sizes (h : Hist) (hf : Fits h) : CCalls CC 23 [.agg h.cells] [] fun r σ' => r = .ret (.list ((sizS (pb (ChkP h)) h).map icv) (gnn (sizS (pb (ChkP h)) h).length) none) ∧ σ' = [] := by
  refine ccalls_val (ccalls_of Tryd.func23 rfl rfl ?_)
  refine cw_seq ?_
  refine cw_region ?_
  refine co_d rfl rfl (d_box rfl trivial (by conv => lhs; whnf) (.inr ⟨_, rfl⟩) ?_)
  refine co_y rfl rfl (y_assign rfl rfl (by conv => lhs; whnf)) ?_
  refine co_nil ?_
  refine cw_seq ?_
  refine cw_seq ?_
  refine cw_region ?_
  refine co_y rfl rfl (y_load rfl trivial rfl Tryd.isAgg26 Tryd.sizeOf26 rfl (Nat.le_of_ble_eq_true rfl)) ?_
  refine co_y rfl rfl (y_callf rfl Tryd.call15 ⟨trivial, trivial⟩ (hi_Check_s h hf _) rfl) ?_
  refine co_y rfl rfl (y_not rfl trivial rfl) ?_
  refine co_nil ?_
  refine cw_cond trivial rfl (fun h1 => ?_) (fun h1 => ?_)
  · have hc : pb (ChkP h) = false := by simpa using h1
    refine cw_seq ?_
    refine cw_region ?_
    refine co_y rfl rfl (y_assign rfl rfl (by conv => lhs; whnf)) ?_
    refine co_nil ?_
    refine cw_ret ?_
    exact ⟨_, res1 rfl trivial (by conv => lhs; whnf), _, _, rfl, rfl, (cls_eq (by rw [sizS, if_neg (by rw [hc]; decide)]; rfl) (by repeat' (first | exact .val _ | exact pure_bkts _ _ | exact pure_ints _ _ | exact trivial | refine pure_agg ?_ | refine pure_tup ?_ | refine ⟨?_, ?_⟩)))⟩
  · have hc : pb (ChkP h) = true := by simpa using h1
    have hlen := hf.len
    refine cw_skip ?_
    refine cw_seq ?_
    refine cw_region ?_
    refine co_y rfl rfl (y_assign rfl rfl (by conv => lhs; whnf)) ?_
    refine co_nil ?_
    refine cw_seq ?_
    refine cw_seq ?_
    refine cw_region ?_
    refine co_y rfl rfl (y_field rfl trivial rfl Tryd.runUnderlying26 rfl Tryd.sizeOf24 (by decide)) ?_
    refine co_y rfl rfl (y_load1 rfl trivial rfl Tryd.isAgg24 rfl rfl) ?_
    refine co_y rfl rfl (y_len rfl trivial rfl Tryd.runUnderlying24 (by first | exact len_map _ _ | rfl) rfl) ?_
    refine co_y rfl rfl (y_move rfl rfl (by conv => lhs; whnf)) ?_
    refine co_nil ?_
    refine cw_block ?_
    refine cw_loopr hCC 1 rfl (α := List Int) (fun acc => [(3, (.list (acc.map icv) (gnn acc.length) (gtok acc.length 1))), (10, (.list (h.bs.map Bkt.cv) h.nn none)), (11, (.val (.int .i64 ((h.bs.length : Int))))), (12, (.val (.int .i64 ((acc.length : Int)))))]) (fun acc => [.box h.cells, gobj acc.length]) (fun acc => acc.length ≤ h.bs.length ∧ acc = (h.bs.take acc.length).map (·.count)) (fun acc => h.bs.length - acc.length) ⟨[], [0, 7], ⟨Nat.zero_le _, rfl⟩, ⟨rfl, rfl⟩, ⟨⟨trivial, (by first | exact .ptr rfl | exact .map rfl | exact .vec rfl | exact .same rfl (by first | exact .val _ | exact .ptr (Nat.le_of_ble_eq_true rfl) | exact .map (Nat.le_of_ble_eq_true rfl) | exact (by first | exact old_bkts _ _ _ | exact old_ints _ _ _)) | exact RenV.grow (f := icv) (fun _ => ⟨.val _, trivial⟩) rfl)⟩, ⟨trivial, (by first | exact .ptr rfl | exact .map rfl | exact .vec rfl | exact .same rfl (by first | exact .val _ | exact .ptr (Nat.le_of_ble_eq_true rfl) | exact .map (Nat.le_of_ble_eq_true rfl) | exact (by first | exact old_bkts _ _ _ | exact old_ints _ _ _)) | exact RenV.grow (f := icv) (fun _ => ⟨.val _, trivial⟩) rfl)⟩, ⟨trivial, (by first | exact .ptr rfl | exact .map rfl | exact .vec rfl | exact .same rfl (by first | exact .val _ | exact .ptr (Nat.le_of_ble_eq_true rfl) | exact .map (Nat.le_of_ble_eq_true rfl) | exact (by first | exact old_bkts _ _ _ | exact old_ints _ _ _)) | exact RenV.grow (f := icv) (fun _ => ⟨.val _, trivial⟩) rfl)⟩, ⟨trivial, (by first | exact .ptr rfl | exact .map rfl | exact .vec rfl | exact .same rfl (by first | exact .val _ | exact .ptr (Nat.le_of_ble_eq_true rfl) | exact .map (Nat.le_of_ble_eq_true rfl) | exact (by first | exact old_bkts _ _ _ | exact old_ints _ _ _)) | exact RenV.grow (f := icv) (fun _ => ⟨.val _, trivial⟩) rfl)⟩, trivial⟩, (by repeat' (first | exact trivial | exact .inl rfl | exact .inr ⟨_, rfl, .same rfl (old_gobj _ _)⟩ | exact .inr ⟨_, rfl, .same (gobj_snoc _ _ _) (old_gobj _ _)⟩ | exact .inr ⟨_, rfl, .same rfl (by repeat' (first | exact trivial | exact .val _ | exact .ptr (Nat.le_of_ble_eq_true rfl) | exact .map (Nat.le_of_ble_eq_true rfl) | exact (by first | exact old_bkts _ _ _ | exact old_ints _ _ _) | refine old_box ?_ | refine ⟨?_, ?_⟩))⟩ | exact .inr ⟨_, rfl, .box (by repeat' (first | exact trivial | exact .same rfl (by first | exact .val _ | exact .ptr (Nat.le_of_ble_eq_true rfl) | exact .map (Nat.le_of_ble_eq_true rfl) | exact (by first | exact old_bkts _ _ _ | exact old_ints _ _ _)) | exact .ptr rfl | exact .map rfl | exact .vec rfl | exact RenV.grow (f := icv) (fun _ => ⟨.val _, trivial⟩) rfl | refine ⟨?_, ?_⟩))⟩ | refine ⟨?_, ?_⟩))⟩ ?_
    intro acc ⟨hi, hacc⟩
    refine cw_seq ?_
    refine cw_region ?_
    refine co_y rfl rfl (y_int rfl trivial trivial rfl rfl rfl) ?_
    refine co_nil ?_
    refine cw_seq ?_
    refine cw_cond trivial rfl (fun h2 => ?_) (fun h2 => ?_)
    · have hlt : (acc.length : Int) < h.bs.length := by simpa using h2
      obtain ⟨b, hb⟩ : ∃ b, h.bs[acc.length]? = some b := ⟨h.bs[acc.length]'(by omega), by simp⟩
      refine cw_skip ?_
      refine cw_seq ?_
      refine cw_block ?_
      refine cw_seq ?_
      refine cw_region ?_
      refine co_y rfl rfl (y_index rfl trivial trivial rfl rfl Tryd.runUnderlying24 Tryd.sizeOf39 (by omega) (rows_get hb) rfl) ?_
      refine co_y rfl rfl (y_load_c rfl trivial rfl Tryd.isAgg39 Tryd.sizeOf39 (Nat.le_of_ble_eq_true rfl)) ?_
      refine co_d rfl rfl (d_alloc rfl Tryd.zeroValue39 rfl (.inr ⟨_, rfl⟩) ?_)
      refine co_d rfl rfl (d_store rfl trivial trivial rfl (by conv => lhs; whnf) Tryd.sizeOf39 (.inr ⟨_, rfl⟩) rfl rfl (Nat.le_of_ble_eq_true rfl) ?_)
      refine co_nil ?_
      refine cw_region ?_
      refine co_y rfl rfl (y_move rfl trivial (by conv => lhs; whnf)) ?_
      refine co_y rfl rfl (y_field rfl trivial rfl Tryd.runUnderlying39 rfl Tryd.sizeOf3 (by decide)) ?_
      refine co_y rfl rfl (y_load1 rfl trivial rfl Tryd.isAgg3 rfl rfl) ?_
      refine co_y rfl rfl (y_lit [icv b.count] rfl ⟨trivial, trivial⟩ Tryd.runUnderlying34 Tryd.sizeOf3 Tryd.zeroValue3 rfl rfl rfl rfl rfl rfl rfl rfl rfl) ?_
      refine co_d rfl rfl (d_appu rfl trivial trivial rfl (by simp) (src_list rfl (by first | exact rows_len (by intro a; rfl) _ | (intro r hr; simp at hr; subst hr; rfl) | (intro r hr; exact rows_len (by intro a; rfl) _ r (List.mem_of_mem_take (List.mem_of_mem_drop hr))) | (intro r hr; simp at hr; obtain ⟨a, _, rfl⟩ := hr; rfl))) Tryd.runUnderlying34 Tryd.sizeOf3 Tryd.typeInfo3 Tryd.zeroValue3 rfl (.inr rfl) (by first | exact rows_len (by intro a; rfl) _ | assumption | (intro r hr; simp at hr; obtain ⟨a, _, rfl⟩ := hr; rfl)) (by have hb : Tryd.t3.bytes = 8 := rfl; rw [hb]; first | omega | (simp; omega)) (by first | omega | (simp; omega) | simp) ((acc ++ [b.count]).map icv) (acc ++ [b.count]).length (by simp) (by simp) ?_)
      refine co_y rfl rfl (y_assign rfl trivial (by conv => lhs; whnf)) ?_
      refine co_nil ?_
      refine cw_region ?_
      refine co_y rfl rfl (y_add rfl trivial rfl rfl rfl (by omega) (by omega)) ?_
      refine co_y rfl rfl (y_move rfl trivial (by conv => lhs; whnf)) ?_
      refine co_nil ?_
      exact ⟨(acc ++ [b.count]), [0, 3], ⟨by simp; omega, by simp; omega, cnt_snoc hacc hb⟩, ⟨rfl, rfl⟩, ⟨⟨trivial, (by first | exact .ptr rfl | exact .map rfl | exact .vec rfl | exact .same rfl (by first | exact .val _ | exact .ptr (Nat.le_of_ble_eq_true rfl) | exact .map (Nat.le_of_ble_eq_true rfl) | exact (by first | exact old_bkts _ _ _ | exact old_ints _ _ _)) | exact RenV.grow (f := icv) (fun _ => ⟨.val _, trivial⟩) rfl)⟩, ⟨trivial, (by first | exact .ptr rfl | exact .map rfl | exact .vec rfl | exact .same rfl (by first | exact .val _ | exact .ptr (Nat.le_of_ble_eq_true rfl) | exact .map (Nat.le_of_ble_eq_true rfl) | exact (by first | exact old_bkts _ _ _ | exact old_ints _ _ _)) | exact RenV.grow (f := icv) (fun _ => ⟨.val _, trivial⟩) rfl)⟩, ⟨trivial, (by first | exact .ptr rfl | exact .map rfl | exact .vec rfl | exact .same rfl (by first | exact .val _ | exact .ptr (Nat.le_of_ble_eq_true rfl) | exact .map (Nat.le_of_ble_eq_true rfl) | exact (by first | exact old_bkts _ _ _ | exact old_ints _ _ _)) | exact RenV.grow (f := icv) (fun _ => ⟨.val _, trivial⟩) rfl)⟩, ⟨trivial, (by first | exact .ptr rfl | exact .map rfl | exact .vec rfl | exact .same (congrArg (fun x => CV.val (.int .i64 x)) (by simp : (acc.length : Int) + 1 = ((acc ++ [b.count]).length : Int))) (by first | exact .val _ | exact .ptr (Nat.le_of_ble_eq_true rfl) | exact .map (Nat.le_of_ble_eq_true rfl) | exact (by first | exact old_bkts _ _ _ | exact old_ints _ _ _)) | exact RenV.grow (f := icv) (fun _ => ⟨.val _, trivial⟩) rfl)⟩, trivial⟩, (by repeat' (first | exact trivial | exact .inl rfl | exact .inr ⟨_, rfl, .same rfl (old_gobj _ _)⟩ | exact .inr ⟨_, rfl, .same (gobj_snoc _ _ _) (old_gobj _ _)⟩ | exact .inr ⟨_, rfl, .same rfl (by repeat' (first | exact trivial | exact .val _ | exact .ptr (Nat.le_of_ble_eq_true rfl) | exact .map (Nat.le_of_ble_eq_true rfl) | exact (by first | exact old_bkts _ _ _ | exact old_ints _ _ _) | refine old_box ?_ | refine ⟨?_, ?_⟩))⟩ | exact .inr ⟨_, rfl, .box (by repeat' (first | exact trivial | exact .same rfl (by first | exact .val _ | exact .ptr (Nat.le_of_ble_eq_true rfl) | exact .map (Nat.le_of_ble_eq_true rfl) | exact (by first | exact old_bkts _ _ _ | exact old_ints _ _ _)) | exact .ptr rfl | exact .map rfl | exact .vec rfl | exact RenV.grow (f := icv) (fun _ => ⟨.val _, trivial⟩) rfl | refine ⟨?_, ?_⟩))⟩ | refine ⟨?_, ?_⟩))⟩
    · have hge : ¬ (acc.length : Int) < h.bs.length := by simpa using h2
      have hal : acc.length = h.bs.length := by omega
      rw [hal, List.take_length] at hacc
      refine cw_exit ?_
      refine cw_seq ?_
      refine cw_region ?_
      refine co_y rfl rfl (y_move rfl trivial (by conv => lhs; whnf)) ?_
      refine co_y rfl rfl (y_assign rfl trivial (by conv => lhs; whnf)) ?_
      refine co_nil ?_
      refine cw_ret ?_
      exact ⟨_, res1 rfl trivial (by conv => lhs; whnf), _, _, rfl, rfl, (by rw [sizS, if_pos hc, ← hacc]; exact .tok (fun r hr c hc => (rows_pure (f := icv) (fun _ => Pures.all ⟨.val _, trivial⟩) _) r hr c hc))⟩

theorem hi_Sizes_s (h : Hist) (hf : Fits h) (σ : List CObj) : CCalls CC 23 [.agg h.cells] σ fun r σ' => r = .ret (.list ((sizS (pb (ChkP h)) h).map icv) (gnn (sizS (pb (ChkP h)) h).length) none) ∧ σ' = σ :=
  CCalls.anyw hCC (by repeat' (first | exact .val _ | exact pure_bkts _ _ | exact pure_ints _ _ | exact trivial | refine pure_agg ?_ | refine pure_tup ?_ | refine ⟨?_, ?_⟩)) (by repeat' (first | exact .val _ | exact pure_bkts _ _ | exact pure_ints _ _ | exact trivial | refine pure_agg ?_ | refine pure_tup ?_ | refine ⟨?_, ?_⟩)) (hi_Sizes h hf) σ

set_option maxRecDepth 10000 in
theorem re_Sizes (h : Hist) (hf : Fits h) : CCalls CC 24 [.agg h.cells] [] fun r σ' => r = .ret (.list ((sizS (pb (RChkP h)) h).map icv) (gnn (sizS (pb (RChkP h)) h).length) none) ∧ σ' = [] := by
  refine ccalls_val (ccalls_of Tryd.func24 rfl rfl ?_)
  refine cw_seq ?_
  refine cw_region ?_
  refine co_d rfl rfl (d_box rfl trivial (by conv => lhs; whnf) (.inr ⟨_, rfl⟩) ?_)
  refine co_y rfl rfl (y_assign rfl rfl (by conv => lhs; whnf)) ?_
  refine co_nil ?_
  refine cw_seq ?_
  refine cw_region ?_
  refine co_y rfl rfl (y_assign rfl rfl (by conv => lhs; whnf)) ?_
  refine co_nil ?_
  refine cw_seq ?_
  refine cw_seq ?_
  refine cw_region ?_
  refine co_y rfl rfl (y_load rfl trivial rfl Tryd.isAgg26 Tryd.sizeOf26 rfl (Nat.le_of_ble_eq_true rfl)) ?_
  refine co_y rfl rfl (y_callf rfl Tryd.call19 ⟨trivial, trivial⟩ (re_Check_s h hf _) rfl) ?_
  refine co_y rfl rfl (y_not rfl trivial rfl) ?_
  refine co_nil ?_
  refine cw_cond trivial rfl (fun h1 => ?_) (fun h1 => ?_)
  · have hc : pb (RChkP h) = false := by simpa using h1
    refine cw_seq ?_
    refine cw_region ?_
    refine co_y rfl rfl (y_assign rfl rfl (by conv => lhs; whnf)) ?_
    refine co_nil ?_
    refine cw_ret ?_
    exact ⟨_, res1 rfl trivial (by conv => lhs; whnf), _, _, rfl, rfl, (cls_eq (by rw [sizS, if_neg (by rw [hc]; decide)]; rfl) (by repeat' (first | exact .val _ | exact pure_bkts _ _ | exact pure_ints _ _ | exact trivial | refine pure_agg ?_ | refine pure_tup ?_ | refine ⟨?_, ?_⟩)))⟩
  · have hc : pb (RChkP h) = true := by simpa using h1
    have hlen := hf.len
    refine cw_skip ?_
    refine cw_seq ?_
    refine cw_seq ?_
    refine cw_region ?_
    refine co_y rfl rfl (y_assign rfl rfl (by conv => lhs; whnf)) ?_
    refine co_nil ?_
    refine cw_block ?_
    refine cw_loopr hCC 1 rfl (α := List Int) (fun acc => [(1, .ptr 0 0), (3, (.list (acc.map icv) (gnn acc.length) (gtok acc.length 1))), (4, (.val (.int .i64 ((acc.length : Int)))))]) (fun acc => [.box h.cells, gobj acc.length]) (fun acc => acc.length ≤ h.bs.length ∧ acc = (h.bs.take acc.length).map (·.count)) (fun acc => h.bs.length - acc.length) ⟨[], [0, 7], ⟨Nat.zero_le _, rfl⟩, ⟨rfl, rfl⟩, ⟨⟨trivial, (by first | exact .ptr rfl | exact .map rfl | exact .vec rfl | exact .same rfl (by first | exact .val _ | exact .ptr (Nat.le_of_ble_eq_true rfl) | exact .map (Nat.le_of_ble_eq_true rfl) | exact (by first | exact old_bkts _ _ _ | exact old_ints _ _ _)) | exact RenV.grow (f := icv) (fun _ => ⟨.val _, trivial⟩) rfl)⟩, ⟨trivial, (by first | exact .ptr rfl | exact .map rfl | exact .vec rfl | exact .same rfl (by first | exact .val _ | exact .ptr (Nat.le_of_ble_eq_true rfl) | exact .map (Nat.le_of_ble_eq_true rfl) | exact (by first | exact old_bkts _ _ _ | exact old_ints _ _ _)) | exact RenV.grow (f := icv) (fun _ => ⟨.val _, trivial⟩) rfl)⟩, ⟨trivial, (by first | exact .ptr rfl | exact .map rfl | exact .vec rfl | exact .same rfl (by first | exact .val _ | exact .ptr (Nat.le_of_ble_eq_true rfl) | exact .map (Nat.le_of_ble_eq_true rfl) | exact (by first | exact old_bkts _ _ _ | exact old_ints _ _ _)) | exact RenV.grow (f := icv) (fun _ => ⟨.val _, trivial⟩) rfl)⟩, trivial⟩, (by repeat' (first | exact trivial | exact .inl rfl | exact .inr ⟨_, rfl, .same rfl (old_gobj _ _)⟩ | exact .inr ⟨_, rfl, .same (gobj_snoc _ _ _) (old_gobj _ _)⟩ | exact .inr ⟨_, rfl, .same rfl (by repeat' (first | exact trivial | exact .val _ | exact .ptr (Nat.le_of_ble_eq_true rfl) | exact .map (Nat.le_of_ble_eq_true rfl) | exact (by first | exact old_bkts _ _ _ | exact old_ints _ _ _) | refine old_box ?_ | refine ⟨?_, ?_⟩))⟩ | exact .inr ⟨_, rfl, .box (by repeat' (first | exact trivial | exact .same rfl (by first | exact .val _ | exact .ptr (Nat.le_of_ble_eq_true rfl) | exact .map (Nat.le_of_ble_eq_true rfl) | exact (by first | exact old_bkts _ _ _ | exact old_ints _ _ _)) | exact .ptr rfl | exact .map rfl | exact .vec rfl | exact RenV.grow (f := icv) (fun _ => ⟨.val _, trivial⟩) rfl | refine ⟨?_, ?_⟩))⟩ | refine ⟨?_, ?_⟩))⟩ ?_
    intro acc ⟨hi, hacc⟩
    refine cw_seq ?_
    refine cw_seq ?_
    refine cw_region ?_
    refine co_y rfl rfl (y_move rfl trivial (by conv => lhs; whnf)) ?_
    refine co_y rfl rfl (y_field rfl trivial rfl Tryd.runUnderlying26 rfl Tryd.sizeOf24 (by decide)) ?_
    refine co_y rfl rfl (y_load1 rfl trivial rfl Tryd.isAgg24 rfl rfl) ?_
    refine co_y rfl rfl (y_len rfl trivial rfl Tryd.runUnderlying24 (by first | exact len_map _ _ | rfl) rfl) ?_
    refine co_y rfl rfl (y_int rfl trivial trivial rfl rfl rfl) ?_
    refine co_nil ?_
    refine cw_cond trivial rfl (fun h2 => ?_) (fun h2 => ?_)
    · have hlt : (acc.length : Int) < h.bs.length := by simpa using h2
      obtain ⟨b, hb⟩ : ∃ b, h.bs[acc.length]? = some b := ⟨h.bs[acc.length]'(by omega), by simp⟩
      refine cw_skip ?_
      refine cw_seq ?_
      refine cw_block ?_
      refine cw_region ?_
      refine co_y rfl rfl (y_move rfl trivial (by conv => lhs; whnf)) ?_
      refine co_y rfl rfl (y_field rfl trivial rfl Tryd.runUnderlying26 rfl Tryd.sizeOf24 (by decide)) ?_
      refine co_y rfl rfl (y_load1 rfl trivial rfl Tryd.isAgg24 rfl rfl) ?_
      refine co_y rfl rfl (y_move rfl trivial (by conv => lhs; whnf)) ?_
      refine co_y rfl rfl (y_index rfl trivial trivial rfl rfl Tryd.runUnderlying24 Tryd.sizeOf39 (by omega) (rows_get hb) rfl) ?_
      refine co_y rfl rfl (y_field_c rfl trivial rfl Tryd.runUnderlying39 rfl Tryd.sizeOf3 (by decide)) ?_
      refine co_y rfl rfl (y_load_c1 rfl trivial rfl Tryd.isAgg3 rfl) ?_
      refine co_y rfl rfl (y_lit [icv b.count] rfl ⟨trivial, trivial⟩ Tryd.runUnderlying34 Tryd.sizeOf3 Tryd.zeroValue3 rfl rfl rfl rfl rfl rfl rfl rfl rfl) ?_
      refine co_d rfl rfl (d_appu rfl trivial trivial rfl (by simp) (src_list rfl (by first | exact rows_len (by intro a; rfl) _ | (intro r hr; simp at hr; subst hr; rfl) | (intro r hr; exact rows_len (by intro a; rfl) _ r (List.mem_of_mem_take (List.mem_of_mem_drop hr))) | (intro r hr; simp at hr; obtain ⟨a, _, rfl⟩ := hr; rfl))) Tryd.runUnderlying34 Tryd.sizeOf3 Tryd.typeInfo3 Tryd.zeroValue3 rfl (.inr rfl) (by first | exact rows_len (by intro a; rfl) _ | assumption | (intro r hr; simp at hr; obtain ⟨a, _, rfl⟩ := hr; rfl)) (by have hb : Tryd.t3.bytes = 8 := rfl; rw [hb]; first | omega | (simp; omega)) (by first | omega | (simp; omega) | simp) ((acc ++ [b.count]).map icv) (acc ++ [b.count]).length (by simp) (by simp) ?_)
      refine co_y rfl rfl (y_assign rfl trivial (by conv => lhs; whnf)) ?_
      refine co_nil ?_
      refine cw_region ?_
      refine co_y rfl rfl (y_move rfl trivial (by conv => lhs; whnf)) ?_
      refine co_y rfl rfl (y_add rfl trivial rfl rfl rfl (by omega) (by omega)) ?_
      refine co_y rfl rfl (y_assign rfl trivial (by conv => lhs; whnf)) ?_
      refine co_nil ?_
      exact ⟨(acc ++ [b.count]), [0, 2], ⟨by simp; omega, by simp; omega, cnt_snoc hacc hb⟩, ⟨rfl, rfl⟩, ⟨⟨trivial, (by first | exact .ptr rfl | exact .map rfl | exact .vec rfl | exact .same rfl (by first | exact .val _ | exact .ptr (Nat.le_of_ble_eq_true rfl) | exact .map (Nat.le_of_ble_eq_true rfl) | exact (by first | exact old_bkts _ _ _ | exact old_ints _ _ _)) | exact RenV.grow (f := icv) (fun _ => ⟨.val _, trivial⟩) rfl)⟩, ⟨trivial, (by first | exact .ptr rfl | exact .map rfl | exact .vec rfl | exact .same rfl (by first | exact .val _ | exact .ptr (Nat.le_of_ble_eq_true rfl) | exact .map (Nat.le_of_ble_eq_true rfl) | exact (by first | exact old_bkts _ _ _ | exact old_ints _ _ _)) | exact RenV.grow (f := icv) (fun _ => ⟨.val _, trivial⟩) rfl)⟩, ⟨trivial, (by first | exact .ptr rfl | exact .map rfl | exact .vec rfl | exact .same (congrArg (fun x => CV.val (.int .i64 x)) (by simp : (acc.length : Int) + 1 = ((acc ++ [b.count]).length : Int))) (by first | exact .val _ | exact .ptr (Nat.le_of_ble_eq_true rfl) | exact .map (Nat.le_of_ble_eq_true rfl) | exact (by first | exact old_bkts _ _ _ | exact old_ints _ _ _)) | exact RenV.grow (f := icv) (fun _ => ⟨.val _, trivial⟩) rfl)⟩, trivial⟩, (by repeat' (first | exact trivial | exact .inl rfl | exact .inr ⟨_, rfl, .same rfl (old_gobj _ _)⟩ | exact .inr ⟨_, rfl, .same (gobj_snoc _ _ _) (old_gobj _ _)⟩ | exact .inr ⟨_, rfl, .same rfl (by repeat' (first | exact trivial | exact .val _ | exact .ptr (Nat.le_of_ble_eq_true rfl) | exact .map (Nat.le_of_ble_eq_true rfl) | exact (by first | exact old_bkts _ _ _ | exact old_ints _ _ _) | refine old_box ?_ | refine ⟨?_, ?_⟩))⟩ | exact .inr ⟨_, rfl, .box (by repeat' (first | exact trivial | exact .same rfl (by first | exact .val _ | exact .ptr (Nat.le_of_ble_eq_true rfl) | exact .map (Nat.le_of_ble_eq_true rfl) | exact (by first | exact old_bkts _ _ _ | exact old_ints _ _ _)) | exact .ptr rfl | exact .map rfl | exact .vec rfl | exact RenV.grow (f := icv) (fun _ => ⟨.val _, trivial⟩) rfl | refine ⟨?_, ?_⟩))⟩ | refine ⟨?_, ?_⟩))⟩
    · have hge : ¬ (acc.length : Int) < h.bs.length := by simpa using h2
      have hal : acc.length = h.bs.length := by omega
      rw [hal, List.take_length] at hacc
      refine cw_exit ?_
      refine cw_seq ?_
      refine cw_region ?_
      refine co_y rfl rfl (y_move rfl trivial (by conv => lhs; whnf)) ?_
      refine co_y rfl rfl (y_assign rfl trivial (by conv => lhs; whnf)) ?_
      refine co_nil ?_
      refine cw_ret ?_
      exact ⟨_, res1 rfl trivial (by conv => lhs; whnf), _, _, rfl, rfl, (by rw [sizS, if_pos hc, ← hacc]; exact .tok (fun r hr c hc => (rows_pure (f := icv) (fun _ => Pures.all ⟨.val _, trivial⟩) _) r hr c hc))⟩

theorem re_Sizes_s (h : Hist) (hf : Fits h) (σ : List CObj) : CCalls CC 24 [.agg h.cells] σ fun r σ' => r = .ret (.list ((sizS (pb (RChkP h)) h).map icv) (gnn (sizS (pb (RChkP h)) h).length) none) ∧ σ' = σ :=
  CCalls.anyw hCC (by repeat' (first | exact .val _ | exact pure_bkts _ _ | exact pure_ints _ _ | exact trivial | refine pure_agg ?_ | refine pure_tup ?_ | refine ⟨?_, ?_⟩)) (by repeat' (first | exact .val _ | exact pure_bkts _ _ | exact pure_ints _ _ | exact trivial | refine pure_agg ?_ | refine pure_tup ?_ | refine ⟨?_, ?_⟩)) (re_Sizes h hf) σ

end Go.Proofs.YtkhebelajdcjgaaDoor
