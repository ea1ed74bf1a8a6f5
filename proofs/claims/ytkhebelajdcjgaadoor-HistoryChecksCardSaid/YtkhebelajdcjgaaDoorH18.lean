import Derived.Test.YtkhebelajdcjgaaDoorK26
import Derived.Test.YtkhebelajdcjgaaDoorH17
namespace Go.Proofs.YtkhebelajdcjgaaDoor
open Go Go.Cl

theorem cq_div {a b : Int} (hb : 1 < b) (h1 : -9223372036854775808 ≤ a) (h2 : a ≤ 9223372036854775807) : cint .quo .i64 a b = some (.int .i64 (a.tdiv b)) := by
  have hr : -9223372036854775808 ≤ a.tdiv b ∧ a.tdiv b ≤ 9223372036854775807 := by
    rcases Int.le_total 0 a with h | h
    · rw [Int.tdiv_eq_ediv_of_nonneg h]
      have := Int.ediv_nonneg h (show 0 ≤ b by omega)
      have := Int.ediv_le_self b h
      omega
    · have e : a.tdiv b = -((-a).tdiv b) := by rw [Int.neg_tdiv]; omega
      rw [e, Int.tdiv_eq_ediv_of_nonneg (show 0 ≤ -a by omega)]
      have := Int.ediv_nonneg (show 0 ≤ -a by omega) (show 0 ≤ b by omega)
      have := Int.ediv_le_self b (show 0 ≤ -a by omega)
      omega
  simp only [cint, if_neg (show ¬ b = 0 by omega)]
  rw [wr64 (by omega) (by omega)]
theorem fold_lt {v n : Int} (hn : 1 ≤ n) : 0 ≤ fold v n ∧ fold v n < n := by
  unfold fold
  split
  · omega
  · exact ⟨Int.emod_nonneg _ (by omega), Int.emod_lt_of_pos _ (by omega)⟩
theorem addS_err (c : Bool) (h : Hist) (rev : Int) (failed n1 n2 : Bool) : (addS c h rev failed n1).2 = (addS c h rev failed n2).2 := by
  unfold addS
  split
  · rfl
  · split
    · rfl
    · split
      · rfl
      · split <;> rfl
theorem fits_set {h : Hist} (hf : Fits h) {i : Nat} {b : Bkt} (hb : -9223372036854775808 ≤ b.count ∧ b.count ≤ 9223372036854775807) : Fits { h with bs := h.bs.set i b, nn := true } := by
  refine ⟨by simpa using hf.len, fun c hc => ?_⟩
  rcases List.mem_or_eq_of_mem_set hc with hc | rfl
  · exact hf.cnt c hc
  · exact hb
theorem fits_bs {h a : Hist} (hf : Fits h) (hs : a.bs.Sublist h.bs) : Fits a := ⟨Nat.le_trans hs.length_le hf.len, fun b hb => hf.cnt b (hs.subset hb)⟩
theorem old_hists (n : Nat) (l : List Hist) : Old n (.list (l.map Hist.cells) true none) := (pure_rows (f := Hist.cells) (fun _ => ⟨.val _, .val _, .val _, .val _, .val _, .val _, .val _, pure_bkts _ _, trivial⟩) l true).old

set_option maxRecDepth 10000 in
theorem la_HistoryChecks (l : List Int) (nn : Bool) (hl : l.length ≤ maxLen) (raw : Hist) (hr : ∀ b ∈ raw.bs, -9223372036854775808 ≤ b.count ∧ b.count ≤ 9223372036854775807) (at_ by_ : Int) (hat : -9223372036854775808 ≤ at_ ∧ at_ ≤ 9223372036854775807) : CCalls CC 4 [.list (l.map icv) nn none, .agg raw.cells, (.val (.int .i64 (at_))), (.val (.int .i64 (by_)))] [] fun r σ' => r = .ret (.val (.bool (true))) ∧ σ' = [] := by
  refine ccalls_val (ccalls_of Tryd.func4 rfl rfl ?_)
  refine cw_seq ?_
  refine cw_region ?_
  refine co_d rfl rfl (d_box rfl trivial (by conv => lhs; whnf) (.inr ⟨_, rfl⟩) ?_)
  refine co_y rfl rfl (y_assign rfl rfl (by conv => lhs; whnf)) ?_
  refine co_nil ?_
  refine cw_seq ?_
  refine cw_region ?_
  refine co_y rfl rfl (y_move rfl trivial (by conv => lhs; whnf)) ?_
  refine co_y rfl rfl (y_callf rfl Tryd.call17 ⟨trivial, rfl, trivial⟩ (la_made_s l nn hl 40 (by omega) _) rfl) ?_
  refine co_y rfl rfl (y_move rfl trivial (by conv => lhs; whnf)) ?_
  refine co_y rfl rfl (y_extract rfl trivial rfl rfl) ?_
  refine co_y rfl rfl (y_extract rfl trivial rfl rfl) ?_
  refine co_y rfl rfl (y_extract rfl trivial rfl rfl) ?_
  refine co_y rfl rfl (y_extract rfl trivial rfl rfl) ?_
  refine co_d rfl rfl (d_alloc rfl Tryd.zeroValue26 rfl (.inr ⟨_, rfl⟩) ?_)
  refine co_d rfl rfl (d_alloc rfl Tryd.zeroValue26 rfl (.inr ⟨_, rfl⟩) ?_)
  refine co_d rfl rfl (d_store rfl trivial trivial rfl (by conv => lhs; whnf) Tryd.sizeOf26 (.inr ⟨_, rfl⟩) rfl rfl (Nat.le_of_ble_eq_true rfl) ?_)
  refine co_d rfl rfl (d_store rfl trivial trivial rfl (by conv => lhs; whnf) Tryd.sizeOf26 (.inr ⟨_, rfl⟩) rfl rfl (Nat.le_of_ble_eq_true rfl) ?_)
  refine co_y rfl rfl (y_assign rfl trivial (by conv => lhs; whnf)) ?_
  refine co_y rfl rfl (y_assign rfl trivial (by conv => lhs; whnf)) ?_
  refine co_nil ?_
  refine cw_seq ?_
  refine cw_seq ?_
  refine cw_region ?_
  refine co_y rfl rfl (y_move rfl trivial (by conv => lhs; whnf)) ?_
  refine co_y rfl rfl (y_not rfl trivial rfl) ?_
  refine co_y rfl rfl (y_move rfl trivial (by conv => lhs; whnf)) ?_
  refine co_g rfl rfl trivial rfl rfl (fun hg => y_field rfl trivial rfl Tryd.runUnderlying26 rfl Tryd.sizeOf24 (by decide)) ?_
  refine co_g rfl rfl trivial rfl rfl (fun hg => y_load1 rfl hg rfl Tryd.isAgg24 rfl rfl) ?_
  refine co_g rfl rfl trivial rfl rfl (fun hg => y_len rfl hg rfl Tryd.runUnderlying24 (by first | exact len_map _ _ | rfl) rfl) ?_
  refine co_g rfl rfl trivial rfl rfl (fun hg => y_int rfl hg rfl rfl rfl rfl) ?_
  refine co_y rfl rfl (y_pick_or rfl trivial rfl (fun hp => hp) (fun _ => rfl)) ?_
  refine co_nil ?_
  refine cw_cond trivial rfl (fun h1 => ?_) (fun h1 => ?_)
  · skip
    refine cw_seq ?_
    refine cw_region ?_
    refine co_y rfl rfl (y_move rfl trivial (by conv => lhs; whnf)) ?_
    refine co_y rfl rfl (y_move rfl trivial (by conv => lhs; whnf)) ?_
    refine co_g rfl rfl trivial rfl rfl (fun hg => y_callf rfl Tryd.call16 trivial (la_known_s _) rfl) ?_
    refine co_y rfl rfl (y_pick_and rfl trivial rfl (fun hp => hp) (fun _ => rfl)) ?_
    refine co_y rfl rfl (y_assign rfl trivial (by conv => lhs; whnf)) ?_
    refine co_nil ?_
    refine cw_ret ?_
    exact ⟨_, res1 rfl trivial (by conv => lhs; whnf), _, _, rfl, rfl, cls_bool (rfl : (true && true) = true)⟩
  · have hF := made_MF l (most := 40) (by omega)
    have hlr : raw.bs.length ≤ 100 := by simp at h1; omega
    have hrf : Fits raw := ⟨by omega, hr⟩
    have hwc : ChkP (madeS l 40).w := by rw [hF.same]; exact chk_nn hF.chk _
    have hwf := chk_fits hwc
    have hwl := hwf.len
    have hkk := hwc.k
    have hff := hwc.fail
    have hla := hwc.last
    refine cw_skip ?_
    refine cw_cutc hCC (α := Hist) (fun _ => [(5, .ptr 0 0), (10, .ptr 2 0)]) (fun a => [.box raw.cells, .box (madeS l 40).h.cells, .box a.cells]) (fun a => Fits a) (fun _ _ => Nat.le_of_ble_eq_true rfl) ?_ ?_
    · -- up to the cut
      refine cw_seq ?_
      refine cw_region ?_
      refine co_y rfl rfl (y_field rfl trivial rfl Tryd.runUnderlying26 rfl Tryd.sizeOf24 (by decide)) ?_
      refine co_y rfl rfl (y_load1 rfl trivial rfl Tryd.isAgg24 rfl rfl) ?_
      refine co_y rfl rfl (y_len rfl trivial rfl Tryd.runUnderlying24 (by first | exact len_map _ _ | rfl) rfl) ?_
      refine co_y rfl rfl (y_int rfl trivial rfl rfl rfl rfl) ?_
      refine co_nil ?_
      refine cw_cond trivial rfl (fun h2 => ?_) (fun h2 => ?_)
      · have hl0 : 0 < ((madeS l 40).w.bs.length : Int) := by simpa using h2
        obtain ⟨hx0, hx1⟩ := fold_lt (v := at_) (n := ((madeS l 40).w.bs.length : Int)) (by omega)
        obtain ⟨hby0, hby1⟩ := fold_bound (v := by_) (n := 5) (by omega)
        obtain ⟨b, hb⟩ : ∃ b, (madeS l 40).w.bs[(fold at_ ((madeS l 40).w.bs.length : Int)).toNat]? = some b := ⟨(madeS l 40).w.bs[(fold at_ ((madeS l 40).w.bs.length : Int)).toNat]'(by omega), by simp⟩
        have hbm := List.mem_of_getElem? hb
        obtain ⟨o1, o2, o3, o4⟩ := (ord_all hwc.ord).1 b hbm
        obtain ⟨c1, c2⟩ := chk_pos hwc b hbm
        refine cw_seq ?_
        refine cw_region ?_
        refine co_y rfl rfl (y_field rfl trivial rfl Tryd.runUnderlying26 rfl Tryd.sizeOf24 (by decide)) ?_
        refine co_y rfl rfl (y_load1 rfl trivial rfl Tryd.isAgg24 rfl rfl) ?_
        refine co_d rfl rfl (d_app0v (madeS l 40).w.bs.length rfl rfl trivial rfl (src_list rfl (by first | exact rows_len (by intro a; rfl) _ | (intro r hr; simp at hr; subst hr; rfl) | (intro r hr; exact rows_len (by intro a; rfl) _ r (List.mem_of_mem_take (List.mem_of_mem_drop hr))) | (intro r hr; simp at hr; obtain ⟨a, _, rfl⟩ := hr; rfl))) Tryd.runUnderlying24 Tryd.sizeOf39 Tryd.typeInfo39 Tryd.zeroValue39 rfl (by simp; omega) (by have hb : Tryd.t39.bytes = 24 := rfl; rw [hb]; first | omega | (simp; omega)) (by first | omega | (simp; omega) | simp) (by simp) ?_)
        refine co_y rfl rfl (y_field rfl trivial rfl Tryd.runUnderlying26 rfl Tryd.sizeOf24 (by decide)) ?_
        refine co_d rfl rfl (d_store rfl trivial trivial rfl (by conv => lhs; whnf) Tryd.sizeOf24 (.inl rfl) rfl rfl (Nat.le_of_ble_eq_true rfl) ?_)
        refine co_nil ?_
        refine cw_seq ?_
        refine cw_region ?_
        refine co_y rfl rfl (y_move rfl trivial (by conv => lhs; whnf)) ?_
        refine co_y rfl rfl (y_field rfl trivial rfl Tryd.runUnderlying26 rfl Tryd.sizeOf24 (by decide)) ?_
        refine co_y rfl rfl (y_load1 rfl trivial rfl Tryd.isAgg24 rfl rfl) ?_
        refine co_y rfl rfl (y_len_vec rfl trivial rfl Tryd.runUnderlying24 rfl rfl) ?_
        refine co_y rfl rfl (y_callf rfl Tryd.call18 ⟨trivial, trivial, trivial⟩ (mk_Fold_s at_ ((madeS l 40).w.bs.length : Int) (by omega) _) rfl) ?_
        refine co_y rfl rfl (y_assign rfl trivial (by conv => lhs; whnf)) ?_
        refine co_nil ?_
        refine cw_seq ?_
        refine cw_region ?_
        refine co_y rfl rfl (y_move rfl trivial (by conv => lhs; whnf)) ?_
        refine co_y rfl rfl (y_callf rfl Tryd.call18 ⟨trivial, rfl, trivial⟩ (mk_Fold_s by_ 5 (by omega) _) rfl) ?_
        refine co_y rfl rfl (y_sub rfl trivial rfl rfl rfl (by omega) (by omega)) ?_
        refine co_y rfl rfl (y_assign rfl trivial (by conv => lhs; whnf)) ?_
        refine co_nil ?_
        refine cw_seq ?_
        refine cw_region ?_
        refine co_y rfl rfl (y_move rfl trivial (by conv => lhs; whnf)) ?_
        refine co_y rfl rfl (y_int rfl trivial rfl rfl rfl (cq_div (by omega) hat.1 hat.2)) ?_
        refine co_y rfl rfl (y_callf rfl Tryd.call18 ⟨trivial, rfl, trivial⟩ (mk_Fold_s (at_.tdiv 7) 6 (by omega) _) rfl) ?_
        refine co_nil ?_
        refine cw_block ?_
        refine cw_seq ?_
        refine cw_region ?_
        refine co_y rfl rfl (y_int rfl trivial rfl rfl rfl rfl) ?_
        refine co_y rfl rfl (y_assign rfl trivial (by conv => lhs; whnf)) ?_
        refine co_nil ?_
        refine cw_cond trivial rfl (fun h3 => ?_) (fun h3 => ?_)
        · skip
          refine cw_region ?_
          refine co_y rfl rfl (y_field rfl trivial rfl Tryd.runUnderlying26 rfl Tryd.sizeOf24 (by decide)) ?_
          refine co_y rfl rfl (y_load1 rfl trivial rfl Tryd.isAgg24 rfl rfl) ?_
          refine co_y rfl rfl (y_move rfl trivial (by conv => lhs; whnf)) ?_
          refine co_y rfl rfl (y_index_v rfl trivial trivial rfl rfl Tryd.runUnderlying24 Tryd.sizeOf39 rfl (by omega) (by omega)) ?_
          refine co_y rfl rfl (y_field_e rfl trivial rfl Tryd.runUnderlying39 rfl Tryd.sizeOf3 (by decide)) ?_
          refine co_y rfl rfl (y_load_e1 rfl trivial rfl Tryd.isAgg3 rfl (vget (rows_get hb) (by omega)) rfl) ?_
          refine co_y rfl rfl (y_move rfl trivial (by conv => lhs; whnf)) ?_
          refine co_y rfl rfl (y_add rfl trivial trivial rfl rfl (by omega) (by omega)) ?_
          refine co_y rfl rfl (y_index_v rfl trivial trivial rfl rfl Tryd.runUnderlying24 Tryd.sizeOf39 rfl (by omega) (by omega)) ?_
          refine co_y rfl rfl (y_field_e rfl trivial rfl Tryd.runUnderlying39 rfl Tryd.sizeOf3 (by decide)) ?_
          refine co_d rfl rfl (d_store_e' (((madeS l 40).w.bs.set (0 + (fold at_ ((madeS l 40).w.bs.length : Int)).toNat) { b with count := b.count + (fold by_ 5 - 2) }).map Bkt.cv) rfl trivial trivial rfl (by conv => lhs; whnf) Tryd.sizeOf3 (.inl rfl) rfl (vget (rows_get hb) (by omega)) rfl (Nat.le_of_ble_eq_true rfl) (by rw [List.map_set]; rfl) rfl ?_)
          refine co_nil ?_
          exact ⟨{ (madeS l 40).w with bs := (madeS l 40).w.bs.set (0 + (fold at_ ((madeS l 40).w.bs.length : Int)).toNat) { b with count := b.count + (fold by_ 5 - 2) }, nn := true }, (fits_set hwf (by show _ ≤ b.count + (fold by_ 5 - 2) ∧ b.count + (fold by_ 5 - 2) ≤ _; omega)), ⟨⟨trivial, (by first | exact .old (.val _) | exact .old (.ptr (Nat.le_of_ble_eq_true rfl)))⟩, ⟨trivial, (by first | exact .old (.val _) | exact .old (.ptr (Nat.le_of_ble_eq_true rfl)))⟩, trivial⟩, ⟨.same (by repeat' (first | exact .val _ | exact trivial | exact old_bkts _ _ _ | refine old_box ?_ | refine ⟨?_, ?_⟩)), .same (by repeat' (first | exact .val _ | exact trivial | exact old_bkts _ _ _ | refine old_box ?_ | refine ⟨?_, ?_⟩)), .box ⟨.old (.val _), .old (.val _), .old (.val _), .old (.val _), .old (.val _), .old (.val _), .old (.val _), .vecs (Nat.le_refl _) rfl (by simp) (by rw [List.drop_zero]; exact List.take_of_length_le (by simp)) (fun r hr c hc => (rows_pure (f := Bkt.cv) (fun _ => Pures.all ⟨.val _, .val _, .val _, trivial⟩) _) r hr c hc), trivial⟩, trivial⟩⟩
        · skip
          refine cw_seq ?_
          refine cw_region ?_
          refine co_y rfl rfl (y_int rfl trivial rfl rfl rfl rfl) ?_
          refine co_y rfl rfl (y_assign rfl trivial (by conv => lhs; whnf)) ?_
          refine co_nil ?_
          refine cw_cond trivial rfl (fun h4 => ?_) (fun h4 => ?_)
          · skip
            refine cw_region ?_
            refine co_y rfl rfl (y_field rfl trivial rfl Tryd.runUnderlying26 rfl Tryd.sizeOf24 (by decide)) ?_
            refine co_y rfl rfl (y_load1 rfl trivial rfl Tryd.isAgg24 rfl rfl) ?_
            refine co_y rfl rfl (y_move rfl trivial (by conv => lhs; whnf)) ?_
            refine co_y rfl rfl (y_index_v rfl trivial trivial rfl rfl Tryd.runUnderlying24 Tryd.sizeOf39 rfl (by omega) (by omega)) ?_
            refine co_y rfl rfl (y_field_e rfl trivial rfl Tryd.runUnderlying39 rfl Tryd.sizeOf3 (by decide)) ?_
            refine co_y rfl rfl (y_load_e1 rfl trivial rfl Tryd.isAgg3 rfl (vget (rows_get hb) (by omega)) rfl) ?_
            refine co_y rfl rfl (y_move rfl trivial (by conv => lhs; whnf)) ?_
            refine co_y rfl rfl (y_add rfl trivial trivial rfl rfl (by omega) (by omega)) ?_
            refine co_y rfl rfl (y_index_v rfl trivial trivial rfl rfl Tryd.runUnderlying24 Tryd.sizeOf39 rfl (by omega) (by omega)) ?_
            refine co_y rfl rfl (y_field_e rfl trivial rfl Tryd.runUnderlying39 rfl Tryd.sizeOf3 (by decide)) ?_
            refine co_d rfl rfl (d_store_e' (((madeS l 40).w.bs.set (0 + (fold at_ ((madeS l 40).w.bs.length : Int)).toNat) { b with first := b.first + (fold by_ 5 - 2) }).map Bkt.cv) rfl trivial trivial rfl (by conv => lhs; whnf) Tryd.sizeOf3 (.inl rfl) rfl (vget (rows_get hb) (by omega)) rfl (Nat.le_of_ble_eq_true rfl) (by rw [List.map_set]; rfl) rfl ?_)
            refine co_nil ?_
            exact ⟨{ (madeS l 40).w with bs := (madeS l 40).w.bs.set (0 + (fold at_ ((madeS l 40).w.bs.length : Int)).toNat) { b with first := b.first + (fold by_ 5 - 2) }, nn := true }, (fits_set hwf (by show _ ≤ b.count ∧ b.count ≤ _; omega)), ⟨⟨trivial, (by first | exact .old (.val _) | exact .old (.ptr (Nat.le_of_ble_eq_true rfl)))⟩, ⟨trivial, (by first | exact .old (.val _) | exact .old (.ptr (Nat.le_of_ble_eq_true rfl)))⟩, trivial⟩, ⟨.same (by repeat' (first | exact .val _ | exact trivial | exact old_bkts _ _ _ | refine old_box ?_ | refine ⟨?_, ?_⟩)), .same (by repeat' (first | exact .val _ | exact trivial | exact old_bkts _ _ _ | refine old_box ?_ | refine ⟨?_, ?_⟩)), .box ⟨.old (.val _), .old (.val _), .old (.val _), .old (.val _), .old (.val _), .old (.val _), .old (.val _), .vecs (Nat.le_refl _) rfl (by simp) (by rw [List.drop_zero]; exact List.take_of_length_le (by simp)) (fun r hr c hc => (rows_pure (f := Bkt.cv) (fun _ => Pures.all ⟨.val _, .val _, .val _, trivial⟩) _) r hr c hc), trivial⟩, trivial⟩⟩
          · skip
            refine cw_seq ?_
            refine cw_region ?_
            refine co_y rfl rfl (y_int rfl trivial rfl rfl rfl rfl) ?_
            refine co_y rfl rfl (y_assign rfl trivial (by conv => lhs; whnf)) ?_
            refine co_nil ?_
            refine cw_cond trivial rfl (fun h5 => ?_) (fun h5 => ?_)
            · skip
              refine cw_region ?_
              refine co_y rfl rfl (y_field rfl trivial rfl Tryd.runUnderlying26 rfl Tryd.sizeOf24 (by decide)) ?_
              refine co_y rfl rfl (y_load1 rfl trivial rfl Tryd.isAgg24 rfl rfl) ?_
              refine co_y rfl rfl (y_move rfl trivial (by conv => lhs; whnf)) ?_
              refine co_y rfl rfl (y_index_v rfl trivial trivial rfl rfl Tryd.runUnderlying24 Tryd.sizeOf39 rfl (by omega) (by omega)) ?_
              refine co_y rfl rfl (y_field_e rfl trivial rfl Tryd.runUnderlying39 rfl Tryd.sizeOf3 (by decide)) ?_
              refine co_y rfl rfl (y_load_e1 rfl trivial rfl Tryd.isAgg3 rfl (vget (rows_get hb) (by omega)) rfl) ?_
              refine co_y rfl rfl (y_move rfl trivial (by conv => lhs; whnf)) ?_
              refine co_y rfl rfl (y_add rfl trivial trivial rfl rfl (by omega) (by omega)) ?_
              refine co_y rfl rfl (y_index_v rfl trivial trivial rfl rfl Tryd.runUnderlying24 Tryd.sizeOf39 rfl (by omega) (by omega)) ?_
              refine co_y rfl rfl (y_field_e rfl trivial rfl Tryd.runUnderlying39 rfl Tryd.sizeOf3 (by decide)) ?_
              refine co_d rfl rfl (d_store_e' (((madeS l 40).w.bs.set (0 + (fold at_ ((madeS l 40).w.bs.length : Int)).toNat) { b with last := b.last + (fold by_ 5 - 2) }).map Bkt.cv) rfl trivial trivial rfl (by conv => lhs; whnf) Tryd.sizeOf3 (.inl rfl) rfl (vget (rows_get hb) (by omega)) rfl (Nat.le_of_ble_eq_true rfl) (by rw [List.map_set]; rfl) rfl ?_)
              refine co_nil ?_
              exact ⟨{ (madeS l 40).w with bs := (madeS l 40).w.bs.set (0 + (fold at_ ((madeS l 40).w.bs.length : Int)).toNat) { b with last := b.last + (fold by_ 5 - 2) }, nn := true }, (fits_set hwf (by show _ ≤ b.count ∧ b.count ≤ _; omega)), ⟨⟨trivial, (by first | exact .old (.val _) | exact .old (.ptr (Nat.le_of_ble_eq_true rfl)))⟩, ⟨trivial, (by first | exact .old (.val _) | exact .old (.ptr (Nat.le_of_ble_eq_true rfl)))⟩, trivial⟩, ⟨.same (by repeat' (first | exact .val _ | exact trivial | exact old_bkts _ _ _ | refine old_box ?_ | refine ⟨?_, ?_⟩)), .same (by repeat' (first | exact .val _ | exact trivial | exact old_bkts _ _ _ | refine old_box ?_ | refine ⟨?_, ?_⟩)), .box ⟨.old (.val _), .old (.val _), .old (.val _), .old (.val _), .old (.val _), .old (.val _), .old (.val _), .vecs (Nat.le_refl _) rfl (by simp) (by rw [List.drop_zero]; exact List.take_of_length_le (by simp)) (fun r hr c hc => (rows_pure (f := Bkt.cv) (fun _ => Pures.all ⟨.val _, .val _, .val _, trivial⟩) _) r hr c hc), trivial⟩, trivial⟩⟩
            · skip
              refine cw_seq ?_
              refine cw_region ?_
              refine co_y rfl rfl (y_int rfl trivial rfl rfl rfl rfl) ?_
              refine co_y rfl rfl (y_assign rfl trivial (by conv => lhs; whnf)) ?_
              refine co_nil ?_
              refine cw_cond trivial rfl (fun h6 => ?_) (fun h6 => ?_)
              · skip
                refine cw_region ?_
                refine co_y rfl rfl (y_field rfl trivial rfl Tryd.runUnderlying26 rfl Tryd.sizeOf3 (by decide)) ?_
                refine co_y rfl rfl (y_load1 rfl trivial rfl Tryd.isAgg3 rfl rfl) ?_
                refine co_y rfl rfl (y_move rfl trivial (by conv => lhs; whnf)) ?_
                refine co_y rfl rfl (y_add rfl trivial trivial rfl rfl (by omega) (by omega)) ?_
                refine co_y rfl rfl (y_field rfl trivial rfl Tryd.runUnderlying26 rfl Tryd.sizeOf3 (by decide)) ?_
                refine co_d rfl rfl (d_store rfl trivial trivial rfl (by conv => lhs; whnf) Tryd.sizeOf3 (.inl rfl) rfl rfl (Nat.le_of_ble_eq_true rfl) ?_)
                refine co_nil ?_
                exact ⟨{ (madeS l 40).w with failed := (madeS l 40).w.failed + (fold by_ 5 - 2), nn := true }, (fits_bs hwf (List.Sublist.refl _)), ⟨⟨trivial, (by first | exact .old (.val _) | exact .old (.ptr (Nat.le_of_ble_eq_true rfl)))⟩, ⟨trivial, (by first | exact .old (.val _) | exact .old (.ptr (Nat.le_of_ble_eq_true rfl)))⟩, trivial⟩, ⟨.same (by repeat' (first | exact .val _ | exact trivial | exact old_bkts _ _ _ | refine old_box ?_ | refine ⟨?_, ?_⟩)), .same (by repeat' (first | exact .val _ | exact trivial | exact old_bkts _ _ _ | refine old_box ?_ | refine ⟨?_, ?_⟩)), .box ⟨.old (.val _), .old (.val _), .old (.val _), .old (.val _), .old (.val _), .old (.val _), .old (.val _), .vecs (Nat.le_refl _) rfl (by simp) (by rw [List.drop_zero]; exact List.take_of_length_le (by simp)) (fun r hr c hc => (rows_pure (f := Bkt.cv) (fun _ => Pures.all ⟨.val _, .val _, .val _, trivial⟩) _) r hr c hc), trivial⟩, trivial⟩⟩
              · skip
                refine cw_seq ?_
                refine cw_region ?_
                refine co_y rfl rfl (y_int rfl trivial rfl rfl rfl rfl) ?_
                refine co_y rfl rfl (y_assign rfl trivial (by conv => lhs; whnf)) ?_
                refine co_nil ?_
                refine cw_cond trivial rfl (fun h7 => ?_) (fun h7 => ?_)
                · obtain ⟨P, y, B, hPB, hPl⟩ : ∃ P y B, (madeS l 40).w.bs = P ++ y :: B ∧ P.length = (fold at_ ((madeS l 40).w.bs.length : Int)).toNat := by
                    refine ⟨(madeS l 40).w.bs.take (fold at_ ((madeS l 40).w.bs.length : Int)).toNat, b, (madeS l 40).w.bs.drop ((fold at_ ((madeS l 40).w.bs.length : Int)).toNat + 1), ?_, by simp; omega⟩
                    obtain ⟨hlt, e⟩ := List.getElem?_eq_some_iff.1 hb
                    rw [← e, ← List.drop_eq_getElem_cons hlt, List.take_append_drop]
                  have hPL : (madeS l 40).w.bs.length = P.length + (B.length + 1) := by rw [hPB]; simp
                  obtain ⟨x, hxr⟩ := del_one P y B []
                  have hrl : ((madeS l 40).w.bs.map Bkt.cv).length = (madeS l 40).w.bs.length := by simp
                  have hBm : ((((madeS l 40).w.bs.map Bkt.cv).drop (P.length + 1)).take ((madeS l 40).w.bs.length - (P.length + 1))) = B.map Bkt.cv := by
                    rw [hPL, hPB, show (P ++ y :: B).map Bkt.cv = (P.map Bkt.cv ++ [y.cv]) ++ B.map Bkt.cv by simp, List.drop_left' (by simp)]
                    exact List.take_of_length_le (by simp; omega)
                  refine cw_draw 9 [0, 1, 0, 7, 0, 16, 0, 64, 240, 511, 1023, 2047] (by kernel_rfl) (by kernel_rfl) rfl ?_
                  refine ch_y rfl (y_field rfl trivial rfl Tryd.runUnderlying26 rfl Tryd.sizeOf24 (by decide)) ?_
                  refine ch_y rfl (y_load1 rfl trivial rfl Tryd.isAgg24 rfl rfl) ?_
                  refine ch_y rfl (y_move rfl trivial (by conv => lhs; whnf)) ?_
                  refine ch_y rfl (y_slice_v (h := P.length) rfl trivial rfl Tryd.runUnderlying24 Tryd.sizeOf39 rfl rfl ⟨trivial, _, _, rfl, by omega, by omega⟩ (by first | omega | (simp; done) | (simp; omega)) (by rw [hrl]; omega)) ?_
                  refine ch_y rfl (y_field rfl trivial rfl Tryd.runUnderlying26 rfl Tryd.sizeOf24 (by decide)) ?_
                  refine ch_y rfl (y_load1 rfl trivial rfl Tryd.isAgg24 rfl rfl) ?_
                  refine ch_y rfl (y_move rfl trivial (by conv => lhs; whnf)) ?_
                  refine ch_y rfl (y_add rfl trivial rfl rfl rfl (by omega) (by omega)) ?_
                  refine ch_y rfl (y_slice_v (l := (P.length + 1)) rfl trivial rfl Tryd.runUnderlying24 Tryd.sizeOf39 rfl ⟨trivial, _, _, rfl, by omega, by omega⟩ rfl (by first | omega | (simp; done) | (simp; omega)) (by rw [hrl]; omega)) ?_
                  refine ch_nil ?_
                  refine co_d rfl rfl (d_append_vin' ((P ++ B).map Bkt.cv ++ [x]) (P.length + B.length) rfl trivial trivial rfl (src_vec' (new := B.map Bkt.cv) rfl rfl (by rw [hrl]; omega) (by rw [Nat.zero_add]; exact hBm)) Tryd.runUnderlying24 Tryd.sizeOf39 rfl (by rw [hrl]; simp; omega) (by rw [hPB]; simpa using hxr) (by simp) rfl ?_)
                  refine co_y rfl rfl (y_field rfl trivial rfl Tryd.runUnderlying26 rfl Tryd.sizeOf24 (by decide)) ?_
                  refine co_d rfl rfl (d_store rfl trivial trivial rfl (by conv => lhs; whnf) Tryd.sizeOf24 (.inl rfl) rfl rfl (Nat.le_of_ble_eq_true rfl) ?_)
                  refine co_nil ?_
                  exact ⟨{ (madeS l 40).w with bs := P ++ B, nn := true }, (fits_bs hwf (by rw [hPB]; exact List.Sublist.append (List.Sublist.refl _) (List.sublist_cons_self _ _))), ⟨⟨trivial, (by first | exact .old (.val _) | exact .old (.ptr (Nat.le_of_ble_eq_true rfl)))⟩, ⟨trivial, (by first | exact .old (.val _) | exact .old (.ptr (Nat.le_of_ble_eq_true rfl)))⟩, trivial⟩, ⟨.same (by repeat' (first | exact .val _ | exact trivial | exact old_bkts _ _ _ | refine old_box ?_ | refine ⟨?_, ?_⟩)), .same (by repeat' (first | exact .val _ | exact trivial | exact old_bkts _ _ _ | refine old_box ?_ | refine ⟨?_, ?_⟩)), .box ⟨.old (.val _), .old (.val _), .old (.val _), .old (.val _), .old (.val _), .old (.val _), .old (.val _), .vecs (Nat.le_refl _) rfl (by simp) (by rw [List.drop_zero]; exact List.take_left' (by simp)) (fun r hr c hc => (rows_pure (f := Bkt.cv) (fun _ => Pures.all ⟨.val _, .val _, .val _, trivial⟩) _) r hr c hc), trivial⟩, trivial⟩⟩
                · skip
                  refine cw_region ?_
                  refine co_y rfl rfl (y_field rfl trivial rfl Tryd.runUnderlying26 rfl Tryd.sizeOf3 (by decide)) ?_
                  refine co_y rfl rfl (y_load1 rfl trivial rfl Tryd.isAgg3 rfl rfl) ?_
                  refine co_y rfl rfl (y_move rfl trivial (by conv => lhs; whnf)) ?_
                  refine co_y rfl rfl (y_add rfl trivial trivial rfl rfl (by omega) (by omega)) ?_
                  refine co_y rfl rfl (y_field rfl trivial rfl Tryd.runUnderlying26 rfl Tryd.sizeOf3 (by decide)) ?_
                  refine co_d rfl rfl (d_store rfl trivial trivial rfl (by conv => lhs; whnf) Tryd.sizeOf3 (.inl rfl) rfl rfl (Nat.le_of_ble_eq_true rfl) ?_)
                  refine co_nil ?_
                  exact ⟨{ (madeS l 40).w with k := (madeS l 40).w.k + (fold by_ 5 - 2), nn := true }, (fits_bs hwf (List.Sublist.refl _)), ⟨⟨trivial, (by first | exact .old (.val _) | exact .old (.ptr (Nat.le_of_ble_eq_true rfl)))⟩, ⟨trivial, (by first | exact .old (.val _) | exact .old (.ptr (Nat.le_of_ble_eq_true rfl)))⟩, trivial⟩, ⟨.same (by repeat' (first | exact .val _ | exact trivial | exact old_bkts _ _ _ | refine old_box ?_ | refine ⟨?_, ?_⟩)), .same (by repeat' (first | exact .val _ | exact trivial | exact old_bkts _ _ _ | refine old_box ?_ | refine ⟨?_, ?_⟩)), .box ⟨.old (.val _), .old (.val _), .old (.val _), .old (.val _), .old (.val _), .old (.val _), .old (.val _), .vecs (Nat.le_refl _) rfl (by simp) (by rw [List.drop_zero]; exact List.take_of_length_le (by simp)) (fun r hr c hc => (rows_pure (f := Bkt.cv) (fun _ => Pures.all ⟨.val _, .val _, .val _, trivial⟩) _) r hr c hc), trivial⟩, trivial⟩⟩
      · skip
        refine cw_skip ?_
        exact ⟨(madeS l 40).w, hwf, ⟨⟨trivial, (by first | exact .old (.val _) | exact .old (.ptr (Nat.le_of_ble_eq_true rfl)))⟩, ⟨trivial, (by first | exact .old (.val _) | exact .old (.ptr (Nat.le_of_ble_eq_true rfl)))⟩, trivial⟩, ⟨.same (by repeat' (first | exact .val _ | exact trivial | exact old_bkts _ _ _ | refine old_box ?_ | refine ⟨?_, ?_⟩)), .same (by repeat' (first | exact .val _ | exact trivial | exact old_bkts _ _ _ | refine old_box ?_ | refine ⟨?_, ?_⟩)), .same (by repeat' (first | exact .val _ | exact trivial | exact old_bkts _ _ _ | refine old_box ?_ | refine ⟨?_, ?_⟩)), trivial⟩⟩
    · intro a haf
      refine cw_seq ?_
      refine cw_seq ?_
      refine cw_region ?_
      refine co_y rfl rfl (y_load rfl trivial rfl Tryd.isAgg26 Tryd.sizeOf26 rfl (Nat.le_of_ble_eq_true rfl)) ?_
      refine co_y rfl rfl (y_load rfl trivial rfl Tryd.isAgg26 Tryd.sizeOf26 rfl (Nat.le_of_ble_eq_true rfl)) ?_
      refine co_y rfl rfl (y_lit ([a, raw].map Hist.cells) rfl ⟨trivial, trivial, trivial⟩ Tryd.runUnderlying40 Tryd.sizeOf26 Tryd.zeroValue26 rfl rfl rfl rfl rfl rfl rfl rfl rfl) ?_
      refine co_y rfl rfl (y_len rfl trivial rfl Tryd.runUnderlying40 (by first | exact len_map _ _ | rfl) rfl) ?_
      refine co_y rfl rfl (y_move rfl rfl (by conv => lhs; whnf)) ?_
      refine co_nil ?_
      refine cw_block ?_
      refine cw_loopd hCC (α := Nat) (fun i => [(125, (.list ([a, raw].map Hist.cells) true none)), (126, (.val (.int .i64 (2)))), (127, (.val (.int .i64 ((i : Int)))))]) (fun _ => [.box raw.cells, .box (madeS l 40).h.cells, .box a.cells]) (fun i => i ≤ 2) (fun i => 2 - i) 0 (Nat.zero_le _) ⟨⟨trivial, rfl⟩, ⟨trivial, rfl⟩, ⟨trivial, rfl⟩, trivial⟩ (extra0 := []) rfl (fun _ _ => Nat.le_of_ble_eq_true rfl) (fun a ha => by repeat' (first | exact trivial | exact .val _ | exact .ptr (Nat.le_of_ble_eq_true rfl) | exact .map (Nat.le_of_ble_eq_true rfl) | exact (by first | exact old_bkts _ _ _ | exact old_ints _ _ _ | exact old_hists _ _) | refine old_box ?_ | refine ⟨?_, ?_⟩)) ?_
      intro i hi
      refine cw_seq ?_
      refine cw_region ?_
      refine co_y rfl rfl (y_int rfl trivial trivial rfl rfl rfl) ?_
      refine co_nil ?_
      refine cw_seq ?_
      refine cw_cond trivial rfl (fun h8 => ?_) (fun h8 => ?_)
      · have hi2 : i < 2 := by simp at h8; omega
        obtain ⟨x, hb⟩ : ∃ x, [a, raw][i]? = some x := ⟨[a, raw][i]'(by simp; omega), by simp⟩
        have hxf : Fits x := by
          have := List.mem_of_getElem? hb
          simp at this
          rcases this with rfl | rfl <;> assumption
        refine cw_skip ?_
        refine cw_seq ?_
        refine cw_block ?_
        refine cw_seq ?_
        refine cw_region ?_
        refine co_y rfl rfl (y_index rfl trivial trivial rfl rfl Tryd.runUnderlying40 Tryd.sizeOf26 (by omega) (rows_get hb) rfl) ?_
        refine co_y rfl rfl (y_load_c rfl trivial rfl Tryd.isAgg26 Tryd.sizeOf26 (Nat.le_of_ble_eq_true rfl)) ?_
        refine co_d rfl rfl (d_alloc rfl Tryd.zeroValue26 rfl (.inr ⟨_, rfl⟩) ?_)
        refine co_d rfl rfl (d_store rfl trivial trivial rfl (by conv => lhs; whnf) Tryd.sizeOf26 (.inr ⟨_, rfl⟩) rfl rfl (Nat.le_of_ble_eq_true rfl) ?_)
        refine co_nil ?_
        refine cw_seq ?_
        refine cw_region ?_
        refine co_y rfl rfl (y_load rfl trivial rfl Tryd.isAgg26 Tryd.sizeOf26 rfl (Nat.le_of_ble_eq_true rfl)) ?_
        refine co_y rfl rfl (y_callf rfl Tryd.call19 ⟨trivial, trivial⟩ (re_Check_s x hxf _) rfl) ?_
        refine co_y rfl rfl (y_assign rfl trivial (by conv => lhs; whnf)) ?_
        refine co_nil ?_
        refine cw_seq ?_
        refine cw_region ?_
        refine co_y rfl rfl (y_load rfl trivial rfl Tryd.isAgg26 Tryd.sizeOf26 rfl (Nat.le_of_ble_eq_true rfl)) ?_
        refine co_y rfl rfl (y_callf rfl Tryd.call20 ⟨trivial, rfl, rfl, trivial⟩ (hi_Add_s x hxf 1073741824 true _) rfl) ?_
        refine co_y rfl rfl (y_move rfl trivial (by conv => lhs; whnf)) ?_
        refine co_y rfl rfl (y_extract rfl trivial rfl rfl) ?_
        refine co_y rfl rfl (y_extract rfl trivial rfl rfl) ?_
        refine co_d rfl rfl (d_alloc rfl Tryd.zeroValue26 rfl (.inr ⟨_, rfl⟩) ?_)
        refine co_d rfl rfl (d_store rfl trivial trivial rfl (by conv => lhs; whnf) Tryd.sizeOf26 (.inr ⟨_, rfl⟩) rfl rfl (Nat.le_of_ble_eq_true rfl) ?_)
        refine co_y rfl rfl (y_assign rfl trivial (by conv => lhs; whnf)) ?_
        refine co_nil ?_
        refine cw_seq ?_
        refine cw_region ?_
        refine co_y rfl rfl (y_load rfl trivial rfl Tryd.isAgg26 Tryd.sizeOf26 rfl (Nat.le_of_ble_eq_true rfl)) ?_
        refine co_y rfl rfl (y_callf rfl Tryd.call21 ⟨trivial, rfl, rfl, trivial⟩ (re_Add_s x hxf 1073741824 true _) rfl) ?_
        refine co_y rfl rfl (y_move rfl trivial (by conv => lhs; whnf)) ?_
        refine co_y rfl rfl (y_extract rfl trivial rfl rfl) ?_
        refine co_y rfl rfl (y_extract rfl trivial rfl rfl) ?_
        refine co_d rfl rfl (d_alloc rfl Tryd.zeroValue26 rfl (.inr ⟨_, rfl⟩) ?_)
        refine co_d rfl rfl (d_store rfl trivial trivial rfl (by conv => lhs; whnf) Tryd.sizeOf26 (.inr ⟨_, rfl⟩) rfl rfl (Nat.le_of_ble_eq_true rfl) ?_)
        refine co_y rfl rfl (y_assign rfl trivial (by conv => lhs; whnf)) ?_
        refine co_nil ?_
        refine cw_seq ?_
        refine cw_region ?_
        refine co_y rfl rfl (y_load rfl trivial rfl Tryd.isAgg26 Tryd.sizeOf26 rfl (Nat.le_of_ble_eq_true rfl)) ?_
        refine co_y rfl rfl (y_callf rfl Tryd.call22 ⟨trivial, rfl, trivial⟩ (hi_Between_s x hxf 1 _) rfl) ?_
        refine co_y rfl rfl (y_move rfl trivial (by conv => lhs; whnf)) ?_
        refine co_y rfl rfl (y_extract rfl trivial rfl rfl) ?_
        refine co_y rfl rfl (y_extract rfl trivial rfl rfl) ?_
        refine co_y rfl rfl (y_extract rfl trivial rfl rfl) ?_
        refine co_y rfl rfl (y_assign rfl trivial (by conv => lhs; whnf)) ?_
        refine co_y rfl rfl (y_assign rfl trivial (by conv => lhs; whnf)) ?_
        refine co_y rfl rfl (y_assign rfl trivial (by conv => lhs; whnf)) ?_
        refine co_nil ?_
        refine cw_seq ?_
        refine cw_draw 24 [0, 1, 0, 7, 15, 31, 31, 127, 255, 511, 1023, 2047, 1023, 8191, 16383, 32767, 65535, 131071, 262143, 65535, 786431, 1835007, 4194303, 8388607] (by kernel_rfl) (by kernel_rfl) rfl ?_
        refine ch_y rfl (y_load rfl trivial rfl Tryd.isAgg26 Tryd.sizeOf26 rfl (Nat.le_of_ble_eq_true rfl)) ?_
        refine ch_y rfl (y_callf rfl Tryd.call15 ⟨trivial, trivial⟩ (hi_Check_s x hxf _) rfl) ?_
        refine ch_y rfl (y_move rfl trivial (by conv => lhs; whnf)) ?_
        refine ch_y rfl (y_boolop rfl Tryd.runUnderlying4 trivial trivial rfl rfl rfl) ?_
        refine ch_y rfl (y_move rfl trivial (by conv => lhs; whnf)) ?_
        refine ch_g rfl rfl trivial rfl (fun hg => y_move rfl trivial (by conv => lhs; whnf)) ?_
        refine ch_g rfl rfl trivial rfl (fun hg => y_move rfl trivial (by conv => lhs; whnf)) ?_
        refine ch_g rfl rfl trivial rfl (fun hg => y_int rfl hg hg rfl rfl rfl) ?_
        refine ch_y rfl (y_pick_or rfl trivial rfl (fun hp => hp) (fun _ => rfl)) ?_
        refine ch_y rfl (y_move rfl trivial (by conv => lhs; whnf)) ?_
        refine ch_g rfl rfl trivial rfl (fun hg => y_move rfl trivial (by conv => lhs; whnf)) ?_
        refine ch_g rfl rfl trivial rfl (fun hg => y_int rfl hg rfl rfl rfl rfl) ?_
        refine ch_g rfl rfl trivial rfl (fun hg => y_move rfl trivial (by conv => lhs; whnf)) ?_
        refine ch_g rfl rfl trivial rfl (fun hg => y_boolop rfl Tryd.runUnderlying4 hg hg rfl rfl rfl) ?_
        refine ch_y rfl (y_pick_or rfl trivial rfl (fun hp => hp) (fun _ => rfl)) ?_
        refine ch_y rfl (y_move rfl trivial (by conv => lhs; whnf)) ?_
        refine ch_g rfl rfl trivial rfl (fun hg => y_load rfl trivial rfl Tryd.isAgg26 Tryd.sizeOf26 rfl (Nat.le_of_ble_eq_true rfl)) ?_
        refine ch_g rfl rfl trivial rfl (fun hg => y_callf rfl Tryd.call23 ⟨hg, trivial⟩ (hi_Sizes_s x hxf _) rfl) ?_
        refine ch_g rfl rfl trivial rfl (fun hg => y_len rfl hg rfl Tryd.runUnderlying34 (by first | exact len_map _ _ | rfl) rfl) ?_
        refine ch_g rfl rfl trivial rfl (fun hg => y_load rfl trivial rfl Tryd.isAgg26 Tryd.sizeOf26 rfl (Nat.le_of_ble_eq_true rfl)) ?_
        refine ch_g rfl rfl trivial rfl (fun hg => y_callf rfl Tryd.call24 ⟨hg, trivial⟩ (re_Sizes_s x hxf _) rfl) ?_
        refine ch_g rfl rfl trivial rfl (fun hg => y_len rfl hg rfl Tryd.runUnderlying34 (by first | exact len_map _ _ | rfl) rfl) ?_
        refine ch_g rfl rfl trivial rfl (fun hg => y_int rfl hg hg rfl rfl rfl) ?_
        refine ch_y rfl (y_pick_or rfl trivial rfl (fun hp => hp) (fun _ => rfl)) ?_
        refine ch_nil ?_
        refine co_nil ?_
        refine cw_cond trivial rfl (fun h9 => ?_) (fun h9 => ?_)
        · exfalso
          have hq := pb_congr (chk_iff (h := x))
          rw [← hq, addS_err _ x 1073741824 true true (true || gnn x.bs.length)] at h9
          generalize pb (ChkP x) = c at h9
          cases c <;> simp [betS] at h9
        · skip
          refine cw_skip ?_
          refine cw_region ?_
          refine co_y rfl rfl (y_add rfl trivial rfl rfl rfl (by omega) (by omega)) ?_
          refine co_y rfl rfl (y_move rfl trivial (by conv => lhs; whnf)) ?_
          refine co_nil ?_
          exact ⟨(i + 1), _, ⟨by omega, by omega⟩, ⟨⟨trivial, rfl⟩, ⟨trivial, rfl⟩, ⟨trivial, rfl⟩, trivial⟩, rfl⟩
      · skip
        refine cw_exit ?_
        refine cw_seq ?_
        refine cw_region ?_
        refine co_y rfl rfl (y_callf rfl Tryd.call16 trivial (la_known_s _) rfl) ?_
        refine co_y rfl rfl (y_assign rfl trivial (by conv => lhs; whnf)) ?_
        refine co_nil ?_
        refine cw_ret ?_
        exact ⟨_, res1 rfl trivial (by conv => lhs; whnf), _, _, rfl, rfl, cls_bool rfl⟩

theorem la_HistoryChecks_s (l : List Int) (nn : Bool) (hl : l.length ≤ maxLen) (raw : Hist) (hr : ∀ b ∈ raw.bs, -9223372036854775808 ≤ b.count ∧ b.count ≤ 9223372036854775807) (at_ by_ : Int) (hat : -9223372036854775808 ≤ at_ ∧ at_ ≤ 9223372036854775807) (σ : List CObj) : CCalls CC 4 [.list (l.map icv) nn none, .agg raw.cells, (.val (.int .i64 (at_))), (.val (.int .i64 (by_)))] σ fun r σ' => r = .ret (.val (.bool (true))) ∧ σ' = σ :=
  CCalls.anyw hCC (by repeat' (first | exact .val _ | exact pure_bkts _ _ | exact pure_ints _ _ | exact trivial | refine pure_agg ?_ | refine pure_tup ?_ | refine ⟨?_, ?_⟩)) (by repeat' (first | exact .val _ | exact pure_bkts _ _ | exact pure_ints _ _ | exact trivial | refine pure_agg ?_ | refine pure_tup ?_ | refine ⟨?_, ?_⟩)) (la_HistoryChecks l nn hl raw hr at_ by_ hat) σ

end Go.Proofs.YtkhebelajdcjgaaDoor
