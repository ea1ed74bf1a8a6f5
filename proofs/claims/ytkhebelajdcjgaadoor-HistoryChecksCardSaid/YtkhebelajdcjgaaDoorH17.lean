import Derived.Test.YtkhebelajdcjgaaDoorH16
namespace Go.Proofs.YtkhebelajdcjgaaDoor
open Go Go.Cl

/-- The histories of many failures. -/
noncomputable def fw (k step : Int) : Nat → Hist
  | 0 => (newS ⟨#[112]⟩ ⟨#[116]⟩ 0 k).1
  | i + 1 => (addS (pb (ChkP (fw k step i))) (fw k step i) (1 + (i : Int) * step) true true).1
theorem step_fit {step : Int} (h : 0 ≤ step ∧ step ≤ 2) (i : Nat) : 0 ≤ (i : Int) * step ∧ (i : Int) * step ≤ 2 * (i : Int) ∧ (i : Int) * step ≤ ((i : Int) + 1) * step := by
  have h1 := Int.mul_nonneg (show (0 : Int) ≤ i by omega) h.1
  have h2 := Int.mul_le_mul_of_nonneg_left h.2 (show (0 : Int) ≤ i by omega)
  rw [Int.add_mul]
  omega
theorem fw_ok {k step : Int} (hk : 2 ≤ k ∧ k ≤ 16) (hs : 0 ≤ step ∧ step ≤ 2) : ∀ i : Nat, i ≤ 300 → ChkP (fw k step i) ∧ (fw k step i).runs = i ∧ (fw k step i).failed = i ∧ (fw k step i).last ≤ 1 + (i : Int) * step ∧ (fw k step i).k = k
  | 0, _ => by
    have e := newS_ok (pkg := ⟨#[112]⟩) (test := ⟨#[116]⟩) (env := 0) (k := k) use_own (by omega) hk
    rw [fw, e]
    exact ⟨chk_new use_own (by omega) hk _, rfl, rfl, by simp, rfl⟩
  | i + 1, hi => by
    obtain ⟨h1, h2, h3, h4, h5⟩ := fw_ok hk hs i (by omega)
    obtain ⟨s1, s2, s3⟩ := step_fit hs i
    rw [fw, pb_yes h1]
    have ha := add_keeps h1 (rev := 1 + (i : Int) * step) (by omega) (by omega) (by omega) true true
    have e := addS_ok (h := fw k step i) (rev := 1 + (i : Int) * step) (by omega) (by omega) (by omega) true true
    rw [e] at ha ⊢
    refine ⟨ha, ?_, ?_, ?_, h5⟩
    · show (fw k step i).runs + 1 = _; push_cast; omega
    · show (fw k step i).failed + 1 = _; push_cast; omega
    · show 1 + (i : Int) * step ≤ 1 + ((i + 1 : Nat) : Int) * step; push_cast; omega
theorem fw_next {k step : Int} (hk : 2 ≤ k ∧ k ≤ 16) (hs : 0 ≤ step ∧ step ≤ 2) {i : Nat} (hi : i < 300) : (addS (pb (ChkP (fw k step i))) (fw k step i) (1 + (i : Int) * step) true true).2 = 0 := by
  obtain ⟨h1, h2, h3, h4, h5⟩ := fw_ok hk hs i (by omega)
  obtain ⟨s1, s2, s3⟩ := step_fit hs i
  rw [pb_yes h1, addS_ok (by omega) (by omega) (by omega)]
theorem fold_bound {v n : Int} (hn : 2 ≤ n) : 0 ≤ fold v n ∧ fold v n < n := by
  unfold fold
  rw [if_neg (by omega)]
  exact ⟨Int.emod_nonneg _ (by omega), Int.emod_lt_of_pos _ (by omega)⟩
theorem half_step {n i : Int} {d : Nat} (h : n < (i + 1) * 2 ^ d) : n < (i / 2 + 1) * 2 ^ (d + 1) := by
  have h1 := pow2_pos d
  have h2 : i + 1 ≤ (i / 2 + 1) * 2 := by omega
  have h3 := Int.mul_le_mul_of_nonneg_right h2 (show (0 : Int) ≤ 2 ^ d by omega)
  have e : (i / 2 + 1) * (2 : Int) ^ (d + 1) = (i / 2 + 1) * 2 * 2 ^ d := by
    rw [Int.pow_succ, Int.mul_assoc, Int.mul_comm 2 (2 ^ d)]
  omega
theorem ex_split {s : Hist} {i : Int} {b : Bkt} (hc : ChkP s) (h0 : 0 ≤ i) (hb : s.bs[i.toNat]? = some b) (h1 : b.count = 1) (hB : ∀ (j : Nat) (c : Bkt), i < (j : Int) → s.bs[j]? = some c → c.count = 1) : betLo s.bs (b.first + 1) = betHi s.bs (b.first + 1) := by
  obtain ⟨hlt, e⟩ := List.getElem?_eq_some_iff.1 hb
  have hs : s.bs = s.bs.take i.toNat ++ b :: s.bs.drop (i.toNat + 1) := by
    rw [← e, ← List.drop_eq_getElem_cons hlt, List.take_append_drop]
  have ho := hc.ord
  rw [hs] at ho ⊢
  refine exact_law ho h1 fun c hcm => ?_
  obtain ⟨j, hj⟩ := List.mem_iff_getElem?.1 hcm
  rw [List.getElem?_drop] at hj
  exact hB (i.toNat + 1 + j) c (by omega) hj

set_option maxRecDepth 10000 in
theorem la_HistoryExact (l : List Int) (nn : Bool) (hl : l.length ≤ maxLen) : CCalls CC 10 [.list (l.map icv) nn none] [] fun r σ' => r = .ret (.val (.bool (true))) ∧ σ' = [] := by
  refine ccalls_val (ccalls_of Tryd.func10 rfl rfl ?_)
  refine cw_seq ?_
  refine cw_region ?_
  refine co_y rfl rfl (y_assign rfl rfl (by conv => lhs; whnf)) ?_
  refine co_nil ?_
  refine cw_seq ?_
  refine cw_region ?_
  refine co_y rfl rfl (y_move rfl trivial (by conv => lhs; whnf)) ?_
  refine co_y rfl rfl (y_callf rfl Tryd.call17 ⟨trivial, rfl, trivial⟩ (la_made_s l nn hl 60 (by omega) _) rfl) ?_
  refine co_y rfl rfl (y_move rfl trivial (by conv => lhs; whnf)) ?_
  refine co_y rfl rfl (y_extract rfl trivial rfl rfl) ?_
  refine co_y rfl rfl (y_extract rfl trivial rfl rfl) ?_
  refine co_y rfl rfl (y_extract rfl trivial rfl rfl) ?_
  refine co_y rfl rfl (y_extract rfl trivial rfl rfl) ?_
  refine co_d rfl rfl (d_alloc rfl Tryd.zeroValue26 rfl (.inr ⟨_, rfl⟩) ?_)
  refine co_d rfl rfl (d_alloc rfl Tryd.zeroValue26 rfl (.inr ⟨_, rfl⟩) ?_)
  refine co_d rfl rfl (d_store rfl trivial trivial rfl (by conv => lhs; whnf) Tryd.sizeOf26 (.inr ⟨_, rfl⟩) rfl rfl (Nat.le_of_ble_eq_true rfl) ?_)
  refine co_d rfl rfl (d_store rfl trivial trivial rfl (by conv => lhs; whnf) Tryd.sizeOf26 (.inr ⟨_, rfl⟩) rfl rfl (Nat.le_of_ble_eq_true rfl) ?_)
  refine co_y rfl rfl (y_assign rfl trivial (by conv => lhs; whnf)) ?_
  refine co_y rfl rfl (y_assign rfl trivial (by conv => lhs; whnf)) ?_
  refine co_nil ?_
  refine cw_seq ?_
  refine cw_seq ?_
  refine cw_region ?_
  refine co_y rfl rfl (y_move rfl trivial (by conv => lhs; whnf)) ?_
  refine co_y rfl rfl (y_not rfl trivial rfl) ?_
  refine co_nil ?_
  refine cw_cond trivial rfl (fun h1 => ?_) (fun h1 => ?_)
  · exfalso
    simp at h1
  · have hF := made_MF l (most := 60) (by omega)
    have hch := hF.chk
    have hla := hF.last
    have hru := hF.runs
    have hkk := hF.kk
    have hk2 := hch.k
    have hfit := chk_fits hch
    have hcl := hch.last
    have hlen := hfit.len
    refine cw_skip ?_
    refine cw_seq ?_
    refine cw_seq ?_
    refine cw_region ?_
    refine co_y rfl rfl (y_field rfl trivial rfl Tryd.runUnderlying26 rfl Tryd.sizeOf24 (by decide)) ?_
    refine co_y rfl rfl (y_load1 rfl trivial rfl Tryd.isAgg24 rfl rfl) ?_
    refine co_y rfl rfl (y_len rfl trivial rfl Tryd.runUnderlying24 (by first | exact len_map _ _ | rfl) rfl) ?_
    refine co_y rfl rfl (y_sub rfl trivial rfl rfl rfl (by omega) (by omega)) ?_
    refine co_y rfl rfl (y_assign rfl trivial (by conv => lhs; whnf)) ?_
    refine co_nil ?_
    refine cw_block ?_
    refine cw_loopd hCC (α := Int) (fun i => [(3, .ptr 0 0), (5, (.list ((madeS l 60).out.map icv) (gnn (madeS l 60).out.length) none)), (7, (.val (.int .i64 (i))))]) (fun _ => [.box (madeS l 60).h.cells, .box (madeS l 60).w.cells]) (fun i => -1 ≤ i ∧ i < (madeS l 60).h.bs.length ∧ ∀ (j : Nat) (c : Bkt), i < (j : Int) → (madeS l 60).h.bs[j]? = some c → c.count = 1) (fun i => (i + 1).toNat) (((madeS l 60).h.bs.length : Int) - 1) ⟨by omega, by omega, fun j c hj hc => by have := (List.getElem?_eq_some_iff.1 hc).1; omega⟩ ⟨⟨trivial, rfl⟩, ⟨trivial, rfl⟩, ⟨trivial, rfl⟩, trivial⟩ (extra0 := []) rfl (fun _ _ => Nat.le_of_ble_eq_true rfl) (fun a ha => by repeat' (first | exact trivial | exact .val _ | exact .ptr (Nat.le_of_ble_eq_true rfl) | exact .map (Nat.le_of_ble_eq_true rfl) | exact (by first | exact old_bkts _ _ _ | exact old_ints _ _ _) | refine old_box ?_ | refine ⟨?_, ?_⟩)) ?_
    intro i ⟨hi, hil, hinv⟩
    obtain ⟨b0, hb1⟩ : ∃ b0 : Bkt, 0 ≤ i → (madeS l 60).h.bs[i.toNat]? = some b0 := by
      by_cases h : 0 ≤ i
      · exact ⟨(madeS l 60).h.bs[i.toNat]'(by omega), fun _ => by simp⟩
      · exact ⟨⟨0, 0, 0⟩, fun h' => absurd h' h⟩
    refine cw_seq ?_
    refine cw_seq ?_
    refine cw_region ?_
    refine co_y rfl rfl (y_move rfl trivial (by conv => lhs; whnf)) ?_
    refine co_y rfl rfl (y_int rfl trivial rfl rfl rfl rfl) ?_
    refine co_y rfl rfl (y_move rfl trivial (by conv => lhs; whnf)) ?_
    refine co_g rfl rfl trivial rfl rfl (fun hg => y_field rfl trivial rfl Tryd.runUnderlying26 rfl Tryd.sizeOf24 (by decide)) ?_
    refine co_g rfl rfl trivial rfl rfl (fun hg => y_load1 rfl hg rfl Tryd.isAgg24 rfl rfl) ?_
    refine co_g rfl rfl trivial rfl rfl (fun hg => y_move rfl trivial (by conv => lhs; whnf)) ?_
    refine co_g rfl rfl trivial rfl rfl (fun hg => y_index rfl hg hg rfl rfl Tryd.runUnderlying24 Tryd.sizeOf39 (by first | omega | (simp at hg; omega)) (rows_get (hb1 (by simpa using hg))) rfl) ?_
    refine co_g rfl rfl trivial rfl rfl (fun hg => y_field_c rfl hg rfl Tryd.runUnderlying39 rfl Tryd.sizeOf3 (by decide)) ?_
    refine co_g rfl rfl trivial rfl rfl (fun hg => y_load_c1 rfl hg rfl Tryd.isAgg3 rfl) ?_
    refine co_g rfl rfl trivial rfl rfl (fun hg => y_int rfl hg rfl rfl rfl rfl) ?_
    refine co_y rfl rfl (y_pick_and rfl trivial rfl (fun hp => hp) (fun _ => rfl)) ?_
    refine co_nil ?_
    refine cw_cond trivial rfl (fun h2 => ?_) (fun h2 => ?_)
    · have h2' : 0 ≤ i ∧ b0.count = 1 := by simpa using h2
      obtain ⟨hi0, hb1c⟩ := h2'
      have hb := hb1 hi0
      have hbm := (ord_all hch.ord).1 b0 (List.mem_of_getElem? hb)
      have eb := betS_ok hch (b0.first + 1)
      refine cw_skip ?_
      refine cw_seq ?_
      refine cw_block ?_
      refine cw_seq ?_
      refine cw_draw 16 [0, 0, 2, 0, 14, 30, 62, 126, 255, 511, 1023, 1023, 1023, 2047, 12287, 32767] (by kernel_rfl) (by kernel_rfl) rfl ?_
      refine ch_y rfl (y_load rfl trivial rfl Tryd.isAgg26 Tryd.sizeOf26 rfl (Nat.le_of_ble_eq_true rfl)) ?_
      refine ch_y rfl (y_field rfl trivial rfl Tryd.runUnderlying26 rfl Tryd.sizeOf24 (by decide)) ?_
      refine ch_y rfl (y_load1 rfl trivial rfl Tryd.isAgg24 rfl rfl) ?_
      refine ch_y rfl (y_move rfl trivial (by conv => lhs; whnf)) ?_
      refine ch_y rfl (y_index rfl trivial trivial rfl rfl Tryd.runUnderlying24 Tryd.sizeOf39 (by omega) (rows_get hb) rfl) ?_
      refine ch_y rfl (y_field_c rfl trivial rfl Tryd.runUnderlying39 rfl Tryd.sizeOf3 (by decide)) ?_
      refine ch_y rfl (y_load_c1 rfl trivial rfl Tryd.isAgg3 rfl) ?_
      refine ch_y rfl (y_add rfl trivial rfl rfl rfl (by omega) (by omega)) ?_
      refine ch_y rfl (y_callf rfl Tryd.call22 ⟨trivial, trivial, trivial⟩ (hi_Between_s (madeS l 60).h hfit (b0.first + 1) _) rfl) ?_
      refine ch_y rfl (y_move rfl trivial (by conv => lhs; whnf)) ?_
      refine ch_y rfl (y_extract rfl trivial rfl rfl) ?_
      refine ch_y rfl (y_extract rfl trivial rfl rfl) ?_
      refine ch_y rfl (y_extract rfl trivial rfl rfl) ?_
      refine ch_y rfl (y_assign rfl trivial (by conv => lhs; whnf)) ?_
      refine ch_y rfl (y_assign rfl trivial (by conv => lhs; whnf)) ?_
      refine ch_y rfl (y_assign rfl trivial (by conv => lhs; whnf)) ?_
      refine ch_nil ?_
      refine co_nil ?_
      refine cw_seq ?_
      refine cw_region ?_
      refine co_y rfl rfl (y_move rfl trivial (by conv => lhs; whnf)) ?_
      refine co_y rfl rfl (y_field rfl trivial rfl Tryd.runUnderlying26 rfl Tryd.sizeOf24 (by decide)) ?_
      refine co_y rfl rfl (y_load1 rfl trivial rfl Tryd.isAgg24 rfl rfl) ?_
      refine co_y rfl rfl (y_move rfl trivial (by conv => lhs; whnf)) ?_
      refine co_y rfl rfl (y_index rfl trivial trivial rfl rfl Tryd.runUnderlying24 Tryd.sizeOf39 (by omega) (rows_get hb) rfl) ?_
      refine co_y rfl rfl (y_field_c rfl trivial rfl Tryd.runUnderlying39 rfl Tryd.sizeOf3 (by decide)) ?_
      refine co_y rfl rfl (y_load_c1 rfl trivial rfl Tryd.isAgg3 rfl) ?_
      refine co_y rfl rfl (y_add rfl trivial rfl rfl rfl (by omega) (by omega)) ?_
      refine co_y rfl rfl (y_callf rfl Tryd.call27 ⟨trivial, trivial, trivial⟩ (la_from_s (madeS l 60).out _ (b0.first + 1) (by have := hF.out; unfold maxLen; omega) _) rfl) ?_
      refine co_y rfl rfl (y_assign rfl trivial (by conv => lhs; whnf)) ?_
      refine co_nil ?_
      refine cw_seq ?_
      refine cw_region ?_
      refine co_y rfl rfl (y_move rfl trivial (by conv => lhs; whnf)) ?_
      refine co_y rfl rfl (y_int rfl trivial rfl rfl rfl rfl) ?_
      refine co_y rfl rfl (y_move rfl trivial (by conv => lhs; whnf)) ?_
      refine co_g rfl rfl trivial rfl rfl (fun hg => y_move rfl trivial (by conv => lhs; whnf)) ?_
      refine co_g rfl rfl trivial rfl rfl (fun hg => y_move rfl trivial (by conv => lhs; whnf)) ?_
      refine co_g rfl rfl trivial rfl rfl (fun hg => y_int rfl hg hg rfl rfl rfl) ?_
      refine co_y rfl rfl (y_pick_or rfl trivial rfl (fun hp => hp) (fun _ => rfl)) ?_
      refine co_y rfl rfl (y_move rfl trivial (by conv => lhs; whnf)) ?_
      refine co_g rfl rfl trivial rfl rfl (fun hg => y_move rfl trivial (by conv => lhs; whnf)) ?_
      refine co_g rfl rfl trivial rfl rfl (fun hg => y_move rfl trivial (by conv => lhs; whnf)) ?_
      refine co_g rfl rfl trivial rfl rfl (fun hg => y_int rfl hg hg rfl rfl rfl) ?_
      refine co_y rfl rfl (y_pick_or rfl trivial rfl (fun hp => hp) (fun _ => rfl)) ?_
      refine co_nil ?_
      refine cw_cond trivial rfl (fun h3 => ?_) (fun h3 => ?_)
      · exfalso
        have hx := ex_split hch hi0 hb hb1c hinv
        have hb' := cov_bound hF.cov (b0.first + 1)
        rw [eb] at h3
        simp at h3
        omega
      · skip
        refine cw_skip ?_
        refine cw_region ?_
        refine co_y rfl rfl (y_move rfl trivial (by conv => lhs; whnf)) ?_
        refine co_y rfl rfl (y_sub rfl trivial rfl rfl rfl (by omega) (by omega)) ?_
        refine co_y rfl rfl (y_assign rfl trivial (by conv => lhs; whnf)) ?_
        refine co_nil ?_
        exact ⟨(i - 1), _, ⟨by show (i - 1 + 1).toNat < (i + 1).toNat; omega, by omega, by omega, fun j c hj hc => by
        by_cases h : i < (j : Int)
        · exact hinv j c h hc
        · have e : j = i.toNat := by omega
          rw [e, hb] at hc; cases hc; exact hb1c⟩, ⟨⟨trivial, rfl⟩, ⟨trivial, rfl⟩, ⟨trivial, rfl⟩, trivial⟩, rfl⟩
    · skip
      refine cw_exit ?_
      refine cw_seq ?_
      refine cw_region ?_
      refine co_y rfl rfl (y_callf rfl Tryd.call16 trivial (la_known_s _) rfl) ?_
      refine co_y rfl rfl (y_assign rfl trivial (by conv => lhs; whnf)) ?_
      refine co_nil ?_
      refine cw_ret ?_
      exact ⟨_, res1 rfl trivial (by conv => lhs; whnf), _, _, rfl, rfl, cls_bool rfl⟩

theorem la_HistoryExact_s (l : List Int) (nn : Bool) (hl : l.length ≤ maxLen) (σ : List CObj) : CCalls CC 10 [.list (l.map icv) nn none] σ fun r σ' => r = .ret (.val (.bool (true))) ∧ σ' = σ :=
  CCalls.anyw hCC (by repeat' (first | exact .val _ | exact pure_bkts _ _ | exact pure_ints _ _ | exact trivial | refine pure_agg ?_ | refine pure_tup ?_ | refine ⟨?_, ?_⟩)) (by repeat' (first | exact .val _ | exact pure_bkts _ _ | exact pure_ints _ _ | exact trivial | refine pure_agg ?_ | refine pure_tup ?_ | refine ⟨?_, ?_⟩)) (la_HistoryExact l nn hl) σ

set_option maxRecDepth 10000 in
theorem la_HistoryGrows (l : List Int) (nn : Bool) (hl : l.length ≤ maxLen) : CCalls CC 11 [.list (l.map icv) nn none] [] fun r σ' => r = .ret (.val (.bool (true))) ∧ σ' = [] := by
  refine ccalls_val (ccalls_of Tryd.func11 rfl rfl ?_)
  refine cw_seq ?_
  refine cw_region ?_
  refine co_y rfl rfl (y_assign rfl rfl (by conv => lhs; whnf)) ?_
  refine co_nil ?_
  refine cw_seq ?_
  refine cw_region ?_
  refine co_y rfl rfl (y_move rfl trivial (by conv => lhs; whnf)) ?_
  refine co_y rfl rfl (y_callf rfl Tryd.call17 ⟨trivial, rfl, trivial⟩ (la_made_s l nn hl 60 (by omega) _) rfl) ?_
  refine co_y rfl rfl (y_move rfl trivial (by conv => lhs; whnf)) ?_
  refine co_y rfl rfl (y_extract rfl trivial rfl rfl) ?_
  refine co_y rfl rfl (y_extract rfl trivial rfl rfl) ?_
  refine co_y rfl rfl (y_extract rfl trivial rfl rfl) ?_
  refine co_y rfl rfl (y_extract rfl trivial rfl rfl) ?_
  refine co_d rfl rfl (d_alloc rfl Tryd.zeroValue26 rfl (.inr ⟨_, rfl⟩) ?_)
  refine co_d rfl rfl (d_alloc rfl Tryd.zeroValue26 rfl (.inr ⟨_, rfl⟩) ?_)
  refine co_d rfl rfl (d_store rfl trivial trivial rfl (by conv => lhs; whnf) Tryd.sizeOf26 (.inr ⟨_, rfl⟩) rfl rfl (Nat.le_of_ble_eq_true rfl) ?_)
  refine co_d rfl rfl (d_store rfl trivial trivial rfl (by conv => lhs; whnf) Tryd.sizeOf26 (.inr ⟨_, rfl⟩) rfl rfl (Nat.le_of_ble_eq_true rfl) ?_)
  refine co_y rfl rfl (y_assign rfl trivial (by conv => lhs; whnf)) ?_
  refine co_y rfl rfl (y_assign rfl trivial (by conv => lhs; whnf)) ?_
  refine co_nil ?_
  refine cw_seq ?_
  refine cw_seq ?_
  refine cw_region ?_
  refine co_y rfl rfl (y_move rfl trivial (by conv => lhs; whnf)) ?_
  refine co_y rfl rfl (y_not rfl trivial rfl) ?_
  refine co_nil ?_
  refine cw_cond trivial rfl (fun h1 => ?_) (fun h1 => ?_)
  · exfalso
    simp at h1
  · have hF := made_MF l (most := 60) (by omega)
    have hch := hF.chk
    have hla := hF.last
    have hru := hF.runs
    have hkk := hF.kk
    have hk2 := hch.k
    have hfit := chk_fits hch
    have hcl := hch.last
    have hmax : 1 ≤ max 1 (madeS l 60).h.last ∧ max 1 (madeS l 60).h.last ≤ 1073741824 ∧ (madeS l 60).h.last ≤ max 1 (madeS l 60).h.last := by omega
    have hgk := add_keeps hch (rev := max 1 (madeS l 60).h.last) ⟨hmax.1, hmax.2.1⟩ hmax.2.2 (by omega) false true
    have hge := addS_ok (h := (madeS l 60).h) (rev := max 1 (madeS l 60).h.last) ⟨hmax.1, hmax.2.1⟩ hmax.2.2 (by omega) false true
    have p1 : pb (ChkP (madeS l 60).h) = true := pb_yes hch
    have hgb : (addS (pb (ChkP (madeS l 60).h)) (madeS l 60).h (max 1 (madeS l 60).h.last) false true).1.bs = (madeS l 60).h.bs := by rw [p1, hge]; rfl
    have hg0 : (addS (pb (ChkP (madeS l 60).h)) (madeS l 60).h (max 1 (madeS l 60).h.last) false true).2 = 0 := by rw [p1, hge]
    have hgc : ChkP (addS (pb (ChkP (madeS l 60).h)) (madeS l 60).h (max 1 (madeS l 60).h.last) false true).1 := by rw [p1]; exact hgk
    have eb0 := betS_ok hch 0
    obtain ⟨z1, z2⟩ := bet_zero hch
    refine cw_skip ?_
    refine cw_seq ?_
    refine cw_region ?_
    refine co_y rfl rfl (y_load rfl trivial rfl Tryd.isAgg26 Tryd.sizeOf26 rfl (Nat.le_of_ble_eq_true rfl)) ?_
    refine co_y rfl rfl (y_field rfl trivial rfl Tryd.runUnderlying26 rfl Tryd.sizeOf3 (by decide)) ?_
    refine co_y rfl rfl (y_load1 rfl trivial rfl Tryd.isAgg3 rfl rfl) ?_
    refine co_y rfl rfl (y_max rfl rfl trivial rfl rfl) ?_
    refine co_y rfl rfl (y_callf rfl Tryd.call20 ⟨trivial, trivial, rfl, trivial⟩ (hi_Add_s (madeS l 60).h hfit (max 1 (madeS l 60).h.last) false _) rfl) ?_
    refine co_y rfl rfl (y_move rfl trivial (by conv => lhs; whnf)) ?_
    refine co_y rfl rfl (y_extract rfl trivial rfl rfl) ?_
    refine co_y rfl rfl (y_extract rfl trivial rfl rfl) ?_
    refine co_d rfl rfl (d_alloc rfl Tryd.zeroValue26 rfl (.inr ⟨_, rfl⟩) ?_)
    refine co_d rfl rfl (d_store rfl trivial trivial rfl (by conv => lhs; whnf) Tryd.sizeOf26 (.inr ⟨_, rfl⟩) rfl rfl (Nat.le_of_ble_eq_true rfl) ?_)
    refine co_y rfl rfl (y_assign rfl trivial (by conv => lhs; whnf)) ?_
    refine co_nil ?_
    refine cw_seq ?_
    refine cw_seq ?_
    refine cw_region ?_
    refine co_y rfl rfl (y_move rfl trivial (by conv => lhs; whnf)) ?_
    refine co_y rfl rfl (y_int rfl trivial rfl rfl rfl rfl) ?_
    refine co_nil ?_
    refine cw_cond trivial rfl (fun h2 => ?_) (fun h2 => ?_)
    · exfalso
      rw [hg0] at h2
      simp at h2
    · skip
      refine cw_skip ?_
      refine cw_seq ?_
      refine cw_region ?_
      refine co_y rfl rfl (y_load rfl trivial rfl Tryd.isAgg26 Tryd.sizeOf26 rfl (Nat.le_of_ble_eq_true rfl)) ?_
      refine co_y rfl rfl (y_callf rfl Tryd.call22 ⟨trivial, rfl, trivial⟩ (hi_Between_s (madeS l 60).h hfit 0 _) rfl) ?_
      refine co_y rfl rfl (y_move rfl trivial (by conv => lhs; whnf)) ?_
      refine co_y rfl rfl (y_extract rfl trivial rfl rfl) ?_
      refine co_y rfl rfl (y_extract rfl trivial rfl rfl) ?_
      refine co_y rfl rfl (y_extract rfl trivial rfl rfl) ?_
      refine co_y rfl rfl (y_assign rfl trivial (by conv => lhs; whnf)) ?_
      refine co_y rfl rfl (y_assign rfl trivial (by conv => lhs; whnf)) ?_
      refine co_y rfl rfl (y_assign rfl trivial (by conv => lhs; whnf)) ?_
      refine co_nil ?_
      refine cw_seq ?_
      refine cw_seq ?_
      refine cw_region ?_
      refine co_y rfl rfl (y_move rfl trivial (by conv => lhs; whnf)) ?_
      refine co_y rfl rfl (y_int rfl trivial rfl rfl rfl rfl) ?_
      refine co_y rfl rfl (y_move rfl trivial (by conv => lhs; whnf)) ?_
      refine co_g rfl rfl trivial rfl rfl (fun hg => y_move rfl trivial (by conv => lhs; whnf)) ?_
      refine co_g rfl rfl trivial rfl rfl (fun hg => y_field rfl trivial rfl Tryd.runUnderlying26 rfl Tryd.sizeOf3 (by decide)) ?_
      refine co_g rfl rfl trivial rfl rfl (fun hg => y_load1 rfl hg rfl Tryd.isAgg3 rfl rfl) ?_
      refine co_g rfl rfl trivial rfl rfl (fun hg => y_int rfl hg hg rfl rfl rfl) ?_
      refine co_y rfl rfl (y_pick_or rfl trivial rfl (fun hp => hp) (fun _ => rfl)) ?_
      refine co_y rfl rfl (y_move rfl trivial (by conv => lhs; whnf)) ?_
      refine co_g rfl rfl trivial rfl rfl (fun hg => y_move rfl trivial (by conv => lhs; whnf)) ?_
      refine co_g rfl rfl trivial rfl rfl (fun hg => y_field rfl trivial rfl Tryd.runUnderlying26 rfl Tryd.sizeOf3 (by decide)) ?_
      refine co_g rfl rfl trivial rfl rfl (fun hg => y_load1 rfl hg rfl Tryd.isAgg3 rfl rfl) ?_
      refine co_g rfl rfl trivial rfl rfl (fun hg => y_int rfl hg hg rfl rfl rfl) ?_
      refine co_y rfl rfl (y_pick_or rfl trivial rfl (fun hp => hp) (fun _ => rfl)) ?_
      refine co_nil ?_
      refine cw_cond trivial rfl (fun h3 => ?_) (fun h3 => ?_)
      · exfalso
        rw [eb0] at h3
        simp [z1, z2] at h3
      · skip
        refine cw_skip ?_
        refine cw_seq ?_
        refine cw_seq ?_
        refine cw_region ?_
        refine co_y rfl rfl (y_assign rfl rfl (by conv => lhs; whnf)) ?_
        refine co_nil ?_
        refine cw_block ?_
        refine cw_loopd hCC (α := Nat) (fun i => [(3, .ptr 0 0), (7, .ptr 2 0), (9, (.val (.int .i64 (betLo (madeS l 60).h.bs ((i - 1 : Nat) : Int))))), (10, (.val (.int .i64 (betHi (madeS l 60).h.bs ((i - 1 : Nat) : Int))))), (12, (.val (.int .i64 ((i : Int)))))]) (fun _ => [.box (madeS l 60).h.cells, .box (madeS l 60).w.cells, .box ((addS (pb (ChkP (madeS l 60).h)) (madeS l 60).h (max 1 (madeS l 60).h.last) false true).1).cells]) (fun i => (i : Int) ≤ (madeS l 60).h.last + 2) (fun i => ((madeS l 60).h.last + 2).toNat - i) 0 (by show (0 : Int) ≤ _; omega) ⟨⟨trivial, rfl⟩, ⟨trivial, rfl⟩, ⟨trivial, (congrArg (fun x => CV.val (.int .i64 x)) (by rw [eb0]; rfl))⟩, ⟨trivial, (congrArg (fun x => CV.val (.int .i64 x)) (by rw [eb0]; rfl))⟩, ⟨trivial, rfl⟩, trivial⟩ (extra0 := []) rfl (fun _ _ => Nat.le_of_ble_eq_true rfl) (fun a ha => by repeat' (first | exact trivial | exact .val _ | exact .ptr (Nat.le_of_ble_eq_true rfl) | exact .map (Nat.le_of_ble_eq_true rfl) | exact (by first | exact old_bkts _ _ _ | exact old_ints _ _ _) | refine old_box ?_ | refine ⟨?_, ?_⟩)) ?_
        intro i hi
        refine cw_seq ?_
        refine cw_seq ?_
        refine cw_region ?_
        refine co_y rfl rfl (y_move rfl trivial (by conv => lhs; whnf)) ?_
        refine co_y rfl rfl (y_field rfl trivial rfl Tryd.runUnderlying26 rfl Tryd.sizeOf3 (by decide)) ?_
        refine co_y rfl rfl (y_load1 rfl trivial rfl Tryd.isAgg3 rfl rfl) ?_
        refine co_y rfl rfl (y_add rfl trivial rfl rfl rfl (by omega) (by omega)) ?_
        refine co_y rfl rfl (y_int rfl trivial trivial rfl rfl rfl) ?_
        refine co_nil ?_
        refine cw_cond trivial rfl (fun h4 => ?_) (fun h4 => ?_)
        · have hi2 : (i : Int) ≤ (madeS l 60).h.last + 1 := by simpa using h4
          have eb := betS_ok hch (i : Int)
          have eg := betS_ok hgc (i : Int)
          rw [hgb] at eg
          refine cw_skip ?_
          refine cw_seq ?_
          refine cw_block ?_
          refine cw_seq ?_
          refine cw_region ?_
          refine co_y rfl rfl (y_load rfl trivial rfl Tryd.isAgg26 Tryd.sizeOf26 rfl (Nat.le_of_ble_eq_true rfl)) ?_
          refine co_y rfl rfl (y_move rfl trivial (by conv => lhs; whnf)) ?_
          refine co_y rfl rfl (y_callf rfl Tryd.call22 ⟨trivial, trivial, trivial⟩ (hi_Between_s (madeS l 60).h hfit (i : Int) _) rfl) ?_
          refine co_y rfl rfl (y_move rfl trivial (by conv => lhs; whnf)) ?_
          refine co_y rfl rfl (y_extract rfl trivial rfl rfl) ?_
          refine co_y rfl rfl (y_extract rfl trivial rfl rfl) ?_
          refine co_y rfl rfl (y_extract rfl trivial rfl rfl) ?_
          refine co_y rfl rfl (y_assign rfl trivial (by conv => lhs; whnf)) ?_
          refine co_y rfl rfl (y_assign rfl trivial (by conv => lhs; whnf)) ?_
          refine co_y rfl rfl (y_assign rfl trivial (by conv => lhs; whnf)) ?_
          refine co_nil ?_
          refine cw_seq ?_
          refine cw_region ?_
          refine co_y rfl rfl (y_load rfl trivial rfl Tryd.isAgg26 Tryd.sizeOf26 rfl (Nat.le_of_ble_eq_true rfl)) ?_
          refine co_y rfl rfl (y_move rfl trivial (by conv => lhs; whnf)) ?_
          refine co_y rfl rfl (y_callf rfl Tryd.call22 ⟨trivial, trivial, trivial⟩ (hi_Between_s _ (chk_fits hgc) (i : Int) _) rfl) ?_
          refine co_y rfl rfl (y_move rfl trivial (by conv => lhs; whnf)) ?_
          refine co_y rfl rfl (y_extract rfl trivial rfl rfl) ?_
          refine co_y rfl rfl (y_extract rfl trivial rfl rfl) ?_
          refine co_y rfl rfl (y_extract rfl trivial rfl rfl) ?_
          refine co_y rfl rfl (y_assign rfl trivial (by conv => lhs; whnf)) ?_
          refine co_y rfl rfl (y_assign rfl trivial (by conv => lhs; whnf)) ?_
          refine co_y rfl rfl (y_assign rfl trivial (by conv => lhs; whnf)) ?_
          refine co_nil ?_
          refine cw_seq ?_
          refine cw_seq ?_
          refine cw_region ?_
          refine co_y rfl rfl (y_move rfl trivial (by conv => lhs; whnf)) ?_
          refine co_y rfl rfl (y_int rfl trivial rfl rfl rfl rfl) ?_
          refine co_y rfl rfl (y_move rfl trivial (by conv => lhs; whnf)) ?_
          refine co_g rfl rfl trivial rfl rfl (fun hg => y_move rfl trivial (by conv => lhs; whnf)) ?_
          refine co_g rfl rfl trivial rfl rfl (fun hg => y_int rfl hg rfl rfl rfl rfl) ?_
          refine co_y rfl rfl (y_pick_or rfl trivial rfl (fun hp => hp) (fun _ => rfl)) ?_
          refine co_y rfl rfl (y_move rfl trivial (by conv => lhs; whnf)) ?_
          refine co_g rfl rfl trivial rfl rfl (fun hg => y_move rfl trivial (by conv => lhs; whnf)) ?_
          refine co_g rfl rfl trivial rfl rfl (fun hg => y_move rfl trivial (by conv => lhs; whnf)) ?_
          refine co_g rfl rfl trivial rfl rfl (fun hg => y_int rfl hg hg rfl rfl rfl) ?_
          refine co_y rfl rfl (y_pick_or rfl trivial rfl (fun hp => hp) (fun _ => rfl)) ?_
          refine co_y rfl rfl (y_move rfl trivial (by conv => lhs; whnf)) ?_
          refine co_g rfl rfl trivial rfl rfl (fun hg => y_move rfl trivial (by conv => lhs; whnf)) ?_
          refine co_g rfl rfl trivial rfl rfl (fun hg => y_move rfl trivial (by conv => lhs; whnf)) ?_
          refine co_g rfl rfl trivial rfl rfl (fun hg => y_int rfl hg hg rfl rfl rfl) ?_
          refine co_y rfl rfl (y_pick_or rfl trivial rfl (fun hp => hp) (fun _ => rfl)) ?_
          refine co_y rfl rfl (y_move rfl trivial (by conv => lhs; whnf)) ?_
          refine co_g rfl rfl trivial rfl rfl (fun hg => y_move rfl trivial (by conv => lhs; whnf)) ?_
          refine co_g rfl rfl trivial rfl rfl (fun hg => y_move rfl trivial (by conv => lhs; whnf)) ?_
          refine co_g rfl rfl trivial rfl rfl (fun hg => y_int rfl hg hg rfl rfl rfl) ?_
          refine co_y rfl rfl (y_pick_or rfl trivial rfl (fun hp => hp) (fun _ => rfl)) ?_
          refine co_y rfl rfl (y_move rfl trivial (by conv => lhs; whnf)) ?_
          refine co_g rfl rfl trivial rfl rfl (fun hg => y_move rfl trivial (by conv => lhs; whnf)) ?_
          refine co_g rfl rfl trivial rfl rfl (fun hg => y_move rfl trivial (by conv => lhs; whnf)) ?_
          refine co_g rfl rfl trivial rfl rfl (fun hg => y_int rfl hg hg rfl rfl rfl) ?_
          refine co_y rfl rfl (y_pick_or rfl trivial rfl (fun hp => hp) (fun _ => rfl)) ?_
          refine co_nil ?_
          refine cw_cond trivial rfl (fun h5 => ?_) (fun h5 => ?_)
          · exfalso
            have hm := bet_mono (l := (madeS l 60).h.bs) (f := ((i - 1 : Nat) : Int)) (g := (i : Int)) (fun b hb => (chk_pos hch b hb).1) (by omega)
            rw [eb, eg] at h5
            simp at h5
            omega
          · skip
            refine cw_skip ?_
            refine cw_region ?_
            refine co_y rfl rfl (y_move rfl trivial (by conv => lhs; whnf)) ?_
            refine co_y rfl rfl (y_move rfl trivial (by conv => lhs; whnf)) ?_
            refine co_y rfl rfl (y_assign rfl trivial (by conv => lhs; whnf)) ?_
            refine co_y rfl rfl (y_assign rfl trivial (by conv => lhs; whnf)) ?_
            refine co_nil ?_
            refine cw_region ?_
            refine co_y rfl rfl (y_move rfl trivial (by conv => lhs; whnf)) ?_
            refine co_y rfl rfl (y_add rfl trivial rfl rfl rfl (by omega) (by omega)) ?_
            refine co_y rfl rfl (y_assign rfl trivial (by conv => lhs; whnf)) ?_
            refine co_nil ?_
            exact ⟨(i + 1), _, ⟨by omega, by push_cast; omega⟩, ⟨⟨trivial, rfl⟩, ⟨trivial, rfl⟩, ⟨trivial, (congrArg (fun x => CV.val (.int .i64 x)) (by rw [eb]; simp))⟩, ⟨trivial, (congrArg (fun x => CV.val (.int .i64 x)) (by rw [eb]; simp))⟩, ⟨trivial, rfl⟩, trivial⟩, rfl⟩
        · skip
          refine cw_exit ?_
          refine cw_seq ?_
          refine cw_region ?_
          refine co_y rfl rfl (y_callf rfl Tryd.call16 trivial (la_known_s _) rfl) ?_
          refine co_y rfl rfl (y_assign rfl trivial (by conv => lhs; whnf)) ?_
          refine co_nil ?_
          refine cw_ret ?_
          exact ⟨_, res1 rfl trivial (by conv => lhs; whnf), _, _, rfl, rfl, cls_bool rfl⟩

theorem la_HistoryGrows_s (l : List Int) (nn : Bool) (hl : l.length ≤ maxLen) (σ : List CObj) : CCalls CC 11 [.list (l.map icv) nn none] σ fun r σ' => r = .ret (.val (.bool (true))) ∧ σ' = σ :=
  CCalls.anyw hCC (by repeat' (first | exact .val _ | exact pure_bkts _ _ | exact pure_ints _ _ | exact trivial | refine pure_agg ?_ | refine pure_tup ?_ | refine ⟨?_, ?_⟩)) (by repeat' (first | exact .val _ | exact pure_bkts _ _ | exact pure_ints _ _ | exact trivial | refine pure_agg ?_ | refine pure_tup ?_ | refine ⟨?_, ?_⟩)) (la_HistoryGrows l nn hl) σ

set_option maxRecDepth 10000 in
theorem la_HistoryFew (n k step : Int) : CCalls CC 9 [(.val (.int .i64 (n))), (.val (.int .i64 (k))), (.val (.int .i64 (step)))] [] fun r σ' => r = .ret (.val (.bool (true))) ∧ σ' = [] := by
  have hnb := fold_bound (v := n) (n := 300) (by omega)
  have hkb' := fold_bound (v := k) (n := 15) (by omega)
  have htb' := fold_bound (v := step) (n := 3) (by omega)
  have hkb : 2 ≤ 2 + fold k 15 ∧ 2 + fold k 15 ≤ 16 := by omega
  have htb : 0 ≤ fold step 3 ∧ fold step 3 ≤ 2 := by omega
  have en := newS_ok (pkg := ⟨#[112]⟩) (test := ⟨#[116]⟩) (env := 0) (k := 2 + fold k 15) use_own (by omega) hkb
  refine ccalls_val (ccalls_of Tryd.func9 rfl rfl ?_)
  refine cw_seq ?_
  refine cw_region ?_
  refine co_y rfl rfl (y_assign rfl rfl (by conv => lhs; whnf)) ?_
  refine co_nil ?_
  refine cw_seq ?_
  refine cw_region ?_
  refine co_y rfl rfl (y_move rfl trivial (by conv => lhs; whnf)) ?_
  refine co_y rfl rfl (y_callf rfl Tryd.call18 ⟨trivial, rfl, trivial⟩ (mk_Fold_s n 300 (by omega) _) rfl) ?_
  refine co_y rfl rfl (y_move rfl trivial (by conv => lhs; whnf)) ?_
  refine co_y rfl rfl (y_callf rfl Tryd.call18 ⟨trivial, rfl, trivial⟩ (mk_Fold_s k 15 (by omega) _) rfl) ?_
  refine co_y rfl rfl (y_add rfl rfl trivial rfl rfl (by omega) (by omega)) ?_
  refine co_y rfl rfl (y_move rfl trivial (by conv => lhs; whnf)) ?_
  refine co_y rfl rfl (y_callf rfl Tryd.call18 ⟨trivial, rfl, trivial⟩ (mk_Fold_s step 3 (by omega) _) rfl) ?_
  refine co_y rfl rfl (y_assign rfl trivial (by conv => lhs; whnf)) ?_
  refine co_y rfl rfl (y_assign rfl trivial (by conv => lhs; whnf)) ?_
  refine co_y rfl rfl (y_assign rfl trivial (by conv => lhs; whnf)) ?_
  refine co_nil ?_
  refine cw_seq ?_
  refine cw_region ?_
  refine co_y rfl rfl (y_load_c rfl trivial rfl Tryd.isAgg23 Tryd.sizeOf23 (Nat.le_of_ble_eq_true rfl)) ?_
  refine co_y rfl rfl (y_move rfl trivial (by conv => lhs; whnf)) ?_
  refine co_y rfl rfl (y_callf rfl Tryd.call12 ⟨trivial, rfl, trivial, trivial⟩ (hi_New_s ⟨#[112]⟩ ⟨#[116]⟩ 0 (2 + fold k 15) _) rfl) ?_
  refine co_y rfl rfl (y_move rfl trivial (by conv => lhs; whnf)) ?_
  refine co_y rfl rfl (y_extract rfl trivial rfl rfl) ?_
  refine co_y rfl rfl (y_extract rfl trivial rfl rfl) ?_
  refine co_d rfl rfl (d_alloc rfl Tryd.zeroValue26 rfl (.inr ⟨_, rfl⟩) ?_)
  refine co_d rfl rfl (d_store rfl trivial trivial rfl (by conv => lhs; whnf) Tryd.sizeOf26 (.inr ⟨_, rfl⟩) rfl rfl (Nat.le_of_ble_eq_true rfl) ?_)
  refine co_y rfl rfl (y_assign rfl trivial (by conv => lhs; whnf)) ?_
  refine co_nil ?_
  refine cw_seq ?_
  refine cw_seq ?_
  refine cw_region ?_
  refine co_y rfl rfl (y_assign rfl rfl (by conv => lhs; whnf)) ?_
  refine co_nil ?_
  refine cw_block ?_
  refine cw_loopd hCC (α := Nat) (fun i => [(0, (.val (.int .i64 (fold n 300)))), (1, (.val (.int .i64 ((2 + fold k 15))))), (2, (.val (.int .i64 (fold step 3)))), (7, .ptr 0 0), (8, (.val (.int .i64 (0)))), (9, (.val (.int .i64 ((i : Int)))))]) (fun i => [.box (fw (2 + fold k 15) (fold step 3) i).cells]) (fun i => (i : Int) ≤ fold n 300) (fun i => 300 - i) 0 (by show (0 : Int) ≤ _; omega) ⟨⟨trivial, rfl⟩, ⟨trivial, rfl⟩, ⟨trivial, rfl⟩, ⟨trivial, rfl⟩, ⟨trivial, (congrArg (fun x => CV.val (.int .i64 x)) (by rw [en]))⟩, ⟨trivial, rfl⟩, trivial⟩ (extra0 := []) rfl (fun _ _ => Nat.le_of_ble_eq_true rfl) (fun a ha => by repeat' (first | exact trivial | exact .val _ | exact .ptr (Nat.le_of_ble_eq_true rfl) | exact .map (Nat.le_of_ble_eq_true rfl) | exact (by first | exact old_bkts _ _ _ | exact old_ints _ _ _) | refine old_box ?_ | refine ⟨?_, ?_⟩)) ?_
  intro i hi
  obtain ⟨w1, w2, w3, w4, w5⟩ := fw_ok hkb htb i (by omega)
  obtain ⟨s1, s2, s3⟩ := step_fit htb i
  refine cw_seq ?_
  refine cw_seq ?_
  refine cw_region ?_
  refine co_y rfl rfl (y_move rfl trivial (by conv => lhs; whnf)) ?_
  refine co_y rfl rfl (y_move rfl trivial (by conv => lhs; whnf)) ?_
  refine co_y rfl rfl (y_int rfl trivial trivial rfl rfl rfl) ?_
  refine co_y rfl rfl (y_move rfl trivial (by conv => lhs; whnf)) ?_
  refine co_g rfl rfl trivial rfl rfl (fun hg => y_move rfl trivial (by conv => lhs; whnf)) ?_
  refine co_g rfl rfl trivial rfl rfl (fun hg => y_int rfl hg rfl rfl rfl rfl) ?_
  refine co_y rfl rfl (y_pick_and rfl trivial rfl (fun hp => hp) (fun _ => rfl)) ?_
  refine co_nil ?_
  refine cw_cond trivial rfl (fun h1 => ?_) (fun h1 => ?_)
  · have hi2 : (i : Int) < fold n 300 := by simpa using h1
    have hz := fw_next hkb htb (i := i) (by omega)
    refine cw_skip ?_
    refine cw_seq ?_
    refine cw_block ?_
    refine cw_region ?_
    refine co_y rfl rfl (y_load rfl trivial rfl Tryd.isAgg26 Tryd.sizeOf26 rfl (Nat.le_of_ble_eq_true rfl)) ?_
    refine co_y rfl rfl (y_move rfl trivial (by conv => lhs; whnf)) ?_
    refine co_y rfl rfl (y_move rfl trivial (by conv => lhs; whnf)) ?_
    refine co_y rfl rfl (y_mul rfl trivial trivial rfl rfl (by omega) (by omega)) ?_
    refine co_y rfl rfl (y_add rfl rfl trivial rfl rfl (by omega) (by omega)) ?_
    refine co_y rfl rfl (y_callf rfl Tryd.call20 ⟨trivial, trivial, rfl, trivial⟩ (hi_Add_s (fw (2 + fold k 15) (fold step 3) i) (chk_fits w1) (1 + (i : Int) * fold step 3) true _) rfl) ?_
    refine co_y rfl rfl (y_move rfl trivial (by conv => lhs; whnf)) ?_
    refine co_y rfl rfl (y_extract rfl trivial rfl rfl) ?_
    refine co_y rfl rfl (y_extract rfl trivial rfl rfl) ?_
    refine co_d rfl rfl (d_store rfl trivial trivial rfl (by conv => lhs; whnf) Tryd.sizeOf26 (.inr ⟨_, rfl⟩) rfl rfl (Nat.le_of_ble_eq_true rfl) ?_)
    refine co_y rfl rfl (y_assign rfl trivial (by conv => lhs; whnf)) ?_
    refine co_nil ?_
    refine cw_region ?_
    refine co_y rfl rfl (y_move rfl trivial (by conv => lhs; whnf)) ?_
    refine co_y rfl rfl (y_add rfl trivial rfl rfl rfl (by omega) (by omega)) ?_
    refine co_y rfl rfl (y_assign rfl trivial (by conv => lhs; whnf)) ?_
    refine co_nil ?_
    exact ⟨(i + 1), _, ⟨by omega, by push_cast; omega⟩, ⟨⟨trivial, rfl⟩, ⟨trivial, rfl⟩, ⟨trivial, rfl⟩, ⟨trivial, rfl⟩, ⟨trivial, (congrArg (fun x => CV.val (.int .i64 x)) hz)⟩, ⟨trivial, rfl⟩, trivial⟩, rfl⟩
  · have hn2 : ¬ (i : Int) < fold n 300 := by simpa using h1
    have hi2 : (i : Int) = fold n 300 := by omega
    refine cw_exit ?_
    refine cw_seq ?_
    refine cw_region ?_
    refine co_y rfl rfl (y_assign rfl rfl (by conv => lhs; whnf)) ?_
    refine co_nil ?_
    refine cw_seq ?_
    refine cw_seq ?_
    refine cw_region ?_
    refine co_y rfl rfl (y_move rfl trivial (by conv => lhs; whnf)) ?_
    refine co_y rfl rfl (y_assign rfl trivial (by conv => lhs; whnf)) ?_
    refine co_nil ?_
    refine cw_block ?_
    refine cw_loopd hCC (α := Nat × Int) (fun x => [(0, (.val (.int .i64 (fold n 300)))), (1, (.val (.int .i64 ((2 + fold k 15))))), (7, .ptr 0 0), (8, (.val (.int .i64 (0)))), (10, (.val (.int .i64 ((x.1 : Int))))), (11, (.val (.int .i64 (x.2))))]) (fun _ => [.box (fw (2 + fold k 15) (fold step 3) i).cells]) (fun x => 0 ≤ x.2 ∧ (x.1 : Int) + x.2 ≤ fold n 300 ∧ fold n 300 < (x.2 + 1) * 2 ^ x.1) (fun x => x.2.toNat) (0, fold n 300) ⟨by dsimp only; omega, by simp, by simp; omega⟩ ⟨⟨trivial, rfl⟩, ⟨trivial, rfl⟩, ⟨trivial, rfl⟩, ⟨trivial, rfl⟩, ⟨trivial, rfl⟩, ⟨trivial, rfl⟩, trivial⟩ (extra0 := []) rfl (fun _ _ => Nat.le_of_ble_eq_true rfl) (fun a ha => by repeat' (first | exact trivial | exact .val _ | exact .ptr (Nat.le_of_ble_eq_true rfl) | exact .map (Nat.le_of_ble_eq_true rfl) | exact (by first | exact old_bkts _ _ _ | exact old_ints _ _ _) | refine old_box ?_ | refine ⟨?_, ?_⟩)) ?_
    intro ⟨d, m⟩ ⟨hm0, hmd, hmp⟩
    dsimp only at hm0 hmd hmp ⊢
    refine cw_seq ?_
    refine cw_seq ?_
    refine cw_region ?_
    refine co_y rfl rfl (y_move rfl trivial (by conv => lhs; whnf)) ?_
    refine co_y rfl rfl (y_int rfl trivial rfl rfl rfl rfl) ?_
    refine co_nil ?_
    refine cw_cond trivial rfl (fun h2 => ?_) (fun h2 => ?_)
    · have hm1 : 0 < m := by simpa using h2
      refine cw_skip ?_
      refine cw_seq ?_
      refine cw_block ?_
      refine cw_region ?_
      refine co_y rfl rfl (y_move rfl trivial (by conv => lhs; whnf)) ?_
      refine co_y rfl rfl (y_add rfl trivial rfl rfl rfl (by omega) (by omega)) ?_
      refine co_y rfl rfl (y_assign rfl trivial (by conv => lhs; whnf)) ?_
      refine co_nil ?_
      refine cw_region ?_
      refine co_y rfl rfl (y_move rfl trivial (by conv => lhs; whnf)) ?_
      refine co_y rfl rfl (y_int rfl trivial rfl rfl rfl (cq_pos (by omega) (by omega) (by omega))) ?_
      refine co_y rfl rfl (y_assign rfl trivial (by conv => lhs; whnf)) ?_
      refine co_nil ?_
      exact ⟨(d + 1, m / 2), _, ⟨by show (m / 2).toNat < m.toNat; omega, by show 0 ≤ m / 2; omega, by show ((d + 1 : Nat) : Int) + m / 2 ≤ _; push_cast; omega, half_step hmp⟩, ⟨⟨trivial, rfl⟩, ⟨trivial, rfl⟩, ⟨trivial, rfl⟩, ⟨trivial, rfl⟩, ⟨trivial, (congrArg (fun x => CV.val (.int .i64 x)) (by simp))⟩, ⟨trivial, rfl⟩, trivial⟩, rfl⟩
    · have hm1 : m = 0 := by simp at h2; omega
      subst hm1
      have hp1 : pb (ChkP (fw (2 + fold k 15) (fold step 3) i)) = true := pb_yes w1
      have hsz := w1.siz
      rw [w5] at hsz
      have hfl := few_law hkb.1 hsz (d := d) (by rw [w3]; omega)
      have hle : (sizS (pb (ChkP (fw (2 + fold k 15) (fold step 3) i))) (fw (2 + fold k 15) (fold step 3) i)).length = (fw (2 + fold k 15) (fold step 3) i).bs.length := by rw [hp1]; simp [sizS]
      have hkd0 := Int.mul_nonneg (show 0 ≤ 2 + fold k 15 by omega) (show (0 : Int) ≤ d by omega)
      have hkd1 := Int.mul_le_mul_of_nonneg_right hkb.2 (show (0 : Int) ≤ d by omega)
      rw [Int.mul_comm] at hfl
      refine cw_exit ?_
      refine cw_seq ?_
      refine cw_region ?_
      refine co_y rfl rfl (y_move rfl trivial (by conv => lhs; whnf)) ?_
      refine co_y rfl rfl (y_int rfl trivial rfl rfl rfl rfl) ?_
      refine co_y rfl rfl (y_move rfl trivial (by conv => lhs; whnf)) ?_
      refine co_g rfl rfl trivial rfl rfl (fun hg => y_load rfl trivial rfl Tryd.isAgg26 Tryd.sizeOf26 rfl (Nat.le_of_ble_eq_true rfl)) ?_
      refine co_g rfl rfl trivial rfl rfl (fun hg => y_callf rfl Tryd.call23 ⟨hg, trivial⟩ (hi_Sizes_s (fw (2 + fold k 15) (fold step 3) i) (chk_fits w1) _) rfl) ?_
      refine co_g rfl rfl trivial rfl rfl (fun hg => y_len rfl hg rfl Tryd.runUnderlying34 (by first | exact len_map _ _ | rfl) rfl) ?_
      refine co_g rfl rfl trivial rfl rfl (fun hg => y_move rfl trivial (by conv => lhs; whnf)) ?_
      refine co_g rfl rfl trivial rfl rfl (fun hg => y_move rfl trivial (by conv => lhs; whnf)) ?_
      refine co_g rfl rfl trivial rfl rfl (fun hg => y_mul rfl hg hg rfl rfl (by first | omega | (simp at hg; omega)) (by first | omega | (simp at hg; omega))) ?_
      refine co_g rfl rfl trivial rfl rfl (fun hg => y_int rfl hg hg rfl rfl rfl) ?_
      refine co_y rfl rfl (y_pick_and rfl trivial rfl (fun hp => hp) (fun _ => rfl)) ?_
      refine co_y rfl rfl (y_move rfl trivial (by conv => lhs; whnf)) ?_
      refine co_g rfl rfl trivial rfl rfl (fun hg => y_field rfl trivial rfl Tryd.runUnderlying26 rfl Tryd.sizeOf3 (by decide)) ?_
      refine co_g rfl rfl trivial rfl rfl (fun hg => y_load1 rfl hg rfl Tryd.isAgg3 rfl rfl) ?_
      refine co_g rfl rfl trivial rfl rfl (fun hg => y_move rfl trivial (by conv => lhs; whnf)) ?_
      refine co_g rfl rfl trivial rfl rfl (fun hg => y_int rfl hg hg rfl rfl rfl) ?_
      refine co_y rfl rfl (y_pick_and rfl trivial rfl (fun hp => hp) (fun _ => rfl)) ?_
      refine co_y rfl rfl (y_move rfl trivial (by conv => lhs; whnf)) ?_
      refine co_g rfl rfl trivial rfl rfl (fun hg => y_field rfl trivial rfl Tryd.runUnderlying26 rfl Tryd.sizeOf3 (by decide)) ?_
      refine co_g rfl rfl trivial rfl rfl (fun hg => y_load1 rfl hg rfl Tryd.isAgg3 rfl rfl) ?_
      refine co_g rfl rfl trivial rfl rfl (fun hg => y_move rfl trivial (by conv => lhs; whnf)) ?_
      refine co_g rfl rfl trivial rfl rfl (fun hg => y_int rfl hg hg rfl rfl rfl) ?_
      refine co_y rfl rfl (y_pick_and rfl trivial rfl (fun hp => hp) (fun _ => rfl)) ?_
      refine co_y rfl rfl (y_move rfl trivial (by conv => lhs; whnf)) ?_
      refine co_g rfl rfl trivial rfl rfl (fun hg => y_callf rfl Tryd.call16 trivial (la_known_s _) rfl) ?_
      refine co_y rfl rfl (y_pick_and rfl trivial rfl (fun hp => hp) (fun _ => rfl)) ?_
      refine co_y rfl rfl (y_assign rfl trivial (by conv => lhs; whnf)) ?_
      refine co_nil ?_
      refine cw_ret ?_
      exact ⟨_, res1 rfl trivial (by conv => lhs; whnf), _, _, rfl, rfl, cls_bool (by rw [hle, w3, w2, hi2]; simp; omega)⟩

theorem la_HistoryFew_s (n k step : Int) (σ : List CObj) : CCalls CC 9 [(.val (.int .i64 (n))), (.val (.int .i64 (k))), (.val (.int .i64 (step)))] σ fun r σ' => r = .ret (.val (.bool (true))) ∧ σ' = σ :=
  CCalls.anyw hCC (by repeat' (first | exact .val _ | exact pure_bkts _ _ | exact pure_ints _ _ | exact trivial | refine pure_agg ?_ | refine pure_tup ?_ | refine ⟨?_, ?_⟩)) (by repeat' (first | exact .val _ | exact pure_bkts _ _ | exact pure_ints _ _ | exact trivial | refine pure_agg ?_ | refine pure_tup ?_ | refine ⟨?_, ?_⟩)) (la_HistoryFew n k step) σ

end Go.Proofs.YtkhebelajdcjgaaDoor
