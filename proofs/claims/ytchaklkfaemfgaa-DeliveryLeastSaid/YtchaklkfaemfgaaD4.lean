import Derived.Test.YtchaklkfaemfgaaD3
namespace Go.Proofs.Ytchaklkfaemfgaa
open Go Go.Cl

theorem slices_Clone_L (l : List Lt) (hn : l ≠ []) (hl : l.length ≤ 1000000000) (σ : List CObj) : CCalls CC 33 [(.list (l.map Lt.cv) true none)] σ fun r σ' => r = .ret (.list (l.map Lt.cv) true none) ∧ σ' = σ :=
  CCalls.anyw hCC (args := [.list (l.map Lt.cv) true none]) (c := .list (l.map Lt.cv) true none) ⟨pure_lts _ _, trivial⟩ (pure_lts _ _) (ccalls_val ((slices_CloneV_L l hn hl []).mono fun r σ' ⟨_, h1, h2, _⟩ => ⟨_, _, h2, h1, by subst h2; exact .vecs (Nat.zero_le _) rfl (by simp) (by rw [List.drop_zero]; exact List.take_of_length_le (by simp)) (fun r hr c hc => (rows_pure (f := Lt.cv) (fun _ => Pures.all ⟨.val _, .val _, .val _, .val _, .val _, .val _, trivial⟩) _) r hr c hc)⟩)) σ
theorem de_find_r {n : Net} {num v er : Int} (h : findS (pb (CkP n)) n num = (v, er)) (hl : n.fly.length ≤ maxLen) (σ : List CObj) : CCalls CC 32 [.agg n.cells, (.val (.int .i64 num))] σ fun r σ' => r = .ret (.tup [(.val (.int .i64 v)), (.val (.int .i64 er))]) ∧ σ' = σ := by
  have := de_find_s n num hl σ
  rw [h] at this
  exact this
theorem find_ok {n : Net} {num v : Int} (h : findS (pb (CkP n)) n num = (v, 0)) : CkP n ∧ ∃ b B, fB n num = b :: B ∧ b.n = num ∧ v = (fA n num).length := by
  unfold findS at h
  split at h
  · simp at h
  · rename_i hc
    split at h
    · simp at h
    · rename_i hh
      refine ⟨pb_eq.1 (by simpa using hc), ?_⟩
      cases hB : fB n num with
      | nil => rw [hB] at hh; exact absurd rfl hh
      | cons b B =>
        rw [hB] at hh
        simp [hdEq] at hh h
        exact ⟨b, B, rfl, hh, h.symm⟩
theorem del_err {n : Net} {num v er : Int} {keep : Bool} (h : findS (pb (CkP n)) n num = (v, er)) (he : er ≠ 0) : delS (pb (CkP n)) n num keep = (zeroN, zeroR, er) := by
  unfold findS at h
  unfold delS
  split at h
  · rename_i hc
    rw [if_pos hc]; simp at h; rw [h.2]
  · rename_i hc
    rw [if_neg hc]
    split at h
    · rename_i hh
      cases hB : fB n num with
      | nil => simp at h; rw [← h.2]
      | cons b B =>
        rw [hB] at hh
        simp [hdEq] at hh h
        simp only
        rw [if_neg hh, ← h.2]
    · simp at h; exact absurd h.2.symm he
theorem del_ok {n : Net} {num : Int} {keep : Bool} {b : Lt} {B : List Lt} (hc : CkP n) (hB : fB n num = b :: B) (hb : b.n = num) : delS (pb (CkP n)) n num keep = (⟨n.next, if keep = true then n.fly else fA n num ++ B, true⟩, b.r, 0) := by
  unfold delS
  rw [if_neg (by rw [pb_yes' hc]; decide), hB]
  simp only
  rw [if_pos hb]
theorem eq_rp (x y : Rp) : ∀ w, (Op.equal 30 (.agg [.int .i64 x.t, .int .i64 x.a, .int .i64 x.m, .int .i64 x.e, .int .i64 x.o].toArray) (.agg [.int .i64 y.t, .int .i64 y.a, .int .i64 y.m, .int .i64 y.e, .int .i64 y.o].toArray)).run CC.P w = .ok (decide (x = y)) w := fun w => by
  show (Op.equal _ _ _).run Try.prog w = _
  simp [Op.equal, Op.maxDepth, go_sem] -- reads both types
  obtain ⟨a, b, c, d, e⟩ := x
  obtain ⟨a', b', c', d', e'⟩ := y
  by_cases h1 : a = a' <;> by_cases h2 : b = b' <;> by_cases h3 : c = c' <;> by_cases h4 : d = d' <;> by_cases h5 : e = e' <;> simp [h1, h2, h3, h4, h5]
def repS (n : Int) : Rp := ⟨fold n 1000 % 128, 1 + fold n 1000 / 128 % 2, fold n 1000 / 256, 1, 1 + fold n 1000 % 3⟩
theorem fold_bound {v n : Int} (hn : 2 ≤ n) : 0 ≤ fold v n ∧ fold v n < n := by
  unfold fold
  rw [if_neg (by omega)]
  exact ⟨Int.emod_nonneg _ (by omega), Int.emod_lt_of_pos _ (by omega)⟩
theorem rep_right (n : Int) : RightP (repS n) := by
  have := fold_bound (v := n) (n := 1000) (by omega)
  exact ⟨by simp only [repS]; omega, by simp only [repS]; omega, by simp only [repS]; omega, by simp only [repS]; omega, by simp only [repS]; omega⟩

set_option maxRecDepth 10000 in
theorem de_Deliver (n : Net) (num : Int) (keep : Bool) (hnn : n.nn = false → n.fly = []) (hl : n.fly.length ≤ maxLen) : CCalls CC 11 [.agg n.cells, (.val (.int .i64 (num))), (.val (.bool (keep)))] [] fun r σ' => r = .ret (.tup [.agg (delS (pb (CkP n)) n num keep).1.cells, .agg (delS (pb (CkP n)) n num keep).2.1.cells, (.val (.int .i64 ((delS (pb (CkP n)) n num keep).2.2)))]) ∧ σ' = [] := by
  obtain ⟨v, er, hfs⟩ : ∃ v er, findS (pb (CkP n)) n num = (v, er) := ⟨_, _, rfl⟩
  obtain ⟨nx, fl, nn0⟩ := n
  refine ccalls_val (ccalls_of Try.func11 rfl rfl ?_)
  refine cw_seq ?_
  refine cw_region ?_
  refine co_d rfl rfl (d_box rfl trivial (by conv => lhs; whnf) (.inr ⟨_, rfl⟩) ?_)
  refine co_d rfl rfl (d_alloc rfl Try.zeroValue25 rfl (.inr ⟨_, rfl⟩) ?_)
  refine co_d rfl rfl (d_alloc rfl Try.zeroValue30 rfl (.inr ⟨_, rfl⟩) ?_)
  refine co_y rfl rfl (y_assign rfl rfl (by conv => lhs; whnf)) ?_
  refine co_nil ?_
  refine cw_seq ?_
  refine cw_region ?_
  refine co_y rfl rfl (y_load rfl trivial rfl Try.isAgg25 Try.sizeOf25 rfl (Nat.le_of_ble_eq_true rfl)) ?_
  refine co_y rfl rfl (y_move rfl trivial (by conv => lhs; whnf)) ?_
  refine co_y rfl rfl (y_callf rfl Try.call32 ⟨trivial, trivial, trivial⟩ (de_find_r hfs hl _) rfl) ?_
  refine co_y rfl rfl (y_move rfl trivial (by conv => lhs; whnf)) ?_
  refine co_y rfl rfl (y_extract rfl trivial rfl rfl) ?_
  refine co_y rfl rfl (y_extract rfl trivial rfl rfl) ?_
  refine co_y rfl rfl (y_assign rfl trivial (by conv => lhs; whnf)) ?_
  refine co_y rfl rfl (y_assign rfl trivial (by conv => lhs; whnf)) ?_
  refine co_nil ?_
  refine cw_seq ?_
  refine cw_seq ?_
  refine cw_region ?_
  refine co_y rfl rfl (y_move rfl trivial (by conv => lhs; whnf)) ?_
  refine co_y rfl rfl (y_int rfl trivial rfl rfl rfl rfl) ?_
  refine co_nil ?_
  refine cw_cond trivial rfl (fun h1 => ?_) (fun h1 => ?_)
  · have he : er ≠ 0 := by simpa using h1
    refine cw_seq ?_
    refine cw_region ?_
    refine co_y rfl rfl (y_build' #[(0, 1), (1, 1)] rfl trivial Try.runUnderlying25 Try.zeroValue25 rfl ⟨_, rfl⟩ (fun w => by kernel_rfl) rfl rfl) ?_
    refine co_y rfl rfl (y_build' #[(0, 1), (1, 1), (2, 1), (3, 1), (4, 1)] rfl trivial Try.runUnderlying30 Try.zeroValue30 rfl ⟨_, rfl⟩ (fun w => by kernel_rfl) rfl rfl) ?_
    refine co_y rfl rfl (y_move rfl trivial (by conv => lhs; whnf)) ?_
    refine co_d rfl rfl (d_store rfl trivial trivial rfl (by conv => lhs; whnf) Try.sizeOf25 (.inr ⟨_, rfl⟩) rfl rfl (Nat.le_of_ble_eq_true rfl) ?_)
    refine co_d rfl rfl (d_store rfl trivial trivial rfl (by conv => lhs; whnf) Try.sizeOf30 (.inr ⟨_, rfl⟩) rfl rfl (Nat.le_of_ble_eq_true rfl) ?_)
    refine co_y rfl rfl (y_assign rfl trivial (by conv => lhs; whnf)) ?_
    refine co_nil ?_
    refine cw_ret ?_
    exact ⟨_, res_all (rs := [.cell 6 25, .cell 7 30, .tmp 8]) (cs := [_, _, _]) rfl ⟨⟨trivial, _, _, _, rfl, rfl, .inr ⟨_, Try.isAgg25, Try.sizeOf25, Nat.le_of_ble_eq_true rfl, rfl⟩⟩, ⟨trivial, _, _, _, rfl, rfl, .inr ⟨_, Try.isAgg30, Try.sizeOf30, Nat.le_of_ble_eq_true rfl, rfl⟩⟩, ⟨trivial, (by conv => lhs; whnf)⟩, trivial⟩ (Nat.ne_of_beq_eq_false rfl), _, _, rfl, rfl, (cls_eq (by rw [del_err hfs he]; rfl) (by repeat' (first | exact .val _ | exact pure_lts _ _ | exact pure_rps _ _ | exact pure_ints _ _ | exact trivial | refine pure_agg ?_ | refine pure_tup ?_ | refine ⟨?_, ?_⟩)))⟩
  · have he : er = 0 := by simpa using h1
    subst he
    obtain ⟨hck, b, B, hB, hb, hv⟩ := find_ok hfs
    subst hv
    have hnn1 : nn0 = true := by
      cases nn0 with
      | true => rfl
      | false =>
        have h1 := hnn rfl
        have h2 := fAB (Net.mk nx fl false) num
        rw [hB] at h2
        simp only at h1 h2
        rw [h1] at h2
        simp at h2
    subst hnn1
    have hfl : fl = fA (Net.mk nx fl true) num ++ b :: B := by
      have h2 := fAB (Net.mk nx fl true) num
      rw [hB] at h2
      exact h2
    have hlen := hck.len
    have hb1 : fl[((fA (Net.mk nx fl true) num).length : Int).toNat]? = some b := by
      rw [Int.toNat_natCast]
      have h3 : (fA (Net.mk nx fl true) num ++ b :: B)[(fA (Net.mk nx fl true) num).length]? = some b := by simp
      rwa [← hfl] at h3
    have hne : fl ≠ [] := by rw [hfl]; simp
    dsimp only at hlen
    refine cw_skip ?_
    refine cw_seq ?_
    refine cw_region ?_
    refine co_y rfl rfl (y_field rfl trivial rfl Try.runUnderlying25 rfl Try.sizeOf23 (by decide)) ?_
    refine co_y rfl rfl (y_load1 rfl trivial rfl Try.isAgg23 rfl rfl) ?_
    refine co_y rfl rfl (y_move rfl trivial (by conv => lhs; whnf)) ?_
    refine co_y rfl rfl (y_index rfl trivial trivial rfl rfl Try.runUnderlying23 Try.sizeOf50 (by omega) (rows_get hb1) rfl) ?_
    refine co_y rfl rfl (y_field_c rfl trivial rfl Try.runUnderlying50 rfl Try.sizeOf30 (by decide)) ?_
    refine co_y rfl rfl (y_load_c rfl trivial rfl Try.isAgg30 Try.sizeOf30 (Nat.le_of_ble_eq_true rfl)) ?_
    refine co_d rfl rfl (d_alloc rfl Try.zeroValue30 rfl (.inr ⟨_, rfl⟩) ?_)
    refine co_d rfl rfl (d_store rfl trivial trivial rfl (by conv => lhs; whnf) Try.sizeOf30 (.inr ⟨_, rfl⟩) rfl rfl (Nat.le_of_ble_eq_true rfl) ?_)
    refine co_nil ?_
    refine cw_seq ?_
    refine cw_seq ?_
    refine cw_region ?_
    refine co_y rfl rfl (y_move rfl trivial (by conv => lhs; whnf)) ?_
    refine co_nil ?_
    refine cw_cond trivial rfl (fun h2 => ?_) (fun h2 => ?_)
    · have hk : keep = true := h2
      subst hk
      refine cw_seq ?_
      refine cw_region ?_
      refine co_y rfl rfl (y_field rfl trivial rfl Try.runUnderlying25 rfl Try.sizeOf23 (by decide)) ?_
      refine co_y rfl rfl (y_load1 rfl trivial rfl Try.isAgg23 rfl rfl) ?_
      refine co_y rfl rfl (y_callf rfl Try.call33 ⟨trivial, trivial⟩ (slices_Clone_L fl hne (by omega) _) rfl) ?_
      refine co_y rfl rfl (y_field rfl trivial rfl Try.runUnderlying25 rfl Try.sizeOf23 (by decide)) ?_
      refine co_d rfl rfl (d_store rfl trivial trivial rfl (by conv => lhs; whnf) Try.sizeOf23 (.inl rfl) rfl rfl (Nat.le_of_ble_eq_true rfl) ?_)
      refine co_nil ?_
      refine cw_seq ?_
      refine cw_float [0, 1, 2, 3, 4] 2 [0, 0, 1, 7, 15] [[1], [], []] (hd1l := [0, 1]) (tll := [(2, [1]), (3, []), (4, [])]) (by kernel_rfl) (by kernel_rfl) rfl rfl rfl ?_
      refine chf rfl (hop_y rfl (y_load rfl trivial rfl Try.isAgg25 Try.sizeOf25 rfl (Nat.le_of_ble_eq_true rfl))) ?_
      refine chf rfl (hop_y rfl (y_load rfl trivial rfl Try.isAgg30 Try.sizeOf30 rfl (Nat.le_of_ble_eq_true rfl))) ?_
      refine chf_nil ?_
      refine ctl_d rfl rfl (d_store rfl trivial trivial rfl (by conv => lhs; whnf) Try.sizeOf25 (.inr ⟨_, rfl⟩) rfl rfl (Nat.le_of_ble_eq_true rfl) ?_)
      refine ⟨⟨(by exact hop_y rfl (y_load rfl trivial rfl Try.isAgg30 Try.sizeOf30 rfl (Nat.le_of_ble_eq_true rfl))), trivial⟩, ?_⟩
      refine ctl_d rfl rfl (d_store rfl trivial trivial rfl (by conv => lhs; whnf) Try.sizeOf30 (.inr ⟨_, rfl⟩) rfl rfl (Nat.le_of_ble_eq_true rfl) ?_)
      refine ⟨trivial, ?_⟩
      refine ctl_h rfl (hop_y rfl (y_assign rfl rfl (by conv => lhs; whnf))) ⟨trivial, ?_⟩
      refine ctl_nil ?_
      refine cw_ret ?_
      exact ⟨_, res_all (rs := [.cell 6 25, .cell 7 30, .tmp 8]) (cs := [_, _, _]) rfl ⟨⟨trivial, _, _, _, rfl, rfl, .inr ⟨_, Try.isAgg25, Try.sizeOf25, Nat.le_of_ble_eq_true rfl, rfl⟩⟩, ⟨trivial, _, _, _, rfl, rfl, .inr ⟨_, Try.isAgg30, Try.sizeOf30, Nat.le_of_ble_eq_true rfl, rfl⟩⟩, ⟨trivial, (by conv => lhs; whnf)⟩, trivial⟩ (Nat.ne_of_beq_eq_false rfl), _, _, rfl, rfl, (cls_eq (by rw [del_ok hck hB hb]; rfl) (by repeat' (first | exact .val _ | exact pure_lts _ _ | exact pure_rps _ _ | exact pure_ints _ _ | exact trivial | refine pure_agg ?_ | refine pure_tup ?_ | refine ⟨?_, ?_⟩)))⟩
    · have hk : keep = false := h2
      subst hk
      refine cw_skip ?_
      refine cw_seq ?_
      refine cw_float [0, 1, 2, 3, 4, 5, 6] 4 [0, 0, 3, 0, 7, 31, 63] [[3], [], []] (hd1l := [0, 1, 2, 3]) (tll := [(4, [3]), (5, []), (6, [])]) (by kernel_rfl) (by kernel_rfl) rfl rfl rfl ?_
      refine chf rfl (hop_y rfl (y_load rfl trivial rfl Try.isAgg25 Try.sizeOf25 rfl (Nat.le_of_ble_eq_true rfl))) ?_
      refine chf rfl (hop_y rfl (y_move rfl trivial (by conv => lhs; whnf))) ?_
      refine chf rfl (hop_y rfl (y_callf rfl Try.call34 ⟨trivial, trivial, trivial⟩ (de_without_s (Net.mk nx fl true) (fA (Net.mk nx fl true) num) b B hfl rfl (by dsimp only; omega) _) rfl)) ?_
      refine chf rfl (hop_y rfl (y_load rfl trivial rfl Try.isAgg30 Try.sizeOf30 rfl (Nat.le_of_ble_eq_true rfl))) ?_
      refine chf_nil ?_
      refine ctl_d rfl rfl (d_store rfl trivial trivial rfl (by conv => lhs; whnf) Try.sizeOf25 (.inr ⟨_, rfl⟩) rfl rfl (Nat.le_of_ble_eq_true rfl) ?_)
      refine ⟨⟨(by exact hop_y rfl (y_load rfl trivial rfl Try.isAgg30 Try.sizeOf30 rfl (Nat.le_of_ble_eq_true rfl))), trivial⟩, ?_⟩
      refine ctl_d rfl rfl (d_store rfl trivial trivial rfl (by conv => lhs; whnf) Try.sizeOf30 (.inr ⟨_, rfl⟩) rfl rfl (Nat.le_of_ble_eq_true rfl) ?_)
      refine ⟨trivial, ?_⟩
      refine ctl_h rfl (hop_y rfl (y_assign rfl rfl (by conv => lhs; whnf))) ⟨trivial, ?_⟩
      refine ctl_nil ?_
      refine cw_ret ?_
      exact ⟨_, res_all (rs := [.cell 6 25, .cell 7 30, .tmp 8]) (cs := [_, _, _]) rfl ⟨⟨trivial, _, _, _, rfl, rfl, .inr ⟨_, Try.isAgg25, Try.sizeOf25, Nat.le_of_ble_eq_true rfl, rfl⟩⟩, ⟨trivial, _, _, _, rfl, rfl, .inr ⟨_, Try.isAgg30, Try.sizeOf30, Nat.le_of_ble_eq_true rfl, rfl⟩⟩, ⟨trivial, (by conv => lhs; whnf)⟩, trivial⟩ (Nat.ne_of_beq_eq_false rfl), _, _, rfl, rfl, (cls_eq (by rw [del_ok hck hB hb]; rfl) (by repeat' (first | exact .val _ | exact pure_lts _ _ | exact pure_rps _ _ | exact pure_ints _ _ | exact trivial | refine pure_agg ?_ | refine pure_tup ?_ | refine ⟨?_, ?_⟩)))⟩

theorem de_Deliver_s (n : Net) (num : Int) (keep : Bool) (hnn : n.nn = false → n.fly = []) (hl : n.fly.length ≤ maxLen) (σ : List CObj) : CCalls CC 11 [.agg n.cells, (.val (.int .i64 (num))), (.val (.bool (keep)))] σ fun r σ' => r = .ret (.tup [.agg (delS (pb (CkP n)) n num keep).1.cells, .agg (delS (pb (CkP n)) n num keep).2.1.cells, (.val (.int .i64 ((delS (pb (CkP n)) n num keep).2.2)))]) ∧ σ' = σ :=
  CCalls.anyw hCC (by repeat' (first | exact .val _ | exact pure_lts _ _ | exact pure_rps _ _ | exact pure_ints _ _ | exact trivial | refine pure_agg ?_ | refine pure_tup ?_ | refine ⟨?_, ?_⟩)) (by repeat' (first | exact .val _ | exact pure_lts _ _ | exact pure_rps _ _ | exact pure_ints _ _ | exact trivial | refine pure_agg ?_ | refine pure_tup ?_ | refine ⟨?_, ?_⟩)) (de_Deliver n num keep hnn hl) σ

set_option maxRecDepth 10000 in
theorem ld_report (n : Int) : CCalls CC 10 [(.val (.int .i64 (n)))] [] fun r σ' => r = .ret (.agg (repS n).cells) ∧ σ' = [] := by
  have hb := fold_bound (v := n) (n := 1000) (by omega)
  refine ccalls_val (ccalls_of Try.func10 rfl rfl ?_)
  refine cw_seq ?_
  refine cw_region ?_
  refine co_d rfl rfl (d_alloc rfl Try.zeroValue30 rfl (.inr ⟨_, rfl⟩) ?_)
  refine co_nil ?_
  refine cw_seq ?_
  refine cw_region ?_
  refine co_y rfl rfl (y_move rfl trivial (by conv => lhs; whnf)) ?_
  refine co_y rfl rfl (y_callf rfl Try.call8 ⟨trivial, rfl, trivial⟩ (mk_Fold_s n 1000 (by omega) _) rfl) ?_
  refine co_y rfl rfl (y_assign rfl trivial (by conv => lhs; whnf)) ?_
  refine co_nil ?_
  refine cw_seq ?_
  refine cw_region ?_
  refine co_y rfl rfl (y_move rfl trivial (by conv => lhs; whnf)) ?_
  refine co_y rfl rfl (y_int rfl trivial rfl rfl rfl (cq_rem_pos (by omega) (by omega))) ?_
  refine co_y rfl rfl (y_move rfl trivial (by conv => lhs; whnf)) ?_
  refine co_y rfl rfl (y_int rfl trivial rfl rfl rfl (cq_pos (by omega) (by omega) (by omega))) ?_
  refine co_y rfl rfl (y_int rfl trivial rfl rfl rfl (cq_rem_pos (by omega) (by omega))) ?_
  refine co_y rfl rfl (y_add rfl rfl trivial rfl rfl (by omega) (by omega)) ?_
  refine co_y rfl rfl (y_move rfl trivial (by conv => lhs; whnf)) ?_
  refine co_y rfl rfl (y_int rfl trivial rfl rfl rfl (cq_pos (by omega) (by omega) (by omega))) ?_
  refine co_y rfl rfl (y_move rfl trivial (by conv => lhs; whnf)) ?_
  refine co_y rfl rfl (y_int rfl trivial rfl rfl rfl (cq_rem_pos (by omega) (by omega))) ?_
  refine co_y rfl rfl (y_add rfl rfl trivial rfl rfl (by omega) (by omega)) ?_
  refine co_y rfl rfl (y_build' #[(0, 1), (1, 1), (2, 1), (3, 1), (4, 1)] rfl ⟨trivial, trivial, trivial, rfl, trivial, trivial⟩ Try.runUnderlying30 Try.zeroValue30 rfl ⟨_, rfl⟩ (fun w => by kernel_rfl) rfl rfl) ?_
  refine co_d rfl rfl (d_store rfl trivial trivial rfl (by conv => lhs; whnf) Try.sizeOf30 (.inr ⟨_, rfl⟩) rfl rfl (Nat.le_of_ble_eq_true rfl) ?_)
  refine co_nil ?_
  refine cw_ret ?_
  exact ⟨_, res_one rfl ⟨trivial, _, _, _, rfl, rfl, .inr ⟨_, Try.isAgg30, Try.sizeOf30, Nat.le_of_ble_eq_true rfl, rfl⟩⟩, _, _, rfl, rfl, (cls_eq rfl (by repeat' (first | exact .val _ | exact pure_lts _ _ | exact pure_rps _ _ | exact pure_ints _ _ | exact trivial | refine pure_agg ?_ | refine pure_tup ?_ | refine ⟨?_, ?_⟩)))⟩

theorem ld_report_s (n : Int) (σ : List CObj) : CCalls CC 10 [(.val (.int .i64 (n)))] σ fun r σ' => r = .ret (.agg (repS n).cells) ∧ σ' = σ :=
  CCalls.anyw hCC (by repeat' (first | exact .val _ | exact pure_lts _ _ | exact pure_rps _ _ | exact pure_ints _ _ | exact trivial | refine pure_agg ?_ | refine pure_tup ?_ | refine ⟨?_, ?_⟩)) (by repeat' (first | exact .val _ | exact pure_lts _ _ | exact pure_rps _ _ | exact pure_ints _ _ | exact trivial | refine pure_agg ?_ | refine pure_tup ?_ | refine ⟨?_, ?_⟩)) (ld_report n) σ

set_option maxRecDepth 10000 in
theorem de_Whole  : CCalls CC 21 [(.agg (Bx.cells ⟨[], false⟩))] [] fun r σ' => r = .ret (.val (.bool (true))) ∧ σ' = [] := by
  refine ccalls_val (ccalls_of Try.func21 rfl rfl ?_)
  refine cw_seq ?_
  refine cw_region ?_
  refine co_d rfl rfl (d_box rfl trivial (by conv => lhs; whnf) (.inr ⟨_, rfl⟩) ?_)
  refine co_y rfl rfl (y_assign rfl rfl (by conv => lhs; whnf)) ?_
  refine co_nil ?_
  refine cw_seq ?_
  refine cw_seq ?_
  refine cw_region ?_
  refine co_y rfl rfl (y_field rfl trivial rfl Try.runUnderlying46 rfl Try.sizeOf44 (by decide)) ?_
  refine co_y rfl rfl (y_load1 rfl trivial rfl Try.isAgg44 rfl rfl) ?_
  refine co_y rfl rfl (y_len rfl trivial rfl Try.runUnderlying44 (by first | exact len_map _ _ | rfl) rfl) ?_
  refine co_y rfl rfl (y_int rfl trivial rfl rfl rfl rfl) ?_
  refine co_nil ?_
  refine cw_cond trivial rfl (fun h1 => ?_) (fun h1 => ?_)
  · exfalso
    simp at h1
  · skip
    refine cw_skip ?_
    refine cw_seq ?_
    refine cw_seq ?_
    refine cw_region ?_
    refine co_y rfl rfl (y_field rfl trivial rfl Try.runUnderlying46 rfl Try.sizeOf44 (by decide)) ?_
    refine co_y rfl rfl (y_load1 rfl trivial rfl Try.isAgg44 rfl rfl) ?_
    refine co_y rfl rfl (y_len rfl trivial rfl Try.runUnderlying44 (by first | exact len_map _ _ | rfl) rfl) ?_
    refine co_y rfl rfl (y_move rfl rfl (by conv => lhs; whnf)) ?_
    refine co_nil ?_
    refine cw_block ?_
    refine cw_loopd hCC (α := Unit) (fun _ => [(1, .ptr 0 0), (10, (.list (([] : List Rp).map Rp.cv) false none)), (11, (.val (.int .i64 (0)))), (12, (.val (.int .i64 (0))))]) (fun _ => [.box (Bx.cells ⟨[], false⟩)]) (fun _ => True) (fun _ => 0) () trivial ⟨⟨trivial, rfl⟩, ⟨trivial, rfl⟩, ⟨trivial, rfl⟩, ⟨trivial, rfl⟩, trivial⟩ (extra0 := []) rfl (fun _ _ => Nat.le_of_ble_eq_true rfl) (fun a ha => by repeat' (first | exact trivial | exact .val _ | exact .ptr (Nat.le_of_ble_eq_true rfl) | exact .map (Nat.le_of_ble_eq_true rfl) | exact (by first | exact old_lts _ _ _ | exact old_rps _ _ _ | exact old_ints _ _ _) | refine old_box ?_ | refine ⟨?_, ?_⟩)) ?_
    intro _ _
    refine cw_seq ?_
    refine cw_region ?_
    refine co_y rfl rfl (y_int rfl trivial trivial rfl rfl rfl) ?_
    refine co_nil ?_
    refine cw_seq ?_
    refine cw_cond trivial rfl (fun h2 => ?_) (fun h2 => ?_)
    · exfalso
      simp at h2
    · skip
      refine cw_exit ?_
      refine cw_seq ?_
      refine cw_region ?_
      refine co_y rfl rfl (y_assign rfl rfl (by conv => lhs; whnf)) ?_
      refine co_nil ?_
      refine cw_ret ?_
      exact ⟨_, res1 rfl trivial (by conv => lhs; whnf), _, _, rfl, rfl, cls_bool rfl⟩

theorem de_Whole_s  (σ : List CObj) : CCalls CC 21 [(.agg (Bx.cells ⟨[], false⟩))] σ fun r σ' => r = .ret (.val (.bool (true))) ∧ σ' = σ :=
  CCalls.anyw hCC (by repeat' (first | exact .val _ | exact pure_lts _ _ | exact pure_rps _ _ | exact pure_ints _ _ | exact trivial | refine pure_agg ?_ | refine pure_tup ?_ | refine ⟨?_, ?_⟩)) (by repeat' (first | exact .val _ | exact pure_lts _ _ | exact pure_rps _ _ | exact pure_ints _ _ | exact trivial | refine pure_agg ?_ | refine pure_tup ?_ | refine ⟨?_, ?_⟩)) (de_Whole) σ

end Go.Proofs.Ytchaklkfaemfgaa
