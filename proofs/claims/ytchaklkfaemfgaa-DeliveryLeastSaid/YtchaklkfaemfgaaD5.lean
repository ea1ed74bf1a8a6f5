import Derived.Test.YtchaklkfaemfgaaD4
namespace Go.Proofs.Ytchaklkfaemfgaa
open Go Go.Cl

theorem asc_weak {l : List Lt} {lo lo' hi : Int} (h : Asc l lo hi) (hl : lo' ≤ lo) : Asc l lo' hi := by
  cases l with
  | nil => trivial
  | cons x l => exact ⟨⟨by have := h.1.1; omega, h.1.2⟩, h.2⟩
theorem asc_filter (p : Lt → Bool) : ∀ {l : List Lt} {lo hi : Int}, Asc l lo hi → Asc (l.filter p) lo hi
  | [], _, _, _ => trivial
  | x :: l, lo, hi, ⟨h1, h⟩ => by
    rw [List.filter_cons]
    split
    · exact ⟨h1, asc_filter p h⟩
    · exact asc_weak (asc_filter p h) (by omega)
theorem asc_snoc {x : Rp} (hx : RightP x) : ∀ {l : List Lt} {lo hi : Int}, Asc l lo hi → lo < hi → Asc (l ++ [⟨hi, x⟩]) lo (hi + 1)
  | [], lo, hi, _, h => ⟨⟨h, by show hi < hi + 1; omega, hx⟩, trivial⟩
  | y :: l, lo, hi, ⟨h1, h⟩, hlo => ⟨⟨h1.1, by omega, h1.2.2⟩, asc_snoc hx h h1.2.1⟩
theorem asc_tail : ∀ {A B : List Lt} {lo hi : Int}, Asc (A ++ B) lo hi → ∃ lo', Asc B lo' hi
  | [], _, lo, _, h => ⟨lo, h⟩
  | _ :: _, _, _, _, h => asc_tail h.2
theorem send_ok {n : Net} {x : Rp} (hc : CkP n) (hx : RightP x) (h1 : n.fly.length ≠ 64) (h2 : n.next ≠ 1073741824) : sendS (pb (CkP n)) (pb (RightP x)) n x = (⟨n.next + 1, n.fly ++ [⟨n.next, x⟩], true⟩, 0) := by
  rw [sendS, if_neg (by rw [pb_yes' hc, pb_yes' hx]; simp), if_neg h1, if_neg h2]
theorem send_full {n : Net} {x : Rp} (hc : CkP n) (hx : RightP x) (h1 : n.fly.length = 64) : sendS (pb (CkP n)) (pb (RightP x)) n x = (zeroN, 42) := by
  rw [sendS, if_neg (by rw [pb_yes' hc, pb_yes' hx]; simp), if_pos h1]
theorem send_keeps {n : Net} {x : Rp} (hc : CkP n) (hx : RightP x) (h1 : n.fly.length ≠ 64) (h2 : n.next ≠ 1073741824) : CkP ⟨n.next + 1, n.fly ++ [⟨n.next, x⟩], true⟩ := by
  have g1 := hc.len
  have g2 := hc.next
  exact ⟨by simp; omega, by simp only; omega, asc_snoc hx hc.asc (by omega)⟩
theorem del_some {n : Net} {num : Int} {keep : Bool} {b : Lt} (hc : CkP n) (hb : b ∈ n.fly) (hbn : b.n = num) : delS (pb (CkP n)) n num keep = (⟨n.next, if keep = true then n.fly else n.fly.filter (fun x => decide (x.n ≠ num)), true⟩, b.r, 0) := by
  have hAB := fAB n num
  have hA := fA_lt n num
  have hB := fB_ge hc num
  have hbB : b ∈ fB n num := by
    rw [hAB] at hb
    rcases List.mem_append.1 hb with h | h
    · have := hA b h; omega
    · exact h
  cases hf : fB n num with
  | nil => rw [hf] at hbB; simp at hbB
  | cons h B =>
    rw [hf] at hbB hB hAB
    obtain ⟨lo', hasc⟩ := asc_tail (by have := hc.asc; rw [hAB] at this; exact this)
    have hall := asc_all hasc.2
    have hh : h.n = num ∧ b = h := by
      have h0 := hB h (by simp)
      rcases List.mem_cons.1 hbB with rfl | hbb
      · exact ⟨hbn, rfl⟩
      · have := hall b hbb; omega
    obtain ⟨hh1, rfl⟩ := hh
    rw [del_ok hc hf hh1]
    have e : fA n num ++ B = n.fly.filter (fun x => decide (x.n ≠ num)) := by
      have e1 : (fA n num).filter (fun x => decide (x.n ≠ num)) = fA n num := List.filter_eq_self.2 fun a ha => by have := hA a ha; simp; omega
      have e2 : B.filter (fun x => decide (x.n ≠ num)) = B := List.filter_eq_self.2 fun a ha => by have := hall a ha; simp; omega
      conv => rhs; rw [hAB]
      rw [List.filter_append, List.filter_cons_of_neg (by simp [hh1]), e1, e2]
    rw [e]
theorem del_none {n : Net} {num : Int} {keep : Bool} (hc : CkP n) (h : ∀ b ∈ n.fly, b.n ≠ num) : delS (pb (CkP n)) n num keep = (zeroN, zeroR, 18) := by
  unfold delS
  rw [if_neg (by rw [pb_yes' hc]; decide)]
  cases hf : fB n num with
  | nil => rfl
  | cons b B =>
    simp only
    rw [if_neg (h b (by rw [fAB n num, hf]; simp))]
theorem ck_filter {n : Net} (hc : CkP n) (p : Lt → Bool) (nn : Bool) : CkP ⟨n.next, n.fly.filter p, nn⟩ := ⟨Nat.le_trans (List.length_filter_le _ _) hc.len, hc.next, asc_filter p hc.asc⟩
theorem de_Send_r {n : Net} {x : Rp} {n' : Net} {e : Int} (h : sendS (pb (CkP n)) (pb (RightP x)) n x = (n', e)) (hl : n.fly.length ≤ maxLen) (σ : List CObj) : CCalls CC 9 [.agg n.cells, .agg x.cells] σ fun r σ' => r = .ret (.tup [.agg n'.cells, (.val (.int .i64 e))]) ∧ σ' = σ := by
  have := de_Send_s n x hl σ
  rw [h] at this
  exact this
theorem de_Deliver_r {n : Net} {num : Int} {keep : Bool} {n' : Net} {r' : Rp} {e : Int} (h : delS (pb (CkP n)) n num keep = (n', r', e)) (hnn : n.nn = false → n.fly = []) (hl : n.fly.length ≤ maxLen) (σ : List CObj) : CCalls CC 11 [.agg n.cells, (.val (.int .i64 num)), (.val (.bool keep))] σ fun r σ' => r = .ret (.tup [.agg n'.cells, .agg r'.cells, (.val (.int .i64 e))]) ∧ σ' = σ := by
  have := de_Deliver_s n num keep hnn hl σ
  rw [h] at this
  exact this
theorem ck_zero (nn : Bool) : CkP ⟨0, [], nn⟩ := ⟨by simp, by simp, trivial⟩
theorem ck_max {n : Net} (h : CkP n) : n.fly.length ≤ maxLen := by have := h.len; unfold maxLen; omega
/-- The network of the example. -/
def k1 : Net := ⟨0 + 1, [] ++ [⟨0, repS 1⟩], true⟩
def k2 : Net := ⟨0 + 1 + 1, [] ++ [⟨0, repS 1⟩] ++ [⟨0 + 1, repS 2⟩], true⟩
def k3 : Net := ⟨2, [⟨0, repS 1⟩], true⟩
theorem ck1 : CkP k1 := send_keeps (ck_zero false) (rep_right 1) (by simp) (by simp)
theorem ck2 : CkP k2 := send_keeps ck1 (rep_right 2) (by simp [k1]) (by simp [k1])
theorem kd1 : delS (pb (CkP k2)) k2 1 true = (k2, repS 2, 0) := by
  rw [del_some (b := ⟨0 + 1, repS 2⟩) ck2 (by simp [k2]) (by rfl)]; rfl
theorem kd2 : delS (pb (CkP k2)) k2 1 false = (k3, repS 2, 0) := by
  rw [del_some (b := ⟨0 + 1, repS 2⟩) ck2 (by simp [k2]) (by rfl)]; rfl
theorem ck3 : CkP k3 := by
  have := ck_filter ck2 (fun x => decide (x.n ≠ 1)) true
  exact this
theorem kd3 : delS (pb (CkP k3)) k3 1 false = (zeroN, zeroR, 18) := del_none ck3 (by simp [k3])

set_option maxRecDepth 10000 in
theorem ld_known  : CCalls CC 12 [] [] fun r σ' => r = .ret (.val (.bool (true))) ∧ σ' = [] := by
  refine ccalls_val (ccalls_of Try.func12 rfl rfl ?_)
  refine cw_seq ?_
  refine cw_region ?_
  refine co_y rfl rfl (y_assign rfl rfl (by conv => lhs; whnf)) ?_
  refine co_nil ?_
  refine cw_seq ?_
  refine cw_region ?_
  refine co_y rfl rfl (y_build' #[(0, 1), (1, 1)] rfl trivial Try.runUnderlying25 Try.zeroValue25 rfl ⟨_, rfl⟩ (fun w => by kernel_rfl) rfl rfl) ?_
  refine co_y rfl rfl (y_callf rfl Try.call10 ⟨rfl, trivial⟩ (ld_report_s 1 _) rfl) ?_
  refine co_y rfl rfl (y_callf rfl Try.call9 ⟨trivial, trivial, trivial⟩ (de_Send_r (n := ⟨0, [], false⟩) (n' := k1) (e := 0) (send_ok (ck_zero false) (rep_right 1) (by simp) (by simp)) (by unfold maxLen; simp) _) rfl) ?_
  refine co_y rfl rfl (y_move rfl trivial (by conv => lhs; whnf)) ?_
  refine co_y rfl rfl (y_extract rfl trivial rfl rfl) ?_
  refine co_y rfl rfl (y_extract rfl trivial rfl rfl) ?_
  refine co_d rfl rfl (d_alloc rfl Try.zeroValue25 rfl (.inr ⟨_, rfl⟩) ?_)
  refine co_d rfl rfl (d_store rfl trivial trivial rfl (by conv => lhs; whnf) Try.sizeOf25 (.inr ⟨_, rfl⟩) rfl rfl (Nat.le_of_ble_eq_true rfl) ?_)
  refine co_y rfl rfl (y_assign rfl trivial (by conv => lhs; whnf)) ?_
  refine co_nil ?_
  refine cw_seq ?_
  refine cw_float [0, 1, 2, 3, 4, 5, 6, 7] 6 [0, 0, 3, 7, 15, 15, 31, 127] [[5], []] (hd1l := [0, 1, 2, 3, 4, 5]) (tll := [(6, [5]), (7, [])]) (by kernel_rfl) (by kernel_rfl) rfl rfl rfl ?_
  refine chf rfl (hop_y rfl (y_load rfl trivial rfl Try.isAgg25 Try.sizeOf25 rfl (Nat.le_of_ble_eq_true rfl))) ?_
  refine chf rfl (hop_y rfl (y_callf rfl Try.call10 ⟨rfl, trivial⟩ (ld_report_s 2 _) rfl)) ?_
  refine chf rfl (hop_y rfl (y_callf rfl Try.call9 ⟨trivial, trivial, trivial⟩ (de_Send_r (n := k1) (n' := k2) (e := 0) (send_ok ck1 (rep_right 2) (by simp [k1]) (by simp [k1])) (ck_max ck1) _) rfl)) ?_
  refine chf rfl (hop_y rfl (y_move rfl trivial (by conv => lhs; whnf))) ?_
  refine chf rfl (hop_y rfl (y_extract rfl trivial rfl rfl)) ?_
  refine chf rfl (hop_y rfl (y_extract rfl trivial rfl rfl)) ?_
  refine chf_nil ?_
  refine ctl_d rfl rfl (d_store rfl trivial trivial rfl (by conv => lhs; whnf) Try.sizeOf25 (.inr ⟨_, rfl⟩) rfl rfl (Nat.le_of_ble_eq_true rfl) ?_)
  refine ⟨⟨(by exact hop_y rfl (y_extract rfl trivial rfl rfl)), trivial⟩, ?_⟩
  refine ctl_h rfl (hop_y rfl (y_assign rfl trivial (by conv => lhs; whnf))) ⟨trivial, ?_⟩
  refine ctl_nil ?_
  refine cw_seq ?_
  refine cw_region ?_
  refine co_y rfl rfl (y_load rfl trivial rfl Try.isAgg25 Try.sizeOf25 rfl (Nat.le_of_ble_eq_true rfl)) ?_
  refine co_y rfl rfl (y_callf rfl Try.call11 ⟨trivial, rfl, rfl, trivial⟩ (de_Deliver_r kd1 (fun h => by cases h) (ck_max ck2) _) rfl) ?_
  refine co_y rfl rfl (y_move rfl trivial (by conv => lhs; whnf)) ?_
  refine co_y rfl rfl (y_extract rfl trivial rfl rfl) ?_
  refine co_y rfl rfl (y_extract rfl trivial rfl rfl) ?_
  refine co_y rfl rfl (y_extract rfl trivial rfl rfl) ?_
  refine co_d rfl rfl (d_alloc rfl Try.zeroValue30 rfl (.inr ⟨_, rfl⟩) ?_)
  refine co_d rfl rfl (d_store rfl trivial trivial rfl (by conv => lhs; whnf) Try.sizeOf25 (.inr ⟨_, rfl⟩) rfl rfl (Nat.le_of_ble_eq_true rfl) ?_)
  refine co_d rfl rfl (d_store rfl trivial trivial rfl (by conv => lhs; whnf) Try.sizeOf30 (.inr ⟨_, rfl⟩) rfl rfl (Nat.le_of_ble_eq_true rfl) ?_)
  refine co_y rfl rfl (y_assign rfl trivial (by conv => lhs; whnf)) ?_
  refine co_nil ?_
  refine cw_seq ?_
  refine cw_region ?_
  refine co_y rfl rfl (y_load rfl trivial rfl Try.isAgg25 Try.sizeOf25 rfl (Nat.le_of_ble_eq_true rfl)) ?_
  refine co_y rfl rfl (y_callf rfl Try.call11 ⟨trivial, rfl, rfl, trivial⟩ (de_Deliver_r kd2 (fun h => by cases h) (ck_max ck2) _) rfl) ?_
  refine co_y rfl rfl (y_move rfl trivial (by conv => lhs; whnf)) ?_
  refine co_y rfl rfl (y_extract rfl trivial rfl rfl) ?_
  refine co_y rfl rfl (y_extract rfl trivial rfl rfl) ?_
  refine co_y rfl rfl (y_extract rfl trivial rfl rfl) ?_
  refine co_d rfl rfl (d_alloc rfl Try.zeroValue30 rfl (.inr ⟨_, rfl⟩) ?_)
  refine co_d rfl rfl (d_store rfl trivial trivial rfl (by conv => lhs; whnf) Try.sizeOf25 (.inr ⟨_, rfl⟩) rfl rfl (Nat.le_of_ble_eq_true rfl) ?_)
  refine co_d rfl rfl (d_store rfl trivial trivial rfl (by conv => lhs; whnf) Try.sizeOf30 (.inr ⟨_, rfl⟩) rfl rfl (Nat.le_of_ble_eq_true rfl) ?_)
  refine co_y rfl rfl (y_assign rfl trivial (by conv => lhs; whnf)) ?_
  refine co_nil ?_
  refine cw_seq ?_
  refine cw_region ?_
  refine co_y rfl rfl (y_load rfl trivial rfl Try.isAgg25 Try.sizeOf25 rfl (Nat.le_of_ble_eq_true rfl)) ?_
  refine co_y rfl rfl (y_callf rfl Try.call11 ⟨trivial, rfl, rfl, trivial⟩ (de_Deliver_r kd3 (fun h => by cases h) (ck_max ck3) _) rfl) ?_
  refine co_y rfl rfl (y_move rfl trivial (by conv => lhs; whnf)) ?_
  refine co_y rfl rfl (y_extract rfl trivial rfl rfl) ?_
  refine co_y rfl rfl (y_extract rfl trivial rfl rfl) ?_
  refine co_y rfl rfl (y_extract rfl trivial rfl rfl) ?_
  refine co_d rfl rfl (d_alloc rfl Try.zeroValue25 rfl (.inr ⟨_, rfl⟩) ?_)
  refine co_d rfl rfl (d_alloc rfl Try.zeroValue30 rfl (.inr ⟨_, rfl⟩) ?_)
  refine co_d rfl rfl (d_store rfl trivial trivial rfl (by conv => lhs; whnf) Try.sizeOf25 (.inr ⟨_, rfl⟩) rfl rfl (Nat.le_of_ble_eq_true rfl) ?_)
  refine co_d rfl rfl (d_store rfl trivial trivial rfl (by conv => lhs; whnf) Try.sizeOf30 (.inr ⟨_, rfl⟩) rfl rfl (Nat.le_of_ble_eq_true rfl) ?_)
  refine co_y rfl rfl (y_assign rfl trivial (by conv => lhs; whnf)) ?_
  refine co_nil ?_
  refine cw_seq ?_
  refine cw_draw 37 [0, 1, 3, 7, 15, 31, 63, 127, 255, 511, 1023, 2047, 4095, 8191, 16383, 32767, 65535, 131071, 262143, 524287, 524287, 2097151, 4194303, 8388607, 16777215, 16777215, 67108863, 134217727, 268435455, 536870911, 1073741823, 2147483647, 4294967295, 8589934591, 17179869183, 34359738367, 68719476735] (by kernel_rfl) (by kernel_rfl) rfl ?_
  refine ch_y rfl (y_move rfl trivial (by conv => lhs; whnf)) ?_
  refine ch_y rfl (y_int rfl trivial rfl rfl rfl rfl) ?_
  refine ch_y rfl (y_move rfl trivial (by conv => lhs; whnf)) ?_
  refine ch_g rfl rfl trivial rfl (fun hg => y_move rfl trivial (by conv => lhs; whnf)) ?_
  refine ch_g rfl rfl trivial rfl (fun hg => y_int rfl hg rfl rfl rfl rfl) ?_
  refine ch_y rfl (y_pick_and rfl trivial rfl (fun hp => hp) (fun _ => rfl)) ?_
  refine ch_y rfl (y_move rfl trivial (by conv => lhs; whnf)) ?_
  refine ch_g rfl rfl trivial rfl (fun hg => y_move rfl trivial (by conv => lhs; whnf)) ?_
  refine ch_g rfl rfl trivial rfl (fun hg => y_int rfl hg rfl rfl rfl rfl) ?_
  refine ch_y rfl (y_pick_and rfl trivial rfl (fun hp => hp) (fun _ => rfl)) ?_
  refine ch_y rfl (y_move rfl trivial (by conv => lhs; whnf)) ?_
  refine ch_g rfl rfl trivial rfl (fun hg => y_move rfl trivial (by conv => lhs; whnf)) ?_
  refine ch_g rfl rfl trivial rfl (fun hg => y_int rfl hg rfl rfl rfl rfl) ?_
  refine ch_y rfl (y_pick_and rfl trivial rfl (fun hp => hp) (fun _ => rfl)) ?_
  refine ch_y rfl (y_move rfl trivial (by conv => lhs; whnf)) ?_
  refine ch_g rfl rfl trivial rfl (fun hg => y_move rfl trivial (by conv => lhs; whnf)) ?_
  refine ch_g rfl rfl trivial rfl (fun hg => y_int rfl hg rfl rfl rfl rfl) ?_
  refine ch_y rfl (y_pick_and rfl trivial rfl (fun hp => hp) (fun _ => rfl)) ?_
  refine ch_y rfl (y_move rfl trivial (by conv => lhs; whnf)) ?_
  refine ch_g rfl rfl trivial rfl (fun hg => y_load rfl trivial rfl Try.isAgg30 Try.sizeOf30 rfl (Nat.le_of_ble_eq_true rfl)) ?_
  refine ch_g rfl rfl trivial rfl (fun hg => y_callf rfl Try.call10 ⟨rfl, trivial⟩ (ld_report_s 2 _) rfl) ?_
  refine ch_g rfl rfl trivial rfl (fun hg => y_eqs rfl hg hg (xs := [.int .i64 (repS 2).t, .int .i64 (repS 2).a, .int .i64 (repS 2).m, .int .i64 (repS 2).e, .int .i64 (repS 2).o]) (ys := [.int .i64 (repS 2).t, .int .i64 (repS 2).a, .int .i64 (repS 2).m, .int .i64 (repS 2).e, .int .i64 (repS 2).o]) rfl rfl Try.eqGuardType30 (eq_rp (repS 2) (repS 2))) ?_
  refine ch_y rfl (y_pick_and rfl trivial rfl (fun hp => hp) (fun _ => rfl)) ?_
  refine ch_y rfl (y_move rfl trivial (by conv => lhs; whnf)) ?_
  refine ch_g rfl rfl trivial rfl (fun hg => y_load rfl trivial rfl Try.isAgg30 Try.sizeOf30 rfl (Nat.le_of_ble_eq_true rfl)) ?_
  refine ch_g rfl rfl trivial rfl (fun hg => y_callf rfl Try.call10 ⟨rfl, trivial⟩ (ld_report_s 2 _) rfl) ?_
  refine ch_g rfl rfl trivial rfl (fun hg => y_eqs rfl hg hg (xs := [.int .i64 (repS 2).t, .int .i64 (repS 2).a, .int .i64 (repS 2).m, .int .i64 (repS 2).e, .int .i64 (repS 2).o]) (ys := [.int .i64 (repS 2).t, .int .i64 (repS 2).a, .int .i64 (repS 2).m, .int .i64 (repS 2).e, .int .i64 (repS 2).o]) rfl rfl Try.eqGuardType30 (eq_rp (repS 2) (repS 2))) ?_
  refine ch_y rfl (y_pick_and rfl trivial rfl (fun hp => hp) (fun _ => rfl)) ?_
  refine ch_y rfl (y_move rfl trivial (by conv => lhs; whnf)) ?_
  refine ch_g rfl rfl trivial rfl (fun hg => y_load rfl trivial rfl Try.isAgg25 Try.sizeOf25 rfl (Nat.le_of_ble_eq_true rfl)) ?_
  refine ch_g rfl rfl trivial rfl (fun hg => y_callf rfl Try.call14 ⟨hg, trivial⟩ (de_Check_s k3 (ck_max ck3) _) rfl) ?_
  refine ch_y rfl (y_pick_and rfl trivial rfl (fun hp => hp) (fun _ => rfl)) ?_
  refine ch_y rfl (y_move rfl trivial (by conv => lhs; whnf)) ?_
  refine ch_g rfl rfl trivial rfl (fun hg => y_build' #[(0, 1)] rfl trivial Try.runUnderlying46 Try.zeroValue46 rfl ⟨_, rfl⟩ (fun w => by kernel_rfl) rfl rfl) ?_
  refine ch_g rfl rfl trivial rfl (fun hg => y_callf rfl Try.call21 ⟨hg, trivial⟩ (de_Whole_s _) rfl) ?_
  refine ch_y rfl (y_pick_and rfl trivial rfl (fun hp => hp) (fun _ => rfl)) ?_
  refine ch_y rfl (y_assign rfl trivial (by conv => lhs; whnf)) ?_
  refine ch_nil ?_
  refine co_nil ?_
  refine cw_ret ?_
  exact ⟨_, res1 rfl trivial (by conv => lhs; whnf), _, _, rfl, rfl, cls_bool (by rw [pb_yes' ck3]; simp)⟩

theorem ld_known_s  (σ : List CObj) : CCalls CC 12 [] σ fun r σ' => r = .ret (.val (.bool (true))) ∧ σ' = σ :=
  CCalls.anyw hCC (by repeat' (first | exact .val _ | exact pure_lts _ _ | exact pure_rps _ _ | exact pure_ints _ _ | exact trivial | refine pure_agg ?_ | refine pure_tup ?_ | refine ⟨?_, ?_⟩)) (by repeat' (first | exact .val _ | exact pure_lts _ _ | exact pure_rps _ _ | exact pure_ints _ _ | exact trivial | refine pure_agg ?_ | refine pure_tup ?_ | refine ⟨?_, ?_⟩)) (ld_known) σ

end Go.Proofs.Ytchaklkfaemfgaa
