import Derived.Test.YtchaklkfaemfgaaD7
namespace Go.Proofs.Ytchaklkfaemfgaa
open Go Go.Cl

set_option maxRecDepth 10000 in
theorem rd_Right (x : Rp) : CCalls CC 38 [.agg x.cells] [] fun r σ' => r = .ret (.val (.bool (pb (RightP x)))) ∧ σ' = [] := by
  refine ccalls_val (ccalls_of Try.func38 rfl rfl ?_)
  refine cw_seq ?_
  refine cw_region ?_
  refine co_d rfl rfl (d_box rfl trivial (by conv => lhs; whnf) (.inr ⟨_, rfl⟩) ?_)
  refine co_y rfl rfl (y_assign rfl rfl (by conv => lhs; whnf)) ?_
  refine co_nil ?_
  refine cw_seq ?_
  refine cw_region ?_
  refine co_y rfl rfl (y_field rfl trivial rfl Try.runUnderlying30 rfl Try.sizeOf3 (by decide)) ?_
  refine co_y rfl rfl (y_load1 rfl trivial rfl Try.isAgg3 rfl rfl) ?_
  refine co_y rfl rfl (y_int rfl trivial rfl rfl rfl rfl) ?_
  refine co_y rfl rfl (y_move rfl trivial (by conv => lhs; whnf)) ?_
  refine co_g rfl rfl trivial rfl rfl (fun hg => y_field rfl trivial rfl Try.runUnderlying30 rfl Try.sizeOf3 (by decide)) ?_
  refine co_g rfl rfl trivial rfl rfl (fun hg => y_load1 rfl hg rfl Try.isAgg3 rfl rfl) ?_
  refine co_g rfl rfl trivial rfl rfl (fun hg => y_int rfl hg rfl rfl rfl rfl) ?_
  refine co_y rfl rfl (y_pick_and rfl trivial rfl (fun hp => hp) (fun _ => rfl)) ?_
  refine co_y rfl rfl (y_move rfl trivial (by conv => lhs; whnf)) ?_
  refine co_g rfl rfl trivial rfl rfl (fun hg => y_field rfl trivial rfl Try.runUnderlying30 rfl Try.sizeOf3 (by decide)) ?_
  refine co_g rfl rfl trivial rfl rfl (fun hg => y_load1 rfl hg rfl Try.isAgg3 rfl rfl) ?_
  refine co_g rfl rfl trivial rfl rfl (fun hg => y_int rfl hg rfl rfl rfl rfl) ?_
  refine co_y rfl rfl (y_pick_and rfl trivial rfl (fun hp => hp) (fun _ => rfl)) ?_
  refine co_y rfl rfl (y_move rfl trivial (by conv => lhs; whnf)) ?_
  refine co_g rfl rfl trivial rfl rfl (fun hg => y_field rfl trivial rfl Try.runUnderlying30 rfl Try.sizeOf3 (by decide)) ?_
  refine co_g rfl rfl trivial rfl rfl (fun hg => y_load1 rfl hg rfl Try.isAgg3 rfl rfl) ?_
  refine co_g rfl rfl trivial rfl rfl (fun hg => y_int rfl hg rfl rfl rfl rfl) ?_
  refine co_y rfl rfl (y_pick_and rfl trivial rfl (fun hp => hp) (fun _ => rfl)) ?_
  refine co_y rfl rfl (y_move rfl trivial (by conv => lhs; whnf)) ?_
  refine co_g rfl rfl trivial rfl rfl (fun hg => y_field rfl trivial rfl Try.runUnderlying30 rfl Try.sizeOf3 (by decide)) ?_
  refine co_g rfl rfl trivial rfl rfl (fun hg => y_load1 rfl hg rfl Try.isAgg3 rfl rfl) ?_
  refine co_g rfl rfl trivial rfl rfl (fun hg => y_int rfl hg rfl rfl rfl rfl) ?_
  refine co_y rfl rfl (y_pick_and rfl trivial rfl (fun hp => hp) (fun _ => rfl)) ?_
  refine co_y rfl rfl (y_move rfl trivial (by conv => lhs; whnf)) ?_
  refine co_g rfl rfl trivial rfl rfl (fun hg => y_field rfl trivial rfl Try.runUnderlying30 rfl Try.sizeOf3 (by decide)) ?_
  refine co_g rfl rfl trivial rfl rfl (fun hg => y_load1 rfl hg rfl Try.isAgg3 rfl rfl) ?_
  refine co_g rfl rfl trivial rfl rfl (fun hg => y_int rfl hg rfl rfl rfl rfl) ?_
  refine co_y rfl rfl (y_pick_and rfl trivial rfl (fun hp => hp) (fun _ => rfl)) ?_
  refine co_y rfl rfl (y_move rfl trivial (by conv => lhs; whnf)) ?_
  refine co_g rfl rfl trivial rfl rfl (fun hg => y_field rfl trivial rfl Try.runUnderlying30 rfl Try.sizeOf3 (by decide)) ?_
  refine co_g rfl rfl trivial rfl rfl (fun hg => y_load1 rfl hg rfl Try.isAgg3 rfl rfl) ?_
  refine co_g rfl rfl trivial rfl rfl (fun hg => y_int rfl hg rfl rfl rfl rfl) ?_
  refine co_y rfl rfl (y_pick_and rfl trivial rfl (fun hp => hp) (fun _ => rfl)) ?_
  refine co_y rfl rfl (y_move rfl trivial (by conv => lhs; whnf)) ?_
  refine co_g rfl rfl trivial rfl rfl (fun hg => y_field rfl trivial rfl Try.runUnderlying30 rfl Try.sizeOf3 (by decide)) ?_
  refine co_g rfl rfl trivial rfl rfl (fun hg => y_load1 rfl hg rfl Try.isAgg3 rfl rfl) ?_
  refine co_g rfl rfl trivial rfl rfl (fun hg => y_int rfl hg rfl rfl rfl rfl) ?_
  refine co_y rfl rfl (y_pick_and rfl trivial rfl (fun hp => hp) (fun _ => rfl)) ?_
  refine co_y rfl rfl (y_move rfl trivial (by conv => lhs; whnf)) ?_
  refine co_g rfl rfl trivial rfl rfl (fun hg => y_field rfl trivial rfl Try.runUnderlying30 rfl Try.sizeOf3 (by decide)) ?_
  refine co_g rfl rfl trivial rfl rfl (fun hg => y_load1 rfl hg rfl Try.isAgg3 rfl rfl) ?_
  refine co_g rfl rfl trivial rfl rfl (fun hg => y_int rfl hg rfl rfl rfl rfl) ?_
  refine co_y rfl rfl (y_pick_and rfl trivial rfl (fun hp => hp) (fun _ => rfl)) ?_
  refine co_y rfl rfl (y_move rfl trivial (by conv => lhs; whnf)) ?_
  refine co_g rfl rfl trivial rfl rfl (fun hg => y_field rfl trivial rfl Try.runUnderlying30 rfl Try.sizeOf3 (by decide)) ?_
  refine co_g rfl rfl trivial rfl rfl (fun hg => y_load1 rfl hg rfl Try.isAgg3 rfl rfl) ?_
  refine co_g rfl rfl trivial rfl rfl (fun hg => y_int rfl hg rfl rfl rfl rfl) ?_
  refine co_y rfl rfl (y_pick_and rfl trivial rfl (fun hp => hp) (fun _ => rfl)) ?_
  refine co_y rfl rfl (y_assign rfl trivial (by conv => lhs; whnf)) ?_
  refine co_nil ?_
  refine cw_ret ?_
  exact ⟨_, res1 rfl trivial (by conv => lhs; whnf), _, _, rfl, rfl, cls_bool (pb_iff (by simp; exact ⟨fun h => ⟨⟨by omega, by omega⟩, ⟨by omega, by omega⟩, ⟨by omega, by omega⟩, ⟨by omega, by omega⟩, ⟨by omega, by omega⟩⟩, fun h => by have := h.t; have := h.a; have := h.m; have := h.e; have := h.o; omega⟩))⟩

theorem rd_Right_s (x : Rp) (σ : List CObj) : CCalls CC 38 [.agg x.cells] σ fun r σ' => r = .ret (.val (.bool (pb (RightP x)))) ∧ σ' = σ :=
  CCalls.anyw hCC (by repeat' (first | exact .val _ | exact pure_lts _ _ | exact pure_rps _ _ | exact pure_ints _ _ | exact trivial | refine pure_agg ?_ | refine pure_tup ?_ | refine ⟨?_, ?_⟩)) (by repeat' (first | exact .val _ | exact pure_lts _ _ | exact pure_rps _ _ | exact pure_ints _ _ | exact trivial | refine pure_agg ?_ | refine pure_tup ?_ | refine ⟨?_, ?_⟩)) (rd_Right x) σ

set_option maxRecDepth 10000 in
theorem rd_Check (n : Net) (hl : n.fly.length ≤ maxLen) : CCalls CC 20 [.agg n.cells] [] fun r σ' => r = .ret (.val (.bool (pb (CkP n)))) ∧ σ' = [] := by
  unfold maxLen at hl
  refine ccalls_val (ccalls_of Try.func20 rfl rfl ?_)
  refine cw_seq ?_
  refine cw_region ?_
  refine co_d rfl rfl (d_box rfl trivial (by conv => lhs; whnf) (.inr ⟨_, rfl⟩) ?_)
  refine co_y rfl rfl (y_assign rfl rfl (by conv => lhs; whnf)) ?_
  refine co_nil ?_
  refine cw_seq ?_
  refine cw_seq ?_
  refine cw_region ?_
  refine co_y rfl rfl (y_field rfl trivial rfl Try.runUnderlying25 rfl Try.sizeOf3 (by decide)) ?_
  refine co_y rfl rfl (y_load1 rfl trivial rfl Try.isAgg3 rfl rfl) ?_
  refine co_y rfl rfl (y_int rfl trivial rfl rfl rfl rfl) ?_
  refine co_y rfl rfl (y_move rfl trivial (by conv => lhs; whnf)) ?_
  refine co_g rfl rfl trivial rfl rfl (fun hg => y_field rfl trivial rfl Try.runUnderlying25 rfl Try.sizeOf3 (by decide)) ?_
  refine co_g rfl rfl trivial rfl rfl (fun hg => y_load1 rfl hg rfl Try.isAgg3 rfl rfl) ?_
  refine co_g rfl rfl trivial rfl rfl (fun hg => y_int rfl hg rfl rfl rfl rfl) ?_
  refine co_y rfl rfl (y_pick_or rfl trivial rfl (fun hp => hp) (fun _ => rfl)) ?_
  refine co_y rfl rfl (y_move rfl trivial (by conv => lhs; whnf)) ?_
  refine co_g rfl rfl trivial rfl rfl (fun hg => y_field rfl trivial rfl Try.runUnderlying25 rfl Try.sizeOf23 (by decide)) ?_
  refine co_g rfl rfl trivial rfl rfl (fun hg => y_load1 rfl hg rfl Try.isAgg23 rfl rfl) ?_
  refine co_g rfl rfl trivial rfl rfl (fun hg => y_len rfl hg rfl Try.runUnderlying23 (by first | exact len_map _ _ | rfl) rfl) ?_
  refine co_g rfl rfl trivial rfl rfl (fun hg => y_int rfl hg rfl rfl rfl rfl) ?_
  refine co_y rfl rfl (y_pick_or rfl trivial rfl (fun hp => hp) (fun _ => rfl)) ?_
  refine co_nil ?_
  refine cw_cond trivial rfl (fun h1 => ?_) (fun h1 => ?_)
  · have hx : ¬ CkP n := fun h => by
      have g1 := h.len
      have g2 := h.next
      simp at h1
      omega
    refine cw_seq ?_
    refine cw_region ?_
    refine co_y rfl rfl (y_assign rfl rfl (by conv => lhs; whnf)) ?_
    refine co_nil ?_
    refine cw_ret ?_
    exact ⟨_, res1 rfl trivial (by conv => lhs; whnf), _, _, rfl, rfl, cls_bool (pb_ne.2 hx).symm⟩
  · have hx : n.fly.length ≤ 64 ∧ 0 ≤ n.next ∧ n.next ≤ 1073741824 := by simp at h1; omega
    refine cw_skip ?_
    refine cw_seq ?_
    refine cw_seq ?_
    refine cw_region ?_
    refine co_y rfl rfl (y_assign rfl rfl (by conv => lhs; whnf)) ?_
    refine co_nil ?_
    refine cw_block ?_
    refine cw_loopd hCC (α := Nat × Int) (fun x => [(1, .ptr 0 0), (3, (.val (.int .i64 ((x.1 : Int)))))]) (fun _ => [.box n.cells]) (fun x => x.1 ≤ n.fly.length ∧ (Asc n.fly (-1) n.next ↔ Asc (n.fly.drop x.1) x.2 n.next) ∧ -1 ≤ x.2 ∧ (x.1 = 0 → x.2 = -1) ∧ (0 < x.1 → 0 ≤ x.2 ∧ ∃ p, n.fly[((x.1 : Int) - 1).toNat]? = some p ∧ p.n = x.2)) (fun x => n.fly.length - x.1) (0, -1) ⟨Nat.zero_le _, Iff.rfl, Int.le_refl _, fun _ => rfl, fun h => absurd h (Nat.lt_irrefl 0)⟩ ⟨⟨trivial, rfl⟩, ⟨trivial, rfl⟩, trivial⟩ (extra0 := []) rfl (fun _ _ => Nat.le_of_ble_eq_true rfl) (fun a ha => by repeat' (first | exact trivial | exact .val _ | exact .ptr (Nat.le_of_ble_eq_true rfl) | exact .map (Nat.le_of_ble_eq_true rfl) | exact (by first | exact old_lts _ _ _ | exact old_rps _ _ _ | exact old_ints _ _ _) | refine old_box ?_ | refine ⟨?_, ?_⟩)) ?_
    intro ⟨i, last⟩ ⟨hi, hiff, hl1, hz, hpos⟩
    dsimp only at hi hiff hl1 hz hpos ⊢
    refine cw_seq ?_
    refine cw_seq ?_
    refine cw_region ?_
    refine co_y rfl rfl (y_move rfl trivial (by conv => lhs; whnf)) ?_
    refine co_y rfl rfl (y_field rfl trivial rfl Try.runUnderlying25 rfl Try.sizeOf23 (by decide)) ?_
    refine co_y rfl rfl (y_load1 rfl trivial rfl Try.isAgg23 rfl rfl) ?_
    refine co_y rfl rfl (y_len rfl trivial rfl Try.runUnderlying23 (by first | exact len_map _ _ | rfl) rfl) ?_
    refine co_y rfl rfl (y_int rfl trivial trivial rfl rfl rfl) ?_
    refine co_nil ?_
    refine cw_cond trivial rfl (fun h2 => ?_) (fun h2 => ?_)
    · have hlt : (i : Int) < n.fly.length := by simpa using h2
      obtain ⟨x, hb⟩ : ∃ x, n.fly[i]? = some x := ⟨n.fly[i]'(by omega), by simp⟩
      rw [asc_step hb] at hiff
      obtain ⟨p, hp⟩ : ∃ p : Lt, 0 < i → n.fly[((i : Int) - 1).toNat]? = some p ∧ p.n = last := by
        by_cases h : 0 < i
        · obtain ⟨-, p, hp⟩ := hpos h
          exact ⟨p, fun _ => hp⟩
        · exact ⟨⟨0, ⟨0, 0, 0, 0, 0⟩⟩, fun h' => absurd h' h⟩
      refine cw_skip ?_
      refine cw_seq ?_
      refine cw_block ?_
      refine cw_seq ?_
      refine cw_draw 48 [0, 1, 0, 7, 15, 31, 63, 127, 255, 511, 1023, 511, 4095, 8191, 16383, 32767, 65535, 131071, 262143, 524287, 262143, 2097151, 4194303, 8388607, 262143, 17039359, 67108863, 134217727, 268435455, 536870911, 1073741823, 2147483647, 4294967295, 8589934591, 4294967295, 34359738367, 68719476735, 137438953471, 4294967295, 279172874239, 4294967295, 1103806595071, 4127463571455, 8525510082559, 17321603104767, 35184372088831, 70368744177663, 140737488355327] (by kernel_rfl) (by kernel_rfl) rfl ?_
      refine ch_y rfl (y_field rfl trivial rfl Try.runUnderlying25 rfl Try.sizeOf23 (by decide)) ?_
      refine ch_y rfl (y_load1 rfl trivial rfl Try.isAgg23 rfl rfl) ?_
      refine ch_y rfl (y_move rfl trivial (by conv => lhs; whnf)) ?_
      refine ch_y rfl (y_index rfl trivial trivial rfl rfl Try.runUnderlying23 Try.sizeOf50 (by omega) (rows_get hb) rfl) ?_
      refine ch_y rfl (y_field_c rfl trivial rfl Try.runUnderlying50 rfl Try.sizeOf30 (by decide)) ?_
      refine ch_y rfl (y_load_c rfl trivial rfl Try.isAgg30 Try.sizeOf30 (Nat.le_of_ble_eq_true rfl)) ?_
      refine ch_y rfl (y_callf rfl Try.call38 ⟨trivial, trivial⟩ (rd_Right_s x.r _) rfl) ?_
      refine ch_y rfl (y_not rfl trivial rfl) ?_
      refine ch_y rfl (y_move rfl trivial (by conv => lhs; whnf)) ?_
      refine ch_g rfl rfl trivial rfl (fun hg => y_field rfl trivial rfl Try.runUnderlying25 rfl Try.sizeOf23 (by decide)) ?_
      refine ch_g rfl rfl trivial rfl (fun hg => y_load1 rfl hg rfl Try.isAgg23 rfl rfl) ?_
      refine ch_g rfl rfl trivial rfl (fun hg => y_move rfl trivial (by conv => lhs; whnf)) ?_
      refine ch_g rfl rfl trivial rfl (fun hg => y_index rfl hg hg rfl rfl Try.runUnderlying23 Try.sizeOf50 (by first | omega | (simp at hg; omega)) (rows_get hb) rfl) ?_
      refine ch_g rfl rfl trivial rfl (fun hg => y_field_c rfl hg rfl Try.runUnderlying50 rfl Try.sizeOf3 (by decide)) ?_
      refine ch_g rfl rfl trivial rfl (fun hg => y_load_c1 rfl hg rfl Try.isAgg3 rfl) ?_
      refine ch_g rfl rfl trivial rfl (fun hg => y_int rfl hg rfl rfl rfl rfl) ?_
      refine ch_y rfl (y_pick_or rfl trivial rfl (fun hp => hp) (fun _ => rfl)) ?_
      refine ch_y rfl (y_move rfl trivial (by conv => lhs; whnf)) ?_
      refine ch_g rfl rfl trivial rfl (fun hg => y_field rfl trivial rfl Try.runUnderlying25 rfl Try.sizeOf23 (by decide)) ?_
      refine ch_g rfl rfl trivial rfl (fun hg => y_load1 rfl hg rfl Try.isAgg23 rfl rfl) ?_
      refine ch_g rfl rfl trivial rfl (fun hg => y_move rfl trivial (by conv => lhs; whnf)) ?_
      refine ch_g rfl rfl trivial rfl (fun hg => y_index rfl hg hg rfl rfl Try.runUnderlying23 Try.sizeOf50 (by first | omega | (simp at hg; omega)) (rows_get hb) rfl) ?_
      refine ch_g rfl rfl trivial rfl (fun hg => y_field_c rfl hg rfl Try.runUnderlying50 rfl Try.sizeOf3 (by decide)) ?_
      refine ch_g rfl rfl trivial rfl (fun hg => y_load_c1 rfl hg rfl Try.isAgg3 rfl) ?_
      refine ch_g rfl rfl trivial rfl (fun hg => y_field rfl trivial rfl Try.runUnderlying25 rfl Try.sizeOf3 (by decide)) ?_
      refine ch_g rfl rfl trivial rfl (fun hg => y_load1 rfl hg rfl Try.isAgg3 rfl rfl) ?_
      refine ch_g rfl rfl trivial rfl (fun hg => y_int rfl hg hg rfl rfl rfl) ?_
      refine ch_y rfl (y_pick_or rfl trivial rfl (fun hp => hp) (fun _ => rfl)) ?_
      refine ch_y rfl (y_move rfl trivial (by conv => lhs; whnf)) ?_
      refine ch_g rfl rfl trivial rfl (fun hg => y_move rfl trivial (by conv => lhs; whnf)) ?_
      refine ch_g rfl rfl trivial rfl (fun hg => y_int rfl hg rfl rfl rfl rfl) ?_
      refine ch_g rfl rfl trivial rfl (fun hg => y_move rfl hg (by conv => lhs; whnf)) ?_
      refine ch_g2 rfl rfl (fun h => h) rfl (fun hk hg => y_field rfl trivial rfl Try.runUnderlying25 rfl Try.sizeOf23 (by decide)) ?_
      refine ch_g2 rfl rfl (fun h => h) rfl (fun hk hg => y_load1 rfl ⟨hk, hg⟩ rfl Try.isAgg23 rfl rfl) ?_
      refine ch_g2 rfl rfl (fun h => h) rfl (fun hk hg => y_move rfl trivial (by conv => lhs; whnf)) ?_
      refine ch_g2 rfl rfl (fun h => h) rfl (fun hk hg => y_index rfl ⟨hk, hg⟩ ⟨hk, hg⟩ rfl rfl Try.runUnderlying23 Try.sizeOf50 (by first | omega | (simp at hk hg; omega) | (change (_ : Bool) = _ at hk; simp at hk hg; omega)) (rows_get hb) rfl) ?_
      refine ch_g2 rfl rfl (fun h => h) rfl (fun hk hg => y_field_c rfl ⟨hk, hg⟩ rfl Try.runUnderlying50 rfl Try.sizeOf3 (by decide)) ?_
      refine ch_g2 rfl rfl (fun h => h) rfl (fun hk hg => y_load_c1 rfl ⟨hk, hg⟩ rfl Try.isAgg3 rfl) ?_
      refine ch_g2 rfl rfl (fun h => h) rfl (fun hk hg => y_field rfl trivial rfl Try.runUnderlying25 rfl Try.sizeOf23 (by decide)) ?_
      refine ch_g2 rfl rfl (fun h => h) rfl (fun hk hg => y_load1 rfl ⟨hk, hg⟩ rfl Try.isAgg23 rfl rfl) ?_
      refine ch_g2 rfl rfl (fun h => h) rfl (fun hk hg => y_move rfl trivial (by conv => lhs; whnf)) ?_
      refine ch_g2 rfl rfl (fun h => h) rfl (fun hk hg => y_sub rfl ⟨hk, hg⟩ rfl rfl rfl (by first | omega | (simp at hk hg; omega) | (change (_ : Bool) = _ at hk; simp at hk hg; omega)) (by first | omega | (simp at hk hg; omega) | (change (_ : Bool) = _ at hk; simp at hk hg; omega))) ?_
      refine ch_g2 rfl rfl (fun h => h) rfl (fun hk hg => y_index rfl ⟨hk, hg⟩ ⟨hk, hg⟩ rfl rfl Try.runUnderlying23 Try.sizeOf50 (by first | omega | (simp at hk hg; omega) | (change (_ : Bool) = _ at hk; simp at hk hg; omega)) (rows_get (hp (by first | (simp at hg; omega) | (simp at hk hg; omega) | (change (_ : Bool) = _ at hk; simp at hk hg; omega))).1) rfl) ?_
      refine ch_g2 rfl rfl (fun h => h) rfl (fun hk hg => y_field_c rfl ⟨hk, hg⟩ rfl Try.runUnderlying50 rfl Try.sizeOf3 (by decide)) ?_
      refine ch_g2 rfl rfl (fun h => h) rfl (fun hk hg => y_load_c1 rfl ⟨hk, hg⟩ rfl Try.isAgg3 rfl) ?_
      refine ch_g2 rfl rfl (fun h => h) rfl (fun hk hg => y_int rfl ⟨hk, hg⟩ ⟨hk, hg⟩ rfl rfl rfl) ?_
      refine ch_g rfl rfl trivial rfl (fun hg => y_pick_and rfl hg rfl (fun hp => ⟨hg, hp⟩) (fun _ => rfl)) ?_
      refine ch_y rfl (y_pick_or rfl trivial rfl (fun hp => hp) (fun _ => rfl)) ?_
      refine ch_nil ?_
      refine co_nil ?_
      refine cw_cond trivial rfl (fun h3 => ?_) (fun h3 => ?_)
      · have hno : ¬ CkP n := fun h => by
          obtain ⟨⟨g1, g2, g3⟩, -⟩ := hiff.1 h.asc
          rw [pb_eq.2 g3] at h3
          simp at h3
          rcases Nat.eq_zero_or_pos i with h0 | h0
          · have := hz h0; omega
          · have := hp h0; have := hpos h0; omega
        refine cw_seq ?_
        refine cw_region ?_
        refine co_y rfl rfl (y_assign rfl rfl (by conv => lhs; whnf)) ?_
        refine co_nil ?_
        refine cw_ret ?_
        exact ⟨_, res1 rfl trivial (by conv => lhs; whnf), _, _, rfl, rfl, cls_bool (pb_ne.2 hno).symm⟩
      · have hyes : last < x.n ∧ x.n < n.next ∧ RightP x.r ∧ 0 ≤ x.n := by
          have h3' := h3
          simp at h3'
          obtain ⟨⟨⟨q1, q2⟩, q3⟩, q4⟩ := h3'
          refine ⟨?_, by omega, pb_eq.1 (by simpa using q1), by omega⟩
          rcases Nat.eq_zero_or_pos i with h0 | h0
          · have := hz h0; omega
          · have := hp h0; have := q4 (by omega); omega
        refine cw_skip ?_
        refine cw_region ?_
        refine co_y rfl rfl (y_move rfl trivial (by conv => lhs; whnf)) ?_
        refine co_y rfl rfl (y_add rfl trivial rfl rfl rfl (by omega) (by omega)) ?_
        refine co_y rfl rfl (y_assign rfl trivial (by conv => lhs; whnf)) ?_
        refine co_nil ?_
        exact ⟨(i + 1, x.n), _, ⟨by show n.fly.length - (i + 1) < n.fly.length - i; omega, by show i + 1 ≤ _; omega, hiff.trans ⟨fun h => h.2, fun h => ⟨⟨hyes.1, hyes.2.1, hyes.2.2.1⟩, h⟩⟩, by show -1 ≤ x.n; omega, fun h => absurd h (by simp), fun _ => ⟨hyes.2.2.2, x, by rw [show ((((i + 1 : Nat) : Int) - 1).toNat) = i by omega]; exact hb, rfl⟩⟩, ⟨⟨trivial, rfl⟩, ⟨trivial, rfl⟩, trivial⟩, rfl⟩
    · have hge : i = n.fly.length := by
        have : ¬ (i : Int) < n.fly.length := by simpa using h2
        omega
      have hyes : CkP n := ⟨hx.1, hx.2, hiff.2 (by rw [hge, List.drop_length]; trivial)⟩
      refine cw_exit ?_
      refine cw_seq ?_
      refine cw_region ?_
      refine co_y rfl rfl (y_assign rfl rfl (by conv => lhs; whnf)) ?_
      refine co_nil ?_
      refine cw_ret ?_
      exact ⟨_, res1 rfl trivial (by conv => lhs; whnf), _, _, rfl, rfl, cls_bool (pb_yes' hyes).symm⟩

theorem rd_Check_s (n : Net) (hl : n.fly.length ≤ maxLen) (σ : List CObj) : CCalls CC 20 [.agg n.cells] σ fun r σ' => r = .ret (.val (.bool (pb (CkP n)))) ∧ σ' = σ :=
  CCalls.anyw hCC (by repeat' (first | exact .val _ | exact pure_lts _ _ | exact pure_rps _ _ | exact pure_ints _ _ | exact trivial | refine pure_agg ?_ | refine pure_tup ?_ | refine ⟨?_, ?_⟩)) (by repeat' (first | exact .val _ | exact pure_lts _ _ | exact pure_rps _ _ | exact pure_ints _ _ | exact trivial | refine pure_agg ?_ | refine pure_tup ?_ | refine ⟨?_, ?_⟩)) (rd_Check n hl) σ

set_option maxRecDepth 10000 in
theorem rd_Send (n : Net) (x : Rp) (hl : n.fly.length ≤ maxLen) : CCalls CC 19 [.agg n.cells, .agg x.cells] [] fun r σ' => r = .ret (.tup [.agg (sendS (pb (CkP n)) (pb (RightP x)) n x).1.cells, (.val (.int .i64 ((sendS (pb (CkP n)) (pb (RightP x)) n x).2)))]) ∧ σ' = [] := by
  refine ccalls_val (ccalls_of Try.func19 rfl rfl ?_)
  refine cw_seq ?_
  refine cw_region ?_
  refine co_d rfl rfl (d_box rfl trivial (by conv => lhs; whnf) (.inr ⟨_, rfl⟩) ?_)
  refine co_d rfl rfl (d_box rfl trivial (by conv => lhs; whnf) (.inr ⟨_, rfl⟩) ?_)
  refine co_d rfl rfl (d_alloc rfl Try.zeroValue25 rfl (.inr ⟨_, rfl⟩) ?_)
  refine co_y rfl rfl (y_assign rfl rfl (by conv => lhs; whnf)) ?_
  refine co_nil ?_
  refine cw_seq ?_
  refine cw_block ?_
  refine cw_seq ?_
  refine cw_region ?_
  refine co_y rfl rfl (y_load rfl trivial rfl Try.isAgg25 Try.sizeOf25 rfl (Nat.le_of_ble_eq_true rfl)) ?_
  refine co_y rfl rfl (y_callf rfl Try.call20 ⟨trivial, trivial⟩ (rd_Check_s n hl _) rfl) ?_
  refine co_y rfl rfl (y_not rfl trivial rfl) ?_
  refine co_y rfl rfl (y_move rfl trivial (by conv => lhs; whnf)) ?_
  refine co_g rfl rfl trivial rfl rfl (fun hg => y_load rfl trivial rfl Try.isAgg30 Try.sizeOf30 rfl (Nat.le_of_ble_eq_true rfl)) ?_
  refine co_g rfl rfl trivial rfl rfl (fun hg => y_callf rfl Try.call38 ⟨hg, trivial⟩ (rd_Right_s x _) rfl) ?_
  refine co_g rfl rfl trivial rfl rfl (fun hg => y_not rfl hg rfl) ?_
  refine co_y rfl rfl (y_pick_or rfl trivial rfl (fun hp => hp) (fun _ => rfl)) ?_
  refine co_y rfl rfl (y_assign rfl trivial (by conv => lhs; whnf)) ?_
  refine co_nil ?_
  refine cw_cond trivial rfl (fun h1 => ?_) (fun h1 => ?_)
  · have hc : pb (CkP n) = false ∨ pb (RightP x) = false := by simpa using h1
    refine cw_seq ?_
    refine cw_region ?_
    refine co_y rfl rfl (y_build' #[(0, 1), (1, 1)] rfl trivial Try.runUnderlying25 Try.zeroValue25 rfl ⟨_, rfl⟩ (fun w => by kernel_rfl) rfl rfl) ?_
    refine co_d rfl rfl (d_store rfl trivial trivial rfl (by conv => lhs; whnf) Try.sizeOf25 (.inr ⟨_, rfl⟩) rfl rfl (Nat.le_of_ble_eq_true rfl) ?_)
    refine co_y rfl rfl (y_assign rfl rfl (by conv => lhs; whnf)) ?_
    refine co_nil ?_
    refine cw_ret ?_
    exact ⟨_, res_all (rs := [.cell 4 25, .tmp 5]) (cs := [_, _]) rfl ⟨⟨trivial, _, _, _, rfl, rfl, .inr ⟨_, Try.isAgg25, Try.sizeOf25, Nat.le_of_ble_eq_true rfl, rfl⟩⟩, ⟨trivial, (by conv => lhs; whnf)⟩, trivial⟩ (Nat.ne_of_beq_eq_false rfl), _, _, rfl, rfl, (cls_eq (by rw [sendS, if_pos hc]; rfl) (by repeat' (first | exact .val _ | exact pure_lts _ _ | exact pure_rps _ _ | exact pure_ints _ _ | exact trivial | refine pure_agg ?_ | refine pure_tup ?_ | refine ⟨?_, ?_⟩)))⟩
  · have hc : ¬ (pb (CkP n) = false ∨ pb (RightP x) = false) := by simpa using h1
    have hck : CkP n := pb_eq.1 (by simp at hc; exact hc.1)
    have hlen := hck.len
    have hnx := hck.next
    refine cw_seq ?_
    refine cw_region ?_
    refine co_y rfl rfl (y_field rfl trivial rfl Try.runUnderlying25 rfl Try.sizeOf23 (by decide)) ?_
    refine co_y rfl rfl (y_load1 rfl trivial rfl Try.isAgg23 rfl rfl) ?_
    refine co_y rfl rfl (y_len rfl trivial rfl Try.runUnderlying23 (by first | exact len_map _ _ | rfl) rfl) ?_
    refine co_y rfl rfl (y_int rfl trivial rfl rfl rfl rfl) ?_
    refine co_y rfl rfl (y_assign rfl trivial (by conv => lhs; whnf)) ?_
    refine co_nil ?_
    refine cw_cond trivial rfl (fun h2 => ?_) (fun h2 => ?_)
    · have h64 : n.fly.length = 64 := by simp at h2; omega
      refine cw_seq ?_
      refine cw_region ?_
      refine co_y rfl rfl (y_build' #[(0, 1), (1, 1)] rfl trivial Try.runUnderlying25 Try.zeroValue25 rfl ⟨_, rfl⟩ (fun w => by kernel_rfl) rfl rfl) ?_
      refine co_d rfl rfl (d_store rfl trivial trivial rfl (by conv => lhs; whnf) Try.sizeOf25 (.inr ⟨_, rfl⟩) rfl rfl (Nat.le_of_ble_eq_true rfl) ?_)
      refine co_y rfl rfl (y_assign rfl rfl (by conv => lhs; whnf)) ?_
      refine co_nil ?_
      refine cw_ret ?_
      exact ⟨_, res_all (rs := [.cell 4 25, .tmp 5]) (cs := [_, _]) rfl ⟨⟨trivial, _, _, _, rfl, rfl, .inr ⟨_, Try.isAgg25, Try.sizeOf25, Nat.le_of_ble_eq_true rfl, rfl⟩⟩, ⟨trivial, (by conv => lhs; whnf)⟩, trivial⟩ (Nat.ne_of_beq_eq_false rfl), _, _, rfl, rfl, (cls_eq (by rw [sendS, if_neg hc, if_pos h64]; rfl) (by repeat' (first | exact .val _ | exact pure_lts _ _ | exact pure_rps _ _ | exact pure_ints _ _ | exact trivial | refine pure_agg ?_ | refine pure_tup ?_ | refine ⟨?_, ?_⟩)))⟩
    · have h64 : ¬ n.fly.length = 64 := by simp at h2; omega
      refine cw_seq ?_
      refine cw_region ?_
      refine co_y rfl rfl (y_field rfl trivial rfl Try.runUnderlying25 rfl Try.sizeOf3 (by decide)) ?_
      refine co_y rfl rfl (y_load1 rfl trivial rfl Try.isAgg3 rfl rfl) ?_
      refine co_y rfl rfl (y_int rfl trivial rfl rfl rfl rfl) ?_
      refine co_y rfl rfl (y_assign rfl trivial (by conv => lhs; whnf)) ?_
      refine co_nil ?_
      refine cw_cond trivial rfl (fun h3 => ?_) (fun h3 => ?_)
      · have hmx : n.next = 1073741824 := by simpa using h3
        refine cw_seq ?_
        refine cw_region ?_
        refine co_y rfl rfl (y_build' #[(0, 1), (1, 1)] rfl trivial Try.runUnderlying25 Try.zeroValue25 rfl ⟨_, rfl⟩ (fun w => by kernel_rfl) rfl rfl) ?_
        refine co_d rfl rfl (d_store rfl trivial trivial rfl (by conv => lhs; whnf) Try.sizeOf25 (.inr ⟨_, rfl⟩) rfl rfl (Nat.le_of_ble_eq_true rfl) ?_)
        refine co_y rfl rfl (y_assign rfl rfl (by conv => lhs; whnf)) ?_
        refine co_nil ?_
        refine cw_ret ?_
        exact ⟨_, res_all (rs := [.cell 4 25, .tmp 5]) (cs := [_, _]) rfl ⟨⟨trivial, _, _, _, rfl, rfl, .inr ⟨_, Try.isAgg25, Try.sizeOf25, Nat.le_of_ble_eq_true rfl, rfl⟩⟩, ⟨trivial, (by conv => lhs; whnf)⟩, trivial⟩ (Nat.ne_of_beq_eq_false rfl), _, _, rfl, rfl, (cls_eq (by rw [sendS, if_neg hc, if_neg h64, if_pos hmx]; rfl) (by repeat' (first | exact .val _ | exact pure_lts _ _ | exact pure_rps _ _ | exact pure_ints _ _ | exact trivial | refine pure_agg ?_ | refine pure_tup ?_ | refine ⟨?_, ?_⟩)))⟩
      · have hmx : ¬ n.next = 1073741824 := by simpa using h3
        refine cw_skip ?_
        refine cw_seq ?_
        refine cw_float [0, 1, 3, 4, 5, 6, 7, 2, 8, 9, 10] 7 [0, 1, 3, 0, 8, 0, 56, 120, 255, 511, 1023] [[2, 3, 4, 5, 6], [], [], []] (hd1l := [0, 1, 3, 4, 5, 6, 7]) (tll := [(2, [2, 3, 4, 5, 6]), (8, []), (9, []), (10, [])]) (by kernel_rfl) (by kernel_rfl) rfl rfl rfl ?_
        refine chf rfl (hop_y rfl (y_field rfl trivial rfl Try.runUnderlying25 rfl Try.sizeOf23 (by decide))) ?_
        refine chf rfl (hop_y rfl (y_load1 rfl trivial rfl Try.isAgg23 rfl rfl)) ?_
        refine chf rfl (hop_y rfl (y_field rfl trivial rfl Try.runUnderlying25 rfl Try.sizeOf3 (by decide))) ?_
        refine chf rfl (hop_y rfl (y_load1 rfl trivial rfl Try.isAgg3 rfl rfl)) ?_
        refine chf rfl (hop_y rfl (y_load rfl trivial rfl Try.isAgg30 Try.sizeOf30 rfl (Nat.le_of_ble_eq_true rfl))) ?_
        refine chf rfl (hop_y rfl (y_build' #[(0, 1), (1, 5)] rfl ⟨trivial, trivial, trivial⟩ Try.runUnderlying50 Try.zeroValue50 rfl ⟨_, rfl⟩ (fun w => by kernel_rfl) rfl rfl)) ?_
        refine chf rfl (hop_y rfl (y_lit [Lt.cv ⟨n.next, x⟩] rfl ⟨trivial, trivial⟩ Try.runUnderlying23 Try.sizeOf50 Try.zeroValue50 rfl rfl rfl rfl rfl rfl rfl rfl rfl)) ?_
        refine chf_nil ?_
        refine ctl_d rfl rfl (d_appu0 rfl rfl trivial rfl (src_list rfl (by first | exact rows_len (by intro a; rfl) _ | (intro r hr; simp at hr; subst hr; rfl) | (intro r hr; exact rows_len (by intro a; rfl) _ r (List.mem_of_mem_take (List.mem_of_mem_drop hr))) | (intro r hr; simp at hr; obtain ⟨a, _, rfl⟩ := hr; rfl))) Try.runUnderlying23 Try.sizeOf50 Try.typeInfo50 Try.zeroValue50 rfl (by have hb : Try.t50.bytes = 48 := rfl; rw [hb]; first | omega | (simp; omega)) (by first | omega | (simp; omega) | simp) n.fly.length (by simp) ?_)
        refine ⟨⟨(by exact hop_y rfl (y_field rfl trivial rfl Try.runUnderlying25 rfl Try.sizeOf3 (by decide))), (by exact hop_y rfl (y_load1 rfl trivial rfl Try.isAgg3 rfl rfl)), (by exact hop_y rfl (y_load rfl trivial rfl Try.isAgg30 Try.sizeOf30 rfl (Nat.le_of_ble_eq_true rfl))), (by exact hop_y rfl (y_build' #[(0, 1), (1, 5)] rfl ⟨trivial, trivial, trivial⟩ Try.runUnderlying50 Try.zeroValue50 rfl ⟨_, rfl⟩ (fun w => by kernel_rfl) rfl rfl)), (by exact hop_y rfl (y_lit [Lt.cv ⟨n.next, x⟩] rfl ⟨trivial, trivial⟩ Try.runUnderlying23 Try.sizeOf50 Try.zeroValue50 rfl rfl rfl rfl rfl rfl rfl rfl rfl)), trivial⟩, ?_⟩
        refine ctl_d rfl rfl (d_appu rfl trivial trivial rfl (by simp) (src_list rfl (by first | exact rows_len (by intro a; rfl) _ | (intro r hr; simp at hr; subst hr; rfl) | (intro r hr; exact rows_len (by intro a; rfl) _ r (List.mem_of_mem_take (List.mem_of_mem_drop hr))) | (intro r hr; simp at hr; obtain ⟨a, _, rfl⟩ := hr; rfl))) Try.runUnderlying23 Try.sizeOf50 Try.typeInfo50 Try.zeroValue50 rfl (.inr rfl) (by first | exact rows_len (by intro a; rfl) _ | assumption | (intro r hr; simp at hr; obtain ⟨a, _, rfl⟩ := hr; rfl)) (by have hb : Try.t50.bytes = 48 := rfl; rw [hb]; first | omega | (simp; omega)) (by first | omega | (simp; omega) | simp) ((n.fly ++ [(⟨n.next, x⟩ : Lt)]).map Lt.cv) (n.fly.length + 1) (by simp) (by simp) ?_)
        refine ⟨trivial, ?_⟩
        refine ctl_h rfl (hop_y rfl (y_field rfl trivial rfl Try.runUnderlying25 rfl Try.sizeOf23 (by decide))) ⟨trivial, ?_⟩
        refine ctl_d rfl rfl (d_store rfl trivial trivial rfl (by conv => lhs; whnf) Try.sizeOf23 (.inl rfl) rfl rfl (Nat.le_of_ble_eq_true rfl) ?_)
        refine ⟨trivial, ?_⟩
        refine ctl_nil ?_
        refine cw_seq ?_
        refine cw_region ?_
        refine co_y rfl rfl (y_field rfl trivial rfl Try.runUnderlying25 rfl Try.sizeOf3 (by decide)) ?_
        refine co_y rfl rfl (y_load1 rfl trivial rfl Try.isAgg3 rfl rfl) ?_
        refine co_y rfl rfl (y_add rfl trivial rfl rfl rfl (by omega) (by omega)) ?_
        refine co_y rfl rfl (y_field rfl trivial rfl Try.runUnderlying25 rfl Try.sizeOf3 (by decide)) ?_
        refine co_d rfl rfl (d_store rfl trivial trivial rfl (by conv => lhs; whnf) Try.sizeOf3 (.inl rfl) rfl rfl (Nat.le_of_ble_eq_true rfl) ?_)
        refine co_nil ?_
        refine cw_seq ?_
        refine cw_region ?_
        refine co_y rfl rfl (y_load rfl trivial rfl Try.isAgg25 Try.sizeOf25 rfl (Nat.le_of_ble_eq_true rfl)) ?_
        refine co_d rfl rfl (d_store rfl trivial trivial rfl (by conv => lhs; whnf) Try.sizeOf25 (.inr ⟨_, rfl⟩) rfl rfl (Nat.le_of_ble_eq_true rfl) ?_)
        refine co_y rfl rfl (y_assign rfl rfl (by conv => lhs; whnf)) ?_
        refine co_nil ?_
        refine cw_ret ?_
        exact ⟨_, res_all (rs := [.cell 4 25, .tmp 5]) (cs := [_, _]) rfl ⟨⟨trivial, _, _, _, rfl, rfl, .inr ⟨_, Try.isAgg25, Try.sizeOf25, Nat.le_of_ble_eq_true rfl, rfl⟩⟩, ⟨trivial, (by conv => lhs; whnf)⟩, trivial⟩ (Nat.ne_of_beq_eq_false rfl), _, _, rfl, rfl, (by rw [sendS, if_neg hc, if_neg h64, if_neg hmx]; exact .tups ⟨.aggs ⟨.old (.val _), .tok (fun r hr c hc => (rows_pure (f := Lt.cv) (fun _ => Pures.all ⟨.val _, .val _, .val _, .val _, .val _, .val _, trivial⟩) _) r hr c hc), trivial⟩, .old (.val _), trivial⟩)⟩

theorem rd_Send_s (n : Net) (x : Rp) (hl : n.fly.length ≤ maxLen) (σ : List CObj) : CCalls CC 19 [.agg n.cells, .agg x.cells] σ fun r σ' => r = .ret (.tup [.agg (sendS (pb (CkP n)) (pb (RightP x)) n x).1.cells, (.val (.int .i64 ((sendS (pb (CkP n)) (pb (RightP x)) n x).2)))]) ∧ σ' = σ :=
  CCalls.anyw hCC (by repeat' (first | exact .val _ | exact pure_lts _ _ | exact pure_rps _ _ | exact pure_ints _ _ | exact trivial | refine pure_agg ?_ | refine pure_tup ?_ | refine ⟨?_, ?_⟩)) (by repeat' (first | exact .val _ | exact pure_lts _ _ | exact pure_rps _ _ | exact pure_ints _ _ | exact trivial | refine pure_agg ?_ | refine pure_tup ?_ | refine ⟨?_, ?_⟩)) (rd_Send n x hl) σ

def rfind : List Lt → Int → Nat → Int
  | [], _, _ => -1
  | x :: l, num, i => if x.n = num then i else rfind l num (i + 1)
theorem rfind_step {l : List Lt} {i : Nat} {x : Lt} (h : l[i]? = some x) (num : Int) : rfind (l.drop i) num i = if x.n = num then (i : Int) else rfind (l.drop (i + 1)) num (i + 1) := by
  obtain ⟨hlt, rfl⟩ := List.getElem?_eq_some_iff.1 h
  rw [List.drop_eq_getElem_cons hlt]
  rfl
theorem rfind_app {num : Int} : ∀ {A : List Lt} {B : List Lt} {i : Nat}, (∀ a ∈ A, a.n ≠ num) → rfind (A ++ B) num i = rfind B num (i + A.length)
  | [], _, i, _ => by simp
  | a :: A, B, i, h => by
    rw [List.cons_append]
    show (if a.n = num then (i : Int) else rfind (A ++ B) num (i + 1)) = _
    rw [if_neg (h a (by simp)), rfind_app fun x hx => h x (by simp [hx])]
    simp only [List.length_cons]
    rw [show i + 1 + A.length = i + (A.length + 1) by omega]
theorem rfind_none {num : Int} : ∀ {l : List Lt} {i : Nat}, (∀ a ∈ l, a.n ≠ num) → rfind l num i = -1
  | [], _, _ => rfl
  | a :: l, i, h => by
    show (if a.n = num then _ else _) = _
    rw [if_neg (h a (by simp)), rfind_none fun x hx => h x (by simp [hx])]
theorem fAB_ne {n : Net} {num : Int} (hc : CkP n) : (∃ b B, fB n num = b :: B ∧ b.n = num ∧ rfind n.fly num 0 = (fA n num).length) ∨ ((∀ a ∈ n.fly, a.n ≠ num) ∧ rfind n.fly num 0 = -1 ∧ hdEq (fB n num) num = false) := by
  have hA : ∀ a ∈ fA n num, a.n ≠ num := fun a ha => by have := fA_lt n num a ha; omega
  have hB := fB_ge hc num
  have e := fAB n num
  cases hf : fB n num with
  | nil =>
    rw [hf, List.append_nil] at e
    exact .inr ⟨by rw [e]; exact hA, rfind_none (by rw [e]; exact hA), rfl⟩
  | cons b B =>
    rw [hf] at hB e
    by_cases hb : b.n = num
    · refine .inl ⟨b, B, rfl, hb, ?_⟩
      conv => lhs; rw [e]
      rw [rfind_app hA]
      show (if b.n = num then _ else _) = _
      rw [if_pos hb]; simp
    · have hall : ∀ a ∈ n.fly, a.n ≠ num := fun a ha => by
        rw [e] at ha
        rcases List.mem_append.1 ha with ha | ha
        · exact hA a ha
        · rcases List.mem_cons.1 ha with rfl | ha
          · exact hb
          · obtain ⟨lo', hasc⟩ := asc_tail (by have := hc.asc; rw [e] at this; exact this)
            have h1 := asc_all hasc.2 a ha
            have h2 := hB b (by simp)
            omega
      exact .inr ⟨hall, rfind_none hall, by simp [hdEq, hb]⟩
/-- What the reference's Deliver makes: as the program's, but for nil. -/
def rdelS (c : Bool) (n : Net) (num : Int) (keep : Bool) : Net × Rp × Int :=
  if c = false then (zeroN, zeroR, 1) else match fB n num with
  | [] => (zeroN, zeroR, 18)
  | b :: B => if b.n = num then (⟨n.next, if keep = true then n.fly else fA n num ++ B, if keep = true then n.nn else gnn (fA n num ++ B).length⟩, b.r, 0) else (zeroN, zeroR, 18)
theorem rdel_no {n : Net} {num : Int} {keep : Bool} (hc : pb (CkP n) = true) (h : hdEq (fB n num) num = false) : rdelS (pb (CkP n)) n num keep = (zeroN, zeroR, 18) := by
  unfold rdelS
  rw [if_neg (by rw [hc]; decide)]
  cases hf : fB n num with
  | nil => rfl
  | cons b B =>
    rw [hf] at h
    simp [hdEq] at h
    simp only
    rw [if_neg h]
theorem rdel_yes {n : Net} {num : Int} {keep : Bool} {b : Lt} {B : List Lt} (hc : pb (CkP n) = true) (hB : fB n num = b :: B) (hb : b.n = num) : rdelS (pb (CkP n)) n num keep = (⟨n.next, if keep = true then n.fly else fA n num ++ B, if keep = true then n.nn else gnn (fA n num ++ B).length⟩, b.r, 0) := by
  unfold rdelS
  rw [if_neg (by rw [hc]; decide), hB]
  simp only
  rw [if_pos hb]

set_option maxRecDepth 10000 in
theorem rd_find (n : Net) (num : Int) (hl : n.fly.length ≤ maxLen) : CCalls CC 48 [.agg n.cells, (.val (.int .i64 (num)))] [] fun r σ' => r = .ret (.val (.int .i64 (rfind n.fly num 0))) ∧ σ' = [] := by
  unfold maxLen at hl
  refine ccalls_val (ccalls_of Try.func48 rfl rfl ?_)
  refine cw_seq ?_
  refine cw_region ?_
  refine co_d rfl rfl (d_box rfl trivial (by conv => lhs; whnf) (.inr ⟨_, rfl⟩) ?_)
  refine co_y rfl rfl (y_assign rfl rfl (by conv => lhs; whnf)) ?_
  refine co_nil ?_
  refine cw_seq ?_
  refine cw_seq ?_
  refine cw_region ?_
  refine co_y rfl rfl (y_assign rfl rfl (by conv => lhs; whnf)) ?_
  refine co_nil ?_
  refine cw_block ?_
  refine cw_loopd hCC (α := Nat) (fun i => [(1, (.val (.int .i64 (num)))), (2, .ptr 0 0), (5, (.val (.int .i64 ((i : Int)))))]) (fun _ => [.box n.cells]) (fun i => i ≤ n.fly.length ∧ rfind n.fly num 0 = rfind (n.fly.drop i) num i) (fun i => n.fly.length - i) 0 ⟨Nat.zero_le _, rfl⟩ ⟨⟨trivial, rfl⟩, ⟨trivial, rfl⟩, ⟨trivial, rfl⟩, trivial⟩ (extra0 := []) rfl (fun _ _ => Nat.le_of_ble_eq_true rfl) (fun a ha => by repeat' (first | exact trivial | exact .val _ | exact .ptr (Nat.le_of_ble_eq_true rfl) | exact .map (Nat.le_of_ble_eq_true rfl) | exact (by first | exact old_lts _ _ _ | exact old_rps _ _ _ | exact old_ints _ _ _) | refine old_box ?_ | refine ⟨?_, ?_⟩)) ?_
  intro i ⟨hi, hr⟩
  refine cw_seq ?_
  refine cw_seq ?_
  refine cw_region ?_
  refine co_y rfl rfl (y_move rfl trivial (by conv => lhs; whnf)) ?_
  refine co_y rfl rfl (y_field rfl trivial rfl Try.runUnderlying25 rfl Try.sizeOf23 (by decide)) ?_
  refine co_y rfl rfl (y_load1 rfl trivial rfl Try.isAgg23 rfl rfl) ?_
  refine co_y rfl rfl (y_len rfl trivial rfl Try.runUnderlying23 (by first | exact len_map _ _ | rfl) rfl) ?_
  refine co_y rfl rfl (y_int rfl trivial trivial rfl rfl rfl) ?_
  refine co_nil ?_
  refine cw_cond trivial rfl (fun h1 => ?_) (fun h1 => ?_)
  · have hlt : (i : Int) < n.fly.length := by simpa using h1
    obtain ⟨x, hb⟩ : ∃ x, n.fly[i]? = some x := ⟨n.fly[i]'(by omega), by simp⟩
    rw [rfind_step hb] at hr
    refine cw_skip ?_
    refine cw_seq ?_
    refine cw_block ?_
    refine cw_seq ?_
    refine cw_region ?_
    refine co_y rfl rfl (y_field rfl trivial rfl Try.runUnderlying25 rfl Try.sizeOf23 (by decide)) ?_
    refine co_y rfl rfl (y_load1 rfl trivial rfl Try.isAgg23 rfl rfl) ?_
    refine co_y rfl rfl (y_move rfl trivial (by conv => lhs; whnf)) ?_
    refine co_y rfl rfl (y_index rfl trivial trivial rfl rfl Try.runUnderlying23 Try.sizeOf50 (by omega) (rows_get hb) rfl) ?_
    refine co_y rfl rfl (y_field_c rfl trivial rfl Try.runUnderlying50 rfl Try.sizeOf3 (by decide)) ?_
    refine co_y rfl rfl (y_load_c1 rfl trivial rfl Try.isAgg3 rfl) ?_
    refine co_y rfl rfl (y_move rfl trivial (by conv => lhs; whnf)) ?_
    refine co_y rfl rfl (y_int rfl trivial trivial rfl rfl rfl) ?_
    refine co_nil ?_
    refine cw_cond trivial rfl (fun h2 => ?_) (fun h2 => ?_)
    · have hx : x.n = num := by simpa using h2
      rw [if_pos hx] at hr
      refine cw_seq ?_
      refine cw_region ?_
      refine co_y rfl rfl (y_move rfl trivial (by conv => lhs; whnf)) ?_
      refine co_y rfl rfl (y_assign rfl trivial (by conv => lhs; whnf)) ?_
      refine co_nil ?_
      refine cw_ret ?_
      exact ⟨_, res1 rfl trivial (by conv => lhs; whnf), _, _, rfl, rfl, cls_int hr.symm⟩
    · have hx : ¬ x.n = num := by simpa using h2
      rw [if_neg hx] at hr
      refine cw_skip ?_
      refine cw_region ?_
      refine co_y rfl rfl (y_move rfl trivial (by conv => lhs; whnf)) ?_
      refine co_y rfl rfl (y_add rfl trivial rfl rfl rfl (by omega) (by omega)) ?_
      refine co_y rfl rfl (y_assign rfl trivial (by conv => lhs; whnf)) ?_
      refine co_nil ?_
      exact ⟨(i + 1), _, ⟨by omega, by omega, hr⟩, ⟨⟨trivial, rfl⟩, ⟨trivial, rfl⟩, ⟨trivial, rfl⟩, trivial⟩, rfl⟩
  · have hge : i = n.fly.length := by
      have : ¬ (i : Int) < n.fly.length := by simpa using h1
      omega
    refine cw_exit ?_
    refine cw_seq ?_
    refine cw_region ?_
    refine co_y rfl rfl (y_assign rfl rfl (by conv => lhs; whnf)) ?_
    refine co_nil ?_
    refine cw_ret ?_
    exact ⟨_, res1 rfl trivial (by conv => lhs; whnf), _, _, rfl, rfl, cls_int (by rw [hr, hge, List.drop_length]; rfl)⟩

theorem rd_find_s (n : Net) (num : Int) (hl : n.fly.length ≤ maxLen) (σ : List CObj) : CCalls CC 48 [.agg n.cells, (.val (.int .i64 (num)))] σ fun r σ' => r = .ret (.val (.int .i64 (rfind n.fly num 0))) ∧ σ' = σ :=
  CCalls.anyw hCC (by repeat' (first | exact .val _ | exact pure_lts _ _ | exact pure_rps _ _ | exact pure_ints _ _ | exact trivial | refine pure_agg ?_ | refine pure_tup ?_ | refine ⟨?_, ?_⟩)) (by repeat' (first | exact .val _ | exact pure_lts _ _ | exact pure_rps _ _ | exact pure_ints _ _ | exact trivial | refine pure_agg ?_ | refine pure_tup ?_ | refine ⟨?_, ?_⟩)) (rd_find n num hl) σ

theorem eq_lt (x y : Lt) : ∀ w, (Op.equal 50 (.agg [.int .i64 x.n, .int .i64 x.r.t, .int .i64 x.r.a, .int .i64 x.r.m, .int .i64 x.r.e, .int .i64 x.r.o].toArray) (.agg [.int .i64 y.n, .int .i64 y.r.t, .int .i64 y.r.a, .int .i64 y.r.m, .int .i64 y.r.e, .int .i64 y.r.o].toArray)).run CC.P w = .ok (decide (x = y)) w := fun w => by
  show (Op.equal _ _ _).run Try.prog w = _
  simp [Op.equal, Op.maxDepth, go_sem] -- reads both types
  obtain ⟨n, a, b, c, d, e⟩ := x
  obtain ⟨n', a', b', c', d', e'⟩ := y
  by_cases h0 : n = n' <;> by_cases h1 : a = a' <;> by_cases h2 : b = b' <;> by_cases h3 : c = c' <;> by_cases h4 : d = d' <;> by_cases h5 : e = e' <;> simp [h0, h1, h2, h3, h4, h5]
theorem ext_take {α : Type} {a b : List α} {i : Nat} (hl : a.length = b.length) (h : ∀ j, j < i → a[j]? = b[j]?) (hi : a.length ≤ i) : a = b := List.ext_getElem? fun j => by
  rcases Nat.lt_or_ge j i with hj | hj
  · exact h j hj
  · rw [List.getElem?_eq_none (by omega), List.getElem?_eq_none (by omega)]

set_option maxRecDepth 10000 in
theorem rd_Same (a b : Net) (hl : a.fly.length ≤ maxLen) : CCalls CC 23 [.agg a.cells, .agg b.cells] [] fun r σ' => r = .ret (.val (.bool (decide (a.next = b.next ∧ a.fly = b.fly)))) ∧ σ' = [] := by
  unfold maxLen at hl
  refine ccalls_val (ccalls_of Try.func23 rfl rfl ?_)
  refine cw_seq ?_
  refine cw_region ?_
  refine co_d rfl rfl (d_box rfl trivial (by conv => lhs; whnf) (.inr ⟨_, rfl⟩) ?_)
  refine co_d rfl rfl (d_box rfl trivial (by conv => lhs; whnf) (.inr ⟨_, rfl⟩) ?_)
  refine co_y rfl rfl (y_assign rfl rfl (by conv => lhs; whnf)) ?_
  refine co_nil ?_
  refine cw_seq ?_
  refine cw_seq ?_
  refine cw_region ?_
  refine co_y rfl rfl (y_field rfl trivial rfl Try.runUnderlying25 rfl Try.sizeOf3 (by decide)) ?_
  refine co_y rfl rfl (y_load1 rfl trivial rfl Try.isAgg3 rfl rfl) ?_
  refine co_y rfl rfl (y_field rfl trivial rfl Try.runUnderlying25 rfl Try.sizeOf3 (by decide)) ?_
  refine co_y rfl rfl (y_load1 rfl trivial rfl Try.isAgg3 rfl rfl) ?_
  refine co_y rfl rfl (y_int rfl trivial trivial rfl rfl rfl) ?_
  refine co_y rfl rfl (y_move rfl trivial (by conv => lhs; whnf)) ?_
  refine co_g rfl rfl trivial rfl rfl (fun hg => y_field rfl trivial rfl Try.runUnderlying25 rfl Try.sizeOf23 (by decide)) ?_
  refine co_g rfl rfl trivial rfl rfl (fun hg => y_load1 rfl hg rfl Try.isAgg23 rfl rfl) ?_
  refine co_g rfl rfl trivial rfl rfl (fun hg => y_len rfl hg rfl Try.runUnderlying23 (by first | exact len_map _ _ | rfl) rfl) ?_
  refine co_g rfl rfl trivial rfl rfl (fun hg => y_field rfl trivial rfl Try.runUnderlying25 rfl Try.sizeOf23 (by decide)) ?_
  refine co_g rfl rfl trivial rfl rfl (fun hg => y_load1 rfl hg rfl Try.isAgg23 rfl rfl) ?_
  refine co_g rfl rfl trivial rfl rfl (fun hg => y_len rfl hg rfl Try.runUnderlying23 (by first | exact len_map _ _ | rfl) rfl) ?_
  refine co_g rfl rfl trivial rfl rfl (fun hg => y_int rfl hg hg rfl rfl rfl) ?_
  refine co_y rfl rfl (y_pick_or rfl trivial rfl (fun hp => hp) (fun _ => rfl)) ?_
  refine co_nil ?_
  refine cw_cond trivial rfl (fun h1 => ?_) (fun h1 => ?_)
  · have hx : ¬ (a.next = b.next ∧ a.fly = b.fly) := fun ⟨g1, g2⟩ => by
      rw [g1, g2] at h1
      simp at h1
    refine cw_seq ?_
    refine cw_region ?_
    refine co_y rfl rfl (y_assign rfl rfl (by conv => lhs; whnf)) ?_
    refine co_nil ?_
    refine cw_ret ?_
    exact ⟨_, res1 rfl trivial (by conv => lhs; whnf), _, _, rfl, rfl, cls_bool (decide_eq_false hx).symm⟩
  · have hx : a.next = b.next ∧ a.fly.length = b.fly.length := by simp at h1; omega
    refine cw_skip ?_
    refine cw_seq ?_
    refine cw_seq ?_
    refine cw_region ?_
    refine co_y rfl rfl (y_assign rfl rfl (by conv => lhs; whnf)) ?_
    refine co_nil ?_
    refine cw_block ?_
    refine cw_loopd hCC (α := Nat) (fun i => [(2, .ptr 0 0), (3, .ptr 1 0), (5, (.val (.int .i64 ((i : Int)))))]) (fun _ => [.box a.cells, .box b.cells]) (fun i => i ≤ a.fly.length ∧ ∀ j, j < i → a.fly[j]? = b.fly[j]?) (fun i => a.fly.length - i) 0 ⟨Nat.zero_le _, fun j hj => absurd hj (Nat.not_lt_zero j)⟩ ⟨⟨trivial, rfl⟩, ⟨trivial, rfl⟩, ⟨trivial, rfl⟩, trivial⟩ (extra0 := []) rfl (fun _ _ => Nat.le_of_ble_eq_true rfl) (fun a ha => by repeat' (first | exact trivial | exact .val _ | exact .ptr (Nat.le_of_ble_eq_true rfl) | exact .map (Nat.le_of_ble_eq_true rfl) | exact (by first | exact old_lts _ _ _ | exact old_rps _ _ _ | exact old_ints _ _ _) | refine old_box ?_ | refine ⟨?_, ?_⟩)) ?_
    intro i ⟨hi, hp⟩
    refine cw_seq ?_
    refine cw_seq ?_
    refine cw_region ?_
    refine co_y rfl rfl (y_move rfl trivial (by conv => lhs; whnf)) ?_
    refine co_y rfl rfl (y_field rfl trivial rfl Try.runUnderlying25 rfl Try.sizeOf23 (by decide)) ?_
    refine co_y rfl rfl (y_load1 rfl trivial rfl Try.isAgg23 rfl rfl) ?_
    refine co_y rfl rfl (y_len rfl trivial rfl Try.runUnderlying23 (by first | exact len_map _ _ | rfl) rfl) ?_
    refine co_y rfl rfl (y_int rfl trivial trivial rfl rfl rfl) ?_
    refine co_nil ?_
    refine cw_cond trivial rfl (fun h2 => ?_) (fun h2 => ?_)
    · have hlt : (i : Int) < a.fly.length := by simpa using h2
      obtain ⟨x, hbx⟩ : ∃ x, a.fly[i]? = some x := ⟨a.fly[i]'(by omega), by simp⟩
      obtain ⟨y, hby⟩ : ∃ y, b.fly[i]? = some y := ⟨b.fly[i]'(by omega), by simp⟩
      refine cw_skip ?_
      refine cw_seq ?_
      refine cw_block ?_
      refine cw_seq ?_
      refine cw_draw 11 [0, 1, 0, 7, 15, 0, 32, 0, 224, 480, 1023] (by kernel_rfl) (by kernel_rfl) rfl ?_
      refine ch_y rfl (y_field rfl trivial rfl Try.runUnderlying25 rfl Try.sizeOf23 (by decide)) ?_
      refine ch_y rfl (y_load1 rfl trivial rfl Try.isAgg23 rfl rfl) ?_
      refine ch_y rfl (y_move rfl trivial (by conv => lhs; whnf)) ?_
      refine ch_y rfl (y_index rfl trivial trivial rfl rfl Try.runUnderlying23 Try.sizeOf50 (by omega) (rows_get hbx) rfl) ?_
      refine ch_y rfl (y_load_c rfl trivial rfl Try.isAgg50 Try.sizeOf50 (Nat.le_of_ble_eq_true rfl)) ?_
      refine ch_y rfl (y_field rfl trivial rfl Try.runUnderlying25 rfl Try.sizeOf23 (by decide)) ?_
      refine ch_y rfl (y_load1 rfl trivial rfl Try.isAgg23 rfl rfl) ?_
      refine ch_y rfl (y_move rfl trivial (by conv => lhs; whnf)) ?_
      refine ch_y rfl (y_index rfl trivial trivial rfl rfl Try.runUnderlying23 Try.sizeOf50 (by omega) (rows_get hby) rfl) ?_
      refine ch_y rfl (y_load_c rfl trivial rfl Try.isAgg50 Try.sizeOf50 (Nat.le_of_ble_eq_true rfl)) ?_
      refine ch_y rfl (y_nes rfl trivial trivial (xs := [.int .i64 x.n, .int .i64 x.r.t, .int .i64 x.r.a, .int .i64 x.r.m, .int .i64 x.r.e, .int .i64 x.r.o]) (ys := [.int .i64 y.n, .int .i64 y.r.t, .int .i64 y.r.a, .int .i64 y.r.m, .int .i64 y.r.e, .int .i64 y.r.o]) rfl rfl Try.eqGuardType50 (eq_lt x y)) ?_
      refine ch_nil ?_
      refine co_nil ?_
      refine cw_cond trivial rfl (fun h3 => ?_) (fun h3 => ?_)
      · have hxy : ¬ x = y := by simpa using h3
        have hno : ¬ (a.next = b.next ∧ a.fly = b.fly) := fun ⟨_, g⟩ => hxy (by rw [g, hby] at hbx; exact (Option.some.inj hbx).symm)
        refine cw_seq ?_
        refine cw_region ?_
        refine co_y rfl rfl (y_assign rfl rfl (by conv => lhs; whnf)) ?_
        refine co_nil ?_
        refine cw_ret ?_
        exact ⟨_, res1 rfl trivial (by conv => lhs; whnf), _, _, rfl, rfl, cls_bool (decide_eq_false hno).symm⟩
      · have hxy : x = y := by simpa using h3
        refine cw_skip ?_
        refine cw_region ?_
        refine co_y rfl rfl (y_move rfl trivial (by conv => lhs; whnf)) ?_
        refine co_y rfl rfl (y_add rfl trivial rfl rfl rfl (by omega) (by omega)) ?_
        refine co_y rfl rfl (y_assign rfl trivial (by conv => lhs; whnf)) ?_
        refine co_nil ?_
        exact ⟨(i + 1), _, ⟨by omega, by omega, fun j hj => by
        rcases Nat.lt_or_ge j i with h | h
        · exact hp j h
        · obtain rfl : j = i := by omega
          rw [hbx, hby, hxy]⟩, ⟨⟨trivial, rfl⟩, ⟨trivial, rfl⟩, ⟨trivial, rfl⟩, trivial⟩, rfl⟩
    · have hge : a.fly.length ≤ i := by
        have : ¬ (i : Int) < a.fly.length := by simpa using h2
        omega
      refine cw_exit ?_
      refine cw_seq ?_
      refine cw_region ?_
      refine co_y rfl rfl (y_assign rfl rfl (by conv => lhs; whnf)) ?_
      refine co_nil ?_
      refine cw_ret ?_
      exact ⟨_, res1 rfl trivial (by conv => lhs; whnf), _, _, rfl, rfl, cls_bool (decide_eq_true ⟨hx.1, ext_take hx.2 hp hge⟩).symm⟩

theorem rd_Same_s (a b : Net) (hl : a.fly.length ≤ maxLen) (σ : List CObj) : CCalls CC 23 [.agg a.cells, .agg b.cells] σ fun r σ' => r = .ret (.val (.bool (decide (a.next = b.next ∧ a.fly = b.fly)))) ∧ σ' = σ :=
  CCalls.anyw hCC (by repeat' (first | exact .val _ | exact pure_lts _ _ | exact pure_rps _ _ | exact pure_ints _ _ | exact trivial | refine pure_agg ?_ | refine pure_tup ?_ | refine ⟨?_, ?_⟩)) (by repeat' (first | exact .val _ | exact pure_lts _ _ | exact pure_rps _ _ | exact pure_ints _ _ | exact trivial | refine pure_agg ?_ | refine pure_tup ?_ | refine ⟨?_, ?_⟩)) (rd_Same a b hl) σ

end Go.Proofs.Ytchaklkfaemfgaa
