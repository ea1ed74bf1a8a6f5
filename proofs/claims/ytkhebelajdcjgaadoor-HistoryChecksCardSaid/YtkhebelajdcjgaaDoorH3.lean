import Derived.Test.YtkhebelajdcjgaaDoorH2
namespace Go.Proofs.YtkhebelajdcjgaaDoor
open Go Go.Cl

/-- What the contracts ask of a history. -/
structure Fits (h : Hist) : Prop where
  len : h.bs.length ≤ 4294967296
  cnt : ∀ b ∈ h.bs, -9223372036854775808 ≤ b.count ∧ b.count ≤ 9223372036854775807
structure TopP (h : Hist) : Prop where
  use : usable h.pkg h.test = true
  env : 0 ≤ h.env ∧ h.env ≤ 63
  k : 2 ≤ h.k ∧ h.k ≤ 16
  fail : 0 ≤ h.failed ∧ h.failed ≤ h.runs ∧ h.runs ≤ 1073741824
  last : 0 ≤ h.last ∧ h.last ≤ 1073741824
  zero : h.last = 0 ↔ h.runs = 0
structure ChkP (h : Hist) : Prop extends TopP h where
  ord : OrdP h.bs h.last
  siz : SizP h.bs h.k h.failed
structure OneP (h : Hist) (i : Nat) (b : Bkt) : Prop where
  pow : isP b.count = true
  most : b.count ≤ 1073741824
  first : 1 ≤ b.first ∧ b.first ≤ b.last ∧ b.last ≤ h.last
  one : b.count = 1 → b.first = b.last
  num : num h.bs b.count ≤ h.k
  sum : sumC (h.bs.take (i + 1)) ≤ h.failed
  prev : ∀ p, 0 < i → h.bs[i - 1]? = some p → b.count ≤ p.count ∧ p.last ≤ b.first
structure BukP (h : Hist) : Prop where
  one : ∀ (i : Nat) (b : Bkt), h.bs[i]? = some b → OneP h i b
  low : ∀ (j : Nat) (b : Bkt), h.bs[0]? = some b → (2 : Int) ^ j < b.count → h.k - 1 ≤ num h.bs (2 ^ j)
  sum : sumC h.bs = h.failed
theorem isP_pos {c : Int} (h : isP c = true) : 1 ≤ c := by
  simp only [isP, decide_eq_true_eq] at h
  exact h.1

set_option maxRecDepth 10000 in
theorem hi_Check (h : Hist) (hf : Fits h) : CCalls CC 15 [.agg h.cells] [] fun r σ' => r = .ret (.val (.bool (pb (ChkP h)))) ∧ σ' = [] := by
  refine ccalls_val (ccalls_of Tryd.func15 rfl rfl ?_)
  refine cw_seq ?_
  refine cw_region ?_
  refine co_d rfl rfl (d_box rfl trivial (by conv => lhs; whnf) (.inr ⟨_, rfl⟩) ?_)
  refine co_y rfl rfl (y_assign rfl rfl (by conv => lhs; whnf)) ?_
  refine co_nil ?_
  refine cw_seq ?_
  refine cw_seq ?_
  refine cw_region ?_
  refine co_y rfl rfl (y_field rfl trivial rfl Tryd.runUnderlying26 rfl Tryd.sizeOf23 (by decide)) ?_
  refine co_y rfl rfl (y_load rfl trivial rfl Tryd.isAgg23 Tryd.sizeOf23 rfl (Nat.le_of_ble_eq_true rfl)) ?_
  refine co_y rfl rfl (y_callf rfl Tryd.call28 ⟨trivial, trivial⟩ (hi_usable_s h.pkg h.test _) rfl) ?_
  refine co_y rfl rfl (y_not rfl trivial rfl) ?_
  refine co_y rfl rfl (y_move rfl trivial (by conv => lhs; whnf)) ?_
  refine co_g rfl rfl trivial rfl rfl (fun hg => y_field rfl trivial rfl Tryd.runUnderlying26 rfl Tryd.sizeOf3 (by decide)) ?_
  refine co_g rfl rfl trivial rfl rfl (fun hg => y_load1 rfl hg rfl Tryd.isAgg3 rfl rfl) ?_
  refine co_g rfl rfl trivial rfl rfl (fun hg => y_int rfl hg rfl rfl rfl rfl) ?_
  refine co_y rfl rfl (y_pick_or rfl trivial rfl (fun hp => hp) (fun _ => rfl)) ?_
  refine co_y rfl rfl (y_move rfl trivial (by conv => lhs; whnf)) ?_
  refine co_g rfl rfl trivial rfl rfl (fun hg => y_field rfl trivial rfl Tryd.runUnderlying26 rfl Tryd.sizeOf3 (by decide)) ?_
  refine co_g rfl rfl trivial rfl rfl (fun hg => y_load1 rfl hg rfl Tryd.isAgg3 rfl rfl) ?_
  refine co_g rfl rfl trivial rfl rfl (fun hg => y_int rfl hg rfl rfl rfl rfl) ?_
  refine co_y rfl rfl (y_pick_or rfl trivial rfl (fun hp => hp) (fun _ => rfl)) ?_
  refine co_y rfl rfl (y_move rfl trivial (by conv => lhs; whnf)) ?_
  refine co_g rfl rfl trivial rfl rfl (fun hg => y_field rfl trivial rfl Tryd.runUnderlying26 rfl Tryd.sizeOf3 (by decide)) ?_
  refine co_g rfl rfl trivial rfl rfl (fun hg => y_load1 rfl hg rfl Tryd.isAgg3 rfl rfl) ?_
  refine co_g rfl rfl trivial rfl rfl (fun hg => y_int rfl hg rfl rfl rfl rfl) ?_
  refine co_y rfl rfl (y_pick_or rfl trivial rfl (fun hp => hp) (fun _ => rfl)) ?_
  refine co_y rfl rfl (y_move rfl trivial (by conv => lhs; whnf)) ?_
  refine co_g rfl rfl trivial rfl rfl (fun hg => y_field rfl trivial rfl Tryd.runUnderlying26 rfl Tryd.sizeOf3 (by decide)) ?_
  refine co_g rfl rfl trivial rfl rfl (fun hg => y_load1 rfl hg rfl Tryd.isAgg3 rfl rfl) ?_
  refine co_g rfl rfl trivial rfl rfl (fun hg => y_int rfl hg rfl rfl rfl rfl) ?_
  refine co_y rfl rfl (y_pick_or rfl trivial rfl (fun hp => hp) (fun _ => rfl)) ?_
  refine co_nil ?_
  refine cw_cond trivial rfl (fun h1 => ?_) (fun h1 => ?_)
  · skip
    refine cw_seq ?_
    refine cw_region ?_
    refine co_y rfl rfl (y_assign rfl rfl (by conv => lhs; whnf)) ?_
    refine co_nil ?_
    refine cw_ret ?_
    exact ⟨_, res1 rfl trivial (by conv => lhs; whnf), _, _, rfl, rfl, cls_bool (pb_false fun g => (by have e1 := g.use; have e2 := g.env; have e3 := g.k; simp [e1] at h1; omega))⟩
  · simp at h1
    refine cw_skip ?_
    refine cw_seq ?_
    refine cw_seq ?_
    refine cw_region ?_
    refine co_y rfl rfl (y_field rfl trivial rfl Tryd.runUnderlying26 rfl Tryd.sizeOf3 (by decide)) ?_
    refine co_y rfl rfl (y_load1 rfl trivial rfl Tryd.isAgg3 rfl rfl) ?_
    refine co_y rfl rfl (y_int rfl trivial rfl rfl rfl rfl) ?_
    refine co_y rfl rfl (y_move rfl trivial (by conv => lhs; whnf)) ?_
    refine co_g rfl rfl trivial rfl rfl (fun hg => y_field rfl trivial rfl Tryd.runUnderlying26 rfl Tryd.sizeOf3 (by decide)) ?_
    refine co_g rfl rfl trivial rfl rfl (fun hg => y_load1 rfl hg rfl Tryd.isAgg3 rfl rfl) ?_
    refine co_g rfl rfl trivial rfl rfl (fun hg => y_field rfl trivial rfl Tryd.runUnderlying26 rfl Tryd.sizeOf3 (by decide)) ?_
    refine co_g rfl rfl trivial rfl rfl (fun hg => y_load1 rfl hg rfl Tryd.isAgg3 rfl rfl) ?_
    refine co_g rfl rfl trivial rfl rfl (fun hg => y_int rfl hg hg rfl rfl rfl) ?_
    refine co_y rfl rfl (y_pick_or rfl trivial rfl (fun hp => hp) (fun _ => rfl)) ?_
    refine co_y rfl rfl (y_move rfl trivial (by conv => lhs; whnf)) ?_
    refine co_g rfl rfl trivial rfl rfl (fun hg => y_field rfl trivial rfl Tryd.runUnderlying26 rfl Tryd.sizeOf3 (by decide)) ?_
    refine co_g rfl rfl trivial rfl rfl (fun hg => y_load1 rfl hg rfl Tryd.isAgg3 rfl rfl) ?_
    refine co_g rfl rfl trivial rfl rfl (fun hg => y_int rfl hg rfl rfl rfl rfl) ?_
    refine co_y rfl rfl (y_pick_or rfl trivial rfl (fun hp => hp) (fun _ => rfl)) ?_
    refine co_y rfl rfl (y_move rfl trivial (by conv => lhs; whnf)) ?_
    refine co_g rfl rfl trivial rfl rfl (fun hg => y_field rfl trivial rfl Tryd.runUnderlying26 rfl Tryd.sizeOf3 (by decide)) ?_
    refine co_g rfl rfl trivial rfl rfl (fun hg => y_load1 rfl hg rfl Tryd.isAgg3 rfl rfl) ?_
    refine co_g rfl rfl trivial rfl rfl (fun hg => y_int rfl hg rfl rfl rfl rfl) ?_
    refine co_y rfl rfl (y_pick_or rfl trivial rfl (fun hp => hp) (fun _ => rfl)) ?_
    refine co_y rfl rfl (y_move rfl trivial (by conv => lhs; whnf)) ?_
    refine co_g rfl rfl trivial rfl rfl (fun hg => y_field rfl trivial rfl Tryd.runUnderlying26 rfl Tryd.sizeOf3 (by decide)) ?_
    refine co_g rfl rfl trivial rfl rfl (fun hg => y_load1 rfl hg rfl Tryd.isAgg3 rfl rfl) ?_
    refine co_g rfl rfl trivial rfl rfl (fun hg => y_int rfl hg rfl rfl rfl rfl) ?_
    refine co_y rfl rfl (y_pick_or rfl trivial rfl (fun hp => hp) (fun _ => rfl)) ?_
    refine co_y rfl rfl (y_move rfl trivial (by conv => lhs; whnf)) ?_
    refine co_g rfl rfl trivial rfl rfl (fun hg => y_field rfl trivial rfl Tryd.runUnderlying26 rfl Tryd.sizeOf3 (by decide)) ?_
    refine co_g rfl rfl trivial rfl rfl (fun hg => y_load1 rfl hg rfl Tryd.isAgg3 rfl rfl) ?_
    refine co_g rfl rfl trivial rfl rfl (fun hg => y_int rfl hg rfl rfl rfl rfl) ?_
    refine co_g rfl rfl trivial rfl rfl (fun hg => y_field rfl trivial rfl Tryd.runUnderlying26 rfl Tryd.sizeOf3 (by decide)) ?_
    refine co_g rfl rfl trivial rfl rfl (fun hg => y_load1 rfl hg rfl Tryd.isAgg3 rfl rfl) ?_
    refine co_g rfl rfl trivial rfl rfl (fun hg => y_int rfl hg rfl rfl rfl rfl) ?_
    refine co_g rfl rfl trivial rfl rfl (fun hg => y_boolop rfl Tryd.runUnderlying4 hg hg rfl rfl rfl) ?_
    refine co_y rfl rfl (y_pick_or rfl trivial rfl (fun hp => hp) (fun _ => rfl)) ?_
    refine co_nil ?_
    refine cw_cond trivial rfl (fun h2 => ?_) (fun h2 => ?_)
    · skip
      refine cw_seq ?_
      refine cw_region ?_
      refine co_y rfl rfl (y_assign rfl rfl (by conv => lhs; whnf)) ?_
      refine co_nil ?_
      refine cw_ret ?_
      exact ⟨_, res1 rfl trivial (by conv => lhs; whnf), _, _, rfl, rfl, cls_bool (pb_false fun g => (by have e1 := g.fail; have e2 := g.last; have e3 := g.zero; simp at h2; rcases h2 with ((((h2 | h2) | h2) | h2) | h2) | h2 <;> first | omega | exact h2 (by rw [Bool.eq_iff_iff]; simpa using e3)))⟩
    · have q : ChkP h ↔ OrdP h.bs h.last ∧ SizP h.bs h.k h.failed := by
        simp at h2
        obtain ⟨⟨⟨⟨⟨p1, p2⟩, p3⟩, p4⟩, p5⟩, p6⟩ := h2
        rw [Bool.eq_iff_iff] at p6
        simp at p6
        exact ⟨fun g => ⟨g.ord, g.siz⟩, fun g => ⟨⟨h1.1.1.1.1, ⟨by omega, by omega⟩, ⟨by omega, by omega⟩, ⟨by omega, by omega, by omega⟩, ⟨by omega, by omega⟩, p6⟩, g.1, g.2⟩⟩
      refine cw_skip ?_
      refine cw_seq ?_
      refine cw_region ?_
      refine co_y rfl rfl (y_load rfl trivial rfl Tryd.isAgg26 Tryd.sizeOf26 rfl (Nat.le_of_ble_eq_true rfl)) ?_
      refine co_y rfl rfl (y_callf rfl Tryd.call31 ⟨trivial, trivial⟩ (hi_ordered_s h hf.len _) rfl) ?_
      refine co_y rfl rfl (y_move rfl trivial (by conv => lhs; whnf)) ?_
      refine co_g rfl rfl trivial rfl rfl (fun hg => y_load rfl trivial rfl Tryd.isAgg26 Tryd.sizeOf26 rfl (Nat.le_of_ble_eq_true rfl)) ?_
      refine co_g rfl rfl trivial rfl rfl (fun hg => y_callf rfl Tryd.call32 ⟨hg, trivial⟩ (hi_sized_s h hf.len ⟨by omega, by omega⟩ hf.cnt _) rfl) ?_
      refine co_y rfl rfl (y_pick_and rfl trivial rfl (fun hp => hp) (fun _ => rfl)) ?_
      refine co_y rfl rfl (y_assign rfl trivial (by conv => lhs; whnf)) ?_
      refine co_nil ?_
      refine cw_ret ?_
      exact ⟨_, res1 rfl trivial (by conv => lhs; whnf), _, _, rfl, rfl, cls_bool (pb_iff (by rw [Bool.and_eq_true, pb_eq, pb_eq, q]))⟩

theorem hi_Check_s (h : Hist) (hf : Fits h) (σ : List CObj) : CCalls CC 15 [.agg h.cells] σ fun r σ' => r = .ret (.val (.bool (pb (ChkP h)))) ∧ σ' = σ :=
  CCalls.anyw hCC (by repeat' (first | exact .val _ | exact pure_bkts _ _ | exact pure_ints _ _ | exact trivial | refine pure_agg ?_ | refine pure_tup ?_ | refine ⟨?_, ?_⟩)) (by repeat' (first | exact .val _ | exact pure_bkts _ _ | exact pure_ints _ _ | exact trivial | refine pure_agg ?_ | refine pure_tup ?_ | refine ⟨?_, ?_⟩)) (hi_Check h hf) σ

set_option maxRecDepth 10000 in
theorem re_buckets (h : Hist) (hf : Fits h) (hk : 2 ≤ h.k ∧ h.k ≤ 16) (_hfa : h.failed ≤ 1073741824) : CCalls CC 35 [.agg h.cells] [] fun r σ' => r = .ret (.val (.bool (pb (BukP h)))) ∧ σ' = [] := by
  refine ccalls_val (ccalls_of Tryd.func35 rfl rfl ?_)
  refine cw_seq ?_
  refine cw_region ?_
  refine co_d rfl rfl (d_box rfl trivial (by conv => lhs; whnf) (.inr ⟨_, rfl⟩) ?_)
  refine co_y rfl rfl (y_assign rfl rfl (by conv => lhs; whnf)) ?_
  refine co_nil ?_
  refine cw_seq ?_
  refine cw_region ?_
  refine co_y rfl rfl (y_assign rfl rfl (by conv => lhs; whnf)) ?_
  refine co_nil ?_
  refine cw_seq ?_
  refine cw_seq ?_
  refine cw_region ?_
  refine co_y rfl rfl (y_assign rfl rfl (by conv => lhs; whnf)) ?_
  refine co_nil ?_
  refine cw_block ?_
  refine cw_loopd hCC (α := Nat) (fun i => [(1, .ptr 0 0), (3, (.val (.int .i64 (sumC (h.bs.take i))))), (4, (.val (.int .i64 ((i : Int)))))]) (fun _ => [.box h.cells]) (fun i => i ≤ h.bs.length ∧ ∀ j b, j < i → h.bs[j]? = some b → OneP h j b) (fun i => h.bs.length - i) 0 ⟨Nat.zero_le _, fun j b hj => absurd hj (Nat.not_lt_zero j)⟩ ⟨⟨trivial, rfl⟩, ⟨trivial, rfl⟩, ⟨trivial, rfl⟩, trivial⟩ (extra0 := []) rfl (fun _ _ => Nat.le_of_ble_eq_true rfl) (fun a ha => by repeat' (first | exact trivial | exact .val _ | exact .ptr (Nat.le_of_ble_eq_true rfl) | exact .map (Nat.le_of_ble_eq_true rfl) | exact old_bkts _ _ _ | refine old_box ?_ | refine ⟨?_, ?_⟩)) ?_
  intro i ⟨hi, hat⟩
  refine cw_seq ?_
  refine cw_seq ?_
  refine cw_region ?_
  refine co_y rfl rfl (y_move rfl trivial (by conv => lhs; whnf)) ?_
  refine co_y rfl rfl (y_field rfl trivial rfl Tryd.runUnderlying26 rfl Tryd.sizeOf24 (by decide)) ?_
  refine co_y rfl rfl (y_load1 rfl trivial rfl Tryd.isAgg24 rfl rfl) ?_
  refine co_y rfl rfl (y_len rfl trivial rfl Tryd.runUnderlying24 (by first | exact len_map _ _ | rfl) rfl) ?_
  refine co_y rfl rfl (y_int rfl trivial trivial rfl rfl rfl) ?_
  refine co_nil ?_
  refine cw_cond trivial rfl (fun h1 => ?_) (fun h1 => ?_)
  · have hlen := hf.len
    have hlt : (i : Int) < h.bs.length := by simpa using h1
    obtain ⟨b, hb⟩ : ∃ b, h.bs[i]? = some b := ⟨h.bs[i]'(by omega), by simp⟩
    have hbr := hf.cnt b (List.mem_of_getElem? hb)
    have hl2 : (h.bs.take i).length ≤ i := List.length_take_le _ _
    have hs := sumC_bound (take_mem (P := fun b => 1 ≤ b.count ∧ b.count ≤ 1073741824) fun j b hj hb => ⟨isP_pos (hat j b hj hb).pow, (hat j b hj hb).most⟩)
    have hsum : sumC (h.bs.take (i + 1)) = sumC (h.bs.take i) + b.count := by
      rw [List.take_add_one, sumC_append, hb]; simp [sumC]
    obtain ⟨p, hp⟩ : ∃ p, 0 < i → h.bs[((i : Int) - 1).toNat]? = some p ∧ h.bs[i - 1]? = some p := by
      refine ⟨h.bs[i - 1]'(by omega), fun h0 => ?_⟩
      rw [show ((i : Int) - 1).toNat = i - 1 by omega]
      simp
    refine cw_skip ?_
    refine cw_seq ?_
    refine cw_block ?_
    refine cw_seq ?_
    refine cw_region ?_
    refine co_y rfl rfl (y_field rfl trivial rfl Tryd.runUnderlying26 rfl Tryd.sizeOf24 (by decide)) ?_
    refine co_y rfl rfl (y_load1 rfl trivial rfl Tryd.isAgg24 rfl rfl) ?_
    refine co_y rfl rfl (y_move rfl trivial (by conv => lhs; whnf)) ?_
    refine co_y rfl rfl (y_index rfl trivial trivial rfl rfl Tryd.runUnderlying24 Tryd.sizeOf39 (by omega) (rows_get hb) rfl) ?_
    refine co_y rfl rfl (y_load_c rfl trivial rfl Tryd.isAgg39 Tryd.sizeOf39 (Nat.le_of_ble_eq_true rfl)) ?_
    refine co_d rfl rfl (d_alloc rfl Tryd.zeroValue39 rfl (.inr ⟨_, rfl⟩) ?_)
    refine co_d rfl rfl (d_store rfl trivial trivial rfl (by conv => lhs; whnf) Tryd.sizeOf39 (.inr ⟨_, rfl⟩) rfl rfl (Nat.le_of_ble_eq_true rfl) ?_)
    refine co_nil ?_
    refine cw_seq ?_
    refine cw_seq ?_
    refine cw_draw 50 [0, 1, 3, 7, 15, 31, 63, 127, 255, 511, 1023, 2047, 4095, 8191, 16383, 32767, 65535, 32767, 163839, 524287, 1048575, 2097151, 4194303, 8388607, 4194303, 20971519, 67108863, 134217727, 268435455, 536870911, 1073741823, 2147483647, 4294967295, 8589934591, 17179869183, 8589934591, 42949672959, 137438953471, 274877906943, 549755813887, 1099511627775, 2199023255551, 4398046511103, 2199023255551, 10995116277759, 35184372088831, 2199023255551, 72567767433215, 281474976710655, 562949953421311] (by kernel_rfl) (by kernel_rfl) rfl ?_
    refine ch_y rfl (y_field rfl trivial rfl Tryd.runUnderlying39 rfl Tryd.sizeOf3 (by decide)) ?_
    refine ch_y rfl (y_load1 rfl trivial rfl Tryd.isAgg3 rfl rfl) ?_
    refine ch_y rfl (y_callf rfl Tryd.call39 ⟨trivial, trivial⟩ (re_power_s b.count hbr.2 _) rfl) ?_
    refine ch_y rfl (y_not rfl trivial rfl) ?_
    refine ch_y rfl (y_move rfl trivial (by conv => lhs; whnf)) ?_
    refine ch_g rfl rfl trivial rfl (fun hg => y_field rfl trivial rfl Tryd.runUnderlying39 rfl Tryd.sizeOf3 (by decide)) ?_
    refine ch_g rfl rfl trivial rfl (fun hg => y_load1 rfl hg rfl Tryd.isAgg3 rfl rfl) ?_
    refine ch_g rfl rfl trivial rfl (fun hg => y_int rfl hg rfl rfl rfl rfl) ?_
    refine ch_y rfl (y_pick_or rfl trivial rfl (fun hp => hp) (fun _ => rfl)) ?_
    refine ch_y rfl (y_move rfl trivial (by conv => lhs; whnf)) ?_
    refine ch_g rfl rfl trivial rfl (fun hg => y_field rfl trivial rfl Tryd.runUnderlying39 rfl Tryd.sizeOf3 (by decide)) ?_
    refine ch_g rfl rfl trivial rfl (fun hg => y_load1 rfl hg rfl Tryd.isAgg3 rfl rfl) ?_
    refine ch_g rfl rfl trivial rfl (fun hg => y_int rfl hg rfl rfl rfl rfl) ?_
    refine ch_y rfl (y_pick_or rfl trivial rfl (fun hp => hp) (fun _ => rfl)) ?_
    refine ch_y rfl (y_move rfl trivial (by conv => lhs; whnf)) ?_
    refine ch_g rfl rfl trivial rfl (fun hg => y_field rfl trivial rfl Tryd.runUnderlying39 rfl Tryd.sizeOf3 (by decide)) ?_
    refine ch_g rfl rfl trivial rfl (fun hg => y_load1 rfl hg rfl Tryd.isAgg3 rfl rfl) ?_
    refine ch_g rfl rfl trivial rfl (fun hg => y_field rfl trivial rfl Tryd.runUnderlying39 rfl Tryd.sizeOf3 (by decide)) ?_
    refine ch_g rfl rfl trivial rfl (fun hg => y_load1 rfl hg rfl Tryd.isAgg3 rfl rfl) ?_
    refine ch_g rfl rfl trivial rfl (fun hg => y_int rfl hg hg rfl rfl rfl) ?_
    refine ch_y rfl (y_pick_or rfl trivial rfl (fun hp => hp) (fun _ => rfl)) ?_
    refine ch_y rfl (y_move rfl trivial (by conv => lhs; whnf)) ?_
    refine ch_g rfl rfl trivial rfl (fun hg => y_field rfl trivial rfl Tryd.runUnderlying39 rfl Tryd.sizeOf3 (by decide)) ?_
    refine ch_g rfl rfl trivial rfl (fun hg => y_load1 rfl hg rfl Tryd.isAgg3 rfl rfl) ?_
    refine ch_g rfl rfl trivial rfl (fun hg => y_field rfl trivial rfl Tryd.runUnderlying26 rfl Tryd.sizeOf3 (by decide)) ?_
    refine ch_g rfl rfl trivial rfl (fun hg => y_load1 rfl hg rfl Tryd.isAgg3 rfl rfl) ?_
    refine ch_g rfl rfl trivial rfl (fun hg => y_int rfl hg hg rfl rfl rfl) ?_
    refine ch_y rfl (y_pick_or rfl trivial rfl (fun hp => hp) (fun _ => rfl)) ?_
    refine ch_y rfl (y_move rfl trivial (by conv => lhs; whnf)) ?_
    refine ch_g rfl rfl trivial rfl (fun hg => y_field rfl trivial rfl Tryd.runUnderlying39 rfl Tryd.sizeOf3 (by decide)) ?_
    refine ch_g rfl rfl trivial rfl (fun hg => y_load1 rfl hg rfl Tryd.isAgg3 rfl rfl) ?_
    refine ch_g rfl rfl trivial rfl (fun hg => y_int rfl hg rfl rfl rfl rfl) ?_
    refine ch_g rfl rfl trivial rfl (fun hg => y_move rfl hg (by conv => lhs; whnf)) ?_
    refine ch_g2 rfl rfl (fun h => h) rfl (fun hk hg => y_field rfl trivial rfl Tryd.runUnderlying39 rfl Tryd.sizeOf3 (by decide)) ?_
    refine ch_g2 rfl rfl (fun h => h) rfl (fun hk hg => y_load1 rfl ⟨hk, hg⟩ rfl Tryd.isAgg3 rfl rfl) ?_
    refine ch_g2 rfl rfl (fun h => h) rfl (fun hk hg => y_field rfl trivial rfl Tryd.runUnderlying39 rfl Tryd.sizeOf3 (by decide)) ?_
    refine ch_g2 rfl rfl (fun h => h) rfl (fun hk hg => y_load1 rfl ⟨hk, hg⟩ rfl Tryd.isAgg3 rfl rfl) ?_
    refine ch_g2 rfl rfl (fun h => h) rfl (fun hk hg => y_int rfl ⟨hk, hg⟩ ⟨hk, hg⟩ rfl rfl rfl) ?_
    refine ch_g rfl rfl trivial rfl (fun hg => y_pick_and rfl hg rfl (fun hp => ⟨hg, hp⟩) (fun _ => rfl)) ?_
    refine ch_y rfl (y_pick_or rfl trivial rfl (fun hp => hp) (fun _ => rfl)) ?_
    refine ch_y rfl (y_move rfl trivial (by conv => lhs; whnf)) ?_
    refine ch_g rfl rfl trivial rfl (fun hg => y_field rfl trivial rfl Tryd.runUnderlying26 rfl Tryd.sizeOf24 (by decide)) ?_
    refine ch_g rfl rfl trivial rfl (fun hg => y_load1 rfl hg rfl Tryd.isAgg24 rfl rfl) ?_
    refine ch_g rfl rfl trivial rfl (fun hg => y_field rfl trivial rfl Tryd.runUnderlying39 rfl Tryd.sizeOf3 (by decide)) ?_
    refine ch_g rfl rfl trivial rfl (fun hg => y_load1 rfl hg rfl Tryd.isAgg3 rfl rfl) ?_
    refine ch_g rfl rfl trivial rfl (fun hg => y_callf rfl Tryd.call37 ⟨hg, hg, trivial⟩ (re_number_s h.bs h.nn b.count (by unfold maxLen; omega) _) rfl) ?_
    refine ch_g rfl rfl trivial rfl (fun hg => y_field rfl trivial rfl Tryd.runUnderlying26 rfl Tryd.sizeOf3 (by decide)) ?_
    refine ch_g rfl rfl trivial rfl (fun hg => y_load1 rfl hg rfl Tryd.isAgg3 rfl rfl) ?_
    refine ch_g rfl rfl trivial rfl (fun hg => y_int rfl hg hg rfl rfl rfl) ?_
    refine ch_y rfl (y_pick_or rfl trivial rfl (fun hp => hp) (fun _ => rfl)) ?_
    refine ch_nil ?_
    refine co_nil ?_
    refine cw_cond trivial rfl (fun h2 => ?_) (fun h2 => ?_)
    · skip
      refine cw_seq ?_
      refine cw_region ?_
      refine co_y rfl rfl (y_assign rfl rfl (by conv => lhs; whnf)) ?_
      refine co_nil ?_
      refine cw_ret ?_
      exact ⟨_, res1 rfl trivial (by conv => lhs; whnf), _, _, rfl, rfl, cls_bool (pb_false fun g => (by have e := g.one i b hb; have e1 := e.pow; have e2 := e.most; have e3 := e.first; have e4 := e.one; have e5 := e.num; simp [e1] at h2; omega))⟩
    · simp at h2
      have hp1 := isP_pos h2.1.1.1.1.1.1
      refine cw_skip ?_
      refine cw_seq ?_
      refine cw_seq ?_
      refine cw_region ?_
      refine co_y rfl rfl (y_move rfl trivial (by conv => lhs; whnf)) ?_
      refine co_y rfl rfl (y_field rfl trivial rfl Tryd.runUnderlying39 rfl Tryd.sizeOf3 (by decide)) ?_
      refine co_y rfl rfl (y_load1 rfl trivial rfl Tryd.isAgg3 rfl rfl) ?_
      refine co_y rfl rfl (y_add rfl trivial trivial rfl rfl (by omega) (by omega)) ?_
      refine co_y rfl rfl (y_assign rfl trivial (by conv => lhs; whnf)) ?_
      refine co_nil ?_
      refine cw_seq ?_
      refine cw_region ?_
      refine co_y rfl rfl (y_move rfl trivial (by conv => lhs; whnf)) ?_
      refine co_y rfl rfl (y_field rfl trivial rfl Tryd.runUnderlying26 rfl Tryd.sizeOf3 (by decide)) ?_
      refine co_y rfl rfl (y_load1 rfl trivial rfl Tryd.isAgg3 rfl rfl) ?_
      refine co_y rfl rfl (y_int rfl trivial trivial rfl rfl rfl) ?_
      refine co_nil ?_
      refine cw_cond trivial rfl (fun h3 => ?_) (fun h3 => ?_)
      · skip
        refine cw_seq ?_
        refine cw_region ?_
        refine co_y rfl rfl (y_assign rfl rfl (by conv => lhs; whnf)) ?_
        refine co_nil ?_
        refine cw_ret ?_
        exact ⟨_, res1 rfl trivial (by conv => lhs; whnf), _, _, rfl, rfl, cls_bool (pb_false fun g => (by have e := (g.one i b hb).sum; simp at h3; omega))⟩
      · simp at h3
        refine cw_skip ?_
        refine cw_seq ?_
        refine cw_draw 26 [0, 1, 3, 7, 15, 7, 39, 7, 135, 487, 999, 2023, 4095, 8191, 16383, 32767, 16383, 81919, 16383, 278527, 999423, 2047999, 4145151, 8388607, 16777215, 33554431] (by kernel_rfl) (by kernel_rfl) rfl ?_
        refine ch_y rfl (y_move rfl trivial (by conv => lhs; whnf)) ?_
        refine ch_y rfl (y_int rfl trivial rfl rfl rfl rfl) ?_
        refine ch_y rfl (y_move rfl trivial (by conv => lhs; whnf)) ?_
        refine ch_g rfl rfl trivial rfl (fun hg => y_field rfl trivial rfl Tryd.runUnderlying39 rfl Tryd.sizeOf3 (by decide)) ?_
        refine ch_g rfl rfl trivial rfl (fun hg => y_load1 rfl hg rfl Tryd.isAgg3 rfl rfl) ?_
        refine ch_g rfl rfl trivial rfl (fun hg => y_field rfl trivial rfl Tryd.runUnderlying26 rfl Tryd.sizeOf24 (by decide)) ?_
        refine ch_g rfl rfl trivial rfl (fun hg => y_load1 rfl hg rfl Tryd.isAgg24 rfl rfl) ?_
        refine ch_g rfl rfl trivial rfl (fun hg => y_move rfl trivial (by conv => lhs; whnf)) ?_
        refine ch_g rfl rfl trivial rfl (fun hg => y_sub rfl hg rfl rfl rfl (by first | omega | (simp at hg; omega)) (by first | omega | (simp at hg; omega))) ?_
        refine ch_g rfl rfl trivial rfl (fun hg => y_index rfl hg hg rfl rfl Tryd.runUnderlying24 Tryd.sizeOf39 (by first | omega | (simp at hg; omega)) (rows_get (hp (by simp at hg; omega)).1) rfl) ?_
        refine ch_g rfl rfl trivial rfl (fun hg => y_field_c rfl hg rfl Tryd.runUnderlying39 rfl Tryd.sizeOf3 (by decide)) ?_
        refine ch_g rfl rfl trivial rfl (fun hg => y_load_c1 rfl hg rfl Tryd.isAgg3 rfl) ?_
        refine ch_g rfl rfl trivial rfl (fun hg => y_int rfl hg hg rfl rfl rfl) ?_
        refine ch_g rfl rfl trivial rfl (fun hg => y_move rfl hg (by conv => lhs; whnf)) ?_
        refine ch_g2 rfl rfl (fun h => h) rfl (fun hk hg => y_field rfl trivial rfl Tryd.runUnderlying39 rfl Tryd.sizeOf3 (by decide)) ?_
        refine ch_g2 rfl rfl (fun h => h) rfl (fun hk hg => y_load1 rfl ⟨hk, hg⟩ rfl Tryd.isAgg3 rfl rfl) ?_
        refine ch_g2 rfl rfl (fun h => h) rfl (fun hk hg => y_field rfl trivial rfl Tryd.runUnderlying26 rfl Tryd.sizeOf24 (by decide)) ?_
        refine ch_g2 rfl rfl (fun h => h) rfl (fun hk hg => y_load1 rfl ⟨hk, hg⟩ rfl Tryd.isAgg24 rfl rfl) ?_
        refine ch_g2 rfl rfl (fun h => h) rfl (fun hk hg => y_move rfl trivial (by conv => lhs; whnf)) ?_
        refine ch_g2 rfl rfl (fun h => h) rfl (fun hk hg => y_sub rfl ⟨hk, hg⟩ rfl rfl rfl (by first | omega | (simp at hk hg; omega) | (change (_ : Bool) = _ at hk; simp at hk hg; omega)) (by first | omega | (simp at hk hg; omega) | (change (_ : Bool) = _ at hk; simp at hk hg; omega))) ?_
        refine ch_g2 rfl rfl (fun h => h) rfl (fun hk hg => y_index rfl ⟨hk, hg⟩ ⟨hk, hg⟩ rfl rfl Tryd.runUnderlying24 Tryd.sizeOf39 (by first | omega | (simp at hk hg; omega) | (change (_ : Bool) = _ at hk; simp at hk hg; omega)) (rows_get (hp (by change (_ : Bool) = _ at hk; simp at hk; omega)).1) rfl) ?_
        refine ch_g2 rfl rfl (fun h => h) rfl (fun hk hg => y_field_c rfl ⟨hk, hg⟩ rfl Tryd.runUnderlying39 rfl Tryd.sizeOf3 (by decide)) ?_
        refine ch_g2 rfl rfl (fun h => h) rfl (fun hk hg => y_load_c1 rfl ⟨hk, hg⟩ rfl Tryd.isAgg3 rfl) ?_
        refine ch_g2 rfl rfl (fun h => h) rfl (fun hk hg => y_int rfl ⟨hk, hg⟩ ⟨hk, hg⟩ rfl rfl rfl) ?_
        refine ch_g rfl rfl trivial rfl (fun hg => y_pick_or rfl hg rfl (fun hp => ⟨hg, hp⟩) (fun _ => rfl)) ?_
        refine ch_y rfl (y_pick_and rfl trivial rfl (fun hp => hp) (fun _ => rfl)) ?_
        refine ch_nil ?_
        refine co_nil ?_
        refine cw_cond trivial rfl (fun h4 => ?_) (fun h4 => ?_)
        · skip
          refine cw_seq ?_
          refine cw_region ?_
          refine co_y rfl rfl (y_assign rfl rfl (by conv => lhs; whnf)) ?_
          refine co_nil ?_
          refine cw_ret ?_
          exact ⟨_, res1 rfl trivial (by conv => lhs; whnf), _, _, rfl, rfl, cls_bool (pb_false fun g => (by simp at h4; have e := (g.one i b hb).prev p h4.1 (hp h4.1).2; omega))⟩
        · have hgood : OneP h i b := by
            simp at h4
            refine ⟨h2.1.1.1.1.1.1, by omega, ⟨by omega, by omega, by omega⟩, by omega, by omega, by omega, fun p' h0 hp' => ?_⟩
            have e := (hp h0).2
            rw [hp'] at e
            rw [Option.some.inj e]
            have := h4 h0
            omega
          have hnat : ∀ (j : Nat) (b' : Bkt), j < i + 1 → h.bs[j]? = some b' → OneP h j b' := fun j b' hj hb' => by
            rcases Nat.lt_or_ge j i with hji | hji
            · exact hat j b' hji hb'
            · obtain rfl : j = i := by omega
              rw [hb] at hb'; cases hb'; exact hgood
          refine cw_skip ?_
          refine cw_region ?_
          refine co_y rfl rfl (y_move rfl trivial (by conv => lhs; whnf)) ?_
          refine co_y rfl rfl (y_add rfl trivial rfl rfl rfl (by omega) (by omega)) ?_
          refine co_y rfl rfl (y_assign rfl trivial (by conv => lhs; whnf)) ?_
          refine co_nil ?_
          exact ⟨i + 1, _, ⟨by omega, by omega, hnat⟩, ⟨⟨trivial, rfl⟩, ⟨trivial, (congrArg (fun x => CV.val (.int .i64 x)) hsum.symm)⟩, ⟨trivial, rfl⟩, trivial⟩, rfl⟩
  · have hlen := hf.len
    have hge : ¬ (i : Int) < h.bs.length := by simpa using h1
    obtain rfl : i = h.bs.length := by omega
    have hat' : ∀ j b, h.bs[j]? = some b → OneP h j b := fun j b hj => hat j b (List.getElem?_eq_some_iff.1 hj).1 hj
    have htl := List.take_length (l := h.bs)
    obtain ⟨b, hb⟩ : ∃ b : Bkt, 0 < h.bs.length → h.bs[0]? = some b := by
      rcases hbs : h.bs with _ | ⟨b, l⟩
      · exact ⟨⟨0, 0, 0⟩, fun h0 => absurd h0 (by simp)⟩
      · exact ⟨b, fun _ => by simp⟩
    have hb1 : 0 < h.bs.length → b.count ≤ 1073741824 := fun h0 => (hat' 0 b (hb h0)).most
    refine cw_exit ?_
    refine cw_seq ?_
    refine cw_seq ?_
    refine cw_region ?_
    refine co_y rfl rfl (y_assign rfl rfl (by conv => lhs; whnf)) ?_
    refine co_nil ?_
    refine cw_block ?_
    refine cw_loopd hCC (α := Nat) (fun j => [(1, .ptr 0 0), (3, (.val (.int .i64 (sumC h.bs)))), (6, (.val (.int .i64 (2 ^ j))))]) (fun _ => [.box h.cells]) (fun j => (1 ≤ (2 : Int) ^ j ∧ (2 : Int) ^ j ≤ 2147483648) ∧ ∀ j', j' < j → h.k - 1 ≤ num h.bs (2 ^ j')) (fun j => (2147483649 - (2 : Int) ^ j).toNat) 0 ⟨by decide, fun j hj => absurd hj (Nat.not_lt_zero j)⟩ ⟨⟨trivial, rfl⟩, ⟨trivial, (by simp only [htl]; rfl)⟩, ⟨trivial, rfl⟩, trivial⟩ (extra0 := []) rfl (fun _ _ => Nat.le_of_ble_eq_true rfl) (fun a ha => by repeat' (first | exact trivial | exact .val _ | exact .ptr (Nat.le_of_ble_eq_true rfl) | exact .map (Nat.le_of_ble_eq_true rfl) | exact old_bkts _ _ _ | refine old_box ?_ | refine ⟨?_, ?_⟩)) ?_
    intro j ⟨⟨hj1, hj2⟩, hinv⟩
    refine cw_seq ?_
    refine cw_seq ?_
    refine cw_region ?_
    refine co_y rfl rfl (y_field rfl trivial rfl Tryd.runUnderlying26 rfl Tryd.sizeOf24 (by decide)) ?_
    refine co_y rfl rfl (y_load1 rfl trivial rfl Tryd.isAgg24 rfl rfl) ?_
    refine co_y rfl rfl (y_len rfl trivial rfl Tryd.runUnderlying24 (by first | exact len_map _ _ | rfl) rfl) ?_
    refine co_y rfl rfl (y_int rfl trivial rfl rfl rfl rfl) ?_
    refine co_y rfl rfl (y_move rfl trivial (by conv => lhs; whnf)) ?_
    refine co_g rfl rfl trivial rfl rfl (fun hg => y_move rfl trivial (by conv => lhs; whnf)) ?_
    refine co_g rfl rfl trivial rfl rfl (fun hg => y_field rfl trivial rfl Tryd.runUnderlying26 rfl Tryd.sizeOf24 (by decide)) ?_
    refine co_g rfl rfl trivial rfl rfl (fun hg => y_load1 rfl hg rfl Tryd.isAgg24 rfl rfl) ?_
    refine co_g rfl rfl trivial rfl rfl (fun hg => y_index rfl hg rfl rfl rfl Tryd.runUnderlying24 Tryd.sizeOf39 (by first | omega | (simp at hg; omega)) (rows_get (hb (by simp at hg; omega))) rfl) ?_
    refine co_g rfl rfl trivial rfl rfl (fun hg => y_field_c rfl hg rfl Tryd.runUnderlying39 rfl Tryd.sizeOf3 (by decide)) ?_
    refine co_g rfl rfl trivial rfl rfl (fun hg => y_load_c1 rfl hg rfl Tryd.isAgg3 rfl) ?_
    refine co_g rfl rfl trivial rfl rfl (fun hg => y_int rfl hg hg rfl rfl rfl) ?_
    refine co_y rfl rfl (y_pick_and rfl trivial rfl (fun hp => hp) (fun _ => rfl)) ?_
    refine co_nil ?_
    refine cw_cond trivial rfl (fun h5 => ?_) (fun h5 => ?_)
    · have hlt : 0 < h.bs.length ∧ (2 : Int) ^ j < b.count := by simpa using h5
      have hb1' := hb1 hlt.1
      have hpow : (2 : Int) ^ (j + 1) = 2 ^ j * 2 := Int.pow_succ 2 j
      refine cw_skip ?_
      refine cw_seq ?_
      refine cw_block ?_
      refine cw_seq ?_
      refine cw_draw 8 [0, 1, 0, 7, 0, 16, 48, 127] (by kernel_rfl) (by kernel_rfl) rfl ?_
      refine ch_y rfl (y_field rfl trivial rfl Tryd.runUnderlying26 rfl Tryd.sizeOf24 (by decide)) ?_
      refine ch_y rfl (y_load1 rfl trivial rfl Tryd.isAgg24 rfl rfl) ?_
      refine ch_y rfl (y_move rfl trivial (by conv => lhs; whnf)) ?_
      refine ch_y rfl (y_callf rfl Tryd.call37 ⟨trivial, trivial, trivial⟩ (re_number_s h.bs h.nn (2 ^ j) (by unfold maxLen; omega) _) rfl) ?_
      refine ch_y rfl (y_field rfl trivial rfl Tryd.runUnderlying26 rfl Tryd.sizeOf3 (by decide)) ?_
      refine ch_y rfl (y_load1 rfl trivial rfl Tryd.isAgg3 rfl rfl) ?_
      refine ch_y rfl (y_sub rfl trivial rfl rfl rfl (by omega) (by omega)) ?_
      refine ch_y rfl (y_int rfl trivial trivial rfl rfl rfl) ?_
      refine ch_nil ?_
      refine co_nil ?_
      refine cw_cond trivial rfl (fun h6 => ?_) (fun h6 => ?_)
      · skip
        refine cw_seq ?_
        refine cw_region ?_
        refine co_y rfl rfl (y_assign rfl rfl (by conv => lhs; whnf)) ?_
        refine co_nil ?_
        refine cw_ret ?_
        exact ⟨_, res1 rfl trivial (by conv => lhs; whnf), _, _, rfl, rfl, cls_bool (pb_false fun hS => (by have := hS.low j b (hb hlt.1) hlt.2; simp at h6; omega))⟩
      · have hlt5 : ¬ num h.bs (2 ^ j) < h.k - 1 := by simpa using h6
        have hninv : ∀ j', j' < j + 1 → h.k - 1 ≤ num h.bs (2 ^ j') := fun j' hj' => by
          rcases Nat.lt_or_ge j' j with hji | hji
          · exact hinv j' hji
          · obtain rfl : j' = j := by omega
            omega
        refine cw_skip ?_
        refine cw_region ?_
        refine co_y rfl rfl (y_move rfl trivial (by conv => lhs; whnf)) ?_
        refine co_y rfl rfl (y_mul rfl trivial rfl rfl rfl (by omega) (by omega)) ?_
        refine co_y rfl rfl (y_assign rfl trivial (by conv => lhs; whnf)) ?_
        refine co_nil ?_
        exact ⟨j + 1, _, ⟨by simp only [hpow]; omega, ⟨by rw [hpow]; omega, by rw [hpow]; omega⟩, hninv⟩, ⟨⟨trivial, rfl⟩, ⟨trivial, rfl⟩, ⟨trivial, (by rw [hpow]; rfl)⟩, trivial⟩, rfl⟩
    · have hge5 : 0 < h.bs.length → ¬ (2 : Int) ^ j < b.count := by simpa using h5
      refine cw_exit ?_
      refine cw_seq ?_
      refine cw_region ?_
      refine co_y rfl rfl (y_move rfl trivial (by conv => lhs; whnf)) ?_
      refine co_y rfl rfl (y_field rfl trivial rfl Tryd.runUnderlying26 rfl Tryd.sizeOf3 (by decide)) ?_
      refine co_y rfl rfl (y_load1 rfl trivial rfl Tryd.isAgg3 rfl rfl) ?_
      refine co_y rfl rfl (y_int rfl trivial trivial rfl rfl rfl) ?_
      refine co_y rfl rfl (y_assign rfl trivial (by conv => lhs; whnf)) ?_
      refine co_nil ?_
      refine cw_ret ?_
      exact ⟨_, res1 rfl trivial (by conv => lhs; whnf), _, _, rfl, rfl, cls_bool (pb_iff (by simp only [beq_iff_eq]; exact ⟨fun e => ⟨hat', fun j' b' hb' hj' => hinv j' (Nat.lt_of_not_le fun hle => (by have h0 := (List.getElem?_eq_some_iff.1 hb').1; refine hge5 h0 ?_; have hb0 := hb h0; rw [hb0] at hb'; cases hb'; exact Int.lt_of_le_of_lt (pow2_mono hle) hj')), e⟩, fun hS => hS.sum⟩))⟩

theorem re_buckets_s (h : Hist) (hf : Fits h) (hk : 2 ≤ h.k ∧ h.k ≤ 16) (_hfa : h.failed ≤ 1073741824) (σ : List CObj) : CCalls CC 35 [.agg h.cells] σ fun r σ' => r = .ret (.val (.bool (pb (BukP h)))) ∧ σ' = σ :=
  CCalls.anyw hCC (by repeat' (first | exact .val _ | exact pure_bkts _ _ | exact pure_ints _ _ | exact trivial | refine pure_agg ?_ | refine pure_tup ?_ | refine ⟨?_, ?_⟩)) (by repeat' (first | exact .val _ | exact pure_bkts _ _ | exact pure_ints _ _ | exact trivial | refine pure_agg ?_ | refine pure_tup ?_ | refine ⟨?_, ?_⟩)) (re_buckets h hf hk _hfa) σ

structure RTop (h : Hist) : Prop where
  use : usable h.pkg h.test = true
  env : 0 ≤ h.env ∧ h.env ≤ 63
  k : 2 ≤ h.k ∧ h.k ≤ 16
  fail : 0 ≤ h.failed ∧ h.failed ≤ h.runs ∧ h.runs ≤ 1073741824
  len : (h.bs.length : Int) ≤ 640
  zero : h.runs = 0 → h.last = 0
  more : h.runs > 0 → 1 ≤ h.last ∧ h.last ≤ 1073741824
structure RChkP (h : Hist) : Prop extends RTop h where
  buk : BukP h

set_option maxRecDepth 10000 in
theorem re_Check (h : Hist) (hf : Fits h) : CCalls CC 19 [.agg h.cells] [] fun r σ' => r = .ret (.val (.bool (pb (RChkP h)))) ∧ σ' = [] := by
  refine ccalls_val (ccalls_of Tryd.func19 rfl rfl ?_)
  refine cw_seq ?_
  refine cw_region ?_
  refine co_d rfl rfl (d_box rfl trivial (by conv => lhs; whnf) (.inr ⟨_, rfl⟩) ?_)
  refine co_y rfl rfl (y_assign rfl rfl (by conv => lhs; whnf)) ?_
  refine co_nil ?_
  refine cw_seq ?_
  refine cw_seq ?_
  refine cw_region ?_
  refine co_y rfl rfl (y_field rfl trivial rfl Tryd.runUnderlying26 rfl Tryd.sizeOf23 (by decide)) ?_
  refine co_y rfl rfl (y_load rfl trivial rfl Tryd.isAgg23 Tryd.sizeOf23 rfl (Nat.le_of_ble_eq_true rfl)) ?_
  refine co_y rfl rfl (y_callf rfl Tryd.call29 ⟨trivial, trivial⟩ (re_Usable_s h.pkg h.test _) rfl) ?_
  refine co_y rfl rfl (y_not rfl trivial rfl) ?_
  refine co_y rfl rfl (y_move rfl trivial (by conv => lhs; whnf)) ?_
  refine co_g rfl rfl trivial rfl rfl (fun hg => y_field rfl trivial rfl Tryd.runUnderlying26 rfl Tryd.sizeOf3 (by decide)) ?_
  refine co_g rfl rfl trivial rfl rfl (fun hg => y_load1 rfl hg rfl Tryd.isAgg3 rfl rfl) ?_
  refine co_g rfl rfl trivial rfl rfl (fun hg => y_callf rfl Tryd.call30 ⟨hg, trivial⟩ (re_Place_s h.env _) rfl) ?_
  refine co_g rfl rfl trivial rfl rfl (fun hg => y_not rfl hg rfl) ?_
  refine co_y rfl rfl (y_pick_or rfl trivial rfl (fun hp => hp) (fun _ => rfl)) ?_
  refine co_y rfl rfl (y_move rfl trivial (by conv => lhs; whnf)) ?_
  refine co_g rfl rfl trivial rfl rfl (fun hg => y_field rfl trivial rfl Tryd.runUnderlying26 rfl Tryd.sizeOf3 (by decide)) ?_
  refine co_g rfl rfl trivial rfl rfl (fun hg => y_load1 rfl hg rfl Tryd.isAgg3 rfl rfl) ?_
  refine co_g rfl rfl trivial rfl rfl (fun hg => y_int rfl hg rfl rfl rfl rfl) ?_
  refine co_y rfl rfl (y_pick_or rfl trivial rfl (fun hp => hp) (fun _ => rfl)) ?_
  refine co_y rfl rfl (y_move rfl trivial (by conv => lhs; whnf)) ?_
  refine co_g rfl rfl trivial rfl rfl (fun hg => y_field rfl trivial rfl Tryd.runUnderlying26 rfl Tryd.sizeOf3 (by decide)) ?_
  refine co_g rfl rfl trivial rfl rfl (fun hg => y_load1 rfl hg rfl Tryd.isAgg3 rfl rfl) ?_
  refine co_g rfl rfl trivial rfl rfl (fun hg => y_int rfl hg rfl rfl rfl rfl) ?_
  refine co_y rfl rfl (y_pick_or rfl trivial rfl (fun hp => hp) (fun _ => rfl)) ?_
  refine co_y rfl rfl (y_move rfl trivial (by conv => lhs; whnf)) ?_
  refine co_g rfl rfl trivial rfl rfl (fun hg => y_field rfl trivial rfl Tryd.runUnderlying26 rfl Tryd.sizeOf3 (by decide)) ?_
  refine co_g rfl rfl trivial rfl rfl (fun hg => y_load1 rfl hg rfl Tryd.isAgg3 rfl rfl) ?_
  refine co_g rfl rfl trivial rfl rfl (fun hg => y_int rfl hg rfl rfl rfl rfl) ?_
  refine co_y rfl rfl (y_pick_or rfl trivial rfl (fun hp => hp) (fun _ => rfl)) ?_
  refine co_y rfl rfl (y_move rfl trivial (by conv => lhs; whnf)) ?_
  refine co_g rfl rfl trivial rfl rfl (fun hg => y_field rfl trivial rfl Tryd.runUnderlying26 rfl Tryd.sizeOf3 (by decide)) ?_
  refine co_g rfl rfl trivial rfl rfl (fun hg => y_load1 rfl hg rfl Tryd.isAgg3 rfl rfl) ?_
  refine co_g rfl rfl trivial rfl rfl (fun hg => y_field rfl trivial rfl Tryd.runUnderlying26 rfl Tryd.sizeOf3 (by decide)) ?_
  refine co_g rfl rfl trivial rfl rfl (fun hg => y_load1 rfl hg rfl Tryd.isAgg3 rfl rfl) ?_
  refine co_g rfl rfl trivial rfl rfl (fun hg => y_int rfl hg hg rfl rfl rfl) ?_
  refine co_y rfl rfl (y_pick_or rfl trivial rfl (fun hp => hp) (fun _ => rfl)) ?_
  refine co_y rfl rfl (y_move rfl trivial (by conv => lhs; whnf)) ?_
  refine co_g rfl rfl trivial rfl rfl (fun hg => y_field rfl trivial rfl Tryd.runUnderlying26 rfl Tryd.sizeOf3 (by decide)) ?_
  refine co_g rfl rfl trivial rfl rfl (fun hg => y_load1 rfl hg rfl Tryd.isAgg3 rfl rfl) ?_
  refine co_g rfl rfl trivial rfl rfl (fun hg => y_int rfl hg rfl rfl rfl rfl) ?_
  refine co_y rfl rfl (y_pick_or rfl trivial rfl (fun hp => hp) (fun _ => rfl)) ?_
  refine co_y rfl rfl (y_move rfl trivial (by conv => lhs; whnf)) ?_
  refine co_g rfl rfl trivial rfl rfl (fun hg => y_field rfl trivial rfl Tryd.runUnderlying26 rfl Tryd.sizeOf24 (by decide)) ?_
  refine co_g rfl rfl trivial rfl rfl (fun hg => y_load1 rfl hg rfl Tryd.isAgg24 rfl rfl) ?_
  refine co_g rfl rfl trivial rfl rfl (fun hg => y_len rfl hg rfl Tryd.runUnderlying24 (by first | exact len_map _ _ | rfl) rfl) ?_
  refine co_g rfl rfl trivial rfl rfl (fun hg => y_int rfl hg rfl rfl rfl rfl) ?_
  refine co_y rfl rfl (y_pick_or rfl trivial rfl (fun hp => hp) (fun _ => rfl)) ?_
  refine co_nil ?_
  refine cw_cond trivial rfl (fun h1 => ?_) (fun h1 => ?_)
  · skip
    refine cw_seq ?_
    refine cw_region ?_
    refine co_y rfl rfl (y_assign rfl rfl (by conv => lhs; whnf)) ?_
    refine co_nil ?_
    refine cw_ret ?_
    exact ⟨_, res1 rfl trivial (by conv => lhs; whnf), _, _, rfl, rfl, cls_bool (pb_false fun g => (by have e1 := g.use; have e2 := g.env; have e3 := g.k; have e4 := g.fail; have e5 := g.len; simp [e1, place] at h1; omega))⟩
  · simp [place] at h1
    refine cw_skip ?_
    refine cw_seq ?_
    refine cw_seq ?_
    refine cw_region ?_
    refine co_y rfl rfl (y_field rfl trivial rfl Tryd.runUnderlying26 rfl Tryd.sizeOf3 (by decide)) ?_
    refine co_y rfl rfl (y_load1 rfl trivial rfl Tryd.isAgg3 rfl rfl) ?_
    refine co_y rfl rfl (y_int rfl trivial rfl rfl rfl rfl) ?_
    refine co_y rfl rfl (y_move rfl trivial (by conv => lhs; whnf)) ?_
    refine co_g rfl rfl trivial rfl rfl (fun hg => y_field rfl trivial rfl Tryd.runUnderlying26 rfl Tryd.sizeOf3 (by decide)) ?_
    refine co_g rfl rfl trivial rfl rfl (fun hg => y_load1 rfl hg rfl Tryd.isAgg3 rfl rfl) ?_
    refine co_g rfl rfl trivial rfl rfl (fun hg => y_int rfl hg rfl rfl rfl rfl) ?_
    refine co_y rfl rfl (y_pick_and rfl trivial rfl (fun hp => hp) (fun _ => rfl)) ?_
    refine co_y rfl rfl (y_move rfl trivial (by conv => lhs; whnf)) ?_
    refine co_g rfl rfl trivial rfl rfl (fun hg => y_field rfl trivial rfl Tryd.runUnderlying26 rfl Tryd.sizeOf3 (by decide)) ?_
    refine co_g rfl rfl trivial rfl rfl (fun hg => y_load1 rfl hg rfl Tryd.isAgg3 rfl rfl) ?_
    refine co_g rfl rfl trivial rfl rfl (fun hg => y_int rfl hg rfl rfl rfl rfl) ?_
    refine co_g rfl rfl trivial rfl rfl (fun hg => y_move rfl hg (by conv => lhs; whnf)) ?_
    refine co_g2 rfl rfl (fun h => h) rfl rfl (fun hk hg => y_field rfl trivial rfl Tryd.runUnderlying26 rfl Tryd.sizeOf3 (by decide)) ?_
    refine co_g2 rfl rfl (fun h => h) rfl rfl (fun hk hg => y_load1 rfl ⟨hk, hg⟩ rfl Tryd.isAgg3 rfl rfl) ?_
    refine co_g2 rfl rfl (fun h => h) rfl rfl (fun hk hg => y_int rfl ⟨hk, hg⟩ rfl rfl rfl rfl) ?_
    refine co_g2 rfl rfl (fun h => h) rfl rfl (fun hk hg => y_move rfl ⟨hk, hg⟩ (by conv => lhs; whnf)) ?_
    refine co_g2 rfl rfl (fun h => h) rfl rfl (fun hk hg => y_field rfl trivial rfl Tryd.runUnderlying26 rfl Tryd.sizeOf3 (by decide)) ?_
    refine co_g2 rfl rfl (fun h => h) rfl rfl (fun hk hg => y_load1 rfl ⟨hk, hg⟩ rfl Tryd.isAgg3 rfl rfl) ?_
    refine co_g2 rfl rfl (fun h => h) rfl rfl (fun hk hg => y_int rfl ⟨hk, hg⟩ rfl rfl rfl rfl) ?_
    refine co_g2 rfl rfl (fun h => h) rfl rfl (fun hk hg => y_pick_or rfl ⟨hk, hg⟩ rfl (fun hp => ⟨⟨hk, hg⟩, hp⟩) (fun _ => rfl)) ?_
    refine co_g rfl rfl trivial rfl rfl (fun hg => y_pick_and rfl hg rfl (fun hp => ⟨hg, hp⟩) (fun _ => rfl)) ?_
    refine co_y rfl rfl (y_pick_or rfl trivial rfl (fun hp => hp) (fun _ => rfl)) ?_
    refine co_nil ?_
    refine cw_cond trivial rfl (fun h2 => ?_) (fun h2 => ?_)
    · skip
      refine cw_seq ?_
      refine cw_region ?_
      refine co_y rfl rfl (y_assign rfl rfl (by conv => lhs; whnf)) ?_
      refine co_nil ?_
      refine cw_ret ?_
      exact ⟨_, res1 rfl trivial (by conv => lhs; whnf), _, _, rfl, rfl, cls_bool (pb_false fun g => (by have e1 := g.fail; have e2 := g.zero; have e3 := g.more; simp at h2; omega))⟩
    · simp at h2
      have q : RChkP h ↔ BukP h := ⟨fun g => g.buk, fun g => ⟨⟨h1.1.1.1.1.1.1.1, ⟨by omega, by omega⟩, ⟨by omega, by omega⟩, ⟨by omega, by omega, by omega⟩, by omega, by omega, by omega⟩, g⟩⟩
      refine cw_skip ?_
      refine cw_seq ?_
      refine cw_region ?_
      refine co_y rfl rfl (y_load rfl trivial rfl Tryd.isAgg26 Tryd.sizeOf26 rfl (Nat.le_of_ble_eq_true rfl)) ?_
      refine co_y rfl rfl (y_callf rfl Tryd.call35 ⟨trivial, trivial⟩ (re_buckets_s h hf (by omega) (by omega) _) rfl) ?_
      refine co_y rfl rfl (y_assign rfl trivial (by conv => lhs; whnf)) ?_
      refine co_nil ?_
      refine cw_ret ?_
      exact ⟨_, res1 rfl trivial (by conv => lhs; whnf), _, _, rfl, rfl, cls_bool (pb_congr q.symm)⟩

theorem re_Check_s (h : Hist) (hf : Fits h) (σ : List CObj) : CCalls CC 19 [.agg h.cells] σ fun r σ' => r = .ret (.val (.bool (pb (RChkP h)))) ∧ σ' = σ :=
  CCalls.anyw hCC (by repeat' (first | exact .val _ | exact pure_bkts _ _ | exact pure_ints _ _ | exact trivial | refine pure_agg ?_ | refine pure_tup ?_ | refine ⟨?_, ?_⟩)) (by repeat' (first | exact .val _ | exact pure_bkts _ _ | exact pure_ints _ _ | exact trivial | refine pure_agg ?_ | refine pure_tup ?_ | refine ⟨?_, ?_⟩)) (re_Check h hf) σ

end Go.Proofs.YtkhebelajdcjgaaDoor
