import Derived.Test.YtchaklkfaemfgaaK30
import Derived.Test.YtchaklkfaemfgaaD6
namespace Go.Proofs.Ytchaklkfaemfgaa
open Go Go.Cl

/-- What the tape yields next. -/
def tapeV (l : List Int) (at_ : Nat) : Int := (l[at_]?).getD ((at_ : Int) * 7 % 11)
def tapeN (l : List Int) (at_ : Nat) (n : Int) : Int := fold (tapeV l at_) n
abbrev tapeC (l : List Int) (nn : Bool) (at_ : Nat) : CObj := .box [.list (l.map icv) nn none, .val (.int .i64 at_)]

set_option maxRecDepth 10000 in
theorem tape_next (l : List Int) (nn : Bool) (k : Nat) (σ : List CObj) (q : Nat) (hk : σ[q]? = some (tapeC l nn k)) (hat : k ≤ 1000000000) (hl : l.length ≤ maxLen) (n : Int) (hn : n ≤ 4611686018427387904) : CCalls CC 15 [.ptr q 0, .val (.int .i64 n)] σ fun r σ' => ∃ _ : Unit, r = .ret (.val (.int .i64 (tapeN l k n))) ∧ σ' = σ.set q (tapeC l nn (k + 1)) ∧ True := by
  have hl1 := hl
  unfold maxLen at hl1
  unfold tapeC at hk
  have hq : q < σ.length := (List.getElem?_eq_some_iff.1 hk).1
  refine (ccalls_of Try.func15 rfl rfl ?_)
  refine cw_seq ?_
  refine cw_region ?_
  refine co_y rfl rfl (y_assign rfl rfl (by conv => lhs; whnf)) ?_
  refine co_nil ?_
  refine cw_seq ?_
  refine cw_region ?_
  refine co_y rfl rfl (y_move rfl trivial (by conv => lhs; whnf)) ?_
  refine co_y rfl rfl (y_nil rfl trivial rfl) ?_
  refine co_y rfl rfl (y_field rfl trivial rfl Try.runUnderlying41 rfl Try.sizeOf3 (by decide)) ?_
  refine co_y rfl rfl (y_load1 rfl trivial rfl Try.isAgg3 hk rfl) ?_
  refine co_y rfl rfl (y_mul rfl trivial rfl rfl rfl (by omega) (by omega)) ?_
  refine co_y rfl rfl (y_int rfl trivial rfl rfl rfl (cq_rem_pos (by omega) (by omega))) ?_
  refine co_y rfl rfl (y_assign rfl trivial (by conv => lhs; whnf)) ?_
  refine co_nil ?_
  refine cw_seq ?_
  refine cw_seq ?_
  refine cw_draw 10 [0, 1, 3, 7, 0, 16, 48, 112, 240, 511] (by kernel_rfl) (by kernel_rfl) rfl ?_
  refine ch_y rfl (y_move rfl trivial (by conv => lhs; whnf)) ?_
  refine ch_y rfl (y_nil rfl trivial rfl) ?_
  refine ch_y rfl (y_field rfl trivial rfl Try.runUnderlying41 rfl Try.sizeOf3 (by decide)) ?_
  refine ch_y rfl (y_load1 rfl trivial rfl Try.isAgg3 hk rfl) ?_
  refine ch_y rfl (y_move rfl trivial (by conv => lhs; whnf)) ?_
  refine ch_y rfl (y_nil rfl trivial rfl) ?_
  refine ch_y rfl (y_field rfl trivial rfl Try.runUnderlying41 rfl Try.sizeOf36 (by decide)) ?_
  refine ch_y rfl (y_load1 rfl trivial rfl Try.isAgg36 hk rfl) ?_
  refine ch_y rfl (y_len rfl trivial rfl Try.runUnderlying36 (by first | exact len_map _ _ | rfl) rfl) ?_
  refine ch_y rfl (y_int rfl trivial trivial rfl rfl rfl) ?_
  refine ch_nil ?_
  refine co_nil ?_
  refine cw_cond trivial rfl (fun h1 => ?_) (fun h1 => ?_)
  · have hlt : (k : Int) < l.length := by simpa using h1
    obtain ⟨v, hv⟩ : ∃ v, l[k]? = some v := ⟨l[k]'(by omega), by simp⟩
    refine cw_draw 11 [0, 1, 3, 7, 0, 16, 48, 112, 255, 511, 1023] (by kernel_rfl) (by kernel_rfl) rfl ?_
    refine ch_y rfl (y_move rfl trivial (by conv => lhs; whnf)) ?_
    refine ch_y rfl (y_nil rfl trivial rfl) ?_
    refine ch_y rfl (y_field rfl trivial rfl Try.runUnderlying41 rfl Try.sizeOf36 (by decide)) ?_
    refine ch_y rfl (y_load1 rfl trivial rfl Try.isAgg36 hk rfl) ?_
    refine ch_y rfl (y_move rfl trivial (by conv => lhs; whnf)) ?_
    refine ch_y rfl (y_nil rfl trivial rfl) ?_
    refine ch_y rfl (y_field rfl trivial rfl Try.runUnderlying41 rfl Try.sizeOf3 (by decide)) ?_
    refine ch_y rfl (y_load1 rfl trivial rfl Try.isAgg3 hk rfl) ?_
    refine ch_y rfl (y_index rfl trivial trivial rfl rfl Try.runUnderlying36 Try.sizeOf3 (by omega) (rows_get hv) rfl) ?_
    refine ch_y rfl (y_load_c1 rfl trivial rfl Try.isAgg3 rfl) ?_
    refine ch_y rfl (y_assign rfl trivial (by conv => lhs; whnf)) ?_
    refine ch_nil ?_
    refine co_nil ?_
    refine cw_seq ?_
    refine cw_region ?_
    refine co_y rfl rfl (y_move rfl trivial (by conv => lhs; whnf)) ?_
    refine co_y rfl rfl (y_nil rfl trivial rfl) ?_
    refine co_y rfl rfl (y_field rfl trivial rfl Try.runUnderlying41 rfl Try.sizeOf3 (by decide)) ?_
    refine co_y rfl rfl (y_load1 rfl trivial rfl Try.isAgg3 hk rfl) ?_
    refine co_y rfl rfl (y_add rfl trivial rfl rfl rfl (by omega) (by omega)) ?_
    refine co_y rfl rfl (y_nil rfl trivial rfl) ?_
    refine co_y rfl rfl (y_field rfl trivial rfl Try.runUnderlying41 rfl Try.sizeOf3 (by decide)) ?_
    refine co_d rfl rfl (d_store rfl trivial trivial rfl (by conv => lhs; whnf) Try.sizeOf3 (.inl rfl) hk rfl (Nat.le_of_ble_eq_true rfl) ?_)
    refine co_nil ?_
    refine cw_seq ?_
    refine cw_region ?_
    refine co_y rfl rfl (y_move rfl trivial (by conv => lhs; whnf)) ?_
    refine co_y rfl rfl (y_move rfl trivial (by conv => lhs; whnf)) ?_
    refine co_y rfl rfl (y_callf rfl Try.call8 ⟨trivial, trivial, trivial⟩ (mk_Fold_s v n hn _) rfl) ?_
    refine co_y rfl rfl (y_assign rfl trivial (by conv => lhs; whnf)) ?_
    refine co_nil ?_
    refine cw_ret ?_
    exact ⟨_, res1 rfl trivial (by conv => lhs; whnf), ⟨(), by rw [tapeN, tapeV, hv]; rfl, rfl, trivial⟩⟩
  · have hge : ¬ (k : Int) < l.length := by simpa using h1
    have hv : l[k]? = none := List.getElem?_eq_none (by omega)
    refine cw_skip ?_
    refine cw_seq ?_
    refine cw_region ?_
    refine co_y rfl rfl (y_move rfl trivial (by conv => lhs; whnf)) ?_
    refine co_y rfl rfl (y_nil rfl trivial rfl) ?_
    refine co_y rfl rfl (y_field rfl trivial rfl Try.runUnderlying41 rfl Try.sizeOf3 (by decide)) ?_
    refine co_y rfl rfl (y_load1 rfl trivial rfl Try.isAgg3 hk rfl) ?_
    refine co_y rfl rfl (y_add rfl trivial rfl rfl rfl (by omega) (by omega)) ?_
    refine co_y rfl rfl (y_nil rfl trivial rfl) ?_
    refine co_y rfl rfl (y_field rfl trivial rfl Try.runUnderlying41 rfl Try.sizeOf3 (by decide)) ?_
    refine co_d rfl rfl (d_store rfl trivial trivial rfl (by conv => lhs; whnf) Try.sizeOf3 (.inl rfl) hk rfl (Nat.le_of_ble_eq_true rfl) ?_)
    refine co_nil ?_
    refine cw_seq ?_
    refine cw_region ?_
    refine co_y rfl rfl (y_move rfl trivial (by conv => lhs; whnf)) ?_
    refine co_y rfl rfl (y_move rfl trivial (by conv => lhs; whnf)) ?_
    refine co_y rfl rfl (y_callf rfl Try.call8 ⟨trivial, trivial, trivial⟩ (mk_Fold_s _ n hn _) rfl) ?_
    refine co_y rfl rfl (y_assign rfl trivial (by conv => lhs; whnf)) ?_
    refine co_nil ?_
    refine cw_ret ?_
    exact ⟨_, res1 rfl trivial (by conv => lhs; whnf), ⟨(), by rw [tapeN, tapeV, hv]; rfl, rfl, trivial⟩⟩

set_option maxRecDepth 10000 in
theorem tape_chance (l : List Int) (nn : Bool) (k : Nat) (σ : List CObj) (q : Nat) (hk : σ[q]? = some (tapeC l nn k)) (hat : k ≤ 1000000000) (hl : l.length ≤ maxLen) (n m : Int) (hn : m ≤ 4611686018427387904) : CCalls CC 24 [.ptr q 0, .val (.int .i64 n), .val (.int .i64 m)] σ fun r σ' => ∃ _ : Unit, r = .ret (.val (.bool (decide (tapeN l k m < n)))) ∧ σ' = σ.set q (tapeC l nn (k + 1)) ∧ True := by
  refine (ccalls_of Try.func24 rfl rfl ?_)
  refine cw_seq ?_
  refine cw_region ?_
  refine co_y rfl rfl (y_assign rfl rfl (by conv => lhs; whnf)) ?_
  refine co_nil ?_
  refine cw_seq ?_
  refine cw_region ?_
  refine co_y rfl rfl (y_move rfl trivial (by conv => lhs; whnf)) ?_
  refine co_y rfl rfl (y_move rfl trivial (by conv => lhs; whnf)) ?_
  refine co_d rfl rfl (d_callv rfl Try.call15 ⟨trivial, trivial, trivial⟩ (tape_next l nn k σ q hk hat hl m hn) rfl ?_)
  intro _ _
  refine co_y rfl rfl (y_move rfl trivial (by conv => lhs; whnf)) ?_
  refine co_y rfl rfl (y_int rfl trivial trivial rfl rfl rfl) ?_
  refine co_y rfl rfl (y_assign rfl trivial (by conv => lhs; whnf)) ?_
  refine co_nil ?_
  refine cw_ret ?_
  exact ⟨_, res1 rfl trivial (by conv => lhs; whnf), ⟨(), rfl, rfl, trivial⟩⟩

set_option maxRecDepth 10000 in
theorem tape_pick (l : List Int) (nn : Bool) (k : Nat) (σ : List CObj) (q : Nat) (hk : σ[q]? = some (tapeC l nn k)) (hat : k ≤ 1000000000) (hl : l.length ≤ maxLen) (ls : List Int) (hls : ls ≠ []) (hln : ls.length ≤ 1000) : CCalls CC 37 [.ptr q 0, .list (ls.map icv) true none] σ fun r σ' => ∃ v : Int, r = .ret (.val (.int .i64 v)) ∧ σ' = σ.set q (tapeC l nn (k + 1)) ∧ v ∈ ls := by
  have hpos := List.length_pos_iff.2 hls
  have hb := fold_lt (v := tapeV l k) (n := (ls.length : Int)) (by omega)
  obtain ⟨v, hv⟩ : ∃ v, ls[(tapeN l k (ls.length : Int)).toNat]? = some v := ⟨ls[(tapeN l k (ls.length : Int)).toNat]'(by unfold tapeN; omega), by simp⟩
  have hb' : 0 ≤ tapeN l k (ls.length : Int) := hb.1
  refine (ccalls_of Try.func37 rfl rfl ?_)
  refine cw_seq ?_
  refine cw_region ?_
  refine co_y rfl rfl (y_assign rfl rfl (by conv => lhs; whnf)) ?_
  refine co_nil ?_
  refine cw_seq ?_
  refine cw_seq ?_
  refine cw_region ?_
  refine co_y rfl rfl (y_move rfl trivial (by conv => lhs; whnf)) ?_
  refine co_y rfl rfl (y_len rfl trivial rfl Try.runUnderlying36 (by first | exact len_map _ _ | rfl) rfl) ?_
  refine co_y rfl rfl (y_int rfl trivial rfl rfl rfl rfl) ?_
  refine co_nil ?_
  refine cw_cond trivial rfl (fun h1 => ?_) (fun h1 => ?_)
  · exfalso
    simp at h1
    exact hls h1
  · skip
    refine cw_skip ?_
    refine cw_seq ?_
    refine cw_region ?_
    refine co_y rfl rfl (y_move rfl trivial (by conv => lhs; whnf)) ?_
    refine co_y rfl rfl (y_move rfl trivial (by conv => lhs; whnf)) ?_
    refine co_y rfl rfl (y_move rfl trivial (by conv => lhs; whnf)) ?_
    refine co_y rfl rfl (y_len rfl trivial rfl Try.runUnderlying36 (by first | exact len_map _ _ | rfl) rfl) ?_
    refine co_d rfl rfl (d_callv rfl Try.call15 ⟨trivial, trivial, trivial⟩ (tape_next l nn k σ q hk hat hl (ls.length : Int) (by omega)) rfl ?_)
    intro _ _
    refine co_y rfl rfl (y_index rfl trivial trivial rfl rfl Try.runUnderlying36 Try.sizeOf3 (by omega) (rows_get hv) rfl) ?_
    refine co_y rfl rfl (y_load_c1 rfl trivial rfl Try.isAgg3 rfl) ?_
    refine co_y rfl rfl (y_assign rfl trivial (by conv => lhs; whnf)) ?_
    refine co_nil ?_
    refine cw_ret ?_
    exact ⟨_, res1 rfl trivial (by conv => lhs; whnf), ⟨v, rfl, rfl, List.mem_of_getElem? hv⟩⟩

set_option maxRecDepth 10000 in
theorem odd0 (l : List Int) (nn : Bool) (k : Nat) (hat : k ≤ 900000000) (hl : l.length ≤ maxLen) : CCalls CC 16 [.ptr 0 0] [tapeC l nn k] fun r σ' => ∃ (a : Rp × Nat) (rest : List CObj) (c0 : CV), σ' = tapeC l nn a.2 :: rest ∧ r = .ret c0 ∧ Cls 1 σ' c0 (.agg a.1.cells) ∧ (k ≤ a.2 ∧ a.2 ≤ k + 3) := by
  refine (ccalls_of Try.func16 rfl rfl ?_)
  refine cw_seq ?_
  refine cw_region ?_
  refine co_d rfl rfl (d_alloc rfl Try.zeroValue30 rfl (.inr ⟨_, rfl⟩) ?_)
  refine co_nil ?_
  refine cw_seq ?_
  refine cw_region ?_
  refine co_y rfl rfl (y_move rfl trivial (by conv => lhs; whnf)) ?_
  refine co_d rfl rfl (d_callv rfl Try.call15 ⟨trivial, rfl, trivial⟩ (tape_next l nn k _ 0 rfl (by omega) hl 1000 (by omega)) rfl ?_)
  intro _ _
  refine co_y rfl rfl (y_callf rfl Try.call10 ⟨trivial, trivial⟩ (ld_report_s (tapeN l k 1000) _) rfl) ?_
  refine co_d rfl rfl (d_alloc rfl Try.zeroValue30 rfl (.inr ⟨_, rfl⟩) ?_)
  refine co_d rfl rfl (d_store rfl trivial trivial rfl (by conv => lhs; whnf) Try.sizeOf30 (.inr ⟨_, rfl⟩) rfl rfl (Nat.le_of_ble_eq_true rfl) ?_)
  refine co_nil ?_
  refine cw_seq ?_
  refine cw_seq ?_
  refine cw_region ?_
  refine co_y rfl rfl (y_move rfl trivial (by conv => lhs; whnf)) ?_
  refine co_d rfl rfl (d_callv rfl Try.call15 ⟨trivial, rfl, trivial⟩ (tape_next l nn (k + 1) _ 0 rfl (by omega) hl 14 (by omega)) rfl ?_)
  intro _ _
  refine co_nil ?_
  refine cw_block ?_
  refine cw_seq ?_
  refine cw_region ?_
  refine co_y rfl rfl (y_int rfl trivial rfl rfl rfl rfl) ?_
  refine co_y rfl rfl (y_assign rfl trivial (by conv => lhs; whnf)) ?_
  refine co_nil ?_
  refine cw_cond trivial rfl (fun h1 => ?_) (fun h1 => ?_)
  · skip
    refine cw_region ?_
    refine co_y rfl rfl (y_move rfl trivial (by conv => lhs; whnf)) ?_
    refine co_y rfl rfl (y_lit ([-1, 128].map icv) rfl ⟨rfl, rfl, trivial⟩ Try.runUnderlying36 Try.sizeOf3 Try.zeroValue3 rfl rfl rfl rfl rfl rfl rfl rfl rfl) ?_
    refine co_d rfl rfl (d_callv rfl Try.call37 ⟨trivial, trivial, trivial⟩ (tape_pick l nn (k + 2) _ 0 rfl (by omega) hl [-1, 128] (by simp) (by simp)) rfl ?_)
    intro v hv
    refine co_y rfl rfl (y_field rfl trivial rfl Try.runUnderlying30 rfl Try.sizeOf3 (by decide)) ?_
    refine co_d rfl rfl (d_store rfl trivial trivial rfl (by conv => lhs; whnf) Try.sizeOf3 (.inl rfl) rfl rfl (Nat.le_of_ble_eq_true rfl) ?_)
    refine co_nil ?_
    refine cw_seq ?_
    refine cw_region ?_
    refine co_y rfl rfl (y_load rfl trivial rfl Try.isAgg30 Try.sizeOf30 rfl (Nat.le_of_ble_eq_true rfl)) ?_
    refine co_d rfl rfl (d_store rfl trivial trivial rfl (by conv => lhs; whnf) Try.sizeOf30 (.inr ⟨_, rfl⟩) rfl rfl (Nat.le_of_ble_eq_true rfl) ?_)
    refine co_nil ?_
    refine cw_ret ?_
    exact ⟨_, res_one rfl ⟨trivial, _, _, _, rfl, rfl, .inr ⟨_, Try.isAgg30, Try.sizeOf30, Nat.le_of_ble_eq_true rfl, rfl⟩⟩, ⟨({ (repS (tapeN l k 1000)) with t := v }, k + 3), _, _, rfl, rfl, cls_eq rfl (by repeat' (first | exact .val _ | exact pure_lts _ _ | exact pure_rps _ _ | exact pure_ints _ _ | exact trivial | refine pure_agg ?_ | refine pure_tup ?_ | refine ⟨?_, ?_⟩)), by dsimp only; omega⟩⟩
  · skip
    refine cw_seq ?_
    refine cw_region ?_
    refine co_y rfl rfl (y_int rfl trivial rfl rfl rfl rfl) ?_
    refine co_y rfl rfl (y_assign rfl trivial (by conv => lhs; whnf)) ?_
    refine co_nil ?_
    refine cw_cond trivial rfl (fun h2 => ?_) (fun h2 => ?_)
    · skip
      refine cw_region ?_
      refine co_y rfl rfl (y_move rfl trivial (by conv => lhs; whnf)) ?_
      refine co_y rfl rfl (y_lit ([0, 5].map icv) rfl ⟨rfl, rfl, trivial⟩ Try.runUnderlying36 Try.sizeOf3 Try.zeroValue3 rfl rfl rfl rfl rfl rfl rfl rfl rfl) ?_
      refine co_d rfl rfl (d_callv rfl Try.call37 ⟨trivial, trivial, trivial⟩ (tape_pick l nn (k + 2) _ 0 rfl (by omega) hl [0, 5] (by simp) (by simp)) rfl ?_)
      intro v hv
      refine co_y rfl rfl (y_field rfl trivial rfl Try.runUnderlying30 rfl Try.sizeOf3 (by decide)) ?_
      refine co_d rfl rfl (d_store rfl trivial trivial rfl (by conv => lhs; whnf) Try.sizeOf3 (.inl rfl) rfl rfl (Nat.le_of_ble_eq_true rfl) ?_)
      refine co_nil ?_
      refine cw_seq ?_
      refine cw_region ?_
      refine co_y rfl rfl (y_load rfl trivial rfl Try.isAgg30 Try.sizeOf30 rfl (Nat.le_of_ble_eq_true rfl)) ?_
      refine co_d rfl rfl (d_store rfl trivial trivial rfl (by conv => lhs; whnf) Try.sizeOf30 (.inr ⟨_, rfl⟩) rfl rfl (Nat.le_of_ble_eq_true rfl) ?_)
      refine co_nil ?_
      refine cw_ret ?_
      exact ⟨_, res_one rfl ⟨trivial, _, _, _, rfl, rfl, .inr ⟨_, Try.isAgg30, Try.sizeOf30, Nat.le_of_ble_eq_true rfl, rfl⟩⟩, ⟨({ (repS (tapeN l k 1000)) with a := v }, k + 3), _, _, rfl, rfl, cls_eq rfl (by repeat' (first | exact .val _ | exact pure_lts _ _ | exact pure_rps _ _ | exact pure_ints _ _ | exact trivial | refine pure_agg ?_ | refine pure_tup ?_ | refine ⟨?_, ?_⟩)), by dsimp only; omega⟩⟩
    · skip
      refine cw_seq ?_
      refine cw_region ?_
      refine co_y rfl rfl (y_int rfl trivial rfl rfl rfl rfl) ?_
      refine co_y rfl rfl (y_assign rfl trivial (by conv => lhs; whnf)) ?_
      refine co_nil ?_
      refine cw_cond trivial rfl (fun h3 => ?_) (fun h3 => ?_)
      · skip
        refine cw_region ?_
        refine co_y rfl rfl (y_move rfl trivial (by conv => lhs; whnf)) ?_
        refine co_y rfl rfl (y_lit ([-1, 8].map icv) rfl ⟨rfl, rfl, trivial⟩ Try.runUnderlying36 Try.sizeOf3 Try.zeroValue3 rfl rfl rfl rfl rfl rfl rfl rfl rfl) ?_
        refine co_d rfl rfl (d_callv rfl Try.call37 ⟨trivial, trivial, trivial⟩ (tape_pick l nn (k + 2) _ 0 rfl (by omega) hl [-1, 8] (by simp) (by simp)) rfl ?_)
        intro v hv
        refine co_y rfl rfl (y_field rfl trivial rfl Try.runUnderlying30 rfl Try.sizeOf3 (by decide)) ?_
        refine co_d rfl rfl (d_store rfl trivial trivial rfl (by conv => lhs; whnf) Try.sizeOf3 (.inl rfl) rfl rfl (Nat.le_of_ble_eq_true rfl) ?_)
        refine co_nil ?_
        refine cw_seq ?_
        refine cw_region ?_
        refine co_y rfl rfl (y_load rfl trivial rfl Try.isAgg30 Try.sizeOf30 rfl (Nat.le_of_ble_eq_true rfl)) ?_
        refine co_d rfl rfl (d_store rfl trivial trivial rfl (by conv => lhs; whnf) Try.sizeOf30 (.inr ⟨_, rfl⟩) rfl rfl (Nat.le_of_ble_eq_true rfl) ?_)
        refine co_nil ?_
        refine cw_ret ?_
        exact ⟨_, res_one rfl ⟨trivial, _, _, _, rfl, rfl, .inr ⟨_, Try.isAgg30, Try.sizeOf30, Nat.le_of_ble_eq_true rfl, rfl⟩⟩, ⟨({ (repS (tapeN l k 1000)) with m := v }, k + 3), _, _, rfl, rfl, cls_eq rfl (by repeat' (first | exact .val _ | exact pure_lts _ _ | exact pure_rps _ _ | exact pure_ints _ _ | exact trivial | refine pure_agg ?_ | refine pure_tup ?_ | refine ⟨?_, ?_⟩)), by dsimp only; omega⟩⟩
      · skip
        refine cw_seq ?_
        refine cw_region ?_
        refine co_y rfl rfl (y_int rfl trivial rfl rfl rfl rfl) ?_
        refine co_y rfl rfl (y_assign rfl trivial (by conv => lhs; whnf)) ?_
        refine co_nil ?_
        refine cw_cond trivial rfl (fun h4 => ?_) (fun h4 => ?_)
        · skip
          refine cw_region ?_
          refine co_y rfl rfl (y_move rfl trivial (by conv => lhs; whnf)) ?_
          refine co_y rfl rfl (y_lit ([0, 1073741825].map icv) rfl ⟨rfl, rfl, trivial⟩ Try.runUnderlying36 Try.sizeOf3 Try.zeroValue3 rfl rfl rfl rfl rfl rfl rfl rfl rfl) ?_
          refine co_d rfl rfl (d_callv rfl Try.call37 ⟨trivial, trivial, trivial⟩ (tape_pick l nn (k + 2) _ 0 rfl (by omega) hl [0, 1073741825] (by simp) (by simp)) rfl ?_)
          intro v hv
          refine co_y rfl rfl (y_field rfl trivial rfl Try.runUnderlying30 rfl Try.sizeOf3 (by decide)) ?_
          refine co_d rfl rfl (d_store rfl trivial trivial rfl (by conv => lhs; whnf) Try.sizeOf3 (.inl rfl) rfl rfl (Nat.le_of_ble_eq_true rfl) ?_)
          refine co_nil ?_
          refine cw_seq ?_
          refine cw_region ?_
          refine co_y rfl rfl (y_load rfl trivial rfl Try.isAgg30 Try.sizeOf30 rfl (Nat.le_of_ble_eq_true rfl)) ?_
          refine co_d rfl rfl (d_store rfl trivial trivial rfl (by conv => lhs; whnf) Try.sizeOf30 (.inr ⟨_, rfl⟩) rfl rfl (Nat.le_of_ble_eq_true rfl) ?_)
          refine co_nil ?_
          refine cw_ret ?_
          exact ⟨_, res_one rfl ⟨trivial, _, _, _, rfl, rfl, .inr ⟨_, Try.isAgg30, Try.sizeOf30, Nat.le_of_ble_eq_true rfl, rfl⟩⟩, ⟨({ (repS (tapeN l k 1000)) with e := v }, k + 3), _, _, rfl, rfl, cls_eq rfl (by repeat' (first | exact .val _ | exact pure_lts _ _ | exact pure_rps _ _ | exact pure_ints _ _ | exact trivial | refine pure_agg ?_ | refine pure_tup ?_ | refine ⟨?_, ?_⟩)), by dsimp only; omega⟩⟩
        · skip
          refine cw_seq ?_
          refine cw_region ?_
          refine co_y rfl rfl (y_int rfl trivial rfl rfl rfl rfl) ?_
          refine co_y rfl rfl (y_assign rfl trivial (by conv => lhs; whnf)) ?_
          refine co_nil ?_
          refine cw_cond trivial rfl (fun h5 => ?_) (fun h5 => ?_)
          · skip
            refine cw_region ?_
            refine co_y rfl rfl (y_move rfl trivial (by conv => lhs; whnf)) ?_
            refine co_y rfl rfl (y_lit ([0, 4, -1].map icv) rfl ⟨rfl, rfl, rfl, trivial⟩ Try.runUnderlying36 Try.sizeOf3 Try.zeroValue3 rfl rfl rfl rfl rfl rfl rfl rfl rfl) ?_
            refine co_d rfl rfl (d_callv rfl Try.call37 ⟨trivial, trivial, trivial⟩ (tape_pick l nn (k + 2) _ 0 rfl (by omega) hl [0, 4, -1] (by simp) (by simp)) rfl ?_)
            intro v hv
            refine co_y rfl rfl (y_field rfl trivial rfl Try.runUnderlying30 rfl Try.sizeOf3 (by decide)) ?_
            refine co_d rfl rfl (d_store rfl trivial trivial rfl (by conv => lhs; whnf) Try.sizeOf3 (.inl rfl) rfl rfl (Nat.le_of_ble_eq_true rfl) ?_)
            refine co_nil ?_
            refine cw_seq ?_
            refine cw_region ?_
            refine co_y rfl rfl (y_load rfl trivial rfl Try.isAgg30 Try.sizeOf30 rfl (Nat.le_of_ble_eq_true rfl)) ?_
            refine co_d rfl rfl (d_store rfl trivial trivial rfl (by conv => lhs; whnf) Try.sizeOf30 (.inr ⟨_, rfl⟩) rfl rfl (Nat.le_of_ble_eq_true rfl) ?_)
            refine co_nil ?_
            refine cw_ret ?_
            exact ⟨_, res_one rfl ⟨trivial, _, _, _, rfl, rfl, .inr ⟨_, Try.isAgg30, Try.sizeOf30, Nat.le_of_ble_eq_true rfl, rfl⟩⟩, ⟨({ (repS (tapeN l k 1000)) with o := v }, k + 3), _, _, rfl, rfl, cls_eq rfl (by repeat' (first | exact .val _ | exact pure_lts _ _ | exact pure_rps _ _ | exact pure_ints _ _ | exact trivial | refine pure_agg ?_ | refine pure_tup ?_ | refine ⟨?_, ?_⟩)), by dsimp only; omega⟩⟩
          · skip
            refine cw_skip ?_
            refine cw_seq ?_
            refine cw_region ?_
            refine co_y rfl rfl (y_load rfl trivial rfl Try.isAgg30 Try.sizeOf30 rfl (Nat.le_of_ble_eq_true rfl)) ?_
            refine co_d rfl rfl (d_store rfl trivial trivial rfl (by conv => lhs; whnf) Try.sizeOf30 (.inr ⟨_, rfl⟩) rfl rfl (Nat.le_of_ble_eq_true rfl) ?_)
            refine co_nil ?_
            refine cw_ret ?_
            exact ⟨_, res_one rfl ⟨trivial, _, _, _, rfl, rfl, .inr ⟨_, Try.isAgg30, Try.sizeOf30, Nat.le_of_ble_eq_true rfl, rfl⟩⟩, ⟨((repS (tapeN l k 1000)), k + 2), _, _, rfl, rfl, cls_eq rfl (by repeat' (first | exact .val _ | exact pure_lts _ _ | exact pure_rps _ _ | exact pure_ints _ _ | exact trivial | refine pure_agg ?_ | refine pure_tup ?_ | refine ⟨?_, ?_⟩)), by dsimp only; omega⟩⟩

theorem pure_tape (l : List Int) (nn : Bool) (k : Nat) : PureO (tapeC l nn k) := Pures.all ⟨pure_ints _ _, .val _, trivial⟩
theorem ld_odd (l : List Int) (nn : Bool) (k : Nat) (hat : k ≤ 900000000) (hl : l.length ≤ maxLen) (σ : List CObj) (q : Nat) (hk : σ[q]? = some (tapeC l nn k)) : CCalls CC 16 [.ptr q 0] σ fun r σ' => ∃ a : Rp × Nat, r = .ret (.agg a.1.cells) ∧ σ' = σ.set q (tapeC l nn a.2) ∧ (k ≤ a.2 ∧ a.2 ≤ k + 3) :=
  ccalls_frame1 (ob := tapeC l nn k) (c := fun a : Rp × Nat => .agg a.1.cells) (S := fun a => tapeC l nn a.2) hCC (fun _ h => by cases h) (fun _ => (by repeat' (first | exact .val _ | exact pure_lts _ _ | exact pure_rps _ _ | exact pure_ints _ _ | exact trivial | refine pure_agg ?_ | refine pure_tup ?_ | refine ⟨?_, ?_⟩))) (fun _ => pure_tape _ _ _) (pure_tape _ _ _) rfl
    (ccalls_close1 (c := fun a : Rp × Nat => .agg a.1.cells) (S := fun a => tapeC l nn a.2) hCC (fun _ => pure_tape _ _ _) (odd0 l nn k hat hl)) σ q hk

end Go.Proofs.Ytchaklkfaemfgaa
