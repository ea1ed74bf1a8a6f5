import Derived.Test.YtkhebelajdcjgaaDoorK23
import Derived.Test.YtkhebelajdcjgaaDoorH9
namespace Go.Proofs.YtkhebelajdcjgaaDoor
open Go Go.Cl

/-- What the tape yields next. -/
def tapeV (l : List Int) (at_ : Nat) : Int := (l[at_]?).getD ((at_ : Int) * 7 % 11)
def tapeN (l : List Int) (at_ : Nat) (n : Int) : Int := fold (tapeV l at_) n
abbrev tapeC (l : List Int) (nn : Bool) (at_ : Nat) : CObj := .box [.list (l.map icv) nn none, .val (.int .i64 at_)]

set_option maxRecDepth 10000 in
theorem tape_next (l : List Int) (nn : Bool) (k : Nat) (σ : List CObj) (q : Nat) (hk : σ[q]? = some (tapeC l nn k)) (hat : k ≤ 1000000000) (hl : l.length ≤ maxLen) (n : Int) (hn : n ≤ 4611686018427387904) : CCalls CC 33 [.ptr q 0, .val (.int .i64 n)] σ fun r σ' => ∃ _ : Unit, r = .ret (.val (.int .i64 (tapeN l k n))) ∧ σ' = σ.set q (tapeC l nn (k + 1)) ∧ True := by
  have hl1 := hl
  unfold maxLen at hl1
  unfold tapeC at hk
  have hq : q < σ.length := (List.getElem?_eq_some_iff.1 hk).1
  refine (ccalls_of Tryd.func33 rfl rfl ?_)
  refine cw_seq ?_
  refine cw_region ?_
  refine co_y rfl rfl (y_assign rfl rfl (by conv => lhs; whnf)) ?_
  refine co_nil ?_
  refine cw_seq ?_
  refine cw_region ?_
  refine co_y rfl rfl (y_move rfl trivial (by conv => lhs; whnf)) ?_
  refine co_y rfl rfl (y_nil rfl trivial rfl) ?_
  refine co_y rfl rfl (y_field rfl trivial rfl Tryd.runUnderlying56 rfl Tryd.sizeOf3 (by decide)) ?_
  refine co_y rfl rfl (y_load1 rfl trivial rfl Tryd.isAgg3 hk rfl) ?_
  refine co_y rfl rfl (y_mul rfl trivial rfl rfl rfl (by omega) (by omega)) ?_
  refine co_y rfl rfl (y_int rfl trivial rfl rfl rfl (cq_rem_pos (by omega) (by omega))) ?_
  refine co_y rfl rfl (y_assign rfl trivial (by conv => lhs; whnf)) ?_
  refine co_nil ?_
  refine cw_seq ?_
  refine cw_seq ?_
  refine cw_draw 10 [0, 1, 3, 7, 0, 16, 48, 112, 240, 511] (by kernel_rfl) (by kernel_rfl) rfl ?_
  refine ch_y rfl (y_move rfl trivial (by conv => lhs; whnf)) ?_
  refine ch_y rfl (y_nil rfl trivial rfl) ?_
  refine ch_y rfl (y_field rfl trivial rfl Tryd.runUnderlying56 rfl Tryd.sizeOf3 (by decide)) ?_
  refine ch_y rfl (y_load1 rfl trivial rfl Tryd.isAgg3 hk rfl) ?_
  refine ch_y rfl (y_move rfl trivial (by conv => lhs; whnf)) ?_
  refine ch_y rfl (y_nil rfl trivial rfl) ?_
  refine ch_y rfl (y_field rfl trivial rfl Tryd.runUnderlying56 rfl Tryd.sizeOf34 (by decide)) ?_
  refine ch_y rfl (y_load1 rfl trivial rfl Tryd.isAgg34 hk rfl) ?_
  refine ch_y rfl (y_len rfl trivial rfl Tryd.runUnderlying34 (by first | exact len_map _ _ | rfl) rfl) ?_
  refine ch_y rfl (y_int rfl trivial trivial rfl rfl rfl) ?_
  refine ch_nil ?_
  refine co_nil ?_
  refine cw_cond trivial rfl (fun h1 => ?_) (fun h1 => ?_)
  · have hlt : (k : Int) < l.length := by simpa using h1
    obtain ⟨v, hv⟩ : ∃ v, l[k]? = some v := ⟨l[k]'(by omega), by simp⟩
    refine cw_draw 11 [0, 1, 3, 7, 0, 16, 48, 112, 255, 511, 1023] (by kernel_rfl) (by kernel_rfl) rfl ?_
    refine ch_y rfl (y_move rfl trivial (by conv => lhs; whnf)) ?_
    refine ch_y rfl (y_nil rfl trivial rfl) ?_
    refine ch_y rfl (y_field rfl trivial rfl Tryd.runUnderlying56 rfl Tryd.sizeOf34 (by decide)) ?_
    refine ch_y rfl (y_load1 rfl trivial rfl Tryd.isAgg34 hk rfl) ?_
    refine ch_y rfl (y_move rfl trivial (by conv => lhs; whnf)) ?_
    refine ch_y rfl (y_nil rfl trivial rfl) ?_
    refine ch_y rfl (y_field rfl trivial rfl Tryd.runUnderlying56 rfl Tryd.sizeOf3 (by decide)) ?_
    refine ch_y rfl (y_load1 rfl trivial rfl Tryd.isAgg3 hk rfl) ?_
    refine ch_y rfl (y_index rfl trivial trivial rfl rfl Tryd.runUnderlying34 Tryd.sizeOf3 (by omega) (rows_get hv) rfl) ?_
    refine ch_y rfl (y_load_c1 rfl trivial rfl Tryd.isAgg3 rfl) ?_
    refine ch_y rfl (y_assign rfl trivial (by conv => lhs; whnf)) ?_
    refine ch_nil ?_
    refine co_nil ?_
    refine cw_seq ?_
    refine cw_region ?_
    refine co_y rfl rfl (y_move rfl trivial (by conv => lhs; whnf)) ?_
    refine co_y rfl rfl (y_nil rfl trivial rfl) ?_
    refine co_y rfl rfl (y_field rfl trivial rfl Tryd.runUnderlying56 rfl Tryd.sizeOf3 (by decide)) ?_
    refine co_y rfl rfl (y_load1 rfl trivial rfl Tryd.isAgg3 hk rfl) ?_
    refine co_y rfl rfl (y_add rfl trivial rfl rfl rfl (by omega) (by omega)) ?_
    refine co_y rfl rfl (y_nil rfl trivial rfl) ?_
    refine co_y rfl rfl (y_field rfl trivial rfl Tryd.runUnderlying56 rfl Tryd.sizeOf3 (by decide)) ?_
    refine co_d rfl rfl (d_store rfl trivial trivial rfl (by conv => lhs; whnf) Tryd.sizeOf3 (.inl rfl) hk rfl (Nat.le_of_ble_eq_true rfl) ?_)
    refine co_nil ?_
    refine cw_seq ?_
    refine cw_region ?_
    refine co_y rfl rfl (y_move rfl trivial (by conv => lhs; whnf)) ?_
    refine co_y rfl rfl (y_move rfl trivial (by conv => lhs; whnf)) ?_
    refine co_y rfl rfl (y_callf rfl Tryd.call18 ⟨trivial, trivial, trivial⟩ (mk_Fold_s v n hn _) rfl) ?_
    refine co_y rfl rfl (y_assign rfl trivial (by conv => lhs; whnf)) ?_
    refine co_nil ?_
    refine cw_ret ?_
    exact ⟨_, res1 rfl trivial (by conv => lhs; whnf), ⟨(), by rw [tapeN, tapeV, hv]; rfl, rfl, trivial⟩⟩
  · have hge : ¬ (k : Int) < l.length := by simpa using h1
    have hv : l[k]? = none := List.getElem?_eq_none (by omega)
    refine cw_skip ?_
    refine cw_seq ?_
    refine cw_region ?_
    refine co_y rfl rfl (y_move rfl trivial (by conv => lhs; whnf)) ?_
    refine co_y rfl rfl (y_nil rfl trivial rfl) ?_
    refine co_y rfl rfl (y_field rfl trivial rfl Tryd.runUnderlying56 rfl Tryd.sizeOf3 (by decide)) ?_
    refine co_y rfl rfl (y_load1 rfl trivial rfl Tryd.isAgg3 hk rfl) ?_
    refine co_y rfl rfl (y_add rfl trivial rfl rfl rfl (by omega) (by omega)) ?_
    refine co_y rfl rfl (y_nil rfl trivial rfl) ?_
    refine co_y rfl rfl (y_field rfl trivial rfl Tryd.runUnderlying56 rfl Tryd.sizeOf3 (by decide)) ?_
    refine co_d rfl rfl (d_store rfl trivial trivial rfl (by conv => lhs; whnf) Tryd.sizeOf3 (.inl rfl) hk rfl (Nat.le_of_ble_eq_true rfl) ?_)
    refine co_nil ?_
    refine cw_seq ?_
    refine cw_region ?_
    refine co_y rfl rfl (y_move rfl trivial (by conv => lhs; whnf)) ?_
    refine co_y rfl rfl (y_move rfl trivial (by conv => lhs; whnf)) ?_
    refine co_y rfl rfl (y_callf rfl Tryd.call18 ⟨trivial, trivial, trivial⟩ (mk_Fold_s _ n hn _) rfl) ?_
    refine co_y rfl rfl (y_assign rfl trivial (by conv => lhs; whnf)) ?_
    refine co_nil ?_
    refine cw_ret ?_
    exact ⟨_, res1 rfl trivial (by conv => lhs; whnf), ⟨(), by rw [tapeN, tapeV, hv]; rfl, rfl, trivial⟩⟩

set_option maxRecDepth 10000 in
theorem tape_chance (l : List Int) (nn : Bool) (k : Nat) (σ : List CObj) (q : Nat) (hk : σ[q]? = some (tapeC l nn k)) (hat : k ≤ 1000000000) (hl : l.length ≤ maxLen) (n m : Int) (hn : m ≤ 4611686018427387904) : CCalls CC 34 [.ptr q 0, .val (.int .i64 n), .val (.int .i64 m)] σ fun r σ' => ∃ _ : Unit, r = .ret (.val (.bool (decide (tapeN l k m < n)))) ∧ σ' = σ.set q (tapeC l nn (k + 1)) ∧ True := by
  refine (ccalls_of Tryd.func34 rfl rfl ?_)
  refine cw_seq ?_
  refine cw_region ?_
  refine co_y rfl rfl (y_assign rfl rfl (by conv => lhs; whnf)) ?_
  refine co_nil ?_
  refine cw_seq ?_
  refine cw_region ?_
  refine co_y rfl rfl (y_move rfl trivial (by conv => lhs; whnf)) ?_
  refine co_y rfl rfl (y_move rfl trivial (by conv => lhs; whnf)) ?_
  refine co_d rfl rfl (d_callv rfl Tryd.call33 ⟨trivial, trivial, trivial⟩ (tape_next l nn k σ q hk hat hl m hn) rfl ?_)
  intro _ _
  refine co_y rfl rfl (y_move rfl trivial (by conv => lhs; whnf)) ?_
  refine co_y rfl rfl (y_int rfl trivial trivial rfl rfl rfl) ?_
  refine co_y rfl rfl (y_assign rfl trivial (by conv => lhs; whnf)) ?_
  refine co_nil ?_
  refine cw_ret ?_
  exact ⟨_, res1 rfl trivial (by conv => lhs; whnf), ⟨(), rfl, rfl, trivial⟩⟩

end Go.Proofs.YtkhebelajdcjgaaDoor
