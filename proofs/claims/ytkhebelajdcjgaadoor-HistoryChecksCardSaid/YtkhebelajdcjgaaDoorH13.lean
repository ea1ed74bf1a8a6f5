import Derived.Test.YtkhebelajdcjgaaDoorH12
namespace Go.Proofs.YtkhebelajdcjgaaDoor
open Go Go.Cl

theorem tapeN_bound (l : List Int) (k : Nat) {n : Int} (hn : 2 ≤ n) : 0 ≤ tapeN l k n ∧ tapeN l k n < n := by
  unfold tapeN fold
  rw [if_neg (by omega)]
  exact ⟨Int.emod_nonneg _ (by omega), Int.emod_lt_of_pos _ (by omega)⟩
theorem tapeN_nonneg (l : List Int) (k : Nat) (n : Int) : 0 ≤ tapeN l k n := by
  unfold tapeN fold
  split
  · omega
  · exact Int.emod_nonneg _ (by omega)
theorem chk_nn {h : Hist} (hc : ChkP h) (nn : Bool) : ChkP { h with nn := nn } := ⟨⟨hc.use, hc.env, hc.k, hc.fail, hc.last, hc.zero⟩, hc.ord, hc.siz⟩
/-- What 'made' is at, run by run. -/
structure MSt where
  h : Hist
  w : Hist
  out : List Int
  rev : Int
  k : Nat
def mrev (l : List Int) (s : MSt) : Int := if tapeN l s.k 2 < 1 then s.rev + tapeN l (s.k + 1) 3 else s.rev
def mk1 (l : List Int) (s : MSt) : Nat := if tapeN l s.k 2 < 1 then s.k + 2 else s.k + 1
def mfail (l : List Int) (s : MSt) : Bool := decide (tapeN l (mk1 l s) 3 < 2)
noncomputable def mstep (l : List Int) (s : MSt) : MSt :=
  ⟨(addS (pb (ChkP s.h)) s.h (mrev l s) (mfail l s) true).1, (addS (pb (RChkP s.w)) s.w (mrev l s) (mfail l s) (mfail l s || gnn s.w.bs.length)).1, if mfail l s = true then s.out ++ [mrev l s] else s.out, mrev l s, mk1 l s + 1⟩
noncomputable def mrun (l : List Int) : Nat → MSt → MSt
  | 0, s => s
  | n + 1, s => mrun l n (mstep l s)
def mzero (l : List Int) : MSt :=
  ⟨(newS ⟨#[112]⟩ ⟨#[116]⟩ 0 (2 + tapeN l 0 4)).1, (newS ⟨#[112]⟩ ⟨#[116]⟩ 0 (2 + tapeN l 0 4)).1, [], 1, 2⟩
noncomputable def madeS (l : List Int) (most : Int) : MSt := mrun l (tapeN l 1 most).toNat (mzero l)
structure MI (s : MSt) (i : Nat) : Prop where
  chk : ChkP s.h
  same : s.w = { s.h with nn := s.w.nn }
  runs : s.h.runs = i
  rev : 1 ≤ s.rev ∧ s.rev ≤ 1 + 2 * (i : Int)
  last : s.h.last ≤ s.rev
  k : s.k ≤ 2 + 3 * i
  out : s.out.length ≤ i
  kk : s.h.k ≤ 5
theorem MI.wchk {s : MSt} {i : Nat} (h : MI s i) : ChkP s.w := by rw [h.same]; exact chk_nn h.chk _
theorem MI.wfits {s : MSt} {i : Nat} (h : MI s i) : Fits s.w := chk_fits h.wchk
theorem MI.sameP {s : MSt} {i : Nat} (h : MI s i) : SameP s.h s.w := by
  have := h.same
  rw [this]; exact same_refl s.h
theorem MI.zero (l : List Int) : MI (mzero l) 0 := by
  have hb := tapeN_bound l 0 (n := 4) (by omega)
  have e := newS_ok (pkg := ⟨#[112]⟩) (test := ⟨#[116]⟩) (env := 0) (k := 2 + tapeN l 0 4) use_own (by omega) (by omega)
  refine ⟨?_, rfl, ?_, ⟨Int.le_refl _, by show (1 : Int) ≤ _; omega⟩, ?_, Nat.le_refl _, Nat.le_refl _, ?_⟩
  · show ChkP (newS ⟨#[112]⟩ ⟨#[116]⟩ 0 (2 + tapeN l 0 4)).1
    rw [e]; exact chk_new use_own (by omega) (by omega) _
  all_goals
    unfold mzero
    simp only [e]
    omega
structure MNext (l : List Int) (s : MSt) : Prop where
  e1 : (addS (pb (ChkP s.h)) s.h (mrev l s) (mfail l s) true).2 = 0
  e2 : (addS (pb (RChkP s.w)) s.w (mrev l s) (mfail l s) (mfail l s || gnn s.w.bs.length)).2 = 0
  rv : s.rev ≤ mrev l s ∧ mrev l s ≤ s.rev + 2
  k1 : mk1 l s ≤ s.k + 2
theorem MI.next {l : List Int} {s : MSt} {i : Nat} (h : MI s i) (hi : i < 1000000) : MNext l s ∧ MI (mstep l s) (i + 1) ∧ (mstep l s).h = { s.h with runs := s.h.runs + 1, last := mrev l s, failed := s.h.failed + (if mfail l s = true then 1 else 0), bs := if mfail l s = true then carry s.h.k (s.h.bs.length + 1) (s.h.bs ++ [bk1 (mrev l s)]) 1 else s.h.bs, nn := true } := by
  have hb := tapeN_bound l (s.k + 1) (n := 3) (by omega)
  have hrv : s.rev ≤ mrev l s ∧ mrev l s ≤ s.rev + 2 := by unfold mrev; split <;> omega
  have hk1 : mk1 l s ≤ s.k + 2 := by unfold mk1; split <;> omega
  have hr := h.rev
  have hla := h.last
  have hru := h.runs
  have p1 : pb (ChkP s.h) = true := pb_yes h.chk
  have p2 : pb (RChkP s.w) = true := pb_yes (chk_iff.1 h.wchk)
  have a1 := addS_ok (h := s.h) (rev := mrev l s) (by omega) (by omega) (by omega) (mfail l s) true
  have hw := h.same
  have a2 := addS_ok (h := s.w) (rev := mrev l s) (by omega) (by rw [hw]; show s.h.last ≤ _; omega) (by rw [hw]; show s.h.runs < _; omega) (mfail l s) (mfail l s || gnn s.w.bs.length)
  refine ⟨⟨by rw [p1, a1], by rw [p2, a2], hrv, hk1⟩, ⟨?_, ?_, ?_, ⟨?_, ?_⟩, ?_, ?_, ?_, ?_⟩, ?_⟩
  · show ChkP (addS (pb (ChkP s.h)) s.h (mrev l s) (mfail l s) true).1
    rw [p1]; exact add_keeps h.chk (by omega) (by omega) (by omega) _ _
  · have ew : (mstep l s).w = (addS true s.w (mrev l s) (mfail l s) (mfail l s || gnn s.w.bs.length)).1 := by
      show (addS (pb (RChkP s.w)) s.w (mrev l s) (mfail l s) (mfail l s || gnn s.w.bs.length)).1 = _
      rw [p2]
    have eh : (mstep l s).h = (addS true s.h (mrev l s) (mfail l s) true).1 := by
      show (addS (pb (ChkP s.h)) s.h (mrev l s) (mfail l s) true).1 = _
      rw [p1]
    rw [ew, eh, a1, a2]
    generalize (mfail l s || gnn s.w.bs.length) = b
    rw [hw]
  · show (addS (pb (ChkP s.h)) s.h (mrev l s) (mfail l s) true).1.runs = _
    rw [p1, a1]; show s.h.runs + 1 = _; omega
  · show 1 ≤ mrev l s; omega
  · show mrev l s ≤ _; omega
  · show (addS (pb (ChkP s.h)) s.h (mrev l s) (mfail l s) true).1.last ≤ mrev l s
    rw [p1, a1]; exact Int.le_refl _
  · show mk1 l s + 1 ≤ _
    have := h.k
    omega
  · show (if mfail l s = true then s.out ++ [mrev l s] else s.out).length ≤ _
    have := h.out
    split <;> simp <;> omega
  · show (addS (pb (ChkP s.h)) s.h (mrev l s) (mfail l s) true).1.k ≤ 5
    rw [p1, a1]; exact h.kk
  · show (addS (pb (ChkP s.h)) s.h (mrev l s) (mfail l s) true).1 = _
    rw [p1, a1]
theorem mrun_all {l : List Int} {P : MSt → Nat → Prop} (hP : ∀ s i, MI s i → P s i → i < 1000000 → P (mstep l s) (i + 1)) : ∀ (n : Nat) (s : MSt) (i : Nat), MI s i → P s i → i + n ≤ 1000000 → MI (mrun l n s) (i + n) ∧ P (mrun l n s) (i + n)
  | 0, s, i, h, hp, _ => ⟨h, hp⟩
  | n + 1, s, i, h, hp, hi => by
    have := mrun_all hP n (mstep l s) (i + 1) (h.next (by omega)).2.1 (hP s i h hp (by omega)) (by omega)
    rw [show i + (n + 1) = i + 1 + n by omega]
    exact this
theorem made_runs (l : List Int) {most : Int} (hm : 2 ≤ most ∧ most ≤ 1000000) : (tapeN l 1 most).toNat < most.toNat := by
  have := tapeN_bound l 1 (n := most) (by omega)
  omega
theorem made_MI (l : List Int) {most : Int} (hm : 2 ≤ most ∧ most ≤ 1000000) : MI (madeS l most) (tapeN l 1 most).toNat := by
  have hr := made_runs l hm
  have := (mrun_all (l := l) (P := fun _ _ => True) (fun _ _ _ _ _ => trivial) (tapeN l 1 most).toNat (mzero l) 0 (MI.zero l) trivial (by omega)).1
  rwa [Nat.zero_add] at this

set_option maxRecDepth 10000 in
theorem la_made (l : List Int) (nn : Bool) (hl : l.length ≤ maxLen) (most : Int) (hm : 2 ≤ most ∧ most ≤ 1000000) : CCalls CC 17 [.list (l.map icv) nn none, (.val (.int .i64 (most)))] [] fun r σ' => r = .ret (.tup [.agg (madeS l most).h.cells, .agg (madeS l most).w.cells, (.list ((madeS l most).out.map icv) (gnn (madeS l most).out.length) none), (.val (.bool true))]) ∧ σ' = [] := by
  refine ccalls_val (ccalls_of Tryd.func17 rfl rfl ?_)
  refine cw_seq ?_
  refine cw_region ?_
  refine co_d rfl rfl (d_alloc rfl Tryd.zeroValue26 rfl (.inr ⟨_, rfl⟩) ?_)
  refine co_d rfl rfl (d_alloc rfl Tryd.zeroValue26 rfl (.inr ⟨_, rfl⟩) ?_)
  refine co_y rfl rfl (y_assign rfl rfl (by conv => lhs; whnf)) ?_
  refine co_y rfl rfl (y_assign rfl rfl (by conv => lhs; whnf)) ?_
  refine co_nil ?_
  refine cw_seq ?_
  refine cw_region ?_
  refine co_y rfl rfl (y_move rfl trivial (by conv => lhs; whnf)) ?_
  refine co_y rfl rfl (y_build' #[(0, 1), (1, 1)] rfl ⟨trivial, trivial⟩ Tryd.runUnderlying56 Tryd.zeroValue56 rfl ⟨_, rfl⟩ (fun w => by kernel_rfl) rfl rfl) ?_
  refine co_d rfl rfl (d_box rfl trivial (by conv => lhs; whnf) (.inr ⟨_, rfl⟩) ?_)
  refine co_y rfl rfl (y_assign rfl trivial (by conv => lhs; whnf)) ?_
  refine co_nil ?_
  refine cw_seq ?_
  refine cw_region ?_
  refine co_y rfl rfl (y_move rfl trivial (by conv => lhs; whnf)) ?_
  refine co_d rfl rfl (d_callv rfl Tryd.call33 ⟨trivial, rfl, trivial⟩ (tape_next l nn 0 _ 2 rfl (by omega) hl 4 (by omega)) rfl ?_)
  intro _ _
  have hb4 := tapeN_bound l 0 (n := 4) (by omega)
  refine co_y rfl rfl (y_add rfl rfl trivial rfl rfl (by omega) (by omega)) ?_
  refine co_y rfl rfl (y_assign rfl trivial (by conv => lhs; whnf)) ?_
  refine co_nil ?_
  refine cw_seq ?_
  refine cw_region ?_
  refine co_y rfl rfl (y_load_c rfl trivial rfl Tryd.isAgg23 Tryd.sizeOf23 (Nat.le_of_ble_eq_true rfl)) ?_
  refine co_y rfl rfl (y_move rfl trivial (by conv => lhs; whnf)) ?_
  refine co_y rfl rfl (y_callf rfl Tryd.call12 ⟨trivial, rfl, trivial, trivial⟩ (hi_New_s ⟨#[112]⟩ ⟨#[116]⟩ 0 (2 + tapeN l 0 4) _) rfl) ?_
  refine co_y rfl rfl (y_move rfl trivial (by conv => lhs; whnf)) ?_
  refine co_y rfl rfl (y_extract rfl trivial rfl rfl) ?_
  refine co_y rfl rfl (y_extract rfl trivial rfl rfl) ?_
  refine co_d rfl rfl (d_alloc rfl Tryd.zeroValue26 rfl (.inr ⟨_, rfl⟩) ?_)
  refine co_d rfl rfl (d_store rfl trivial trivial rfl (by conv => lhs; whnf) Tryd.sizeOf26 (.inr ⟨_, rfl⟩) rfl rfl (Nat.le_of_ble_eq_true rfl) ?_)
  refine co_y rfl rfl (y_assign rfl trivial (by conv => lhs; whnf)) ?_
  refine co_nil ?_
  refine cw_seq ?_
  refine cw_region ?_
  refine co_y rfl rfl (y_load_c rfl trivial rfl Tryd.isAgg23 Tryd.sizeOf23 (Nat.le_of_ble_eq_true rfl)) ?_
  refine co_y rfl rfl (y_move rfl trivial (by conv => lhs; whnf)) ?_
  refine co_y rfl rfl (y_callf rfl Tryd.call13 ⟨trivial, rfl, trivial, trivial⟩ (re_New_s ⟨#[112]⟩ ⟨#[116]⟩ 0 (2 + tapeN l 0 4) _) rfl) ?_
  refine co_y rfl rfl (y_move rfl trivial (by conv => lhs; whnf)) ?_
  refine co_y rfl rfl (y_extract rfl trivial rfl rfl) ?_
  refine co_y rfl rfl (y_extract rfl trivial rfl rfl) ?_
  refine co_d rfl rfl (d_alloc rfl Tryd.zeroValue26 rfl (.inr ⟨_, rfl⟩) ?_)
  refine co_d rfl rfl (d_store rfl trivial trivial rfl (by conv => lhs; whnf) Tryd.sizeOf26 (.inr ⟨_, rfl⟩) rfl rfl (Nat.le_of_ble_eq_true rfl) ?_)
  refine co_y rfl rfl (y_assign rfl trivial (by conv => lhs; whnf)) ?_
  refine co_nil ?_
  refine cw_seq ?_
  refine cw_region ?_
  refine co_y rfl rfl (y_assign rfl rfl (by conv => lhs; whnf)) ?_
  refine co_nil ?_
  refine cw_seq ?_
  refine cw_region ?_
  refine co_y rfl rfl (y_assign rfl rfl (by conv => lhs; whnf)) ?_
  refine co_nil ?_
  refine cw_seq ?_
  refine cw_seq ?_
  refine cw_region ?_
  refine co_y rfl rfl (y_move rfl trivial (by conv => lhs; whnf)) ?_
  refine co_y rfl rfl (y_move rfl trivial (by conv => lhs; whnf)) ?_
  refine co_d rfl rfl (d_callv rfl Tryd.call33 ⟨trivial, trivial, trivial⟩ (tape_next l nn 1 _ 2 rfl (by omega) hl most (by omega)) rfl ?_)
  intro _ _
  have hbn := tapeN_nonneg l 1 most
  have hbm := made_runs l hm
  have en := newS_ok (pkg := ⟨#[112]⟩) (test := ⟨#[116]⟩) (env := 0) (k := 2 + tapeN l 0 4) use_own (by omega) (by omega)
  have en2 : (newS ⟨#[112]⟩ ⟨#[116]⟩ 0 (2 + tapeN l 0 4)).2 = 0 := by rw [en]
  refine co_y rfl rfl (y_assign rfl trivial (by conv => lhs; whnf)) ?_
  refine co_nil ?_
  refine cw_block ?_
  refine cw_loopr hCC 5 rfl (α := MSt × Nat) (fun x => [(4, .ptr 0 0), (5, .ptr 1 0), (8, .ptr 2 0), (10, .ptr 3 0), (11, (.val (.int .i64 (0)))), (12, .ptr 4 0), (13, (.val (.int .i64 (0)))), (14, (.list ((x.1.out).map icv) (gnn (x.1.out).length) (gtok (x.1.out).length 5))), (15, (.val (.int .i64 (x.1.rev)))), (16, (.val (.int .i64 ((x.2 : Int)))))]) (fun x => [.box zeroH.cells, .box zeroH.cells, tapeC l nn (x.1.k), .box (x.1.h).cells, .box (x.1.w).cells, gobj (x.1.out).length]) (fun x => ∃ i, MI x.1 i ∧ i + x.2 ≤ 1000000 ∧ mrun l x.2 x.1 = madeS l most) (fun x => x.2) ⟨(mzero l, (tapeN l 1 most).toNat), [0, 1, 2, 3, 4, 9], ⟨0, MI.zero l, by dsimp only; omega, rfl⟩, ⟨rfl, rfl⟩, ⟨⟨trivial, (by first | exact .ptr rfl | exact .map rfl | exact .vec rfl | exact .same rfl (by first | exact .val _ | exact .ptr (Nat.le_of_ble_eq_true rfl) | exact .map (Nat.le_of_ble_eq_true rfl) | exact (by first | exact old_bkts _ _ _ | exact old_ints _ _ _)) | exact RenV.grow (f := icv) (fun _ => ⟨.val _, trivial⟩) rfl)⟩, ⟨trivial, (by first | exact .ptr rfl | exact .map rfl | exact .vec rfl | exact .same rfl (by first | exact .val _ | exact .ptr (Nat.le_of_ble_eq_true rfl) | exact .map (Nat.le_of_ble_eq_true rfl) | exact (by first | exact old_bkts _ _ _ | exact old_ints _ _ _)) | exact RenV.grow (f := icv) (fun _ => ⟨.val _, trivial⟩) rfl)⟩, ⟨trivial, (by first | exact .ptr rfl | exact .map rfl | exact .vec rfl | exact .same rfl (by first | exact .val _ | exact .ptr (Nat.le_of_ble_eq_true rfl) | exact .map (Nat.le_of_ble_eq_true rfl) | exact (by first | exact old_bkts _ _ _ | exact old_ints _ _ _)) | exact RenV.grow (f := icv) (fun _ => ⟨.val _, trivial⟩) rfl)⟩, ⟨trivial, (by first | exact .ptr rfl | exact .map rfl | exact .vec rfl | exact .same rfl (by first | exact .val _ | exact .ptr (Nat.le_of_ble_eq_true rfl) | exact .map (Nat.le_of_ble_eq_true rfl) | exact (by first | exact old_bkts _ _ _ | exact old_ints _ _ _)) | exact RenV.grow (f := icv) (fun _ => ⟨.val _, trivial⟩) rfl)⟩, ⟨trivial, (by first | exact .ptr rfl | exact .map rfl | exact .vec rfl | exact .same (congrArg (fun x => CV.val (.int .i64 x)) en2) (by first | exact .val _ | exact .ptr (Nat.le_of_ble_eq_true rfl) | exact .map (Nat.le_of_ble_eq_true rfl) | exact (by first | exact old_bkts _ _ _ | exact old_ints _ _ _)) | exact RenV.grow (f := icv) (fun _ => ⟨.val _, trivial⟩) rfl)⟩, ⟨trivial, (by first | exact .ptr rfl | exact .map rfl | exact .vec rfl | exact .same rfl (by first | exact .val _ | exact .ptr (Nat.le_of_ble_eq_true rfl) | exact .map (Nat.le_of_ble_eq_true rfl) | exact (by first | exact old_bkts _ _ _ | exact old_ints _ _ _)) | exact RenV.grow (f := icv) (fun _ => ⟨.val _, trivial⟩) rfl)⟩, ⟨trivial, (by first | exact .ptr rfl | exact .map rfl | exact .vec rfl | exact .same (congrArg (fun x => CV.val (.int .i64 x)) en2) (by first | exact .val _ | exact .ptr (Nat.le_of_ble_eq_true rfl) | exact .map (Nat.le_of_ble_eq_true rfl) | exact (by first | exact old_bkts _ _ _ | exact old_ints _ _ _)) | exact RenV.grow (f := icv) (fun _ => ⟨.val _, trivial⟩) rfl)⟩, ⟨trivial, (by first | exact .ptr rfl | exact .map rfl | exact .vec rfl | exact .same rfl (by first | exact .val _ | exact .ptr (Nat.le_of_ble_eq_true rfl) | exact .map (Nat.le_of_ble_eq_true rfl) | exact (by first | exact old_bkts _ _ _ | exact old_ints _ _ _)) | exact RenV.grow (f := icv) (fun _ => ⟨.val _, trivial⟩) rfl)⟩, ⟨trivial, (by first | exact .ptr rfl | exact .map rfl | exact .vec rfl | exact .same rfl (by first | exact .val _ | exact .ptr (Nat.le_of_ble_eq_true rfl) | exact .map (Nat.le_of_ble_eq_true rfl) | exact (by first | exact old_bkts _ _ _ | exact old_ints _ _ _)) | exact RenV.grow (f := icv) (fun _ => ⟨.val _, trivial⟩) rfl)⟩, ⟨trivial, (by first | exact .ptr rfl | exact .map rfl | exact .vec rfl | exact .same (congrArg (fun x => CV.val (.int .i64 x)) (by simp; omega)) (by first | exact .val _ | exact .ptr (Nat.le_of_ble_eq_true rfl) | exact .map (Nat.le_of_ble_eq_true rfl) | exact (by first | exact old_bkts _ _ _ | exact old_ints _ _ _)) | exact RenV.grow (f := icv) (fun _ => ⟨.val _, trivial⟩) rfl)⟩, trivial⟩, (by repeat' (first | exact trivial | exact .inl rfl | exact .inr ⟨_, rfl, .same rfl (old_gobj _ _)⟩ | exact .inr ⟨_, rfl, .same (gobj_snoc _ _ _) (old_gobj _ _)⟩ | exact .inr ⟨_, rfl, .same rfl (by repeat' (first | exact trivial | exact .val _ | exact .ptr (Nat.le_of_ble_eq_true rfl) | exact .map (Nat.le_of_ble_eq_true rfl) | exact (by first | exact old_bkts _ _ _ | exact old_ints _ _ _) | refine old_box ?_ | refine ⟨?_, ?_⟩))⟩ | exact .inr ⟨_, rfl, .box (by repeat' (first | exact trivial | exact .same rfl (by first | exact .val _ | exact .ptr (Nat.le_of_ble_eq_true rfl) | exact .map (Nat.le_of_ble_eq_true rfl) | exact (by first | exact old_bkts _ _ _ | exact old_ints _ _ _)) | exact .ptr rfl | exact .map rfl | exact .vec rfl | exact RenV.grow (f := icv) (fun _ => ⟨.val _, trivial⟩) rfl | refine ⟨?_, ?_⟩))⟩ | refine ⟨?_, ?_⟩))⟩ ?_
  intro ⟨s, n⟩ ⟨i, hI, hin, hrun⟩
  dsimp only at hI hin hrun ⊢
  have hk := hI.k
  have hrv := hI.rev
  have hlo := hI.out
  refine cw_seq ?_
  refine cw_seq ?_
  refine cw_region ?_
  refine co_y rfl rfl (y_move rfl trivial (by conv => lhs; whnf)) ?_
  refine co_y rfl rfl (y_int rfl trivial rfl rfl rfl rfl) ?_
  refine co_nil ?_
  refine cw_cond trivial rfl (fun h1 => ?_) (fun h1 => ?_)
  · have hn0 : 0 < n := by simp at h1; omega
    obtain ⟨hN, hI', hh'⟩ := hI.next (l := l) (by omega)
    refine cw_skip ?_
    refine cw_seq ?_
    refine cw_block ?_
    refine cw_cutr hCC 6 rfl (α := Int × Nat) (fun x => [(4, .ptr 0 0), (5, .ptr 1 0), (8, .ptr 2 0), (10, .ptr 3 0), (12, .ptr 4 0), (14, (.list ((s.out).map icv) (gnn (s.out).length) (gtok (s.out).length 5))), (15, (.val (.int .i64 (x.1)))), (16, (.val (.int .i64 ((n : Int)))))]) (fun x => [.box zeroH.cells, .box zeroH.cells, tapeC l nn (x.2), .box (s.h).cells, .box (s.w).cells, gobj (s.out).length]) (fun x => x = (mrev l s, mk1 l s)) ?_ ?_
    · -- up to the cut
      refine cw_seq ?_
      refine cw_region ?_
      refine co_y rfl rfl (y_move rfl trivial (by conv => lhs; whnf)) ?_
      refine co_d rfl rfl (d_callv rfl Tryd.call34 ⟨trivial, rfl, rfl, trivial⟩ (tape_chance l nn s.k _ 2 rfl (by omega) hl 1 2 (by omega)) rfl ?_)
      intro _ _
      refine co_nil ?_
      refine cw_cond trivial rfl (fun h2 => ?_) (fun h2 => ?_)
      · have ht2 : tapeN l s.k 2 < 1 := by simpa using h2
        refine cw_region ?_
        refine co_y rfl rfl (y_move rfl trivial (by conv => lhs; whnf)) ?_
        refine co_y rfl rfl (y_move rfl trivial (by conv => lhs; whnf)) ?_
        refine co_d rfl rfl (d_callv rfl Tryd.call33 ⟨trivial, rfl, trivial⟩ (tape_next l nn (s.k + 1) _ 2 rfl (by omega) hl 3 (by omega)) rfl ?_)
        intro _ _
        have hb3 := tapeN_bound l (s.k + 1) (n := 3) (by omega)
        refine co_y rfl rfl (y_add rfl trivial trivial rfl rfl (by omega) (by omega)) ?_
        refine co_y rfl rfl (y_assign rfl trivial (by conv => lhs; whnf)) ?_
        refine co_nil ?_
        exact ⟨(s.rev + tapeN l (s.k + 1) 3, s.k + 2), [0, 1, 2, 3, 4, 5], (by rw [mrev, mk1, if_pos ht2, if_pos ht2]), ⟨rfl, rfl⟩, ⟨⟨trivial, (by first | exact .ptr rfl | exact .map rfl | exact .vec rfl | exact .same rfl (by first | exact .val _ | exact .ptr (Nat.le_of_ble_eq_true rfl) | exact .map (Nat.le_of_ble_eq_true rfl) | exact (by first | exact old_bkts _ _ _ | exact old_ints _ _ _)) | exact RenV.grow (f := icv) (fun _ => ⟨.val _, trivial⟩) rfl)⟩, ⟨trivial, (by first | exact .ptr rfl | exact .map rfl | exact .vec rfl | exact .same rfl (by first | exact .val _ | exact .ptr (Nat.le_of_ble_eq_true rfl) | exact .map (Nat.le_of_ble_eq_true rfl) | exact (by first | exact old_bkts _ _ _ | exact old_ints _ _ _)) | exact RenV.grow (f := icv) (fun _ => ⟨.val _, trivial⟩) rfl)⟩, ⟨trivial, (by first | exact .ptr rfl | exact .map rfl | exact .vec rfl | exact .same rfl (by first | exact .val _ | exact .ptr (Nat.le_of_ble_eq_true rfl) | exact .map (Nat.le_of_ble_eq_true rfl) | exact (by first | exact old_bkts _ _ _ | exact old_ints _ _ _)) | exact RenV.grow (f := icv) (fun _ => ⟨.val _, trivial⟩) rfl)⟩, ⟨trivial, (by first | exact .ptr rfl | exact .map rfl | exact .vec rfl | exact .same rfl (by first | exact .val _ | exact .ptr (Nat.le_of_ble_eq_true rfl) | exact .map (Nat.le_of_ble_eq_true rfl) | exact (by first | exact old_bkts _ _ _ | exact old_ints _ _ _)) | exact RenV.grow (f := icv) (fun _ => ⟨.val _, trivial⟩) rfl)⟩, ⟨trivial, (by first | exact .ptr rfl | exact .map rfl | exact .vec rfl | exact .same rfl (by first | exact .val _ | exact .ptr (Nat.le_of_ble_eq_true rfl) | exact .map (Nat.le_of_ble_eq_true rfl) | exact (by first | exact old_bkts _ _ _ | exact old_ints _ _ _)) | exact RenV.grow (f := icv) (fun _ => ⟨.val _, trivial⟩) rfl)⟩, ⟨trivial, (by first | exact .ptr rfl | exact .map rfl | exact .vec rfl | exact .same rfl (by first | exact .val _ | exact .ptr (Nat.le_of_ble_eq_true rfl) | exact .map (Nat.le_of_ble_eq_true rfl) | exact (by first | exact old_bkts _ _ _ | exact old_ints _ _ _)) | exact RenV.grow (f := icv) (fun _ => ⟨.val _, trivial⟩) rfl)⟩, ⟨trivial, (by first | exact .ptr rfl | exact .map rfl | exact .vec rfl | exact .same rfl (by first | exact .val _ | exact .ptr (Nat.le_of_ble_eq_true rfl) | exact .map (Nat.le_of_ble_eq_true rfl) | exact (by first | exact old_bkts _ _ _ | exact old_ints _ _ _)) | exact RenV.grow (f := icv) (fun _ => ⟨.val _, trivial⟩) rfl)⟩, ⟨trivial, (by first | exact .ptr rfl | exact .map rfl | exact .vec rfl | exact .same rfl (by first | exact .val _ | exact .ptr (Nat.le_of_ble_eq_true rfl) | exact .map (Nat.le_of_ble_eq_true rfl) | exact (by first | exact old_bkts _ _ _ | exact old_ints _ _ _)) | exact RenV.grow (f := icv) (fun _ => ⟨.val _, trivial⟩) rfl)⟩, trivial⟩, (by repeat' (first | exact trivial | exact .inl rfl | exact .inr ⟨_, rfl, .same rfl (old_gobj _ _)⟩ | exact .inr ⟨_, rfl, .same (gobj_snoc _ _ _) (old_gobj _ _)⟩ | exact .inr ⟨_, rfl, .same rfl (by repeat' (first | exact trivial | exact .val _ | exact .ptr (Nat.le_of_ble_eq_true rfl) | exact .map (Nat.le_of_ble_eq_true rfl) | exact (by first | exact old_bkts _ _ _ | exact old_ints _ _ _) | refine old_box ?_ | refine ⟨?_, ?_⟩))⟩ | exact .inr ⟨_, rfl, .box (by repeat' (first | exact trivial | exact .same rfl (by first | exact .val _ | exact .ptr (Nat.le_of_ble_eq_true rfl) | exact .map (Nat.le_of_ble_eq_true rfl) | exact (by first | exact old_bkts _ _ _ | exact old_ints _ _ _)) | exact .ptr rfl | exact .map rfl | exact .vec rfl | exact RenV.grow (f := icv) (fun _ => ⟨.val _, trivial⟩) rfl | refine ⟨?_, ?_⟩))⟩ | refine ⟨?_, ?_⟩))⟩
      · have ht2 : ¬ tapeN l s.k 2 < 1 := by simpa using h2
        refine cw_skip ?_
        exact ⟨(s.rev, s.k + 1), [0, 1, 2, 3, 4, 5], (by rw [mrev, mk1, if_neg ht2, if_neg ht2]), ⟨rfl, rfl⟩, ⟨⟨trivial, (by first | exact .ptr rfl | exact .map rfl | exact .vec rfl | exact .same rfl (by first | exact .val _ | exact .ptr (Nat.le_of_ble_eq_true rfl) | exact .map (Nat.le_of_ble_eq_true rfl) | exact (by first | exact old_bkts _ _ _ | exact old_ints _ _ _)) | exact RenV.grow (f := icv) (fun _ => ⟨.val _, trivial⟩) rfl)⟩, ⟨trivial, (by first | exact .ptr rfl | exact .map rfl | exact .vec rfl | exact .same rfl (by first | exact .val _ | exact .ptr (Nat.le_of_ble_eq_true rfl) | exact .map (Nat.le_of_ble_eq_true rfl) | exact (by first | exact old_bkts _ _ _ | exact old_ints _ _ _)) | exact RenV.grow (f := icv) (fun _ => ⟨.val _, trivial⟩) rfl)⟩, ⟨trivial, (by first | exact .ptr rfl | exact .map rfl | exact .vec rfl | exact .same rfl (by first | exact .val _ | exact .ptr (Nat.le_of_ble_eq_true rfl) | exact .map (Nat.le_of_ble_eq_true rfl) | exact (by first | exact old_bkts _ _ _ | exact old_ints _ _ _)) | exact RenV.grow (f := icv) (fun _ => ⟨.val _, trivial⟩) rfl)⟩, ⟨trivial, (by first | exact .ptr rfl | exact .map rfl | exact .vec rfl | exact .same rfl (by first | exact .val _ | exact .ptr (Nat.le_of_ble_eq_true rfl) | exact .map (Nat.le_of_ble_eq_true rfl) | exact (by first | exact old_bkts _ _ _ | exact old_ints _ _ _)) | exact RenV.grow (f := icv) (fun _ => ⟨.val _, trivial⟩) rfl)⟩, ⟨trivial, (by first | exact .ptr rfl | exact .map rfl | exact .vec rfl | exact .same rfl (by first | exact .val _ | exact .ptr (Nat.le_of_ble_eq_true rfl) | exact .map (Nat.le_of_ble_eq_true rfl) | exact (by first | exact old_bkts _ _ _ | exact old_ints _ _ _)) | exact RenV.grow (f := icv) (fun _ => ⟨.val _, trivial⟩) rfl)⟩, ⟨trivial, (by first | exact .ptr rfl | exact .map rfl | exact .vec rfl | exact .same rfl (by first | exact .val _ | exact .ptr (Nat.le_of_ble_eq_true rfl) | exact .map (Nat.le_of_ble_eq_true rfl) | exact (by first | exact old_bkts _ _ _ | exact old_ints _ _ _)) | exact RenV.grow (f := icv) (fun _ => ⟨.val _, trivial⟩) rfl)⟩, ⟨trivial, (by first | exact .ptr rfl | exact .map rfl | exact .vec rfl | exact .same rfl (by first | exact .val _ | exact .ptr (Nat.le_of_ble_eq_true rfl) | exact .map (Nat.le_of_ble_eq_true rfl) | exact (by first | exact old_bkts _ _ _ | exact old_ints _ _ _)) | exact RenV.grow (f := icv) (fun _ => ⟨.val _, trivial⟩) rfl)⟩, ⟨trivial, (by first | exact .ptr rfl | exact .map rfl | exact .vec rfl | exact .same rfl (by first | exact .val _ | exact .ptr (Nat.le_of_ble_eq_true rfl) | exact .map (Nat.le_of_ble_eq_true rfl) | exact (by first | exact old_bkts _ _ _ | exact old_ints _ _ _)) | exact RenV.grow (f := icv) (fun _ => ⟨.val _, trivial⟩) rfl)⟩, trivial⟩, (by repeat' (first | exact trivial | exact .inl rfl | exact .inr ⟨_, rfl, .same rfl (old_gobj _ _)⟩ | exact .inr ⟨_, rfl, .same (gobj_snoc _ _ _) (old_gobj _ _)⟩ | exact .inr ⟨_, rfl, .same rfl (by repeat' (first | exact trivial | exact .val _ | exact .ptr (Nat.le_of_ble_eq_true rfl) | exact .map (Nat.le_of_ble_eq_true rfl) | exact (by first | exact old_bkts _ _ _ | exact old_ints _ _ _) | refine old_box ?_ | refine ⟨?_, ?_⟩))⟩ | exact .inr ⟨_, rfl, .box (by repeat' (first | exact trivial | exact .same rfl (by first | exact .val _ | exact .ptr (Nat.le_of_ble_eq_true rfl) | exact .map (Nat.le_of_ble_eq_true rfl) | exact (by first | exact old_bkts _ _ _ | exact old_ints _ _ _)) | exact .ptr rfl | exact .map rfl | exact .vec rfl | exact RenV.grow (f := icv) (fun _ => ⟨.val _, trivial⟩) rfl | refine ⟨?_, ?_⟩))⟩ | refine ⟨?_, ?_⟩))⟩
    · intro x hx
      subst hx
      have hk1 := hN.k1
      have hr1 := hN.rv
      have hS := pb_yes hI'.sameP
      refine cw_seq ?_
      refine cw_region ?_
      refine co_y rfl rfl (y_move rfl trivial (by conv => lhs; whnf)) ?_
      refine co_d rfl rfl (d_callv rfl Tryd.call34 ⟨trivial, rfl, rfl, trivial⟩ (tape_chance l nn (mk1 l s) _ 2 rfl (by omega) hl 2 3 (by omega)) rfl ?_)
      intro _ _
      refine co_y rfl rfl (y_assign rfl trivial (by conv => lhs; whnf)) ?_
      refine co_nil ?_
      refine cw_seq ?_
      refine cw_region ?_
      refine co_y rfl rfl (y_load rfl trivial rfl Tryd.isAgg26 Tryd.sizeOf26 rfl (Nat.le_of_ble_eq_true rfl)) ?_
      refine co_y rfl rfl (y_move rfl trivial (by conv => lhs; whnf)) ?_
      refine co_y rfl rfl (y_move rfl trivial (by conv => lhs; whnf)) ?_
      refine co_y rfl rfl (y_callf rfl Tryd.call20 ⟨trivial, trivial, trivial, trivial⟩ (hi_Add_s s.h (chk_fits hI.chk) (mrev l s) (mfail l s) _) rfl) ?_
      refine co_y rfl rfl (y_move rfl trivial (by conv => lhs; whnf)) ?_
      refine co_y rfl rfl (y_extract rfl trivial rfl rfl) ?_
      refine co_y rfl rfl (y_extract rfl trivial rfl rfl) ?_
      refine co_d rfl rfl (d_store rfl trivial trivial rfl (by conv => lhs; whnf) Tryd.sizeOf26 (.inr ⟨_, rfl⟩) rfl rfl (Nat.le_of_ble_eq_true rfl) ?_)
      refine co_y rfl rfl (y_assign rfl trivial (by conv => lhs; whnf)) ?_
      refine co_nil ?_
      refine cw_seq ?_
      refine cw_region ?_
      refine co_y rfl rfl (y_load rfl trivial rfl Tryd.isAgg26 Tryd.sizeOf26 rfl (Nat.le_of_ble_eq_true rfl)) ?_
      refine co_y rfl rfl (y_move rfl trivial (by conv => lhs; whnf)) ?_
      refine co_y rfl rfl (y_move rfl trivial (by conv => lhs; whnf)) ?_
      refine co_y rfl rfl (y_callf rfl Tryd.call21 ⟨trivial, trivial, trivial, trivial⟩ (re_Add_s s.w hI.wfits (mrev l s) (mfail l s) _) rfl) ?_
      refine co_y rfl rfl (y_move rfl trivial (by conv => lhs; whnf)) ?_
      refine co_y rfl rfl (y_extract rfl trivial rfl rfl) ?_
      refine co_y rfl rfl (y_extract rfl trivial rfl rfl) ?_
      refine co_d rfl rfl (d_store rfl trivial trivial rfl (by conv => lhs; whnf) Tryd.sizeOf26 (.inr ⟨_, rfl⟩) rfl rfl (Nat.le_of_ble_eq_true rfl) ?_)
      refine co_y rfl rfl (y_assign rfl trivial (by conv => lhs; whnf)) ?_
      refine co_nil ?_
      refine cw_seq ?_
      refine cw_seq ?_
      refine cw_region ?_
      refine co_y rfl rfl (y_move rfl trivial (by conv => lhs; whnf)) ?_
      refine co_nil ?_
      refine cw_cond trivial rfl (fun h3 => ?_) (fun h3 => ?_)
      · have hft : mfail l s = true := h3
        refine cw_region ?_
        refine co_y rfl rfl (y_move rfl trivial (by conv => lhs; whnf)) ?_
        refine co_y rfl rfl (y_move rfl trivial (by conv => lhs; whnf)) ?_
        refine co_y rfl rfl (y_lit [icv (mrev l s)] rfl ⟨trivial, trivial⟩ Tryd.runUnderlying34 Tryd.sizeOf3 Tryd.zeroValue3 rfl rfl rfl rfl rfl rfl rfl rfl rfl) ?_
        refine co_d rfl rfl (d_appu rfl trivial trivial rfl (by simp) (src_list rfl (by first | exact rows_len (by intro a; rfl) _ | (intro r hr; simp at hr; subst hr; rfl) | (intro r hr; exact rows_len (by intro a; rfl) _ r (List.mem_of_mem_take (List.mem_of_mem_drop hr))) | (intro r hr; simp at hr; obtain ⟨a, _, rfl⟩ := hr; rfl))) Tryd.runUnderlying34 Tryd.sizeOf3 Tryd.typeInfo3 Tryd.zeroValue3 rfl (.inr rfl) (by first | exact rows_len (by intro a; rfl) _ | assumption | (intro r hr; simp at hr; obtain ⟨a, _, rfl⟩ := hr; rfl)) (by have hb : Tryd.t3.bytes = 8 := rfl; rw [hb]; first | omega | (simp; omega)) (by first | omega | (simp; omega) | simp) ((s.out ++ [mrev l s]).map icv) (s.out ++ [mrev l s]).length (by simp) (by simp) ?_)
        refine co_y rfl rfl (y_assign rfl trivial (by conv => lhs; whnf)) ?_
        refine co_nil ?_
        refine cw_seq ?_
        refine cw_region ?_
        refine co_y rfl rfl (y_move rfl trivial (by conv => lhs; whnf)) ?_
        refine co_y rfl rfl (y_move rfl trivial (by conv => lhs; whnf)) ?_
        refine co_y rfl rfl (y_int rfl trivial trivial rfl rfl rfl) ?_
        refine co_y rfl rfl (y_move rfl trivial (by conv => lhs; whnf)) ?_
        refine co_g rfl rfl trivial rfl rfl (fun hg => y_load rfl trivial rfl Tryd.isAgg26 Tryd.sizeOf26 rfl (Nat.le_of_ble_eq_true rfl)) ?_
        refine co_g rfl rfl trivial rfl rfl (fun hg => y_load rfl trivial rfl Tryd.isAgg26 Tryd.sizeOf26 rfl (Nat.le_of_ble_eq_true rfl)) ?_
        refine co_g rfl rfl trivial rfl rfl (fun hg => y_callf rfl Tryd.call14 ⟨hg, hg, trivial⟩ (re_Same_s (mstep l s).h (mstep l s).w (by have := (chk_fits hI'.chk).len; unfold maxLen; omega) _) rfl) ?_
        refine co_g rfl rfl trivial rfl rfl (fun hg => y_not rfl hg rfl) ?_
        refine co_y rfl rfl (y_pick_or rfl trivial rfl (fun hp => hp) (fun _ => rfl)) ?_
        refine co_nil ?_
        refine cw_cond trivial rfl (fun h4 => ?_) (fun h4 => ?_)
        · exfalso
          rw [hN.e1, hN.e2, hS] at h4
          simp at h4
        · skip
          refine cw_skip ?_
          refine cw_region ?_
          refine co_y rfl rfl (y_move rfl trivial (by conv => lhs; whnf)) ?_
          refine co_y rfl rfl (y_sub rfl trivial rfl rfl rfl (by omega) (by omega)) ?_
          refine co_y rfl rfl (y_assign rfl trivial (by conv => lhs; whnf)) ?_
          refine co_nil ?_
          exact ⟨(⟨(addS (pb (ChkP s.h)) s.h (mrev l s) (mfail l s) true).1, (addS (pb (RChkP s.w)) s.w (mrev l s) (mfail l s) (mfail l s || gnn s.w.bs.length)).1, s.out ++ [mrev l s], mrev l s, mk1 l s + 1⟩, n - 1), [0, 1, 2, 3, 4, 6], ⟨by show n - 1 < n; omega, i + 1, by rw [mstep, if_pos hft] at hI'; exact hI', by show i + 1 + (n - 1) ≤ _; omega, by rw [← hrun, show n = n - 1 + 1 by omega, mrun, mstep, if_pos hft]; rfl⟩, ⟨rfl, rfl⟩, ⟨⟨trivial, (by first | exact .ptr rfl | exact .map rfl | exact .vec rfl | exact .same rfl (by first | exact .val _ | exact .ptr (Nat.le_of_ble_eq_true rfl) | exact .map (Nat.le_of_ble_eq_true rfl) | exact (by first | exact old_bkts _ _ _ | exact old_ints _ _ _)) | exact RenV.grow (f := icv) (fun _ => ⟨.val _, trivial⟩) rfl)⟩, ⟨trivial, (by first | exact .ptr rfl | exact .map rfl | exact .vec rfl | exact .same rfl (by first | exact .val _ | exact .ptr (Nat.le_of_ble_eq_true rfl) | exact .map (Nat.le_of_ble_eq_true rfl) | exact (by first | exact old_bkts _ _ _ | exact old_ints _ _ _)) | exact RenV.grow (f := icv) (fun _ => ⟨.val _, trivial⟩) rfl)⟩, ⟨trivial, (by first | exact .ptr rfl | exact .map rfl | exact .vec rfl | exact .same rfl (by first | exact .val _ | exact .ptr (Nat.le_of_ble_eq_true rfl) | exact .map (Nat.le_of_ble_eq_true rfl) | exact (by first | exact old_bkts _ _ _ | exact old_ints _ _ _)) | exact RenV.grow (f := icv) (fun _ => ⟨.val _, trivial⟩) rfl)⟩, ⟨trivial, (by first | exact .ptr rfl | exact .map rfl | exact .vec rfl | exact .same rfl (by first | exact .val _ | exact .ptr (Nat.le_of_ble_eq_true rfl) | exact .map (Nat.le_of_ble_eq_true rfl) | exact (by first | exact old_bkts _ _ _ | exact old_ints _ _ _)) | exact RenV.grow (f := icv) (fun _ => ⟨.val _, trivial⟩) rfl)⟩, ⟨trivial, (by first | exact .ptr rfl | exact .map rfl | exact .vec rfl | exact .same (congrArg (fun x => CV.val (.int .i64 x)) hN.e1) (by first | exact .val _ | exact .ptr (Nat.le_of_ble_eq_true rfl) | exact .map (Nat.le_of_ble_eq_true rfl) | exact (by first | exact old_bkts _ _ _ | exact old_ints _ _ _)) | exact RenV.grow (f := icv) (fun _ => ⟨.val _, trivial⟩) rfl)⟩, ⟨trivial, (by first | exact .ptr rfl | exact .map rfl | exact .vec rfl | exact .same rfl (by first | exact .val _ | exact .ptr (Nat.le_of_ble_eq_true rfl) | exact .map (Nat.le_of_ble_eq_true rfl) | exact (by first | exact old_bkts _ _ _ | exact old_ints _ _ _)) | exact RenV.grow (f := icv) (fun _ => ⟨.val _, trivial⟩) rfl)⟩, ⟨trivial, (by first | exact .ptr rfl | exact .map rfl | exact .vec rfl | exact .same (congrArg (fun x => CV.val (.int .i64 x)) hN.e2) (by first | exact .val _ | exact .ptr (Nat.le_of_ble_eq_true rfl) | exact .map (Nat.le_of_ble_eq_true rfl) | exact (by first | exact old_bkts _ _ _ | exact old_ints _ _ _)) | exact RenV.grow (f := icv) (fun _ => ⟨.val _, trivial⟩) rfl)⟩, ⟨trivial, (by first | exact .ptr rfl | exact .map rfl | exact .vec rfl | exact .same rfl (by first | exact .val _ | exact .ptr (Nat.le_of_ble_eq_true rfl) | exact .map (Nat.le_of_ble_eq_true rfl) | exact (by first | exact old_bkts _ _ _ | exact old_ints _ _ _)) | exact RenV.grow (f := icv) (fun _ => ⟨.val _, trivial⟩) rfl)⟩, ⟨trivial, (by first | exact .ptr rfl | exact .map rfl | exact .vec rfl | exact .same rfl (by first | exact .val _ | exact .ptr (Nat.le_of_ble_eq_true rfl) | exact .map (Nat.le_of_ble_eq_true rfl) | exact (by first | exact old_bkts _ _ _ | exact old_ints _ _ _)) | exact RenV.grow (f := icv) (fun _ => ⟨.val _, trivial⟩) rfl)⟩, ⟨trivial, (by first | exact .ptr rfl | exact .map rfl | exact .vec rfl | exact .same (congrArg (fun x => CV.val (.int .i64 x)) (by show (n : Int) - 1 = ((n - 1 : Nat) : Int); omega)) (by first | exact .val _ | exact .ptr (Nat.le_of_ble_eq_true rfl) | exact .map (Nat.le_of_ble_eq_true rfl) | exact (by first | exact old_bkts _ _ _ | exact old_ints _ _ _)) | exact RenV.grow (f := icv) (fun _ => ⟨.val _, trivial⟩) rfl)⟩, trivial⟩, (by repeat' (first | exact trivial | exact .inl rfl | exact .inr ⟨_, rfl, .same rfl (old_gobj _ _)⟩ | exact .inr ⟨_, rfl, .same (gobj_snoc _ _ _) (old_gobj _ _)⟩ | exact .inr ⟨_, rfl, .same rfl (by repeat' (first | exact trivial | exact .val _ | exact .ptr (Nat.le_of_ble_eq_true rfl) | exact .map (Nat.le_of_ble_eq_true rfl) | exact (by first | exact old_bkts _ _ _ | exact old_ints _ _ _) | refine old_box ?_ | refine ⟨?_, ?_⟩))⟩ | exact .inr ⟨_, rfl, .box (by repeat' (first | exact trivial | exact .same rfl (by first | exact .val _ | exact .ptr (Nat.le_of_ble_eq_true rfl) | exact .map (Nat.le_of_ble_eq_true rfl) | exact (by first | exact old_bkts _ _ _ | exact old_ints _ _ _)) | exact .ptr rfl | exact .map rfl | exact .vec rfl | exact RenV.grow (f := icv) (fun _ => ⟨.val _, trivial⟩) rfl | refine ⟨?_, ?_⟩))⟩ | refine ⟨?_, ?_⟩))⟩
      · have hft : mfail l s = false := h3
        refine cw_skip ?_
        refine cw_seq ?_
        refine cw_region ?_
        refine co_y rfl rfl (y_move rfl trivial (by conv => lhs; whnf)) ?_
        refine co_y rfl rfl (y_move rfl trivial (by conv => lhs; whnf)) ?_
        refine co_y rfl rfl (y_int rfl trivial trivial rfl rfl rfl) ?_
        refine co_y rfl rfl (y_move rfl trivial (by conv => lhs; whnf)) ?_
        refine co_g rfl rfl trivial rfl rfl (fun hg => y_load rfl trivial rfl Tryd.isAgg26 Tryd.sizeOf26 rfl (Nat.le_of_ble_eq_true rfl)) ?_
        refine co_g rfl rfl trivial rfl rfl (fun hg => y_load rfl trivial rfl Tryd.isAgg26 Tryd.sizeOf26 rfl (Nat.le_of_ble_eq_true rfl)) ?_
        refine co_g rfl rfl trivial rfl rfl (fun hg => y_callf rfl Tryd.call14 ⟨hg, hg, trivial⟩ (re_Same_s (mstep l s).h (mstep l s).w (by have := (chk_fits hI'.chk).len; unfold maxLen; omega) _) rfl) ?_
        refine co_g rfl rfl trivial rfl rfl (fun hg => y_not rfl hg rfl) ?_
        refine co_y rfl rfl (y_pick_or rfl trivial rfl (fun hp => hp) (fun _ => rfl)) ?_
        refine co_nil ?_
        refine cw_cond trivial rfl (fun h5 => ?_) (fun h5 => ?_)
        · exfalso
          rw [hN.e1, hN.e2, hS] at h5
          simp at h5
        · skip
          refine cw_skip ?_
          refine cw_region ?_
          refine co_y rfl rfl (y_move rfl trivial (by conv => lhs; whnf)) ?_
          refine co_y rfl rfl (y_sub rfl trivial rfl rfl rfl (by omega) (by omega)) ?_
          refine co_y rfl rfl (y_assign rfl trivial (by conv => lhs; whnf)) ?_
          refine co_nil ?_
          exact ⟨(⟨(addS (pb (ChkP s.h)) s.h (mrev l s) (mfail l s) true).1, (addS (pb (RChkP s.w)) s.w (mrev l s) (mfail l s) (mfail l s || gnn s.w.bs.length)).1, s.out, mrev l s, mk1 l s + 1⟩, n - 1), [0, 1, 2, 3, 4, 5], ⟨by show n - 1 < n; omega, i + 1, by rw [mstep, if_neg (by simp [hft])] at hI'; exact hI', by show i + 1 + (n - 1) ≤ _; omega, by rw [← hrun, show n = n - 1 + 1 by omega, mrun, mstep, if_neg (by simp [hft])]; rfl⟩, ⟨rfl, rfl⟩, ⟨⟨trivial, (by first | exact .ptr rfl | exact .map rfl | exact .vec rfl | exact .same rfl (by first | exact .val _ | exact .ptr (Nat.le_of_ble_eq_true rfl) | exact .map (Nat.le_of_ble_eq_true rfl) | exact (by first | exact old_bkts _ _ _ | exact old_ints _ _ _)) | exact RenV.grow (f := icv) (fun _ => ⟨.val _, trivial⟩) rfl)⟩, ⟨trivial, (by first | exact .ptr rfl | exact .map rfl | exact .vec rfl | exact .same rfl (by first | exact .val _ | exact .ptr (Nat.le_of_ble_eq_true rfl) | exact .map (Nat.le_of_ble_eq_true rfl) | exact (by first | exact old_bkts _ _ _ | exact old_ints _ _ _)) | exact RenV.grow (f := icv) (fun _ => ⟨.val _, trivial⟩) rfl)⟩, ⟨trivial, (by first | exact .ptr rfl | exact .map rfl | exact .vec rfl | exact .same rfl (by first | exact .val _ | exact .ptr (Nat.le_of_ble_eq_true rfl) | exact .map (Nat.le_of_ble_eq_true rfl) | exact (by first | exact old_bkts _ _ _ | exact old_ints _ _ _)) | exact RenV.grow (f := icv) (fun _ => ⟨.val _, trivial⟩) rfl)⟩, ⟨trivial, (by first | exact .ptr rfl | exact .map rfl | exact .vec rfl | exact .same rfl (by first | exact .val _ | exact .ptr (Nat.le_of_ble_eq_true rfl) | exact .map (Nat.le_of_ble_eq_true rfl) | exact (by first | exact old_bkts _ _ _ | exact old_ints _ _ _)) | exact RenV.grow (f := icv) (fun _ => ⟨.val _, trivial⟩) rfl)⟩, ⟨trivial, (by first | exact .ptr rfl | exact .map rfl | exact .vec rfl | exact .same (congrArg (fun x => CV.val (.int .i64 x)) hN.e1) (by first | exact .val _ | exact .ptr (Nat.le_of_ble_eq_true rfl) | exact .map (Nat.le_of_ble_eq_true rfl) | exact (by first | exact old_bkts _ _ _ | exact old_ints _ _ _)) | exact RenV.grow (f := icv) (fun _ => ⟨.val _, trivial⟩) rfl)⟩, ⟨trivial, (by first | exact .ptr rfl | exact .map rfl | exact .vec rfl | exact .same rfl (by first | exact .val _ | exact .ptr (Nat.le_of_ble_eq_true rfl) | exact .map (Nat.le_of_ble_eq_true rfl) | exact (by first | exact old_bkts _ _ _ | exact old_ints _ _ _)) | exact RenV.grow (f := icv) (fun _ => ⟨.val _, trivial⟩) rfl)⟩, ⟨trivial, (by first | exact .ptr rfl | exact .map rfl | exact .vec rfl | exact .same (congrArg (fun x => CV.val (.int .i64 x)) hN.e2) (by first | exact .val _ | exact .ptr (Nat.le_of_ble_eq_true rfl) | exact .map (Nat.le_of_ble_eq_true rfl) | exact (by first | exact old_bkts _ _ _ | exact old_ints _ _ _)) | exact RenV.grow (f := icv) (fun _ => ⟨.val _, trivial⟩) rfl)⟩, ⟨trivial, (by first | exact .ptr rfl | exact .map rfl | exact .vec rfl | exact .same rfl (by first | exact .val _ | exact .ptr (Nat.le_of_ble_eq_true rfl) | exact .map (Nat.le_of_ble_eq_true rfl) | exact (by first | exact old_bkts _ _ _ | exact old_ints _ _ _)) | exact RenV.grow (f := icv) (fun _ => ⟨.val _, trivial⟩) rfl)⟩, ⟨trivial, (by first | exact .ptr rfl | exact .map rfl | exact .vec rfl | exact .same rfl (by first | exact .val _ | exact .ptr (Nat.le_of_ble_eq_true rfl) | exact .map (Nat.le_of_ble_eq_true rfl) | exact (by first | exact old_bkts _ _ _ | exact old_ints _ _ _)) | exact RenV.grow (f := icv) (fun _ => ⟨.val _, trivial⟩) rfl)⟩, ⟨trivial, (by first | exact .ptr rfl | exact .map rfl | exact .vec rfl | exact .same (congrArg (fun x => CV.val (.int .i64 x)) (by show (n : Int) - 1 = ((n - 1 : Nat) : Int); omega)) (by first | exact .val _ | exact .ptr (Nat.le_of_ble_eq_true rfl) | exact .map (Nat.le_of_ble_eq_true rfl) | exact (by first | exact old_bkts _ _ _ | exact old_ints _ _ _)) | exact RenV.grow (f := icv) (fun _ => ⟨.val _, trivial⟩) rfl)⟩, trivial⟩, (by repeat' (first | exact trivial | exact .inl rfl | exact .inr ⟨_, rfl, .same rfl (old_gobj _ _)⟩ | exact .inr ⟨_, rfl, .same (gobj_snoc _ _ _) (old_gobj _ _)⟩ | exact .inr ⟨_, rfl, .same rfl (by repeat' (first | exact trivial | exact .val _ | exact .ptr (Nat.le_of_ble_eq_true rfl) | exact .map (Nat.le_of_ble_eq_true rfl) | exact (by first | exact old_bkts _ _ _ | exact old_ints _ _ _) | refine old_box ?_ | refine ⟨?_, ?_⟩))⟩ | exact .inr ⟨_, rfl, .box (by repeat' (first | exact trivial | exact .same rfl (by first | exact .val _ | exact .ptr (Nat.le_of_ble_eq_true rfl) | exact .map (Nat.le_of_ble_eq_true rfl) | exact (by first | exact old_bkts _ _ _ | exact old_ints _ _ _)) | exact .ptr rfl | exact .map rfl | exact .vec rfl | exact RenV.grow (f := icv) (fun _ => ⟨.val _, trivial⟩) rfl | refine ⟨?_, ?_⟩))⟩ | refine ⟨?_, ?_⟩))⟩
  · have hn0 : n = 0 := by simp at h1; omega
    subst hn0
    have hM : s = madeS l most := hrun
    refine cw_exit ?_
    refine cw_seq ?_
    refine cw_float [0, 1, 2, 3, 4, 5, 6, 7, 8, 9] 6 [0, 0, 0, 0, 0, 24, 1, 67, 199, 511] [[1, 2, 3, 4, 5], [2, 3, 4, 5], [3, 4, 5], []] (hd1l := [0, 1, 2, 3, 4, 5]) (tll := [(6, [1, 2, 3, 4, 5]), (7, [2, 3, 4, 5]), (8, [3, 4, 5]), (9, [])]) (by kernel_rfl) (by kernel_rfl) rfl rfl rfl ?_
    refine chf rfl (hop_y rfl (y_load rfl trivial rfl Tryd.isAgg26 Tryd.sizeOf26 rfl (Nat.le_of_ble_eq_true rfl))) ?_
    refine chf rfl (hop_y rfl (y_load rfl trivial rfl Tryd.isAgg26 Tryd.sizeOf26 rfl (Nat.le_of_ble_eq_true rfl))) ?_
    refine chf rfl (hop_y rfl (y_move rfl trivial (by conv => lhs; whnf))) ?_
    refine chf rfl (hop_y rfl (y_move rfl trivial (by conv => lhs; whnf))) ?_
    refine chf rfl (hop_y rfl (y_move rfl trivial (by conv => lhs; whnf))) ?_
    refine chf rfl (hop_y rfl (y_int rfl trivial trivial rfl rfl rfl)) ?_
    refine chf_nil ?_
    refine ctl_d rfl rfl (d_store rfl trivial trivial rfl (by conv => lhs; whnf) Tryd.sizeOf26 (.inr ⟨_, rfl⟩) rfl rfl (Nat.le_of_ble_eq_true rfl) ?_)
    refine ⟨⟨(by exact hop_y rfl (y_load rfl trivial rfl Tryd.isAgg26 Tryd.sizeOf26 rfl (Nat.le_of_ble_eq_true rfl))), (by exact hop_y rfl (y_move rfl trivial (by conv => lhs; whnf))), (by exact hop_y rfl (y_move rfl trivial (by conv => lhs; whnf))), (by exact hop_y rfl (y_move rfl trivial (by conv => lhs; whnf))), (by exact hop_y rfl (y_int rfl trivial trivial rfl rfl rfl)), trivial⟩, ?_⟩
    refine ctl_d rfl rfl (d_store rfl trivial trivial rfl (by conv => lhs; whnf) Tryd.sizeOf26 (.inr ⟨_, rfl⟩) rfl rfl (Nat.le_of_ble_eq_true rfl) ?_)
    refine ⟨⟨(by exact hop_y rfl (y_move rfl trivial (by conv => lhs; whnf))), (by exact hop_y rfl (y_move rfl trivial (by conv => lhs; whnf))), (by exact hop_y rfl (y_move rfl trivial (by conv => lhs; whnf))), (by exact hop_y rfl (y_int rfl trivial trivial rfl rfl rfl)), trivial⟩, ?_⟩
    refine ctl_h rfl (hop_y rfl (y_assign rfl trivial (by conv => lhs; whnf))) ⟨⟨(by exact hop_y rfl (y_move rfl trivial (by conv => lhs; whnf))), (by exact hop_y rfl (y_move rfl trivial (by conv => lhs; whnf))), (by exact hop_y rfl (y_int rfl trivial trivial rfl rfl rfl)), trivial⟩, ?_⟩
    refine ctl_h rfl (hop_y rfl (y_assign rfl trivial (by conv => lhs; whnf))) ⟨trivial, ?_⟩
    refine ctl_nil ?_
    refine cw_ret ?_
    exact ⟨_, res_all (rs := [.cell 4 26, .cell 5 26, .tmp 6, .tmp 7]) (cs := [_, _, _, _]) rfl ⟨⟨trivial, _, _, _, rfl, rfl, .inr ⟨_, Tryd.isAgg26, Tryd.sizeOf26, Nat.le_of_ble_eq_true rfl, rfl⟩⟩, ⟨trivial, _, _, _, rfl, rfl, .inr ⟨_, Tryd.isAgg26, Tryd.sizeOf26, Nat.le_of_ble_eq_true rfl, rfl⟩⟩, ⟨trivial, (by conv => lhs; whnf)⟩, ⟨trivial, (by conv => lhs; whnf)⟩, trivial⟩ (Nat.ne_of_beq_eq_false rfl), _, _, rfl, rfl, (by rw [← hM]; exact .tups ⟨.old (pure_agg (by repeat' (first | exact .val _ | exact pure_bkts _ _ | exact pure_ints _ _ | exact trivial | refine pure_agg ?_ | refine pure_tup ?_ | refine ⟨?_, ?_⟩))).old, .old (pure_agg (by repeat' (first | exact .val _ | exact pure_bkts _ _ | exact pure_ints _ _ | exact trivial | refine pure_agg ?_ | refine pure_tup ?_ | refine ⟨?_, ?_⟩))).old, .tok (fun r hr c hc => (rows_pure (f := icv) (fun _ => Pures.all ⟨.val _, trivial⟩) _) r hr c hc), .old (.val _), trivial⟩)⟩

theorem la_made_s (l : List Int) (nn : Bool) (hl : l.length ≤ maxLen) (most : Int) (hm : 2 ≤ most ∧ most ≤ 1000000) (σ : List CObj) : CCalls CC 17 [.list (l.map icv) nn none, (.val (.int .i64 (most)))] σ fun r σ' => r = .ret (.tup [.agg (madeS l most).h.cells, .agg (madeS l most).w.cells, (.list ((madeS l most).out.map icv) (gnn (madeS l most).out.length) none), (.val (.bool true))]) ∧ σ' = σ :=
  CCalls.anyw hCC (by repeat' (first | exact .val _ | exact pure_bkts _ _ | exact pure_ints _ _ | exact trivial | refine pure_agg ?_ | refine pure_tup ?_ | refine ⟨?_, ?_⟩)) (by repeat' (first | exact .val _ | exact pure_bkts _ _ | exact pure_ints _ _ | exact trivial | refine pure_agg ?_ | refine pure_tup ?_ | refine ⟨?_, ?_⟩)) (la_made l nn hl most hm) σ

end Go.Proofs.YtkhebelajdcjgaaDoor
