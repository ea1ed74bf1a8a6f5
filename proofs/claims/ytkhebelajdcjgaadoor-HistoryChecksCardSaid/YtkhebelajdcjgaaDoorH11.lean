import Derived.Test.YtkhebelajdcjgaaDoorH10
namespace Go.Proofs.YtkhebelajdcjgaaDoor
open Go Go.Cl

theorem addS_ok {h : Hist} {rev : Int} (h1 : 1 ≤ rev ∧ rev ≤ 1073741824) (h2 : h.last ≤ rev) (h3 : h.runs < 1073741824) (failed nn : Bool) : addS true h rev failed nn = ({ h with runs := h.runs + 1, last := rev, failed := h.failed + (if failed = true then 1 else 0), bs := if failed = true then carry h.k (h.bs.length + 1) (h.bs ++ [bk1 rev]) 1 else h.bs, nn := nn }, 0) := by
  rw [addS, if_neg (by decide), if_neg (by omega), if_neg (by omega), if_neg (by omega)]
theorem chk_fits {h : Hist} (hc : ChkP h) : Fits h := by
  have hk := hc.k
  have hl := siz_len hk hc.siz
  refine ⟨by omega, fun b hb => ?_⟩
  obtain ⟨i, hi⟩ := List.mem_iff_getElem?.1 hb
  have := hc.siz.1 i b hi
  obtain ⟨g1, g2, -⟩ := this
  omega
theorem chk_new {pkg test : ByteArray} {env k : Int} (hu : usable pkg test = true) (he : 0 ≤ env ∧ env ≤ 63) (hk : 2 ≤ k ∧ k ≤ 16) (nn : Bool) : ChkP ⟨pkg, test, env, k, 0, 0, 0, [], nn⟩ :=
  ⟨⟨hu, he, hk, ⟨Int.le_refl _, Int.le_refl _, by show (0 : Int) ≤ _; omega⟩, ⟨Int.le_refl _, by show (0 : Int) ≤ _; omega⟩, Iff.rfl⟩, trivial, fun i b hb => by simp at hb, fun j b hb => by simp at hb, rfl⟩
theorem newS_ok {pkg test : ByteArray} {env k : Int} (hu : usable pkg test = true) (he : 0 ≤ env ∧ env ≤ 63) (hk : 2 ≤ k ∧ k ≤ 16) : newS pkg test env k = (⟨pkg, test, env, k, 0, 0, 0, [], false⟩, 0) := by
  rw [newS, if_neg (by rw [hu]; decide), if_neg (by omega)]
theorem use_own : usable ⟨#[112]⟩ ⟨#[116]⟩ = true := by decide
/-- The histories of the example. -/
noncomputable def kn : Nat → Hist
  | 0 => ⟨⟨#[112]⟩, ⟨#[116]⟩, 3, 2, 0, 0, 0, [], false⟩
  | n + 1 => (addS true (kn n) ((n : Int) + 1) true true).1
theorem kn_chk : ∀ (n : Nat), n ≤ 3 → ChkP (kn n) ∧ (kn n).runs = n ∧ (kn n).last = n ∧ (kn n).k = 2 ∧ (kn n).env = 3
  | 0, _ => ⟨chk_new use_own (by omega) (by omega) _, rfl, rfl, rfl, rfl⟩
  | n + 1, hn => by
    obtain ⟨h1, h2, h3, h4, h5⟩ := kn_chk n (by omega)
    have e := addS_ok (h := kn n) (rev := (n : Int) + 1) (by omega) (by omega) (by omega) true true
    refine ⟨add_keeps h1 (by omega) (by omega) (by omega) true true, ?_⟩
    rw [kn, e]
    exact ⟨by simp [h2], by simp, h4, h5⟩
theorem kn_bs : (kn 3).bs = [⟨1, 2, 2⟩, ⟨3, 3, 1⟩] := by
  have e0 : kn 0 = ⟨⟨#[112]⟩, ⟨#[116]⟩, 3, 2, 0, 0, 0, [], false⟩ := rfl
  have e1 := addS_ok (h := kn 0) (rev := (0 : Nat) + 1) (by omega) (by rw [e0]; decide) (by rw [e0]; decide) true true
  have b1 : (kn 1).bs = [⟨1, 1, 1⟩] := by
    show (addS true (kn 0) ((0 : Nat) + 1) true true).1.bs = _
    rw [e1]; simp [e0, carry, num]
  have h1 := kn_chk 1 (by omega)
  have e2 := addS_ok (h := kn 1) (rev := (1 : Nat) + 1) (by omega) (by omega) (by omega) true true
  have b2 : (kn 2).bs = [⟨1, 1, 1⟩, ⟨2, 2, 1⟩] := by
    show (addS true (kn 1) ((1 : Nat) + 1) true true).1.bs = _
    rw [e2]; simp [b1, h1.2.2.2.1, carry, num]
  have h2 := kn_chk 2 (by omega)
  have e3 := addS_ok (h := kn 2) (rev := (2 : Nat) + 1) (by omega) (by omega) (by omega) true true
  show (addS true (kn 2) ((2 : Nat) + 1) true true).1.bs = _
  rw [e3]; simp [b2, h2.2.2.2.1, carry, num, mrg]
theorem pb_yes {P : Prop} (h : P) : pb P = true := pb_eq.2 h

set_option maxRecDepth 10000 in
theorem la_known  : CCalls CC 16 [] [] fun r σ' => r = .ret (.val (.bool (true))) ∧ σ' = [] := by
  refine ccalls_val (ccalls_of Tryd.func16 rfl rfl ?_)
  refine cw_seq ?_
  refine cw_region ?_
  refine co_y rfl rfl (y_assign rfl rfl (by conv => lhs; whnf)) ?_
  refine co_nil ?_
  refine cw_seq ?_
  refine cw_region ?_
  refine co_y rfl rfl (y_load_c rfl trivial rfl Tryd.isAgg23 Tryd.sizeOf23 (Nat.le_of_ble_eq_true rfl)) ?_
  refine co_y rfl rfl (y_callf rfl Tryd.call12 ⟨trivial, rfl, rfl, trivial⟩ (hi_New_s ⟨#[112]⟩ ⟨#[116]⟩ 3 2 _) rfl) ?_
  refine co_y rfl rfl (y_move rfl trivial (by conv => lhs; whnf)) ?_
  refine co_y rfl rfl (y_extract rfl trivial rfl rfl) ?_
  refine co_y rfl rfl (y_extract rfl trivial rfl rfl) ?_
  refine co_d rfl rfl (d_alloc rfl Tryd.zeroValue26 rfl (.inr ⟨_, rfl⟩) ?_)
  refine co_d rfl rfl (d_store rfl trivial trivial rfl (by conv => lhs; whnf) Tryd.sizeOf26 (.inr ⟨_, rfl⟩) rfl rfl (Nat.le_of_ble_eq_true rfl) ?_)
  refine co_y rfl rfl (y_assign rfl trivial (by conv => lhs; whnf)) ?_
  refine co_nil ?_
  refine cw_seq ?_
  refine cw_seq ?_
  refine cw_region ?_
  refine co_y rfl rfl (y_assign rfl rfl (by conv => lhs; whnf)) ?_
  refine co_nil ?_
  refine cw_block ?_
  refine cw_loopd hCC (α := Hist × Nat) (fun x => [(1, .ptr 0 0), (3, (.val (.int .i64 ((x.2 : Int) + 1))))]) (fun x => [.box x.1.cells]) (fun x => x.2 ≤ 3 ∧ x.1 = kn x.2) (fun x => 3 - x.2) (kn 0, 0) ⟨by simp, rfl⟩ ⟨⟨trivial, rfl⟩, ⟨trivial, rfl⟩, trivial⟩ (extra0 := []) rfl (fun _ _ => Nat.le_of_ble_eq_true rfl) (fun a ha => by repeat' (first | exact trivial | exact .val _ | exact .ptr (Nat.le_of_ble_eq_true rfl) | exact .map (Nat.le_of_ble_eq_true rfl) | exact old_bkts _ _ _ | refine old_box ?_ | refine ⟨?_, ?_⟩)) ?_
  intro ⟨h, n⟩ ⟨hn, hk⟩
  dsimp only at hn hk ⊢
  obtain ⟨hc, hr, hl, h2, he⟩ := kn_chk n hn
  rw [← hk] at hc hr hl h2 he
  have hf := chk_fits hc
  refine cw_seq ?_
  refine cw_seq ?_
  refine cw_region ?_
  refine co_y rfl rfl (y_move rfl trivial (by conv => lhs; whnf)) ?_
  refine co_y rfl rfl (y_int rfl trivial rfl rfl rfl rfl) ?_
  refine co_nil ?_
  refine cw_cond trivial rfl (fun h1 => ?_) (fun h1 => ?_)
  · have hn3 : n < 3 := by simp at h1; omega
    have e := addS_ok (h := h) (rev := (n : Int) + 1) (by omega) (by omega) (by omega) true true
    have hp : pb (ChkP h) = true := pb_yes hc
    refine cw_skip ?_
    refine cw_seq ?_
    refine cw_block ?_
    refine cw_seq ?_
    refine cw_region ?_
    refine co_y rfl rfl (y_load rfl trivial rfl Tryd.isAgg26 Tryd.sizeOf26 rfl (Nat.le_of_ble_eq_true rfl)) ?_
    refine co_y rfl rfl (y_move rfl trivial (by conv => lhs; whnf)) ?_
    refine co_y rfl rfl (y_callf rfl Tryd.call20 ⟨trivial, trivial, rfl, trivial⟩ (hi_Add_s h hf ((n : Int) + 1) true _) rfl) ?_
    refine co_y rfl rfl (y_move rfl trivial (by conv => lhs; whnf)) ?_
    refine co_y rfl rfl (y_extract rfl trivial rfl rfl) ?_
    refine co_y rfl rfl (y_extract rfl trivial rfl rfl) ?_
    refine co_d rfl rfl (d_store rfl trivial trivial rfl (by conv => lhs; whnf) Tryd.sizeOf26 (.inr ⟨_, rfl⟩) rfl rfl (Nat.le_of_ble_eq_true rfl) ?_)
    refine co_y rfl rfl (y_assign rfl trivial (by conv => lhs; whnf)) ?_
    refine co_nil ?_
    refine cw_seq ?_
    refine cw_region ?_
    refine co_y rfl rfl (y_move rfl trivial (by conv => lhs; whnf)) ?_
    refine co_y rfl rfl (y_int rfl trivial rfl rfl rfl rfl) ?_
    refine co_nil ?_
    refine cw_cond trivial rfl (fun h2 => ?_) (fun h2 => ?_)
    · exfalso
      rw [hp, e] at h2
      simp at h2
    · skip
      refine cw_skip ?_
      refine cw_region ?_
      refine co_y rfl rfl (y_move rfl trivial (by conv => lhs; whnf)) ?_
      refine co_y rfl rfl (y_add rfl trivial rfl rfl rfl (by omega) (by omega)) ?_
      refine co_y rfl rfl (y_assign rfl trivial (by conv => lhs; whnf)) ?_
      refine co_nil ?_
      exact ⟨((addS (pb (ChkP h)) h ((n : Int) + 1) true true).1, n + 1), _, ⟨by show 3 - (n + 1) < 3 - n; omega, hn3, by dsimp only; rw [hk, kn, pb_yes (kn_chk n hn).1]⟩, ⟨⟨trivial, rfl⟩, ⟨trivial, (congrArg (fun x => CV.val (.int .i64 x)) (by simp))⟩, trivial⟩, rfl⟩
  · have hn3 : n = 3 := by simp at h1; omega
    subst hn3
    have hb : h.bs = [⟨1, 2, 2⟩, ⟨3, 3, 1⟩] := by rw [hk]; exact kn_bs
    have hp : pb (ChkP h) = true := pb_yes hc
    have eb : betS (pb (ChkP h)) h 2 = (2, 2, 0) := by rw [hp]; simp [betS, hb, betLo, betHi, loC, hiC]
    have es : sizS (pb (ChkP h)) h = [2, 1] := by rw [hp]; simp [sizS, hb]
    refine cw_exit ?_
    refine cw_seq ?_
    refine cw_region ?_
    refine co_y rfl rfl (y_load rfl trivial rfl Tryd.isAgg26 Tryd.sizeOf26 rfl (Nat.le_of_ble_eq_true rfl)) ?_
    refine co_y rfl rfl (y_callf rfl Tryd.call22 ⟨trivial, rfl, trivial⟩ (hi_Between_s h hf 2 _) rfl) ?_
    refine co_y rfl rfl (y_move rfl trivial (by conv => lhs; whnf)) ?_
    refine co_y rfl rfl (y_extract rfl trivial rfl rfl) ?_
    refine co_y rfl rfl (y_extract rfl trivial rfl rfl) ?_
    refine co_y rfl rfl (y_extract rfl trivial rfl rfl) ?_
    refine co_y rfl rfl (y_assign rfl trivial (by conv => lhs; whnf)) ?_
    refine co_y rfl rfl (y_assign rfl trivial (by conv => lhs; whnf)) ?_
    refine co_y rfl rfl (y_assign rfl trivial (by conv => lhs; whnf)) ?_
    refine co_nil ?_
    refine cw_seq ?_
    refine cw_region ?_
    refine co_y rfl rfl (y_load rfl trivial rfl Tryd.isAgg26 Tryd.sizeOf26 rfl (Nat.le_of_ble_eq_true rfl)) ?_
    refine co_y rfl rfl (y_callf rfl Tryd.call23 ⟨trivial, trivial⟩ (hi_Sizes_s h hf _) rfl) ?_
    refine co_y rfl rfl (y_lit [icv 2, icv 1] rfl ⟨rfl, rfl, trivial⟩ Tryd.runUnderlying34 Tryd.sizeOf3 Tryd.zeroValue3 rfl rfl rfl rfl rfl rfl rfl rfl rfl) ?_
    refine co_y rfl rfl (y_callf rfl Tryd.call25 ⟨trivial, trivial, trivial⟩ (mk_SameInts_s (sizS (pb (ChkP h)) h) _ [2, 1] true (by rw [es]; unfold maxLen; simp) _) rfl) ?_
    refine co_y rfl rfl (y_move rfl trivial (by conv => lhs; whnf)) ?_
    refine co_g rfl rfl trivial rfl rfl (fun hg => y_move rfl trivial (by conv => lhs; whnf)) ?_
    refine co_g rfl rfl trivial rfl rfl (fun hg => y_int rfl hg rfl rfl rfl rfl) ?_
    refine co_y rfl rfl (y_pick_and rfl trivial rfl (fun hp => hp) (fun _ => rfl)) ?_
    refine co_y rfl rfl (y_move rfl trivial (by conv => lhs; whnf)) ?_
    refine co_g rfl rfl trivial rfl rfl (fun hg => y_move rfl trivial (by conv => lhs; whnf)) ?_
    refine co_g rfl rfl trivial rfl rfl (fun hg => y_int rfl hg rfl rfl rfl rfl) ?_
    refine co_y rfl rfl (y_pick_and rfl trivial rfl (fun hp => hp) (fun _ => rfl)) ?_
    refine co_y rfl rfl (y_move rfl trivial (by conv => lhs; whnf)) ?_
    refine co_g rfl rfl trivial rfl rfl (fun hg => y_move rfl trivial (by conv => lhs; whnf)) ?_
    refine co_g rfl rfl trivial rfl rfl (fun hg => y_int rfl hg rfl rfl rfl rfl) ?_
    refine co_y rfl rfl (y_pick_and rfl trivial rfl (fun hp => hp) (fun _ => rfl)) ?_
    refine co_y rfl rfl (y_move rfl trivial (by conv => lhs; whnf)) ?_
    refine co_g rfl rfl trivial rfl rfl (fun hg => y_field rfl trivial rfl Tryd.runUnderlying26 rfl Tryd.sizeOf3 (by decide)) ?_
    refine co_g rfl rfl trivial rfl rfl (fun hg => y_load1 rfl hg rfl Tryd.isAgg3 rfl rfl) ?_
    refine co_g rfl rfl trivial rfl rfl (fun hg => y_int rfl hg rfl rfl rfl rfl) ?_
    refine co_y rfl rfl (y_pick_and rfl trivial rfl (fun hp => hp) (fun _ => rfl)) ?_
    refine co_y rfl rfl (y_move rfl trivial (by conv => lhs; whnf)) ?_
    refine co_g rfl rfl trivial rfl rfl (fun hg => y_load rfl trivial rfl Tryd.isAgg26 Tryd.sizeOf26 rfl (Nat.le_of_ble_eq_true rfl)) ?_
    refine co_g rfl rfl trivial rfl rfl (fun hg => y_callf rfl Tryd.call15 ⟨hg, trivial⟩ (hi_Check_s h hf _) rfl) ?_
    refine co_y rfl rfl (y_pick_and rfl trivial rfl (fun hp => hp) (fun _ => rfl)) ?_
    refine co_y rfl rfl (y_assign rfl trivial (by conv => lhs; whnf)) ?_
    refine co_nil ?_
    refine cw_ret ?_
    exact ⟨_, res1 rfl trivial (by conv => lhs; whnf), _, _, rfl, rfl, cls_bool (by rw [eb, es, he, hp]; rfl)⟩

theorem la_known_s  (σ : List CObj) : CCalls CC 16 [] σ fun r σ' => r = .ret (.val (.bool (true))) ∧ σ' = σ :=
  CCalls.anyw hCC (by repeat' (first | exact .val _ | exact pure_bkts _ _ | exact pure_ints _ _ | exact trivial | refine pure_agg ?_ | refine pure_tup ?_ | refine ⟨?_, ?_⟩)) (by repeat' (first | exact .val _ | exact pure_bkts _ _ | exact pure_ints _ _ | exact trivial | refine pure_agg ?_ | refine pure_tup ?_ | refine ⟨?_, ?_⟩)) (la_known) σ

end Go.Proofs.YtkhebelajdcjgaaDoor
