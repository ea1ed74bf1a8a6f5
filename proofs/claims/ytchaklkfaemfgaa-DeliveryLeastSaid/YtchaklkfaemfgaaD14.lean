import Derived.Test.YtchaklkfaemfgaaD13
import Derived.Test.YtchaklkfaemfgaaK32
namespace Go.Proofs.Ytchaklkfaemfgaa
open Go Go.Cl

/-- The program's outbox and the reference's. -/
structure BoxI (o w : Bx) : Prop where
  wh : WhP o.pend
  eq : w.pend = o.pend
  n1 : o.nn = false → o.pend = []
  n2 : w.nn = false → w.pend = []
theorem WhP.nil : WhP [] := ⟨by simp, by simp, by simp⟩
theorem WhP.snoc {l : List Rp} {x : Rp} (h : WhP l) (hx : RightP x) (hn : x ∉ l) (h64 : l.length ≠ 64) : WhP (l ++ [x]) := by
  have h1 := h.len
  refine ⟨by simp; omega, fun y hy => ?_, ?_⟩
  · rcases List.mem_append.1 hy with hy | hy
    · exact h.right y hy
    · rw [List.mem_singleton.1 hy]; exact hx
  · rw [List.nodup_append]
    exact ⟨h.nodup, by simp, fun a ha b hb => by rw [List.mem_singleton.1 hb]; exact fun e => hn (e ▸ ha)⟩
theorem WhP.erase {l : List Rp} (h : WhP l) (x : Rp) : WhP (l.erase x) :=
  ⟨Nat.le_trans (List.length_erase_le ..) h.len, fun y hy => h.right y (List.mem_of_mem_erase hy), h.nodup.sublist List.erase_sublist⟩
theorem BoxI.refl {l : List Rp} (h : WhP l) : BoxI ⟨l, true⟩ ⟨l, true⟩ := ⟨h, rfl, fun e => (by cases e), fun e => (by cases e)⟩
theorem post_same {o w : Bx} {x : Rp} {x1 : Bx} {e : Int} (h : BoxI o w) (hs : postS (pb (WhP o.pend)) (pb (RightP x)) o x = (x1, e)) : postS (pb (WhP w.pend)) (pb (RightP x)) w x = (x1, e) ∧ x1.pend.length ≤ 64 ∧ (e = 0 → BoxI x1 x1) := by
  have h64 := h.wh.len
  refine ⟨by rw [← hs]; unfold postS; rw [h.eq], ?_⟩
  unfold postS at hs
  split at hs
  · injection hs with h1 h2; subst h1 h2
    exact ⟨by simp [zeroB], fun h => absurd h (by decide)⟩
  · rename_i hc
    split at hs
    · injection hs with h1 h2; subst h1 h2
      exact ⟨h64, fun _ => .refl h.wh⟩
    · rename_i hin
      split at hs
      · injection hs with h1 h2; subst h1 h2
        exact ⟨by simp [zeroB], fun h => absurd h (by decide)⟩
      · rename_i hl
        injection hs with h1 h2; subst h1 h2
        have hx : RightP x := pb_eq.1 (by simp at hc; exact hc.2)
        exact ⟨(h.wh.snoc hx hin hl).len, fun _ => .refl (h.wh.snoc hx hin hl)⟩
theorem gnn_nil {l : List Rp} : gnn l.length = false → l = [] := by
  cases l with
  | nil => exact fun _ => rfl
  | cons x l => exact fun h => by cases h
theorem ack_same {o w : Bx} {x : Rp} {x1 : Bx} {a : Bool} (h : BoxI o w) (hs : ackS (pb (WhP o.pend)) o x = (x1, a)) : ∃ y1, rackS (pb (WhP w.pend)) w x = (y1, a) ∧ BoxI x1 y1 := by
  unfold ackS at hs
  unfold rackS
  rw [h.eq]
  split at hs
  · rename_i hc
    injection hs with h1 h2; subst h1 h2
    rw [if_pos hc]
    exact ⟨_, rfl, h.wh.erase x, rfl, (fun e => by cases e), gnn_nil⟩
  · rename_i hc
    injection hs with h1 h2; subst h1 h2
    rw [if_neg hc]
    exact ⟨_, rfl, h⟩
theorem de_Post_r {b : Bx} {x : Rp} {b1 : Bx} {e : Int} (h : postS (pb (WhP b.pend)) (pb (RightP x)) b x = (b1, e)) (hnn : b.nn = false → b.pend = []) (hl : b.pend.length ≤ maxLen) (σ : List CObj) : CCalls CC 25 [.agg b.cells, .agg x.cells] σ fun r σ' => r = .ret (.tup [.agg b1.cells, (.val (.int .i64 e))]) ∧ σ' = σ := by
  have := de_Post_s b x hnn hl σ
  rw [h] at this
  exact this
theorem rd_Post_r {b : Bx} {x : Rp} {b1 : Bx} {e : Int} (h : postS (pb (WhP b.pend)) (pb (RightP x)) b x = (b1, e)) (hnn : b.nn = false → b.pend = []) (hl : b.pend.length ≤ maxLen) (σ : List CObj) : CCalls CC 26 [.agg b.cells, .agg x.cells] σ fun r σ' => r = .ret (.tup [.agg b1.cells, (.val (.int .i64 e))]) ∧ σ' = σ := by
  have := rd_Post_s b x hnn hl σ
  rw [h] at this
  exact this
theorem de_Ack_r {b : Bx} {x : Rp} {b1 : Bx} {a : Bool} (h : ackS (pb (WhP b.pend)) b x = (b1, a)) (hnn : b.nn = false → b.pend = []) (hl : b.pend.length ≤ 1000000000) (σ : List CObj) : CCalls CC 28 [.agg b.cells, .agg x.cells] σ fun r σ' => r = .ret (.tup [.agg b1.cells, (.val (.bool a))]) ∧ σ' = σ := by
  have := de_Ack_s b x hnn hl σ
  rw [h] at this
  exact this
theorem rd_Ack_r {b : Bx} {x : Rp} {b1 : Bx} {a : Bool} (h : rackS (pb (WhP b.pend)) b x = (b1, a)) (hl : b.pend.length ≤ 1000000000) (σ : List CObj) : CCalls CC 29 [.agg b.cells, .agg x.cells] σ fun r σ' => r = .ret (.tup [.agg b1.cells, (.val (.bool a))]) ∧ σ' = σ := by
  have := rd_Ack_s b x hl σ
  rw [h] at this
  exact this
theorem wh_max {l : List Rp} (h : WhP l) : l.length ≤ maxLen := by have := h.len; unfold maxLen; omega

set_option maxRecDepth 10000 in
set_option maxHeartbeats 1000000 in
theorem ld_DeliveryBoxes (l : List Int) (nn : Bool) (hl : l.length ≤ maxLen) : CCalls CC 6 [.list (l.map icv) nn none] [] fun r σ' => r = .ret (.val (.bool (true))) ∧ σ' = [] := by
  refine ccalls_val (ccalls_of Try.func6 rfl rfl ?_)
  refine cw_seq ?_
  refine cw_region ?_
  refine co_y rfl rfl (y_assign rfl rfl (by conv => lhs; whnf)) ?_
  refine co_nil ?_
  refine cw_seq ?_
  refine cw_region ?_
  refine co_y rfl rfl (y_move rfl trivial (by conv => lhs; whnf)) ?_
  refine co_y rfl rfl (y_build' #[(0, 1), (1, 1)] rfl ⟨trivial, trivial⟩ Try.runUnderlying41 Try.zeroValue41 rfl ⟨_, rfl⟩ (fun w => by kernel_rfl) rfl rfl) ?_
  refine co_d rfl rfl (d_box rfl trivial (by conv => lhs; whnf) (.inr ⟨_, rfl⟩) ?_)
  refine co_y rfl rfl (y_assign rfl trivial (by conv => lhs; whnf)) ?_
  refine co_nil ?_
  refine cw_seq ?_
  refine cw_region ?_
  refine co_d rfl rfl (d_alloc rfl Try.zeroValue46 rfl (.inr ⟨_, rfl⟩) ?_)
  refine co_d rfl rfl (d_alloc rfl Try.zeroValue46 rfl (.inr ⟨_, rfl⟩) ?_)
  refine co_nil ?_
  refine cw_seq ?_
  refine cw_seq ?_
  refine cw_region ?_
  refine co_y rfl rfl (y_move rfl trivial (by conv => lhs; whnf)) ?_
  refine co_d rfl rfl (d_callv rfl Try.call15 ⟨trivial, rfl, trivial⟩ (tape_next l nn 0 _ 0 rfl (by omega) hl 80 (by omega)) rfl ?_)
  intro _ _
  have hbm := fold_lt (v := tapeV l 0) (n := 80) (by omega)
  have hbm2 : 0 ≤ tapeN l 0 80 ∧ tapeN l 0 80 < 80 := hbm
  refine co_y rfl rfl (y_assign rfl trivial (by conv => lhs; whnf)) ?_
  refine co_nil ?_
  refine cw_block ?_
  refine cw_loopd hCC (α := Bx × Bx × Nat × Nat) (fun x => [(3, .ptr 0 0), (4, .ptr 1 0), (5, .ptr 2 0), (6, (.val (.int .i64 ((x.2.2.2 : Int)))))]) (fun x => [tapeC l nn (x.2.2.1), .box (x.1).cells, .box (x.2.1).cells]) (fun x => BoxI x.1 x.2.1 ∧ x.2.2.1 + 10 * x.2.2.2 ≤ 10000) (fun x => x.2.2.2) (zeroB, zeroB, 1, (tapeN l 0 80).toNat) ⟨⟨.nil, rfl, fun _ => rfl, fun _ => rfl⟩, by dsimp only; omega⟩ ⟨⟨trivial, rfl⟩, ⟨trivial, rfl⟩, ⟨trivial, rfl⟩, ⟨trivial, congrArg (fun z : Int => (CV.val (.int .i64 z))) (by show tapeN l 0 80 = ((tapeN l 0 80).toNat : Int); omega)⟩, trivial⟩ (extra0 := []) rfl (fun _ _ => Nat.le_of_ble_eq_true rfl) (fun a ha => by repeat' (first | exact trivial | exact .val _ | exact .ptr (Nat.le_of_ble_eq_true rfl) | exact .map (Nat.le_of_ble_eq_true rfl) | exact (by first | exact old_lts _ _ _ | exact old_rps _ _ _ | exact old_ints _ _ _) | refine old_box ?_ | refine ⟨?_, ?_⟩)) ?_
  intro ⟨o, w, k1, m⟩ ⟨hB, hk2⟩
  dsimp only at hB hk2 ⊢
  have hlen := hB.wh.len
  have hol := wh_max hB.wh
  have hwl : w.pend.length ≤ maxLen := by rw [hB.eq]; exact hol
  have hwl2 : w.pend.length ≤ 64 := by rw [hB.eq]; exact hlen
  refine cw_seq ?_
  refine cw_seq ?_
  refine cw_region ?_
  refine co_y rfl rfl (y_move rfl trivial (by conv => lhs; whnf)) ?_
  refine co_y rfl rfl (y_int rfl trivial rfl rfl rfl rfl) ?_
  refine co_nil ?_
  refine cw_cond trivial rfl (fun h1 => ?_) (fun h1 => ?_)
  · have hm0 : 0 < m := by simp at h1; omega
    refine cw_skip ?_
    refine cw_seq ?_
    refine cw_block ?_
    refine cw_seq ?_
    refine cw_region ?_
    refine co_y rfl rfl (y_move rfl trivial (by conv => lhs; whnf)) ?_
    refine co_d rfl rfl (d_callv rfl Try.call16 ⟨trivial, trivial⟩ (ld_odd l nn k1 (by omega) hl _ 0 rfl) rfl ?_)
    intro p hp
    refine co_d rfl rfl (d_alloc rfl Try.zeroValue30 rfl (.inr ⟨_, rfl⟩) ?_)
    refine co_d rfl rfl (d_store rfl trivial trivial rfl (by conv => lhs; whnf) Try.sizeOf30 (.inr ⟨_, rfl⟩) rfl rfl (Nat.le_of_ble_eq_true rfl) ?_)
    refine co_nil ?_
    refine cw_cutd hCC (α := Rp × Nat) (fun a => [(3, .ptr 0 0), (4, .ptr 1 0), (5, .ptr 2 0), (6, (.val (.int .i64 ((m : Int))))), (7, .ptr 3 0)]) (fun a => [tapeC l nn (a.2), .box (o).cells, .box (w).cells, .box (a.1).cells]) (fun a => a.2 ≤ k1 + 7) (fun _ _ => Nat.le_of_ble_eq_true rfl) (fun a ha => by repeat' (first | exact trivial | exact .val _ | exact .ptr (Nat.le_of_ble_eq_true rfl) | exact .map (Nat.le_of_ble_eq_true rfl) | exact (by first | exact old_lts _ _ _ | exact old_rps _ _ _ | exact old_ints _ _ _) | refine old_box ?_ | refine ⟨?_, ?_⟩)) ?_ ?_
    · -- up to the cut
      refine cw_seq ?_
      refine cw_region ?_
      refine co_y rfl rfl (y_field rfl trivial rfl Try.runUnderlying46 rfl Try.sizeOf44 (by decide)) ?_
      refine co_y rfl rfl (y_load1 rfl trivial rfl Try.isAgg44 rfl rfl) ?_
      refine co_y rfl rfl (y_len rfl trivial rfl Try.runUnderlying44 (by first | exact len_map _ _ | rfl) rfl) ?_
      refine co_y rfl rfl (y_int rfl trivial rfl rfl rfl rfl) ?_
      refine co_y rfl rfl (y_move rfl trivial (by conv => lhs; whnf)) ?_
      refine co_g rfl rfl trivial rfl rfl (fun hg => y_move rfl trivial (by conv => lhs; whnf)) ?_
      refine co_gd (.val (.bool false)) rfl rfl trivial rfl rfl (fun hg => d_callv rfl Try.call24 ⟨hg, rfl, rfl, trivial⟩ (tape_chance l nn p.2 _ 0 rfl (by omega) hl 1 3 (by omega)) rfl ?_) (fun hg => ?_)
      · -- under the guard
        intro _ _
        have hpos : 0 < (o.pend.length : Int) := by simp at hg; omega
        refine co_y rfl rfl (y_pick_and rfl trivial rfl (fun hp => hp) (fun _ => rfl)) ?_
        refine co_nil ?_
        refine cw_cond trivial rfl (fun h2 => ?_) (fun h2 => ?_)
        · skip
          refine cw_float [0, 1, 2, 3, 4, 5, 6, 7, 8, 9] 6 [0, 1, 0, 0, 8, 24, 60, 127, 255, 511] [[0, 1], [], [], []] (hd1l := [0, 1, 2, 3, 4, 5]) (tll := [(6, [0, 1]), (7, []), (8, []), (9, [])]) (by kernel_rfl) (by kernel_rfl) rfl rfl rfl ?_
          refine chf rfl (hop_y rfl (y_field rfl trivial rfl Try.runUnderlying46 rfl Try.sizeOf44 (by decide))) ?_
          refine chf rfl (hop_y rfl (y_load1 rfl trivial rfl Try.isAgg44 rfl rfl)) ?_
          refine chf rfl (hop_y rfl (y_move rfl trivial (by conv => lhs; whnf))) ?_
          refine chf rfl (hop_y rfl (y_field rfl trivial rfl Try.runUnderlying46 rfl Try.sizeOf44 (by decide))) ?_
          refine chf rfl (hop_y rfl (y_load1 rfl trivial rfl Try.isAgg44 rfl rfl)) ?_
          refine chf rfl (hop_y rfl (y_len rfl trivial rfl Try.runUnderlying44 (by first | exact len_map _ _ | rfl) rfl)) ?_
          refine chf_nil ?_
          refine ctl_d rfl rfl (d_callv rfl Try.call15 ⟨trivial, trivial, trivial⟩ (tape_next l nn (p.2 + 1) _ 0 rfl (by omega) hl (o.pend.length : Int) (by omega)) rfl ?_)
          intro _ _
          have hbn := fold_lt (v := tapeV l (p.2 + 1)) (n := (o.pend.length : Int)) (by omega)
          have hbn2 : 0 ≤ tapeN l (p.2 + 1) (o.pend.length : Int) ∧ tapeN l (p.2 + 1) (o.pend.length : Int) < o.pend.length := hbn
          obtain ⟨y, hy⟩ : ∃ y, o.pend[(tapeN l (p.2 + 1) (o.pend.length : Int)).toNat]? = some y := ⟨o.pend[(tapeN l (p.2 + 1) (o.pend.length : Int)).toNat]'(by omega), by simp⟩
          refine ⟨⟨(by exact hop_y rfl (y_field rfl trivial rfl Try.runUnderlying46 rfl Try.sizeOf44 (by decide))), (by exact hop_y rfl (y_load1 rfl trivial rfl Try.isAgg44 rfl rfl)), trivial⟩, ?_⟩
          refine ctl_h rfl (hop_y rfl (y_index rfl trivial trivial rfl rfl Try.runUnderlying44 Try.sizeOf30 (by omega) (rows_get hy) rfl)) ⟨trivial, ?_⟩
          refine ctl_h rfl (hop_y rfl (y_load_c rfl trivial rfl Try.isAgg30 Try.sizeOf30 (Nat.le_of_ble_eq_true rfl))) ⟨trivial, ?_⟩
          refine ctl_d rfl rfl (d_store rfl trivial trivial rfl (by conv => lhs; whnf) Try.sizeOf30 (.inr ⟨_, rfl⟩) rfl rfl (Nat.le_of_ble_eq_true rfl) ?_)
          refine ⟨trivial, ?_⟩
          refine ctl_nil ?_
          exact ⟨(y, p.2 + 1 + 1), _, (by dsimp only; omega), ⟨⟨trivial, rfl⟩, ⟨trivial, rfl⟩, ⟨trivial, rfl⟩, ⟨trivial, rfl⟩, ⟨trivial, rfl⟩, trivial⟩, rfl⟩
        · skip
          refine cw_skip ?_
          exact ⟨(p.1, p.2 + 1), _, (by dsimp only; omega), ⟨⟨trivial, rfl⟩, ⟨trivial, rfl⟩, ⟨trivial, rfl⟩, ⟨trivial, rfl⟩, ⟨trivial, rfl⟩, trivial⟩, rfl⟩
      · -- not under the guard
        refine co_y rfl rfl (y_pick_and rfl trivial rfl (fun hp => hp) (fun _ => rfl)) ?_
        refine co_nil ?_
        refine cw_cond trivial rfl (fun h3 => ?_) (fun h3 => ?_)
        · exfalso
          simp at h3
        · skip
          refine cw_skip ?_
          exact ⟨(p.1, p.2), _, (by dsimp only; omega), ⟨⟨trivial, rfl⟩, ⟨trivial, rfl⟩, ⟨trivial, rfl⟩, ⟨trivial, rfl⟩, ⟨trivial, rfl⟩, trivial⟩, rfl⟩
    · intro ⟨r, k2⟩ hk3
      dsimp only at hk3 ⊢
      refine cw_seq ?_
      refine cw_seq ?_
      refine cw_region ?_
      refine co_y rfl rfl (y_move rfl trivial (by conv => lhs; whnf)) ?_
      refine co_d rfl rfl (d_callv rfl Try.call24 ⟨trivial, rfl, rfl, trivial⟩ (tape_chance l nn k2 _ 0 rfl (by omega) hl 2 3 (by omega)) rfl ?_)
      intro _ _
      refine co_nil ?_
      refine cw_cond trivial rfl (fun h4 => ?_) (fun h4 => ?_)
      · obtain ⟨x1, e1, hs⟩ : ∃ x1 e1, postS (pb (WhP o.pend)) (pb (RightP r)) o r = (x1, e1) := ⟨_, _, rfl⟩
        obtain ⟨hs2, hs3, hs4⟩ := post_same hB hs
        refine cw_seq ?_
        refine cw_region ?_
        refine co_y rfl rfl (y_load rfl trivial rfl Try.isAgg46 Try.sizeOf46 rfl (Nat.le_of_ble_eq_true rfl)) ?_
        refine co_y rfl rfl (y_load rfl trivial rfl Try.isAgg30 Try.sizeOf30 rfl (Nat.le_of_ble_eq_true rfl)) ?_
        refine co_y rfl rfl (y_callf rfl Try.call25 ⟨trivial, trivial, trivial⟩ (de_Post_r hs hB.n1 hol _) rfl) ?_
        refine co_y rfl rfl (y_move rfl trivial (by conv => lhs; whnf)) ?_
        refine co_y rfl rfl (y_extract rfl trivial rfl rfl) ?_
        refine co_y rfl rfl (y_extract rfl trivial rfl rfl) ?_
        refine co_d rfl rfl (d_alloc rfl Try.zeroValue46 rfl (.inr ⟨_, rfl⟩) ?_)
        refine co_d rfl rfl (d_store rfl trivial trivial rfl (by conv => lhs; whnf) Try.sizeOf46 (.inr ⟨_, rfl⟩) rfl rfl (Nat.le_of_ble_eq_true rfl) ?_)
        refine co_y rfl rfl (y_assign rfl trivial (by conv => lhs; whnf)) ?_
        refine co_nil ?_
        refine cw_seq ?_
        refine cw_region ?_
        refine co_y rfl rfl (y_load rfl trivial rfl Try.isAgg46 Try.sizeOf46 rfl (Nat.le_of_ble_eq_true rfl)) ?_
        refine co_y rfl rfl (y_load rfl trivial rfl Try.isAgg30 Try.sizeOf30 rfl (Nat.le_of_ble_eq_true rfl)) ?_
        refine co_y rfl rfl (y_callf rfl Try.call26 ⟨trivial, trivial, trivial⟩ (rd_Post_r hs2 hB.n2 hwl _) rfl) ?_
        refine co_y rfl rfl (y_move rfl trivial (by conv => lhs; whnf)) ?_
        refine co_y rfl rfl (y_extract rfl trivial rfl rfl) ?_
        refine co_y rfl rfl (y_extract rfl trivial rfl rfl) ?_
        refine co_d rfl rfl (d_alloc rfl Try.zeroValue46 rfl (.inr ⟨_, rfl⟩) ?_)
        refine co_d rfl rfl (d_store rfl trivial trivial rfl (by conv => lhs; whnf) Try.sizeOf46 (.inr ⟨_, rfl⟩) rfl rfl (Nat.le_of_ble_eq_true rfl) ?_)
        refine co_y rfl rfl (y_assign rfl trivial (by conv => lhs; whnf)) ?_
        refine co_nil ?_
        refine cw_seq ?_
        refine cw_seq ?_
        refine cw_region ?_
        refine co_y rfl rfl (y_move rfl trivial (by conv => lhs; whnf)) ?_
        refine co_y rfl rfl (y_move rfl trivial (by conv => lhs; whnf)) ?_
        refine co_y rfl rfl (y_int rfl trivial trivial rfl rfl rfl) ?_
        refine co_y rfl rfl (y_move rfl trivial (by conv => lhs; whnf)) ?_
        refine co_g rfl rfl trivial rfl rfl (fun hg => y_load rfl trivial rfl Try.isAgg46 Try.sizeOf46 rfl (Nat.le_of_ble_eq_true rfl)) ?_
        refine co_g rfl rfl trivial rfl rfl (fun hg => y_load rfl trivial rfl Try.isAgg46 Try.sizeOf46 rfl (Nat.le_of_ble_eq_true rfl)) ?_
        refine co_g rfl rfl trivial rfl rfl (fun hg => y_callf rfl Try.call27 ⟨hg, hg, trivial⟩ (rd_SameBox_s x1 x1 (by unfold maxLen; omega) _) rfl) ?_
        refine co_g rfl rfl trivial rfl rfl (fun hg => y_not rfl hg rfl) ?_
        refine co_y rfl rfl (y_pick_or rfl trivial rfl (fun hp => hp) (fun _ => rfl)) ?_
        refine co_nil ?_
        refine cw_cond trivial rfl (fun h5 => ?_) (fun h5 => ?_)
        · exfalso
          simp at h5
        · skip
          refine cw_skip ?_
          refine cw_cutd hCC (α := Bx × Bx) (fun a => [(3, .ptr 0 0), (4, .ptr 1 0), (5, .ptr 2 0), (6, (.val (.int .i64 ((m : Int)))))]) (fun a => [tapeC l nn (k2 + 1), .box (a.1).cells, .box (a.2).cells, .box (r).cells, .box (x1).cells, .box (x1).cells]) (fun a => BoxI a.1 a.2) (fun _ _ => Nat.le_of_ble_eq_true rfl) (fun a ha => by repeat' (first | exact trivial | exact .val _ | exact .ptr (Nat.le_of_ble_eq_true rfl) | exact .map (Nat.le_of_ble_eq_true rfl) | exact (by first | exact old_lts _ _ _ | exact old_rps _ _ _ | exact old_ints _ _ _) | refine old_box ?_ | refine ⟨?_, ?_⟩)) ?_ ?_
          · -- up to the cut
            refine cw_seq ?_
            refine cw_region ?_
            refine co_y rfl rfl (y_move rfl trivial (by conv => lhs; whnf)) ?_
            refine co_y rfl rfl (y_int rfl trivial rfl rfl rfl rfl) ?_
            refine co_nil ?_
            refine cw_cond trivial rfl (fun h6 => ?_) (fun h6 => ?_)
            · have he : e1 = 0 := by simpa using h6
              refine cw_float [0, 1, 2, 3] 2 [0, 0, 1, 7] [[1], []] (hd1l := [0, 1]) (tll := [(2, [1]), (3, [])]) (by kernel_rfl) (by kernel_rfl) rfl rfl rfl ?_
              refine chf rfl (hop_y rfl (y_load rfl trivial rfl Try.isAgg46 Try.sizeOf46 rfl (Nat.le_of_ble_eq_true rfl))) ?_
              refine chf rfl (hop_y rfl (y_load rfl trivial rfl Try.isAgg46 Try.sizeOf46 rfl (Nat.le_of_ble_eq_true rfl))) ?_
              refine chf_nil ?_
              refine ctl_d rfl rfl (d_store rfl trivial trivial rfl (by conv => lhs; whnf) Try.sizeOf46 (.inr ⟨_, rfl⟩) rfl rfl (Nat.le_of_ble_eq_true rfl) ?_)
              refine ⟨⟨(by exact hop_y rfl (y_load rfl trivial rfl Try.isAgg46 Try.sizeOf46 rfl (Nat.le_of_ble_eq_true rfl))), trivial⟩, ?_⟩
              refine ctl_d rfl rfl (d_store rfl trivial trivial rfl (by conv => lhs; whnf) Try.sizeOf46 (.inr ⟨_, rfl⟩) rfl rfl (Nat.le_of_ble_eq_true rfl) ?_)
              refine ⟨trivial, ?_⟩
              refine ctl_nil ?_
              exact ⟨(x1, x1), _, (hs4 he), ⟨⟨trivial, rfl⟩, ⟨trivial, rfl⟩, ⟨trivial, rfl⟩, ⟨trivial, rfl⟩, trivial⟩, rfl⟩
            · skip
              refine cw_skip ?_
              exact ⟨(o, w), _, hB, ⟨⟨trivial, rfl⟩, ⟨trivial, rfl⟩, ⟨trivial, rfl⟩, ⟨trivial, rfl⟩, trivial⟩, rfl⟩
          · intro ⟨o1, w1⟩ hB1
            dsimp only at hB1 ⊢
            refine cw_exit ?_
            refine cw_region ?_
            refine co_y rfl rfl (y_move rfl trivial (by conv => lhs; whnf)) ?_
            refine co_y rfl rfl (y_sub rfl trivial rfl rfl rfl (by omega) (by omega)) ?_
            refine co_y rfl rfl (y_assign rfl trivial (by conv => lhs; whnf)) ?_
            refine co_nil ?_
            exact ⟨(o1, w1, k2 + 1, m - 1), _, ⟨by show m - 1 < m; omega, hB1, by show k2 + 1 + 10 * (m - 1) ≤ _; omega⟩, ⟨⟨trivial, rfl⟩, ⟨trivial, rfl⟩, ⟨trivial, rfl⟩, ⟨trivial, congrArg (fun z : Int => (CV.val (.int .i64 z))) (by show (m : Int) - 1 = ((m - 1 : Nat) : Int); omega)⟩, trivial⟩, rfl⟩
      · obtain ⟨x1, e1, hs⟩ : ∃ x1 e1, ackS (pb (WhP o.pend)) o r = (x1, e1) := ⟨_, _, rfl⟩
        obtain ⟨y1, hs2, hB1⟩ := ack_same hB hs
        refine cw_skip ?_
        refine cw_seq ?_
        refine cw_region ?_
        refine co_y rfl rfl (y_load rfl trivial rfl Try.isAgg46 Try.sizeOf46 rfl (Nat.le_of_ble_eq_true rfl)) ?_
        refine co_y rfl rfl (y_load rfl trivial rfl Try.isAgg30 Try.sizeOf30 rfl (Nat.le_of_ble_eq_true rfl)) ?_
        refine co_y rfl rfl (y_callf rfl Try.call28 ⟨trivial, trivial, trivial⟩ (de_Ack_r hs hB.n1 (by omega) _) rfl) ?_
        refine co_y rfl rfl (y_move rfl trivial (by conv => lhs; whnf)) ?_
        refine co_y rfl rfl (y_extract rfl trivial rfl rfl) ?_
        refine co_y rfl rfl (y_extract rfl trivial rfl rfl) ?_
        refine co_d rfl rfl (d_alloc rfl Try.zeroValue46 rfl (.inr ⟨_, rfl⟩) ?_)
        refine co_d rfl rfl (d_store rfl trivial trivial rfl (by conv => lhs; whnf) Try.sizeOf46 (.inr ⟨_, rfl⟩) rfl rfl (Nat.le_of_ble_eq_true rfl) ?_)
        refine co_y rfl rfl (y_assign rfl trivial (by conv => lhs; whnf)) ?_
        refine co_nil ?_
        refine cw_seq ?_
        refine cw_region ?_
        refine co_y rfl rfl (y_load rfl trivial rfl Try.isAgg46 Try.sizeOf46 rfl (Nat.le_of_ble_eq_true rfl)) ?_
        refine co_y rfl rfl (y_load rfl trivial rfl Try.isAgg30 Try.sizeOf30 rfl (Nat.le_of_ble_eq_true rfl)) ?_
        refine co_y rfl rfl (y_callf rfl Try.call29 ⟨trivial, trivial, trivial⟩ (rd_Ack_r hs2 (by omega) _) rfl) ?_
        refine co_y rfl rfl (y_move rfl trivial (by conv => lhs; whnf)) ?_
        refine co_y rfl rfl (y_extract rfl trivial rfl rfl) ?_
        refine co_y rfl rfl (y_extract rfl trivial rfl rfl) ?_
        refine co_d rfl rfl (d_alloc rfl Try.zeroValue46 rfl (.inr ⟨_, rfl⟩) ?_)
        refine co_d rfl rfl (d_store rfl trivial trivial rfl (by conv => lhs; whnf) Try.sizeOf46 (.inr ⟨_, rfl⟩) rfl rfl (Nat.le_of_ble_eq_true rfl) ?_)
        refine co_y rfl rfl (y_assign rfl trivial (by conv => lhs; whnf)) ?_
        refine co_nil ?_
        refine cw_seq ?_
        refine cw_float [0, 1, 2, 3] 2 [0, 0, 1, 7] [[1], []] (hd1l := [0, 1]) (tll := [(2, [1]), (3, [])]) (by kernel_rfl) (by kernel_rfl) rfl rfl rfl ?_
        refine chf rfl (hop_y rfl (y_load rfl trivial rfl Try.isAgg46 Try.sizeOf46 rfl (Nat.le_of_ble_eq_true rfl))) ?_
        refine chf rfl (hop_y rfl (y_load rfl trivial rfl Try.isAgg46 Try.sizeOf46 rfl (Nat.le_of_ble_eq_true rfl))) ?_
        refine chf_nil ?_
        refine ctl_d rfl rfl (d_store rfl trivial trivial rfl (by conv => lhs; whnf) Try.sizeOf46 (.inr ⟨_, rfl⟩) rfl rfl (Nat.le_of_ble_eq_true rfl) ?_)
        refine ⟨⟨(by exact hop_y rfl (y_load rfl trivial rfl Try.isAgg46 Try.sizeOf46 rfl (Nat.le_of_ble_eq_true rfl))), trivial⟩, ?_⟩
        refine ctl_d rfl rfl (d_store rfl trivial trivial rfl (by conv => lhs; whnf) Try.sizeOf46 (.inr ⟨_, rfl⟩) rfl rfl (Nat.le_of_ble_eq_true rfl) ?_)
        refine ⟨trivial, ?_⟩
        refine ctl_nil ?_
        refine cw_seq ?_
        refine cw_region ?_
        refine co_y rfl rfl (y_move rfl trivial (by conv => lhs; whnf)) ?_
        refine co_y rfl rfl (y_move rfl trivial (by conv => lhs; whnf)) ?_
        refine co_y rfl rfl (y_boolop rfl Try.runUnderlying4 trivial trivial rfl rfl rfl) ?_
        refine co_y rfl rfl (y_move rfl trivial (by conv => lhs; whnf)) ?_
        refine co_g rfl rfl trivial rfl rfl (fun hg => y_load rfl trivial rfl Try.isAgg46 Try.sizeOf46 rfl (Nat.le_of_ble_eq_true rfl)) ?_
        refine co_g rfl rfl trivial rfl rfl (fun hg => y_load rfl trivial rfl Try.isAgg46 Try.sizeOf46 rfl (Nat.le_of_ble_eq_true rfl)) ?_
        refine co_g rfl rfl trivial rfl rfl (fun hg => y_callf rfl Try.call27 ⟨hg, hg, trivial⟩ (rd_SameBox_s x1 y1 (wh_max hB1.wh) _) rfl) ?_
        refine co_g rfl rfl trivial rfl rfl (fun hg => y_not rfl hg rfl) ?_
        refine co_y rfl rfl (y_pick_or rfl trivial rfl (fun hp => hp) (fun _ => rfl)) ?_
        refine co_nil ?_
        refine cw_cond trivial rfl (fun h7 => ?_) (fun h7 => ?_)
        · exfalso
          rw [hB1.eq] at h7
          simp at h7
        · skip
          refine cw_skip ?_
          refine cw_region ?_
          refine co_y rfl rfl (y_move rfl trivial (by conv => lhs; whnf)) ?_
          refine co_y rfl rfl (y_sub rfl trivial rfl rfl rfl (by omega) (by omega)) ?_
          refine co_y rfl rfl (y_assign rfl trivial (by conv => lhs; whnf)) ?_
          refine co_nil ?_
          exact ⟨(x1, y1, k2 + 1, m - 1), _, ⟨by show m - 1 < m; omega, hB1, by show k2 + 1 + 10 * (m - 1) ≤ _; omega⟩, ⟨⟨trivial, rfl⟩, ⟨trivial, rfl⟩, ⟨trivial, rfl⟩, ⟨trivial, congrArg (fun z : Int => (CV.val (.int .i64 z))) (by show (m : Int) - 1 = ((m - 1 : Nat) : Int); omega)⟩, trivial⟩, rfl⟩
  · skip
    refine cw_exit ?_
    refine cw_seq ?_
    refine cw_region ?_
    refine co_y rfl rfl (y_load rfl trivial rfl Try.isAgg46 Try.sizeOf46 rfl (Nat.le_of_ble_eq_true rfl)) ?_
    refine co_y rfl rfl (y_callf rfl Try.call21 ⟨trivial, trivial⟩ (de_WholeB_s o hol _) rfl) ?_
    refine co_y rfl rfl (y_move rfl trivial (by conv => lhs; whnf)) ?_
    refine co_g rfl rfl trivial rfl rfl (fun hg => y_callf rfl Try.call12 trivial (ld_known_s _) rfl) ?_
    refine co_y rfl rfl (y_pick_and rfl trivial rfl (fun hp => hp) (fun _ => rfl)) ?_
    refine co_y rfl rfl (y_assign rfl trivial (by conv => lhs; whnf)) ?_
    refine co_nil ?_
    refine cw_ret ?_
    exact ⟨_, res1 rfl trivial (by conv => lhs; whnf), _, _, rfl, rfl, cls_bool (by rw [pb_yes' hB.wh]; rfl)⟩

theorem ld_DeliveryBoxes_s (l : List Int) (nn : Bool) (hl : l.length ≤ maxLen) (σ : List CObj) : CCalls CC 6 [.list (l.map icv) nn none] σ fun r σ' => r = .ret (.val (.bool (true))) ∧ σ' = σ :=
  CCalls.anyw hCC (by repeat' (first | exact .val _ | exact pure_lts _ _ | exact pure_rps _ _ | exact pure_ints _ _ | exact trivial | refine pure_agg ?_ | refine pure_tup ?_ | refine ⟨?_, ?_⟩)) (by repeat' (first | exact .val _ | exact pure_lts _ _ | exact pure_rps _ _ | exact pure_ints _ _ | exact trivial | refine pure_agg ?_ | refine pure_tup ?_ | refine ⟨?_, ?_⟩)) (ld_DeliveryBoxes l nn hl) σ

end Go.Proofs.Ytchaklkfaemfgaa
