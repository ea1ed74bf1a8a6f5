import Derived.Test.YtchaklkfaemfgaaD5
namespace Go.Proofs.Ytchaklkfaemfgaa
open Go Go.Cl

/-- The network after some sends. -/
def full : Nat → Net
  | 0 => ⟨0, [], false⟩
  | n + 1 => ⟨(full n).next + 1, (full n).fly ++ [⟨(full n).next, repS n⟩], true⟩
theorem full_next : ∀ n : Nat, (full n).next = n ∧ (full n).fly.length = n
  | 0 => ⟨rfl, rfl⟩
  | n + 1 => by
    obtain ⟨h1, h2⟩ := full_next n
    exact ⟨by show (full n).next + 1 = _; push_cast; omega, by show ((full n).fly ++ [_]).length = _; simp [h2]⟩
theorem full_ck : ∀ n : Nat, n ≤ 64 → CkP (full n)
  | 0, _ => ck_zero false
  | n + 1, h => by
    obtain ⟨h1, h2⟩ := full_next n
    exact send_keeps (full_ck n (by omega)) (rep_right n) (by omega) (by omega)
theorem full_in : ∀ {n j : Nat}, j < n → (⟨j, repS j⟩ : Lt) ∈ (full n).fly
  | n + 1, j, h => by
    show _ ∈ (full n).fly ++ [_]
    rcases Nat.lt_succ_iff_lt_or_eq.1 h with h | rfl
    · exact List.mem_append_left _ (full_in h)
    · rw [(full_next j).1]; simp
theorem full_num : ∀ {n : Nat} {x : Lt}, x ∈ (full n).fly → 0 ≤ x.n ∧ x.n < n
  | 0, x, h => by simp [full] at h
  | n + 1, x, h => by
    rcases List.mem_append.1 (show x ∈ (full n).fly ++ [_] from h) with h | h
    · have := full_num h
      push_cast; omega
    · simp at h
      subst h
      have := (full_next n).1
      simp only; push_cast; omega
theorem full_nn {n : Nat} (h : (full n).nn = false) : (full n).fly = [] := by
  cases n with
  | zero => rfl
  | succ n => cases h
/-- The network when the letters j, .. from s on are delivered. -/
def dl (mo : Nat) (s : Int) (j : Nat) : Net :=
  ⟨mo, (full mo).fly.filter fun x => decide (∀ q : Nat, q < j → x.n ≠ ((q : Int) + s) % mo), if j = 0 then (full mo).nn else true⟩
theorem dl_zero (mo : Nat) (s : Int) : dl mo s 0 = full mo := by
  have h := (full_next mo).1
  have hf : (full mo).fly.filter (fun x => decide (∀ q : Nat, q < 0 → x.n ≠ ((q : Int) + s) % mo)) = (full mo).fly := List.filter_eq_self.2 fun x _ => by simp
  unfold dl
  rw [hf, if_pos rfl, ← h]
theorem dl_nn {mo : Nat} {s : Int} {j : Nat} (h : (dl mo s j).nn = false) : (dl mo s j).fly = [] := by
  unfold dl at h ⊢
  by_cases hj : j = 0
  · rw [if_pos hj] at h
    simp only
    rw [full_nn h]; rfl
  · rw [if_neg hj] at h; cases h
theorem dl_ck {mo : Nat} (hm : mo ≤ 64) (s : Int) (j : Nat) : CkP (dl mo s j) := by
  have h := (full_next mo).1
  have := ck_filter (full_ck mo hm) (fun x => decide (∀ q : Nat, q < j → x.n ≠ ((q : Int) + s) % mo)) (if j = 0 then (full mo).nn else true)
  rw [h] at this
  exact this
theorem mod_ne {mo q j : Nat} {s : Int} (hq : q < j) (hj : j < mo) : ((j : Int) + s) % mo ≠ ((q : Int) + s) % mo := fun h => by
  rw [Int.emod_eq_emod_iff_emod_sub_eq_zero] at h
  have e : (j : Int) + s - ((q : Int) + s) = ((j - q : Nat) : Int) := by omega
  rw [e, Int.emod_eq_of_lt (by omega) (by omega)] at h
  omega
theorem dl_step {mo j : Nat} {s : Int} (hm : mo ≤ 64) (hj : j < mo) : delS (pb (CkP (dl mo s j))) (dl mo s j) (((j : Int) + s) % mo) false = (dl mo s (j + 1), repS (((j : Int) + s) % mo), 0) := by
  have h0 := Int.emod_nonneg ((j : Int) + s) (show (mo : Int) ≠ 0 by omega)
  have h1 := Int.emod_lt_of_pos ((j : Int) + s) (show 0 < (mo : Int) by omega)
  obtain ⟨k, hk⟩ : ∃ k : Nat, ((j : Int) + s) % mo = k := ⟨(((j : Int) + s) % mo).toNat, by omega⟩
  have hin : (⟨k, repS k⟩ : Lt) ∈ (dl mo s j).fly := by
    refine List.mem_filter.2 ⟨full_in (by omega), ?_⟩
    simp only [decide_eq_true_eq]
    intro q hq
    rw [← hk]
    exact mod_ne hq hj
  rw [hk, del_some (dl_ck hm s j) hin rfl]
  have e : (dl mo s j).fly.filter (fun x => decide (x.n ≠ (k : Int))) = (dl mo s (j + 1)).fly := by
    show ((full mo).fly.filter _).filter _ = (full mo).fly.filter _
    rw [List.filter_filter]
    refine List.filter_congr fun x _ => ?_
    rw [← Bool.decide_and]
    refine decide_eq_decide.2 ⟨fun ⟨g1, g2⟩ q hq => ?_, fun g => ⟨?_, fun q hq => g q (by omega)⟩⟩
    · rcases Nat.lt_succ_iff_lt_or_eq.1 hq with hq | rfl
      · exact g2 q hq
      · rw [hk]; exact g1
    · have := g j (by omega)
      rwa [hk] at this
  rw [if_neg (by decide), e]
  rfl
theorem dl_end {mo : Nat} {s : Int} : (dl mo s mo).fly = [] := by
  refine List.filter_eq_nil_iff.2 fun x hx => ?_
  have hn := full_num hx
  simp only [decide_eq_true_eq]
  intro h
  have h0 := Int.emod_nonneg (x.n - s) (show (mo : Int) ≠ 0 by omega)
  have h1 := Int.emod_lt_of_pos (x.n - s) (show 0 < (mo : Int) by omega)
  refine h ((x.n - s) % mo).toNat (by omega) ?_
  rw [Int.toNat_of_nonneg h0, Int.emod_add_emod]
  rw [show x.n - s + s = x.n by omega, Int.emod_eq_of_lt hn.1 hn.2]
theorem fold_lt {v n : Int} (hn : 1 ≤ n) : 0 ≤ fold v n ∧ fold v n < n := by
  unfold fold
  split
  · omega
  · exact ⟨Int.emod_nonneg _ (by omega), Int.emod_lt_of_pos _ (by omega)⟩

set_option maxRecDepth 10000 in
theorem ld_DeliveryFull (n turn : Int) : CCalls CC 3 [(.val (.int .i64 (n))), (.val (.int .i64 (turn)))] [] fun r σ' => r = .ret (.val (.bool (true))) ∧ σ' = [] := by
  have hb := fold_bound (v := n) (n := 67) (by omega)
  refine ccalls_val (ccalls_of Try.func3 rfl rfl ?_)
  refine cw_seq ?_
  refine cw_region ?_
  refine co_y rfl rfl (y_assign rfl rfl (by conv => lhs; whnf)) ?_
  refine co_nil ?_
  refine cw_seq ?_
  refine cw_region ?_
  refine co_y rfl rfl (y_move rfl trivial (by conv => lhs; whnf)) ?_
  refine co_y rfl rfl (y_callf rfl Try.call8 ⟨trivial, rfl, trivial⟩ (mk_Fold_s n 67 (by omega) _) rfl) ?_
  refine co_y rfl rfl (y_assign rfl trivial (by conv => lhs; whnf)) ?_
  refine co_nil ?_
  refine cw_seq ?_
  refine cw_region ?_
  refine co_d rfl rfl (d_alloc rfl Try.zeroValue25 rfl (.inr ⟨_, rfl⟩) ?_)
  refine co_nil ?_
  refine cw_seq ?_
  refine cw_seq ?_
  refine cw_region ?_
  refine co_y rfl rfl (y_assign rfl rfl (by conv => lhs; whnf)) ?_
  refine co_nil ?_
  refine cw_block ?_
  refine cw_loopd hCC (α := Nat) (fun i => [(0, (.val (.int .i64 (fold n 67)))), (1, (.val (.int .i64 (turn)))), (5, .ptr 0 0), (6, (.val (.int .i64 ((i : Int)))))]) (fun i => [.box (full (min i 64)).cells]) (fun i => (i : Int) ≤ fold n 67) (fun i => 67 - i) 0 (by show (0 : Int) ≤ _; omega) ⟨⟨trivial, rfl⟩, ⟨trivial, rfl⟩, ⟨trivial, rfl⟩, ⟨trivial, rfl⟩, trivial⟩ (extra0 := []) rfl (fun _ _ => Nat.le_of_ble_eq_true rfl) (fun a ha => by repeat' (first | exact trivial | exact .val _ | exact .ptr (Nat.le_of_ble_eq_true rfl) | exact .map (Nat.le_of_ble_eq_true rfl) | exact (by first | exact old_lts _ _ _ | exact old_rps _ _ _ | exact old_ints _ _ _) | refine old_box ?_ | refine ⟨?_, ?_⟩)) ?_
  intro i hi
  refine cw_seq ?_
  refine cw_seq ?_
  refine cw_region ?_
  refine co_y rfl rfl (y_move rfl trivial (by conv => lhs; whnf)) ?_
  refine co_y rfl rfl (y_move rfl trivial (by conv => lhs; whnf)) ?_
  refine co_y rfl rfl (y_int rfl trivial trivial rfl rfl rfl) ?_
  refine co_nil ?_
  refine cw_cond trivial rfl (fun h1 => ?_) (fun h1 => ?_)
  · have hi2 : (i : Int) < fold n 67 := by simpa using h1
    have hck := full_ck (min i 64) (by omega)
    obtain ⟨y, e, hs, hcase⟩ : ∃ y e, sendS (pb (CkP (full (min i 64)))) (pb (RightP (repS i))) (full (min i 64)) (repS i) = (y, e) ∧ ((i < 64 ∧ e = 0 ∧ y = full (i + 1)) ∨ (64 ≤ i ∧ e = 42)) := by
      obtain ⟨g1, g2⟩ := full_next (min i 64)
      by_cases h : i < 64
      · have hm : min i 64 = i := by omega
        rw [hm] at hck g1 g2 ⊢
        exact ⟨_, _, send_ok hck (rep_right i) (by omega) (by omega), .inl ⟨h, rfl, rfl⟩⟩
      · exact ⟨_, _, send_full hck (rep_right i) (by omega), .inr ⟨by omega, rfl⟩⟩
    refine cw_skip ?_
    refine cw_cutd hCC (α := Net) (fun _ => [(0, (.val (.int .i64 (fold n 67)))), (1, (.val (.int .i64 (turn)))), (5, .ptr 0 0), (6, (.val (.int .i64 ((i : Int)))))]) (fun a => [.box a.cells]) (fun a => a = full (min (i + 1) 64)) (fun _ _ => Nat.le_of_ble_eq_true rfl) (fun a ha => by repeat' (first | exact trivial | exact .val _ | exact .ptr (Nat.le_of_ble_eq_true rfl) | exact .map (Nat.le_of_ble_eq_true rfl) | exact (by first | exact old_lts _ _ _ | exact old_rps _ _ _ | exact old_ints _ _ _) | refine old_box ?_ | refine ⟨?_, ?_⟩)) ?_ ?_
    · -- up to the cut
      refine cw_block ?_
      refine cw_seq ?_
      refine cw_float [0, 1, 2, 3, 4, 5, 6, 7, 8, 9] 7 [0, 0, 2, 7, 15, 31, 31, 0, 191, 511] [[0, 1, 2, 3, 4, 5, 6], [6], []] (hd1l := [0, 1, 2, 3, 4, 5, 6]) (tll := [(7, [0, 1, 2, 3, 4, 5, 6]), (8, [6]), (9, [])]) (by kernel_rfl) (by kernel_rfl) rfl rfl rfl ?_
      refine chf rfl (hop_y rfl (y_load rfl trivial rfl Try.isAgg25 Try.sizeOf25 rfl (Nat.le_of_ble_eq_true rfl))) ?_
      refine chf rfl (hop_y rfl (y_move rfl trivial (by conv => lhs; whnf))) ?_
      refine chf rfl (hop_y rfl (y_callf rfl Try.call10 ⟨trivial, trivial⟩ (ld_report_s (i : Int) _) rfl)) ?_
      refine chf rfl (hop_y rfl (y_callf rfl Try.call9 ⟨trivial, trivial, trivial⟩ (de_Send_r hs (ck_max hck) _) rfl)) ?_
      refine chf rfl (hop_y rfl (y_move rfl trivial (by conv => lhs; whnf))) ?_
      refine chf rfl (hop_y rfl (y_extract rfl trivial rfl rfl)) ?_
      refine chf rfl (hop_y rfl (y_extract rfl trivial rfl rfl)) ?_
      refine chf_nil ?_
      refine ctl_d rfl rfl (d_alloc rfl Try.zeroValue25 rfl (.inr ⟨_, rfl⟩) ?_)
      refine ⟨⟨(by exact hop_y rfl (y_load rfl trivial rfl Try.isAgg25 Try.sizeOf25 rfl (Nat.le_of_ble_eq_true rfl))), (by exact hop_y rfl (y_move rfl trivial (by conv => lhs; whnf))), (by exact hop_y rfl (y_callf rfl Try.call10 ⟨trivial, trivial⟩ (ld_report_s (i : Int) _) rfl)), (by exact hop_y rfl (y_callf rfl Try.call9 ⟨trivial, trivial, trivial⟩ (de_Send_r hs (ck_max hck) _) rfl)), (by exact hop_y rfl (y_move rfl trivial (by conv => lhs; whnf))), (by exact hop_y rfl (y_extract rfl trivial rfl rfl)), (by exact hop_y rfl (y_extract rfl trivial rfl rfl)), trivial⟩, ?_⟩
      refine ctl_d rfl rfl (d_store rfl trivial trivial rfl (by conv => lhs; whnf) Try.sizeOf25 (.inr ⟨_, rfl⟩) rfl rfl (Nat.le_of_ble_eq_true rfl) ?_)
      refine ⟨⟨(by exact hop_y rfl (y_extract rfl trivial rfl rfl)), trivial⟩, ?_⟩
      refine ctl_h rfl (hop_y rfl (y_assign rfl trivial (by conv => lhs; whnf))) ⟨trivial, ?_⟩
      refine ctl_nil ?_
      refine cw_seq ?_
      refine cw_seq ?_
      refine cw_region ?_
      refine co_y rfl rfl (y_move rfl trivial (by conv => lhs; whnf)) ?_
      refine co_y rfl rfl (y_int rfl trivial rfl rfl rfl rfl) ?_
      refine co_y rfl rfl (y_move rfl trivial (by conv => lhs; whnf)) ?_
      refine co_y rfl rfl (y_int rfl trivial rfl rfl rfl rfl) ?_
      refine co_y rfl rfl (y_boolop rfl Try.runUnderlying4 trivial trivial rfl rfl rfl) ?_
      refine co_y rfl rfl (y_move rfl trivial (by conv => lhs; whnf)) ?_
      refine co_g rfl rfl trivial rfl rfl (fun hg => y_move rfl trivial (by conv => lhs; whnf)) ?_
      refine co_g rfl rfl trivial rfl rfl (fun hg => y_int rfl hg rfl rfl rfl rfl) ?_
      refine co_g rfl rfl trivial rfl rfl (fun hg => y_move rfl hg (by conv => lhs; whnf)) ?_
      refine co_g2 rfl rfl (fun h => h) rfl rfl (fun hk hg => y_move rfl trivial (by conv => lhs; whnf)) ?_
      refine co_g2 rfl rfl (fun h => h) rfl rfl (fun hk hg => y_int rfl ⟨hk, hg⟩ rfl rfl rfl rfl) ?_
      refine co_g rfl rfl trivial rfl rfl (fun hg => y_pick_and rfl hg rfl (fun hp => ⟨hg, hp⟩) (fun _ => rfl)) ?_
      refine co_y rfl rfl (y_pick_or rfl trivial rfl (fun hp => hp) (fun _ => rfl)) ?_
      refine co_nil ?_
      refine cw_cond trivial rfl (fun h2 => ?_) (fun h2 => ?_)
      · exfalso
        rcases hcase with ⟨g1, rfl, -⟩ | ⟨g1, rfl⟩
        · simp at h2; omega
        · simp at h2; omega
      · skip
        refine cw_skip ?_
        refine cw_seq ?_
        refine cw_region ?_
        refine co_y rfl rfl (y_move rfl trivial (by conv => lhs; whnf)) ?_
        refine co_y rfl rfl (y_int rfl trivial rfl rfl rfl rfl) ?_
        refine co_nil ?_
        refine cw_cond trivial rfl (fun h3 => ?_) (fun h3 => ?_)
        · have he : e = 0 := by simpa using h3
          have hy : y = full (min (i + 1) 64) := by
            rcases hcase with ⟨g1, -, g2⟩ | ⟨g1, g2⟩
            · rw [show min (i + 1) 64 = i + 1 by omega]; exact g2
            · omega
          refine cw_region ?_
          refine co_y rfl rfl (y_load rfl trivial rfl Try.isAgg25 Try.sizeOf25 rfl (Nat.le_of_ble_eq_true rfl)) ?_
          refine co_d rfl rfl (d_store rfl trivial trivial rfl (by conv => lhs; whnf) Try.sizeOf25 (.inr ⟨_, rfl⟩) rfl rfl (Nat.le_of_ble_eq_true rfl) ?_)
          refine co_nil ?_
          exact ⟨y, _, hy, ⟨⟨trivial, rfl⟩, ⟨trivial, rfl⟩, ⟨trivial, rfl⟩, ⟨trivial, rfl⟩, trivial⟩, rfl⟩
        · have he : ¬ e = 0 := by simpa using h3
          have hy : full (min i 64) = full (min (i + 1) 64) := by
            rcases hcase with ⟨g1, g3, g2⟩ | ⟨g1, g2⟩
            · exact absurd g3 he
            · rw [show min (i + 1) 64 = min i 64 by omega]
          refine cw_skip ?_
          exact ⟨(full (min i 64)), _, hy, ⟨⟨trivial, rfl⟩, ⟨trivial, rfl⟩, ⟨trivial, rfl⟩, ⟨trivial, rfl⟩, trivial⟩, rfl⟩
    · intro a ha
      subst ha
      refine cw_region ?_
      refine co_y rfl rfl (y_move rfl trivial (by conv => lhs; whnf)) ?_
      refine co_y rfl rfl (y_add rfl trivial rfl rfl rfl (by omega) (by omega)) ?_
      refine co_y rfl rfl (y_assign rfl trivial (by conv => lhs; whnf)) ?_
      refine co_nil ?_
      exact ⟨(i + 1), _, ⟨by omega, by push_cast; omega⟩, ⟨⟨trivial, rfl⟩, ⟨trivial, rfl⟩, ⟨trivial, rfl⟩, ⟨trivial, rfl⟩, trivial⟩, rfl⟩
  · have hn2 : ¬ (i : Int) < fold n 67 := by simpa using h1
    have hmo : min (fold n 67) 64 = ((min i 64 : Nat) : Int) := by omega
    obtain ⟨mo, hmo2⟩ : ∃ mo : Nat, min i 64 = mo := ⟨_, rfl⟩
    rw [hmo2] at hmo
    have hm64 : mo ≤ 64 := by omega
    refine cw_exit ?_
    refine cw_seq ?_
    refine cw_region ?_
    refine co_y rfl rfl (y_move rfl trivial (by conv => lhs; whnf)) ?_
    refine co_y rfl rfl (y_min rfl trivial rfl rfl rfl) ?_
    refine co_y rfl rfl (y_assign rfl trivial (by conv => lhs; whnf)) ?_
    refine co_nil ?_
    refine cw_seq ?_
    refine cw_seq ?_
    refine cw_region ?_
    refine co_y rfl rfl (y_assign rfl rfl (by conv => lhs; whnf)) ?_
    refine co_nil ?_
    refine cw_block ?_
    refine cw_loopd hCC (α := Nat × Net) (fun x => [(1, (.val (.int .i64 (turn)))), (5, .ptr 0 0), (9, (.val (.int .i64 ((mo : Int))))), (10, (.val (.int .i64 ((x.1 : Int)))))]) (fun x => [.box x.2.cells]) (fun x => x.1 ≤ mo ∧ x.2 = dl mo (fold turn mo) x.1) (fun x => mo - x.1) (0, full (min i 64)) ⟨Nat.zero_le _, by rw [hmo2]; exact (dl_zero mo _).symm⟩ ⟨⟨trivial, rfl⟩, ⟨trivial, rfl⟩, ⟨trivial, (congrArg (fun x => CV.val (.int .i64 x)) hmo)⟩, ⟨trivial, rfl⟩, trivial⟩ (extra0 := []) rfl (fun _ _ => Nat.le_of_ble_eq_true rfl) (fun a ha => by repeat' (first | exact trivial | exact .val _ | exact .ptr (Nat.le_of_ble_eq_true rfl) | exact .map (Nat.le_of_ble_eq_true rfl) | exact (by first | exact old_lts _ _ _ | exact old_rps _ _ _ | exact old_ints _ _ _) | refine old_box ?_ | refine ⟨?_, ?_⟩)) ?_
    intro ⟨j, a⟩ ⟨hj, ha⟩
    dsimp only at hj ha ⊢
    subst ha
    refine cw_seq ?_
    refine cw_seq ?_
    refine cw_region ?_
    refine co_y rfl rfl (y_move rfl trivial (by conv => lhs; whnf)) ?_
    refine co_y rfl rfl (y_move rfl trivial (by conv => lhs; whnf)) ?_
    refine co_y rfl rfl (y_int rfl trivial trivial rfl rfl rfl) ?_
    refine co_nil ?_
    refine cw_cond trivial rfl (fun h4 => ?_) (fun h4 => ?_)
    · have hjm : j < mo := by simpa using h4
      have hfl := fold_lt (v := turn) (n := (mo : Int)) (by omega)
      have hd := dl_step (s := fold turn (mo : Int)) hm64 hjm
      refine cw_skip ?_
      refine cw_seq ?_
      refine cw_block ?_
      refine cw_seq ?_
      refine cw_region ?_
      refine co_y rfl rfl (y_move rfl trivial (by conv => lhs; whnf)) ?_
      refine co_y rfl rfl (y_move rfl trivial (by conv => lhs; whnf)) ?_
      refine co_y rfl rfl (y_move rfl trivial (by conv => lhs; whnf)) ?_
      refine co_y rfl rfl (y_callf rfl Try.call8 ⟨trivial, trivial, trivial⟩ (mk_Fold_s turn (mo : Int) (by omega) _) rfl) ?_
      refine co_y rfl rfl (y_add rfl trivial trivial rfl rfl (by omega) (by omega)) ?_
      refine co_y rfl rfl (y_move rfl trivial (by conv => lhs; whnf)) ?_
      refine co_y rfl rfl (y_int rfl trivial trivial rfl rfl (cq_rem_pos (by omega) (by omega))) ?_
      refine co_y rfl rfl (y_assign rfl trivial (by conv => lhs; whnf)) ?_
      refine co_nil ?_
      refine cw_seq ?_
      refine cw_region ?_
      refine co_y rfl rfl (y_load rfl trivial rfl Try.isAgg25 Try.sizeOf25 rfl (Nat.le_of_ble_eq_true rfl)) ?_
      refine co_y rfl rfl (y_move rfl trivial (by conv => lhs; whnf)) ?_
      refine co_y rfl rfl (y_callf rfl Try.call11 ⟨trivial, trivial, rfl, trivial⟩ (de_Deliver_r hd dl_nn (ck_max (dl_ck hm64 _ _)) _) rfl) ?_
      refine co_y rfl rfl (y_move rfl trivial (by conv => lhs; whnf)) ?_
      refine co_y rfl rfl (y_extract rfl trivial rfl rfl) ?_
      refine co_y rfl rfl (y_extract rfl trivial rfl rfl) ?_
      refine co_y rfl rfl (y_extract rfl trivial rfl rfl) ?_
      refine co_d rfl rfl (d_alloc rfl Try.zeroValue25 rfl (.inr ⟨_, rfl⟩) ?_)
      refine co_d rfl rfl (d_alloc rfl Try.zeroValue30 rfl (.inr ⟨_, rfl⟩) ?_)
      refine co_d rfl rfl (d_store rfl trivial trivial rfl (by conv => lhs; whnf) Try.sizeOf25 (.inr ⟨_, rfl⟩) rfl rfl (Nat.le_of_ble_eq_true rfl) ?_)
      refine co_d rfl rfl (d_store rfl trivial trivial rfl (by conv => lhs; whnf) Try.sizeOf30 (.inr ⟨_, rfl⟩) rfl rfl (Nat.le_of_ble_eq_true rfl) ?_)
      refine co_y rfl rfl (y_assign rfl trivial (by conv => lhs; whnf)) ?_
      refine co_nil ?_
      refine cw_seq ?_
      refine cw_region ?_
      refine co_y rfl rfl (y_load rfl trivial rfl Try.isAgg25 Try.sizeOf25 rfl (Nat.le_of_ble_eq_true rfl)) ?_
      refine co_d rfl rfl (d_store rfl trivial trivial rfl (by conv => lhs; whnf) Try.sizeOf25 (.inr ⟨_, rfl⟩) rfl rfl (Nat.le_of_ble_eq_true rfl) ?_)
      refine co_nil ?_
      refine cw_seq ?_
      refine cw_draw 8 [0, 1, 3, 7, 7, 23, 63, 127] (by kernel_rfl) (by kernel_rfl) rfl ?_
      refine ch_y rfl (y_move rfl trivial (by conv => lhs; whnf)) ?_
      refine ch_y rfl (y_int rfl trivial rfl rfl rfl rfl) ?_
      refine ch_y rfl (y_move rfl trivial (by conv => lhs; whnf)) ?_
      refine ch_g rfl rfl trivial rfl (fun hg => y_load rfl trivial rfl Try.isAgg30 Try.sizeOf30 rfl (Nat.le_of_ble_eq_true rfl)) ?_
      refine ch_g rfl rfl trivial rfl (fun hg => y_move rfl trivial (by conv => lhs; whnf)) ?_
      refine ch_g rfl rfl trivial rfl (fun hg => y_callf rfl Try.call10 ⟨hg, trivial⟩ (ld_report_s (((j : Int) + fold turn (mo : Int)) % (mo : Int)) _) rfl) ?_
      refine ch_g rfl rfl trivial rfl (fun hg => y_nes rfl hg hg (xs := [.int .i64 (repS (((j : Int) + fold turn (mo : Int)) % (mo : Int))).t, .int .i64 (repS (((j : Int) + fold turn (mo : Int)) % (mo : Int))).a, .int .i64 (repS (((j : Int) + fold turn (mo : Int)) % (mo : Int))).m, .int .i64 (repS (((j : Int) + fold turn (mo : Int)) % (mo : Int))).e, .int .i64 (repS (((j : Int) + fold turn (mo : Int)) % (mo : Int))).o]) (ys := [.int .i64 (repS (((j : Int) + fold turn (mo : Int)) % (mo : Int))).t, .int .i64 (repS (((j : Int) + fold turn (mo : Int)) % (mo : Int))).a, .int .i64 (repS (((j : Int) + fold turn (mo : Int)) % (mo : Int))).m, .int .i64 (repS (((j : Int) + fold turn (mo : Int)) % (mo : Int))).e, .int .i64 (repS (((j : Int) + fold turn (mo : Int)) % (mo : Int))).o]) rfl rfl Try.eqGuardType30 (eq_rp (repS (((j : Int) + fold turn (mo : Int)) % (mo : Int))) (repS (((j : Int) + fold turn (mo : Int)) % (mo : Int))))) ?_
      refine ch_y rfl (y_pick_or rfl trivial rfl (fun hp => hp) (fun _ => rfl)) ?_
      refine ch_nil ?_
      refine co_nil ?_
      refine cw_cond trivial rfl (fun h5 => ?_) (fun h5 => ?_)
      · exfalso
        simp at h5
      · skip
        refine cw_skip ?_
        refine cw_region ?_
        refine co_y rfl rfl (y_move rfl trivial (by conv => lhs; whnf)) ?_
        refine co_y rfl rfl (y_add rfl trivial rfl rfl rfl (by omega) (by omega)) ?_
        refine co_y rfl rfl (y_assign rfl trivial (by conv => lhs; whnf)) ?_
        refine co_nil ?_
        exact ⟨(j + 1, dl mo (fold turn mo) (j + 1)), _, ⟨by show mo - (j + 1) < mo - j; omega, hjm, rfl⟩, ⟨⟨trivial, rfl⟩, ⟨trivial, rfl⟩, ⟨trivial, rfl⟩, ⟨trivial, rfl⟩, trivial⟩, rfl⟩
    · have hjm : j = mo := by
        have : ¬ j < mo := by simpa using h4
        omega
      subst hjm
      refine cw_exit ?_
      refine cw_seq ?_
      refine cw_region ?_
      refine co_y rfl rfl (y_field rfl trivial rfl Try.runUnderlying25 rfl Try.sizeOf23 (by decide)) ?_
      refine co_y rfl rfl (y_load1 rfl trivial rfl Try.isAgg23 rfl rfl) ?_
      refine co_y rfl rfl (y_len rfl trivial rfl Try.runUnderlying23 (by first | exact len_map _ _ | rfl) rfl) ?_
      refine co_y rfl rfl (y_int rfl trivial rfl rfl rfl rfl) ?_
      refine co_y rfl rfl (y_move rfl trivial (by conv => lhs; whnf)) ?_
      refine co_g rfl rfl trivial rfl rfl (fun hg => y_callf rfl Try.call12 trivial (ld_known_s _) rfl) ?_
      refine co_y rfl rfl (y_pick_and rfl trivial rfl (fun hp => hp) (fun _ => rfl)) ?_
      refine co_y rfl rfl (y_assign rfl trivial (by conv => lhs; whnf)) ?_
      refine co_nil ?_
      refine cw_ret ?_
      exact ⟨_, res1 rfl trivial (by conv => lhs; whnf), _, _, rfl, rfl, cls_bool (by rw [dl_end]; rfl)⟩

theorem ld_DeliveryFull_s (n turn : Int) (σ : List CObj) : CCalls CC 3 [(.val (.int .i64 (n))), (.val (.int .i64 (turn)))] σ fun r σ' => r = .ret (.val (.bool (true))) ∧ σ' = σ :=
  CCalls.anyw hCC (by repeat' (first | exact .val _ | exact pure_lts _ _ | exact pure_rps _ _ | exact pure_ints _ _ | exact trivial | refine pure_agg ?_ | refine pure_tup ?_ | refine ⟨?_, ?_⟩)) (by repeat' (first | exact .val _ | exact pure_lts _ _ | exact pure_rps _ _ | exact pure_ints _ _ | exact trivial | refine pure_agg ?_ | refine pure_tup ?_ | refine ⟨?_, ?_⟩)) (ld_DeliveryFull n turn) σ

end Go.Proofs.Ytchaklkfaemfgaa
