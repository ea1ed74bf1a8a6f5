import Derived.Test.YtkhebelajdcjgaaDoorK16
import Derived.Test.YtkhebelajdcjgaaDoorH1
namespace Go.Proofs.YtkhebelajdcjgaaDoor
open Go Go.Cl

def OrdP : List Bkt → Int → Prop
  | [], _ => True
  | b :: l, last => (1 ≤ b.first ∧ b.first ≤ b.last ∧ b.last ≤ (match l with | [] => last | c :: _ => c.first) ∧ (b.count = 1 → b.first = b.last)) ∧ OrdP l last
def nxt (bs : List Bkt) (i : Nat) (last : Int) : Int := match bs.drop (i + 1) with | [] => last | c :: _ => c.first
theorem ord_step {bs : List Bkt} {i : Nat} {b : Bkt} (h : bs[i]? = some b) (last : Int) : OrdP (bs.drop i) last ↔ (1 ≤ b.first ∧ b.first ≤ b.last ∧ b.last ≤ nxt bs i last ∧ (b.count = 1 → b.first = b.last)) ∧ OrdP (bs.drop (i + 1)) last := by
  obtain ⟨hi, rfl⟩ := List.getElem?_eq_some_iff.1 h
  rw [List.drop_eq_getElem_cons hi]
  rfl
theorem nxt_some {bs : List Bkt} {i : Nat} {c : Bkt} (h : bs[i + 1]? = some c) (last : Int) : nxt bs i last = c.first := by
  obtain ⟨hi, rfl⟩ := List.getElem?_eq_some_iff.1 h
  unfold nxt
  rw [List.drop_eq_getElem_cons hi]
theorem nxt_none {bs : List Bkt} {i : Nat} (h : bs.length ≤ i + 1) (last : Int) : nxt bs i last = last := by
  unfold nxt
  rw [List.drop_eq_nil_of_le h]
theorem toNat_succ (i : Nat) : ((i : Int) + 1).toNat = i + 1 := by omega

def sumC : List Bkt → Int
  | [] => 0
  | b :: l => b.count + sumC l
theorem sumC_append : ∀ (l r : List Bkt), sumC (l ++ r) = sumC l + sumC r
  | [], _ => by simp [sumC]
  | b :: l, r => by simp [sumC, sumC_append l r, Int.add_assoc]
theorem isP_and {c : Int} (h : 1 ≤ c) : c.toNat &&& c.toNat - 1 = 0 ↔ isP c = true := by
  have := Nat.and_sub_one_eq_zero_iff_isPowerOfTwo (n := c.toNat) (by omega)
  simp only [isP, decide_eq_true_eq, ← this]
  omega
theorem pow2_mono {i j : Nat} (h : i ≤ j) : (2 : Int) ^ i ≤ 2 ^ j := by
  have := Nat.pow_le_pow_right (show 0 < 2 by decide) h
  exact_mod_cast this
/-- What a bucket must be behind those before it. -/
def AtP (bs : List Bkt) (k : Int) (i : Nat) (b : Bkt) : Prop :=
  1 ≤ b.count ∧ b.count ≤ 1073741824 ∧ isP b.count = true ∧ (∀ p, 0 < i → bs[i - 1]? = some p → b.count ≤ p.count) ∧ num (bs.take i) b.count ≠ k
def SizP (bs : List Bkt) (k failed : Int) : Prop :=
  (∀ (i : Nat) (b : Bkt), bs[i]? = some b → AtP bs k i b) ∧ (∀ (j : Nat) (b : Bkt), bs[0]? = some b → (2 : Int) ^ j < b.count → k - 1 ≤ num bs (2 ^ j)) ∧ sumC bs = failed
theorem sumC_bound : ∀ {bs : List Bkt}, (∀ b ∈ bs, 1 ≤ b.count ∧ b.count ≤ 1073741824) → (bs.length : Int) ≤ sumC bs ∧ sumC bs ≤ 1073741824 * bs.length
  | [], _ => by simp [sumC]
  | b :: l, h => by
    have ih := sumC_bound (bs := l) fun b hb => h b (by simp [hb])
    have := h b (by simp)
    simp only [sumC, List.length_cons]
    omega
theorem take_mem {bs : List Bkt} {P : Bkt → Prop} {i : Nat} (h : ∀ (j : Nat) (b : Bkt), j < i → bs[j]? = some b → P b) : ∀ b ∈ bs.take i, P b := fun b hb => by
  obtain ⟨j, hj⟩ := List.mem_iff_getElem?.1 hb
  rw [List.getElem?_take] at hj
  split at hj
  · exact h j b ‹_› hj
  · cases hj

theorem old_iimap (n : Nat) (es : List (Int × Int)) : OldObj n (.map (iimap es)) := fun x hx => by
  simp only [iimap, imap, List.map_map, List.mem_map] at hx
  obtain ⟨y, _, rfl⟩ := hx
  exact ⟨.val _, .val _⟩

set_option maxRecDepth 10000 in
theorem hi_ordered (h : Hist) (hl : h.bs.length ≤ 4294967296) : CCalls CC 31 [.agg h.cells] [] fun r σ' => r = .ret (.val (.bool (pb (OrdP h.bs h.last)))) ∧ σ' = [] := by
  refine ccalls_val (ccalls_of Tryd.func31 rfl rfl ?_)
  refine cw_seq ?_
  refine cw_region ?_
  refine co_d rfl rfl (d_box rfl trivial (by conv => lhs; whnf) (.inr ⟨_, rfl⟩) ?_)
  refine co_y rfl rfl (y_assign rfl rfl (by conv => lhs; whnf)) ?_
  refine co_nil ?_
  refine cw_seq ?_
  refine cw_seq ?_
  refine cw_region ?_
  refine co_y rfl rfl (y_field rfl trivial rfl Tryd.runUnderlying26 rfl Tryd.sizeOf24 (by decide)) ?_
  refine co_y rfl rfl (y_load1 rfl trivial rfl Tryd.isAgg24 rfl rfl) ?_
  refine co_y rfl rfl (y_len rfl trivial rfl Tryd.runUnderlying24 (by first | exact len_map _ _ | rfl) rfl) ?_
  refine co_y rfl rfl (y_move rfl rfl (by conv => lhs; whnf)) ?_
  refine co_nil ?_
  refine cw_block ?_
  refine cw_loopd hCC (α := Nat) (fun i => [(1, .ptr 0 0), (7, (.list (h.bs.map Bkt.cv) h.nn none)), (8, (.val (.int .i64 ((h.bs.length : Int))))), (9, (.val (.int .i64 ((i : Int)))))]) (fun _ => [.box h.cells]) (fun i => i ≤ h.bs.length ∧ (OrdP (h.bs.drop i) h.last ↔ OrdP h.bs h.last)) (fun i => h.bs.length - i) 0 ⟨Nat.zero_le _, Iff.rfl⟩ ⟨⟨trivial, rfl⟩, ⟨trivial, rfl⟩, ⟨trivial, rfl⟩, ⟨trivial, rfl⟩, trivial⟩ (extra0 := []) rfl (fun _ _ => Nat.le_of_ble_eq_true rfl) (fun a ha => by repeat' (first | exact trivial | exact .val _ | exact .ptr (Nat.le_of_ble_eq_true rfl) | exact .map (Nat.le_of_ble_eq_true rfl) | exact old_bkts _ _ _ | refine old_box ?_ | refine ⟨?_, ?_⟩)) ?_
  intro i ⟨hi, hinv⟩
  refine cw_seq ?_
  refine cw_region ?_
  refine co_y rfl rfl (y_int rfl trivial trivial rfl rfl rfl) ?_
  refine co_nil ?_
  refine cw_seq ?_
  refine cw_cond trivial rfl (fun h1 => ?_) (fun h1 => ?_)
  · have hlt : (i : Int) < h.bs.length := by simpa using h1
    obtain ⟨b, hb⟩ : ∃ b, h.bs[i]? = some b := ⟨h.bs[i]'(by omega), by simp⟩
    have hst := ord_step hb h.last
    refine cw_skip ?_
    refine cw_seq ?_
    refine cw_block ?_
    refine cw_seq ?_
    refine cw_region ?_
    refine co_y rfl rfl (y_move rfl trivial (by conv => lhs; whnf)) ?_
    refine co_y rfl rfl (y_index rfl trivial trivial rfl rfl Tryd.runUnderlying24 Tryd.sizeOf39 (by omega) (rows_get hb) rfl) ?_
    refine co_y rfl rfl (y_load_c rfl trivial rfl Tryd.isAgg39 Tryd.sizeOf39 (Nat.le_of_ble_eq_true rfl)) ?_
    refine co_d rfl rfl (d_alloc rfl Tryd.zeroValue39 rfl (.inr ⟨_, rfl⟩) ?_)
    refine co_y rfl rfl (y_assign rfl trivial (by conv => lhs; whnf)) ?_
    refine co_d rfl rfl (d_store rfl trivial trivial rfl (by conv => lhs; whnf) Tryd.sizeOf39 (.inr ⟨_, rfl⟩) rfl rfl (Nat.le_of_ble_eq_true rfl) ?_)
    refine co_nil ?_
    refine cw_seq ?_
    refine cw_region ?_
    refine co_y rfl rfl (y_field rfl trivial rfl Tryd.runUnderlying26 rfl Tryd.sizeOf3 (by decide)) ?_
    refine co_y rfl rfl (y_load1 rfl trivial rfl Tryd.isAgg3 rfl rfl) ?_
    refine co_y rfl rfl (y_assign rfl trivial (by conv => lhs; whnf)) ?_
    refine co_nil ?_
    refine cw_cutd hCC (α := Int) (fun nx => [(1, .ptr 0 0), (4, .ptr 1 0), (5, (.val (.int .i64 (nx)))), (7, (.list (h.bs.map Bkt.cv) h.nn none)), (8, (.val (.int .i64 ((h.bs.length : Int))))), (9, (.val (.int .i64 ((i : Int)))))]) (fun _ => [.box h.cells, .box b.cv]) (fun nx => nx = nxt h.bs i h.last) (fun _ _ => Nat.le_of_ble_eq_true rfl) (fun a ha => by repeat' (first | exact trivial | exact .val _ | exact .ptr (Nat.le_of_ble_eq_true rfl) | exact .map (Nat.le_of_ble_eq_true rfl) | exact old_bkts _ _ _ | refine old_box ?_ | refine ⟨?_, ?_⟩)) ?_ ?_
    · -- up to the cut
      refine cw_seq ?_
      refine cw_region ?_
      refine co_y rfl rfl (y_move rfl trivial (by conv => lhs; whnf)) ?_
      refine co_y rfl rfl (y_add rfl trivial rfl rfl rfl (by omega) (by omega)) ?_
      refine co_y rfl rfl (y_field rfl trivial rfl Tryd.runUnderlying26 rfl Tryd.sizeOf24 (by decide)) ?_
      refine co_y rfl rfl (y_load1 rfl trivial rfl Tryd.isAgg24 rfl rfl) ?_
      refine co_y rfl rfl (y_len rfl trivial rfl Tryd.runUnderlying24 (by first | exact len_map _ _ | rfl) rfl) ?_
      refine co_y rfl rfl (y_int rfl trivial trivial rfl rfl rfl) ?_
      refine co_nil ?_
      refine cw_cond trivial rfl (fun h2 => ?_) (fun h2 => ?_)
      · have hlt2 : (i : Int) + 1 < h.bs.length := by simpa using h2
        obtain ⟨c, hc⟩ : ∃ b, h.bs[i + 1]? = some b := ⟨h.bs[i + 1]'(by omega), by simp⟩
        refine cw_region ?_
        refine co_y rfl rfl (y_field rfl trivial rfl Tryd.runUnderlying26 rfl Tryd.sizeOf24 (by decide)) ?_
        refine co_y rfl rfl (y_load1 rfl trivial rfl Tryd.isAgg24 rfl rfl) ?_
        refine co_y rfl rfl (y_move rfl trivial (by conv => lhs; whnf)) ?_
        refine co_y rfl rfl (y_add rfl trivial rfl rfl rfl (by omega) (by omega)) ?_
        refine co_y rfl rfl (y_index rfl trivial trivial rfl rfl Tryd.runUnderlying24 Tryd.sizeOf39 (by omega) (rows_get (by rw [toNat_succ]; exact hc)) rfl) ?_
        refine co_y rfl rfl (y_field_c rfl trivial rfl Tryd.runUnderlying39 rfl Tryd.sizeOf3 (by decide)) ?_
        refine co_y rfl rfl (y_load_c1 rfl trivial rfl Tryd.isAgg3 rfl) ?_
        refine co_y rfl rfl (y_assign rfl trivial (by conv => lhs; whnf)) ?_
        refine co_nil ?_
        exact ⟨c.first, _, (nxt_some hc _).symm, ⟨⟨trivial, rfl⟩, ⟨trivial, rfl⟩, ⟨trivial, rfl⟩, ⟨trivial, rfl⟩, ⟨trivial, rfl⟩, ⟨trivial, rfl⟩, trivial⟩, rfl⟩
      · have hge2 : h.bs.length ≤ i + 1 := by
          have : ¬ (i : Int) + 1 < h.bs.length := by simpa using h2
          omega
        refine cw_skip ?_
        exact ⟨h.last, _, (nxt_none hge2 _).symm, ⟨⟨trivial, rfl⟩, ⟨trivial, rfl⟩, ⟨trivial, rfl⟩, ⟨trivial, rfl⟩, ⟨trivial, rfl⟩, ⟨trivial, rfl⟩, trivial⟩, rfl⟩
    · intro nx hnx
      refine cw_seq ?_
      refine cw_region ?_
      refine co_y rfl rfl (y_field rfl trivial rfl Tryd.runUnderlying39 rfl Tryd.sizeOf3 (by decide)) ?_
      refine co_y rfl rfl (y_load1 rfl trivial rfl Tryd.isAgg3 rfl rfl) ?_
      refine co_y rfl rfl (y_int rfl trivial rfl rfl rfl rfl) ?_
      refine co_y rfl rfl (y_move rfl trivial (by conv => lhs; whnf)) ?_
      refine co_g rfl rfl trivial rfl rfl (fun hg => y_field rfl trivial rfl Tryd.runUnderlying39 rfl Tryd.sizeOf3 (by decide)) ?_
      refine co_g rfl rfl trivial rfl rfl (fun hg => y_load1 rfl hg rfl Tryd.isAgg3 rfl rfl) ?_
      refine co_g rfl rfl trivial rfl rfl (fun hg => y_field rfl trivial rfl Tryd.runUnderlying39 rfl Tryd.sizeOf3 (by decide)) ?_
      refine co_g rfl rfl trivial rfl rfl (fun hg => y_load1 rfl hg rfl Tryd.isAgg3 rfl rfl) ?_
      refine co_g rfl rfl trivial rfl rfl (fun hg => y_int rfl hg hg rfl rfl rfl) ?_
      refine co_y rfl rfl (y_pick_or rfl trivial rfl (fun hp => hp) (fun _ => rfl)) ?_
      refine co_y rfl rfl (y_move rfl trivial (by conv => lhs; whnf)) ?_
      refine co_g rfl rfl trivial rfl rfl (fun hg => y_field rfl trivial rfl Tryd.runUnderlying39 rfl Tryd.sizeOf3 (by decide)) ?_
      refine co_g rfl rfl trivial rfl rfl (fun hg => y_load1 rfl hg rfl Tryd.isAgg3 rfl rfl) ?_
      refine co_g rfl rfl trivial rfl rfl (fun hg => y_move rfl trivial (by conv => lhs; whnf)) ?_
      refine co_g rfl rfl trivial rfl rfl (fun hg => y_int rfl hg hg rfl rfl rfl) ?_
      refine co_y rfl rfl (y_pick_or rfl trivial rfl (fun hp => hp) (fun _ => rfl)) ?_
      refine co_y rfl rfl (y_move rfl trivial (by conv => lhs; whnf)) ?_
      refine co_g rfl rfl trivial rfl rfl (fun hg => y_field rfl trivial rfl Tryd.runUnderlying39 rfl Tryd.sizeOf3 (by decide)) ?_
      refine co_g rfl rfl trivial rfl rfl (fun hg => y_load1 rfl hg rfl Tryd.isAgg3 rfl rfl) ?_
      refine co_g rfl rfl trivial rfl rfl (fun hg => y_int rfl hg rfl rfl rfl rfl) ?_
      refine co_g rfl rfl trivial rfl rfl (fun hg => y_move rfl hg (by conv => lhs; whnf)) ?_
      refine co_g2 rfl rfl (fun h => h) rfl rfl (fun hk hg => y_field rfl trivial rfl Tryd.runUnderlying39 rfl Tryd.sizeOf3 (by decide)) ?_
      refine co_g2 rfl rfl (fun h => h) rfl rfl (fun hk hg => y_load1 rfl ⟨hk, hg⟩ rfl Tryd.isAgg3 rfl rfl) ?_
      refine co_g2 rfl rfl (fun h => h) rfl rfl (fun hk hg => y_field rfl trivial rfl Tryd.runUnderlying39 rfl Tryd.sizeOf3 (by decide)) ?_
      refine co_g2 rfl rfl (fun h => h) rfl rfl (fun hk hg => y_load1 rfl ⟨hk, hg⟩ rfl Tryd.isAgg3 rfl rfl) ?_
      refine co_g2 rfl rfl (fun h => h) rfl rfl (fun hk hg => y_int rfl ⟨hk, hg⟩ ⟨hk, hg⟩ rfl rfl rfl) ?_
      refine co_g rfl rfl trivial rfl rfl (fun hg => y_pick_and rfl hg rfl (fun hp => ⟨hg, hp⟩) (fun _ => rfl)) ?_
      refine co_y rfl rfl (y_pick_or rfl trivial rfl (fun hp => hp) (fun _ => rfl)) ?_
      refine co_nil ?_
      refine cw_cond trivial rfl (fun h3 => ?_) (fun h3 => ?_)
      · have hbad : ¬ OrdP h.bs h.last := by
          rw [← hinv, hst, ← hnx]
          rintro ⟨⟨g1, g2, g3, g4⟩, -⟩
          simp at h3
          omega
        refine cw_seq ?_
        refine cw_region ?_
        refine co_y rfl rfl (y_assign rfl rfl (by conv => lhs; whnf)) ?_
        refine co_nil ?_
        refine cw_ret ?_
        exact ⟨_, res1 rfl trivial (by conv => lhs; whnf), _, _, rfl, rfl, cls_bool (pb_false hbad)⟩
      · have hgood : OrdP (h.bs.drop (i + 1)) h.last ↔ OrdP h.bs h.last := by
          rw [← hinv, hst, ← hnx]
          simp at h3
          exact ⟨fun g => ⟨⟨by omega, by omega, by omega, by omega⟩, g⟩, fun g => g.2⟩
        refine cw_skip ?_
        refine cw_region ?_
        refine co_y rfl rfl (y_add rfl trivial rfl rfl rfl (by omega) (by omega)) ?_
        refine co_y rfl rfl (y_move rfl trivial (by conv => lhs; whnf)) ?_
        refine co_nil ?_
        exact ⟨i + 1, _, ⟨by omega, by omega, hgood⟩, ⟨⟨trivial, rfl⟩, ⟨trivial, rfl⟩, ⟨trivial, rfl⟩, ⟨trivial, rfl⟩, trivial⟩, rfl⟩
  · have hge : ¬ (i : Int) < h.bs.length := by simpa using h1
    refine cw_exit ?_
    refine cw_seq ?_
    refine cw_region ?_
    refine co_y rfl rfl (y_assign rfl rfl (by conv => lhs; whnf)) ?_
    refine co_nil ?_
    refine cw_ret ?_
    exact ⟨_, res1 rfl trivial (by conv => lhs; whnf), _, _, rfl, rfl, cls_bool (pb_true (hinv.1 (by rw [List.drop_eq_nil_of_le (by omega)]; trivial)))⟩

theorem hi_ordered_s (h : Hist) (hl : h.bs.length ≤ 4294967296) (σ : List CObj) : CCalls CC 31 [.agg h.cells] σ fun r σ' => r = .ret (.val (.bool (pb (OrdP h.bs h.last)))) ∧ σ' = σ :=
  CCalls.anyw hCC (by repeat' (first | exact .val _ | exact pure_bkts _ _ | exact pure_ints _ _ | exact trivial | refine pure_agg ?_ | refine pure_tup ?_ | refine ⟨?_, ?_⟩)) (by repeat' (first | exact .val _ | exact pure_bkts _ _ | exact pure_ints _ _ | exact trivial | refine pure_agg ?_ | refine pure_tup ?_ | refine ⟨?_, ?_⟩)) (hi_ordered h hl) σ

set_option maxRecDepth 10000 in
theorem hi_sized (h : Hist) (hl : h.bs.length ≤ 4294967296) (hk : 2 ≤ h.k ∧ h.k ≤ 16) (hf : ∀ b ∈ h.bs, -9223372036854775808 ≤ b.count ∧ b.count ≤ 9223372036854775807) : CCalls CC 32 [.agg h.cells] [] fun r σ' => r = .ret (.val (.bool (pb (SizP h.bs h.k h.failed)))) ∧ σ' = [] := by
  refine ccalls_val (ccalls_of Tryd.func32 rfl rfl ?_)
  refine cw_seq ?_
  refine cw_region ?_
  refine co_d rfl rfl (d_box rfl trivial (by conv => lhs; whnf) (.inr ⟨_, rfl⟩) ?_)
  refine co_y rfl rfl (y_assign rfl rfl (by conv => lhs; whnf)) ?_
  refine co_nil ?_
  refine cw_seq ?_
  refine cw_region ?_
  refine co_d rfl rfl (d_makeMap rfl ?_)
  refine co_y rfl rfl (y_assign rfl rfl (by conv => lhs; whnf)) ?_
  refine co_y rfl rfl (y_assign rfl trivial (by conv => lhs; whnf)) ?_
  refine co_nil ?_
  refine cw_seq ?_
  refine cw_seq ?_
  refine cw_region ?_
  refine co_y rfl rfl (y_field rfl trivial rfl Tryd.runUnderlying26 rfl Tryd.sizeOf24 (by decide)) ?_
  refine co_y rfl rfl (y_load1 rfl trivial rfl Tryd.isAgg24 rfl rfl) ?_
  refine co_y rfl rfl (y_len rfl trivial rfl Tryd.runUnderlying24 (by first | exact len_map _ _ | rfl) rfl) ?_
  refine co_y rfl rfl (y_move rfl rfl (by conv => lhs; whnf)) ?_
  refine co_nil ?_
  refine cw_block ?_
  refine cw_loopd hCC (α := Nat × List (Int × Int)) (fun x => [(1, .ptr 0 0), (3, (.val (.int .i64 (sumC (h.bs.take x.1))))), (4, .map 1), (10, (.list (h.bs.map Bkt.cv) h.nn none)), (11, (.val (.int .i64 ((h.bs.length : Int))))), (12, (.val (.int .i64 ((x.1 : Int)))))]) (fun x => [.box h.cells, .map (iimap x.2)]) (fun x => x.1 ≤ h.bs.length ∧ (∀ c, ilk x.2 c = num (h.bs.take x.1) c) ∧ ∀ j b, j < x.1 → h.bs[j]? = some b → AtP h.bs h.k j b) (fun x => h.bs.length - x.1) (0, []) ⟨Nat.zero_le _, fun c => rfl, fun j b hj => absurd hj (Nat.not_lt_zero j)⟩ ⟨⟨trivial, rfl⟩, ⟨trivial, rfl⟩, ⟨trivial, rfl⟩, ⟨trivial, rfl⟩, ⟨trivial, rfl⟩, ⟨trivial, rfl⟩, trivial⟩ (extra0 := []) rfl (fun _ _ => Nat.le_of_ble_eq_true rfl) (fun a ha => by repeat' (first | exact trivial | exact .val _ | exact .ptr (Nat.le_of_ble_eq_true rfl) | exact .map (Nat.le_of_ble_eq_true rfl) | exact (by first | exact old_bkts _ _ _ | exact old_iimap _ _) | refine old_box ?_ | refine ⟨?_, ?_⟩)) ?_
  intro ⟨i, es⟩ ⟨hi, hes, hat⟩
  dsimp only at hi hes hat ⊢
  refine cw_seq ?_
  refine cw_region ?_
  refine co_y rfl rfl (y_int rfl trivial trivial rfl rfl rfl) ?_
  refine co_nil ?_
  refine cw_seq ?_
  refine cw_cond trivial rfl (fun h1 => ?_) (fun h1 => ?_)
  · have hlt : (i : Int) < h.bs.length := by simpa using h1
    obtain ⟨b, hb⟩ : ∃ b, h.bs[i]? = some b := ⟨h.bs[i]'(by omega), by simp⟩
    have hbr := hf b (List.mem_of_getElem? hb)
    have hn := num_nonneg (h.bs.take i) b.count
    have hl2 : (h.bs.take i).length ≤ i := List.length_take_le _ _
    have hs := sumC_bound (take_mem (P := fun b => 1 ≤ b.count ∧ b.count ≤ 1073741824) fun j b hj hb => ⟨(hat j b hj hb).1, (hat j b hj hb).2.1⟩)
    have hes' := hes b.count
    have hsum : sumC (h.bs.take (i + 1)) = sumC (h.bs.take i) + b.count := by
      rw [List.take_add_one, sumC_append, hb]; simp [sumC]
    obtain ⟨p, hp⟩ : ∃ p, 0 < i → h.bs[((i : Int) - 1).toNat]? = some p ∧ h.bs[i - 1]? = some p := by
      refine ⟨h.bs[i - 1]'(by omega), fun h0 => ?_⟩
      rw [show ((i : Int) - 1).toNat = i - 1 by omega]
      simp
    refine cw_skip ?_
    refine cw_seq ?_
    refine cw_block ?_
    refine cw_seq ?_
    refine cw_region ?_
    refine co_y rfl rfl (y_move rfl trivial (by conv => lhs; whnf)) ?_
    refine co_y rfl rfl (y_index rfl trivial trivial rfl rfl Tryd.runUnderlying24 Tryd.sizeOf39 (by omega) (rows_get hb) rfl) ?_
    refine co_y rfl rfl (y_load_c rfl trivial rfl Tryd.isAgg39 Tryd.sizeOf39 (Nat.le_of_ble_eq_true rfl)) ?_
    refine co_d rfl rfl (d_alloc rfl Tryd.zeroValue39 rfl (.inr ⟨_, rfl⟩) ?_)
    refine co_y rfl rfl (y_assign rfl trivial (by conv => lhs; whnf)) ?_
    refine co_d rfl rfl (d_store rfl trivial trivial rfl (by conv => lhs; whnf) Tryd.sizeOf39 (.inr ⟨_, rfl⟩) rfl rfl (Nat.le_of_ble_eq_true rfl) ?_)
    refine co_nil ?_
    refine cw_seq ?_
    refine cw_seq ?_
    refine cw_draw 42 [0, 1, 3, 7, 15, 31, 63, 127, 255, 511, 1023, 511, 2559, 6655, 16383, 32767, 65535, 131071, 262143, 524287, 1048575, 2097151, 4194303, 2097151, 10485759, 2097151, 35651583, 127926271, 262143999, 530579455, 1073741823, 2147483647, 4294967295, 8589934591, 17179869183, 17179869183, 51539607551, 137438953471, 17179869183, 292057776127, 1099511627775, 2199023255551] (by kernel_rfl) (by kernel_rfl) rfl ?_
    refine ch_y rfl (y_field rfl trivial rfl Tryd.runUnderlying39 rfl Tryd.sizeOf3 (by decide)) ?_
    refine ch_y rfl (y_load1 rfl trivial rfl Tryd.isAgg3 rfl rfl) ?_
    refine ch_y rfl (y_int rfl trivial rfl rfl rfl rfl) ?_
    refine ch_y rfl (y_move rfl trivial (by conv => lhs; whnf)) ?_
    refine ch_g rfl rfl trivial rfl (fun hg => y_field rfl trivial rfl Tryd.runUnderlying39 rfl Tryd.sizeOf3 (by decide)) ?_
    refine ch_g rfl rfl trivial rfl (fun hg => y_load1 rfl hg rfl Tryd.isAgg3 rfl rfl) ?_
    refine ch_g rfl rfl trivial rfl (fun hg => y_int rfl hg rfl rfl rfl rfl) ?_
    refine ch_y rfl (y_pick_or rfl trivial rfl (fun hp => hp) (fun _ => rfl)) ?_
    refine ch_y rfl (y_move rfl trivial (by conv => lhs; whnf)) ?_
    refine ch_g rfl rfl trivial rfl (fun hg => y_field rfl trivial rfl Tryd.runUnderlying39 rfl Tryd.sizeOf3 (by decide)) ?_
    refine ch_g rfl rfl trivial rfl (fun hg => y_load1 rfl hg rfl Tryd.isAgg3 rfl rfl) ?_
    refine ch_g rfl rfl trivial rfl (fun hg => y_field rfl trivial rfl Tryd.runUnderlying39 rfl Tryd.sizeOf3 (by decide)) ?_
    refine ch_g rfl rfl trivial rfl (fun hg => y_load1 rfl hg rfl Tryd.isAgg3 rfl rfl) ?_
    refine ch_g rfl rfl trivial rfl (fun hg => y_sub rfl hg rfl rfl rfl (by first | omega | (simp at hg; omega)) (by first | omega | (simp at hg; omega))) ?_
    refine ch_g rfl rfl trivial rfl (fun hg => y_and' rfl hg hg rfl rfl (by first | omega | (simp at hg; omega)) (by first | omega | (simp at hg; omega))) ?_
    refine ch_g rfl rfl trivial rfl (fun hg => y_int rfl hg rfl rfl rfl rfl) ?_
    refine ch_y rfl (y_pick_or rfl trivial rfl (fun hp => hp) (fun _ => rfl)) ?_
    refine ch_y rfl (y_move rfl trivial (by conv => lhs; whnf)) ?_
    refine ch_g rfl rfl trivial rfl (fun hg => y_move rfl trivial (by conv => lhs; whnf)) ?_
    refine ch_g rfl rfl trivial rfl (fun hg => y_int rfl hg rfl rfl rfl rfl) ?_
    refine ch_g rfl rfl trivial rfl (fun hg => y_move rfl hg (by conv => lhs; whnf)) ?_
    refine ch_g2 rfl rfl (fun h => h) rfl (fun hk hg => y_field rfl trivial rfl Tryd.runUnderlying39 rfl Tryd.sizeOf3 (by decide)) ?_
    refine ch_g2 rfl rfl (fun h => h) rfl (fun hk hg => y_load1 rfl ⟨hk, hg⟩ rfl Tryd.isAgg3 rfl rfl) ?_
    refine ch_g2 rfl rfl (fun h => h) rfl (fun hk hg => y_field rfl trivial rfl Tryd.runUnderlying26 rfl Tryd.sizeOf24 (by decide)) ?_
    refine ch_g2 rfl rfl (fun h => h) rfl (fun hk hg => y_load1 rfl ⟨hk, hg⟩ rfl Tryd.isAgg24 rfl rfl) ?_
    refine ch_g2 rfl rfl (fun h => h) rfl (fun hk hg => y_move rfl trivial (by conv => lhs; whnf)) ?_
    refine ch_g2 rfl rfl (fun h => h) rfl (fun hk hg => y_sub rfl ⟨hk, hg⟩ rfl rfl rfl (by first | omega | (simp at hk hg; omega) | (change (_ : Bool) = _ at hk; simp at hk hg; omega)) (by first | omega | (simp at hk hg; omega) | (change (_ : Bool) = _ at hk; simp at hk hg; omega))) ?_
    refine ch_g2 rfl rfl (fun h => h) rfl (fun hk hg => y_index rfl ⟨hk, hg⟩ ⟨hk, hg⟩ rfl rfl Tryd.runUnderlying24 Tryd.sizeOf39 (by first | omega | (simp at hk hg; omega) | (change (_ : Bool) = _ at hk; simp at hk hg; omega)) (rows_get (hp (by simp at hk hg; omega)).1) rfl) ?_
    refine ch_g2 rfl rfl (fun h => h) rfl (fun hk hg => y_field_c rfl ⟨hk, hg⟩ rfl Tryd.runUnderlying39 rfl Tryd.sizeOf3 (by decide)) ?_
    refine ch_g2 rfl rfl (fun h => h) rfl (fun hk hg => y_load_c1 rfl ⟨hk, hg⟩ rfl Tryd.isAgg3 rfl) ?_
    refine ch_g2 rfl rfl (fun h => h) rfl (fun hk hg => y_int rfl ⟨hk, hg⟩ ⟨hk, hg⟩ rfl rfl rfl) ?_
    refine ch_g rfl rfl trivial rfl (fun hg => y_pick_and rfl hg rfl (fun hp => ⟨hg, hp⟩) (fun _ => rfl)) ?_
    refine ch_y rfl (y_pick_or rfl trivial rfl (fun hp => hp) (fun _ => rfl)) ?_
    refine ch_y rfl (y_move rfl trivial (by conv => lhs; whnf)) ?_
    refine ch_g rfl rfl trivial rfl (fun hg => y_move rfl trivial (by conv => lhs; whnf)) ?_
    refine ch_g rfl rfl trivial rfl (fun hg => y_field rfl trivial rfl Tryd.runUnderlying39 rfl Tryd.sizeOf3 (by decide)) ?_
    refine ch_g rfl rfl trivial rfl (fun hg => y_load1 rfl hg rfl Tryd.isAgg3 rfl rfl) ?_
    refine ch_g rfl rfl trivial rfl (fun hg => y_lookup_ii rfl hg hg rfl rfl Tryd.runUnderlying61 Tryd.runUnderlying3 Tryd.zeroValue3 rfl) ?_
    refine ch_g rfl rfl trivial rfl (fun hg => y_field rfl trivial rfl Tryd.runUnderlying26 rfl Tryd.sizeOf3 (by decide)) ?_
    refine ch_g rfl rfl trivial rfl (fun hg => y_load1 rfl hg rfl Tryd.isAgg3 rfl rfl) ?_
    refine ch_g rfl rfl trivial rfl (fun hg => y_int rfl hg hg rfl rfl rfl) ?_
    refine ch_y rfl (y_pick_or rfl trivial rfl (fun hp => hp) (fun _ => rfl)) ?_
    refine ch_nil ?_
    refine co_nil ?_
    refine cw_cond trivial rfl (fun h2 => ?_) (fun h2 => ?_)
    · have hbad : ¬ SizP h.bs h.k h.failed := fun hS => by
        obtain ⟨g1, g2, g3, g4, g5⟩ := hS.1 i b hb
        rw [hes'] at h2
        have g3' := (isP_and g1).2 g3
        simp at h2
        rcases h2 with (((h2 | h2) | h2) | h2) | h2
        · omega
        · omega
        · exact h2 g3'
        · have := g4 p h2.1 (hp h2.1).2
          omega
        · exact g5 h2
      refine cw_seq ?_
      refine cw_region ?_
      refine co_y rfl rfl (y_assign rfl rfl (by conv => lhs; whnf)) ?_
      refine co_nil ?_
      refine cw_ret ?_
      exact ⟨_, res1 rfl trivial (by conv => lhs; whnf), _, _, rfl, rfl, cls_bool (pb_false hbad)⟩
    · have hgood : AtP h.bs h.k i b := by
        simp at h2
        obtain ⟨⟨⟨⟨q1, q2⟩, q3⟩, q4⟩, q5⟩ := h2
        refine ⟨q1, q2, (isP_and q1).1 q3, fun p' h0 hp' => ?_, by rw [← hes']; exact q5⟩
        have e := (hp h0).2
        rw [hp'] at e
        rw [Option.some.inj e]
        exact q4 h0
      have hgc := hgood
      obtain ⟨g1, g2, g3, g4, g5⟩ := hgc
      have hnes : ∀ c, ilk (iset es b.count (ilk es b.count + 1)) c = num (h.bs.take (i + 1)) c := fun c => by
        rw [ilk_iset, List.take_add_one, num_append, hb]
        simp only [Option.toList, num]
        by_cases hc : c = b.count
        · rw [if_pos hc, if_pos hc.symm, hc, hes']; omega
        · rw [if_neg hc, if_neg (fun e => hc e.symm), hes c]; omega
      have hnat : ∀ (j : Nat) (b' : Bkt), j < i + 1 → h.bs[j]? = some b' → AtP h.bs h.k j b' := fun j b' hj hb' => by
        rcases Nat.lt_or_ge j i with hji | hji
        · exact hat j b' hji hb'
        · obtain rfl : j = i := by omega
          rw [hb] at hb'; cases hb'; exact hgood
      refine cw_skip ?_
      refine cw_seq ?_
      refine cw_region ?_
      refine co_y rfl rfl (y_move rfl trivial (by conv => lhs; whnf)) ?_
      refine co_y rfl rfl (y_field rfl trivial rfl Tryd.runUnderlying39 rfl Tryd.sizeOf3 (by decide)) ?_
      refine co_y rfl rfl (y_load1 rfl trivial rfl Tryd.isAgg3 rfl rfl) ?_
      refine co_y rfl rfl (y_add rfl trivial trivial rfl rfl (by omega) (by omega)) ?_
      refine co_y rfl rfl (y_assign rfl trivial (by conv => lhs; whnf)) ?_
      refine co_nil ?_
      refine cw_region ?_
      refine co_y rfl rfl (y_move rfl trivial (by conv => lhs; whnf)) ?_
      refine co_y rfl rfl (y_field rfl trivial rfl Tryd.runUnderlying39 rfl Tryd.sizeOf3 (by decide)) ?_
      refine co_y rfl rfl (y_load1 rfl trivial rfl Tryd.isAgg3 rfl rfl) ?_
      refine co_y rfl rfl (y_lookup_ii rfl trivial trivial rfl rfl Tryd.runUnderlying61 Tryd.runUnderlying3 Tryd.zeroValue3 rfl) ?_
      refine co_y rfl rfl (y_add rfl trivial rfl rfl rfl (by omega) (by omega)) ?_
      refine co_d rfl rfl (d_mapUpdate_ii rfl trivial trivial trivial rfl rfl rfl Tryd.runUnderlying61 Tryd.runUnderlying3 rfl ?_)
      refine co_nil ?_
      refine cw_region ?_
      refine co_y rfl rfl (y_add rfl trivial rfl rfl rfl (by omega) (by omega)) ?_
      refine co_y rfl rfl (y_move rfl trivial (by conv => lhs; whnf)) ?_
      refine co_nil ?_
      exact ⟨(i + 1, iset es b.count (ilk es b.count + 1)), _, ⟨by simp only; omega, by simp only; omega, hnes, hnat⟩, ⟨⟨trivial, rfl⟩, ⟨trivial, (by rw [hsum]; rfl)⟩, ⟨trivial, rfl⟩, ⟨trivial, rfl⟩, ⟨trivial, rfl⟩, ⟨trivial, rfl⟩, trivial⟩, rfl⟩
  · have hge : ¬ (i : Int) < h.bs.length := by simpa using h1
    obtain rfl : i = h.bs.length := by omega
    rw [List.take_length] at hes
    have hat' : ∀ j b, h.bs[j]? = some b → AtP h.bs h.k j b := fun j b hj => hat j b (List.getElem?_eq_some_iff.1 hj).1 hj
    have htl := List.take_length (l := h.bs)
    refine cw_exit ?_
    refine cw_seq ?_
    refine cw_seq ?_
    refine cw_region ?_
    refine co_y rfl rfl (y_field rfl trivial rfl Tryd.runUnderlying26 rfl Tryd.sizeOf24 (by decide)) ?_
    refine co_y rfl rfl (y_load1 rfl trivial rfl Tryd.isAgg24 rfl rfl) ?_
    refine co_y rfl rfl (y_len rfl trivial rfl Tryd.runUnderlying24 (by first | exact len_map _ _ | rfl) rfl) ?_
    refine co_y rfl rfl (y_int rfl trivial rfl rfl rfl rfl) ?_
    refine co_nil ?_
    refine cw_cond trivial rfl (fun h3 => ?_) (fun h3 => ?_)
    · have he : h.bs = [] := by
        have : (h.bs.length : Int) = 0 := by simpa using h3
        exact List.eq_nil_of_length_eq_zero (by omega)
      refine cw_seq ?_
      refine cw_region ?_
      refine co_y rfl rfl (y_field rfl trivial rfl Tryd.runUnderlying26 rfl Tryd.sizeOf3 (by decide)) ?_
      refine co_y rfl rfl (y_load1 rfl trivial rfl Tryd.isAgg3 rfl rfl) ?_
      refine co_y rfl rfl (y_int rfl trivial rfl rfl rfl rfl) ?_
      refine co_y rfl rfl (y_assign rfl trivial (by conv => lhs; whnf)) ?_
      refine co_nil ?_
      refine cw_ret ?_
      exact ⟨_, res1 rfl trivial (by conv => lhs; whnf), _, _, rfl, rfl, cls_bool (pb_iff (by rw [SizP, he]; simp [sumC]; exact eq_comm))⟩
    · have hne : ¬ (h.bs.length : Int) = 0 := by simpa using h3
      obtain ⟨b, hb⟩ : ∃ b, h.bs[0]? = some b := ⟨h.bs[0]'(by omega), by simp⟩
      obtain ⟨b1, b2, -, -, -⟩ := hat' 0 b hb
      refine cw_skip ?_
      refine cw_seq ?_
      refine cw_seq ?_
      refine cw_region ?_
      refine co_y rfl rfl (y_assign rfl rfl (by conv => lhs; whnf)) ?_
      refine co_nil ?_
      refine cw_block ?_
      refine cw_loopd hCC (α := Nat) (fun j => [(1, .ptr 0 0), (3, (.val (.int .i64 (sumC h.bs)))), (4, .map 1), (7, (.val (.int .i64 (2 ^ j))))]) (fun _ => [.box h.cells, .map (iimap es)]) (fun j => (1 ≤ (2 : Int) ^ j ∧ (2 : Int) ^ j ≤ 2147483648) ∧ ∀ j', j' < j → h.k - 1 ≤ num h.bs (2 ^ j')) (fun j => (2147483649 - (2 : Int) ^ j).toNat) 0 ⟨by decide, fun j hj => absurd hj (Nat.not_lt_zero j)⟩ ⟨⟨trivial, rfl⟩, ⟨trivial, (by simp only [htl]; rfl)⟩, ⟨trivial, rfl⟩, ⟨trivial, rfl⟩, trivial⟩ (extra0 := []) rfl (fun _ _ => Nat.le_of_ble_eq_true rfl) (fun a ha => by repeat' (first | exact trivial | exact .val _ | exact .ptr (Nat.le_of_ble_eq_true rfl) | exact .map (Nat.le_of_ble_eq_true rfl) | exact (by first | exact old_bkts _ _ _ | exact old_iimap _ _) | refine old_box ?_ | refine ⟨?_, ?_⟩)) ?_
      intro j ⟨⟨hj1, hj2⟩, hinv⟩
      refine cw_seq ?_
      refine cw_seq ?_
      refine cw_region ?_
      refine co_y rfl rfl (y_move rfl trivial (by conv => lhs; whnf)) ?_
      refine co_y rfl rfl (y_field rfl trivial rfl Tryd.runUnderlying26 rfl Tryd.sizeOf24 (by decide)) ?_
      refine co_y rfl rfl (y_load1 rfl trivial rfl Tryd.isAgg24 rfl rfl) ?_
      refine co_y rfl rfl (y_index rfl trivial rfl rfl rfl Tryd.runUnderlying24 Tryd.sizeOf39 (by omega) (rows_get hb) rfl) ?_
      refine co_y rfl rfl (y_field_c rfl trivial rfl Tryd.runUnderlying39 rfl Tryd.sizeOf3 (by decide)) ?_
      refine co_y rfl rfl (y_load_c1 rfl trivial rfl Tryd.isAgg3 rfl) ?_
      refine co_y rfl rfl (y_int rfl trivial trivial rfl rfl rfl) ?_
      refine co_nil ?_
      refine cw_cond trivial rfl (fun h4 => ?_) (fun h4 => ?_)
      · have hlt : (2 : Int) ^ j < b.count := by simpa using h4
        have hes' := hes (2 ^ j)
        have hpow : (2 : Int) ^ (j + 1) = 2 ^ j * 2 := Int.pow_succ 2 j
        refine cw_skip ?_
        refine cw_seq ?_
        refine cw_block ?_
        refine cw_seq ?_
        refine cw_region ?_
        refine co_y rfl rfl (y_move rfl trivial (by conv => lhs; whnf)) ?_
        refine co_y rfl rfl (y_move rfl trivial (by conv => lhs; whnf)) ?_
        refine co_y rfl rfl (y_lookup_ii rfl trivial trivial rfl rfl Tryd.runUnderlying61 Tryd.runUnderlying3 Tryd.zeroValue3 rfl) ?_
        refine co_y rfl rfl (y_field rfl trivial rfl Tryd.runUnderlying26 rfl Tryd.sizeOf3 (by decide)) ?_
        refine co_y rfl rfl (y_load1 rfl trivial rfl Tryd.isAgg3 rfl rfl) ?_
        refine co_y rfl rfl (y_sub rfl trivial rfl rfl rfl (by omega) (by omega)) ?_
        refine co_y rfl rfl (y_int rfl trivial trivial rfl rfl rfl) ?_
        refine co_nil ?_
        refine cw_cond trivial rfl (fun h5 => ?_) (fun h5 => ?_)
        · have hlt5 : ilk es (2 ^ j) < h.k - 1 := by simpa using h5
          refine cw_seq ?_
          refine cw_region ?_
          refine co_y rfl rfl (y_assign rfl rfl (by conv => lhs; whnf)) ?_
          refine co_nil ?_
          refine cw_ret ?_
          exact ⟨_, res1 rfl trivial (by conv => lhs; whnf), _, _, rfl, rfl, cls_bool (pb_false fun hS => (by have := hS.2.1 j b hb hlt; omega))⟩
        · have hlt5 : ¬ ilk es (2 ^ j) < h.k - 1 := by simpa using h5
          have hninv : ∀ j', j' < j + 1 → h.k - 1 ≤ num h.bs (2 ^ j') := fun j' hj' => by
            rcases Nat.lt_or_ge j' j with hji | hji
            · exact hinv j' hji
            · obtain rfl : j' = j := by omega
              omega
          refine cw_skip ?_
          refine cw_region ?_
          refine co_y rfl rfl (y_move rfl trivial (by conv => lhs; whnf)) ?_
          refine co_y rfl rfl (y_mul rfl trivial rfl rfl rfl (by omega) (by omega)) ?_
          refine co_y rfl rfl (y_assign rfl trivial (by conv => lhs; whnf)) ?_
          refine co_nil ?_
          exact ⟨j + 1, _, ⟨by simp only [hpow]; omega, ⟨by rw [hpow]; omega, by rw [hpow]; omega⟩, hninv⟩, ⟨⟨trivial, rfl⟩, ⟨trivial, rfl⟩, ⟨trivial, rfl⟩, ⟨trivial, (by rw [hpow]; rfl)⟩, trivial⟩, rfl⟩
      · have hlt : ¬ (2 : Int) ^ j < b.count := by simpa using h4
        refine cw_exit ?_
        refine cw_seq ?_
        refine cw_region ?_
        refine co_y rfl rfl (y_move rfl trivial (by conv => lhs; whnf)) ?_
        refine co_y rfl rfl (y_field rfl trivial rfl Tryd.runUnderlying26 rfl Tryd.sizeOf3 (by decide)) ?_
        refine co_y rfl rfl (y_load1 rfl trivial rfl Tryd.isAgg3 rfl rfl) ?_
        refine co_y rfl rfl (y_int rfl trivial trivial rfl rfl rfl) ?_
        refine co_y rfl rfl (y_assign rfl trivial (by conv => lhs; whnf)) ?_
        refine co_nil ?_
        refine cw_ret ?_
        exact ⟨_, res1 rfl trivial (by conv => lhs; whnf), _, _, rfl, rfl, cls_bool (pb_iff (by simp only [beq_iff_eq]; exact ⟨fun e => ⟨hat', fun j' b' hb' hj' => hinv j' (Nat.lt_of_not_le fun hle => hlt (by rw [hb] at hb'; cases hb'; exact Int.lt_of_le_of_lt (pow2_mono hle) hj')), e⟩, fun hS => hS.2.2⟩))⟩

theorem hi_sized_s (h : Hist) (hl : h.bs.length ≤ 4294967296) (hk : 2 ≤ h.k ∧ h.k ≤ 16) (hf : ∀ b ∈ h.bs, -9223372036854775808 ≤ b.count ∧ b.count ≤ 9223372036854775807) (σ : List CObj) : CCalls CC 32 [.agg h.cells] σ fun r σ' => r = .ret (.val (.bool (pb (SizP h.bs h.k h.failed)))) ∧ σ' = σ :=
  CCalls.anyw hCC (by repeat' (first | exact .val _ | exact pure_bkts _ _ | exact pure_ints _ _ | exact trivial | refine pure_agg ?_ | refine pure_tup ?_ | refine ⟨?_, ?_⟩)) (by repeat' (first | exact .val _ | exact pure_bkts _ _ | exact pure_ints _ _ | exact trivial | refine pure_agg ?_ | refine pure_tup ?_ | refine ⟨?_, ?_⟩)) (hi_sized h hl hk hf) σ

end Go.Proofs.YtkhebelajdcjgaaDoor
