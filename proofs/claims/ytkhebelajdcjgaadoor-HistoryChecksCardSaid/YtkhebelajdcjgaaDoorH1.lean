import Derived.Test.YtkhebelajdcjgaaDoorK15
import Derived.Test.YtkhebelajdcjgaaDoorProg
namespace Go.Proofs.YtkhebelajdcjgaaDoor
open Go Go.Cl

def nm : List CV := [.val (.string ⟨#[112]⟩), .val (.string ⟨#[116]⟩)]
noncomputable def CC : Ctx := { P := Tryd.prog, glob := fun g => match g with | 0 => some nm | _ => none }
theorem hCC : CC.plain := fun g cells h => by
  have : cells = nm := by
    rcases g with _ | g
    · exact (Option.some.inj h).symm
    · cases h
  subst this
  exact Pures.all ⟨.val _, .val _, trivial⟩

structure Bkt where
  first : Int
  last : Int
  count : Int
deriving DecidableEq
def Bkt.cv (b : Bkt) : List CV := [.val (.int .i64 b.first), .val (.int .i64 b.last), .val (.int .i64 b.count)]
def icv (x : Int) : List CV := [.val (.int .i64 x)]

structure Hist where
  pkg : ByteArray
  test : ByteArray
  env : Int
  k : Int
  runs : Int
  failed : Int
  last : Int
  bs : List Bkt
  nn : Bool
abbrev Hist.cells (h : Hist) : List CV := [.val (.string h.pkg), .val (.string h.test), .val (.int .i64 h.env), .val (.int .i64 h.k), .val (.int .i64 h.runs), .val (.int .i64 h.failed), .val (.int .i64 h.last), .list (h.bs.map Bkt.cv) h.nn none]
theorem pure_bkts (l : List Bkt) (nn : Bool) : Pure (.list (l.map Bkt.cv) nn none) := pure_rows (f := Bkt.cv) (fun _ => ⟨.val _, .val _, .val _, trivial⟩) l nn
theorem pure_ints (l : List Int) (nn : Bool) : Pure (.list (l.map icv) nn none) := pure_rows (f := icv) (fun _ => ⟨.val _, trivial⟩) l nn
theorem old_bkts (n : Nat) (l : List Bkt) (nn : Bool) : Old n (.list (l.map Bkt.cv) nn none) := (pure_bkts l nn).old
theorem old_ints (n : Nat) (l : List Int) (nn : Bool) : Old n (.list (l.map icv) nn none) := (pure_ints l nn).old

def usable (pkg test : ByteArray) : Bool := decide (0 < (pkg.size : Int)) && decide ((pkg.size : Int) ≤ 24) && decide (0 < (test.size : Int)) && decide ((test.size : Int) ≤ 24)
def place (n : Int) : Bool := decide (0 ≤ n) && decide (n ≤ 63)
def fold (v n : Int) : Int := if n ≤ 1 then 0 else v % n
def isP (n : Int) : Bool := decide (1 ≤ n ∧ n.toNat.isPowerOfTwo)
def num : List Bkt → Int → Int
  | [], _ => 0
  | b :: l, s => (if b.count = s then 1 else 0) + num l s
theorem num_nonneg : ∀ (l : List Bkt) (s : Int), 0 ≤ num l s ∧ num l s ≤ l.length
  | [], _ => by simp [num]
  | b :: l, s => by have := num_nonneg l s; simp only [num, List.length_cons]; split <;> omega
theorem num_append : ∀ (l r : List Bkt) (s : Int), num (l ++ r) s = num l s + num r s
  | [], _, _ => by simp [num]
  | b :: l, r, s => by simp [num, num_append l r s, Int.add_assoc]
def fromN : List Int → Int → Int
  | [], _ => 0
  | b :: l, s => (if s ≤ b then 1 else 0) + fromN l s
theorem fromN_nonneg : ∀ (l : List Int) (s : Int), 0 ≤ fromN l s ∧ fromN l s ≤ l.length
  | [], _ => by simp [fromN]
  | b :: l, s => by have := fromN_nonneg l s; simp only [fromN, List.length_cons]; split <;> omega
theorem fromN_append : ∀ (l r : List Int) (s : Int), fromN (l ++ r) s = fromN l s + fromN r s
  | [], _, _ => by simp [fromN]
  | b :: l, r, s => by simp [fromN, fromN_append l r s, Int.add_assoc]

theorem toList_len (b : ByteArray) : b.toList.length = b.size := by
  have h : ∀ (n : Nat) (i : Nat) (acc : List UInt8), n = b.size - i → (ByteArray.toList.loop b i acc).length = acc.length + (b.size - i) := by
    intro n
    induction n with
    | zero => intro i acc h; rw [ByteArray.toList.loop, if_neg (by omega)]; simp; omega
    | succ n ih => intro i acc h; rw [ByteArray.toList.loop, if_pos (by omega), ih (i + 1) _ (by omega)]; simp; omega
  simpa [ByteArray.toList] using h _ 0 [] rfl
theorem emp_pos (b : ByteArray) : (!b.toList.isEmpty) = decide (0 < b.size) := by
  rw [← toList_len b]
  cases b.toList <;> simp
theorem isP_odd {n : Int} (h : 1 < n) (ho : n % 2 ≠ 0) : isP n = false := by
  refine decide_eq_false fun ⟨_, k, hk⟩ => ?_
  rcases k with _ | k
  · omega
  · rw [Nat.pow_succ] at hk; omega
theorem isP_even {n : Int} (h : 1 < n) (ho : n % 2 = 0) : isP (n / 2) = isP n := by
  unfold isP
  congr 1
  refine propext ⟨fun ⟨h1, k, hk⟩ => ⟨by omega, k + 1, by rw [Nat.pow_succ]; omega⟩, fun ⟨h1, k, hk⟩ => ?_⟩
  rcases k with _ | k
  · simp at hk; omega
  · rw [Nat.pow_succ] at hk; exact ⟨by omega, k, by omega⟩
theorem isP_small {n : Int} (h : ¬ 1 < n) : isP n = decide (n = 1) := by
  unfold isP
  congr 1
  refine propext ⟨fun ⟨h1, _⟩ => by omega, fun h1 => ⟨by omega, 0, by simp [h1]⟩⟩

set_option maxRecDepth 10000 in
theorem hi_usable (pkg test : ByteArray) : CCalls CC 28 [.agg [(.val (.string (pkg))), (.val (.string (test)))]] [] fun r σ' => r = .ret (.val (.bool (usable pkg test))) ∧ σ' = [] := by
  refine ccalls_val (ccalls_of Tryd.func28 rfl rfl ?_)
  refine cw_seq ?_
  refine cw_region ?_
  refine co_d rfl rfl (d_box rfl trivial (by conv => lhs; whnf) (.inr ⟨_, rfl⟩) ?_)
  refine co_y rfl rfl (y_assign rfl rfl (by conv => lhs; whnf)) ?_
  refine co_nil ?_
  refine cw_seq ?_
  refine cw_region ?_
  refine co_y rfl rfl (y_field rfl trivial rfl Tryd.runUnderlying23 rfl Tryd.sizeOf9 (by decide)) ?_
  refine co_y rfl rfl (y_load1 rfl trivial rfl Tryd.isAgg9 rfl rfl) ?_
  refine co_y rfl rfl (y_strcmp rfl trivial rfl rfl rfl rfl) ?_
  refine co_y rfl rfl (y_move rfl trivial (by conv => lhs; whnf)) ?_
  refine co_g rfl rfl trivial rfl rfl (fun hg => y_field rfl trivial rfl Tryd.runUnderlying23 rfl Tryd.sizeOf9 (by decide)) ?_
  refine co_g rfl rfl trivial rfl rfl (fun hg => y_load1 rfl hg rfl Tryd.isAgg9 rfl rfl) ?_
  refine co_g rfl rfl trivial rfl rfl (fun hg => y_len_str rfl hg rfl Tryd.runUnderlying9 rfl rfl) ?_
  refine co_g rfl rfl trivial rfl rfl (fun hg => y_int rfl hg rfl rfl rfl rfl) ?_
  refine co_y rfl rfl (y_pick_and rfl trivial rfl (fun hp => hp) (fun _ => rfl)) ?_
  refine co_y rfl rfl (y_move rfl trivial (by conv => lhs; whnf)) ?_
  refine co_g rfl rfl trivial rfl rfl (fun hg => y_field rfl trivial rfl Tryd.runUnderlying23 rfl Tryd.sizeOf9 (by decide)) ?_
  refine co_g rfl rfl trivial rfl rfl (fun hg => y_load1 rfl hg rfl Tryd.isAgg9 rfl rfl) ?_
  refine co_g rfl rfl trivial rfl rfl (fun hg => y_strcmp rfl hg rfl rfl rfl rfl) ?_
  refine co_y rfl rfl (y_pick_and rfl trivial rfl (fun hp => hp) (fun _ => rfl)) ?_
  refine co_y rfl rfl (y_move rfl trivial (by conv => lhs; whnf)) ?_
  refine co_g rfl rfl trivial rfl rfl (fun hg => y_field rfl trivial rfl Tryd.runUnderlying23 rfl Tryd.sizeOf9 (by decide)) ?_
  refine co_g rfl rfl trivial rfl rfl (fun hg => y_load1 rfl hg rfl Tryd.isAgg9 rfl rfl) ?_
  refine co_g rfl rfl trivial rfl rfl (fun hg => y_len_str rfl hg rfl Tryd.runUnderlying9 rfl rfl) ?_
  refine co_g rfl rfl trivial rfl rfl (fun hg => y_int rfl hg rfl rfl rfl rfl) ?_
  refine co_y rfl rfl (y_pick_and rfl trivial rfl (fun hp => hp) (fun _ => rfl)) ?_
  refine co_y rfl rfl (y_assign rfl trivial (by conv => lhs; whnf)) ?_
  refine co_nil ?_
  refine cw_ret ?_
  exact ⟨_, res1 rfl trivial (by conv => lhs; whnf), _, _, rfl, rfl, cls_bool (by
      first
      | (unfold usable; simp [Bool.and_assoc]; rw [emp_pos, emp_pos]; done)
      | (unfold usable; simp [Bool.and_assoc]; done))⟩

theorem hi_usable_s (pkg test : ByteArray) (σ : List CObj) : CCalls CC 28 [.agg [(.val (.string (pkg))), (.val (.string (test)))]] σ fun r σ' => r = .ret (.val (.bool (usable pkg test))) ∧ σ' = σ :=
  CCalls.anyw hCC (by repeat' (first | exact .val _ | exact pure_bkts _ _ | exact pure_ints _ _ | exact trivial | refine pure_agg ?_ | refine pure_tup ?_ | refine ⟨?_, ?_⟩)) (by repeat' (first | exact .val _ | exact pure_bkts _ _ | exact pure_ints _ _ | exact trivial | refine pure_agg ?_ | refine pure_tup ?_ | refine ⟨?_, ?_⟩)) (hi_usable pkg test) σ

set_option maxRecDepth 10000 in
theorem re_Usable (pkg test : ByteArray) : CCalls CC 29 [.agg [(.val (.string (pkg))), (.val (.string (test)))]] [] fun r σ' => r = .ret (.val (.bool (usable pkg test))) ∧ σ' = [] := by
  refine ccalls_val (ccalls_of Tryd.func29 rfl rfl ?_)
  refine cw_seq ?_
  refine cw_region ?_
  refine co_d rfl rfl (d_box rfl trivial (by conv => lhs; whnf) (.inr ⟨_, rfl⟩) ?_)
  refine co_y rfl rfl (y_assign rfl rfl (by conv => lhs; whnf)) ?_
  refine co_nil ?_
  refine cw_seq ?_
  refine cw_region ?_
  refine co_y rfl rfl (y_field rfl trivial rfl Tryd.runUnderlying23 rfl Tryd.sizeOf9 (by decide)) ?_
  refine co_y rfl rfl (y_load1 rfl trivial rfl Tryd.isAgg9 rfl rfl) ?_
  refine co_y rfl rfl (y_len_str rfl trivial rfl Tryd.runUnderlying9 rfl rfl) ?_
  refine co_y rfl rfl (y_int rfl trivial rfl rfl rfl rfl) ?_
  refine co_y rfl rfl (y_move rfl trivial (by conv => lhs; whnf)) ?_
  refine co_g rfl rfl trivial rfl rfl (fun hg => y_field rfl trivial rfl Tryd.runUnderlying23 rfl Tryd.sizeOf9 (by decide)) ?_
  refine co_g rfl rfl trivial rfl rfl (fun hg => y_load1 rfl hg rfl Tryd.isAgg9 rfl rfl) ?_
  refine co_g rfl rfl trivial rfl rfl (fun hg => y_len_str rfl hg rfl Tryd.runUnderlying9 rfl rfl) ?_
  refine co_g rfl rfl trivial rfl rfl (fun hg => y_int rfl hg rfl rfl rfl rfl) ?_
  refine co_y rfl rfl (y_pick_and rfl trivial rfl (fun hp => hp) (fun _ => rfl)) ?_
  refine co_y rfl rfl (y_move rfl trivial (by conv => lhs; whnf)) ?_
  refine co_g rfl rfl trivial rfl rfl (fun hg => y_field rfl trivial rfl Tryd.runUnderlying23 rfl Tryd.sizeOf9 (by decide)) ?_
  refine co_g rfl rfl trivial rfl rfl (fun hg => y_load1 rfl hg rfl Tryd.isAgg9 rfl rfl) ?_
  refine co_g rfl rfl trivial rfl rfl (fun hg => y_len_str rfl hg rfl Tryd.runUnderlying9 rfl rfl) ?_
  refine co_g rfl rfl trivial rfl rfl (fun hg => y_int rfl hg rfl rfl rfl rfl) ?_
  refine co_y rfl rfl (y_pick_and rfl trivial rfl (fun hp => hp) (fun _ => rfl)) ?_
  refine co_y rfl rfl (y_move rfl trivial (by conv => lhs; whnf)) ?_
  refine co_g rfl rfl trivial rfl rfl (fun hg => y_field rfl trivial rfl Tryd.runUnderlying23 rfl Tryd.sizeOf9 (by decide)) ?_
  refine co_g rfl rfl trivial rfl rfl (fun hg => y_load1 rfl hg rfl Tryd.isAgg9 rfl rfl) ?_
  refine co_g rfl rfl trivial rfl rfl (fun hg => y_len_str rfl hg rfl Tryd.runUnderlying9 rfl rfl) ?_
  refine co_g rfl rfl trivial rfl rfl (fun hg => y_int rfl hg rfl rfl rfl rfl) ?_
  refine co_y rfl rfl (y_pick_and rfl trivial rfl (fun hp => hp) (fun _ => rfl)) ?_
  refine co_y rfl rfl (y_assign rfl trivial (by conv => lhs; whnf)) ?_
  refine co_nil ?_
  refine cw_ret ?_
  exact ⟨_, res1 rfl trivial (by conv => lhs; whnf), _, _, rfl, rfl, cls_bool (by
      first
      | (unfold usable; simp [Bool.and_assoc]; rw [emp_pos, emp_pos]; done)
      | (unfold usable; simp [Bool.and_assoc]; done))⟩

theorem re_Usable_s (pkg test : ByteArray) (σ : List CObj) : CCalls CC 29 [.agg [(.val (.string (pkg))), (.val (.string (test)))]] σ fun r σ' => r = .ret (.val (.bool (usable pkg test))) ∧ σ' = σ :=
  CCalls.anyw hCC (by repeat' (first | exact .val _ | exact pure_bkts _ _ | exact pure_ints _ _ | exact trivial | refine pure_agg ?_ | refine pure_tup ?_ | refine ⟨?_, ?_⟩)) (by repeat' (first | exact .val _ | exact pure_bkts _ _ | exact pure_ints _ _ | exact trivial | refine pure_agg ?_ | refine pure_tup ?_ | refine ⟨?_, ?_⟩)) (re_Usable pkg test) σ

set_option maxRecDepth 10000 in
theorem re_Place (n : Int) : CCalls CC 30 [(.val (.int .i64 (n)))] [] fun r σ' => r = .ret (.val (.bool (place n))) ∧ σ' = [] := by
  refine ccalls_val (ccalls_of Tryd.func30 rfl rfl ?_)
  refine cw_seq ?_
  refine cw_region ?_
  refine co_y rfl rfl (y_assign rfl rfl (by conv => lhs; whnf)) ?_
  refine co_nil ?_
  refine cw_seq ?_
  refine cw_region ?_
  refine co_y rfl rfl (y_move rfl trivial (by conv => lhs; whnf)) ?_
  refine co_y rfl rfl (y_int rfl trivial rfl rfl rfl rfl) ?_
  refine co_y rfl rfl (y_move rfl trivial (by conv => lhs; whnf)) ?_
  refine co_g rfl rfl trivial rfl rfl (fun hg => y_move rfl trivial (by conv => lhs; whnf)) ?_
  refine co_g rfl rfl trivial rfl rfl (fun hg => y_int rfl hg rfl rfl rfl rfl) ?_
  refine co_y rfl rfl (y_pick_and rfl trivial rfl (fun hp => hp) (fun _ => rfl)) ?_
  refine co_y rfl rfl (y_assign rfl trivial (by conv => lhs; whnf)) ?_
  refine co_nil ?_
  refine cw_ret ?_
  exact ⟨_, res1 rfl trivial (by conv => lhs; whnf), _, _, rfl, rfl, cls_bool (by unfold place; simp)⟩

theorem re_Place_s (n : Int) (σ : List CObj) : CCalls CC 30 [(.val (.int .i64 (n)))] σ fun r σ' => r = .ret (.val (.bool (place n))) ∧ σ' = σ :=
  CCalls.anyw hCC (by repeat' (first | exact .val _ | exact pure_bkts _ _ | exact pure_ints _ _ | exact trivial | refine pure_agg ?_ | refine pure_tup ?_ | refine ⟨?_, ?_⟩)) (by repeat' (first | exact .val _ | exact pure_bkts _ _ | exact pure_ints _ _ | exact trivial | refine pure_agg ?_ | refine pure_tup ?_ | refine ⟨?_, ?_⟩)) (re_Place n) σ

set_option maxRecDepth 10000 in
theorem mk_Fold (v n : Int) (hn : n ≤ 4611686018427387904) : CCalls CC 18 [(.val (.int .i64 (v))), (.val (.int .i64 (n)))] [] fun r σ' => r = .ret (.val (.int .i64 (fold v n))) ∧ σ' = [] := by
  refine ccalls_val (ccalls_of Tryd.func18 rfl rfl ?_)
  refine cw_seq ?_
  refine cw_region ?_
  refine co_y rfl rfl (y_assign rfl rfl (by conv => lhs; whnf)) ?_
  refine co_nil ?_
  refine cw_seq ?_
  refine cw_seq ?_
  refine cw_region ?_
  refine co_y rfl rfl (y_move rfl trivial (by conv => lhs; whnf)) ?_
  refine co_y rfl rfl (y_int rfl trivial rfl rfl rfl rfl) ?_
  refine co_nil ?_
  refine cw_cond trivial rfl (fun h1 => ?_) (fun h1 => ?_)
  · have hn1 : n ≤ 1 := by simpa using h1
    refine cw_seq ?_
    refine cw_region ?_
    refine co_y rfl rfl (y_assign rfl rfl (by conv => lhs; whnf)) ?_
    refine co_nil ?_
    refine cw_ret ?_
    exact ⟨_, res1 rfl trivial (by conv => lhs; whnf), _, _, rfl, rfl, cls_int (by rw [fold, if_pos hn1])⟩
  · have hn1 : ¬ n ≤ 1 := by simpa using h1
    have ht : v.tmod n = v % n ∨ v.tmod n + n = v % n ∧ v.tmod n < 0 := by
      rcases Int.le_total 0 v with hv | hv
      · exact .inl (Int.tmod_eq_emod_of_nonneg hv)
      · rw [Int.tmod_eq_emod]; split
        · exact .inl (by omega)
        · right; have := Int.emod_lt_of_pos v (show 0 < n by omega); have h5 : (n.natAbs : Int) = n := by omega
          omega
    have hm1 := Int.emod_nonneg v (show n ≠ 0 by omega)
    have hm2 := Int.emod_lt_of_pos v (show 0 < n by omega)
    have hm3 := Int.tmod_lt_of_pos v (show 0 < n by omega)
    have hm4 : -n ≤ v.tmod n := by omega
    refine cw_skip ?_
    refine cw_seq ?_
    refine cw_region ?_
    refine co_y rfl rfl (y_move rfl trivial (by conv => lhs; whnf)) ?_
    refine co_y rfl rfl (y_move rfl trivial (by conv => lhs; whnf)) ?_
    refine co_y rfl rfl (y_int rfl trivial trivial rfl rfl (cq_rem (by omega))) ?_
    refine co_y rfl rfl (y_assign rfl trivial (by conv => lhs; whnf)) ?_
    refine co_nil ?_
    refine cw_seq ?_
    refine cw_seq ?_
    refine cw_region ?_
    refine co_y rfl rfl (y_move rfl trivial (by conv => lhs; whnf)) ?_
    refine co_y rfl rfl (y_int rfl trivial rfl rfl rfl rfl) ?_
    refine co_nil ?_
    refine cw_cond trivial rfl (fun h2 => ?_) (fun h2 => ?_)
    · have hlt : v.tmod n < 0 := by simpa using h2
      refine cw_region ?_
      refine co_y rfl rfl (y_move rfl trivial (by conv => lhs; whnf)) ?_
      refine co_y rfl rfl (y_move rfl trivial (by conv => lhs; whnf)) ?_
      refine co_y rfl rfl (y_add rfl trivial trivial rfl rfl (by omega) (by omega)) ?_
      refine co_y rfl rfl (y_assign rfl trivial (by conv => lhs; whnf)) ?_
      refine co_nil ?_
      refine cw_seq ?_
      refine cw_region ?_
      refine co_y rfl rfl (y_move rfl trivial (by conv => lhs; whnf)) ?_
      refine co_y rfl rfl (y_assign rfl trivial (by conv => lhs; whnf)) ?_
      refine co_nil ?_
      refine cw_ret ?_
      exact ⟨_, res1 rfl trivial (by conv => lhs; whnf), _, _, rfl, rfl, cls_int (by rw [fold, if_neg hn1]; omega)⟩
    · have hlt : ¬ v.tmod n < 0 := by simpa using h2
      refine cw_skip ?_
      refine cw_seq ?_
      refine cw_region ?_
      refine co_y rfl rfl (y_move rfl trivial (by conv => lhs; whnf)) ?_
      refine co_y rfl rfl (y_assign rfl trivial (by conv => lhs; whnf)) ?_
      refine co_nil ?_
      refine cw_ret ?_
      exact ⟨_, res1 rfl trivial (by conv => lhs; whnf), _, _, rfl, rfl, cls_int (by rw [fold, if_neg hn1]; omega)⟩

theorem mk_Fold_s (v n : Int) (hn : n ≤ 4611686018427387904) (σ : List CObj) : CCalls CC 18 [(.val (.int .i64 (v))), (.val (.int .i64 (n)))] σ fun r σ' => r = .ret (.val (.int .i64 (fold v n))) ∧ σ' = σ :=
  CCalls.anyw hCC (by repeat' (first | exact .val _ | exact pure_bkts _ _ | exact pure_ints _ _ | exact trivial | refine pure_agg ?_ | refine pure_tup ?_ | refine ⟨?_, ?_⟩)) (by repeat' (first | exact .val _ | exact pure_bkts _ _ | exact pure_ints _ _ | exact trivial | refine pure_agg ?_ | refine pure_tup ?_ | refine ⟨?_, ?_⟩)) (mk_Fold v n hn) σ

set_option maxRecDepth 10000 in
theorem re_power (n : Int) (hn : n ≤ 9223372036854775807) : CCalls CC 39 [(.val (.int .i64 (n)))] [] fun r σ' => r = .ret (.val (.bool (isP n))) ∧ σ' = [] := by
  refine ccalls_val (ccalls_of Tryd.func39 rfl rfl ?_)
  refine cw_seq ?_
  refine cw_region ?_
  refine co_y rfl rfl (y_assign rfl rfl (by conv => lhs; whnf)) ?_
  refine co_nil ?_
  refine cw_seq ?_
  refine cw_block ?_
  refine cw_loopd hCC (α := Int) (fun x => [(0, .val (.int .i64 x))]) (fun _ => []) (fun x => x ≤ 9223372036854775807 ∧ isP x = isP n) (fun x => x.toNat) n ⟨hn, rfl⟩ ⟨⟨trivial, rfl⟩, trivial⟩ (extra0 := []) rfl (fun _ _ => Nat.le_of_ble_eq_true rfl) (fun a ha => by repeat' (first | exact trivial | exact .val _ | exact .ptr (Nat.le_of_ble_eq_true rfl) | exact .map (Nat.le_of_ble_eq_true rfl) | refine old_box ?_ | refine ⟨?_, ?_⟩)) ?_
  intro x ⟨hx, hP⟩
  refine cw_seq ?_
  refine cw_seq ?_
  refine cw_region ?_
  refine co_y rfl rfl (y_move rfl trivial (by conv => lhs; whnf)) ?_
  refine co_y rfl rfl (y_int rfl trivial rfl rfl rfl rfl) ?_
  refine co_nil ?_
  refine cw_cond trivial rfl (fun h1 => ?_) (fun h1 => ?_)
  · have hx1 : 1 < x := by simpa using h1
    refine cw_skip ?_
    refine cw_block ?_
    refine cw_seq ?_
    refine cw_seq ?_
    refine cw_region ?_
    refine co_y rfl rfl (y_move rfl trivial (by conv => lhs; whnf)) ?_
    refine co_y rfl rfl (y_int rfl trivial rfl rfl rfl (cq_rem_pos (by omega) (by omega))) ?_
    refine co_y rfl rfl (y_int rfl trivial rfl rfl rfl rfl) ?_
    refine co_nil ?_
    refine cw_cond trivial rfl (fun h2 => ?_) (fun h2 => ?_)
    · have ho : x % 2 ≠ 0 := by simpa using h2
      refine cw_seq ?_
      refine cw_region ?_
      refine co_y rfl rfl (y_assign rfl rfl (by conv => lhs; whnf)) ?_
      refine co_nil ?_
      refine cw_ret ?_
      exact ⟨_, res1 rfl trivial (by conv => lhs; whnf), _, _, rfl, rfl, cls_bool (by rw [← hP, isP_odd hx1 ho])⟩
    · have ho : x % 2 = 0 := by simpa using h2
      refine cw_skip ?_
      refine cw_region ?_
      refine co_y rfl rfl (y_move rfl trivial (by conv => lhs; whnf)) ?_
      refine co_y rfl rfl (y_int rfl trivial rfl rfl rfl (cq_pos (by omega) (by omega) (by omega))) ?_
      refine co_y rfl rfl (y_assign rfl trivial (by conv => lhs; whnf)) ?_
      refine co_nil ?_
      exact ⟨x / 2, _, ⟨by omega, by omega, (isP_even hx1 ho).trans hP⟩, ⟨⟨trivial, rfl⟩, trivial⟩, rfl⟩
  · have hx1 : ¬ 1 < x := by simpa using h1
    refine cw_exit ?_
    refine cw_seq ?_
    refine cw_region ?_
    refine co_y rfl rfl (y_move rfl trivial (by conv => lhs; whnf)) ?_
    refine co_y rfl rfl (y_int rfl trivial rfl rfl rfl rfl) ?_
    refine co_y rfl rfl (y_assign rfl trivial (by conv => lhs; whnf)) ?_
    refine co_nil ?_
    refine cw_ret ?_
    exact ⟨_, res1 rfl trivial (by conv => lhs; whnf), _, _, rfl, rfl, cls_bool (by rw [← hP, isP_small hx1]; rfl)⟩

theorem re_power_s (n : Int) (hn : n ≤ 9223372036854775807) (σ : List CObj) : CCalls CC 39 [(.val (.int .i64 (n)))] σ fun r σ' => r = .ret (.val (.bool (isP n))) ∧ σ' = σ :=
  CCalls.anyw hCC (by repeat' (first | exact .val _ | exact pure_bkts _ _ | exact pure_ints _ _ | exact trivial | refine pure_agg ?_ | refine pure_tup ?_ | refine ⟨?_, ?_⟩)) (by repeat' (first | exact .val _ | exact pure_bkts _ _ | exact pure_ints _ _ | exact trivial | refine pure_agg ?_ | refine pure_tup ?_ | refine ⟨?_, ?_⟩)) (re_power n hn) σ

set_option maxRecDepth 10000 in
theorem re_number (bs : List Bkt) (nn : Bool) (s : Int) (hl : bs.length ≤ maxLen) : CCalls CC 37 [(.list (bs.map Bkt.cv) nn none), (.val (.int .i64 (s)))] [] fun r σ' => r = .ret (.val (.int .i64 (num bs s))) ∧ σ' = [] := by
  unfold maxLen at hl
  refine ccalls_val (ccalls_of Tryd.func37 rfl rfl ?_)
  refine cw_seq ?_
  refine cw_region ?_
  refine co_y rfl rfl (y_assign rfl rfl (by conv => lhs; whnf)) ?_
  refine co_nil ?_
  refine cw_seq ?_
  refine cw_region ?_
  refine co_y rfl rfl (y_assign rfl rfl (by conv => lhs; whnf)) ?_
  refine co_nil ?_
  refine cw_seq ?_
  refine cw_seq ?_
  refine cw_region ?_
  refine co_y rfl rfl (y_assign rfl rfl (by conv => lhs; whnf)) ?_
  refine co_nil ?_
  refine cw_block ?_
  refine cw_loopd hCC (α := Nat) (fun i => [(0, .list (bs.map Bkt.cv) nn none), (1, (.val (.int .i64 (s)))), (5, (.val (.int .i64 (num (bs.take i) s)))), (6, (.val (.int .i64 ((i : Int)))))]) (fun _ => []) (fun i => i ≤ bs.length) (fun i => bs.length - i) 0 (Nat.zero_le _) ⟨⟨trivial, rfl⟩, ⟨trivial, rfl⟩, ⟨trivial, rfl⟩, ⟨trivial, rfl⟩, trivial⟩ (extra0 := []) rfl (fun _ _ => Nat.le_of_ble_eq_true rfl) (fun a ha => by repeat' (first | exact trivial | exact .val _ | exact .ptr (Nat.le_of_ble_eq_true rfl) | exact .map (Nat.le_of_ble_eq_true rfl) | exact old_bkts _ _ _ | refine old_box ?_ | refine ⟨?_, ?_⟩)) ?_
  intro i hi
  refine cw_seq ?_
  refine cw_seq ?_
  refine cw_region ?_
  refine co_y rfl rfl (y_move rfl trivial (by conv => lhs; whnf)) ?_
  refine co_y rfl rfl (y_move rfl trivial (by conv => lhs; whnf)) ?_
  refine co_y rfl rfl (y_len rfl trivial rfl Tryd.runUnderlying24 (by first | exact len_map _ _ | rfl) rfl) ?_
  refine co_y rfl rfl (y_int rfl trivial trivial rfl rfl rfl) ?_
  refine co_nil ?_
  refine cw_cond trivial rfl (fun h1 => ?_) (fun h1 => ?_)
  · have hlt : (i : Int) < bs.length := by simpa using h1
    obtain ⟨b, hb⟩ : ∃ b, bs[i]? = some b := ⟨bs[i]'(by omega), by simp⟩
    have hn := num_nonneg (bs.take i) s
    have hs : num (bs.take (i + 1)) s = num (bs.take i) s + if b.count = s then 1 else 0 := by
      rw [List.take_add_one, num_append, hb]; simp [num]
    have hl2 : (bs.take i).length ≤ i := List.length_take_le _ _
    refine cw_skip ?_
    refine cw_seq ?_
    refine cw_block ?_
    refine cw_seq ?_
    refine cw_region ?_
    refine co_y rfl rfl (y_move rfl trivial (by conv => lhs; whnf)) ?_
    refine co_y rfl rfl (y_move rfl trivial (by conv => lhs; whnf)) ?_
    refine co_y rfl rfl (y_index rfl trivial trivial rfl rfl Tryd.runUnderlying24 Tryd.sizeOf39 (by omega) (rows_get hb) rfl) ?_
    refine co_y rfl rfl (y_field_c rfl trivial rfl Tryd.runUnderlying39 rfl Tryd.sizeOf3 (by decide)) ?_
    refine co_y rfl rfl (y_load_c1 rfl trivial rfl Tryd.isAgg3 rfl) ?_
    refine co_y rfl rfl (y_move rfl trivial (by conv => lhs; whnf)) ?_
    refine co_y rfl rfl (y_int rfl trivial trivial rfl rfl rfl) ?_
    refine co_nil ?_
    refine cw_cond trivial rfl (fun h2 => ?_) (fun h2 => ?_)
    · have hc : b.count = s := by simpa using h2
      rw [if_pos hc] at hs
      refine cw_region ?_
      refine co_y rfl rfl (y_move rfl trivial (by conv => lhs; whnf)) ?_
      refine co_y rfl rfl (y_add rfl trivial rfl rfl rfl (by omega) (by omega)) ?_
      refine co_y rfl rfl (y_assign rfl trivial (by conv => lhs; whnf)) ?_
      refine co_nil ?_
      refine cw_region ?_
      refine co_y rfl rfl (y_move rfl trivial (by conv => lhs; whnf)) ?_
      refine co_y rfl rfl (y_add rfl trivial rfl rfl rfl (by omega) (by omega)) ?_
      refine co_y rfl rfl (y_assign rfl trivial (by conv => lhs; whnf)) ?_
      refine co_nil ?_
      exact ⟨i + 1, _, ⟨by omega, by omega⟩, ⟨⟨trivial, rfl⟩, ⟨trivial, rfl⟩, ⟨trivial, (by rw [hs]; rfl)⟩, ⟨trivial, rfl⟩, trivial⟩, rfl⟩
    · have hc : ¬ (b.count = s) := by simpa using h2
      rw [if_neg hc] at hs
      refine cw_skip ?_
      refine cw_region ?_
      refine co_y rfl rfl (y_move rfl trivial (by conv => lhs; whnf)) ?_
      refine co_y rfl rfl (y_add rfl trivial rfl rfl rfl (by omega) (by omega)) ?_
      refine co_y rfl rfl (y_assign rfl trivial (by conv => lhs; whnf)) ?_
      refine co_nil ?_
      exact ⟨i + 1, _, ⟨by omega, by omega⟩, ⟨⟨trivial, rfl⟩, ⟨trivial, rfl⟩, ⟨trivial, (by rw [hs, Int.add_zero]; rfl)⟩, ⟨trivial, rfl⟩, trivial⟩, rfl⟩
  · have hge : i = bs.length := by
      have : ¬ (i : Int) < bs.length := by simpa using h1
      omega
    refine cw_exit ?_
    refine cw_seq ?_
    refine cw_region ?_
    refine co_y rfl rfl (y_move rfl trivial (by conv => lhs; whnf)) ?_
    refine co_y rfl rfl (y_assign rfl trivial (by conv => lhs; whnf)) ?_
    refine co_nil ?_
    refine cw_ret ?_
    exact ⟨_, res1 rfl trivial (by conv => lhs; whnf), _, _, rfl, rfl, cls_int (by subst hge; rw [List.take_length])⟩

theorem re_number_s (bs : List Bkt) (nn : Bool) (s : Int) (hl : bs.length ≤ maxLen) (σ : List CObj) : CCalls CC 37 [(.list (bs.map Bkt.cv) nn none), (.val (.int .i64 (s)))] σ fun r σ' => r = .ret (.val (.int .i64 (num bs s))) ∧ σ' = σ :=
  CCalls.anyw hCC (by repeat' (first | exact .val _ | exact pure_bkts _ _ | exact pure_ints _ _ | exact trivial | refine pure_agg ?_ | refine pure_tup ?_ | refine ⟨?_, ?_⟩)) (by repeat' (first | exact .val _ | exact pure_bkts _ _ | exact pure_ints _ _ | exact trivial | refine pure_agg ?_ | refine pure_tup ?_ | refine ⟨?_, ?_⟩)) (re_number bs nn s hl) σ

set_option maxRecDepth 10000 in
theorem la_from (bs : List Int) (nn : Bool) (s : Int) (hl : bs.length ≤ maxLen) : CCalls CC 27 [(.list (bs.map icv) nn none), (.val (.int .i64 (s)))] [] fun r σ' => r = .ret (.val (.int .i64 (fromN bs s))) ∧ σ' = [] := by
  unfold maxLen at hl
  refine ccalls_val (ccalls_of Tryd.func27 rfl rfl ?_)
  refine cw_seq ?_
  refine cw_region ?_
  refine co_y rfl rfl (y_assign rfl rfl (by conv => lhs; whnf)) ?_
  refine co_nil ?_
  refine cw_seq ?_
  refine cw_region ?_
  refine co_y rfl rfl (y_assign rfl rfl (by conv => lhs; whnf)) ?_
  refine co_nil ?_
  refine cw_seq ?_
  refine cw_seq ?_
  refine cw_region ?_
  refine co_y rfl rfl (y_assign rfl rfl (by conv => lhs; whnf)) ?_
  refine co_nil ?_
  refine cw_block ?_
  refine cw_loopd hCC (α := Nat) (fun i => [(0, .list (bs.map icv) nn none), (1, (.val (.int .i64 (s)))), (5, (.val (.int .i64 (fromN (bs.take i) s)))), (6, (.val (.int .i64 ((i : Int)))))]) (fun _ => []) (fun i => i ≤ bs.length) (fun i => bs.length - i) 0 (Nat.zero_le _) ⟨⟨trivial, rfl⟩, ⟨trivial, rfl⟩, ⟨trivial, rfl⟩, ⟨trivial, rfl⟩, trivial⟩ (extra0 := []) rfl (fun _ _ => Nat.le_of_ble_eq_true rfl) (fun a ha => by repeat' (first | exact trivial | exact .val _ | exact .ptr (Nat.le_of_ble_eq_true rfl) | exact .map (Nat.le_of_ble_eq_true rfl) | exact old_ints _ _ _ | refine old_box ?_ | refine ⟨?_, ?_⟩)) ?_
  intro i hi
  refine cw_seq ?_
  refine cw_seq ?_
  refine cw_region ?_
  refine co_y rfl rfl (y_move rfl trivial (by conv => lhs; whnf)) ?_
  refine co_y rfl rfl (y_move rfl trivial (by conv => lhs; whnf)) ?_
  refine co_y rfl rfl (y_len rfl trivial rfl Tryd.runUnderlying34 (by first | exact len_map _ _ | rfl) rfl) ?_
  refine co_y rfl rfl (y_int rfl trivial trivial rfl rfl rfl) ?_
  refine co_nil ?_
  refine cw_cond trivial rfl (fun h1 => ?_) (fun h1 => ?_)
  · have hlt : (i : Int) < bs.length := by simpa using h1
    obtain ⟨b, hb⟩ : ∃ b, bs[i]? = some b := ⟨bs[i]'(by omega), by simp⟩
    have hn := fromN_nonneg (bs.take i) s
    have hs : fromN (bs.take (i + 1)) s = fromN (bs.take i) s + if s ≤ b then 1 else 0 := by
      rw [List.take_add_one, fromN_append, hb]; simp [fromN]
    have hl2 : (bs.take i).length ≤ i := List.length_take_le _ _
    refine cw_skip ?_
    refine cw_seq ?_
    refine cw_block ?_
    refine cw_seq ?_
    refine cw_region ?_
    refine co_y rfl rfl (y_move rfl trivial (by conv => lhs; whnf)) ?_
    refine co_y rfl rfl (y_move rfl trivial (by conv => lhs; whnf)) ?_
    refine co_y rfl rfl (y_index rfl trivial trivial rfl rfl Tryd.runUnderlying34 Tryd.sizeOf3 (by omega) (rows_get hb) rfl) ?_
    refine co_y rfl rfl (y_load_c1 rfl trivial rfl Tryd.isAgg3 rfl) ?_
    refine co_y rfl rfl (y_move rfl trivial (by conv => lhs; whnf)) ?_
    refine co_y rfl rfl (y_int rfl trivial trivial rfl rfl rfl) ?_
    refine co_nil ?_
    refine cw_cond trivial rfl (fun h2 => ?_) (fun h2 => ?_)
    · have hc : s ≤ b := by simpa using h2
      rw [if_pos hc] at hs
      refine cw_region ?_
      refine co_y rfl rfl (y_move rfl trivial (by conv => lhs; whnf)) ?_
      refine co_y rfl rfl (y_add rfl trivial rfl rfl rfl (by omega) (by omega)) ?_
      refine co_y rfl rfl (y_assign rfl trivial (by conv => lhs; whnf)) ?_
      refine co_nil ?_
      refine cw_region ?_
      refine co_y rfl rfl (y_move rfl trivial (by conv => lhs; whnf)) ?_
      refine co_y rfl rfl (y_add rfl trivial rfl rfl rfl (by omega) (by omega)) ?_
      refine co_y rfl rfl (y_assign rfl trivial (by conv => lhs; whnf)) ?_
      refine co_nil ?_
      exact ⟨i + 1, _, ⟨by omega, by omega⟩, ⟨⟨trivial, rfl⟩, ⟨trivial, rfl⟩, ⟨trivial, (by rw [hs]; rfl)⟩, ⟨trivial, rfl⟩, trivial⟩, rfl⟩
    · have hc : ¬ (s ≤ b) := by simpa using h2
      rw [if_neg hc] at hs
      refine cw_skip ?_
      refine cw_region ?_
      refine co_y rfl rfl (y_move rfl trivial (by conv => lhs; whnf)) ?_
      refine co_y rfl rfl (y_add rfl trivial rfl rfl rfl (by omega) (by omega)) ?_
      refine co_y rfl rfl (y_assign rfl trivial (by conv => lhs; whnf)) ?_
      refine co_nil ?_
      exact ⟨i + 1, _, ⟨by omega, by omega⟩, ⟨⟨trivial, rfl⟩, ⟨trivial, rfl⟩, ⟨trivial, (by rw [hs, Int.add_zero]; rfl)⟩, ⟨trivial, rfl⟩, trivial⟩, rfl⟩
  · have hge : i = bs.length := by
      have : ¬ (i : Int) < bs.length := by simpa using h1
      omega
    refine cw_exit ?_
    refine cw_seq ?_
    refine cw_region ?_
    refine co_y rfl rfl (y_move rfl trivial (by conv => lhs; whnf)) ?_
    refine co_y rfl rfl (y_assign rfl trivial (by conv => lhs; whnf)) ?_
    refine co_nil ?_
    refine cw_ret ?_
    exact ⟨_, res1 rfl trivial (by conv => lhs; whnf), _, _, rfl, rfl, cls_int (by subst hge; rw [List.take_length])⟩

theorem la_from_s (bs : List Int) (nn : Bool) (s : Int) (hl : bs.length ≤ maxLen) (σ : List CObj) : CCalls CC 27 [(.list (bs.map icv) nn none), (.val (.int .i64 (s)))] σ fun r σ' => r = .ret (.val (.int .i64 (fromN bs s))) ∧ σ' = σ :=
  CCalls.anyw hCC (by repeat' (first | exact .val _ | exact pure_bkts _ _ | exact pure_ints _ _ | exact trivial | refine pure_agg ?_ | refine pure_tup ?_ | refine ⟨?_, ?_⟩)) (by repeat' (first | exact .val _ | exact pure_bkts _ _ | exact pure_ints _ _ | exact trivial | refine pure_agg ?_ | refine pure_tup ?_ | refine ⟨?_, ?_⟩)) (la_from bs nn s hl) σ

def sameI (a b : List Int) : Bool := decide (a = b)
theorem sameI_take {a b : List Int} {i : Nat} (hl : a.length = b.length) (h : ∀ j, j < i → a[j]? = b[j]?) (hi : a.length ≤ i) : a = b := List.ext_getElem? fun j => by
  rcases Nat.lt_or_ge j i with hj | hj
  · exact h j hj
  · rw [List.getElem?_eq_none (by omega), List.getElem?_eq_none (by omega)]

set_option maxRecDepth 10000 in
theorem mk_SameInts (a : List Int) (na : Bool) (b : List Int) (nb : Bool) (hl : a.length ≤ maxLen) : CCalls CC 25 [(.list (a.map icv) na none), (.list (b.map icv) nb none)] [] fun r σ' => r = .ret (.val (.bool (decide (a = b)))) ∧ σ' = [] := by
  unfold maxLen at hl
  refine ccalls_val (ccalls_of Tryd.func25 rfl rfl ?_)
  refine cw_seq ?_
  refine cw_region ?_
  refine co_y rfl rfl (y_assign rfl rfl (by conv => lhs; whnf)) ?_
  refine co_nil ?_
  refine cw_seq ?_
  refine cw_seq ?_
  refine cw_region ?_
  refine co_y rfl rfl (y_move rfl trivial (by conv => lhs; whnf)) ?_
  refine co_y rfl rfl (y_len rfl trivial rfl Tryd.runUnderlying34 (by first | exact len_map _ _ | rfl) rfl) ?_
  refine co_y rfl rfl (y_move rfl trivial (by conv => lhs; whnf)) ?_
  refine co_y rfl rfl (y_len rfl trivial rfl Tryd.runUnderlying34 (by first | exact len_map _ _ | rfl) rfl) ?_
  refine co_y rfl rfl (y_int rfl trivial trivial rfl rfl rfl) ?_
  refine co_nil ?_
  refine cw_cond trivial rfl (fun h1 => ?_) (fun h1 => ?_)
  · have hne : ¬ (a.length : Int) = b.length := by simpa using h1
    refine cw_seq ?_
    refine cw_region ?_
    refine co_y rfl rfl (y_assign rfl rfl (by conv => lhs; whnf)) ?_
    refine co_nil ?_
    refine cw_ret ?_
    exact ⟨_, res1 rfl trivial (by conv => lhs; whnf), _, _, rfl, rfl, cls_bool (by symm; exact decide_eq_false fun h => hne (by rw [h]))⟩
  · have hlen : a.length = b.length := by
      have : (a.length : Int) = b.length := by simpa using h1
      omega
    refine cw_skip ?_
    refine cw_seq ?_
    refine cw_seq ?_
    refine cw_region ?_
    refine co_y rfl rfl (y_assign rfl rfl (by conv => lhs; whnf)) ?_
    refine co_nil ?_
    refine cw_block ?_
    refine cw_loopd hCC (α := Nat) (fun i => [(0, (.list (a.map icv) na none)), (1, (.list (b.map icv) nb none)), (5, (.val (.int .i64 ((i : Int)))))]) (fun _ => []) (fun i => i ≤ a.length ∧ ∀ j, j < i → a[j]? = b[j]?) (fun i => a.length - i) 0 ⟨Nat.zero_le _, fun j hj => absurd hj (Nat.not_lt_zero j)⟩ ⟨⟨trivial, rfl⟩, ⟨trivial, rfl⟩, ⟨trivial, rfl⟩, trivial⟩ (extra0 := []) rfl (fun _ _ => Nat.le_of_ble_eq_true rfl) (fun a ha => by repeat' (first | exact trivial | exact .val _ | exact .ptr (Nat.le_of_ble_eq_true rfl) | exact .map (Nat.le_of_ble_eq_true rfl) | exact old_ints _ _ _ | refine old_box ?_ | refine ⟨?_, ?_⟩)) ?_
    intro i ⟨hi, hp⟩
    refine cw_seq ?_
    refine cw_seq ?_
    refine cw_region ?_
    refine co_y rfl rfl (y_move rfl trivial (by conv => lhs; whnf)) ?_
    refine co_y rfl rfl (y_move rfl trivial (by conv => lhs; whnf)) ?_
    refine co_y rfl rfl (y_len rfl trivial rfl Tryd.runUnderlying34 (by first | exact len_map _ _ | rfl) rfl) ?_
    refine co_y rfl rfl (y_int rfl trivial trivial rfl rfl rfl) ?_
    refine co_nil ?_
    refine cw_cond trivial rfl (fun h2 => ?_) (fun h2 => ?_)
    · have hlt : (i : Int) < a.length := by simpa using h2
      obtain ⟨x, hx⟩ : ∃ b, a[i]? = some b := ⟨a[i]'(by omega), by simp⟩
      obtain ⟨y, hy⟩ : ∃ c, b[i]? = some c := ⟨b[i]'(by omega), by simp⟩
      refine cw_skip ?_
      refine cw_seq ?_
      refine cw_block ?_
      refine cw_seq ?_
      refine cw_draw 9 [0, 0, 3, 7, 0, 0, 48, 112, 255] (by kernel_rfl) (by kernel_rfl) rfl ?_
      refine ch_y rfl (y_move rfl trivial (by conv => lhs; whnf)) ?_
      refine ch_y rfl (y_move rfl trivial (by conv => lhs; whnf)) ?_
      refine ch_y rfl (y_index rfl trivial trivial rfl rfl Tryd.runUnderlying34 Tryd.sizeOf3 (by omega) (rows_get hx) rfl) ?_
      refine ch_y rfl (y_load_c1 rfl trivial rfl Tryd.isAgg3 rfl) ?_
      refine ch_y rfl (y_move rfl trivial (by conv => lhs; whnf)) ?_
      refine ch_y rfl (y_move rfl trivial (by conv => lhs; whnf)) ?_
      refine ch_y rfl (y_index rfl trivial trivial rfl rfl Tryd.runUnderlying34 Tryd.sizeOf3 (by omega) (rows_get hy) rfl) ?_
      refine ch_y rfl (y_load_c1 rfl trivial rfl Tryd.isAgg3 rfl) ?_
      refine ch_y rfl (y_int rfl trivial trivial rfl rfl rfl) ?_
      refine ch_nil ?_
      refine co_nil ?_
      refine cw_cond trivial rfl (fun h3 => ?_) (fun h3 => ?_)
      · have hxy : ¬ x = y := by simpa using h3
        refine cw_seq ?_
        refine cw_region ?_
        refine co_y rfl rfl (y_assign rfl rfl (by conv => lhs; whnf)) ?_
        refine co_nil ?_
        refine cw_ret ?_
        exact ⟨_, res1 rfl trivial (by conv => lhs; whnf), _, _, rfl, rfl, cls_bool (by symm; refine decide_eq_false fun h => hxy ?_; rw [h, hy] at hx; exact (Option.some.inj hx).symm)⟩
      · have hxy : x = y := by simpa using h3
        refine cw_skip ?_
        refine cw_region ?_
        refine co_y rfl rfl (y_move rfl trivial (by conv => lhs; whnf)) ?_
        refine co_y rfl rfl (y_add rfl trivial rfl rfl rfl (by omega) (by omega)) ?_
        refine co_y rfl rfl (y_assign rfl trivial (by conv => lhs; whnf)) ?_
        refine co_nil ?_
        exact ⟨i + 1, _, ⟨by omega, by omega, fun j hj => by
      rcases Nat.lt_or_ge j i with h | h
      · exact hp j h
      · obtain rfl : j = i := by omega
        rw [hx, hy, hxy]⟩, ⟨⟨trivial, rfl⟩, ⟨trivial, rfl⟩, ⟨trivial, rfl⟩, trivial⟩, rfl⟩
    · have hge : ¬ (i : Int) < a.length := by simpa using h2
      refine cw_exit ?_
      refine cw_seq ?_
      refine cw_region ?_
      refine co_y rfl rfl (y_assign rfl rfl (by conv => lhs; whnf)) ?_
      refine co_nil ?_
      refine cw_ret ?_
      exact ⟨_, res1 rfl trivial (by conv => lhs; whnf), _, _, rfl, rfl, cls_bool (by symm; exact decide_eq_true (sameI_take hlen hp (by omega)))⟩

theorem mk_SameInts_s (a : List Int) (na : Bool) (b : List Int) (nb : Bool) (hl : a.length ≤ maxLen) (σ : List CObj) : CCalls CC 25 [(.list (a.map icv) na none), (.list (b.map icv) nb none)] σ fun r σ' => r = .ret (.val (.bool (decide (a = b)))) ∧ σ' = σ :=
  CCalls.anyw hCC (by repeat' (first | exact .val _ | exact pure_bkts _ _ | exact pure_ints _ _ | exact trivial | refine pure_agg ?_ | refine pure_tup ?_ | refine ⟨?_, ?_⟩)) (by repeat' (first | exact .val _ | exact pure_bkts _ _ | exact pure_ints _ _ | exact trivial | refine pure_agg ?_ | refine pure_tup ?_ | refine ⟨?_, ?_⟩)) (mk_SameInts a na b nb hl) σ

end Go.Proofs.YtkhebelajdcjgaaDoor
