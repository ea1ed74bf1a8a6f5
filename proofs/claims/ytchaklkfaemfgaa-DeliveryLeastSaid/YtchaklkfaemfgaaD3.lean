import Derived.Test.YtchaklkfaemfgaaD2
namespace Go.Proofs.Ytchaklkfaemfgaa
open Go Go.Cl

theorem wru {x : Int} (h0 : 0 ≤ x) (h1 : x < 18446744073709551616) : IntKind.u64.wrap x = x := by
  rw [IntKind.wrap_u64]; omega
def hdEq (B : List Lt) (num : Int) : Bool := match B with | [] => false | b :: _ => decide (b.n = num)
theorem hdEq_of {A B : List Lt} {num : Int} {y : Lt} (hB : ∀ b ∈ B, num ≤ b.n) (hy : A.length < (A ++ B).length → (A ++ B)[A.length]? = some y) : (decide ((A.length : Int) < ((A ++ B).length : Int)) && (cmpS y.n num == 0)) = hdEq B num := by
  rcases B with _ | ⟨b, B⟩
  · simp [hdEq]
  · have h1 := hy (by simp)
    simp at h1
    subst h1
    have h2 := hB b (by simp)
    unfold hdEq cmpS
    by_cases h : b.n = num
    · simp [h]; omega
    · rw [if_neg (by omega), if_pos (by omega)]; simp [h]

set_option maxRecDepth 10000 in
theorem slices_BinarySearchFunc (l A B : List Lt) (nn : Bool) (num : Int) (e : l = A ++ B) (hA : ∀ a ∈ A, a.n < num) (hB : ∀ b ∈ B, num ≤ b.n) (hl : l.length ≤ 1000000000) : CCalls CC 44 [(.list (l.map Lt.cv) nn none), (.val (.int .i64 (num))), .val (.func (.func 45) #[] #[])] [] fun r σ' => r = .ret (.tup [(.val (.int .i64 ((A.length : Int)))), (.val (.bool (hdEq B num)))]) ∧ σ' = [] := by
  refine ccalls_val (ccalls_of Try.func44 rfl rfl ?_)
  refine cw_seq ?_
  refine cw_region ?_
  refine co_y rfl rfl (y_assign rfl rfl (by conv => lhs; whnf)) ?_
  refine co_y rfl rfl (y_assign rfl rfl (by conv => lhs; whnf)) ?_
  refine co_nil ?_
  refine cw_seq ?_
  refine cw_region ?_
  refine co_y rfl rfl (y_move rfl trivial (by conv => lhs; whnf)) ?_
  refine co_y rfl rfl (y_len rfl trivial rfl Try.runUnderlying23 (by first | exact len_map _ _ | rfl) rfl) ?_
  refine co_y rfl rfl (y_assign rfl trivial (by conv => lhs; whnf)) ?_
  refine co_nil ?_
  refine cw_seq ?_
  refine cw_region ?_
  refine co_y rfl rfl (y_move rfl trivial (by conv => lhs; whnf)) ?_
  refine co_y rfl rfl (y_assign rfl rfl (by conv => lhs; whnf)) ?_
  refine co_y rfl rfl (y_assign rfl trivial (by conv => lhs; whnf)) ?_
  refine co_nil ?_
  refine cw_seq ?_
  refine cw_block ?_
  refine cw_loopd hCC (α := Nat × Nat) (fun x => [(0, (.list (l.map Lt.cv) nn none)), (1, (.val (.int .i64 (num)))), (2, .val (.func (.func 45) #[] #[])), (8, (.val (.int .i64 ((l.length : Int))))), (9, (.val (.int .i64 ((x.1 : Int))))), (10, (.val (.int .i64 ((x.2 : Int)))))]) (fun _ => []) (fun x => x.1 ≤ A.length ∧ A.length ≤ x.2 ∧ x.2 ≤ l.length) (fun x => x.2 - x.1) (0, l.length) ⟨Nat.zero_le _, by rw [e]; simp, Nat.le_refl _⟩ ⟨⟨trivial, rfl⟩, ⟨trivial, rfl⟩, ⟨trivial, rfl⟩, ⟨trivial, rfl⟩, ⟨trivial, rfl⟩, ⟨trivial, rfl⟩, trivial⟩ (extra0 := []) rfl (fun _ _ => Nat.le_of_ble_eq_true rfl) (fun a ha => by repeat' (first | exact trivial | exact .val _ | exact .ptr (Nat.le_of_ble_eq_true rfl) | exact .map (Nat.le_of_ble_eq_true rfl) | exact (by first | exact old_lts _ _ _ | exact old_rps _ _ _ | exact old_ints _ _ _) | refine old_box ?_ | refine ⟨?_, ?_⟩)) ?_
  intro ⟨i, j⟩ ⟨hi, hj, hjl⟩
  dsimp only at hi hj hjl ⊢
  refine cw_seq ?_
  refine cw_seq ?_
  refine cw_region ?_
  refine co_y rfl rfl (y_move rfl trivial (by conv => lhs; whnf)) ?_
  refine co_y rfl rfl (y_move rfl trivial (by conv => lhs; whnf)) ?_
  refine co_y rfl rfl (y_int rfl trivial trivial rfl rfl rfl) ?_
  refine co_nil ?_
  refine cw_cond trivial rfl (fun h1 => ?_) (fun h1 => ?_)
  · have hij : i < j := by simpa using h1
    obtain ⟨x, hb⟩ : ∃ x, l[(((i : Int) + (j : Int)) / 2).toNat]? = some x := ⟨l[(((i : Int) + (j : Int)) / 2).toNat]'(by omega), by simp⟩
    have hx : x.n < num ↔ (((i : Int) + (j : Int)) / 2).toNat < A.length := by
      rw [e] at hb
      constructor
      · intro h
        rcases Nat.lt_or_ge (((i : Int) + (j : Int)) / 2).toNat A.length with h' | h'
        · exact h'
        · rw [List.getElem?_append_right h'] at hb
          have := hB x (List.mem_of_getElem? hb)
          omega
      · intro h
        rw [List.getElem?_append_left h] at hb
        exact hA x (List.mem_of_getElem? hb)
    refine cw_skip ?_
    refine cw_block ?_
    refine cw_seq ?_
    refine cw_region ?_
    refine co_y rfl rfl (y_move rfl trivial (by conv => lhs; whnf)) ?_
    refine co_y rfl rfl (y_move rfl trivial (by conv => lhs; whnf)) ?_
    refine co_y rfl rfl (y_add rfl trivial trivial rfl rfl (by omega) (by omega)) ?_
    refine co_y rfl rfl (y_conv rfl trivial rfl Try.runUnderlying3 Try.runUnderlying82 (wru (by omega) (by omega))) ?_
    refine co_y rfl rfl (y_shr1 rfl trivial rfl rfl rfl (by decide) rfl) ?_
    refine co_y rfl rfl (y_conv rfl trivial rfl Try.runUnderlying82 Try.runUnderlying3 (wr64 (by omega) (by omega))) ?_
    refine co_y rfl rfl (y_assign rfl trivial (by conv => lhs; whnf)) ?_
    refine co_nil ?_
    refine cw_seq ?_
    refine cw_region ?_
    refine co_y rfl rfl (y_move rfl trivial (by conv => lhs; whnf)) ?_
    refine co_y rfl rfl (y_move rfl trivial (by conv => lhs; whnf)) ?_
    refine co_y rfl rfl (y_move rfl trivial (by conv => lhs; whnf)) ?_
    refine co_y rfl rfl (y_index rfl trivial trivial rfl rfl Try.runUnderlying23 Try.sizeOf50 (by omega) (rows_get hb) rfl) ?_
    refine co_y rfl rfl (y_load_c rfl trivial rfl Try.isAgg50 Try.sizeOf50 (Nat.le_of_ble_eq_true rfl)) ?_
    refine co_y rfl rfl (y_move rfl trivial (by conv => lhs; whnf)) ?_
    refine co_y rfl rfl (y_callfo rfl trivial rfl Try.call45 ⟨trivial, trivial, trivial⟩ (de_find_1_s x num _) rfl) ?_
    refine co_y rfl rfl (y_int rfl trivial rfl rfl rfl rfl) ?_
    refine co_nil ?_
    refine cw_cond trivial rfl (fun h2 => ?_) (fun h2 => ?_)
    · have hxl : x.n < num := by
        have h : cmpS x.n num < 0 := by simpa using h2
        unfold cmpS at h
        split at h
        · assumption
        · split at h <;> omega
      have hlt := hx.1 hxl
      refine cw_region ?_
      refine co_y rfl rfl (y_move rfl trivial (by conv => lhs; whnf)) ?_
      refine co_y rfl rfl (y_add rfl trivial rfl rfl rfl (by omega) (by omega)) ?_
      refine co_y rfl rfl (y_assign rfl trivial (by conv => lhs; whnf)) ?_
      refine co_nil ?_
      exact ⟨((((i : Int) + (j : Int)) / 2).toNat + 1, j), _, ⟨by show j - ((((i : Int) + (j : Int)) / 2).toNat + 1) < j - i; omega, by show (((i : Int) + (j : Int)) / 2).toNat + 1 ≤ _; omega, hj, hjl⟩, ⟨⟨trivial, rfl⟩, ⟨trivial, rfl⟩, ⟨trivial, rfl⟩, ⟨trivial, rfl⟩, ⟨trivial, (congrArg (fun x => CV.val (.int .i64 x)) (by push_cast; omega))⟩, ⟨trivial, rfl⟩, trivial⟩, rfl⟩
    · have hxl : ¬ x.n < num := by
        have h : ¬ cmpS x.n num < 0 := by simpa using h2
        intro hx'
        rw [cmpS, if_pos hx'] at h
        omega
      have hge : ¬ (((i : Int) + (j : Int)) / 2).toNat < A.length := fun h => hxl (hx.2 h)
      refine cw_region ?_
      refine co_y rfl rfl (y_move rfl trivial (by conv => lhs; whnf)) ?_
      refine co_y rfl rfl (y_assign rfl trivial (by conv => lhs; whnf)) ?_
      refine co_nil ?_
      exact ⟨(i, (((i : Int) + (j : Int)) / 2).toNat), _, ⟨by show (((i : Int) + (j : Int)) / 2).toNat - i < j - i; omega, hi, by show A.length ≤ (((i : Int) + (j : Int)) / 2).toNat; omega, by show (((i : Int) + (j : Int)) / 2).toNat ≤ _; omega⟩, ⟨⟨trivial, rfl⟩, ⟨trivial, rfl⟩, ⟨trivial, rfl⟩, ⟨trivial, rfl⟩, ⟨trivial, rfl⟩, ⟨trivial, (congrArg (fun x => CV.val (.int .i64 x)) (by omega))⟩, trivial⟩, rfl⟩
  · have hij : ¬ i < j := by simpa using h1
    have hia : i = A.length := by omega
    subst hia
    obtain ⟨y, hy⟩ : ∃ y : Lt, A.length < l.length → l[A.length]? = some y := by
      by_cases h : A.length < l.length
      · exact ⟨l[A.length], fun _ => by simp⟩
      · exact ⟨⟨0, ⟨0, 0, 0, 0, 0⟩⟩, fun h' => absurd h' h⟩
    refine cw_exit ?_
    refine cw_seq ?_
    refine cw_region ?_
    refine co_y rfl rfl (y_move rfl trivial (by conv => lhs; whnf)) ?_
    refine co_y rfl rfl (y_move rfl trivial (by conv => lhs; whnf)) ?_
    refine co_y rfl rfl (y_move rfl trivial (by conv => lhs; whnf)) ?_
    refine co_y rfl rfl (y_int rfl trivial trivial rfl rfl rfl) ?_
    refine co_y rfl rfl (y_move rfl trivial (by conv => lhs; whnf)) ?_
    refine co_g rfl rfl trivial rfl rfl (fun hg => y_move rfl trivial (by conv => lhs; whnf)) ?_
    refine co_g rfl rfl trivial rfl rfl (fun hg => y_move rfl trivial (by conv => lhs; whnf)) ?_
    refine co_g rfl rfl trivial rfl rfl (fun hg => y_move rfl trivial (by conv => lhs; whnf)) ?_
    refine co_g rfl rfl trivial rfl rfl (fun hg => y_index rfl hg hg rfl rfl Try.runUnderlying23 Try.sizeOf50 (by first | omega | (simp at hg; omega)) (rows_get (hy (by simpa using hg))) rfl) ?_
    refine co_g rfl rfl trivial rfl rfl (fun hg => y_load_c rfl hg rfl Try.isAgg50 Try.sizeOf50 (Nat.le_of_ble_eq_true rfl)) ?_
    refine co_g rfl rfl trivial rfl rfl (fun hg => y_move rfl trivial (by conv => lhs; whnf)) ?_
    refine co_g rfl rfl trivial rfl rfl (fun hg => y_callfo rfl hg rfl Try.call45 ⟨hg, hg, trivial⟩ (de_find_1_s y num _) rfl) ?_
    refine co_g rfl rfl trivial rfl rfl (fun hg => y_int rfl hg rfl rfl rfl rfl) ?_
    refine co_y rfl rfl (y_pick_and rfl trivial rfl (fun hp => hp) (fun _ => rfl)) ?_
    refine co_y rfl rfl (y_assign rfl trivial (by conv => lhs; whnf)) ?_
    refine co_y rfl rfl (y_assign rfl trivial (by conv => lhs; whnf)) ?_
    refine co_nil ?_
    refine cw_ret ?_
    exact ⟨_, res_all (rs := [.tmp 6, .tmp 7]) (cs := [_, _]) rfl ⟨⟨trivial, (by conv => lhs; whnf)⟩, ⟨trivial, (by conv => lhs; whnf)⟩, trivial⟩ (Nat.ne_of_beq_eq_false rfl), _, _, rfl, rfl, (by have e2 := hdEq_of (A := A) (B := B) (y := y) hB (by rw [← e]; exact hy); rw [← e] at e2; exact .tups ⟨.old (.val _), cls_bool e2, trivial⟩)⟩

theorem slices_BinarySearchFunc_s (l A B : List Lt) (nn : Bool) (num : Int) (e : l = A ++ B) (hA : ∀ a ∈ A, a.n < num) (hB : ∀ b ∈ B, num ≤ b.n) (hl : l.length ≤ 1000000000) (σ : List CObj) : CCalls CC 44 [(.list (l.map Lt.cv) nn none), (.val (.int .i64 (num))), .val (.func (.func 45) #[] #[])] σ fun r σ' => r = .ret (.tup [(.val (.int .i64 ((A.length : Int)))), (.val (.bool (hdEq B num)))]) ∧ σ' = σ :=
  CCalls.anyw hCC (by repeat' (first | exact .val _ | exact pure_lts _ _ | exact pure_rps _ _ | exact pure_ints _ _ | exact trivial | refine pure_agg ?_ | refine pure_tup ?_ | refine ⟨?_, ?_⟩)) (by repeat' (first | exact .val _ | exact pure_lts _ _ | exact pure_rps _ _ | exact pure_ints _ _ | exact trivial | refine pure_agg ?_ | refine pure_tup ?_ | refine ⟨?_, ?_⟩)) (slices_BinarySearchFunc l A B nn num e hA hB hl) σ

def fA (n : Net) (num : Int) : List Lt := n.fly.takeWhile fun x => decide (x.n < num)
def fB (n : Net) (num : Int) : List Lt := n.fly.dropWhile fun x => decide (x.n < num)
theorem fAB (n : Net) (num : Int) : n.fly = fA n num ++ fB n num := (List.takeWhile_append_dropWhile).symm
theorem tw_lt {num : Int} : ∀ {l : List Lt}, ∀ a ∈ l.takeWhile (fun x => decide (x.n < num)), a.n < num
  | [], a, ha => by simp at ha
  | y :: l, a, ha => by
    by_cases hy : y.n < num
    · rw [List.takeWhile_cons_of_pos (by simpa using hy)] at ha
      rcases List.mem_cons.1 ha with rfl | ha
      · exact hy
      · exact tw_lt a ha
    · rw [List.takeWhile_cons_of_neg (by simpa using hy)] at ha
      simp at ha
theorem fA_lt (n : Net) (num : Int) : ∀ a ∈ fA n num, a.n < num := tw_lt
theorem asc_all : ∀ {l : List Lt} {lo hi : Int}, Asc l lo hi → ∀ x ∈ l, lo < x.n ∧ x.n < hi ∧ RightP x.r
  | [], _, _, _, x, hx => by simp at hx
  | y :: l, lo, hi, ⟨h1, h⟩, x, hx => by
    rcases List.mem_cons.1 hx with rfl | hx
    · exact h1
    · have := asc_all h x hx
      exact ⟨by omega, this.2⟩
theorem asc_drop {num : Int} : ∀ {l : List Lt} {lo hi : Int}, Asc l lo hi → ∀ b ∈ l.dropWhile (fun x => decide (x.n < num)), num ≤ b.n
  | [], _, _, _, b, hb => by simp at hb
  | y :: l, lo, hi, ⟨h1, h⟩, b, hb => by
    by_cases hy : y.n < num
    · rw [List.dropWhile_cons_of_pos (by simpa using hy)] at hb
      exact asc_drop h b hb
    · rw [List.dropWhile_cons_of_neg (by simpa using hy)] at hb
      rcases List.mem_cons.1 hb with rfl | hb
      · omega
      · have := asc_all h b hb
        omega
theorem fB_ge {n : Net} (h : CkP n) (num : Int) : ∀ b ∈ fB n num, num ≤ b.n := asc_drop h.asc
def findS (c : Bool) (n : Net) (num : Int) : Int × Int := if c = false then (0, 1) else if hdEq (fB n num) num = false then (0, 18) else ((fA n num).length, 0)
def delS (c : Bool) (n : Net) (num : Int) (keep : Bool) : Net × Rp × Int :=
  if c = false then (zeroN, zeroR, 1) else match fB n num with
  | [] => (zeroN, zeroR, 18)
  | b :: B => if b.n = num then (⟨n.next, if keep = true then n.fly else fA n num ++ B, true⟩, b.r, 0) else (zeroN, zeroR, 18)

set_option maxRecDepth 10000 in
theorem de_find (n : Net) (num : Int) (hl : n.fly.length ≤ maxLen) : CCalls CC 32 [.agg n.cells, (.val (.int .i64 (num)))] [] fun r σ' => r = .ret (.tup [(.val (.int .i64 ((findS (pb (CkP n)) n num).1))), (.val (.int .i64 ((findS (pb (CkP n)) n num).2)))]) ∧ σ' = [] := by
  refine ccalls_val (ccalls_of Try.func32 rfl rfl ?_)
  refine cw_seq ?_
  refine cw_region ?_
  refine co_d rfl rfl (d_box rfl trivial (by conv => lhs; whnf) (.inr ⟨_, rfl⟩) ?_)
  refine co_y rfl rfl (y_assign rfl rfl (by conv => lhs; whnf)) ?_
  refine co_y rfl rfl (y_assign rfl rfl (by conv => lhs; whnf)) ?_
  refine co_nil ?_
  refine cw_seq ?_
  refine cw_seq ?_
  refine cw_region ?_
  refine co_y rfl rfl (y_load rfl trivial rfl Try.isAgg25 Try.sizeOf25 rfl (Nat.le_of_ble_eq_true rfl)) ?_
  refine co_y rfl rfl (y_callf rfl Try.call14 ⟨trivial, trivial⟩ (de_Check_s n hl _) rfl) ?_
  refine co_y rfl rfl (y_not rfl trivial rfl) ?_
  refine co_nil ?_
  refine cw_cond trivial rfl (fun h1 => ?_) (fun h1 => ?_)
  · have hc : pb (CkP n) = false := by simpa using h1
    refine cw_seq ?_
    refine cw_region ?_
    refine co_y rfl rfl (y_assign rfl rfl (by conv => lhs; whnf)) ?_
    refine co_y rfl rfl (y_assign rfl rfl (by conv => lhs; whnf)) ?_
    refine co_nil ?_
    refine cw_ret ?_
    exact ⟨_, res_all (rs := [.tmp 4, .tmp 5]) (cs := [_, _]) rfl ⟨⟨trivial, (by conv => lhs; whnf)⟩, ⟨trivial, (by conv => lhs; whnf)⟩, trivial⟩ (Nat.ne_of_beq_eq_false rfl), _, _, rfl, rfl, (cls_eq (by rw [findS, if_pos hc]) (by repeat' (first | exact .val _ | exact pure_lts _ _ | exact pure_rps _ _ | exact pure_ints _ _ | exact trivial | refine pure_agg ?_ | refine pure_tup ?_ | refine ⟨?_, ?_⟩)))⟩
  · have hc : ¬ pb (CkP n) = false := by simpa using h1
    have hck : CkP n := pb_eq.1 (by simpa using hc)
    have hlen := hck.len
    refine cw_skip ?_
    refine cw_seq ?_
    refine cw_region ?_
    refine co_y rfl rfl (y_field rfl trivial rfl Try.runUnderlying25 rfl Try.sizeOf23 (by decide)) ?_
    refine co_y rfl rfl (y_load1 rfl trivial rfl Try.isAgg23 rfl rfl) ?_
    refine co_y rfl rfl (y_move rfl trivial (by conv => lhs; whnf)) ?_
    refine co_y rfl rfl (y_callf rfl Try.call44 ⟨trivial, trivial, trivial, trivial⟩ (slices_BinarySearchFunc_s n.fly (fA n num) (fB n num) n.nn num (fAB n num) (fA_lt n num) (fB_ge hck num) (by omega) _) rfl) ?_
    refine co_y rfl rfl (y_move rfl trivial (by conv => lhs; whnf)) ?_
    refine co_y rfl rfl (y_extract rfl trivial rfl rfl) ?_
    refine co_y rfl rfl (y_extract rfl trivial rfl rfl) ?_
    refine co_y rfl rfl (y_assign rfl trivial (by conv => lhs; whnf)) ?_
    refine co_y rfl rfl (y_assign rfl trivial (by conv => lhs; whnf)) ?_
    refine co_nil ?_
    refine cw_seq ?_
    refine cw_seq ?_
    refine cw_region ?_
    refine co_y rfl rfl (y_move rfl trivial (by conv => lhs; whnf)) ?_
    refine co_y rfl rfl (y_not rfl trivial rfl) ?_
    refine co_nil ?_
    refine cw_cond trivial rfl (fun h2 => ?_) (fun h2 => ?_)
    · have hh : hdEq (fB n num) num = false := by simpa using h2
      refine cw_seq ?_
      refine cw_region ?_
      refine co_y rfl rfl (y_assign rfl rfl (by conv => lhs; whnf)) ?_
      refine co_y rfl rfl (y_assign rfl rfl (by conv => lhs; whnf)) ?_
      refine co_nil ?_
      refine cw_ret ?_
      exact ⟨_, res_all (rs := [.tmp 4, .tmp 5]) (cs := [_, _]) rfl ⟨⟨trivial, (by conv => lhs; whnf)⟩, ⟨trivial, (by conv => lhs; whnf)⟩, trivial⟩ (Nat.ne_of_beq_eq_false rfl), _, _, rfl, rfl, (cls_eq (by rw [findS, if_neg hc, if_pos hh]) (by repeat' (first | exact .val _ | exact pure_lts _ _ | exact pure_rps _ _ | exact pure_ints _ _ | exact trivial | refine pure_agg ?_ | refine pure_tup ?_ | refine ⟨?_, ?_⟩)))⟩
    · have hh : ¬ hdEq (fB n num) num = false := by simpa using h2
      refine cw_skip ?_
      refine cw_seq ?_
      refine cw_region ?_
      refine co_y rfl rfl (y_move rfl trivial (by conv => lhs; whnf)) ?_
      refine co_y rfl rfl (y_assign rfl trivial (by conv => lhs; whnf)) ?_
      refine co_y rfl rfl (y_assign rfl rfl (by conv => lhs; whnf)) ?_
      refine co_nil ?_
      refine cw_ret ?_
      exact ⟨_, res_all (rs := [.tmp 4, .tmp 5]) (cs := [_, _]) rfl ⟨⟨trivial, (by conv => lhs; whnf)⟩, ⟨trivial, (by conv => lhs; whnf)⟩, trivial⟩ (Nat.ne_of_beq_eq_false rfl), _, _, rfl, rfl, (cls_eq (by rw [findS, if_neg hc, if_neg hh]) (by repeat' (first | exact .val _ | exact pure_lts _ _ | exact pure_rps _ _ | exact pure_ints _ _ | exact trivial | refine pure_agg ?_ | refine pure_tup ?_ | refine ⟨?_, ?_⟩)))⟩

theorem de_find_s (n : Net) (num : Int) (hl : n.fly.length ≤ maxLen) (σ : List CObj) : CCalls CC 32 [.agg n.cells, (.val (.int .i64 (num)))] σ fun r σ' => r = .ret (.tup [(.val (.int .i64 ((findS (pb (CkP n)) n num).1))), (.val (.int .i64 ((findS (pb (CkP n)) n num).2)))]) ∧ σ' = σ :=
  CCalls.anyw hCC (by repeat' (first | exact .val _ | exact pure_lts _ _ | exact pure_rps _ _ | exact pure_ints _ _ | exact trivial | refine pure_agg ?_ | refine pure_tup ?_ | refine ⟨?_, ?_⟩)) (by repeat' (first | exact .val _ | exact pure_lts _ _ | exact pure_rps _ _ | exact pure_ints _ _ | exact trivial | refine pure_agg ?_ | refine pure_tup ?_ | refine ⟨?_, ?_⟩)) (de_find n num hl) σ

set_option maxRecDepth 10000 in
theorem de_without (n : Net) (A : List Lt) (b : Lt) (B : List Lt) (e : n.fly = A ++ b :: B) (hnn : n.nn = true) (hl : n.fly.length ≤ 1000000000) : CCalls CC 34 [.agg n.cells, (.val (.int .i64 ((A.length : Int))))] [] fun r σ' => r = .ret (.agg (Net.cells ⟨n.next, A ++ B, true⟩)) ∧ σ' = [] := by
  obtain ⟨nx, fl, nn0⟩ := n
  dsimp only at e hnn hl
  subst hnn
  have hlA : A.length + (B.length + 1) = fl.length := by rw [e]; simp
  refine ccalls_val (ccalls_of Try.func34 rfl rfl ?_)
  refine cw_seq ?_
  refine cw_region ?_
  refine co_d rfl rfl (d_box rfl trivial (by conv => lhs; whnf) (.inr ⟨_, rfl⟩) ?_)
  refine co_d rfl rfl (d_alloc rfl Try.zeroValue25 rfl (.inr ⟨_, rfl⟩) ?_)
  refine co_nil ?_
  refine cw_seq ?_
  refine cw_region ?_
  refine co_y rfl rfl (y_field rfl trivial rfl Try.runUnderlying25 rfl Try.sizeOf23 (by decide)) ?_
  refine co_y rfl rfl (y_load1 rfl trivial rfl Try.isAgg23 rfl rfl) ?_
  refine co_d rfl rfl (d_callv rfl Try.call33 ⟨trivial, trivial⟩ (slices_CloneV_L fl (by rw [e]; simp) hl _) rfl ?_)
  intro _ _
  refine co_y rfl rfl (y_move rfl trivial (by conv => lhs; whnf)) ?_
  refine co_y rfl rfl (y_move rfl trivial (by conv => lhs; whnf)) ?_
  refine co_y rfl rfl (y_add rfl trivial rfl rfl rfl (by omega) (by omega)) ?_
  refine co_d rfl rfl (d_callv rfl Try.call47 ⟨trivial, trivial, trivial, trivial⟩ (slices_Delete_L A b B [] _ 2 (by rw [← e]; simp) (A.length : Int) ((A.length : Int) + 1) fl.length rfl rfl (by rw [e]; simp; omega) (by omega)) rfl ?_)
  intro _ _
  refine co_y rfl rfl (y_field rfl trivial rfl Try.runUnderlying25 rfl Try.sizeOf23 (by decide)) ?_
  refine co_d rfl rfl (d_store rfl trivial trivial rfl (by conv => lhs; whnf) Try.sizeOf23 (.inl rfl) rfl rfl (Nat.le_of_ble_eq_true rfl) ?_)
  refine co_nil ?_
  refine cw_seq ?_
  refine cw_region ?_
  refine co_y rfl rfl (y_load rfl trivial rfl Try.isAgg25 Try.sizeOf25 rfl (Nat.le_of_ble_eq_true rfl)) ?_
  refine co_d rfl rfl (d_store rfl trivial trivial rfl (by conv => lhs; whnf) Try.sizeOf25 (.inr ⟨_, rfl⟩) rfl rfl (Nat.le_of_ble_eq_true rfl) ?_)
  refine co_nil ?_
  refine cw_ret ?_
  exact ⟨_, res_one rfl ⟨trivial, _, _, _, rfl, rfl, .inr ⟨_, Try.isAgg25, Try.sizeOf25, Nat.le_of_ble_eq_true rfl, rfl⟩⟩, _, _, rfl, rfl, (.aggs ⟨.old (.val _), .vecs (Nat.zero_le _) rfl (by simp) (by rw [List.drop_zero]; exact List.take_left' (by simp)) (fun r hr c hc => (rows_pure (f := Lt.cv) (fun _ => Pures.all ⟨.val _, .val _, .val _, .val _, .val _, .val _, trivial⟩) _) r hr c hc), trivial⟩)⟩

theorem de_without_s (n : Net) (A : List Lt) (b : Lt) (B : List Lt) (e : n.fly = A ++ b :: B) (hnn : n.nn = true) (hl : n.fly.length ≤ 1000000000) (σ : List CObj) : CCalls CC 34 [.agg n.cells, (.val (.int .i64 ((A.length : Int))))] σ fun r σ' => r = .ret (.agg (Net.cells ⟨n.next, A ++ B, true⟩)) ∧ σ' = σ :=
  CCalls.anyw hCC (by repeat' (first | exact .val _ | exact pure_lts _ _ | exact pure_rps _ _ | exact pure_ints _ _ | exact trivial | refine pure_agg ?_ | refine pure_tup ?_ | refine ⟨?_, ?_⟩)) (by repeat' (first | exact .val _ | exact pure_lts _ _ | exact pure_rps _ _ | exact pure_ints _ _ | exact trivial | refine pure_agg ?_ | refine pure_tup ?_ | refine ⟨?_, ?_⟩)) (de_without n A b B e hnn hl) σ

end Go.Proofs.Ytchaklkfaemfgaa
