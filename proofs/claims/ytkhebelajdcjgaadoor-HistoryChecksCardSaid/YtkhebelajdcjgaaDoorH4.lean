import Derived.Test.YtkhebelajdcjgaaDoorK17
import Derived.Test.YtkhebelajdcjgaaDoorH3
namespace Go.Proofs.YtkhebelajdcjgaaDoor
open Go Go.Cl

theorem eq_bkt (x y : Bkt) : ∀ w, (Op.equal 39 (.agg [.int .i64 x.first, .int .i64 x.last, .int .i64 x.count].toArray) (.agg [.int .i64 y.first, .int .i64 y.last, .int .i64 y.count].toArray)).run CC.P w = .ok (decide (x = y)) w := fun w => by
  show (Op.equal _ _ _).run Tryd.prog w = _
  simp [Op.equal, Op.maxDepth, go_sem] -- reads both types
  obtain ⟨a, b, c⟩ := x
  obtain ⟨a', b', c'⟩ := y
  by_cases h1 : a = a' <;> by_cases h2 : b = b' <;> by_cases h3 : c = c' <;> simp [h1, h2, h3]
theorem eq_name (a b c d : ByteArray) : ∀ w, (Op.equal 23 (.agg [.string a, .string b].toArray) (.agg [.string c, .string d].toArray)).run CC.P w = .ok (pb (a.toList = c.toList ∧ b.toList = d.toList)) w := fun w => by
  show (Op.equal _ _ _).run Tryd.prog w = _
  simp [Op.equal, Op.maxDepth, go_sem] -- reads both types
  by_cases h1 : a.toList = c.toList <;> by_cases h2 : b.toList = d.toList <;> simp [h1, h2, pb]

def zeroH : Hist := ⟨⟨#[]⟩, ⟨#[]⟩, 0, 0, 0, 0, 0, [], false⟩
def newS (pkg test : ByteArray) (env k : Int) : Hist × Int :=
  if usable pkg test = false then (zeroH, 1) else if env < 0 ∨ 63 < env ∨ k < 2 ∨ 16 < k then (zeroH, 3) else (⟨pkg, test, env, k, 0, 0, 0, [], false⟩, 0)

def SameP (a b : Hist) : Prop :=
  (a.pkg.toList = b.pkg.toList ∧ a.test.toList = b.test.toList) ∧ a.env = b.env ∧ a.k = b.k ∧ a.runs = b.runs ∧ a.failed = b.failed ∧ a.last = b.last ∧ a.bs = b.bs
theorem same_take {a b : List Bkt} {i : Nat} (hl : a.length = b.length) (h : ∀ j, j < i → a[j]? = b[j]?) (hi : a.length ≤ i) : a = b := List.ext_getElem? fun j => by
  rcases Nat.lt_or_ge j i with hj | hj
  · exact h j hj
  · rw [List.getElem?_eq_none (by omega), List.getElem?_eq_none (by omega)]

def loC (b : Bkt) (f : Int) : Int := if f ≤ b.first then b.count else if f ≤ b.last then 1 else 0
def hiC (b : Bkt) (f : Int) : Int := if f ≤ b.first then b.count else if f ≤ b.last then b.count - 1 else 0
def betLo : List Bkt → Int → Int
  | [], _ => 0
  | b :: l, f => loC b f + betLo l f
def betHi : List Bkt → Int → Int
  | [], _ => 0
  | b :: l, f => hiC b f + betHi l f
theorem betLo_append : ∀ (l r : List Bkt) (f : Int), betLo (l ++ r) f = betLo l f + betLo r f
  | [], _, _ => by simp [betLo]
  | b :: l, r, f => by simp [betLo, betLo_append l r f, Int.add_assoc]
theorem betHi_append : ∀ (l r : List Bkt) (f : Int), betHi (l ++ r) f = betHi l f + betHi r f
  | [], _, _ => by simp [betHi]
  | b :: l, r, f => by simp [betHi, betHi_append l r f, Int.add_assoc]
theorem bet_bound : ∀ {l : List Bkt} (f : Int), (∀ b ∈ l, 1 ≤ b.count ∧ b.count ≤ 1073741824) → (0 ≤ betLo l f ∧ betLo l f ≤ 1073741824 * l.length) ∧ (0 ≤ betHi l f ∧ betHi l f ≤ 1073741824 * l.length)
  | [], _, _ => by simp [betLo, betHi]
  | b :: l, f, h => by
    have ih := bet_bound (l := l) f fun b hb => h b (by simp [hb])
    have := h b (by simp)
    simp only [betLo, betHi, List.length_cons]
    have h1 : 0 ≤ loC b f ∧ loC b f ≤ b.count := by unfold loC; split <;> first | omega | (split <;> omega)
    have h2 : 0 ≤ hiC b f ∧ hiC b f ≤ b.count := by unfold hiC; split <;> first | omega | (split <;> omega)
    omega

noncomputable def betS (c : Bool) (h : Hist) (f : Int) : Int × Int × Int := if c = true then (betLo h.bs f, betHi h.bs f, 0) else (0, 0, 1)
noncomputable def sizS (c : Bool) (h : Hist) : List Int := if c = true then h.bs.map (·.count) else []
theorem take_snoc {bs : List Bkt} {i : Nat} {b : Bkt} (hb : bs[i]? = some b) : bs.take (i + 1) = bs.take i ++ [b] := by
  rw [List.take_add_one, hb]; rfl

set_option maxRecDepth 10000 in
theorem hi_New (pkg test : ByteArray) (env k : Int) : CCalls CC 12 [.agg [(.val (.string (pkg))), (.val (.string (test)))], (.val (.int .i64 (env))), (.val (.int .i64 (k)))] [] fun r σ' => r = .ret (.tup [.agg (newS pkg test env k).1.cells, (.val (.int .i64 ((newS pkg test env k).2)))]) ∧ σ' = [] := by
  refine ccalls_val (ccalls_of Tryd.func12 rfl rfl ?_)
  refine cw_seq ?_
  refine cw_region ?_
  refine co_d rfl rfl (d_box rfl trivial (by conv => lhs; whnf) (.inr ⟨_, rfl⟩) ?_)
  refine co_d rfl rfl (d_alloc rfl Tryd.zeroValue26 rfl (.inr ⟨_, rfl⟩) ?_)
  refine co_y rfl rfl (y_assign rfl rfl (by conv => lhs; whnf)) ?_
  refine co_nil ?_
  refine cw_seq ?_
  refine cw_block ?_
  refine cw_seq ?_
  refine cw_region ?_
  refine co_y rfl rfl (y_load rfl trivial rfl Tryd.isAgg23 Tryd.sizeOf23 rfl (Nat.le_of_ble_eq_true rfl)) ?_
  refine co_y rfl rfl (y_callf rfl Tryd.call28 ⟨trivial, trivial⟩ (hi_usable_s pkg test _) rfl) ?_
  refine co_y rfl rfl (y_not rfl trivial rfl) ?_
  refine co_y rfl rfl (y_assign rfl trivial (by conv => lhs; whnf)) ?_
  refine co_nil ?_
  refine cw_cond trivial rfl (fun h1 => ?_) (fun h1 => ?_)
  · have hu : usable pkg test = false := by simpa using h1
    refine cw_seq ?_
    refine cw_region ?_
    refine co_y rfl rfl (y_build' #[(0, 2), (2, 1), (3, 1), (4, 1), (5, 1), (6, 1), (7, 1)] rfl trivial Tryd.runUnderlying26 Tryd.zeroValue26 rfl ⟨_, rfl⟩ (fun w => by kernel_rfl) rfl rfl) ?_
    refine co_d rfl rfl (d_store rfl trivial trivial rfl (by conv => lhs; whnf) Tryd.sizeOf26 (.inr ⟨_, rfl⟩) rfl rfl (Nat.le_of_ble_eq_true rfl) ?_)
    refine co_y rfl rfl (y_assign rfl rfl (by conv => lhs; whnf)) ?_
    refine co_nil ?_
    refine cw_ret ?_
    exact ⟨_, res_all (rs := [.cell 6 26, .tmp 7]) (cs := [_, _]) rfl ⟨⟨trivial, _, _, _, rfl, rfl, .inr ⟨_, Tryd.isAgg26, Tryd.sizeOf26, Nat.le_of_ble_eq_true rfl, rfl⟩⟩, ⟨trivial, (by conv => lhs; whnf)⟩, trivial⟩ (Nat.ne_of_beq_eq_false rfl), _, _, rfl, rfl, (cls_eq (by rw [newS, if_pos hu]; rfl) (by repeat' (first | exact .val _ | exact pure_bkts _ _ | exact pure_ints _ _ | exact trivial | refine pure_agg ?_ | refine pure_tup ?_ | refine ⟨?_, ?_⟩)))⟩
  · have hu : ¬ usable pkg test = false := by simpa using h1
    refine cw_seq ?_
    refine cw_region ?_
    refine co_y rfl rfl (y_move rfl trivial (by conv => lhs; whnf)) ?_
    refine co_y rfl rfl (y_int rfl trivial rfl rfl rfl rfl) ?_
    refine co_y rfl rfl (y_move rfl trivial (by conv => lhs; whnf)) ?_
    refine co_g rfl rfl trivial rfl rfl (fun hg => y_move rfl trivial (by conv => lhs; whnf)) ?_
    refine co_g rfl rfl trivial rfl rfl (fun hg => y_int rfl hg rfl rfl rfl rfl) ?_
    refine co_y rfl rfl (y_pick_or rfl trivial rfl (fun hp => hp) (fun _ => rfl)) ?_
    refine co_y rfl rfl (y_move rfl trivial (by conv => lhs; whnf)) ?_
    refine co_g rfl rfl trivial rfl rfl (fun hg => y_move rfl trivial (by conv => lhs; whnf)) ?_
    refine co_g rfl rfl trivial rfl rfl (fun hg => y_int rfl hg rfl rfl rfl rfl) ?_
    refine co_y rfl rfl (y_pick_or rfl trivial rfl (fun hp => hp) (fun _ => rfl)) ?_
    refine co_y rfl rfl (y_move rfl trivial (by conv => lhs; whnf)) ?_
    refine co_g rfl rfl trivial rfl rfl (fun hg => y_move rfl trivial (by conv => lhs; whnf)) ?_
    refine co_g rfl rfl trivial rfl rfl (fun hg => y_int rfl hg rfl rfl rfl rfl) ?_
    refine co_y rfl rfl (y_pick_or rfl trivial rfl (fun hp => hp) (fun _ => rfl)) ?_
    refine co_y rfl rfl (y_assign rfl trivial (by conv => lhs; whnf)) ?_
    refine co_nil ?_
    refine cw_cond trivial rfl (fun h2 => ?_) (fun h2 => ?_)
    · have hr : env < 0 ∨ 63 < env ∨ k < 2 ∨ 16 < k := by simp at h2; omega
      refine cw_seq ?_
      refine cw_region ?_
      refine co_y rfl rfl (y_build' #[(0, 2), (2, 1), (3, 1), (4, 1), (5, 1), (6, 1), (7, 1)] rfl trivial Tryd.runUnderlying26 Tryd.zeroValue26 rfl ⟨_, rfl⟩ (fun w => by kernel_rfl) rfl rfl) ?_
      refine co_d rfl rfl (d_store rfl trivial trivial rfl (by conv => lhs; whnf) Tryd.sizeOf26 (.inr ⟨_, rfl⟩) rfl rfl (Nat.le_of_ble_eq_true rfl) ?_)
      refine co_y rfl rfl (y_assign rfl rfl (by conv => lhs; whnf)) ?_
      refine co_nil ?_
      refine cw_ret ?_
      exact ⟨_, res_all (rs := [.cell 6 26, .tmp 7]) (cs := [_, _]) rfl ⟨⟨trivial, _, _, _, rfl, rfl, .inr ⟨_, Tryd.isAgg26, Tryd.sizeOf26, Nat.le_of_ble_eq_true rfl, rfl⟩⟩, ⟨trivial, (by conv => lhs; whnf)⟩, trivial⟩ (Nat.ne_of_beq_eq_false rfl), _, _, rfl, rfl, (cls_eq (by rw [newS, if_neg hu, if_pos hr]; rfl) (by repeat' (first | exact .val _ | exact pure_bkts _ _ | exact pure_ints _ _ | exact trivial | refine pure_agg ?_ | refine pure_tup ?_ | refine ⟨?_, ?_⟩)))⟩
    · have hr : ¬ (env < 0 ∨ 63 < env ∨ k < 2 ∨ 16 < k) := by simp at h2; omega
      refine cw_skip ?_
      refine cw_seq ?_
      refine cw_region ?_
      refine co_y rfl rfl (y_load rfl trivial rfl Tryd.isAgg23 Tryd.sizeOf23 rfl (Nat.le_of_ble_eq_true rfl)) ?_
      refine co_y rfl rfl (y_move rfl trivial (by conv => lhs; whnf)) ?_
      refine co_y rfl rfl (y_move rfl trivial (by conv => lhs; whnf)) ?_
      refine co_y rfl rfl (y_build' #[(0, 2), (2, 1), (3, 1), (4, 1), (5, 1), (6, 1), (7, 1)] rfl ⟨trivial, trivial, trivial, trivial⟩ Tryd.runUnderlying26 Tryd.zeroValue26 rfl ⟨_, rfl⟩ (fun w => by kernel_rfl) rfl rfl) ?_
      refine co_d rfl rfl (d_store rfl trivial trivial rfl (by conv => lhs; whnf) Tryd.sizeOf26 (.inr ⟨_, rfl⟩) rfl rfl (Nat.le_of_ble_eq_true rfl) ?_)
      refine co_y rfl rfl (y_assign rfl rfl (by conv => lhs; whnf)) ?_
      refine co_nil ?_
      refine cw_ret ?_
      exact ⟨_, res_all (rs := [.cell 6 26, .tmp 7]) (cs := [_, _]) rfl ⟨⟨trivial, _, _, _, rfl, rfl, .inr ⟨_, Tryd.isAgg26, Tryd.sizeOf26, Nat.le_of_ble_eq_true rfl, rfl⟩⟩, ⟨trivial, (by conv => lhs; whnf)⟩, trivial⟩ (Nat.ne_of_beq_eq_false rfl), _, _, rfl, rfl, (cls_eq (by rw [newS, if_neg hu, if_neg hr]; rfl) (by repeat' (first | exact .val _ | exact pure_bkts _ _ | exact pure_ints _ _ | exact trivial | refine pure_agg ?_ | refine pure_tup ?_ | refine ⟨?_, ?_⟩)))⟩

theorem hi_New_s (pkg test : ByteArray) (env k : Int) (σ : List CObj) : CCalls CC 12 [.agg [(.val (.string (pkg))), (.val (.string (test)))], (.val (.int .i64 (env))), (.val (.int .i64 (k)))] σ fun r σ' => r = .ret (.tup [.agg (newS pkg test env k).1.cells, (.val (.int .i64 ((newS pkg test env k).2)))]) ∧ σ' = σ :=
  CCalls.anyw hCC (by repeat' (first | exact .val _ | exact pure_bkts _ _ | exact pure_ints _ _ | exact trivial | refine pure_agg ?_ | refine pure_tup ?_ | refine ⟨?_, ?_⟩)) (by repeat' (first | exact .val _ | exact pure_bkts _ _ | exact pure_ints _ _ | exact trivial | refine pure_agg ?_ | refine pure_tup ?_ | refine ⟨?_, ?_⟩)) (hi_New pkg test env k) σ

set_option maxRecDepth 10000 in
theorem re_New (pkg test : ByteArray) (env k : Int) : CCalls CC 13 [.agg [(.val (.string (pkg))), (.val (.string (test)))], (.val (.int .i64 (env))), (.val (.int .i64 (k)))] [] fun r σ' => r = .ret (.tup [.agg (newS pkg test env k).1.cells, (.val (.int .i64 ((newS pkg test env k).2)))]) ∧ σ' = [] := by
  refine ccalls_val (ccalls_of Tryd.func13 rfl rfl ?_)
  refine cw_seq ?_
  refine cw_region ?_
  refine co_d rfl rfl (d_box rfl trivial (by conv => lhs; whnf) (.inr ⟨_, rfl⟩) ?_)
  refine co_d rfl rfl (d_alloc rfl Tryd.zeroValue26 rfl (.inr ⟨_, rfl⟩) ?_)
  refine co_y rfl rfl (y_assign rfl rfl (by conv => lhs; whnf)) ?_
  refine co_nil ?_
  refine cw_seq ?_
  refine cw_seq ?_
  refine cw_region ?_
  refine co_y rfl rfl (y_load rfl trivial rfl Tryd.isAgg23 Tryd.sizeOf23 rfl (Nat.le_of_ble_eq_true rfl)) ?_
  refine co_y rfl rfl (y_callf rfl Tryd.call29 ⟨trivial, trivial⟩ (re_Usable_s pkg test _) rfl) ?_
  refine co_y rfl rfl (y_not rfl trivial rfl) ?_
  refine co_nil ?_
  refine cw_cond trivial rfl (fun h1 => ?_) (fun h1 => ?_)
  · have hu : usable pkg test = false := by simpa using h1
    refine cw_seq ?_
    refine cw_region ?_
    refine co_y rfl rfl (y_build' #[(0, 2), (2, 1), (3, 1), (4, 1), (5, 1), (6, 1), (7, 1)] rfl trivial Tryd.runUnderlying26 Tryd.zeroValue26 rfl ⟨_, rfl⟩ (fun w => by kernel_rfl) rfl rfl) ?_
    refine co_d rfl rfl (d_store rfl trivial trivial rfl (by conv => lhs; whnf) Tryd.sizeOf26 (.inr ⟨_, rfl⟩) rfl rfl (Nat.le_of_ble_eq_true rfl) ?_)
    refine co_y rfl rfl (y_assign rfl rfl (by conv => lhs; whnf)) ?_
    refine co_nil ?_
    refine cw_ret ?_
    exact ⟨_, res_all (rs := [.cell 6 26, .tmp 7]) (cs := [_, _]) rfl ⟨⟨trivial, _, _, _, rfl, rfl, .inr ⟨_, Tryd.isAgg26, Tryd.sizeOf26, Nat.le_of_ble_eq_true rfl, rfl⟩⟩, ⟨trivial, (by conv => lhs; whnf)⟩, trivial⟩ (Nat.ne_of_beq_eq_false rfl), _, _, rfl, rfl, (cls_eq (by rw [newS, if_pos hu]; rfl) (by repeat' (first | exact .val _ | exact pure_bkts _ _ | exact pure_ints _ _ | exact trivial | refine pure_agg ?_ | refine pure_tup ?_ | refine ⟨?_, ?_⟩)))⟩
  · have hu : ¬ usable pkg test = false := by simpa using h1
    refine cw_skip ?_
    refine cw_seq ?_
    refine cw_seq ?_
    refine cw_region ?_
    refine co_y rfl rfl (y_move rfl trivial (by conv => lhs; whnf)) ?_
    refine co_y rfl rfl (y_callf rfl Tryd.call30 ⟨trivial, trivial⟩ (re_Place_s env _) rfl) ?_
    refine co_y rfl rfl (y_not rfl trivial rfl) ?_
    refine co_y rfl rfl (y_move rfl trivial (by conv => lhs; whnf)) ?_
    refine co_g rfl rfl trivial rfl rfl (fun hg => y_move rfl trivial (by conv => lhs; whnf)) ?_
    refine co_g rfl rfl trivial rfl rfl (fun hg => y_int rfl hg rfl rfl rfl rfl) ?_
    refine co_y rfl rfl (y_pick_or rfl trivial rfl (fun hp => hp) (fun _ => rfl)) ?_
    refine co_y rfl rfl (y_move rfl trivial (by conv => lhs; whnf)) ?_
    refine co_g rfl rfl trivial rfl rfl (fun hg => y_move rfl trivial (by conv => lhs; whnf)) ?_
    refine co_g rfl rfl trivial rfl rfl (fun hg => y_int rfl hg rfl rfl rfl rfl) ?_
    refine co_y rfl rfl (y_pick_or rfl trivial rfl (fun hp => hp) (fun _ => rfl)) ?_
    refine co_nil ?_
    refine cw_cond trivial rfl (fun h2 => ?_) (fun h2 => ?_)
    · have hr : env < 0 ∨ 63 < env ∨ k < 2 ∨ 16 < k := by simp [place] at h2; omega
      refine cw_seq ?_
      refine cw_region ?_
      refine co_y rfl rfl (y_build' #[(0, 2), (2, 1), (3, 1), (4, 1), (5, 1), (6, 1), (7, 1)] rfl trivial Tryd.runUnderlying26 Tryd.zeroValue26 rfl ⟨_, rfl⟩ (fun w => by kernel_rfl) rfl rfl) ?_
      refine co_d rfl rfl (d_store rfl trivial trivial rfl (by conv => lhs; whnf) Tryd.sizeOf26 (.inr ⟨_, rfl⟩) rfl rfl (Nat.le_of_ble_eq_true rfl) ?_)
      refine co_y rfl rfl (y_assign rfl rfl (by conv => lhs; whnf)) ?_
      refine co_nil ?_
      refine cw_ret ?_
      exact ⟨_, res_all (rs := [.cell 6 26, .tmp 7]) (cs := [_, _]) rfl ⟨⟨trivial, _, _, _, rfl, rfl, .inr ⟨_, Tryd.isAgg26, Tryd.sizeOf26, Nat.le_of_ble_eq_true rfl, rfl⟩⟩, ⟨trivial, (by conv => lhs; whnf)⟩, trivial⟩ (Nat.ne_of_beq_eq_false rfl), _, _, rfl, rfl, (cls_eq (by rw [newS, if_neg hu, if_pos hr]; rfl) (by repeat' (first | exact .val _ | exact pure_bkts _ _ | exact pure_ints _ _ | exact trivial | refine pure_agg ?_ | refine pure_tup ?_ | refine ⟨?_, ?_⟩)))⟩
    · have hr : ¬ (env < 0 ∨ 63 < env ∨ k < 2 ∨ 16 < k) := by simp [place] at h2; omega
      refine cw_skip ?_
      refine cw_seq ?_
      refine cw_region ?_
      refine co_y rfl rfl (y_load rfl trivial rfl Tryd.isAgg23 Tryd.sizeOf23 rfl (Nat.le_of_ble_eq_true rfl)) ?_
      refine co_y rfl rfl (y_move rfl trivial (by conv => lhs; whnf)) ?_
      refine co_y rfl rfl (y_move rfl trivial (by conv => lhs; whnf)) ?_
      refine co_y rfl rfl (y_build' #[(0, 2), (2, 1), (3, 1), (4, 1), (5, 1), (6, 1), (7, 1)] rfl ⟨trivial, trivial, trivial, trivial⟩ Tryd.runUnderlying26 Tryd.zeroValue26 rfl ⟨_, rfl⟩ (fun w => by kernel_rfl) rfl rfl) ?_
      refine co_d rfl rfl (d_store rfl trivial trivial rfl (by conv => lhs; whnf) Tryd.sizeOf26 (.inr ⟨_, rfl⟩) rfl rfl (Nat.le_of_ble_eq_true rfl) ?_)
      refine co_y rfl rfl (y_assign rfl rfl (by conv => lhs; whnf)) ?_
      refine co_nil ?_
      refine cw_ret ?_
      exact ⟨_, res_all (rs := [.cell 6 26, .tmp 7]) (cs := [_, _]) rfl ⟨⟨trivial, _, _, _, rfl, rfl, .inr ⟨_, Tryd.isAgg26, Tryd.sizeOf26, Nat.le_of_ble_eq_true rfl, rfl⟩⟩, ⟨trivial, (by conv => lhs; whnf)⟩, trivial⟩ (Nat.ne_of_beq_eq_false rfl), _, _, rfl, rfl, (cls_eq (by rw [newS, if_neg hu, if_neg hr]; rfl) (by repeat' (first | exact .val _ | exact pure_bkts _ _ | exact pure_ints _ _ | exact trivial | refine pure_agg ?_ | refine pure_tup ?_ | refine ⟨?_, ?_⟩)))⟩

theorem re_New_s (pkg test : ByteArray) (env k : Int) (σ : List CObj) : CCalls CC 13 [.agg [(.val (.string (pkg))), (.val (.string (test)))], (.val (.int .i64 (env))), (.val (.int .i64 (k)))] σ fun r σ' => r = .ret (.tup [.agg (newS pkg test env k).1.cells, (.val (.int .i64 ((newS pkg test env k).2)))]) ∧ σ' = σ :=
  CCalls.anyw hCC (by repeat' (first | exact .val _ | exact pure_bkts _ _ | exact pure_ints _ _ | exact trivial | refine pure_agg ?_ | refine pure_tup ?_ | refine ⟨?_, ?_⟩)) (by repeat' (first | exact .val _ | exact pure_bkts _ _ | exact pure_ints _ _ | exact trivial | refine pure_agg ?_ | refine pure_tup ?_ | refine ⟨?_, ?_⟩)) (re_New pkg test env k) σ

set_option maxRecDepth 10000 in
theorem re_Same (a b : Hist) (hl : a.bs.length ≤ maxLen) : CCalls CC 14 [.agg a.cells, .agg b.cells] [] fun r σ' => r = .ret (.val (.bool (pb (SameP a b)))) ∧ σ' = [] := by
  unfold maxLen at hl
  refine ccalls_val (ccalls_of Tryd.func14 rfl rfl ?_)
  refine cw_seq ?_
  refine cw_region ?_
  refine co_d rfl rfl (d_box rfl trivial (by conv => lhs; whnf) (.inr ⟨_, rfl⟩) ?_)
  refine co_d rfl rfl (d_box rfl trivial (by conv => lhs; whnf) (.inr ⟨_, rfl⟩) ?_)
  refine co_y rfl rfl (y_assign rfl rfl (by conv => lhs; whnf)) ?_
  refine co_nil ?_
  refine cw_seq ?_
  refine cw_seq ?_
  refine cw_region ?_
  refine co_y rfl rfl (y_field rfl trivial rfl Tryd.runUnderlying26 rfl Tryd.sizeOf23 (by decide)) ?_
  refine co_y rfl rfl (y_load rfl trivial rfl Tryd.isAgg23 Tryd.sizeOf23 rfl (Nat.le_of_ble_eq_true rfl)) ?_
  refine co_y rfl rfl (y_field rfl trivial rfl Tryd.runUnderlying26 rfl Tryd.sizeOf23 (by decide)) ?_
  refine co_y rfl rfl (y_load rfl trivial rfl Tryd.isAgg23 Tryd.sizeOf23 rfl (Nat.le_of_ble_eq_true rfl)) ?_
  refine co_y rfl rfl (y_nes rfl trivial trivial (xs := [.string a.pkg, .string a.test]) (ys := [.string b.pkg, .string b.test]) rfl rfl Tryd.eqGuardType23 (eq_name _ _ _ _)) ?_
  refine co_y rfl rfl (y_move rfl trivial (by conv => lhs; whnf)) ?_
  refine co_g rfl rfl trivial rfl rfl (fun hg => y_field rfl trivial rfl Tryd.runUnderlying26 rfl Tryd.sizeOf3 (by decide)) ?_
  refine co_g rfl rfl trivial rfl rfl (fun hg => y_load1 rfl hg rfl Tryd.isAgg3 rfl rfl) ?_
  refine co_g rfl rfl trivial rfl rfl (fun hg => y_field rfl trivial rfl Tryd.runUnderlying26 rfl Tryd.sizeOf3 (by decide)) ?_
  refine co_g rfl rfl trivial rfl rfl (fun hg => y_load1 rfl hg rfl Tryd.isAgg3 rfl rfl) ?_
  refine co_g rfl rfl trivial rfl rfl (fun hg => y_int rfl hg hg rfl rfl rfl) ?_
  refine co_y rfl rfl (y_pick_or rfl trivial rfl (fun hp => hp) (fun _ => rfl)) ?_
  refine co_y rfl rfl (y_move rfl trivial (by conv => lhs; whnf)) ?_
  refine co_g rfl rfl trivial rfl rfl (fun hg => y_field rfl trivial rfl Tryd.runUnderlying26 rfl Tryd.sizeOf3 (by decide)) ?_
  refine co_g rfl rfl trivial rfl rfl (fun hg => y_load1 rfl hg rfl Tryd.isAgg3 rfl rfl) ?_
  refine co_g rfl rfl trivial rfl rfl (fun hg => y_field rfl trivial rfl Tryd.runUnderlying26 rfl Tryd.sizeOf3 (by decide)) ?_
  refine co_g rfl rfl trivial rfl rfl (fun hg => y_load1 rfl hg rfl Tryd.isAgg3 rfl rfl) ?_
  refine co_g rfl rfl trivial rfl rfl (fun hg => y_int rfl hg hg rfl rfl rfl) ?_
  refine co_y rfl rfl (y_pick_or rfl trivial rfl (fun hp => hp) (fun _ => rfl)) ?_
  refine co_y rfl rfl (y_move rfl trivial (by conv => lhs; whnf)) ?_
  refine co_g rfl rfl trivial rfl rfl (fun hg => y_field rfl trivial rfl Tryd.runUnderlying26 rfl Tryd.sizeOf3 (by decide)) ?_
  refine co_g rfl rfl trivial rfl rfl (fun hg => y_load1 rfl hg rfl Tryd.isAgg3 rfl rfl) ?_
  refine co_g rfl rfl trivial rfl rfl (fun hg => y_field rfl trivial rfl Tryd.runUnderlying26 rfl Tryd.sizeOf3 (by decide)) ?_
  refine co_g rfl rfl trivial rfl rfl (fun hg => y_load1 rfl hg rfl Tryd.isAgg3 rfl rfl) ?_
  refine co_g rfl rfl trivial rfl rfl (fun hg => y_int rfl hg hg rfl rfl rfl) ?_
  refine co_y rfl rfl (y_pick_or rfl trivial rfl (fun hp => hp) (fun _ => rfl)) ?_
  refine co_y rfl rfl (y_move rfl trivial (by conv => lhs; whnf)) ?_
  refine co_g rfl rfl trivial rfl rfl (fun hg => y_field rfl trivial rfl Tryd.runUnderlying26 rfl Tryd.sizeOf3 (by decide)) ?_
  refine co_g rfl rfl trivial rfl rfl (fun hg => y_load1 rfl hg rfl Tryd.isAgg3 rfl rfl) ?_
  refine co_g rfl rfl trivial rfl rfl (fun hg => y_field rfl trivial rfl Tryd.runUnderlying26 rfl Tryd.sizeOf3 (by decide)) ?_
  refine co_g rfl rfl trivial rfl rfl (fun hg => y_load1 rfl hg rfl Tryd.isAgg3 rfl rfl) ?_
  refine co_g rfl rfl trivial rfl rfl (fun hg => y_int rfl hg hg rfl rfl rfl) ?_
  refine co_y rfl rfl (y_pick_or rfl trivial rfl (fun hp => hp) (fun _ => rfl)) ?_
  refine co_y rfl rfl (y_move rfl trivial (by conv => lhs; whnf)) ?_
  refine co_g rfl rfl trivial rfl rfl (fun hg => y_field rfl trivial rfl Tryd.runUnderlying26 rfl Tryd.sizeOf3 (by decide)) ?_
  refine co_g rfl rfl trivial rfl rfl (fun hg => y_load1 rfl hg rfl Tryd.isAgg3 rfl rfl) ?_
  refine co_g rfl rfl trivial rfl rfl (fun hg => y_field rfl trivial rfl Tryd.runUnderlying26 rfl Tryd.sizeOf3 (by decide)) ?_
  refine co_g rfl rfl trivial rfl rfl (fun hg => y_load1 rfl hg rfl Tryd.isAgg3 rfl rfl) ?_
  refine co_g rfl rfl trivial rfl rfl (fun hg => y_int rfl hg hg rfl rfl rfl) ?_
  refine co_y rfl rfl (y_pick_or rfl trivial rfl (fun hp => hp) (fun _ => rfl)) ?_
  refine co_y rfl rfl (y_move rfl trivial (by conv => lhs; whnf)) ?_
  refine co_g rfl rfl trivial rfl rfl (fun hg => y_field rfl trivial rfl Tryd.runUnderlying26 rfl Tryd.sizeOf24 (by decide)) ?_
  refine co_g rfl rfl trivial rfl rfl (fun hg => y_load1 rfl hg rfl Tryd.isAgg24 rfl rfl) ?_
  refine co_g rfl rfl trivial rfl rfl (fun hg => y_len rfl hg rfl Tryd.runUnderlying24 (by first | exact len_map _ _ | rfl) rfl) ?_
  refine co_g rfl rfl trivial rfl rfl (fun hg => y_field rfl trivial rfl Tryd.runUnderlying26 rfl Tryd.sizeOf24 (by decide)) ?_
  refine co_g rfl rfl trivial rfl rfl (fun hg => y_load1 rfl hg rfl Tryd.isAgg24 rfl rfl) ?_
  refine co_g rfl rfl trivial rfl rfl (fun hg => y_len rfl hg rfl Tryd.runUnderlying24 (by first | exact len_map _ _ | rfl) rfl) ?_
  refine co_g rfl rfl trivial rfl rfl (fun hg => y_int rfl hg hg rfl rfl rfl) ?_
  refine co_y rfl rfl (y_pick_or rfl trivial rfl (fun hp => hp) (fun _ => rfl)) ?_
  refine co_nil ?_
  refine cw_cond trivial rfl (fun h1 => ?_) (fun h1 => ?_)
  · have hne : ¬ SameP a b := fun g => by
      obtain ⟨g1, g2, g3, g4, g5, g6, g7⟩ := g
      simp [pb, g1, g2, g3, g4, g5, g6, g7] at h1
    refine cw_seq ?_
    refine cw_region ?_
    refine co_y rfl rfl (y_assign rfl rfl (by conv => lhs; whnf)) ?_
    refine co_nil ?_
    refine cw_ret ?_
    exact ⟨_, res1 rfl trivial (by conv => lhs; whnf), _, _, rfl, rfl, cls_bool (pb_false hne)⟩
  · have hq : ((a.pkg.toList = b.pkg.toList ∧ a.test.toList = b.test.toList) ∧ a.env = b.env ∧ a.k = b.k ∧ a.runs = b.runs ∧ a.failed = b.failed ∧ a.last = b.last) ∧ (a.bs.length : Int) = b.bs.length := by
      simp [pb_eq] at h1
      exact ⟨⟨h1.1.1.1.1.1.1, h1.1.1.1.1.1.2, h1.1.1.1.1.2, h1.1.1.1.2, h1.1.1.2, h1.1.2⟩, by omega⟩
    obtain ⟨⟨q1, q2, q3, q4, q5, q6⟩, hlen⟩ := hq
    have hlen : a.bs.length = b.bs.length := by omega
    refine cw_skip ?_
    refine cw_seq ?_
    refine cw_seq ?_
    refine cw_region ?_
    refine co_y rfl rfl (y_assign rfl rfl (by conv => lhs; whnf)) ?_
    refine co_nil ?_
    refine cw_block ?_
    refine cw_loopd hCC (α := Nat) (fun i => [(2, .ptr 0 0), (3, .ptr 1 0), (5, (.val (.int .i64 ((i : Int)))))]) (fun _ => [.box a.cells, .box b.cells]) (fun i => i ≤ a.bs.length ∧ ∀ j, j < i → a.bs[j]? = b.bs[j]?) (fun i => a.bs.length - i) 0 ⟨Nat.zero_le _, fun j hj => absurd hj (Nat.not_lt_zero j)⟩ ⟨⟨trivial, rfl⟩, ⟨trivial, rfl⟩, ⟨trivial, rfl⟩, trivial⟩ (extra0 := []) rfl (fun _ _ => Nat.le_of_ble_eq_true rfl) (fun a ha => by repeat' (first | exact trivial | exact .val _ | exact .ptr (Nat.le_of_ble_eq_true rfl) | exact .map (Nat.le_of_ble_eq_true rfl) | exact old_bkts _ _ _ | refine old_box ?_ | refine ⟨?_, ?_⟩)) ?_
    intro i ⟨hi, hp⟩
    refine cw_seq ?_
    refine cw_seq ?_
    refine cw_region ?_
    refine co_y rfl rfl (y_move rfl trivial (by conv => lhs; whnf)) ?_
    refine co_y rfl rfl (y_field rfl trivial rfl Tryd.runUnderlying26 rfl Tryd.sizeOf24 (by decide)) ?_
    refine co_y rfl rfl (y_load1 rfl trivial rfl Tryd.isAgg24 rfl rfl) ?_
    refine co_y rfl rfl (y_len rfl trivial rfl Tryd.runUnderlying24 (by first | exact len_map _ _ | rfl) rfl) ?_
    refine co_y rfl rfl (y_int rfl trivial trivial rfl rfl rfl) ?_
    refine co_nil ?_
    refine cw_cond trivial rfl (fun h2 => ?_) (fun h2 => ?_)
    · have hlt : (i : Int) < a.bs.length := by simpa using h2
      obtain ⟨x, hx⟩ : ∃ b, a.bs[i]? = some b := ⟨a.bs[i]'(by omega), by simp⟩
      obtain ⟨y, hy⟩ : ∃ c, b.bs[i]? = some c := ⟨b.bs[i]'(by omega), by simp⟩
      refine cw_skip ?_
      refine cw_seq ?_
      refine cw_block ?_
      refine cw_seq ?_
      refine cw_draw 11 [0, 1, 0, 7, 15, 0, 32, 0, 224, 480, 1023] (by kernel_rfl) (by kernel_rfl) rfl ?_
      refine ch_y rfl (y_field rfl trivial rfl Tryd.runUnderlying26 rfl Tryd.sizeOf24 (by decide)) ?_
      refine ch_y rfl (y_load1 rfl trivial rfl Tryd.isAgg24 rfl rfl) ?_
      refine ch_y rfl (y_move rfl trivial (by conv => lhs; whnf)) ?_
      refine ch_y rfl (y_index rfl trivial trivial rfl rfl Tryd.runUnderlying24 Tryd.sizeOf39 (by omega) (rows_get hx) rfl) ?_
      refine ch_y rfl (y_load_c rfl trivial rfl Tryd.isAgg39 Tryd.sizeOf39 (Nat.le_of_ble_eq_true rfl)) ?_
      refine ch_y rfl (y_field rfl trivial rfl Tryd.runUnderlying26 rfl Tryd.sizeOf24 (by decide)) ?_
      refine ch_y rfl (y_load1 rfl trivial rfl Tryd.isAgg24 rfl rfl) ?_
      refine ch_y rfl (y_move rfl trivial (by conv => lhs; whnf)) ?_
      refine ch_y rfl (y_index rfl trivial trivial rfl rfl Tryd.runUnderlying24 Tryd.sizeOf39 (by omega) (rows_get hy) rfl) ?_
      refine ch_y rfl (y_load_c rfl trivial rfl Tryd.isAgg39 Tryd.sizeOf39 (Nat.le_of_ble_eq_true rfl)) ?_
      refine ch_y rfl (y_nes rfl trivial trivial (xs := [.int .i64 x.first, .int .i64 x.last, .int .i64 x.count]) (ys := [.int .i64 y.first, .int .i64 y.last, .int .i64 y.count]) rfl rfl Tryd.eqGuardType39 (eq_bkt x y)) ?_
      refine ch_nil ?_
      refine co_nil ?_
      refine cw_cond trivial rfl (fun h3 => ?_) (fun h3 => ?_)
      · have hxy : ¬ x = y := by simpa using h3
        refine cw_seq ?_
        refine cw_region ?_
        refine co_y rfl rfl (y_assign rfl rfl (by conv => lhs; whnf)) ?_
        refine co_nil ?_
        refine cw_ret ?_
        exact ⟨_, res1 rfl trivial (by conv => lhs; whnf), _, _, rfl, rfl, cls_bool (pb_false fun g => hxy (by have e := g.2.2.2.2.2.2; rw [e, hy] at hx; exact (Option.some.inj hx).symm))⟩
      · have hxy : x = y := by simpa using h3
        refine cw_skip ?_
        refine cw_region ?_
        refine co_y rfl rfl (y_move rfl trivial (by conv => lhs; whnf)) ?_
        refine co_y rfl rfl (y_add rfl trivial rfl rfl rfl (by omega) (by omega)) ?_
        refine co_y rfl rfl (y_assign rfl trivial (by conv => lhs; whnf)) ?_
        refine co_nil ?_
        exact ⟨i + 1, _, ⟨by omega, by omega, fun j hj => by
      rcases Nat.lt_or_ge j i with h | h
      · exact hp j h
      · obtain rfl : j = i := by omega
        rw [hx, hy, hxy]⟩, ⟨⟨trivial, rfl⟩, ⟨trivial, rfl⟩, ⟨trivial, rfl⟩, trivial⟩, rfl⟩
    · have hge : ¬ (i : Int) < a.bs.length := by simpa using h2
      refine cw_exit ?_
      refine cw_seq ?_
      refine cw_region ?_
      refine co_y rfl rfl (y_assign rfl rfl (by conv => lhs; whnf)) ?_
      refine co_nil ?_
      refine cw_ret ?_
      exact ⟨_, res1 rfl trivial (by conv => lhs; whnf), _, _, rfl, rfl, cls_bool (pb_true ⟨q1, q2, q3, q4, q5, q6, same_take hlen hp (by omega)⟩)⟩

theorem re_Same_s (a b : Hist) (hl : a.bs.length ≤ maxLen) (σ : List CObj) : CCalls CC 14 [.agg a.cells, .agg b.cells] σ fun r σ' => r = .ret (.val (.bool (pb (SameP a b)))) ∧ σ' = σ :=
  CCalls.anyw hCC (by repeat' (first | exact .val _ | exact pure_bkts _ _ | exact pure_ints _ _ | exact trivial | refine pure_agg ?_ | refine pure_tup ?_ | refine ⟨?_, ?_⟩)) (by repeat' (first | exact .val _ | exact pure_bkts _ _ | exact pure_ints _ _ | exact trivial | refine pure_agg ?_ | refine pure_tup ?_ | refine ⟨?_, ?_⟩)) (re_Same a b hl) σ

set_option maxRecDepth 10000 in
theorem hi_Between (h : Hist) (hf : Fits h) (f : Int) : CCalls CC 22 [.agg h.cells, (.val (.int .i64 (f)))] [] fun r σ' => r = .ret (.tup [(.val (.int .i64 ((betS (pb (ChkP h)) h f).1))), (.val (.int .i64 ((betS (pb (ChkP h)) h f).2.1))), (.val (.int .i64 ((betS (pb (ChkP h)) h f).2.2)))]) ∧ σ' = [] := by
  refine ccalls_val (ccalls_of Tryd.func22 rfl rfl ?_)
  refine cw_seq ?_
  refine cw_region ?_
  refine co_d rfl rfl (d_box rfl trivial (by conv => lhs; whnf) (.inr ⟨_, rfl⟩) ?_)
  refine co_y rfl rfl (y_assign rfl rfl (by conv => lhs; whnf)) ?_
  refine co_y rfl rfl (y_assign rfl rfl (by conv => lhs; whnf)) ?_
  refine co_y rfl rfl (y_assign rfl rfl (by conv => lhs; whnf)) ?_
  refine co_nil ?_
  refine cw_seq ?_
  refine cw_seq ?_
  refine cw_region ?_
  refine co_y rfl rfl (y_load rfl trivial rfl Tryd.isAgg26 Tryd.sizeOf26 rfl (Nat.le_of_ble_eq_true rfl)) ?_
  refine co_y rfl rfl (y_callf rfl Tryd.call15 ⟨trivial, trivial⟩ (hi_Check_s h hf _) rfl) ?_
  refine co_y rfl rfl (y_not rfl trivial rfl) ?_
  refine co_nil ?_
  refine cw_cond trivial rfl (fun h1 => ?_) (fun h1 => ?_)
  · have hc : pb (ChkP h) = false := by simpa using h1
    refine cw_seq ?_
    refine cw_region ?_
    refine co_y rfl rfl (y_assign rfl rfl (by conv => lhs; whnf)) ?_
    refine co_y rfl rfl (y_assign rfl rfl (by conv => lhs; whnf)) ?_
    refine co_y rfl rfl (y_assign rfl rfl (by conv => lhs; whnf)) ?_
    refine co_nil ?_
    refine cw_ret ?_
    exact ⟨_, res_all (rs := [.tmp 4, .tmp 5, .tmp 6]) (cs := [_, _, _]) rfl ⟨⟨trivial, (by conv => lhs; whnf)⟩, ⟨trivial, (by conv => lhs; whnf)⟩, ⟨trivial, (by conv => lhs; whnf)⟩, trivial⟩ (Nat.ne_of_beq_eq_false rfl), _, _, rfl, rfl, (cls_eq (by rw [betS, if_neg (by rw [hc]; decide)]) (by repeat' (first | exact .val _ | exact pure_bkts _ _ | exact pure_ints _ _ | exact trivial | refine pure_agg ?_ | refine pure_tup ?_ | refine ⟨?_, ?_⟩)))⟩
  · have hc : pb (ChkP h) = true := by simpa using h1
    have hcp := pb_eq.1 hc
    have hcnt : ∀ b ∈ h.bs, 1 ≤ b.count ∧ b.count ≤ 1073741824 := fun b hb => (by obtain ⟨i, hi⟩ := List.mem_iff_getElem?.1 hb; have := hcp.siz.1 i b hi; exact ⟨this.1, this.2.1⟩)
    have hlen := hf.len
    refine cw_skip ?_
    refine cw_seq ?_
    refine cw_seq ?_
    refine cw_region ?_
    refine co_y rfl rfl (y_field rfl trivial rfl Tryd.runUnderlying26 rfl Tryd.sizeOf24 (by decide)) ?_
    refine co_y rfl rfl (y_load1 rfl trivial rfl Tryd.isAgg24 rfl rfl) ?_
    refine co_y rfl rfl (y_len rfl trivial rfl Tryd.runUnderlying24 (by first | exact len_map _ _ | rfl) rfl) ?_
    refine co_y rfl rfl (y_move rfl rfl (by conv => lhs; whnf)) ?_
    refine co_nil ?_
    refine cw_block ?_
    refine cw_loopd hCC (α := Nat) (fun i => [(1, .val (.int .i64 f)), (4, (.val (.int .i64 (betLo (h.bs.take i) f)))), (5, (.val (.int .i64 (betHi (h.bs.take i) f)))), (13, (.list (h.bs.map Bkt.cv) h.nn none)), (14, (.val (.int .i64 ((h.bs.length : Int))))), (15, (.val (.int .i64 ((i : Int)))))]) (fun _ => [.box h.cells]) (fun i => i ≤ h.bs.length) (fun i => h.bs.length - i) 0 (Nat.zero_le _) ⟨⟨trivial, rfl⟩, ⟨trivial, rfl⟩, ⟨trivial, rfl⟩, ⟨trivial, rfl⟩, ⟨trivial, rfl⟩, ⟨trivial, rfl⟩, trivial⟩ (extra0 := []) rfl (fun _ _ => Nat.le_of_ble_eq_true rfl) (fun a ha => by repeat' (first | exact trivial | exact .val _ | exact .ptr (Nat.le_of_ble_eq_true rfl) | exact .map (Nat.le_of_ble_eq_true rfl) | exact old_bkts _ _ _ | refine old_box ?_ | refine ⟨?_, ?_⟩)) ?_
    intro i hi
    refine cw_seq ?_
    refine cw_region ?_
    refine co_y rfl rfl (y_int rfl trivial trivial rfl rfl rfl) ?_
    refine co_nil ?_
    refine cw_seq ?_
    refine cw_cond trivial rfl (fun h2 => ?_) (fun h2 => ?_)
    · have hlt : (i : Int) < h.bs.length := by simpa using h2
      obtain ⟨b, hb⟩ : ∃ b, h.bs[i]? = some b := ⟨h.bs[i]'(by omega), by simp⟩
      have hbr := hcnt b (List.mem_of_getElem? hb)
      have hl2 : (h.bs.take i).length ≤ i := List.length_take_le _ _
      have hbb := bet_bound (l := h.bs.take i) f (fun b hb => hcnt b (List.mem_of_mem_take hb))
      have hlo : betLo (h.bs.take (i + 1)) f = betLo (h.bs.take i) f + loC b f := by rw [take_snoc hb, betLo_append]; simp [betLo]
      have hhi : betHi (h.bs.take (i + 1)) f = betHi (h.bs.take i) f + hiC b f := by rw [take_snoc hb, betHi_append]; simp [betHi]
      refine cw_skip ?_
      refine cw_seq ?_
      refine cw_block ?_
      refine cw_seq ?_
      refine cw_region ?_
      refine co_y rfl rfl (y_index rfl trivial trivial rfl rfl Tryd.runUnderlying24 Tryd.sizeOf39 (by omega) (rows_get hb) rfl) ?_
      refine co_y rfl rfl (y_load_c rfl trivial rfl Tryd.isAgg39 Tryd.sizeOf39 (Nat.le_of_ble_eq_true rfl)) ?_
      refine co_d rfl rfl (d_alloc rfl Tryd.zeroValue39 rfl (.inr ⟨_, rfl⟩) ?_)
      refine co_d rfl rfl (d_store rfl trivial trivial rfl (by conv => lhs; whnf) Tryd.sizeOf39 (.inr ⟨_, rfl⟩) rfl rfl (Nat.le_of_ble_eq_true rfl) ?_)
      refine co_nil ?_
      refine cw_block ?_
      refine cw_seq ?_
      refine cw_region ?_
      refine co_y rfl rfl (y_field rfl trivial rfl Tryd.runUnderlying39 rfl Tryd.sizeOf3 (by decide)) ?_
      refine co_y rfl rfl (y_load1 rfl trivial rfl Tryd.isAgg3 rfl rfl) ?_
      refine co_y rfl rfl (y_move rfl trivial (by conv => lhs; whnf)) ?_
      refine co_y rfl rfl (y_int rfl trivial trivial rfl rfl rfl) ?_
      refine co_y rfl rfl (y_assign rfl trivial (by conv => lhs; whnf)) ?_
      refine co_nil ?_
      refine cw_cond trivial rfl (fun h3 => ?_) (fun h3 => ?_)
      · have hge : f ≤ b.first := by simpa using h3
        rw [loC, if_pos hge] at hlo
        rw [hiC, if_pos hge] at hhi
        refine cw_draw 10 [0, 0, 2, 7, 0, 0, 32, 112, 15, 511] (by kernel_rfl) (by kernel_rfl) rfl ?_
        refine ch_y rfl (y_move rfl trivial (by conv => lhs; whnf)) ?_
        refine ch_y rfl (y_field rfl trivial rfl Tryd.runUnderlying39 rfl Tryd.sizeOf3 (by decide)) ?_
        refine ch_y rfl (y_load1 rfl trivial rfl Tryd.isAgg3 rfl rfl) ?_
        refine ch_y rfl (y_add rfl trivial trivial rfl rfl (by omega) (by omega)) ?_
        refine ch_y rfl (y_move rfl trivial (by conv => lhs; whnf)) ?_
        refine ch_y rfl (y_field rfl trivial rfl Tryd.runUnderlying39 rfl Tryd.sizeOf3 (by decide)) ?_
        refine ch_y rfl (y_load1 rfl trivial rfl Tryd.isAgg3 rfl rfl) ?_
        refine ch_y rfl (y_add rfl trivial trivial rfl rfl (by omega) (by omega)) ?_
        refine ch_y rfl (y_assign rfl trivial (by conv => lhs; whnf)) ?_
        refine ch_y rfl (y_assign rfl trivial (by conv => lhs; whnf)) ?_
        refine ch_nil ?_
        refine co_nil ?_
        refine cw_region ?_
        refine co_y rfl rfl (y_add rfl trivial rfl rfl rfl (by omega) (by omega)) ?_
        refine co_y rfl rfl (y_move rfl trivial (by conv => lhs; whnf)) ?_
        refine co_nil ?_
        exact ⟨i + 1, _, ⟨by omega, by omega⟩, ⟨⟨trivial, rfl⟩, ⟨trivial, (congrArg (fun x => CV.val (.int .i64 x)) hlo.symm)⟩, ⟨trivial, (congrArg (fun x => CV.val (.int .i64 x)) hhi.symm)⟩, ⟨trivial, rfl⟩, ⟨trivial, rfl⟩, ⟨trivial, rfl⟩, trivial⟩, rfl⟩
      · have hge : ¬ f ≤ b.first := by simpa using h3
        rw [loC, if_neg hge] at hlo
        rw [hiC, if_neg hge] at hhi
        refine cw_seq ?_
        refine cw_region ?_
        refine co_y rfl rfl (y_field rfl trivial rfl Tryd.runUnderlying39 rfl Tryd.sizeOf3 (by decide)) ?_
        refine co_y rfl rfl (y_load1 rfl trivial rfl Tryd.isAgg3 rfl rfl) ?_
        refine co_y rfl rfl (y_move rfl trivial (by conv => lhs; whnf)) ?_
        refine co_y rfl rfl (y_int rfl trivial trivial rfl rfl rfl) ?_
        refine co_y rfl rfl (y_assign rfl trivial (by conv => lhs; whnf)) ?_
        refine co_nil ?_
        refine cw_cond trivial rfl (fun h4 => ?_) (fun h4 => ?_)
        · have hge4 : f ≤ b.last := by simpa using h4
          rw [if_pos hge4] at hlo hhi
          have hhi' : betHi (h.bs.take (i + 1)) f = betHi (h.bs.take i) f + b.count - 1 := by omega
          refine cw_draw 9 [0, 1, 0, 0, 8, 28, 60, 3, 255] (by kernel_rfl) (by kernel_rfl) rfl ?_
          refine ch_y rfl (y_move rfl trivial (by conv => lhs; whnf)) ?_
          refine ch_y rfl (y_add rfl trivial rfl rfl rfl (by omega) (by omega)) ?_
          refine ch_y rfl (y_move rfl trivial (by conv => lhs; whnf)) ?_
          refine ch_y rfl (y_field rfl trivial rfl Tryd.runUnderlying39 rfl Tryd.sizeOf3 (by decide)) ?_
          refine ch_y rfl (y_load1 rfl trivial rfl Tryd.isAgg3 rfl rfl) ?_
          refine ch_y rfl (y_add rfl trivial trivial rfl rfl (by omega) (by omega)) ?_
          refine ch_y rfl (y_sub rfl trivial rfl rfl rfl (by omega) (by omega)) ?_
          refine ch_y rfl (y_assign rfl trivial (by conv => lhs; whnf)) ?_
          refine ch_y rfl (y_assign rfl trivial (by conv => lhs; whnf)) ?_
          refine ch_nil ?_
          refine co_nil ?_
          refine cw_region ?_
          refine co_y rfl rfl (y_add rfl trivial rfl rfl rfl (by omega) (by omega)) ?_
          refine co_y rfl rfl (y_move rfl trivial (by conv => lhs; whnf)) ?_
          refine co_nil ?_
          exact ⟨i + 1, _, ⟨by omega, by omega⟩, ⟨⟨trivial, rfl⟩, ⟨trivial, (congrArg (fun x => CV.val (.int .i64 x)) hlo.symm)⟩, ⟨trivial, (congrArg (fun x => CV.val (.int .i64 x)) hhi'.symm)⟩, ⟨trivial, rfl⟩, ⟨trivial, rfl⟩, ⟨trivial, rfl⟩, trivial⟩, rfl⟩
        · have hge4 : ¬ f ≤ b.last := by simpa using h4
          rw [if_neg hge4, Int.add_zero] at hlo hhi
          refine cw_skip ?_
          refine cw_region ?_
          refine co_y rfl rfl (y_add rfl trivial rfl rfl rfl (by omega) (by omega)) ?_
          refine co_y rfl rfl (y_move rfl trivial (by conv => lhs; whnf)) ?_
          refine co_nil ?_
          exact ⟨i + 1, _, ⟨by omega, by omega⟩, ⟨⟨trivial, rfl⟩, ⟨trivial, (congrArg (fun x => CV.val (.int .i64 x)) hlo.symm)⟩, ⟨trivial, (congrArg (fun x => CV.val (.int .i64 x)) hhi.symm)⟩, ⟨trivial, rfl⟩, ⟨trivial, rfl⟩, ⟨trivial, rfl⟩, trivial⟩, rfl⟩
    · have hge : ¬ (i : Int) < h.bs.length := by simpa using h2
      obtain rfl : i = h.bs.length := by omega
      have htl := List.take_length (l := h.bs)
      refine cw_exit ?_
      refine cw_seq ?_
      refine cw_region ?_
      refine co_y rfl rfl (y_move rfl trivial (by conv => lhs; whnf)) ?_
      refine co_y rfl rfl (y_move rfl trivial (by conv => lhs; whnf)) ?_
      refine co_y rfl rfl (y_assign rfl trivial (by conv => lhs; whnf)) ?_
      refine co_y rfl rfl (y_assign rfl trivial (by conv => lhs; whnf)) ?_
      refine co_y rfl rfl (y_assign rfl rfl (by conv => lhs; whnf)) ?_
      refine co_nil ?_
      refine cw_ret ?_
      exact ⟨_, res_all (rs := [.tmp 4, .tmp 5, .tmp 6]) (cs := [_, _, _]) rfl ⟨⟨trivial, (by conv => lhs; whnf)⟩, ⟨trivial, (by conv => lhs; whnf)⟩, ⟨trivial, (by conv => lhs; whnf)⟩, trivial⟩ (Nat.ne_of_beq_eq_false rfl), _, _, rfl, rfl, (cls_eq (by rw [betS, if_pos hc]; rw [htl]) (by repeat' (first | exact .val _ | exact pure_bkts _ _ | exact pure_ints _ _ | exact trivial | refine pure_agg ?_ | refine pure_tup ?_ | refine ⟨?_, ?_⟩)))⟩

theorem hi_Between_s (h : Hist) (hf : Fits h) (f : Int) (σ : List CObj) : CCalls CC 22 [.agg h.cells, (.val (.int .i64 (f)))] σ fun r σ' => r = .ret (.tup [(.val (.int .i64 ((betS (pb (ChkP h)) h f).1))), (.val (.int .i64 ((betS (pb (ChkP h)) h f).2.1))), (.val (.int .i64 ((betS (pb (ChkP h)) h f).2.2)))]) ∧ σ' = σ :=
  CCalls.anyw hCC (by repeat' (first | exact .val _ | exact pure_bkts _ _ | exact pure_ints _ _ | exact trivial | refine pure_agg ?_ | refine pure_tup ?_ | refine ⟨?_, ?_⟩)) (by repeat' (first | exact .val _ | exact pure_bkts _ _ | exact pure_ints _ _ | exact trivial | refine pure_agg ?_ | refine pure_tup ?_ | refine ⟨?_, ?_⟩)) (hi_Between h hf f) σ

set_option maxRecDepth 10000 in
theorem re_Between (h : Hist) (hf : Fits h) (f : Int) : CCalls CC 26 [.agg h.cells, (.val (.int .i64 (f)))] [] fun r σ' => r = .ret (.tup [(.val (.int .i64 ((betS (pb (RChkP h)) h f).1))), (.val (.int .i64 ((betS (pb (RChkP h)) h f).2.1))), (.val (.int .i64 ((betS (pb (RChkP h)) h f).2.2)))]) ∧ σ' = [] := by
  refine ccalls_val (ccalls_of Tryd.func26 rfl rfl ?_)
  refine cw_seq ?_
  refine cw_region ?_
  refine co_d rfl rfl (d_box rfl trivial (by conv => lhs; whnf) (.inr ⟨_, rfl⟩) ?_)
  refine co_y rfl rfl (y_assign rfl rfl (by conv => lhs; whnf)) ?_
  refine co_y rfl rfl (y_assign rfl rfl (by conv => lhs; whnf)) ?_
  refine co_y rfl rfl (y_assign rfl rfl (by conv => lhs; whnf)) ?_
  refine co_nil ?_
  refine cw_seq ?_
  refine cw_seq ?_
  refine cw_region ?_
  refine co_y rfl rfl (y_load rfl trivial rfl Tryd.isAgg26 Tryd.sizeOf26 rfl (Nat.le_of_ble_eq_true rfl)) ?_
  refine co_y rfl rfl (y_callf rfl Tryd.call19 ⟨trivial, trivial⟩ (re_Check_s h hf _) rfl) ?_
  refine co_y rfl rfl (y_not rfl trivial rfl) ?_
  refine co_nil ?_
  refine cw_cond trivial rfl (fun h1 => ?_) (fun h1 => ?_)
  · have hc : pb (RChkP h) = false := by simpa using h1
    refine cw_seq ?_
    refine cw_region ?_
    refine co_y rfl rfl (y_assign rfl rfl (by conv => lhs; whnf)) ?_
    refine co_y rfl rfl (y_assign rfl rfl (by conv => lhs; whnf)) ?_
    refine co_y rfl rfl (y_assign rfl rfl (by conv => lhs; whnf)) ?_
    refine co_nil ?_
    refine cw_ret ?_
    exact ⟨_, res_all (rs := [.tmp 4, .tmp 5, .tmp 6]) (cs := [_, _, _]) rfl ⟨⟨trivial, (by conv => lhs; whnf)⟩, ⟨trivial, (by conv => lhs; whnf)⟩, ⟨trivial, (by conv => lhs; whnf)⟩, trivial⟩ (Nat.ne_of_beq_eq_false rfl), _, _, rfl, rfl, (cls_eq (by rw [betS, if_neg (by rw [hc]; decide)]) (by repeat' (first | exact .val _ | exact pure_bkts _ _ | exact pure_ints _ _ | exact trivial | refine pure_agg ?_ | refine pure_tup ?_ | refine ⟨?_, ?_⟩)))⟩
  · have hc : pb (RChkP h) = true := by simpa using h1
    have hcp := pb_eq.1 hc
    have hcnt : ∀ b ∈ h.bs, 1 ≤ b.count ∧ b.count ≤ 1073741824 := fun b hb => (by obtain ⟨i, hi⟩ := List.mem_iff_getElem?.1 hb; have := hcp.buk.one i b hi; exact ⟨isP_pos this.pow, this.most⟩)
    have hlen := hf.len
    refine cw_skip ?_
    refine cw_seq ?_
    refine cw_region ?_
    refine co_y rfl rfl (y_assign rfl rfl (by conv => lhs; whnf)) ?_
    refine co_y rfl rfl (y_assign rfl rfl (by conv => lhs; whnf)) ?_
    refine co_nil ?_
    refine cw_seq ?_
    refine cw_seq ?_
    refine cw_region ?_
    refine co_y rfl rfl (y_assign rfl rfl (by conv => lhs; whnf)) ?_
    refine co_nil ?_
    refine cw_block ?_
    refine cw_loopd hCC (α := Nat) (fun i => [(1, .val (.int .i64 f)), (2, .ptr 0 0), (7, (.val (.int .i64 (betLo (h.bs.take i) f)))), (8, (.val (.int .i64 (betHi (h.bs.take i) f)))), (9, (.val (.int .i64 ((i : Int)))))]) (fun _ => [.box h.cells]) (fun i => i ≤ h.bs.length) (fun i => h.bs.length - i) 0 (Nat.zero_le _) ⟨⟨trivial, rfl⟩, ⟨trivial, rfl⟩, ⟨trivial, rfl⟩, ⟨trivial, rfl⟩, ⟨trivial, rfl⟩, trivial⟩ (extra0 := []) rfl (fun _ _ => Nat.le_of_ble_eq_true rfl) (fun a ha => by repeat' (first | exact trivial | exact .val _ | exact .ptr (Nat.le_of_ble_eq_true rfl) | exact .map (Nat.le_of_ble_eq_true rfl) | exact old_bkts _ _ _ | refine old_box ?_ | refine ⟨?_, ?_⟩)) ?_
    intro i hi
    refine cw_seq ?_
    refine cw_seq ?_
    refine cw_region ?_
    refine co_y rfl rfl (y_move rfl trivial (by conv => lhs; whnf)) ?_
    refine co_y rfl rfl (y_field rfl trivial rfl Tryd.runUnderlying26 rfl Tryd.sizeOf24 (by decide)) ?_
    refine co_y rfl rfl (y_load1 rfl trivial rfl Tryd.isAgg24 rfl rfl) ?_
    refine co_y rfl rfl (y_len rfl trivial rfl Tryd.runUnderlying24 (by first | exact len_map _ _ | rfl) rfl) ?_
    refine co_y rfl rfl (y_int rfl trivial trivial rfl rfl rfl) ?_
    refine co_nil ?_
    refine cw_cond trivial rfl (fun h2 => ?_) (fun h2 => ?_)
    · have hlt : (i : Int) < h.bs.length := by simpa using h2
      obtain ⟨b, hb⟩ : ∃ b, h.bs[i]? = some b := ⟨h.bs[i]'(by omega), by simp⟩
      have hbr := hcnt b (List.mem_of_getElem? hb)
      have hl2 : (h.bs.take i).length ≤ i := List.length_take_le _ _
      have hbb := bet_bound (l := h.bs.take i) f (fun b hb => hcnt b (List.mem_of_mem_take hb))
      have hlo : betLo (h.bs.take (i + 1)) f = betLo (h.bs.take i) f + loC b f := by rw [take_snoc hb, betLo_append]; simp [betLo]
      have hhi : betHi (h.bs.take (i + 1)) f = betHi (h.bs.take i) f + hiC b f := by rw [take_snoc hb, betHi_append]; simp [betHi]
      refine cw_skip ?_
      refine cw_seq ?_
      refine cw_block ?_
      refine cw_seq ?_
      refine cw_region ?_
      refine co_y rfl rfl (y_field rfl trivial rfl Tryd.runUnderlying26 rfl Tryd.sizeOf24 (by decide)) ?_
      refine co_y rfl rfl (y_load1 rfl trivial rfl Tryd.isAgg24 rfl rfl) ?_
      refine co_y rfl rfl (y_move rfl trivial (by conv => lhs; whnf)) ?_
      refine co_y rfl rfl (y_index rfl trivial trivial rfl rfl Tryd.runUnderlying24 Tryd.sizeOf39 (by omega) (rows_get hb) rfl) ?_
      refine co_y rfl rfl (y_load_c rfl trivial rfl Tryd.isAgg39 Tryd.sizeOf39 (Nat.le_of_ble_eq_true rfl)) ?_
      refine co_d rfl rfl (d_alloc rfl Tryd.zeroValue39 rfl (.inr ⟨_, rfl⟩) ?_)
      refine co_d rfl rfl (d_store rfl trivial trivial rfl (by conv => lhs; whnf) Tryd.sizeOf39 (.inr ⟨_, rfl⟩) rfl rfl (Nat.le_of_ble_eq_true rfl) ?_)
      refine co_nil ?_
      refine cw_seq ?_
      refine cw_region ?_
      refine co_y rfl rfl (y_field rfl trivial rfl Tryd.runUnderlying39 rfl Tryd.sizeOf3 (by decide)) ?_
      refine co_y rfl rfl (y_load1 rfl trivial rfl Tryd.isAgg3 rfl rfl) ?_
      refine co_y rfl rfl (y_move rfl trivial (by conv => lhs; whnf)) ?_
      refine co_y rfl rfl (y_int rfl trivial trivial rfl rfl rfl) ?_
      refine co_nil ?_
      refine cw_cond trivial rfl (fun h3 => ?_) (fun h3 => ?_)
      · have hge : f ≤ b.first := by simpa using h3
        rw [loC, if_pos hge] at hlo
        rw [hiC, if_pos hge] at hhi
        refine cw_draw 10 [0, 0, 2, 7, 0, 0, 32, 112, 15, 511] (by kernel_rfl) (by kernel_rfl) rfl ?_
        refine ch_y rfl (y_move rfl trivial (by conv => lhs; whnf)) ?_
        refine ch_y rfl (y_field rfl trivial rfl Tryd.runUnderlying39 rfl Tryd.sizeOf3 (by decide)) ?_
        refine ch_y rfl (y_load1 rfl trivial rfl Tryd.isAgg3 rfl rfl) ?_
        refine ch_y rfl (y_add rfl trivial trivial rfl rfl (by omega) (by omega)) ?_
        refine ch_y rfl (y_move rfl trivial (by conv => lhs; whnf)) ?_
        refine ch_y rfl (y_field rfl trivial rfl Tryd.runUnderlying39 rfl Tryd.sizeOf3 (by decide)) ?_
        refine ch_y rfl (y_load1 rfl trivial rfl Tryd.isAgg3 rfl rfl) ?_
        refine ch_y rfl (y_add rfl trivial trivial rfl rfl (by omega) (by omega)) ?_
        refine ch_y rfl (y_assign rfl trivial (by conv => lhs; whnf)) ?_
        refine ch_y rfl (y_assign rfl trivial (by conv => lhs; whnf)) ?_
        refine ch_nil ?_
        refine co_nil ?_
        refine cw_region ?_
        refine co_y rfl rfl (y_move rfl trivial (by conv => lhs; whnf)) ?_
        refine co_y rfl rfl (y_add rfl trivial rfl rfl rfl (by omega) (by omega)) ?_
        refine co_y rfl rfl (y_assign rfl trivial (by conv => lhs; whnf)) ?_
        refine co_nil ?_
        exact ⟨i + 1, _, ⟨by omega, by omega⟩, ⟨⟨trivial, rfl⟩, ⟨trivial, rfl⟩, ⟨trivial, (congrArg (fun x => CV.val (.int .i64 x)) hlo.symm)⟩, ⟨trivial, (congrArg (fun x => CV.val (.int .i64 x)) hhi.symm)⟩, ⟨trivial, rfl⟩, trivial⟩, rfl⟩
      · have hge : ¬ f ≤ b.first := by simpa using h3
        rw [loC, if_neg hge] at hlo
        rw [hiC, if_neg hge] at hhi
        refine cw_seq ?_
        refine cw_region ?_
        refine co_y rfl rfl (y_field rfl trivial rfl Tryd.runUnderlying39 rfl Tryd.sizeOf3 (by decide)) ?_
        refine co_y rfl rfl (y_load1 rfl trivial rfl Tryd.isAgg3 rfl rfl) ?_
        refine co_y rfl rfl (y_move rfl trivial (by conv => lhs; whnf)) ?_
        refine co_y rfl rfl (y_int rfl trivial trivial rfl rfl rfl) ?_
        refine co_nil ?_
        refine cw_cond trivial rfl (fun h4 => ?_) (fun h4 => ?_)
        · have hge4 : f ≤ b.last := by simpa using h4
          rw [if_pos hge4] at hlo hhi
          have hhi' : betHi (h.bs.take (i + 1)) f = betHi (h.bs.take i) f + b.count - 1 := by omega
          refine cw_draw 9 [0, 1, 0, 0, 8, 28, 60, 3, 255] (by kernel_rfl) (by kernel_rfl) rfl ?_
          refine ch_y rfl (y_move rfl trivial (by conv => lhs; whnf)) ?_
          refine ch_y rfl (y_add rfl trivial rfl rfl rfl (by omega) (by omega)) ?_
          refine ch_y rfl (y_move rfl trivial (by conv => lhs; whnf)) ?_
          refine ch_y rfl (y_field rfl trivial rfl Tryd.runUnderlying39 rfl Tryd.sizeOf3 (by decide)) ?_
          refine ch_y rfl (y_load1 rfl trivial rfl Tryd.isAgg3 rfl rfl) ?_
          refine ch_y rfl (y_add rfl trivial trivial rfl rfl (by omega) (by omega)) ?_
          refine ch_y rfl (y_sub rfl trivial rfl rfl rfl (by omega) (by omega)) ?_
          refine ch_y rfl (y_assign rfl trivial (by conv => lhs; whnf)) ?_
          refine ch_y rfl (y_assign rfl trivial (by conv => lhs; whnf)) ?_
          refine ch_nil ?_
          refine co_nil ?_
          refine cw_region ?_
          refine co_y rfl rfl (y_move rfl trivial (by conv => lhs; whnf)) ?_
          refine co_y rfl rfl (y_add rfl trivial rfl rfl rfl (by omega) (by omega)) ?_
          refine co_y rfl rfl (y_assign rfl trivial (by conv => lhs; whnf)) ?_
          refine co_nil ?_
          exact ⟨i + 1, _, ⟨by omega, by omega⟩, ⟨⟨trivial, rfl⟩, ⟨trivial, rfl⟩, ⟨trivial, (congrArg (fun x => CV.val (.int .i64 x)) hlo.symm)⟩, ⟨trivial, (congrArg (fun x => CV.val (.int .i64 x)) hhi'.symm)⟩, ⟨trivial, rfl⟩, trivial⟩, rfl⟩
        · have hge4 : ¬ f ≤ b.last := by simpa using h4
          rw [if_neg hge4, Int.add_zero] at hlo hhi
          refine cw_skip ?_
          refine cw_region ?_
          refine co_y rfl rfl (y_move rfl trivial (by conv => lhs; whnf)) ?_
          refine co_y rfl rfl (y_add rfl trivial rfl rfl rfl (by omega) (by omega)) ?_
          refine co_y rfl rfl (y_assign rfl trivial (by conv => lhs; whnf)) ?_
          refine co_nil ?_
          exact ⟨i + 1, _, ⟨by omega, by omega⟩, ⟨⟨trivial, rfl⟩, ⟨trivial, rfl⟩, ⟨trivial, (congrArg (fun x => CV.val (.int .i64 x)) hlo.symm)⟩, ⟨trivial, (congrArg (fun x => CV.val (.int .i64 x)) hhi.symm)⟩, ⟨trivial, rfl⟩, trivial⟩, rfl⟩
    · have hge : ¬ (i : Int) < h.bs.length := by simpa using h2
      obtain rfl : i = h.bs.length := by omega
      have htl := List.take_length (l := h.bs)
      refine cw_exit ?_
      refine cw_seq ?_
      refine cw_region ?_
      refine co_y rfl rfl (y_move rfl trivial (by conv => lhs; whnf)) ?_
      refine co_y rfl rfl (y_move rfl trivial (by conv => lhs; whnf)) ?_
      refine co_y rfl rfl (y_assign rfl trivial (by conv => lhs; whnf)) ?_
      refine co_y rfl rfl (y_assign rfl trivial (by conv => lhs; whnf)) ?_
      refine co_y rfl rfl (y_assign rfl rfl (by conv => lhs; whnf)) ?_
      refine co_nil ?_
      refine cw_ret ?_
      exact ⟨_, res_all (rs := [.tmp 4, .tmp 5, .tmp 6]) (cs := [_, _, _]) rfl ⟨⟨trivial, (by conv => lhs; whnf)⟩, ⟨trivial, (by conv => lhs; whnf)⟩, ⟨trivial, (by conv => lhs; whnf)⟩, trivial⟩ (Nat.ne_of_beq_eq_false rfl), _, _, rfl, rfl, (cls_eq (by rw [betS, if_pos hc]; rw [htl]) (by repeat' (first | exact .val _ | exact pure_bkts _ _ | exact pure_ints _ _ | exact trivial | refine pure_agg ?_ | refine pure_tup ?_ | refine ⟨?_, ?_⟩)))⟩

theorem re_Between_s (h : Hist) (hf : Fits h) (f : Int) (σ : List CObj) : CCalls CC 26 [.agg h.cells, (.val (.int .i64 (f)))] σ fun r σ' => r = .ret (.tup [(.val (.int .i64 ((betS (pb (RChkP h)) h f).1))), (.val (.int .i64 ((betS (pb (RChkP h)) h f).2.1))), (.val (.int .i64 ((betS (pb (RChkP h)) h f).2.2)))]) ∧ σ' = σ :=
  CCalls.anyw hCC (by repeat' (first | exact .val _ | exact pure_bkts _ _ | exact pure_ints _ _ | exact trivial | refine pure_agg ?_ | refine pure_tup ?_ | refine ⟨?_, ?_⟩)) (by repeat' (first | exact .val _ | exact pure_bkts _ _ | exact pure_ints _ _ | exact trivial | refine pure_agg ?_ | refine pure_tup ?_ | refine ⟨?_, ?_⟩)) (re_Between h hf f) σ

end Go.Proofs.YtkhebelajdcjgaaDoor
