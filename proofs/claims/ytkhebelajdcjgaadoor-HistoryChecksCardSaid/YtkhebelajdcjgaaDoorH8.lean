import Derived.Test.YtkhebelajdcjgaaDoorK22
import Derived.Test.YtkhebelajdcjgaaDoorH7
namespace Go.Proofs.YtkhebelajdcjgaaDoor
open Go Go.Cl

theorem ord_all {l : List Bkt} {last : Int} (h : OrdP l last) : (∀ b ∈ l, 1 ≤ b.first ∧ b.first ≤ b.last ∧ b.last ≤ last ∧ (b.count = 1 → b.first = b.last)) ∧ ∀ (i : Nat) (b p : Bkt), l[i + 1]? = some b → l[i]? = some p → p.last ≤ b.first := by
  induction l with
  | nil => exact ⟨by simp, by simp⟩
  | cons x l ih =>
    obtain ⟨⟨h1, h2, h3, h4⟩, h5⟩ := h
    obtain ⟨g1, g2⟩ := ih h5
    refine ⟨fun b hb => ?_, fun i b p hb hp => ?_⟩
    · rcases List.mem_cons.1 hb with rfl | hb
      · refine ⟨h1, h2, ?_, h4⟩
        rcases l with _ | ⟨y, l⟩
        · exact h3
        · have := g1 y (by simp)
          simp only at h3; omega
      · exact g1 b hb
    · rcases i with _ | i
      · simp at hp; subst hp
        rcases l with _ | ⟨y, l⟩
        · simp at hb
        · simp at hb; subst hb; exact h3
      · exact g2 i b p (by simpa using hb) (by simpa using hp)
theorem ord_of {l : List Bkt} {last : Int} (h1 : ∀ b ∈ l, 1 ≤ b.first ∧ b.first ≤ b.last ∧ b.last ≤ last ∧ (b.count = 1 → b.first = b.last)) (h2 : ∀ (i : Nat) (b p : Bkt), l[i + 1]? = some b → l[i]? = some p → p.last ≤ b.first) : OrdP l last := by
  induction l with
  | nil => trivial
  | cons x l ih =>
    have hx := h1 x (by simp)
    refine ⟨⟨hx.1, hx.2.1, ?_, hx.2.2.2⟩, ih (fun b hb => h1 b (by simp [hb])) fun i b p hb hp => h2 (i + 1) b p (by simpa using hb) (by simpa using hp)⟩
    rcases l with _ | ⟨y, l⟩
    · exact hx.2.2.1
    · exact h2 0 y x (by simp) (by simp)
theorem sumC_nonneg {l : List Bkt} (h : ∀ b ∈ l, 1 ≤ b.count) : 0 ≤ sumC l := by
  induction l with
  | nil => simp [sumC]
  | cons x l ih =>
    have := ih fun b hb => h b (by simp [hb])
    have := h x (by simp)
    simp only [sumC]; omega
def cntP : Nat → List Bkt → Int
  | 0, _ => 0
  | n + 1, l => cntP n l + num l (2 ^ n)
theorem cntP_cons (x : Bkt) (l : List Bkt) : ∀ n, cntP n l ≤ cntP n (x :: l) ∧ ((∃ j, j < n ∧ x.count = 2 ^ j) → cntP n l + 1 ≤ cntP n (x :: l))
  | 0 => ⟨Int.le_refl _, fun ⟨j, hj, _⟩ => absurd hj (Nat.not_lt_zero j)⟩
  | n + 1 => by
    obtain ⟨h1, h2⟩ := cntP_cons x l n
    have e : num (x :: l) (2 ^ n) = (if x.count = 2 ^ n then 1 else 0) + num l (2 ^ n) := rfl
    refine ⟨?_, fun ⟨j, hj, hc⟩ => ?_⟩
    · simp only [cntP]; rw [e]; split <;> omega
    · simp only [cntP]; rw [e]
      by_cases hjn : j = n
      · subst hjn; rw [if_pos hc]; omega
      · have := h2 ⟨j, by omega, hc⟩
        split <;> omega
theorem cntP_len {l : List Bkt} {n : Nat} (h : ∀ b ∈ l, ∃ j, j < n ∧ b.count = 2 ^ j) : (l.length : Int) ≤ cntP n l := by
  induction l with
  | nil =>
    have : ∀ n, cntP n [] = 0 := by
      intro n
      induction n with
      | zero => rfl
      | succ n ih => simp only [cntP, ih, num]; rfl
    rw [this]; simp
  | cons x l ih =>
    have h1 := ih fun b hb => h b (by simp [hb])
    have h2 := (cntP_cons x l n).2 (h x (by simp))
    push_cast [List.length_cons]
    omega
theorem cntP_le {l : List Bkt} {k : Int} (h : ∀ c, num l c ≤ k) : ∀ n : Nat, cntP n l ≤ n * k
  | 0 => by simp [cntP]
  | n + 1 => by
    have h1 := cntP_le h n
    have h2 := h (2 ^ n)
    simp only [cntP]
    push_cast
    rw [Int.add_mul]; omega
theorem siz_len {bs : List Bkt} {k failed : Int} (hk : 2 ≤ k ∧ k ≤ 16) (h : SizP bs k failed) : (bs.length : Int) ≤ 640 := by
  have h1 := num_le_of_at (by omega) fun i b hb => (h.1 i b hb).2.2.2.2
  have h2 := cntP_le h1 31
  have h3 : (bs.length : Int) ≤ cntP 31 bs := cntP_len fun b hb => by
    obtain ⟨i, hi⟩ := List.mem_iff_getElem?.1 hb
    obtain ⟨-, g2, g3, -, -⟩ := h.1 i b hi
    obtain ⟨j, hj⟩ := isP_two g3
    refine ⟨j, ?_, hj⟩
    rcases Nat.lt_or_ge j 31 with h | h
    · exact h
    · have := pow2_mono h
      rw [hj] at g2
      have e : (2 : Int) ^ 31 = 2147483648 := by decide
      omega
  have : ((31 : Nat) : Int) * k ≤ 31 * 16 := by
    have : ((31 : Nat) : Int) = 31 := rfl
    rw [this]; omega
  omega
theorem chk_iff {h : Hist} : ChkP h ↔ RChkP h := by
  constructor
  · intro hc
    have hk := hc.k
    have hf := hc.fail
    have hl := hc.last
    have hz := hc.zero
    have hle := num_le_of_at (by omega) fun i b hb => (hc.siz.1 i b hb).2.2.2.2
    obtain ⟨o1, o2⟩ := ord_all hc.ord
    have hpos : ∀ b ∈ h.bs, 1 ≤ b.count := fun b hb => by
      obtain ⟨i, hi⟩ := List.mem_iff_getElem?.1 hb
      exact (hc.siz.1 i b hi).1
    refine ⟨⟨hc.use, hc.env, hk, hf, siz_len hk hc.siz, by omega, by omega⟩, fun i b hb => ?_, hc.siz.2.1, hc.siz.2.2⟩
    obtain ⟨g1, g2, g3, g4, g5⟩ := hc.siz.1 i b hb
    have ho := o1 b (List.mem_of_getElem? hb)
    refine ⟨g3, g2, ⟨ho.1, ho.2.1, ho.2.2.1⟩, ho.2.2.2, hle _, ?_, fun p h0 hp => ⟨g4 p h0 hp, ?_⟩⟩
    · have e : sumC h.bs = sumC (h.bs.take (i + 1)) + sumC (h.bs.drop (i + 1)) := by rw [← sumC_append, List.take_append_drop]
      have := sumC_nonneg fun b hb => hpos b (List.mem_of_mem_drop (i := i + 1) hb)
      rw [hc.siz.2.2] at e
      omega
    · obtain ⟨i', rfl⟩ : ∃ i', i = i' + 1 := ⟨i - 1, by omega⟩
      exact o2 i' b p hb (by simpa using hp)
  · intro hc
    have hk := hc.k
    have hf := hc.fail
    have hz := hc.zero
    have hm := hc.more
    refine ⟨⟨hc.use, hc.env, hk, hf, by omega, by omega⟩, ord_of (fun b hb => ?_) fun i b p hb hp => ?_, fun i b hb => ?_, hc.buk.low, hc.buk.sum⟩
    · obtain ⟨i, hi⟩ := List.mem_iff_getElem?.1 hb
      have g := hc.buk.one i b hi
      exact ⟨g.first.1, g.first.2.1, g.first.2.2, g.one⟩
    · exact ((hc.buk.one (i + 1) b hb).prev p (by omega) (by simpa using hp)).2
    · have g := hc.buk.one i b hb
      refine ⟨isP_pos g.pow, g.most, g.pow, fun p h0 hp => (g.prev p h0 hp).1, fun he => ?_⟩
      have h1 : num h.bs b.count = num (h.bs.take i) b.count + num (h.bs.drop i) b.count := by rw [← num_append, List.take_append_drop]
      have h2 : 0 < num (h.bs.drop i) b.count := by
        refine num_mem (b := b) ?_ rfl
        obtain ⟨hi1, e1⟩ := List.getElem?_eq_some_iff.1 hb
        rw [List.drop_eq_getElem_cons hi1, e1]; simp
      have := g.num
      omega

set_option maxRecDepth 10000 in
theorem re_join (A : List Bkt) (x y : Bkt) (B : List Bkt) (nn : Bool) (s : Int) (hA : ∀ a ∈ A, a.count ≠ s) (hx : x.count = s) (hl : (A ++ x :: y :: B).length ≤ 4294967296) (hs : 0 ≤ s ∧ s ≤ 4294967296) : CCalls CC 38 [(.list ((A ++ x :: y :: B).map Bkt.cv) nn none), (.val (.int .i64 (s)))] [] fun r σ' => r = .ret (.list ((A ++ (⟨x.first, y.last, 2 * s⟩ : Bkt) :: B).map Bkt.cv) true none) ∧ σ' = [] := by
  refine ccalls_val (ccalls_of Tryd.func38 rfl rfl ?_)
  refine cw_seq ?_
  refine cw_region ?_
  refine co_y rfl rfl (y_assign rfl rfl (by conv => lhs; whnf)) ?_
  refine co_nil ?_
  refine cw_seq ?_
  refine cw_region ?_
  refine co_y rfl rfl (y_assign rfl rfl (by conv => lhs; whnf)) ?_
  refine co_nil ?_
  refine cw_seq ?_
  refine cw_seq ?_
  refine cw_region ?_
  refine co_y rfl rfl (y_assign rfl rfl (by conv => lhs; whnf)) ?_
  refine co_nil ?_
  refine cw_block ?_
  refine cw_loopr hCC 0 rfl (α := List Bkt) (fun acc => [(0, (.list ((A ++ x :: y :: B).map Bkt.cv) nn none)), (1, (.val (.int .i64 (s)))), (5, .list (acc.map Bkt.cv) (gnn acc.length) (gtok acc.length 0)), (6, (.val (.int .i64 ((acc.length : Int)))))]) (fun acc => [gobj acc.length]) (fun acc => ∃ T, A = acc ++ T) (fun acc => A.length + 1 - acc.length) ⟨[], [7], ⟨A, rfl⟩, ⟨rfl, rfl⟩, ⟨⟨trivial, (by first | exact .ptr rfl | exact .map rfl | exact .vec rfl | exact .same rfl (by first | exact .val _ | exact .ptr (Nat.le_of_ble_eq_true rfl) | exact .map (Nat.le_of_ble_eq_true rfl) | exact old_bkts _ _ _) | exact RenV.grow (f := Bkt.cv) (fun _ => ⟨.val _, .val _, .val _, trivial⟩) rfl)⟩, ⟨trivial, (by first | exact .ptr rfl | exact .map rfl | exact .vec rfl | exact .same rfl (by first | exact .val _ | exact .ptr (Nat.le_of_ble_eq_true rfl) | exact .map (Nat.le_of_ble_eq_true rfl) | exact old_bkts _ _ _) | exact RenV.grow (f := Bkt.cv) (fun _ => ⟨.val _, .val _, .val _, trivial⟩) rfl)⟩, ⟨trivial, (by first | exact .ptr rfl | exact .map rfl | exact .vec rfl | exact .same rfl (by first | exact .val _ | exact .ptr (Nat.le_of_ble_eq_true rfl) | exact .map (Nat.le_of_ble_eq_true rfl) | exact old_bkts _ _ _) | exact RenV.grow (f := Bkt.cv) (fun _ => ⟨.val _, .val _, .val _, trivial⟩) rfl)⟩, ⟨trivial, (by first | exact .ptr rfl | exact .map rfl | exact .vec rfl | exact .same rfl (by first | exact .val _ | exact .ptr (Nat.le_of_ble_eq_true rfl) | exact .map (Nat.le_of_ble_eq_true rfl) | exact old_bkts _ _ _) | exact RenV.grow (f := Bkt.cv) (fun _ => ⟨.val _, .val _, .val _, trivial⟩) rfl)⟩, trivial⟩, (by repeat' (first | exact trivial | exact .inl rfl | exact .inr ⟨_, rfl, .same rfl (old_gobj _ _)⟩ | exact .inr ⟨_, rfl, .same (gobj_snoc _ _ _) (old_gobj _ _)⟩ | exact .inr ⟨_, rfl, .same rfl (by repeat' (first | exact trivial | exact .val _ | exact .ptr (Nat.le_of_ble_eq_true rfl) | exact .map (Nat.le_of_ble_eq_true rfl) | exact old_bkts _ _ _ | refine old_box ?_ | refine ⟨?_, ?_⟩))⟩ | exact .inr ⟨_, rfl, .box (by repeat' (first | exact trivial | exact .same rfl (by first | exact .val _ | exact .ptr (Nat.le_of_ble_eq_true rfl) | exact .map (Nat.le_of_ble_eq_true rfl) | exact old_bkts _ _ _) | exact .ptr rfl | exact .map rfl | exact .vec rfl | exact RenV.grow (f := Bkt.cv) (fun _ => ⟨.val _, .val _, .val _, trivial⟩) rfl | refine ⟨?_, ?_⟩))⟩ | refine ⟨?_, ?_⟩))⟩ ?_
  intro acc ⟨T, hT⟩
  have hlen : A.length = acc.length + T.length := by rw [hT]; simp
  have hlL : (A ++ x :: y :: B).length = A.length + 2 + B.length := by simp; omega
  refine cw_seq ?_
  refine cw_seq ?_
  refine cw_region ?_
  refine co_y rfl rfl (y_move rfl trivial (by conv => lhs; whnf)) ?_
  refine co_y rfl rfl (y_move rfl trivial (by conv => lhs; whnf)) ?_
  refine co_y rfl rfl (y_len rfl trivial rfl Tryd.runUnderlying24 (by first | exact len_map _ _ | rfl) rfl) ?_
  refine co_y rfl rfl (y_int rfl trivial trivial rfl rfl rfl) ?_
  refine co_nil ?_
  refine cw_cond trivial rfl (fun h1 => ?_) (fun h1 => ?_)
  · obtain ⟨b, hb⟩ : ∃ b, (A ++ x :: y :: B)[acc.length]? = some b := ⟨(A ++ x :: y :: B)[acc.length]'(by omega), by simp⟩
    refine cw_skip ?_
    refine cw_seq ?_
    refine cw_block ?_
    refine cw_seq ?_
    refine cw_seq ?_
    refine cw_region ?_
    refine co_y rfl rfl (y_move rfl trivial (by conv => lhs; whnf)) ?_
    refine co_y rfl rfl (y_move rfl trivial (by conv => lhs; whnf)) ?_
    refine co_y rfl rfl (y_index rfl trivial trivial rfl rfl Tryd.runUnderlying24 Tryd.sizeOf39 (by omega) (rows_get hb) rfl) ?_
    refine co_y rfl rfl (y_field_c rfl trivial rfl Tryd.runUnderlying39 rfl Tryd.sizeOf3 (by decide)) ?_
    refine co_y rfl rfl (y_load_c1 rfl trivial rfl Tryd.isAgg3 rfl) ?_
    refine co_y rfl rfl (y_move rfl trivial (by conv => lhs; whnf)) ?_
    refine co_y rfl rfl (y_int rfl trivial trivial rfl rfl rfl) ?_
    refine co_nil ?_
    refine cw_cond trivial rfl (fun h2 => ?_) (fun h2 => ?_)
    · have hbs : b.count = s := by simpa using h2
      have hT0 : T = [] := by
        rcases T with _ | ⟨u, T⟩
        · rfl
        · exfalso
          have e : b = u := by
            rw [hT, List.append_assoc, List.getElem?_append_right (Nat.le_refl _), Nat.sub_self] at hb
            simpa using hb.symm
          exact hA u (by rw [hT]; simp) (e ▸ hbs)
      subst hT0
      rw [List.append_nil] at hT
      subst hT
      have hbx : b = x := by
        rw [List.getElem?_append_right (Nat.le_refl _), Nat.sub_self] at hb
        simpa using hb.symm
      subst hbx
      have hy : (A ++ b :: y :: B)[A.length + 1]? = some y := by
        rw [List.getElem?_append_right (by omega)]
        simp
      have hd2 : ((A ++ b :: y :: B).map Bkt.cv).take ((A ++ b :: y :: B).map Bkt.cv).length = (A ++ b :: y :: B).map Bkt.cv := List.take_length
      have hd3 : ((A ++ b :: y :: B).map Bkt.cv).drop (A.length + 2) = B.map Bkt.cv := by
        rw [show (A ++ b :: y :: B).map Bkt.cv = (A.map Bkt.cv ++ [b.cv, y.cv]) ++ B.map Bkt.cv by simp]
        exact List.drop_left' (by simp)
      refine cw_seq ?_
      refine cw_draw 16 [0, 0, 0, 6, 14, 30, 0, 0, 128, 448, 960, 1984, 0, 4096, 16382, 32766, 65535, 131071] (by kernel_rfl) (by kernel_rfl) rfl ?_
      refine ch_y rfl (y_move rfl trivial (by conv => lhs; whnf)) ?_
      refine ch_y rfl (y_move rfl trivial (by conv => lhs; whnf)) ?_
      refine ch_y rfl (y_move rfl trivial (by conv => lhs; whnf)) ?_
      refine ch_y rfl (y_index rfl trivial trivial rfl rfl Tryd.runUnderlying24 Tryd.sizeOf39 (by omega) (rows_get hb) rfl) ?_
      refine ch_y rfl (y_field_c rfl trivial rfl Tryd.runUnderlying39 rfl Tryd.sizeOf3 (by decide)) ?_
      refine ch_y rfl (y_load_c1 rfl trivial rfl Tryd.isAgg3 rfl) ?_
      refine ch_y rfl (y_move rfl trivial (by conv => lhs; whnf)) ?_
      refine ch_y rfl (y_move rfl trivial (by conv => lhs; whnf)) ?_
      refine ch_y rfl (y_add rfl trivial rfl rfl rfl (by omega) (by omega)) ?_
      refine ch_y rfl (y_index rfl trivial trivial rfl rfl Tryd.runUnderlying24 Tryd.sizeOf39 (by omega) (rows_get (by rw [toNat_succ]; exact hy)) rfl) ?_
      refine ch_y rfl (y_field_c rfl trivial rfl Tryd.runUnderlying39 rfl Tryd.sizeOf3 (by decide)) ?_
      refine ch_y rfl (y_load_c1 rfl trivial rfl Tryd.isAgg3 rfl) ?_
      refine ch_y rfl (y_move rfl trivial (by conv => lhs; whnf)) ?_
      refine ch_y rfl (y_mul rfl rfl trivial rfl rfl (by omega) (by omega)) ?_
      refine ch_y rfl (y_build' #[(0, 1), (1, 1), (2, 1)] rfl ⟨trivial, trivial, trivial, trivial⟩ Tryd.runUnderlying39 Tryd.zeroValue39 rfl ⟨_, rfl⟩ (fun w => by kernel_rfl) rfl rfl) ?_
      refine ch_y rfl (y_lit [Bkt.cv (⟨b.first, y.last, 2 * s⟩ : Bkt)] rfl ⟨trivial, trivial⟩ Tryd.runUnderlying24 Tryd.sizeOf39 Tryd.zeroValue39 rfl rfl rfl rfl rfl rfl rfl rfl rfl) ?_
      refine ch_nil ?_
      refine co_d rfl rfl (d_appu rfl trivial trivial rfl (by simp) (src_list rfl (by first | exact rows_len (by intro a; rfl) _ | (intro r hr; simp at hr; subst hr; rfl) | (intro r hr; exact rows_len (by intro a; rfl) _ r (List.mem_of_mem_take (List.mem_of_mem_drop hr))) | (intro r hr; simp at hr; obtain ⟨a, _, rfl⟩ := hr; rfl))) Tryd.runUnderlying24 Tryd.sizeOf39 Tryd.typeInfo39 Tryd.zeroValue39 rfl (.inr rfl) (by first | exact rows_len (by intro a; rfl) _ | assumption | (intro r hr; simp at hr; obtain ⟨a, _, rfl⟩ := hr; rfl)) (by have hb : Tryd.t39.bytes = 24 := rfl; rw [hb]; first | omega | (simp; omega)) (by first | omega | (simp; omega) | simp) ((A ++ [(⟨b.first, y.last, 2 * s⟩ : Bkt)]).map Bkt.cv) (A.length + 1) (by simp) (by simp) ?_)
      refine co_y rfl rfl (y_assign rfl trivial (by conv => lhs; whnf)) ?_
      refine co_nil ?_
      refine cw_seq ?_
      refine cw_region ?_
      refine co_y rfl rfl (y_move rfl trivial (by conv => lhs; whnf)) ?_
      refine co_y rfl rfl (y_move rfl trivial (by conv => lhs; whnf)) ?_
      refine co_y rfl rfl (y_move rfl trivial (by conv => lhs; whnf)) ?_
      refine co_y rfl rfl (y_add rfl trivial rfl rfl rfl (by omega) (by omega)) ?_
      refine co_y rfl rfl (y_slice (l := (A.length + 2)) rfl trivial rfl Tryd.runUnderlying24 Tryd.sizeOf39 (by first | exact rows_len (by intro a; rfl) _ | assumption) ⟨trivial, _, _, rfl, by omega, by omega⟩ rfl (by first | omega | (simp; done) | (simp; omega)) (by first | omega | (simp; omega) | simp)) ?_
      refine co_d rfl rfl (d_appu rfl trivial trivial rfl (by simp) (src_list rfl (by first | exact rows_len (by intro a; rfl) _ | (intro r hr; simp at hr; subst hr; rfl) | (intro r hr; exact rows_len (by intro a; rfl) _ r (List.mem_of_mem_take (List.mem_of_mem_drop hr))) | (intro r hr; simp at hr; obtain ⟨a, _, rfl⟩ := hr; rfl))) Tryd.runUnderlying24 Tryd.sizeOf39 Tryd.typeInfo39 Tryd.zeroValue39 rfl (.inr rfl) (by first | exact rows_len (by intro a; rfl) _ | assumption | (intro r hr; simp at hr; obtain ⟨a, _, rfl⟩ := hr; rfl)) (by have hb : Tryd.t39.bytes = 24 := rfl; rw [hb]; first | omega | (simp; omega)) (by first | omega | (simp; omega) | simp) ((A ++ (⟨b.first, y.last, 2 * s⟩ : Bkt) :: B).map Bkt.cv) (A.length + 1 + B.length) (by rw [hd2, hd3]; simp) (by rw [hd2, hd3]; simp) ?_)
      refine co_y rfl rfl (y_assign rfl trivial (by conv => lhs; whnf)) ?_
      refine co_nil ?_
      refine cw_ret ?_
      exact ⟨_, res1 rfl trivial (by conv => lhs; whnf), _, _, rfl, rfl, (by rw [show gnn (A.length + 1 + B.length) = true by rw [show A.length + 1 + B.length = (A.length + B.length) + 1 by omega]; rfl]; exact .tok (fun r hr c hc => (rows_pure (f := Bkt.cv) (fun _ => Pures.all ⟨.val _, .val _, .val _, trivial⟩) _) r hr c hc))⟩
    · have hbs : ¬ b.count = s := by simpa using h2
      obtain ⟨T', rfl⟩ : ∃ T', T = b :: T' := by
        rcases T with _ | ⟨u, T⟩
        · exfalso
          rw [List.append_nil] at hT
          rw [hT, List.getElem?_append_right (Nat.le_refl _), Nat.sub_self] at hb
          exact hbs (by simp at hb; rw [← hb]; exact hx)
        · refine ⟨T, ?_⟩
          rw [hT, List.append_assoc, List.getElem?_append_right (Nat.le_refl _), Nat.sub_self] at hb
          simp at hb
          rw [hb]
      refine cw_skip ?_
      refine cw_region ?_
      refine co_y rfl rfl (y_move rfl trivial (by conv => lhs; whnf)) ?_
      refine co_y rfl rfl (y_move rfl trivial (by conv => lhs; whnf)) ?_
      refine co_y rfl rfl (y_move rfl trivial (by conv => lhs; whnf)) ?_
      refine co_y rfl rfl (y_index rfl trivial trivial rfl rfl Tryd.runUnderlying24 Tryd.sizeOf39 (by omega) (rows_get hb) rfl) ?_
      refine co_y rfl rfl (y_load_c rfl trivial rfl Tryd.isAgg39 Tryd.sizeOf39 (Nat.le_of_ble_eq_true rfl)) ?_
      refine co_y rfl rfl (y_lit [Bkt.cv b] rfl ⟨trivial, trivial⟩ Tryd.runUnderlying24 Tryd.sizeOf39 Tryd.zeroValue39 rfl rfl rfl rfl rfl rfl rfl rfl rfl) ?_
      refine co_d rfl rfl (d_appu rfl trivial trivial rfl (by simp) (src_list rfl (by first | exact rows_len (by intro a; rfl) _ | (intro r hr; simp at hr; subst hr; rfl) | (intro r hr; exact rows_len (by intro a; rfl) _ r (List.mem_of_mem_take (List.mem_of_mem_drop hr))) | (intro r hr; simp at hr; obtain ⟨a, _, rfl⟩ := hr; rfl))) Tryd.runUnderlying24 Tryd.sizeOf39 Tryd.typeInfo39 Tryd.zeroValue39 rfl (.inr rfl) (by first | exact rows_len (by intro a; rfl) _ | assumption | (intro r hr; simp at hr; obtain ⟨a, _, rfl⟩ := hr; rfl)) (by have hb : Tryd.t39.bytes = 24 := rfl; rw [hb]; first | omega | (simp; omega)) (by first | omega | (simp; omega) | simp) ((acc ++ [b]).map Bkt.cv) (acc ++ [b]).length (by simp) (by simp) ?_)
      refine co_y rfl rfl (y_assign rfl trivial (by conv => lhs; whnf)) ?_
      refine co_nil ?_
      refine cw_region ?_
      refine co_y rfl rfl (y_move rfl trivial (by conv => lhs; whnf)) ?_
      refine co_y rfl rfl (y_add rfl trivial rfl rfl rfl (by omega) (by omega)) ?_
      refine co_y rfl rfl (y_assign rfl trivial (by conv => lhs; whnf)) ?_
      refine co_nil ?_
      exact ⟨(acc ++ [b]), [1], ⟨by simp; simp at hlen; omega, T', by rw [hT]; simp⟩, ⟨rfl, rfl⟩, ⟨⟨trivial, (by first | exact .ptr rfl | exact .map rfl | exact .vec rfl | exact .same rfl (by first | exact .val _ | exact .ptr (Nat.le_of_ble_eq_true rfl) | exact .map (Nat.le_of_ble_eq_true rfl) | exact old_bkts _ _ _) | exact RenV.grow (f := Bkt.cv) (fun _ => ⟨.val _, .val _, .val _, trivial⟩) rfl)⟩, ⟨trivial, (by first | exact .ptr rfl | exact .map rfl | exact .vec rfl | exact .same rfl (by first | exact .val _ | exact .ptr (Nat.le_of_ble_eq_true rfl) | exact .map (Nat.le_of_ble_eq_true rfl) | exact old_bkts _ _ _) | exact RenV.grow (f := Bkt.cv) (fun _ => ⟨.val _, .val _, .val _, trivial⟩) rfl)⟩, ⟨trivial, (by first | exact .ptr rfl | exact .map rfl | exact .vec rfl | exact .same rfl (by first | exact .val _ | exact .ptr (Nat.le_of_ble_eq_true rfl) | exact .map (Nat.le_of_ble_eq_true rfl) | exact old_bkts _ _ _) | exact RenV.grow (f := Bkt.cv) (fun _ => ⟨.val _, .val _, .val _, trivial⟩) rfl)⟩, ⟨trivial, (by first | exact .ptr rfl | exact .map rfl | exact .vec rfl | exact .same (congrArg (fun x => CV.val (.int .i64 x)) (by simp : (acc.length : Int) + 1 = ((acc ++ [b]).length : Int))) (by first | exact .val _ | exact .ptr (Nat.le_of_ble_eq_true rfl) | exact .map (Nat.le_of_ble_eq_true rfl) | exact old_bkts _ _ _) | exact RenV.grow (f := Bkt.cv) (fun _ => ⟨.val _, .val _, .val _, trivial⟩) rfl)⟩, trivial⟩, (by repeat' (first | exact trivial | exact .inl rfl | exact .inr ⟨_, rfl, .same rfl (old_gobj _ _)⟩ | exact .inr ⟨_, rfl, .same (gobj_snoc _ _ _) (old_gobj _ _)⟩ | exact .inr ⟨_, rfl, .same rfl (by repeat' (first | exact trivial | exact .val _ | exact .ptr (Nat.le_of_ble_eq_true rfl) | exact .map (Nat.le_of_ble_eq_true rfl) | exact old_bkts _ _ _ | refine old_box ?_ | refine ⟨?_, ?_⟩))⟩ | exact .inr ⟨_, rfl, .box (by repeat' (first | exact trivial | exact .same rfl (by first | exact .val _ | exact .ptr (Nat.le_of_ble_eq_true rfl) | exact .map (Nat.le_of_ble_eq_true rfl) | exact old_bkts _ _ _) | exact .ptr rfl | exact .map rfl | exact .vec rfl | exact RenV.grow (f := Bkt.cv) (fun _ => ⟨.val _, .val _, .val _, trivial⟩) rfl | refine ⟨?_, ?_⟩))⟩ | refine ⟨?_, ?_⟩))⟩
  · exfalso
    simp at h1
    omega

theorem re_join_s (A : List Bkt) (x y : Bkt) (B : List Bkt) (nn : Bool) (s : Int) (hA : ∀ a ∈ A, a.count ≠ s) (hx : x.count = s) (hl : (A ++ x :: y :: B).length ≤ 4294967296) (hs : 0 ≤ s ∧ s ≤ 4294967296) (σ : List CObj) : CCalls CC 38 [(.list ((A ++ x :: y :: B).map Bkt.cv) nn none), (.val (.int .i64 (s)))] σ fun r σ' => r = .ret (.list ((A ++ (⟨x.first, y.last, 2 * s⟩ : Bkt) :: B).map Bkt.cv) true none) ∧ σ' = σ :=
  CCalls.anyw hCC (by repeat' (first | exact .val _ | exact pure_bkts _ _ | exact pure_ints _ _ | exact trivial | refine pure_agg ?_ | refine pure_tup ?_ | refine ⟨?_, ?_⟩)) (by repeat' (first | exact .val _ | exact pure_bkts _ _ | exact pure_ints _ _ | exact trivial | refine pure_agg ?_ | refine pure_tup ?_ | refine ⟨?_, ?_⟩)) (re_join A x y B nn s hA hx hl hs) σ

theorem RenV.forget {α : Type} {f : α → List CV} {L : Nat} {sel : List Nat} {tok : Option Nat} {nn : Bool} {l : List α} (h : ∀ a, OldL L (f a)) : RenV L sel (.list (l.map f) nn tok) (.list (l.map f) nn none) := by
  refine .list (fun r hr c hc => ?_) (fun j hj => by cases hj)
  obtain ⟨a, _, rfl⟩ := List.mem_map.1 hr
  exact old_box (h a) c hc
theorem sumC_of_inv {k s : Int} {l : List Bkt} (h : Inv k l s) {b : Bkt} (hb : b ∈ l) : b.count ≤ sumC l := sumC_mem (fun b hb => isP_pos (h.pow b hb)) hb

set_option maxRecDepth 10000 in
theorem re_Add (h : Hist) (hf : Fits h) (rev : Int) (failed : Bool) : CCalls CC 21 [.agg h.cells, (.val (.int .i64 (rev))), (.val (.bool (failed)))] [] fun r σ' => r = .ret (.tup [.agg (addS (pb (RChkP h)) h rev failed (failed || gnn h.bs.length)).1.cells, (.val (.int .i64 ((addS (pb (RChkP h)) h rev failed (failed || gnn h.bs.length)).2)))]) ∧ σ' = [] := by
  refine ccalls_val (ccalls_of Tryd.func21 rfl rfl ?_)
  refine cw_seq ?_
  refine cw_region ?_
  refine co_d rfl rfl (d_box rfl trivial (by conv => lhs; whnf) (.inr ⟨_, rfl⟩) ?_)
  refine co_d rfl rfl (d_alloc rfl Tryd.zeroValue26 rfl (.inr ⟨_, rfl⟩) ?_)
  refine co_y rfl rfl (y_assign rfl rfl (by conv => lhs; whnf)) ?_
  refine co_nil ?_
  refine cw_seq ?_
  refine cw_seq ?_
  refine cw_region ?_
  refine co_y rfl rfl (y_load rfl trivial rfl Tryd.isAgg26 Tryd.sizeOf26 rfl (Nat.le_of_ble_eq_true rfl)) ?_
  refine co_y rfl rfl (y_callf rfl Tryd.call19 ⟨trivial, trivial⟩ (re_Check_s h hf _) rfl) ?_
  refine co_y rfl rfl (y_not rfl trivial rfl) ?_
  refine co_nil ?_
  refine cw_cond trivial rfl (fun h1 => ?_) (fun h1 => ?_)
  · have hc : pb (RChkP h) = false := by simpa using h1
    refine cw_seq ?_
    refine cw_region ?_
    refine co_y rfl rfl (y_build' #[(0, 2), (2, 1), (3, 1), (4, 1), (5, 1), (6, 1), (7, 1)] rfl trivial Tryd.runUnderlying26 Tryd.zeroValue26 rfl ⟨_, rfl⟩ (fun w => by kernel_rfl) rfl rfl) ?_
    refine co_d rfl rfl (d_store rfl trivial trivial rfl (by conv => lhs; whnf) Tryd.sizeOf26 (.inr ⟨_, rfl⟩) rfl rfl (Nat.le_of_ble_eq_true rfl) ?_)
    refine co_y rfl rfl (y_assign rfl rfl (by conv => lhs; whnf)) ?_
    refine co_nil ?_
    refine cw_ret ?_
    exact ⟨_, res_all (rs := [.cell 6 26, .tmp 7]) (cs := [_, _]) rfl ⟨⟨trivial, _, _, _, rfl, rfl, .inr ⟨_, Tryd.isAgg26, Tryd.sizeOf26, Nat.le_of_ble_eq_true rfl, rfl⟩⟩, ⟨trivial, (by conv => lhs; whnf)⟩, trivial⟩ (Nat.ne_of_beq_eq_false rfl), _, _, rfl, rfl, (cls_eq (by rw [addS, if_pos hc]; rfl) (by repeat' (first | exact .val _ | exact pure_bkts _ _ | exact pure_ints _ _ | exact trivial | refine pure_agg ?_ | refine pure_tup ?_ | refine ⟨?_, ?_⟩)))⟩
  · have hc : ¬ pb (RChkP h) = false := by simpa using h1
    have hcp : RChkP h := pb_eq.1 (by simpa using hc)
    have hfail := hcp.fail
    have hlen := hcp.len
    have hk2 := hcp.k
    refine cw_skip ?_
    refine cw_seq ?_
    refine cw_seq ?_
    refine cw_region ?_
    refine co_y rfl rfl (y_move rfl trivial (by conv => lhs; whnf)) ?_
    refine co_y rfl rfl (y_int rfl trivial rfl rfl rfl rfl) ?_
    refine co_y rfl rfl (y_move rfl trivial (by conv => lhs; whnf)) ?_
    refine co_g rfl rfl trivial rfl rfl (fun hg => y_move rfl trivial (by conv => lhs; whnf)) ?_
    refine co_g rfl rfl trivial rfl rfl (fun hg => y_int rfl hg rfl rfl rfl rfl) ?_
    refine co_y rfl rfl (y_pick_or rfl trivial rfl (fun hp => hp) (fun _ => rfl)) ?_
    refine co_nil ?_
    refine cw_cond trivial rfl (fun h2 => ?_) (fun h2 => ?_)
    · have hr : rev < 1 ∨ 1073741824 < rev := by simpa using h2
      refine cw_seq ?_
      refine cw_region ?_
      refine co_y rfl rfl (y_build' #[(0, 2), (2, 1), (3, 1), (4, 1), (5, 1), (6, 1), (7, 1)] rfl trivial Tryd.runUnderlying26 Tryd.zeroValue26 rfl ⟨_, rfl⟩ (fun w => by kernel_rfl) rfl rfl) ?_
      refine co_d rfl rfl (d_store rfl trivial trivial rfl (by conv => lhs; whnf) Tryd.sizeOf26 (.inr ⟨_, rfl⟩) rfl rfl (Nat.le_of_ble_eq_true rfl) ?_)
      refine co_y rfl rfl (y_assign rfl rfl (by conv => lhs; whnf)) ?_
      refine co_nil ?_
      refine cw_ret ?_
      exact ⟨_, res_all (rs := [.cell 6 26, .tmp 7]) (cs := [_, _]) rfl ⟨⟨trivial, _, _, _, rfl, rfl, .inr ⟨_, Tryd.isAgg26, Tryd.sizeOf26, Nat.le_of_ble_eq_true rfl, rfl⟩⟩, ⟨trivial, (by conv => lhs; whnf)⟩, trivial⟩ (Nat.ne_of_beq_eq_false rfl), _, _, rfl, rfl, (cls_eq (by rw [addS, if_neg hc, if_pos hr]; rfl) (by repeat' (first | exact .val _ | exact pure_bkts _ _ | exact pure_ints _ _ | exact trivial | refine pure_agg ?_ | refine pure_tup ?_ | refine ⟨?_, ?_⟩)))⟩
    · have hr : ¬ (rev < 1 ∨ 1073741824 < rev) := by simp at h2; omega
      refine cw_skip ?_
      refine cw_seq ?_
      refine cw_seq ?_
      refine cw_region ?_
      refine co_y rfl rfl (y_move rfl trivial (by conv => lhs; whnf)) ?_
      refine co_y rfl rfl (y_field rfl trivial rfl Tryd.runUnderlying26 rfl Tryd.sizeOf3 (by decide)) ?_
      refine co_y rfl rfl (y_load1 rfl trivial rfl Tryd.isAgg3 rfl rfl) ?_
      refine co_y rfl rfl (y_int rfl trivial trivial rfl rfl rfl) ?_
      refine co_nil ?_
      refine cw_cond trivial rfl (fun h3 => ?_) (fun h3 => ?_)
      · have ho : rev < h.last := by simpa using h3
        refine cw_seq ?_
        refine cw_region ?_
        refine co_y rfl rfl (y_build' #[(0, 2), (2, 1), (3, 1), (4, 1), (5, 1), (6, 1), (7, 1)] rfl trivial Tryd.runUnderlying26 Tryd.zeroValue26 rfl ⟨_, rfl⟩ (fun w => by kernel_rfl) rfl rfl) ?_
        refine co_d rfl rfl (d_store rfl trivial trivial rfl (by conv => lhs; whnf) Tryd.sizeOf26 (.inr ⟨_, rfl⟩) rfl rfl (Nat.le_of_ble_eq_true rfl) ?_)
        refine co_y rfl rfl (y_assign rfl rfl (by conv => lhs; whnf)) ?_
        refine co_nil ?_
        refine cw_ret ?_
        exact ⟨_, res_all (rs := [.cell 6 26, .tmp 7]) (cs := [_, _]) rfl ⟨⟨trivial, _, _, _, rfl, rfl, .inr ⟨_, Tryd.isAgg26, Tryd.sizeOf26, Nat.le_of_ble_eq_true rfl, rfl⟩⟩, ⟨trivial, (by conv => lhs; whnf)⟩, trivial⟩ (Nat.ne_of_beq_eq_false rfl), _, _, rfl, rfl, (cls_eq (by rw [addS, if_neg hc, if_neg hr, if_pos ho]; rfl) (by repeat' (first | exact .val _ | exact pure_bkts _ _ | exact pure_ints _ _ | exact trivial | refine pure_agg ?_ | refine pure_tup ?_ | refine ⟨?_, ?_⟩)))⟩
      · have ho : ¬ rev < h.last := by simpa using h3
        refine cw_skip ?_
        refine cw_seq ?_
        refine cw_seq ?_
        refine cw_region ?_
        refine co_y rfl rfl (y_field rfl trivial rfl Tryd.runUnderlying26 rfl Tryd.sizeOf3 (by decide)) ?_
        refine co_y rfl rfl (y_load1 rfl trivial rfl Tryd.isAgg3 rfl rfl) ?_
        refine co_y rfl rfl (y_int rfl trivial rfl rfl rfl rfl) ?_
        refine co_nil ?_
        refine cw_cond trivial rfl (fun h4 => ?_) (fun h4 => ?_)
        · have hm : h.runs = 1073741824 := by simpa using h4
          refine cw_seq ?_
          refine cw_region ?_
          refine co_y rfl rfl (y_build' #[(0, 2), (2, 1), (3, 1), (4, 1), (5, 1), (6, 1), (7, 1)] rfl trivial Tryd.runUnderlying26 Tryd.zeroValue26 rfl ⟨_, rfl⟩ (fun w => by kernel_rfl) rfl rfl) ?_
          refine co_d rfl rfl (d_store rfl trivial trivial rfl (by conv => lhs; whnf) Tryd.sizeOf26 (.inr ⟨_, rfl⟩) rfl rfl (Nat.le_of_ble_eq_true rfl) ?_)
          refine co_y rfl rfl (y_assign rfl rfl (by conv => lhs; whnf)) ?_
          refine co_nil ?_
          refine cw_ret ?_
          exact ⟨_, res_all (rs := [.cell 6 26, .tmp 7]) (cs := [_, _]) rfl ⟨⟨trivial, _, _, _, rfl, rfl, .inr ⟨_, Tryd.isAgg26, Tryd.sizeOf26, Nat.le_of_ble_eq_true rfl, rfl⟩⟩, ⟨trivial, (by conv => lhs; whnf)⟩, trivial⟩ (Nat.ne_of_beq_eq_false rfl), _, _, rfl, rfl, (cls_eq (by rw [addS, if_neg hc, if_neg hr, if_neg ho, if_pos hm]; rfl) (by repeat' (first | exact .val _ | exact pure_bkts _ _ | exact pure_ints _ _ | exact trivial | refine pure_agg ?_ | refine pure_tup ?_ | refine ⟨?_, ?_⟩)))⟩
        · have hm : ¬ h.runs = 1073741824 := by simpa using h4
          refine cw_skip ?_
          refine cw_seq ?_
          refine cw_region ?_
          refine co_y rfl rfl (y_field rfl trivial rfl Tryd.runUnderlying26 rfl Tryd.sizeOf3 (by decide)) ?_
          refine co_y rfl rfl (y_load1 rfl trivial rfl Tryd.isAgg3 rfl rfl) ?_
          refine co_y rfl rfl (y_add rfl trivial rfl rfl rfl (by omega) (by omega)) ?_
          refine co_y rfl rfl (y_move rfl trivial (by conv => lhs; whnf)) ?_
          refine co_y rfl rfl (y_field rfl trivial rfl Tryd.runUnderlying26 rfl Tryd.sizeOf3 (by decide)) ?_
          refine co_d rfl rfl (d_store rfl trivial trivial rfl (by conv => lhs; whnf) Tryd.sizeOf3 (.inl rfl) rfl rfl (Nat.le_of_ble_eq_true rfl) ?_)
          refine co_y rfl rfl (y_field rfl trivial rfl Tryd.runUnderlying26 rfl Tryd.sizeOf3 (by decide)) ?_
          refine co_d rfl rfl (d_store rfl trivial trivial rfl (by conv => lhs; whnf) Tryd.sizeOf3 (.inl rfl) rfl rfl (Nat.le_of_ble_eq_true rfl) ?_)
          refine co_nil ?_
          refine cw_seq ?_
          refine cw_region ?_
          refine co_y rfl rfl (y_field rfl trivial rfl Tryd.runUnderlying26 rfl Tryd.sizeOf24 (by decide)) ?_
          refine co_y rfl rfl (y_load1 rfl trivial rfl Tryd.isAgg24 rfl rfl) ?_
          refine co_d rfl rfl (d_appu0 rfl rfl trivial rfl (src_list rfl (by first | exact rows_len (by intro a; rfl) _ | (intro r hr; simp at hr; subst hr; rfl) | (intro r hr; exact rows_len (by intro a; rfl) _ r (List.mem_of_mem_take (List.mem_of_mem_drop hr))) | (intro r hr; simp at hr; obtain ⟨a, _, rfl⟩ := hr; rfl))) Tryd.runUnderlying24 Tryd.sizeOf39 Tryd.typeInfo39 Tryd.zeroValue39 rfl (by have hb : Tryd.t39.bytes = 24 := rfl; rw [hb]; first | omega | (simp; omega)) (by first | omega | (simp; omega) | simp) h.bs.length (by simp) ?_)
          refine co_y rfl rfl (y_field rfl trivial rfl Tryd.runUnderlying26 rfl Tryd.sizeOf24 (by decide)) ?_
          refine co_d rfl rfl (d_store rfl trivial trivial rfl (by conv => lhs; whnf) Tryd.sizeOf24 (.inl rfl) rfl rfl (Nat.le_of_ble_eq_true rfl) ?_)
          refine co_nil ?_
          refine cw_seq ?_
          refine cw_seq ?_
          refine cw_region ?_
          refine co_y rfl rfl (y_move rfl trivial (by conv => lhs; whnf)) ?_
          refine co_y rfl rfl (y_not rfl trivial rfl) ?_
          refine co_nil ?_
          refine cw_cond trivial rfl (fun h5 => ?_) (fun h5 => ?_)
          · have hft : failed = false := by simpa using h5
            subst hft
            have eA : addS (pb (RChkP h)) h rev false (false || gnn h.bs.length) = (⟨h.pkg, h.test, h.env, h.k, h.runs + 1, h.failed + 0, rev, h.bs, gnn h.bs.length⟩, 0) := by
              rw [addS, if_neg hc, if_neg hr, if_neg ho, if_neg hm]; rfl
            refine cw_seq ?_
            refine cw_region ?_
            refine co_y rfl rfl (y_load rfl trivial rfl Tryd.isAgg26 Tryd.sizeOf26 rfl (Nat.le_of_ble_eq_true rfl)) ?_
            refine co_d rfl rfl (d_store rfl trivial trivial rfl (by conv => lhs; whnf) Tryd.sizeOf26 (.inr ⟨_, rfl⟩) rfl rfl (Nat.le_of_ble_eq_true rfl) ?_)
            refine co_y rfl rfl (y_assign rfl rfl (by conv => lhs; whnf)) ?_
            refine co_nil ?_
            refine cw_ret ?_
            exact ⟨_, res_all (rs := [.cell 6 26, .tmp 7]) (cs := [_, _]) rfl ⟨⟨trivial, _, _, _, rfl, rfl, .inr ⟨_, Tryd.isAgg26, Tryd.sizeOf26, Nat.le_of_ble_eq_true rfl, rfl⟩⟩, ⟨trivial, (by conv => lhs; whnf)⟩, trivial⟩ (Nat.ne_of_beq_eq_false rfl), _, _, rfl, rfl, (by rw [eA, Int.add_zero]; exact .tups ⟨.aggs ⟨.old (.val _), .old (.val _), .old (.val _), .old (.val _), .old (.val _), .old (.val _), .old (.val _), .tok (fun r hr c hc => (rows_pure (f := Bkt.cv) (fun _ => Pures.all ⟨.val _, .val _, .val _, trivial⟩) _) r hr c hc), trivial⟩, .old (.val _), trivial⟩)⟩
          · have hft : failed = true := by simpa using h5
            subst hft
            refine cw_skip ?_
            refine cw_seq ?_
            refine cw_region ?_
            refine co_y rfl rfl (y_field rfl trivial rfl Tryd.runUnderlying26 rfl Tryd.sizeOf3 (by decide)) ?_
            refine co_y rfl rfl (y_load1 rfl trivial rfl Tryd.isAgg3 rfl rfl) ?_
            refine co_y rfl rfl (y_add rfl trivial rfl rfl rfl (by omega) (by omega)) ?_
            refine co_y rfl rfl (y_field rfl trivial rfl Tryd.runUnderlying26 rfl Tryd.sizeOf3 (by decide)) ?_
            refine co_d rfl rfl (d_store rfl trivial trivial rfl (by conv => lhs; whnf) Tryd.sizeOf3 (.inl rfl) rfl rfl (Nat.le_of_ble_eq_true rfl) ?_)
            refine co_nil ?_
            refine cw_seq ?_
            refine cw_region ?_
            refine co_y rfl rfl (y_field rfl trivial rfl Tryd.runUnderlying26 rfl Tryd.sizeOf24 (by decide)) ?_
            refine co_y rfl rfl (y_load1 rfl trivial rfl Tryd.isAgg24 rfl rfl) ?_
            refine co_y rfl rfl (y_move rfl trivial (by conv => lhs; whnf)) ?_
            refine co_y rfl rfl (y_move rfl trivial (by conv => lhs; whnf)) ?_
            refine co_y rfl rfl (y_build' #[(0, 1), (1, 1), (2, 1)] rfl ⟨trivial, trivial, rfl, trivial⟩ Tryd.runUnderlying39 Tryd.zeroValue39 rfl ⟨_, rfl⟩ (fun w => by kernel_rfl) rfl rfl) ?_
            refine co_y rfl rfl (y_lit [Bkt.cv (bk1 rev)] rfl ⟨trivial, trivial⟩ Tryd.runUnderlying24 Tryd.sizeOf39 Tryd.zeroValue39 rfl rfl rfl rfl rfl rfl rfl rfl rfl) ?_
            refine co_d rfl rfl (d_appu rfl trivial trivial rfl (by simp) (src_list rfl (by first | exact rows_len (by intro a; rfl) _ | (intro r hr; simp at hr; subst hr; rfl) | (intro r hr; exact rows_len (by intro a; rfl) _ r (List.mem_of_mem_take (List.mem_of_mem_drop hr))) | (intro r hr; simp at hr; obtain ⟨a, _, rfl⟩ := hr; rfl))) Tryd.runUnderlying24 Tryd.sizeOf39 Tryd.typeInfo39 Tryd.zeroValue39 rfl (.inr rfl) (by first | exact rows_len (by intro a; rfl) _ | assumption | (intro r hr; simp at hr; obtain ⟨a, _, rfl⟩ := hr; rfl)) (by have hb : Tryd.t39.bytes = 24 := rfl; rw [hb]; first | omega | (simp; omega)) (by first | omega | (simp; omega) | simp) ((h.bs ++ [bk1 rev]).map Bkt.cv) (h.bs.length + 1) (by simp) (by simp) ?_)
            refine co_y rfl rfl (y_field rfl trivial rfl Tryd.runUnderlying26 rfl Tryd.sizeOf24 (by decide)) ?_
            refine co_d rfl rfl (d_store rfl trivial trivial rfl (by conv => lhs; whnf) Tryd.sizeOf24 (.inl rfl) rfl rfl (Nat.le_of_ble_eq_true rfl) ?_)
            refine co_nil ?_
            refine cw_seq ?_
            refine cw_seq ?_
            refine cw_region ?_
            refine co_y rfl rfl (y_assign rfl rfl (by conv => lhs; whnf)) ?_
            refine co_nil ?_
            refine cw_block ?_
            refine cw_loopr hCC 4 rfl (α := List Bkt × Int) (fun x => [(3, .ptr 0 0), (6, .ptr 1 0), (8, (.val (.int .i64 (x.2))))]) (fun x => [.box [.val (.string h.pkg), .val (.string h.test), .val (.int .i64 h.env), .val (.int .i64 h.k), .val (.int .i64 (h.runs + 1)), .val (.int .i64 (h.failed + 1)), .val (.int .i64 rev), .list (x.1.map Bkt.cv) true none], .box zeroH.cells, .dead, .dead]) (fun x => Inv h.k x.1 x.2 ∧ carry h.k (h.bs.length + 1) (h.bs ++ [bk1 rev]) 1 = carry h.k x.1.length x.1 x.2 ∧ sumC x.1 ≤ 4294967296 ∧ x.1.length ≤ 4294967296) (fun x => x.1.length) ⟨(h.bs ++ [bk1 rev], 1), [0, 1, 2, 3], ⟨inv_of_siz hk2.1 (chk_iff.2 hcp).siz rev, by simp, by simp only [sumC_append]; rw [hcp.buk.sum]; simp [sumC]; omega, by simp; omega⟩, ⟨rfl, rfl⟩, ⟨⟨trivial, (by first | exact .ptr rfl | exact .map rfl | exact .vec rfl | exact .same rfl (by first | exact .val _ | exact .ptr (Nat.le_of_ble_eq_true rfl) | exact .map (Nat.le_of_ble_eq_true rfl) | exact old_bkts _ _ _) | exact RenV.forget (f := Bkt.cv) (fun _ => ⟨.val _, .val _, .val _, trivial⟩))⟩, ⟨trivial, (by first | exact .ptr rfl | exact .map rfl | exact .vec rfl | exact .same rfl (by first | exact .val _ | exact .ptr (Nat.le_of_ble_eq_true rfl) | exact .map (Nat.le_of_ble_eq_true rfl) | exact old_bkts _ _ _) | exact RenV.forget (f := Bkt.cv) (fun _ => ⟨.val _, .val _, .val _, trivial⟩))⟩, ⟨trivial, (by first | exact .ptr rfl | exact .map rfl | exact .vec rfl | exact .same rfl (by first | exact .val _ | exact .ptr (Nat.le_of_ble_eq_true rfl) | exact .map (Nat.le_of_ble_eq_true rfl) | exact old_bkts _ _ _) | exact RenV.forget (f := Bkt.cv) (fun _ => ⟨.val _, .val _, .val _, trivial⟩))⟩, trivial⟩, (by repeat' (first | exact trivial | exact .inl rfl | exact .inr ⟨_, rfl, .same rfl (old_gobj _ _)⟩ | exact .inr ⟨_, rfl, .same (gobj_snoc _ _ _) (old_gobj _ _)⟩ | exact .inr ⟨_, rfl, .same rfl (by repeat' (first | exact trivial | exact .val _ | exact .ptr (Nat.le_of_ble_eq_true rfl) | exact .map (Nat.le_of_ble_eq_true rfl) | exact old_bkts _ _ _ | refine old_box ?_ | refine ⟨?_, ?_⟩))⟩ | exact .inr ⟨_, rfl, .box (by repeat' (first | exact trivial | exact .same rfl (by first | exact .val _ | exact .ptr (Nat.le_of_ble_eq_true rfl) | exact .map (Nat.le_of_ble_eq_true rfl) | exact old_bkts _ _ _) | exact .ptr rfl | exact .map rfl | exact .vec rfl | exact RenV.forget (f := Bkt.cv) (fun _ => ⟨.val _, .val _, .val _, trivial⟩) | refine ⟨?_, ?_⟩))⟩ | refine ⟨?_, ?_⟩))⟩ ?_
            intro ⟨l, s⟩ ⟨hI, hR, hs, hl⟩
            dsimp only at hI hR hs hl ⊢
            refine cw_seq ?_
            refine cw_seq ?_
            refine cw_draw 7 [0, 1, 0, 7, 0, 16, 63] (by kernel_rfl) (by kernel_rfl) rfl ?_
            refine ch_y rfl (y_field rfl trivial rfl Tryd.runUnderlying26 rfl Tryd.sizeOf24 (by decide)) ?_
            refine ch_y rfl (y_load1 rfl trivial rfl Tryd.isAgg24 rfl rfl) ?_
            refine ch_y rfl (y_move rfl trivial (by conv => lhs; whnf)) ?_
            refine ch_y rfl (y_callf rfl Tryd.call37 ⟨trivial, trivial, trivial⟩ (re_number_s l true s (by unfold maxLen; omega) _) rfl) ?_
            refine ch_y rfl (y_field rfl trivial rfl Tryd.runUnderlying26 rfl Tryd.sizeOf3 (by decide)) ?_
            refine ch_y rfl (y_load1 rfl trivial rfl Tryd.isAgg3 rfl rfl) ?_
            refine ch_y rfl (y_int rfl trivial trivial rfl rfl rfl) ?_
            refine ch_nil ?_
            refine co_nil ?_
            refine cw_cond trivial rfl (fun h6 => ?_) (fun h6 => ?_)
            · have hn : h.k < num l s := by simpa using h6
              obtain ⟨A, x, y, B, rfl, hA, hx, hy⟩ := decomp hI.srt (s := s) (by omega)
              have hs1 := isP_pos hI.sp
              have hsx := sumC_of_inv hI (b := x) (by simp)
              have hst := hI.step hA hx hy hn
              have hcs := carry_step (k := h.k) hA hx hn
              have hsum : sumC (A ++ (⟨x.first, y.last, 2 * s⟩ : Bkt) :: B) = sumC (A ++ x :: y :: B) := by simp only [sumC_append, sumC]; omega
              refine cw_skip ?_
              refine cw_seq ?_
              refine cw_block ?_
              refine cw_region ?_
              refine co_y rfl rfl (y_field rfl trivial rfl Tryd.runUnderlying26 rfl Tryd.sizeOf24 (by decide)) ?_
              refine co_y rfl rfl (y_load1 rfl trivial rfl Tryd.isAgg24 rfl rfl) ?_
              refine co_y rfl rfl (y_move rfl trivial (by conv => lhs; whnf)) ?_
              refine co_y rfl rfl (y_callf rfl Tryd.call38 ⟨trivial, trivial, trivial⟩ (re_join_s A x y B true s (fun a ha => by have := hA a ha; omega) hx hl ⟨by omega, by omega⟩ _) rfl) ?_
              refine co_y rfl rfl (y_field rfl trivial rfl Tryd.runUnderlying26 rfl Tryd.sizeOf24 (by decide)) ?_
              refine co_d rfl rfl (d_store rfl trivial trivial rfl (by conv => lhs; whnf) Tryd.sizeOf24 (.inl rfl) rfl rfl (Nat.le_of_ble_eq_true rfl) ?_)
              refine co_nil ?_
              refine cw_region ?_
              refine co_y rfl rfl (y_move rfl trivial (by conv => lhs; whnf)) ?_
              refine co_y rfl rfl (y_mul rfl trivial rfl rfl rfl (by omega) (by omega)) ?_
              refine co_y rfl rfl (y_assign rfl trivial (by conv => lhs; whnf)) ?_
              refine co_nil ?_
              exact ⟨(A ++ (⟨x.first, y.last, 2 * s⟩ : Bkt) :: B, 2 * s), [0, 1, 2, 3], ⟨by simp, hst, hR.trans hcs, by rw [hsum]; exact hs, by simp at hl ⊢; omega⟩, ⟨rfl, rfl⟩, ⟨⟨trivial, (by first | exact .ptr rfl | exact .map rfl | exact .vec rfl | exact .same rfl (by first | exact .val _ | exact .ptr (Nat.le_of_ble_eq_true rfl) | exact .map (Nat.le_of_ble_eq_true rfl) | exact old_bkts _ _ _) | exact RenV.forget (f := Bkt.cv) (fun _ => ⟨.val _, .val _, .val _, trivial⟩))⟩, ⟨trivial, (by first | exact .ptr rfl | exact .map rfl | exact .vec rfl | exact .same rfl (by first | exact .val _ | exact .ptr (Nat.le_of_ble_eq_true rfl) | exact .map (Nat.le_of_ble_eq_true rfl) | exact old_bkts _ _ _) | exact RenV.forget (f := Bkt.cv) (fun _ => ⟨.val _, .val _, .val _, trivial⟩))⟩, ⟨trivial, (by first | exact .ptr rfl | exact .map rfl | exact .vec rfl | exact .same (congrArg (fun x => CV.val (.int .i64 x)) (Int.mul_comm s 2)) (by first | exact .val _ | exact .ptr (Nat.le_of_ble_eq_true rfl) | exact .map (Nat.le_of_ble_eq_true rfl) | exact old_bkts _ _ _) | exact RenV.forget (f := Bkt.cv) (fun _ => ⟨.val _, .val _, .val _, trivial⟩))⟩, trivial⟩, (by repeat' (first | exact trivial | exact .inl rfl | exact .inr ⟨_, rfl, .same rfl (old_gobj _ _)⟩ | exact .inr ⟨_, rfl, .same (gobj_snoc _ _ _) (old_gobj _ _)⟩ | exact .inr ⟨_, rfl, .same rfl (by repeat' (first | exact trivial | exact .val _ | exact .ptr (Nat.le_of_ble_eq_true rfl) | exact .map (Nat.le_of_ble_eq_true rfl) | exact old_bkts _ _ _ | refine old_box ?_ | refine ⟨?_, ?_⟩))⟩ | exact .inr ⟨_, rfl, .box (by repeat' (first | exact trivial | exact .same rfl (by first | exact .val _ | exact .ptr (Nat.le_of_ble_eq_true rfl) | exact .map (Nat.le_of_ble_eq_true rfl) | exact old_bkts _ _ _) | exact .ptr rfl | exact .map rfl | exact .vec rfl | exact RenV.forget (f := Bkt.cv) (fun _ => ⟨.val _, .val _, .val _, trivial⟩) | refine ⟨?_, ?_⟩))⟩ | refine ⟨?_, ?_⟩))⟩
            · have hn : ¬ h.k < num l s := by simpa using h6
              rw [carry_stop hn] at hR
              have eA : addS (pb (RChkP h)) h rev true (true || gnn h.bs.length) = (⟨h.pkg, h.test, h.env, h.k, h.runs + 1, h.failed + 1, rev, l, true⟩, 0) := by
                rw [addS, if_neg hc, if_neg hr, if_neg ho, if_neg hm, ← hR]; rfl
              refine cw_exit ?_
              refine cw_seq ?_
              refine cw_region ?_
              refine co_y rfl rfl (y_load rfl trivial rfl Tryd.isAgg26 Tryd.sizeOf26 rfl (Nat.le_of_ble_eq_true rfl)) ?_
              refine co_d rfl rfl (d_store rfl trivial trivial rfl (by conv => lhs; whnf) Tryd.sizeOf26 (.inr ⟨_, rfl⟩) rfl rfl (Nat.le_of_ble_eq_true rfl) ?_)
              refine co_y rfl rfl (y_assign rfl rfl (by conv => lhs; whnf)) ?_
              refine co_nil ?_
              refine cw_ret ?_
              exact ⟨_, res_all (rs := [.cell 6 26, .tmp 7]) (cs := [_, _]) rfl ⟨⟨trivial, _, _, _, rfl, rfl, .inr ⟨_, Tryd.isAgg26, Tryd.sizeOf26, Nat.le_of_ble_eq_true rfl, rfl⟩⟩, ⟨trivial, (by conv => lhs; whnf)⟩, trivial⟩ (Nat.ne_of_beq_eq_false rfl), _, _, rfl, rfl, (by rw [eA]; exact .tups ⟨.aggs ⟨.old (.val _), .old (.val _), .old (.val _), .old (.val _), .old (.val _), .old (.val _), .old (.val _), .tok (fun r hr c hc => (rows_pure (f := Bkt.cv) (fun _ => Pures.all ⟨.val _, .val _, .val _, trivial⟩) _) r hr c hc), trivial⟩, .old (.val _), trivial⟩)⟩

theorem re_Add_s (h : Hist) (hf : Fits h) (rev : Int) (failed : Bool) (σ : List CObj) : CCalls CC 21 [.agg h.cells, (.val (.int .i64 (rev))), (.val (.bool (failed)))] σ fun r σ' => r = .ret (.tup [.agg (addS (pb (RChkP h)) h rev failed (failed || gnn h.bs.length)).1.cells, (.val (.int .i64 ((addS (pb (RChkP h)) h rev failed (failed || gnn h.bs.length)).2)))]) ∧ σ' = σ :=
  CCalls.anyw hCC (by repeat' (first | exact .val _ | exact pure_bkts _ _ | exact pure_ints _ _ | exact trivial | refine pure_agg ?_ | refine pure_tup ?_ | refine ⟨?_, ?_⟩)) (by repeat' (first | exact .val _ | exact pure_bkts _ _ | exact pure_ints _ _ | exact trivial | refine pure_agg ?_ | refine pure_tup ?_ | refine ⟨?_, ?_⟩)) (re_Add h hf rev failed) σ

end Go.Proofs.YtkhebelajdcjgaaDoor
