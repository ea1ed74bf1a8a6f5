import Derived.Test.YtkhebelajdcjgaaDoorK18
import Derived.Test.YtkhebelajdcjgaaDoorH5
namespace Go.Proofs.YtkhebelajdcjgaaDoor
open Go Go.Cl

theorem src_vec' {E : Env} {σ : List CObj} {y : Operand} {k off len s : Nat} {rows new : List (List CV)} (ey : E.val CC y = .vec k off len) (hk : σ[k]? = some (.vec s rows)) (hl : off + len ≤ rows.length) (he : (rows.drop off).take len = new) : ∀ M w v, Rel CC M σ w → RV M w (E.val CC y) v → Src CC M w new s v := he ▸ src_vec ey hk hl
theorem vget {rows : List (List CV)} {r : List CV} {i : Nat} {j : Int} (h : rows[i]? = some r) (hj : j = i) : rows[0 + j.toNat]? = some r := by
  rw [show 0 + j.toNat = i by omega]; exact h
def zcv : List CV := [.val (.int .i64 0), .val (.int .i64 0), .val (.int .i64 0)]
theorem del_one (P : List Bkt) (y : Bkt) (B : List Bkt) (tail : List (List CV)) : ∃ x, spliceR ((P ++ y :: B).map Bkt.cv ++ tail) P.length (B.map Bkt.cv) = (P ++ B).map Bkt.cv ++ x :: tail := by
  have h1 : ((P ++ y :: B).map Bkt.cv ++ tail).take P.length = P.map Bkt.cv := by
    rw [List.map_append, List.append_assoc]
    exact List.take_left' (by simp)
  obtain ⟨x, hx⟩ : ∃ x, ((y :: B).map Bkt.cv ++ tail).drop B.length = x :: tail := by
    have hl : B.length < ((y :: B).map Bkt.cv).length := by simp
    refine ⟨((y :: B).map Bkt.cv)[B.length], ?_⟩
    rw [List.drop_append_of_le_length (by omega), List.drop_eq_getElem_cons hl, List.drop_eq_nil_of_le (by simp)]
    rfl
  refine ⟨x, ?_⟩
  unfold spliceR
  rw [h1, List.length_map, ← List.drop_drop, List.map_append, List.append_assoc, List.drop_left' (by simp), hx, List.map_append, List.append_assoc]
theorem clr_one (R : List (List CV)) (x z : List CV) (tail : List (List CV)) (o m : Nat) (ho : o = R.length) (hm : m = 1) : spliceR (R ++ x :: tail) o (List.replicate m z) = R ++ z :: tail := by
  subst ho hm
  unfold spliceR
  rw [List.take_left' rfl]
  simp

set_option maxRecDepth 10000 in
theorem slices_Delete_c (P : List Bkt) (y : Bkt) (B : List Bkt) (tail : List (List CV)) (σ : List CObj) (q : Nat) (hk : σ[q]? = some (.vec 3 ((P ++ y :: B).map Bkt.cv ++ tail))) (a b : Int) (n : Nat) (ha : a = P.length) (hb : b = P.length + 1) (hn : n = P.length + 1 + B.length) (hl : n ≤ 1000000000000) :
    CCalls CC 40 [.vec q 0 n, .val (.int .i64 a), .val (.int .i64 b)] σ fun r σ' => ∃ _ : Unit, r = .ret (.vec q 0 (P.length + B.length)) ∧ σ' = σ.set q (.vec 3 ((P ++ B).map Bkt.cv ++ zcv :: tail)) ∧ True := by
  have hq : q < σ.length := (List.getElem?_eq_some_iff.1 hk).1
  have hrl : ((P ++ y :: B).map Bkt.cv ++ tail).length = P.length + 1 + B.length + tail.length := by simp; omega
  obtain ⟨x, hR1⟩ := del_one P y B tail
  have hBm : ((((P ++ y :: B).map Bkt.cv ++ tail).drop (P.length + 1)).take B.length) = B.map Bkt.cv := by
    rw [show (P ++ y :: B).map Bkt.cv ++ tail = (P.map Bkt.cv ++ [y.cv]) ++ (B.map Bkt.cv ++ tail) by simp, List.drop_left' (by simp), List.take_left' (by simp)]
  refine (ccalls_of Tryd.func40 rfl rfl ?_)
  refine cw_seq ?_
  refine cw_region ?_
  refine co_y rfl rfl (y_assign rfl rfl (by conv => lhs; whnf)) ?_
  refine co_nil ?_
  refine cw_seq ?_
  refine cw_region ?_
  refine co_y rfl rfl (y_move rfl trivial (by conv => lhs; whnf)) ?_
  refine co_y rfl rfl (y_move rfl trivial (by conv => lhs; whnf)) ?_
  refine co_y rfl rfl (y_move rfl trivial (by conv => lhs; whnf)) ?_
  refine co_y rfl rfl (y_move rfl trivial (by conv => lhs; whnf)) ?_
  refine co_y rfl rfl (y_len_vec rfl trivial rfl Tryd.runUnderlying24 rfl rfl) ?_
  refine co_run rfl (r_slice3_v rfl trivial trivial trivial trivial rfl Tryd.runUnderlying24 Tryd.sizeOf39 hk rfl rfl rfl (by omega) (by omega) (by omega) (by rw [hrl]; omega)) ?_
  refine co_nil ?_
  refine cw_seq ?_
  refine cw_seq ?_
  refine cw_region ?_
  refine co_y rfl rfl (y_move rfl trivial (by conv => lhs; whnf)) ?_
  refine co_y rfl rfl (y_move rfl trivial (by conv => lhs; whnf)) ?_
  refine co_y rfl rfl (y_int rfl trivial trivial rfl rfl rfl) ?_
  refine co_nil ?_
  refine cw_cond trivial rfl (fun h1 => ?_) (fun h1 => ?_)
  · exfalso
    simp at h1
    omega
  · skip
    refine cw_skip ?_
    refine cw_seq ?_
    refine cw_region ?_
    refine co_y rfl rfl (y_move rfl trivial (by conv => lhs; whnf)) ?_
    refine co_y rfl rfl (y_len_vec rfl trivial rfl Tryd.runUnderlying24 rfl rfl) ?_
    refine co_y rfl rfl (y_assign rfl trivial (by conv => lhs; whnf)) ?_
    refine co_nil ?_
    refine cw_seq ?_
    refine cw_draw 6 [0, 0, 3, 0, 0, 24, 63, 127] (by kernel_rfl) (by kernel_rfl) rfl ?_
    refine ch_y rfl (y_move rfl trivial (by conv => lhs; whnf)) ?_
    refine ch_y rfl (y_move rfl trivial (by conv => lhs; whnf)) ?_
    refine ch_y rfl (y_slice_v (h := P.length) rfl trivial rfl Tryd.runUnderlying24 Tryd.sizeOf39 hk rfl ⟨trivial, _, _, rfl, by omega, by omega⟩ (by first | omega | (simp; done) | (simp; omega)) (by rw [hrl]; omega)) ?_
    refine ch_y rfl (y_move rfl trivial (by conv => lhs; whnf)) ?_
    refine ch_y rfl (y_move rfl trivial (by conv => lhs; whnf)) ?_
    refine ch_y rfl (y_slice_v (l := (P.length + 1)) rfl trivial rfl Tryd.runUnderlying24 Tryd.sizeOf39 hk ⟨trivial, _, _, rfl, by omega, by omega⟩ rfl (by first | omega | (simp; done) | (simp; omega)) (by rw [hrl]; omega)) ?_
    refine ch_nil ?_
    refine co_d rfl rfl (d_append_vin' ((P ++ B).map Bkt.cv ++ x :: tail) (P.length + B.length) rfl trivial trivial rfl (src_vec' (new := B.map Bkt.cv) rfl hk (by rw [hrl]; omega) (by rw [show n - (P.length + 1) = B.length by omega, Nat.zero_add]; exact hBm)) Tryd.runUnderlying24 Tryd.sizeOf39 hk (by rw [hrl]; simp; omega) (by simpa using hR1) (by simp) rfl ?_)
    refine co_y rfl rfl (y_assign rfl trivial (by conv => lhs; whnf)) ?_
    refine co_nil ?_
    refine cw_seq ?_
    refine cw_region ?_
    refine co_y rfl rfl (y_move rfl trivial (by conv => lhs; whnf)) ?_
    refine co_y rfl rfl (y_move rfl trivial (by conv => lhs; whnf)) ?_
    refine co_y rfl rfl (y_len_vec rfl trivial rfl Tryd.runUnderlying24 rfl rfl) ?_
    refine co_y rfl rfl (y_move rfl trivial (by conv => lhs; whnf)) ?_
    refine co_y rfl rfl (y_slice_v (l := (P.length + B.length)) (h := n) rfl trivial rfl Tryd.runUnderlying24 Tryd.sizeOf39 (List.getElem?_set_self hq) ⟨trivial, _, _, rfl, by omega, by omega⟩ ⟨trivial, _, _, rfl, by omega, by omega⟩ (by first | omega | (simp; done) | (simp; omega)) (by simp; omega)) ?_
    refine co_d rfl rfl (d_clear' ((P ++ B).map Bkt.cv ++ zcv :: tail) rfl trivial rfl Tryd.runUnderlying24 Tryd.zeroValue39 rfl (oneB_or rfl) rfl (List.getElem?_set_self hq) (by simp; omega) (clr_one _ _ _ _ _ _ (by simp) (by omega)) (List.set_set ..) ?_)
    refine co_nil ?_
    refine cw_seq ?_
    refine cw_region ?_
    refine co_y rfl rfl (y_move rfl trivial (by conv => lhs; whnf)) ?_
    refine co_y rfl rfl (y_assign rfl trivial (by conv => lhs; whnf)) ?_
    refine co_nil ?_
    refine cw_ret ?_
    exact ⟨_, res1 rfl trivial (by conv => lhs; whnf), ⟨(), by congr 2, rfl, trivial⟩⟩

theorem sumC_mem : ∀ {l : List Bkt} {b : Bkt}, (∀ b ∈ l, 1 ≤ b.count) → b ∈ l → b.count ≤ sumC l
  | [], _, _, h => by cases h
  | x :: l, b, h, hb => by
    have hx := h x (by simp)
    have h0 : 0 ≤ sumC l := by
      clear hb
      induction l with
      | nil => simp [sumC]
      | cons y l ih =>
        have := ih fun b hb => h b (by rcases List.mem_cons.1 hb with rfl | hb <;> simp_all)
        have := h y (by simp)
        simp only [sumC]; omega
    simp only [sumC]
    rcases List.mem_cons.1 hb with rfl | hb
    · omega
    · have := sumC_mem (fun b hb => h b (by simp [hb])) hb
      omega
abbrev mg (a y : Bkt) : Bkt := ⟨a.first, y.last, 2 * a.count⟩
theorem join_step {k : Nat} {l : List Bkt} {s : Int} (h : Inv k l s) (hk : 2 ≤ k) {i : Nat} {a c : Bkt} (ha : l[i]? = some a) (hc : l[i + k]? = some c) (he : a.count = c.count) :
    ∃ y B, l = l.take i ++ a :: y :: B ∧ l[i + 1]? = some y ∧ Inv k (l.take i ++ [mg a y] ++ B) (2 * s) ∧ carry k l.length l s = carry k (l.take i ++ [mg a y] ++ B).length (l.take i ++ [mg a y] ++ B) (2 * s) ∧ sumC (l.take i ++ [mg a y] ++ B) = sumC l ∧ l.length = (l.take i).length + 2 + B.length ∧ (l.take i).length = i := by
  obtain ⟨y, B, h1, h2, h3, h4, h5, h6⟩ := h.hit hk ha hc he
  have hi : (l.take i).length = i := by
    have := (List.getElem?_eq_some_iff.1 ha).1
    rw [List.length_take]; omega
  generalize hA : l.take i = A at *
  subst h1
  have e : ∀ m : Bkt, A ++ [m] ++ B = A ++ m :: B := fun m => by simp
  refine ⟨y, B, rfl, h2, ?_, ?_, ?_, by simp; omega, hi⟩
  · rw [e]; unfold mg; rw [h4]; exact Inv.step h h3 h4 h5 h6
  · rw [e]; unfold mg; rw [h4]; exact carry_step h3 h4 h6
  · rw [e]; simp only [sumC_append, sumC, mg]; omega
theorem vrow {l : List Bkt} {i : Nat} {b : Bkt} (h : l[i]? = some b) (tail : List (List CV)) : (l.map Bkt.cv ++ tail)[i]? = some b.cv := by
  have hi := (List.getElem?_eq_some_iff.1 h).1
  rw [List.getElem?_append_left (by simpa using hi), List.getElem?_map, h]; rfl
theorem set_row {l A R : List Bkt} {x m : Bkt} (tail : List (List CV)) {i : Nat} {j : Int} (h : l = A ++ x :: R) (hi : A.length = i) (hj : j = i) : (l.map Bkt.cv ++ tail).set (0 + j.toNat) m.cv = (A ++ [m] ++ R).map Bkt.cv ++ tail := by
  subst h hi hj
  have e : 0 + ((A.length : Int)).toNat = (A.map Bkt.cv).length := by simp
  rw [e, List.map_append, List.append_assoc, List.set_append_right _ _ (by omega), Nat.sub_self]
  simp
theorem set_same {α : Type} {σ : List α} {q : Nat} {x : α} (h : σ[q]? = some x) : σ.set q x = σ := by
  refine List.ext_getElem? fun i => ?_
  rw [List.getElem?_set]
  split
  · rename_i e; subst e
    rw [if_pos (List.getElem?_eq_some_iff.1 h).1, h]
  · rfl

set_option maxRecDepth 10000 in
theorem hi_join_c (l0 : List Bkt) (tail0 : List (List CV)) (σ : List CObj) (q : Nat) (hk : σ[q]? = some (.vec 3 (l0.map Bkt.cv ++ tail0))) (k : Nat) (hk2 : 2 ≤ k ∧ k ≤ 16) (s0 : Int) (hI : Inv k l0 s0) (hl : l0.length ≤ 100000000000) (hs : sumC l0 ≤ 4294967296) (n : Nat) (hn : n = l0.length) (ki : Int) (hki : ki = k) :
    CCalls CC 36 [.vec q 0 n, .val (.int .i64 ki)] σ fun r σ' => ∃ tail' : List (List CV), r = .ret (.vec q 0 (carry ki l0.length l0 s0).length) ∧ σ' = σ.set q (.vec 3 ((carry ki l0.length l0 s0).map Bkt.cv ++ tail')) ∧ True := by
  subst hn hki
  have hq : q < σ.length := (List.getElem?_eq_some_iff.1 hk).1
  refine (ccalls_of Tryd.func36 rfl rfl ?_)
  refine cw_seq ?_
  refine cw_region ?_
  refine co_y rfl rfl (y_assign rfl rfl (by conv => lhs; whnf)) ?_
  refine co_nil ?_
  refine cw_scope' 0 (α := List Bkt × Int × List (List CV)) (fun x => [(0, .vec q 0 x.1.length), (1, .val (.int .i64 (k : Int)))]) (fun x => σ.set q (.vec 3 (x.1.map Bkt.cv ++ x.2.2))) (fun x => Inv k x.1 x.2.1 ∧ carry k l0.length l0 s0 = carry k x.1.length x.1 x.2.1 ∧ sumC x.1 ≤ 4294967296 ∧ x.1.length ≤ 100000000000) (fun x => x.1.length) (l0, s0, tail0) ⟨hI, rfl, hs, hl⟩ ⟨⟨trivial, rfl⟩, ⟨trivial, rfl⟩, trivial⟩ (set_same hk).symm ?_
  intro ⟨l, s, tail⟩ E0 ⟨hI, hR, hs, hl⟩
  dsimp only at hI hR hs hl ⊢
  refine cw_seq ?_
  refine cw_seq ?_
  refine cw_region ?_
  refine co_y rfl rfl (y_move rfl trivial (by conv => lhs; whnf)) ?_
  refine co_y rfl rfl (y_len_vec rfl trivial rfl Tryd.runUnderlying24 rfl rfl) ?_
  refine co_y rfl rfl (y_move rfl rfl (by conv => lhs; whnf)) ?_
  refine co_nil ?_
  refine cw_block ?_
  refine cw_loop' (α := Nat) (fun i => [(0, .vec q 0 l.length), (1, .val (.int .i64 (k : Int))), (7, (.val (.int .i64 ((l.length : Int))))), (8, (.val (.int .i64 ((i : Int)))))]) (fun _ => σ.set q (.vec 3 (l.map Bkt.cv ++ tail))) (fun i => i ≤ l.length ∧ ∀ i', i' < i → ¬ isHit l k i') (fun i => l.length - i) 0 ⟨Nat.zero_le _, fun j hj => absurd hj (Nat.not_lt_zero j)⟩ ⟨⟨trivial, rfl⟩, ⟨trivial, rfl⟩, ⟨trivial, rfl⟩, ⟨trivial, rfl⟩, trivial⟩ rfl ?_
  intro i E1 ⟨hi, hno⟩
  refine cw_seq ?_
  refine cw_region ?_
  refine co_y rfl rfl (y_int rfl trivial trivial rfl rfl rfl) ?_
  refine co_nil ?_
  refine cw_seq ?_
  refine cw_cond trivial rfl (fun h1 => ?_) (fun h1 => ?_)
  · have hlt : (i : Int) < l.length := by simpa using h1
    obtain ⟨b, hb⟩ : ∃ b, l[i]? = some b := ⟨l[i]'(by omega), by simp⟩
    obtain ⟨c, hc⟩ : ∃ c, i + k < l.length → l[i + k]? = some c := by
      rcases Nat.lt_or_ge (i + k) l.length with h | h
      · exact ⟨l[i + k], fun _ => by simp⟩
      · exact ⟨b, fun h' => by omega⟩
    have hpos : ∀ b ∈ l, 1 ≤ b.count := fun b hb => isP_pos (hI.pow b hb)
    have hbc := sumC_mem hpos (List.mem_of_getElem? hb)
    have hb1 := hpos b (List.mem_of_getElem? hb)
    refine cw_skip ?_
    refine cw_seq ?_
    refine cw_block ?_
    refine cw_seq ?_
    refine cw_region ?_
    refine co_y rfl rfl (y_move rfl trivial (by conv => lhs; whnf)) ?_
    refine co_y rfl rfl (y_assign rfl trivial (by conv => lhs; whnf)) ?_
    refine co_nil ?_
    refine cw_seq ?_
    refine cw_seq ?_
    refine cw_draw 21 [0, 0, 3, 0, 8, 31, 63, 127, 127, 511, 1023, 2047, 127, 127, 127, 24703, 61567, 127103, 258175, 524287, 1048575] (by kernel_rfl) (by kernel_rfl) rfl ?_
    refine ch_y rfl (y_move rfl trivial (by conv => lhs; whnf)) ?_
    refine ch_y rfl (y_move rfl trivial (by conv => lhs; whnf)) ?_
    refine ch_y rfl (y_add rfl trivial trivial rfl rfl (by omega) (by omega)) ?_
    refine ch_y rfl (y_move rfl trivial (by conv => lhs; whnf)) ?_
    refine ch_y rfl (y_len_vec rfl trivial rfl Tryd.runUnderlying24 rfl rfl) ?_
    refine ch_y rfl (y_int rfl trivial trivial rfl rfl rfl) ?_
    refine ch_y rfl (y_move rfl trivial (by conv => lhs; whnf)) ?_
    refine ch_g rfl rfl trivial rfl (fun hg => y_move rfl trivial (by conv => lhs; whnf)) ?_
    refine ch_g rfl rfl trivial rfl (fun hg => y_move rfl trivial (by conv => lhs; whnf)) ?_
    refine ch_g rfl rfl trivial rfl (fun hg => y_index_v rfl hg hg rfl rfl Tryd.runUnderlying24 Tryd.sizeOf39 (List.getElem?_set_self hq) (by first | omega | (simp at hg; omega)) (by first | omega | (simp at hg; omega))) ?_
    refine ch_g rfl rfl trivial rfl (fun hg => y_field_e rfl hg rfl Tryd.runUnderlying39 rfl Tryd.sizeOf3 (by decide)) ?_
    refine ch_g rfl rfl trivial rfl (fun hg => y_load_e1 rfl hg rfl Tryd.isAgg3 (List.getElem?_set_self hq) (vget (vrow hb tail) rfl) rfl) ?_
    refine ch_g rfl rfl trivial rfl (fun hg => y_move rfl trivial (by conv => lhs; whnf)) ?_
    refine ch_g rfl rfl trivial rfl (fun hg => y_move rfl trivial (by conv => lhs; whnf)) ?_
    refine ch_g rfl rfl trivial rfl (fun hg => y_move rfl trivial (by conv => lhs; whnf)) ?_
    refine ch_g rfl rfl trivial rfl (fun hg => y_add rfl hg hg rfl rfl (by first | omega | (simp at hg; omega)) (by first | omega | (simp at hg; omega))) ?_
    refine ch_g rfl rfl trivial rfl (fun hg => y_index_v rfl hg hg rfl rfl Tryd.runUnderlying24 Tryd.sizeOf39 (List.getElem?_set_self hq) (by first | omega | (simp at hg; omega)) (by first | omega | (simp at hg; omega))) ?_
    refine ch_g rfl rfl trivial rfl (fun hg => y_field_e rfl hg rfl Tryd.runUnderlying39 rfl Tryd.sizeOf3 (by decide)) ?_
    refine ch_g rfl rfl trivial rfl (fun hg => y_load_e1 rfl hg rfl Tryd.isAgg3 (List.getElem?_set_self hq) (vget (vrow (hc (by simp at hg; omega)) tail) (by omega)) rfl) ?_
    refine ch_g rfl rfl trivial rfl (fun hg => y_int rfl hg hg rfl rfl rfl) ?_
    refine ch_y rfl (y_pick_or rfl trivial rfl (fun hp => hp) (fun _ => rfl)) ?_
    refine ch_nil ?_
    refine co_nil ?_
    refine cw_cond trivial rfl (fun h2 => ?_) (fun h2 => ?_)
    · have hnoi : ∀ i', i' < i + 1 → ¬ isHit l k i' := fun i' hi' => by
        rcases Nat.lt_or_ge i' i with h | h
        · exact hno i' h
        · obtain rfl : i' = i := by omega
          rintro ⟨a', c', g1, g2, g3⟩
          have hlt' := (List.getElem?_eq_some_iff.1 g2).1
          rw [hb] at g1; rw [hc hlt'] at g2
          cases g1; cases g2
          simp at h2
          omega
      refine cw_exit ?_
      refine cw_region ?_
      refine co_y rfl rfl (y_add rfl trivial rfl rfl rfl (by omega) (by omega)) ?_
      refine co_y rfl rfl (y_move rfl trivial (by conv => lhs; whnf)) ?_
      refine co_nil ?_
      exact ⟨i + 1, (by omega), ⟨by omega, hnoi⟩, ⟨⟨trivial, rfl⟩, ⟨trivial, rfl⟩, ⟨trivial, rfl⟩, ⟨trivial, rfl⟩, trivial⟩, rfl⟩
    · have h2' : i + k < l.length ∧ b.count = c.count := by
        simp at h2
        omega
      obtain ⟨y, B, hdec, hy, hI', hR', hs', hlen, hil⟩ := join_step hI hk2.1 hb (hc h2'.1) h2'.2
      generalize hA : l.take i = A at hdec hI' hR' hs' hlen hil
      refine cw_skip ?_
      refine cw_seq ?_
      refine cw_draw 21 [0, 0, 0, 0, 12, 28, 60, 0, 0, 256, 896, 1920, 3968, 0, 0, 24576, 57344, 122880, 253952, 524284, 1048575, 2097151] (by kernel_rfl) (by kernel_rfl) rfl ?_
      refine ch_y rfl (y_move rfl trivial (by conv => lhs; whnf)) ?_
      refine ch_y rfl (y_move rfl trivial (by conv => lhs; whnf)) ?_
      refine ch_y rfl (y_move rfl trivial (by conv => lhs; whnf)) ?_
      refine ch_y rfl (y_move rfl trivial (by conv => lhs; whnf)) ?_
      refine ch_y rfl (y_index_v rfl trivial trivial rfl rfl Tryd.runUnderlying24 Tryd.sizeOf39 (List.getElem?_set_self hq) (by omega) (by omega)) ?_
      refine ch_y rfl (y_field_e rfl trivial rfl Tryd.runUnderlying39 rfl Tryd.sizeOf3 (by decide)) ?_
      refine ch_y rfl (y_load_e1 rfl trivial rfl Tryd.isAgg3 (List.getElem?_set_self hq) (vget (vrow hb tail) rfl) rfl) ?_
      refine ch_y rfl (y_move rfl trivial (by conv => lhs; whnf)) ?_
      refine ch_y rfl (y_move rfl trivial (by conv => lhs; whnf)) ?_
      refine ch_y rfl (y_add rfl trivial rfl rfl rfl (by omega) (by omega)) ?_
      refine ch_y rfl (y_index_v rfl trivial trivial rfl rfl Tryd.runUnderlying24 Tryd.sizeOf39 (List.getElem?_set_self hq) (by omega) (by omega)) ?_
      refine ch_y rfl (y_field_e rfl trivial rfl Tryd.runUnderlying39 rfl Tryd.sizeOf3 (by decide)) ?_
      refine ch_y rfl (y_load_e1 rfl trivial rfl Tryd.isAgg3 (List.getElem?_set_self hq) (vget (vrow hy tail) (by omega)) rfl) ?_
      refine ch_y rfl (y_move rfl trivial (by conv => lhs; whnf)) ?_
      refine ch_y rfl (y_move rfl trivial (by conv => lhs; whnf)) ?_
      refine ch_y rfl (y_index_v rfl trivial trivial rfl rfl Tryd.runUnderlying24 Tryd.sizeOf39 (List.getElem?_set_self hq) (by omega) (by omega)) ?_
      refine ch_y rfl (y_field_e rfl trivial rfl Tryd.runUnderlying39 rfl Tryd.sizeOf3 (by decide)) ?_
      refine ch_y rfl (y_load_e1 rfl trivial rfl Tryd.isAgg3 (List.getElem?_set_self hq) (vget (vrow hb tail) rfl) rfl) ?_
      refine ch_y rfl (y_mul rfl rfl trivial rfl rfl (by omega) (by omega)) ?_
      refine ch_y rfl (y_build' #[(0, 1), (1, 1), (2, 1)] rfl ⟨trivial, trivial, trivial, trivial⟩ Tryd.runUnderlying39 Tryd.zeroValue39 rfl ⟨_, rfl⟩ (fun w => by kernel_rfl) rfl rfl) ?_
      refine ch_y rfl (y_index_v rfl trivial trivial rfl rfl Tryd.runUnderlying24 Tryd.sizeOf39 (List.getElem?_set_self hq) (by omega) (by omega)) ?_
      refine ch_nil ?_
      refine co_d rfl rfl (d_store_e' ((A ++ [mg b y] ++ y :: B).map Bkt.cv ++ tail) rfl trivial trivial rfl (by conv => lhs; whnf) Tryd.sizeOf39 (.inr ⟨_, rfl⟩) (List.getElem?_set_self hq) (vget (vrow hb tail) rfl) rfl (Nat.le_of_ble_eq_true rfl) (by exact set_row (m := mg b y) tail hdec hil rfl) (List.set_set ..) ?_)
      refine co_nil ?_
      refine cw_seq ?_
      refine cw_region ?_
      refine co_y rfl rfl (y_move rfl trivial (by conv => lhs; whnf)) ?_
      refine co_y rfl rfl (y_move rfl trivial (by conv => lhs; whnf)) ?_
      refine co_y rfl rfl (y_add rfl trivial rfl rfl rfl (by omega) (by omega)) ?_
      refine co_y rfl rfl (y_move rfl trivial (by conv => lhs; whnf)) ?_
      refine co_y rfl rfl (y_add rfl trivial rfl rfl rfl (by omega) (by omega)) ?_
      refine co_d rfl rfl (d_callv rfl Tryd.call40 ⟨trivial, trivial, trivial, trivial⟩ (slices_Delete_c (A ++ [mg b y]) y B tail _ q (List.getElem?_set_self hq) _ _ l.length (by simp; omega) (by simp; omega) (by simp; omega) (by omega)) rfl ?_)
      intro _ _
      refine co_y rfl rfl (y_assign rfl trivial (by conv => lhs; whnf)) ?_
      refine co_nil ?_
      exact cw_goto ⟨rfl, (A ++ [mg b y] ++ B, 2 * s, zcv :: tail), (by simp; omega), ⟨hI', hR.trans hR', by simp only; rw [hs']; exact hs, by simp; omega⟩, ⟨⟨trivial, (by simp only [List.length_append]; rfl)⟩, ⟨trivial, rfl⟩, trivial⟩, (List.set_set ..)⟩
  · have hge : ¬ (i : Int) < l.length := by simpa using h1
    have hno' : ∀ i', ¬ isHit l k i' := fun i' hh => by
      have hh' := hh
      obtain ⟨a', c', g1, -, -⟩ := hh
      exact hno i' (by have := (List.getElem?_eq_some_iff.1 g1).1; omega) hh'
    rw [carry_stop (hI.nohit hk2.1 hno')] at hR
    refine cw_exit ?_
    refine cw_seq ?_
    refine cw_region ?_
    refine co_y rfl rfl (y_move rfl trivial (by conv => lhs; whnf)) ?_
    refine co_y rfl rfl (y_assign rfl trivial (by conv => lhs; whnf)) ?_
    refine co_nil ?_
    refine cw_ret ?_
    exact ⟨_, res1 rfl trivial (by conv => lhs; whnf), ⟨tail, by rw [hR], by rw [hR], trivial⟩⟩

end Go.Proofs.YtkhebelajdcjgaaDoor
