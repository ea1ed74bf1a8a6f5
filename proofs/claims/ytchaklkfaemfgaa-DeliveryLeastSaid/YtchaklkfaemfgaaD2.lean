import Derived.Test.YtchaklkfaemfgaaD1
namespace Go.Proofs.Ytchaklkfaemfgaa
open Go Go.Cl

theorem src_vec' {E : Env} {σ : List CObj} {y : Operand} {k off len s : Nat} {rows new : List (List CV)} (ey : E.val CC y = .vec k off len) (hk : σ[k]? = some (.vec s rows)) (hl : off + len ≤ rows.length) (he : (rows.drop off).take len = new) : ∀ M w v, Rel CC M σ w → RV M w (E.val CC y) v → Src CC M w new s v := he ▸ src_vec ey hk hl
theorem vget {rows : List (List CV)} {r : List CV} {i : Nat} {j : Int} (h : rows[i]? = some r) (hj : j = i) : rows[0 + j.toNat]? = some r := by
  rw [show 0 + j.toNat = i by omega]; exact h
def zcv : List CV := [.val (.int .i64 0), .val (.int .i64 0), .val (.int .i64 0), .val (.int .i64 0), .val (.int .i64 0), .val (.int .i64 0)]
theorem del_one (P : List Lt) (y : Lt) (B : List Lt) (tail : List (List CV)) : ∃ x, spliceR ((P ++ y :: B).map Lt.cv ++ tail) P.length (B.map Lt.cv) = (P ++ B).map Lt.cv ++ x :: tail := by
  have h1 : ((P ++ y :: B).map Lt.cv ++ tail).take P.length = P.map Lt.cv := by
    rw [List.map_append, List.append_assoc]
    exact List.take_left' (by simp)
  obtain ⟨x, hx⟩ : ∃ x, ((y :: B).map Lt.cv ++ tail).drop B.length = x :: tail := by
    have hl : B.length < ((y :: B).map Lt.cv).length := by simp
    refine ⟨((y :: B).map Lt.cv)[B.length], ?_⟩
    rw [List.drop_append_of_le_length (by omega), List.drop_eq_getElem_cons hl, List.drop_eq_nil_of_le (by simp)]
    rfl
  refine ⟨x, ?_⟩
  unfold spliceR
  rw [h1, List.length_map, ← List.drop_drop, List.map_append, List.append_assoc, List.drop_left' (by simp), hx, List.map_append, List.append_assoc]
theorem clr_one (R : List (List CV)) (x z : List CV) (tail : List (List CV)) (o m : Nat) (ho : o = R.length) (hm : m = 1) : spliceR (R ++ x :: tail) o (List.replicate m z) = R ++ z :: tail := by
  subst ho hm
  unfold spliceR
  rw [List.take_left' rfl]
  simp

set_option maxRecDepth 10000 in
theorem slices_Delete_L (P : List Lt) (y : Lt) (B : List Lt) (tail : List (List CV)) (σ : List CObj) (q : Nat) (hk : σ[q]? = some (.vec 6 ((P ++ y :: B).map Lt.cv ++ tail))) (a b : Int) (n : Nat) (ha : a = P.length) (hb : b = P.length + 1) (hn : n = P.length + 1 + B.length) (hl : n ≤ 1000000000000) :
    CCalls CC 47 [.vec q 0 n, .val (.int .i64 a), .val (.int .i64 b)] σ fun r σ' => ∃ _ : Unit, r = .ret (.vec q 0 (P.length + B.length)) ∧ σ' = σ.set q (.vec 6 ((P ++ B).map Lt.cv ++ zcv :: tail)) ∧ True := by
  have hq : q < σ.length := (List.getElem?_eq_some_iff.1 hk).1
  have hrl : ((P ++ y :: B).map Lt.cv ++ tail).length = P.length + 1 + B.length + tail.length := by simp; omega
  obtain ⟨x, hR1⟩ := del_one P y B tail
  have hBm : ((((P ++ y :: B).map Lt.cv ++ tail).drop (P.length + 1)).take B.length) = B.map Lt.cv := by
    rw [show (P ++ y :: B).map Lt.cv ++ tail = (P.map Lt.cv ++ [y.cv]) ++ (B.map Lt.cv ++ tail) by simp, List.drop_left' (by simp), List.take_left' (by simp)]
  refine (ccalls_of Try.func47 rfl rfl ?_)
  refine cw_seq ?_
  refine cw_region ?_
  refine co_y rfl rfl (y_assign rfl rfl (by conv => lhs; whnf)) ?_
  refine co_nil ?_
  refine cw_seq ?_
  refine cw_region ?_
  refine co_y rfl rfl (y_move rfl trivial (by conv => lhs; whnf)) ?_
  refine co_y rfl rfl (y_move rfl trivial (by conv => lhs; whnf)) ?_
  refine co_y rfl rfl (y_move rfl trivial (by conv => lhs; whnf)) ?_
  refine co_y rfl rfl (y_move rfl trivial (by conv => lhs; whnf)) ?_
  refine co_y rfl rfl (y_len_vec rfl trivial rfl Try.runUnderlying23 rfl rfl) ?_
  refine co_run rfl (r_slice3_v rfl trivial trivial trivial trivial rfl Try.runUnderlying23 Try.sizeOf50 hk rfl rfl rfl (by omega) (by omega) (by omega) (by rw [hrl]; omega)) ?_
  refine co_nil ?_
  refine cw_seq ?_
  refine cw_seq ?_
  refine cw_region ?_
  refine co_y rfl rfl (y_move rfl trivial (by conv => lhs; whnf)) ?_
  refine co_y rfl rfl (y_move rfl trivial (by conv => lhs; whnf)) ?_
  refine co_y rfl rfl (y_int rfl trivial trivial rfl rfl rfl) ?_
  refine co_nil ?_
  refine cw_cond trivial rfl (fun h1 => ?_) (fun h1 => ?_)
  · exfalso
    simp at h1
    omega
  · skip
    refine cw_skip ?_
    refine cw_seq ?_
    refine cw_region ?_
    refine co_y rfl rfl (y_move rfl trivial (by conv => lhs; whnf)) ?_
    refine co_y rfl rfl (y_len_vec rfl trivial rfl Try.runUnderlying23 rfl rfl) ?_
    refine co_y rfl rfl (y_assign rfl trivial (by conv => lhs; whnf)) ?_
    refine co_nil ?_
    refine cw_seq ?_
    refine cw_draw 6 [0, 0, 3, 0, 0, 24, 63, 127] (by kernel_rfl) (by kernel_rfl) rfl ?_
    refine ch_y rfl (y_move rfl trivial (by conv => lhs; whnf)) ?_
    refine ch_y rfl (y_move rfl trivial (by conv => lhs; whnf)) ?_
    refine ch_y rfl (y_slice_v (h := P.length) rfl trivial rfl Try.runUnderlying23 Try.sizeOf50 hk rfl ⟨trivial, _, _, rfl, by omega, by omega⟩ (by first | omega | (simp; done) | (simp; omega)) (by rw [hrl]; omega)) ?_
    refine ch_y rfl (y_move rfl trivial (by conv => lhs; whnf)) ?_
    refine ch_y rfl (y_move rfl trivial (by conv => lhs; whnf)) ?_
    refine ch_y rfl (y_slice_v (l := (P.length + 1)) rfl trivial rfl Try.runUnderlying23 Try.sizeOf50 hk ⟨trivial, _, _, rfl, by omega, by omega⟩ rfl (by first | omega | (simp; done) | (simp; omega)) (by rw [hrl]; omega)) ?_
    refine ch_nil ?_
    refine co_d rfl rfl (d_append_vin' ((P ++ B).map Lt.cv ++ x :: tail) (P.length + B.length) rfl trivial trivial rfl (src_vec' (new := B.map Lt.cv) rfl hk (by rw [hrl]; omega) (by rw [show n - (P.length + 1) = B.length by omega, Nat.zero_add]; exact hBm)) Try.runUnderlying23 Try.sizeOf50 hk (by rw [hrl]; simp; omega) (by simpa using hR1) (by simp) rfl ?_)
    refine co_y rfl rfl (y_assign rfl trivial (by conv => lhs; whnf)) ?_
    refine co_nil ?_
    refine cw_seq ?_
    refine cw_region ?_
    refine co_y rfl rfl (y_move rfl trivial (by conv => lhs; whnf)) ?_
    refine co_y rfl rfl (y_move rfl trivial (by conv => lhs; whnf)) ?_
    refine co_y rfl rfl (y_len_vec rfl trivial rfl Try.runUnderlying23 rfl rfl) ?_
    refine co_y rfl rfl (y_move rfl trivial (by conv => lhs; whnf)) ?_
    refine co_y rfl rfl (y_slice_v (l := (P.length + B.length)) (h := n) rfl trivial rfl Try.runUnderlying23 Try.sizeOf50 (List.getElem?_set_self hq) ⟨trivial, _, _, rfl, by omega, by omega⟩ ⟨trivial, _, _, rfl, by omega, by omega⟩ (by first | omega | (simp; done) | (simp; omega)) (by simp; omega)) ?_
    refine co_d rfl rfl (d_clear' ((P ++ B).map Lt.cv ++ zcv :: tail) rfl trivial rfl Try.runUnderlying23 Try.zeroValue50 rfl (oneB_or rfl) rfl (List.getElem?_set_self hq) (by simp; omega) (clr_one _ _ _ _ _ _ (by simp) (by omega)) (List.set_set ..) ?_)
    refine co_nil ?_
    refine cw_seq ?_
    refine cw_region ?_
    refine co_y rfl rfl (y_move rfl trivial (by conv => lhs; whnf)) ?_
    refine co_y rfl rfl (y_assign rfl trivial (by conv => lhs; whnf)) ?_
    refine co_nil ?_
    refine cw_ret ?_
    exact ⟨_, res1 rfl trivial (by conv => lhs; whnf), ⟨(), by congr 2, rfl, trivial⟩⟩

set_option maxRecDepth 10000 in
theorem slices_CloneV_L (l : List Lt) (hn : l ≠ []) (hl : l.length ≤ 1000000000) (σ : List CObj) : CCalls CC 33 [(.list (l.map Lt.cv) true none)] σ fun r σ' => ∃ _ : Unit, r = .ret (.vec σ.length 0 l.length) ∧ σ' = σ ++ [.vec 6 (l.map Lt.cv)] ∧ True := by
  refine (ccalls_of Try.func33 rfl rfl ?_)
  refine cw_seq ?_
  refine cw_region ?_
  refine co_y rfl rfl (y_assign rfl rfl (by conv => lhs; whnf)) ?_
  refine co_nil ?_
  refine cw_seq ?_
  refine cw_seq ?_
  refine cw_region ?_
  refine co_y rfl rfl (y_move rfl trivial (by conv => lhs; whnf)) ?_
  refine co_y rfl rfl (y_slnil rfl trivial rfl Try.runUnderlying23 rfl) ?_
  refine co_nil ?_
  refine cw_cond trivial rfl (fun h1 => ?_) (fun h1 => ?_)
  · exfalso
    cases h1
  · skip
    refine cw_skip ?_
    refine cw_seq ?_
    refine cw_region ?_
    refine co_d rfl rfl (d_lit0 rfl Try.runUnderlying23 Try.sizeOf50 (fun a0 => ?_))
    refine co_y rfl rfl (y_move rfl trivial (by conv => lhs; whnf)) ?_
    refine co_d rfl rfl (d_appcv l.length rfl trivial trivial rfl (src_list rfl (by first | exact rows_len (by intro a; rfl) _ | (intro r hr; simp at hr; subst hr; rfl) | (intro r hr; exact rows_len (by intro a; rfl) _ r (List.mem_of_mem_take (List.mem_of_mem_drop hr))) | (intro r hr; simp at hr; obtain ⟨a, _, rfl⟩ := hr; rfl))) Try.runUnderlying23 Try.sizeOf50 Try.typeInfo50 Try.zeroValue50 rfl (by simp; exact List.length_pos_iff.2 hn) (by have hb : Try.t50.bytes = 48 := rfl; rw [hb]; first | omega | (simp; omega)) (by first | omega | (simp; omega) | simp) (by simp) ?_)
    refine co_y rfl rfl (y_assign rfl trivial (by conv => lhs; whnf)) ?_
    refine co_nil ?_
    refine cw_ret ?_
    exact ⟨_, res1 rfl trivial (by conv => lhs; whnf), ⟨(), rfl, rfl, trivial⟩⟩

def zeroN : Net := ⟨0, [], false⟩
def zeroR : Rp := ⟨0, 0, 0, 0, 0⟩
def sendS (c r : Bool) (n : Net) (x : Rp) : Net × Int :=
  if c = false ∨ r = false then (zeroN, 1) else if n.fly.length = 64 then (zeroN, 42) else if n.next = 1073741824 then (zeroN, 2) else (⟨n.next + 1, n.fly ++ [⟨n.next, x⟩], true⟩, 0)

set_option maxRecDepth 10000 in
theorem de_Send (n : Net) (x : Rp) (hl : n.fly.length ≤ maxLen) : CCalls CC 9 [.agg n.cells, .agg x.cells] [] fun r σ' => r = .ret (.tup [.agg (sendS (pb (CkP n)) (pb (RightP x)) n x).1.cells, (.val (.int .i64 ((sendS (pb (CkP n)) (pb (RightP x)) n x).2)))]) ∧ σ' = [] := by
  refine ccalls_val (ccalls_of Try.func9 rfl rfl ?_)
  refine cw_seq ?_
  refine cw_region ?_
  refine co_d rfl rfl (d_box rfl trivial (by conv => lhs; whnf) (.inr ⟨_, rfl⟩) ?_)
  refine co_d rfl rfl (d_box rfl trivial (by conv => lhs; whnf) (.inr ⟨_, rfl⟩) ?_)
  refine co_d rfl rfl (d_alloc rfl Try.zeroValue25 rfl (.inr ⟨_, rfl⟩) ?_)
  refine co_y rfl rfl (y_assign rfl rfl (by conv => lhs; whnf)) ?_
  refine co_nil ?_
  refine cw_seq ?_
  refine cw_block ?_
  refine cw_seq ?_
  refine cw_region ?_
  refine co_y rfl rfl (y_load rfl trivial rfl Try.isAgg25 Try.sizeOf25 rfl (Nat.le_of_ble_eq_true rfl)) ?_
  refine co_y rfl rfl (y_callf rfl Try.call14 ⟨trivial, trivial⟩ (de_Check_s n hl _) rfl) ?_
  refine co_y rfl rfl (y_not rfl trivial rfl) ?_
  refine co_y rfl rfl (y_move rfl trivial (by conv => lhs; whnf)) ?_
  refine co_g rfl rfl trivial rfl rfl (fun hg => y_load rfl trivial rfl Try.isAgg30 Try.sizeOf30 rfl (Nat.le_of_ble_eq_true rfl)) ?_
  refine co_g rfl rfl trivial rfl rfl (fun hg => y_callf rfl Try.call31 ⟨hg, trivial⟩ (de_right_s x _) rfl) ?_
  refine co_g rfl rfl trivial rfl rfl (fun hg => y_not rfl hg rfl) ?_
  refine co_y rfl rfl (y_pick_or rfl trivial rfl (fun hp => hp) (fun _ => rfl)) ?_
  refine co_y rfl rfl (y_assign rfl trivial (by conv => lhs; whnf)) ?_
  refine co_nil ?_
  refine cw_cond trivial rfl (fun h1 => ?_) (fun h1 => ?_)
  · have hc : pb (CkP n) = false ∨ pb (RightP x) = false := by simpa using h1
    refine cw_seq ?_
    refine cw_region ?_
    refine co_y rfl rfl (y_build' #[(0, 1), (1, 1)] rfl trivial Try.runUnderlying25 Try.zeroValue25 rfl ⟨_, rfl⟩ (fun w => by kernel_rfl) rfl rfl) ?_
    refine co_d rfl rfl (d_store rfl trivial trivial rfl (by conv => lhs; whnf) Try.sizeOf25 (.inr ⟨_, rfl⟩) rfl rfl (Nat.le_of_ble_eq_true rfl) ?_)
    refine co_y rfl rfl (y_assign rfl rfl (by conv => lhs; whnf)) ?_
    refine co_nil ?_
    refine cw_ret ?_
    exact ⟨_, res_all (rs := [.cell 4 25, .tmp 5]) (cs := [_, _]) rfl ⟨⟨trivial, _, _, _, rfl, rfl, .inr ⟨_, Try.isAgg25, Try.sizeOf25, Nat.le_of_ble_eq_true rfl, rfl⟩⟩, ⟨trivial, (by conv => lhs; whnf)⟩, trivial⟩ (Nat.ne_of_beq_eq_false rfl), _, _, rfl, rfl, (cls_eq (by rw [sendS, if_pos hc]; rfl) (by repeat' (first | exact .val _ | exact pure_lts _ _ | exact pure_rps _ _ | exact pure_ints _ _ | exact trivial | refine pure_agg ?_ | refine pure_tup ?_ | refine ⟨?_, ?_⟩)))⟩
  · have hc : ¬ (pb (CkP n) = false ∨ pb (RightP x) = false) := by simpa using h1
    have hck : CkP n := pb_eq.1 (by simp at hc; exact hc.1)
    have hlen := hck.len
    have hnx := hck.next
    refine cw_seq ?_
    refine cw_region ?_
    refine co_y rfl rfl (y_field rfl trivial rfl Try.runUnderlying25 rfl Try.sizeOf23 (by decide)) ?_
    refine co_y rfl rfl (y_load1 rfl trivial rfl Try.isAgg23 rfl rfl) ?_
    refine co_y rfl rfl (y_len rfl trivial rfl Try.runUnderlying23 (by first | exact len_map _ _ | rfl) rfl) ?_
    refine co_y rfl rfl (y_int rfl trivial rfl rfl rfl rfl) ?_
    refine co_y rfl rfl (y_assign rfl trivial (by conv => lhs; whnf)) ?_
    refine co_nil ?_
    refine cw_cond trivial rfl (fun h2 => ?_) (fun h2 => ?_)
    · have h64 : n.fly.length = 64 := by simp at h2; omega
      refine cw_seq ?_
      refine cw_region ?_
      refine co_y rfl rfl (y_build' #[(0, 1), (1, 1)] rfl trivial Try.runUnderlying25 Try.zeroValue25 rfl ⟨_, rfl⟩ (fun w => by kernel_rfl) rfl rfl) ?_
      refine co_d rfl rfl (d_store rfl trivial trivial rfl (by conv => lhs; whnf) Try.sizeOf25 (.inr ⟨_, rfl⟩) rfl rfl (Nat.le_of_ble_eq_true rfl) ?_)
      refine co_y rfl rfl (y_assign rfl rfl (by conv => lhs; whnf)) ?_
      refine co_nil ?_
      refine cw_ret ?_
      exact ⟨_, res_all (rs := [.cell 4 25, .tmp 5]) (cs := [_, _]) rfl ⟨⟨trivial, _, _, _, rfl, rfl, .inr ⟨_, Try.isAgg25, Try.sizeOf25, Nat.le_of_ble_eq_true rfl, rfl⟩⟩, ⟨trivial, (by conv => lhs; whnf)⟩, trivial⟩ (Nat.ne_of_beq_eq_false rfl), _, _, rfl, rfl, (cls_eq (by rw [sendS, if_neg hc, if_pos h64]; rfl) (by repeat' (first | exact .val _ | exact pure_lts _ _ | exact pure_rps _ _ | exact pure_ints _ _ | exact trivial | refine pure_agg ?_ | refine pure_tup ?_ | refine ⟨?_, ?_⟩)))⟩
    · have h64 : ¬ n.fly.length = 64 := by simp at h2; omega
      refine cw_seq ?_
      refine cw_region ?_
      refine co_y rfl rfl (y_field rfl trivial rfl Try.runUnderlying25 rfl Try.sizeOf3 (by decide)) ?_
      refine co_y rfl rfl (y_load1 rfl trivial rfl Try.isAgg3 rfl rfl) ?_
      refine co_y rfl rfl (y_int rfl trivial rfl rfl rfl rfl) ?_
      refine co_y rfl rfl (y_assign rfl trivial (by conv => lhs; whnf)) ?_
      refine co_nil ?_
      refine cw_cond trivial rfl (fun h3 => ?_) (fun h3 => ?_)
      · have hmx : n.next = 1073741824 := by simpa using h3
        refine cw_seq ?_
        refine cw_region ?_
        refine co_y rfl rfl (y_build' #[(0, 1), (1, 1)] rfl trivial Try.runUnderlying25 Try.zeroValue25 rfl ⟨_, rfl⟩ (fun w => by kernel_rfl) rfl rfl) ?_
        refine co_d rfl rfl (d_store rfl trivial trivial rfl (by conv => lhs; whnf) Try.sizeOf25 (.inr ⟨_, rfl⟩) rfl rfl (Nat.le_of_ble_eq_true rfl) ?_)
        refine co_y rfl rfl (y_assign rfl rfl (by conv => lhs; whnf)) ?_
        refine co_nil ?_
        refine cw_ret ?_
        exact ⟨_, res_all (rs := [.cell 4 25, .tmp 5]) (cs := [_, _]) rfl ⟨⟨trivial, _, _, _, rfl, rfl, .inr ⟨_, Try.isAgg25, Try.sizeOf25, Nat.le_of_ble_eq_true rfl, rfl⟩⟩, ⟨trivial, (by conv => lhs; whnf)⟩, trivial⟩ (Nat.ne_of_beq_eq_false rfl), _, _, rfl, rfl, (cls_eq (by rw [sendS, if_neg hc, if_neg h64, if_pos hmx]; rfl) (by repeat' (first | exact .val _ | exact pure_lts _ _ | exact pure_rps _ _ | exact pure_ints _ _ | exact trivial | refine pure_agg ?_ | refine pure_tup ?_ | refine ⟨?_, ?_⟩)))⟩
      · have hmx : ¬ n.next = 1073741824 := by simpa using h3
        refine cw_skip ?_
        refine cw_seq ?_
        refine cw_region ?_
        refine co_y rfl rfl (y_field rfl trivial rfl Try.runUnderlying25 rfl Try.sizeOf23 (by decide)) ?_
        refine co_y rfl rfl (y_load1 rfl trivial rfl Try.isAgg23 rfl rfl) ?_
        refine co_y rfl rfl (y_len rfl trivial rfl Try.runUnderlying23 (by first | exact len_map _ _ | rfl) rfl) ?_
        refine co_y rfl rfl (y_field rfl trivial rfl Try.runUnderlying25 rfl Try.sizeOf23 (by decide)) ?_
        refine co_y rfl rfl (y_load1 rfl trivial rfl Try.isAgg23 rfl rfl) ?_
        refine co_y rfl rfl (y_len rfl trivial rfl Try.runUnderlying23 (by first | exact len_map _ _ | rfl) rfl) ?_
        refine co_y rfl rfl (y_add rfl trivial rfl rfl rfl (by omega) (by omega)) ?_
        refine co_d rfl rfl (d_make rfl trivial trivial rfl rfl (n := n.fly.length) (c := (n.fly.length + 1)) rfl rfl Try.runUnderlying23 Try.sizeOf50 Try.typeInfo50 Try.zeroValue50 rfl (oneB_or rfl) rfl (by omega) (by first | omega | (simp; omega) | simp) (by have hb : Try.t50.bytes = 48 := rfl; rw [hb]; first | omega | (simp; omega)) ?_)
        refine co_y rfl rfl (y_assign rfl trivial (by conv => lhs; whnf)) ?_
        refine co_nil ?_
        refine cw_seq ?_
        refine cw_region ?_
        refine co_y rfl rfl (y_move rfl trivial (by conv => lhs; whnf)) ?_
        refine co_y rfl rfl (y_field rfl trivial rfl Try.runUnderlying25 rfl Try.sizeOf23 (by decide)) ?_
        refine co_y rfl rfl (y_load1 rfl trivial rfl Try.isAgg23 rfl rfl) ?_
        refine co_d rfl rfl (d_copy' (n.fly.map Lt.cv) rfl trivial trivial rfl (src_list rfl (by first | exact rows_len (by intro a; rfl) _ | (intro r hr; simp at hr; subst hr; rfl) | (intro r hr; exact rows_len (by intro a; rfl) _ r (List.mem_of_mem_take (List.mem_of_mem_drop hr))) | (intro r hr; simp at hr; obtain ⟨a, _, rfl⟩ := hr; rfl))) Try.runUnderlying23 Try.sizeOf50 rfl (by simp) (by simp) (by unfold spliceR; simp) rfl ?_)
        refine co_nil ?_
        refine cw_seq ?_
        refine cw_float [0, 1, 2, 3, 4, 5, 6, 7, 8, 9, 10, 11, 12] 9 [0, 1, 3, 0, 0, 16, 0, 112, 240, 504, 1023, 2047, 4095] [[0, 1, 2], [], [], []] (hd1l := [0, 1, 2, 3, 4, 5, 6, 7, 8]) (tll := [(9, [0, 1, 2]), (10, []), (11, []), (12, [])]) (by kernel_rfl) (by kernel_rfl) rfl rfl rfl ?_
        refine chf rfl (hop_y rfl (y_field rfl trivial rfl Try.runUnderlying25 rfl Try.sizeOf3 (by decide))) ?_
        refine chf rfl (hop_y rfl (y_load1 rfl trivial rfl Try.isAgg3 rfl rfl)) ?_
        refine chf rfl (hop_y rfl (y_add rfl trivial rfl rfl rfl (by omega) (by omega))) ?_
        refine chf rfl (hop_y rfl (y_move rfl trivial (by conv => lhs; whnf))) ?_
        refine chf rfl (hop_y rfl (y_field rfl trivial rfl Try.runUnderlying25 rfl Try.sizeOf3 (by decide))) ?_
        refine chf rfl (hop_y rfl (y_load1 rfl trivial rfl Try.isAgg3 rfl rfl)) ?_
        refine chf rfl (hop_y rfl (y_load rfl trivial rfl Try.isAgg30 Try.sizeOf30 rfl (Nat.le_of_ble_eq_true rfl))) ?_
        refine chf rfl (hop_y rfl (y_build' #[(0, 1), (1, 5)] rfl ⟨trivial, trivial, trivial⟩ Try.runUnderlying50 Try.zeroValue50 rfl ⟨_, rfl⟩ (fun w => by kernel_rfl) rfl rfl)) ?_
        refine chf rfl (hop_y rfl (y_lit [Lt.cv ⟨n.next, x⟩] rfl ⟨trivial, trivial⟩ Try.runUnderlying23 Try.sizeOf50 Try.zeroValue50 rfl rfl rfl rfl rfl rfl rfl rfl rfl)) ?_
        refine chf_nil ?_
        refine ctl_d rfl rfl (d_append_v' ((n.fly ++ [(⟨n.next, x⟩ : Lt)]).map Lt.cv) (n.fly.length + 1) rfl trivial trivial rfl (src_list rfl (by first | exact rows_len (by intro a; rfl) _ | (intro r hr; simp at hr; subst hr; rfl) | (intro r hr; exact rows_len (by intro a; rfl) _ r (List.mem_of_mem_take (List.mem_of_mem_drop hr))) | (intro r hr; simp at hr; obtain ⟨a, _, rfl⟩ := hr; rfl))) Try.runUnderlying23 Try.sizeOf50 Try.typeInfo50 Try.zeroValue50 rfl rfl (by simp) (by simp) (by have hb : Try.t50.bytes = 48 := rfl; rw [hb]; first | omega | (simp; omega)) (by first | omega | (simp; omega) | simp) (by simp) (by simp) ?_)
        refine ⟨⟨(by exact hop_y rfl (y_field rfl trivial rfl Try.runUnderlying25 rfl Try.sizeOf3 (by decide))), (by exact hop_y rfl (y_load1 rfl trivial rfl Try.isAgg3 rfl rfl)), (by exact hop_y rfl (y_add rfl trivial rfl rfl rfl (by omega) (by omega))), trivial⟩, ?_⟩
        refine ctl_h rfl (hop_y rfl (y_build' #[(0, 1), (1, 1)] rfl ⟨trivial, trivial, trivial⟩ Try.runUnderlying25 Try.zeroValue25 rfl ⟨_, rfl⟩ (fun w => by kernel_rfl) rfl rfl)) ⟨trivial, ?_⟩
        refine ctl_d rfl rfl (d_store rfl trivial trivial rfl (by conv => lhs; whnf) Try.sizeOf25 (.inr ⟨_, rfl⟩) rfl rfl (Nat.le_of_ble_eq_true rfl) ?_)
        refine ⟨trivial, ?_⟩
        refine ctl_h rfl (hop_y rfl (y_assign rfl rfl (by conv => lhs; whnf))) ⟨trivial, ?_⟩
        refine ctl_nil ?_
        refine cw_ret ?_
        exact ⟨_, res_all (rs := [.cell 4 25, .tmp 5]) (cs := [_, _]) rfl ⟨⟨trivial, _, _, _, rfl, rfl, .inr ⟨_, Try.isAgg25, Try.sizeOf25, Nat.le_of_ble_eq_true rfl, rfl⟩⟩, ⟨trivial, (by conv => lhs; whnf)⟩, trivial⟩ (Nat.ne_of_beq_eq_false rfl), _, _, rfl, rfl, (by rw [sendS, if_neg hc, if_neg h64, if_neg hmx]; exact .tups ⟨.aggs ⟨.old (.val _), .vecs (Nat.zero_le _) rfl (by simp) (by rw [List.drop_zero]; exact List.take_of_length_le (by simp)) (fun r hr c hc => (rows_pure (f := Lt.cv) (fun _ => Pures.all ⟨.val _, .val _, .val _, .val _, .val _, .val _, trivial⟩) _) r hr c hc), trivial⟩, .old (.val _), trivial⟩)⟩

theorem de_Send_s (n : Net) (x : Rp) (hl : n.fly.length ≤ maxLen) (σ : List CObj) : CCalls CC 9 [.agg n.cells, .agg x.cells] σ fun r σ' => r = .ret (.tup [.agg (sendS (pb (CkP n)) (pb (RightP x)) n x).1.cells, (.val (.int .i64 ((sendS (pb (CkP n)) (pb (RightP x)) n x).2)))]) ∧ σ' = σ :=
  CCalls.anyw hCC (by repeat' (first | exact .val _ | exact pure_lts _ _ | exact pure_rps _ _ | exact pure_ints _ _ | exact trivial | refine pure_agg ?_ | refine pure_tup ?_ | refine ⟨?_, ?_⟩)) (by repeat' (first | exact .val _ | exact pure_lts _ _ | exact pure_rps _ _ | exact pure_ints _ _ | exact trivial | refine pure_agg ?_ | refine pure_tup ?_ | refine ⟨?_, ?_⟩)) (de_Send n x hl) σ

end Go.Proofs.Ytchaklkfaemfgaa
