/- Names for closed terms that are often repeated. -/
import Derived.WalkKit
import Derived.Test.YtlppbmfecjabeaaGreatDoorProg
set_option linter.all false
namespace Go
open Go.Proofs.Tryz
abbrev t_0:=@sizeOf9
abbrev t_1:=@runUnderlying26
abbrev t_2:=@sizeOf3
abbrev t_3:=@zeroValue9
abbrev t_4:=@runUnderlying22
abbrev t_5:=@runUnderlying9
abbrev t_6:=@zeroValue3
abbrev t_7:=@runUnderlying149
abbrev t_8:=@isAgg9
abbrev t_9:=@sizeOf5
abbrev a2n:=@call19
abbrev a2s:=@runUnderlying205
abbrev a2U:=@sizeOf26
abbrev a2Y:=@isAgg3
abbrev a2R:=@sizeOf67
abbrev a2N:=@call200
abbrev a3y:=@typeInfo9
abbrev a3s:=@sizeOf231
abbrev a4J:=@sizeOf39
abbrev a4I:=@call272
abbrev a4G:=@call185
abbrev a4N:=@zeroValue5
abbrev a5K:=@call20
abbrev a5h:=@zeroValue67
abbrev a41:=@sizeOf54
abbrev a6q:=@call193
abbrev a6r:=@zeroValue54
abbrev a7o:=@zeroValue39
abbrev a7h:=@runUnderlying36
abbrev a68:=@sizeOf119
abbrev a7k:=@call183
abbrev a7l:=@runUnderlying212
abbrev a7M:=@zeroValue231
abbrev a8h:=@call12
abbrev a8x:=@runUnderlying67
abbrev a80:=@sizeOf212
abbrev a8E:=@call230
abbrev a8M:=@runUnderlying30
abbrev a9c:=@runUnderlying231
abbrev b0i:=@sizeOf32
abbrev b0l:=@call181
abbrev b16:=@call279
abbrev b02:=@zeroValue119
abbrev b1n:=@runUnderlying119
abbrev b2w:=@runUnderlying65
abbrev b1V:=@typeInfo5
abbrev b28:=@runUnderlying5
abbrev b22:=@runUnderlying117
abbrev b2W:=@sizeOf117
abbrev b3l:=@zeroValue59
abbrev b27:=@call284
abbrev b5c:=@runUnderlying191
abbrev b5A:=@call195
abbrev b5Q:=@zeroValue212
abbrev b51:=@isAgg26
abbrev b5o:=@sizeOf305
abbrev b5s:=@call226
abbrev b6R:=@sizeOf22
abbrev b6M:=@sizeOf129
abbrev b85:=@runUnderlying112
abbrev b83:=@runUnderlying228
abbrev b7T:=@call232
abbrev b9c:=@call182
abbrev b6g:=@sizeOf25
abbrev b9f:=@runUnderlying113
abbrev b7V:=@runUnderlying54
abbrev c1c:=@call241
abbrev b95:=@typeInfo3
abbrev c0g:=@isAgg67
abbrev c0R:=@call163
abbrev b98:=@runUnderlying302
abbrev c0t:=@runUnderlying309
abbrev c0D:=@call67
abbrev c5P:=@call74
abbrev c4K:=@call118
abbrev c5Q:=@call85
abbrev c34:=@call61
abbrev c4x:=@runUnderlying39
abbrev c37:=@runUnderlying195
abbrev c42:=@runUnderlying199
abbrev c5w:=@call277
abbrev c32:=@call196
abbrev c4p:=@sizeOf40
abbrev c5G:=@runUnderlying23
abbrev c41:=@sizeOf59
abbrev c49:=@call72
abbrev c5C:=@typeInfo54
abbrev c38:=@call280
abbrev c3X:=@zeroValue32
abbrev c4q:=@runUnderlying129
abbrev d0U:=@runUnderlying3
abbrev c6r:=@isAgg5
abbrev c9z:=@call124
abbrev d0K:=@call51
abbrev c7b:=@call194
abbrev c9e:=@call235
abbrev c7d:=@call160
abbrev d1c:=@call317
abbrev c8s:=@sizeOf175
abbrev c9k:=@runUnderlying59
abbrev b7E:=@call184
abbrev b9r:=@isAgg40
abbrev b8x:=@call186
abbrev b71:=@call122
abbrev b9q:=@call83
abbrev b73:=@sizeOf105
abbrev b61:=@runUnderlying103
abbrev b8S:=@isAgg22
abbrev b66:=@call202
abbrev b7D:=@runUnderlying86
abbrev b6V:=@call221
abbrev b6D:=@isAgg25
abbrev b82:=@isAgg32
abbrev b8h:=@isAgg231
abbrev b7m:=@sizeOf65
abbrev c3u:=@runUnderlying165
abbrev c1U:=@typeInfo39
abbrev c3l:=@typeInfo231
abbrev c1F:=@call192
abbrev c2b:=@call237
abbrev c2j:=@runUnderlying275
abbrev c1S:=@runUnderlying110
abbrev c3B:=@call52
abbrev c1p:=@call316
abbrev c3J:=@call231
abbrev c3o:=@runUnderlying109
abbrev c3A:=@zeroValue305
abbrev c2c:=@call246
abbrev c2E:=@underlying3
abbrev c26:=@underlying9
abbrev c1E:=@call306
abbrev c1I:=@call148
abbrev c3g:=@call98
abbrev c2I:=@call159
abbrev c2N:=@zeroValue25
abbrev c3I:=@zeroValue129
abbrev c12:=@sizeOf23
abbrev c1q:=@isAgg39
abbrev c28:=@runUnderlying25
abbrev c2q:=@isAgg65
abbrev c7U:=@call123
abbrev d0W:=@call131
abbrev c9f:=@call119
abbrev c8n:=@call69
abbrev c8r:=@call236
abbrev c9N:=@call278
abbrev c7u:=@call191
abbrev c8G:=@runUnderlying175
abbrev c8a:=@zeroValue175
abbrev c7A:=@isAgg175
abbrev c7T:=@call273
abbrev c86:=@call300
abbrev c8D:=@call322
abbrev c6L:=@isAgg27
abbrev c91:=@call120
abbrev c8c:=@call87
abbrev c87:=@zeroValue105
abbrev c60:=@isAgg105
abbrev c6t:=@sizeOf103
abbrev c80:=@isAgg305
abbrev c8l:=@func246
abbrev c8m:=@runUnderlying242
abbrev c8O:=@isAgg4
abbrev c9X:=@sizeOf4
abbrev d0D:=@sizeOf149
abbrev c6i:=@call113
abbrev c6s:=@call95
abbrev d0E:=@underlying26
abbrev c8L:=@call94
abbrev c9i:=@call90
abbrev d0P:=@call16
abbrev c7Q:=@runUnderlying32
abbrev d0q:=@call14
abbrev c9q:=@runUnderlying29
abbrev c6f:=@runUnderlying48
abbrev c9t:=@sizeOf244
abbrev c8i:=@isAgg119
abbrev c9M:=@runUnderlying105
abbrev d0k:=@sizeOf30
abbrev c5Y:=@isAgg23
abbrev n_0:=@List.mem_of_getElem?
abbrev n_1:=@List.getElem?_eq_some_iff
abbrev n_2:=@Nat.ne_of_beq_eq_false
abbrev n_3:=@Nat.zero_le
abbrev n_4:=@Nat.le_refl
abbrev n_5:=@List.length_append
abbrev n_6:=@Option.bind_some
abbrev n_7:=@List.length_cons
abbrev n_8:=@List.append_assoc
abbrev n_9:=@Nat.zero_add
abbrev I4:=@List.length_nil
abbrev K5:=@List.mem_map
abbrev L3:=@List.mem_iff_getElem?
abbrev M5:=@List.getElem?_append_left
abbrev O3:=@Option.map_eq_some_iff
abbrev O9:=@List.getElem?_map
abbrev Q4:=@List.drop_eq_getElem_cons
abbrev R5:=@List.mem_cons
abbrev R7:=@Nat.add_mul
abbrev R9:=@Nat.mul_le_mul_right
abbrev S8:=@List.drop_eq_nil_of_le
abbrev T9:=@Array.getElem?_eq_some_iff
abbrev U3:=@List.take_of_length_le
abbrev W4:=@Array.getD_eq_getD_getElem?
abbrev X1:=@List.mem_append
abbrev a0c:=@Nat.lt_or_ge
abbrev a0q:=@Array.getElem?_eq_getElem
abbrev a0i:=@Bool.and_eq_true
abbrev a0z:=@List.all_eq_true
abbrev a0y:=@List.getElem?_append_right
abbrev a2b:=@List.getElem?_eq_getElem
abbrev a2d:=@decide_eq_true
abbrev a1W:=@decide_eq_false
abbrev a2o:=@List.getElem?_take
abbrev a2q:=@List.append_nil
abbrev a2p:=@Int.toNat_natCast
abbrev a2t:=@decide_eq_true_eq
abbrev a2V:=@List.getElem?_set_ne
abbrev a2O:=@List.length_map
abbrev a3o:=@List.getD_eq_getElem?_getD
abbrev a33:=@Nat.blt_eq
abbrev a4K:=@Nat.add_zero
abbrev a4F:=@List.take_add_one
abbrev a6h:=@Nat.eq_of_beq_eq_true
abbrev a6i:=@List.getElem?_append
abbrev a6j:=@Bool.or_eq_true
abbrev a6o:=@Nat.mod_lt
abbrev a66:=@List.getElem?_drop
abbrev a7R:=@Option.getD_some
abbrev a7Z:=@List.length_take
abbrev a7O:=@List.take_length
abbrev a7t:=@List.nil_append
abbrev a86:=@Array.mem_of_getElem?
abbrev a9a:=@Array.getElem?_eq_none
abbrev a85:=@List.length_pos_iff
abbrev a8G:=@List.drop_zero
abbrev b0p:=@Array.getElem?_setIfInBounds_ne
abbrev b0k:=@Nat.add_assoc
abbrev b0u:=@Array.length_toList
abbrev b0s:=@List.filter_cons
abbrev b0c:=@List.take_succ_cons
abbrev b2h:=@Bool.eq_false_iff
abbrev b2c:=@List.mem_of_mem_take
abbrev b2C:=@List.getElem?_set
abbrev b1g:=@Nat.lt_of_lt_of_le
abbrev b2M:=@List.not_mem_nil
abbrev b12:=@List.pairwise_cons
abbrev b2j:=@List.getElem?_concat_length
abbrev b3h:=@List.map_cons
abbrev b23:=@List.mem_of_mem_drop
abbrev b3k:=@Nat.add_comm
abbrev b3g:=@Nat.eq_zero_or_pos
abbrev b3a:=@List.getElem?_set_self
abbrev b3b:=@Int.le_refl
abbrev b47:=@List.mem_append_left
abbrev b5J:=@Nat.sub_self
abbrev b5r:=@List.mem_filter
abbrev b5x:=@List.map_append
abbrev b5h:=@List.mem_cons_of_mem
abbrev b6o:=@Bool.false_or
abbrev b69:=@List.eq_nil_of_length_eq_zero
abbrev b8w:=@Option.isSome_iff_exists
abbrev b8g:=@List.takeWhile_cons
abbrev b9x:=@List.length_drop
abbrev b74:=@Bool.true_and
abbrev c0u:=@List.getElem?_eq_none
abbrev c0s:=@Array.ext_getElem?
abbrev c0a:=@Bool.false_eq_true
abbrev c05:=@Bool.not_true
abbrev b9X:=@Nat.mod_eq_of_lt
abbrev c1g:=@Nat.mul_one
abbrev c0J:=@List.mem_singleton
abbrev c0k:=@Bool.and_assoc
abbrev c5M:=@Array.getElem?_modify
abbrev c4U:=@Nat.min_eq_left
abbrev c5x:=@List.getElem_mem
abbrev c4F:=@Array.getElem?_map
abbrev c5B:=@List.getElem?_cons_zero
abbrev c45:=@List.ext_getElem?
abbrev c40:=@List.take_append_drop
abbrev b4i:=@List.cons_append
abbrev b3w:=@Option.map_some
abbrev b36:=@UInt8.toNat_inj
abbrev b4U:=@List.take_append_getElem
abbrev b4a:=@Option.map_eq_none_iff
abbrev b3I:=@List.length_singleton
abbrev b3t:=@List.set_append_right
abbrev b3x:=@List.map_take
abbrev b6v:=@Array.getElem?_append
abbrev b6Y:=@Array.getElem?_push
abbrev b7u:=@List.mem_range
abbrev b6N:=@Array.getElem?_append_left
abbrev b6x:=@Bool.not_eq_true'
abbrev b8d:=@Bool.or_eq_false_iff
abbrev b68:=@List.isPrefixOf_iff_prefix
abbrev b7S:=@List.drop_length
abbrev b9v:=@List.mem_of_find?_eq_some
abbrev b7p:=@List.find?_cons
abbrev b9i:=@List.mergeSort_perm
abbrev b7l:=@List.flatMap_cons
abbrev c11:=@Array.getElem?_replicate
abbrev c2i:=@List.any_eq_true
abbrev c2m:=@List.mem_filterMap
abbrev c1K:=@Array.size_append
abbrev c1A:=@Int.tdiv_eq_ediv_of_nonneg
abbrev c2S:=@List.getElem?_cons_succ
abbrev c3t:=@Nat.add_sub_cancel
abbrev c1N:=@List.take_append_of_le_length
abbrev c2v:=@List.le_antisymm
abbrev c2y:=@Bool.and_eq_true_iff
abbrev d1d:=@List.getElem?_replicate
abbrev c8P:=@Int.tmod_eq_emod_of_nonneg
abbrev c79:=@Option.bind_eq_some_iff
abbrev c7f:=@List.mem_eraseIdx_iff_getElem?
abbrev c97:=@List.pairwise_mergeSort
def Qz (q:Prop):Prop:=True->q
variable {p q:Prop} (U:q)
theorem nb {a b : Nat} (h : Nat.ble a b = true) : a <= b := Nat.le_of_ble_eq_true h
theorem tt : True := True.intro
def q_0 (h:p:=by exact ⟨⟨x6, n3, a6, e6, b6⟩, T4 (k := 4) rfl rfl de_ (.val _), ⟨by rw [hsp];exact k1.bindX (fun i hi => by rw [if_neg (by rw [hop];decide), hop];exact k3.bindX (fun j hj => a13 (by rw [hi, hj];exact k6)) k6.2) fun h => absurd rfl h, y3, w6, fun h0 => by have := z3 (k6.alive h0).1;have := z1 rfl;dsimp only at h0 ⊢;omega, l6, u6⟩⟩):=h
def q_1 (h:p:=by exact ⟨⟨tt, (by first | exact ur_ | exact (by rw [b86 si_];exact .vec rfl))⟩, ⟨tt, (by first | exact ur_ | exact (by rw [b86 si_];exact .vec rfl))⟩, ⟨tt, (by first | exact ur_ | exact (by rw [b86 si_];exact .vec rfl))⟩, ⟨tt, (by first | exact ur_ | exact (by rw [b86 si_];exact .vec rfl))⟩, tt⟩):=h
def q_2 (h:p:=by exact (a5m rfl (by first | exact a4Z (by intro a;rfl) _ | (intro r hr;simp at hr;done) | (intro r hr;simp at hr;subst hr;rfl) | (intro r hr;exact a4Z (by intro a;rfl) _ r (b2c (b23 hr))) | (intro r hr;simp at hr;obtain ⟨a, _, rfl⟩ := hr;rfl)))):=h
def q_3 (h:p:=by exact (J7 (a := n) (h := (n + 1)) rfl rfl rfl t_5 ⟨tt, _, _, rfl, by first | omega | (simp at hg;omega), by first | omega | (simp at hg;omega)⟩ ⟨tt, _, _, rfl, by first | omega | (simp at hg;omega), by first | omega | (simp at hg;omega)⟩ om_ (by show n + 1 <= 10;omega))):=h
def q_4 (h:p:=by exact ⟨tt, (by first | exact .old (.val _) | exact .old (.ptr (nb rfl)) | exact .old (B3 _ _ _) | exact .old (a5M _ _ _) | exact .old (B3 _ ([] : List Str) false) | exact .vecs (n_4 _) rfl si_ (by rw [a8G];exact U3 si_) (c04 _))⟩):=h
def q_5 (h:p:=by first | rfl | (have hk := h.kind;have h1 := h.k1;have h2 := h.k2;have h3 := h.k3;have h4 := h.k4;have h6 := h.k678;have h9 := h.k9;have h10 := h.k10;first | (simp;omega) | (have := h3 om_;simp [this]) | (have := h6 om_;simp [this]) | (have := h9 om_;simp [this]))):=h
def q_6 (h:p:=by rw [b1Y, hx, if_pos rfl];exact ⟨(), .ret (.old (.tup fun i c hi => by rcases i with _ | _ | _ | i <;> first | (injection hi with hi;subst hi;first | exact .val _ | exact (o3 (cs := [_, _, _, _]) ⟨.val _, .val _, .val _, .val _, tt⟩).old) | cases hi)), tt⟩):=h
def q_7 (h:p:=by rw [b1Y, hx, if_neg de_];exact ⟨(), .ret (.old (.tup fun i c hi => by rcases i with _ | _ | _ | i <;> first | (injection hi with hi;subst hi;first | exact .val _ | exact (o3 (cs := [_, _, _, _]) ⟨.val _, .val _, .val _, .val _, tt⟩).old) | cases hi)), tt⟩):=h
def q_8 (h:p:=by first | exact a4Z (by intro a;rfl) _ | assumption | (intro r hr;exact a4Z (by intro a;rfl) _ r (b2c (b23 hr))) | (intro r hr;simp at hr;obtain ⟨a, _, rfl⟩ := hr;rfl)):=h
def q_9 (h:p:=by exact (b4d (h := (st.length - x.args.length)) rfl tt rfl t_4 t_2 rfl rfl ⟨tt, _, _, rfl, om_, om_⟩ (by first | omega | (simp;done) | (simp;omega)) (by first | omega | (simp;omega) | simp))):=h
def d8z (h:p:=by exact (A2 (([[43], [45], [42], [47], [37], [60], [61, 61]] : List Str).map scv) rfl ⟨rfl, rfl, rfl, rfl, rfl, rfl, rfl, tt⟩ t_1 t_0 t_3 rfl rfl rfl rfl rfl rfl rfl rfl rfl)):=h
def d6R (h:p:=by exact (r8 rfl tt tt rfl rfl b22 a80 om_ (j3 (by rw [show s + (Tr.n k u o nm ch).size - 1 = s + w8 ch by rw [Tr.size];omega];exact hAt.node)) rfl)):=h
def d7P (h:p:=by exact ⟨⟨tt, _, _, _, rfl, rfl, .inr ⟨_, c0g, a2R, nb rfl, rfl⟩⟩, ⟨tt, _, _, _, rfl, rfl, .inl ⟨a2Y, rfl⟩⟩, ⟨tt, _, _, _, rfl, rfl, .inl ⟨b9r, rfl⟩⟩, tt⟩):=h
def d9D (h:p:=by exact ⟨do_, do_, do_, by dsimp only;simp only [n_5];omega, by dsimp only;simp only [n_5, n_7, I4];omega, do_, do_⟩):=h
def d9F (h:p:=by exact (r8 rfl tt tt rfl rfl t_4 t_2 om_ (j3 (by rw [show (((m + 1 : Nat) : Int) - 1).toNat = m by omega, hnd.args];exact L4 hc)) rfl)):=h
def d8H (h:p:=by exact ⟨⟨tt, ur_⟩, ⟨tt, ur_⟩, ⟨tt, ur_⟩, ⟨tt, (by first | exact ur_ | exact .same (congrArg (fun z : Int => iv z) (by show _ = ((Q3 s i1 : Nat) : Int);omega)) uo_)⟩, tt⟩):=h
def d8E (h:p:=by exact (A9 #[(0, 1), (1, 1), (2, 1), (3, 1), (4, 1), (5, 1)] rfl ⟨tt, tt, tt, tt⟩ c9k b3l rfl ⟨_, rfl⟩ (fun w => by kernel_rfl) rfl rfl)):=h
def e0b (h:p:=by rw [hh, hr];exact ⟨(), .ret (.old (.tup fun i c hi => by rcases i with _ | _ | i <;> first | (injection hi with hi;subst hi;exact .val _) | cases hi)), tt⟩):=h
def d9m (h:p:=by exact (fun hg => Z4 rfl hg hg rfl rfl t_1 t_0 a02 (by first | omega | (simp at hg;omega)) (by first | omega | (simp at hg;omega)))):=h
def d7o (h:p:=by exact (A9 #[(0, 1), (1, 1), (2, 1), (3, 1), (4, 1)] rfl ⟨rfl, tt, tt, tt⟩ a7l b5Q rfl ⟨_, rfl⟩ (fun w => by kernel_rfl) rfl rfl)):=h
def e0I (h:p:=by rw [hn];exact ⟨(), .ret (.old (.tup fun i c hi => by rcases i with _ | _ | i <;> first | (injection hi with hi;subst hi;exact .val _) | cases hi)), tt⟩):=h
def a5y (h:p:=by first | omega | (simp only [L9, n_7, I4] at hb ⊢;omega) | (simp only [L9, n_7, I4];omega)):=h
def d9k (h:p:=by exact ⟨⟨tt, _, _, _, rfl, rfl, .inr ⟨_, b82, b0i, nb rfl, rfl⟩⟩, ⟨tt, _, _, _, rfl, rfl, .inr ⟨_, b6D, b6g, nb rfl, rfl⟩⟩, tt⟩):=h
def d8C (h:p:=by exact (c7 rfl (M9 rfl tt rfl t_8 a02 (j3 (by rw [n_9];first | exact c1f hkm hlm | (rw [hj1];exact b5n om_ hyk))) rfl))):=h
def c06 (h:p:=by exact (A9 #[(0, 1), (1, 1), (2, 1), (3, 1), (4, 1)] rfl ⟨rfl, tt, tt⟩ a7l b5Q rfl ⟨_, rfl⟩ (fun w => by kernel_rfl) rfl rfl)):=h
def d7x (h:p:=by exact (A9 #[(0, 1), (1, 1), (2, 1), (3, 1), (4, 1)] rfl ⟨tt, tt, tt⟩ a7l b5Q rfl ⟨_, rfl⟩ (fun w => by kernel_rfl) rfl rfl)):=h
def d8V (h:p:=by exact (a3K (vc := vcE) (l := me) (a := (G7 x.k x.p x.o)) d2h rfl tt tt rfl rfl c1S b3l rfl rfl (a52 En.z rfl _))):=h
def d1y (h:p:=by exact (A9 #[(0, 1), (1, 1), (2, 1), (3, 1)] rfl ⟨rfl, tt, tt, tt⟩ a9c a7M rfl ⟨_, rfl⟩ (fun w => by kernel_rfl) rfl rfl)):=h
def e0A (h:p:=by exact (c7 rfl (R2 (vc := sv) (l := S0) (a := o) a0A rfl tt tt rfl rfl a2s t_3 rfl rfl (a52 ([] : Str) rfl _)))):=h
def c0W (h:p:=by exact (A9 #[(0, 1), (1, 1), (2, 1), (3, 1)] rfl ⟨rfl, tt, tt⟩ a9c a7M rfl ⟨_, rfl⟩ (fun w => by kernel_rfl) rfl rfl)):=h
def d9f (h:p:=by exact (a3K (vc := vcE) (l := me) (a := (G7 k p o)) d2h rfl tt tt rfl rfl c1S b3l rfl rfl (a52 En.z rfl _))):=h
def d1C (h:p:=by exact (fun hg => L6 rfl hg hg rfl rfl t_5 (by first | omega | (simp at hg;omega)) (by rw [a2p];exact hc (sm_ hg)))):=h
def e0G (h:p:=by exact (fun hg => r8 rfl hg hg rfl rfl a8M a41 (by first | omega | (simp at hg;omega)) (j3 (hp (sm_ hg)).1) rfl)):=h
def d9a (h:p:=by exact (A2 [Src.cv ((a7m l y.p).getD Src.z)] rfl ⟨tt, tt⟩ b61 a2R a5h rfl rfl rfl rfl rfl rfl rfl rfl rfl)):=h
def b0R (h:p:=by exact ⟨⟨tt, _, _, _, rfl, rfl, .inr ⟨_, b8h, a3s, nb rfl, rfl⟩⟩, ⟨tt, (by conv => lhs;whnf)⟩, ⟨tt, (by conv => lhs;whnf)⟩, tt⟩):=h
def e0w (h:p:=by exact (A9 #[(0, 1), (1, 1), (2, 1)] rfl ⟨tt, tt, tt, tt⟩ c8G c8a rfl ⟨_, rfl⟩ (fun w => by kernel_rfl) rfl rfl)):=h
def d2H (h:p:=by exact (c7 rfl (A9 #[(0, 1), (1, 1)] rfl ⟨tt, tt, tt⟩ b7V a6r rfl ⟨_, rfl⟩ (fun w => by kernel_rfl) rfl rfl))):=h
def d6M (h:p:=by exact ⟨⟨tt, _, _, _, rfl, rfl, .inr ⟨_, c0g, a2R, nb rfl, rfl⟩⟩, ⟨tt, (by conv => lhs;whnf)⟩, ⟨tt, (by conv => lhs;whnf)⟩, tt⟩):=h
def d7k (h:p:=by exact (c7 rfl (A9 #[(0, 1), (1, 1), (2, 1)] rfl tt a8x a5h rfl ⟨_, rfl⟩ (fun w => by kernel_rfl) rfl rfl))):=h
def d9p (h:p:=by exact (A9 #[(0, 1), (1, 1), (2, 1)] rfl ⟨rfl, rfl, tt⟩ c4x a7o rfl ⟨_, rfl⟩ (fun w => by kernel_rfl) rfl rfl)):=h
def e0c (h:p:=by exact (a3K (vc := vcS) (l := ms) (a := y.p) b7z rfl tt tt rfl rfl c3o a5h rfl rfl (a52 Src.z rfl _))):=h
def e0E (h:p:=by exact (A9 #[(0, 1), (1, 1), (2, 1), (3, 1)] rfl tt a9c a7M rfl ⟨_, rfl⟩ (fun w => by kernel_rfl) rfl rfl)):=h
def d7R (h:p:=by exact (fun hg => L6 rfl hg hg rfl rfl t_5 (by first | omega | (simp at hg;omega)) (by rw [a2p];exact hb))):=h
def e0s (h:p:=by exact (A2 [[.val (.int .u8 (m : Int))]] rfl ⟨tt, tt⟩ t_7 t_9 a4N rfl rfl rfl rfl rfl rfl rfl rfl rfl)):=h
def d8W (h:p:=by exact (R2 (vc := kv) (l := m) (a := (b.toNat : Int)) d1P rfl tt tt rfl rfl c3u t_6 rfl rfl (b6c _ _))):=h
def d8w (h:p:=by exact (fun hg => L6 rfl hg rfl rfl rfl t_5 (by first | omega | (simp at hg;omega)) (b := s.headD 0) (c7Y (sm_ hg)))):=h
def d9j (h:p:=by exact (fun hg => L6 rfl hg hg rfl rfl t_5 (by first | omega | (simp at hg;omega)) (b := s[e]?.getD 0) (c0y (sm_ hg)))):=h
def e0h (h:p:=by exact (A2 (a1y.map scv) rfl ⟨rfl, rfl, rfl, tt⟩ t_1 t_0 t_3 rfl rfl rfl rfl rfl rfl rfl rfl rfl)):=h
def d1m (h:p:=by exact .ret (.tups ⟨.old (c := .agg ((⟨[], [], []⟩ : Src)).cells) (o3 (Src.pure _)).old, .old (.val _), .old (.val _), tt⟩)):=h
def d8p (h:p:=by exact (A9 #[(0, 1), (1, 1), (2, 1)] rfl ⟨tt, tt⟩ a8x a5h rfl ⟨_, rfl⟩ (fun w => by kernel_rfl) rfl rfl)):=h
def d9v (h:p:=by exact (c7 rfl (A2 [Ex.cv x] rfl ⟨tt, tt⟩ b22 a80 b5Q rfl rfl rfl rfl rfl rfl rfl rfl rfl))):=h
def e0v (h:p:=by exact (c7 rfl (A2 [De.cv d] rfl ⟨tt, tt⟩ b2w a68 b02 rfl rfl rfl rfl rfl rfl rfl rfl rfl))):=h
def e0y (h:p:=by exact ⟨⟨tt, rfl⟩, ⟨tt, rfl⟩, ⟨tt, rfl⟩, ⟨tt, (by show (iv (arK x.k)) = iv x.args.length;rw [hn2])⟩, ⟨tt, rfl⟩, ⟨tt, rfl⟩, ⟨tt, rfl⟩, tt⟩):=h
def d9G (h:p:=by exact (A9 #[(0, 1), (1, 1)] rfl ⟨rfl, rfl, tt⟩ b7V a6r rfl ⟨_, rfl⟩ (fun w => by kernel_rfl) rfl rfl)):=h
def d9x (h:p:=by exact (A2 ([x1, x3].map icv) rfl ⟨tt, tt, tt⟩ t_4 t_2 t_6 rfl rfl rfl rfl rfl rfl rfl rfl rfl)):=h
def e0H (h:p:=by exact (A2 ([x, x3].map icv) rfl ⟨tt, tt, tt⟩ t_4 t_2 t_6 rfl rfl rfl rfl rfl rfl rfl rfl rfl)):=h
def d9K (h:p:=by exact (c7 rfl (A2 [scv y.p] rfl ⟨tt, tt⟩ t_1 t_0 t_3 rfl rfl rfl rfl rfl rfl rfl rfl rfl))):=h
def e0z (h:p:=by exact (A9 #[(0, 1), (1, 1), (2, 1)] rfl tt a8x a5h rfl ⟨_, rfl⟩ (fun w => by kernel_rfl) rfl rfl)):=h
def e0F (h:p:=by exact (c7 rfl (A2 [icv x3] rfl ⟨tt, tt⟩ t_4 t_2 t_6 rfl rfl rfl rfl rfl rfl rfl rfl rfl))):=h
def d3k (h:p:=by first | exact W5 _ _ | exact Q0 _ _ _ | exact V2 _ _ _ | exact B3 _ _ _ | exact a0V _ _ _):=h
def d8a (h:p:=by exact (A2 [icv (i : Int)] rfl ⟨tt, tt⟩ t_4 t_2 t_6 rfl rfl rfl rfl rfl rfl rfl rfl rfl)):=h
def d9Z (h:p:=by exact (r8 rfl tt tt rfl rfl b22 a80 om_ (j3 (by rw [hmi, hbody];exact hdp2.he)) rfl)):=h
def d8A (h:p:=by exact (fun hg => o5 rfl hg rfl t_8 (by first | exact c15 _ _ | exact a1G hq _ | exact a1G hs _) rfl)):=h
def d1N (h:p:=by exact (fun hg => b1v rfl hg rfl rfl rfl (by first | omega | (simp at hg;omega)) (by first | omega | (simp at hg;omega)))):=h
def d2i (h:p:=by exact (A2 [Fi.cv y] rfl ⟨tt, tt⟩ a8M a41 a6r rfl rfl rfl rfl rfl rfl rfl rfl rfl)):=h
def d8R (h:p:=by exact (A2 [Fi.cv f] rfl ⟨tt, tt⟩ a8M a41 a6r rfl rfl rfl rfl rfl rfl rfl rfl rfl)):=h
def d9h (h:p:=by exact (fun hg => b7y rfl hg rfl rfl rfl (by first | omega | (simp at hg;omega)) (by first | omega | (simp at hg;omega)))):=h
def e0f (h:p:=by exact ⟨by show List.length _ <= _;simp only [n_5, n_7, I4];omega, rfl⟩):=h
def e0o (h:p:=by exact .inl ⟨n + 1, a0N rfl (.tup fun i c h => by simp at h), by rw [pIs, if_pos hb], hW n hn (a7j hb de_)⟩):=h
def d6H (h:p:=by exact (r8 rfl tt rfl rfl rfl t_4 t_2 om_ (j3 (L4 (m := 0) (s := s) rfl)) rfl)):=h
def e0j (h:p:=by exact (r8 rfl tt rfl rfl rfl t_4 t_2 om_ (j3 (L4 (m := 1) (s := s) rfl)) rfl)):=h
def d1H (h:p:=by exact (A2 [scv s6] rfl ⟨tt, tt⟩ t_1 t_0 t_3 rfl rfl rfl rfl rfl rfl rfl rfl rfl)):=h
def d9W (h:p:=by exact (A2 [bcv c] rfl ⟨tt, tt⟩ t_7 t_9 a4N rfl rfl rfl rfl rfl rfl rfl rfl rfl)):=h
def e0K (h:p:=by rw [M6, if_neg hv2];exact ⟨(), .ret (.tups ⟨.old (B3 _ ([] : List Str) _), .old (.val _), tt⟩), tt⟩):=h
def d8F (h:p:=by exact (A2 [scv s] rfl ⟨tt, tt⟩ t_1 t_0 t_3 rfl rfl rfl rfl rfl rfl rfl rfl rfl)):=h
def e0D (h:p:=by rw [M6, if_neg hv];exact ⟨(), .ret (.tups ⟨.old (B3 _ ([] : List Str) _), .old (.val _), tt⟩), tt⟩):=h
def d9l (h:p:=by exact (c7 rfl (I1 rfl tt rfl rfl rfl (by show ([32] ++ sgn o : Str).length + 1 <= _;rw [L9];simp;omega)))):=h
def d1e (h:p:=by exact ⟨⟨tt, _, _, _, rfl, rfl, .inr ⟨_, c0g, a2R, nb rfl, rfl⟩⟩, ⟨tt, (by conv => lhs;whnf)⟩, tt⟩):=h
def d7w (h:p:=by exact (A9 #[(0, 1)] rfl tt c28 c2N rfl ⟨_, rfl⟩ (fun w => by kernel_rfl) rfl rfl)):=h
def e0r (h:p:=by rw [eT];simp only [<- n_8 b];exact b3H (k := 6) rfl rfl de_ (F2 _ _ _ _ _) a3e):=h
def d9Y (h:p:=by rw [eT];simp only [<- n_8 b];exact b3H (k := 5) rfl rfl de_ (F2 _ _ _ _ _) a3e):=h
def d9o (h:p:=by exact (o5 rfl tt rfl a2Y (by first | exact c15 _ _ | exact a1G hq _ | exact a1G hs _) rfl)):=h
def d8y (h:p:=by exact (a7a rfl tt rfl b7D b28 ((d7m m).trans (by rw [b9X om_])))):=h
def e0a (h:p:=by exact (fun hg => L6 rfl hg hg rfl rfl t_5 (by first | omega | (simp at hg;omega)) hb)):=h
def b49 (h:p:=by show List.length _ <= _;simp only [n_5, n_7, I4];omega):=h
def d8L (h:p:=by cases ph;exact T4 (k := 2) rfl rfl de_ (.val _);exact T4 (k := 3) rfl rfl de_ (.val _)):=h
def d9I (h:p:=by exact ⟨⟨x, m, a2, e, b2⟩, a5Y he rfl (.val _), .dead (fun _ => hN he) he hm hb2 ⟨hx1, hx2⟩⟩):=h
def e0B (h:p:=by exact .inl ⟨(i, m, b2), Y8 rfl rfl (nb rfl) (.val _), by rw [hsp];exact g1, do_, g3, g4⟩):=h
def d8r (h:p:=by exact (fun hg => j8 rfl a7k ⟨hg, tt⟩ (Y9 hT hm (q := 2) (s := 0) ⟨rfl, rfl, de_⟩) rfl)):=h
def d2V (h:p:=by first | omega | (simp at hk hg;omega) | (change (_ : Bool) = _ at hk;simp at hk hg;omega)):=h
def d3b (h:p:=by have hb : Tryz.t231.bytes = 40 := rfl;rw [hb];first | omega | (simp;done) | (simp;omega)):=h
def d7p (h:p:=by exact (r8 rfl tt rfl rfl rfl t_4 t_2 om_ (j3 (L4 g0)) rfl)):=h
def c5m (h:p:=by have hb : Tryz.t54.bytes = 32 := rfl;rw [hb];first | omega | (simp;done) | (simp;omega)):=h
def d2c (h:p:=by have hb : Tryz.t39.bytes = 40 := rfl;rw [hb];first | omega | (simp;done) | (simp;omega)):=h
def a30 (h:p:=by exact ⟨tt, _, _, rfl, by first | omega | (simp at hg;omega), by first | omega | (simp at hg;omega)⟩):=h
def a36 (h:p:=by have hb : Tryz.t9.bytes = 16 := rfl;rw [hb];first | omega | (simp;done) | (simp;omega)):=h
def d6X (h:p:=by exact (r8 rfl tt tt rfl rfl b61 a2R om_ (j3 (c3H hb)) rfl)):=h
def c4B (h:p:=by exact ⟨⟨tt, (by conv => lhs;whnf)⟩, ⟨tt, (by conv => lhs;whnf)⟩, ⟨tt, (by conv => lhs;whnf)⟩, tt⟩):=h
def c4W (h:p:=by exact (I1 rfl tt rfl rfl rfl (by simp only [L9, n_7, I4];omega))):=h
def c7F (h:p:=by have hb : Tryz.t3.bytes = 8 := rfl;rw [hb];first | omega | (simp;done) | (simp;omega)):=h
def b9C (h:p:=by exact (r8 rfl tt tt rfl rfl t_1 t_0 om_ (j3 (d2Z hb)) rfl)):=h
def c6o (h:p:=by exact (M9 rfl tt rfl a2Y rfl (by rw [hmi];simpa using j3 (f := icv) hv) rfl)):=h
def d9g (h:p:=by exact (fun hg => a0j rfl hg rfl b22 (by first | exact V3 _ _ | rfl) rfl)):=h
def b8H (h:p:=by exact (L6 rfl tt tt rfl rfl t_5 om_ (by rw [a2p];exact hb))):=h
def c2M (h:p:=by exact (c7 rfl (Z4 rfl tt tt rfl rfl t_1 t_0 a02 om_ om_))):=h
def c3D (h:p:=by exact (fun hg => a0j rfl hg rfl b2w (by first | exact V3 _ _ | rfl) rfl)):=h
def c99 (h:p:=by exact (fun hg => a0j rfl hg rfl t_1 (by first | exact V3 _ _ | rfl) rfl)):=h
def b3n (h:p:=by exact c7 rfl (j4 rfl tt rfl c0t rfl c9t de_)):=h
def c2h (h:p:=by exact (r8 rfl tt tt rfl rfl b22 a80 om_ (j3 hb) rfl)):=h
def d9P (h:p:=by rw [a3m, if_neg u1, if_pos u2];unfold F0;(repeat (first | split)) <;> omega):=h
def d5h (h:p:=by exact (r8 rfl tt tt rfl rfl b2w a68 om_ (j3 hd) rfl)):=h
def b84 (h:p:=by exact (I1 rfl rfl tt rfl rfl (by simp only [n_7, I4];omega))):=h
def c3w (h:p:=by exact (r8 rfl tt tt rfl rfl c5G b6M om_ (j3 hb) rfl)):=h
def d5x (h:p:=by exact c7 rfl (j4 rfl tt rfl a7l rfl b6R de_)):=h
def c7I (h:p:=by exact (I1 rfl tt rfl rfl rfl (by simp only [n_7, I4];omega))):=h
def c7S (h:p:=by exact (r8 rfl tt tt rfl rfl b2w a68 om_ (j3 hb) rfl)):=h
def d9s (h:p:=by exact (r8 rfl tt tt rfl rfl a8M a41 om_ (j3 hb) rfl)):=h
def d5p (h:p:=by exact c7 rfl (j4 rfl tt rfl a8x rfl b7m de_)):=h
def c59 (h:p:=by exact c7 rfl (j4 rfl tt rfl c28 rfl c12 de_)):=h
def d9t (h:p:=by exact (r8 rfl tt tt rfl rfl t_1 t_0 om_ (j3 hb) rfl)):=h
def a6F (h:p:=by exact c7 rfl (j4 rfl tt rfl b7V rfl t_0 de_)):=h
def c9I (h:p:=by exact (r8 rfl tt tt rfl rfl t_1 t_0 om_ (j3 hy) rfl)):=h
def d9d (h:p:=by exact .inl ⟨(i6, n5, b6), Y8 rfl rfl (nb rfl) (.val _), hsp, do_, kn5, y6⟩):=h
def c1X (h:p:=by exact (r8 rfl tt tt rfl rfl t_4 t_2 om_ (j3 hv) rfl)):=h
def c6p (h:p:=by exact (r8 rfl tt tt rfl rfl t_1 t_0 om_ (j3 hx) rfl)):=h
def b3M (h:p:=by exact c7 rfl (R8 rfl tt rfl b8h a3s rfl (nb rfl))):=h
def b1P (h:p:=by exact (a0j rfl tt rfl b22 (by first | exact V3 _ _ | rfl) rfl)):=h
def a9r (h:p:=by exact (a0j rfl tt rfl t_7 (by first | exact V3 _ _ | rfl) rfl)):=h
def c8A (h:p:=by exact (a0j rfl tt rfl b61 (by first | exact V3 _ _ | rfl) rfl)):=h
def a0K (h:p:=by exact (a0j rfl tt rfl t_1 (by first | exact V3 _ _ | rfl) rfl)):=h
def X8 (h:p:=by exact c7 rfl (R8 rfl tt rfl b82 b0i rfl (nb rfl))):=h
def a7Y (h:p:=by exact (a0j rfl tt rfl t_4 (by first | exact V3 _ _ | rfl) rfl)):=h
def d0b (h:p:=by exact (a0j rfl tt rfl a8M (by first | exact V3 _ _ | rfl) rfl)):=h
def c78 (h:p:=by exact (a0j rfl tt rfl b2w (by first | exact V3 _ _ | rfl) rfl)):=h
def d8X (h:p:=by exact (a0j rfl tt rfl c5G (by first | exact V3 _ _ | rfl) rfl)):=h
def d9B (h:p:=by exact (d8T rfl tt rfl t_7 t_5 b28)):=h
def c25 (h:p:=by exact (fun hg => j8 rfl a7k ⟨hg, tt⟩ (Y9 hT hn ⟨rfl, rfl, de_⟩) rfl)):=h
def c88 (h:p:=by exact (a0j rfl tt rfl a7h (by first | exact V3 _ _ | rfl) rfl)):=h
def b3W (h:p:=by exact ⟨tt, _, _, _, rfl, rfl, .inr ⟨_, b8h, a3s, nb rfl, rfl⟩⟩):=h
def c6Z (h:p:=by exact ⟨tt, _, _, _, rfl, rfl, .inr ⟨_, c8i, a68, nb rfl, rfl⟩⟩):=h
def c7N (h:p:=by exact (c7 rfl (j4 rfl tt rfl c0t rfl c9t de_))):=h
def c6R (h:p:=by exact (c7 rfl (j4 rfl tt rfl c9M rfl c6t de_))):=h
def b8A (h:p:=by first | exact a5M _ _ _ | exact Q0 _ _ _ | exact b5l _ _):=h
def d5D (h:p:=by exact (c7 rfl (j4 rfl tt rfl a7l rfl b6R de_))):=h
def a48 (h:p:=by exact ⟨tt, _, _, _, rfl, rfl, .inr ⟨_, b82, b0i, nb rfl, rfl⟩⟩):=h
def a4j (h:p:=by exact (Z4 rfl tt tt rfl rfl t_4 t_2 rfl om_ om_)):=h
def b6Q (h:p:=by exact ⟨tt, _, _, _, rfl, rfl, .inr ⟨_, c1q, a4J, nb rfl, rfl⟩⟩):=h
def c3r (h:p:=by exact (c7 rfl (j4 rfl tt rfl a8x rfl b7m de_))):=h
def b7A (h:p:=by exact (fun hg => j4 rfl tt rfl b1n rfl b2W de_)):=h
def c1w (h:p:=by exact ⟨tt, _, _, _, rfl, rfl, .inr ⟨_, Tryz.isAgg59, c41, nb rfl, rfl⟩⟩):=h
def d0c (h:p:=by simp only [L9, n_7, I4] at hbm ⊢;omega):=h
def c68 (h:p:=by exact (Z4 rfl tt tt rfl rfl t_1 t_0 rfl om_ om_)):=h
def d8K (h:p:=by rw [eT];exact b3H (k := 3) rfl rfl de_ (F2 _ _ _ _ _) a3e):=h
def d9w (h:p:=by exact (c7 rfl (j4 rfl tt rfl b7V rfl t_0 de_))):=h
def c3z (h:p:=by exact (c7 rfl (I1 rfl tt rfl rfl rfl (by first | omega | (simp;omega))))):=h
def c3s (h:p:=by exact (fun hg => a3l rfl hg rfl a9c rfl a2Y rfl)):=h
def d9V (h:p:=by exact (fun hg => a56 rfl hg rfl b7V rfl t_0 de_)):=h
def c6T (h:p:=by exact (fun hg => a3l rfl hg rfl a9c rfl t_8 rfl)):=h
def d9u (h:p:=by exact (fun hg => j4 rfl tt rfl a7l rfl t_2 de_)):=h
def d6h (h:p:=by exact (c7 rfl (I1 rfl tt tt rfl rfl (by first | omega | (simp;omega))))):=h
def b6k (h:p:=by exact (fun hg => j4 rfl tt rfl a9c rfl t_0 de_)):=h
def b7W (h:p:=by exact (fun hg => j4 rfl tt rfl b1n rfl t_0 de_)):=h
def d8P (h:p:=by exact (fun hg => j4 rfl tt rfl b1n rfl t_2 de_)):=h
def b8c (h:p:=by exact ⟨tt, (by first | exact ur_ | exact .same rfl (a0V _ ([] : Str) _))⟩):=h
def c2L (h:p:=by exact (fun hg => j4 rfl tt rfl a8x rfl b7m de_)):=h
def e0e (h:p:=by exact (fun hg => j4 rfl tt rfl c7Q rfl d0k de_)):=h
def c1D (h:p:=by exact (fun hg => j4 rfl tt rfl a7l rfl t_0 de_)):=h
def d8Q (h:p:=by exact (fun hg => j4 rfl tt rfl a8x rfl a2U de_)):=h
def c52 (h:p:=by exact (fun hg => j4 rfl tt rfl a9c rfl t_2 de_)):=h
def d8S (h:p:=by exact (fun hg => j4 rfl tt rfl c4q rfl t_2 de_)):=h
def d9y (h:p:=by exact (fun hg => j4 rfl tt rfl c4x rfl t_0 de_)):=h
def c7V (h:p:=by exact (fun hg => j4 rfl tt rfl b7V rfl t_0 de_)):=h
def c6A (h:p:=by exact (a7a rfl tt rfl d0U b7D (b8f om_))):=h
def c5S (h:p:=by exact (fun hg => j4 rfl tt rfl a8x rfl t_0 de_)):=h
def a9N (h:p:=by exact (c7 rfl (R8 rfl tt rfl b82 b0i rfl (nb rfl)))):=h
def c2A (h:p:=by exact (fun hg => b2k rfl hg rfl (fun hp => ⟨hg, hp⟩) (fun _ => rfl))):=h
def d6A (h:p:=by exact (fun hg => R8 rfl tt rfl b6D b6g rfl (nb rfl))):=h
def c72 (h:p:=by exact (c7 rfl (j8 rfl c8n trivial (a2P _) rfl))):=h
def a7K (h:p:=by simp only [L9, n_7, I4];omega):=h
def c6e (h:p:=by exact (j4 rfl tt rfl c0t rfl c9t de_)):=h
def a8B (h:p:=by exact (j4 rfl tt rfl Tryz.runUnderlying244 rfl d0D de_)):=h
def d5w (h:p:=by exact (j4 rfl tt rfl b1n rfl b2W de_)):=h
def c2D (h:p:=by exact (j4 rfl tt rfl c9M rfl c6t de_)):=h
def d5E (h:p:=by exact (j4 rfl tt rfl Tryz.runUnderlying244 rfl Tryz.sizeOf242 de_)):=h
def b3v (h:p:=by exact (j4 rfl tt rfl b83 rfl b2W de_)):=h
def b4H (h:p:=by exact (j4 rfl tt rfl c42 rfl b2W de_)):=h
def b4A (h:p:=by exact (j4 rfl tt rfl b85 rfl Tryz.sizeOf110 de_)):=h
def b7I (h:p:=by exact (j4 rfl tt rfl b85 rfl Tryz.sizeOf109 de_)):=h
def S6 (h:p:=by exact ⟨⟨tt, (by conv => lhs;whnf)⟩, ⟨tt, (by conv => lhs;whnf)⟩, tt⟩):=h
def d0x (h:p:=by exact (j4 rfl tt rfl a7l rfl b6R de_)):=h
def c5T (h:p:=by exact (j4 rfl tt rfl b1n rfl a2U de_)):=h
def b7H (h:p:=by exact (j4 rfl tt rfl b83 rfl c4p de_)):=h
def a4z (h:p:=by exact (a3l rfl tt rfl a9c rfl a2Y rfl)):=h
def a9x (h:p:=by exact (j4 rfl tt rfl c9M rfl a2U de_)):=h
def c2Q (h:p:=by exact (a3l rfl tt rfl a9c rfl t_8 rfl)):=h
def c9S (h:p:=by exact (j4 rfl tt rfl b83 rfl a2U de_)):=h
def d0p (h:p:=by exact (j4 rfl tt rfl c37 rfl c4p de_)):=h
def b7i (h:p:=by exact (j4 rfl tt rfl a7l rfl t_2 de_)):=h
def d5n (h:p:=by exact (j4 rfl tt rfl c7Q rfl d0k de_)):=h
def c7P (h:p:=by exact (j4 rfl tt rfl a8x rfl b7m de_)):=h
def c2P (h:p:=by exact (j4 rfl tt rfl a9c rfl t_0 de_)):=h
def c6c (h:p:=by exact (j4 rfl tt rfl c42 rfl t_2 de_)):=h
def d6c (h:p:=by exact (j4 rfl tt rfl a9c rfl t_2 de_)):=h
def c1C (h:p:=by exact (j4 rfl tt rfl b1n rfl t_2 de_)):=h
def b4X (h:p:=by exact (j4 rfl tt rfl b83 rfl t_2 de_)):=h
def c2z (h:p:=by exact (j4 rfl tt rfl a8x rfl a2U de_)):=h
def d6v (h:p:=by exact (j4 rfl tt rfl a7l rfl t_0 de_)):=h
def c3i (h:p:=by exact (j4 rfl tt rfl b1n rfl t_0 de_)):=h
def c8w (h:p:=by exact (j4 rfl tt rfl c28 rfl c12 de_)):=h
def b7d (h:p:=by exact (j4 rfl tt rfl c0t rfl t_2 de_)):=h
def c2Z (h:p:=by exact (j4 rfl tt rfl c4q rfl t_0 de_)):=h
def c89 (h:p:=by exact (j8 rfl Tryz.call100 ⟨tt, tt⟩ (c0c fl nn hl _) rfl)):=h
def d8D (h:p:=by exact (j4 rfl tt rfl b85 rfl c9X de_)):=h
def V8 (h:p:=by exact (I1 rfl tt rfl rfl rfl (by first | omega | (simp;omega)))):=h
def b8q (h:p:=by exact (j4 rfl tt rfl b7V rfl t_0 de_)):=h
def a5q (h:p:=by exact (j4 rfl tt rfl c4x rfl t_0 de_)):=h
def a5n (h:p:=by exact (I1 rfl rfl tt rfl rfl (by first | omega | (simp;omega)))):=h
def b2G (h:p:=by exact (j4 rfl tt rfl c9k rfl t_2 de_)):=h
def c1H (h:p:=by exact (j4 rfl tt rfl a8x rfl t_0 de_)):=h
def b0W (h:p:=by exact (j4 rfl tt rfl c9k rfl t_0 de_)):=h
def b4j (h:p:=by exact (j4 rfl tt rfl c9q rfl t_2 de_)):=h
def d4M (h:p:=by exact (j4 rfl tt rfl c4x rfl t_2 de_)):=h
def b3Z (h:p:=by exact c7 rfl (o5 rfl tt rfl b9r rfl rfl)):=h
def b7C (h:p:=by exact (o9 ⟨.val _, .val _, .val _, .val _, Q0 _ _ _, tt⟩)):=h
def b6n (h:p:=by cases ph <;> exact ⟨rfl, rfl, n_2 rfl⟩):=h
def d3Y (h:p:=by exact c7 rfl (o5 rfl tt rfl c2q rfl rfl)):=h
def d3N (h:p:=by exact c7 rfl (o5 rfl tt rfl b8S rfl rfl)):=h
def c9n (h:p:=by exact c7 rfl (o5 rfl tt rfl c5Y rfl rfl)):=h
def a4i (h:p:=by exact (R8 rfl tt rfl b8h a3s rfl (nb rfl))):=h
def a2j (h:p:=by exact (I1 rfl tt tt rfl rfl (by first | omega | (simp;omega)))):=h
def a5B (h:p:=by exact (R8 rfl tt rfl Tryz.isAgg212 a80 rfl (nb rfl))):=h
def b4C (h:p:=by exact (R8 rfl tt rfl c60 b73 rfl (nb rfl))):=h
def a5V (h:p:=by exact c7 rfl (o5 rfl tt rfl t_8 rfl rfl)):=h
def b1k (h:p:=by exact c7 rfl (o5 rfl tt rfl a2Y rfl rfl)):=h
def b4o (h:p:=by exact (R8 rfl tt rfl c7A c8s rfl (nb rfl))):=h
def d6y (h:p:=by exact (R8 rfl tt rfl c8i a68 rfl (nb rfl))):=h
def c7Z (h:p:=by exact (R8 rfl tt rfl c80 b5o rfl (nb rfl))):=h
def b2v (h:p:=by first | exact a4Z (by intro a;rfl) _ | assumption):=h
def d4q (h:p:=by rw [hr];exact .tups ⟨.old (.val _), .old (.val _), tt⟩):=h
def X3 (h:p:=by exact (R8 rfl tt rfl b82 b0i rfl (nb rfl))):=h
def E8 (h:p:=by exact c7 rfl (a4a rfl tt (by conv => lhs;whnf))):=h
def a3a (h:p:=by exact (R8 rfl tt rfl c1q a4J rfl (nb rfl))):=h
def a75 (h:p:=by exact (R8 rfl tt rfl c0g a2R rfl (nb rfl))):=h
def a9Z (h:p:=by exact (R8 rfl tt rfl b6D b6g rfl (nb rfl))):=h
def b0K (h:p:=by exact (a0m rfl tt rfl c8i a68 (nb rfl))):=h
def b9s (h:p:=by exact (a0m rfl tt rfl Tryz.isAgg212 a80 (nb rfl))):=h
def b4l (h:p:=by exact (R8 rfl tt rfl Tryz.isAgg59 c41 rfl (nb rfl))):=h
def d6t (h:p:=by exact (R8 rfl tt rfl Tryz.isAgg54 a41 rfl (nb rfl))):=h
def e0m (h:p:=by exact (a0m rfl tt rfl Tryz.isAgg129 b6M (nb rfl))):=h
def d5Q (h:p:=by exact (a0m rfl tt rfl Tryz.isAgg54 a41 (nb rfl))):=h
def d4y (h:p:=by exact (a0m rfl tt rfl c0g a2R (nb rfl))):=h
def d5I (h:p:=by exact (a0m rfl tt rfl c1q a4J (nb rfl))):=h
def b8N (h:p:=by exact (L6 rfl tt tt rfl rfl t_5 om_ hb)):=h
def c2s (h:p:=by exact (o9 ⟨.val _, B3 _ [] _, R6 _ [] _, tt⟩)):=h
def a4t (h:p:=by exact (b2k rfl tt rfl (fun hp => hp) (fun _ => rfl))):=h
def c7z (h:p:=by exact (c7 rfl (o5 rfl tt rfl c2q rfl rfl))):=h
def c81 (h:p:=by exact (c7 rfl (o5 rfl tt rfl b9r rfl rfl))):=h
def d0N (h:p:=by exact (c7 rfl (o5 rfl tt rfl c6L rfl rfl))):=h
def c51 (h:p:=by exact (c7 rfl (o5 rfl tt rfl b51 rfl rfl))):=h
def a1f (h:p:=by exact (b4z rfl tt rfl (fun hp => hp) (fun _ => rfl))):=h
def c7r (h:p:=by exact (c7 rfl (b11 rfl tt (by conv => lhs;whnf)))):=h
def b2t (h:p:=by exact (fun hg => a2T rfl hg rfl rfl rfl (a79 _ _))):=h
def d0d (h:p:=by exact (c7 rfl (o5 rfl tt rfl t_8 rfl rfl))):=h
def b1m (h:p:=by exact (c7 rfl (o5 rfl tt rfl a2Y rfl rfl))):=h
def d4z (h:p:=by exact (fun hg => o5 rfl hg rfl Tryz.isAgg117 rfl rfl)):=h
def b4t (h:p:=by exact (fun hg => a2T rfl hg hg rfl rfl (a79 _ _))):=h
def b4G (h:p:=by exact (a6e rfl tt rfl t_1 rfl rfl)):=h
def b9w (h:p:=by exact (a6e rfl tt rfl t_4 rfl rfl)):=h
def d8v (h:p:=by unfold arK;(repeat (first | split)) <;> omega):=h
def c29 (h:p:=by exact (fun hg => o5 rfl hg rfl c2q rfl rfl)):=h
def d9L (h:p:=by exact (fun hg => o5 rfl hg rfl Tryz.isAgg30 rfl rfl)):=h
def W9 (h:p:=by exact (c7 rfl (a4a rfl tt (by conv => lhs;whnf)))):=h
def a2E (h:p:=by exact (fun hg => o5 rfl hg rfl t_8 rfl rfl)):=h
def b4L (h:p:=by exact (fun hg => o5 rfl hg rfl a2Y rfl rfl)):=h
def d4S (h:p:=by rw [hr, S8 (sm_ h2)];rfl):=h
def c3a (h:p:=by rw [a2O, a7Z];omega):=h
def a4r (h:p:=by exact (fun hg => c9m rfl hg rfl t_5)):=h
def a9q (h:p:=by first | omega | (simp;done) | (simp;omega)):=h
def T7 (h:p:=by exact (fun hg => a4a rfl tt (by conv => lhs;whnf))):=h
def a9U (h:p:=by exact (fun hg => a4a rfl hg (by conv => lhs;whnf))):=h
def d9E (h:p:=by exact (fun hg => T0 rfl hg rfl t_8 rfl)):=h
def a9I (h:p:=by exact c7 rfl (a9i rfl tt rfl rfl)):=h
def b6i (h:p:=by rw [List.length_erase_of_mem hiu, hu];rfl):=h
def c1k (h:p:=by rw [es];simp only [n_8]):=h
def I7 (h:p:=by simp [ho, Op.operands, Call.operands]):=h
def c53 (h:p:=by exact (a2T rfl tt rfl rfl rfl (a79 _ _))):=h
def a6B (h:p:=by exact (o5 rfl tt rfl Tryz.isAgg117 rfl rfl)):=h
def a90 (h:p:=by exact (o5 rfl tt rfl Tryz.isAgg149 rfl rfl)):=h
def a9D (h:p:=by exact (o9 ⟨H0 _ ([] : List Fi) _, tt⟩)):=h
def b34 (h:p:=by exact (o5 rfl tt rfl Tryz.isAgg110 rfl rfl)):=h
def b40 (h:p:=by exact (o5 rfl tt rfl Tryz.isAgg103 rfl rfl)):=h
def d9H (h:p:=by exact (o5 rfl tt rfl Tryz.isAgg242 rfl rfl)):=h
def b9g (h:p:=by exact (o5 rfl tt rfl Tryz.isAgg109 rfl rfl)):=h
def a2H (h:p:=by exact (b11 rfl rfl (by conv => lhs;whnf))):=h
def E7 (h:p:=by first | omega | (simp;omega) | simp):=h
def a2D (h:p:=by exact (o5 rfl tt rfl b51 rfl rfl)):=h
def c1Y (h:p:=by exact (o5 rfl tt rfl b8S rfl rfl)):=h
def d6w (h:p:=by exact (o5 rfl tt rfl b9r rfl rfl)):=h
def c9v (h:p:=by exact (o5 rfl tt rfl c2q rfl rfl)):=h
def e0g (h:p:=by exact (o5 rfl tt rfl Tryz.isAgg30 rfl rfl)):=h
def b3u (h:p:=by exact (a2T rfl tt tt rfl rfl (a79 _ _))):=h
def a4h (h:p:=by exact (o5 rfl tt rfl c6L rfl rfl)):=h
def d6C (h:p:=by exact (o5 rfl tt rfl c5Y rfl rfl)):=h
def a9V (h:p:=by exact (a2T rfl tt tt rfl rfl (b1U _ _))):=h
def Q1 (h:p:=by exact (b11 rfl tt (by conv => lhs;whnf))):=h
def V7 (h:p:=by exact (o5 rfl tt rfl t_8 rfl rfl)):=h
def a0H (h:p:=by exact (o5 rfl tt rfl a2Y rfl rfl)):=h
def b1a (h:p:=by exact (fun hg => a08 rfl hg rfl rfl rfl rfl)):=h
def b2f (h:p:=by first | omega | (simp at hg;omega)):=h
def d4s (h:p:=by exact (a4a rfl rfl (by conv => lhs;whnf))):=h
def X5 (h:p:=by exact (c9m rfl tt rfl t_5)):=h
def a0J (h:p:=by cases ph <;> exact ⟨rfl, rfl, de_⟩):=h
def a2k (h:p:=by exact c7 rfl (b8t rfl tt rfl)):=h
def b2Q (h:p:=by exact (fun hg => a08 rfl hg hg rfl rfl rfl)):=h
def b7c (h:p:=by exact (o5 rfl tt rfl a2Y hk rfl)):=h
def j1 (h:p:=by exact (a4a rfl tt (by conv => lhs;whnf))):=h
def U1 (h:p:=by exact (T0 rfl tt rfl t_8 rfl)):=h
def a1a (h:p:=by exact (T0 rfl tt rfl a2Y rfl)):=h
def b32 (h:p:=by exact (c7 rfl (a9i rfl tt rfl rfl))):=h
def b1s (h:p:=by first | exact V3 _ _ | rfl):=h
def b3Y (h:p:=by have := B4 hnm.1;omega):=h
def a0v (h:p:=by exact (b7y rfl tt rfl rfl rfl om_ om_)):=h
def a9u (h:p:=by first | omega | (simp;omega)):=h
def a24 (h:p:=by exact (b1v rfl tt rfl rfl rfl om_ om_)):=h
def a4s (h:p:=by exact (b7y rfl tt tt rfl rfl om_ om_)):=h
def a5U (h:p:=by rw [a7Z];omega):=h
def a9w (h:p:=by exact (b1v rfl tt tt rfl rfl om_ om_)):=h
def b6S (h:p:=by rw [Q8 hv10 hi10];decide):=h
def b4W (h:p:=by rw [a2O];omega):=h
def c5U (h:p:=by show [].length <= 8;decide):=h
def S7 (h:p:=by exact (a08 rfl tt rfl rfl rfl rfl)):=h
def b63 (h:p:=by exact (c7 rfl (b8t rfl tt rfl))):=h
def b2I (h:p:=by exact (o9 ⟨.val _, .val _, tt⟩)):=h
def b2s (h:p:=by simp [z6.add, <- hr.len]):=h
def a5P (h:p:=by exact (a08 rfl tt tt rfl rfl rfl)):=h
def a2L (h:p:=by exact (o9 ⟨H0 _ _ _, tt⟩)):=h
def a6H (h:p:=by rw [hw];simpa using hbw):=h
def b8O (h:p:=by simp [Region.wanted, hg]):=h
def a6C (h:p:=by exact (fun hg => c7s rfl hg rfl)):=h
def x9 (h:p:=by simp [ho, Op.operands]):=h
def a5p (h:p:=by exact (a9i rfl tt rfl rfl)):=h
def a4n (h:p:=by first | omega | simp):=h
def a94 (h:p:=by exact ⟨tt, _, _, rfl, om_, om_⟩):=h
def c4 (h:p:=by conv => lhs;whnf):=h
def N8 (h:p:=by cases ph <;> rfl):=h
def b1i (h:p:=by exact ⟨tt, tt, tt, rfl, tt⟩):=h
def a1v (h:p:=by exact ⟨tt, tt, tt, tt, tt⟩):=h
def a6R (h:p:=by exact (N6 _ [] false)):=h
def r5 (h:p:=by exact (fun _ _ => nb rfl)):=h
def K2 (h:p:=by exact (b8t rfl tt rfl)):=h
def a6L (h:p:=by exact (c7s rfl tt rfl)):=h
def P9 (h:p:=by exact (H3 _ _ _ _)):=h
def a2J (h:p:=by exact ⟨tt, rfl, rfl, tt⟩):=h
def a91 (h:p:=by exact (b5B (nb rfl))):=h
def a7P (h:p:=by exact ⟨tt, tt, rfl, tt⟩):=h
def a4p (h:p:=by exact (B3 _ [] _)):=h
def c7K (h:p:=by rw [hr];rfl):=h
def C0 (h:p:=by exact ⟨tt, tt, tt, tt⟩):=h
def a0G (h:p:=by exact (B3 _ _ _)):=h
def Q9 (h:p:=by simp;omega):=h
def Z7 (h:p:=by exact (b1H _ _ _)):=h
def a2A (h:p:=by exact (V2 _ _ _)):=h
def p8 (h:p:=by exact (.inr ⟨_, rfl⟩)):=h
def C6 (h:p:=by kernel_rfl):=h
def a4T (h:p:=by exact (H0 _ _ _)):=h
def a1u (h:p:=by exact (fun _ => rfl)):=h
def C3 (h:p:=by exact (a4X _ _)):=h
def o7 (h:p:=by exact ⟨tt, rfl, tt⟩):=h
def a28 (h:p:=by simp [e]):=h
def i7 (h:p:=by exact ⟨tt, tt, tt⟩):=h
def m0 (h:p:=by exact ⟨tt, rfl⟩):=h
def a1g (h:p:=by exact ⟨tt, ur_⟩):=h
def uo_ (h:p:=by first|exact .val _|exact .ptr (nb rfl)|exact .map (nb rfl)|exact B3 _ _ _|exact H0 _ _ _|exact R6 _ _ _|exact Q0 _ _ _|exact a5M _ _ _|exact (by first|exact a5M _ _ _|exact Q0 _ _ _|exact b5l _ _)|exact (by first|exact W5 _ _|exact Q0 _ _ _|exact V2 _ _ _|exact B3 _ _ _|exact a0V _ _ _)|exact H3 _ _ _ _|exact (N3 ([]:List Int) false).old|exact (N3 _ _).old|exact .vec (nb rfl)|exact N6 _ _ _|exact b1l _ _|exact b2S _ _ _|exact a0V _ _ _|exact c2o _ [] _|exact V2 _ _ _):=h
def uz_ (h:p:=by intro a ha;repeat' (first|exact .val _|exact .ptr (nb rfl)|exact .map (nb rfl)|exact tt|exact B3 _ _ _|exact N6 _ _ _|exact Q0 _ _ _|exact R6 _ _ _|exact .vec (nb rfl)|exact De.old _ _|exact Ex.old _ _|exact H0 _ _ _|exact b1l _ _|exact Src.old _ _|exact (N3 _ _).old|exact I9 _ _ _|exact H3 _ _ _ _|exact (by first|exact W5 _ _|exact Q0 _ _ _|exact B3 _ _ _|exact a0V _ _ _)|exact (N3 ([]:List Int) false).old|exact b2S _ _ _|exact b62 _ _ _|exact (by first|exact B3 _ _ _|exact b5l _ _)|exact a0V _ _ _|exact (o3 (cs:=[_,_,_,_]) ⟨.val _,.val _,.val _,.val _,tt⟩).old|exact (c7o _ _).old|exact a5M _ _ _|exact old_vstrs _ _|exact (by first|exact .vec (nb rfl)|exact c8X _|exact B3 _ _ _)|exact (by first|exact W5 _ _|exact c9A _ _ _|exact Q0 _ _ _|exact B3 _ _ _|exact a0V _ _ _)|exact (o3 (cs:=A8 _ _) ⟨G8 _ _,tt⟩).old|exact (a2g _ _).old|exact (G8 _ _).old|exact a0u _ _|exact a4X _ _|exact a0g _ _|exact c2o _ _ _|exact B3 _ [] _|exact b5F (nb rfl) (nb rfl) (nb rfl)|exact (by first|exact a35 (nb rfl)|exact a4X _ _|exact c9A _ _ _|exact o9 (show b5g _ _ from ⟨.val _,.val _,.val _,.val _,tt⟩))|exact R6 _ [] _ | refine o9 ?_ | refine ⟨?_,?_⟩)):=h
def pu_ (h:p:=by repeat' (first|exact .val _|exact N3 _ _|exact C2 _ _|exact a0t _ _|exact a42 _ _|exact G8 _ _|exact a03 _ _|exact a5W _ _|exact S2 _ _|exact b6l _ _|exact a2g _ _|exact a26 _ _|exact tt | refine o3 ?_ | refine B9 ?_ | refine ⟨?_,?_⟩)):=h
def ur_ (h:p:=by first|exact .ptr rfl|exact .map rfl|exact .vec rfl|exact .same rfl uo_|exact D2.grow (f:=scv) (fun _=>⟨.val _,tt⟩) rfl|exact .same rfl (B3 _ ([]:List Str) _)|exact D2.grow (f:=Tok.cv) (fun _=>⟨.val _,.val _,.val _,.val _,tt⟩) rfl|exact D2.grow (f:=Fi.cv) (fun _=>⟨.val _,.val _,tt⟩) rfl|exact D2.grow (f:=Ky.cv) (fun _=>⟨.val _,.val _,.val _,tt⟩) rfl|exact D2.grow (f:=Sn.cv) (fun _=>⟨.val _,.val _,tt⟩) rfl|exact D2.grow (f:=icv) (fun _=>⟨.val _,tt⟩) rfl|exact D2.grow (f:=bcv) (fun _=>⟨.val _,tt⟩) rfl|exact (by exact .vec rfl)|exact .same rfl (N3 ([]:List Int) false).old|exact .same rfl (V2 _ ([]:List Tok) _)):=h
def ut_ (h:p:=by repeat' (first|exact tt | refine ⟨?_,?_⟩|exact ur_|exact rfl)):=h
def uq_ (h:p:=by repeat' (first|exact tt|exact .inl rfl | refine ⟨?_,?_⟩|exact .inr ⟨_,rfl,.same rfl (a4X _ _)⟩|exact .inr ⟨_,rfl,.same rfl (H3 _ _ _ _)⟩|exact .inr ⟨_,rfl,.same rfl (o9 (a34 _))⟩|exact .inr ⟨_,rfl,.same rfl (o9 ⟨I9 _ _ _,tt⟩)⟩|exact .inr ⟨_,rfl,.same rfl (a35 (nb rfl))⟩|exact .inr ⟨_,rfl,.same rfl (b1H _ _ _)⟩|exact .inr ⟨_,rfl,.same rfl (a0u _ _)⟩|exact .inr ⟨_,rfl,.same rfl (b5B (nb rfl))⟩|exact .inr ⟨_,rfl,.same rfl (a0g _ _)⟩|exact .inr ⟨_,rfl,.same rfl (b5F (by decide) (by decide) (by decide))⟩|exact .inr ⟨_,rfl,.same rfl (o9 ⟨H0 _ _ _,tt⟩)⟩|exact .inr ⟨_,rfl,.same rfl (Src.old _ _)⟩|exact .inr ⟨_,rfl,.same rfl (o9 ⟨.val _,.val _,.val _,.val _,tt⟩)⟩|exact .inr ⟨_,rfl,.same rfl (o9 ⟨.val _,.val _,B3 _ [] _,N6 _ [] _,tt⟩)⟩|exact .inr ⟨_,rfl,.same rfl (o9 ⟨.val _,.val _,B3 _ _ _,N6 _ _ _,tt⟩)⟩|exact .inr ⟨_,rfl,.same rfl (o9 ⟨.val _,tt⟩)⟩|exact .inr ⟨_,rfl,.same rfl (o9 ⟨B3 _ _ _,b62 _ _ _,tt⟩)⟩|exact .inr ⟨_,rfl,.same rfl (d3d (by decide))⟩|exact .inr ⟨_,rfl,.same rfl (a35 (by decide))⟩|exact .inr ⟨_,rfl,.same rfl (o9 ⟨.val _,.val _,.val _,.val _,Q0 _ [] _,tt⟩)⟩|exact .inr ⟨_,rfl,.same rfl (b2S _ _ _)⟩|exact .inr ⟨_,rfl,.same rfl (b1H 4 0 b.length)⟩)):=h
def sp_ (h:q->p:=by intro U;simpa using U):=h U
def sm_ (h:q->p:=by intro U;simp at U;omega):=h U
theorem gx_ {α:Type} (l:List α) (i:Nat) (h:i < l.length:=by omega):∃ b,l[i]? = some b:=⟨l[i],by simp⟩
def tu_ (h:p:=by repeat' (first|exact tt|exact rfl | refine ⟨?_,?_⟩)):=h
def do_ (h:p:=by dsimp only;omega):=h
def om_ (h:p:=by omega):=h
def si_ (h:p:=by simp):=h
def de_ (h:p:=by decide):=h
def z_0 (h:q->p:=by intro U;refine A5 ?_;refine r3 ?_;exact U):=h U
def z_1 (h:q->p:=by intro U;refine cY Q1 ?_;refine c8 ?_;exact U):=h U
def z_2 (h:q->p:=by intro U;refine z_0 ?_;refine cY j1 ?_;exact U):=h U
def z_3 (h:q->p:=by intro U;refine cY a2H ?_;refine c8 ?_;exact U):=h U
def z_4 (h:q->p:=by intro U;refine r3 ?_;refine cY j1 ?_;exact U):=h U
def z_5 (h:q->p:=by intro U;refine z_2 ?_;refine cY j1 ?_;exact U):=h U
def z_6 (h:q->p:=by intro U;refine z_0 ?_;refine z_3 ?_;exact U):=h U
def z_7 (h:q->p:=by intro U;refine z_1 ?_;refine W2 ?_;exact U):=h U
def z_8 (h:q->p:=by intro U;refine c9 ?_;refine A5 ?_;exact U):=h U
def z_9 (h:q->p:=by intro U;refine c8 ?_;refine A5 ?_;exact U):=h U
def c0n (h:Qz q->p:=by intro U;refine cY a0v ?_;refine cY j1 ?_;exact U tt):=h fun _=>U
def a73 (h:q->p:=by intro U;refine cY S7 ?_;refine z_1 ?_;exact U):=h U
def a4B (h:q->p:=by intro U;refine c8 ?_;refine F5 ?_;exact U):=h U
def a65 (h:q->p:=by intro U;refine z_0 ?_;refine cD (a5v rfl tt c4 p8 ?_);exact U):=h U
def O1 (h:q->p:=by intro U;refine cY S7 ?_;refine c8 ?_;exact U):=h U
def a3q (h:q->p:=by intro U;refine cY j1 ?_;refine cG T7 ?_;exact U):=h U
def I0 (h:q->p:=by intro U;refine z_6 ?_;refine W2 ?_;exact U):=h U
def a62 (h:q->p:=by intro U;refine cD (x8 rfl a7M rfl p8 ?_);refine cD (j6 rfl tt tt rfl c4 a3s p8 rfl rfl (nb rfl) ?_);exact U):=h U
def a4O (h:q->p:=by intro U;refine z_8 ?_;refine F5 ?_;exact U):=h U
def b0I (h:Qz q->p:=by intro U;refine r3 ?_;refine c0n ?_;refine c8 ?_;exact U tt):=h fun _=>U
def a1z (h:q->p:=by intro U;refine A5 ?_;refine z_2 ?_;exact U):=h U
def b9Z (h:q->p:=by intro U;refine cD (j6 rfl tt tt rfl c4 t_2 (.inl rfl) rfl rfl (nb rfl) ?_);refine c8 ?_;exact U):=h U
def Z0 (h:q->p:=by intro U;refine cY d4s ?_;refine a4B ?_;exact U):=h U
def D6 (h:q->p:=by intro U;refine z_0 ?_;refine a73 ?_;exact U):=h U
def C9 (h:q->p:=by intro U;refine z_0 ?_;refine cY a5P ?_;refine z_9 ?_;exact U):=h U
def X0 (h:q->p:=by intro U;refine z_4 ?_;refine cY j1 ?_;exact U):=h U
def a88 (h:q->p:=by intro U;refine cG b1a ?_;refine cY a4t ?_;exact U):=h U
def a0Y (h:q->p:=by intro U;refine A5 ?_;refine z_0 ?_;exact U):=h U
def d7a (h:q->p:=by intro U;refine A6 rfl rfl rfl rfl (j6 rfl tt tt rfl c4 b0i p8 rfl rfl (nb rfl) ?_);refine ⟨tt,?_⟩;exact U):=h U
def a2l (h:Qz q->p:=by intro U;refine c9 ?_;refine b0I ?_;exact U tt):=h fun _=>U
def b5O (h:q->p:=by intro U;refine cD (x8 rfl b02 rfl p8 ?_);refine cD (j6 rfl tt tt rfl c4 a68 p8 rfl rfl (nb rfl) ?_);exact U):=h U
def a4W (h:q->p:=by intro U;refine cY a2H ?_;refine z_3 ?_;exact U):=h U
def S5 (h:q->p:=by intro U;refine c8 ?_;refine z_0 ?_;exact U):=h U
def S4 (h:q->p:=by intro U;refine cY a6L ?_;refine c8 ?_;exact U):=h U
def a8t (h:q->p:=by intro U;refine cY a1f ?_;refine c8 ?_;exact U):=h U
def L7 (h:q->p:=by intro U;refine c8 ?_;refine z_2 ?_;exact U):=h U
def d7X (h:p:=by refine z_1 ?_;exact ⟨⟨x4,n3,a4,e4,b4,true,g+1⟩,[0,1,2,5],⟨hme,fun h0=>(hst.1 h0).2.elim fun i hi=>⟨i,hi.1,hi.2,hfu (hst.1 h0).1⟩,hst.2,y3,w4,l4,u4,do_⟩,⟨rfl,rfl⟩,ut_,⟨.inr ⟨_,rfl,.box ⟨.old a2A,.old (.val _),.old (.val _),.old (.val _),.old a0G,a3r rfl,.old a6R,tt⟩⟩,.inl rfl,.inl rfl,.inr ⟨_,rfl,.same rfl Z7⟩,tt⟩⟩):=h
def W7 (h:q->p:=by intro U;refine a4O ?_;refine z_0 ?_;exact U):=h U
def a69 (h:p:=by refine a2l ?_;exact ⟨(i+1),_,⟨om_,om_⟩,tu_,rfl⟩):=h
def O0 (h:q->p:=by intro U;refine z_1 ?_;refine z_2 ?_;exact U):=h U
def d0L (h:q->p:=by intro U;refine cD (j6 rfl tt tt rfl c4 a3s p8 rfl rfl (nb rfl) ?_);refine cY Q1 ?_;exact U):=h U
def d6I (h:q->p:=by intro U;refine cY a5p ?_;refine cY a5p ?_;exact U):=h U
def a89 (h:p:=by refine a2l ?_;exact ⟨(i+1),_,⟨om_,om_,hr⟩,tu_,rfl⟩):=h
def a1n (h:q->p:=by intro U;refine c8 ?_;refine W2 ?_;exact U):=h U
def a0M (h:q->p:=by intro U;refine z_5 ?_;refine cY j1 ?_;exact U):=h U
def a4P (h:q->p:=by intro U;refine z_2 ?_;refine cY K2 ?_;exact U):=h U
def b9V (h:p:=by refine I0 ?_;exact ⟨_,j2 rfl tt c4,_,_,rfl,rfl,G4 d9P⟩):=h
def a5d (h:q->p:=by intro U;refine hY j1 ?_;refine hY K2 ?_;exact U):=h U
def d0r (h:p:=by refine z_7 ?_;exact ⟨_,j2 rfl tt c4,_,_,rfl,rfl,(.tok (fun r hr c hc=>(C4 (f:=scv) (fun _=>S9.all ⟨.val _,tt⟩) _) r hr c hc))⟩):=h
def a8T (h:q->p:=by intro U;refine a3q ?_;refine cG T7 ?_;exact U):=h U
def d7e (h:q->p:=by intro U;refine cY a5q ?_;refine cD (j6 rfl tt tt rfl c4 t_0 (.inl rfl) rfl rfl (nb rfl) ?_);exact U):=h U
def a1Q (h:q->p:=by intro U;refine A5 ?_;refine z_5 ?_;exact U):=h U
def b1C (h:q->p:=by intro U;refine cY j1 ?_;refine d6I ?_;exact U):=h U
def b88 (h:q->p:=by intro U;refine cY a4i ?_;refine cD (j6 rfl tt tt rfl c4 a3s p8 rfl rfl (nb rfl) ?_);exact U):=h U
def d7z (h:q->p:=by intro U;refine cY a3a ?_;refine cD (j6 rfl tt tt rfl c4 a4J p8 rfl rfl (nb rfl) ?_);exact U):=h U
def a3J (h:q->p:=by intro U;refine a65 ?_;refine z_3 ?_;exact U):=h U
def c0w (h:q->p:=by intro U;refine D9 rfl rfl rfl c7r ⟨tt,?_⟩;refine b5a ?_;exact U):=h U
def b6e (h:p:=by refine I0 ?_;exact ⟨_,j2 rfl tt c4,_,_,rfl,rfl,G4 c7K⟩):=h
def b25 (h:q->p:=by intro U;refine cY Q1 ?_;refine z_1 ?_;exact U):=h U
def b9K (h:p:=by refine z_7 ?_;exact ⟨_,j2 rfl tt c4,_,_,rfl,rfl,j7 q_5⟩):=h
def a4Q (h:q->p:=by intro U;refine cY j1 ?_;refine cY j1 ?_;exact U):=h U
def a8S (h:q->p:=by intro U;refine cY b7i ?_;refine cY a0H ?_;exact U):=h U
def a1i (h:q->p:=by intro U;refine cY a0K ?_;refine Z0 ?_;exact U):=h U
def a2Q (h:q->p:=by intro U;refine a1z ?_;refine O1 ?_;exact U):=h U
def d7Y (h:q->p:=by intro U;refine cD (j6 rfl tt tt rfl c4 a2U (.inl rfl) rfl rfl (nb rfl) ?_);refine c8 ?_;exact U):=h U
def b0t (h:q->p:=by intro U;refine A4 ?_;refine z_2 ?_;exact U):=h U
def a1h (h:q->p:=by intro U;refine cY S7 ?_;refine a3q ?_;exact U):=h U
def a60 (h:q->p:=by intro U;refine chf rfl W9 ?_;refine chf rfl W9 ?_;exact U):=h U
def a6s (h:q->p:=by intro U;refine cY S7 ?_;refine cY j1 ?_;exact U):=h U
def a6p (h:q->p:=by intro U;refine cY c5T ?_;refine cY a2D ?_;exact U):=h U
def a6n (h:q->p:=by intro U;refine cY b8q ?_;refine cY V7 ?_;exact U):=h U
def a7N (h:q->p:=by intro U;refine cY a5P ?_;refine c8 ?_;exact U):=h U
def a4L (h:q->p:=by intro U;refine P8 ?_;refine c8 ?_;exact U):=h U
def a8y (h:Qz q->p:=by intro U;refine cY a5n ?_;refine cY V8 ?_;exact U tt):=h fun _=>U
def X9 (h:q->p:=by intro U;refine a4O ?_;refine z_2 ?_;exact U):=h U
def a3P (h:q->p:=by intro U;refine a4W ?_;refine W2 ?_;exact U):=h U
def c9g (h:q->p:=by intro U;refine cD (x8 rfl b5Q rfl p8 ?_);refine cD (j6 rfl tt tt rfl c4 a80 p8 rfl rfl (nb rfl) ?_);exact U):=h U
def c8J (h:q->p:=by intro U;refine cD (x8 rfl a7o rfl p8 ?_);refine cD (j6 rfl tt tt rfl c4 a4J p8 rfl rfl (nb rfl) ?_);exact U):=h U
def c7O (h:q->p:=by intro U;refine cD (x8 rfl a5h rfl p8 ?_);refine cD (j6 rfl tt tt rfl c4 a2R p8 rfl rfl (nb rfl) ?_);exact U):=h U
def a4M (h:q->p:=by intro U;refine cY a4t ?_;refine c8 ?_;exact U):=h U
def b78 (h:Qz q->p:=by intro U;refine cY a0v ?_;refine z_1 ?_;exact U tt):=h fun _=>U
def a1d (h:q->p:=by intro U;refine c9 ?_;refine z_0 ?_;exact U):=h U
def a6Z (h:q->p:=by intro U;refine cY c2P ?_;refine cY V7 ?_;exact U):=h U
def d9S (h:q->p:=by intro U;refine cY d5n ?_;refine cY e0g ?_;exact U):=h U
def d1L (h:q->p:=by intro U;refine cY b7H ?_;refine cY d6w ?_;exact U):=h U
def d8u (h:q->p:=by intro U;refine cG d9u ?_;refine cG b4L ?_;exact U):=h U
def a21 (h:q->p:=by intro U;refine c9 ?_;refine F5 ?_;exact U):=h U
def a1m (h:q->p:=by intro U;refine c9 ?_;refine z_2 ?_;exact U):=h U
def c5u (h:q->p:=by intro U;refine cY a5q ?_;refine cY V7 ?_;exact U):=h U
def c4u (h:q->p:=by intro U;refine c5 [rbx T n3 a3 e3 ps b 1,p7 e3 b.length,.box (tk T n).cells] rfl ?_;refine c8 ?_;exact U):=h U
def c9u (h:p:=by refine z_7 ?_;exact ⟨_,j2 rfl tt c4,⟨(_,p1),a1x rfl P9 (.old (.val _)),b49,do_,do_⟩⟩):=h
def d8I (h:p:=by refine z_1 ?_;exact ⟨⟨x4,n3,a4,e4,b4,true,g⟩,[0,1,2,5],⟨hme,fun h0=>(hst.1 h0).2.elim fun i hi=>⟨i,hi.1,hi.2,hfu (hst.1 h0).1⟩,hst.2,y3,w4,l4,u4,do_⟩,⟨rfl,rfl⟩,ut_,⟨.inr ⟨_,rfl,.box ⟨.old a2A,.old (.val _),.old (.val _),.old (.val _),.old a0G,a3r rfl,.old a6R,tt⟩⟩,.inl rfl,.inl rfl,.inr ⟨_,rfl,.same rfl Z7⟩,tt⟩⟩):=h
def a4D (h:q->p:=by intro U;refine cG b1a ?_;refine cY a1f ?_;exact U):=h U
def d0I (h:Qz q->p:=by intro U;refine cY a0v ?_;refine cY K2 ?_;exact U tt):=h fun _=>U
def d6q (h:q->p:=by intro U;refine c5 [pbx T m ps b2 3,.dead,.box (tk T n).cells,u0 b2.length] rfl ?_;refine z_7 ?_;exact U):=h U
def T5 (h:q->p:=by intro U;refine z_9 ?_;refine z_0 ?_;exact U):=h U
def b9y (h:q->p:=by intro U;refine cY c53 ?_;refine z_1 ?_;exact U):=h U
def a8l (h:q->p:=by intro U;refine a65 ?_;refine cD (a5v rfl tt c4 p8 ?_);exact U):=h U
def U9 (h:q->p:=by intro U;refine A4 ?_;refine z_0 ?_;exact U):=h U
def c1x (h:p:=by refine a3P ?_;exact ⟨_,j9 (rs:=[.cell 4 231,.tmp 5,.tmp 6]) (cs:=[_,_,_]) rfl b0R (n_2 rfl),q_7⟩):=h
def Q7 (h:q->p:=by intro U;refine z_6 ?_;refine a1z ?_;exact U):=h U
def a1w (h:q->p:=by intro U;refine A4 ?_;refine I0 ?_;exact U):=h U
def a2C (h:q->p:=by intro U;refine ⟨tt,?_⟩;refine b5a ?_;exact U):=h U
def a9z (h:q->p:=by intro U;refine cY d0x ?_;refine cY c1Y ?_;exact U):=h U
def b87 (h:q->p:=by intro U;refine X0 ?_;refine de rfl b9c a7P (a2G _ _ de_ (q:=0) (s:=2) ⟨rfl,rfl,de_⟩) rfl ?_;exact U):=h U
def a4A (h:q->p:=by intro U;refine A5 ?_;refine F5 ?_;exact U):=h U
def U5 (h:q->p:=by intro U;refine z_6 ?_;refine z_2 ?_;exact U):=h U
def a9Q (h:q->p:=by intro U;refine z_3 ?_;refine W2 ?_;exact U):=h U
def d5q (h:q->p:=by intro U;refine F5 ?_;refine j5 hCC (α:=Nat) (fun k=>[(3,(.vec 0 0 st.length)),(4,iv i),(5,.ptr 1 0),(6,iv x.args.length),(7,iv k),(8,(.list (E.map Ex.cv) en none)),(9,iv E.length),(10,iv i)]) (fun _=>[(.vec 1 ((st++rest).map icv)),.box x.cells]) (fun k=>k<=x.args.length) (fun k=>x.args.length - k) 0 (n_3 _) tu_ (extra0:=[]) rfl r5 uz_ ?_;exact U):=h U
def a2z (h:q->p:=by intro U;refine cY d6c ?_;refine cY a0H ?_;exact U):=h U
def b1K (h:Qz q->p:=by intro U;refine cY d9t ?_;refine cY U1 ?_;exact U tt):=h fun _=>U
def a1o (h:q->p:=by intro U;refine r3 ?_;refine a73 ?_;exact U):=h U
def b8Q (h:q->p:=by intro U;refine cY d5n ?_;refine cD (j6 rfl tt tt rfl c4 d0k (.inl rfl) rfl rfl (nb rfl) ?_);exact U):=h U
def a6N (h:q->p:=by intro U;refine chf rfl W9 ?_;refine chf rfl b63 ?_;exact U):=h U
def b6T (h:q->p:=by intro U;refine cY c06 ?_;refine cD (j6 rfl tt tt rfl c4 a80 p8 rfl rfl (nb rfl) ?_);exact U):=h U
def a6G (h:q->p:=by intro U;refine c9 ?_;refine z_4 ?_;exact U):=h U
def a3j (h:q->p:=by intro U;refine cY a4t ?_;refine z_7 ?_;exact U):=h U
def b6U (h:q->p:=by intro U;refine U5 ?_;refine ye rfl a7k ⟨tt,tt⟩ (Y9 hT hn ⟨rfl,rfl,de_⟩) rfl ?_;exact U):=h U
def b0N (h:q->p:=by intro U;refine z_0 ?_;refine cD (x8 rfl a7M rfl p8 ?_);exact U):=h U
def d3S (h:Qz q->p:=by intro U;refine cY a0H ?_;refine d0I ?_;exact U tt):=h fun _=>U
def b8o (h:q->p:=by intro U;refine cD (j6 rfl tt tt rfl c4 b0i p8 rfl rfl (nb rfl) ?_);refine a1n ?_;exact U):=h U
def c7W (h:Qz q->p:=by intro U;refine cY d9s ?_;refine cY d5Q ?_;exact U tt):=h fun _=>U
def a1j (h:Qz q->p:=by intro U;refine z_1 ?_;refine b0I ?_;exact U tt):=h fun _=>U
def a7z (h:Qz q->p:=by intro U;refine cY a24 ?_;refine z_1 ?_;exact U tt):=h fun _=>U
def c2f (h:q->p:=by intro U;refine U2 rfl rfl (fun h=>h) rfl rfl (fun hk hg=>a08 rfl ⟨hk,hg⟩ rfl rfl rfl rfl) ?_;refine cG c2A ?_;exact U):=h U
def c1W (h:q->p:=by intro U;refine F9 ?_;refine A6 rfl rfl rfl rfl (j6 rfl tt tt rfl c4 a2R p8 rfl rfl (nb rfl) ?_);exact U):=h U
def a4m (h:q->p:=by intro U;refine cY Q1 ?_;refine a9Q ?_;exact U):=h U
def b7r (h:p:=by refine I0 ?_;exact ⟨_,j2 rfl tt c4,_,_,rfl,rfl,G4 d8v⟩):=h
def d3K (h:q->p:=by intro U;refine Z0 ?_;refine j5 hCC (α:=Nat) (fun i=>[(1,(sv s)),(9,(.list (l.map Va.cv) nn none)),(10,iv l.length),(11,iv i)]) (fun _=>[.box (G3 l nn)]) (fun i=>i<=l.length/\a1b l s=a1b (l.drop i) s) (fun i=>l.length - i) 0 ⟨n_3 _,rfl⟩ tu_ (extra0:=[]) rfl r5 uz_ ?_;exact U):=h U
def a8w (h:q->p:=by intro U;refine hY j1 ?_;refine hY j1 ?_;exact U):=h U
def b9b (h:q->p:=by intro U;refine cY b3u ?_;refine c8 ?_;exact U):=h U
def d3v (h:q->p:=by intro U;refine a1i ?_;refine j5 hCC (α:=Nat) (fun i=>[(1,(sv u)),(7,(.list (l.map scv) nn none)),(8,iv l.length),(9,iv i)]) (fun _=>[]) (fun i=>i<=l.length/\decide (u∈l)=decide (u∈l.drop i)) (fun i=>l.length - i) 0 ⟨n_3 _,rfl⟩ tu_ (extra0:=[]) rfl r5 uz_ ?_;exact U):=h U
def c3d (h:p:=by refine z_7 ?_;exact ⟨_,j2 rfl tt c4,_,_,rfl,rfl,G4 rfl⟩):=h
def d0Z (h:q->p:=by intro U;refine d9S ?_;refine cY d0b ?_;exact U):=h U
def c6z (h:p:=by refine z_7 ?_;exact ⟨_,j2 rfl tt c4,_,_,rfl,rfl,D4 rfl⟩):=h
def a0F (h:q->p:=by intro U;refine z_0 ?_;refine b9y ?_;exact U):=h U
def c71 (h:Qz q->p:=by intro U;refine yc rfl Tryz.call29 trivial (a5j _) ?_;refine de rfl a2n i7 (F3 l nn (k+2) _ 0 rfl om_ hl W8 de_ de_) rfl ?_;exact U tt):=h fun _=>U
def d5M (h:q->p:=by intro U;refine a4A ?_;refine K3 (α:=Str × Nat × Nat) (fun x=>[(1,(.val (.int .u64 (x.2.1:Int)))),(5,(a09 x.1 x.2.2))]) (fun x=>b2U x.2.2 (A1 tU8 x.1.length)) (fun x=>l++Y6 n=x.1++Y6 x.2.1/\x.2.1<=n) (fun x=>x.2.1) (l,n,1) ⟨rfl,n_4 _⟩ tu_ rfl ?_;exact U):=h U
def c2J (h:q->p:=by intro U;refine c5 [rbx T n3 a6 e6 ps b6 3,.dead,.box (tk T n).cells,p7 e6 b6.length] rfl ?_;refine z_7 ?_;exact U):=h U
def c2d (h:q->p:=by intro U;refine U2 rfl rfl (fun h=>h) rfl rfl (fun hk hg=>c7s rfl ⟨hk,hg⟩ rfl) ?_;refine cG c2A ?_;exact U):=h U
def c17 (h:q->p:=by intro U;refine cY a8B ?_;refine cD (j6 rfl tt tt rfl c4 d0D (.inl rfl) rfl rfl (nb rfl) ?_);exact U):=h U
def a4l (h:q->p:=by intro U;refine cY c2z ?_;refine cY a2D ?_;exact U):=h U
def d4O (h:q->p:=by intro U;refine cY c7P ?_;refine cY c9v ?_;exact U):=h U
def a4k (h:q->p:=by intro U;refine cY c1C ?_;refine cY a0H ?_;exact U):=h U
def b3s (h:q->p:=by intro U;refine cY d5w ?_;refine cY a6B ?_;exact U):=h U
def c8I (h:p:=by refine c8 ?_;exact ⟨_,j9 (rs:=[]) (cs:=[]) rfl tt (n_2 rfl),⟨(max d dp),d8K,tt⟩⟩):=h
def d6f (h:q->p:=by intro U;refine c5 [rbx T n2 a2 e2 ps b 1,p7 e2 b.length,.box (tk T n).cells] rfl ?_;refine O0 ?_;exact U):=h U
def c2G (h:q->p:=by intro U;refine cY Q1 ?_;refine cD (j6 rfl tt tt rfl c4 a80 p8 rfl rfl (nb rfl) ?_);exact U):=h U
def c16 (h:q->p:=by intro U;refine cY e0E ?_;refine cD (j6 rfl tt tt rfl c4 a3s p8 rfl rfl (nb rfl) ?_);exact U):=h U
def d3G (h:q->p:=by intro U;refine c5 [rbx T n6 x1 y1 [] [] 2,p7 0 b.length,p7 y1 ([]:List Ex).length,.dead,.box (⟨0,[],[],[]⟩:De).cells,.box [iv kd,(sv s2),.list (l.map scv) (gnn l.length) (G9 l.length 6),.list [] false none],u0 l.length] rfl ?_;refine c8 ?_;exact U):=h U
def a0E (h:q->p:=by intro U;refine z_8 ?_;refine z_0 ?_;exact U):=h U
def a9H (h:q->p:=by intro U;refine cY a5P ?_;refine a8T ?_;exact U):=h U
def b4x (h:q->p:=by intro U;refine a1z ?_;refine cY K2 ?_;exact U):=h U
def b0Y (h:q->p:=by intro U;refine cY j1 ?_;refine d8u ?_;exact U):=h U
def d5S (h:q->p:=by intro U;refine ⟨⟨X8,E8,tt⟩,?_⟩;refine D9 rfl rfl rfl d2H ⟨⟨X8,tt⟩,?_⟩;exact U):=h U
def c13 (h:p:=by refine I0 ?_;exact ⟨_,j2 rfl tt c4,_,_,rfl,rfl,j7 hno.symm⟩):=h
def a5k (h:p:=by refine r3 ?_;refine cY a4i ?_;exact b0e rfl rfl (a1B rfl b5A o7 (a1F _ _ _) rfl (fun _ _=>.inr ⟨(_,_),l9,hsp,si_⟩))):=h
def c1R (h:q->p:=by intro U;refine cD (j6 rfl tt tt rfl c4 c41 p8 rfl rfl (nb rfl) ?_);refine a1n ?_;exact U):=h U
def b04 (h:q->p:=by intro U;refine z_0 ?_;refine cY X3 ?_;exact U):=h U
def c1u (h:p:=by refine I0 ?_;exact ⟨_,j2 rfl tt c4,(by exact a18 rfl (.val _))⟩):=h
def a2m (h:q->p:=by intro U;refine a4B ?_;refine D6 ?_;exact U):=h U
def a1T (h:q->p:=by intro U;refine b1C ?_;refine b25 ?_;exact U):=h U
def c18 (h:p:=by refine a1w ?_;exact ⟨_,j2 rfl tt c4,_,_,rfl,rfl,j7 rfl⟩):=h
def d4B (h:Qz q->p:=by intro U;refine cY e0s ?_;refine cD (a38 (l:=b) (new:=[UInt8.ofNat m]) (p:=k) rfl tt tt rfl (b2A (c6u h128)) t_7 t_9 b1V a4N rfl (.inl t_7) rfl (a7I _ _) a9u ?_);exact U tt):=h fun _=>U
def c7x (h:p:=by refine z_7 ?_;exact ⟨_,j2 rfl tt c4,⟨(_,p+2),a1x rfl P9 (.old (.val _)),b49,do_,do_⟩⟩):=h
def d4Q (h:Qz q->p:=by intro U;refine T3 rfl rfl tt rfl T7 ?_;refine T3 rfl rfl tt rfl d1N ?_;exact U tt):=h fun _=>U
def d3r (h:q->p:=by intro U;refine a1Q ?_;refine cY X5 ?_;exact U):=h U
def c2T (h:q->p:=by intro U;refine cY a4t ?_;refine a3q ?_;exact U):=h U
def b42 (h:q->p:=by intro U;refine r3 ?_;refine z_3 ?_;exact U):=h U
def b9I (h:q->p:=by intro U;refine cG T7 ?_;refine cG b4t ?_;exact U):=h U
def a6M (h:q->p:=by intro U;refine cY c3i ?_;refine cY V7 ?_;exact U):=h U
def b67 (h:q->p:=by intro U;refine hY d0x ?_;refine hY c1Y ?_;exact U):=h U
def a2M (h:q->p:=by intro U;refine a3J ?_;refine a0Y ?_;exact U):=h U
def a4x (h:Qz q->p:=by intro U;refine z_5 ?_;refine cY a0v ?_;exact U tt):=h fun _=>U
def d3W (h:q->p:=by intro U;refine a5A rfl rfl (fun h=>h) rfl (fun hk hg=>a56 rfl ⟨hk,hg⟩ rfl c4q rfl t_0 de_) ?_;refine a5A rfl rfl (fun h=>h) rfl (fun hk hg=>T0 rfl ⟨hk,hg⟩ rfl t_8 rfl) ?_;exact U):=h U
def d3x (h:q->p:=by intro U;refine d4O ?_;refine cY c78 ?_;exact U):=h U
def c5V (h:q->p:=by intro U;refine ye rfl c32 ⟨tt,tt⟩ (a3b hT hn ⟨rfl,rfl,n_2 rfl⟩) rfl ?_;refine a62 ?_;exact U):=h U
def d5X (h:q->p:=by intro U;refine U2 rfl rfl (fun h=>h) rfl rfl (fun hk hg=>j4 rfl tt rfl a9c rfl t_0 de_) ?_;refine U2 rfl rfl (fun h=>h) rfl rfl (fun hk hg=>o5 rfl ⟨hk,hg⟩ rfl t_8 rfl rfl) ?_;exact U):=h U
def d5k (h:q->p:=by intro U;refine U2 rfl rfl (fun h=>h) rfl rfl (fun hk hg=>j4 rfl tt rfl a7l rfl t_2 de_) ?_;refine U2 rfl rfl (fun h=>h) rfl rfl (fun hk hg=>o5 rfl ⟨hk,hg⟩ rfl a2Y rfl rfl) ?_;exact U):=h U
def d5V (h:q->p:=by intro U;refine U2 rfl rfl (fun h=>h) rfl rfl (fun hk hg=>j4 rfl tt rfl b1n rfl t_0 de_) ?_;refine U2 rfl rfl (fun h=>h) rfl rfl (fun hk hg=>o5 rfl ⟨hk,hg⟩ rfl t_8 rfl rfl) ?_;exact U):=h U
def d4F (h:q->p:=by intro U;refine c5 [rbx T n2 a2 e2 [] [] 2,p7 0 b.length,p7 e2 ([]:List Ex).length,.box (⟨pk,im,bs⟩:Src).cells,.box (⟨0,[],[],[]⟩:De).cells,.box (⟨kd,[],[],[]⟩:De).cells] rfl ?_;refine cY c3i ?_;exact U):=h U
def a3f (h:q->p:=by intro U;refine d0Z ?_;refine Z0 ?_;exact U):=h U
def d4P (h:p:=by refine a3j ?_;exact ⟨_,j2 rfl tt c4,_,_,rfl,rfl,j7 (by simp [e1,e2,e3,e4])⟩):=h
def d3C (h:q->p:=by intro U;refine a5A rfl rfl (fun h=>h) rfl (fun hk hg=>j4 rfl tt rfl c28 rfl c12 de_) ?_;refine a5A rfl rfl (fun h=>h) rfl (fun hk hg=>o5 rfl ⟨hk,hg⟩ rfl c5Y rfl rfl) ?_;exact U):=h U
def a9T (h:q->p:=by intro U;refine z_1 ?_;refine z_4 ?_;exact U):=h U
def a11 (h:q->p:=by intro U;refine z_6 ?_;refine z_5 ?_;exact U):=h U
def b6O (h:p:=by refine d6q ?_;exact ⟨_,j2 rfl tt c4,e0B⟩):=h
def d4o (h:q->p:=by intro U;refine a5A rfl rfl (fun h=>h) rfl (fun hk hg=>j4 rfl tt rfl c4q rfl t_0 de_) ?_;refine a5A rfl rfl (fun h=>h) rfl (fun hk hg=>o5 rfl ⟨hk,hg⟩ rfl t_8 rfl rfl) ?_;exact U):=h U
def a2y (h:q->p:=by intro U;refine b0t ?_;refine z_7 ?_;exact U):=h U
def a7W (h:q->p:=by intro U;refine z_1 ?_;refine X0 ?_;exact U):=h U
def c54 (h:q->p:=by intro U;refine cF [] [] [0,1,2,3,4,5,6,7,8,9] 5 [[0,1,2],[0,1],[0],[],[]] trivial ?_;refine chf rfl a9N ?_;exact U):=h U
def b8b (h:p:=by refine z_7 ?_;exact ⟨_,j2 rfl tt c4,d9d⟩):=h
def d3z (h:p:=by refine a1n ?_;exact ⟨_,B6 rfl b6Q,⟨(⟨(1+C7 l k 7),u,[]⟩,k+3),_,_,rfl,rfl,W1 rfl pu_,⟨(H7 (.inr (.inr (.inr (.inl hu))))),c5U⟩,do_⟩⟩):=h
def d3V (h:p:=by refine a1n ?_;exact ⟨_,B6 rfl b6Q,⟨(⟨(1+C7 l k 7),u,[]⟩,k+3),_,_,rfl,rfl,W1 rfl pu_,⟨(H7 (.inr (.inr (.inr (.inr hu))))),c5U⟩,do_⟩⟩):=h
def a9L (h:q->p:=by intro U;refine chf rfl W9 ?_;refine F9 ?_;exact U):=h U
def c7t (h:p:=by refine yc rfl Tryz.call106 i7 (b7L (a39 hσ _) _ (hok.find _ _ _)) ?_;exact c6z):=h
def a7X (h:q->p:=by intro U;refine cY c1H ?_;refine cY V7 ?_;exact U):=h U
def c9K (h:p:=by refine c8 ?_;exact ⟨(m9,x0,y0),⟨c1J (hv9.symm.trans hw) hy0,hm9⟩,tu_,rfl⟩):=h
def a9B (h:Qz q->p:=by intro U;refine A4 ?_;refine b0I ?_;exact U tt):=h fun _=>U
def c1Z (h:q->p:=by intro U;refine cY d6v ?_;refine cY V7 ?_;exact U):=h U
def c2u (h:q->p:=by intro U;refine cY j1 ?_;refine cG d9y ?_;refine cG a2E ?_;exact U):=h U
def d4e (h:Qz q->p:=by intro U;refine cY c6c ?_;refine d3S ?_;refine cY c6c ?_;exact U tt):=h fun _=>U
def b8Y (h:q->p:=by intro U;refine cY j1 ?_;refine b9b ?_;exact U):=h U
def b7R (h:Qz q->p:=by intro U;refine W7 ?_;refine c7W ?_;refine cD (x8 rfl a6r rfl p8 ?_);refine cD (j6 rfl tt tt rfl c4 a41 p8 rfl rfl (nb rfl) ?_);exact U tt):=h fun _=>U
def a6y (h:q->p:=by intro U;refine a9z ?_;refine cY a7Y ?_;exact U):=h U
def a3F (h:q->p:=by intro U;refine z_2 ?_;refine O1 ?_;exact U):=h U
def a5e (h:Qz q->p:=by intro U;refine c8 ?_;refine b0I ?_;exact U tt):=h fun _=>U
def a6v (h:q->p:=by intro U;refine cG b2Q ?_;refine a8t ?_;exact U):=h U
def c1T (h:q->p:=by intro U;refine yc rfl c5P ⟨tt,tt⟩ (a1L x.a _) ?_;refine c2u ?_;exact U):=h U
def c2F (h:q->p:=by intro U;refine yc rfl c5Q ⟨tt,tt⟩ (a1M x.a _) ?_;refine c2u ?_;exact U):=h U
def d4J (h:p:=by refine a1n ?_;exact ⟨_,B6 rfl b6Q,⟨(⟨(1+C7 l k 7),v,[]⟩,k+2),_,_,rfl,rfl,W1 rfl pu_,⟨(H7 (.inl hv)),c5U⟩,do_⟩⟩):=h
def c7H (h:q->p:=by intro U;refine cY e0m ?_;refine cD (x8 rfl c3I rfl p8 ?_);exact U):=h U
def c3j (h:q->p:=by intro U;refine cY b9s ?_;refine cD (x8 rfl b5Q rfl p8 ?_);exact U):=h U
def d5a (h:p:=by refine I0 ?_;exact ⟨_,j2 rfl tt c4,_,_,rfl,rfl,j7 (show true=decide (u∈l) from (a2d (hw ▸ n_0 hb)).symm)⟩):=h
def c82 (h:q->p:=by intro U;refine cY c1C ?_;refine cD (j6 rfl tt rfl rfl c4 t_2 (.inl rfl) rfl rfl (nb rfl) ?_);exact U):=h U
def d4a (h:p:=by refine W2 ?_;exact ⟨_,B6 rfl a48,⟨(a6t fl ⟨sp,s⟩,p4),a1x rfl P9 (.old (S3 _ _).old),(hm.mono om_).ins (hspa) do_,do_,do_⟩⟩):=h
def a6J (h:q->p:=by intro U;refine c9 ?_;refine a0M ?_;exact U):=h U
def a6Q (h:q->p:=by intro U;refine c9 ?_;refine a4P ?_;exact U):=h U
def a9F (h:q->p:=by intro U;refine c9 ?_;refine I0 ?_;exact U):=h U
def d0B (h:q->p:=by intro U;refine c5 [rbx T n1 a1 e1 ps b 1,p7 e1 b.length,.box (tk T n).cells] rfl ?_;refine c8 ?_;exact U):=h U
def c20 (h:q->p:=by intro U;refine T3 rfl rfl tt rfl c7V ?_;refine T3 rfl rfl tt rfl a2E ?_;exact U):=h U
def c19 (h:q->p:=by intro U;refine T3 rfl rfl tt rfl e0e ?_;refine T3 rfl rfl tt rfl d9L ?_;exact U):=h U
def c2C (h:q->p:=by intro U;refine T3 rfl rfl tt rfl d9V ?_;refine T3 rfl rfl tt rfl d9E ?_;exact U):=h U
def a4y (h:q->p:=by intro U;refine z_1 ?_;refine a1z ?_;exact U):=h U
def c74 (h:q->p:=by intro U;refine T3 rfl rfl tt rfl (fun hg=>a2T rfl hg hg rfl rfl (c9Z _ _)) ?_;refine hY a4t ?_;exact U):=h U
def a9P (h:Qz q->p:=by intro U;refine cY j1 ?_;refine cY a0v ?_;exact U tt):=h fun _=>U
def b3C (h:q->p:=by intro U;refine chf rfl d9w ?_;refine chf rfl d0d ?_;exact U):=h U
def c93 (h:q->p:=by intro U;refine cY d6y ?_;refine cD (j6 rfl tt tt rfl c4 a68 p8 rfl rfl (nb rfl) ?_);exact U):=h U
def c9O (h:q->p:=by intro U;refine d6f ?_;refine de rfl a4G o7 (L8 hT y2 hW [41] ⟨rfl,rfl,de_⟩) rfl ?_;exact U):=h U
def c8N (h:q->p:=by intro U;refine ye rfl c32 ⟨tt,tt⟩ (a3b hT hn ⟨rfl,rfl,de_⟩) rfl ?_;refine a62 ?_;exact U):=h U
def a6T (h:q->p:=by intro U;refine A5 ?_;refine D6 ?_;exact U):=h U
def c6Q (h:q->p:=by intro U;refine c5 [rbx T n x y ps b 1,p7 y b.length,.box (tk T n).cells] rfl ?_;refine c8 ?_;exact U):=h U
def d4n (h:Qz q->p:=by intro U;refine hY (r8 rfl tt tt rfl rfl b5c a3s om_ (j3 (d6N hn)) rfl) ?_;refine hY (a0m rfl tt rfl b8h a3s (nb rfl)) ?_;exact U tt):=h fun _=>U
def a7w (h:q->p:=by intro U;refine cG b1a ?_;refine a8t ?_;exact U):=h U
def a8j (h:q->p:=by intro U;refine cY a0K ?_;refine O1 ?_;exact U):=h U
def d4R (h:q->p:=by intro U;refine cY a4z ?_;refine de rfl b9c a7P (a2G _ _ de_ ⟨rfl,rfl,de_⟩) rfl ?_;exact U):=h U
def a98 (h:q->p:=by intro U;refine cY d7o ?_;refine cY j1 ?_;exact U):=h U
def c21 (h:p:=by refine A4 ?_;exact ⟨(k+2),_,rfl,tu_,rfl⟩):=h
def d0e (h:p:=by refine a9F ?_;exact ⟨_,j2 rfl tt c4,_,_,rfl,rfl,j7 q_5⟩):=h
def a4o (h:q->p:=by intro U;refine z_6 ?_;refine z_0 ?_;exact U):=h U
def d5y (h:Qz q->p:=by intro U;refine a5A rfl rfl (fun h=>h) rfl (fun hk hg=>a4a rfl tt c4) ?_;refine a5A rfl rfl (fun h=>h) rfl (fun hk hg=>b1v rfl ⟨hk,hg⟩ rfl rfl rfl d2V d2V) ?_;exact U tt):=h fun _=>U
def a8q (h:Qz q->p:=by intro U;refine a6G ?_;refine b78 ?_;exact U tt):=h fun _=>U
def c9c (h:p:=by refine z_7 ?_;exact ⟨_,j2 rfl tt c4,_,_,rfl,rfl,j7 rfl⟩):=h
def a6S (h:Qz q->p:=by intro U;refine W7 ?_;refine b1K ?_;exact U tt):=h fun _=>U
def c8k (h:q->p:=by intro U;refine a2z ?_;refine de rfl b9c a7P (a2G _ _ de_ ⟨rfl,rfl,de_⟩) rfl ?_;exact U):=h U
def c6w (h:q->p:=by intro U;refine c5 [rbx T n3 a3 e3 ps b3 3,.dead,.dead,p7 e3 b3.length] rfl ?_;refine z_1 ?_;exact U):=h U
def a6I (h:q->p:=by intro U;refine d3x ?_;refine Z0 ?_;exact U):=h U
def a7q (h:q->p:=by intro U;refine z_6 ?_;refine F5 ?_;exact U):=h U
def d5e (h:p:=by refine a3j ?_;exact ⟨_,j2 rfl tt c4,_,_,rfl,rfl,j7 (show (H5 x.a && decide (x.b=[]))=a0B x by simp_all [a0B])⟩):=h
def c7C (h:q->p:=by intro U;refine X0 ?_;refine de rfl b9c a7P (a2G _ _ de_ ⟨rfl,rfl,de_⟩) rfl ?_;exact U):=h U
def a7T (h:q->p:=by intro U;refine d7a ?_;refine b5a ?_;exact U):=h U
def c7v (h:q->p:=by intro U;refine z_5 ?_;refine cG T7 ?_;exact U):=h U
def d4k (h:p:=by refine a4m ?_;exact ⟨_,j9 (rs:=[.tmp 4,.tmp 5]) (cs:=[_,_]) rfl S6 (n_2 rfl),⟨(),rfl,rfl,tt⟩⟩):=h
def d4x (h:p:=by refine a4m ?_;exact ⟨_,j9 (rs:=[.tmp 4,.tmp 5]) (cs:=[_,_]) rfl S6 (n_2 rfl),_,_,rfl,rfl,d4q⟩):=h
def d4X (h:p:=by refine a3P ?_;exact ⟨_,j9 (rs:=[.tmp 4,.tmp 5]) (cs:=[_,_]) rfl S6 (n_2 rfl),_,_,rfl,rfl,d4q⟩):=h
def d4L (h:p:=by refine z_7 ?_;exact ⟨_,j2 rfl tt c4,(by exact .inl ⟨(i6,n+1,b6),Y8 rfl rfl (nb rfl) (.val _),hsp,do_,hn1,y6⟩)⟩):=h
def d0h (h:p:=by refine yc rfl c34 ⟨tt,tt⟩ (a1K x.name _) ?_;exact b9K):=h
def a6K (h:q->p:=by intro U;refine a4P ?_;refine d1L ?_;exact U):=h U
def d5b (h:p:=by refine a3j ?_;exact ⟨_,j2 rfl tt c4,_,_,rfl,rfl,j7 (show (C8 x.a && C8 x.b)=a0B x by simp_all [a0B])⟩):=h
def d5R (h:Qz q->p:=by intro U;refine b1M rfl rfl (fun _=>c7 rfl V8) ?_;refine A6 rfl rfl rfl rfl (Z1 rfl tt rfl c0R trivial (by exact hclo om_ (p+2) om_) rfl ?_);exact U tt):=h fun _=>U
def a5L (h:q->p:=by intro U;refine z_8 ?_;refine z_2 ?_;exact U):=h U
def b0M (h:q->p:=by intro U;refine cY b2G ?_;refine cY a0H ?_;exact U):=h U
def b2T (h:Qz q->p:=by intro U;refine cY d5h ?_;refine cY b0K ?_;exact U tt):=h fun _=>U
def b2L (h:Qz q->p:=by intro U;refine cY a2j ?_;refine cY V8 ?_;exact U tt):=h fun _=>U
def d3t (h:Qz q->p:=by intro U;refine ⟨⟨X8,E8,E8,tt⟩,?_⟩;refine A6 rfl rfl rfl rfl (C1 rfl Tryz.call68 i7 (b35 l nn (k+3) om_ hl v hv8 _ 0 rfl) rfl ?_);exact U tt):=h fun _=>U
def a9t (h:q->p:=by intro U;refine cY Q1 ?_;refine O0 ?_;exact U):=h U
def a9G (h:q->p:=by intro U;refine hY Q1 ?_;refine a4L ?_;exact U):=h U
def d4H (h:p:=by refine z_7 ?_;exact ⟨_,j2 rfl tt c4,_,_,rfl,rfl,(by exact c5h (l:=l++Y6 s.length++s) (k:=2) rfl)⟩):=h
def a6W (h:q->p:=by intro U;refine z_0 ?_;refine c5u ?_;exact U):=h U
def a9K (h:Qz q->p:=by intro U;refine d4e ?_;refine b9Z ?_;exact U tt):=h fun _=>U
def c6B (h:q->p:=by intro U;refine c2T ?_;refine a88 ?_;exact U):=h U
def d5Z (h:Qz q->p:=by intro U;refine yc rfl Tryz.call84 trivial (a5I _) ?_;refine de rfl a2n i7 (F3 l nn (k+2) _ 0 rfl om_ hl X4 de_ de_) rfl ?_;exact U tt):=h fun _=>U
def c1L (h:p:=by refine c9 ?_;exact ⟨_,tt,⟨⟨tt,rfl⟩,⟨tt,rfl⟩,⟨tt,rfl⟩,⟨tt,rfl⟩,tt⟩,rfl⟩):=h
def d6b (h:p:=by refine a7z ?_;exact ⟨(s,hds,p6,n - 1),[0,1,2],⟨do_,do_,do_,do_,do_,do_,do_⟩,⟨rfl,rfl⟩,ut_,uq_⟩):=h
def c9l (h:q->p:=by intro U;refine cG d8Q ?_;refine cG (fun hg=>o5 rfl hg rfl b51 rfl rfl) ?_;exact U):=h U
def d4U (h:p:=by refine a4m ?_;exact ⟨_,j9 (rs:=[.tmp 8,.tmp 9]) (cs:=[_,_]) rfl S6 (n_2 rfl),e0b⟩):=h
def a9O (h:q->p:=by intro U;refine A4 ?_;refine a0Y ?_;exact U):=h U
def a9p (h:q->p:=by intro U;refine c9 ?_;refine X0 ?_;exact U):=h U
def d3E (h:p:=by refine a3P ?_;exact ⟨_,j9 (rs:=[.tmp 6,.tmp 7]) (cs:=[_,_]) rfl S6 (n_2 rfl),e0D⟩):=h
def d6g (h:p:=by refine a3P ?_;exact ⟨_,j9 (rs:=[.tmp 6,.tmp 7]) (cs:=[_,_]) rfl S6 (n_2 rfl),e0K⟩):=h
def d3o (h:p:=by refine a3P ?_;exact ⟨_,j9 (rs:=[.tmp 8,.tmp 9]) (cs:=[_,_]) rfl S6 (n_2 rfl),e0I⟩):=h
def d4V (h:p:=by refine a3P ?_;exact ⟨_,j9 (rs:=[.tmp 8,.tmp 9]) (cs:=[_,_]) rfl S6 (n_2 rfl),e0b⟩):=h
def d4Y (h:q->p:=by intro U;refine a5A rfl rfl (fun h=>h) rfl (fun hk hg=>a2T rfl ⟨hk,hg⟩ ⟨hk,hg⟩ rfl rfl (b7n _ _)) ?_;refine T3 rfl rfl tt rfl c2A ?_;exact U):=h U
def d4u (h:q->p:=by intro U;refine ⟨⟨E8,a2k,b3n,(by exact c7 rfl b7i),b1k,tt⟩,?_⟩;refine D9 rfl rfl rfl e0A ⟨⟨E8,a2k,b3n,tt⟩,?_⟩;exact U):=h U
def d5H (h:p:=by refine c8 ?_;exact ⟨_,j9 (rs:=[]) (cs:=[]) rfl tt (n_2 rfl),⟨(),rfl,rfl,tt⟩⟩):=h
def c8K (h:p:=by refine a9B ?_;exact ⟨(i+1),_,⟨om_,om_⟩,tu_,rfl⟩):=h
def c6x (h:p:=by refine a2l ?_;exact ⟨(j+1),_,⟨om_,om_⟩,tu_,rfl⟩):=h
def d4g (h:Qz q->p:=by intro U;refine yc rfl b9q trivial (a14 _) ?_;refine de rfl a2n i7 (F3 l nn (k+2) _ 0 rfl om_ hl a0P de_ de_) rfl ?_;exact U tt):=h fun _=>U
def d6E (h:q->p:=by intro U;refine D9 rfl rfl rfl c3r ⟨tt,?_⟩;refine A6 rfl rfl rfl rfl (j6 rfl tt tt rfl c4 b7m (.inl rfl) rfl rfl (nb rfl) ?_);exact U):=h U
def d6F (h:q->p:=by intro U;refine D9 rfl rfl rfl d5D ⟨tt,?_⟩;refine A6 rfl rfl rfl rfl (j6 rfl tt tt rfl c4 b6R (.inl rfl) rfl rfl (nb rfl) ?_);exact U):=h U
def d5P (h:p:=by refine c8 ?_;exact ⟨_,j9 (rs:=[]) (cs:=[]) rfl tt (n_2 rfl),⟨d2,e0r,tt⟩⟩):=h
def a95 (h:q->p:=by intro U;refine c9 ?_;refine z_5 ?_;exact U):=h U
def a9m (h:Qz q->p:=by intro U;refine a9T ?_;refine a7z ?_;exact U tt):=h fun _=>U
def a9A (h:q->p:=by intro U;refine a88 ?_;refine c8 ?_;exact U):=h U
def d5d (h:Qz q->p:=by intro U;refine F9 ?_;refine A6 rfl rfl rfl rfl (C1 rfl a2n i7 (F3 l nn (k+2) _ 0 rfl om_ hl R3 de_ de_) rfl ?_);exact U tt):=h fun _=>U
def b07 (h:q->p:=by intro U;refine b3s ?_;refine cY b1P ?_;exact U):=h U
def b1c (h:q->p:=by intro U;refine b04 ?_;refine cY a9Z ?_;exact U):=h U
def b4Y (h:p:=by refine cG b2t ?_;refine cY a4t ?_;refine z_7 ?_;exact ⟨_,j2 rfl tt c4,_,_,rfl,rfl,j7 (show (C8 x.a && decide (x.b=[]))=a0B x by simp_all [a0B])⟩):=h
def a74 (h:Qz q->p:=by intro U;refine z_4 ?_;refine b78 ?_;exact U tt):=h fun _=>U
def d0Y (h:q->p:=by intro U;refine ⟨⟨E8,tt⟩,?_⟩;refine D9 rfl rfl rfl b63 ⟨tt,?_⟩;exact U):=h U
def c2n (h:q->p:=by intro U;refine z_0 ?_;refine a8S ?_;exact U):=h U
def c8R (h:q->p:=by intro U;refine a8S ?_;refine yc rfl Tryz.call270 ⟨tt,tt⟩ (c0q x.k _) ?_;exact U):=h U
def b1D (h:q->p:=by intro U;refine cY X5 ?_;refine O1 ?_;exact U):=h U
def b2P (h:q->p:=by intro U;refine cG a6C ?_;refine a8t ?_;exact U):=h U
def b4u (h:p:=by refine c9 ?_;refine I0 ?_;exact ⟨_,j2 rfl tt c4,_,_,rfl,rfl,j7 (show false=a0B x by simp_all [a0B])⟩):=h
def b2i (h:q->p:=by intro U;refine z_1 ?_;refine A5 ?_;exact U):=h U
def c3n (h:q->p:=by intro U;refine hY j1 ?_;refine T3 rfl rfl tt rfl T7 ?_;exact U):=h U
def d3I (h:Qz q->p:=by intro U;refine b7R ?_;refine S5 ?_;exact U tt):=h fun _=>U
def a9Y (h:q->p:=by intro U;refine b4x ?_;refine d1L ?_;exact U):=h U
def b17 (h:q->p:=by intro U;refine a6p ?_;refine cY j1 ?_;exact U):=h U
def b38 (h:q->p:=by intro U;refine cY X5 ?_;refine cY j1 ?_;exact U):=h U
def b3S (h:q->p:=by intro U;refine cY a4i ?_;refine cY j1 ?_;exact U):=h U
def b4h (h:q->p:=by intro U;refine hY b7i ?_;refine hY a0H ?_;exact U):=h U
def b3D (h:q->p:=by intro U;refine hY a8B ?_;refine hY a90 ?_;exact U):=h U
def d3w (h:Qz q->p:=by intro U;refine d5S ?_;refine D9 rfl rfl rfl (c7 rfl (j8 rfl c0D i7 (a0Q fl _ ⟨sp,s⟩ om_ _) rfl)) ⟨tt,?_⟩;exact U tt):=h fun _=>U
def d5J (h:q->p:=by intro U;refine cD (x8 rfl c8a rfl p8 ?_);refine cD (j6 rfl tt tt rfl c4 c8s p8 rfl rfl (nb rfl) ?_);exact U):=h U
def d5C (h:Qz q->p:=by intro U;refine d5S ?_;refine D9 rfl rfl rfl (c7 rfl (j8 rfl c0D i7 (a0Q fl _ ⟨y,s⟩ om_ _) rfl)) ⟨tt,?_⟩;exact U tt):=h fun _=>U
def d3p (h:p:=by refine cG (fun hg=>j8 rfl c4K ⟨hg,tt⟩ (a1I x.name om_ _) rfl) ?_;exact d4P):=h
def d6x (h:q->p:=by intro U;refine cD (x8 rfl b3l rfl p8 ?_);refine cD (j6 rfl tt tt rfl c4 c41 p8 rfl rfl (nb rfl) ?_);exact U):=h U
def d5Y (h:q->p:=by intro U;refine cD (x8 rfl c3X rfl p8 ?_);refine cD (j6 rfl tt tt rfl c4 b0i p8 rfl rfl (nb rfl) ?_);exact U):=h U
def b13 (h:q->p:=by intro U;refine z_1 ?_;refine F5 ?_;exact U):=h U
def a7L (h:q->p:=by intro U;refine z_1 ?_;refine z_5 ?_;exact U):=h U
def d3B (h:p:=by refine a9K ?_;exact ⟨_,j9 (rs:=[]) (cs:=[]) rfl tt (n_2 rfl),e0o⟩):=h
def a9S (h:q->p:=by intro U;refine z_2 ?_;refine z_7 ?_;exact U):=h U
def c7k (h:q->p:=by intro U;refine cY d8D ?_;refine cY (o5 rfl tt rfl c8O rfl rfl) ?_;exact U):=h U
def b7Y (h:q->p:=by intro U;refine cY c06 ?_;refine cY j1 ?_;exact U):=h U
def d5T (h:q->p:=by intro U;refine cY (a56 rfl tt rfl a7l rfl b6R de_) ?_;refine cY (T0 rfl tt rfl b8S rfl) ?_;exact U):=h U
def c7G (h:q->p:=by intro U;refine cY d4y ?_;refine cD (x8 rfl a5h rfl p8 ?_);exact U):=h U
def d6r (h:q->p:=by intro U;refine A6 rfl rfl rfl rfl (j6 rfl tt tt rfl c4 c41 p8 rfl rfl (nb rfl) ?_);refine ⟨⟨a9I,tt⟩,?_⟩;exact U):=h U
def d6D (h:q->p:=by intro U;refine hY (j4 rfl tt rfl c9q rfl b6R de_) ?_;refine hY (o5 rfl tt rfl b8S hk rfl) ?_;exact U):=h U
def d4b (h:p:=by refine I0 ?_;exact ⟨_,j2 rfl tt c4,_,_,rfl,rfl,G4 (by rw [B7,if_pos hlen])⟩):=h
def c6X (h:q->p:=by intro U;refine T3 rfl rfl tt rfl d8S ?_;refine T3 rfl rfl tt rfl b4L ?_;exact U):=h U
def d6G (h:q->p:=by intro U;refine cF [] [] [0,1,2,4,5,3,6,7,8,9] 5 [[0,1,2,3,4],[0,1,2],[0,1,2],[0,1,2],[]] trivial ?_;refine a6N ?_;exact U):=h U
def d4v (h:p:=by refine I0 ?_;exact ⟨_,j2 rfl tt c4,_,_,rfl,rfl,j7 (a1W hne).symm⟩):=h
def d5G (h:Qz q->p:=by intro U;refine cY (r8 rfl tt rfl rfl rfl t_4 t_2 om_ (j3 (L4 g1)) rfl) ?_;refine cY a1a ?_;exact U tt):=h fun _=>U
def c64 (h:q->p:=by intro U;refine cD (x8 rfl b02 rfl p8 ?_);refine cY Q1 ?_;refine cD (j6 rfl tt tt rfl c4 a68 p8 rfl rfl (nb rfl) ?_);exact U):=h U
def d4c (h:p:=by refine I0 ?_;exact ⟨_,j2 rfl tt c4,_,_,rfl,rfl,G4 (by rw [a3m,if_pos u1])⟩):=h
def d4I (h:Qz q->p:=by intro U;refine cY (r8 rfl tt tt rfl rfl t_4 t_2 om_ (j3 (L4 gm)) rfl) ?_;refine cY a1a ?_;exact U tt):=h fun _=>U
def b3O (h:q->p:=by intro U;refine cY c53 ?_;refine c8 ?_;exact U):=h U
def b1R (h:q->p:=by intro U;refine c0w ?_;refine W2 ?_;exact U):=h U
def c2R (h:Qz q->p:=by intro U;refine d4Q ?_;refine T3 rfl rfl tt rfl e0G ?_;exact U tt):=h fun _=>U
def b2e (h:q->p:=by intro U;refine c7v ?_;refine c6B ?_;exact U):=h U
def a9y (h:q->p:=by intro U;refine z_6 ?_;refine a0Y ?_;exact U):=h U
def c8x (h:q->p:=by intro U;refine cD (x8 rfl c3X rfl p8 ?_);refine S5 ?_;refine cD (x8 rfl c3X rfl p8 ?_);exact U):=h U
def a9X (h:Qz q->p:=by intro U;refine a8y ?_;refine z_1 ?_;exact U tt):=h fun _=>U
def d3s (h:Qz q->p:=by intro U;refine cY j1 ?_;refine cY (r8 rfl tt tt rfl rfl b22 a80 om_ (j3 hAt.node) rfl) ?_;exact U tt):=h fun _=>U
def d3U (h:q->p:=by intro U;refine A5 ?_;refine cF [] [] [0,1,2,3,4,5,6,7,8,9,10,11] 9 [[0,1,2,3,4,5,6,7,8],[8],[]] trivial ?_;exact U):=h U
def b3T (h:q->p:=by intro U;refine cG a2E ?_;refine b9I ?_;exact U):=h U
def b4P (h:q->p:=by intro U;refine cY c8w ?_;refine cY d6C ?_;refine cY d8X ?_;exact U):=h U
def b4p (h:q->p:=by intro U;refine hY j1 ?_;refine b67 ?_;exact U):=h U
def c7l (h:p:=by refine c9 ?_;exact ⟨(),_,tt,e0y,rfl⟩):=h
def b2a (h:q->p:=by intro U;refine c8 ?_;refine z_5 ?_;exact U):=h U
def d6d (h:p:=by refine z_7 ?_;exact ⟨_,j2 rfl tt c4,⟨v,rfl,rfl,n_0 hv⟩⟩):=h
def b1y (h:q->p:=by intro U;refine c8 ?_;refine z_4 ?_;exact U):=h U
def d4f (h:q->p:=by intro U;refine A6 rfl rfl rfl rfl (j6 rfl tt tt rfl c4 b2W (.inl rfl) rfl rfl (nb rfl) ?_);refine a2C ?_;exact U):=h U
def d6a (h:Qz q->p:=by intro U;refine d3I ?_;refine a6n ?_;exact U tt):=h fun _=>U
def b1B (h:q->p:=by intro U;refine b0Y ?_;refine a88 ?_;exact U):=h U
def c6g (h:p:=by refine c9 ?_;exact ⟨(),_,tt,tu_,rfl⟩):=h
def d5U (h:q->p:=by intro U;refine A6 rfl rfl rfl rfl (j6 rfl tt tt rfl c4 c4p (.inl rfl) rfl rfl (nb rfl) ?_);refine a2C ?_;exact U):=h U
def d3T (h:Qz q->p:=by intro U;refine D9 rfl rfl rfl d6h ⟨⟨X8,E8,tt⟩,?_⟩;refine D9 rfl rfl rfl d2H ⟨⟨X8,tt⟩,?_⟩;exact U tt):=h fun _=>U
def a9l (h:q->p:=by intro U;refine z_9 ?_;refine z_2 ?_;exact U):=h U
def b4f (h:q->p:=by intro U;refine cY j1 ?_;refine d0L ?_;exact U):=h U
def b4r (h:q->p:=by intro U;refine b1C ?_;refine cY a5p ?_;exact U):=h U
def b3P (h:q->p:=by intro U;refine a5d ?_;refine hY c6e ?_;exact U):=h U
def c1V (h:q->p:=by intro U;refine chf rfl a9N ?_;refine chf rfl W9 ?_;exact U):=h U
def d6e (h:q->p:=by intro U;refine cG d6A ?_;refine cG (fun hg=>j8 rfl Tryz.call53 ⟨hg,tt⟩ (a4d ev en _) rfl) ?_;exact U):=h U
def b9D (h:q->p:=by intro U;refine r3 ?_;refine cY a4i ?_;exact U):=h U
def d6u (h:Qz q->p:=by intro U;refine cY (r8 rfl tt rfl rfl rfl t_1 t_0 om_ (j3 g0) rfl) ?_;refine cY U1 ?_;exact U tt):=h fun _=>U
def d4w (h:Qz q->p:=by intro U;refine cY (r8 rfl tt tt rfl rfl a7h a4J om_ (j3 hy) rfl) ?_;refine cY d5I ?_;exact U tt):=h fun _=>U
def d5g (h:Qz q->p:=by intro U;refine cY (r8 rfl tt tt rfl rfl t_4 t_2 om_ (j3 hg) rfl) ?_;refine cY a1a ?_;exact U tt):=h fun _=>U
def d3Q (h:Qz q->p:=by intro U;refine cY (r8 rfl tt tt rfl rfl t_1 t_0 om_ (j3 hs) rfl) ?_;refine cY U1 ?_;exact U tt):=h fun _=>U
def b1h (h:q->p:=by intro U;refine a88 ?_;refine a8T ?_;exact U):=h U
def b2R (h:q->p:=by intro U;refine b25 ?_;refine a2Q ?_;exact U):=h U
def b18 (h:q->p:=by intro U;refine a4W ?_;refine a0Y ?_;exact U):=h U
def b0Z (h:q->p:=by intro U;refine b42 ?_;refine z_5 ?_;exact U):=h U
def d6j (h:q->p:=by intro U;refine b7Y ?_;refine de rfl a4I C0 (M3 hb ⟨10,x2,0,[],[]⟩ _ ⟨rfl,rfl,de_⟩) rfl ?_;exact U):=h U
def c6K (h:Qz q->p:=by intro U;refine ⟨tt,?_⟩;refine D9 rfl rfl rfl d6h ⟨tt,?_⟩;exact U tt):=h fun _=>U
def d3X (h:q->p:=by intro U;refine cY a4z ?_;refine de rfl b9c a7P (a2G _ _ de_ (q:=2) (s:=0) ⟨rfl,rfl,de_⟩) rfl ?_;exact U):=h U
def d4m (h:q->p:=by intro U;refine a6s ?_;refine d8u ?_;exact U):=h U
def d4D (h:q->p:=by intro U;refine A6 rfl rfl rfl rfl (j6 rfl tt tt rfl c4 b6g p8 rfl rfl (nb rfl) ?_);refine a2C ?_;exact U):=h U
def d4Z (h:p:=by refine a2l ?_;exact ⟨(i+1),_,⟨om_,om_,c5F hb hd hw⟩,tu_,rfl⟩):=h
def b8j (h:q->p:=by intro U;refine cG b1a ?_;refine cG a9U ?_;exact U):=h U
def b8k (h:q->p:=by intro U;refine cY d4M ?_;refine cY a0H ?_;exact U):=h U
def b9k (h:q->p:=by intro U;refine cY j1 ?_;refine cY a5P ?_;exact U):=h U
def b6y (h:q->p:=by intro U;refine cY a4i ?_;refine cY a5B ?_;exact U):=h U
def b7a (h:q->p:=by intro U;refine hY j1 ?_;refine hY S7 ?_;exact U):=h U
def d6B (h:p:=by refine a2l ?_;exact ⟨(i+1),_,⟨om_,om_,b7X hb hd hw⟩,tu_,rfl⟩):=h
def b9B (h:q->p:=by intro U;refine cG d4z ?_;refine cG d9g ?_;exact U):=h U
def d5v (h:q->p:=by intro U;refine cF [] [] [0,1,2,3,4,5,6,7,8,9] 5 [[0,1],[0,1],[],[],[]] trivial ?_;refine chf rfl d5D ?_;exact U):=h U
def b6q (h:q->p:=by intro U;refine cG d8P ?_;refine cG b4L ?_;exact U):=h U
def d5K (h:Qz q->p:=by intro U;refine P8 ?_;refine de rfl a2n i7 (F3 l nn (p+1) _ 0 rfl om_ hl a0P de_ de_) rfl ?_;exact U tt):=h fun _=>U
def b3V (h:q->p:=by intro U;refine z_0 ?_;refine cY a75 ?_;exact U):=h U
def b6z (h:q->p:=by intro U;refine hY d6v ?_;refine hY V7 ?_;exact U):=h U
def b8l (h:q->p:=by intro U;refine cY d5E ?_;refine cY d9H ?_;exact U):=h U
def b6u (h:q->p:=by intro U;refine cY K2 ?_;refine cY c6e ?_;exact U):=h U
def b6I (h:Qz q->p:=by intro U;refine cY c9I ?_;refine cY U1 ?_;exact U tt):=h fun _=>U
def c83 (h:p:=by refine z_1 ?_;exact ⟨(),_,tt,tu_,rfl⟩):=h
def d5c (h:p:=by refine a9S ?_;exact ⟨_,j2 rfl tt c4,_,_,rfl,rfl,G4 hr.symm⟩):=h
def d5l (h:p:=by refine I0 ?_;exact ⟨_,j2 rfl tt c4,_,_,rfl,rfl,j7 hr.symm⟩):=h
def d5L (h:q->p:=by intro U;refine cY a5B ?_;refine ye rfl Tryz.call305 ⟨tt,tt⟩ (b1r ⟨k,u,o,nm,o0 ch s⟩ _) rfl ?_;exact U):=h U
def d5u (h:p:=by refine a1w ?_;exact ⟨_,j2 rfl tt c4,_,_,rfl,rfl,j7 d4S⟩):=h
def d4N (h:p:=by refine a9B ?_;exact ⟨(i+1,e),_,⟨do_,do_,hr,h0,do_⟩,tu_,rfl⟩):=h
def d6s (h:p:=by refine a1w ?_;exact ⟨_,j2 rfl tt c4,_,_,rfl,rfl,G4 d4S⟩):=h
def b1w (h:q->p:=by intro U;refine z_1 ?_;refine a2Q ?_;exact U):=h U
def d4W (h:q->p:=by intro U;refine a1Q ?_;refine ye rfl c7b ⟨tt,rfl,tt,tt⟩ (b6C hT hn 4 u ⟨rfl,rfl,de_⟩) rfl ?_;exact U):=h U
def b0X (h:q->p:=by intro U;refine a3J ?_;refine z_2 ?_;exact U):=h U
def d4r (h:p:=by refine a3j ?_;exact ⟨_,j2 rfl tt c4,_,_,rfl,rfl,j7 rfl⟩):=h
def c8o (h:Qz q->p:=by intro U;refine cY (I1 rfl rfl tt rfl rfl Q9) ?_;refine z_7 ?_;exact U tt):=h fun _=>U
def d6i (h:q->p:=by intro U;refine d3r ?_;refine a9H ?_;exact U):=h U
def b4y (h:Qz q->p:=by intro U;refine d6a ?_;refine b8Y ?_;exact U tt):=h fun _=>U
def d3u (h:q->p:=by intro U;refine cY S7 ?_;refine de rfl c3J i7 (b0D hT y1 hW true hc.l ⟨rfl,rfl,de_⟩) rfl ?_;exact U):=h U
def d3y (h:Qz q->p:=by intro U;refine z_2 ?_;refine cD (Z1 rfl tt rfl c0R trivial (by exact hclo om_ (p+1) om_) rfl ?_);exact U tt):=h fun _=>U
def b3N (h:q->p:=by intro U;refine c2n ?_;refine d4m ?_;exact U):=h U
def d5N (h:q->p:=by intro U;refine cD (d2v rfl tt rfl rfl t_1 t_0 t_3 rfl ?_);refine b2i ?_;exact U):=h U
def d3M (h:q->p:=by intro U;refine cD (x8 rfl c3X rfl p8 ?_);refine cD (x8 rfl c2N rfl p8 ?_);exact U):=h U
def b7N (h:q->p:=by intro U;refine hY Q1 ?_;refine P8 ?_;exact U):=h U
def d4t (h:q->p:=by intro U;refine cY d5w ?_;refine cD (j6 rfl tt tt rfl c4 b2W (.inl rfl) rfl rfl (nb rfl) ?_);exact U):=h U
def b3F (h:q->p:=by intro U;refine d3r ?_;refine a7N ?_;exact U):=h U
def b4Z (h:q->p:=by intro U;refine cW 10 ?_;refine a5d ?_;exact U):=h U
def b41 (h:q->p:=by intro U;refine z_6 ?_;refine A5 ?_;exact U):=h U
def b4J (h:q->p:=by intro U;refine T5 ?_;refine a6Z ?_;exact U):=h U
def d6z (h:q->p:=by intro U;refine ⟨⟨d5p,d3Y,tt⟩,?_⟩;refine D9 rfl rfl rfl e0v ⟨⟨d5p,d3Y,tt⟩,?_⟩;exact U):=h U
def b4K (h:Qz q->p:=by intro U;refine cY b4X ?_;refine d3S ?_;refine cY b4X ?_;refine b9Z ?_;exact U tt):=h fun _=>U
def d3H (h:q->p:=by intro U;refine a7W ?_;refine a4Q ?_;exact U):=h U
def d6k (h:q->p:=by intro U;refine ⟨⟨d5x,d3N,tt⟩,?_⟩;refine D9 rfl rfl rfl e0F ⟨⟨d5x,d3N,tt⟩,?_⟩;exact U):=h U
def b9j (h:p:=by refine z_3 ?_;refine W2 ?_;exact ⟨_,j9 (rs:=[.cell 4 231,.tmp 5,.tmp 6]) (cs:=[_,_,_]) rfl b0R (n_2 rfl),q_6⟩):=h
def d5i (h:q->p:=by intro U;refine cY b4j ?_;refine cD (j6 rfl tt tt rfl c4 t_2 (.inl rfl) hk rfl (nb rfl) ?_);exact U):=h U
def d5z (h:q->p:=by intro U;refine cD (j6 rfl tt tt rfl c4 c4p (.inl rfl) rfl rfl (nb rfl) ?_);refine c8 ?_;exact U):=h U
def d4G (h:q->p:=by intro U;refine F9 ?_;refine A6 rfl rfl rfl rfl (C1 rfl Tryz.call307 trivial (b7F _) rfl ?_);exact U):=h U
def d3O (h:p:=by refine yc rfl Tryz.call233 i7 (b1b s c _) ?_;exact c3d):=h
def d3A (h:q->p:=by intro U;refine d2u Tryz.func154 rfl rfl rfl rfl rfl rfl rfl rfl rfl rfl de_ de_ rfl rfl ?_;refine z_2 ?_;exact U):=h U
def d3q (h:q->p:=by intro U;refine ye rfl a7k ⟨tt,tt⟩ (Y9 hT y1 ⟨rfl,rfl,de_⟩) rfl ?_;refine cY a4z ?_;exact U):=h U
def d3Z (h:q->p:=by intro U;refine c5 [rbx T n3 a6 e6 ps b6 4,.dead,.dead,.dead,p7 e6 b6.length] rfl ?_;refine z_7 ?_;exact U):=h U
def d6o (h:q->p:=by intro U;refine cD (j6 rfl tt tt rfl c4 t_0 (.inl rfl) rfl rfl (nb rfl) ?_);refine c8 ?_;exact U):=h U
def b8G (h:q->p:=by intro U;refine hY a1a ?_;refine a8w ?_;exact U):=h U
def b9J (h:Qz q->p:=by intro U;refine cY a2j ?_;refine a1j ?_;exact U tt):=h fun _=>U
def d5m (h:Qz q->p:=by intro U;refine hY a4j ?_;refine hY (M9 rfl tt rfl a2Y rfl (d8Z (j3 hv2) om_) rfl) ?_;exact U tt):=h fun _=>U
def d3D (h:q->p:=by intro U;refine cY Q1 ?_;refine cD (j6 rfl tt tt rfl c4 b6M p8 rfl rfl (nb rfl) ?_);exact U):=h U
def d3R (h:q->p:=by intro U;refine c5 [rbx T n1 a1 e1 ps b 1,p7 e1 b.length,.box (tk T n).cells] rfl ?_;refine L7 ?_;exact U):=h U
def d5A (h:q->p:=by intro U;refine cY b4C ?_;refine cD (j6 rfl tt tt rfl c4 b73 p8 rfl rfl (nb rfl) ?_);exact U):=h U
def d3J (h:p:=by refine c9 ?_;exact ⟨(x.k == 1),_,(by simp_all),tu_,rfl⟩):=h
def d5t (h:p:=by refine c9 ?_;exact ⟨(x.k == 3),_,(by simp_all),tu_,rfl⟩):=h
def d5f (h:q->p:=by intro U;refine cY a75 ?_;refine cD (j6 rfl tt tt rfl c4 a2R p8 rfl rfl (nb rfl) ?_);exact U):=h U
def d4h (h:q->p:=by intro U;refine cY Q1 ?_;refine cD (j6 rfl tt tt rfl c4 a41 p8 rfl rfl (nb rfl) ?_);exact U):=h U
def d4d (h:q->p:=by intro U;refine cY e0w ?_;refine cD (j6 rfl tt tt rfl c4 c8s p8 rfl rfl (nb rfl) ?_);exact U):=h U
def d4T (h:q->p:=by intro U;refine ye rfl a7k ⟨tt,tt⟩ (Y9 hT hm9 ⟨rfl,rfl,de_⟩) rfl ?_;refine d4R ?_;exact U):=h U
def c2w (h:p:=by refine c9 ?_;exact b9V):=h
def d5j (h:q->p:=by intro U;refine cY Q1 ?_;refine cD (j6 rfl tt tt rfl c4 a2R p8 rfl rfl (nb rfl) ?_);exact U):=h U
def c7g (h:q->p:=by intro U;refine a8l ?_;refine cD (a5v rfl tt c4 p8 ?_);exact U):=h U
def d4p (h:q->p:=by intro U;refine cY a9Z ?_;refine cD (j6 rfl tt tt rfl c4 b6g p8 rfl rfl (nb rfl) ?_);exact U):=h U
def b43 (h:q->p:=by intro U;refine z_1 ?_;refine a4A ?_;exact U):=h U
def b3Q (h:q->p:=by intro U;refine d7e ?_;refine S5 ?_;refine d7z ?_;exact U):=h U
def d5s (h:q->p:=by intro U;refine P8 ?_;refine cD (j6 rfl tt tt rfl c4 a3s p8 rfl rfl (nb rfl) ?_);exact U):=h U
def d4C (h:q->p:=by intro U;refine z_4 ?_;refine ye rfl c32 ⟨tt,tt⟩ (a3b hT hn ⟨rfl,rfl,de_⟩) rfl ?_;exact U):=h U
def d4E (h:q->p:=by intro U;refine cD (j6 rfl tt tt rfl c4 a3s p8 rfl rfl (nb rfl) ?_);refine c8 ?_;exact U):=h U
def b4b (h:q->p:=by intro U;refine a88 ?_;refine a3q ?_;exact U):=h U
def d3F (h:q->p:=by intro U;refine cY e0z ?_;refine cD (j6 rfl tt tt rfl c4 a2R p8 rfl rfl (nb rfl) ?_);exact U):=h U
def d5o (h:q->p:=by intro U;refine cY (a56 rfl tt rfl a7l rfl t_2 de_) ?_;refine cY a1a ?_;exact U):=h U
def d5W (h:q->p:=by intro U;refine cY (j4 rfl tt rfl c0t rfl b2W de_) ?_;refine cY a6B ?_;exact U):=h U
def b31 (h:q->p:=by intro U;refine z_0 ?_;refine c1Z ?_;exact U):=h U
def d3L (h:p:=by refine a1o ?_;exact ⟨(x.k == 2),_,(by simp_all),tu_,rfl⟩):=h
def d6n (h:p:=by refine a1o ?_;exact ⟨(x.k == 4),_,(by simp_all),tu_,rfl⟩):=h
def b65 (h:q->p:=by intro U;refine cY j1 ?_;refine a7N ?_;exact U):=h U
def d6p (h:q->p:=by intro U;refine cF [] [] [0,1,2,3,4,5,6,7,8,9,10] 7 [[0],[],[],[]] trivial ?_;refine a60 ?_;exact U):=h U
def b9h (h:q->p:=by intro U;refine cY c5T ?_;refine d7Y ?_;exact U):=h U
def d5B (h:q->p:=by intro U;refine c7H ?_;refine cD (j6 rfl tt tt rfl c4 b6M p8 rfl rfl (nb rfl) ?_);exact U):=h U
def b6A (h:q->p:=by intro U;refine d3H ?_;refine cY e0H ?_;exact U):=h U
def b9F (h:q->p:=by intro U;refine cG a6C ?_;refine a4M ?_;exact U):=h U
def b6X (h:Qz q->p:=by intro U;refine d6i ?_;refine cG d1C ?_;exact U tt):=h fun _=>U
def b7Q (h:q->p:=by intro U;refine d9S ?_;refine cY d6t ?_;exact U):=h U
def b9d (h:q->p:=by intro U;refine b0t ?_;refine cY d9B ?_;exact U):=h U
def d5F (h:p:=by refine a8t ?_;exact ⟨(_,p5+1),⟨do_,do_⟩,⟨⟨tt,rfl⟩,⟨tt,rfl⟩,⟨tt,rfl⟩,⟨tt,rfl⟩,⟨tt,rfl⟩,⟨tt,rfl⟩,⟨tt,rfl⟩,tt⟩,rfl⟩):=h
def c90 (h:q->p:=by intro U;refine T3 rfl rfl tt rfl b1a ?_;refine hY a1f ?_;exact U):=h U
def b6E (h:q->p:=by intro U;refine cY b4C ?_;refine c5u ?_;exact U):=h U
def d6m (h:q->p:=by intro U;refine cY (j4 rfl tt rfl c4q rfl t_2 de_) ?_;refine cY a0H ?_;exact U):=h U
def d5r (h:p:=by refine a8q ?_;exact ⟨(k+1),_,⟨om_,om_⟩,tu_,rfl⟩):=h
end Go
