/- Names for closed terms that are often repeated. -/
import Derived.WalkKit
import Derived.Test.YtlppbmfecjabeaaGreatDoorProg
set_option linter.all false
namespace Go
open Go.Proofs.Tryz
abbrev t_0:=@sizeOf9
abbrev t_1:=@sizeOf3
abbrev t_2:=@runUnderlying26
abbrev t_3:=@zeroValue9
abbrev t_4:=@runUnderlying22
abbrev t_5:=@sizeOf39
abbrev t_6:=@runUnderlying36
abbrev t_7:=@runUnderlying9
abbrev t_8:=@zeroValue3
abbrev t_9:=@isAgg9
abbrev X7:=@runUnderlying149
abbrev Z1:=@zeroValue39
abbrev a1w:=@sizeOf5
abbrev a2g:=@runUnderlying205
abbrev a2j:=@sizeOf26
abbrev a2l:=@isAgg3
abbrev a2R:=@zeroValue231
abbrev a2J:=@call200
abbrev a3l:=@call19
abbrev a3w:=@sizeOf67
abbrev a32:=@typeInfo9
abbrev a3C:=@sizeOf231
abbrev a3V:=@zeroValue67
abbrev a4a:=@sizeOf54
abbrev a4d:=@zeroValue5
abbrev a4s:=@call272
abbrev a4w:=@call185
abbrev a47:=@call195
abbrev a4O:=@sizeOf119
abbrev a5t:=@typeInfo39
abbrev a6b:=@call193
abbrev a6h:=@zeroValue54
abbrev a61:=@call20
abbrev a6A:=@runUnderlying67
abbrev a6N:=@runUnderlying212
abbrev a7H:=@call183
abbrev a7m:=@runUnderlying30
abbrev a8O:=@sizeOf212
abbrev a8p:=@call230
abbrev a8q:=@runUnderlying231
abbrev a9K:=@zeroValue119
abbrev a9Y:=@zeroValue59
abbrev a91:=@call181
abbrev b2b:=@sizeOf117
abbrev b1G:=@call279
abbrev b0s:=@runUnderlying119
abbrev b0S:=@runUnderlying65
abbrev b1F:=@isAgg39
abbrev b0W:=@call182
abbrev b1j:=@typeInfo5
abbrev b1u:=@sizeOf32
abbrev b2z:=@runUnderlying5
abbrev b21:=@runUnderlying117
abbrev b2y:=@call12
abbrev b2v:=@call284
abbrev b5N:=@runUnderlying191
abbrev b5b:=@zeroValue212
abbrev b5W:=@sizeOf305
abbrev b5H:=@call226
abbrev b5O:=@sizeOf59
abbrev b5f:=@sizeOf25
abbrev b8E:=@sizeOf22
abbrev b6J:=@isAgg67
abbrev b8U:=@runUnderlying228
abbrev b8d:=@call232
abbrev b9z:=@call163
abbrev b9f:=@isAgg26
abbrev b8P:=@runUnderlying113
abbrev b6Z:=@runUnderlying54
abbrev c0N:=@runUnderlying39
abbrev c0C:=@call241
abbrev b95:=@typeInfo3
abbrev c04:=@sizeOf40
abbrev c1u:=@isAgg40
abbrev c0h:=@runUnderlying112
abbrev c1E:=@zeroValue36
abbrev c1p:=@runUnderlying302
abbrev c1l:=@call67
abbrev c5j:=@call74
abbrev c6a:=@call118
abbrev c4L:=@call85
abbrev c5N:=@call61
abbrev c5C:=@runUnderlying195
abbrev c5O:=@runUnderlying199
abbrev c4y:=@call194
abbrev c50:=@call277
abbrev c4X:=@call196
abbrev c4C:=@runUnderlying23
abbrev c55:=@sizeOf129
abbrev c6m:=@typeInfo54
abbrev c5V:=@call280
abbrev c4J:=@runUnderlying309
abbrev c5Q:=@isAgg25
abbrev c6b:=@zeroValue32
abbrev c88:=@runUnderlying3
abbrev c9N:=@call124
abbrev c96:=@eqGuardType39
abbrev d1R:=@call235
abbrev c9e:=@call160
abbrev d0F:=@call317
abbrev b7X:=@sizeOf175
abbrev b7u:=@runUnderlying110
abbrev b6Q:=@runUnderlying59
abbrev b7k:=@runUnderlying109
abbrev b7L:=@underlying3
abbrev b9r:=@underlying9
abbrev b6h:=@call184
abbrev b7D:=@call186
abbrev b8o:=@sizeOf30
abbrev b9H:=@call122
abbrev b79:=@runUnderlying103
abbrev b8I:=@isAgg22
abbrev b6K:=@sizeOf149
abbrev b86:=@call202
abbrev b9O:=@runUnderlying86
abbrev b8Q:=@runUnderlying25
abbrev b8q:=@sizeOf23
abbrev b6b:=@runUnderlying129
abbrev b82:=@isAgg231
abbrev b9Y:=@sizeOf65
abbrev c23:=@runUnderlying165
abbrev c2s:=@typeInfo231
abbrev c2J:=@call192
abbrev c2z:=@call237
abbrev c1R:=@runUnderlying275
abbrev c3c:=@isAgg4
abbrev c1U:=@sizeOf4
abbrev c1V:=@call316
abbrev c3F:=@call231
abbrev c12:=@isAgg119
abbrev c3L:=@call51
abbrev c17:=@sizeOf105
abbrev c3o:=@runUnderlying105
abbrev c4i:=@sizeOf103
abbrev c2x:=@zeroValue305
abbrev c2t:=@call246
abbrev c1J:=@call306
abbrev c3X:=@call148
abbrev c2H:=@call221
abbrev c1O:=@call98
abbrev c29:=@call159
abbrev c1Q:=@zeroValue129
abbrev c3V:=@runUnderlying56
abbrev c2T:=@call16
abbrev c2o:=@isAgg32
abbrev c3r:=@isAgg65
abbrev c7i:=@call123
abbrev c8U:=@call131
abbrev c9B:=@call119
abbrev d0p:=@call69
abbrev c6P:=@call236
abbrev c9z:=@call278
abbrev c9j:=@call191
abbrev c65:=@runUnderlying175
abbrev c8K:=@zeroValue175
abbrev d1i:=@isAgg175
abbrev c7A:=@isAgg54
abbrev d1Z:=@call72
abbrev c9Y:=@func217
abbrev c98:=@underlying0
abbrev d1L:=@isAgg0
abbrev c7K:=@sizeOf0
abbrev c9D:=@zeroValue0
abbrev c8Z:=@underlying4
abbrev c6z:=@zeroValue4
abbrev d1G:=@underlying5
abbrev c8w:=@isAgg5
abbrev c6N:=@underlying36
abbrev c9t:=@sizeOf36
abbrev c91:=@underlying141
abbrev c9x:=@isAgg141
abbrev c66:=@sizeOf141
abbrev c7x:=@zeroValue141
abbrev c6G:=@underlying262
abbrev c8I:=@isAgg262
abbrev c7I:=@sizeOf262
abbrev c9W:=@zeroValue262
abbrev c7t:=@underlying86
abbrev c8O:=@isAgg86
abbrev d0g:=@sizeOf86
abbrev d0V:=@zeroValue86
abbrev c73:=@call52
abbrev d0n:=@call273
abbrev d1w:=@call300
abbrev c9f:=@call322
abbrev c9S:=@isAgg27
abbrev c9F:=@call120
abbrev c7H:=@call87
abbrev c71:=@isAgg105
abbrev c81:=@isAgg305
abbrev c7V:=@func246
abbrev c7S:=@runUnderlying242
abbrev d1f:=@call113
abbrev c9I:=@call95
abbrev d0L:=@call94
abbrev d1O:=@call90
abbrev c9w:=@isAgg23
abbrev c8P:=@call79
abbrev c6y:=@call38
abbrev c9g:=@runUnderlying29
abbrev c83:=@runUnderlying32
abbrev d0S:=@zeroValue25
abbrev c7j:=@sizeOf244
abbrev n_0:=@if_neg
abbrev n_1:=@if_pos
abbrev n_2:=@List.mem_of_getElem?
abbrev n_3:=@List.getElem?_eq_some_iff
abbrev n_4:=@Nat.zero_le
abbrev n_5:=@Nat.ne_of_beq_eq_false
abbrev n_6:=@List.length_append
abbrev n_7:=@Nat.le_refl
abbrev n_8:=@congrArg
abbrev n_9:=@Option.bind_some
abbrev C5:=@List.length_cons
abbrev D7:=@List.append_assoc
abbrev F4:=@List.mem_map
abbrev I8:=@List.length_nil
abbrev J5:=@List.mem_cons
abbrev L7:=@Nat.zero_add
abbrev L8:=@List.mem_append
abbrev M6:=@List.mem_iff_getElem?
abbrev N6:=@Option.map_eq_some_iff
abbrev O3:=@List.length_map
abbrev O5:=@List.getElem?_map
abbrev Q5:=@Nat.add_mul
abbrev R3:=@List.getElem?_append_left
abbrev R2:=@List.drop_eq_getElem_cons
abbrev S4:=@Nat.mul_le_mul_right
abbrev U6:=@Bool.and_eq_true
abbrev U5:=@List.take_of_length_le
abbrev V2:=@List.drop_eq_nil_of_le
abbrev a0H:=@Array.getD_eq_getD_getElem?
abbrev a09:=@List.getElem?_eq_getElem
abbrev a1f:=@List.getElem?_append_right
abbrev a1j:=@Array.getElem?_eq_getElem
abbrev a1k:=@List.append_nil
abbrev a1s:=@Array.getElem?_eq_some_iff
abbrev a1v:=@decide_eq_true_eq
abbrev a2a:=@decide_eq_true
abbrev a2d:=@List.getElem?_take
abbrev a2i:=@List.getElem?_set_ne
abbrev a2e:=@List.nil_append
abbrev a2c:=@Int.toNat_natCast
abbrev a2f:=@decide_eq_false
abbrev a2m:=@List.take_add_one
abbrev a3U:=@Nat.eq_of_beq_eq_true
abbrev a4r:=@Nat.lt_or_ge
abbrev a4x:=@List.pairwise_cons
abbrev a5D:=@List.all_eq_true
abbrev a5v:=@List.getElem?_drop
abbrev a5u:=@List.length_take
abbrev a5m:=@Nat.mod_lt
abbrev a58:=@List.getD_eq_getElem?_getD
abbrev a57:=@List.take_length
abbrev a6V:=@List.getElem?_append
abbrev a6H:=@List.map_append
abbrev a8j:=@Bool.or_eq_true
abbrev a7v:=@List.not_mem_nil
abbrev a7V:=@List.filter_cons
abbrev a8g:=@List.mem_cons_of_mem
abbrev a8S:=@Option.getD_some
abbrev a8l:=@Nat.add_zero
abbrev a8T:=@Nat.add_assoc
abbrev a8L:=@Nat.lt_of_lt_of_le
abbrev a8P:=@List.take_succ_cons
abbrev a8y:=@of_decide_eq_true
abbrev a9E:=@Array.getElem?_eq_none
abbrev a9Q:=@List.mem_of_mem_take
abbrev a9V:=@Array.length_toList
abbrev a9O:=@List.mem_append_left
abbrev a9H:=@List.mem_singleton
abbrev a94:=@List.length_pos_iff
abbrev a9L:=@List.drop_zero
abbrev a9N:=@List.cons_append
abbrev a9R:=@List.flatMap_cons
abbrev a9F:=@Bool.and_eq_true_iff
abbrev b16:=@List.mem_of_mem_drop
abbrev b0A:=@List.getElem?_set
abbrev b1v:=@List.getElem?_set_self
abbrev b1L:=@List.mem_flatMap
abbrev b0Q:=@List.getElem?_concat_length
abbrev b2A:=@Nat.blt_eq
abbrev b2C:=@List.map_cons
abbrev b20:=@Nat.eq_zero_or_pos
abbrev b2R:=@decide_eq_false_iff_not
abbrev b2N:=@List.mem_filter
abbrev b2X:=@Int.le_refl
abbrev b5g:=@Array.ext_getElem?
abbrev b5S:=@Nat.add_comm
abbrev b5l:=@Nat.mod_eq_of_lt
abbrev b6u:=@Nat.le_trans
abbrev b6t:=@Array.mem_of_getElem?
abbrev b9i:=@Array.getElem?_setIfInBounds_ne
abbrev b83:=@Array.getElem?_modify
abbrev b9D:=@Bool.false_eq_true
abbrev b7W:=@Bool.not_eq_true'
abbrev b6A:=@Option.map_some
abbrev b6z:=@Option.isSome_iff_exists
abbrev b66:=@UInt8.toNat_inj
abbrev b9b:=@List.takeWhile_cons
abbrev b7c:=@List.length_drop
abbrev b7e:=@Bool.true_and
abbrev b9T:=@List.length_singleton
abbrev a87:=@Option.map_eq_none_iff
abbrev a85:=@Nat.sub_self
abbrev a9d:=@List.map_take
abbrev a9k:=@of_decide_eq_false
abbrev b0N:=@List.getElem?_eq_none
abbrev b0q:=@Nat.mul_one
abbrev b1X:=@List.mem_cons_self
abbrev b1w:=@List.take_append_getElem
abbrev b1q:=@decide_eq_decide
abbrev b0w:=@Bool.and_assoc
abbrev b2n:=@List.drop_length
abbrev b12:=@List.mergeSort_perm
abbrev b3z:=@Array.getElem?_append
abbrev b4k:=@World.size_alloc
abbrev b27:=@Nat.min_eq_left
abbrev b3O:=@List.getElem_mem
abbrev b3T:=@Array.getElem?_map
abbrev b3D:=@List.eq_nil_of_length_eq_zero
abbrev b3Z:=@Nat.mul_comm
abbrev b4j:=@Array.getElem?_append_left
abbrev b35:=@List.ext_getElem?
abbrev b3s:=@List.take_append_drop
abbrev b4q:=@List.length_mergeSort
abbrev b3Y:=@List.set_append_right
abbrev b7s:=@Array.getElem?_push
abbrev b9l:=@List.foldl_cons
abbrev b6E:=@List.mem_append_right
abbrev b55:=@List.isEmpty_iff
abbrev b9h:=@Array.size_append
abbrev b6f:=@Bool.or_eq_false_iff
abbrev b6i:=@UInt8.lt_iff_toNat_lt
abbrev b9X:=@List.find?_eq_none
abbrev b9C:=@List.isPrefixOf_iff_prefix
abbrev b8M:=@List.mem_of_find?_eq_some
abbrev b8v:=@List.find?_cons
abbrev b7n:=@UInt8.toNat_ofNat'
abbrev c27:=@Bool.eq_false_iff
abbrev c2u:=@List.mem_filterMap
abbrev c3Z:=@Int.tdiv_eq_ediv_of_nonneg
abbrev c2Q:=@List.cons_ne_nil
abbrev c4h:=@List.filter_eq_self
abbrev c4g:=@List.filter_eq_nil_iff
abbrev c1Z:=@List.getElem?_cons_succ
abbrev c11:=@List.length_eraseIdx_of_lt
abbrev c1K:=@Nat.add_sub_cancel
abbrev c3G:=@List.take_append_of_le_length
abbrev c3K:=@List.pairwise_mergeSort
abbrev c3v:=@List.le_antisymm
abbrev c7N:=@List.getElem?_replicate
abbrev c9p:=@Int.tmod_eq_emod_of_nonneg
abbrev c75:=@Option.bind_eq_some_iff
abbrev c8Y:=@Array.getElem?_setIfInBounds
abbrev d0Y:=@List.mem_eraseIdx_iff_getElem?
def Qz (q:Prop):Prop:=True->q
variable {p q:Prop} (U:q)
theorem nb {a b : Nat} (h : Nat.ble a b = true) : a <= b := Nat.le_of_ble_eq_true h
theorem tt : True := True.intro
def q_0 (h:p:=by exact ⟨⟨x6, n3, a6, e6, b6⟩, U1 (k := 4) rfl rfl de_ (.val _), ⟨by rw [af];exact k1.bindX (fun i hi => by rw [n_0 (by rw [bk];decide), bk];exact k3.bindX (fun j hj => a1P (by rw [hi, hj];exact k6)) k6.2) fun h => absurd rfl h, y3, w6, fun h0 => by have := z3 (k6.alive h0).1;have := z1 rfl;dsimp only at h0 ⊢;omega, l6, u6⟩⟩):=h
def q_1 (h:p:=by exact ⟨⟨tt, (by first | exact ur_ | exact (by rw [b7R si_];exact .vec rfl))⟩, ⟨tt, (by first | exact ur_ | exact (by rw [b7R si_];exact .vec rfl))⟩, ⟨tt, (by first | exact ur_ | exact (by rw [b7R si_];exact .vec rfl))⟩, ⟨tt, (by first | exact ur_ | exact (by rw [b7R si_];exact .vec rfl))⟩, tt⟩):=h
def q_2 (h:p:=by exact (a5y rfl (by first | exact a43 (by intro a;rfl) _ | (intro r hr;simp at hr;done) | (intro r hr;simp at hr;subst hr;rfl) | (intro r hr;exact a43 (by intro a;rfl) _ r (a9Q (b16 hr))) | (intro r hr;simp at hr;obtain ⟨a, _, rfl⟩ := hr;rfl)))):=h
def q_3 (h:p:=by exact (K8 (a := n) (h := (n + 1)) rfl rfl rfl t_7 ⟨tt, _, _, rfl, by first | omega | (simp at hg;omega), by first | omega | (simp at hg;omega)⟩ ⟨tt, _, _, rfl, by first | omega | (simp at hg;omega), by first | omega | (simp at hg;omega)⟩ om_ (by show n + 1 <= 10;omega))):=h
def q_4 (h:p:=by first | rfl | (have hk := h.kind;have h1 := h.k1;have h2 := h.k2;have h3 := h.k3;have h4 := h.k4;have h6 := h.k678;have h9 := h.k9;have aY := h.k10;first | (simp;omega) | (have := h3 om_;simp [this]) | (have := h6 om_;simp [this]) | (have := h9 om_;simp [this]))):=h
def q_5 (h:p:=by rw [b2k, hx, n_1 rfl];exact ⟨(), .ret (.old (.tup fun i c hi => by rcases i with _ | _ | _ | i<;>first | (injection hi with hi;subst hi;first | exact .val _ | exact (r6 (cs := [_, _, _, _]) ⟨.val _, .val _, .val _, .val _, tt⟩).old) | cases hi)), tt⟩):=h
def q_6 (h:p:=by rw [b2k, hx, n_0 de_];exact ⟨(), .ret (.old (.tup fun i c hi => by rcases i with _ | _ | _ | i<;>first | (injection hi with hi;subst hi;first | exact .val _ | exact (r6 (cs := [_, _, _, _]) ⟨.val _, .val _, .val _, .val _, tt⟩).old) | cases hi)), tt⟩):=h
def q_7 (h:p:=by first | exact a43 (by intro a;rfl) _ | assumption | (intro r hr;exact a43 (by intro a;rfl) _ r (a9Q (b16 hr))) | (intro r hr;simp at hr;obtain ⟨a, _, rfl⟩ := hr;rfl)):=h
def q_8 (h:p:=by exact (a3i (h := (st.length - x.args.length)) rfl tt rfl t_4 t_1 rfl rfl ⟨tt, _, _, rfl, om_, om_⟩ (by first | omega | (simp;done) | (simp;omega)) (by first | omega | (simp;omega) | simp))):=h
def q_9 (h:p:=by exact (A8 (([[43], [45], [42], [47], [37], [60], [61, 61]] : List Str).map scv) rfl ⟨rfl, rfl, rfl, rfl, rfl, rfl, rfl, tt⟩ t_2 t_0 t_3 rfl rfl rfl rfl rfl rfl rfl rfl rfl)):=h
def d7z (h:p:=by exact (p9 rfl tt tt rfl rfl b21 a8O om_ (i8 (by rw [show s + (Tr.n k u o nm ch).size - 1 = s + z8 ch by rw [Tr.size];omega];exact eC.node)) rfl)):=h
def d7S (h:p:=by exact ⟨⟨tt, _, _, _, rfl, rfl, .inr ⟨_, b6J, a3w, nb rfl, rfl⟩⟩, ⟨tt, _, _, _, rfl, rfl, .inl ⟨a2l, rfl⟩⟩, ⟨tt, _, _, _, rfl, rfl, .inl ⟨c1u, rfl⟩⟩, tt⟩):=h
def e0x (h:p:=by exact ⟨do_, do_, do_, by dsimp only;simp only [n_6];omega, by dsimp only;simp only [n_6, C5, I8];omega, do_, do_⟩):=h
def e01 (h:p:=by exact (c8 rfl (B3 #[(0, 1), (1, 1), (2, 1), (3, 1), (4, 1)] rfl ⟨tt, tt, tt, tt, tt⟩ c0h Tryz.zeroValue112 rfl ⟨_, rfl⟩ (fun w => by kernel_rfl) rfl rfl))):=h
def e0r (h:p:=by exact (p9 rfl tt tt rfl rfl t_4 t_1 om_ (i8 (by rw [show (((m + 1 : Nat) : Int) - 1).toNat = m by omega, co.args];exact L6 hc)) rfl)):=h
def e0f (h:p:=by exact ⟨⟨tt, ur_⟩, ⟨tt, ur_⟩, ⟨tt, ur_⟩, ⟨tt, (by first | exact ur_ | exact .same (n_8 (fun z : Int => iv z) (by show _ = ((S2 s i1 : Nat) : Int);omega)) uo_)⟩, tt⟩):=h
def e0c (h:p:=by exact (B3 #[(0, 1), (1, 1), (2, 1), (3, 1), (4, 1), (5, 1)] rfl ⟨tt, tt, tt, tt⟩ b6Q a9Y rfl ⟨_, rfl⟩ (fun w => by kernel_rfl) rfl rfl)):=h
def d9v (h:p:=by exact (fun hg => T8 rfl hg hg rfl rfl t_2 t_0 a0X (by first | omega | (simp at hg;omega)) (by first | omega | (simp at hg;omega)))):=h
def c6f (h:p:=by exact (B3 #[(0, 1), (1, 1), (2, 1), (3, 1), (4, 1)] rfl ⟨rfl, tt, tt, tt⟩ a6N b5b rfl ⟨_, rfl⟩ (fun w => by kernel_rfl) rfl rfl)):=h
def a4R (h:p:=by first | omega | (simp only [O1, C5, I8] at hb ⊢;omega) | (simp only [O1, C5, I8];omega)):=h
def d9X (h:p:=by exact (c8 rfl (O8 rfl tt rfl t_9 a0X (i8 (by rw [L7];first | exact c1c hkm fV | (rw [hj1];exact b4Q om_ hyk))) rfl))):=h
def b2l (h:p:=by exact (B3 #[(0, 1), (1, 1), (2, 1), (3, 1), (4, 1)] rfl ⟨rfl, tt, tt⟩ a6N b5b rfl ⟨_, rfl⟩ (fun w => by kernel_rfl) rfl rfl)):=h
def e1e (h:p:=by exact (B3 #[(0, 1), (1, 1), (2, 1), (3, 1), (4, 1)] rfl ⟨tt, tt, tt⟩ a6N b5b rfl ⟨_, rfl⟩ (fun w => by kernel_rfl) rfl rfl)):=h
def d9b (h:p:=by exact (a3E (vc := vcE) (l := me) (a := (F3 x.k x.p x.o)) d4E rfl tt tt rfl rfl b7u a9Y rfl rfl (a5R En.z rfl _))):=h
def d3r (h:p:=by exact (B3 #[(0, 1), (1, 1), (2, 1), (3, 1)] rfl ⟨rfl, tt, tt, tt⟩ a8q a2R rfl ⟨_, rfl⟩ (fun w => by kernel_rfl) rfl rfl)):=h
def e1i (h:p:=by exact (c8 rfl (S9 (vc := sv) (l := S0) (a := o) a0G rfl tt tt rfl rfl a2g t_3 rfl rfl (a5R ([] : Str) rfl _)))):=h
def c0Z (h:p:=by exact (B3 #[(0, 1), (1, 1), (2, 1), (3, 1)] rfl ⟨rfl, tt, tt⟩ a8q a2R rfl ⟨_, rfl⟩ (fun w => by kernel_rfl) rfl rfl)):=h
def e0a (h:p:=by exact (a3E (vc := vcE) (l := me) (a := (F3 k p o)) d4E rfl tt tt rfl rfl b7u a9Y rfl rfl (a5R En.z rfl _))):=h
def e1h (h:p:=by exact (fun hg => N5 rfl hg hg rfl rfl t_7 (by first | omega | (simp at hg;omega)) (by rw [a2c];exact hc (sm_ hg)))):=h
def e1f (h:p:=by exact (fun hg => p9 rfl hg hg rfl rfl a7m a4a (by first | omega | (simp at hg;omega)) (i8 (hp (sm_ hg)).1) rfl)):=h
def d9F (h:p:=by exact (A8 [Src.cv ((a62 l y.p).getD Src.z)] rfl ⟨tt, tt⟩ b79 a3w a3V rfl rfl rfl rfl rfl rfl rfl rfl rfl)):=h
def b1R (h:p:=by exact ⟨⟨tt, _, _, _, rfl, rfl, .inr ⟨_, b82, a3C, nb rfl, rfl⟩⟩, ⟨tt, (by conv => lhs;whnf)⟩, ⟨tt, (by conv => lhs;whnf)⟩, tt⟩):=h
def e03 (h:p:=by exact (B3 #[(0, 1), (1, 1), (2, 1)] rfl ⟨tt, tt, tt, tt⟩ c65 c8K rfl ⟨_, rfl⟩ (fun w => by kernel_rfl) rfl rfl)):=h
def e0o (h:p:=by exact (B3 #[(0, 1), (1, 1), (2, 1)] rfl ⟨rfl, tt, tt, tt⟩ c0N Z1 rfl ⟨_, rfl⟩ (fun w => by kernel_rfl) rfl rfl)):=h
def d4s (h:p:=by exact (c8 rfl (B3 #[(0, 1), (1, 1)] rfl ⟨tt, tt, tt⟩ b6Z a6h rfl ⟨_, rfl⟩ (fun w => by kernel_rfl) rfl rfl))):=h
def d8a (h:p:=by exact ⟨⟨tt, _, _, _, rfl, rfl, .inr ⟨_, b6J, a3w, nb rfl, rfl⟩⟩, ⟨tt, (by conv => lhs;whnf)⟩, ⟨tt, (by conv => lhs;whnf)⟩, tt⟩):=h
def d7F (h:p:=by exact (c8 rfl (B3 #[(0, 1), (1, 1), (2, 1)] rfl tt a6A a3V rfl ⟨_, rfl⟩ (fun w => by kernel_rfl) rfl rfl))):=h
def d9p (h:p:=by exact (a3E (vc := vcS) (l := ms) (a := y.p) b9m rfl tt tt rfl rfl b7k a3V rfl rfl (a5R Src.z rfl _))):=h
def d0E (h:p:=by exact (B3 #[(0, 1), (1, 1), (2, 1)] rfl ⟨rfl, tt, tt⟩ c0N Z1 rfl ⟨_, rfl⟩ (fun w => by kernel_rfl) rfl rfl)):=h
def d2w (h:p:=by exact (B3 #[(0, 1), (1, 1), (2, 1), (3, 1)] rfl tt a8q a2R rfl ⟨_, rfl⟩ (fun w => by kernel_rfl) rfl rfl)):=h
def d8g (h:p:=by exact (fun hg => N5 rfl hg hg rfl rfl t_7 (by first | omega | (simp at hg;omega)) (by rw [a2c];exact hb))):=h
def e06 (h:p:=by exact (A8 [[.val (.int .u8 (m : Int))]] rfl ⟨tt, tt⟩ X7 a1w a4d rfl rfl rfl rfl rfl rfl rfl rfl rfl)):=h
def e0d (h:p:=by exact (S9 (vc := kv) (l := m) (a := (b.toNat : Int)) d3u rfl tt tt rfl rfl c23 t_8 rfl rfl (b5y _ _))):=h
def e0U (h:p:=by exact (fun hg => N5 rfl hg rfl rfl rfl t_7 (by first | omega | (simp at hg;omega)) (b := s.headD 0) (c60 (sm_ hg)))):=h
def e0j (h:p:=by exact (fun hg => N5 rfl hg hg rfl rfl t_7 (by first | omega | (simp at hg;omega)) (b := s[e]?.getD 0) (c1g (sm_ hg)))):=h
def e0X (h:p:=by exact (A8 (a1B.map scv) rfl ⟨rfl, rfl, rfl, tt⟩ t_2 t_0 t_3 rfl rfl rfl rfl rfl rfl rfl rfl rfl)):=h
def d3x (h:p:=by exact .ret (.tups ⟨.old (c := .agg ((⟨[], [], []⟩ : Src)).cells) (r6 (Src.pure _)).old, .old (.val _), .old (.val _), tt⟩)):=h
def e0W (h:p:=by exact (B3 #[(0, 1), (1, 1), (2, 1)] rfl ⟨tt, tt⟩ a6A a3V rfl ⟨_, rfl⟩ (fun w => by kernel_rfl) rfl rfl)):=h
def e0R (h:p:=by exact (c8 rfl (A8 [Ex.cv x] rfl ⟨tt, tt⟩ b21 a8O b5b rfl rfl rfl rfl rfl rfl rfl rfl rfl))):=h
def e07 (h:p:=by exact (c8 rfl (A8 [De.cv d] rfl ⟨tt, tt⟩ b0S a4O a9K rfl rfl rfl rfl rfl rfl rfl rfl rfl))):=h
def d8x (h:p:=by exact ⟨⟨tt, rfl⟩, ⟨tt, rfl⟩, ⟨tt, rfl⟩, ⟨tt, (by show (iv (arK x.k)) = iv x.args.length;rw [cj])⟩, ⟨tt, rfl⟩, ⟨tt, rfl⟩, ⟨tt, rfl⟩, tt⟩):=h
def d9R (h:p:=by exact (B3 #[(0, 1), (1, 1)] rfl ⟨rfl, rfl, tt⟩ b6Z a6h rfl ⟨_, rfl⟩ (fun w => by kernel_rfl) rfl rfl)):=h
def e0y (h:p:=by exact (A8 ([x1, x3].map icv) rfl ⟨tt, tt, tt⟩ t_4 t_1 t_8 rfl rfl rfl rfl rfl rfl rfl rfl rfl)):=h
def e05 (h:p:=by exact (A8 ([x, x3].map icv) rfl ⟨tt, tt, tt⟩ t_4 t_1 t_8 rfl rfl rfl rfl rfl rfl rfl rfl rfl)):=h
def e0J (h:p:=by exact (c8 rfl (A8 [scv y.p] rfl ⟨tt, tt⟩ t_2 t_0 t_3 rfl rfl rfl rfl rfl rfl rfl rfl rfl))):=h
def e0I (h:p:=by exact (B3 #[(0, 1), (1, 1), (2, 1)] rfl tt a6A a3V rfl ⟨_, rfl⟩ (fun w => by kernel_rfl) rfl rfl)):=h
def e1n (h:p:=by exact (c8 rfl (A8 [icv x3] rfl ⟨tt, tt⟩ t_4 t_1 t_8 rfl rfl rfl rfl rfl rfl rfl rfl rfl))):=h
def d4C (h:p:=by first | exact X5 _ _ | exact T6 _ _ _ | exact W8 _ _ _ | exact A5 _ _ _ | exact a0P _ _ _):=h
def d8X (h:p:=by exact (A8 [icv (i : Int)] rfl ⟨tt, tt⟩ t_4 t_1 t_8 rfl rfl rfl rfl rfl rfl rfl rfl rfl)):=h
def d9d (h:p:=by exact (p9 rfl tt tt rfl rfl b21 a8O om_ (i8 (by rw [hmi, fq];exact eQ.he)) rfl)):=h
def e0M (h:p:=by exact (fun hg => o5 rfl hg rfl t_9 (by first | exact c28 _ _ | exact a1z hq _ | exact a1z hs _) rfl)):=h
def d2u (h:p:=by exact (fun hg => b1T rfl hg rfl rfl rfl (by first | omega | (simp at hg;omega)) (by first | omega | (simp at hg;omega)))):=h
def d3c (h:p:=by exact (A8 [Fi.cv y] rfl ⟨tt, tt⟩ a7m a4a a6h rfl rfl rfl rfl rfl rfl rfl rfl rfl)):=h
def d9D (h:p:=by exact (A8 [Ky.cv k] rfl ⟨tt, tt⟩ t_6 t_5 Z1 rfl rfl rfl rfl rfl rfl rfl rfl rfl)):=h
def e00 (h:p:=by exact (A8 [Fi.cv f] rfl ⟨tt, tt⟩ a7m a4a a6h rfl rfl rfl rfl rfl rfl rfl rfl rfl)):=h
def e0Q (h:p:=by exact (fun hg => b59 rfl hg rfl rfl rfl (by first | omega | (simp at hg;omega)) (by first | omega | (simp at hg;omega)))):=h
def e0O (h:p:=by exact (B3 #[(0, 1)] rfl ⟨tt, tt⟩ c83 c6b rfl ⟨_, rfl⟩ (fun w => by kernel_rfl) rfl rfl)):=h
def d9O (h:p:=by exact ⟨by show List.length _ <= _;simp only [n_6, C5, I8];omega, rfl⟩):=h
def e0S (h:p:=by exact .inl ⟨n + 1, a0U rfl (.tup fun i c h => by simp at h), by rw [pIs, n_1 hb], hW n hn (a6F hb de_)⟩):=h
def d8Q (h:p:=by exact (p9 rfl tt rfl rfl rfl t_4 t_1 om_ (i8 (L6 (m := 0) (s := s) rfl)) rfl)):=h
def d9H (h:p:=by exact (c5 rfl a7H ⟨tt, tt⟩ (a0z hT hm (q := 0) (s := kf ph) (by cases ph<;>exact ⟨rfl, rfl, de_⟩)) rfl)):=h
def d9s (h:p:=by exact (p9 rfl tt rfl rfl rfl t_4 t_1 om_ (i8 (L6 (m := 1) (s := s) rfl)) rfl)):=h
def d3Q (h:p:=by exact (A8 [scv s6] rfl ⟨tt, tt⟩ t_2 t_0 t_3 rfl rfl rfl rfl rfl rfl rfl rfl rfl)):=h
def d9r (h:p:=by exact (A8 [bcv c] rfl ⟨tt, tt⟩ X7 a1w a4d rfl rfl rfl rfl rfl rfl rfl rfl rfl)):=h
def d9e (h:p:=by exact (A8 [scv s] rfl ⟨tt, tt⟩ t_2 t_0 t_3 rfl rfl rfl rfl rfl rfl rfl rfl rfl)):=h
def d9y (h:p:=by exact (c8 rfl (H4 rfl tt rfl rfl rfl (by show ([32] ++ sgn o : Str).length + 1 <= _;rw [O1];simp;omega)))):=h
def d3O (h:p:=by exact ⟨⟨tt, _, _, _, rfl, rfl, .inr ⟨_, b6J, a3w, nb rfl, rfl⟩⟩, ⟨tt, (by conv => lhs;whnf)⟩, tt⟩):=h
def e0F (h:p:=by exact (B3 #[(0, 1)] rfl tt b8Q d0S rfl ⟨_, rfl⟩ (fun w => by kernel_rfl) rfl rfl)):=h
def d9G (h:p:=by rw [eT];simp only [<- D7 b];exact b3A (k := 6) rfl rfl de_ (F8 _ _ _ _ _) a3t):=h
def e0N (h:p:=by rw [eT];simp only [<- D7 b];exact b3A (k := 5) rfl rfl de_ (F8 _ _ _ _ _) a3t):=h
def d9q (h:p:=by exact (o5 rfl tt rfl a2l (by first | exact c28 _ _ | exact a1z hq _ | exact a1z hs _) rfl)):=h
def d9m (h:p:=by exact (a6K rfl tt rfl b9O b2z ((d8t m).trans (by rw [b5l om_])))):=h
def d9T (h:p:=by exact (fun hg => N5 rfl hg hg rfl rfl t_7 (by first | omega | (simp at hg;omega)) hb)):=h
def b6s (h:p:=by show List.length _ <= _;simp only [n_6, C5, I8];omega):=h
def d9c (h:p:=by cases ph;exact U1 (k := 2) rfl rfl de_ (.val _);exact U1 (k := 3) rfl rfl de_ (.val _)):=h
def e0H (h:p:=by exact ⟨⟨x, m, a2, e, b2⟩, a5P he rfl (.val _), .dead (fun _ => hN he) he hm bW ⟨bb, aK⟩⟩):=h
def e02 (h:p:=by exact .inl ⟨(i, m, b2), Z5 rfl rfl (nb rfl) (.val _), by rw [af];exact g1, do_, g3, g4⟩):=h
def d9z (h:p:=by exact (fun hg => c5 rfl a7H ⟨hg, tt⟩ (a0z hT hm (q := 2) (s := 0) ⟨rfl, rfl, de_⟩) rfl)):=h
def d2Z (h:p:=by first | omega | (simp at hk hg;omega) | (change (_ : Bool) = _ at hk;simp at hk hg;omega)):=h
def d2X (h:p:=by have hb : Tryz.t231.bytes = 40 := rfl;rw [hb];first | omega | (simp;done) | (simp;omega)):=h
def d7u (h:p:=by exact (p9 rfl tt rfl rfl rfl t_4 t_1 om_ (i8 (L6 g0)) rfl)):=h
def a6c (h:p:=by have hb : Tryz.t39.bytes = 40 := rfl;rw [hb];first | omega | (simp;done) | (simp;omega)):=h
def c4R (h:p:=by have hb : Tryz.t54.bytes = 32 := rfl;rw [hb];first | omega | (simp;done) | (simp;omega)):=h
def a4b (h:p:=by exact ⟨tt, _, _, rfl, by first | omega | (simp at hg;omega), by first | omega | (simp at hg;omega)⟩):=h
def a3Z (h:p:=by have hb : Tryz.t9.bytes = 16 := rfl;rw [hb];first | omega | (simp;done) | (simp;omega)):=h
def d8L (h:p:=by exact (p9 rfl tt tt rfl rfl b79 a3w om_ (i8 (c3p hb)) rfl)):=h
def e0k (h:p:=by exact (c5 rfl c4X ⟨tt, tt⟩ (a27 hT hn ⟨rfl, rfl, n_5 rfl⟩) rfl)):=h
def c56 (h:p:=by exact ⟨⟨tt, (by conv => lhs;whnf)⟩, ⟨tt, (by conv => lhs;whnf)⟩, ⟨tt, (by conv => lhs;whnf)⟩, tt⟩):=h
def c4w (h:p:=by exact (H4 rfl tt rfl rfl rfl (by simp only [O1, C5, I8];omega))):=h
def c9m (h:p:=by have hb : Tryz.t3.bytes = 8 := rfl;rw [hb];first | omega | (simp;done) | (simp;omega)):=h
def b6o (h:p:=by exact (p9 rfl tt tt rfl rfl t_2 t_0 om_ (i8 (d4l hb)) rfl)):=h
def c8W (h:p:=by exact (O8 rfl tt rfl a2l rfl (by rw [hmi];simpa using i8 (f := icv) hv) rfl)):=h
def b7b (h:p:=by exact (fun hg => a0f rfl hg rfl b21 (by first | exact Y8 _ _ | rfl) rfl)):=h
def d0d (h:p:=by exact (c5 rfl Tryz.call106 ⟨tt, tt, tt⟩ (b6O (a3W am _) _ (bh.find _ _ _)) rfl)):=h
def d6D (h:p:=by exact (c5 rfl Tryz.call76 ⟨tt, tt⟩ (d7L (l1 ++ (ev.map B9 ++ ew.map B9)) om_ _) rfl)):=h
def b9e (h:p:=by exact (N5 rfl tt tt rfl rfl t_7 om_ (by rw [a2c];exact hb))):=h
def c24 (h:p:=by exact (c8 rfl (T8 rfl tt tt rfl rfl t_2 t_0 a0X om_ om_))):=h
def c3A (h:p:=by exact (fun hg => a0f rfl hg rfl b0S (by first | exact Y8 _ _ | rfl) rfl)):=h
def b4a (h:p:=by exact c8 rfl (j5 rfl tt rfl c4J rfl c7j de_)):=h
def c4f (h:p:=by exact (p9 rfl tt tt rfl rfl b21 a8O om_ (i8 hb) rfl)):=h
def e0p (h:p:=by rw [a3Y, n_0 u1, n_1 u2];unfold F6;(repeat (first | split))<;>omega):=h
def a9u (h:p:=by exact (p9 rfl tt tt rfl rfl b0S a4O om_ (i8 hd) rfl)):=h
def b88 (h:p:=by exact (H4 rfl rfl tt rfl rfl (by simp only [C5, I8];omega))):=h
def e0w (h:p:=by exact (p9 rfl tt tt rfl rfl c4C c55 om_ (i8 hb) rfl)):=h
def d7i (h:p:=by exact c8 rfl (j5 rfl tt rfl a6N rfl b8E de_)):=h
def c8x (h:p:=by exact (H4 rfl tt rfl rfl rfl (by simp only [C5, I8];omega))):=h
def c9J (h:p:=by exact (p9 rfl tt tt rfl rfl b0S a4O om_ (i8 hb) rfl)):=h
def c7u (h:p:=by exact (p9 rfl tt tt rfl rfl a7m a4a om_ (i8 hb) rfl)):=h
def c2V (h:p:=by exact ⟨⟨tt, .ptr rfl⟩, ⟨tt, .ptr rfl⟩, ⟨tt, .ptr rfl⟩, ⟨tt, .ptr rfl⟩, ⟨tt, .ptr rfl⟩, tt⟩):=h
def d5P (h:p:=by exact c8 rfl (j5 rfl tt rfl a6A rfl b9Y de_)):=h
def c9P (h:p:=by exact c8 rfl (j5 rfl tt rfl b8Q rfl b8q de_)):=h
def a6o (h:p:=by exact (p9 rfl tt tt rfl rfl t_2 t_0 om_ (i8 hb) rfl)):=h
def a6q (h:p:=by exact c8 rfl (j5 rfl tt rfl b6Z rfl t_0 de_)):=h
def d9t (h:p:=by exact .inl ⟨(i6, n5, b6), Z5 rfl rfl (nb rfl) (.val _), af, do_, fW, y6⟩):=h
def b67 (h:p:=by exact (p9 rfl tt tt rfl rfl t_2 t_0 om_ (i8 hy) rfl)):=h
def c2G (h:p:=by exact (p9 rfl tt tt rfl rfl t_4 t_1 om_ (i8 hv) rfl)):=h
def c9v (h:p:=by exact (p9 rfl tt tt rfl rfl t_2 t_0 om_ (i8 hs) rfl)):=h
def b4u (h:p:=by exact c8 rfl (M3 rfl tt rfl b82 a3C rfl (nb rfl))):=h
def b53 (h:p:=by exact (a0f rfl tt rfl b21 (by first | exact Y8 _ _ | rfl) rfl)):=h
def a81 (h:p:=by exact (a0f rfl tt rfl X7 (by first | exact Y8 _ _ | rfl) rfl)):=h
def d1V (h:p:=by exact (a0f rfl tt rfl b79 (by first | exact Y8 _ _ | rfl) rfl)):=h
def J3 (h:p:=by exact (a0f rfl tt rfl t_2 (by first | exact Y8 _ _ | rfl) rfl)):=h
def a08 (h:p:=by exact c8 rfl (M3 rfl tt rfl c2o b1u rfl (nb rfl))):=h
def a1g (h:p:=by exact (a0f rfl tt rfl t_4 (by first | exact Y8 _ _ | rfl) rfl)):=h
def a0I (h:p:=by exact (a0f rfl tt rfl a7m (by first | exact Y8 _ _ | rfl) rfl)):=h
def a4z (h:p:=by exact (a0f rfl tt rfl b0S (by first | exact Y8 _ _ | rfl) rfl)):=h
def b0t (h:p:=by exact (a0f rfl tt rfl t_6 (by first | exact Y8 _ _ | rfl) rfl)):=h
def c3Y (h:p:=by exact (a0f rfl tt rfl c4C (by first | exact Y8 _ _ | rfl) rfl)):=h
def b9U (h:p:=by exact (d9Y rfl tt rfl X7 t_7 b2z)):=h
def c2y (h:p:=by exact (fun hg => c5 rfl a7H ⟨hg, tt⟩ (a0z hT hn ⟨rfl, rfl, de_⟩) rfl)):=h
def b3v (h:p:=by exact ⟨tt, _, _, _, rfl, rfl, .inr ⟨_, b82, a3C, nb rfl, rfl⟩⟩):=h
def d1e (h:p:=by exact ⟨tt, _, _, _, rfl, rfl, .inr ⟨_, c12, a4O, nb rfl, rfl⟩⟩):=h
def d0D (h:p:=by exact (c8 rfl (j5 rfl tt rfl c4J rfl c7j de_))):=h
def d0j (h:p:=by exact (c8 rfl (j5 rfl tt rfl c3o rfl c4i de_))):=h
def b4C (h:p:=by exact (T8 rfl tt tt rfl rfl t_6 t_5 rfl om_ om_)):=h
def d7f (h:p:=by exact (c8 rfl (j5 rfl tt rfl a6N rfl b8E de_))):=h
def a3c (h:p:=by exact ⟨tt, _, _, _, rfl, rfl, .inr ⟨_, c2o, b1u, nb rfl, rfl⟩⟩):=h
def a4i (h:p:=by exact (T8 rfl tt tt rfl rfl t_4 t_1 rfl om_ om_)):=h
def b9W (h:p:=by exact ⟨tt, _, _, _, rfl, rfl, .inr ⟨_, b1F, t_5, nb rfl, rfl⟩⟩):=h
def c2F (h:p:=by exact (c8 rfl (j5 rfl tt rfl a6A rfl b9Y de_))):=h
def b7T (h:p:=by exact (fun hg => j5 rfl tt rfl b0s rfl b2b de_)):=h
def c3R (h:p:=by exact ⟨tt, _, _, _, rfl, rfl, .inr ⟨_, Tryz.isAgg59, b5O, nb rfl, rfl⟩⟩):=h
def d0t (h:p:=by simp only [O1, C5, I8] at hbm ⊢;omega):=h
def c8j (h:p:=by rw [eT];exact b3A (k := 3) rfl rfl de_ (F8 _ _ _ _ _) a3t):=h
def d9Z (h:p:=by exact (c8 rfl (j5 rfl tt rfl b6Z rfl t_0 de_))):=h
def c2I (h:p:=by exact (c8 rfl (H4 rfl tt rfl rfl rfl (by first | omega | (simp;omega))))):=h
def c2r (h:p:=by exact (fun hg => a3n rfl hg rfl a8q rfl a2l rfl)):=h
def d9j (h:p:=by exact (fun hg => a3j rfl hg rfl b6Z rfl t_0 de_)):=h
def d1W (h:p:=by exact (fun hg => a3n rfl hg rfl a8q rfl t_9 rfl)):=h
def d5T (h:p:=by exact (fun hg => j5 rfl tt rfl a6N rfl t_1 de_)):=h
def d7b (h:p:=by exact (c8 rfl (H4 rfl tt tt rfl rfl (by first | omega | (simp;omega))))):=h
def b7J (h:p:=by exact (fun hg => j5 rfl tt rfl a8q rfl t_0 de_)):=h
def b9k (h:p:=by exact (fun hg => j5 rfl tt rfl b0s rfl t_0 de_)):=h
def b9v (h:p:=by exact (fun hg => j5 rfl tt rfl b0s rfl t_1 de_)):=h
def b6G (h:p:=by exact ⟨tt, (by first | exact ur_ | exact .same rfl (a0P _ ([] : Str) _))⟩):=h
def c33 (h:p:=by exact (fun hg => j5 rfl tt rfl a6A rfl b9Y de_)):=h
def d9l (h:p:=by exact (fun hg => j5 rfl tt rfl c83 rfl b8o de_)):=h
def c3M (h:p:=by exact (fun hg => j5 rfl tt rfl a6N rfl t_0 de_)):=h
def d9o (h:p:=by exact (fun hg => j5 rfl tt rfl a6A rfl a2j de_)):=h
def c9C (h:p:=by exact (fun hg => j5 rfl tt rfl a8q rfl t_1 de_)):=h
def e0g (h:p:=by exact (fun hg => j5 rfl tt rfl b6b rfl t_1 de_)):=h
def d9L (h:p:=by exact (fun hg => j5 rfl tt rfl c0N rfl t_0 de_)):=h
def d0y (h:p:=by exact (fun hg => j5 rfl tt rfl b6Z rfl t_0 de_)):=h
def b9L (h:p:=by exact (c5 rfl c4X ⟨tt, tt⟩ (a27 hT hn ⟨rfl, rfl, de_⟩) rfl)):=h
def c7X (h:p:=by exact (a6K rfl tt rfl c88 b9O (b6X om_))):=h
def d0C (h:p:=by exact (fun hg => j5 rfl tt rfl a6A rfl t_0 de_)):=h
def a4W (h:p:=by exact (c8 rfl (M3 rfl tt rfl c2o b1u rfl (nb rfl)))):=h
def c3z (h:p:=by exact (c8 rfl (M3 rfl tt rfl c5Q b5f rfl (nb rfl)))):=h
def b6M (h:p:=by exact (c5 rfl a7H ⟨tt, tt⟩ (a0z hT hn ⟨rfl, rfl, de_⟩) rfl)):=h
def c22 (h:p:=by exact (fun hg => b2f rfl hg rfl (fun hp => ⟨hg, hp⟩) (fun _ => rfl))):=h
def d1U (h:p:=by exact (fun hg => M3 rfl tt rfl b1F t_5 rfl (nb rfl))):=h
def c7p (h:p:=by exact (c8 rfl (c5 rfl d0p trivial (a2P _) rfl))):=h
def a7G (h:p:=by simp only [O1, C5, I8];omega):=h
def d9W (h:p:=by exact (j5 rfl tt rfl c4J rfl c7j de_)):=h
def b3h (h:p:=by exact (j5 rfl tt rfl Tryz.runUnderlying244 rfl b6K de_)):=h
def d4Z (h:p:=by exact (j5 rfl tt rfl b0s rfl b2b de_)):=h
def b3u (h:p:=by exact (j5 rfl tt rfl c0h rfl Tryz.sizeOf110 de_)):=h
def b7N (h:p:=by exact (j5 rfl tt rfl c0h rfl Tryz.sizeOf109 de_)):=h
def c2Z (h:p:=by exact (j5 rfl tt rfl b8U rfl b2b de_)):=h
def R4 (h:p:=by exact ⟨⟨tt, (by conv => lhs;whnf)⟩, ⟨tt, (by conv => lhs;whnf)⟩, tt⟩):=h
def c7F (h:p:=by exact (j5 rfl tt rfl a6N rfl b8E de_)):=h
def b4p (h:p:=by exact (j5 rfl tt rfl b0s rfl a2j de_)):=h
def a4h (h:p:=by exact (a3n rfl tt rfl a8q rfl a2l rfl)):=h
def b2m (h:p:=by exact (j5 rfl tt rfl c3o rfl a2j de_)):=h
def b9P (h:p:=by exact (j5 rfl tt rfl b8U rfl c04 de_)):=h
def c3w (h:p:=by exact (a3n rfl tt rfl a8q rfl t_9 rfl)):=h
def c8v (h:p:=by exact (j5 rfl tt rfl c5C rfl c04 de_)):=h
def b9I (h:p:=by exact (j5 rfl tt rfl a6A rfl b9Y de_)):=h
def b74 (h:p:=by exact (j5 rfl tt rfl a6N rfl t_1 de_)):=h
def c3g (h:p:=by exact (j5 rfl tt rfl b0s rfl t_1 de_)):=h
def b0I (h:p:=by exact (j5 rfl tt rfl b0s rfl t_0 de_)):=h
def c2l (h:p:=by exact (c5 rfl Tryz.call100 ⟨tt, tt⟩ (c0L fl nn hl _) rfl)):=h
def b9j (h:p:=by exact (j5 rfl tt rfl a8q rfl t_0 de_)):=h
def e0L (h:p:=by exact (j5 rfl tt rfl a6N rfl t_0 de_)):=h
def c3s (h:p:=by exact (j5 rfl tt rfl c5O rfl t_1 de_)):=h
def c8h (h:p:=by exact (j5 rfl tt rfl c4J rfl t_1 de_)):=h
def c6J (h:p:=by exact (j5 rfl tt rfl a8q rfl t_1 de_)):=h
def c8s (h:p:=by exact (j5 rfl tt rfl b8U rfl t_1 de_)):=h
def X4 (h:p:=by exact (H4 rfl tt rfl rfl rfl (by first | omega | (simp;omega)))):=h
def a5a (h:p:=by exact (H4 rfl rfl tt rfl rfl (by first | omega | (simp;omega)))):=h
def b1y (h:p:=by exact (j5 rfl tt rfl b6Z rfl t_0 de_)):=h
def a3b (h:p:=by exact (j5 rfl tt rfl c0N rfl t_0 de_)):=h
def a9A (h:p:=by exact (j5 rfl tt rfl b6Q rfl t_1 de_)):=h
def b4e (h:p:=by exact (j5 rfl tt rfl c9g rfl t_1 de_)):=h
def b3j (h:p:=by exact (j5 rfl tt rfl b6Q rfl t_0 de_)):=h
def b3C (h:p:=by exact c8 rfl (o5 rfl tt rfl c1u rfl rfl)):=h
def b7w (h:p:=by exact (u0 ⟨.val _, .val _, .val _, .val _, T6 _ _ _, tt⟩)):=h
def b6Y (h:p:=by cases ph<;>exact ⟨rfl, rfl, n_5 rfl⟩):=h
def c3N (h:p:=by exact (j5 rfl tt rfl a6A rfl t_0 de_)):=h
def d5n (h:p:=by exact c8 rfl (o5 rfl tt rfl c3r rfl rfl)):=h
def d5p (h:p:=by exact c8 rfl (o5 rfl tt rfl b8I rfl rfl)):=h
def c6H (h:p:=by exact c8 rfl (o5 rfl tt rfl c9w rfl rfl)):=h
def a1W (h:p:=by exact (H4 rfl tt tt rfl rfl (by first | omega | (simp;omega)))):=h
def b8R (h:p:=by exact (M3 rfl tt rfl b82 a3C rfl (nb rfl))):=h
def a5d (h:p:=by exact c8 rfl (o5 rfl tt rfl t_9 rfl rfl)):=h
def b1f (h:p:=by exact c8 rfl (o5 rfl tt rfl a2l rfl rfl)):=h
def b3L (h:p:=by exact (M3 rfl tt rfl d1i b7X rfl (nb rfl))):=h
def d0G (h:p:=by exact (M3 rfl tt rfl Tryz.isAgg212 a8O rfl (nb rfl))):=h
def a9l (h:p:=by first | exact a43 (by intro a;rfl) _ | assumption):=h
def c1Y (h:p:=by exact (c5 rfl d1Z ⟨tt, tt⟩ (b8j m om_ _) rfl)):=h
def d5H (h:p:=by rw [hr];exact .tups ⟨.old (.val _), .old (.val _), tt⟩):=h
def U7 (h:p:=by exact (M3 rfl tt rfl c2o b1u rfl (nb rfl))):=h
def F1 (h:p:=by exact c8 rfl (a2S rfl tt (by conv => lhs;whnf))):=h
def a0d (h:p:=by exact (M3 rfl tt rfl c5Q b5f rfl (nb rfl))):=h
def b80 (h:p:=by exact (M3 rfl tt rfl b6J a3w rfl (nb rfl))):=h
def c18 (h:p:=by exact (M3 rfl tt rfl Tryz.isAgg59 b5O rfl (nb rfl))):=h
def c93 (h:p:=by exact (c5 rfl c5N ⟨tt, tt⟩ (a1E x.name _) rfl)):=h
def c8E (h:p:=by exact (W6 rfl tt rfl c12 a4O (nb rfl))):=h
def c6R (h:p:=by exact (c5 rfl Tryz.call270 ⟨tt, tt⟩ (b96 x.k _) rfl)):=h
def c3Q (h:p:=by exact (c5 rfl c4L ⟨tt, tt⟩ (a1D x.a _) rfl)):=h
def c38 (h:p:=by exact (c5 rfl c5j ⟨tt, tt⟩ (a1F x.a _) rfl)):=h
def d7c (h:p:=by exact (c5 rfl Tryz.call29 trivial (b1p _) rfl)):=h
def d5t (h:p:=by exact (c5 rfl Tryz.call84 trivial (b0M _) rfl)):=h
def b7f (h:p:=by exact (N5 rfl tt tt rfl rfl t_7 om_ hb)):=h
def c2A (h:p:=by exact (u0 ⟨.val _, A5 _ [] _, Q7 _ [] _, tt⟩)):=h
def M7 (h:p:=by exact (b2f rfl tt rfl (fun hp => hp) (fun _ => rfl))):=h
def c8l (h:p:=by exact (c8 rfl (o5 rfl tt rfl c3r rfl rfl))):=h
def c6A (h:p:=by exact (c8 rfl (o5 rfl tt rfl c1u rfl rfl))):=h
def c7G (h:p:=by exact (c8 rfl (o5 rfl tt rfl c9S rfl rfl))):=h
def d1l (h:p:=by exact (c8 rfl (o5 rfl tt rfl b9f rfl rfl))):=h
def R7 (h:p:=by exact (b3i rfl tt rfl (fun hp => hp) (fun _ => rfl))):=h
def b7U (h:p:=by exact (c8 rfl (a8k rfl tt (by conv => lhs;whnf)))):=h
def d9k (h:p:=by exact (fun hg => a2L rfl hg rfl rfl rfl (a8a _ _))):=h
def c7y (h:p:=by exact (c8 rfl (o5 rfl tt rfl t_9 rfl rfl))):=h
def b1o (h:p:=by exact (c8 rfl (o5 rfl tt rfl a2l rfl rfl))):=h
def b71 (h:p:=by exact (c5 rfl Tryz.call83 trivial (c0z _) rfl)):=h
def b4c (h:p:=by exact (fun hg => o5 rfl hg rfl Tryz.isAgg117 rfl rfl)):=h
def b0D (h:p:=by exact (fun hg => a2L rfl hg hg rfl rfl (a8a _ _))):=h
def b8x (h:p:=by exact (a0Z rfl tt rfl t_4 rfl rfl)):=h
def e0u (h:p:=by unfold arK;(repeat (first | split))<;>omega):=h
def c21 (h:p:=by exact (a0Z rfl tt rfl t_2 rfl rfl)):=h
def c3u (h:p:=by exact (fun hg => o5 rfl hg rfl c3r rfl rfl)):=h
def d9w (h:p:=by exact (fun hg => o5 rfl hg rfl Tryz.isAgg30 rfl rfl)):=h
def V4 (h:p:=by exact (c8 rfl (a2S rfl tt (by conv => lhs;whnf)))):=h
def a2C (h:p:=by exact (fun hg => o5 rfl hg rfl t_9 rfl rfl)):=h
def a5q (h:p:=by exact (fun hg => o5 rfl hg rfl a2l rfl rfl)):=h
def c9d (h:p:=by rw [hr, V2 (sm_ h2)];rfl):=h
def c3H (h:p:=by rw [O3, a5u];omega):=h
def a4g (h:p:=by first | omega | (simp;done) | (simp;omega)):=h
def c3q (h:p:=by exact (fun hg => c7w rfl hg rfl t_7)):=h
def D6 (h:p:=by exact (fun hg => a2S rfl tt (by conv => lhs;whnf))):=h
def a9j (h:p:=by exact (fun hg => a2S rfl hg (by conv => lhs;whnf))):=h
def d6X (h:p:=by exact (fun hg => a0O rfl hg rfl t_9 rfl)):=h
def a9g (h:p:=by exact c8 rfl (a5S rfl tt rfl rfl)):=h
def c1N (h:p:=by rw [es];simp only [D7]):=h
def H9 (h:p:=by simp [ho, Op.operands, Call.operands]):=h
def P0 (h:p:=by exact (a2L rfl tt rfl rfl rfl (a8a _ _))):=h
def b63 (h:p:=by exact (o5 rfl tt rfl Tryz.isAgg149 rfl rfl)):=h
def c1L (h:p:=by exact (o5 rfl tt rfl Tryz.isAgg117 rfl rfl)):=h
def a80 (h:p:=by exact (u0 ⟨T2 _ ([] : List Fi) _, tt⟩)):=h
def b3w (h:p:=by exact (o5 rfl tt rfl Tryz.isAgg110 rfl rfl)):=h
def b8J (h:p:=by exact (o5 rfl tt rfl Tryz.isAgg109 rfl rfl)):=h
def c2k (h:p:=by exact (o5 rfl tt rfl Tryz.isAgg103 rfl rfl)):=h
def C1 (h:p:=by first | omega | (simp;omega) | simp):=h
def a4Y (h:p:=by exact (o5 rfl tt rfl b9f rfl rfl)):=h
def a2D (h:p:=by exact (a8k rfl rfl (by conv => lhs;whnf))):=h
def a7u (h:p:=by exact (a2L rfl tt tt rfl rfl (a8a _ _))):=h
def b62 (h:p:=by exact (o5 rfl tt rfl b8I rfl rfl)):=h
def b9M (h:p:=by exact (o5 rfl tt rfl c3r rfl rfl)):=h
def c3k (h:p:=by exact (o5 rfl tt rfl c9S rfl rfl)):=h
def b4z (h:p:=by exact (a2L rfl tt tt rfl rfl (b2j _ _))):=h
def b3M (h:p:=by exact (o5 rfl tt rfl Tryz.isAgg36 rfl rfl)):=h
def a1b (h:p:=by exact (a8k rfl tt (by conv => lhs;whnf))):=h
def a7l (h:p:=by exact (fun hg => a0M rfl hg rfl rfl rfl rfl)):=h
def a7h (h:p:=by first | omega | (simp at hg;omega)):=h
def Q3 (h:p:=by exact (o5 rfl tt rfl t_9 rfl rfl)):=h
def a1n (h:p:=by exact (o5 rfl tt rfl a2l rfl rfl)):=h
def Q2 (h:p:=by exact (c7w rfl tt rfl t_7)):=h
def a1o (h:p:=by cases ph<;>exact ⟨rfl, rfl, de_⟩):=h
def a18 (h:p:=by exact c8 rfl (b4A rfl tt rfl)):=h
def b39 (h:p:=by exact (fun hg => a0M rfl hg hg rfl rfl rfl)):=h
def d5o (h:p:=by exact (a2S rfl rfl (by conv => lhs;whnf))):=h
def b89 (h:p:=by exact (o5 rfl tt rfl a2l hk rfl)):=h
def B2 (h:p:=by exact (a2S rfl tt (by conv => lhs;whnf))):=h
def a8b (h:p:=by exact (a0O rfl tt rfl a2l rfl)):=h
def a6w (h:p:=by exact (a0O rfl tt rfl t_9 rfl)):=h
def b4v (h:p:=by exact (c8 rfl (a5S rfl tt rfl rfl))):=h
def a7N (h:p:=by first | exact Y8 _ _ | rfl):=h
def b84 (h:p:=by have := B7 bL.1;omega):=h
def l9 (h:p:=by exact (b59 rfl tt rfl rfl rfl om_ om_)):=h
def a84 (h:p:=by first | omega | (simp;omega)):=h
def V3 (h:p:=by exact (b1T rfl tt rfl rfl rfl om_ om_)):=h
def a4n (h:p:=by exact (b59 rfl tt tt rfl rfl om_ om_)):=h
def a4f (h:p:=by rw [a5u];omega):=h
def a9h (h:p:=by exact (b1T rfl tt tt rfl rfl om_ om_)):=h
def b65 (h:p:=by rw [S5 gy dW];decide):=h
def b8C (h:p:=by rw [O3];omega):=h
def c86 (h:p:=by show [].length <= 8;decide):=h
def a0c (h:p:=by exact (a0M rfl tt rfl rfl rfl rfl)):=h
def b7x (h:p:=by exact (c8 rfl (b4A rfl tt rfl))):=h
def a9q (h:p:=by simp [A9.add, <- hr.len]):=h
def b3B (h:p:=by exact (u0 ⟨N7 _ _ _, tt⟩)):=h
def b00 (h:p:=by exact (u0 ⟨.val _, .val _, tt⟩)):=h
def Q4 (h:p:=by exact (u0 ⟨T2 _ _ _, tt⟩)):=h
def a4m (h:p:=by exact (u0 ⟨V0 _ _ _, tt⟩)):=h
def b1t (h:p:=by exact (a0M rfl tt tt rfl rfl rfl)):=h
def a6u (h:p:=by exact (fun hg => c3D rfl hg rfl)):=h
def w9 (h:p:=by simp [ho, Op.operands]):=h
def a9o (h:p:=by exact (a5S rfl tt rfl rfl)):=h
def a5B (h:p:=by exact ⟨tt, _, _, rfl, om_, om_⟩):=h
def a4k (h:p:=by first | omega | simp):=h
def j3 (h:p:=by conv => lhs;whnf):=h
def P5 (h:p:=by cases ph<;>rfl):=h
def b06 (h:p:=by exact ⟨tt, tt, tt, rfl, tt⟩):=h
def a2r (h:p:=by exact ⟨tt, tt, tt, tt, tt⟩):=h
def a21 (h:p:=by exact (P6 _ [] false)):=h
def z6 (h:p:=by exact (fun _ _ => nb rfl)):=h
def a6k (h:p:=by exact (b4A rfl tt rfl)):=h
def T3 (h:p:=by exact (Y1 _ _ _ _)):=h
def a4p (h:p:=by exact ⟨tt, rfl, rfl, tt⟩):=h
def c99 (h:p:=by exact (c3D rfl tt rfl)):=h
def a9i (h:p:=by exact (b4O (nb rfl))):=h
def a2u (h:p:=by exact ⟨tt, tt, rfl, tt⟩):=h
def a2o (h:p:=by exact (A5 _ [] _)):=h
def c2S (h:p:=by rw [hr];rfl):=h
def C8 (h:p:=by exact ⟨tt, tt, tt, tt⟩):=h
def L4 (h:p:=by simp;omega):=h
def W4 (h:p:=by exact (b03 _ _ _)):=h
def Y2 (h:p:=by exact (A5 _ _ _)):=h
def a1c (h:p:=by exact (W8 _ _ _)):=h
def j6 (h:p:=by exact (.inr ⟨_, rfl⟩)):=h
def o7 (h:p:=by kernel_rfl):=h
def a3y (h:p:=by exact (T2 _ _ _)):=h
def a0B (h:p:=by exact (fun _ => rfl)):=h
def B8 (h:p:=by exact (a4E _ _)):=h
def o6 (h:p:=by exact ⟨tt, rfl, tt⟩):=h
def a1Q (h:p:=by simp [e]):=h
def j1 (h:p:=by exact ⟨tt, tt, tt⟩):=h
def k8 (h:p:=by exact ⟨tt, rfl⟩):=h
def a0m (h:p:=by exact ⟨tt, ur_⟩):=h
def uo_ (h:p:=by first|exact .val _|exact .ptr (nb rfl)|exact .map (nb rfl)|exact T2 _ _ _|exact A5 _ _ _|exact N7 _ _ _|exact Y1 _ _ _ _|exact V0 _ _ _|exact a1t _ _|exact Q7 _ _ _|exact T6 _ _ _|exact (b8g _ _).old|exact (by first|exact X5 _ _|exact T6 _ _ _|exact W8 _ _ _|exact A5 _ _ _|exact a0P _ _ _)|exact (O7 ([]:List Int) false).old|exact (O7 _ _).old|exact .vec (nb rfl)|exact P6 _ _ _|exact b0C _ _|exact b0y _ _ _|exact c8D|exact a0P _ _ _|exact c3x _ [] _|exact W8 _ _ _):=h
def uz_ (h:p:=by intro a ha;repeat' (first|exact .val _|exact .ptr (nb rfl)|exact .map (nb rfl)|exact tt|exact A5 _ _ _|exact P6 _ _ _|exact T6 _ _ _|exact Q7 _ _ _|exact De.old _ _|exact Ex.old _ _|exact .vec (nb rfl)|exact b0C _ _|exact Src.old _ _|exact T2 _ _ _|exact (O7 _ _).old|exact (by first|exact X5 _ _|exact T6 _ _ _|exact A5 _ _ _|exact a0P _ _ _)|exact (O7 ([]:List Int) false).old|exact b0y _ _ _|exact d0x _ _ _|exact Y1 _ _ _ _|exact (by first|exact A5 _ _ _|exact a1t _ _)|exact a0P _ _ _|exact V0 _ _ _|exact (r6 (cs:=[_,_,_,_]) ⟨.val _,.val _,.val _,.val _,tt⟩).old|exact (by first|exact .vec (nb rfl)|exact d1C _|exact A5 _ _ _)|exact (by first|exact X5 _ _|exact c7W _ _ _|exact T6 _ _ _|exact A5 _ _ _|exact a0P _ _ _)|exact (a14 _ _).old|exact (J2 _ _).old|exact a0v _ _|exact a4E _ _|exact Y9 _ _|exact c3x _ _ _|exact A5 _ [] _|exact b0f (nb rfl) (nb rfl) (nb rfl)|exact (by first|exact a3O (nb rfl)|exact a4E _ _|exact c7W _ _ _|exact u0 (show b48 _ _ from ⟨.val _,.val _,.val _,.val _,tt⟩))|exact (by first|exact A5 _ _ _|exact T6 _ _ _|exact a1t _ _)|exact Q7 _ [] _ | refine u0 ?_ | refine ⟨?_,?_⟩)):=h
def pu_ (h:p:=by repeat' (first|exact .val _|exact O7 _ _|exact F5 _ _|exact a0q _ _|exact a49 _ _|exact a00 _ _|exact J2 _ _|exact a5M _ _|exact a1d _ _|exact b8m _ _|exact a14 _ _|exact a3q _ _|exact tt | refine r6 ?_ | refine D4 ?_ | refine ⟨?_,?_⟩)):=h
def ur_ (h:p:=by first|exact .ptr rfl|exact .map rfl|exact .vec rfl|exact .same rfl uo_|exact C7.grow (f:=Ky.cv) (fun _=>⟨.val _,.val _,.val _,tt⟩) rfl|exact C7.grow (f:=scv) (fun _=>⟨.val _,tt⟩) rfl|exact K4 (f:=Ky.cv) (fun _=>⟨.val _,.val _,.val _,tt⟩) _|exact K4 (f:=scv) (fun _=>⟨.val _,tt⟩) _|exact .same rfl (A5 _ ([]:List Str) _)|exact C7.grow (f:=Tok.cv) (fun _=>⟨.val _,.val _,.val _,.val _,tt⟩) rfl|exact C7.grow (f:=Fi.cv) (fun _=>⟨.val _,.val _,tt⟩) rfl|exact C7.grow (f:=Sn.cv) (fun _=>⟨.val _,.val _,tt⟩) rfl|exact .same rfl (N7 _ ([]:List Ky) _)|exact C7.grow (f:=icv) (fun _=>⟨.val _,tt⟩) rfl|exact C7.grow (f:=bcv) (fun _=>⟨.val _,tt⟩) rfl|exact (by exact .vec rfl)|exact .same rfl (O7 ([]:List Int) false).old|exact C7.grow (f:=En.cells) (fun _=>⟨.val _,.val _,.val _,.val _,.val _,.val _,tt⟩) rfl|exact .same rfl (W8 _ ([]:List Tok) _)):=h
def ut_ (h:p:=by repeat' (first|exact tt | refine ⟨?_,?_⟩|exact ur_|exact rfl)):=h
def uq_ (h:p:=by repeat' (first|exact tt|exact .inl rfl|refine ⟨?_,?_⟩|(refine .inr ⟨_,rfl,.same rfl ?_⟩;first|exact a4E _ _|exact u0 ⟨T2 _ _ _,tt⟩|exact b0f (by decide) (by decide) (by decide)|exact Y9 _ _|exact Y1 _ _ _ _|exact u0 ⟨V0 _ _ _,tt⟩|exact a0v _ _|exact u0 (a3M _)|exact a3O (nb rfl)|exact b03 _ _ _|exact b4O (nb rfl)|exact b9c a52 a3s _ _ _|exact Src.old _ _|exact u0 ⟨.val _,.val _,.val _,.val _,tt⟩|exact u0 ⟨.val _,.val _,A5 _ [] _,P6 _ [] _,tt⟩|exact u0 ⟨.val _,.val _,A5 _ _ _,P6 _ _ _,tt⟩|exact u0 ⟨.val _,A5 _ _ _,Q7 _ _ _,tt⟩|exact u0 ⟨.val _,tt⟩|exact u0 ⟨A5 _ _ _,tt⟩|exact d3l (by decide)|exact b9c Nm.pure En.pure _ _ _|exact a3O (by decide)|exact u0 ⟨.val _,.val _,.val _,.val _,T6 _ [] _,tt⟩|exact u0 ⟨N7 _ ([]:List Ky) _,tt⟩|exact u0 ⟨N7 _ _ _,tt⟩|exact b0y _ _ _|exact b03 4 0 b.length))):=h
def sp_ (h:q->p:=by intro U;simpa using U):=h U
def sm_ (h:q->p:=by intro U;simp at U;omega):=h U
theorem gx_ {α:Type} (l:List α) (i:Nat) (h:i < l.length:=by omega):∃ b,l[i]? = some b:=⟨l[i],by simp⟩
def tu_ (h:p:=by repeat' (first|exact tt|exact rfl | refine ⟨?_,?_⟩)):=h
def do_ (h:p:=by dsimp only;omega):=h
def om_ (h:p:=by omega):=h
def si_ (h:p:=by simp):=h
def de_ (h:p:=by decide):=h
theorem ab_ (n:¬p:=by decide) (h:p):q:=absurd h n
def z_0 (h:q->p:=by intro U;refine F9 ?_;refine G5 ?_;exact U):=h U
def z_1 (h:q->p:=by intro U;refine qD (p8 rfl a2R rfl j6 ?_);refine qD (j2 rfl tt tt rfl j3 a3C j6 rfl rfl (nb rfl) ?_);exact U):=h U
def z_2 (h:q->p:=by intro U;refine qD (j2 rfl tt tt rfl j3 a3C j6 rfl rfl (nb rfl) ?_);refine c6 ?_;exact U):=h U
def z_3 (h:q->p:=by intro U;refine cY a1b ?_;refine x9 ?_;exact U):=h U
def z_4 (h:q->p:=by intro U;refine z_0 ?_;refine cY B2 ?_;exact U):=h U
def z_6 (h:Qz q->p:=by intro U;refine qY l9 ?_;refine qD (j2 rfl tt tt rfl j3 t_1 (.inl rfl) rfl rfl (nb rfl) ?_);exact U tt):=h fun _=>U
def z_7 (h:q->p:=by intro U;refine qD (p8 rfl a9K rfl j6 ?_);refine qD (j2 rfl tt tt rfl j3 a4O j6 rfl rfl (nb rfl) ?_);exact U):=h U
def z_9 (h:q->p:=by intro U;refine j4 ?_;refine c6 ?_;exact U):=h U
def e0e (h:p:=by refine qY l9 ?_;exact ⟨(j+1),[0,1,2,3,4,5,6,7],⟨om_,om_⟩,⟨rfl,rfl⟩,ut_,(by repeat' (first|exact tt|exact .inl rfl|exact .inr ⟨_,rfl,.same rfl B8⟩|exact .inr ⟨_,rfl,.same (aO _ _ _) B8⟩|exact .inr ⟨_,rfl,.same rfl (by repeat' (first|exact tt|exact .val _|exact .ptr (nb rfl)|exact .map (nb rfl)|exact N7 _ _ _|exact Y1 _ _ _ _|exact T2 _ _ _|exact V0 _ _ _|exact a1t _ _ | refine u0 ?_ | refine ⟨?_,?_⟩))⟩|exact .inr ⟨_,rfl,.box (by repeat' (first|exact tt|exact .same rfl uo_|exact .ptr rfl|exact .map rfl|exact .vec rfl|exact C7.grow (f:=Ky.cv) (fun _=>⟨.val _,.val _,.val _,tt⟩) rfl|exact K4 (f:=Ky.cv) (fun _=>⟨.val _,.val _,.val _,tt⟩) _ | refine ⟨?_,?_⟩))⟩ | refine ⟨?_,?_⟩))⟩):=h
def c0f (h:q->p:=by intro U;refine qD (p8 rfl b5b rfl j6 ?_);refine qD (j2 rfl tt tt rfl j3 a8O j6 rfl rfl (nb rfl) ?_);exact U):=h U
def d3n (h:q->p:=by intro U;refine a9D (i:=9) o7 rfl rfl (j2 rfl tt tt rfl j3 c9t (.inl rfl) rfl rfl (nb rfl) ?_);refine ⟨⟨ab_,ab_,ab_,ab_,tt⟩,?_⟩;exact U):=h U
def c5X (h:q->p:=by intro U;refine qD (j2 rfl tt tt rfl j3 t_0 (.inl rfl) rfl rfl (nb rfl) ?_);refine qD (j2 rfl tt tt rfl j3 t_5 j6 rfl rfl (nb rfl) ?_);exact U):=h U
def a3G (h:q->p:=by intro U;refine qG a7l ?_;refine qY M7 ?_;exact U):=h U
def a9J (h:q->p:=by intro U;refine qD (G8 rfl tt j3 j6 ?_);refine qD (G8 rfl tt j3 j6 ?_);exact U):=h U
def b4K (h:p:=by refine qY l9 ?_;exact ⟨(i+1),_,⟨om_,om_⟩,tu_,rfl⟩):=h
def X2 (h:q->p:=by intro U;refine a6P ?_;refine qo ?_;exact U):=h U
def a2Q (h:q->p:=by intro U;refine qG D6 ?_;refine qG D6 ?_;exact U):=h U
def b1Y (h:p:=by refine qY l9 ?_;exact ⟨(i+1),_,⟨om_,om_,hr⟩,tu_,rfl⟩):=h
def a98 (h:p:=by refine c6 ?_;exact ⟨_,rE1,_,_,rfl,rfl,j8 q_4⟩):=h
def a5g (h:q->p:=by intro U;refine hY B2 ?_;refine hY a6k ?_;exact U):=h U
def c4N (h:q->p:=by intro U;refine qD (p8 rfl a3V rfl j6 ?_);refine qD (j2 rfl tt tt rfl j3 a3w j6 rfl rfl (nb rfl) ?_);exact U):=h U
def a4c (h:q->p:=by intro U;refine qG a7l ?_;refine qY R7 ?_;exact U):=h U
def c95 (h:p:=by refine c6 ?_;exact ⟨_,rE1,_,_,rfl,rfl,(.tok (fun r hr c hc=>(C4 (f:=scv) (fun _=>O4.all ⟨.val _,tt⟩) _) r hr c hc))⟩):=h
def c0I (h:q->p:=by intro U;refine F2 rfl rfl b7U ⟨tt,?_⟩;refine b5t ?_;exact U):=h U
def b2r (h:q->p:=by intro U;refine x9 ?_;refine F9 ?_;exact U):=h U
def b2I (h:p:=by refine c6 ?_;exact ⟨_,rE1,_,_,rfl,rfl,D2 e0p⟩):=h
def c9b (h:p:=by refine z_2 ?_;exact ⟨_,r9 (rs:=[.cell 4 231,.tmp 5,.tmp 6]) (cs:=[_,_,_]) rfl b1R (n_5 rfl),q_5⟩):=h
def a6Y (h:q->p:=by intro U;refine chf rfl V4 ?_;refine chf rfl V4 ?_;exact U):=h U
def a1O (h:q->p:=by intro U;refine z_3 ?_;refine c6 ?_;exact U):=h U
def c4z (h:q->p:=by intro U;refine cY B2 ?_;refine de rfl b0W a2u (a0u _ _ de_ (q:=0) (s:=2) ⟨rfl,rfl,de_⟩) rfl ?_;exact U):=h U
def c4I (h:q->p:=by intro U;refine cY B2 ?_;refine cG D6 ?_;exact U):=h U
def a2G (h:Qz q->p:=by intro U;refine qY a5a ?_;refine qY X4 ?_;exact U tt):=h fun _=>U
def d3y (h:q->p:=by intro U;refine qD (p8 rfl Z1 rfl j6 ?_);refine qD (j2 rfl tt tt rfl j3 t_5 j6 rfl rfl (nb rfl) ?_);exact U):=h U
def d1p (h:q->p:=by intro U;refine qD (p8 rfl c6b rfl j6 ?_);refine qD (j2 rfl tt tt rfl j3 b1u j6 rfl rfl (nb rfl) ?_);exact U):=h U
def c5w (h:p:=by refine c6 ?_;exact ⟨_,rE1,⟨(_,p1),a2h rfl T3 (.old (.val _)),b6s,do_,do_⟩⟩):=h
def a6R (h:q->p:=by intro U;refine G5 ?_;refine cY B2 ?_;exact U):=h U
def e0P (h:Qz q->p:=by intro U;refine a9D (i:=7) o7 rfl rfl (d_y d6D ?_);refine ⟨⟨ab_,ab_,ab_,ab_,tt⟩,?_⟩;exact U tt):=h fun _=>U
def b8u (h:p:=by refine c6 ?_;exact ⟨_,rE1,_,_,rfl,rfl,D2 c2S⟩):=h
def c4G (h:q->p:=by intro U;refine qD (j2 rfl tt tt rfl j3 a3w j6 rfl rfl (nb rfl) ?_);refine c6 ?_;exact U):=h U
def c0Q (h:p:=by refine c6 ?_;exact ⟨_,rE1,_,_,rfl,rfl,D2 rfl⟩):=h
def d3p (h:p:=by refine z_2 ?_;exact ⟨_,r9 (rs:=[.cell 4 231,.tmp 5,.tmp 6]) (cs:=[_,_,_]) rfl b1R (n_5 rfl),q_6⟩):=h
def b5Q (h:q->p:=by intro U;refine C9 ?_;refine F9 ?_;exact U):=h U
def d9x (h:p:=by refine d3n ?_;exact ⟨by kernel_rfl,(l1++(ev.map B9++ew.map B9)),[0,1,2,3,4,5,6,7],⟨hll,gP l1 bX⟩,⟨rfl,rfl⟩,c2V,.inr ⟨_,rfl,.same rfl Q4⟩,.inr ⟨_,rfl,.same rfl a4m⟩,.inr ⟨_,rfl,.same rfl Q4⟩,.inr ⟨_,rfl,.same rfl a4m⟩,.inl rfl,.inl rfl,.inl rfl,.inr ⟨_,rfl,.same rfl b3B⟩,tt⟩):=h
def b2U (h:q->p:=by intro U;refine qs 1 (qD (G8 rfl tt j3 j6 ?_));exact U):=h U
def c6i (h:q->p:=by intro U;refine cG a7l ?_;refine cY M7 ?_;exact U):=h U
def d9Q (h:q->p:=by intro U;refine qk ?_;refine j7 hCC (α:=Nat) (fun k=>[(3,(.vec 0 0 st.length)),(4,iv i),(5,.ptr 1 0),(6,iv x.args.length),(7,iv k),(8,(.list (E.map Ex.cv) en none)),(9,iv E.length),(10,iv i)]) (fun _=>[(.vec 1 ((st++rest).map icv)),.box x.cells]) (fun k=>k<=x.args.length) (fun k=>x.args.length - k) 0 (n_4 _) tu_ (ah:=[]) rfl z6 uz_ ?_;exact U):=h U
def b2H (h:q->p:=by intro U;refine z_0 ?_;refine cD (G8 rfl tt j3 j6 ?_);exact U):=h U
def b2E (h:q->p:=by intro U;refine cY a0c ?_;refine x9 ?_;exact U):=h U
def d4z (h:q->p:=by intro U;refine qD (p8 rfl a9Y rfl j6 ?_);refine qD (j2 rfl tt tt rfl j3 b5O j6 rfl rfl (nb rfl) ?_);exact U):=h U
def c8T (h:q->p:=by intro U;refine cD (j2 rfl tt tt rfl j3 a2j (.inl rfl) rfl rfl (nb rfl) ?_);refine x9 ?_;exact U):=h U
def a8A (h:q->p:=by intro U;refine ⟨tt,?_⟩;refine b5t ?_;exact U):=h U
def b2L (h:q->p:=by intro U;refine chf rfl V4 ?_;refine chf rfl b7x ?_;exact U):=h U
def d1q (h:q->p:=by intro U;refine qY b2l ?_;refine qD (j2 rfl tt tt rfl j3 a8O j6 rfl rfl (nb rfl) ?_);exact U):=h U
def c69 (h:q->p:=by intro U;refine qD (j2 rfl tt tt rfl j3 b1u j6 rfl rfl (nb rfl) ?_);refine c6 ?_;exact U):=h U
def d7I (h:q->p:=by intro U;refine qN [rbx T n2 a2 e2 ps b 1,o9 e2 b.length,.box (tk T n).cells] rfl (qD (c4 rfl a4w o6 (N9 hT y2 hW [41] ⟨rfl,rfl,de_⟩) rfl ?_));exact U):=h U
def d0h (h:q->p:=by intro U;refine cY a0c ?_;refine z_3 ?_;exact U):=h U
def d9i (h:q->p:=by intro U;refine qY c3Y ?_;refine j7 hCC (α:=Nat) (fun i=>[(1,(sv s)),(9,(.list (l.map Va.cv) nn none)),(10,iv l.length),(11,iv i)]) (fun _=>[.box (G6 l nn)]) (fun i=>i<=l.length/\a0k l s=a0k (l.drop i) s) (fun i=>l.length - i) 0 ⟨n_4 _,rfl⟩ tu_ (ah:=[]) rfl z6 uz_ ?_;exact U):=h U
def d3v (h:q->p:=by intro U;refine D9 ?_;refine B1 rfl rfl rfl (j2 rfl tt tt rfl j3 a3w j6 rfl rfl (nb rfl) ?_);exact U):=h U
def d9P (h:q->p:=by intro U;refine qY J3 ?_;refine j7 hCC (α:=Nat) (fun i=>[(1,(sv u)),(7,(.list (l.map scv) nn none)),(8,iv l.length),(9,iv i)]) (fun _=>[]) (fun i=>i<=l.length/\decide (u∈l)=decide (u∈l.drop i)) (fun i=>l.length - i) 0 ⟨n_4 _,rfl⟩ tu_ (ah:=[]) rfl z6 uz_ ?_;exact U):=h U
def b5U (h:q->p:=by intro U;refine hY B2 ?_;refine hY B2 ?_;exact U):=h U
def c5S (h:q->p:=by intro U;refine x9 ?_;refine a12 ?_;exact U):=h U
def d8e (h:p:=by refine cY b8R ?_;exact a2N rfl rfl (P3 rfl a47 o6 (P2 _ _ _) rfl (fun _ _=>.inr ⟨(_,_),j9,af,si_⟩))):=h
def d2l (h:q->p:=by intro U;refine qD (p8 rfl c6b rfl j6 ?_);refine qD (p8 rfl c6b rfl j6 ?_);exact U):=h U
def d2s (h:q->p:=by intro U;refine qN [rbx T n3 a6 e6 ps b6 3,.dead,.box (tk T n).cells,o9 e6 b6.length] rfl ?_;refine c6 ?_;exact U):=h U
def d7l (h:q->p:=by intro U;refine cY b4p ?_;refine cY a4Y ?_;exact U):=h U
def c5K (h:q->p:=by intro U;refine qG d5T ?_;refine qG a5q ?_;exact U):=h U
def a6S (h:q->p:=by intro U;refine qk (qY Q2 ?_);exact U):=h U
def a7x (h:q->p:=by intro U;refine z_4 ?_;refine cY B2 ?_;exact U):=h U
def c6M (h:p:=by refine c6 ?_;exact ⟨_,rE1,_,_,rfl,rfl,D2 e0u⟩):=h
def e0B (h:q->p:=by intro U;refine K3 [rbx T n6 x1 y1 [] [] 2,o9 0 b.length,o9 y1 ([]:List Ex).length,.dead,.box (⟨0,[],[],[]⟩:De).cells,.box [iv kd,(sv s2),.list (l.map scv) (gnn l.length) (C2 l.length 6),.list [] false none],o8 l.length] rfl ?_;refine x9 ?_;exact U):=h U
def d1c (h:p:=by refine c6 ?_;exact ⟨_,rE1,_,_,rfl,rfl,j8 rfl⟩):=h
def d4h (h:q->p:=by intro U;refine cD (j2 rfl tt tt rfl j3 b5O j6 rfl rfl (nb rfl) ?_);refine x9 ?_;exact U):=h U
def d2U (h:q->p:=by intro U;refine qG d9k ?_;refine qY M7 ?_;exact U):=h U
def d0l (h:p:=by refine c6 ?_;exact ⟨_,rE1,_,_,rfl,rfl,D8 rfl⟩):=h
def d2F (h:q->p:=by intro U;refine qH rfl rfl (fun hk hg=>a0M rfl ⟨hk,hg⟩ rfl rfl rfl rfl) ?_;refine qG c22 ?_;exact U):=h U
def b8L (h:Qz q->p:=by intro U;refine qY c7u ?_;refine qD (p8 rfl a6h rfl j6 ?_);refine qD (j2 rfl tt tt rfl j3 a4a j6 rfl rfl (nb rfl) ?_);exact U tt):=h fun _=>U
def d8H (h:Qz q->p:=by intro U;refine ⟨⟨ab_,ab_,ab_,ab_,tt⟩,?_⟩;refine e0P ?_;exact U tt):=h fun _=>U
def a8v (h:Qz q->p:=by intro U;refine G5 ?_;refine cY l9 ?_;refine cY B2 ?_;refine x9 ?_;exact U tt):=h fun _=>U
def d3h (h:q->p:=by intro U;refine ⟨⟨a08,F1,tt⟩,?_⟩;refine F2 rfl rfl d4s ⟨⟨a08,tt⟩,?_⟩;exact U):=h U
def d9U (h:Qz q->p:=by intro U;refine qY e06 ?_;refine qD (a35 (l:=b) (new:=[UInt8.ofNat m]) (p:=k) rfl tt tt rfl (b1N (d1A ft)) X7 a1w b1j a4d rfl (.inl X7) rfl (a7X _ _) a84 ?_);exact U tt):=h fun _=>U
def d7t (h:Qz q->p:=by intro U;refine qY d7c ?_;refine qD (c4 rfl a3l j1 (H7 l nn (k+2) _ 0 rfl om_ hl Y4 de_ de_) rfl ?_);exact U tt):=h fun _=>U
def c8V (h:Qz q->p:=by intro U;refine U3 rfl rfl tt rfl D6 ?_;refine U3 rfl rfl tt rfl d2u ?_;exact U tt):=h fun _=>U
def b1x (h:q->p:=by intro U;refine cY a2D ?_;refine x9 ?_;exact U):=h U
def d7p (h:q->p:=by intro U;refine qG d9L ?_;refine qG a2C ?_;exact U):=h U
def c8e (h:q->p:=by intro U;refine hY c7F ?_;refine hY b62 ?_;exact U):=h U
def d9a (h:q->p:=by intro U;refine a4V rfl rfl (fun h=>h) rfl (fun hk hg=>a3j rfl ⟨hk,hg⟩ rfl b6b rfl t_0 de_) ?_;refine a4V rfl rfl (fun h=>h) rfl (fun hk hg=>a0O rfl ⟨hk,hg⟩ rfl t_9 rfl) ?_;exact U):=h U
def d8M (h:q->p:=by intro U;refine cF [] [0,1,2,3,4] (tl:=[(5,[0,1,2]),(6,[0,1]),(7,[0]),(8,[]),(9,[])]) ?_;refine chf rfl a4W ?_;exact U):=h U
def e0l (h:q->p:=by intro U;refine K3 [rbx T n2 a2 e2 [] [] 2,o9 0 b.length,o9 e2 ([]:List Ex).length,.box (⟨pk,im,bs⟩:Src).cells,.box (⟨0,[],[],[]⟩:De).cells,.box (⟨kd,[],[],[]⟩:De).cells] rfl ?_;refine cY b0I ?_;exact U):=h U
def d3s (h:p:=by refine c6 ?_;exact ⟨_,rE1,_,_,rfl,rfl,j8 dX.symm⟩):=h
def d7H (h:p:=by refine c6 ?_;exact ⟨_,rE1,⟨(_,p+2),a2h rfl T3 (.old (.val _)),b6s,do_,do_⟩⟩):=h
def d9g (h:q->p:=by intro U;refine a4V rfl rfl (fun h=>h) rfl (fun hk hg=>j5 rfl tt rfl b8Q rfl b8q de_) ?_;refine a4V rfl rfl (fun h=>h) rfl (fun hk hg=>o5 rfl ⟨hk,hg⟩ rfl c9w rfl rfl) ?_;exact U):=h U
def d9N (h:q->p:=by intro U;refine a4V rfl rfl (fun h=>h) rfl (fun hk hg=>j5 rfl tt rfl b6b rfl t_0 de_) ?_;refine a4V rfl rfl (fun h=>h) rfl (fun hk hg=>o5 rfl ⟨hk,hg⟩ rfl t_9 rfl rfl) ?_;exact U):=h U
def a4X (h:q->p:=by intro U;refine b5Q ?_;refine a12 ?_;exact U):=h U
def c2h (h:q->p:=by intro U;refine c6i ?_;refine cY B2 ?_;exact U):=h U
def a4T (h:Qz q->p:=by intro U;refine qk (qY l9 ?_);exact U tt):=h fun _=>U
def d5g (h:p:=by refine c6 ?_;exact ⟨_,C6 rfl b9W,⟨(⟨(1+K2 l k 7),u,[]⟩,k+3),_,_,rfl,rfl,U2 rfl pu_,⟨(H6 (.inr (.inr (.inr (.inl hu))))),c86⟩,do_⟩⟩):=h
def d6A (h:p:=by refine c6 ?_;exact ⟨_,C6 rfl b9W,⟨(⟨(1+K2 l k 7),u,[]⟩,k+3),_,_,rfl,rfl,U2 rfl pu_,⟨(H6 (.inr (.inr (.inr (.inr hu))))),c86⟩,do_⟩⟩):=h
def c3C (h:q->p:=by intro U;refine qH rfl rfl (fun hk hg=>c3D rfl ⟨hk,hg⟩ rfl) ?_;refine qG c22 ?_;exact U):=h U
def c3f (h:p:=by refine c6 ?_;exact ⟨_,rE1,(by exact a1N rfl (.val _))⟩):=h
def a7I (h:q->p:=by intro U;refine qG D6 ?_;refine qG c3q ?_;exact U):=h U
def a4N (h:q->p:=by intro U;refine z_4 ?_;refine cY a6k ?_;exact U):=h U
def d5O (h:q->p:=by intro U;refine ⟨⟨fun _=>by exact c8 rfl U7,fun _=>by exact c8 rfl U7,fun _=>by exact c8 rfl c2l,fun _=>by exact c8 rfl a0c,tt⟩,?_⟩;refine d7N (i:=6) o7 rfl e01 ?_;exact U):=h U
def a3p (h:q->p:=by intro U;refine z_0 ?_;refine d0h ?_;exact U):=h U
def d6T (h:q->p:=by intro U;refine c4I ?_;refine cY M7 ?_;exact U):=h U
def d6O (h:q->p:=by intro U;refine qY a4h ?_;refine qD (c4 rfl b0W a2u (a0u _ _ de_ ⟨rfl,rfl,de_⟩) rfl ?_);exact U):=h U
def d0c (h:q->p:=by intro U;refine cY c3g ?_;refine cD (j2 rfl tt rfl rfl j3 t_1 (.inl rfl) rfl rfl (nb rfl) ?_);exact U):=h U
def d0I (h:Qz q->p:=by intro U;refine qD (j2 rfl tt tt rfl j3 b8o (.inl rfl) rfl rfl (nb rfl) ?_);refine qY l9 ?_;exact U tt):=h fun _=>U
def c8F (h:p:=by refine a1O ?_;exact ⟨_,rE1,_,_,rfl,rfl,j8 (by simp [e1,e2,e3,e4])⟩):=h
def d5v (h:p:=by refine c6 ?_;exact ⟨_,C6 rfl a3c,⟨(a6f fl ⟨sp,s⟩,p4),a2h rfl T3 (.old (S3 _ _).old),(hm.mono om_).ins (hspa) do_,do_,do_⟩⟩):=h
def c2O (h:q->p:=by intro U;refine U3 rfl rfl tt rfl d0y ?_;refine U3 rfl rfl tt rfl a2C ?_;exact U):=h U
def c3E (h:q->p:=by intro U;refine U3 rfl rfl tt rfl d9l ?_;refine U3 rfl rfl tt rfl d9w ?_;exact U):=h U
def b7l (h:q->p:=by intro U;refine qG D6 ?_;refine qG b0D ?_;refine qY M7 ?_;exact U):=h U
def d0N (h:q->p:=by intro U;refine U3 rfl rfl tt rfl (fun hg=>a2L rfl hg hg rfl rfl (c6W _ _)) ?_;refine hY M7 ?_;exact U):=h U
def b3x (h:q->p:=by intro U;refine chf rfl d9Z ?_;refine chf rfl c7y ?_;exact U):=h U
def d0w (h:q->p:=by intro U;refine B1 rfl rfl rfl (j2 rfl tt tt rfl j3 b1u j6 rfl rfl (nb rfl) ?_);refine ⟨tt,?_⟩;refine b5t ?_;exact U):=h U
def d5j (h:q->p:=by intro U;refine a9D (i:=7) o7 rfl rfl (G8 rfl tt j3 j6 ?_);refine ⟨⟨ab_,ab_,ab_,ab_,tt⟩,?_⟩;exact U):=h U
def c6U (h:q->p:=by intro U;refine cD (j2 rfl tt tt rfl j3 a4O j6 rfl rfl (nb rfl) ?_);refine x9 ?_;exact U):=h U
def d7k (h:p:=by refine c6 ?_;exact ⟨_,rE1,_,_,rfl,rfl,j8 (show true=decide (u∈l) from (a2a (hw ▸ n_2 hb)).symm)⟩):=h
def d5y (h:q->p:=by intro U;refine qH rfl rfl (fun hk hg=>j5 rfl tt rfl a8q rfl t_0 de_) ?_;refine qH rfl rfl (fun hk hg=>o5 rfl ⟨hk,hg⟩ rfl t_9 rfl rfl) ?_;exact U):=h U
def d0J (h:q->p:=by intro U;refine qN [rbx T n3 a3 e3 ps b 1,o9 e3 b.length,.box (tk T n).cells] rfl (qY e1e ?_);exact U):=h U
def d5D (h:q->p:=by intro U;refine qH rfl rfl (fun hk hg=>j5 rfl tt rfl a6N rfl t_1 de_) ?_;refine qH rfl rfl (fun hk hg=>o5 rfl ⟨hk,hg⟩ rfl a2l rfl rfl) ?_;exact U):=h U
def d6e (h:q->p:=by intro U;refine qH rfl rfl (fun hk hg=>j5 rfl tt rfl b0s rfl t_0 de_) ?_;refine qH rfl rfl (fun hk hg=>o5 rfl ⟨hk,hg⟩ rfl t_9 rfl rfl) ?_;exact U):=h U
def d5i (h:Qz q->p:=by intro U;refine hY (p9 rfl tt tt rfl rfl b5N a3C om_ (i8 (d8V hn)) rfl) ?_;refine hY (W6 rfl tt rfl b82 a3C (nb rfl)) ?_;exact U tt):=h fun _=>U
def a73 (h:q->p:=by intro U;refine cY d5o ?_;refine c5S ?_;exact U):=h U
def c39 (h:p:=by refine j4 ?_;exact ⟨(k+2),_,rfl,tu_,rfl⟩):=h
def d5c (h:q->p:=by intro U;refine qN [rbx T n1 a1 e1 ps b 1,o9 e1 b.length,.box (tk T n).cells] rfl (qD (c4 rfl c3F j1 (b0b hT y1 hW true hc.l ⟨rfl,rfl,de_⟩) rfl ?_));exact U):=h U
def d5X (h:Qz q->p:=by intro U;refine a4V rfl rfl (fun h=>h) rfl (fun hk hg=>a2S rfl tt j3) ?_;refine a4V rfl rfl (fun h=>h) rfl (fun hk hg=>b1T rfl ⟨hk,hg⟩ rfl rfl rfl d2Z d2Z) ?_;exact U tt):=h fun _=>U
def b8e (h:p:=by refine c6 ?_;exact ⟨_,rE1,d9t⟩):=h
def a9C (h:q->p:=by intro U;refine cY c99 ?_;refine x9 ?_;exact U):=h U
def c9U (h:q->p:=by intro U;refine qN [rbx T n x y ps b 1,o9 y b.length,.box (tk T n).cells] rfl ?_;refine c6 ?_;exact U):=h U
def d6a (h:p:=by refine c6 ?_;exact ⟨_,r9 (rs:=[.tmp 4,.tmp 5]) (cs:=[_,_]) rfl R4 (n_5 rfl),⟨(),rfl,rfl,tt⟩⟩):=h
def d4Y (h:p:=by refine c6 ?_;exact ⟨_,r9 (rs:=[.tmp 4,.tmp 5]) (cs:=[_,_]) rfl R4 (n_5 rfl),_,_,rfl,rfl,d5H⟩):=h
def d6P (h:p:=by refine z_9 ?_;exact ⟨_,r9 (rs:=[.tmp 4,.tmp 5]) (cs:=[_,_]) rfl R4 (n_5 rfl),_,_,rfl,rfl,d5H⟩):=h
def b0R (h:q->p:=by intro U;refine qG b39 ?_;refine qY R7 ?_;exact U):=h U
def b7a (h:p:=by refine K3 [pbx T m ps b2 3,.dead,.box (tk T n).cells,o8 b2.length] rfl ?_;refine a1O ?_;exact ⟨_,rE1,e02⟩):=h
def b05 (h:Qz q->p:=by intro U;refine qY a1W ?_;refine qY X4 ?_;exact U tt):=h fun _=>U
def c6w (h:q->p:=by intro U;refine cY d4Z ?_;refine cY c1L ?_;exact U):=h U
def d6R (h:p:=by refine c6 ?_;exact ⟨_,rE1,_,_,rfl,rfl,(U2 (show CV.list (([]:List Ky).map Ky.cv) false none=_ from rfl) pu_)⟩):=h
def d5f (h:p:=by refine c6 ?_;exact ⟨_,rE1,_,_,rfl,rfl,j8 (show (H3 x.a && decide (x.b=[]))=O2 x by simp_all [O2])⟩):=h
def a88 (h:q->p:=by intro U;refine hY a1b ?_;refine X2 ?_;exact U):=h U
def a82 (h:q->p:=by intro U;refine a3G ?_;refine qG D6 ?_;exact U):=h U
def d6u (h:Qz q->p:=by intro U;refine b0G rfl rfl (fun _=>c8 rfl X4) ?_;refine B1 rfl rfl rfl (S6 rfl tt rfl b9z trivial (by exact dY om_ (p+2) om_) rfl ?_);exact U tt):=h fun _=>U
def d6b (h:p:=by refine qY V3 ?_;exact ⟨(s,cE,p6,n - 1),[0,1,2],⟨do_,do_,do_,do_,do_,do_,do_⟩,⟨rfl,rfl⟩,ut_,uq_⟩):=h
def b4r (h:q->p:=by intro U;refine chf rfl V4 ?_;refine D9 ?_;exact U):=h U
def a6z (h:q->p:=by intro U;refine b2r ?_;refine z_0 ?_;exact U):=h U
def a7y (h:q->p:=by intro U;refine x9 ?_;refine z_0 ?_;exact U):=h U
def d6x (h:Qz q->p:=by intro U;refine ⟨⟨a08,F1,F1,tt⟩,?_⟩;refine B1 rfl rfl rfl (c4 rfl Tryz.call68 j1 (b4E l nn (k+3) om_ hl v dj _ 0 rfl) rfl ?_);exact U tt):=h fun _=>U
def d5s (h:p:=by refine a1O ?_;exact ⟨_,rE1,(by exact .inl ⟨(i6,n+1,b6),Z5 rfl rfl (nb rfl) (.val _),af,do_,bf,y6⟩)⟩):=h
def c7D (h:q->p:=by intro U;refine qG d9o ?_;refine qG (fun hg=>o5 rfl hg rfl b9f rfl rfl) ?_;exact U):=h U
def c72 (h:Qz q->p:=by intro U;refine a2Q ?_;refine qG e1h ?_;exact U tt):=h fun _=>U
def b7S (h:q->p:=by intro U;refine chf rfl a4W ?_;refine chf rfl V4 ?_;exact U):=h U
def d5Z (h:p:=by refine c6 ?_;exact ⟨_,rE1,_,_,rfl,rfl,j8 (show (C3 x.a && C3 x.b)=O2 x by simp_all [O2])⟩):=h
def d5q (h:q->p:=by intro U;refine a4V rfl rfl (fun h=>h) rfl (fun hk hg=>a2L rfl ⟨hk,hg⟩ ⟨hk,hg⟩ rfl rfl (b7m _ _)) ?_;refine U3 rfl rfl tt rfl c22 ?_;exact U):=h U
def a7j (h:q->p:=by intro U;refine z_0 ?_;refine cY b1t ?_;refine b2r ?_;exact U):=h U
def d0O (h:q->p:=by intro U;refine z_4 ?_;refine d6T ?_;exact U):=h U
def c6V (h:p:=by refine a8v ?_;exact ⟨(i+1),_,⟨om_,om_⟩,tu_,rfl⟩):=h
def d6S (h:q->p:=by intro U;refine ⟨⟨F1,a18,b4a,(by exact c8 rfl b74),b1f,tt⟩,?_⟩;refine F2 rfl rfl e1i ⟨⟨F1,a18,b4a,tt⟩,?_⟩;exact U):=h U
def d6l (h:p:=by refine c6 ?_;exact ⟨_,rE1,_,_,rfl,rfl,(by exact c4D (l:=l++U0 s.length++s) (k:=2) rfl)⟩):=h
def c8m (h:p:=by refine z_9 ?_;exact ⟨_,rE1,_,_,rfl,rfl,j8 rfl⟩):=h
def a89 (h:q->p:=by intro U;refine c0I ?_;refine c6 ?_;exact U):=h U
def a9n (h:q->p:=by intro U;refine c2h ?_;refine cG d5T ?_;refine cG a5q ?_;exact U):=h U
def b11 (h:q->p:=by intro U;refine cY B2 ?_;refine cY a9o ?_;refine cY a9o ?_;exact U):=h U
def d6i (h:q->p:=by intro U;refine cD (p8 rfl Tryz.zeroValue26 rfl (.inl rfl) ?_);refine cD (j2 rfl tt tt rfl j3 a2j (.inl rfl) rfl rfl (nb rfl) ?_);exact U):=h U
def d6W (h:Qz q->p:=by intro U;refine D9 ?_;refine B1 rfl rfl rfl (c4 rfl a3l j1 (H7 l nn (k+2) _ 0 rfl om_ hl S8 de_ de_) rfl ?_);exact U tt):=h fun _=>U
def c7l (h:p:=by refine c6 ?_;exact ⟨_,rE1,⟨(),rfl,rfl,tt⟩⟩):=h
def d5R (h:q->p:=by intro U;refine F2 rfl rfl c2F ⟨tt,?_⟩;refine B1 rfl rfl rfl (j2 rfl tt tt rfl j3 b9Y (.inl rfl) rfl rfl (nb rfl) ?_);exact U):=h U
def d5d (h:q->p:=by intro U;refine F2 rfl rfl d7f ⟨tt,?_⟩;refine B1 rfl rfl rfl (j2 rfl tt tt rfl j3 b8E (.inl rfl) rfl rfl (nb rfl) ?_);exact U):=h U
def c19 (h:q->p:=by intro U;refine hY B2 ?_;refine U3 rfl rfl tt rfl D6 ?_;exact U):=h U
def b3f (h:Qz q->p:=by intro U;refine qY a6o ?_;refine qY a7u ?_;exact U tt):=h fun _=>U
def b3g (h:q->p:=by intro U;refine hY b74 ?_;refine hY a1n ?_;exact U):=h U
def b3P (h:q->p:=by intro U;refine hY b3h ?_;refine hY b63 ?_;exact U):=h U
def d6o (h:q->p:=by intro U;refine cD (p8 rfl c8K rfl j6 ?_);refine cD (j2 rfl tt tt rfl j3 b7X j6 rfl rfl (nb rfl) ?_);exact U):=h U
def d7e (h:q->p:=by intro U;refine cF [] [0,1,2,4,5] (tl:=[(3,[0,1,2,3,4]),(6,[0,1,2]),(7,[0,1,2]),(8,[0,1,2]),(9,[])]) ?_;refine b2L ?_;exact U):=h U
def d5F (h:q->p:=by intro U;refine cD (p8 rfl a6h rfl j6 ?_);refine cD (j2 rfl tt tt rfl j3 a4a j6 rfl rfl (nb rfl) ?_);exact U):=h U
def c9Z (h:q->p:=by intro U;refine ⟨⟨F1,tt⟩,?_⟩;refine F2 rfl rfl b7x ⟨tt,?_⟩;exact U):=h U
def b7M (h:Qz q->p:=by intro U;refine j4 ?_;refine qY l9 ?_;exact U tt):=h fun _=>U
def d6L (h:Qz q->p:=by intro U;refine F2 rfl rfl (c8 rfl (c5 rfl c1l j1 (a0T fl _ ⟨sp,s⟩ om_ _) rfl)) ⟨tt,?_⟩;refine d0w ?_;exact U tt):=h fun _=>U
def c9k (h:q->p:=by intro U;refine d7p ?_;refine d2U ?_;exact U):=h U
def d5Y (h:q->p:=by intro U;refine cY (j5 rfl tt rfl c83 rfl b8o de_) ?_;refine cY (o5 rfl tt rfl Tryz.isAgg30 rfl rfl) ?_;exact U):=h U
def d5B (h:Qz q->p:=by intro U;refine F2 rfl rfl (c8 rfl (c5 rfl c1l j1 (a0T fl _ ⟨y,s⟩ om_ _) rfl)) ⟨tt,?_⟩;refine d0w ?_;exact U tt):=h fun _=>U
def d6p (h:Qz q->p:=by intro U;refine qO Tryz.func284 ?_;refine qY (p9 rfl tt tt rfl rfl b21 a8O om_ (i8 eC.node) rfl) ?_;exact U tt):=h fun _=>U
def d6C (h:q->p:=by intro U;refine hY (j5 rfl tt rfl c9g rfl b8E de_) ?_;refine hY (o5 rfl tt rfl b8I hk rfl) ?_;exact U):=h U
def d0R (h:q->p:=by intro U;refine U3 rfl rfl tt rfl e0g ?_;refine U3 rfl rfl tt rfl a5q ?_;exact U):=h U
def d5l (h:q->p:=by intro U;refine cY (j5 rfl tt rfl c0h rfl c1U de_) ?_;refine cY (o5 rfl tt rfl c3c rfl rfl) ?_;exact U):=h U
def d6G (h:Qz q->p:=by intro U;refine qY (p9 rfl tt rfl rfl rfl t_4 t_1 om_ (i8 (L6 g1)) rfl) ?_;refine qY l9 ?_;exact U tt):=h fun _=>U
def b3S (h:p:=by refine c9k ?_;refine c6 ?_;exact ⟨_,rE1,_,_,rfl,rfl,j8 (show (C3 x.a && decide (x.b=[]))=O2 x by simp_all [O2])⟩):=h
def d6q (h:Qz q->p:=by intro U;refine qY d5t ?_;refine qD (c4 rfl a3l j1 (H7 l nn (k+2) _ 0 rfl om_ hl Y0 de_ de_) rfl ?_);exact U tt):=h fun _=>U
def b38 (h:q->p:=by intro U;refine hY a1b ?_;refine a6P ?_;exact U):=h U
def d6m (h:q->p:=by intro U;refine B1 rfl rfl rfl (j2 rfl tt tt rfl j3 b5O j6 rfl rfl (nb rfl) ?_);refine ⟨⟨a9g,tt⟩,?_⟩;exact U):=h U
def d5u (h:p:=by refine c6 ?_;exact ⟨_,rE1,_,_,rfl,rfl,D2 (by rw [a3Y,n_0 u1,n_0 u2])⟩):=h
def c2X (h:Qz q->p:=by intro U;refine U3 rfl rfl tt rfl e1f ?_;refine U3 rfl rfl tt rfl d9j ?_;refine U3 rfl rfl tt rfl d6X ?_;exact U tt):=h fun _=>U
def b0B (h:q->p:=by intro U;refine C9 ?_;refine z_0 ?_;exact U):=h U
def d5S (h:Qz q->p:=by intro U;refine qY b71 ?_;refine qD (c4 rfl a3l j1 (H7 l nn (k+2) _ 0 rfl om_ hl a0V de_ de_) rfl ?_);exact U tt):=h fun _=>U
def a9e (h:q->p:=by intro U;refine z_4 ?_;refine b2E ?_;exact U):=h U
def d5a (h:q->p:=by intro U;refine F9 ?_;refine cF [] [0,1,2,3,4,5,6,7,8] (tl:=[(9,[0,1,2,3,4,5,6,7,8]),(10,[8]),(11,[])]) ?_;exact U):=h U
def d7g (h:q->p:=by intro U;refine qY a4h ?_;refine qD (c4 rfl b0W a2u (a0u _ _ de_ (q:=2) (s:=0) ⟨rfl,rfl,de_⟩) rfl ?_);exact U):=h U
def d2b (h:p:=by refine qY a1g ?_;exact ⟨(),_,tt,tu_,rfl⟩):=h
def d6h (h:p:=by refine qD (j2 rfl tt tt rfl j3 t_5 j6 rfl rfl (nb rfl) ?_);refine c6 ?_;exact ⟨_,C6 rfl b9W,⟨(⟨(1+K2 l k 7),v,[]⟩,k+2),_,_,rfl,rfl,U2 rfl pu_,⟨(H6 (.inl hv)),c86⟩,do_⟩⟩):=h
def b09 (h:q->p:=by intro U;refine z_3 ?_;refine F9 ?_;exact U):=h U
def d5m (h:Qz q->p:=by intro U;refine X2 ?_;refine qD (c4 rfl a3l j1 (H7 l nn (p+1) _ 0 rfl om_ hl a0V de_ de_) rfl ?_);exact U tt):=h fun _=>U
def b1S (h:q->p:=by intro U;refine d0O ?_;refine c4I ?_;exact U):=h U
def c6x (h:p:=by refine C9 ?_;exact ⟨(),_,tt,tu_,rfl⟩):=h
def d5W (h:p:=by refine c6 ?_;exact ⟨_,rE1,_,_,rfl,rfl,D2 (by rw [B4,n_1 aj])⟩):=h
def b4w (h:Qz q->p:=by intro U;refine b8L ?_;refine qY a7u ?_;exact U tt):=h fun _=>U
def d6H (h:q->p:=by intro U;refine cF [] [0,1,2,3,4] (tl:=[(5,[0,1]),(6,[0,1]),(7,[]),(8,[]),(9,[])]) ?_;refine chf rfl d7f ?_;exact U):=h U
def d6E (h:p:=by refine qY l9 ?_;exact ⟨(i+1),_,⟨om_,om_,c5v hb hd hw⟩,tu_,rfl⟩):=h
def b3p (h:q->p:=by intro U;refine d7l ?_;refine cY B2 ?_;exact U):=h U
def d5k (h:q->p:=by intro U;refine c0f ?_;refine qY (c5 rfl Tryz.call305 ⟨tt,tt⟩ (b2q ⟨k,u,o,nm,o4 ch s⟩ _) rfl) ?_;exact U):=h U
def b32 (h:q->p:=by intro U;refine a5g ?_;refine hY d9W ?_;exact U):=h U
def b3K (h:q->p:=by intro U;refine hY B2 ?_;refine c8e ?_;exact U):=h U
def d6B (h:p:=by refine qY l9 ?_;exact ⟨(i+1),_,⟨om_,om_,b8y hb hd hw⟩,tu_,rfl⟩):=h
def d6N (h:p:=by refine c6 ?_;exact ⟨_,rE1,_,_,rfl,rfl,D2 (by rw [a3Y,n_1 u1])⟩):=h
def d6c (h:q->p:=by intro U;refine B1 rfl rfl rfl (j2 rfl tt tt rfl j3 b2b (.inl rfl) rfl rfl (nb rfl) ?_);refine a8A ?_;exact U):=h U
def d6Q (h:q->p:=by intro U;refine B1 rfl rfl rfl (j2 rfl tt tt rfl j3 c04 (.inl rfl) rfl rfl (nb rfl) ?_);refine a8A ?_;exact U):=h U
def b2h (h:q->p:=by intro U;refine c5K ?_;refine a4c ?_;exact U):=h U
def d5K (h:p:=by refine qY (c5 rfl Tryz.call233 j1 (b1a s c _) rfl) ?_;exact c0Q):=h
def b3R (h:p:=by refine qk ?_;refine c6 ?_;exact ⟨_,rE1,_,_,rfl,rfl,j8 (show false=O2 x by simp_all [O2])⟩):=h
def b8K (h:q->p:=by intro U;refine qG a7l ?_;refine qG a9j ?_;exact U):=h U
def b73 (h:q->p:=by intro U;refine qG a6u ?_;refine qY R7 ?_;exact U):=h U
def b6U (h:Qz q->p:=by intro U;refine qY b53 ?_;refine qY V3 ?_;exact U tt):=h fun _=>U
def b8i (h:q->p:=by intro U;refine hY B2 ?_;refine hY a0c ?_;exact U):=h U
def b7E (h:q->p:=by intro U;refine cY c3g ?_;refine cY a1n ?_;exact U):=h U
def b70 (h:q->p:=by intro U;refine qG a6u ?_;refine qY M7 ?_;exact U):=h U
def b85 (h:q->p:=by intro U;refine hY e0L ?_;refine hY Q3 ?_;exact U):=h U
def b9a (h:Qz q->p:=by intro U;refine qY a1W ?_;refine qY l9 ?_;exact U tt):=h fun _=>U
def b3V (h:q->p:=by intro U;refine d0w ?_;refine c6 ?_;exact U):=h U
def d5C (h:Qz q->p:=by intro U;refine qY (p9 rfl tt tt rfl rfl t_6 t_5 om_ (i8 hb) rfl) ?_;refine d3y ?_;exact U tt):=h fun _=>U
def d5L (h:Qz q->p:=by intro U;refine F2 rfl rfl d7b ⟨⟨a08,F1,tt⟩,?_⟩;refine F2 rfl rfl d4s ⟨⟨a08,tt⟩,?_⟩;exact U tt):=h fun _=>U
def d7d (h:q->p:=by intro U;refine qY (c5 rfl a7H ⟨tt,tt⟩ (a0z hT y1 ⟨rfl,rfl,de_⟩) rfl) ?_;refine qY a4h ?_;exact U):=h U
def d6Z (h:Qz q->p:=by intro U;refine cG a2C ?_;refine cG (fun hg=>c5 rfl c6a ⟨hg,tt⟩ (a1C x.name om_ _) rfl) ?_;exact U tt):=h fun _=>U
def d6t (h:p:=by refine b7M ?_;exact ⟨(i+1,e),_,⟨do_,do_,hr,h0,do_⟩,tu_,rfl⟩):=h
def d7j (h:p:=by refine c6 ?_;exact ⟨_,rE1,⟨v,rfl,rfl,n_2 hv⟩⟩):=h
def d6d (h:q->p:=by intro U;refine qY (c5 rfl a7H ⟨tt,tt⟩ (a0z hT fi ⟨rfl,rfl,de_⟩) rfl) ?_;refine d6O ?_;exact U):=h U
def b23 (h:q->p:=by intro U;refine qk (qY J3 ?_);exact U):=h U
def b6P (h:q->p:=by intro U;refine qo (qY R7 ?_);exact U):=h U
def d6F (h:q->p:=by intro U;refine qD (p8 rfl d0S rfl j6 ?_);refine qD (p8 rfl d0S rfl j6 ?_);exact U):=h U
def c6E (h:Qz q->p:=by intro U;refine ⟨tt,?_⟩;refine F2 rfl rfl d7b ⟨tt,?_⟩;exact U tt):=h fun _=>U
def c8q (h:q->p:=by intro U;refine qD (G8 rfl tt j3 j6 ?_);refine qY c3Y ?_;exact U):=h U
def b7y (h:q->p:=by intro U;refine qY e05 ?_;refine qY c6f ?_;exact U):=h U
def d0o (h:q->p:=by intro U;refine qD (G8 rfl tt j3 j6 ?_);refine qY a4z ?_;exact U):=h U
def d7a (h:q->p:=by intro U;refine qD (j2 rfl tt tt rfl j3 b6K (.inl rfl) rfl rfl (nb rfl) ?_);refine qY Q2 ?_;exact U):=h U
def b4t (h:q->p:=by intro U;refine cW 10 ?_;refine a5g ?_;exact U):=h U
def d6f (h:q->p:=by intro U;refine cY c3s ?_;refine cD (j2 rfl tt tt rfl j3 t_1 (.inl rfl) rfl rfl (nb rfl) ?_);exact U):=h U
def b33 (h:Qz q->p:=by intro U;refine c72 ?_;refine a3G ?_;exact U tt):=h fun _=>U
def d5V (h:q->p:=by intro U;refine cY b4e ?_;refine cD (j2 rfl tt tt rfl j3 t_1 (.inl rfl) hk rfl (nb rfl) ?_);exact U):=h U
def d6M (h:q->p:=by intro U;refine cF [] [0,1,3,4] (tl:=[(2,[2,3]),(5,[]),(6,[]),(7,[])]) ?_;refine chf rfl V4 ?_;exact U):=h U
def b9N (h:q->p:=by intro U;refine qG a2C ?_;refine b7l ?_;exact U):=h U
def d5w (h:q->p:=by intro U;refine d3D Tryz.func154 rfl rfl rfl rfl rfl rfl rfl rfl rfl rfl de_ de_ rfl rfl ?_;refine z_4 ?_;exact U):=h U
def d5Q (h:q->p:=by intro U;refine cD (j2 rfl tt tt rfl j3 t_0 (.inl rfl) rfl rfl (nb rfl) ?_);refine x9 ?_;exact U):=h U
def b64 (h:q->p:=by intro U;refine c6w ?_;refine cY b53 ?_;exact U):=h U
def d4W (h:Qz q->p:=by intro U;refine hY a4i ?_;refine hY (O8 rfl tt rfl a2l rfl (c0T (i8 cy) om_) rfl) ?_;exact U tt):=h fun _=>U
def d6J (h:q->p:=by intro U;refine cF [] [0,1,2,3,4,5,6] (tl:=[(7,[0]),(8,[]),(9,[]),(10,[])]) ?_;refine a6Y ?_;exact U):=h U
def d5U (h:p:=by refine c6 ?_;exact ⟨_,rE1,_,_,rfl,rfl,j8 hr.symm⟩):=h
def d5G (h:p:=by refine c6 ?_;exact ⟨_,rE1,_,_,rfl,rfl,D2 hr.symm⟩):=h
def d6V (h:q->p:=by intro U;refine ⟨⟨d5P,d5n,tt⟩,?_⟩;refine F2 rfl rfl e07 ⟨⟨d5P,d5n,tt⟩,?_⟩;exact U):=h U
def d5A (h:q->p:=by intro U;refine qY e03 ?_;refine qD (j2 rfl tt tt rfl j3 b7X j6 rfl rfl (nb rfl) ?_);exact U):=h U
def d5e (h:q->p:=by intro U;refine qN [rbx T n3 a6 e6 ps b6 4,.dead,.dead,.dead,o9 e6 b6.length] rfl ?_;refine c6 ?_;exact U):=h U
def d5I (h:q->p:=by intro U;refine ⟨⟨d7i,d5p,tt⟩,?_⟩;refine F2 rfl rfl e1n ⟨⟨d7i,d5p,tt⟩,?_⟩;exact U):=h U
def b6r (h:p:=by refine qk ?_;exact b4K):=h
def b3N (h:q->p:=by intro U;refine z_4 ?_;refine cY b8R ?_;refine cY B2 ?_;exact U):=h U
def d5E (h:p:=by refine b6P ?_;exact ⟨(_,p5+1),⟨do_,do_⟩,⟨⟨tt,rfl⟩,⟨tt,rfl⟩,⟨tt,rfl⟩,⟨tt,rfl⟩,⟨tt,rfl⟩,⟨tt,rfl⟩,⟨tt,rfl⟩,tt⟩,rfl⟩):=h
def d6z (h:q->p:=by intro U;refine qD (j2 rfl tt tt rfl j3 c17 j6 rfl rfl (nb rfl) ?_);refine c6 ?_;exact U):=h U
def d5h (h:q->p:=by intro U;refine D9 ?_;refine B1 rfl rfl rfl (c4 rfl Tryz.call307 trivial (b9t _) rfl ?_);exact U):=h U
def d6n (h:Qz q->p:=by intro U;refine qY a6o ?_;refine qY (c5 rfl c2H ⟨tt,tt⟩ (a5F y b84 _) rfl) ?_;exact U tt):=h fun _=>U
def d6y (h:p:=by refine qY l9 ?_;exact ⟨(j+1),_,⟨om_,om_⟩,tu_,rfl⟩):=h
def b8W (h:Qz q->p:=by intro U;refine qY e0w ?_;refine qD (p8 rfl c1Q rfl j6 ?_);refine qD (j2 rfl tt tt rfl j3 c55 j6 rfl rfl (nb rfl) ?_);exact U tt):=h fun _=>U
def d6k (h:q->p:=by intro U;refine cY a6k ?_;refine cY (j5 rfl tt rfl b8U rfl a2j de_) ?_;exact U):=h U
def b7Q (h:q->p:=by intro U;refine d7l ?_;refine cY J3 ?_;exact U):=h U
def b9s (h:q->p:=by intro U;refine hY a8b ?_;refine b5U ?_;exact U):=h U
def c8A (h:q->p:=by intro U;refine U3 rfl rfl tt rfl a7l ?_;refine hY R7 ?_;exact U):=h U
def b8A (h:q->p:=by intro U;refine a6R ?_;refine cY B2 ?_;exact U):=h U
def d1h (h:q->p:=by intro U;refine qs 2 (qD (G8 rfl tt j3 j6 ?_));exact U):=h U
def d6w (h:q->p:=by intro U;refine hY (j5 rfl tt rfl b6b rfl t_0 de_) ?_;refine hY Q3 ?_;exact U):=h U
def d5J (h:q->p:=by intro U;refine qN [rbx T n3 a3 e3 ps b 1,o9 e3 b.length,.box (tk T n).cells] rfl (qY b2l ?_);refine qD (c4 rfl a4s C8 (O0 hb ⟨10,x2,0,[],[]⟩ _ ⟨rfl,rfl,de_⟩) rfl ?_);exact U):=h U
def d6K (h:q->p:=by intro U;refine hY (j5 rfl tt rfl c0N rfl t_1 de_) ?_;refine hY a1n ?_;exact U):=h U
def d5b (h:p:=by refine z_9 ?_;exact ⟨_,rE1,_,_,rfl,rfl,j8 c9d⟩):=h
def d6j (h:p:=by refine a4T ?_;exact ⟨(k+1),_,⟨om_,om_⟩,tu_,rfl⟩):=h
end Go
