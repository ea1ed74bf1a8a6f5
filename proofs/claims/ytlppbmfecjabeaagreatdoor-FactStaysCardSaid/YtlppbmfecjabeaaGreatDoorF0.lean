/- Names for closed terms that are often repeated. -/
import Derived.WalkKit
import Derived.Test.YtlppbmfecjabeaaGreatDoorProg
set_option linter.all false
namespace Go
open Go.Proofs.Tryz
abbrev t_0:=@sizeOf9
abbrev t_1:=@sizeOf3
abbrev t_2:=@runUnderlying26
abbrev t_3:=@zeroValue9
abbrev t_4:=@runUnderlying22
abbrev t_5:=@runUnderlying9
abbrev t_6:=@isAgg9
abbrev t_7:=@runUnderlying149
abbrev t_8:=@zeroValue3
abbrev t_9:=@sizeOf5
abbrev a1Y:=@runUnderlying205
abbrev a10:=@isAgg3
abbrev a2g:=@zeroValue231
abbrev a2p:=@call200
abbrev a2W:=@sizeOf26
abbrev a2L:=@zeroValue67
abbrev a2C:=@sizeOf67
abbrev a3n:=@sizeOf231
abbrev a3O:=@sizeOf54
abbrev a3J:=@zeroValue5
abbrev a3M:=@call19
abbrev a3L:=@call272
abbrev a3K:=@call185
abbrev a4b:=@typeInfo9
abbrev a4M:=@call195
abbrev a4H:=@sizeOf119
abbrev a5o:=@call193
abbrev a5i:=@zeroValue59
abbrev a5X:=@runUnderlying212
abbrev a5U:=@runUnderlying67
abbrev a5Z:=@zeroValue54
abbrev a6c:=@call183
abbrev a7m:=@sizeOf39
abbrev a7K:=@call20
abbrev a7z:=@sizeOf212
abbrev a7L:=@runUnderlying30
abbrev a7F:=@call230
abbrev a7j:=@runUnderlying231
abbrev a8K:=@zeroValue119
abbrev a84:=@call181
abbrev b03:=@sizeOf117
abbrev b0X:=@call279
abbrev b0J:=@runUnderlying119
abbrev a9A:=@runUnderlying65
abbrev b02:=@typeInfo5
abbrev b1c:=@sizeOf59
abbrev a9Y:=@call182
abbrev b1n:=@runUnderlying5
abbrev b1J:=@runUnderlying36
abbrev b1j:=@runUnderlying117
abbrev b1G:=@call284
abbrev b3y:=@runUnderlying191
abbrev b4g:=@zeroValue212
abbrev b37:=@sizeOf305
abbrev b3R:=@sizeOf32
abbrev b3F:=@isAgg26
abbrev b4f:=@zeroValue39
abbrev b4b:=@call12
abbrev b3j:=@call226
abbrev b5l:=@sizeOf22
abbrev b4X:=@isAgg67
abbrev b7A:=@runUnderlying59
abbrev b52:=@runUnderlying113
abbrev b65:=@call163
abbrev b6h:=@runUnderlying228
abbrev b5o:=@call232
abbrev b6L:=@runUnderlying54
abbrev b9j:=@call74
abbrev b76:=@call241
abbrev b9g:=@typeInfo3
abbrev b8p:=@sizeOf40
abbrev b8m:=@isAgg40
abbrev b9a:=@runUnderlying112
abbrev b9v:=@runUnderlying302
abbrev b9q:=@call67
abbrev c2U:=@call118
abbrev c2a:=@call85
abbrev c3I:=@call61
abbrev c3S:=@runUnderlying195
abbrev c23:=@runUnderlying199
abbrev c3w:=@call194
abbrev c2A:=@call277
abbrev c2K:=@call196
abbrev c2I:=@call280
abbrev c2w:=@runUnderlying309
abbrev c3e:=@typeInfo54
abbrev c2t:=@zeroValue32
abbrev c4t:=@runUnderlying3
abbrev c75:=@call124
abbrev c85:=@call235
abbrev c32:=@call160
abbrev c7F:=@call317
abbrev c4a:=@sizeOf175
abbrev c7O:=@isAgg22
abbrev c7g:=@sizeOf149
abbrev c4R:=@call202
abbrev c6c:=@runUnderlying86
abbrev c5s:=@runUnderlying39
abbrev c86:=@sizeOf30
abbrev c8N:=@call122
abbrev b7T:=@call184
abbrev b7k:=@call186
abbrev b7u:=@runUnderlying103
abbrev b4I:=@isAgg231
abbrev b5T:=@sizeOf65
abbrev c0t:=@runUnderlying165
abbrev b9V:=@typeInfo231
abbrev c0v:=@call192
abbrev c0C:=@call237
abbrev c1U:=@runUnderlying275
abbrev c1q:=@runUnderlying23
abbrev c0K:=@sizeOf129
abbrev c06:=@runUnderlying110
abbrev c0S:=@runUnderlying109
abbrev c1G:=@zeroValue305
abbrev c1K:=@call246
abbrev c03:=@call306
abbrev c0A:=@call90
abbrev b9X:=@call159
abbrev c1o:=@isAgg25
abbrev b9S:=@sizeOf25
abbrev c1d:=@call316
abbrev c0f:=@call231
abbrev b98:=@isAgg119
abbrev c1n:=@sizeOf105
abbrev b96:=@runUnderlying105
abbrev b9R:=@sizeOf103
abbrev c0s:=@call148
abbrev c0F:=@call221
abbrev c1l:=@call98
abbrev c1p:=@isAgg32
abbrev c00:=@runUnderlying129
abbrev c1r:=@isAgg65
abbrev c4l:=@call123
abbrev c81:=@call131
abbrev c5P:=@call119
abbrev c7o:=@call236
abbrev c82:=@call278
abbrev c42:=@call191
abbrev c6J:=@runUnderlying175
abbrev c64:=@zeroValue175
abbrev c4E:=@isAgg175
abbrev c38:=@isAgg54
abbrev c71:=@isAgg305
abbrev c5u:=@func246
abbrev c6l:=@runUnderlying242
abbrev c6b:=@underlying3
abbrev c8D:=@isAgg4
abbrev c7h:=@sizeOf4
abbrev c69:=@call113
abbrev c61:=@call72
abbrev c6m:=@isAgg27
abbrev c8k:=@call51
abbrev c8Z:=@call120
abbrev c5p:=@call52
abbrev c4n:=@call273
abbrev c5V:=@call300
abbrev c5a:=@call322
abbrev c7Z:=@call87
abbrev c7a:=@isAgg105
abbrev c8r:=@call95
abbrev c5q:=@call94
abbrev c58:=@runUnderlying32
abbrev c6U:=@isAgg39
abbrev c4y:=@runUnderlying29
abbrev c8t:=@isAgg59
abbrev c8O:=@sizeOf244
abbrev n_0:=@if_neg
abbrev n_1:=@if_pos
abbrev n_2:=@List.mem_of_getElem?
abbrev n_3:=@List.getElem?_eq_some_iff
abbrev n_4:=@Nat.ne_of_beq_eq_false
abbrev n_5:=@Nat.zero_le
abbrev n_6:=@Nat.le_refl
abbrev n_7:=@List.length_append
abbrev n_8:=@Option.bind_some
abbrev n_9:=@congrArg
abbrev C4:=@List.length_cons
abbrev F7:=@List.append_assoc
abbrev I3:=@List.length_nil
abbrev I9:=@List.mem_map
abbrev K9:=@Nat.zero_add
abbrev L7:=@List.mem_iff_getElem?
abbrev N0:=@Option.map_eq_some_iff
abbrev P0:=@List.mem_cons
abbrev Q0:=@List.getElem?_map
abbrev R3:=@Nat.add_mul
abbrev R4:=@List.drop_eq_getElem_cons
abbrev R6:=@Nat.mul_le_mul_right
abbrev S7:=@Bool.and_eq_true
abbrev T5:=@List.drop_eq_nil_of_le
abbrev V3:=@List.getElem?_append_left
abbrev W1:=@List.take_of_length_le
abbrev Y1:=@List.mem_append
abbrev a0k:=@Array.getD_eq_getD_getElem?
abbrev a0y:=@List.getElem?_append_right
abbrev a0W:=@List.length_map
abbrev a1d:=@List.append_nil
abbrev a1r:=@Array.getElem?_eq_getElem
abbrev a1z:=@Array.getElem?_eq_some_iff
abbrev a1u:=@List.getElem?_eq_getElem
abbrev a1R:=@decide_eq_true
abbrev a1o:=@decide_eq_false
abbrev a1Z:=@Int.toNat_natCast
abbrev a1X:=@decide_eq_true_eq
abbrev a2i:=@List.getElem?_set_ne
abbrev a2I:=@List.getElem?_take
abbrev a3c:=@Nat.lt_or_ge
abbrev a3R:=@Nat.eq_of_beq_eq_true
abbrev a3P:=@List.take_add_one
abbrev a4r:=@List.mem_cons_of_mem
abbrev a5p:=@List.all_eq_true
abbrev a5s:=@List.getElem?_drop
abbrev a5t:=@List.length_take
abbrev a5j:=@Nat.mod_lt
abbrev a5m:=@List.getD_eq_getElem?_getD
abbrev a5Y:=@List.getElem?_append
abbrev a60:=@List.take_length
abbrev a6E:=@List.take_succ_cons
abbrev a7l:=@Nat.add_zero
abbrev a7u:=@Bool.or_eq_true
abbrev a72:=@List.nil_append
abbrev a8H:=@Option.getD_some
abbrev a8W:=@Nat.add_assoc
abbrev a8E:=@List.mem_of_mem_take
abbrev a8J:=@Array.length_toList
abbrev a8Z:=@List.not_mem_nil
abbrev a8C:=@List.filter_cons
abbrev a8N:=@List.pairwise_cons
abbrev a9C:=@Array.getElem?_eq_none
abbrev a9G:=@Nat.blt_eq
abbrev a97:=@Nat.lt_of_lt_of_le
abbrev a9s:=@List.drop_zero
abbrev b0N:=@Int.le_refl
abbrev b00:=@List.getElem?_concat_length
abbrev b1I:=@List.mem_of_mem_drop
abbrev b1k:=@List.getElem?_set
abbrev b1h:=@Nat.eq_zero_or_pos
abbrev b1i:=@List.getElem?_set_self
abbrev b1w:=@List.length_pos_iff
abbrev b32:=@Array.mem_of_getElem?
abbrev b3E:=@List.map_cons
abbrev b4u:=@List.mem_append_left
abbrev b38:=@List.mem_singleton
abbrev b3N:=@Nat.add_comm
abbrev b4o:=@decide_eq_false_iff_not
abbrev b3r:=@List.mem_filter
abbrev b5E:=@Array.getElem?_setIfInBounds_ne
abbrev b7p:=@List.getElem?_eq_none
abbrev b7g:=@World.size_alloc
abbrev b5F:=@Option.isSome_iff_exists
abbrev b5r:=@List.map_append
abbrev b6C:=@List.takeWhile_cons
abbrev b4Q:=@List.length_drop
abbrev b6t:=@Bool.true_and
abbrev b5V:=@decide_eq_decide
abbrev b4T:=@Nat.sub_self
abbrev b5u:=@List.set_append_right
abbrev b8D:=@Nat.le_trans
abbrev b8M:=@Array.getElem?_append
abbrev b79:=@Array.ext_getElem?
abbrev b8C:=@Nat.min_eq_left
abbrev b8S:=@Array.getElem?_map
abbrev b8z:=@Nat.mod_eq_of_lt
abbrev b8A:=@List.ext_getElem?
abbrev b9y:=@Nat.mul_one
abbrev b8w:=@Bool.and_assoc
abbrev a9m:=@of_decide_eq_true
abbrev b2W:=@Array.getElem?_modify
abbrev b2c:=@Bool.false_eq_true
abbrev b2X:=@List.getElem_mem
abbrev b2p:=@List.eq_nil_of_length_eq_zero
abbrev b29:=@List.take_append_drop
abbrev b12:=@Bool.not_eq_true'
abbrev b2u:=@Option.map_some
abbrev b1N:=@UInt8.toNat_inj
abbrev b2J:=@List.take_append_getElem
abbrev b2o:=@List.length_singleton
abbrev b1X:=@List.map_take
abbrev b2n:=@Option.map_eq_none_iff
abbrev b6l:=@Array.getElem?_push
abbrev b5n:=@List.isEmpty_iff
abbrev b6r:=@Array.getElem?_append_left
abbrev b7n:=@List.mem_cons_self
abbrev b6I:=@List.all_cons
abbrev b6R:=@Bool.or_eq_false_iff
abbrev b7y:=@List.isPrefixOf_iff_prefix
abbrev b5m:=@List.drop_length
abbrev b7F:=@List.mem_of_find?_eq_some
abbrev b7x:=@List.find?_cons
abbrev b5q:=@List.cons_append
abbrev b7Y:=@of_decide_eq_false
abbrev b6E:=@List.mergeSort_perm
abbrev b5A:=@List.flatMap_cons
abbrev b9K:=@Bool.eq_false_iff
abbrev b9N:=@List.mem_filterMap
abbrev c0E:=@Array.size_append
abbrev c1Q:=@Int.tdiv_eq_ediv_of_nonneg
abbrev c1j:=@List.cons_ne_nil
abbrev c0w:=@Nat.add_sub_cancel
abbrev c0j:=@List.le_antisymm
abbrev b9W:=@List.take_append_of_le_length
abbrev c1y:=@Bool.and_eq_true_iff
abbrev c6u:=@List.getElem?_replicate
abbrev c5Y:=@Int.tmod_eq_emod_of_nonneg
abbrev c6Q:=@Option.bind_eq_some_iff
abbrev c6q:=@List.getElem?_cons_succ
abbrev c4N:=@List.mem_eraseIdx_iff_getElem?
abbrev c7E:=@List.pairwise_mergeSort
def Qz (q:Prop):Prop:=True->q
variable {p q:Prop} (U:q)
theorem nb {a b : Nat} (h : Nat.ble a b = true) : a <= b := Nat.le_of_ble_eq_true h
theorem tt : True := True.intro
def q_0 (h:p:=by exact ⟨⟨x6, n3, a6, e6, b6⟩, S5 (k := 4) rfl rfl de_ (.val _), ⟨by rw [af];exact k1.bindX (fun i hi => by rw [n_0 (by rw [bf];decide), bf];exact k3.bindX (fun j hj => a1O (by rw [hi, hj];exact k6)) k6.2) fun h => absurd rfl h, y3, w6, fun h0 => by have := z3 (k6.alive h0).1;have := z1 rfl;dsimp only at h0 ⊢;omega, l6, u6⟩⟩):=h
def q_1 (h:p:=by exact ⟨⟨tt, (by first | exact ur_ | exact (by rw [b6u si_];exact .vec rfl))⟩, ⟨tt, (by first | exact ur_ | exact (by rw [b6u si_];exact .vec rfl))⟩, ⟨tt, (by first | exact ur_ | exact (by rw [b6u si_];exact .vec rfl))⟩, ⟨tt, (by first | exact ur_ | exact (by rw [b6u si_];exact .vec rfl))⟩, tt⟩):=h
def q_2 (h:p:=by exact (a2M rfl (by first | exact a1J (by intro a;rfl) _ | (intro r hr;simp at hr;done) | (intro r hr;simp at hr;subst hr;rfl) | (intro r hr;exact a1J (by intro a;rfl) _ r (a8E (b1I hr))) | (intro r hr;simp at hr;obtain ⟨a, _, rfl⟩ := hr;rfl)))):=h
def q_3 (h:p:=by exact (J7 (a := n) (h := (n + 1)) rfl rfl rfl t_5 ⟨tt, _, _, rfl, by first | omega | (simp at hg;omega), by first | omega | (simp at hg;omega)⟩ ⟨tt, _, _, rfl, by first | omega | (simp at hg;omega), by first | omega | (simp at hg;omega)⟩ om_ (by show n + 1 <= 10;omega))):=h
def q_4 (h:p:=by first | rfl | (have hk := h.kind;have h1 := h.k1;have h2 := h.k2;have h3 := h.k3;have h4 := h.k4;have h6 := h.k678;have h9 := h.k9;have aU := h.k10;first | (simp;omega) | (have := h3 om_;simp [this]) | (have := h6 om_;simp [this]) | (have := h9 om_;simp [this]))):=h
def q_5 (h:p:=by rw [b0l, hx, n_1 rfl];exact ⟨(), .ret (.old (.tup fun i c hi => by rcases i with _ | _ | _ | i<;>first | (injection hi with hi;subst hi;first | exact .val _ | exact (o8 (cs := [_, _, _, _]) ⟨.val _, .val _, .val _, .val _, tt⟩).old) | cases hi)), tt⟩):=h
def q_6 (h:p:=by rw [b0l, hx, n_0 de_];exact ⟨(), .ret (.old (.tup fun i c hi => by rcases i with _ | _ | _ | i<;>first | (injection hi with hi;subst hi;first | exact .val _ | exact (o8 (cs := [_, _, _, _]) ⟨.val _, .val _, .val _, .val _, tt⟩).old) | cases hi)), tt⟩):=h
def q_7 (h:p:=by first | exact a1J (by intro a;rfl) _ | assumption | (intro r hr;exact a1J (by intro a;rfl) _ r (a8E (b1I hr))) | (intro r hr;simp at hr;obtain ⟨a, _, rfl⟩ := hr;rfl)):=h
def q_8 (h:p:=by exact (b2A (h := (st.length - x.args.length)) rfl tt rfl t_4 t_1 rfl rfl ⟨tt, _, _, rfl, om_, om_⟩ (by first | omega | (simp;done) | (simp;omega)) (by first | omega | (simp;omega) | simp))):=h
def q_9 (h:p:=by exact (B3 (([[43], [45], [42], [47], [37], [60], [61, 61]] : List Str).map scv) rfl ⟨rfl, rfl, rfl, rfl, rfl, rfl, rfl, tt⟩ t_2 t_0 t_3 rfl rfl rfl rfl rfl rfl rfl rfl rfl)):=h
def d4O (h:p:=by exact (o9 rfl tt tt rfl rfl b1j a7z om_ (i8 (by rw [show s + (Tr.n k u o nm ch).size - 1 = s + x8 ch by rw [Tr.size];omega];exact dY.node)) rfl)):=h
def d3O (h:p:=by exact ⟨⟨tt, _, _, _, rfl, rfl, .inr ⟨_, b4X, a2C, nb rfl, rfl⟩⟩, ⟨tt, _, _, _, rfl, rfl, .inl ⟨a10, rfl⟩⟩, ⟨tt, _, _, _, rfl, rfl, .inl ⟨b8m, rfl⟩⟩, tt⟩):=h
def d5D (h:p:=by exact ⟨do_, do_, do_, by dsimp only;simp only [n_7];omega, by dsimp only;simp only [n_7, C4, I3];omega, do_, do_⟩):=h
def d7w (h:p:=by exact (c9 rfl (A7 #[(0, 1), (1, 1), (2, 1), (3, 1), (4, 1)] rfl ⟨tt, tt, tt, tt, tt⟩ b9a Tryz.zeroValue112 rfl ⟨_, rfl⟩ (fun w => by kernel_rfl) rfl rfl))):=h
def d6Y (h:p:=by exact (o9 rfl tt tt rfl rfl t_4 t_1 om_ (i8 (by rw [show (((m + 1 : Nat) : Int) - 1).toNat = m by omega, cf.args];exact K4 hc)) rfl)):=h
def d6E (h:p:=by exact ⟨⟨tt, ur_⟩, ⟨tt, ur_⟩, ⟨tt, ur_⟩, ⟨tt, (by first | exact ur_ | exact .same (n_9 (fun z : Int => iv z) (by show _ = ((P8 s i1 : Nat) : Int);omega)) uo_)⟩, tt⟩):=h
def d6C (h:p:=by exact (A7 #[(0, 1), (1, 1), (2, 1), (3, 1), (4, 1), (5, 1)] rfl ⟨tt, tt, tt, tt⟩ b7A a5i rfl ⟨_, rfl⟩ (fun w => by kernel_rfl) rfl rfl)):=h
def d7f (h:p:=by exact (c9 rfl (A7 #[(0, 1), (1, 1), (2, 1), (3, 1), (4, 1), (5, 1)] rfl tt b7A a5i rfl ⟨_, rfl⟩ (fun w => by kernel_rfl) rfl rfl))):=h
def d6a (h:p:=by rw [hh, hr];exact ⟨(), .ret (.old (.tup fun i c hi => by rcases i with _ | _ | i<;>first | (injection hi with hi;subst hi;exact .val _) | cases hi)), tt⟩):=h
def d5G (h:p:=by exact (fun hg => V1 rfl hg hg rfl rfl t_2 t_0 a0w (by first | omega | (simp at hg;omega)) (by first | omega | (simp at hg;omega)))):=h
def c2Q (h:p:=by exact (A7 #[(0, 1), (1, 1), (2, 1), (3, 1), (4, 1)] rfl ⟨rfl, tt, tt, tt⟩ a5X b4g rfl ⟨_, rfl⟩ (fun w => by kernel_rfl) rfl rfl)):=h
def a3Y (h:p:=by first | omega | (simp only [M4, C4, I3] at hb ⊢;omega) | (simp only [M4, C4, I3];omega)):=h
def d5x (h:p:=by exact (c9 rfl (N4 rfl tt rfl t_6 a0w (i8 (by rw [K9];first | exact b70 hkm fC | (rw [hj1];exact b4j om_ hyk))) rfl))):=h
def a99 (h:p:=by exact (A7 #[(0, 1), (1, 1), (2, 1), (3, 1), (4, 1)] rfl ⟨rfl, tt, tt⟩ a5X b4g rfl ⟨_, rfl⟩ (fun w => by kernel_rfl) rfl rfl)):=h
def d7F (h:p:=by exact (A7 #[(0, 1), (1, 1), (2, 1), (3, 1), (4, 1)] rfl ⟨tt, tt, tt⟩ a5X b4g rfl ⟨_, rfl⟩ (fun w => by kernel_rfl) rfl rfl)):=h
def d6w (h:p:=by exact (a23 (vc := vcE) (l := me) (a := (D9 x.k x.p x.o)) d1n rfl tt tt rfl rfl c06 a5i rfl rfl (a5f En.z rfl _))):=h
def c9w (h:p:=by exact (A7 #[(0, 1), (1, 1), (2, 1), (3, 1)] rfl ⟨rfl, tt, tt, tt⟩ a7j a2g rfl ⟨_, rfl⟩ (fun w => by kernel_rfl) rfl rfl)):=h
def d6j (h:p:=by exact (A7 #[(0, 1), (1, 1), (2, 1), (3, 1), (4, 1), (5, 1)] rfl tt b7A a5i rfl ⟨_, rfl⟩ (fun w => by kernel_rfl) rfl rfl)):=h
def d7C (h:p:=by exact (c9 rfl (R5 (vc := sv) (l := S0) (a := o) a0m rfl tt tt rfl rfl a1Y t_3 rfl rfl (a5f ([] : Str) rfl _)))):=h
def b8J (h:p:=by exact (A7 #[(0, 1), (1, 1), (2, 1), (3, 1)] rfl ⟨rfl, tt, tt⟩ a7j a2g rfl ⟨_, rfl⟩ (fun w => by kernel_rfl) rfl rfl)):=h
def d6o (h:p:=by exact (a23 (vc := vcE) (l := me) (a := (D9 k p o)) d1n rfl tt tt rfl rfl c06 a5i rfl rfl (a5f En.z rfl _))):=h
def d7O (h:p:=by exact (fun hg => L5 rfl hg hg rfl rfl t_5 (by first | omega | (simp at hg;omega)) (by rw [a1Z];exact hc (sm_ hg)))):=h
def d7t (h:p:=by exact (fun hg => o9 rfl hg hg rfl rfl a7L a3O (by first | omega | (simp at hg;omega)) (i8 (hp (sm_ hg)).1) rfl)):=h
def d5C (h:p:=by exact (B3 [Src.cv ((a50 l y.p).getD Src.z)] rfl ⟨tt, tt⟩ b7u a2C a2L rfl rfl rfl rfl rfl rfl rfl rfl rfl)):=h
def b0A (h:p:=by exact ⟨⟨tt, _, _, _, rfl, rfl, .inr ⟨_, b4I, a3n, nb rfl, rfl⟩⟩, ⟨tt, (by conv => lhs;whnf)⟩, ⟨tt, (by conv => lhs;whnf)⟩, tt⟩):=h
def d7L (h:p:=by exact (A7 #[(0, 1), (1, 1), (2, 1)] rfl ⟨tt, tt, tt, tt⟩ c6J c64 rfl ⟨_, rfl⟩ (fun w => by kernel_rfl) rfl rfl)):=h
def c9g (h:p:=by exact (c9 rfl (A7 #[(0, 1), (1, 1)] rfl ⟨tt, tt, tt⟩ b6L a5Z rfl ⟨_, rfl⟩ (fun w => by kernel_rfl) rfl rfl))):=h
def c6i (h:p:=by exact ⟨⟨tt, _, _, _, rfl, rfl, .inr ⟨_, c8t, b1c, nb rfl, rfl⟩⟩, ⟨tt, (by conv => lhs;whnf)⟩, ⟨tt, (by conv => lhs;whnf)⟩, tt⟩):=h
def d4z (h:p:=by exact ⟨⟨tt, _, _, _, rfl, rfl, .inr ⟨_, b4X, a2C, nb rfl, rfl⟩⟩, ⟨tt, (by conv => lhs;whnf)⟩, ⟨tt, (by conv => lhs;whnf)⟩, tt⟩):=h
def d3H (h:p:=by exact (c9 rfl (A7 #[(0, 1), (1, 1), (2, 1)] rfl tt a5U a2L rfl ⟨_, rfl⟩ (fun w => by kernel_rfl) rfl rfl))):=h
def d7j (h:p:=by exact (A7 #[(0, 1), (1, 1), (2, 1)] rfl ⟨rfl, rfl, tt⟩ c5s b4f rfl ⟨_, rfl⟩ (fun w => by kernel_rfl) rfl rfl)):=h
def d7m (h:p:=by exact (a23 (vc := vcS) (l := ms) (a := y.p) b7C rfl tt tt rfl rfl c0S a2L rfl rfl (a5f Src.z rfl _))):=h
def d0l (h:p:=by exact (A7 #[(0, 1), (1, 1), (2, 1), (3, 1)] rfl tt a7j a2g rfl ⟨_, rfl⟩ (fun w => by kernel_rfl) rfl rfl)):=h
def d5h (h:p:=by exact (fun hg => L5 rfl hg hg rfl rfl t_5 (by first | omega | (simp at hg;omega)) (by rw [a1Z];exact hb))):=h
def d7K (h:p:=by exact (B3 [[.val (.int .u8 (m : Int))]] rfl ⟨tt, tt⟩ t_7 t_9 a3J rfl rfl rfl rfl rfl rfl rfl rfl rfl)):=h
def d5y (h:p:=by exact (R5 (vc := kv) (l := m) (a := (b.toNat : Int)) c99 rfl tt tt rfl rfl c0t t_8 rfl rfl (b3z _ _))):=h
def d6P (h:p:=by exact (fun hg => L5 rfl hg rfl rfl rfl t_5 (by first | omega | (simp at hg;omega)) (b := s.headD 0) (c4g (sm_ hg)))):=h
def d6i (h:p:=by exact (fun hg => L5 rfl hg hg rfl rfl t_5 (by first | omega | (simp at hg;omega)) (b := s[e]?.getD 0) (b8B (sm_ hg)))):=h
def d7o (h:p:=by exact (B3 (a1b.map scv) rfl ⟨rfl, rfl, rfl, tt⟩ t_2 t_0 t_3 rfl rfl rfl rfl rfl rfl rfl rfl rfl)):=h
def d0H (h:p:=by exact .ret (.tups ⟨.old (c := .agg ((⟨[], [], []⟩ : Src)).cells) (o8 (Src.pure _)).old, .old (.val _), .old (.val _), tt⟩)):=h
def d7g (h:p:=by exact (A7 #[(0, 1), (1, 1), (2, 1)] rfl ⟨tt, tt⟩ a5U a2L rfl ⟨_, rfl⟩ (fun w => by kernel_rfl) rfl rfl)):=h
def d6B (h:p:=by exact (c9 rfl (B3 [Ex.cv x] rfl ⟨tt, tt⟩ b1j a7z b4g rfl rfl rfl rfl rfl rfl rfl rfl rfl))):=h
def d7E (h:p:=by exact (c9 rfl (B3 [De.cv d] rfl ⟨tt, tt⟩ a9A a4H a8K rfl rfl rfl rfl rfl rfl rfl rfl rfl))):=h
def d4n (h:p:=by exact ⟨⟨tt, rfl⟩, ⟨tt, rfl⟩, ⟨tt, rfl⟩, ⟨tt, (by show (iv (arK x.k)) = iv x.args.length;rw [cb])⟩, ⟨tt, rfl⟩, ⟨tt, rfl⟩, ⟨tt, rfl⟩, tt⟩):=h
def d5W (h:p:=by exact (A7 #[(0, 1), (1, 1)] rfl ⟨rfl, rfl, tt⟩ b6L a5Z rfl ⟨_, rfl⟩ (fun w => by kernel_rfl) rfl rfl)):=h
def d6m (h:p:=by exact (B3 ([x1, x3].map icv) rfl ⟨tt, tt, tt⟩ t_4 t_1 t_8 rfl rfl rfl rfl rfl rfl rfl rfl rfl)):=h
def d7H (h:p:=by exact (B3 ([x, x3].map icv) rfl ⟨tt, tt, tt⟩ t_4 t_1 t_8 rfl rfl rfl rfl rfl rfl rfl rfl rfl)):=h
def d6l (h:p:=by exact (c9 rfl (B3 [scv y.p] rfl ⟨tt, tt⟩ t_2 t_0 t_3 rfl rfl rfl rfl rfl rfl rfl rfl rfl))):=h
def d6A (h:p:=by exact (A7 #[(0, 1), (1, 1), (2, 1)] rfl tt a5U a2L rfl ⟨_, rfl⟩ (fun w => by kernel_rfl) rfl rfl)):=h
def d7G (h:p:=by exact (c9 rfl (B3 [icv x3] rfl ⟨tt, tt⟩ t_4 t_1 t_8 rfl rfl rfl rfl rfl rfl rfl rfl rfl))):=h
def d0F (h:p:=by first | exact W4 _ _ | exact U9 _ _ _ | exact U5 _ _ _ | exact C1 _ _ _ | exact a0A _ _ _):=h
def d4i (h:p:=by exact (B3 [icv (i : Int)] rfl ⟨tt, tt⟩ t_4 t_1 t_8 rfl rfl rfl rfl rfl rfl rfl rfl rfl)):=h
def d6D (h:p:=by exact (o9 rfl tt tt rfl rfl b1j a7z om_ (i8 (by rw [hmi, dz];exact ez.he)) rfl)):=h
def d5O (h:p:=by exact (fun hg => m0 rfl hg rfl t_6 (by first | exact c0D _ _ | exact a07 hq _ | exact a07 hs _) rfl)):=h
def d0s (h:p:=by exact (fun hg => b08 rfl hg rfl rfl rfl (by first | omega | (simp at hg;omega)) (by first | omega | (simp at hg;omega)))):=h
def c9t (h:p:=by exact (B3 [Fi.cv y] rfl ⟨tt, tt⟩ a7L a3O a5Z rfl rfl rfl rfl rfl rfl rfl rfl rfl)):=h
def d5M (h:p:=by exact (B3 [Fi.cv f] rfl ⟨tt, tt⟩ a7L a3O a5Z rfl rfl rfl rfl rfl rfl rfl rfl rfl)):=h
def d5P (h:p:=by exact (fun hg => c0h rfl hg rfl rfl rfl (by first | omega | (simp at hg;omega)) (by first | omega | (simp at hg;omega)))):=h
def d6s (h:p:=by exact ⟨by show List.length _ <= _;simp only [n_7, C4, I3];omega, rfl⟩):=h
def d6z (h:p:=by exact .inl ⟨n + 1, a0G rfl (.tup fun i c h => by simp at h), by rw [pIs, n_1 hb], hW n hn (a5K hb de_)⟩):=h
def d3R (h:p:=by exact (o9 rfl tt rfl rfl rfl t_4 t_1 om_ (i8 (K4 (m := 0) (s := s) rfl)) rfl)):=h
def d5o (h:p:=by exact (c4 rfl a6c ⟨tt, tt⟩ (Z4 hT hm (q := 0) (s := kf ph) (by cases ph<;>exact ⟨rfl, rfl, de_⟩)) rfl)):=h
def d5A (h:p:=by exact (o9 rfl tt rfl rfl rfl t_4 t_1 om_ (i8 (K4 (m := 1) (s := s) rfl)) rfl)):=h
def d0N (h:p:=by exact (B3 [scv s6] rfl ⟨tt, tt⟩ t_2 t_0 t_3 rfl rfl rfl rfl rfl rfl rfl rfl rfl)):=h
def d5X (h:p:=by exact (B3 [bcv c] rfl ⟨tt, tt⟩ t_7 t_9 a3J rfl rfl rfl rfl rfl rfl rfl rfl rfl)):=h
def d6V (h:p:=by exact (B3 [scv s] rfl ⟨tt, tt⟩ t_2 t_0 t_3 rfl rfl rfl rfl rfl rfl rfl rfl rfl)):=h
def d5u (h:p:=by exact (c9 rfl (G8 rfl tt rfl rfl rfl (by show ([32] ++ sgn o : Str).length + 1 <= _;rw [M4];simp;omega)))):=h
def c7H (h:p:=by exact (A7 #[(0, 1)] rfl tt Tryz.runUnderlying25 Tryz.zeroValue25 rfl ⟨_, rfl⟩ (fun w => by kernel_rfl) rfl rfl)):=h
def c9F (h:p:=by exact ⟨⟨tt, _, _, _, rfl, rfl, .inr ⟨_, b4X, a2C, nb rfl, rfl⟩⟩, ⟨tt, (by conv => lhs;whnf)⟩, tt⟩):=h
def d5I (h:p:=by rw [eT];simp only [<- F7 b];exact b21 (k := 6) rfl rfl de_ (F2 _ _ _ _ _) a21):=h
def d5E (h:p:=by rw [eT];simp only [<- F7 b];exact b21 (k := 5) rfl rfl de_ (F2 _ _ _ _ _) a21):=h
def d5n (h:p:=by exact (m0 rfl tt rfl a10 (by first | exact c0D _ _ | exact a07 hq _ | exact a07 hs _) rfl)):=h
def d6F (h:p:=by exact (a5N rfl tt rfl c6c b1n ((d3E m).trans (by rw [b8z om_])))):=h
def d6h (h:p:=by exact (fun hg => L5 rfl hg hg rfl rfl t_5 (by first | omega | (simp at hg;omega)) hb)):=h
def b6V (h:p:=by show List.length _ <= _;simp only [n_7, C4, I3];omega):=h
def d6p (h:p:=by cases ph;exact S5 (k := 2) rfl rfl de_ (.val _);exact S5 (k := 3) rfl rfl de_ (.val _)):=h
def d5F (h:p:=by exact ⟨⟨x, m, a2, e, b2⟩, a5e he rfl (.val _), .dead (fun _ => hN he) he hm cq ⟨bc, aK⟩⟩):=h
def d7y (h:p:=by exact .inl ⟨(i, m, b2), Y2 rfl rfl (nb rfl) (.val _), by rw [af];exact g1, do_, g3, g4⟩):=h
def d5Z (h:p:=by exact (fun hg => c4 rfl a6c ⟨hg, tt⟩ (Z4 hT hm (q := 2) (s := 0) ⟨rfl, rfl, de_⟩) rfl)):=h
def d0L (h:p:=by first | omega | (simp at hk hg;omega) | (change (_ : Bool) = _ at hk;simp at hk hg;omega)):=h
def c9y (h:p:=by have hb : Tryz.t231.bytes = 40 := rfl;rw [hb];first | omega | (simp;done) | (simp;omega)):=h
def d4g (h:p:=by exact (o9 rfl tt rfl rfl rfl t_4 t_1 om_ (i8 (K4 g0)) rfl)):=h
def c2o (h:p:=by have hb : Tryz.t54.bytes = 32 := rfl;rw [hb];first | omega | (simp;done) | (simp;omega)):=h
def a3v (h:p:=by exact ⟨tt, _, _, rfl, by first | omega | (simp at hg;omega), by first | omega | (simp at hg;omega)⟩):=h
def a4s (h:p:=by have hb : Tryz.t9.bytes = 16 := rfl;rw [hb];first | omega | (simp;done) | (simp;omega)):=h
def d3F (h:p:=by exact (o9 rfl tt tt rfl rfl b7u a2C om_ (i8 (c0q hb)) rfl)):=h
def d6R (h:p:=by exact (c4 rfl c2K ⟨tt, tt⟩ (a2y hT hn ⟨rfl, rfl, n_4 rfl⟩) rfl)):=h
def c14 (h:p:=by exact ⟨⟨tt, (by conv => lhs;whnf)⟩, ⟨tt, (by conv => lhs;whnf)⟩, ⟨tt, (by conv => lhs;whnf)⟩, tt⟩):=h
def c2F (h:p:=by exact (G8 rfl tt rfl rfl rfl (by simp only [M4, C4, I3];omega))):=h
def c7U (h:p:=by have hb : Tryz.t3.bytes = 8 := rfl;rw [hb];first | omega | (simp;done) | (simp;omega)):=h
def b5f (h:p:=by exact (o9 rfl tt tt rfl rfl t_2 t_0 om_ (i8 (c9A hb)) rfl)):=h
def c77 (h:p:=by exact (N4 rfl tt rfl a10 rfl (by rw [hmi];simpa using i8 (f := icv) hv) rfl)):=h
def b6M (h:p:=by exact (fun hg => a0s rfl hg rfl b1j (by first | exact X2 _ _ | rfl) rfl)):=h
def c5B (h:p:=by exact (c4 rfl Tryz.call106 ⟨tt, tt, tt⟩ (b6Z (a3d ao _) _ (bd.find _ _ _)) rfl)):=h
def b6b (h:p:=by exact (L5 rfl tt tt rfl rfl t_5 om_ (by rw [a1Z];exact hb))):=h
def c0Z (h:p:=by exact (c9 rfl (V1 rfl tt tt rfl rfl t_2 t_0 a0w om_ om_))):=h
def c1V (h:p:=by exact (fun hg => a0s rfl hg rfl a9A (by first | exact X2 _ _ | rfl) rfl)):=h
def b2h (h:p:=by exact c9 rfl (j5 rfl tt rfl c2w rfl c8O de_)):=h
def c0x (h:p:=by exact (o9 rfl tt tt rfl rfl b1j a7z om_ (i8 hb) rfl)):=h
def d5t (h:p:=by rw [a3w, n_0 u1, n_1 u2];unfold F0;(repeat (first | split))<;>omega):=h
def a8r (h:p:=by exact (o9 rfl tt tt rfl rfl a9A a4H om_ (i8 hd) rfl)):=h
def b5y (h:p:=by exact (G8 rfl rfl tt rfl rfl (by simp only [C4, I3];omega))):=h
def c1c (h:p:=by exact (o9 rfl tt tt rfl rfl c1q c0K om_ (i8 hb) rfl)):=h
def d3j (h:p:=by exact c9 rfl (j5 rfl tt rfl a5X rfl b5l de_)):=h
def c6F (h:p:=by exact (G8 rfl tt rfl rfl rfl (by simp only [C4, I3];omega))):=h
def c74 (h:p:=by exact (o9 rfl tt tt rfl rfl a9A a4H om_ (i8 hb) rfl)):=h
def c5g (h:p:=by exact (o9 rfl tt tt rfl rfl a7L a3O om_ (i8 hb) rfl)):=h
def d2S (h:p:=by exact c9 rfl (j5 rfl tt rfl a5U rfl b5T de_)):=h
def a6y (h:p:=by exact (o9 rfl tt tt rfl rfl t_2 t_0 om_ (i8 hb) rfl)):=h
def a5I (h:p:=by exact c9 rfl (j5 rfl tt rfl b6L rfl t_0 de_)):=h
def d5B (h:p:=by exact .inl ⟨(i6, n5, b6), Y2 rfl rfl (nb rfl) (.val _), af, do_, fD, y6⟩):=h
def b5e (h:p:=by exact (o9 rfl tt tt rfl rfl t_2 t_0 om_ (i8 hy) rfl)):=h
def c0R (h:p:=by exact (o9 rfl tt tt rfl rfl t_4 t_1 om_ (i8 hv) rfl)):=h
def b18 (h:p:=by exact c9 rfl (L8 rfl tt rfl b4I a3n rfl (nb rfl))):=h
def b4Y (h:p:=by exact (a0s rfl tt rfl b1j (by first | exact X2 _ _ | rfl) rfl)):=h
def a8k (h:p:=by exact (a0s rfl tt rfl t_7 (by first | exact X2 _ _ | rfl) rfl)):=h
def c7I (h:p:=by exact (a0s rfl tt rfl b7u (by first | exact X2 _ _ | rfl) rfl)):=h
def I7 (h:p:=by exact (a0s rfl tt rfl t_2 (by first | exact X2 _ _ | rfl) rfl)):=h
def a1T (h:p:=by exact c9 rfl (L8 rfl tt rfl c1p b3R rfl (nb rfl))):=h
def a02 (h:p:=by exact (a0s rfl tt rfl t_4 (by first | exact X2 _ _ | rfl) rfl)):=h
def a0S (h:p:=by exact (a0s rfl tt rfl a7L (by first | exact X2 _ _ | rfl) rfl)):=h
def a3X (h:p:=by exact (a0s rfl tt rfl a9A (by first | exact X2 _ _ | rfl) rfl)):=h
def b41 (h:p:=by exact (a0s rfl tt rfl c1q (by first | exact X2 _ _ | rfl) rfl)):=h
def b61 (h:p:=by exact (a0s rfl tt rfl b1J (by first | exact X2 _ _ | rfl) rfl)):=h
def b6y (h:p:=by exact (d6G rfl tt rfl t_7 t_5 b1n)):=h
def c1I (h:p:=by exact (fun hg => c4 rfl a6c ⟨hg, tt⟩ (Z4 hT hn ⟨rfl, rfl, de_⟩) rfl)):=h
def b2U (h:p:=by exact ⟨tt, _, _, _, rfl, rfl, .inr ⟨_, b4I, a3n, nb rfl, rfl⟩⟩):=h
def c39 (h:p:=by exact ⟨tt, _, _, _, rfl, rfl, .inr ⟨_, b98, a4H, nb rfl, rfl⟩⟩):=h
def c8c (h:p:=by exact (c9 rfl (j5 rfl tt rfl c2w rfl c8O de_))):=h
def c6O (h:p:=by exact (c9 rfl (j5 rfl tt rfl b96 rfl b9R de_))):=h
def d1A (h:p:=by exact (c9 rfl (j5 rfl tt rfl a5X rfl b5l de_))):=h
def a35 (h:p:=by exact ⟨tt, _, _, _, rfl, rfl, .inr ⟨_, c1p, b3R, nb rfl, rfl⟩⟩):=h
def a3C (h:p:=by exact (V1 rfl tt tt rfl rfl t_4 t_1 rfl om_ om_)):=h
def c0i (h:p:=by exact (c9 rfl (j5 rfl tt rfl a5U rfl b5T de_))):=h
def b4V (h:p:=by exact (fun hg => j5 rfl tt rfl b0J rfl b03 de_)):=h
def c07 (h:p:=by exact ⟨tt, _, _, _, rfl, rfl, .inr ⟨_, c8t, b1c, nb rfl, rfl⟩⟩):=h
def c8x (h:p:=by simp only [M4, C4, I3] at hbm ⊢;omega):=h
def c5N (h:p:=by rw [eT];exact b21 (k := 3) rfl rfl de_ (F2 _ _ _ _ _) a21):=h
def d6H (h:p:=by exact (c9 rfl (j5 rfl tt rfl b6L rfl t_0 de_))):=h
def c0e (h:p:=by exact (c9 rfl (G8 rfl tt rfl rfl rfl (by first | omega | (simp;omega))))):=h
def c0I (h:p:=by exact (fun hg => a2V rfl hg rfl a7j rfl a10 rfl)):=h
def d5k (h:p:=by exact (fun hg => a2E rfl hg rfl b6L rfl t_0 de_)):=h
def c8Q (h:p:=by exact (fun hg => a2V rfl hg rfl a7j rfl t_6 rfl)):=h
def d2h (h:p:=by exact (fun hg => j5 rfl tt rfl a5X rfl t_1 de_)):=h
def d1B (h:p:=by exact (c9 rfl (G8 rfl tt tt rfl rfl (by first | omega | (simp;omega))))):=h
def b5G (h:p:=by exact (fun hg => j5 rfl tt rfl a7j rfl t_0 de_)):=h
def b69 (h:p:=by exact (fun hg => j5 rfl tt rfl b0J rfl t_0 de_)):=h
def b7O (h:p:=by exact (fun hg => j5 rfl tt rfl b0J rfl t_1 de_)):=h
def b7j (h:p:=by exact ⟨tt, (by first | exact ur_ | exact .same rfl (a0A _ ([] : Str) _))⟩):=h
def b91 (h:p:=by exact (fun hg => j5 rfl tt rfl a5U rfl b5T de_)):=h
def d7r (h:p:=by exact (fun hg => j5 rfl tt rfl c58 rfl c86 de_)):=h
def c10 (h:p:=by exact (fun hg => j5 rfl tt rfl a5X rfl t_0 de_)):=h
def d7a (h:p:=by exact (fun hg => j5 rfl tt rfl a5U rfl a2W de_)):=h
def c7K (h:p:=by exact (fun hg => j5 rfl tt rfl a7j rfl t_1 de_)):=h
def d6r (h:p:=by exact (fun hg => j5 rfl tt rfl c00 rfl t_1 de_)):=h
def d5R (h:p:=by exact (fun hg => j5 rfl tt rfl c5s rfl t_0 de_)):=h
def c6n (h:p:=by exact (fun hg => j5 rfl tt rfl b6L rfl t_0 de_)):=h
def b5i (h:p:=by exact (c4 rfl c2K ⟨tt, tt⟩ (a2y hT hn ⟨rfl, rfl, de_⟩) rfl)):=h
def c4C (h:p:=by exact (a5N rfl tt rfl c4t c6c (b42 om_))):=h
def c55 (h:p:=by exact (fun hg => j5 rfl tt rfl a5U rfl t_0 de_)):=h
def b2H (h:p:=by exact (c9 rfl (L8 rfl tt rfl c1p b3R rfl (nb rfl)))):=h
def b7l (h:p:=by exact (c4 rfl a6c ⟨tt, tt⟩ (Z4 hT hn ⟨rfl, rfl, de_⟩) rfl)):=h
def c0o (h:p:=by exact (fun hg => b0F rfl hg rfl (fun hp => ⟨hg, hp⟩) (fun _ => rfl))):=h
def c1s (h:p:=by exact (fun hg => b13 rfl hg rfl (fun hp => ⟨hg, hp⟩) (fun _ => rfl))):=h
def c36 (h:p:=by exact (c9 rfl (c4 rfl Tryz.call69 trivial (a5w _) rfl))):=h
def a69 (h:p:=by simp only [M4, C4, I3];omega):=h
def d5m (h:p:=by exact (j5 rfl tt rfl c2w rfl c8O de_)):=h
def b2C (h:p:=by exact (j5 rfl tt rfl Tryz.runUnderlying244 rfl c7g de_)):=h
def d1K (h:p:=by exact (j5 rfl tt rfl b0J rfl b03 de_)):=h
def b2Q (h:p:=by exact (j5 rfl tt rfl b9a rfl Tryz.sizeOf110 de_)):=h
def b7G (h:p:=by exact (j5 rfl tt rfl b9a rfl Tryz.sizeOf109 de_)):=h
def c0Q (h:p:=by exact (j5 rfl tt rfl b6h rfl b03 de_)):=h
def T1 (h:p:=by exact ⟨⟨tt, (by conv => lhs;whnf)⟩, ⟨tt, (by conv => lhs;whnf)⟩, tt⟩):=h
def c4T (h:p:=by exact (j5 rfl tt rfl a5X rfl b5l de_)):=h
def b28 (h:p:=by exact (j5 rfl tt rfl b0J rfl a2W de_)):=h
def a3z (h:p:=by exact (a2V rfl tt rfl a7j rfl a10 rfl)):=h
def b0C (h:p:=by exact (j5 rfl tt rfl b96 rfl a2W de_)):=h
def b58 (h:p:=by exact (j5 rfl tt rfl b6h rfl b8p de_)):=h
def c0X (h:p:=by exact (a2V rfl tt rfl a7j rfl t_6 rfl)):=h
def c7A (h:p:=by exact (j5 rfl tt rfl c3S rfl b8p de_)):=h
def b5h (h:p:=by exact (j5 rfl tt rfl a5U rfl b5T de_)):=h
def b64 (h:p:=by exact (j5 rfl tt rfl a5X rfl t_1 de_)):=h
def c1T (h:p:=by exact (j5 rfl tt rfl b0J rfl t_1 de_)):=h
def a9y (h:p:=by exact (j5 rfl tt rfl b0J rfl t_0 de_)):=h
def c1P (h:p:=by exact (c4 rfl Tryz.call100 ⟨tt, tt⟩ (b77 fl nn hl _) rfl)):=h
def b4G (h:p:=by exact (j5 rfl tt rfl a7j rfl t_0 de_)):=h
def d6I (h:p:=by exact (j5 rfl tt rfl a5X rfl t_0 de_)):=h
def c1N (h:p:=by exact (j5 rfl tt rfl c23 rfl t_1 de_)):=h
def c4X (h:p:=by exact (j5 rfl tt rfl a5U rfl a2W de_)):=h
def c8a (h:p:=by exact (j5 rfl tt rfl c2w rfl t_1 de_)):=h
def c63 (h:p:=by exact (j5 rfl tt rfl a7j rfl t_1 de_)):=h
def c8V (h:p:=by exact (j5 rfl tt rfl b6h rfl t_1 de_)):=h
def d6c (h:p:=by exact (j5 rfl tt rfl b9a rfl c7h de_)):=h
def V7 (h:p:=by exact (G8 rfl tt rfl rfl rfl (by first | omega | (simp;omega)))):=h
def a4i (h:p:=by exact (G8 rfl rfl tt rfl rfl (by first | omega | (simp;omega)))):=h
def a9R (h:p:=by exact (j5 rfl tt rfl b6L rfl t_0 de_)):=h
def a6H (h:p:=by exact (j5 rfl tt rfl c5s rfl t_0 de_)):=h
def a8s (h:p:=by exact (j5 rfl tt rfl b7A rfl t_1 de_)):=h
def b2j (h:p:=by exact (j5 rfl tt rfl c4y rfl t_1 de_)):=h
def b2g (h:p:=by exact (j5 rfl tt rfl b7A rfl t_0 de_)):=h
def b15 (h:p:=by exact c9 rfl (m0 rfl tt rfl b8m rfl rfl)):=h
def b4Z (h:p:=by exact (B6 ⟨.val _, .val _, .val _, .val _, U9 _ _ _, tt⟩)):=h
def b6o (h:p:=by cases ph<;>exact ⟨rfl, rfl, n_4 rfl⟩):=h
def b4R (h:p:=by exact (j5 rfl tt rfl a5U rfl t_0 de_)):=h
def d2u (h:p:=by exact c9 rfl (m0 rfl tt rfl c1r rfl rfl)):=h
def d2k (h:p:=by exact c9 rfl (m0 rfl tt rfl c7O rfl rfl)):=h
def d5Q (h:p:=by exact c9 rfl (m0 rfl tt rfl Tryz.isAgg36 rfl rfl)):=h
def a1y (h:p:=by exact (G8 rfl tt tt rfl rfl (by first | omega | (simp;omega)))):=h
def b6k (h:p:=by exact (L8 rfl tt rfl b4I a3n rfl (nb rfl))):=h
def a4K (h:p:=by exact c9 rfl (m0 rfl tt rfl t_6 rfl rfl)):=h
def a9z (h:p:=by exact c9 rfl (m0 rfl tt rfl a10 rfl rfl)):=h
def b2f (h:p:=by exact (L8 rfl tt rfl c4E c4a rfl (nb rfl))):=h
def c4c (h:p:=by exact (L8 rfl tt rfl Tryz.isAgg212 a7z rfl (nb rfl))):=h
def b07 (h:p:=by first | exact a1J (by intro a;rfl) _ | assumption):=h
def b95 (h:p:=by exact (c4 rfl c61 ⟨tt, tt⟩ (b7w m om_ _) rfl)):=h
def d2c (h:p:=by rw [hr];exact .tups ⟨.old (.val _), .old (.val _), tt⟩):=h
def F3 (h:p:=by exact c9 rfl (a0Y rfl tt (by conv => lhs;whnf))):=h
def a06 (h:p:=by exact (L8 rfl tt rfl c1p b3R rfl (nb rfl))):=h
def a8t (h:p:=by exact (L8 rfl tt rfl b4X a2C rfl (nb rfl))):=h
def b7Z (h:p:=by exact (L8 rfl tt rfl c8t b1c rfl (nb rfl))):=h
def c8o (h:p:=by exact (c4 rfl c3I ⟨tt, tt⟩ (a1h x.name _) rfl)):=h
def c5j (h:p:=by exact (W7 rfl tt rfl b98 a4H (nb rfl))):=h
def c8I (h:p:=by exact (L8 rfl tt rfl c6U a7m rfl (nb rfl))):=h
def c4P (h:p:=by exact (c4 rfl Tryz.call270 ⟨tt, tt⟩ (b8d x.k _) rfl)):=h
def c67 (h:p:=by exact (W7 rfl tt rfl c6U a7m (nb rfl))):=h
def c1A (h:p:=by exact (c4 rfl c2a ⟨tt, tt⟩ (a1k x.a _) rfl)):=h
def c1z (h:p:=by exact (c4 rfl b9j ⟨tt, tt⟩ (a0J x.a _) rfl)):=h
def d3c (h:p:=by exact (c4 rfl Tryz.call29 trivial (a4v _) rfl)):=h
def b7J (h:p:=by exact (L5 rfl tt tt rfl rfl t_5 om_ hb)):=h
def c1H (h:p:=by exact (B6 ⟨.val _, C1 _ [] _, P2 _ [] _, tt⟩)):=h
def M8 (h:p:=by exact (b0F rfl tt rfl (fun hp => hp) (fun _ => rfl))):=h
def c6s (h:p:=by exact (c9 rfl (m0 rfl tt rfl c1r rfl rfl))):=h
def c4d (h:p:=by exact (c9 rfl (m0 rfl tt rfl b8m rfl rfl))):=h
def c6r (h:p:=by exact (c9 rfl (m0 rfl tt rfl Tryz.isAgg36 rfl rfl))):=h
def c4v (h:p:=by exact (c9 rfl (m0 rfl tt rfl c6m rfl rfl))):=h
def c5G (h:p:=by exact (c9 rfl (m0 rfl tt rfl b3F rfl rfl))):=h
def d6t (h:p:=by exact (c9 rfl (a4z rfl rfl (by conv => lhs;whnf)))):=h
def Q1 (h:p:=by exact (b13 rfl tt rfl (fun hp => hp) (fun _ => rfl))):=h
def b3e (h:p:=by exact (c9 rfl (a4z rfl tt (by conv => lhs;whnf)))):=h
def d6x (h:p:=by exact (fun hg => a1A rfl hg rfl rfl rfl (a6G _ _))):=h
def c5r (h:p:=by exact (c9 rfl (m0 rfl tt rfl t_6 rfl rfl))):=h
def a90 (h:p:=by exact (c9 rfl (m0 rfl tt rfl a10 rfl rfl))):=h
def b2i (h:p:=by exact (fun hg => m0 rfl hg rfl Tryz.isAgg117 rfl rfl)):=h
def c0y (h:p:=by exact (c4 rfl Tryz.call83 trivial (b9c _) rfl)):=h
def a8B (h:p:=by exact (fun hg => a1A rfl hg hg rfl rfl (a6G _ _))):=h
def b4K (h:p:=by exact (a43 rfl tt rfl t_4 rfl rfl)):=h
def d5l (h:p:=by unfold arK;(repeat (first | split))<;>omega):=h
def c09 (h:p:=by exact (a43 rfl tt rfl t_2 rfl rfl)):=h
def b9L (h:p:=by exact (fun hg => m0 rfl hg rfl c1r rfl rfl)):=h
def d6g (h:p:=by exact (fun hg => m0 rfl hg rfl Tryz.isAgg30 rfl rfl)):=h
def X0 (h:p:=by exact (c9 rfl (a0Y rfl tt (by conv => lhs;whnf)))):=h
def a2b (h:p:=by exact (fun hg => m0 rfl hg rfl t_6 rfl rfl)):=h
def a34 (h:p:=by exact (fun hg => m0 rfl hg rfl a10 rfl rfl)):=h
def d2I (h:p:=by rw [hr, T5 (sm_ h2)];rfl):=h
def c1Y (h:p:=by rw [a0W, a5t];omega):=h
def c1u (h:p:=by exact (fun hg => c40 rfl hg rfl t_5)):=h
def a8w (h:p:=by first | omega | (simp;done) | (simp;omega)):=h
def C3 (h:p:=by exact (fun hg => a0Y rfl tt (by conv => lhs;whnf))):=h
def a3G (h:p:=by exact (fun hg => a0Y rfl hg (by conv => lhs;whnf))):=h
def d6q (h:p:=by exact (fun hg => a0v rfl hg rfl t_6 rfl)):=h
def a8c (h:p:=by exact c9 rfl (a4Y rfl tt rfl rfl)):=h
def c0T (h:p:=by rw [es];simp only [F7]):=h
def H9 (h:p:=by simp [ho, Op.operands, Call.operands]):=h
def N6 (h:p:=by exact (a1A rfl tt rfl rfl rfl (a6G _ _))):=h
def b6F (h:p:=by exact (m0 rfl tt rfl Tryz.isAgg149 rfl rfl)):=h
def b9U (h:p:=by exact (m0 rfl tt rfl Tryz.isAgg117 rfl rfl)):=h
def a8x (h:p:=by exact (B6 ⟨a09 _ ([] : List Fi) _, tt⟩)):=h
def b1L (h:p:=by exact (m0 rfl tt rfl Tryz.isAgg110 rfl rfl)):=h
def b6q (h:p:=by exact (m0 rfl tt rfl Tryz.isAgg109 rfl rfl)):=h
def c0V (h:p:=by exact (m0 rfl tt rfl Tryz.isAgg103 rfl rfl)):=h
def G7 (h:p:=by first | omega | (simp;omega) | simp):=h
def a3W (h:p:=by exact (a4z rfl rfl (by conv => lhs;whnf))):=h
def a6R (h:p:=by exact (m0 rfl tt rfl b3F rfl rfl)):=h
def a6x (h:p:=by exact (a1A rfl tt tt rfl rfl (a6G _ _))):=h
def b5Z (h:p:=by exact (m0 rfl tt rfl c7O rfl rfl)):=h
def b5J (h:p:=by exact (m0 rfl tt rfl c1r rfl rfl)):=h
def c0J (h:p:=by exact (m0 rfl tt rfl c6m rfl rfl)):=h
def b7a (h:p:=by exact (a1A rfl tt tt rfl rfl (a63 _ _))):=h
def a0Q (h:p:=by exact (a4z rfl tt (by conv => lhs;whnf))):=h
def a6k (h:p:=by exact (fun hg => a0d rfl hg rfl rfl rfl rfl)):=h
def b0Z (h:p:=by first | omega | (simp at hg;omega)):=h
def T2 (h:p:=by exact (m0 rfl tt rfl t_6 rfl rfl)):=h
def a1w (h:p:=by exact (m0 rfl tt rfl a10 rfl rfl)):=h
def O8 (h:p:=by exact (c40 rfl tt rfl t_5)):=h
def a00 (h:p:=by cases ph<;>exact ⟨rfl, rfl, de_⟩):=h
def a1F (h:p:=by exact c9 rfl (b2y rfl tt rfl)):=h
def a75 (h:p:=by exact (fun hg => a0d rfl hg hg rfl rfl rfl)):=h
def d2J (h:p:=by exact (a0Y rfl rfl (by conv => lhs;whnf))):=h
def b7r (h:p:=by exact (m0 rfl tt rfl a10 hk rfl)):=h
def A3 (h:p:=by exact (a0Y rfl tt (by conv => lhs;whnf))):=h
def a6N (h:p:=by exact (a0v rfl tt rfl a10 rfl)):=h
def a6I (h:p:=by exact (a0v rfl tt rfl t_6 rfl)):=h
def b1V (h:p:=by exact (c9 rfl (a4Y rfl tt rfl rfl))):=h
def b0p (h:p:=by first | exact X2 _ _ | rfl):=h
def b5I (h:p:=by have := B7 bI.1;omega):=h
def o7 (h:p:=by exact (c0h rfl tt rfl rfl rfl om_ om_)):=h
def a8q (h:p:=by first | omega | (simp;omega)):=h
def Y8 (h:p:=by exact (b08 rfl tt rfl rfl rfl om_ om_)):=h
def a3E (h:p:=by exact (c0h rfl tt tt rfl rfl om_ om_)):=h
def a4a (h:p:=by rw [a5t];omega):=h
def a76 (h:p:=by exact (b08 rfl tt tt rfl rfl om_ om_)):=h
def b7v (h:p:=by rw [Q5 gt dP];decide):=h
def b7Q (h:p:=by rw [a0W];omega):=h
def Z0 (h:p:=by exact (a0d rfl tt rfl rfl rfl rfl)):=h
def b5w (h:p:=by exact (c9 rfl (b2y rfl tt rfl))):=h
def b0x (h:p:=by exact (B6 ⟨.val _, .val _, tt⟩)):=h
def b0W (h:p:=by simp [A5.add, <- hr.len]):=h
def a05 (h:p:=by exact (B6 ⟨a09 _ _ _, tt⟩)):=h
def b0h (h:p:=by exact (a0d rfl tt tt rfl rfl rfl)):=h
def a4O (h:p:=by exact (fun hg => b5Q rfl hg rfl)):=h
def w9 (h:p:=by simp [ho, Op.operands]):=h
def a4g (h:p:=by exact (a4Y rfl tt rfl rfl)):=h
def a3I (h:p:=by first | omega | simp):=h
def a8g (h:p:=by exact ⟨tt, _, _, rfl, om_, om_⟩):=h
def j2 (h:p:=by conv => lhs;whnf):=h
def O1 (h:p:=by cases ph<;>rfl):=h
def b0f (h:p:=by exact ⟨tt, tt, tt, rfl, tt⟩):=h
def a3A (h:p:=by exact ⟨tt, tt, tt, tt, tt⟩):=h
def a2S (h:p:=by exact (N8 _ [] false)):=h
def w8 (h:p:=by exact (fun _ _ => nb rfl)):=h
def a5D (h:p:=by exact (b2y rfl tt rfl)):=h
def Y6 (h:p:=by exact (b0T _ _ _ _)):=h
def c0G (h:p:=by exact (b5Q rfl tt rfl)):=h
def a4x (h:p:=by exact ⟨tt, rfl, rfl, tt⟩):=h
def a8o (h:p:=by exact (b3H (nb rfl))):=h
def a3F (h:p:=by exact ⟨tt, tt, rfl, tt⟩):=h
def a15 (h:p:=by exact (C1 _ [] _)):=h
def c1g (h:p:=by rw [hr];rfl):=h
def C6 (h:p:=by exact ⟨tt, tt, tt, tt⟩):=h
def Q7 (h:p:=by simp;omega):=h
def U8 (h:p:=by exact (a9o _ _ _)):=h
def W6 (h:p:=by exact (C1 _ _ _)):=h
def a0P (h:p:=by exact (U5 _ _ _)):=h
def j4 (h:p:=by exact (.inr ⟨_, rfl⟩)):=h
def B4 (h:p:=by kernel_rfl):=h
def a2A (h:p:=by exact (a09 _ _ _)):=h
def a1N (h:p:=by exact (fun _ => rfl)):=h
def G5 (h:p:=by exact (a4C _ _)):=h
def o4 (h:p:=by exact ⟨tt, rfl, tt⟩):=h
def a2u (h:p:=by simp [e]):=h
def j1 (h:p:=by exact ⟨tt, tt, tt⟩):=h
def o0 (h:p:=by exact ⟨tt, rfl⟩):=h
def uo_ (h:p:=by first|exact .val _|exact .ptr (nb rfl)|exact .map (nb rfl)|exact C1 _ _ _|exact a09 _ _ _|exact P2 _ _ _|exact U9 _ _ _|exact (by first|exact W4 _ _|exact U9 _ _ _|exact U5 _ _ _|exact C1 _ _ _|exact a0A _ _ _)|exact (N5 ([]:List Int) false).old|exact (N5 _ _).old|exact .vec (nb rfl)|exact N8 _ _ _|exact b0M _ _|exact b0v _ _ _|exact a9p _ _ _|exact a0A _ _ _|exact c0n _ [] _|exact U5 _ _ _):=h
def uz_ (h:p:=by intro a ha;repeat' (first|exact .val _|exact .ptr (nb rfl)|exact .map (nb rfl)|exact tt|exact C1 _ _ _|exact N8 _ _ _|exact U9 _ _ _|exact P2 _ _ _|exact De.old _ _|exact Ex.old _ _|exact .vec (nb rfl)|exact b0M _ _|exact a09 _ _ _|exact Src.old _ _|exact (N5 _ _).old|exact b0T _ _ _ _|exact (by first|exact W4 _ _|exact U9 _ _ _|exact C1 _ _ _|exact a0A _ _ _)|exact (N5 ([]:List Int) false).old|exact b0v _ _ _|exact c54 _ _ _|exact c0p _ _ _|exact (by first|exact C1 _ _ _|exact c1v _ _)|exact a0A _ _ _|exact (o8 (cs:=[_,_,_,_]) ⟨.val _,.val _,.val _,.val _,tt⟩).old|exact (by first|exact .vec (nb rfl)|exact c8g _|exact C1 _ _ _)|exact (by first|exact W4 _ _|exact c5S _ _ _|exact U9 _ _ _|exact C1 _ _ _|exact a0A _ _ _)|exact (a1D _ _).old|exact (H0 _ _).old|exact X5 _ _|exact a4C _ _|exact X3 _ _|exact c0n _ _ _|exact C1 _ [] _|exact a85 (nb rfl) (nb rfl) (nb rfl)|exact (by first|exact a9p _ _ _|exact c1v _ _)|exact (by first|exact a25 (nb rfl)|exact a4C _ _|exact c5S _ _ _|exact B6 (show b3o _ _ from ⟨.val _,.val _,.val _,.val _,tt⟩))|exact (o8 (cs:=B5 _ _) ⟨H0 _ _,tt⟩).old|exact P2 _ ([]:List De) _|exact P2 _ [] _|exact a9p _ _ _ | refine B6 ?_ | refine ⟨?_,?_⟩)):=h
def pu_ (h:p:=by repeat' (first|exact .val _|exact N5 _ _|exact E7 _ _|exact a0i _ _|exact a4q _ _|exact H0 _ _|exact a5a _ _|exact a5h _ _|exact a0R _ _|exact b7z _ _|exact a1D _ _|exact a2T _ _|exact tt | refine o8 ?_ | refine C0 ?_ | refine ⟨?_,?_⟩)):=h
def ur_ (h:p:=by first|exact .ptr rfl|exact .map rfl|exact .vec rfl|exact .same rfl uo_|exact E9.grow (f:=scv) (fun _=>⟨.val _,tt⟩) rfl|exact E9.grow (f:=Tok.cv) (fun _=>⟨.val _,.val _,.val _,.val _,tt⟩) rfl|exact E9.grow (f:=Fi.cv) (fun _=>⟨.val _,.val _,tt⟩) rfl|exact .same rfl (C1 _ ([]:List Str) _)|exact E9.grow (f:=Sn.cv) (fun _=>⟨.val _,.val _,tt⟩) rfl|exact E9.grow (f:=icv) (fun _=>⟨.val _,tt⟩) rfl|exact E9.grow (f:=bcv) (fun _=>⟨.val _,tt⟩) rfl|exact (by exact .vec rfl)|exact .same rfl (N5 ([]:List Int) false).old|exact .same rfl (U5 _ ([]:List Tok) _)):=h
def ut_ (h:p:=by repeat' (first|exact tt | refine ⟨?_,?_⟩|exact ur_|exact rfl)):=h
def uq_ (h:p:=by repeat' (first|exact tt|exact .inl rfl|refine ⟨?_,?_⟩|(refine .inr ⟨_,rfl,.same rfl ?_⟩;first|exact a4C _ _|exact b0T _ _ _ _|exact B6 (a3p _)|exact a25 (nb rfl)|exact a9o _ _ _|exact X5 _ _|exact b3H (nb rfl)|exact X3 _ _|exact a85 (by decide) (by decide) (by decide)|exact B6 ⟨c0p _ _ _,tt⟩|exact Src.old _ _|exact B6 ⟨.val _,.val _,.val _,.val _,tt⟩|exact B6 ⟨.val _,.val _,C1 _ [] _,N8 _ [] _,tt⟩|exact B6 ⟨.val _,.val _,C1 _ _ _,N8 _ _ _,tt⟩|exact B6 ⟨.val _,tt⟩|exact B6 ⟨a09 _ _ _,tt⟩|exact d0E (by decide)|exact a25 (by decide)|exact B6 ⟨.val _,.val _,.val _,.val _,U9 _ [] _,tt⟩|exact b0v _ _ _|exact a9o 4 0 b.length))):=h
def sp_ (h:q->p:=by intro U;simpa using U):=h U
def sm_ (h:q->p:=by intro U;simp at U;omega):=h U
theorem gx_ {α:Type} (l:List α) (i:Nat) (h:i < l.length:=by omega):∃ b,l[i]? = some b:=⟨l[i],by simp⟩
def tu_ (h:p:=by repeat' (first|exact tt|exact rfl | refine ⟨?_,?_⟩)):=h
def do_ (h:p:=by dsimp only;omega):=h
def om_ (h:p:=by omega):=h
def si_ (h:p:=by simp):=h
def de_ (h:p:=by decide):=h
def z_0 (h:q->p:=by intro U;refine D4 ?_;refine C8 ?_;exact U):=h U
def z_1 (h:q->p:=by intro U;refine qD (p7 rfl a2g rfl j4 ?_);refine qD (j3 rfl tt tt rfl j2 a3n j4 rfl rfl (nb rfl) ?_);exact U):=h U
def z_2 (h:q->p:=by intro U;refine qD (j3 rfl tt tt rfl j2 a3n j4 rfl rfl (nb rfl) ?_);refine c6 ?_;exact U):=h U
def z_3 (h:q->p:=by intro U;refine cY a0Q ?_;refine z8 ?_;exact U):=h U
def z_4 (h:q->p:=by intro U;refine z_0 ?_;refine cY A3 ?_;exact U):=h U
def z_6 (h:Qz q->p:=by intro U;refine qY o7 ?_;refine qD (j3 rfl tt tt rfl j2 t_1 (.inl rfl) rfl rfl (nb rfl) ?_);exact U tt):=h fun _=>U
def z_7 (h:q->p:=by intro U;refine qD (p7 rfl a8K rfl j4 ?_);refine qD (j3 rfl tt tt rfl j2 a4H j4 rfl rfl (nb rfl) ?_);exact U):=h U
def z_8 (h:q->p:=by intro U;refine qD (p7 rfl b4g rfl j4 ?_);refine qD (j3 rfl tt tt rfl j2 a7z j4 rfl rfl (nb rfl) ?_);exact U):=h U
def V9 (h:q->p:=by intro U;refine j6 ?_;refine c6 ?_;exact U):=h U
def b35 (h:p:=by refine qY o7 ?_;exact ⟨(i+1),_,⟨om_,om_⟩,tu_,rfl⟩):=h
def a8I (h:p:=by refine qY o7 ?_;exact ⟨(i+1),_,⟨om_,om_,hr⟩,tu_,rfl⟩):=h
def a3Q (h:q->p:=by intro U;refine qG a6k ?_;refine qY M8 ?_;exact U):=h U
def a2j (h:q->p:=by intro U;refine qG C3 ?_;refine qG C3 ?_;exact U):=h U
def a8V (h:p:=by refine c6 ?_;exact ⟨_,rE1,_,_,rfl,rfl,j8 q_4⟩):=h
def d1k (h:q->p:=by intro U;refine a4l rfl rfl (fun h=>h) rfl rfl (fun hk hg=>j5 rfl tt rfl b7A rfl t_0 de_) ?_;refine a4l rfl rfl (fun h=>h) rfl rfl (fun hk hg=>m0 rfl ⟨hk,hg⟩ rfl t_6 rfl rfl) ?_;exact U):=h U
def a3Z (h:q->p:=by intro U;refine hY A3 ?_;refine hY a5D ?_;exact U):=h U
def Y5 (h:q->p:=by intro U;refine a59 ?_;refine qo ?_;exact U):=h U
def a3g (h:q->p:=by intro U;refine qG a6k ?_;refine qY Q1 ?_;exact U):=h U
def b1t (h:q->p:=by intro U;refine cY A3 ?_;refine cG C3 ?_;exact U):=h U
def c8Y (h:p:=by refine c6 ?_;exact ⟨_,rE1,_,_,rfl,rfl,(.tok (fun r hr c hc=>(D8 (f:=scv) (fun _=>T0.all ⟨.val _,tt⟩) _) r hr c hc))⟩):=h
def a8F (h:q->p:=by intro U;refine z8 ?_;refine D4 ?_;exact U):=h U
def b1B (h:p:=by refine c6 ?_;exact ⟨_,rE1,_,_,rfl,rfl,F1 d5t⟩):=h
def b3W (h:q->p:=by intro U;refine qD (F5 rfl tt j2 j4 ?_);refine qD (F5 rfl tt j2 j4 ?_);exact U):=h U
def c7j (h:p:=by refine z_2 ?_;exact ⟨_,p8 (rs:=[.cell 4 231,.tmp 5,.tmp 6]) (cs:=[_,_,_]) rfl b0A (n_4 rfl),q_5⟩):=h
def c21 (h:q->p:=by intro U;refine cY A3 ?_;refine de rfl a9Y a3F (a0b _ _ de_ (q:=0) (s:=2) ⟨rfl,rfl,de_⟩) rfl ?_;exact U):=h U
def a2h (h:Qz q->p:=by intro U;refine qY a4i ?_;refine qY V7 ?_;exact U tt):=h fun _=>U
def b85 (h:q->p:=by intro U;refine D7 rfl rfl b3e ⟨tt,?_⟩;refine a5b ?_;exact U):=h U
def a7h (h:q->p:=by intro U;refine chf rfl X0 ?_;refine chf rfl X0 ?_;exact U):=h U
def a2l (h:q->p:=by intro U;refine z_3 ?_;refine c6 ?_;exact U):=h U
def c48 (h:q->p:=by intro U;refine qD (p7 rfl a2L rfl j4 ?_);refine qD (j3 rfl tt tt rfl j2 a2C j4 rfl rfl (nb rfl) ?_);exact U):=h U
def c3F (h:p:=by refine c6 ?_;exact ⟨_,rE1,⟨(_,p1),a2w rfl Y6 (.old (.val _)),b6V,do_,do_⟩⟩):=h
def a3y (h:q->p:=by intro U;refine C8 ?_;refine cY A3 ?_;exact U):=h U
def b6N (h:p:=by refine c6 ?_;exact ⟨_,rE1,_,_,rfl,rfl,F1 c1g⟩):=h
def c30 (h:q->p:=by intro U;refine qD (j3 rfl tt tt rfl j2 a2C j4 rfl rfl (nb rfl) ?_);refine c6 ?_;exact U):=h U
def d0z (h:p:=by refine z_2 ?_;exact ⟨_,p8 (rs:=[.cell 4 231,.tmp 5,.tmp 6]) (cs:=[_,_,_]) rfl b0A (n_4 rfl),q_6⟩):=h
def b5S (h:q->p:=by intro U;refine C5 ?_;refine D4 ?_;exact U):=h U
def b1p (h:q->p:=by intro U;refine qs 1 (qD (F5 rfl tt j2 j4 ?_));exact U):=h U
def c2v (h:q->p:=by intro U;refine cG a6k ?_;refine cY M8 ?_;exact U):=h U
def d7b (h:q->p:=by intro U;refine qk ?_;refine j7 hCC (α:=Nat) (fun k=>[(3,(.vec 0 0 st.length)),(4,iv i),(5,.ptr 1 0),(6,iv x.args.length),(7,iv k),(8,(.list (E.map Ex.cv) en none)),(9,iv E.length),(10,iv i)]) (fun _=>[(.vec 1 ((st++rest).map icv)),.box x.cells]) (fun k=>k<=x.args.length) (fun k=>x.args.length - k) 0 (n_5 _) tu_ (ah:=[]) rfl w8 uz_ ?_;exact U):=h U
def b1x (h:q->p:=by intro U;refine z_0 ?_;refine cD (F5 rfl tt j2 j4 ?_);exact U):=h U
def d0C (h:q->p:=by intro U;refine qD (p7 rfl Tryz.zeroValue129 rfl j4 ?_);refine qD (j3 rfl tt tt rfl j2 c0K j4 rfl rfl (nb rfl) ?_);exact U):=h U
def c5e (h:q->p:=by intro U;refine cD (j3 rfl tt tt rfl j2 a2W (.inl rfl) rfl rfl (nb rfl) ?_);refine z8 ?_;exact U):=h U
def b1q (h:q->p:=by intro U;refine chf rfl X0 ?_;refine chf rfl b5w ?_;exact U):=h U
def d6Q (h:q->p:=by intro U;refine cY A3 ?_;refine z8 ?_;exact U):=h U
def c4J (h:q->p:=by intro U;refine qY a99 ?_;refine qD (j3 rfl tt tt rfl j2 a7z j4 rfl rfl (nb rfl) ?_);exact U):=h U
def c37 (h:q->p:=by intro U;refine qD (j3 rfl tt tt rfl j2 b3R j4 rfl rfl (nb rfl) ?_);refine c6 ?_;exact U):=h U
def a8D (h:q->p:=by intro U;refine ⟨tt,?_⟩;refine a5b ?_;exact U):=h U
def c3D (h:q->p:=by intro U;refine z8 ?_;refine a1K ?_;exact U):=h U
def d4Z (h:q->p:=by intro U;refine qN [rbx T n2 a2 e2 ps b 1,o5 e2 b.length,.box (tk T n).cells] rfl (qD (c5 rfl a3K o4 (M7 hT y2 hW [41] ⟨rfl,rfl,de_⟩) rfl ?_));exact U):=h U
def c7n (h:q->p:=by intro U;refine cY Z0 ?_;refine z_3 ?_;exact U):=h U
def c7R (h:p:=by refine c6 ?_;exact ⟨_,rE1,_,_,rfl,rfl,F1 rfl⟩):=h
def d6M (h:q->p:=by intro U;refine qY b41 ?_;refine j7 hCC (α:=Nat) (fun i=>[(1,(sv s)),(9,(.list (l.map Va.cv) nn none)),(10,iv l.length),(11,iv i)]) (fun _=>[.box (T6 l nn)]) (fun i=>i<=l.length/\a0U l s=a0U (l.drop i) s) (fun i=>l.length - i) 0 ⟨n_5 _,rfl⟩ tu_ (ah:=[]) rfl w8 uz_ ?_;exact U):=h U
def d0p (h:q->p:=by intro U;refine D6 ?_;refine B8 rfl rfl rfl (j3 rfl tt tt rfl j2 a2C j4 rfl rfl (nb rfl) ?_);exact U):=h U
def d7e (h:q->p:=by intro U;refine qY I7 ?_;refine j7 hCC (α:=Nat) (fun i=>[(1,(sv u)),(7,(.list (l.map scv) nn none)),(8,iv l.length),(9,iv i)]) (fun _=>[]) (fun i=>i<=l.length/\decide (u∈l)=decide (u∈l.drop i)) (fun i=>l.length - i) 0 ⟨n_5 _,rfl⟩ tu_ (ah:=[]) rfl w8 uz_ ?_;exact U):=h U
def d3C (h:p:=by refine cY b6k ?_;exact a2d rfl rfl (O2 rfl a4M o4 (N7 _ _ _) rfl (fun _ _=>.inr ⟨(_,_),j9,af,si_⟩))):=h
def c91 (h:q->p:=by intro U;refine qN [rbx T n3 a6 e6 ps b6 3,.dead,.box (tk T n).cells,o5 e6 b6.length] rfl ?_;refine c6 ?_;exact U):=h U
def a7x (h:q->p:=by intro U;refine cY a3W ?_;refine z8 ?_;exact U):=h U
def a7Z (h:q->p:=by intro U;refine cY Z0 ?_;refine z8 ?_;exact U):=h U
def c8P (h:q->p:=by intro U;refine qG d6x ?_;refine qY M8 ?_;exact U):=h U
def d4C (h:q->p:=by intro U;refine cY b28 ?_;refine cY a6R ?_;exact U):=h U
def c2V (h:q->p:=by intro U;refine qG d2h ?_;refine qG a34 ?_;exact U):=h U
def a5R (h:q->p:=by intro U;refine qk (qY O8 ?_);exact U):=h U
def a6T (h:q->p:=by intro U;refine z_4 ?_;refine cY A3 ?_;exact U):=h U
def c7r (h:p:=by refine c6 ?_;exact ⟨_,rE1,_,_,rfl,rfl,F1 d5l⟩):=h
def d5U (h:q->p:=by intro U;refine K0 [rbx T n6 x1 y1 [] [] 2,o5 0 b.length,o5 y1 ([]:List Ex).length,.dead,.box (⟨0,[],[],[]⟩:De).cells,.box [iv kd,(sv s2),.list (l.map scv) (gnn l.length) (G9 l.length 6),.list [] false none],r7 l.length] rfl ?_;refine z8 ?_;exact U):=h U
def c7e (h:p:=by refine c6 ?_;exact ⟨_,rE1,_,_,rfl,rfl,j8 rfl⟩):=h
def a82 (h:q->p:=by intro U;refine cY c0G ?_;refine z8 ?_;exact U):=h U
def c9i (h:q->p:=by intro U;refine cD (j3 rfl tt tt rfl j2 b1c j4 rfl rfl (nb rfl) ?_);refine z8 ?_;exact U):=h U
def b8N (h:q->p:=by intro U;refine hY A3 ?_;refine hY A3 ?_;exact U):=h U
def c5m (h:p:=by refine c6 ?_;exact ⟨_,rE1,_,_,rfl,rfl,C9 rfl⟩):=h
def d0m (h:q->p:=by intro U;refine qH rfl rfl (fun hk hg=>a0d rfl ⟨hk,hg⟩ rfl rfl rfl rfl) ?_;refine qG c0o ?_;exact U):=h U
def a7n (h:Qz q->p:=by intro U;refine C8 ?_;refine cY o7 ?_;refine d6Q ?_;exact U tt):=h fun _=>U
def d0W (h:q->p:=by intro U;refine ⟨⟨a1T,F3,tt⟩,?_⟩;refine D7 rfl rfl c9g ⟨⟨a1T,tt⟩,?_⟩;exact U):=h U
def d6U (h:Qz q->p:=by intro U;refine qY d7K ?_;refine qD (a27 (l:=b) (new:=[UInt8.ofNat m]) (p:=k) rfl tt tt rfl (b0b (c4W eV)) t_7 t_9 b02 a3J rfl (.inl t_7) rfl (a6F _ _) a8q ?_);exact U tt):=h fun _=>U
def c4M (h:Qz q->p:=by intro U;refine S9 rfl rfl tt rfl C3 ?_;refine S9 rfl rfl tt rfl d0s ?_;exact U tt):=h fun _=>U
def c11 (h:q->p:=by intro U;refine b5S ?_;refine a1K ?_;exact U):=h U
def d3Y (h:q->p:=by intro U;refine B8 rfl rfl rfl (j3 rfl tt tt rfl j2 b1c j4 rfl rfl (nb rfl) ?_);refine ⟨⟨d5Q,tt⟩,?_⟩;exact U):=h U
def d3X (h:q->p:=by intro U;refine qG d5R ?_;refine qG a2b ?_;exact U):=h U
def c8v (h:q->p:=by intro U;refine hY c4T ?_;refine hY b5Z ?_;exact U):=h U
def a8S (h:q->p:=by intro U;refine z_4 ?_;refine cY a5D ?_;exact U):=h U
def b8G (h:Qz q->p:=by intro U;refine qY c5g ?_;refine qD (p7 rfl a5Z rfl j4 ?_);refine qD (j3 rfl tt tt rfl j2 a3O j4 rfl rfl (nb rfl) ?_);exact U tt):=h fun _=>U
def d7k (h:q->p:=by intro U;refine a4n rfl rfl (fun h=>h) rfl (fun hk hg=>a2E rfl ⟨hk,hg⟩ rfl c00 rfl t_0 de_) ?_;refine a4n rfl rfl (fun h=>h) rfl (fun hk hg=>a0v rfl ⟨hk,hg⟩ rfl t_6 rfl) ?_;exact U):=h U
def d3M (h:q->p:=by intro U;refine cF [] [0,1,2,3,4] (tl:=[(5,[0,1,2]),(6,[0,1]),(7,[0]),(8,[]),(9,[])]) ?_;refine chf rfl b2H ?_;exact U):=h U
def d6N (h:q->p:=by intro U;refine K0 [rbx T n2 a2 e2 [] [] 2,o5 0 b.length,o5 e2 ([]:List Ex).length,.box (⟨pk,im,bs⟩:Src).cells,.box (⟨0,[],[],[]⟩:De).cells,.box (⟨kd,[],[],[]⟩:De).cells] rfl ?_;refine cY a9y ?_;exact U):=h U
def d7n (h:q->p:=by intro U;refine a4l rfl rfl (fun h=>h) rfl rfl (fun hk hg=>j5 rfl tt rfl b7A rfl t_1 de_) ?_;refine a4l rfl rfl (fun h=>h) rfl rfl (fun hk hg=>m0 rfl ⟨hk,hg⟩ rfl a10 rfl rfl) ?_;exact U):=h U
def d0Z (h:p:=by refine c6 ?_;exact ⟨_,rE1,_,_,rfl,rfl,j8 cz.symm⟩):=h
def d5f (h:p:=by refine c6 ?_;exact ⟨_,rE1,⟨(_,p+2),a2w rfl Y6 (.old (.val _)),b6V,do_,do_⟩⟩):=h
def d6Z (h:q->p:=by intro U;refine a4n rfl rfl (fun h=>h) rfl (fun hk hg=>j5 rfl tt rfl Tryz.runUnderlying25 rfl Tryz.sizeOf23 de_) ?_;refine a4n rfl rfl (fun h=>h) rfl (fun hk hg=>m0 rfl ⟨hk,hg⟩ rfl Tryz.isAgg23 rfl rfl) ?_;exact U):=h U
def d6f (h:q->p:=by intro U;refine a4n rfl rfl (fun h=>h) rfl (fun hk hg=>j5 rfl tt rfl c00 rfl t_0 de_) ?_;refine a4n rfl rfl (fun h=>h) rfl (fun hk hg=>m0 rfl ⟨hk,hg⟩ rfl t_6 rfl rfl) ?_;exact U):=h U
def c9x (h:q->p:=by intro U;refine c2v ?_;refine cY A3 ?_;exact U):=h U
def d3P (h:q->p:=by intro U;refine a4X ?_;refine c2T [] [0,0,1,7,15] [0,1] (tl:=[(2,[1]),(3,[]),(4,[])]) B4 B4 rfl ?_;exact U):=h U
def a8U (h:Qz q->p:=by intro U;refine qk (qY o7 ?_);exact U tt):=h fun _=>U
def d0u (h:q->p:=by intro U;refine qH rfl rfl (fun hk hg=>b5Q rfl ⟨hk,hg⟩ rfl) ?_;refine qG c0o ?_;exact U):=h U
def c90 (h:p:=by refine c6 ?_;exact ⟨_,rE1,(by exact a1H rfl (.val _))⟩):=h
def a6p (h:q->p:=by intro U;refine qG C3 ?_;refine qG c1u ?_;exact U):=h U
def d2a (h:q->p:=by intro U;refine ⟨⟨fun _=>by exact c9 rfl a06,fun _=>by exact c9 rfl a06,fun _=>by exact c9 rfl c1P,fun _=>by exact c9 rfl Z0,tt⟩,?_⟩;refine d4D (i:=6) B4 rfl d7w ?_;exact U):=h U
def a2B (h:q->p:=by intro U;refine z_0 ?_;refine c7n ?_;exact U):=h U
def c4j (h:q->p:=by intro U;refine qD (p7 rfl c2t rfl j4 ?_);refine qD (p7 rfl c2t rfl j4 ?_);exact U):=h U
def a5G (h:q->p:=by intro U;refine cY d2J ?_;refine c3D ?_;exact U):=h U
def d3i (h:q->p:=by intro U;refine b1t ?_;refine cY M8 ?_;exact U):=h U
def d2g (h:q->p:=by intro U;refine qY a3z ?_;refine qD (c5 rfl a9Y a3F (a0b _ _ de_ ⟨rfl,rfl,de_⟩) rfl ?_);exact U):=h U
def c5o (h:p:=by refine a2l ?_;exact ⟨_,rE1,_,_,rfl,rfl,j8 (by simp [e1,e2,e3,e4])⟩):=h
def c4V (h:Qz q->p:=by intro U;refine qD (j3 rfl tt tt rfl j2 c86 (.inl rfl) rfl rfl (nb rfl) ?_);refine qY o7 ?_;exact U tt):=h fun _=>U
def c5t (h:q->p:=by intro U;refine cY c1T ?_;refine cD (j3 rfl tt rfl rfl j2 t_1 (.inl rfl) rfl rfl (nb rfl) ?_);exact U):=h U
def d2M (h:p:=by refine c6 ?_;exact ⟨_,D5 rfl a35,⟨(a5l fl ⟨sp,s⟩,p4),a2w rfl Y6 (.old (V0 _ _).old),(hm.mono om_).ins (hspa) do_,do_,do_⟩⟩):=h
def c0M (h:q->p:=by intro U;refine S9 rfl rfl tt rfl c6n ?_;refine S9 rfl rfl tt rfl a2b ?_;exact U):=h U
def c04 (h:q->p:=by intro U;refine S9 rfl rfl tt rfl d7r ?_;refine S9 rfl rfl tt rfl d6g ?_;exact U):=h U
def b5W (h:q->p:=by intro U;refine qG C3 ?_;refine qG a8B ?_;refine qY M8 ?_;exact U):=h U
def c4o (h:q->p:=by intro U;refine S9 rfl rfl tt rfl (fun hg=>a1A rfl hg hg rfl rfl (c7i _ _)) ?_;refine hY M8 ?_;exact U):=h U
def a79 (h:q->p:=by intro U;refine qG a75 ?_;refine qY Q1 ?_;exact U):=h U
def d2i (h:q->p:=by intro U;refine cY a4g ?_;refine cY a4g ?_;exact U):=h U
def b1P (h:q->p:=by intro U;refine chf rfl d6H ?_;refine chf rfl c5r ?_;exact U):=h U
def c6k (h:q->p:=by intro U;refine cD (j3 rfl tt tt rfl j2 b1c j4 rfl rfl (nb rfl) ?_);refine cY a0Q ?_;exact U):=h U
def d1V (h:q->p:=by intro U;refine d3B (i:=7) B4 rfl rfl (F5 rfl tt j2 j4 ?_);refine ⟨⟨fun h=>absurd h de_,fun h=>absurd h de_,fun h=>absurd h de_,fun h=>absurd h de_,tt⟩,?_⟩;exact U):=h U
def c5A (h:q->p:=by intro U;refine cD (j3 rfl tt tt rfl j2 a4H j4 rfl rfl (nb rfl) ?_);refine z8 ?_;exact U):=h U
def d1w (h:p:=by refine c6 ?_;exact ⟨_,rE1,_,_,rfl,rfl,j8 (show true=decide (u∈l) from (a1R (hw ▸ n_2 hb)).symm)⟩):=h
def d2m (h:q->p:=by intro U;refine qH rfl rfl (fun hk hg=>j5 rfl tt rfl a7j rfl t_0 de_) ?_;refine qH rfl rfl (fun hk hg=>m0 rfl ⟨hk,hg⟩ rfl t_6 rfl rfl) ?_;exact U):=h U
def c4K (h:q->p:=by intro U;refine qN [rbx T n3 a3 e3 ps b 1,o5 e3 b.length,.box (tk T n).cells] rfl (qY d7F ?_);exact U):=h U
def d2q (h:q->p:=by intro U;refine qH rfl rfl (fun hk hg=>j5 rfl tt rfl a5X rfl t_1 de_) ?_;refine qH rfl rfl (fun hk hg=>m0 rfl ⟨hk,hg⟩ rfl a10 rfl rfl) ?_;exact U):=h U
def d3x (h:q->p:=by intro U;refine qH rfl rfl (fun hk hg=>j5 rfl tt rfl b0J rfl t_0 de_) ?_;refine qH rfl rfl (fun hk hg=>m0 rfl ⟨hk,hg⟩ rfl t_6 rfl rfl) ?_;exact U):=h U
def d3r (h:Qz q->p:=by intro U;refine hY (o9 rfl tt tt rfl rfl b3y a3n om_ (i8 (d3A hn)) rfl) ?_;refine hY (W7 rfl tt rfl b4I a3n (nb rfl)) ?_;exact U tt):=h fun _=>U
def c0O (h:p:=by refine j6 ?_;exact ⟨(k+2),_,rfl,tu_,rfl⟩):=h
def d3n (h:q->p:=by intro U;refine qN [rbx T n1 a1 e1 ps b 1,o5 e1 b.length,.box (tk T n).cells] rfl (qD (c5 rfl c0f j1 (a9g hT y1 hW true hc.l ⟨rfl,rfl,de_⟩) rfl ?_));exact U):=h U
def d2n (h:Qz q->p:=by intro U;refine a4n rfl rfl (fun h=>h) rfl (fun hk hg=>a0Y rfl tt j2) ?_;refine a4n rfl rfl (fun h=>h) rfl (fun hk hg=>b08 rfl ⟨hk,hg⟩ rfl rfl rfl d0L d0L) ?_;exact U tt):=h fun _=>U
def b7o (h:p:=by refine c6 ?_;exact ⟨_,rE1,d5B⟩):=h
def d1x (h:p:=by refine c6 ?_;exact ⟨_,p8 (rs:=[.tmp 4,.tmp 5]) (cs:=[_,_]) rfl T1 (n_4 rfl),⟨(),rfl,rfl,tt⟩⟩):=h
def c5Z (h:q->p:=by intro U;refine qN [rbx T n x y ps b 1,o5 y b.length,.box (tk T n).cells] rfl ?_;refine c6 ?_;exact U):=h U
def d3l (h:p:=by refine c6 ?_;exact ⟨_,p8 (rs:=[.tmp 4,.tmp 5]) (cs:=[_,_]) rfl T1 (n_4 rfl),_,_,rfl,rfl,d2c⟩):=h
def d2A (h:p:=by refine V9 ?_;exact ⟨_,p8 (rs:=[.tmp 4,.tmp 5]) (cs:=[_,_]) rfl T1 (n_4 rfl),_,_,rfl,rfl,d2c⟩):=h
def a5H (h:q->p:=by intro U;refine z_0 ?_;refine cY b0h ?_;refine a8F ?_;exact U):=h U
def b06 (h:q->p:=by intro U;refine B8 rfl rfl rfl (j3 rfl tt tt rfl j2 b3R j4 rfl rfl (nb rfl) ?_);refine ⟨tt,?_⟩;refine a5b ?_;exact U):=h U
def b5P (h:p:=by refine K0 [pbx T m ps b2 3,.dead,.box (tk T n).cells,r7 b2.length] rfl ?_;refine a2l ?_;exact ⟨_,rE1,d7y⟩):=h
def c41 (h:q->p:=by intro U;refine cY d1K ?_;refine cY b9U ?_;exact U):=h U
def b0D (h:Qz q->p:=by intro U;refine qY a1y ?_;refine qY V7 ?_;exact U tt):=h fun _=>U
def d1X (h:p:=by refine c6 ?_;exact ⟨_,rE1,_,_,rfl,rfl,j8 (show (G6 x.a && decide (x.b=[]))=a0x x by simp_all [a0x])⟩):=h
def d2r (h:Qz q->p:=by intro U;refine b0Q rfl rfl (fun _=>c9 rfl V7) ?_;refine B8 rfl rfl rfl (T8 rfl tt rfl b65 trivial (by exact dQ om_ (p+2) om_) rfl ?_);exact U tt):=h fun _=>U
def d3q (h:p:=by refine qY Y8 ?_;exact ⟨(s,cg,p6,n - 1),[0,1,2],⟨do_,do_,do_,do_,do_,do_,do_⟩,⟨rfl,rfl⟩,ut_,uq_⟩):=h
def b2m (h:q->p:=by intro U;refine chf rfl X0 ?_;refine D6 ?_;exact U):=h U
def a6t (h:q->p:=by intro U;refine z8 ?_;refine z_0 ?_;exact U):=h U
def d1D (h:Qz q->p:=by intro U;refine ⟨⟨a1T,F3,F3,tt⟩,?_⟩;refine B8 rfl rfl rfl (c5 rfl Tryz.call68 j1 (b2e l nn (k+3) om_ hl v cZ _ 0 rfl) rfl ?_);exact U tt):=h fun _=>U
def d3s (h:p:=by refine a2l ?_;exact ⟨_,rE1,(by exact .inl ⟨(i6,n+1,b6),Y2 rfl rfl (nb rfl) (.val _),af,do_,aZ,y6⟩)⟩):=h
def c8s (h:q->p:=by intro U;refine qG d7a ?_;refine qG (fun hg=>m0 rfl hg rfl b3F rfl rfl) ?_;exact U):=h U
def c4u (h:Qz q->p:=by intro U;refine a2j ?_;refine qG d7O ?_;exact U tt):=h fun _=>U
def d2e (h:p:=by refine c6 ?_;exact ⟨_,rE1,_,_,rfl,rfl,j8 (show (A9 x.a && A9 x.b)=a0x x by simp_all [a0x])⟩):=h
def d2H (h:q->p:=by intro U;refine a4n rfl rfl (fun h=>h) rfl (fun hk hg=>a1A rfl ⟨hk,hg⟩ ⟨hk,hg⟩ rfl rfl (b56 _ _)) ?_;refine S9 rfl rfl tt rfl c0o ?_;exact U):=h U
def c44 (h:q->p:=by intro U;refine z_4 ?_;refine d3i ?_;exact U):=h U
def c4D (h:p:=by refine a7n ?_;exact ⟨(i+1),_,⟨om_,om_⟩,tu_,rfl⟩):=h
def c5h (h:p:=by refine V9 ?_;exact ⟨_,rE1,_,_,rfl,rfl,j8 rfl⟩):=h
def d3e (h:q->p:=by intro U;refine ⟨⟨F3,a1F,b2h,(by exact c9 rfl b64),a9z,tt⟩,?_⟩;refine D7 rfl rfl d7C ⟨⟨F3,a1F,b2h,tt⟩,?_⟩;exact U):=h U
def d2f (h:p:=by refine c6 ?_;exact ⟨_,rE1,_,_,rfl,rfl,(by exact c3q (l:=l++W2 s.length++s) (k:=2) rfl)⟩):=h
def c8q (h:q->p:=by intro U;refine D7 rfl rfl b3e ⟨tt,?_⟩;refine D7 rfl rfl d6t ⟨tt,?_⟩;exact U):=h U
def a9V (h:q->p:=by intro U;refine cY A3 ?_;refine d2i ?_;exact U):=h U
def d3y (h:Qz q->p:=by intro U;refine D6 ?_;refine B8 rfl rfl rfl (c5 rfl a3M j1 (I5 l nn (k+2) _ 0 rfl om_ hl V5 de_ de_) rfl ?_);exact U tt):=h fun _=>U
def a6B (h:q->p:=by intro U;refine a8F ?_;refine z_0 ?_;exact U):=h U
def d1W (h:q->p:=by intro U;refine D7 rfl rfl c0i ⟨tt,?_⟩;refine B8 rfl rfl rfl (j3 rfl tt tt rfl j2 b5T (.inl rfl) rfl rfl (nb rfl) ?_);exact U):=h U
def d2y (h:q->p:=by intro U;refine D7 rfl rfl d1A ⟨tt,?_⟩;refine B8 rfl rfl rfl (j3 rfl tt tt rfl j2 b5l (.inl rfl) rfl rfl (nb rfl) ?_);exact U):=h U
def a9t (h:q->p:=by intro U;refine qG C3 ?_;refine a3Q ?_;exact U):=h U
def a8f (h:q->p:=by intro U;refine z8 ?_;refine z_4 ?_;exact U):=h U
def b0k (h:q->p:=by intro U;refine hY a0Q ?_;refine Y5 ?_;exact U):=h U
def c0z (h:q->p:=by intro U;refine hY A3 ?_;refine S9 rfl rfl tt rfl C3 ?_;exact U):=h U
def a78 (h:q->p:=by intro U;refine c9x ?_;refine cG d2h ?_;refine cG a34 ?_;exact U):=h U
def d1L (h:q->p:=by intro U;refine a4l rfl rfl (fun h=>h) rfl rfl (fun hk hg=>a1A rfl ⟨hk,hg⟩ ⟨hk,hg⟩ rfl rfl (a63 _ _)) ?_;refine cG c1s ?_;exact U):=h U
def b1Z (h:Qz q->p:=by intro U;refine qY a6y ?_;refine qY a6x ?_;exact U tt):=h fun _=>U
def b2P (h:q->p:=by intro U;refine hY b64 ?_;refine hY a1w ?_;exact U):=h U
def b2q (h:q->p:=by intro U;refine hY b2C ?_;refine hY b6F ?_;exact U):=h U
def d1v (h:q->p:=by intro U;refine cD (p7 rfl c64 rfl j4 ?_);refine cD (j3 rfl tt tt rfl j2 c4a j4 rfl rfl (nb rfl) ?_);exact U):=h U
def d2d (h:q->p:=by intro U;refine cF [] [0,1,2,4,5] (tl:=[(3,[0,1,2,3,4]),(6,[0,1,2]),(7,[0,1,2]),(8,[0,1,2]),(9,[])]) ?_;refine b1q ?_;exact U):=h U
def d2z (h:q->p:=by intro U;refine cD (p7 rfl a5Z rfl j4 ?_);refine cD (j3 rfl tt tt rfl j2 a3O j4 rfl rfl (nb rfl) ?_);exact U):=h U
def d2p (h:q->p:=by intro U;refine cD (p7 rfl a2L rfl j4 ?_);refine cD (j3 rfl tt tt rfl j2 a2C j4 rfl rfl (nb rfl) ?_);exact U):=h U
def d3u (h:q->p:=by intro U;refine qD (p7 rfl a5i rfl j4 ?_);refine qD (j3 rfl tt tt rfl j2 b1c j4 rfl rfl (nb rfl) ?_);exact U):=h U
def d3o (h:q->p:=by intro U;refine cD (p7 rfl c2t rfl j4 ?_);refine cD (j3 rfl tt tt rfl j2 b3R j4 rfl rfl (nb rfl) ?_);exact U):=h U
def c6o (h:q->p:=by intro U;refine ⟨⟨F3,tt⟩,?_⟩;refine D7 rfl rfl b5w ⟨tt,?_⟩;exact U):=h U
def c8K (h:q->p:=by intro U;refine cY d6c ?_;refine cY (m0 rfl tt rfl c8D rfl rfl) ?_;exact U):=h U
def b50 (h:Qz q->p:=by intro U;refine j6 ?_;refine qY o7 ?_;exact U tt):=h fun _=>U
def d2F (h:Qz q->p:=by intro U;refine D7 rfl rfl (c9 rfl (c4 rfl b9q j1 (a0z fl _ ⟨sp,s⟩ om_ _) rfl)) ⟨tt,?_⟩;refine b06 ?_;exact U tt):=h fun _=>U
def c8T (h:q->p:=by intro U;refine d3X ?_;refine c8P ?_;exact U):=h U
def d3b (h:q->p:=by intro U;refine cY (j5 rfl tt rfl c58 rfl c86 de_) ?_;refine cY (m0 rfl tt rfl Tryz.isAgg30 rfl rfl) ?_;exact U):=h U
def d2T (h:Qz q->p:=by intro U;refine qO Tryz.func284 ?_;refine qY (o9 rfl tt tt rfl rfl b1j a7z om_ (i8 dY.node) rfl) ?_;exact U tt):=h fun _=>U
def d2P (h:Qz q->p:=by intro U;refine D7 rfl rfl (c9 rfl (c4 rfl b9q j1 (a0z fl _ ⟨y,s⟩ om_ _) rfl)) ⟨tt,?_⟩;refine b06 ?_;exact U tt):=h fun _=>U
def d3t (h:q->p:=by intro U;refine hY (j5 rfl tt rfl c4y rfl b5l de_) ?_;refine hY (m0 rfl tt rfl c7O hk rfl) ?_;exact U):=h U
def c8j (h:q->p:=by intro U;refine S9 rfl rfl tt rfl d6r ?_;refine S9 rfl rfl tt rfl a34 ?_;exact U):=h U
def d3k (h:Qz q->p:=by intro U;refine qY (o9 rfl tt rfl rfl rfl t_4 t_1 om_ (i8 (K4 g1)) rfl) ?_;refine qY o7 ?_;exact U tt):=h fun _=>U
def b23 (h:p:=by refine c8T ?_;refine c6 ?_;exact ⟨_,rE1,_,_,rfl,rfl,j8 (show (A9 x.a && decide (x.b=[]))=a0x x by simp_all [a0x])⟩):=h
def d1U (h:Qz q->p:=by intro U;refine qY d3c ?_;refine qD (c5 rfl a3M j1 (I5 l nn (k+2) _ 0 rfl om_ hl S3 de_ de_) rfl ?_);exact U tt):=h fun _=>U
def b16 (h:q->p:=by intro U;refine hY a0Q ?_;refine a59 ?_;exact U):=h U
def d2R (h:q->p:=by intro U;refine B8 rfl rfl rfl (j3 rfl tt tt rfl j2 b1c j4 rfl rfl (nb rfl) ?_);refine ⟨⟨a8c,tt⟩,?_⟩;exact U):=h U
def d2D (h:p:=by refine c6 ?_;exact ⟨_,rE1,_,_,rfl,rfl,F1 (by rw [a3w,n_0 u1,n_0 u2])⟩):=h
def b92 (h:Qz q->p:=by intro U;refine S9 rfl rfl tt rfl d7t ?_;refine S9 rfl rfl tt rfl d5k ?_;refine S9 rfl rfl tt rfl d6q ?_;exact U tt):=h fun _=>U
def a9F (h:q->p:=by intro U;refine C5 ?_;refine z_0 ?_;exact U):=h U
def d3m (h:q->p:=by intro U;refine D4 ?_;refine cF [] [0,1,2,3,4,5,6,7,8] (tl:=[(9,[0,1,2,3,4,5,6,7,8]),(10,[8]),(11,[])]) ?_;exact U):=h U
def d1R (h:q->p:=by intro U;refine qY a3z ?_;refine qD (c5 rfl a9Y a3F (a0b _ _ de_ (q:=2) (s:=0) ⟨rfl,rfl,de_⟩) rfl ?_);exact U):=h U
def c4G (h:p:=by refine qY a02 ?_;exact ⟨(),_,tt,tu_,rfl⟩):=h
def a9r (h:q->p:=by intro U;refine c44 ?_;refine b1t ?_;exact U):=h U
def c8G (h:p:=by refine C5 ?_;exact ⟨(),_,tt,tu_,rfl⟩):=h
def d1Q (h:Qz q->p:=by intro U;refine Y5 ?_;refine qD (c5 rfl a3M j1 (I5 l nn (p+1) _ 0 rfl om_ hl a1j de_ de_) rfl ?_);exact U tt):=h fun _=>U
def d2U (h:p:=by refine c6 ?_;exact ⟨_,rE1,_,_,rfl,rfl,F1 (by rw [B2,n_1 aj])⟩):=h
def b1R (h:Qz q->p:=by intro U;refine b8G ?_;refine qY a6x ?_;exact U tt):=h fun _=>U
def b2w (h:q->p:=by intro U;refine a3Z ?_;refine hY d5m ?_;exact U):=h U
def d2w (h:q->p:=by intro U;refine cF [] [0,1,2,3,4] (tl:=[(5,[0,1]),(6,[0,1]),(7,[]),(8,[]),(9,[])]) ?_;refine chf rfl d1A ?_;exact U):=h U
def d1u (h:p:=by refine qY o7 ?_;exact ⟨(i+1),_,⟨om_,om_,c2W hb hd hw⟩,tu_,rfl⟩):=h
def b2Y (h:q->p:=by intro U;refine d4C ?_;refine cY A3 ?_;exact U):=h U
def b2G (h:q->p:=by intro U;refine hY A3 ?_;refine c8v ?_;exact U):=h U
def c1F (h:q->p:=by intro U;refine chf rfl b2H ?_;refine chf rfl X0 ?_;exact U):=h U
def d2C (h:p:=by refine c6 ?_;exact ⟨_,rE1,_,_,rfl,rfl,F1 (by rw [a3w,n_1 u1])⟩):=h
def d1N (h:q->p:=by intro U;refine z_8 ?_;refine qY (c4 rfl Tryz.call305 ⟨tt,tt⟩ (a9u ⟨k,u,o,nm,o3 ch s⟩ _) rfl) ?_;exact U):=h U
def d1G (h:p:=by refine qY o7 ?_;exact ⟨(i+1),_,⟨om_,om_,b40 hb hd hw⟩,tu_,rfl⟩):=h
def d1E (h:q->p:=by intro U;refine B8 rfl rfl rfl (j3 rfl tt tt rfl j2 b03 (.inl rfl) rfl rfl (nb rfl) ?_);refine a8D ?_;exact U):=h U
def d2O (h:q->p:=by intro U;refine B8 rfl rfl rfl (j3 rfl tt tt rfl j2 b8p (.inl rfl) rfl rfl (nb rfl) ?_);refine a8D ?_;exact U):=h U
def a9B (h:q->p:=by intro U;refine c2V ?_;refine a3g ?_;exact U):=h U
def d2s (h:p:=by refine qY (c4 rfl Tryz.call233 j1 (b0q s c _) rfl) ?_;exact c7R):=h
def b2F (h:p:=by refine qk ?_;refine c6 ?_;exact ⟨_,rE1,_,_,rfl,rfl,j8 (show false=a0x x by simp_all [a0x])⟩):=h
def b68 (h:q->p:=by intro U;refine qG a6k ?_;refine qG a3G ?_;exact U):=h U
def b7B (h:q->p:=by intro U;refine qG a4O ?_;refine qY Q1 ?_;exact U):=h U
def b5z (h:Qz q->p:=by intro U;refine qY b4Y ?_;refine qY Y8 ?_;exact U tt):=h fun _=>U
def b5D (h:q->p:=by intro U;refine hY A3 ?_;refine hY Z0 ?_;exact U):=h U
def b6H (h:q->p:=by intro U;refine cY c1T ?_;refine cY a1w ?_;exact U):=h U
def b6B (h:q->p:=by intro U;refine qG a4O ?_;refine qY M8 ?_;exact U):=h U
def b6U (h:q->p:=by intro U;refine hY d6I ?_;refine hY T2 ?_;exact U):=h U
def b6a (h:Qz q->p:=by intro U;refine qY a1y ?_;refine qY o7 ?_;exact U tt):=h fun _=>U
def d2E (h:Qz q->p:=by intro U;refine D7 rfl rfl d1B ⟨⟨a1T,F3,tt⟩,?_⟩;refine D7 rfl rfl c9g ⟨⟨a1T,tt⟩,?_⟩;exact U tt):=h fun _=>U
def d2l (h:Qz q->p:=by intro U;refine cG a2b ?_;refine cG (fun hg=>c4 rfl c2U ⟨hg,tt⟩ (a1g x.name om_ _) rfl) ?_;exact U tt):=h fun _=>U
def d1T (h:q->p:=by intro U;refine qY (c4 rfl a6c ⟨tt,tt⟩ (Z4 hT y1 ⟨rfl,rfl,de_⟩) rfl) ?_;refine qY a3z ?_;exact U):=h U
def d2x (h:p:=by refine b50 ?_;exact ⟨(i+1,e),_,⟨do_,do_,hr,h0,do_⟩,tu_,rfl⟩):=h
def d3h (h:p:=by refine c6 ?_;exact ⟨_,rE1,⟨v,rfl,rfl,n_2 hv⟩⟩):=h
def b0E (h:q->p:=by intro U;refine c11 ?_;refine z_0 ?_;exact U):=h U
def d3p (h:q->p:=by intro U;refine qY (c4 rfl a6c ⟨tt,tt⟩ (Z4 hT eO ⟨rfl,rfl,de_⟩) rfl) ?_;refine d2g ?_;exact U):=h U
def b2S (h:q->p:=by intro U;refine qk (qY I7 ?_);exact U):=h U
def b3f (h:q->p:=by intro U;refine b85 ?_;refine c6 ?_;exact U):=h U
def b4S (h:q->p:=by intro U;refine qo (qY Q1 ?_);exact U):=h U
def c4U (h:Qz q->p:=by intro U;refine ⟨tt,?_⟩;refine D7 rfl rfl d1B ⟨tt,?_⟩;exact U tt):=h fun _=>U
def c8n (h:q->p:=by intro U;refine qD (F5 rfl tt j2 j4 ?_);refine qY a3X ?_;exact U):=h U
def d2W (h:q->p:=by intro U;refine qD (j3 rfl tt tt rfl j2 c7g (.inl rfl) rfl rfl (nb rfl) ?_);refine qY O8 ?_;exact U):=h U
def b62 (h:q->p:=by intro U;refine cY M8 ?_;refine z8 ?_;exact U):=h U
def b6d (h:q->p:=by intro U;refine qY d7H ?_;refine qY c2Q ?_;exact U):=h U
def b2a (h:q->p:=by intro U;refine z_3 ?_;refine D4 ?_;exact U):=h U
def b2b (h:q->p:=by intro U;refine cW 10 ?_;refine a3Z ?_;exact U):=h U
def d3z (h:q->p:=by intro U;refine cY c1N ?_;refine cD (j3 rfl tt tt rfl j2 t_1 (.inl rfl) rfl rfl (nb rfl) ?_);exact U):=h U
def b22 (h:Qz q->p:=by intro U;refine c4u ?_;refine a3Q ?_;exact U tt):=h fun _=>U
def d1F (h:q->p:=by intro U;refine cY b2j ?_;refine cD (j3 rfl tt tt rfl j2 t_1 (.inl rfl) hk rfl (nb rfl) ?_);exact U):=h U
def b7q (h:q->p:=by intro U;refine qG a2b ?_;refine b5W ?_;exact U):=h U
def d1P (h:q->p:=by intro U;refine c9Z Tryz.func154 rfl rfl rfl rfl rfl rfl rfl rfl rfl rfl de_ de_ rfl rfl ?_;refine z_4 ?_;exact U):=h U
def b5a (h:q->p:=by intro U;refine c41 ?_;refine cY b4Y ?_;exact U):=h U
def d1y (h:q->p:=by intro U;refine cD (j3 rfl tt tt rfl j2 t_0 (.inl rfl) rfl rfl (nb rfl) ?_);refine z8 ?_;exact U):=h U
def d1Z (h:Qz q->p:=by intro U;refine hY a3C ?_;refine hY (N4 rfl tt rfl a10 rfl (d7M (i8 ci) om_) rfl) ?_;exact U tt):=h fun _=>U
def d2N (h:q->p:=by intro U;refine cF [] [0,1,2,3,4,5,6] (tl:=[(7,[0]),(8,[]),(9,[]),(10,[])]) ?_;refine a7h ?_;exact U):=h U
def d1I (h:p:=by refine c6 ?_;exact ⟨_,rE1,_,_,rfl,rfl,j8 hr.symm⟩):=h
def d2X (h:p:=by refine c6 ?_;exact ⟨_,rE1,_,_,rfl,rfl,F1 hr.symm⟩):=h
def d1C (h:q->p:=by intro U;refine ⟨⟨d2S,d2u,tt⟩,?_⟩;refine D7 rfl rfl d7E ⟨⟨d2S,d2u,tt⟩,?_⟩;exact U):=h U
def d2B (h:q->p:=by intro U;refine qY d7L ?_;refine qD (j3 rfl tt tt rfl j2 c4a j4 rfl rfl (nb rfl) ?_);exact U):=h U
def b43 (h:p:=by refine qk ?_;exact b35):=h
def d3g (h:q->p:=by intro U;refine qN [rbx T n3 a6 e6 ps b6 4,.dead,.dead,.dead,o5 e6 b6.length] rfl ?_;refine c6 ?_;exact U):=h U
def d2K (h:q->p:=by intro U;refine ⟨⟨d3j,d2k,tt⟩,?_⟩;refine D7 rfl rfl d7G ⟨⟨d3j,d2k,tt⟩,?_⟩;exact U):=h U
def b2L (h:q->p:=by intro U;refine z_4 ?_;refine cY b6k ?_;refine cY A3 ?_;exact U):=h U
def d2Y (h:q->p:=by intro U;refine D6 ?_;refine B8 rfl rfl rfl (c5 rfl Tryz.call307 trivial (b5K _) rfl ?_);exact U):=h U
def d3d (h:p:=by refine b4S ?_;exact ⟨(_,p5+1),⟨do_,do_⟩,⟨⟨tt,rfl⟩,⟨tt,rfl⟩,⟨tt,rfl⟩,⟨tt,rfl⟩,⟨tt,rfl⟩,⟨tt,rfl⟩,⟨tt,rfl⟩,tt⟩,rfl⟩):=h
def d1Y (h:q->p:=by intro U;refine qD (j3 rfl tt tt rfl j2 c1n j4 rfl rfl (nb rfl) ?_);refine c6 ?_;exact U):=h U
def d2b (h:Qz q->p:=by intro U;refine qY a6y ?_;refine qY (c4 rfl c0F ⟨tt,tt⟩ (a40 y b5I _) rfl) ?_;exact U tt):=h fun _=>U
def d3v (h:p:=by refine qY o7 ?_;exact ⟨(j+1),_,⟨om_,om_⟩,tu_,rfl⟩):=h
def b51 (h:q->p:=by intro U;refine d4C ?_;refine cY I7 ?_;exact U):=h U
def b46 (h:q->p:=by intro U;refine hY a6N ?_;refine b8N ?_;exact U):=h U
def c5f (h:q->p:=by intro U;refine S9 rfl rfl tt rfl a6k ?_;refine hY Q1 ?_;exact U):=h U
def d2v (h:q->p:=by intro U;refine cY a5D ?_;refine cY (j5 rfl tt rfl b6h rfl a2W de_) ?_;exact U):=h U
def c65 (h:q->p:=by intro U;refine qs 2 (qD (F5 rfl tt j2 j4 ?_));exact U):=h U
def d1S (h:q->p:=by intro U;refine hY (j5 rfl tt rfl c00 rfl t_0 de_) ?_;refine hY T2 ?_;exact U):=h U
def d2Q (h:p:=by refine V9 ?_;exact ⟨_,rE1,_,_,rfl,rfl,j8 d2I⟩):=h
def d1z (h:q->p:=by intro U;refine qN [rbx T n3 a3 e3 ps b 1,o5 e3 b.length,.box (tk T n).cells] rfl (qY a99 ?_);refine qD (c5 rfl a3L C6 (M6 hb ⟨10,x2,0,[],[]⟩ _ ⟨rfl,rfl,de_⟩) rfl ?_);exact U):=h U
def d2j (h:p:=by refine V9 ?_;exact ⟨_,rE1,_,_,rfl,rfl,F1 d2I⟩):=h
end Go
