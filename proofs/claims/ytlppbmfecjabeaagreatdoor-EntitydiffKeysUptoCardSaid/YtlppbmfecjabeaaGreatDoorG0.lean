/- Names for closed terms that are often repeated. -/
import Derived.WalkKit
import Derived.Test.YtlppbmfecjabeaaGreatDoorProg
set_option linter.all false
namespace Go
open Go.Proofs.Tryz
theorem J.{u}{α:Sort u}{a:α}:a=a:=rfl
abbrev t_0:=@sizeOf9
abbrev t_1:=@sizeOf3
abbrev t_2:=@runUnderlying26
abbrev t_3:=@sizeOf39
abbrev t_4:=@zeroValue9
abbrev t_5:=@runUnderlying36
abbrev t_6:=@runUnderlying22
abbrev t_7:=@runUnderlying9
abbrev t_8:=@zeroValue3
abbrev t_9:=@zeroValue39
abbrev Y4:=@isAgg9
abbrev Z3:=@runUnderlying149
abbrev a1P:=@sizeOf5
abbrev a2I:=@runUnderlying205
abbrev a2H:=@sizeOf26
abbrev a2K:=@isAgg3
abbrev a3p:=@typeInfo9
abbrev a3m:=@zeroValue231
abbrev a3h:=@call200
abbrev a4x:=@sizeOf231
abbrev a4d:=@sizeOf67
abbrev a4r:=@typeInfo39
abbrev a4D:=@zeroValue5
abbrev a48:=@zeroValue67
abbrev a4Z:=@call272
abbrev a41:=@call185
abbrev a5a:=@sizeOf54
abbrev a5J:=@call195
abbrev a54:=@sizeOf119
abbrev a6M:=@call193
abbrev a6H:=@zeroValue54
abbrev a6J:=@call19
abbrev a7h:=@runUnderlying67
abbrev a68:=@runUnderlying212
abbrev a7G:=@call20
abbrev a8U:=@call183
abbrev a7I:=@runUnderlying30
abbrev a9w:=@sizeOf212
abbrev a9u:=@call230
abbrev a9e:=@runUnderlying231
abbrev a9H:=@sizeOf32
abbrev b0E:=@zeroValue59
abbrev b0Y:=@call181
abbrev b0M:=@call12
abbrev b3g:=@sizeOf117
abbrev b1p:=@call279
abbrev b1V:=@zeroValue119
abbrev b3s:=@runUnderlying119
abbrev b20:=@runUnderlying65
abbrev b2u:=@call182
abbrev b3l:=@typeInfo5
abbrev b3m:=@isAgg39
abbrev b3H:=@runUnderlying5
abbrev b3G:=@runUnderlying117
abbrev b3U:=@call284
abbrev b68:=@runUnderlying191
abbrev b6g:=@zeroValue212
abbrev b7b:=@sizeOf59
abbrev b6s:=@sizeOf305
abbrev b6Y:=@call226
abbrev b6r:=@sizeOf25
abbrev b9t:=@sizeOf22
abbrev b8O:=@isAgg67
abbrev c0u:=@runUnderlying23
abbrev b7n:=@sizeOf129
abbrev b84:=@runUnderlying228
abbrev b7V:=@call232
abbrev c0c:=@call163
abbrev b74:=@isAgg26
abbrev b9v:=@call86
abbrev b85:=@runUnderlying113
abbrev b7q:=@runUnderlying54
abbrev c1h:=@eqGuardType39
abbrev c1Y:=@call241
abbrev c1J:=@typeInfo3
abbrev c1p:=@sizeOf40
abbrev c2H:=@isAgg40
abbrev c1z:=@runUnderlying112
abbrev c2U:=@runUnderlying302
abbrev c1B:=@zeroValue32
abbrev c1Q:=@call67
abbrev c2d:=@zeroValue36
abbrev c1N:=@runUnderlying39
abbrev c67:=@call74
abbrev c76:=@call118
abbrev c6d:=@runUnderlying195
abbrev c7V:=@runUnderlying199
abbrev c59:=@call194
abbrev c7F:=@call277
abbrev c6f:=@call196
abbrev c74:=@typeInfo54
abbrev c7q:=@zeroValue105
abbrev c7x:=@sizeOf105
abbrev c6Y:=@call280
abbrev c65:=@underlying9
abbrev c6L:=@runUnderlying309
abbrev c75:=@zeroValue129
abbrev d0x:=@runUnderlying3
abbrev d1K:=@call124
abbrev d1a:=@call235
abbrev c0k:=@call160
abbrev c1d:=@call317
abbrev b70:=@sizeOf175
abbrev b9Z:=@runUnderlying110
abbrev b7x:=@runUnderlying59
abbrev b8s:=@runUnderlying109
abbrev b9y:=@call61
abbrev b7z:=@call184
abbrev b9z:=@call186
abbrev c1c:=@sizeOf30
abbrev b8H:=@call122
abbrev b7G:=@runUnderlying103
abbrev c0E:=@isAgg22
abbrev c0O:=@sizeOf149
abbrev b8r:=@underlying3
abbrev b9J:=@call202
abbrev b8a:=@runUnderlying86
abbrev b86:=@isAgg25
abbrev b9N:=@runUnderlying129
abbrev c03:=@isAgg32
abbrev b8l:=@isAgg231
abbrev b9D:=@sizeOf65
abbrev c4S:=@runUnderlying165
abbrev c5U:=@typeInfo231
abbrev c5x:=@call192
abbrev c4J:=@call237
abbrev c3q:=@runUnderlying275
abbrev c3k:=@sizeOf4
abbrev c31:=@isAgg4
abbrev c3d:=@runUnderlying56
abbrev c4W:=@call52
abbrev c30:=@call85
abbrev c4O:=@call316
abbrev c50:=@call231
abbrev c3O:=@call51
abbrev c3j:=@runUnderlying105
abbrev c3s:=@sizeOf103
abbrev c4M:=@zeroValue305
abbrev c4B:=@isAgg119
abbrev c3G:=@call246
abbrev c3V:=@underlying4
abbrev c5O:=@call306
abbrev c39:=@call148
abbrev c4T:=@call221
abbrev c3Y:=@runUnderlying32
abbrev c5m:=@call98
abbrev c4j:=@call159
abbrev c5F:=@sizeOf23
abbrev c4b:=@call16
abbrev c3a:=@call38
abbrev c5w:=@runUnderlying25
abbrev c3E:=@isAgg65
abbrev c9B:=@call123
abbrev c9C:=@call131
abbrev d0A:=@call119
abbrev d3l:=@call236
abbrev d2N:=@call278
abbrev c90:=@call191
abbrev d1j:=@runUnderlying175
abbrev d2B:=@zeroValue175
abbrev c9F:=@isAgg175
abbrev c91:=@call273
abbrev d1q:=@call300
abbrev d0r:=@call322
abbrev d2X:=@call72
abbrev d2J:=@isAgg27
abbrev c83:=@call120
abbrev d1G:=@call87
abbrev d2x:=@isAgg105
abbrev d0G:=@isAgg305
abbrev d2g:=@func246
abbrev d0D:=@runUnderlying242
abbrev d3I:=@func217
abbrev d3W:=@underlying0
abbrev d1t:=@isAgg0
abbrev c8U:=@sizeOf0
abbrev d1E:=@zeroValue0
abbrev d2V:=@zeroValue4
abbrev d2L:=@underlying5
abbrev d3x:=@isAgg5
abbrev c8H:=@underlying141
abbrev c9Z:=@isAgg141
abbrev d2n:=@sizeOf141
abbrev d1e:=@zeroValue141
abbrev d3j:=@underlying262
abbrev d1C:=@isAgg262
abbrev c9v:=@sizeOf262
abbrev d0B:=@zeroValue262
abbrev d0a:=@underlying86
abbrev c8m:=@isAgg86
abbrev d0E:=@sizeOf86
abbrev d0Y:=@zeroValue86
abbrev d1L:=@call113
abbrev c8j:=@call95
abbrev c9t:=@call94
abbrev c8T:=@call89
abbrev d3n:=@call90
abbrev d1R:=@call57
abbrev d2H:=@typeInfo129
abbrev d1s:=@isAgg36
abbrev c9K:=@sizeOf36
abbrev d0S:=@call79
abbrev c8X:=@call34
abbrev d1J:=@runUnderlying29
abbrev d0F:=@zeroValue25
abbrev c8s:=@sizeOf244
abbrev d0y:=@isAgg23
abbrev D:=@if_neg
abbrev F:=@if_pos
abbrev n_2:=@List.mem_of_getElem?
abbrev n_3:=@List.getElem?_eq_some_iff
abbrev n_4:=@Nat.zero_le
abbrev n_5:=@Nat.ne_of_beq_eq_false
abbrev n_6:=@List.length_append
abbrev n_7:=@Nat.le_refl
abbrev n_8:=@congrArg
abbrev n_9:=@Option.bind_some
abbrev C5:=@List.length_cons
abbrev C7:=@List.append_assoc
abbrev D5:=@List.mem_map
abbrev J0:=@List.mem_cons
abbrev J6:=@List.length_nil
abbrev J5:=@List.mem_append
abbrev K0:=@Nat.zero_add
abbrev L7:=@List.length_map
abbrev N0:=@List.mem_iff_getElem?
abbrev O5:=@List.getElem?_map
abbrev P2:=@Option.map_eq_some_iff
abbrev R4:=@Nat.add_mul
abbrev R3:=@List.take_of_length_le
abbrev R0:=@List.drop_eq_getElem_cons
abbrev R8:=@List.getElem?_append_left
abbrev R9:=@Nat.mul_le_mul_right
abbrev T7:=@Bool.and_eq_true
abbrev T6:=@List.drop_eq_nil_of_le
abbrev a0z:=@List.append_nil
abbrev a0U:=@Array.getD_eq_getD_getElem?
abbrev a0H:=@List.getElem?_eq_getElem
abbrev a1v:=@List.getElem?_append_right
abbrev a1B:=@decide_eq_true
abbrev a1J:=@Array.getElem?_eq_getElem
abbrev a1D:=@List.nil_append
abbrev a1G:=@decide_eq_true_eq
abbrev a1H:=@List.take_add_one
abbrev a1Z:=@Array.getElem?_eq_some_iff
abbrev a1S:=@decide_eq_false
abbrev a2y:=@List.getElem?_take
abbrev a2J:=@Nat.lt_or_ge
abbrev a2M:=@List.getElem?_set_ne
abbrev a2L:=@Int.toNat_natCast
abbrev a3j:=@List.map_append
abbrev a4A:=@Nat.eq_of_beq_eq_true
abbrev a4l:=@Nat.mod_lt
abbrev a40:=@List.all_eq_true
abbrev a4Y:=@List.length_take
abbrev a49:=@List.getD_eq_getElem?_getD
abbrev a5z:=@List.getElem?_drop
abbrev a5N:=@List.pairwise_cons
abbrev a5A:=@List.flatMap_cons
abbrev a6K:=@List.take_length
abbrev a6A:=@List.not_mem_nil
abbrev a6D:=@List.mem_cons_of_mem
abbrev a6B:=@of_decide_eq_true
abbrev a6L:=@List.mem_flatMap
abbrev a7p:=@List.getElem?_append
abbrev a7c:=@List.mem_append_left
abbrev a7o:=@List.filter_cons
abbrev a8e:=@Nat.add_assoc
abbrev a8Z:=@Bool.or_eq_true
abbrev a7K:=@List.mem_filter
abbrev a82:=@Nat.le_trans
abbrev a9B:=@Option.getD_some
abbrev a9r:=@Nat.add_zero
abbrev a9z:=@List.getElem?_set
abbrev a9p:=@Nat.lt_of_lt_of_le
abbrev a81:=@List.length_pos_iff
abbrev a88:=@List.take_succ_cons
abbrev b0X:=@Array.getElem?_eq_none
abbrev b0t:=@List.map_cons
abbrev b0C:=@List.mem_of_mem_take
abbrev b0T:=@Array.length_toList
abbrev b0s:=@List.mem_singleton
abbrev b0J:=@Nat.eq_zero_or_pos
abbrev b0L:=@List.getElem?_set_self
abbrev b0Q:=@List.drop_zero
abbrev b0G:=@List.cons_append
abbrev b0P:=@Bool.and_eq_true_iff
abbrev b2P:=@List.getElem?_eq_none
abbrev b2T:=@List.mem_of_mem_drop
abbrev b1P:=@List.mem_cons_self
abbrev b3f:=@List.getElem?_concat_length
abbrev b3L:=@Nat.blt_eq
abbrev b3R:=@decide_eq_false_iff_not
abbrev b33:=@Int.le_refl
abbrev b6q:=@Array.ext_getElem?
abbrev b7e:=@List.mem_append_right
abbrev b7a:=@Nat.add_comm
abbrev b52:=@Nat.mod_eq_of_lt
abbrev b6x:=@List.length_singleton
abbrev b8o:=@Array.mem_of_getElem?
abbrev b7K:=@Array.getElem?_setIfInBounds_ne
abbrev b7U:=@Array.getElem?_modify
abbrev b8x:=@Bool.false_eq_true
abbrev b9b:=@List.ext_getElem?
abbrev c02:=@Bool.not_eq_true'
abbrev b83:=@Option.map_some
abbrev b8M:=@Option.isSome_iff_exists
abbrev a95:=@UInt8.toNat_inj
abbrev b0d:=@List.takeWhile_cons
abbrev a94:=@List.length_drop
abbrev a9O:=@Bool.true_and
abbrev a9T:=@List.drop_length
abbrev a9K:=@Option.map_eq_none_iff
abbrev b0o:=@Nat.sub_self
abbrev b0k:=@of_decide_eq_false
abbrev a9M:=@List.length_filter_le
abbrev b1t:=@List.getElem_mem
abbrev b3p:=@List.foldl_cons
abbrev b2K:=@List.eq_nil_of_length_eq_zero
abbrev b2k:=@Nat.mul_one
abbrev b2J:=@List.take_append_getElem
abbrev b1x:=@List.all_cons
abbrev b3n:=@decide_eq_decide
abbrev b2Z:=@Bool.and_assoc
abbrev b2n:=@List.map_take
abbrev b2Q:=@List.mergeSort_perm
abbrev b4t:=@Array.getElem?_append
abbrev b5M:=@World.size_alloc
abbrev b5O:=@Nat.min_eq_left
abbrev b4a:=@Array.getElem?_map
abbrev b4R:=@List.map_nil
abbrev b4V:=@Nat.mul_comm
abbrev b5D:=@Array.getElem?_append_left
abbrev b5I:=@Nat.zero_mul
abbrev b4W:=@List.take_append_drop
abbrev b4j:=@List.length_mergeSort
abbrev b4f:=@List.set_append_right
abbrev c0a:=@Array.getElem?_push
abbrev b7v:=@List.isEmpty_iff
abbrev b8u:=@Array.size_append
abbrev c0r:=@Bool.or_eq_false_iff
abbrev b8d:=@UInt8.lt_iff_toNat_lt
abbrev b8h:=@List.find?_eq_none
abbrev b8J:=@List.isPrefixOf_iff_prefix
abbrev b7m:=@List.foldl_append
abbrev c0D:=@List.mem_of_find?_eq_some
abbrev b9B:=@List.find?_cons
abbrev b7A:=@UInt8.toNat_ofNat'
abbrev c5Y:=@Bool.eq_false_iff
abbrev c5T:=@List.mem_filterMap
abbrev c3i:=@List.getElem?_range
abbrev c5S:=@Int.tdiv_eq_ediv_of_nonneg
abbrev c45:=@Option.bind_eq_some_iff
abbrev c4v:=@List.cons_ne_nil
abbrev c5h:=@List.filter_eq_self
abbrev c3R:=@List.filter_eq_nil_iff
abbrev c5J:=@List.getElem?_cons_succ
abbrev c41:=@List.length_eraseIdx_of_lt
abbrev c3D:=@Nat.add_sub_cancel
abbrev c4l:=@List.take_append_of_le_length
abbrev c5d:=@List.pairwise_mergeSort
abbrev c27:=@List.le_antisymm
abbrev d1M:=@List.getElem?_replicate
abbrev c8y:=@Int.tmod_eq_emod_of_nonneg
abbrev c8l:=@Array.getElem?_setIfInBounds
abbrev c88:=@List.mem_eraseIdx_iff_getElem?
abbrev d0i:=@Nat.add_sub_cancel_left
def Qz(q:Prop):Prop:=True->q
variable{p q:Prop}(V:q)
theorem nb{a b:Nat}(h:Nat.ble a b=true):a <= b:=Nat.le_of_ble_eq_true h
theorem O:True:=True.intro
def q_0(h:p:=by exact⟨⟨O,(by first|exact ur_|exact(by first|exact J2 _ J|exact .old (F7 _ ([]:List Ky) _)|(rw[aE];exact J2 _ J)|exact H5 (f:=scv) (λ_=>⟨.val _,O⟩) _))⟩,⟨O,(by first|exact ur_|exact(by first|exact J2 _ J|exact .old (F7 _ ([]:List Ky) _)|(rw[aE];exact J2 _ J)|exact H5 (f:=scv) (λ_=>⟨.val _,O⟩) _))⟩,⟨O,(by first|exact ur_|exact(by first|exact J2 _ J|exact .old (F7 _ ([]:List Ky) _)|(rw[aE];exact J2 _ J)|exact H5 (f:=scv) (λ_=>⟨.val _,O⟩) _))⟩,⟨O,(by first|exact ur_|exact(by first|exact J2 _ J|exact .old (F7 _ ([]:List Ky) _)|(rw[aE];exact J2 _ J)|exact H5 (f:=scv) (λ_=>⟨.val _,O⟩) _))⟩,⟨O,(by first|exact ur_|exact(by first|exact J2 _ J|exact .old (F7 _ ([]:List Ky) _)|(rw[aE];exact J2 _ J)|exact H5 (f:=scv) (λ_=>⟨.val _,O⟩) _))⟩,O⟩):=h
def q_1(h:p:=by exact⟨⟨O,(by first|exact ur_|exact(by first|exact J2 _ J|exact .old (F7 _ ([]:List Ky) _)|(rw[aE];exact J2 _ J)|exact H5 (f:=scv) (λ_=>⟨.val _,O⟩) _))⟩,⟨O,(by first|exact ur_|exact(by first|exact J2 _ J|exact .old (F7 _ ([]:List Ky) _)|(rw[aE];exact J2 _ J)|exact H5 (f:=scv) (λ_=>⟨.val _,O⟩) _))⟩,⟨O,(by first|exact ur_|exact(by first|exact J2 _ J|exact .old (F7 _ ([]:List Ky) _)|(rw[aE];exact J2 _ J)|exact H5 (f:=scv) (λ_=>⟨.val _,O⟩) _))⟩,⟨O,(by first|exact ur_|exact(by first|exact J2 _ J|exact .old (F7 _ ([]:List Ky) _)|(rw[aE];exact J2 _ J)|exact H5 (f:=scv) (λ_=>⟨.val _,O⟩) _))⟩,O⟩):=h
def q_2(h:p:=by exact⟨⟨O,(by first|exact ur_|exact(by first|exact .same J (show Old _ (CV.list [] false none)from F7 _ ([]:List Ky) false)|(rw[a3b ay];exact .vec J)))⟩,⟨O,(by first|exact ur_|exact(by first|exact .same J (show Old _ (CV.list [] false none)from F7 _ ([]:List Ky) false)|(rw[a3b ay];exact .vec J)))⟩,⟨O,(by first|exact ur_|exact(by first|exact .same J (show Old _ (CV.list [] false none)from F7 _ ([]:List Ky) false)|(rw[a3b ay];exact .vec J)))⟩,⟨O,(by first|exact ur_|exact(by first|exact .same J (show Old _ (CV.list [] false none)from F7 _ ([]:List Ky) false)|(rw[a3b ay];exact .vec J)))⟩,O⟩):=h
def q_3(h:p:=by exact⟨⟨x6,n3,a6,e6,b6⟩,W2 (k:=4) J J G (.val _),⟨by rw[ah];exact k1.bindX (λi hi=>by rw[D (by rw[bn];decide),bn];exact k3.bindX (λj hj=>a2u (by rw[hi,hj];exact k6)) k6.2) λh=>absurd J h,y3,w6,λh0=>by have:=z3 (k6.alive h0).1;have:=z1 J;dsimp only at h0⊢;omega,l6,u6⟩⟩):=h
def q_4(h:p:=by exact⟨⟨O,(by first|exact ur_|exact(by rw[b7t H];exact .vec J))⟩,⟨O,(by first|exact ur_|exact(by rw[b7t H];exact .vec J))⟩,⟨O,(by first|exact ur_|exact(by rw[b7t H];exact .vec J))⟩,⟨O,(by first|exact ur_|exact(by rw[b7t H];exact .vec J))⟩,O⟩):=h
def q_5(h:p:=by exact(a5V J (by first|exact a5G (by intro a;rfl) _|(intro r hr;simp at hr;done)|(intro r hr;simp at hr;subst hr;rfl)|(intro r hr;exact a5G (by intro a;rfl) _ r (b0C (b2T hr)))|(intro r hr;simp at hr;obtain⟨a,_,rfl⟩:=hr;rfl)))):=h
def q_6(h:p:=by exact(L8 (a:=n) (h:=(n+1)) J J J t_7 ⟨O,_,_,J,by first|omega|(simp at hg;omega),by first|omega|(simp at hg;omega)⟩ ⟨O,_,_,J,by first|omega|(simp at hg;omega),by first|omega|(simp at hg;omega)⟩ X (by show n+1 <= 10;omega))):=h
def q_7(h:p:=by first|rfl|(have hk:=h.kind;have h1:=h.k1;have h2:=h.k2;have h3:=h.k3;have h4:=h.k4;have h6:=h.k678;have h9:=h.k9;have bb:=h.k10;first|(simp;omega)|(have:=h3 X;simp[this])|(have:=h6 X;simp[this])|(have:=h9 X;simp[this]))):=h
def q_8(h:p:=by rw[b1y,hx,F J];exact⟨(),.ret (.old (.tup λi c hi=>by rcases i with _|_|_|i<;>first|(injection hi with hi;subst hi;first|exact .val _|exact(r6 (cs:=[_,_,_,_]) ⟨.val _,.val _,.val _,.val _,O⟩).old)|cases hi)),O⟩):=h
def q_9(h:p:=by rw[b1y,hx,D G];exact⟨(),.ret (.old (.tup λi c hi=>by rcases i with _|_|_|i<;>first|(injection hi with hi;subst hi;first|exact .val _|exact(r6 (cs:=[_,_,_,_]) ⟨.val _,.val _,.val _,.val _,O⟩).old)|cases hi)),O⟩):=h
def e3b(h:p:=by exact⟨(),.ret (.tups ⟨(show Cls _ _ _ (.list ((pkF l).map scv) (gnn (pkF l).length) none)from hr▸ .tok (λr hr c hc=>(C0 (f:=scv) (λ_=>O0.all ⟨.val _,O⟩) _) r hr c hc)),.old (.val _),O⟩),O⟩):=h
def K2(h:p:=by first|exact a5G (by intro a;rfl) _|assumption|(intro r hr;exact a5G (by intro a;rfl) _ r (b0C (b2T hr)))|(intro r hr;simp at hr;obtain⟨a,_,rfl⟩:=hr;rfl)):=h
def e2q(h:p:=by exact(Y6 (h:=(st.length -x.args.length)) J O J t_6 t_1 J J ⟨O,_,_,J,X,X⟩ (by first|omega|(simp;done)|(simp;omega)) (by first|omega|(simp;omega)|simp))):=h
def a43(h:p:=by exact⟨O,(by first|exact ur_|exact(by first|exact J2 _ J|exact .old (F7 _ ([]:List Ky) _)|(rw[aE];exact J2 _ J)|exact H5 (f:=Va.cv) (λ_=>⟨.val _,.val _,O⟩) _))⟩):=h
def e15(h:p:=by exact(B1 (([[43],[45],[42],[47],[37],[60],[61,61]]:List U).map scv) J ⟨J,J,J,J,J,J,J,O⟩ t_2 t_0 t_4 J J J J J J J J J)):=h
def O3(h:p:=by exact⟨O,(by first|exact ur_|exact(by first|exact J2 _ J|exact .old (F7 _ ([]:List Ky) _)|(rw[aE];exact J2 _ J)|exact H5 (f:=scv) (λ_=>⟨.val _,O⟩) _))⟩):=h
def e2G(h:p:=by exact(λhg=>p9 J hg hg J J t_5 t_3 (by first|omega|(simp at hg;omega)) (j1 (f:=Ky.cv) (show([]:List Ky)[_]?=some k by simp at hg)) J)):=h
def e0t(h:p:=by exact(p9 J O O J J b3G a9w X (j1 (by rw[show s+(Tr.n k u o nm ch).size -1=s+A0 ch by rw[Tr.size];omega];exact eG.node)) J)):=h
def d9y(h:p:=by exact⟨⟨O,_,_,_,J,J,.inr ⟨_,b8O,a4d,nb J,J⟩⟩,⟨O,_,_,_,J,J,.inl ⟨a2K,J⟩⟩,⟨O,_,_,_,J,J,.inl ⟨c2H,J⟩⟩,O⟩):=h
def e2l(h:p:=by exact⟨Q,Q,Q,by dsimp only;simp only[n_6];omega,by dsimp only;simp only[n_6,C5,J6];omega,Q,Q⟩):=h
def e2Z(h:p:=by exact(c8 J (B4 #[(0,1),(1,1),(2,1),(3,1),(4,1)] J ⟨O,O,O,O,O⟩ c1z Tryz.zeroValue112 J ⟨_,J⟩ (λw=>by kernel_rfl) J J))):=h
def e1k(h:p:=by exact(p9 J O O J J t_6 t_1 X (j1 (by rw[show(((m+1:Nat):Int) -1).toNat =m by omega,cw.args];exact M7 hc)) J)):=h
def e1t(h:p:=by exact⟨⟨O,ur_⟩,⟨O,ur_⟩,⟨O,ur_⟩,⟨O,(by first|exact ur_|exact .same (n_8 (λz:Int=>iv z) (by show _=((S9 s i1:Nat):Int);omega)) uo_)⟩,O⟩):=h
def e1E(h:p:=by exact(B4 #[(0,1),(1,1),(2,1),(3,1),(4,1),(5,1)] J ⟨O,O,O,O⟩ b7x b0E J ⟨_,J⟩ (λw=>by kernel_rfl) J J)):=h
def e09(h:p:=by exact(λhg=>T0 J hg hg J J t_2 t_0 a1l (by first|omega|(simp at hg;omega)) (by first|omega|(simp at hg;omega)))):=h
def c7T(h:p:=by exact(B4 #[(0,1),(1,1),(2,1),(3,1),(4,1)] J ⟨J,O,O,O⟩ a68 b6g J ⟨_,J⟩ (λw=>by kernel_rfl) J J)):=h
def e2i(h:p:=by exact(λhg=>T0 J hg hg J J t_5 t_3 J (by first|omega|(simp at hg;omega)) (by first|omega|(simp at hg;omega)))):=h
def a5o(h:p:=by first|omega|(simp only[P0,C5,J6]at hb⊢;omega)|(simp only[P0,C5,J6];omega)):=h
def e1a(h:p:=by exact(c8 J (P8 J O J Y4 a1l (j1 (by rw[K0];first|exact c2o hkm fW|(rw[hj1];exact b6l X hyk))) J))):=h
def b1m(h:p:=by exact(B4 #[(0,1),(1,1),(2,1),(3,1),(4,1)] J ⟨J,O,O⟩ a68 b6g J ⟨_,J⟩ (λw=>by kernel_rfl) J J)):=h
def e3a(h:p:=by exact(B4 #[(0,1),(1,1),(2,1),(3,1),(4,1)] J ⟨O,O,O⟩ a68 b6g J ⟨_,J⟩ (λw=>by kernel_rfl) J J)):=h
def e2D(h:p:=by exact(a4f (vc:=vcE) (l:=me) (a:=(F1 x.k x.p x.o)) d5s J O O J J b9Z b0E J J (a6x En.z J _))):=h
def d6j(h:p:=by exact(B4 #[(0,1),(1,1),(2,1),(3,1)] J ⟨J,O,O,O⟩ a9e a3m J ⟨_,J⟩ (λw=>by kernel_rfl) J J)):=h
def e3c(h:p:=by exact(c8 J (U4 (vc:=sv) (l:=S0) (a:=o) a0X J O O J J a2I t_4 J J (a6x ([]:U) J _)))):=h
def c2n(h:p:=by exact(B4 #[(0,1),(1,1),(2,1),(3,1)] J ⟨J,O,O⟩ a9e a3m J ⟨_,J⟩ (λw=>by kernel_rfl) J J)):=h
def e1S(h:p:=by exact(a4f (vc:=vcE) (l:=me) (a:=(F1 k p o)) d5s J O O J J b9Z b0E J J (a6x En.z J _))):=h
def e24(h:p:=by exact(λhg=>O6 J hg hg J J t_7 (by first|omega|(simp at hg;omega)) (by rw[a2L];exact hc (sm_ hg)))):=h
def e3f(h:p:=by exact(λhg=>p9 J hg hg J J a7I a5a (by first|omega|(simp at hg;omega)) (j1 (hp (sm_ hg)).1) J)):=h
def e2e(h:p:=by exact(B1 [Src.cv ((a7s l y.p).getD Src.z)] J ⟨O,O⟩ b7G a4d a48 J J J J J J J J J)):=h
def b2E(h:p:=by exact⟨⟨O,_,_,_,J,J,.inr ⟨_,b8l,a4x,nb J,J⟩⟩,⟨O,(by conv=>lhs;whnf)⟩,⟨O,(by conv=>lhs;whnf)⟩,O⟩):=h
def e2X(h:p:=by exact(B4 #[(0,1),(1,1),(2,1)] J ⟨O,O,O,O⟩ d1j d2B J ⟨_,J⟩ (λw=>by kernel_rfl) J J)):=h
def e0C(h:p:=by exact(B4 #[(0,1),(1,1),(2,1)] J ⟨J,O,O,O⟩ c1N t_9 J ⟨_,J⟩ (λw=>by kernel_rfl) J J)):=h
def d6D(h:p:=by exact(c8 J (B4 #[(0,1),(1,1)] J ⟨O,O,O⟩ b7q a6H J ⟨_,J⟩ (λw=>by kernel_rfl) J J))):=h
def d9m(h:p:=by exact⟨⟨O,_,_,_,J,J,.inr ⟨_,b8O,a4d,nb J,J⟩⟩,⟨O,(by conv=>lhs;whnf)⟩,⟨O,(by conv=>lhs;whnf)⟩,O⟩):=h
def e0P(h:p:=by exact(c8 J (B4 #[(0,1),(1,1),(2,1)] J O a7h a48 J ⟨_,J⟩ (λw=>by kernel_rfl) J J))):=h
def e2P(h:p:=by exact(a4f (vc:=vcS) (l:=ms) (a:=y.p) c0H J O O J J b8s a48 J J (a6x Src.z J _))):=h
def b3V(h:p:=by exact(B4 #[(0,1),(1,1),(2,1)] J ⟨J,O,O⟩ c1N t_9 J ⟨_,J⟩ (λw=>by kernel_rfl) J J)):=h
def d4e(h:p:=by exact(B4 #[(0,1),(1,1),(2,1),(3,1)] J O a9e a3m J ⟨_,J⟩ (λw=>by kernel_rfl) J J)):=h
def e0z(h:p:=by exact(λhg=>O6 J hg hg J J t_7 (by first|omega|(simp at hg;omega)) (by rw[a2L];exact hb))):=h
def e3h(h:p:=by exact(B1 [[.val (.int .u8 (m:Int))]] J ⟨O,O⟩ Z3 a1P a4D J J J J J J J J J)):=h
def e05(h:p:=by exact(U4 (vc:=kv) (l:=m) (a:=(b.toNat :Int)) d5N J O O J J c4S t_8 J J (b6F _ _))):=h
def e1D(h:p:=by exact(λhg=>O6 J hg J J J t_7 (by first|omega|(simp at hg;omega)) (b:=s.headD 0) (d1Z (sm_ hg)))):=h
def e2k(h:p:=by exact(λhg=>O6 J hg hg J J t_7 (by first|omega|(simp at hg;omega)) (b:=s[e]?.getD 0) (c1x (sm_ hg)))):=h
def e2Q(h:p:=by exact(B1 (a1Q.map scv) J ⟨J,J,J,O⟩ t_2 t_0 t_4 J J J J J J J J J)):=h
def d5a(h:p:=by exact .ret (.tups ⟨.old (c:=.agg ((⟨[],[],[]⟩:Src)).cells) (r6 (Src.pure _)).old,.old (.val _),.old (.val _),O⟩)):=h
def e2o(h:p:=by exact(B4 #[(0,1),(1,1),(2,1)] J ⟨O,O⟩ a7h a48 J ⟨_,J⟩ (λw=>by kernel_rfl) J J)):=h
def e2f(h:p:=by exact(c8 J (B1 [Ex.cv x] J ⟨O,O⟩ b3G a9w b6g J J J J J J J J J))):=h
def e3d(h:p:=by exact(c8 J (B1 [De.cv d] J ⟨O,O⟩ b20 a54 b1V J J J J J J J J J))):=h
def e0r(h:p:=by exact⟨⟨O,J⟩,⟨O,J⟩,⟨O,J⟩,⟨O,(by show(iv (arK x.k))=iv x.args.length;rw[cg])⟩,⟨O,J⟩,⟨O,J⟩,⟨O,J⟩,O⟩):=h
def e2R(h:p:=by exact(B4 #[(0,1),(1,1)] J ⟨J,J,O⟩ b7q a6H J ⟨_,J⟩ (λw=>by kernel_rfl) J J)):=h
def e1i(h:p:=by exact(B1 ([x1,x3].map icv) J ⟨O,O,O⟩ t_6 t_1 t_8 J J J J J J J J J)):=h
def e26(h:p:=by exact(B1 ([x,x3].map icv) J ⟨O,O,O⟩ t_6 t_1 t_8 J J J J J J J J J)):=h
def e1X(h:p:=by exact(c8 J (B1 [scv y.p] J ⟨O,O⟩ t_2 t_0 t_4 J J J J J J J J J))):=h
def e1L(h:p:=by exact(B4 #[(0,1),(1,1),(2,1)] J O a7h a48 J ⟨_,J⟩ (λw=>by kernel_rfl) J J)):=h
def e2r(h:p:=by exact(B4 #[(0,1),(1,1),(2,1)] J O c1N t_9 J ⟨_,J⟩ (λw=>by kernel_rfl) J J)):=h
def e23(h:p:=by exact(c8 J (B1 [icv x3] J ⟨O,O⟩ t_6 t_1 t_8 J J J J J J J J J))):=h
def d6E(h:p:=by first|exact Z5 _ _|exact V0 _ _ _|exact Y0 _ _ _|exact A6 _ _ _|exact a1c _ _ _):=h
def e0b(h:p:=by exact(B1 [icv (i:Int)] J ⟨O,O⟩ t_6 t_1 t_8 J J J J J J J J J)):=h
def e1K(h:p:=by exact(B1 [Ky.cv zK] J ⟨O,O⟩ t_5 t_3 t_9 J J J J J J J J J)):=h
def e2J(h:p:=by exact(p9 J O O J J b3G a9w X (j1 (by rw[hmi,fu];exact eU.he)) J)):=h
def e2c(h:p:=by exact(λhg=>o6 J hg J Y4 (by first|exact c3u _ _|exact a1W hq _|exact a1W hs _) J)):=h
def c8P(h:p:=by exact(λhg=>b16 J hg J J J (by first|omega|(simp at hg;omega)) (by first|omega|(simp at hg;omega)))):=h
def d6u(h:p:=by exact(B1 [Fi.cv y] J ⟨O,O⟩ a7I a5a a6H J J J J J J J J J)):=h
def e1Q(h:p:=by exact(B1 [Ky.cv k] J ⟨O,O⟩ t_5 t_3 t_9 J J J J J J J J J)):=h
def e2O(h:p:=by exact(B1 [Fi.cv f] J ⟨O,O⟩ a7I a5a a6H J J J J J J J J J)):=h
def e08(h:p:=by exact(λhg=>c5D J hg J J J (by first|omega|(simp at hg;omega)) (by first|omega|(simp at hg;omega)))):=h
def e1g(h:p:=by exact(B4 #[(0,1)] J ⟨O,O⟩ c3Y c1B J ⟨_,J⟩ (λw=>by kernel_rfl) J J)):=h
def e2n(h:p:=by exact⟨by show List.length _ <= _;simp only[n_6,C5,J6];omega,J⟩):=h
def e1M(h:p:=by exact .inl ⟨n+1,a1k J (.tup λi c h=>by simp at h),by rw[pIs,F hb],hW n hn (a7f hb G)⟩):=h
def d9A(h:p:=by exact(p9 J O J J J t_6 t_1 X (j1 (M7 (m:=0) (s:=s) J)) J)):=h
def e19(h:p:=by exact(c4 J a8U ⟨O,O⟩ (a0G hT hm (q:=0) (s:=kf ph) (by cases ph<;>exact⟨J,J,G⟩)) J)):=h
def e2x(h:p:=by exact(B1 [scv y.a] J ⟨O,O⟩ t_2 t_0 t_4 J J J J J J J J J)):=h
def e2m(h:p:=by exact(p9 J O J J J t_6 t_1 X (j1 (M7 (m:=1) (s:=s) J)) J)):=h
def d4O(h:p:=by exact(B1 [scv s6] J ⟨O,O⟩ t_2 t_0 t_4 J J J J J J J J J)):=h
def e1w(h:p:=by exact(B1 [bcv c] J ⟨O,O⟩ Z3 a1P a4D J J J J J J J J J)):=h
def e1H(h:p:=by exact(B1 [scv s] J ⟨O,O⟩ t_2 t_0 t_4 J J J J J J J J J)):=h
def e1I(h:p:=by exact(c8 J (I2 J O J J J (by show([32]++sgn o:U).length +1 <= _;rw[P0];simp;omega)))):=h
def d6o(h:p:=by exact⟨⟨O,_,_,_,J,J,.inr ⟨_,b8O,a4d,nb J,J⟩⟩,⟨O,(by conv=>lhs;whnf)⟩,O⟩):=h
def d6M(h:p:=by exact(B4 #[(0,1)] J O c5w d0F J ⟨_,J⟩ (λw=>by kernel_rfl) J J)):=h
def e1z(h:p:=by exact(B4 #[(0,1)] J O c3Y c1B J ⟨_,J⟩ (λw=>by kernel_rfl) J J)):=h
def e2L(h:p:=by rw[eT];simp only[<- C7 b];exact b4q (k:=6) J J G (G0 _ _ _ _ _) a3R):=h
def e1q(h:p:=by rw[eT];simp only[<- C7 b];exact b4q (k:=5) J J G (G0 _ _ _ _ _) a3R):=h
def e07(h:p:=by exact(o6 J O J a2K (by first|exact c3u _ _|exact a1W hq _|exact a1W hs _) J)):=h
def e2M(h:p:=by exact(a7a J O J b8a b3H ((e0v m).trans (by rw[b52 X])))):=h
def e2z(h:p:=by exact(λhg=>a3r J hg J b3m t_3 J (c06 (j1 (hb (sm_ hg))) X) (nb J))):=h
def e0Z(h:p:=by exact(λhg=>c4 J Tryz.call31 ⟨hg,hg,O⟩ (c2i _ _ _ _ (a82 b6a G) _) J)):=h
def e2C(h:p:=by exact(λhg=>O6 J hg hg J J t_7 (by first|omega|(simp at hg;omega)) hb)):=h
def c0g(h:p:=by show List.length _ <= _;simp only[n_6,C5,J6];omega):=h
def e1l(h:p:=by cases ph;exact W2 (k:=2) J J G (.val _);exact W2 (k:=3) J J G (.val _)):=h
def e2s(h:p:=by exact⟨⟨x,m,a2,e,b2⟩,a6i he J (.val _),.dead (λ_=>hN he) he hm cy ⟨bd,aM⟩⟩):=h
def e2v(h:p:=by rw[hc];exact⟨(),.ret (.tups ⟨.old (A6 _ ([]:List U) _),.old (.val _),O⟩),O⟩):=h
def e16(h:p:=by exact .inl ⟨(i,m,b2),a0o J J (nb J) (.val _),by rw[ah];exact g1,Q,g3,g4⟩):=h
def d7e(h:p:=by exact(λhg=>c4 J a8U ⟨hg,O⟩ (a0G hT hm (q:=2) (s:=0) ⟨J,J,G⟩) J)):=h
def d7o(h:p:=by rw[hc];exact⟨(),.ret (.tups ⟨.old (F7 _ ([]:List Ky) _),.old (.val _),O⟩),O⟩):=h
def c4C(h:p:=by first|omega|(simp at hk hg;omega)|(change (_:Bool)=_ at hk;simp at hk hg;omega)):=h
def c5Z(h:p:=by have hb:Tryz.t231.bytes =40:=J;rw[hb];first|omega|(simp;done)|(simp;omega)):=h
def d0l(h:p:=by exact(p9 J O J J J t_6 t_1 X (j1 (M7 g0)) J)):=h
def d1A(h:p:=by have hb:Tryz.t129.bytes =24:=J;rw[hb];first|omega|(simp;done)|(simp;omega)):=h
def a03(h:p:=by have hb:Tryz.t39.bytes =40:=J;rw[hb];first|omega|(simp;done)|(simp;omega)):=h
def b5v(h:p:=by have hb:Tryz.t54.bytes =32:=J;rw[hb];first|omega|(simp;done)|(simp;omega)):=h
def a0T(h:p:=by exact⟨O,_,_,J,by first|omega|(simp at hg;omega),by first|omega|(simp at hg;omega)⟩):=h
def Z6(h:p:=by have hb:Tryz.t9.bytes =16:=J;rw[hb];first|omega|(simp;done)|(simp;omega)):=h
def c5N(h:p:=by exact(p9 J O O J J b7G a4d X (j1 (c23 hb)) J)):=h
def d8c(h:p:=by exact(c4 J c6f ⟨O,O⟩ (a3W hT hn ⟨J,J,n_5 J⟩) J)):=h
def b5i(h:p:=by exact⟨⟨O,(by conv=>lhs;whnf)⟩,⟨O,(by conv=>lhs;whnf)⟩,⟨O,(by conv=>lhs;whnf)⟩,O⟩):=h
def b5Q(h:p:=by exact(I2 J O J J J (by simp only[P0,C5,J6];omega))):=h
def b9f(h:p:=by have hb:Tryz.t3.bytes =8:=J;rw[hb];first|omega|(simp;done)|(simp;omega)):=h
def b91(h:p:=by exact(p9 J O O J J t_2 t_0 X (j1 (d5t hb)) J)):=h
def d2F(h:p:=by exact(P8 J O J a2K J (by rw[hmi];simpa using j1 (f:=icv) hv) J)):=h
def b8V(h:p:=by exact(λhg=>a0u J hg J b3G (by first|exact a0g _ _|rfl) J)):=h
def d3w(h:p:=by exact(c4 J Tryz.call106 ⟨O,O,O⟩ (b8L (a4e ao _) _ (bo.find _ _ _)) J)):=h
def d8A(h:p:=by exact(c4 J Tryz.call76 ⟨O,O⟩ (d9p (l1++(ev.map B5++ew.map B5)) X _) J)):=h
def b7J(h:p:=by exact(O6 J O O J J t_7 X (by rw[a2L];exact hb))):=h
def c4E(h:p:=by exact(c8 J (T0 J O O J J t_2 t_0 a1l X X))):=h
def c4q(h:p:=by exact(λhg=>a0u J hg J b20 (by first|exact a0g _ _|rfl) J)):=h
def b4K(h:p:=by exact c8 J (j7 J O J c6L J c8s G)):=h
def c5H(h:p:=by exact(p9 J O O J J b3G a9w X (j1 hb) J)):=h
def e1Z(h:p:=by rw[a4E,D u1,F u2];unfold F9;(repeat(first|split))<;>omega):=h
def c98(h:p:=by exact(p9 J O O J J b20 a54 X (j1 hd) J)):=h
def e2h(h:p:=by exact(p9 J O O J J c0u b7n X (j1 hb) J)):=h
def b7u(h:p:=by exact(I2 J J O J J (by simp only[C5,J6];omega))):=h
def d8X(h:p:=by exact c8 J (j7 J O J a68 J b9t G)):=h
def c8B(h:p:=by exact(I2 J O J J J (by simp only[C5,J6];omega))):=h
def d2j(h:p:=by exact(p9 J O O J J b20 a54 X (j1 hb) J)):=h
def d7y(h:p:=by exact(p9 J O O J J a7I a5a X (j1 hb) J)):=h
def c21(h:p:=by exact⟨⟨O,.ptr J⟩,⟨O,.ptr J⟩,⟨O,.ptr J⟩,⟨O,.ptr J⟩,⟨O,.ptr J⟩,O⟩):=h
def c5n(h:p:=by exact(p9 J O O J J t_5 t_3 X (j1 hb) J)):=h
def d8g(h:p:=by exact c8 J (j7 J O J a7h J b9D G)):=h
def c5y(h:p:=by exact c8 J (j7 J O J c5w J c5F G)):=h
def a64(h:p:=by exact(p9 J O O J J t_2 t_0 X (j1 hb) J)):=h
def a6T(h:p:=by exact c8 J (j7 J O J b7q J t_0 G)):=h
def b4m(h:p:=by exact(p9 J O O J J t_2 t_0 X (j1 hy) J)):=h
def e2A(h:p:=by exact .inl ⟨(i6,n5,b6),a0o J J (nb J) (.val _),ah,Q,fX,y6⟩):=h
def c5v(h:p:=by exact(p9 J O O J J t_2 t_0 X (j1 hs) J)):=h
def c51(h:p:=by exact(p9 J O O J J t_6 t_1 X (j1 hv) J)):=h
def b5e(h:p:=by exact c8 J (O4 J O J b8l a4x J (nb J))):=h
def c08(h:p:=by exact(a0u J O J b3G (by first|exact a0g _ _|rfl) J)):=h
def a9U(h:p:=by exact(a0u J O J Z3 (by first|exact a0g _ _|rfl) J)):=h
def c3x(h:p:=by exact(a0u J O J b7G (by first|exact a0g _ _|rfl) J)):=h
def I7(h:p:=by exact(a0u J O J t_2 (by first|exact a0g _ _|rfl) J)):=h
def a05(h:p:=by exact c8 J (O4 J O J c03 a9H J (nb J))):=h
def a0E(h:p:=by exact(a0u J O J a7I (by first|exact a0g _ _|rfl) J)):=h
def a1z(h:p:=by exact(a0u J O J t_6 (by first|exact a0g _ _|rfl) J)):=h
def a4S(h:p:=by exact(a0u J O J b20 (by first|exact a0g _ _|rfl) J)):=h
def a4W(h:p:=by exact(a0u J O J t_5 (by first|exact a0g _ _|rfl) J)):=h
def b9E(h:p:=by exact(a0u J O J c0u (by first|exact a0g _ _|rfl) J)):=h
def b73(h:p:=by exact(e2E J O J Z3 t_7 b3H)):=h
def c5A(h:p:=by exact(λhg=>c4 J a8U ⟨hg,O⟩ (a0G hT hn ⟨J,J,G⟩) J)):=h
def b4X(h:p:=by exact⟨O,_,_,_,J,J,.inr ⟨_,b8l,a4x,nb J,J⟩⟩):=h
def d2s(h:p:=by exact⟨O,_,_,_,J,J,.inr ⟨_,c4B,a54,nb J,J⟩⟩):=h
def d2b(h:p:=by exact(c8 J (j7 J O J c6L J c8s G))):=h
def c9Q(h:p:=by exact(c8 J (j7 J O J c3j J c3s G))):=h
def b0j(h:p:=by exact(T0 J O O J J t_5 t_3 J X X)):=h
def d7O(h:p:=by exact(c8 J (j7 J O J a68 J b9t G))):=h
def a3T(h:p:=by exact⟨O,_,_,_,J,J,.inr ⟨_,c03,a9H,nb J,J⟩⟩):=h
def a4N(h:p:=by exact(T0 J O O J J t_6 t_1 J X X)):=h
def c5z(h:p:=by exact(c8 J (j7 J O J a7h J b9D G))):=h
def b8F(h:p:=by exact(λhg=>j7 J O J b3s J b3g G)):=h
def c34(h:p:=by exact⟨O,_,_,_,J,J,.inr ⟨_,Tryz.isAgg59,b7b,nb J,J⟩⟩):=h
def c4z(h:p:=by exact(c8 J (j7 J O J c5w J c5F G))):=h
def d2T(h:p:=by simp only[P0,C5,J6]at hbm⊢;omega):=h
def d0X(h:p:=by rw[eT];exact b4q (k:=3) J J G (G0 _ _ _ _ _) a3R):=h
def e1n(h:p:=by exact(c8 J (j7 J O J b7q J t_0 G))):=h
def c3T(h:p:=by exact(c8 J (I2 J O J J J (by first|omega|(simp;omega))))):=h
def c4c(h:p:=by exact(λhg=>a4b J hg J a9e J a2K J)):=h
def e1A(h:p:=by exact(λhg=>a3Y J hg J b7q J t_0 G)):=h
def c8E(h:p:=by exact(λhg=>a4b J hg J a9e J Y4 J)):=h
def d7z(h:p:=by exact(λhg=>j7 J O J a68 J t_1 G)):=h
def d9b(h:p:=by exact(c8 J (I2 J O O J J (by first|omega|(simp;omega))))):=h
def b71(h:p:=by exact(λhg=>j7 J O J a9e J t_0 G)):=h
def b9p(h:p:=by exact(λhg=>j7 J O J b3s J t_0 G)):=h
def b8n(h:p:=by exact(λhg=>j7 J O J b3s J t_1 G)):=h
def b96(h:p:=by exact⟨O,(by first|exact ur_|exact .same J (a1c _ ([]:U) _))⟩):=h
def c25(h:p:=by exact(λhg=>j7 J O J a7h J b9D G)):=h
def e04(h:p:=by exact(λhg=>j7 J O J c3Y J c1c G)):=h
def c4e(h:p:=by exact(λhg=>j7 J O J a68 J t_0 G)):=h
def e1W(h:p:=by exact(λhg=>j7 J O J a7h J a2H G)):=h
def d2W(h:p:=by exact(λhg=>j7 J O J a9e J t_1 G)):=h
def e2t(h:p:=by exact(λhg=>j7 J O J b9N J t_1 G)):=h
def c92(h:p:=by exact(λhg=>j7 J O J b7q J t_0 G)):=h
def c0i(h:p:=by exact(c4 J c6f ⟨O,O⟩ (a3W hT hn ⟨J,J,G⟩) J)):=h
def e1b(h:p:=by exact(λhg=>j7 J O J c1N J t_0 G)):=h
def d2R(h:p:=by exact(a7a J O J d0x b8a (b9k X))):=h
def d0P(h:p:=by exact(λhg=>j7 J O J a7h J t_0 G)):=h
def a2l(h:p:=by exact(c8 J (O4 J O J c03 a9H J (nb J)))):=h
def c3m(h:p:=by exact(c8 J (O4 J O J b86 b6r J (nb J)))):=h
def c0G(h:p:=by exact(c4 J a8U ⟨O,O⟩ (a0G hT hn ⟨J,J,G⟩) J)):=h
def c5I(h:p:=by exact(λhg=>b1o J hg J (λhp=>⟨hg,hp⟩) (λ_=>rfl))):=h
def c43(h:p:=by exact(λhg=>O4 J O J b3m t_3 J (nb J))):=h
def d3N(h:p:=by exact(λhg=>O4 J O J b86 b6r J (nb J))):=h
def d2h(h:p:=by exact(c8 J (c4 J Tryz.call69 trivial (a6R _) J))):=h
def d1y(h:p:=by exact(λhg=>X3 J hg J b3m t_3 (nb J))):=h
def a8m(h:p:=by simp only[P0,C5,J6];omega):=h
def e2w(h:p:=by exact(j7 J O J c6L J c8s G)):=h
def b5f(h:p:=by exact(j7 J O J Tryz.runUnderlying244 J c0O G)):=h
def d7a(h:p:=by exact(j7 J O J b3s J b3g G)):=h
def b4g(h:p:=by exact(j7 J O J c1z J Tryz.sizeOf110 G)):=h
def b90(h:p:=by exact(j7 J O J c1z J Tryz.sizeOf109 G)):=h
def c3b(h:p:=by exact(j7 J O J b84 J b3g G)):=h
def T8(h:p:=by exact⟨⟨O,(by conv=>lhs;whnf)⟩,⟨O,(by conv=>lhs;whnf)⟩,O⟩):=h
def c9q(h:p:=by exact(j7 J O J a68 J b9t G)):=h
def b4P(h:p:=by exact(j7 J O J b3s J a2H G)):=h
def a4M(h:p:=by exact(a4b J O J a9e J a2K J)):=h
def b3a(h:p:=by exact(j7 J O J c3j J a2H G)):=h
def b9g(h:p:=by exact(j7 J O J b84 J c1p G)):=h
def c3P(h:p:=by exact(a4b J O J a9e J Y4 J)):=h
def c8N(h:p:=by exact(j7 J O J c6d J c1p G)):=h
def c3K(h:p:=by exact(j7 J O J a7h J b9D G)):=h
def b9e(h:p:=by exact(j7 J O J a68 J t_1 G)):=h
def b2R(h:p:=by exact(j7 J O J b3s J t_1 G)):=h
def b5E(h:p:=by exact(j7 J O J b3s J t_0 G)):=h
def c4n(h:p:=by exact(c4 J Tryz.call100 ⟨O,O⟩ (c1k fl nn hl _) J)):=h
def b9l(h:p:=by exact(j7 J O J a9e J t_0 G)):=h
def e06(h:p:=by exact(j7 J O J a68 J t_0 G)):=h
def c5l(h:p:=by exact(j7 J O J c7V J t_1 G)):=h
def c8M(h:p:=by exact(j7 J O J c6L J t_1 G)):=h
def c8G(h:p:=by exact(j7 J O J a9e J t_1 G)):=h
def c9G(h:p:=by exact(j7 J O J b84 J t_1 G)):=h
def Z2(h:p:=by exact(I2 J O J J J (by first|omega|(simp;omega)))):=h
def a5D(h:p:=by exact(I2 J J O J J (by first|omega|(simp;omega)))):=h
def c4F(h:p:=by exact(j7 J O J b7q J t_0 G)):=h
def a3K(h:p:=by exact(j7 J O J c1N J t_0 G)):=h
def a9P(h:p:=by exact(j7 J O J b7x J t_1 G)):=h
def b4Q(h:p:=by exact(j7 J O J d1J J t_1 G)):=h
def b45(h:p:=by exact(j7 J O J b7x J t_0 G)):=h
def b5N(h:p:=by exact c8 J (o6 J O J c2H J J)):=h
def c0J(h:p:=by exact(z6 ⟨.val _,.val _,.val _,.val _,V0 _ _ _,O⟩)):=h
def b9G(h:p:=by cases ph<;>exact⟨J,J,n_5 J⟩):=h
def d8v(h:p:=by exact c8 J (o6 J O J c3E J J)):=h
def c3U(h:p:=by exact c8 J (o6 J O J d0y J J)):=h
def d8l(h:p:=by exact c8 J (o6 J O J c0E J J)):=h
def c8O(h:p:=by exact(j7 J O J a7h J t_0 G)):=h
def a2k(h:p:=by exact(I2 J O O J J (by first|omega|(simp;omega)))):=h
def c0m(h:p:=by exact(O4 J O J b8l a4x J (nb J))):=h
def a5T(h:p:=by exact c8 J (o6 J O J Y4 J J)):=h
def b3o(h:p:=by exact c8 J (o6 J O J a2K J J)):=h
def b4T(h:p:=by exact(O4 J O J c9F b70 J (nb J))):=h
def b4A(h:p:=by exact(O4 J O J d2x c7x J (nb J))):=h
def c9o(h:p:=by exact(O4 J O J Tryz.isAgg212 a9w J (nb J))):=h
def b0g(h:p:=by exact c8 J (a2r J J (by conv=>lhs;whnf))):=h
def b22(h:p:=by first|exact a5G (by intro a;rfl) _|assumption):=h
def c5L(h:p:=by exact(c4 J d2X ⟨O,O⟩ (b94 m X _) J)):=h
def d8E(h:p:=by rw[hr];exact .tups ⟨.old (.val _),.old (.val _),O⟩):=h
def T1(h:p:=by exact(O4 J O J c03 a9H J (nb J))):=h
def F4(h:p:=by exact c8 J (a2r J O (by conv=>lhs;whnf))):=h
def a2w(h:p:=by exact(O4 J O J b86 b6r J (nb J))):=h
def c0f(h:p:=by exact(O4 J O J b8O a4d J (nb J))):=h
def c4G(h:p:=by exact(O4 J O J Tryz.isAgg59 b7b J (nb J))):=h
def d1m(h:p:=by exact(c4 J b9y ⟨O,O⟩ (a3X x.name _) J)):=h
def c93(h:p:=by exact(O4 J O J b3m t_3 J (nb J))):=h
def d1i(h:p:=by exact(c4 J Tryz.call270 ⟨O,O⟩ (c1R x.k _) J)):=h
def c3X(h:p:=by exact(c4 J Tryz.call55 ⟨O,O⟩ (d0o ns hv.2 _) J)):=h
def c3r(h:p:=by exact(c4 J Tryz.call55 ⟨O,O⟩ (d0o nn hv.1 _) J)):=h
def c4L(h:p:=by exact(X3 J O J b3m t_3 (nb J))):=h
def c4a(h:p:=by exact(c4 J c67 ⟨O,O⟩ (a14 x.a _) J)):=h
def d7w(h:p:=by exact(c4 J Tryz.call29 trivial (b2z _) J)):=h
def b9K(h:p:=by exact(O6 J O O J J t_7 X hb)):=h
def c40(h:p:=by exact(z6 ⟨.val _,A6 _ [] _,U6 _ [] _,O⟩)):=h
def N9(h:p:=by exact(b1o J O J (λhp=>hp) (λ_=>rfl))):=h
def b4n(h:p:=by exact(z6 ⟨.val _,A6 _ _ _,U6 _ _ _,O⟩)):=h
def c97(h:p:=by exact(c8 J (o6 J O J c3E J J))):=h
def d3g(h:p:=by exact(c8 J (o6 J O J c2H J J))):=h
def d0M(h:p:=by exact(c8 J (o6 J O J d2J J J))):=h
def d3q(h:p:=by exact(c8 J (o6 J O J b74 J J))):=h
def d2c(h:p:=by exact(c8 J (o6 J O J d0y J J))):=h
def S6(h:p:=by exact(b5L J O J (λhp=>hp) (λ_=>rfl))):=h
def b97(h:p:=by exact(c8 J (a7z J O (by conv=>lhs;whnf)))):=h
def d1r(h:p:=by exact(c8 J (o6 J O J Y4 J J))):=h
def b1M(h:p:=by exact(c8 J (o6 J O J a2K J J))):=h
def b3t(h:p:=by exact(λhg=>a1F J hg J J J (a8J _ _))):=h
def b40(h:p:=by exact(λhg=>o6 J hg J Tryz.isAgg117 J J)):=h
def c44(h:p:=by exact(c4 J Tryz.call83 trivial (c2t _) J)):=h
def b1X(h:p:=by exact(λhg=>a1F J hg hg J J (a8J _ _))):=h
def b8y(h:p:=by exact(a3G J O J t_5 J J)):=h
def b8Z(h:p:=by exact(a3G J O J t_6 J J)):=h
def e1y(h:p:=by unfold arK;(repeat(first|split))<;>omega):=h
def c3h(h:p:=by exact(a3G J O J t_2 J J)):=h
def c49(h:p:=by exact(λhg=>o6 J hg J c3E J J)):=h
def e1u(h:p:=by exact(λhg=>o6 J hg J Tryz.isAgg30 J J)):=h
def W7(h:p:=by exact(c8 J (a2r J O (by conv=>lhs;whnf)))):=h
def a5n(h:p:=by exact(λhg=>o6 J hg J a2K J J)):=h
def a02(h:p:=by exact(λhg=>o6 J hg J Y4 J J)):=h
def c9d(h:p:=by rw[hr,T6 (sm_ h2)];rfl):=h
def c3C(h:p:=by rw[L7,a4Y];omega):=h
def a2c(h:p:=by first|omega|(simp;done)|(simp;omega)):=h
def c5i(h:p:=by exact(λhg=>d2a J hg J t_7)):=h
def D4(h:p:=by exact(λhg=>a2r J O (by conv=>lhs;whnf))):=h
def b0i(h:p:=by exact(λhg=>a2r J hg (by conv=>lhs;whnf))):=h
def d6Z(h:p:=by exact(λhg=>a1f J hg J Y4 J)):=h
def a9L(h:p:=by exact c8 J (a6u J O J J)):=h
def a8P(h:p:=by exact(z6 ⟨A6 _ _ _,a8y _ _ _,O⟩)):=h
def c4A(h:p:=by rw[es];simp only[C7]):=h
def H9(h:p:=by simp[ho,Op.operands,Call.operands]):=h
def Q7(h:p:=by exact(a1F J O J J J (a8J _ _))):=h
def b9A(h:p:=by exact(o6 J O J Tryz.isAgg149 J J)):=h
def c4u(h:p:=by exact(o6 J O J Tryz.isAgg117 J J)):=h
def b0l(h:p:=by exact(z6 ⟨a1Y _ ([]:List Fi) _,O⟩)):=h
def b5o(h:p:=by exact(o6 J O J Tryz.isAgg110 J J)):=h
def b9L(h:p:=by exact(o6 J O J Tryz.isAgg109 J J)):=h
def c4s(h:p:=by exact(o6 J O J Tryz.isAgg103 J J)):=h
def B7(h:p:=by first|omega|(simp;omega)|simp):=h
def a5L(h:p:=by exact(o6 J O J b74 J J)):=h
def a5X(h:p:=by exact(a7z J J (by conv=>lhs;whnf))):=h
def a8q(h:p:=by exact(a1F J O O J J (a8J _ _))):=h
def b8N(h:p:=by exact(o6 J O J c0E J J)):=h
def c5k(h:p:=by exact(o6 J O J c3E J J)):=h
def a90(h:p:=by exact(a1F J O O J J (b1u _ _))):=h
def c4r(h:p:=by exact(o6 J O J d2J J J)):=h
def a4R(h:p:=by exact(a7z J O (by conv=>lhs;whnf))):=h
def a6P(h:p:=by exact(λhg=>a0Z J hg J J J J)):=h
def a7y(h:p:=by first|omega|(simp at hg;omega)):=h
def W9(h:p:=by exact(o6 J O J Y4 J J)):=h
def a0R(h:p:=by exact(o6 J O J a2K J J)):=h
def R6(h:p:=by exact(d2a J O J t_7)):=h
def a1M(h:p:=by cases ph<;>exact⟨J,J,G⟩):=h
def c4H(h:p:=by exact(a2r J J (by conv=>lhs;whnf))):=h
def a2a(h:p:=by exact c8 J (b4J J O J)):=h
def b5j(h:p:=by exact(λhg=>a0Z J hg hg J J J)):=h
def c01(h:p:=by exact(o6 J O J a2K hk J)):=h
def A8(h:p:=by exact(a2r J O (by conv=>lhs;whnf))):=h
def a7U(h:p:=by exact(a1f J O J a2K J)):=h
def a5u(h:p:=by exact(a1f J O J Y4 J)):=h
def b38(h:p:=by exact(c8 J (a6u J O J J))):=h
def a7W(h:p:=by first|exact a0g _ _|rfl):=h
def b9F(h:p:=by have:=B9 bN.1;omega):=h
def j9(h:p:=by exact(c5D J O J J J X X)):=h
def a96(h:p:=by first|omega|(simp;omega)):=h
def X7(h:p:=by exact(b16 J O J J J X X)):=h
def a3J(h:p:=by rw[a4Y];omega):=h
def a4P(h:p:=by exact(c5D J O O J J X X)):=h
def a92(h:p:=by exact(b16 J O O J J X X)):=h
def c0s(h:p:=by rw[T9 gG ee];decide):=h
def b4B(h:p:=by have:=a0a pre;omega):=h
def c0Z(h:p:=by rw[L7];omega):=h
def a0d(h:p:=by exact(a0Z J O J J J J)):=h
def b8j(h:p:=by exact(c8 J (b4J J O J))):=h
def b0n(h:p:=by simp[B2.add,<- hr.len]):=h
def b5b(h:p:=by exact(z6 ⟨F7 _ _ _,O⟩)):=h
def b15(h:p:=by exact(z6 ⟨.val _,.val _,O⟩)):=h
def a7A(h:p:=by exact(F7 _ ([]:List Ky) _)):=h
def K3(h:p:=by exact(z6 ⟨a1Y _ _ _,O⟩)):=h
def a2U(h:p:=by exact(z6 ⟨a27 _ _ _,O⟩)):=h
def a5E(h:p:=by exact(a0Z J O O J J J)):=h
def a29(h:p:=by exact(λhg=>c3c J hg J)):=h
def w8(h:p:=by simp[ho,Op.operands]):=h
def a8I(h:p:=by exact(a6u J O J J)):=h
def a2A(h:p:=by exact⟨O,_,_,J,X,X⟩):=h
def a4O(h:p:=by first|omega|simp):=h
def j3(h:p:=by conv=>lhs;whnf):=h
def Q5(h:p:=by cases ph<;>rfl):=h
def b2X(h:p:=by exact⟨O,O,O,J,O⟩):=h
def a1x(h:p:=by exact⟨O,O,O,O,O⟩):=h
def a33(h:p:=by exact(P9 _ [] false)):=h
def z8(h:p:=by exact(λ_ _=>nb J)):=h
def a6W(h:p:=by exact(b4J J O J)):=h
def U8(h:p:=by exact(a7Z _ _ _ _)):=h
def a2N(h:p:=by exact⟨O,J,J,O⟩):=h
def d3y(h:p:=by exact(c3c J O J)):=h
def a9J(h:p:=by exact(b7j (nb J))):=h
def a21(h:p:=by exact⟨O,O,J,O⟩):=h
def a2T(h:p:=by exact(A6 _ [] _)):=h
def c38(h:p:=by rw[hr];rfl):=h
def D6(h:p:=by exact⟨O,O,O,O⟩):=h
def K5(h:p:=by simp;omega):=h
def X0(h:p:=by exact(b18 _ _ _)):=h
def Z8(h:p:=by exact(A6 _ _ _)):=h
def a1u(h:p:=by exact(Y0 _ _ _)):=h
def j5(h:p:=by exact(.inr ⟨_,J⟩)):=h
def l8(h:p:=by kernel_rfl):=h
def a3H(h:p:=by exact(a1Y _ _ _)):=h
def a0b(h:p:=by exact(λ_=>rfl)):=h
def D8(h:p:=by exact(a59 _ _)):=h
def a4Q(h:p:=by exact⟨O,.ptr J⟩):=h
def o8(h:p:=by exact⟨O,J,O⟩):=h
def a2f(h:p:=by simp[e]):=h
def i7(h:p:=by exact⟨O,O,O⟩):=h
def o0(h:p:=by exact⟨O,J⟩):=h
def uo_(h:p:=by first|exact .val _|exact .ptr (nb J)|exact .map (nb J)|exact A6 _ _ _|exact a1Y _ _ _|exact U6 _ _ _|exact a8y _ _ _|exact F7 _ _ _|exact V0 _ _ _|exact(b9x _ _).old|exact a27 _ _ _|exact(by first|exact Z5 _ _|exact V0 _ _ _|exact Y0 _ _ _|exact A6 _ _ _|exact a1c _ _ _)|exact a7Z _ _ _ _|exact(P5 ([]:List Int) false).old|exact(P5 _ _).old|exact .vec (nb J)|exact P9 _ _ _|exact b3v _ _|exact b1Y _ _ _|exact d3i|exact a1c _ _ _|exact c3y _ [] _|exact Y0 _ _ _):=h
def uz_(h:p:=by intro a ha;repeat' (first|exact .val _|exact .ptr (nb J)|exact .map (nb J)|exact O|exact A6 _ _ _|exact P9 _ _ _|exact V0 _ _ _|exact U6 _ _ _|exact De.old _ _|exact Ex.old _ _|exact .vec (nb J)|exact b3v _ _|exact Src.old _ _|exact a1Y _ _ _|exact(P5 _ _).old|exact(by first|exact Z5 _ _|exact V0 _ _ _|exact A6 _ _ _|exact a1c _ _ _)|exact(P5 ([]:List Int) false).old|exact b1Y _ _ _|exact a8y _ _ _|exact a7Z _ _ _ _|exact a1c _ _ _|exact a27 _ _ _|exact(r6 (cs:=[_,_,_,_]) ⟨.val _,.val _,.val _,.val _,O⟩).old|exact(by first|exact A6 _ _ _|exact b6P _ _)|exact(by first|exact .vec (nb J)|exact d0t _|exact A6 _ _ _)|exact(by first|exact Z5 _ _|exact d2k _ _ _|exact V0 _ _ _|exact A6 _ _ _|exact a1c _ _ _)|exact(a2j _ _).old|exact(K6 _ _).old|exact a0Q _ _|exact a59 _ _|exact a0j _ _|exact c3y _ _ _|exact A6 _ [] _|exact b02 (nb J) (nb J) (nb J)|exact(by first|exact F7 _ _ _|exact b6P _ _)|exact(by first|exact a4o (nb J)|exact a59 _ _|exact d2k _ _ _|exact z6 (show b6w _ _ from⟨.val _,.val _,.val _,.val _,O⟩))|exact(by first|exact A6 _ _ _|exact V0 _ _ _|exact b6P _ _)|exact U6 _ [] _|refine z6 ?_|refine⟨?_,?_⟩)):=h
def pu_(h:p:=by repeat' (first|exact .val _|exact P5 _ _|exact F3 _ _|exact a0M _ _|exact a5H _ _|exact V1 _ _|exact K6 _ _|exact a2q _ _|exact a3U _ _|exact b7O _ _|exact a2j _ _|exact a3V _ _|exact O|refine r6 ?_|refine D7 ?_|refine⟨?_,?_⟩)):=h
def ur_(h:p:=by first|exact .ptr J|exact .map J|exact .vec J|exact .same J uo_|exact C6.grow (f:=scv) (λ_=>⟨.val _,O⟩) J|exact C6.grow (f:=Ky.cv) (λ_=>⟨.val _,.val _,.val _,O⟩) J|exact H5 (f:=scv) (λ_=>⟨.val _,O⟩) _|exact .same J (F7 _ ([]:List Ky) _)|exact .same J (A6 _ ([]:List U) _)|exact C6.grow (f:=Tok.cv) (λ_=>⟨.val _,.val _,.val _,.val _,O⟩) J|exact C6.grow (f:=Fi.cv) (λ_=>⟨.val _,.val _,O⟩) J|exact H5 (f:=Ky.cv) (λ_=>⟨.val _,.val _,.val _,O⟩) _|exact C6.grow (f:=Sn.cv) (λ_=>⟨.val _,.val _,O⟩) J|exact C6.grow (f:=icv) (λ_=>⟨.val _,O⟩) J|exact C6.grow (f:=bcv) (λ_=>⟨.val _,O⟩) J|exact(by exact .vec J)|exact .same J (P5 ([]:List Int) false).old|exact C6.grow (f:=En.cells) (λ_=>⟨.val _,.val _,.val _,.val _,.val _,.val _,O⟩) J|exact .same J (Y0 _ ([]:List Tok) _)):=h
def ut_(h:p:=by repeat' (first|exact O|refine⟨?_,?_⟩|exact ur_|exact J)):=h
def uq_(h:p:=by repeat' (first|exact O|exact .inl J|refine⟨?_,?_⟩|(refine .inr ⟨_,J,.same J ?_⟩;first|exact(a59 _ _)|exact(z6 ⟨a1Y _ _ _,O⟩)|exact(b02 (by decide) (by decide) (by decide))|exact(a0j _ _)|exact(z6 ⟨a27 _ _ _,O⟩)|exact(z6 ⟨A6 _ _ _,a8y _ _ _,O⟩)|exact(a7Z _ _ _ _)|exact(a0Q _ _)|exact(z6 (a4n _))|exact(a4o (nb J))|exact(b18 _ _ _)|exact(a1w _ _)|exact(b7j (nb J))|exact(z6 ⟨.val _,A6 _ _ _,U6 _ _ _,O⟩)|exact(b7I a6o a3M _ _ _)|exact(Src.old _ _)|exact(z6 ⟨.val _,.val _,.val _,.val _,O⟩)|exact(z6 ⟨.val _,.val _,A6 _ [] _,P9 _ [] _,O⟩)|exact(z6 ⟨.val _,.val _,A6 _ _ _,P9 _ _ _,O⟩)|exact(z6 ⟨.val _,O⟩)|exact(z6 ⟨A6 _ _ _,O⟩)|exact(d5h (by decide))|exact(b7I Nm.pure En.pure _ _ _)|exact(a4o (by decide))|exact(z6 ⟨.val _,.val _,.val _,.val _,V0 _ [] _,O⟩)|exact(z6 ⟨F7 _ ([]:List Ky) _,O⟩)|exact(z6 ⟨F7 _ _ _,O⟩)|exact(b1Y _ _ _)|exact(b18 4 0 b.length)))):=h
def I(h:q->p:=by intro V;simpa using V):=h V
def sm_(h:q->p:=by intro V;simp at V;omega):=h V
theorem gx_{α:Type}(l:List α)(i:Nat)(h:i<l.length:=by omega):∃b,l[i]?=some b:=⟨l[i],by simp⟩
def tu_(h:p:=by repeat' (first|exact O|exact J|refine⟨?_,?_⟩)):=h
def Q(h:p:=by dsimp only;omega):=h
def X(h:p:=by omega):=h
def H(h:p:=by simp):=h
def G(h:p:=by decide):=h
def z_0(h:q->p:=by intro V;refine G4 ?_;refine G8 ?_;exact V):=h V
def z_1(h:q->p:=by intro V;refine qD (p7 J a3m J j5 ?_);refine qD (j2 J O O J j3 a4x j5 J J (nb J) ?_);exact V):=h V
def z_2(h:q->p:=by intro V;refine qD (j2 J O O J j3 a4x j5 J J (nb J) ?_);refine c6 ?_;exact V):=h V
def z_4(h:q->p:=by intro V;refine z_0 ?_;refine cY A8 ?_;exact V):=h V
def z_5(h:q->p:=by intro V;refine cY a4R ?_;refine w9 ?_;exact V):=h V
def z_6(h:q->p:=by intro V;refine qD (p7 J b1V J j5 ?_);refine qD (j2 J O O J j3 a54 j5 J J (nb J) ?_);exact V):=h V
def z_7(h:q->p:=by intro V;refine qD (I0 J O j3 j5 ?_);refine qD (I0 J O j3 j5 ?_);exact V):=h V
def z_8(h:Qz q->p:=by intro V;refine W j9 ?_;refine qD (j2 J O O J j3 t_1 (.inl J) J J (nb J) ?_);exact V O):=h λ_=>V
def z_9(h:q->p:=by intro V;refine j6 ?_;refine c6 ?_;exact V):=h V
def c2G(h:q->p:=by intro V;refine qD (p7 J b6g J j5 ?_);refine qD (j2 J O O J j3 a9w j5 J J (nb J) ?_);exact V):=h V
def d6H(h:q->p:=by intro V;refine a6N (i:=9) l8 J J (j2 J O O J j3 c9K (.inl J) J J (nb J) ?_);refine⟨⟨λh=>absurd h G,λh=>absurd h G,λh=>absurd h G,λh=>absurd h G,O⟩,?_⟩;exact V):=h V
def c2N(h:q->p:=by intro V;refine qD (p7 J a48 J j5 ?_);refine qD (j2 J O O J j3 a4d j5 J J (nb J) ?_);exact V):=h V
def W1(h:q->p:=by intro V;refine a7k ?_;refine qo ?_;exact V):=h V
def a1y(h:q->p:=by intro V;refine qG D4 ?_;refine qG D4 ?_;exact V):=h V
def a4k(h:q->p:=by intro V;refine qG a6P ?_;refine W N9 ?_;exact V):=h V
def b6u(h:p:=by refine W j9 ?_;exact⟨(i+1),_,⟨X,X⟩,tu_,J⟩):=h
def b2F(h:p:=by refine W j9 ?_;exact⟨(i+1),_,⟨X,X,hr⟩,tu_,J⟩):=h
def b0K(h:p:=by refine c6 ?_;exact⟨_,rE1,_,_,J,J,j4 q_7⟩):=h
def a5e(h:q->p:=by intro V;refine hY A8 ?_;refine hY a6W ?_;exact V):=h V
def a38(h:q->p:=by intro V;refine qG a6P ?_;refine W S6 ?_;exact V):=h V
def a3c(h:q->p:=by intro V;refine hY A8 ?_;refine hY A8 ?_;exact V):=h V
def c9D(h:p:=by refine c6 ?_;exact⟨_,rE1,_,_,J,J,(.tok (λr hr c hc=>(C0 (f:=scv) (λ_=>O0.all ⟨.val _,O⟩) _) r hr c hc))⟩):=h
def c1G(h:q->p:=by intro V;refine E9 J J b97 ⟨O,?_⟩;refine a8r ?_;exact V):=h V
def b3Z(h:p:=by refine c6 ?_;exact⟨_,rE1,_,_,J,J,C9 e1Z⟩):=h
def a85(h:q->p:=by intro V;refine w9 ?_;refine G4 ?_;exact V):=h V
def c9w(h:p:=by refine z_2 ?_;exact⟨_,r3 (rs:=[.cell 4 231,.tmp 5,.tmp 6]) (cs:=[_,_,_]) J b2E (n_5 J),q_8⟩):=h
def a7l(h:q->p:=by intro V;refine chf J W7 ?_;refine chf J W7 ?_;exact V):=h V
def c6V(h:q->p:=by intro V;refine cY A8 ?_;refine de J b2u a21 (a0L _ _ G (q:=0) (s:=2) ⟨J,J,G⟩) J ?_;exact V):=h V
def c7H(h:q->p:=by intro V;refine cY A8 ?_;refine cG D4 ?_;exact V):=h V
def a3l(h:Qz q->p:=by intro V;refine W a5D ?_;refine W Z2 ?_;exact V O):=h λ_=>V
def d3u(h:q->p:=by intro V;refine qD (p7 J t_9 J j5 ?_);refine qD (j2 J O O J j3 t_3 j5 J J (nb J) ?_);exact V):=h V
def d0V(h:q->p:=by intro V;refine qD (p7 J c1B J j5 ?_);refine qD (j2 J O O J j3 a9H j5 J J (nb J) ?_);exact V):=h V
def c6j(h:p:=by refine c6 ?_;exact⟨_,rE1,⟨(_,p1),a2G J U8 (.old (.val _)),c0g,Q,Q⟩⟩):=h
def e2T(h:Qz q->p:=by intro V;refine a6N (i:=7) l8 J J (d_y d8A ?_);refine⟨⟨λh=>absurd h G,λh=>absurd h G,λh=>absurd h G,λh=>absurd h G,O⟩,?_⟩;exact V O):=h λ_=>V
def a42(h:q->p:=by intro V;refine G8 ?_;refine cY A8 ?_;exact V):=h V
def c0V(h:p:=by refine c6 ?_;exact⟨_,rE1,_,_,J,J,C9 c38⟩):=h
def c68(h:q->p:=by intro V;refine qD (j2 J O O J j3 a4d j5 J J (nb J) ?_);refine c6 ?_;exact V):=h V
def c1f(h:p:=by refine c6 ?_;exact⟨_,rE1,_,_,J,J,C9 J⟩):=h
def a58(h:q->p:=by intro V;refine z_5 ?_;refine c6 ?_;exact V):=h V
def d6F(h:p:=by refine z_2 ?_;exact⟨_,r3 (rs:=[.cell 4 231,.tmp 5,.tmp 6]) (cs:=[_,_,_]) J b2E (n_5 J),q_9⟩):=h
def e1f(h:p:=by refine d6H ?_;exact⟨by kernel_rfl,(l1++(ev.map B5++ew.map B5)),[0,1,2,3,4,5,6,7],⟨gr,gX l1 bZ⟩,⟨J,J⟩,c21,.inr ⟨_,J,.same J K3⟩,.inr ⟨_,J,.same J a2U⟩,.inr ⟨_,J,.same J K3⟩,.inr ⟨_,J,.same J a2U⟩,.inl J,.inl J,.inl J,.inr ⟨_,J,.same J b5b⟩,O⟩):=h
def b3E(h:q->p:=by intro V;refine qs 1 (qD (I0 J O j3 j5 ?_));exact V):=h V
def c7P(h:q->p:=by intro V;refine cG a6P ?_;refine cY N9 ?_;exact V):=h V
def e2a(h:q->p:=by intro V;refine qk ?_;refine j8 hCC (α:=Nat) (λk=>[(3,(.vec 0 0 st.length)),(4,iv i),(5,.ptr 1 0),(6,iv x.args.length),(7,iv k),(8,(.list (E.map Ex.cv) en none)),(9,iv E.length),(10,iv i)]) (λ_=>[(.vec 1 ((st++rest).map icv)),.box x.cells]) (λk=>k<=x.args.length) (λk=>x.args.length -k) 0 (n_4 _) tu_ (ai:=[]) J z8 uz_ ?_;exact V):=h V
def d5G(h:q->p:=by intro V;refine qD (p7 J b0E J j5 ?_);refine qD (j2 J O O J j3 b7b j5 J J (nb J) ?_);exact V):=h V
def c9U(h:q->p:=by intro V;refine cD (j2 J O O J j3 a2H (.inl J) J J (nb J) ?_);refine w9 ?_;exact V):=h V
def e2y(h:q->p:=by intro V;refine L1 J J O J D4 ?_;refine L1 J J O J D4 ?_;exact V):=h V
def a84(h:q->p:=by intro V;refine⟨O,?_⟩;refine a8r ?_;exact V):=h V
def b3A(h:q->p:=by intro V;refine chf J W7 ?_;refine chf J b8j ?_;exact V):=h V
def d0W(h:q->p:=by intro V;refine W b1m ?_;refine qD (j2 J O O J j3 a9w j5 J J (nb J) ?_);exact V):=h V
def d3F(h:q->p:=by intro V;refine qD (j2 J O O J j3 a9H j5 J J (nb J) ?_);refine c6 ?_;exact V):=h V
def b58(h:q->p:=by intro V;refine z_0 ?_;refine cD (I0 J O j3 j5 ?_);exact V):=h V
def e0M(h:q->p:=by intro V;refine qN [rbx T n2 a2 e2 ps b 1,o9 e2 b.length,.box (tk T n).cells] J (qD (c5 J a41 o8 (O8 hT y2 hW [41] ⟨J,J,G⟩) J ?_));exact V):=h V
def d3L(h:q->p:=by intro V;refine cY a0d ?_;refine z_5 ?_;exact V):=h V
def e1V(h:q->p:=by intro V;refine W b9E ?_;refine j8 hCC (α:=Nat) (λi=>[(1,(sv s)),(9,(.list (l.map Va.cv) nn none)),(10,iv l.length),(11,iv i)]) (λ_=>[.box (E7 l nn)]) (λi=>i<=l.length/\P3 l s=P3 (l.drop i) s) (λi=>l.length -i) 0 ⟨n_4 _,J⟩ tu_ (ai:=[]) J z8 uz_ ?_;exact V):=h V
def d4r(h:q->p:=by intro V;refine C8 ?_;refine B0 J J J (j2 J O O J j3 a4d j5 J J (nb J) ?_);exact V):=h V
def e2j(h:q->p:=by intro V;refine W I7 ?_;refine j8 hCC (α:=Nat) (λi=>[(1,(sv u)),(7,(.list (l.map scv) nn none)),(8,iv l.length),(9,iv i)]) (λ_=>[]) (λi=>i<=l.length/\decide (u∈l)=decide (u∈l.drop i)) (λi=>l.length -i) 0 ⟨n_4 _,J⟩ tu_ (ai:=[]) J z8 uz_ ?_;exact V):=h V
def b0D(h:q->p:=by intro V;refine W N9 ?_;refine c6 ?_;exact V):=h V
def d9q(h:p:=by refine cY c0m ?_;exact a3i J J (Q6 J a5J o8 (Q3 _ _ _) J (λ_ _=>.inr ⟨(_,_),k8,ah,H⟩))):=h
def c7u(h:q->p:=by intro V;refine C2 ?_;refine G4 ?_;exact V):=h V
def d5L(h:q->p:=by intro V;refine qD (p7 J c1B J j5 ?_);refine qD (p7 J c1B J j5 ?_);exact V):=h V
def b3N(h:Qz q->p:=by intro V;refine W d7y ?_;refine qD (p7 J a6H J j5 ?_);refine qD (j2 J O O J j3 a5a j5 J J (nb J) ?_);exact V O):=h λ_=>V
def d6B(h:q->p:=by intro V;refine qN [rbx T n3 a6 e6 ps b6 3,.dead,.box (tk T n).cells,o9 e6 b6.length] J ?_;refine c6 ?_;exact V):=h V
def e0T(h:q->p:=by intro V;refine cY b4P ?_;refine cY a5L ?_;exact V):=h V
def c7D(h:q->p:=by intro V;refine qG d7z ?_;refine qG a5n ?_;exact V):=h V
def a7w(h:q->p:=by intro V;refine qk (W R6 ?_);exact V):=h V
def d9U(h:p:=by refine b0D ?_;exact⟨_,rE1,_,_,J,J,j4 (show(C4 x.a &&decide (x.b=[]))=Q9 x by simp_all[Q9])⟩):=h
def a78(h:q->p:=by intro V;refine z_4 ?_;refine cY A8 ?_;exact V):=h V
def e1F(h:q->p:=by intro V;refine⟨⟨λ_=>by exact c8 J T1,λ_=>by exact c8 J c3r,λ_=>by exact c8 J T1,λ_=>by exact c8 J c3X,O⟩,?_⟩;refine a6N (i:=6) l8 J J (j2 J O O J j3 c7x j5 J J (nb J) ?_);exact V):=h V
def d0J(h:p:=by refine c6 ?_;exact⟨_,rE1,_,_,J,J,C9 e1y⟩):=h
def e1p(h:q->p:=by intro V;refine P1 [rbx T n6 x1 y1 [] [] 2,o9 0 b.length,o9 y1 ([]:List Ex).length,.dead,.box (⟨0,[],[],[]⟩:De).cells,.box [iv kd,(sv s2),.list (l.map scv) (gnn l.length) (C3 l.length 6),.list [] false none],o5 l.length] J ?_;refine w9 ?_;exact V):=h V
def b0Z(h:q->p:=by intro V;refine cY a0d ?_;refine w9 ?_;exact V):=h V
def d5O(h:q->p:=by intro V;refine cD (j2 J O O J j3 b7b j5 J J (nb J) ?_);refine w9 ?_;exact V):=h V
def d3J(h:p:=by refine c6 ?_;exact⟨_,rE1,_,_,J,J,D9 J⟩):=h
def d5Z(h:q->p:=by intro V;refine qH J J (λhk hg=>a0Z J ⟨hk,hg⟩ J J J J) ?_;refine qG c5I ?_;exact V):=h V
def d9Q(h:Qz q->p:=by intro V;refine⟨⟨λh=>absurd h G,λh=>absurd h G,λh=>absurd h G,λh=>absurd h G,O⟩,?_⟩;refine e2T ?_;exact V O):=h λ_=>V
def d5H(h:q->p:=by intro V;refine⟨⟨a05,F4,O⟩,?_⟩;refine E9 J J d6D ⟨⟨a05,O⟩,?_⟩;exact V):=h V
def e2g(h:Qz q->p:=by intro V;refine W e3h ?_;refine qD (a4v (l:=b) (new:=[UInt8.ofNat m]) (p:=k) J O O J (b28 (c8I fx)) Z3 a1P b3l a4D J (.inl Z3) J (a8u _ _) a96 ?_);exact V O):=h λ_=>V
def b2H(h:q->p:=by intro V;refine cY a5X ?_;refine w9 ?_;exact V):=h V
def c7Y(h:q->p:=by intro V;refine w9 ?_;refine a1A ?_;exact V):=h V
def c9A(h:q->p:=by intro V;refine hY c9q ?_;refine hY b8N ?_;exact V):=h V
def e18(h:q->p:=by intro V;refine a5y J J (λh=>h) J (λhk hg=>a3Y J ⟨hk,hg⟩ J b9N J t_0 G) ?_;refine a5y J J (λh=>h) J (λhk hg=>a1f J ⟨hk,hg⟩ J Y4 J) ?_;exact V):=h V
def d9I(h:q->p:=by intro V;refine cF [] [0,1,2,3,4] (tl:=[(5,[0,1,2]),(6,[0,1]),(7,[0]),(8,[]),(9,[])]) ?_;refine chf J a2l ?_;exact V):=h V
def e1d(h:q->p:=by intro V;refine P1 [rbx T n2 a2 e2 [] [] 2,o9 0 b.length,o9 e2 ([]:List Ex).length,.box (⟨pk,im,bs⟩:Src).cells,.box (⟨0,[],[],[]⟩:De).cells,.box (⟨kd,[],[],[]⟩:De).cells] J ?_;refine cY b5E ?_;exact V):=h V
def b6N(h:Qz q->p:=by intro V;refine j6 ?_;refine W j9 ?_;exact V O):=h λ_=>V
def e0L(h:p:=by refine c6 ?_;exact⟨_,rE1,_,_,J,J,j4 (show false=Q9 x by simp_all[Q9])⟩):=h
def d6L(h:p:=by refine c6 ?_;exact⟨_,rE1,_,_,J,J,j4 eg.symm⟩):=h
def d9u(h:p:=by refine c6 ?_;exact⟨_,rE1,⟨(_,p+2),a2G J U8 (.old (.val _)),c0g,Q,Q⟩⟩):=h
def e2S(h:q->p:=by intro V;refine a5y J J (λh=>h) J (λhk hg=>j7 J O J c5w J c5F G) ?_;refine a5y J J (λh=>h) J (λhk hg=>o6 J ⟨hk,hg⟩ J d0y J J) ?_;exact V):=h V
def e1h(h:q->p:=by intro V;refine a5y J J (λh=>h) J (λhk hg=>j7 J O J b9N J t_0 G) ?_;refine a5y J J (λh=>h) J (λhk hg=>o6 J ⟨hk,hg⟩ J Y4 J J) ?_;exact V):=h V
def d4z(h:q->p:=by intro V;refine c7P ?_;refine cY A8 ?_;exact V):=h V
def b0O(h:Qz q->p:=by intro V;refine qk (W j9 ?_);exact V O):=h λ_=>V
def d5x(h:q->p:=by intro V;refine qH J J (λhk hg=>c3c J ⟨hk,hg⟩ J) ?_;refine qG c5I ?_;exact V):=h V
def c26(h:p:=by refine c6 ?_;exact⟨_,rE1,(by exact a2s J (.val _))⟩):=h
def a8a(h:q->p:=by intro V;refine qG D4 ?_;refine qG c5i ?_;exact V):=h V
def c3Z(h:q->p:=by intro V;refine qG D4 ?_;refine qG b1X ?_;exact V):=h V
def c4f(h:p:=by refine c6 ?_;exact⟨_,rE1,_,_,J,J,j4 J⟩):=h
def d8x(h:q->p:=by intro V;refine⟨⟨λ_=>by exact c8 J T1,λ_=>by exact c8 J T1,λ_=>by exact c8 J c4n,λ_=>by exact c8 J a0d,O⟩,?_⟩;refine e0u (i:=6) l8 J e2Z ?_;exact V):=h V
def a32(h:q->p:=by intro V;refine z_0 ?_;refine d3L ?_;exact V):=h V
def d8j(h:q->p:=by intro V;refine c7H ?_;refine cY N9 ?_;exact V):=h V
def d7q(h:q->p:=by intro V;refine W a4M ?_;refine qD (c5 J b2u a21 (a0L _ _ G ⟨J,J,G⟩) J ?_);exact V):=h V
def d1g(h:q->p:=by intro V;refine cY b2R ?_;refine cD (j2 J O J J j3 t_1 (.inl J) J J (nb J) ?_);exact V):=h V
def c8u(h:Qz q->p:=by intro V;refine qD (j2 J O O J j3 c1c (.inl J) J J (nb J) ?_);refine W j9 ?_;exact V O):=h λ_=>V
def d2v(h:p:=by refine a58 ?_;exact⟨_,rE1,_,_,J,J,j4 (by simp[e1,e2,e3,e4])⟩):=h
def d8C(h:p:=by refine c6 ?_;exact⟨_,F2 J a3T,⟨(a6O fl ⟨sp,s⟩,p4),a2G J U8 (.old (S5 _ _).old),(hm.mono X).ins (hspa) Q,Q,Q⟩⟩):=h
def a61(h:q->p:=by intro V;refine z_4 ?_;refine cY a6W ?_;exact V):=h V
def d3e(h:q->p:=by intro V;refine B0 J J J (j2 J O O J j3 a9H j5 J J (nb J) ?_);refine⟨O,?_⟩;refine a8r ?_;exact V):=h V
def d8P(h:p:=by refine c6 ?_;exact⟨_,r3 (rs:=[.tmp 4,.tmp 5]) (cs:=[_,_]) J T8 (n_5 J),_,_,J,J,(.old (a1e _).old)⟩):=h
def c4V(h:q->p:=by intro V;refine L1 J J O J c92 ?_;refine L1 J J O J a02 ?_;exact V):=h V
def c22(h:q->p:=by intro V;refine L1 J J O J e04 ?_;refine L1 J J O J e1u ?_;exact V):=h V
def c5b(h:q->p:=by intro V;refine L1 J J O J e1A ?_;refine L1 J J O J d6Z ?_;exact V):=h V
def d0N(h:q->p:=by intro V;refine L1 J J O J (λhg=>a1F J hg hg J J (b21 _ _)) ?_;refine hY N9 ?_;exact V):=h V
def a93(h:q->p:=by intro V;refine qG b5j ?_;refine W S6 ?_;exact V):=h V
def a9R(h:q->p:=by intro V;refine qG a29 ?_;refine W S6 ?_;exact V):=h V
def b5x(h:q->p:=by intro V;refine chf J e1n ?_;refine chf J d1r ?_;exact V):=h V
def d7Y(h:q->p:=by intro V;refine a6N (i:=7) l8 J J (I0 J O j3 j5 ?_);refine⟨⟨λh=>absurd h G,λh=>absurd h G,λh=>absurd h G,λh=>absurd h G,O⟩,?_⟩;exact V):=h V
def d8M(h:p:=by refine c6 ?_;exact⟨_,rE1,_,_,J,J,j4 (show true=decide (u∈l)from(a1B (hw▸n_2 hb)).symm)⟩):=h
def d7t(h:q->p:=by intro V;refine qH J J (λhk hg=>j7 J O J a9e J t_0 G) ?_;refine qH J J (λhk hg=>o6 J ⟨hk,hg⟩ J Y4 J J) ?_;exact V):=h V
def d3b(h:q->p:=by intro V;refine qN [rbx T n3 a3 e3 ps b 1,o9 e3 b.length,.box (tk T n).cells] J (W e3a ?_);exact V):=h V
def a8Q(h:Qz q->p:=by intro V;refine G8 ?_;refine cY j9 ?_;refine cY A8 ?_;refine w9 ?_;exact V O):=h λ_=>V
def d7v(h:q->p:=by intro V;refine qH J J (λhk hg=>j7 J O J a68 J t_1 G) ?_;refine qH J J (λhk hg=>o6 J ⟨hk,hg⟩ J a2K J J) ?_;exact V):=h V
def d8e(h:q->p:=by intro V;refine qH J J (λhk hg=>j7 J O J b3s J t_0 G) ?_;refine qH J J (λhk hg=>o6 J ⟨hk,hg⟩ J Y4 J J) ?_;exact V):=h V
def d9j(h:Qz q->p:=by intro V;refine hY (p9 J O O J J b68 a4x X (j1 (e0n hn)) J) ?_;refine hY (X3 J O J b8l a4x (nb J)) ?_;exact V O):=h λ_=>V
def a8C(h:q->p:=by intro V;refine c7u ?_;refine a1A ?_;exact V):=h V
def c24(h:p:=by refine j6 ?_;exact⟨(k+2),_,J,tu_,J⟩):=h
def d7X(h:Qz q->p:=by intro V;refine a5y J J (λh=>h) J (λhk hg=>a2r J O j3) ?_;refine a5y J J (λh=>h) J (λhk hg=>b16 J ⟨hk,hg⟩ J J J c4C c4C) ?_;exact V O):=h λ_=>V
def d8z(h:q->p:=by intro V;refine qN [rbx T n1 a1 e1 ps b 1,o9 e1 b.length,.box (tk T n).cells] J (qD (c5 J c50 i7 (b1j hT y1 hW true hc.l ⟨J,J,G⟩) J ?_));exact V):=h V
def c0P(h:p:=by refine c6 ?_;exact⟨_,rE1,e2A⟩):=h
def c81(h:q->p:=by intro V;refine qN [rbx T n x y ps b 1,o9 y b.length,.box (tk T n).cells] J ?_;refine c6 ?_;exact V):=h V
def d9h(h:p:=by refine c6 ?_;exact⟨_,r3 (rs:=[.tmp 4,.tmp 5]) (cs:=[_,_]) J T8 (n_5 J),⟨(),J,J,O⟩⟩):=h
def d8d(h:p:=by refine c6 ?_;exact⟨_,r3 (rs:=[.tmp 4,.tmp 5]) (cs:=[_,_]) J T8 (n_5 J),_,_,J,J,d8E⟩):=h
def d8Z(h:p:=by refine z_9 ?_;exact⟨_,r3 (rs:=[.tmp 4,.tmp 5]) (cs:=[_,_]) J T8 (n_5 J),_,_,J,J,d8E⟩):=h
def b9M(h:p:=by refine P1 [pbx T m ps b2 3,.dead,.box (tk T n).cells,o5 b2.length] J ?_;refine a58 ?_;exact⟨_,rE1,e16⟩):=h
def b1s(h:Qz q->p:=by intro V;refine W a2k ?_;refine W Z2 ?_;exact V O):=h λ_=>V
def c9l(h:q->p:=by intro V;refine cY d7a ?_;refine cY c4u ?_;exact V):=h V
def d8a(h:p:=by refine c6 ?_;exact⟨_,rE1,_,_,J,J,(a1d (show CV.list (([]:List Ky).map Ky.cv) false none=_ from J) pu_)⟩):=h
def a9Y(h:q->p:=by intro V;refine hY a4R ?_;refine W1 ?_;exact V):=h V
def b0b(h:q->p:=by intro V;refine a4k ?_;refine qG D4 ?_;exact V):=h V
def d6Y(h:Qz q->p:=by intro V;refine b23 J J (λ_=>c8 J Z2) ?_;refine B0 J J J (U7 J O J c0c trivial (by exact eh X (p+2) X) J ?_);exact V O):=h λ_=>V
def d7h(h:p:=by refine W X7 ?_;exact⟨(s,cK,p6,n-1),[0,1,2],⟨Q,Q,Q,Q,Q,Q,Q⟩,⟨J,J⟩,ut_,uq_⟩):=h
def b5P(h:q->p:=by intro V;refine chf J W7 ?_;refine C8 ?_;exact V):=h V
def d8T(h:Qz q->p:=by intro V;refine⟨⟨a05,F4,F4,O⟩,?_⟩;refine B0 J J J (c5 J Tryz.call68 i7 (b5z l nn (k+3) X hl v dm _ 0 J) J ?_);exact V O):=h λ_=>V
def d7M(h:p:=by refine a58 ?_;exact⟨_,rE1,(by exact .inl ⟨(i6,n+1,b6),a0o J J (nb J) (.val _),ah,Q,bf,y6⟩)⟩):=h
def d7l(h:q->p:=by intro V;refine cY (O4 J O J c4B a54 J (nb J)) ?_;refine cD (j2 J O O J j3 a54 j5 J J (nb J) ?_);exact V):=h V
def d8s(h:p:=by refine c6 ?_;exact⟨_,r3 (rs:=[.tmp 4,.tmp 5]) (cs:=[_,_]) J T8 (n_5 J),e2v⟩):=h
def d2i(h:q->p:=by intro V;refine qG e1W ?_;refine qG (λhg=>o6 J hg J b74 J J) ?_;exact V):=h V
def d0e(h:Qz q->p:=by intro V;refine a1y ?_;refine qG e24 ?_;exact V O):=h λ_=>V
def b8q(h:q->p:=by intro V;refine chf J a2l ?_;refine chf J W7 ?_;exact V):=h V
def d7k(h:q->p:=by intro V;refine a5y J J (λh=>h) J (λhk hg=>a1F J ⟨hk,hg⟩ ⟨hk,hg⟩ J J (c04 _ _)) ?_;refine L1 J J O J c5I ?_;exact V):=h V
def d7Z(h:p:=by refine z_9 ?_;exact⟨_,r3 (rs:=[.tmp 4,.tmp 5]) (cs:=[_,_]) J T8 (n_5 J),e3b⟩):=h
def c9P(h:p:=by refine a8Q ?_;exact⟨(i+1),_,⟨X,X⟩,tu_,J⟩):=h
def d1z(h:q->p:=by intro V;refine z_4 ?_;refine d8j ?_;exact V):=h V
def d7T(h:q->p:=by intro V;refine⟨⟨F4,a2a,b4K,(by exact c8 J b9e),b3o,O⟩,?_⟩;refine E9 J J e3c ⟨⟨F4,a2a,b4K,O⟩,?_⟩;exact V):=h V
def d7B(h:p:=by refine c6 ?_;exact⟨_,rE1,_,_,J,J,(by exact c7X (l:=l++V9 s.length++s) (k:=2) J)⟩):=h
def d3P(h:p:=by refine z_9 ?_;exact⟨_,rE1,_,_,J,J,j4 J⟩):=h
def b0m(h:q->p:=by intro V;refine c1G ?_;refine c6 ?_;exact V):=h V
def d8R(h:q->p:=by intro V;refine qD (p7 J Tryz.zeroValue26 J (.inl J) ?_);refine qD (j2 J O O J j3 a2H (.inl J) J J (nb J) ?_);exact V):=h V
def d8p(h:Qz q->p:=by intro V;refine C8 ?_;refine B0 J J J (c5 J a6J i7 (N4 l nn (k+2) _ 0 J X hl Y7 G G) J ?_);exact V O):=h λ_=>V
def d2K(h:p:=by refine c6 ?_;exact⟨_,rE1,⟨(),J,J,O⟩⟩):=h
def a7D(h:q->p:=by intro V;refine a85 ?_;refine z_0 ?_;exact V):=h V
def d7i(h:q->p:=by intro V;refine E9 J J c5z ⟨O,?_⟩;refine B0 J J J (j2 J O O J j3 b9D (.inl J) J J (nb J) ?_);exact V):=h V
def d7I(h:q->p:=by intro V;refine E9 J J d7O ⟨O,?_⟩;refine B0 J J J (j2 J O O J j3 b9t (.inl J) J J (nb J) ?_);exact V):=h V
def b0h(h:q->p:=by intro V;refine d4z ?_;refine cG d7z ?_;refine cG a5n ?_;exact V):=h V
def b5t(h:Qz q->p:=by intro V;refine W a64 ?_;refine W a8q ?_;exact V O):=h λ_=>V
def b4E(h:q->p:=by intro V;refine hY b9e ?_;refine hY a0R ?_;exact V):=h V
def b5q(h:q->p:=by intro V;refine hY b5f ?_;refine hY b9A ?_;exact V):=h V
def d7P(h:q->p:=by intro V;refine cD (p7 J d2B J j5 ?_);refine cD (j2 J O O J j3 b70 j5 J J (nb J) ?_);exact V):=h V
def d8J(h:q->p:=by intro V;refine cF [] [0,1,2,4,5] (tl:=[(3,[0,1,2,3,4]),(6,[0,1,2]),(7,[0,1,2]),(8,[0,1,2]),(9,[])]) ?_;refine b3A ?_;exact V):=h V
def d3Q(h:q->p:=by intro V;refine⟨⟨F4,O⟩,?_⟩;refine E9 J J b8j ⟨O,?_⟩;exact V):=h V
def b1Z(h:Qz q->p:=by intro V;refine W c98 ?_;refine z_6 ?_;exact V O):=h λ_=>V
def d8q(h:Qz q->p:=by intro V;refine E9 J J (c8 J (c4 J c1Q i7 (a1a fl _ ⟨sp,s⟩ X _) J)) ⟨O,?_⟩;refine d3e ?_;exact V O):=h λ_=>V
def d8B(h:q->p:=by intro V;refine⟨⟨λh=>absurd h G,λh=>absurd h G,λh=>absurd h G,λh=>absurd h G,O⟩,?_⟩;refine a6N (i:=7) l8 J J (j2 J O O J j3 c7x j5 J J (nb J) ?_);refine⟨⟨λh=>absurd h G,λh=>absurd h G,λh=>absurd h G,λh=>absurd h G,O⟩,?_⟩;exact V):=h V
def d7f(h:Qz q->p:=by intro V;refine E9 J J (c8 J (c4 J c1Q i7 (a1a fl _ ⟨y,s⟩ X _) J)) ⟨O,?_⟩;refine d3e ?_;exact V O):=h λ_=>V
def d8i(h:Qz q->p:=by intro V;refine qO Tryz.func284 ?_;refine W (p9 J O O J J b3G a9w X (j1 eG.node) J) ?_;exact V O):=h λ_=>V
def d8N(h:q->p:=by intro V;refine hY (j7 J O J d1J J b9t G) ?_;refine hY (o6 J O J c0E hk J) ?_;exact V):=h V
def d0p(h:q->p:=by intro V;refine L1 J J O J e2t ?_;refine L1 J J O J a5n ?_;exact V):=h V
def d7g(h:Qz q->p:=by intro V;refine W (p9 J O J J J t_6 t_1 X (j1 (M7 g1)) J) ?_;refine W j9 ?_;exact V O):=h λ_=>V
def d8U(h:Qz q->p:=by intro V;refine W d7w ?_;refine qD (c5 J a6J i7 (N4 l nn (k+2) _ 0 J X hl a0c G G) J ?_);exact V O):=h λ_=>V
def b5d(h:q->p:=by intro V;refine hY a4R ?_;refine a7k ?_;exact V):=h V
def b5A(h:q->p:=by intro V;refine cY d3y ?_;refine w9 ?_;exact V):=h V
def d7J(h:q->p:=by intro V;refine B0 J J J (j2 J O O J j3 b7b j5 J J (nb J) ?_);refine⟨⟨a9L,O⟩,?_⟩;exact V):=h V
def d8Y(h:p:=by refine c6 ?_;exact⟨_,rE1,_,_,J,J,C9 (by rw[a4E,D u1,D u2])⟩):=h
def b24(h:q->p:=by intro V;refine qk (W I7 ?_);exact V):=h V
def c3I(h:Qz q->p:=by intro V;refine L1 J J O J D4 ?_;refine L1 J J O J c8P ?_;refine L1 J J O J e3f ?_;exact V O):=h λ_=>V
def d7r(h:q->p:=by intro V;refine G4 ?_;refine cF [] [0,1,2,3,4,5,6,7,8] (tl:=[(9,[0,1,2,3,4,5,6,7,8]),(10,[8]),(11,[])]) ?_;exact V):=h V
def d7s(h:q->p:=by intro V;refine W a4M ?_;refine qD (c5 J b2u a21 (a0L _ _ G (q:=2) (s:=0) ⟨J,J,G⟩) J ?_);exact V):=h V
def b4y(h:q->p:=by intro V;refine c3Z ?_;refine W N9 ?_;exact V):=h V
def d0Q(h:p:=by refine W a1z ?_;exact⟨(),_,O,tu_,J⟩):=h
def b2t(h:q->p:=by intro V;refine w9 ?_;refine z_0 ?_;exact V):=h V
def d8Q(h:Qz q->p:=by intro V;refine W1 ?_;refine qD (c5 J a6J i7 (N4 l nn (p+1) _ 0 J X hl a18 G G) J ?_);exact V O):=h λ_=>V
def b1B(h:q->p:=by intro V;refine d1z ?_;refine c7H ?_;exact V):=h V
def c94(h:p:=by refine C2 ?_;exact⟨(),_,O,tu_,J⟩):=h
def d8y(h:p:=by refine c6 ?_;exact⟨_,rE1,_,_,J,J,C9 (by rw[x8,F ak])⟩):=h
def d7F(h:p:=by refine c6 ?_;exact⟨_,rE1,_,_,J,J,j4 (a1S ay).symm⟩):=h
def b4r(h:Qz q->p:=by intro V;refine W e2h ?_;refine qD (p7 J c75 J j5 ?_);refine qD (j2 J O O J j3 b7n j5 J J (nb J) ?_);exact V O):=h λ_=>V
def b39(h:Qz q->p:=by intro V;refine b3N ?_;refine W a8q ?_;exact V O):=h λ_=>V
def b5w(h:q->p:=by intro V;refine hY N9 ?_;refine W1 ?_;exact V):=h V
def d9g(h:q->p:=by intro V;refine cF [] [0,1,2,3,4] (tl:=[(5,[0,1]),(6,[0,1]),(7,[]),(8,[]),(9,[])]) ?_;refine chf J d7O ?_;exact V):=h V
def d7A(h:p:=by refine W j9 ?_;exact⟨(i+1),_,⟨X,X,c6b hb hd hw⟩,tu_,J⟩):=h
def b5n(h:q->p:=by intro V;refine e0T ?_;refine cY A8 ?_;exact V):=h V
def b4H(h:q->p:=by intro V;refine cY c4H ?_;refine c7Y ?_;exact V):=h V
def d8h(h:q->p:=by intro V;refine c2G ?_;refine W (c4 J Tryz.call305 ⟨O,O⟩ (b27 ⟨k,u,o,nm,o7 ch s⟩ _) J) ?_;exact V):=h V
def b4i(h:q->p:=by intro V;refine a5e ?_;refine hY e2w ?_;exact V):=h V
def b4e(h:q->p:=by intro V;refine hY A8 ?_;refine c9A ?_;exact V):=h V
def b5k(h:q->p:=by intro V;refine hY A8 ?_;refine e2y ?_;exact V):=h V
def d6W(h:p:=by refine W j9 ?_;exact⟨(i+1),_,⟨X,X,b7Q hb hd hw⟩,tu_,J⟩):=h
def d8t(h:p:=by refine c6 ?_;exact⟨_,rE1,_,_,J,J,C9 (by rw[a4E,F u1])⟩):=h
def d8W(h:q->p:=by intro V;refine B0 J J J (j2 J O O J j3 b3g (.inl J) J J (nb J) ?_);refine a84 ?_;exact V):=h V
def d8H(h:Qz q->p:=by intro V;refine hY (p9 J O O J J t_2 t_0 X (j1 hx) J) ?_;refine hY a5u ?_;exact V O):=h λ_=>V
def d7u(h:q->p:=by intro V;refine B0 J J J (j2 J O O J j3 c1p (.inl J) J J (nb J) ?_);refine a84 ?_;exact V):=h V
def b13(h:q->p:=by intro V;refine z_0 ?_;refine cY a5E ?_;refine a85 ?_;exact V):=h V
def b2l(h:q->p:=by intro V;refine c7D ?_;refine a38 ?_;exact V):=h V
def d7V(h:p:=by refine W (c4 J Tryz.call233 i7 (b2S s c _) J) ?_;exact c1f):=h
def b7M(h:q->p:=by intro V;refine qG a6P ?_;refine qG b0i ?_;exact V):=h V
def b7Z(h:q->p:=by intro V;refine qG e1b ?_;refine qG a02 ?_;exact V):=h V
def b7L(h:Qz q->p:=by intro V;refine W c08 ?_;refine W X7 ?_;exact V O):=h λ_=>V
def b79(h:q->p:=by intro V;refine hY A8 ?_;refine hY a0d ?_;exact V):=h V
def c1b(h:q->p:=by intro V;refine hY e06 ?_;refine hY W9 ?_;exact V):=h V
def c0W(h:Qz q->p:=by intro V;refine W a2k ?_;refine W j9 ?_;exact V O):=h λ_=>V
def b5B(h:q->p:=by intro V;refine d3e ?_;refine c6 ?_;exact V):=h V
def d6V(h:Qz q->p:=by intro V;refine E9 J J d9b ⟨⟨a05,F4,O⟩,?_⟩;refine E9 J J d6D ⟨⟨a05,O⟩,?_⟩;exact V O):=h λ_=>V
def d7D(h:q->p:=by intro V;refine W (c4 J a8U ⟨O,O⟩ (a0G hT y1 ⟨J,J,G⟩) J) ?_;refine W a4M ?_;exact V):=h V
def d7G(h:Qz q->p:=by intro V;refine cG a02 ?_;refine cG (λhg=>c4 J c76 ⟨hg,O⟩ (a19 x.name X _) J) ?_;exact V O):=h λ_=>V
def d6X(h:p:=by refine c6 ?_;exact⟨_,rE1,⟨v,J,J,n_2 hv⟩⟩):=h
def d8L(h:p:=by refine b6N ?_;exact⟨(i+1,e),_,⟨Q,Q,hr,h0,Q⟩,tu_,J⟩):=h
def d9a(h:q->p:=by intro V;refine W (c4 J a8U ⟨O,O⟩ (a0G hT fk ⟨J,J,G⟩) J) ?_;refine d7q ?_;exact V):=h V
def c0Q(h:q->p:=by intro V;refine qo (W S6 ?_);exact V):=h V
def d8I(h:q->p:=by intro V;refine qD (p7 J d0F J j5 ?_);refine qD (p7 J d0F J j5 ?_);exact V):=h V
def d8G(h:q->p:=by intro V;refine c2N ?_;refine qD (c4w J O J J t_2 t_0 t_4 J ?_);exact V):=h V
def c9S(h:Qz q->p:=by intro V;refine⟨O,?_⟩;refine E9 J J d9b ⟨O,?_⟩;exact V O):=h λ_=>V
def d1U(h:q->p:=by intro V;refine qD (I0 J O j3 j5 ?_);refine W b9E ?_;exact V):=h V
def b9o(h:q->p:=by intro V;refine W e26 ?_;refine W c7T ?_;exact V):=h V
def d1l(h:q->p:=by intro V;refine qD (I0 J O j3 j5 ?_);refine W a4S ?_;exact V):=h V
def d9c(h:q->p:=by intro V;refine qD (j2 J O O J j3 c0O (.inl J) J J (nb J) ?_);refine W R6 ?_;exact V):=h V
def b5y(h:q->p:=by intro V;refine cW 10 ?_;refine a5e ?_;exact V):=h V
def d6U(h:q->p:=by intro V;refine cY c5l ?_;refine cD (j2 J O O J j3 t_1 (.inl J) J J (nb J) ?_);exact V):=h V
def b5u(h:Qz q->p:=by intro V;refine d0e ?_;refine a4k ?_;exact V O):=h λ_=>V
def d7c(h:q->p:=by intro V;refine cY b4Q ?_;refine cD (j2 J O O J j3 t_1 (.inl J) hk J (nb J) ?_);exact V):=h V
def d7H(h:q->p:=by intro V;refine cF [] [0,1,3,4] (tl:=[(2,[2,3]),(5,[]),(6,[]),(7,[])]) ?_;refine chf J W7 ?_;exact V):=h V
def d7n(h:q->p:=by intro V;refine d5n Tryz.func154 J J J J J J J J J J G G J J ?_;refine z_4 ?_;exact V):=h V
def d8n(h:q->p:=by intro V;refine cD (j2 J O O J j3 t_0 (.inl J) J J (nb J) ?_);refine w9 ?_;exact V):=h V
def b9s(h:q->p:=by intro V;refine c9l ?_;refine cY c08 ?_;exact V):=h V
def d8S(h:Qz q->p:=by intro V;refine hY a4N ?_;refine hY (P8 J O J a2K J (c06 (j1 cE) X) J) ?_;exact V O):=h λ_=>V
def d8u(h:q->p:=by intro V;refine cF [] [0,1,2,3,4,5,6] (tl:=[(7,[0]),(8,[]),(9,[]),(10,[])]) ?_;refine a7l ?_;exact V):=h V
def d7C(h:p:=by refine c6 ?_;exact⟨_,rE1,_,_,J,J,j4 hr.symm⟩):=h
def d7S(h:p:=by refine c6 ?_;exact⟨_,rE1,_,_,J,J,C9 hr.symm⟩):=h
def d7L(h:q->p:=by intro V;refine⟨⟨d8g,d8v,O⟩,?_⟩;refine E9 J J e3d ⟨⟨d8g,d8v,O⟩,?_⟩;exact V):=h V
def d7j(h:q->p:=by intro V;refine W e2X ?_;refine qD (j2 J O O J j3 b70 j5 J J (nb J) ?_);exact V):=h V
def d8b(h:q->p:=by intro V;refine qN [rbx T n3 a6 e6 ps b6 4,.dead,.dead,.dead,o9 e6 b6.length] J ?_;refine c6 ?_;exact V):=h V
def d8D(h:q->p:=by intro V;refine⟨⟨d8X,d8l,O⟩,?_⟩;refine E9 J J e23 ⟨⟨d8X,d8l,O⟩,?_⟩;exact V):=h V
def b8g(h:p:=by refine qk ?_;exact b6u):=h
def b48(h:q->p:=by intro V;refine z_4 ?_;refine cY c0m ?_;refine cY A8 ?_;exact V):=h V
def d8F(h:p:=by refine c0Q ?_;exact⟨(_,p5+1),⟨Q,Q⟩,⟨⟨O,J⟩,⟨O,J⟩,⟨O,J⟩,⟨O,J⟩,⟨O,J⟩,⟨O,J⟩,⟨O,J⟩,O⟩,J⟩):=h
def d7m(h:q->p:=by intro V;refine qD (j2 J O O J j3 c7x j5 J J (nb J) ?_);refine c6 ?_;exact V):=h V
def d7d(h:q->p:=by intro V;refine C8 ?_;refine B0 J J J (c5 J Tryz.call307 trivial (b7B _) J ?_);exact V):=h V
def d7N(h:Qz q->p:=by intro V;refine W a64 ?_;refine W (c4 J c4T ⟨O,O⟩ (a6r y b9F _) J) ?_;exact V O):=h λ_=>V
def d8f(h:p:=by refine W j9 ?_;exact⟨(j+1),_,⟨X,X⟩,tu_,J⟩):=h
def b4S(h:q->p:=by intro V;refine qk ?_;refine c6 ?_;exact V):=h V
def d9e(h:q->p:=by intro V;refine cY a6W ?_;refine cY (j7 J O J b84 J a2H G) ?_;exact V):=h V
def b7P(h:q->p:=by intro V;refine e0T ?_;refine cY I7 ?_;exact V):=h V
def c0C(h:q->p:=by intro V;refine hY a7U ?_;refine a3c ?_;exact V):=h V
def d1P(h:q->p:=by intro V;refine L1 J J O J a6P ?_;refine hY S6 ?_;exact V):=h V
def c86(h:q->p:=by intro V;refine qs 2 (qD (I0 J O j3 j5 ?_));exact V):=h V
def d8w(h:q->p:=by intro V;refine z_7 ?_;refine qD (c5 J Tryz.call41 i7 (a9W fl nn fs ns q1 q2 _) J ?_);exact V):=h V
def d8V(h:q->p:=by intro V;refine hY (j7 J O J b9N J t_0 G) ?_;refine hY W9 ?_;exact V):=h V
def d8m(h:q->p:=by intro V;refine qN [rbx T n3 a3 e3 ps b 1,o9 e3 b.length,.box (tk T n).cells] J (W b1m ?_);refine qD (c5 J a4Z D6 (O9 hb ⟨10,x2,0,[],[]⟩ _ ⟨J,J,G⟩) J ?_);exact V):=h V
def d9d(h:q->p:=by intro V;refine hY (j7 J O J c1N J t_1 G) ?_;refine hY a0R ?_;exact V):=h V
def d7U(h:p:=by refine z_9 ?_;exact⟨_,rE1,_,_,J,J,j4 c9d⟩):=h
end Go
