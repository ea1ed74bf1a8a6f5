/- Names for closed terms that are often repeated. -/
import Derived.WalkKit
import Derived.Test.YtncmhkpnclafkaaGreatDoorProg
set_option linter.all false
namespace Go
open Go.Proofs.Tryz
theorem G.{u}{α:Sort u}{a:α}:a=a:=rfl
abbrev t_0:=@sizeOf9
abbrev t_1:=@sizeOf3
abbrev t_2:=@runUnderlying68
abbrev t_3:=@sizeOf49
abbrev t_4:=@zeroValue9
abbrev t_5:=@runUnderlying29
abbrev t_6:=@sizeOf83
abbrev t_7:=@runUnderlying22
abbrev t_8:=@runUnderlying9
abbrev t_9:=@zeroValue3
abbrev a0z:=@zeroValue83
abbrev a0A:=@zeroValue49
abbrev a1C:=@runUnderlying80
abbrev a2j:=@isAgg9
abbrev a2M:=@zeroValue205
abbrev a2Q:=@sizeOf68
abbrev a3F:=@sizeOf205
abbrev a3L:=@sizeOf99
abbrev a4c:=@sizeOf104
abbrev a4e:=@call263
abbrev a4f:=@call177
abbrev a4A:=@runUnderlying229
abbrev a4Z:=@call159
abbrev a4J:=@zeroValue99
abbrev a5s:=@typeInfo9
abbrev a5C:=@call157
abbrev a5v:=@isAgg3
abbrev a5L:=@call27
abbrev a7H:=@call24
abbrev a6S:=@call175
abbrev a7w:=@sizeOf25
abbrev a8m:=@runUnderlying97
abbrev a8u:=@runUnderlying99
abbrev a8x:=@call223
abbrev a8J:=@runUnderlying205
abbrev a9Q:=@sizeOf146
abbrev a9G:=@typeInfo49
abbrev a9C:=@call173
abbrev a9H:=@zeroValue73
abbrev a9y:=@sizeOf40
abbrev a9M:=@call98
abbrev b0B:=@call254
abbrev b0K:=@runUnderlying83
abbrev b1e:=@isAgg83
abbrev b0n:=@call174
abbrev b0p:=@runUnderlying23
abbrev b09:=@sizeOf73
abbrev b0y:=@runUnderlying37
abbrev b1X:=@runUnderlying124
abbrev b2a:=@runUnderlying159
abbrev b2D:=@sizeOf102
abbrev b2k:=@runUnderlying104
abbrev b2g:=@isAgg49
abbrev b2w:=@call10
abbrev b2r:=@zeroValue40
abbrev b2f:=@runUnderlying146
abbrev b4z:=@sizeOf5
abbrev b5a:=@runUnderlying162
abbrev b4S:=@zeroValue146
abbrev b5J:=@zeroValue104
abbrev b5G:=@isAgg99
abbrev b4Z:=@sizeOf42
abbrev b4V:=@sizeOf4
abbrev b4B:=@runUnderlying225
abbrev b74:=@runUnderlying5
abbrev b6d:=@runUnderlying102
abbrev b6g:=@runUnderlying73
abbrev b7W:=@call226
abbrev b6O:=@call101
abbrev b7b:=@sizeOf94
abbrev b6o:=@zeroValue25
abbrev b7x:=@call99
abbrev c0r:=@call202
abbrev b9G:=@isAgg68
abbrev b9B:=@isAgg4
abbrev b9s:=@sizeOf29
abbrev c01:=@call29
abbrev b9Z:=@runUnderlying49
abbrev c48:=@eqGuardType49
abbrev c4Y:=@runUnderlying166
abbrev c4K:=@runUnderlying170
abbrev c5o:=@call158
abbrev c49:=@call252
abbrev c4D:=@call160
abbrev c40:=@sizeOf22
abbrev c54:=@runUnderlying26
abbrev c4J:=@sizeOf79
abbrev c5s:=@runUnderlying89
abbrev c42:=@zeroValue5
abbrev c4q:=@sizeOf28
abbrev c5q:=@runUnderlying142
abbrev c7H:=@runUnderlying3
abbrev c9s:=@call123
abbrev c81:=@call195
abbrev c6U:=@call322
abbrev c8C:=@sizeOf173
abbrev d1q:=@runUnderlying87
abbrev d0L:=@isAgg29
abbrev c9c:=@call176
abbrev c6N:=@isAgg42
abbrev b7c:=@typeInfo73
abbrev b89:=@call77
abbrev b6b:=@runUnderlying92
abbrev b60:=@runUnderlying28
abbrev b6N:=@sizeOf26
abbrev b8J:=@runUnderlying79
abbrev b83:=@isAgg25
abbrev b5S:=@call70
abbrev b7k:=@runUnderlying59
abbrev b6Q:=@sizeOf59
abbrev b8c:=@isAgg205
abbrev b8s:=@sizeOf97
abbrev c21:=@runUnderlying183
abbrev c3h:=@call91
abbrev c2x:=@call90
abbrev c35:=@call171
abbrev c3k:=@typeInfo205
abbrev c29:=@call156
abbrev c3b:=@call198
abbrev c2M:=@typeInfo3
abbrev c1B:=@runUnderlying239
abbrev c2U:=@underlying3
abbrev c3C:=@zeroValue4
abbrev c1E:=@underlying55
abbrev c3s:=@isAgg55
abbrev c2q:=@sizeOf55
abbrev c2w:=@sizeOf80
abbrev c2G:=@call326
abbrev c27:=@call224
abbrev c3o:=@sizeOf23
abbrev c2A:=@call36
abbrev c3g:=@call89
abbrev c3r:=@isAgg94
abbrev c2d:=@call43
abbrev c28:=@typeInfo83
abbrev c3N:=@sizeOf199
abbrev c3D:=@isAgg22
abbrev c2m:=@zeroValue28
abbrev c3p:=@zeroValue79
abbrev c25:=@isAgg104
abbrev c2s:=@call44
abbrev c3t:=@isAgg97
abbrev d0F:=@call122
abbrev d0e:=@call137
abbrev c8i:=@call117
abbrev c7w:=@call253
abbrev c68:=@call155
abbrev d0p:=@runUnderlying173
abbrev d1i:=@zeroValue173
abbrev c6g:=@isAgg173
abbrev c6Q:=@isAgg86
abbrev d1S:=@call34
abbrev c6V:=@func168
abbrev c8R:=@func216
abbrev d0K:=@func217
abbrev c7o:=@func258
abbrev d1c:=@func259
abbrev d0N:=@underlying0
abbrev c9u:=@isAgg0
abbrev d0B:=@sizeOf0
abbrev c9G:=@zeroValue0
abbrev c9b:=@underlying4
abbrev d0k:=@underlying5
abbrev d1I:=@isAgg5
abbrev c95:=@underlying9
abbrev c7u:=@underlying221
abbrev c9C:=@isAgg221
abbrev c6Z:=@sizeOf221
abbrev c8Q:=@zeroValue221
abbrev c9W:=@underlying246
abbrev d1b:=@isAgg246
abbrev c8e:=@sizeOf246
abbrev c72:=@zeroValue246
abbrev d0g:=@underlying247
abbrev c7F:=@isAgg247
abbrev c8y:=@sizeOf247
abbrev c7q:=@zeroValue247
abbrev c7z:=@underlying188
abbrev d0A:=@isAgg188
abbrev c7t:=@sizeOf188
abbrev c8t:=@zeroValue188
abbrev c8l:=@underlying253
abbrev c7L:=@isAgg253
abbrev d0O:=@sizeOf253
abbrev c6u:=@zeroValue253
abbrev d2i:=@zeroValue55
abbrev c9x:=@underlying282
abbrev d2B:=@isAgg282
abbrev c9q:=@sizeOf282
abbrev c6r:=@zeroValue282
abbrev d0r:=@underlying286
abbrev d2f:=@isAgg286
abbrev c6k:=@sizeOf286
abbrev d0C:=@zeroValue286
abbrev d0V:=@underlying312
abbrev c7n:=@isAgg312
abbrev c8W:=@sizeOf312
abbrev c9I:=@zeroValue312
abbrev d1z:=@underlying313
abbrev c98:=@isAgg313
abbrev d0a:=@sizeOf313
abbrev c8f:=@zeroValue313
abbrev d1k:=@isAgg80
abbrev c9Z:=@call82
abbrev d2D:=@call86
abbrev d2p:=@call264
abbrev d1g:=@call299
abbrev d0S:=@call336
abbrev c6p:=@call178
abbrev c7i:=@isAgg30
abbrev d1y:=@call76
abbrev c6Y:=@zeroValue94
abbrev d2G:=@runUnderlying94
abbrev c7E:=@sizeOf92
abbrev d2F:=@call42
abbrev d1n:=@zeroValue199
abbrev d1C:=@runUnderlying199
abbrev c75:=@call39
abbrev c6j:=@isAgg146
abbrev d0X:=@isAgg26
abbrev d2I:=@isAgg28
abbrev c77:=@call165
abbrev c92:=@call83
abbrev c7c:=@typeInfo40
abbrev c8j:=@call52
abbrev c6h:=@call13
abbrev d0o:=@call72
abbrev c9f:=@call41
abbrev d1F:=@zeroValue59
abbrev c6v:=@runUnderlying32
abbrev c6O:=@runUnderlying40
abbrev H:=@if_neg
abbrev W:=@if_pos
abbrev n_2:=@List.getElem?_eq_some_iff
abbrev n_3:=@List.mem_of_getElem?
abbrev n_4:=@Nat.zero_le
abbrev n_5:=@Nat.ne_of_beq_eq_false
abbrev n_6:=@Nat.le_refl
abbrev n_7:=@congrArg
abbrev n_8:=@Option.bind_some
abbrev n_9:=@List.length_append
abbrev D8:=@List.mem_map
abbrev I0:=@List.mem_cons
abbrev J5:=@List.length_cons
abbrev J6:=@List.mem_iff_getElem?
abbrev M8:=@Option.map_eq_some_iff
abbrev N0:=@List.length_map
abbrev N6:=@List.getElem?_map
abbrev P4:=@Nat.zero_add
abbrev P9:=@Nat.add_mul
abbrev Q9:=@List.mem_append
abbrev R9:=@Bool.and_eq_true
abbrev T6:=@List.getElem?_append_left
abbrev T5:=@List.append_assoc
abbrev X4:=@Nat.mul_le_mul_right
abbrev a0b:=@Array.getD_eq_getD_getElem?
abbrev a0h:=@List.append_nil
abbrev a0r:=@List.mem_singleton
abbrev a0v:=@List.drop_eq_getElem_cons
abbrev a0V:=@List.drop_eq_nil_of_le
abbrev a06:=@Array.getElem?_eq_some_iff
abbrev a1c:=@List.getElem?_set_ne
abbrev a1F:=@Nat.le_trans
abbrev a1D:=@List.length_nil
abbrev a1V:=@Array.getElem?_eq_getElem
abbrev a1R:=@decide_eq_false
abbrev a2l:=@Nat.eq_of_beq_eq_true
abbrev a2o:=@List.getElem?_eq_getElem
abbrev a2p:=@List.take_of_length_le
abbrev a2m:=@decide_eq_true
abbrev a2N:=@List.pairwise_cons
abbrev a3d:=@Nat.lt_or_ge
abbrev a3a:=@List.take_add_one
abbrev a38:=@List.getElem?_take
abbrev a4a:=@List.mem_cons_of_mem
abbrev a5O:=@List.getElem?_append_right
abbrev a5E:=@Int.le_refl
abbrev a5J:=@decide_eq_true_eq
abbrev a6h:=@List.all_eq_true
abbrev a6B:=@List.mem_of_mem_take
abbrev a6m:=@List.getElem?_append
abbrev a7O:=@List.getElem?_drop
abbrev a63:=@Nat.mod_lt
abbrev a6O:=@List.take_length
abbrev a8c:=@Nat.add_zero
abbrev a8C:=@List.map_cons
abbrev a8G:=@List.mem_of_mem_drop
abbrev a8l:=@Bool.false_eq_true
abbrev a8E:=@List.length_pos_iff
abbrev a8q:=@Int.toNat_natCast
abbrev a8o:=@List.map_append
abbrev a9P:=@List.getElem?_set
abbrev a9A:=@Array.length_toList
abbrev a9J:=@Bool.or_eq_true
abbrev a9z:=@Nat.lt_of_lt_of_le
abbrev a9B:=@List.not_mem_nil
abbrev b12:=@Nat.blt_eq
abbrev b1U:=@List.length_take
abbrev b0C:=@decide_eq_false_iff_not
abbrev b2b:=@Nat.add_assoc
abbrev b2E:=@List.getElem?_set_self
abbrev b2v:=@List.cons_ne_nil
abbrev b2j:=@List.nil_append
abbrev b2p:=@List.filter_cons
abbrev b2h:=@List.mem_cons_self
abbrev b19:=@List.cons_append
abbrev b2z:=@Bool.false_ne_true
abbrev b4k:=@Array.mem_of_getElem?
abbrev b4H:=@Array.getElem?_eq_none
abbrev b4D:=@List.getD_eq_getElem?_getD
abbrev b40:=@List.drop_zero
abbrev b4A:=@List.mem_filter
abbrev b4T:=@List.mem_flatMap
abbrev b5M:=@Array.getElem?_setIfInBounds_ne
abbrev b8K:=@Option.getD_some
abbrev b8Q:=@Array.getElem?_append
abbrev b5V:=@List.getElem?_eq_none
abbrev b8G:=@World.size_alloc
abbrev b8j:=@Array.getElem?_modify
abbrev b7T:=@Nat.le_of_eq
abbrev b69:=@Bool.not_eq_true'
abbrev b6M:=@List.length_mergeSort
abbrev b8d:=@UInt8.toNat_inj
abbrev b8q:=@List.takeWhile_cons
abbrev b6I:=@Bool.true_and
abbrev c1l:=@Array.ext_getElem?
abbrev c0M:=@Array.getElem?_map
abbrev c1t:=@List.eq_nil_of_length_eq_zero
abbrev b9x:=@Nat.eq_zero_or_pos
abbrev c0m:=@Nat.mul_one
abbrev c0a:=@List.take_append_getElem
abbrev b1k:=@Bool.and_assoc
abbrev b26:=@List.getElem_mem
abbrev b3s:=@List.mem_append_left
abbrev b2Y:=@Array.getElem?_append_left
abbrev b3Z:=@Array.size_append
abbrev b3h:=@Int.tmod_eq_emod_of_nonneg
abbrev b2J:=@List.ext_getElem?
abbrev b27:=@Option.isSome_iff_exists
abbrev b3W:=@List.all_cons
abbrev b4a:=@List.length_drop
abbrev b3u:=@decide_eq_decide
abbrev b3v:=@List.foldl_append
abbrev b3p:=@Option.map_eq_none_iff
abbrev b7L:=@Array.getElem?_push
abbrev b8T:=@List.mem_append_right
abbrev b9e:=@List.isEmpty_iff
abbrev b8V:=@Option.map_some
abbrev b56:=@UInt8.lt_iff_toNat_lt
abbrev b8N:=@List.isPrefixOf_iff_prefix
abbrev b5P:=@List.drop_length
abbrev b8b:=@List.mem_of_find?_eq_some
abbrev b9m:=@List.find?_cons
abbrev b7R:=@List.pairwise_map
abbrev b7p:=@List.length_filter_le
abbrev b87:=@List.flatMap_cons
abbrev b7n:=@List.lt_irrefl
abbrev c1Z:=@Bool.eq_false_iff
abbrev c2u:=@List.mem_filterMap
abbrev c1K:=@List.any_eq_true
abbrev c3U:=@Nat.mod_eq_of_lt
abbrev c3F:=@Bool.or_eq_false_iff
abbrev c3L:=@List.length_singleton
abbrev c3l:=@List.nodup_iff_pairwise_ne
abbrev c1R:=@Nat.sub_add_cancel
abbrev c3m:=@List.filter_cons_of_pos
abbrev c7m:=@Option.bind_eq_some_iff
abbrev c7b:=@Array.getElem?_setIfInBounds
abbrev d0Z:=@List.mem_eraseIdx_iff_getElem?
abbrev c9p:=@List.length_eraseIdx_of_lt
abbrev d1w:=@Nat.add_sub_cancel_left
abbrev c7C:=@List.filter_cons_of_neg
def Qz(q:Prop):Prop:=True->q
variable{p q:Prop}(Y:q)
theorem nb{a b:Nat}(h:Nat.ble a b=true):a <= b:=Nat.le_of_ble_eq_true h
theorem O:True:=True.intro
def q_0(h:p:=by exact⟨⟨O,(by first|exact ur_|exact(by first|exact b36 _ G|exact .same G (P5 [] _).old |(rw[a2q dC];exact .vec G)|(rw[a2q fq,hNn];exact .vec G)))⟩,⟨O,(by first|exact ur_|exact(by first|exact b36 _ G|exact .same G (P5 [] _).old |(rw[a2q dC];exact .vec G)|(rw[a2q fq,hNn];exact .vec G)))⟩,⟨O,(by first|exact ur_|exact(by first|exact b36 _ G|exact .same G (P5 [] _).old |(rw[a2q dC];exact .vec G)|(rw[a2q fq,hNn];exact .vec G)))⟩,⟨O,(by first|exact ur_|exact(by first|exact b36 _ G|exact .same G (P5 [] _).old |(rw[a2q dC];exact .vec G)|(rw[a2q fq,hNn];exact .vec G)))⟩,⟨O,(by first|exact ur_|exact(by first|exact b36 _ G|exact .same G (P5 [] _).old |(rw[a2q dC];exact .vec G)|(rw[a2q fq,hNn];exact .vec G)))⟩,O⟩):=h
def q_1(h:p:=by exact⟨⟨O,(by first|exact ur_|exact(by first|exact .same G (show Old _ (CV.list [] false none)from P3 _ ([]:List Ky) false)|(rw[a2B aB];exact .vec G)))⟩,⟨O,(by first|exact ur_|exact(by first|exact .same G (show Old _ (CV.list [] false none)from P3 _ ([]:List Ky) false)|(rw[a2B aB];exact .vec G)))⟩,⟨O,(by first|exact ur_|exact(by first|exact .same G (show Old _ (CV.list [] false none)from P3 _ ([]:List Ky) false)|(rw[a2B aB];exact .vec G)))⟩,⟨O,(by first|exact ur_|exact(by first|exact .same G (show Old _ (CV.list [] false none)from P3 _ ([]:List Ky) false)|(rw[a2B aB];exact .vec G)))⟩,O⟩):=h
def q_2(h:p:=by exact⟨⟨x6,n3,a6,e6,b6⟩,S9 (k:=4) G G I (.val _),⟨by rw[aj];exact k1.bindX (λi hi=>by rw[H (by rw[bj];decide),bj];exact k3.bindX (λj hj=>a10 (by rw[hi,hj];exact k6)) k6.2) λh=>absurd G h,y3,w6,λh0=>by have:=z3 (k6.alive h0).1;have:=z1 G;dsimp only at h0⊢;omega,l6,u6⟩⟩):=h
def q_3(h:p:=by exact(a68 G (by first|exact a2U (by intro a;rfl) _|(intro r hr;simp at hr;done)|(intro r hr;simp at hr;subst hr;rfl)|(intro r hr;exact a2U (by intro a;rfl) _ r (a6B (a8G hr)))|(intro r hr;simp at hr;obtain⟨a,_,rfl⟩:=hr;rfl)))):=h
def q_4(h:p:=by exact⟨⟨O,(by first|exact ur_|exact exact .same G (P3 _ _ _))⟩,⟨O,(by first|exact ur_|exact exact .same G (P3 _ _ _))⟩,⟨O,(by first|exact ur_|exact exact .same G (P3 _ _ _))⟩,⟨O,(by first|exact ur_|exact exact .same G (P3 _ _ _))⟩,O⟩):=h
def q_5(h:p:=by rw[b0V,hx,W G];exact⟨(),.ret (.old (.tup λi c hi=>by rcases i with _|_|_|i<;>first|(injection hi with hi;subst hi;first|exact .val _|exact(j5 (cs:=[_,_,_,_]) ⟨.val _,.val _,.val _,.val _,O⟩).old)|cases hi)),O⟩):=h
def q_6(h:p:=by rw[b0V,hx,H I];exact⟨(),.ret (.old (.tup λi c hi=>by rcases i with _|_|_|i<;>first|(injection hi with hi;subst hi;first|exact .val _|exact(j5 (cs:=[_,_,_,_]) ⟨.val _,.val _,.val _,.val _,O⟩).old)|cases hi)),O⟩):=h
def q_7(h:p:=by exact⟨⟨O,(by first|exact ur_|exact a1g _ G)⟩,⟨O,(by first|exact ur_|exact a1g _ G)⟩,⟨O,(by first|exact ur_|exact a1g _ G)⟩,⟨O,(by first|exact ur_|exact a1g _ G)⟩,⟨O,(by first|exact ur_|exact a1g _ G)⟩,O⟩):=h
def q_8(h:p:=by first|exact a2U (by intro a;rfl) _|assumption|(intro r hr;exact a2U (by intro a;rfl) _ r (a6B (a8G hr)))|(intro r hr;simp at hr;obtain⟨a,_,rfl⟩:=hr;rfl)):=h
def q_9(h:p:=by exact(λhg=>A4 G hg hg G G a1C t_6 (by first|omega|(simp at hg;omega)) (j8 (f:=En.cells) (show([]:List En)[_]?=some (fiE L d.k x.2.pkg d.name) by simp at hg)) G)):=h
def e3t(h:p:=by rw[hr];exact⟨(),⟨[0,1],G,G,.ret (c8J ⟨.old (.val _),.old (.val _),.old (.val _),.old (.val _),a2G _ G,.old (.val _),O⟩),.inl G,.inr ⟨_,G,.same G (a1m _ _)⟩,O⟩,O⟩):=h
def e2k(h:p:=by exact(A6 (([[43],[45],[42],[47],[37],[60],[61,61]]:List D).map scv) G ⟨G,G,G,G,G,G,G,O⟩ t_2 t_0 t_4 G G G G G G G G G)):=h
def e15(h:p:=by exact(U2 (kc:=sv) (vc:=vcS) (l:=c.ms) (a:=x.pl) (c:=vcS s) b9Q G O O G G Tryz.runUnderlying86 a4J G G (show((glk c.ms x.pl).map vcS).getD _=vcS s by rw[ej];rfl))):=h
def e0W(h:p:=by exact(λhg=>A4 G hg hg G G t_5 t_3 (by first|omega|(simp at hg;omega)) (j8 (f:=Ky.cv) (show([]:List Ky)[_]?=some k by simp at hg)) G)):=h
def U0(h:p:=by exact⟨O,(by first|exact ur_|exact(by first|exact b36 _ G|exact .same G (P5 [] _).old |(rw[a2q dC];exact .vec G)|(rw[a2q fq,hNn];exact .vec G)))⟩):=h
def d9u(h:p:=by exact⟨⟨O,_,_,_,G,G,.inr ⟨_,b5G,a3L,nb G,G⟩⟩,⟨O,_,_,_,G,G,.inl ⟨a5v,G⟩⟩,⟨O,_,_,_,G,G,.inl ⟨c6N,G⟩⟩,O⟩):=h
def e1M(h:p:=by exact⟨do_,do_,do_,by dsimp only;simp only[n_9];omega,by dsimp only;simp only[n_9,J5,a1D];omega,do_,do_⟩):=h
def e3A(h:p:=by exact(c7 G (z8 #[(0,1),(1,1),(2,1),(3,1),(4,1)] G ⟨O,O,O,O,O⟩ c5s Tryz.zeroValue89 G ⟨_,G⟩ (λw=>by kernel_rfl) G G))):=h
def b50(h:p:=by exact⟨⟨O,(by conv=>lhs;whnf)⟩,⟨O,_,_,_,G,G,.inr ⟨_,b1e,t_6,nb G,G⟩⟩,⟨O,(by conv=>lhs;whnf)⟩,⟨O,(by conv=>lhs;whnf)⟩,O⟩):=h
def e1h(h:p:=by exact⟨⟨O,ur_⟩,⟨O,ur_⟩,⟨O,ur_⟩,⟨O,(by first|exact ur_|exact .same (n_7 (λz:Int=>iv z) (by show _=((P2 s i1:Nat):Int);omega)) uo_)⟩,O⟩):=h
def e2q(h:p:=by exact(c5 G Tryz.call109 ⟨O,O,O,O⟩ (c5C (w:=0) (q1:=1) (q2:=2) (t:=3) ⟨G,G,G,G,a2c ⟨I,I,I,I,I,I⟩⟩ s y J) G)):=h
def e1R(h:p:=by exact(z8 #[(0,1),(1,1),(2,1),(3,1),(4,1),(5,1)] G ⟨O,O,O,O⟩ b0K a0z G ⟨_,G⟩ (λw=>by kernel_rfl) G G)):=h
def e06(h:p:=by exact(c7 G (z8 #[(0,1),(1,1),(2,1),(3,1),(4,1),(5,1)] G O b0K a0z G ⟨_,G⟩ (λw=>by kernel_rfl) G G))):=h
def c5a(h:p:=by exact(z8 #[(0,1),(1,1),(2,1),(3,1),(4,1)] G ⟨G,O,O,O⟩ b2f b4S G ⟨_,G⟩ (λw=>by kernel_rfl) G G)):=h
def e2U(h:p:=by rw[a8o,List.map_replicate];unfold G9;rw[a0V (by simp;omega),a0h,P4,<- List.map_take];rfl):=h
def e1z(h:p:=by exact(λhg=>Z0 G hg hg G G a1C t_6 G (by first|omega|(simp at hg;omega)) (by first|omega|(simp at hg;omega)))):=h
def e09(h:p:=by exact(λhg=>Z0 G hg hg G G t_5 t_3 G (by first|omega|(simp at hg;omega)) (by first|omega|(simp at hg;omega)))):=h
def b0l(h:p:=by exact(z8 #[(0,1),(1,1),(2,1),(3,1),(4,1)] G ⟨G,O,O⟩ b2f b4S G ⟨_,G⟩ (λw=>by kernel_rfl) G G)):=h
def e3n(h:p:=by exact(z8 #[(0,1),(1,1),(2,1),(3,1),(4,1)] G ⟨O,O,O⟩ b2f b4S G ⟨_,G⟩ (λw=>by kernel_rfl) G G)):=h
def e1r(h:p:=by exact(a7f (vc:=vcE) (l:=me) (a:=(A9 x.k x.p x.o)) d5x G O O G G d1q a0z G G (c36 En.z G _))):=h
def d5H(h:p:=by exact(z8 #[(0,1),(1,1),(2,1),(3,1)] G ⟨G,O,O,O⟩ a8J a2M G ⟨_,G⟩ (λw=>by kernel_rfl) G G)):=h
def e1O(h:p:=by exact(z8 #[(0,1),(1,1),(2,1),(3,1),(4,1),(5,1)] G O b0K a0z G ⟨_,G⟩ (λw=>by kernel_rfl) G G)):=h
def e2z(h:p:=by exact(λhg=>A4 G hg hg G G a8m a4c (by first|omega|(simp at hg;omega)) (by rw[hi];exact j8 eG) G)):=h
def c0T(h:p:=by exact(z8 #[(0,1),(1,1),(2,1),(3,1)] G ⟨G,O,O⟩ a8J a2M G ⟨_,G⟩ (λw=>by kernel_rfl) G G)):=h
def e1W(h:p:=by exact(a7f (vc:=vcE) (l:=me) (a:=(A9 k p o)) d5x G O O G G d1q a0z G G (c36 En.z G _))):=h
def e3p(h:p:=by exact(λhg=>J2 G hg hg G G t_8 (by first|omega|(simp at hg;omega)) (by rw[a8q];exact hc (sm_ hg)))):=h
def e1q(h:p:=by exact(A6 [En.cells (fiE L d.k x.2.pkg d.name)] G ⟨O,O⟩ a1C t_6 a0z G G G G G G G G G)):=h
def d9w(h:p:=by exact(I5 G O G b1e t_6 (by first|exact K6 hq _|exact a00 _ _|exact bS|exact aK|exact hq3 _) (nb G))):=h
def e3z(h:p:=by exact(λhg=>A4 G hg hg G G b0p b09 (by first|omega|(simp at hg;omega)) (j8 (hp (sm_ hg)).1) G)):=h
def b1W(h:p:=by exact⟨⟨O,_,_,_,G,G,.inr ⟨_,b8c,a3F,nb G,G⟩⟩,⟨O,(by conv=>lhs;whnf)⟩,⟨O,(by conv=>lhs;whnf)⟩,O⟩):=h
def e3l(h:p:=by exact(z8 #[(0,1),(1,1),(2,1)] G ⟨O,O,O,O⟩ d0p d1i G ⟨_,G⟩ (λw=>by kernel_rfl) G G)):=h
def e1o(h:p:=by exact(A6 [Src.cv ((a4U l y.p).getD Src.z)] G ⟨O,O⟩ b6b a3L a4J G G G G G G G G G)):=h
def d5k(h:p:=by exact(z8 #[(0,1),(1,1),(2,1)] G ⟨G,O,O,O⟩ b9Z a0A G ⟨_,G⟩ (λw=>by kernel_rfl) G G)):=h
def d4C(h:p:=by exact(c7 G (z8 #[(0,1),(1,1)] G ⟨O,O,O⟩ b6g a9H G ⟨_,G⟩ (λw=>by kernel_rfl) G G))):=h
def c5G(h:p:=by exact⟨⟨O,_,_,_,G,G,.inr ⟨_,b1e,t_6,nb G,G⟩⟩,⟨O,(by conv=>lhs;whnf)⟩,⟨O,(by conv=>lhs;whnf)⟩,O⟩):=h
def d4q(h:p:=by exact⟨⟨O,_,_,_,G,G,.inr ⟨_,b5G,a3L,nb G,G⟩⟩,⟨O,(by conv=>lhs;whnf)⟩,⟨O,(by conv=>lhs;whnf)⟩,O⟩):=h
def d9Q(h:p:=by exact(c7 G (z8 #[(0,1),(1,1),(2,1)] G O a8u a4J G ⟨_,G⟩ (λw=>by kernel_rfl) G G))):=h
def c6F(h:p:=by exact(z8 #[(0,1),(1,1),(2,1)] G ⟨G,O,O⟩ b9Z a0A G ⟨_,G⟩ (λw=>by kernel_rfl) G G)):=h
def e2b(h:p:=by exact(z8 #[(0,1),(1,1),(2,1)] G ⟨G,O,O⟩ Tryz.runUnderlying57 Tryz.zeroValue57 G ⟨_,G⟩ (λw=>by kernel_rfl) G G)):=h
def d4P(h:p:=by exact(z8 #[(0,1),(1,1),(2,1),(3,1)] G O a8J a2M G ⟨_,G⟩ (λw=>by kernel_rfl) G G)):=h
def e0E(h:p:=by exact(λhg=>J2 G hg hg G G t_8 (by first|omega|(simp at hg;omega)) (by rw[a8q];exact hb))):=h
def e1G(h:p:=by exact(U2 (vc:=kv) (l:=m) (a:=(b.toNat :Int)) d4d G O O G G c21 t_9 G G (b4q _ _))):=h
def e2e(h:p:=by exact(λhg=>J2 G hg G G G t_8 (by first|omega|(simp at hg;omega)) (b:=s.headD 0) (d0v (sm_ hg)))):=h
def e0Y(h:p:=by exact(λhg=>J2 G hg hg G G t_8 (by first|omega|(simp at hg;omega)) (b:=s[e]?.getD 0) (c0D (sm_ hg)))):=h
def e2C(h:p:=by exact(A6 (a1G.map scv) G ⟨G,G,G,O⟩ t_2 t_0 t_4 G G G G G G G G G)):=h
def e1B(h:p:=by exact(A6 [Ky.cv (⟨3,s,[]⟩:Ky)] G ⟨O,O⟩ t_5 t_3 a0A G G G G G G G G G)):=h
def d3Z(h:p:=by exact .ret (.tups ⟨.old (c:=.agg ((⟨[],[],[]⟩:Src)).cells) (j5 (Src.pure _)).old,.old (.val _),.old (.val _),O⟩)):=h
def e0Z(h:p:=by exact(c7 G (A6 [Ex.cv x] G ⟨O,O⟩ b6d a9Q b4S G G G G G G G G G))):=h
def e3u(h:p:=by exact(c7 G (A6 [De.cv d] G ⟨O,O⟩ a8m a4c b5J G G G G G G G G G))):=h
def e2D(h:p:=by exact(z8 #[(0,1),(1,1)] G ⟨G,G,O⟩ c6O b2r G ⟨_,G⟩ (λw=>by kernel_rfl) G G)):=h
def e2A(h:p:=by exact(z8 #[(0,1),(1,1)] G ⟨O,O,O⟩ c6O b2r G ⟨_,G⟩ (λw=>by kernel_rfl) G G)):=h
def e2Y(h:p:=by exact(A6 ([x1,x3].map icv) G ⟨O,O,O⟩ t_7 t_1 t_9 G G G G G G G G G)):=h
def e3D(h:p:=by exact(A6 ([x,x3].map icv) G ⟨O,O,O⟩ t_7 t_1 t_9 G G G G G G G G G)):=h
def e0O(h:p:=by exact(c7 G (A6 [scv y.p] G ⟨O,O⟩ t_2 t_0 t_4 G G G G G G G G G))):=h
def e3q(h:p:=by exact(l9 G O G Tryz.isAgg140 (by first|exact K6 hq _|exact a00 _ _|exact bS|exact aK|exact hq3 _) G)):=h
def e2M(h:p:=by exact(z8 #[(0,1),(1,1),(2,1)] G O a8u a4J G ⟨_,G⟩ (λw=>by kernel_rfl) G G)):=h
def e1u(h:p:=by exact(z8 #[(0,1),(1,1),(2,1)] G O b9Z a0A G ⟨_,G⟩ (λw=>by kernel_rfl) G G)):=h
def e29(h:p:=by exact(c7 G (A6 [icv x3] G ⟨O,O⟩ t_7 t_1 t_9 G G G G G G G G G))):=h
def e2W(h:p:=by exact(A4 G O G G G t_7 t_1 J (j8 (show x.args[1]?=some a1 by rw[ee];rfl)) G)):=h
def e1K(h:p:=by exact(A4 G O G G G t_7 t_1 J (j8 (show x.args[0]?=some a0 by rw[ee];rfl)) G)):=h
def d5h(h:p:=by first|exact W9 _ _|exact R8 _ _ _|exact U8 _ _ _|exact B9 _ _ _|exact a0O _ _ _):=h
def e1f(h:p:=by exact(A6 [Ky.cv zK] G ⟨O,O⟩ t_5 t_3 a0A G G G G G G G G G)):=h
def e1v(h:p:=by exact(λhg=>l9 G hg G a2j (by first|exact a00 _ _|exact K6 hq _|exact K6 hs _) G)):=h
def e2r(h:p:=by exact(λhg=>a9n G hg G G G (by first|omega|(simp at hg;omega)) (by first|omega|(simp at hg;omega)))):=h
def d8M(h:p:=by exact(A6 [Fi.cv y] G ⟨O,O⟩ b0p b09 a9H G G G G G G G G G)):=h
def e2o(h:p:=by exact(A6 [Fi.cv f] G ⟨O,O⟩ b0p b09 a9H G G G G G G G G G)):=h
def e00(h:p:=by exact(λhg=>c3G G hg G G G (by first|omega|(simp at hg;omega)) (by first|omega|(simp at hg;omega)))):=h
def e1b(h:p:=by exact⟨by show List.length _ <= _;simp only[n_9,J5,a1D];omega,G⟩):=h
def e1c(h:p:=by exact .inl ⟨n+1,a0P G (.tup λi c h=>by simp at h),by rw[pIs,W hb],hW n hn (a6o hb I)⟩):=h
def e2x(h:p:=by exact(c5 G a6S ⟨O,O⟩ (a0k hT hm (q:=0) (s:=kf ph) (by cases ph<;>exact⟨G,G,I⟩)) G)):=h
def d4j(h:p:=by exact(A6 [scv s6] G ⟨O,O⟩ t_2 t_0 t_4 G G G G G G G G G)):=h
def e1Y(h:p:=by first|exact λ_=>Env.vb_ok G|exact λ_=>trivial|exact λh=>absurd h I|exact λh=>h):=h
def d4G(h:p:=by exact⟨O,(by first|exact ur_|exact .same G (.list (λi j r c h h'=>by simp at h) (λk h=>by cases h)))⟩):=h
def d4w(h:p:=by exact⟨⟨O,_,_,_,G,G,.inr ⟨_,b5G,a3L,nb G,G⟩⟩,⟨O,(by conv=>lhs;whnf)⟩,O⟩):=h
def e1p(h:p:=by exact(z8 #[(0,1)] G O b60 c2m G ⟨_,G⟩ (λw=>by kernel_rfl) G G)):=h
def e2h(h:p:=by exact⟨⟨O,(by first|exact ur_|exact a1g _ G)⟩,⟨O,(by first|exact ur_|exact a1g _ G)⟩,O⟩):=h
def e1g(h:p:=by exact(l9 G O G a5v (by first|exact a00 _ _|exact K6 hq _|exact K6 hs _) G)):=h
def e23(h:p:=by exact(λhg=>a08 G hg G b1e t_6 G (a6y (j8 (hy (sm_ hg))) J) (nb G))):=h
def e1Q(h:p:=by exact(λhg=>a08 G hg G b2g t_3 G (a6y (j8 (hb (sm_ hg))) J) (nb G))):=h
def e08(h:p:=by exact(λhg=>J2 G hg hg G G t_8 (by first|omega|(simp at hg;omega)) hb)):=h
def b7C(h:p:=by show List.length _ <= _;simp only[n_9,J5,a1D];omega):=h
def d4I(h:p:=by exact c7 G (Z3 G O G t_5 (by first|exact a0n _ _|rfl) G)):=h
def e1T(h:p:=by cases ph;exact S9 (k:=2) G G I (.val _);exact S9 (k:=3) G G I (.val _)):=h
def e2I(h:p:=by exact⟨⟨x,m,a2,e,b2⟩,a5f he G (.val _),.dead (λ_=>hN he) he hm bD ⟨bP,aK⟩⟩):=h
def e3C(h:p:=by exact .inl ⟨(i,m,b2),Y7 G G (nb G) (.val _),by rw[aj];exact g1,do_,g3,g4⟩):=h
def e2K(h:p:=by exact(λhg=>c5 G a6S ⟨hg,O⟩ (a0k hT hm (q:=2) (s:=0) ⟨G,G,I⟩) G)):=h
def d3m(h:p:=by first|omega|(simp at hk hg;omega)|(change (_:Bool)=_ at hk;simp at hk hg;omega)):=h
def d3s(h:p:=by have hb:Tryz.t205.bytes =40:=G;rw[hb];first|omega|(simp;done)|(simp;omega)):=h
def c52(h:p:=by have hb:Tryz.t49.bytes =40:=G;rw[hb];first|omega|(simp;done)|(simp;omega)):=h
def c9j(h:p:=by have hb:Tryz.t73.bytes =32:=G;rw[hb];first|omega|(simp;done)|(simp;omega)):=h
def d1l(h:p:=by have hb:Tryz.t40.bytes =32:=G;rw[hb];first|omega|(simp;done)|(simp;omega)):=h
def X6(h:p:=by exact⟨O,_,_,G,by first|omega|(simp at hg;omega),by first|omega|(simp at hg;omega)⟩):=h
def a2h(h:p:=by have hb:Tryz.t9.bytes =16:=G;rw[hb];first|omega|(simp;done)|(simp;omega)):=h
def d7D(h:p:=by exact(c5 G c4D ⟨O,O⟩ (a3m hT hn ⟨G,G,n_5 G⟩) G)):=h
def b3l(h:p:=by exact⟨⟨O,(by conv=>lhs;whnf)⟩,⟨O,(by conv=>lhs;whnf)⟩,⟨O,(by conv=>lhs;whnf)⟩,O⟩):=h
def c2K(h:p:=by have hb:Tryz.t3.bytes =8:=G;rw[hb];first|omega|(simp;done)|(simp;omega)):=h
def c7B(h:p:=by exact(A4 G O O G G b6b a3L J (j8 (d4b hb)) G)):=h
def c7R(h:p:=by exact(A4 G O O G G t_2 t_0 J (j8 (d3I hb)) G)):=h
def a5V(h:p:=by exact⟨O,(by first|exact ur_|exact .same G (I6 (f:=nmC) a2T [] false).old)⟩):=h
def b8Y(h:p:=by exact(J2 G O O G G t_8 J (by rw[a8q];exact hb))):=h
def c6o(h:p:=by first|exact .inl ⟨G,G,G⟩|exact .inr ⟨b2v _ _,_,G,G⟩):=h
def d0j(h:p:=by have hb:Tryz.t49.bytes =40:=G;rw[hb];simp only[N0];omega):=h
def c2n(h:p:=by exact c7 G (i7 G O G b1X G b7b I)):=h
def d7Y(h:p:=by exact c7 G (i7 G O G b2f G c40 I)):=h
def e0R(h:p:=by exact c7 G (i7 G O G b1X G a7w I)):=h
def e19(h:p:=by exact(A4 G O O G G b0p b09 J (j8 hb) G)):=h
def c26(h:p:=by exact(A4 G O O G G t_5 t_3 J (j8 hb) G)):=h
def d8p(h:p:=by exact c7 G (i7 G O G a8u G b8s I)):=h
def d5Z(h:p:=by exact c7 G (i7 G O G b2f G t_0 I)):=h
def c6P(h:p:=by exact(A4 G O O G G c54 c4J J (j8 hb) G)):=h
def d1d(h:p:=by exact c7 G (i7 G O G b60 G b6N I)):=h
def a4C(h:p:=by exact(A4 G O O G G t_2 t_0 J (j8 hb) G)):=h
def a7J(h:p:=by exact c7 G (i7 G O G b6g G t_0 I)):=h
def e2t(h:p:=by exact .inl ⟨(i6,n5,b6),Y7 G G (nb G) (.val _),aj,do_,fX,y6⟩):=h
def b3C(h:p:=by exact c7 G (I5 G O G b8c a3F G (nb G))):=h
def b0I(h:p:=by exact(Z3 G O G b6d (by first|exact a0n _ _|rfl) G)):=h
def c7Z(h:p:=by exact(Z3 G O G b2a (by first|exact a0n _ _|rfl) G)):=h
def P0(h:p:=by exact(Z3 G O G t_2 (by first|exact a0n _ _|rfl) G)):=h
def a1y(h:p:=by exact c7 G (I5 G O G b83 a7w G (nb G))):=h
def a2E(h:p:=by exact(Z3 G O G b0p (by first|exact a0n _ _|rfl) G)):=h
def a7K(h:p:=by exact(Z3 G O G t_5 (by first|exact a0n _ _|rfl) G)):=h
def a7g(h:p:=by exact(Z3 G O G t_7 (by first|exact a0n _ _|rfl) G)):=h
def b11(h:p:=by exact(Z3 G O G a8m (by first|exact a0n _ _|rfl) G)):=h
def c1G(h:p:=by exact c7 G (I5 G O G c3r b7b G (nb G))):=h
def c9M(h:p:=by exact(Z3 G O G c54 (by first|exact a0n _ _|rfl) G)):=h
def c1S(h:p:=by exact(λhg=>c5 G a6S ⟨hg,O⟩ (a0k hT hn ⟨G,G,I⟩) G)):=h
def c4a(h:p:=by exact(Z3 G O G a1C (by first|exact a0n _ _|rfl) G)):=h
def c7G(h:p:=by exact c7 G (I5 G O G b5G a3L G (nb G))):=h
def b3S(h:p:=by exact⟨O,_,_,_,G,G,.inr ⟨_,b8c,a3F,nb G,G⟩⟩):=h
def c8b(h:p:=by exact⟨O,_,_,_,G,G,.inr ⟨_,c25,a4c,nb G,G⟩⟩):=h
def a86(h:p:=by exact(Z0 G O O G G t_5 t_3 G J J)):=h
def c6K(h:p:=by exact(c7 G (i7 G O G b1X G b7b I))):=h
def d6y(h:p:=by exact(c7 G (i7 G O G b2f G c40 I))):=h
def d0d(h:p:=by exact(c7 G (i7 G O G b1X G a7w I))):=h
def b78(h:p:=by exact⟨O,_,_,_,G,G,.inr ⟨_,b1e,t_6,nb G,G⟩⟩):=h
def a3U(h:p:=by exact⟨O,_,_,_,G,G,.inr ⟨_,b83,a7w,nb G,G⟩⟩):=h
def a9f(h:p:=by exact(Z0 G O O G G t_2 t_0 G J J)):=h
def c1F(h:p:=by exact(c7 G (i7 G O G a8u G b8s I))):=h
def c3d(h:p:=by exact(c7 G (i7 G O G b2f G t_0 I))):=h
def d7q(h:p:=by exact⟨O,_,_,_,G,G,.inr ⟨_,Tryz.isAgg59,b6Q,nb G,G⟩⟩):=h
def e1a(h:p:=by exact c7 G (c5 G Tryz.call50 ⟨O,O,O,O⟩ (hDI _) G)):=h
def d6M(h:p:=by exact(c7 G (i7 G O G d2G G c7E I))):=h
def d1E(h:p:=by exact(c7 G (i7 G O G b7k G b9s I))):=h
def e04(h:p:=by exact(c7 G (i7 G O G b6g G t_0 I))):=h
def c2Q(h:p:=by exact(c7 G (a8p G O G G G (by first|omega|(simp;omega))))):=h
def c10(h:p:=by exact(λhg=>a5i G hg G a8J G a5v G)):=h
def e27(h:p:=by exact(λhg=>a0U G hg G b6g G t_0 I)):=h
def c7j(h:p:=by exact(c7 G (i7 G O G b0K G t_0 I))):=h
def c7h(h:p:=by exact(c7 G (i7 G O G b0K G t_1 I))):=h
def d1a(h:p:=by exact(λhg=>a5i G hg G a8J G a2j G)):=h
def d5P(h:p:=by exact(c7 G (a8p G O O G G (by first|omega|(simp;omega))))):=h
def b6V(h:p:=by exact(λhg=>i7 G O G a8J G t_0 I)):=h
def b8F(h:p:=by exact⟨O,(by first|exact ur_|exact .same G (a0O _ ([]:D) _))⟩):=h
def e2i(h:p:=by exact(λhg=>i7 G O G Tryz.runUnderlying25 G c3o I)):=h
def c22(h:p:=by exact(λhg=>i7 G O G b2k G t_0 I)):=h
def e1e(h:p:=by exact(λhg=>i7 G O G a8u G b8s I)):=h
def c6w(h:p:=by exact(λhg=>i7 G O G a8J G t_1 I)):=h
def c1V(h:p:=by exact(λhg=>i7 G O G b0K G t_1 I)):=h
def d0m(h:p:=by exact(λhg=>i7 G O G b6g G t_0 I)):=h
def b9i(h:p:=by exact(c5 G c4D ⟨O,O⟩ (a3m hT hn ⟨G,G,I⟩) G)):=h
def e1w(h:p:=by exact(λhg=>i7 G O G b9Z G t_0 I)):=h
def e1C(h:p:=by exact(λhg=>i7 G O G b8J G t_1 I)):=h
def a7P(h:p:=by exact(c7 G (I5 G O G b83 a7w G (nb G)))):=h
def a9q(h:p:=by injection h1 with h1;injection h2 with h2;exact h1.symm.trans h2):=h
def d2b(h:p:=by exact(c7 G (I5 G O G c3r b7b G (nb G)))):=h
def b6P(h:p:=by exact(c7 G (I5 G O G b5G a3L G (nb G)))):=h
def b6U(h:p:=by exact(c7 G (I5 G O G b1e t_6 G (nb G)))):=h
def b6t(h:p:=by exact(c5 G a6S ⟨O,O⟩ (a0k hT hn ⟨G,G,I⟩) G)):=h
def c8p(h:p:=by exact(b31 G O G hg ⟨O,O⟩ (Jg y (n_3 hb)) G)):=h
def b7A(h:p:=by exact(λhg=>a6z G hg G (λhp=>⟨hg,hp⟩) (λ_=>rfl))):=h
def d1h(h:p:=by exact(λhg=>I5 G O G b1e t_6 G (nb G))):=h
def c6x(h:p:=by exact(λhg=>I5 G O G b2g t_3 G (nb G))):=h
def d8e(h:p:=by exact(λhg=>I5 G O G d2I c4q G (nb G))):=h
def c6G(h:p:=by exact(c7 G (c5 G Tryz.call33 trivial (a54 _) G))):=h
def c87(h:p:=by exact(c7 G (c5 G Tryz.call50 ⟨O,O,O,O⟩ (hDI _) G))):=h
def c2C(h:p:=by exact(i7 G O G b4B G b2D I)):=h
def c3u(h:p:=by exact(i7 G O G b2k G b2D I)):=h
def a34(h:p:=by exact(a5i G O G a8J G a5v G)):=h
def d7u(h:p:=by exact(i7 G O G b2f G c40 I)):=h
def b9c(h:p:=by exact(i7 G O G b2k G a2Q I)):=h
def a9o(h:p:=by exact⟨⟨O,(by conv=>lhs;whnf)⟩,⟨O,(by conv=>lhs;whnf)⟩,O⟩):=h
def b70(h:p:=by exact(i7 G O G c5q G b9s I)):=h
def c1M(h:p:=by exact(i7 G O G c5q G c2w I)):=h
def b3B(h:p:=by exact(i7 G O G b1X G b6Q I)):=h
def b6A(h:p:=by exact(i7 G O G b4B G b4Z I)):=h
def b8E(h:p:=by exact(i7 G O G c5q G Tryz.sizeOf84 I)):=h
def e2O(h:p:=by exact(i7 G O G b1X G b4Z I)):=h
def c2H(h:p:=by exact(a5i G O G a8J G a2j G)):=h
def d1u(h:p:=by exact(i7 G O G c4Y G b4Z I)):=h
def c2L(h:p:=by exact(i7 G O G a8u G b8s I)):=h
def b53(h:p:=by exact(i7 G O G b2f G t_0 I)):=h
def c8X(h:p:=by exact(i7 G O G b2f G t_1 I)):=h
def b3a(h:p:=by exact(i7 G O G c5s G Tryz.sizeOf87 I)):=h
def c2g(h:p:=by exact(i7 G O G b2k G t_1 I)):=h
def b8w(h:p:=by exact(i7 G O G d2G G a2Q I)):=h
def b8Z(h:p:=by exact(i7 G O G a8J G t_0 I)):=h
def b7u(h:p:=by exact(i7 G O G c4K G t_1 I)):=h
def b79(h:p:=by exact(i7 G O G b1X G t_1 I)):=h
def c1U(h:p:=by exact(i7 G O G d1C G t_0 I)):=h
def d0c(h:p:=by exact(i7 G O G c5s G Tryz.sizeOf86 I)):=h
def c9X(h:p:=by exact(i7 G O G b4B G t_1 I)):=h
def c6D(h:p:=by exact(i7 G O G a8J G t_1 I)):=h
def d2u(h:p:=by exact(i7 G O G c5q G b4V I)):=h
def a5Y(h:p:=by exact(a8p G O G G G (by first|omega|(simp;omega)))):=h
def b1D(h:p:=by exact(a8p G G O G G (by first|omega|(simp;omega)))):=h
def a85(h:p:=by exact(i7 G O G b0K G t_1 I)):=h
def a82(h:p:=by exact(x9 ⟨.val _,.val _,.val _,.val _,.val _,.val _,O⟩)):=h
def e21(h:p:=by exact(i7 G O G c6O G t_0 I)):=h
def c31(h:p:=by exact(i7 G O G b0K G t_0 I)):=h
def b3r(h:p:=by exact(i7 G O G c6v G t_1 I)):=h
def b3n(h:p:=by exact c7 G (l9 G O G c6N G G)):=h
def c2D(h:p:=by exact(c5 G c8j ⟨O,O⟩ (a6b fl nn hl _) G)):=h
def b7s(h:p:=by cases ph<;>exact⟨G,G,n_5 G⟩):=h
def c1L(h:p:=by exact(i7 G O G b9Z G t_0 I)):=h
def d6C(h:p:=by exact c7 G (l9 G O G c3t G G)):=h
def c3j(h:p:=by exact c7 G (l9 G O G d0L G G)):=h
def d7W(h:p:=by exact c7 G (l9 G O G c3D G G)):=h
def c8I(h:p:=by exact(i7 G O G b7k G t_1 I)):=h
def d2g(h:p:=by exact c7 G (l9 G O G d0X G G)):=h
def a9a(h:p:=by exact(a8p G O O G G (by first|omega|(simp;omega)))):=h
def b6D(h:p:=by exact(I5 G O G b8c a3F G (nb G))):=h
def a27(h:p:=by exact c7 G (l9 G O G a2j G G)):=h
def a6K(h:p:=by exact(x9 ⟨.val _,.val _,B9 _ _ _,N4 _ _ _,O⟩)):=h
def b3t(h:p:=by exact(I5 G O G c6g c8C G (nb G))):=h
def b5T(h:p:=by exact(I5 G O G c25 a4c G (nb G))):=h
def b7V(h:p:=by exact c7 G (l9 G O G a5v G G)):=h
def c3R(h:p:=by exact(I5 G O G c6j a9Q G (nb G))):=h
def c2h(h:p:=by exact(c5 G d1S ⟨O,O⟩ (b7r m J _) G)):=h
def C3(h:p:=by exact c7 G (a0Q G O (by conv=>lhs;whnf))):=h
def a4v(h:p:=by exact(I5 G O G b83 a7w G (nb G))):=h
def c1W(h:p:=by exact(I5 G O G b5G a3L G (nb G))):=h
def a3h(h:p:=by exact(I5 G O G b1e t_6 G (nb G))):=h
def b6R(h:p:=by exact(I5 G O G d2I c4q G (nb G))):=h
def d2l(h:p:=by exact(I5 G O G Tryz.isAgg40 a9y G (nb G))):=h
def c15(h:p:=by first|exact G|exact d5q (Env.vb_ok G) G):=h
def c8U(h:p:=by exact(c5 G c9f ⟨O,O⟩ (a6k l nn _) G)):=h
def c3K(h:p:=by exact(c5 G c3h ⟨O,O⟩ (a3p x.a _) G)):=h
def c6s(h:p:=by exact⟨by rw[hr,aL,b5P];rfl,G⟩):=h
def d6n(h:p:=by exact(c5 G Tryz.call59 trivial (b10 _) G)):=h
def b6v(h:p:=by exact(J2 G O O G G t_8 J hb)):=h
def c3z(h:p:=by exact(x9 ⟨.val _,B9 _ [] _,M4 _ [] _,O⟩)):=h
def Q8(h:p:=by exact(a6z G O G (λhp=>hp) (λ_=>rfl))):=h
def a5R(h:p:=by exact(x9 ⟨.val _,B9 _ _ _,M4 _ _ _,O⟩)):=h
def c8c(h:p:=by exact(c7 G (a1T G G (by conv=>lhs;whnf)))):=h
def b7j(h:p:=by exact(c7 G (l9 G O G d0L G G))):=h
def c8Z(h:p:=by exact(c7 G (l9 G O G c3t G G))):=h
def c8L(h:p:=by exact(c7 G (l9 G O G b9G G G))):=h
def c8n(h:p:=by exact(c7 G (l9 G O G c6N G G))):=h
def c7W(h:p:=by exact(c7 G (l9 G O G c7i G G))):=h
def S4(h:p:=by exact(a75 G O G (λhp=>hp) (λ_=>rfl))):=h
def b1R(h:p:=by exact(c7 G (a1T G O (by conv=>lhs;whnf)))):=h
def a88(h:p:=by exact(c7 G (l9 G O G a2j G G))):=h
def b2W(h:p:=by exact(λhg=>a1r G hg G G G (a4O _ _))):=h
def b7Z(h:p:=by exact(c7 G (l9 G O G a5v G G))):=h
def c34(h:p:=by exact(c5 G Tryz.call60 trivial (c0U _) G)):=h
def b3M(h:p:=by exact(λhg=>a1r G hg hg G G (a4O _ _))):=h
def b8S(h:p:=by exact(a0R G O G t_5 G G)):=h
def e2E(h:p:=by exact(λhg=>l9 G hg G Tryz.isAgg23 G G)):=h
def O0(h:p:=by exact(c7 G (a0Q G O (by conv=>lhs;whnf)))):=h
def a29(h:p:=by exact(λhg=>l9 G hg G a2j G G)):=h
def a7N(h:p:=by exact(λhg=>l9 G hg G a5v G G)):=h
def d6D(h:p:=by rw[hr,a0V (sm_ h2)];rfl):=h
def a1w(h:p:=by first|omega|(simp;done)|(simp;omega)):=h
def c30(h:p:=by exact(λhg=>c0Z G hg G t_8)):=h
def b75(h:p:=by first|exact .inr ⟨_,G⟩|exact .inl G):=h
def F9(h:p:=by exact(λhg=>a0Q G O (by conv=>lhs;whnf))):=h
def b1b(h:p:=by exact(λhg=>a0Q G hg (by conv=>lhs;whnf))):=h
def d6Z(h:p:=by exact(λhg=>Z1 G hg G a2j G)):=h
def Q7(h:p:=by exact c7 G (a28 G O G G)):=h
def J9(h:p:=by simp[ho,Op.operands,Call.operands]):=h
def O5(h:p:=by exact(a1r G O G G G (a4O _ _))):=h
def a9v(h:p:=by exact(x9 ⟨a0g _ ([]:List Fi) _,O⟩)):=h
def b3D(h:p:=by exact(l9 G O G Tryz.isAgg102 G G)):=h
def E9(h:p:=by first|omega|(simp;omega)|simp):=h
def b01(h:p:=by exact(a1T G G (by conv=>lhs;whnf))):=h
def d0x(h:p:=by exact(l9 G O G c6N G G)):=h
def a5Q(h:p:=by exact(a1r G O O G G (a4O _ _))):=h
def c12(h:p:=by exact(l9 G O G b9G G G)):=h
def c2o(h:p:=by exact(l9 G O G d0L G G)):=h
def c3E(h:p:=by exact(l9 G O G c3D G G)):=h
def c2T(h:p:=by exact(l9 G O G c3t G G)):=h
def b0h(h:p:=by exact(a1r G O O G G (a7p _ _))):=h
def c17(h:p:=by exact(l9 G O G c7i G G)):=h
def b23(h:p:=by exact(l9 G O G Tryz.isAgg87 G G)):=h
def e2H(h:p:=by exact(a1r G O O G G (b66 _ _))):=h
def b8m(h:p:=by exact(l9 G O G Tryz.isAgg84 G G)):=h
def a07(h:p:=by exact(a1T G O (by conv=>lhs;whnf))):=h
def W7(h:p:=by exact(l9 G O G a2j G G)):=h
def a4F(h:p:=by exact(λhg=>a0e G hg G G G G)):=h
def c2W(h:p:=by first|omega|(simp at hg;omega)):=h
def a0F(h:p:=by exact(l9 G O G a5v G G)):=h
def U9(h:p:=by exact(c0Z G O G t_8)):=h
def a1x(h:p:=by cases ph<;>exact⟨G,G,I⟩):=h
def a3q(h:p:=by exact c7 G (b0x G O G)):=h
def e2Q(h:p:=by exact(a0Q G G (by conv=>lhs;whnf))):=h
def a8R(h:p:=by exact(λhg=>a0e G hg hg G G G)):=h
def b5L(h:p:=by exact(l9 G O G a5v hk G)):=h
def A2(h:p:=by exact(a0Q G O (by conv=>lhs;whnf))):=h
def a7d(h:p:=by exact(c7 G (a28 G O G G))):=h
def b8i(h:p:=by exact(Z1 G O G a5v G)):=h
def b0F(h:p:=by exact(Z1 G O G a2j G)):=h
def c2i(h:p:=by rw[h1];exact b2z):=h
def a7l(h:p:=by first|exact a0n _ _|rfl):=h
def b8k(h:p:=by unfold maxLen;simp only;omega):=h
def o3(h:p:=by exact(c3G G O G G G J J)):=h
def a0D(h:p:=by exact(a9n G O G G G J J)):=h
def a8O(h:p:=by exact(c3G G O O G G J J)):=h
def b8B(h:p:=by rw[Q5 gH dT];decide):=h
def b8O(h:p:=by rw[b1U];omega):=h
def Z5(h:p:=by exact(a0e G O G G G G)):=h
def a1e(h:p:=by exact(c7 G (b0x G O G))):=h
def a7i(h:p:=by simp[A5.add,<- hr.len]):=h
def b1l(h:p:=by exact(x9 ⟨.val _,.val _,O⟩)):=h
def b6z(h:p:=by rw[a8o];rfl):=h
def b16(h:p:=by exact(a0e G O O G G G)):=h
def a0H(h:p:=by exact(x9 ⟨a0g _ _ _,O⟩)):=h
def a3Y(h:p:=by exact(λhg=>b1Z G hg G)):=h
def r7(h:p:=by simp[ho,Op.operands]):=h
def a8Q(h:p:=by rw[hm];all_goals rfl):=h
def a7E(h:p:=by exact(a28 G O G G)):=h
def a1l(h:p:=by exact⟨O,_,_,G,J,J⟩):=h
def a3V(h:p:=by first|omega|simp):=h
def a1z(h:p:=by conv=>lhs;reduce):=h
def a4T(h:p:=by exact⟨O,O,O,O,O,O⟩):=h
def j1(h:p:=by conv=>lhs;whnf):=h
def a0c(h:p:=by cases ph<;>rfl):=h
def a2D(h:p:=by exact(b5p I I I)):=h
def a4s(h:p:=by exact⟨O,O,O,O,O⟩):=h
def a3l(h:p:=by exact(N4 _ [] false)):=h
def a8T(h:p:=by rw[hr.len,hL]):=h
def D5(h:p:=by exact(λ_ _=>nb G)):=h
def a14(h:p:=by exact(b0x G O G)):=h
def Q6(h:p:=by exact(a7e _ _ _ _)):=h
def a3S(h:p:=by exact⟨O,G,G,O⟩):=h
def b8L(h:p:=by exact(b1Z G O G)):=h
def a9b(h:p:=by exact(b4F (nb G))):=h
def a3T(h:p:=by exact⟨O,O,G,O⟩):=h
def W4(h:p:=by rw[eo];rfl):=h
def a2C(h:p:=by exact(B9 _ [] _)):=h
def c1Y(h:p:=by rw[hr];rfl):=h
def D0(h:p:=by exact⟨O,O,O,O⟩):=h
def G5(h:p:=by simp;omega):=h
def H8(h:p:=by exact(B9 _ _ _)):=h
def U4(h:p:=by exact(b1E _ _ _)):=h
def a04(h:p:=by exact(U8 _ _ _)):=h
def a3k(h:p:=by exact(a7s _ _ _)):=h
def i9(h:p:=by exact(.inr ⟨_,G⟩)):=h
def w9(h:p:=by kernel_rfl):=h
def Q4(h:p:=by exact(a0g _ _ _)):=h
def V9(h:p:=by exact(λ_=>rfl)):=h
def B0(h:p:=by exact(a4L _ _)):=h
def m0(h:p:=by exact⟨O,G,O⟩):=h
def W5(h:p:=by exact(b5z _ _)):=h
def X2(h:p:=by exact(b5B _ _)):=h
def a2v(h:p:=by simp[e]):=h
def j2(h:p:=by exact⟨O,O,O⟩):=h
def M9(h:p:=by exact⟨O,G⟩):=h
def uo_(h:p:=by first|exact .val _|exact .ptr (nb G)|exact .map (nb G)|exact B9 _ _ _|exact a0g _ _ _|exact M4 _ _ _|exact N4 _ _ _|exact .ptr (by decide)|exact(P5 [] _).old|exact .vec (nb G)|exact a7s _ _ _|exact a6V _ _|exact .clo (λi c h=>by rcases i with _|i;(injection h with h;subst h;exact .ptr (by decide));cases h)|exact P3 _ _ _|exact a7e _ _ _ _|exact R8 _ _ _|exact(by first|exact W9 _ _|exact R8 _ _ _|exact U8 _ _ _|exact B9 _ _ _|exact a0O _ _ _)|exact(a7W _ _).old|exact(b1r _ _).old|exact(o8.old (.val _))|exact(P5 _ _).old|exact a0O _ _ _|exact U8 _ _ _|exact(b1r [] false).old):=h
def uz_(h:p:=by intro a ha;repeat' (first|exact .val _|exact .ptr (nb G)|exact .map (nb G)|exact O|exact B9 _ _ _|exact a0g _ _ _|exact a7e _ _ _ _|exact(by first|exact W9 _ _|exact R8 _ _ _|exact B9 _ _ _|exact a0O _ _ _)|exact M4 _ _ _|exact a7s _ _ _|exact(j5 (cs:=[_,_,_,_]) ⟨.val _,.val _,.val _,.val _,O⟩).old|exact a0O _ _ _|exact X9 _ _ _|exact(by first|exact B9 _ _ _|exact c1Q _ _)|exact N4 _ _ _|exact(by first|exact .vec (nb G)|exact d2r _|exact B9 _ _ _)|exact(by first|exact W9 _ _|exact c8d _ _ _|exact R8 _ _ _|exact B9 _ _ _|exact a0O _ _ _)|exact(P5 [] _).old|exact .vec (nb G)|exact a6V _ _|exact(by first|exact a3I (nb G)|exact a4L _ _|exact c8d _ _ _|exact x9 (show c99 _ _ from⟨.val _,.val _,.val _,.val _,O⟩))|exact(by first|exact B9 _ _ _|exact R8 _ _ _|exact c1Q _ _)|exact(D1 _ _).old|exact(a7W _ _).old|exact M4 _ [] _|exact b5B _ _|exact a4L _ _|exact R8 _ _ _|exact b5z _ _|exact B9 _ [] _|exact b5p (nb G) (nb G) (nb G)|refine x9 ?_|refine⟨?_,?_⟩)):=h
def pu_(h:p:=by repeat' (first|exact .val _|exact N2 _ _|exact C1 _ _|exact D1 _ _|exact F5 _ _|exact a4B _ _|exact a17 _ _|exact a26 _ _|exact a1P _ _|exact a2V _ _|exact O|refine j5 ?_|refine D3 ?_|refine⟨?_,?_⟩)):=h
def ur_(h:p:=by first|exact .ptr G|exact .map G|exact .vec G|exact .same G uo_|exact B5.grow (f:=scv) (λ_=>⟨.val _,O⟩) G|exact B5.grow (f:=Ky.cv) (λ_=>⟨.val _,.val _,.val _,O⟩) G|exact B5.grow (f:=nmC) (λ_=>⟨.val _,.val _,O⟩) G|exact B5.grow (f:=icv) (λ_=>⟨.val _,O⟩) G|exact B5.grow (f:=Tok.cv) (λ_=>⟨.val _,.val _,.val _,.val _,O⟩) G|exact .same G (C1 ([]:List D) _).old|exact V4 (f:=scv) (λ_=>⟨.val _,O⟩) _|exact .same G (B9 _ ([]:List D) _)|exact .same G (P3 _ ([]:List Ky) _)|exact B5.grow (f:=bcv) (λ_=>⟨.val _,O⟩) G|exact .same G (U8 _ ([]:List Tok) _)):=h
def ut_(h:p:=by repeat' (first|exact O|refine⟨?_,?_⟩|exact ur_|exact G)):=h
def uq_(h:p:=by repeat' (first|exact O|exact .inl G|refine⟨?_,?_⟩|(refine .inr ⟨_,G,.same G ?_⟩;first|exact(a4L _ _)|exact(x9 ⟨a0g _ _ _,O⟩)|exact(a7e _ _ _ _)|exact(x9 (a3s _))|exact(a3I (nb G))|exact(b1E _ _ _)|exact(x9 ⟨.val _,.val _,B9 _ _ _,N4 _ _ _,O⟩)|exact(b4F (nb G))|exact(b5z _ _)|exact(b5p (by decide) (by decide) (by decide))|exact(x9 ⟨(D1 _ _).old,O⟩)|exact(x9 ⟨R8 _ _ _,O⟩)|exact(b5B _ _)|exact(x9 ⟨.val _,.val _,.val _,.val _,.val _,.val _,O⟩)|exact(x9 ⟨.val _,.val _,.val _,.val _,O⟩)|exact(x9 ⟨.val _,.val _,B9 _ [] _,N4 _ [] _,O⟩)|exact(x9 ⟨.val _,B9 _ _ _,M4 _ _ _,O⟩)|exact(x9 ⟨.val _,O⟩)|exact(x9 ⟨B9 _ _ _,a7s _ _ _,O⟩)|exact(d1R Nm.pure En.pure _ _ _)|exact(b4C (a1W _))|exact(a3I (by decide))|exact(x9 ⟨.val _,.val _,.val _,.val _,R8 _ [] _,O⟩)|exact(x9 ⟨a0g _ ([]:List Fi) _,O⟩)|exact(b4C (a1J _))|exact(b1E 4 0 b.length)))):=h
def U(h:q->p:=by intro Y;simpa using Y):=h Y
def sm_(h:q->p:=by intro Y;simp at Y;omega):=h Y
theorem gx_{α:Type}(l:List α)(i:Nat)(h:i<l.length:=by omega):∃b,l[i]?=some b:=⟨l[i],by simp⟩
def tu_(h:p:=by repeat' (first|exact O|exact G|refine⟨?_,?_⟩)):=h
def do_(h:p:=by dsimp only;omega):=h
def J(h:p:=by omega):=h
def Q(h:p:=by simp):=h
def I(h:p:=by decide):=h
def z_0(h:q->p:=by intro Y;refine F7 ?_;refine C4 ?_;exact Y):=h Y
def z_1(h:q->p:=by intro Y;refine z_0 ?_;refine cY A2 ?_;exact Y):=h Y
def z_2(h:q->p:=by intro Y;refine cY a07 ?_;refine o7 ?_;exact Y):=h Y
def z_3(h:q->p:=by intro Y;refine qD (j6 G a2M G i9 ?_);refine qD (i0 G O O G j1 a3F i9 G G (nb G) ?_);exact Y):=h Y
def z_4(h:q->p:=by intro Y;refine qD (i0 G O O G j1 a3F i9 G G (nb G) ?_);refine c6 ?_;exact Y):=h Y
def z_6(h:Qz q->p:=by intro Y;refine u o3 ?_;refine qD (i0 G O O G j1 t_1 (.inl G) G G (nb G) ?_);exact Y O):=h λ_=>Y
def z_7(h:q->p:=by intro Y;refine qD (j6 G a0z G i9 ?_);refine qD (i0 G O O G j1 t_6 i9 G G (nb G) ?_);exact Y):=h Y
def z_8(h:q->p:=by intro Y;refine qD (i0 G O O G j1 t_6 i9 G G (nb G) ?_);refine c6 ?_;exact Y):=h Y
def z_9(h:q->p:=by intro Y;refine B1 G G G (i0 G O O G j1 a7w i9 G G (nb G) ?_);refine⟨O,?_⟩;exact Y):=h Y
def a2n(h:q->p:=by intro Y;refine o7 ?_;refine F7 ?_;exact Y):=h Y
def V5(h:q->p:=by intro Y;refine o6 ?_;refine c6 ?_;exact Y):=h Y
def a0W(h:q->p:=by intro Y;refine z_2 ?_;refine c6 ?_;exact Y):=h Y
def a9N(h:q->p:=by intro Y;refine qD (F4 G O j1 i9 ?_);refine qD (F4 G O j1 i9 ?_);exact Y):=h Y
def c0k(h:q->p:=by intro Y;refine qD (j6 G a4J G i9 ?_);refine qD (i0 G O O G j1 a3L i9 G G (nb G) ?_);exact Y):=h Y
def d9W(h:q->p:=by intro Y;refine a21 [] [0,1,3,7,0,16,48,112,0,256,1023,2047,4095,4095,4095,4095,0,73727,212991,491519,1048575] [0,1,2,3,4,5,6,7,8,9,10,11,12,13,14,15] (tl:=[(16,[0,1,2,3,4,5,6,7,8,9,10,11,12,13,14,15]),(17,[13,14,15]),(18,[14,15]),(19,[15]),(20,[])]) w9 w9 G (b48 ?_);refine chr G O0 ?_;exact Y):=h Y
def a5x(h:q->p:=by intro Y;refine C7 G G b1R ⟨O,?_⟩;refine a0Z ?_;exact Y):=h Y
def b94(h:q->p:=by intro Y;refine cY Z5 ?_;refine o7 ?_;exact Y):=h Y
def a4g(h:q->p:=by intro Y;refine qG F9 ?_;refine qG F9 ?_;exact Y):=h Y
def a2P(h:q->p:=by intro Y;refine qG a4F ?_;refine u Q8 ?_;exact Y):=h Y
def d2y(h:p:=by refine c6 ?_;exact⟨_,rE1,_,_,G,G,(.tok (λr hr c hc=>(C2 (f:=scv) (λ_=>N8.all ⟨.val _,O⟩) _) r hr c hc))⟩):=h
def b2d(h:p:=by refine u o3 ?_;exact⟨(i+1),_,⟨J,J,hr⟩,tu_,G⟩):=h
def a4x(h:q->p:=by intro Y;refine hY A2 ?_;refine hY A2 ?_;exact Y):=h Y
def a59(h:q->p:=by intro Y;refine z_0 ?_;refine cD (F4 G O j1 i9 ?_);exact Y):=h Y
def a3D(h:q->p:=by intro Y;refine a2K ?_;refine qo ?_;exact Y):=h Y
def c8B(h:p:=by refine z_4 ?_;exact⟨_,o9 (rs:=[.cell 4 205,.tmp 5,.tmp 6]) (cs:=[_,_,_]) G b1W (n_5 G),q_5⟩):=h
def c4h(h:q->p:=by intro Y;refine cY A2 ?_;refine de G b0n a3T (a0u _ _ I (q:=0) (s:=2) ⟨G,G,I⟩) G ?_;exact Y):=h Y
def d5F(h:q->p:=by intro Y;refine qD (j6 G b5J G i9 ?_);refine qD (i0 G O O G j1 a4c i9 G G (nb G) ?_);exact Y):=h Y
def a5M(h:q->p:=by intro Y;refine A8 ?_;refine F7 ?_;exact Y):=h Y
def c4X(h:p:=by refine c6 ?_;exact⟨_,rE1,⟨(_,p1),a2k G Q6 (.old (.val _)),b7C,do_,do_⟩⟩):=h
def a2S(h:q->p:=by intro Y;refine hY A2 ?_;refine hY a14 ?_;exact Y):=h Y
def b9H(h:q->p:=by intro Y;refine cY b01 ?_;refine o7 ?_;exact Y):=h Y
def a9F(h:q->p:=by intro Y;refine chf G O0 ?_;refine chf G O0 ?_;exact Y):=h Y
def a2a(h:q->p:=by intro Y;refine z_1 ?_;refine cY a14 ?_;exact Y):=h Y
def a4b(h:q->p:=by intro Y;refine z_1 ?_;refine cY A2 ?_;exact Y):=h Y
def b6B(h:p:=by refine c6 ?_;exact⟨_,rE1,_,_,G,G,B8 c1Y⟩):=h
def c4V(h:q->p:=by intro Y;refine qD (i0 G O O G j1 a3L i9 G G (nb G) ?_);refine c6 ?_;exact Y):=h Y
def c5b(h:q->p:=by intro Y;refine qD (i0 G O O G j1 a7w i9 G G (nb G) ?_);refine c6 ?_;exact Y):=h Y
def d2S(h:p:=by refine z_4 ?_;exact⟨_,o9 (rs:=[.cell 4 205,.tmp 5,.tmp 6]) (cs:=[_,_,_]) G b1W (n_5 G),q_6⟩):=h
def c84(h:q->p:=by intro Y;refine F2 ?_;refine B1 G G G (i0 G O O G j1 a3L i9 G G (nb G) ?_);exact Y):=h Y
def c9m(h:q->p:=by intro Y;refine F2 ?_;refine B1 G G G (i0 G O O G j1 t_6 i9 G G (nb G) ?_);exact Y):=h Y
def a5K(h:q->p:=by intro Y;refine C4 ?_;refine cY A2 ?_;exact Y):=h Y
def a5A(h:q->p:=by intro Y;refine qG a4F ?_;refine u S4 ?_;exact Y):=h Y
def c4S(h:p:=by refine c6 ?_;exact⟨_,rE1,_,_,G,G,B8 G⟩):=h
def c7g(h:q->p:=by intro Y;refine cD (i0 G O O G j1 a2Q (.inl G) G G (nb G) ?_);refine o7 ?_;exact Y):=h Y
def d2C(h:q->p:=by intro Y;refine cD (i0 G O O G j1 t_1 (.inl G) G G (nb G) ?_);refine o7 ?_;exact Y):=h Y
def a8h(h:q->p:=by intro Y;refine⟨O,?_⟩;refine a0Z ?_;exact Y):=h Y
def c71(h:q->p:=by intro Y;refine u b0l ?_;refine qD (i0 G O O G j1 a9Q i9 G G (nb G) ?_);exact Y):=h Y
def c86(h:q->p:=by intro Y;refine cD (i0 G O O G j1 t_6 i9 G G (nb G) ?_);refine o7 ?_;exact Y):=h Y
def c6b(h:q->p:=by intro Y;refine C7 G G b1R ⟨O,?_⟩;refine C7 G G c8c ⟨O,?_⟩;exact Y):=h Y
def d8T(h:q->p:=by intro Y;refine qN [rbx T n2 a2 e2 ps b 1,o0 e2 b.length,.box (tk T n).cells] G (qD (c4 G a4f m0 (M5 hT y2 hW [41] ⟨G,G,I⟩) G ?_));exact Y):=h Y
def e0S(h:q->p:=by intro Y;refine cY a7E ?_;refine cY a7E ?_;exact Y):=h Y
def d8w(h:q->p:=by intro Y;refine qD (i0 G O O G j1 Tryz.sizeOf57 i9 G G (nb G) ?_);refine qD (i0 G O O G j1 b6Q i9 G G (nb G) ?_);exact Y):=h Y
def d9L(h:p:=by refine cY b6D ?_;exact a2J G G (N5 G a4Z m0 (N7 _ _ _) G (λ_ _=>.inr ⟨(_,_),j3,aj,Q⟩))):=h
def d3M(h:q->p:=by intro Y;refine qN [rbx T n3 a6 e6 ps b6 3,.dead,.box (tk T n).cells,o0 e6 b6.length] G ?_;refine c6 ?_;exact Y):=h Y
def e2l(h:q->p:=by intro Y;refine A1 [rbx T n2 a2 e2 [] [] 2,o0 0 b.length,o0 e2 ([]:List Ex).length,.box (⟨pk,im,bs⟩:Src).cells,.box (⟨0,[],[],[]⟩:De).cells,.box (⟨kd,[],[],[]⟩:De).cells] G ?_;refine cY (i7 G O G b2k G t_0 I) ?_;exact Y):=h Y
def a9K(h:Qz q->p:=by intro Y;refine u b1D ?_;refine u a5Y ?_;exact Y O):=h λ_=>Y
def d9d(h:p:=by refine c6 ?_;exact⟨_,rE1,_,_,G,G,j9 (show(C0 x.a &&decide (x.b=[]))=N9 x by simp_all[N9])⟩):=h
def e1k(h:q->p:=by intro Y;refine A1 [rbx T n6 x1 y1 [] [] 2,o0 0 b.length,o0 y1 ([]:List Ex).length,.dead,.box (⟨0,[],[],[]⟩:De).cells,.box [iv kd,(sv s2),.list (l.map scv) (gnn l.length) (D6 l.length 6),.list [] false none],l8 l.length] G ?_;refine o7 ?_;exact Y):=h Y
def d2Q(h:q->p:=by intro Y;refine cD (i0 G O O G j1 a4c i9 G G (nb G) ?_);refine o7 ?_;exact Y):=h Y
def a6u(h:q->p:=by intro Y;refine z_2 ?_;refine F7 ?_;exact Y):=h Y
def a7q(h:q->p:=by intro Y;refine qk (u U9 ?_);exact Y):=h Y
def d5b(h:q->p:=by intro Y;refine chr G a7d ?_;refine chr G a7d ?_;exact Y):=h Y
def d9K(h:q->p:=by intro Y;refine qD (j6 G c3p G i9 ?_);refine qD (i0 G O O G j1 c4J i9 G G (nb G) ?_);exact Y):=h Y
def d9P(h:q->p:=by intro Y;refine qD (j6 G a0A G i9 ?_);refine qD (i0 G O O G j1 t_3 i9 G G (nb G) ?_);exact Y):=h Y
def d2q(h:q->p:=by intro Y;refine⟨⟨C3,O⟩,?_⟩;refine C7 G G a1e ⟨O,?_⟩;exact Y):=h Y
def a8a(h:q->p:=by intro Y;refine z_0 ?_;refine cY a4v ?_;exact Y):=h Y
def d3v(h:p:=by refine c6 ?_;exact⟨_,rE1,_,_,G,G,(.old (C1 _ _).old)⟩):=h
def d9f(h:q->p:=by intro Y;refine cF [] [0,1,2,3,4,5,6,7,8] (tl:=[(9,[0,1,2,3,4,5,6,7,8]),(10,[8]),(11,[])]) ?_;refine chf G O0 ?_;exact Y):=h Y
def e1N(h:q->p:=by intro Y;refine⟨⟨a1y,C3,O⟩,?_⟩;refine C7 G G d4C ⟨⟨a1y,O⟩,?_⟩;exact Y):=h Y
def c6J(h:q->p:=by intro Y;refine D4 G G O G c1V ?_;refine D4 G G O G a7N ?_;exact Y):=h Y
def b72(h:q->p:=by intro Y;refine cY A2 ?_;refine e0S ?_;exact Y):=h Y
def d2O(h:q->p:=by intro Y;refine o7 ?_;refine a1Z ?_;exact Y):=h Y
def e2w(h:q->p:=by intro Y;refine cY A2 ?_;refine o7 ?_;exact Y):=h Y
def c5I(h:q->p:=by intro Y;refine cY A2 ?_;refine cG F9 ?_;exact Y):=h Y
def b9I(h:q->p:=by intro Y;refine z_0 ?_;refine b9H ?_;exact Y):=h Y
def b9n(h:Qz q->p:=by intro Y;refine u e19 ?_;refine qD (j6 G a9H G i9 ?_);refine qD (i0 G O O G j1 b09 i9 G G (nb G) ?_);exact Y O):=h λ_=>Y
def c9T(h:q->p:=by intro Y;refine B1 G G G (i0 G O O G j1 t_6 i9 G G (nb G) ?_);refine⟨⟨Q7,Q7,O⟩,?_⟩;refine C7 G G b1R ⟨⟨Q7,O⟩,?_⟩;exact Y):=h Y
def e1L(h:q->p:=by intro Y;refine a41 G G (λh=>h) G (λhk hg=>a0U G ⟨hk,hg⟩ G b8J G t_0 I) ?_;refine a41 G G (λh=>h) G (λhk hg=>Z1 G ⟨hk,hg⟩ G a2j G) ?_;exact Y):=h Y
def e0F(h:q->p:=by intro Y;refine cF [] [0,1,2,3,4] (tl:=[(5,[0,1,2]),(6,[0,1]),(7,[0]),(8,[]),(9,[])]) ?_;refine chf G a7P ?_;exact Y):=h Y
def d9S(h:p:=by refine c6 ?_;exact⟨_,rE1,_,_,G,G,j9 (show false=N9 x by simp_all[N9])⟩):=h
def d3B(h:p:=by refine c6 ?_;exact⟨_,rE1,_,_,G,G,j9 cH.symm⟩):=h
def e0I(h:p:=by refine c6 ?_;exact⟨_,rE1,⟨(_,p+2),a2k G Q6 (.old (.val _)),b7C,do_,do_⟩⟩):=h
def e0M(h:q->p:=by intro Y;refine a41 G G (λh=>h) G (λhk hg=>i7 G O G b60 G b6N I) ?_;refine a41 G G (λh=>h) G (λhk hg=>l9 G ⟨hk,hg⟩ G d0X G G) ?_;exact Y):=h Y
def d8A(h:q->p:=by intro Y;refine a5d ?_;refine c4R [] [0,0,1,7,15] [0,1] (tl:=[(2,[1]),(3,[]),(4,[])]) w9 w9 G ?_;exact Y):=h Y
def e0l(h:q->p:=by intro Y;refine D4 G G O G e1e ?_;refine D4 G G O G (λhg=>l9 G hg G c3t G G) ?_;exact Y):=h Y
def e1I(h:q->p:=by intro Y;refine a41 G G (λh=>h) G (λhk hg=>i7 G O G b8J G t_0 I) ?_;refine a41 G G (λh=>h) G (λhk hg=>l9 G ⟨hk,hg⟩ G a2j G G) ?_;exact Y):=h Y
def d5e(h:p:=by refine c6 ?_;exact⟨_,rE1,(by exact a18 G (.val _))⟩):=h
def d3R(h:p:=by refine u o3 ?_;exact⟨(i+1),_,⟨J,J⟩,tu_,G⟩):=h
def b5h(h:q->p:=by intro Y;refine qG F9 ?_;refine qG c30 ?_;exact Y):=h Y
def e0u(h:q->p:=by intro Y;refine cY Z5 ?_;refine z_2 ?_;exact Y):=h Y
def d5O(h:q->p:=by intro Y;refine cY b9c ?_;refine cY c12 ?_;exact Y):=h Y
def b5o(h:q->p:=by intro Y;refine a0Z ?_;refine c6 ?_;exact Y):=h Y
def d3r(h:p:=by refine c6 ?_;exact⟨_,rE1,_,_,G,G,j9 G⟩):=h
def a8D(h:q->p:=by intro Y;refine z_1 ?_;refine b94 ?_;exact Y):=h Y
def d6w(h:q->p:=by intro Y;refine⟨⟨λ_=>by exact c7 G a4v,λ_=>by exact c7 G a4v,λ_=>by exact c7 G c2D,λ_=>by exact c7 G Z5,O⟩,?_⟩;refine d9B (i:=6) w9 G e3A ?_;exact Y):=h Y
def c89(h:q->p:=by intro Y;refine qD (j6 G b6o G i9 ?_);refine qD (j6 G b6o G i9 ?_);exact Y):=h Y
def a57(h:q->p:=by intro Y;refine hY Q8 ?_;refine a3D ?_;exact Y):=h Y
def a58(h:q->p:=by intro Y;refine cY b01 ?_;refine a2n ?_;exact Y):=h Y
def d6O(h:q->p:=by intro Y;refine u a34 ?_;refine qD (c4 G b0n a3T (a0u _ _ I ⟨G,G,I⟩) G ?_);exact Y):=h Y
def d8k(h:q->p:=by intro Y;refine A1 [rgm c (S1.look (H9 c.fl x.name)) 0 d 5,.dead,.box F.f.cells,.box x.cells,.box (diE c.fl true c.me x.name).cells,D9 (trk (S1.look (H9 c.fl x.name)))] G ?_;refine a2n ?_;exact Y):=h Y
def c9Q(h:q->p:=by intro Y;refine cY c2g ?_;refine cD (i0 G O G G j1 t_1 (.inl G) G G (nb G) ?_);exact Y):=h Y
def c9k(h:Qz q->p:=by intro Y;refine qD (i0 G O O G j1 c3o (.inl G) G G (nb G) ?_);refine u o3 ?_;exact Y O):=h λ_=>Y
def c6W(h:q->p:=by intro Y;refine cY b70 ?_;refine cD (i0 G O O G j1 b9s (.inl G) G G (nb G) ?_);exact Y):=h Y
def d8h(h:p:=by refine b5o ?_;exact⟨_,B7 G a3U,⟨(a5F fl ⟨sp,s⟩,p4),a2k G Q6 (.old (Q0 _ _).old),(hm.mono J).ins (hspa) do_,do_,do_⟩⟩):=h
def c3x(h:q->p:=by intro Y;refine D4 G G O G d0m ?_;refine D4 G G O G a29 ?_;exact Y):=h Y
def c3Y(h:q->p:=by intro Y;refine D4 G G O G e2i ?_;refine D4 G G O G e2E ?_;exact Y):=h Y
def d2x(h:q->p:=by intro Y;refine D4 G G O G e27 ?_;refine D4 G G O G d6Z ?_;exact Y):=h Y
def c2B(h:q->p:=by intro Y;refine qG F9 ?_;refine qG b3M ?_;exact Y):=h Y
def b3Y(h:q->p:=by intro Y;refine chr G O0 ?_;refine chr G a1e ?_;exact Y):=h Y
def a9c(h:q->p:=by intro Y;refine cY e21 ?_;refine cY W7 ?_;exact Y):=h Y
def c6n(h:q->p:=by intro Y;refine cF [] [0,1,2,3,4,5,6] (tl:=[(7,[0]),(8,[]),(9,[]),(10,[])]) ?_;refine a9F ?_;exact Y):=h Y
def d6P(h:q->p:=by intro Y;refine d9g (i:=7) w9 G G (F4 G O j1 i9 ?_);refine⟨⟨λh=>absurd h I,λh=>absurd h I,λh=>absurd h I,λh=>absurd h I,O⟩,?_⟩;exact Y):=h Y
def d6i(h:q->p:=by intro Y;refine qH G G (λhk hg=>i7 G O G a8J G t_0 I) ?_;refine qH G G (λhk hg=>l9 G ⟨hk,hg⟩ G a2j G G) ?_;exact Y):=h Y
def c8q(h:q->p:=by intro Y;refine qN [rbx T n3 a3 e3 ps b 1,o0 e3 b.length,.box (tk T n).cells] G (u e3n ?_);exact Y):=h Y
def d7N(h:Qz q->p:=by intro Y;refine hY (A4 G O O G G b5a a3F J (j8 (d8J hn)) G) ?_;refine hY (X8 G O G b8c a3F (nb G)) ?_;exact Y O):=h λ_=>Y
def c1X(h:p:=by refine o6 ?_;exact⟨(k+2),_,G,tu_,G⟩):=h
def d6B(h:q->p:=by intro Y;refine qN [rbx T n1 a1 e1 ps b 1,o0 e1 b.length,.box (tk T n).cells] G (qD (c4 G c27 j2 (a91 hT y1 hW true hc.l ⟨G,G,I⟩) G ?_));exact Y):=h Y
def d7I(h:Qz q->p:=by intro Y;refine a41 G G (λh=>h) G (λhk hg=>a0Q G O j1) ?_;refine a41 G G (λh=>h) G (λhk hg=>a9n G ⟨hk,hg⟩ G G G d3m d3m) ?_;exact Y O):=h λ_=>Y
def b6J(h:p:=by refine c6 ?_;exact⟨_,rE1,e2t⟩):=h
def a84(h:q->p:=by intro Y;refine u Q8 ?_;refine c6 ?_;exact Y):=h Y
def d0Y(h:q->p:=by intro Y;refine qN [rbx T n x y ps b 1,o0 y b.length,.box (tk T n).cells] G ?_;refine c6 ?_;exact Y):=h Y
def b6l(h:Qz q->p:=by intro Y;refine C4 ?_;refine cY o3 ?_;refine e2w ?_;exact Y O):=h λ_=>Y
def a89(h:q->p:=by intro Y;refine b9I ?_;refine c6 ?_;exact Y):=h Y
def b64(h:p:=by refine A1 [pbx T m ps b2 3,.dead,.box (tk T n).cells,l8 b2.length] G ?_;refine a0W ?_;exact⟨_,rE1,e3C⟩):=h
def d6G(h:p:=by refine c6 ?_;exact⟨_,rE1,_,_,G,G,(O2 (show CV.list (([]:List Ky).map Ky.cv) false none=_ from G) pu_)⟩):=h
def d0U(h:q->p:=by intro Y;refine F2 ?_;refine B1 G G G (j6 G a0z G i9 ?_);exact Y):=h Y
def a8N(h:q->p:=by intro Y;refine a2K ?_;refine o7 ?_;exact Y):=h Y
def a9r(h:q->p:=by intro Y;refine cY e2Q ?_;refine d2O ?_;exact Y):=h Y
def c7k(h:q->p:=by intro Y;refine a5M ?_;refine a1Z ?_;exact Y):=h Y
def d7e(h:Qz q->p:=by intro Y;refine b1M G G (λ_=>c7 G a5Y) ?_;refine B1 G G G (V2 G O G b6O trivial (by exact dU J (p+2) J) G ?_);exact Y O):=h λ_=>Y
def d7M(h:p:=by refine u a0D ?_;exact⟨(s,ck,p6,n-1),[0,1,2],⟨do_,do_,do_,do_,do_,do_,do_⟩,⟨G,G⟩,ut_,uq_⟩):=h
def b3e(h:q->p:=by intro Y;refine chf G O0 ?_;refine F2 ?_;exact Y):=h Y
def b3H(h:Qz q->p:=by intro Y;refine o6 ?_;refine u o3 ?_;exact Y O):=h λ_=>Y
def d1A(h:q->p:=by intro Y;refine qD (F4 G O j1 i9 ?_);refine qD (F4 G O j1 (.inl G) ?_);exact Y):=h Y
def d7B(h:Qz q->p:=by intro Y;refine⟨⟨a1y,C3,C3,O⟩,?_⟩;refine B1 G G G (c4 G Tryz.call32 j2 (b2Z l nn (k+3) J hl v di _ 0 G) G ?_);exact Y O):=h λ_=>Y
def d6J(h:p:=by refine a0W ?_;exact⟨_,rE1,(by exact .inl ⟨(i6,n+1,b6),Y7 G G (nb G) (.val _),aj,do_,bh,y6⟩)⟩):=h
def b6X(h:q->p:=by intro Y;refine chf G e04 ?_;refine chf G a88 ?_;exact Y):=h Y
def d1H(h:Qz q->p:=by intro Y;refine a4g ?_;refine qG e3p ?_;exact Y O):=h λ_=>Y
def d6v(h:q->p:=by intro Y;refine a41 G G (λh=>h) G (λhk hg=>a1r G ⟨hk,hg⟩ ⟨hk,hg⟩ G G (b8x _ _)) ?_;refine D4 G G O G b7A ?_;exact Y):=h Y
def b0j(h:q->p:=by intro Y;refine cY b8L ?_;refine o7 ?_;exact Y):=h Y
def d1T(h:q->p:=by intro Y;refine B1 G G G (j6 G a0z G i9 ?_);refine⟨⟨C3,a3q,e0R,a1y,C3,a3q,c2n,c1G,d5Z,a27,e1a,C3,Q7,Q7,Q7,Q7,O⟩,?_⟩;refine C7 G G b1R ⟨⟨Q7,Q7,Q7,O⟩,?_⟩;exact Y):=h Y
def c60(h:p:=by refine a0W ?_;exact⟨_,rE1,_,_,G,G,j9 G⟩):=h
def c97(h:q->p:=by intro Y;refine cD (F4 G O j1 i9 ?_);refine cD (F4 G O j1 i9 ?_);exact Y):=h Y
def a8S(h:q->p:=by intro Y;refine u e1O ?_;refine z_8 ?_;exact Y):=h Y
def d7X(h:Qz q->p:=by intro Y;refine a4b ?_;refine de G b5S j2 (a6Q (q:=0) (t:=1) c S1 0 d (H9 c.fl x.name) true (gn.len bc) J I G G) G ?_;exact Y O):=h λ_=>Y
def d7Z(h:Qz q->p:=by intro Y;refine F2 ?_;refine B1 G G G (c4 G a5L j2 (J7 l nn (k+2) _ 0 G J hl V8 I I) G ?_);exact Y O):=h λ_=>Y
def a7v(h:q->p:=by intro Y;refine z_0 ?_;refine e0u ?_;exact Y):=h Y
def d6V(h:q->p:=by intro Y;refine C7 G G c1F ⟨O,?_⟩;refine B1 G G G (i0 G O O G j1 b8s (.inl G) G G (nb G) ?_);exact Y):=h Y
def d7S(h:q->p:=by intro Y;refine C7 G G d6y ⟨O,?_⟩;refine B1 G G G (i0 G O O G j1 c40 (.inl G) G G (nb G) ?_);exact Y):=h Y
def a9t(h:q->p:=by intro Y;refine cW 12 ?_;refine a4x ?_;exact Y):=h Y
def a9k(h:q->p:=by intro Y;refine hY b16 ?_;refine hY A2 ?_;refine D4 G G O G F9 ?_;refine D4 G G O G F9 ?_;exact Y):=h Y
def b4b(h:Qz q->p:=by intro Y;refine cY o3 ?_;refine cY a14 ?_;exact Y O):=h λ_=>Y
def b4c(h:q->p:=by intro Y;refine hY S4 ?_;refine hY A2 ?_;exact Y):=h Y
def b35(h:Qz q->p:=by intro Y;refine u a9a ?_;refine u a5Y ?_;exact Y O):=h λ_=>Y
def b2G(h:q->p:=by intro Y;refine cG a4F ?_;refine cY Q8 ?_;exact Y):=h Y
def b33(h:q->p:=by intro Y;refine cY c1W ?_;refine cY A2 ?_;exact Y):=h Y
def d6o(h:q->p:=by intro Y;refine cD (j6 G d1i G i9 ?_);refine cD (i0 G O O G j1 c8C i9 G G (nb G) ?_);exact Y):=h Y
def d7J(h:q->p:=by intro Y;refine qD (j6 G b4S G i9 ?_);refine qD (i0 G O O G j1 a9Q i9 G G (nb G) ?_);exact Y):=h Y
def d1N(h:q->p:=by intro Y;refine cY c1M ?_;refine cY (l9 G O G d1k G G) ?_;exact Y):=h Y
def d6u(h:p:=by refine a89 ?_;exact⟨_,I8 G O G,W1 1 (S1.look (H9 c.fl x.name)) 0 d 5 W4 G G⟩):=h
def d6Y(h:q->p:=by intro Y;refine D4 G G O G (λhg=>X8 G hg G b2g t_3 (nb G)) ?_;refine D4 G G O G c6x ?_;exact Y):=h Y
def d7E(h:q->p:=by intro Y;refine D4 G G O G (λhg=>X8 G hg G b1e t_6 (nb G)) ?_;refine D4 G G O G d1h ?_;exact Y):=h Y
def d8m(h:q->p:=by intro Y;refine cD (j6 G a0z G i9 ?_);refine cD (i0 G O O G j1 t_6 i9 G G (nb G) ?_);exact Y):=h Y
def c6q(h:p:=by refine c6 ?_;exact⟨_,B7 G d7q,e3t⟩):=h
def a9p(h:q->p:=by intro Y;refine z_0 ?_;refine cY b16 ?_;refine a2n ?_;exact Y):=h Y
def d7a(h:Qz q->p:=by intro Y;refine e1N ?_;refine C7 G G (c7 G (c5 G c01 j2 (a0S fl _ ⟨sp,s⟩ J _) G)) ⟨O,?_⟩;exact Y O):=h λ_=>Y
def d7j(h:q->p:=by intro Y;refine hY (i7 G O G c6v G c40 I) ?_;refine hY (l9 G O G c3D hk G) ?_;exact Y):=h Y
def c64(h:q->p:=by intro Y;refine D4 G G O G e1C ?_;refine D4 G G O G a7N ?_;exact Y):=h Y
def d7t(h:Qz q->p:=by intro Y;refine e1N ?_;refine C7 G G (c7 G (c5 G c01 j2 (a0S fl _ ⟨y,s⟩ J _) G)) ⟨O,?_⟩;exact Y O):=h λ_=>Y
def d6F(h:Qz q->p:=by intro Y;refine u d6n ?_;refine qD (c4 G a5L j2 (J7 l nn (k+2) _ 0 G J hl X7 I I) G ?_);exact Y O):=h λ_=>Y
def d6c(h:q->p:=by intro Y;refine B1 G G G (i0 G O O G j1 t_6 i9 G G (nb G) ?_);refine⟨⟨Q7,O⟩,?_⟩;exact Y):=h Y
def d6L(h:q->p:=by intro Y;refine cY (X8 G O G c25 a4c (nb G)) ?_;refine cD (j6 G b5J G i9 ?_);exact Y):=h Y
def d6A(h:q->p:=by intro Y;refine B1 G G G (i0 G O O G j1 a3L i9 G G (nb G) ?_);refine⟨⟨Q7,O⟩,?_⟩;exact Y):=h Y
def c3B(h:Qz q->p:=by intro Y;refine D4 G G O G F9 ?_;refine D4 G G O G e2r ?_;refine D4 G G O G e3z ?_;exact Y O):=h λ_=>Y
def d6k(h:q->p:=by intro Y;refine u a34 ?_;refine qD (c4 G b0n a3T (a0u _ _ I (q:=2) (s:=0) ⟨G,G,I⟩) G ?_);exact Y):=h Y
def d7v(h:p:=by refine A1 [rgm c o.2 (erF o.1) d 4,.dead,.box F.f.cells,.box x.cells,D9 (trk o.2)] G ?_;refine a0W ?_;exact⟨_,I8 G O G,W1 (vlF o.1) o.2 (erF o.1) d 4 W4 G G⟩):=h
def d7d(h:p:=by refine A1 [rgm c o.2 (erF o.1) d 5,.dead,.box F.f.cells,.box x.cells,.dead,D9 (trk o.2)] G ?_;refine a0W ?_;exact⟨_,I8 G O G,W1 (vlF o.1) o.2 (erF o.1) d 5 W4 G G⟩):=h
def d6t(h:q->p:=by intro Y;refine u c6F ?_;refine qD (c39 G O G ⟨G,G,G⟩ t_5 t_3 a0A ?_);exact Y):=h Y
def d6p(h:Qz q->p:=by intro Y;refine a3D ?_;refine qD (c4 G a5L j2 (J7 l nn (p+1) _ 0 G J hl a1K I I) G ?_);exact Y O):=h λ_=>Y
def d7U(h:q->p:=by intro Y;refine cG d8e ?_;refine cG (λhg=>c5 G Tryz.call53 ⟨hg,O⟩ (a0G [] false _) G) ?_;exact Y):=h Y
def d6I(h:p:=by refine c6 ?_;exact⟨_,rE1,_,_,G,G,B8 (by rw[B4,W ao])⟩):=h
def d8d(h:q->p:=by intro Y;refine cY d0x ?_;refine b94 ?_;exact Y):=h Y
def c3I(h:q->p:=by intro Y;refine chf G O0 ?_;refine chf G a7d ?_;exact Y):=h Y
def b3O(h:Qz q->p:=by intro Y;refine b9n ?_;refine u a5Q ?_;exact Y O):=h λ_=>Y
def b3x(h:Qz q->p:=by intro Y;refine A8 ?_;refine b6l ?_;exact Y O):=h λ_=>Y
def d7T(h:q->p:=by intro Y;refine cF [] [0,1,2,3,4] (tl:=[(5,[0,1]),(6,[0,1]),(7,[]),(8,[]),(9,[])]) ?_;refine chf G d6y ?_;exact Y):=h Y
def b3k(h:q->p:=by intro Y;refine cY a0F ?_;refine b94 ?_;exact Y):=h Y
def b3K(h:q->p:=by intro Y;refine d5O ?_;refine cY A2 ?_;exact Y):=h Y
def c2I(h:q->p:=by intro Y;refine chf G a7P ?_;refine chf G O0 ?_;exact Y):=h Y
def c2P(h:q->p:=by intro Y;refine chr G c6K ?_;refine chr G d2b ?_;exact Y):=h Y
def b9a(h:q->p:=by intro Y;refine chr G O0 ?_;refine d5b ?_;exact Y):=h Y
def d7Q(h:q->p:=by intro Y;refine B1 G G G (i0 G O O G j1 b2D (.inl G) G G (nb G) ?_);refine a8h ?_;exact Y):=h Y
def d7A(h:p:=by refine c6 ?_;exact⟨_,rE1,(by exact⟨by rw[<- a92 p l 0],G⟩)⟩):=h
def d6r(h:q->p:=by intro Y;refine B1 G G G (i0 G O O G j1 b4Z (.inl G) G G (nb G) ?_);refine a8h ?_;exact Y):=h Y
def d7R(h:Qz q->p:=by intro Y;refine u (A4 G O O G G a8m a4c J (j8 eH) G) ?_;refine d5F ?_;exact Y O):=h λ_=>Y
def d8t(h:p:=by refine u (c5 G Tryz.call193 j2 (b1P s c _) G) ?_;exact c4S):=h
def b6E(h:q->p:=by intro Y;refine qG e1w ?_;refine qG a29 ?_;exact Y):=h Y
def b6n(h:q->p:=by intro Y;refine cY c8X ?_;refine cY a0F ?_;exact Y):=h Y
def b7a(h:q->p:=by intro Y;refine hY a07 ?_;refine hY a07 ?_;exact Y):=h Y
def b2V(h:q->p:=by intro Y;refine cY a07 ?_;refine z_2 ?_;exact Y):=h Y
def b3X(h:q->p:=by intro Y;refine hY b8i ?_;refine hY A2 ?_;refine a2K ?_;exact Y):=h Y
def d7K(h:Qz q->p:=by intro Y;refine C7 G G d5P ⟨⟨a1y,C3,O⟩,?_⟩;refine C7 G G d4C ⟨⟨a1y,O⟩,?_⟩;exact Y O):=h λ_=>Y
def d8u(h:Qz q->p:=by intro Y;refine u (A4 G O O G G a1C t_6 J (j8 hb) G) ?_;refine z_7 ?_;exact Y O):=h λ_=>Y
def d6R(h:q->p:=by intro Y;refine u (c5 G a6S ⟨O,O⟩ (a0k hT y1 ⟨G,G,I⟩) G) ?_;refine u a34 ?_;exact Y):=h Y
def d7c(h:p:=by refine b3H ?_;exact⟨(i+1,e),_,⟨do_,do_,hr,h0,do_⟩,tu_,G⟩):=h
def d7L(h:p:=by refine c6 ?_;exact⟨_,rE1,⟨v,G,G,n_3 hv⟩⟩):=h
def b0O(h:q->p:=by intro Y;refine z_1 ?_;refine a0W ?_;exact Y):=h Y
def d7p(h:q->p:=by intro Y;refine u (c5 G a6S ⟨O,O⟩ (a0k hT fg ⟨G,G,I⟩) G) ?_;refine d6O ?_;exact Y):=h Y
def b58(h:q->p:=by intro Y;refine qo (u S4 ?_);exact Y):=h Y
def c66(h:Qz q->p:=by intro Y;refine⟨O,?_⟩;refine C7 G G d5P ⟨O,?_⟩;exact Y O):=h λ_=>Y
def d6q(h:p:=by refine c6 ?_;exact⟨_,I8 G O G,a1i 1 S 0 d [] a8Q G⟩):=h
def d6j(h:p:=by refine c6 ?_;exact⟨_,I8 G O G,a1i 0 S 0 d [] a8Q G⟩):=h
def b8p(h:q->p:=by intro Y;refine u e2H ?_;refine c6 ?_;exact Y):=h Y
def c9d(h:q->p:=by intro Y;refine qD (F4 G O j1 i9 ?_);refine u c9M ?_;exact Y):=h Y
def b6G(h:q->p:=by intro Y;refine u e3D ?_;refine u c5a ?_;exact Y):=h Y
def d7g(h:q->p:=by intro Y;refine qG (λhg=>i7 G O G a8u G t_0 I) ?_;refine qG a29 ?_;exact Y):=h Y
def b2S(h:Qz q->p:=by intro Y;refine d1H ?_;refine a2P ?_;exact Y O):=h λ_=>Y
def b3P(h:q->p:=by intro Y;refine cW 8 ?_;refine hY A2 ?_;refine hY c1W ?_;refine hY A2 ?_;refine hY d7u ?_;refine hY c3E ?_;exact Y):=h Y
def d7y(h:q->p:=by intro Y;refine cY b3r ?_;refine cD (i0 G O O G j1 t_1 (.inl G) hk G (nb G) ?_);exact Y):=h Y
def b7h(h:q->p:=by intro Y;refine c2B ?_;refine u Q8 ?_;exact Y):=h Y
def d8n(h:q->p:=by intro Y;refine d3d Tryz.func104 G G G G G G G G G G I I G G ?_;refine z_1 ?_;exact Y):=h Y
def d7b(h:q->p:=by intro Y;refine cD (i0 G O O G j1 t_0 (.inl G) G G (nb G) ?_);refine o7 ?_;exact Y):=h Y
def b8A(h:q->p:=by intro Y;refine cY e2O ?_;refine d8d ?_;exact Y):=h Y
def d8r(h:p:=by refine c6 ?_;exact⟨_,rE1,(by exact⟨by rw[hr],G⟩)⟩):=h
def d5T(h:p:=by refine c6 ?_;exact⟨_,rE1,_,_,G,G,j9 hr.symm⟩):=h
def d7O(h:p:=by refine u o3 ?_;exact⟨(i+1),J,⟨J,hr⟩,tu_,G⟩):=h
def d6a(h:q->p:=by intro Y;refine⟨⟨d8p,d6C,O⟩,?_⟩;refine C7 G G e3u ⟨⟨d8p,d6C,O⟩,?_⟩;exact Y):=h Y
def d7o(h:q->p:=by intro Y;refine u e3l ?_;refine qD (i0 G O O G j1 c8C i9 G G (nb G) ?_);exact Y):=h Y
def d6d(h:q->p:=by intro Y;refine qN [rbx T n3 a6 e6 ps b6 4,.dead,.dead,.dead,o0 e6 b6.length] G ?_;refine c6 ?_;exact Y):=h Y
def d7k(h:q->p:=by intro Y;refine⟨⟨d7Y,d7W,O⟩,?_⟩;refine C7 G G e29 ⟨⟨d7Y,d7W,O⟩,?_⟩;exact Y):=h Y
def b3R(h:q->p:=by intro Y;refine z_1 ?_;refine cY b6D ?_;refine cY A2 ?_;exact Y):=h Y
def d7P(h:q->p:=by intro Y;refine d2x ?_;refine D4 G G O G (λhg=>a1r G hg hg G G (b66 _ _)) ?_;exact Y):=h Y
def b34(h:q->p:=by intro Y;refine c7k ?_;refine z_0 ?_;exact Y):=h Y
def d7F(h:p:=by refine b58 ?_;exact⟨(_,p5+1),⟨do_,do_⟩,⟨⟨O,G⟩,⟨O,G⟩,⟨O,G⟩,⟨O,G⟩,⟨O,G⟩,⟨O,G⟩,⟨O,G⟩,O⟩,G⟩):=h
def d6s(h:q->p:=by intro Y;refine qD (i0 G O O G j1 c3N i9 G G (nb G) ?_);refine c6 ?_;exact Y):=h Y
def d1p(h:q->p:=by intro Y;refine qs 1 (qD (F4 G O j1 i9 ?_));exact Y):=h Y
def b6j(h:q->p:=by intro Y;refine hY a07 ?_;refine a3D ?_;exact Y):=h Y
def b5N(h:q->p:=by intro Y;refine b72 ?_;refine cY a7E ?_;exact Y):=h Y
def b6S(h:q->p:=by intro Y;refine a4b ?_;refine cY a14 ?_;exact Y):=h Y
def b5R(h:q->p:=by intro Y;refine cY Z5 ?_;refine c5I ?_;exact Y):=h Y
def d8b(h:q->p:=by intro Y;refine qD (i0 G O O G j1 b7b i9 G G (nb G) ?_);refine c6 ?_;exact Y):=h Y
def d8f(h:q->p:=by intro Y;refine hY (i7 G O G c5q G Tryz.sizeOf140 I) ?_;refine hY e3q ?_;exact Y):=h Y
def d7z(h:q->p:=by intro Y;refine hY (i7 G O G b1X G a7w I) ?_;refine hY a4v ?_;exact Y):=h Y
def d7V(h:p:=by refine V5 ?_;exact⟨_,rE1,_,_,G,G,j9 d6D⟩):=h
def d6l(h:q->p:=by intro Y;refine qN [rbx T n3 a3 e3 ps b 1,o0 e3 b.length,.box (tk T n).cells] G (u b0l ?_);refine qD (c4 G a4e D0 (M7 hb ⟨10,x2,0,[],[]⟩ _ ⟨G,G,I⟩) G ?_);exact Y):=h Y
def d6E(h:q->p:=by intro Y;refine chf G d6M ?_;refine chf G (c7 G (l9 G O G Tryz.isAgg92 G G)) ?_;exact Y):=h Y
def d6K(h:q->p:=by intro Y;refine hY (i7 G O G d1C G t_1 I) ?_;refine hY a0F ?_;exact Y):=h Y
def d8o(h:q->p:=by intro Y;refine hY (i7 G O G b9Z G t_1 I) ?_;refine hY a0F ?_;exact Y):=h Y
def c9z(h:q->p:=by intro Y;refine cD (F4 G O j1 i9 ?_);refine z_2 ?_;exact Y):=h Y
def d5U(h:p:=by refine V5 ?_;exact⟨_,rE1,_,_,G,G,B8 d6D⟩):=h
def d5Y(h:q->p:=by intro Y;refine hY (i7 G O G b8J G t_0 I) ?_;refine hY W7 ?_;exact Y):=h Y
end Go
