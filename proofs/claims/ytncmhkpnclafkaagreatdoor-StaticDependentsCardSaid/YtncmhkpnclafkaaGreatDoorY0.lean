/- Names for closed terms that are often repeated. -/
import Derived.WalkKit
import Derived.Test.YtncmhkpnclafkaaGreatDoorProg
set_option linter.all false
namespace Go
open Go.Proofs.Tryz
theorem O.{u}{α:Sort u}{a:α}:a=a:=rfl
abbrev t_0:=@sizeOf9
abbrev t_1:=@sizeOf3
abbrev t_2:=@runUnderlying68
abbrev t_3:=@zeroValue9
abbrev t_4:=@runUnderlying22
abbrev t_5:=@runUnderlying9
abbrev t_6:=@sizeOf83
abbrev t_7:=@zeroValue3
abbrev t_8:=@isAgg9
abbrev t_9:=@sizeOf49
abbrev a0k:=@runUnderlying29
abbrev a0R:=@runUnderlying159
abbrev a1q:=@zeroValue83
abbrev a1X:=@runUnderlying80
abbrev a2r:=@runUnderlying229
abbrev a2u:=@isAgg3
abbrev a2U:=@sizeOf5
abbrev a21:=@zeroValue49
abbrev a3a:=@call27
abbrev a3b:=@zeroValue205
abbrev a23:=@sizeOf68
abbrev a2Q:=@call232
abbrev a3Z:=@sizeOf205
abbrev a30:=@sizeOf104
abbrev a35:=@sizeOf99
abbrev a4C:=@zeroValue99
abbrev a4D:=@call263
abbrev a4y:=@call177
abbrev a4M:=@typeInfo9
abbrev a5y:=@call159
abbrev a41:=@sizeOf73
abbrev a6e:=@call157
abbrev a6l:=@runUnderlying99
abbrev a59:=@zeroValue5
abbrev a6K:=@call24
abbrev a68:=@zeroValue73
abbrev a7D:=@runUnderlying97
abbrev a7K:=@call175
abbrev a9d:=@sizeOf146
abbrev a8M:=@call223
abbrev a8S:=@runUnderlying23
abbrev a8T:=@runUnderlying205
abbrev a89:=@runUnderlying146
abbrev a92:=@call174
abbrev b0p:=@call173
abbrev a96:=@sizeOf40
abbrev b1B:=@sizeOf102
abbrev b1J:=@call254
abbrev b2k:=@zeroValue104
abbrev b1x:=@isAgg83
abbrev b2Y:=@zeroValue146
abbrev b29:=@call308
abbrev b20:=@sizeOf25
abbrev b6r:=@runUnderlying5
abbrev b6f:=@runUnderlying162
abbrev b6o:=@runUnderlying102
abbrev b5M:=@runUnderlying104
abbrev b55:=@runUnderlying225
abbrev b5g:=@runUnderlying83
abbrev b5I:=@call10
abbrev b6g:=@sizeOf318
abbrev b5S:=@isAgg49
abbrev b6i:=@runUnderlying37
abbrev b60:=@sizeOf22
abbrev b9J:=@isAgg99
abbrev b9f:=@call226
abbrev b7a:=@typeInfo5
abbrev b9l:=@call101
abbrev b8a:=@sizeOf4
abbrev c0r:=@runUnderlying151
abbrev b63:=@runUnderlying73
abbrev b7e:=@zeroValue40
abbrev c0D:=@runUnderlying49
abbrev c1f:=@call202
abbrev c1J:=@sizeOf42
abbrev c10:=@isAgg42
abbrev c0O:=@runUnderlying89
abbrev c2n:=@isAgg68
abbrev c11:=@runUnderlying315
abbrev c1t:=@call29
abbrev c7q:=@call91
abbrev c6J:=@call90
abbrev c6o:=@runUnderlying166
abbrev c6P:=@runUnderlying170
abbrev c59:=@call158
abbrev c66:=@call252
abbrev c7a:=@call160
abbrev c5w:=@typeInfo73
abbrev c7z:=@runUnderlying92
abbrev c6s:=@call304
abbrev c7u:=@isAgg22
abbrev c6k:=@sizeOf97
abbrev c6D:=@runUnderlying322
abbrev c5t:=@typeInfo49
abbrev c68:=@call82
abbrev c6y:=@zeroValue25
abbrev c6W:=@runUnderlying142
abbrev d1L:=@call123
abbrev d3r:=@call195
abbrev d0D:=@call161
abbrev b8X:=@typeInfo3
abbrev b72:=@call322
abbrev b9K:=@sizeOf173
abbrev b79:=@runUnderlying87
abbrev b83:=@call176
abbrev b7w:=@runUnderlying86
abbrev b74:=@sizeOf23
abbrev c0e:=@call77
abbrev c0u:=@sizeOf94
abbrev b7F:=@isAgg97
abbrev b62:=@sizeOf159
abbrev b8t:=@underlying3
abbrev b9G:=@isAgg4
abbrev c0b:=@zeroValue4
abbrev b6M:=@call234
abbrev c0s:=@isAgg29
abbrev b7K:=@sizeOf199
abbrev b9i:=@isAgg25
abbrev b69:=@isAgg205
abbrev c3L:=@runUnderlying3
abbrev c3w:=@runUnderlying183
abbrev c47:=@eqGuardType49
abbrev c3K:=@call171
abbrev c2E:=@typeInfo205
abbrev c3o:=@call156
abbrev c26:=@call198
abbrev c3O:=@runUnderlying239
abbrev c33:=@runUnderlying79
abbrev c4e:=@call326
abbrev c2K:=@call224
abbrev c28:=@zeroValue318
abbrev c2M:=@call273
abbrev c3H:=@func217
abbrev c4S:=@underlying0
abbrev c4B:=@isAgg0
abbrev c3C:=@sizeOf0
abbrev c5b:=@zeroValue0
abbrev c2D:=@underlying4
abbrev c2L:=@underlying5
abbrev c2H:=@isAgg5
abbrev c4I:=@underlying9
abbrev c2P:=@underlying221
abbrev c2T:=@isAgg221
abbrev c2z:=@sizeOf221
abbrev c5r:=@zeroValue221
abbrev c3F:=@underlying253
abbrev c2Z:=@isAgg253
abbrev c3B:=@sizeOf253
abbrev c5l:=@zeroValue253
abbrev c4b:=@underlying55
abbrev c3X:=@isAgg55
abbrev c2x:=@sizeOf55
abbrev c3e:=@zeroValue55
abbrev c25:=@call331
abbrev c5j:=@sizeOf29
abbrev c4G:=@typeInfo83
abbrev c3k:=@sizeOf80
abbrev c3n:=@call184
abbrev c4H:=@isAgg28
abbrev c3I:=@sizeOf28
abbrev c5h:=@runUnderlying199
abbrev c4Z:=@isAgg104
abbrev c3g:=@isAgg40
abbrev c8q:=@call122
abbrev d1e:=@call137
abbrev d1d:=@call117
abbrev d3J:=@call33
abbrev d3G:=@call196
abbrev d0E:=@call253
abbrev d0Y:=@call155
abbrev c9C:=@runUnderlying26
abbrev d3i:=@sizeOf79
abbrev d2b:=@runUnderlying173
abbrev d1T:=@zeroValue173
abbrev c7K:=@isAgg173
abbrev d0p:=@call86
abbrev d0X:=@call41
abbrev c9P:=@isAgg102
abbrev d1w:=@call264
abbrev d3v:=@call299
abbrev d1D:=@call336
abbrev d0H:=@call178
abbrev c8R:=@call34
abbrev d0T:=@isAgg30
abbrev d1v:=@call36
abbrev d1W:=@call76
abbrev c9U:=@zeroValue94
abbrev d2U:=@isAgg94
abbrev c77:=@isAgg92
abbrev d3N:=@isAgg318
abbrev d3I:=@func273
abbrev d2m:=@runUnderlying262
abbrev c7Y:=@call132
abbrev d3k:=@runUnderlying55
abbrev d2h:=@runUnderlying25
abbrev d2P:=@func168
abbrev d0l:=@func216
abbrev d2J:=@func258
abbrev c8S:=@func259
abbrev c89:=@underlying246
abbrev d0u:=@isAgg246
abbrev d3p:=@sizeOf246
abbrev c9M:=@zeroValue246
abbrev d0q:=@underlying247
abbrev c9L:=@isAgg247
abbrev c70:=@sizeOf247
abbrev d1u:=@zeroValue247
abbrev c9y:=@underlying188
abbrev d2f:=@isAgg188
abbrev d3F:=@sizeOf188
abbrev c9K:=@zeroValue188
abbrev c9j:=@underlying282
abbrev d0A:=@isAgg282
abbrev c9g:=@sizeOf282
abbrev c8k:=@zeroValue282
abbrev d2K:=@underlying286
abbrev c8B:=@isAgg286
abbrev d3H:=@sizeOf286
abbrev c8Z:=@zeroValue286
abbrev c8N:=@underlying312
abbrev d0d:=@isAgg312
abbrev d0w:=@sizeOf312
abbrev d0G:=@zeroValue312
abbrev d0V:=@underlying313
abbrev d3S:=@isAgg313
abbrev c8A:=@sizeOf313
abbrev c94:=@zeroValue313
abbrev d3t:=@isAgg80
abbrev d1r:=@call53
abbrev c93:=@zeroValue199
abbrev c9R:=@isAgg199
abbrev c9c:=@typeInfo40
abbrev c8O:=@call165
abbrev c8W:=@call83
abbrev d2F:=@call52
abbrev c7L:=@call13
abbrev d2D:=@runUnderlying32
abbrev d3d:=@runUnderlying40
abbrev d2c:=@sizeOf264
abbrev W:=@if_neg
abbrev Q:=@if_pos
abbrev n_2:=@List.getElem?_eq_some_iff
abbrev n_3:=@List.mem_of_getElem?
abbrev n_4:=@Nat.ne_of_beq_eq_false
abbrev n_5:=@Nat.zero_le
abbrev n_6:=@Nat.le_refl
abbrev n_7:=@congrArg
abbrev n_8:=@List.length_append
abbrev n_9:=@Option.bind_some
abbrev D3:=@List.length_cons
abbrev D6:=@List.mem_map
abbrev H5:=@List.append_assoc
abbrev J2:=@List.mem_cons
abbrev K5:=@List.mem_iff_getElem?
abbrev K6:=@List.length_map
abbrev K8:=@List.length_nil
abbrev O2:=@List.getElem?_map
abbrev O7:=@Nat.zero_add
abbrev Q1:=@Nat.add_mul
abbrev Q3:=@Option.map_eq_some_iff
abbrev S7:=@Nat.mul_le_mul_right
abbrev T7:=@List.getElem?_append_left
abbrev T5:=@Bool.and_eq_true
abbrev T9:=@List.mem_append
abbrev U2:=@List.take_of_length_le
abbrev Y0:=@List.drop_eq_getElem_cons
abbrev Y4:=@List.drop_eq_nil_of_le
abbrev Z6:=@Array.getD_eq_getD_getElem?
abbrev Z7:=@List.append_nil
abbrev Z2:=@List.take_add_one
abbrev a0S:=@List.getElem?_set_ne
abbrev a1a:=@Array.getElem?_eq_some_iff
abbrev a1c:=@List.getElem?_append_right
abbrev a1u:=@Nat.le_trans
abbrev a1t:=@Array.getElem?_eq_getElem
abbrev a1r:=@List.getElem?_eq_getElem
abbrev a1D:=@List.pairwise_cons
abbrev a13:=@List.mem_cons_of_mem
abbrev a2q:=@List.getElem?_take
abbrev a2t:=@decide_eq_true_eq
abbrev a2T:=@List.mem_singleton
abbrev a3H:=@Nat.eq_of_beq_eq_true
abbrev a3M:=@List.map_append
abbrev a3N:=@Int.toNat_natCast
abbrev a4a:=@decide_eq_true
abbrev a3U:=@decide_eq_false
abbrev a4x:=@Nat.lt_or_ge
abbrev a6b:=@List.all_eq_true
abbrev a6d:=@List.getElem?_drop
abbrev a6i:=@Nat.mod_lt
abbrev a57:=@List.take_length
abbrev a6O:=@List.getElem?_append
abbrev a6M:=@List.length_pos_iff
abbrev a7e:=@List.mem_filter
abbrev a6Y:=@List.take_succ_cons
abbrev a7Y:=@List.length_take
abbrev a7V:=@List.getD_eq_getElem?_getD
abbrev a7j:=@List.nil_append
abbrev a84:=@Option.getD_some
abbrev a85:=@Nat.add_zero
abbrev a8C:=@List.map_cons
abbrev a8P:=@List.mem_of_mem_take
abbrev a8X:=@List.getElem?_set
abbrev a80:=@Bool.or_eq_true
abbrev a8E:=@Nat.lt_of_lt_of_le
abbrev b0q:=@Array.getElem?_eq_none
abbrev b0d:=@Array.length_toList
abbrev b0e:=@List.getElem?_set_self
abbrev b0k:=@List.drop_zero
abbrev b0l:=@List.not_mem_nil
abbrev b0r:=@List.mem_cons_self
abbrev b0a:=@Int.le_refl
abbrev b2q:=@Nat.blt_eq
abbrev b14:=@List.mem_of_mem_drop
abbrev b2z:=@Nat.add_assoc
abbrev b09:=@Bool.false_eq_true
abbrev b1d:=@decide_eq_false_iff_not
abbrev b2n:=@List.filter_cons
abbrev b13:=@List.cons_append
abbrev b3j:=@Bool.false_ne_true
abbrev b3c:=@List.mem_flatMap
abbrev b3e:=@List.getElem?_concat_length
abbrev b5x:=@Array.mem_of_getElem?
abbrev b5v:=@Array.ext_getElem?
abbrev b6p:=@List.length_mergeSort
abbrev b6P:=@Array.getElem?_setIfInBounds_ne
abbrev b7d:=@Array.getElem?_append
abbrev b9s:=@World.size_alloc
abbrev c0q:=@Array.getElem?_modify
abbrev b9a:=@Nat.eq_zero_or_pos
abbrev b6T:=@Nat.le_of_eq
abbrev b9E:=@Bool.not_eq_true'
abbrev b9b:=@Nat.sub_self
abbrev b8i:=@UInt8.toNat_inj
abbrev b8U:=@List.takeWhile_cons
abbrev b76:=@List.length_filter_le
abbrev c0X:=@List.getElem?_eq_none
abbrev c0G:=@Array.getElem?_map
abbrev c1p:=@List.eq_nil_of_length_eq_zero
abbrev b02:=@List.ext_getElem?
abbrev b17:=@Nat.mul_one
abbrev b1Y:=@Option.isSome_iff_exists
abbrev b1s:=@List.take_append_getElem
abbrev b1k:=@Bool.true_and
abbrev b2P:=@decide_eq_decide
abbrev b12:=@Bool.and_assoc
abbrev b1Q:=@List.filter_cons_of_pos
abbrev b3z:=@List.getElem_mem
abbrev b4Z:=@List.foldl_cons
abbrev b4F:=@List.mem_append_left
abbrev b3B:=@Nat.mod_eq_of_lt
abbrev b3E:=@Nat.mul_comm
abbrev b4C:=@Array.getElem?_append_left
abbrev b3L:=@Array.size_append
abbrev b4i:=@List.take_append_drop
abbrev b4b:=@List.length_drop
abbrev b3n:=@Option.map_eq_none_iff
abbrev b3M:=@List.pairwise_map
abbrev b4J:=@of_decide_eq_true
abbrev b3U:=@List.mergeSort_perm
abbrev b35:=@List.flatMap_cons
abbrev b4r:=@List.filter_append
abbrev b99:=@Array.getElem?_push
abbrev b8R:=@List.isEmpty_iff
abbrev b95:=@Option.map_some
abbrev b7l:=@List.all_cons
abbrev b6Y:=@UInt8.lt_iff_toNat_lt
abbrev b9r:=@List.isPrefixOf_iff_prefix
abbrev b8V:=@List.drop_length
abbrev c0i:=@List.length_singleton
abbrev b7j:=@List.set_append_right
abbrev b7O:=@List.filter_cons_of_neg
abbrev c3r:=@Bool.eq_false_iff
abbrev c3p:=@List.any_eq_true
abbrev c5f:=@List.cons_ne_nil
abbrev c42:=@List.getElem?_cons_succ
abbrev c2B:=@Bool.or_eq_false_iff
abbrev c4w:=@List.foldl_append
abbrev c49:=@List.mem_of_find?_eq_some
abbrev c3V:=@List.nodup_iff_pairwise_ne
abbrev c4Q:=@List.nodup_append
abbrev c2X:=@List.set_append_left
abbrev c37:=@List.pairwise_mergeSort
abbrev c5o:=@Nat.sub_add_cancel
abbrev d1o:=@List.getElem?_replicate
abbrev c7T:=@Int.tdiv_eq_ediv_of_nonneg
abbrev d3X:=@Option.bind_eq_some_iff
abbrev c8X:=@Array.getElem?_setIfInBounds
abbrev c78:=@List.mem_eraseIdx_iff_getElem?
abbrev c90:=@List.length_eraseIdx_of_lt
abbrev c9p:=@Nat.add_sub_cancel_left
abbrev d2O:=@List.perm_ext_iff_of_nodup
def Qz(q:Prop):Prop:=True->q
variable{p q:Prop}(Ji:q)
theorem nb{a b:Nat}(h:Nat.ble a b=true):a <= b:=Nat.le_of_ble_eq_true h
theorem J:True:=True.intro
def q_0(h:p:=by exact⟨⟨J,(by first|exact ur_|exact(by first|exact b3r _ O|exact .same O (T8 [] _).old |(rw[a2B ee];exact .vec O)|(rw[a2B fG,hNn];exact .vec O)))⟩,⟨J,(by first|exact ur_|exact(by first|exact b3r _ O|exact .same O (T8 [] _).old |(rw[a2B ee];exact .vec O)|(rw[a2B fG,hNn];exact .vec O)))⟩,⟨J,(by first|exact ur_|exact(by first|exact b3r _ O|exact .same O (T8 [] _).old |(rw[a2B ee];exact .vec O)|(rw[a2B fG,hNn];exact .vec O)))⟩,⟨J,(by first|exact ur_|exact(by first|exact b3r _ O|exact .same O (T8 [] _).old |(rw[a2B ee];exact .vec O)|(rw[a2B fG,hNn];exact .vec O)))⟩,⟨J,(by first|exact ur_|exact(by first|exact b3r _ O|exact .same O (T8 [] _).old |(rw[a2B ee];exact .vec O)|(rw[a2B fG,hNn];exact .vec O)))⟩,J⟩):=h
def q_1(h:p:=by exact⟨⟨J,(by first|exact ur_|exact .same O (F3 (f:=nmC) Y3 [] false).old)⟩,⟨J,(by first|exact ur_|exact .same O (F3 (f:=nmC) Y3 [] false).old)⟩,⟨J,(by first|exact ur_|exact .same O (F3 (f:=nmC) Y3 [] false).old)⟩,⟨J,(by first|exact ur_|exact .same O (F3 (f:=nmC) Y3 [] false).old)⟩,J⟩):=h
def q_2(h:p:=by exact⟨⟨x6,n3,a6,e6,b6⟩,U9 (k:=4) O O H (.val _),⟨by rw[ah];exact k1.bindX (λi hi=>by rw[W (by rw[bi];decide),bi];exact k3.bindX (λj hj=>a2m (by rw[hi,hj];exact k6)) k6.2) λh=>absurd O h,y3,w6,λh0=>by have:=z3 (k6.alive h0).1;have:=z1 O;dsimp only at h0⊢;omega,l6,u6⟩⟩):=h
def q_3(h:p:=by exact(a43 O (by first|exact a2b (by intro a;rfl) _|(intro r hr;simp at hr;done)|(intro r hr;simp at hr;subst hr;rfl)|(intro r hr;exact a2b (by intro a;rfl) _ r (a8P (b14 hr)))|(intro r hr;simp at hr;obtain⟨a,_,rfl⟩:=hr;rfl)))):=h
def q_4(h:p:=by rw[b1X,hx,Q O];exact⟨(),.ret (.old (.tup λi c hi=>by rcases i with _|_|_|i<;>first|(injection hi with hi;subst hi;first|exact .val _|exact(o0 (cs:=[_,_,_,_]) ⟨.val _,.val _,.val _,.val _,J⟩).old)|cases hi)),J⟩):=h
def q_5(h:p:=by rw[b1X,hx,W H];exact⟨(),.ret (.old (.tup λi c hi=>by rcases i with _|_|_|i<;>first|(injection hi with hi;subst hi;first|exact .val _|exact(o0 (cs:=[_,_,_,_]) ⟨.val _,.val _,.val _,.val _,J⟩).old)|cases hi)),J⟩):=h
def q_6(h:p:=by exact⟨⟨J,(by first|exact ur_|exact a1o _ O)⟩,⟨J,(by first|exact ur_|exact a1o _ O)⟩,⟨J,(by first|exact ur_|exact a1o _ O)⟩,⟨J,(by first|exact ur_|exact a1o _ O)⟩,⟨J,(by first|exact ur_|exact a1o _ O)⟩,J⟩):=h
def q_7(h:p:=by first|exact a2b (by intro a;rfl) _|assumption|(intro r hr;exact a2b (by intro a;rfl) _ r (a8P (b14 hr)))|(intro r hr;simp at hr;obtain⟨a,_,rfl⟩:=hr;rfl)):=h
def q_8(h:p:=by exact(λhg=>r6 O hg hg O O a1X t_6 (by first|omega|(simp at hg;omega)) (j5 (f:=En.cells) (show([]:List En)[_]?=some (fiE L d.k x.2.pkg d.name) by simp at hg)) O)):=h
def q_9(h:p:=by exact(A9 (([[43],[45],[42],[47],[37],[60],[61,61]]:List I).map scv) O ⟨O,O,O,O,O,O,O,J⟩ t_2 t_0 t_3 O O O O O O O O O)):=h
def e1X(h:p:=by exact(N3 (kc:=sv) (vc:=vcS) (l:=c.ms) (a:=x.pl) (c:=vcS s) b5Y O J J O O b7w a4C O O (show((glk c.ms x.pl).map vcS).getD _=vcS s by rw[hd1];rfl))):=h
def V5(h:p:=by exact⟨J,(by first|exact ur_|exact(by first|exact b3r _ O|exact .same O (T8 [] _).old |(rw[a2B ee];exact .vec O)|(rw[a2B fG,hNn];exact .vec O)))⟩):=h
def d9C(h:p:=by exact⟨⟨J,_,_,_,O,O,.inr ⟨_,b9J,a35,nb O,O⟩⟩,⟨J,_,_,_,O,O,.inl ⟨a2u,O⟩⟩,⟨J,_,_,_,O,O,.inl ⟨c10,O⟩⟩,J⟩):=h
def e1Y(h:p:=by exact(b05 O J J (xs:=[.int .i64 y.k,.string (str y.a),.string (str y.b)]) (ys:=[.int .i64 k.k,.string (str k.a),.string (str k.b)]) O O c47 (c4K y k))):=h
def e1E(h:p:=by exact⟨do_,do_,do_,by dsimp only;simp only[n_8];omega,by dsimp only;simp only[n_8,D3,K8];omega,do_,do_⟩):=h
def e3h(h:p:=by exact(c8 O (A1 #[(0,1),(1,1),(2,1),(3,1),(4,1)] O ⟨J,J,J,J,J⟩ c0O Tryz.zeroValue89 O ⟨_,O⟩ (λw=>by kernel_rfl) O O))):=h
def e1x(h:p:=by exact(r6 O J J O O t_4 t_1 G (j5 (by rw[show(((m+1:Nat):Int) -1).toNat =m by omega,cb.args];exact Z5 hc)) O)):=h
def d5i(h:p:=by exact⟨⟨J,(by conv=>lhs;whnf)⟩,⟨J,_,_,_,O,O,.inr ⟨_,b1x,t_6,nb O,O⟩⟩,⟨J,(by conv=>lhs;whnf)⟩,⟨J,(by conv=>lhs;whnf)⟩,J⟩):=h
def e1V(h:p:=by exact⟨⟨J,ur_⟩,⟨J,ur_⟩,⟨J,ur_⟩,⟨J,(by first|exact ur_|exact .same (n_7 (λz:Int=>iv z) (by show _=((R3 s i1:Nat):Int);omega)) uo_)⟩,J⟩):=h
def e2a(h:p:=by exact(c5 O Tryz.call109 ⟨J,J,J,J⟩ (c6r (w:=0) (q1:=1) (q2:=2) (t:=3) ⟨O,O,O,O,a1s ⟨H,H,H,H,H,H⟩⟩ s y G) O)):=h
def e22(h:p:=by exact(A1 #[(0,1),(1,1),(2,1),(3,1),(4,1),(5,1)] O ⟨J,J,J,J⟩ b5g a1q O ⟨_,O⟩ (λw=>by kernel_rfl) O O)):=h
def e2w(h:p:=by exact(c8 O (A1 #[(0,1),(1,1),(2,1),(3,1),(4,1),(5,1)] O J b5g a1q O ⟨_,O⟩ (λw=>by kernel_rfl) O O))):=h
def e2H(h:p:=by rw[hh,hr];exact⟨(),.ret (.old (.tup λi c hi=>by rcases i with _|_|i<;>first|(injection hi with hi;subst hi;exact .val _)|cases hi)),J⟩):=h
def c6i(h:p:=by exact(A1 #[(0,1),(1,1),(2,1),(3,1),(4,1)] O ⟨O,J,J,J⟩ a89 b2Y O ⟨_,O⟩ (λw=>by kernel_rfl) O O)):=h
def e2j(h:p:=by rw[a3M,List.map_replicate];unfold J7;rw[Y4 (by simp;omega),Z7,O7,<- List.map_take];rfl):=h
def e2T(h:p:=by exact(λhg=>X1 O hg hg O O a1X t_6 O (by first|omega|(simp at hg;omega)) (by first|omega|(simp at hg;omega)))):=h
def a4R(h:p:=by first|omega|(simp only[O0,D3,K8]at hb⊢;omega)|(simp only[O0,D3,K8];omega)):=h
def b0P(h:p:=by exact(A1 #[(0,1),(1,1),(2,1),(3,1),(4,1)] O ⟨O,J,J⟩ a89 b2Y O ⟨_,O⟩ (λw=>by kernel_rfl) O O)):=h
def e3b(h:p:=by exact(A1 #[(0,1),(1,1),(2,1),(3,1),(4,1)] O ⟨J,J,J⟩ a89 b2Y O ⟨_,O⟩ (λw=>by kernel_rfl) O O)):=h
def e2S(h:p:=by exact(a3O (vc:=vcE) (l:=me) (a:=(C0 x.k x.p x.o)) d6u O J J O O b79 a1q O O (a5J En.z O _))):=h
def d5u(h:p:=by exact(A1 #[(0,1),(1,1),(2,1),(3,1)] O ⟨O,J,J,J⟩ a8T a3b O ⟨_,O⟩ (λw=>by kernel_rfl) O O)):=h
def d6Y(h:p:=by exact(A1 #[(0,1),(1,1),(2,1),(3,1),(4,1),(5,1)] O J b5g a1q O ⟨_,O⟩ (λw=>by kernel_rfl) O O)):=h
def e3k(h:p:=by exact(c8 O (N3 (vc:=sv) (l:=S0) (a:=o) a0D O J J O O a2r t_3 O O (a5J ([]:I) O _)))):=h
def c1v(h:p:=by exact(A1 #[(0,1),(1,1),(2,1),(3,1)] O ⟨O,J,J⟩ a8T a3b O ⟨_,O⟩ (λw=>by kernel_rfl) O O)):=h
def e2o(h:p:=by exact(a3O (vc:=vcE) (l:=me) (a:=(C0 k p o)) d6u O J J O O b79 a1q O O (a5J En.z O _))):=h
def e3g(h:p:=by exact(λhg=>M9 O hg hg O O t_5 (by first|omega|(simp at hg;omega)) (by rw[a3N];exact hc (sm_ hg)))):=h
def e1p(h:p:=by exact(A9 [En.cells (fiE L d.k x.2.pkg d.name)] O ⟨J,J⟩ a1X t_6 a1q O O O O O O O O O)):=h
def d9Q(h:p:=by exact(I8 O J O b1x t_6 (by first|exact I2 hq _|exact a03 _ _|exact ce|exact aE|exact hq3 _) (nb O))):=h
def e26(h:p:=by exact(λhg=>r6 O hg hg O O a8S a41 (by first|omega|(simp at hg;omega)) (j5 (hp (sm_ hg)).1) O)):=h
def b1H(h:p:=by exact⟨⟨J,_,_,_,O,O,.inr ⟨_,b69,a3Z,nb O,O⟩⟩,⟨J,(by conv=>lhs;whnf)⟩,⟨J,(by conv=>lhs;whnf)⟩,J⟩):=h
def e3q(h:p:=by exact(A1 #[(0,1),(1,1),(2,1)] O ⟨J,J,J,J⟩ d2b d1T O ⟨_,O⟩ (λw=>by kernel_rfl) O O)):=h
def e1Z(h:p:=by exact(A9 [Src.cv ((a6W l y.p).getD Src.z)] O ⟨J,J⟩ c7z a35 a4C O O O O O O O O O)):=h
def e1d(h:p:=by exact(A1 #[(0,1),(1,1),(2,1)] O ⟨O,J,J,J⟩ c0D a21 O ⟨_,O⟩ (λw=>by kernel_rfl) O O)):=h
def d4p(h:p:=by exact(c8 O (A1 #[(0,1),(1,1)] O ⟨J,J,J⟩ b63 a68 O ⟨_,O⟩ (λw=>by kernel_rfl) O O))):=h
def e00(h:p:=by exact⟨⟨J,_,_,_,O,O,.inr ⟨_,b9J,a35,nb O,O⟩⟩,⟨J,(by conv=>lhs;whnf)⟩,⟨J,(by conv=>lhs;whnf)⟩,J⟩):=h
def e08(h:p:=by exact⟨⟨J,_,_,_,O,O,.inr ⟨_,b1x,t_6,nb O,O⟩⟩,⟨J,(by conv=>lhs;whnf)⟩,⟨J,(by conv=>lhs;whnf)⟩,J⟩):=h
def e0k(h:p:=by exact(c8 O (A1 #[(0,1),(1,1),(2,1)] O J a6l a4C O ⟨_,O⟩ (λw=>by kernel_rfl) O O))):=h
def e0t(h:p:=by exact(A1 #[(0,1),(1,1),(2,1)] O ⟨O,J,J⟩ c0D a21 O ⟨_,O⟩ (λw=>by kernel_rfl) O O)):=h
def e2L(h:p:=by exact(a3O (vc:=vcS) (l:=ms) (a:=y.p) b5Y O J J O O b7w a4C O O (a5J Src.z O _))):=h
def d6s(h:p:=by exact(A1 #[(0,1),(1,1),(2,1),(3,1)] O J a8T a3b O ⟨_,O⟩ (λw=>by kernel_rfl) O O)):=h
def e0W(h:p:=by exact(λhg=>M9 O hg hg O O t_5 (by first|omega|(simp at hg;omega)) (by rw[a3N];exact hb))):=h
def e2f(h:p:=by exact(N3 (vc:=kv) (l:=m) (a:=(b.toNat :Int)) d4H O J J O O c3w t_7 O O (b6G _ _))):=h
def e2l(h:p:=by exact(λhg=>M9 O hg O O O t_5 (by first|omega|(simp at hg;omega)) (b:=s.headD 0) (d1F (sm_ hg)))):=h
def e1B(h:p:=by exact(λhg=>M9 O hg hg O O t_5 (by first|omega|(simp at hg;omega)) (b:=s[e]?.getD 0) (c1a (sm_ hg)))):=h
def e2x(h:p:=by exact(A9 (a1I.map scv) O ⟨O,O,O,J⟩ t_2 t_0 t_3 O O O O O O O O O)):=h
def d5d(h:p:=by exact .ret (.tups ⟨.old (c:=.agg ((⟨[],[],[]⟩:Src)).cells) (o0 (Src.pure _)).old,.old (.val _),.old (.val _),J⟩)):=h
def e1K(h:p:=by exact(c8 O (A9 [Ex.cv x] O ⟨J,J⟩ b6o a9d b2Y O O O O O O O O O))):=h
def e29(h:p:=by exact(c8 O (A9 [De.cv d] O ⟨J,J⟩ a7D a30 b2k O O O O O O O O O))):=h
def e1w(h:p:=by exact(A1 #[(0,1),(1,1)] O ⟨O,O,J⟩ d3d b7e O ⟨_,O⟩ (λw=>by kernel_rfl) O O)):=h
def e21(h:p:=by exact(A1 #[(0,1),(1,1)] O ⟨J,J,J⟩ d3d b7e O ⟨_,O⟩ (λw=>by kernel_rfl) O O)):=h
def e1r(h:p:=by exact(A9 ([x1,x3].map icv) O ⟨J,J,J⟩ t_4 t_1 t_7 O O O O O O O O O)):=h
def e3n(h:p:=by exact(A9 ([x,x3].map icv) O ⟨J,J,J⟩ t_4 t_1 t_7 O O O O O O O O O)):=h
def e2R(h:p:=by exact(c8 O (A9 [scv y.p] O ⟨J,J⟩ t_2 t_0 t_3 O O O O O O O O O))):=h
def e3o(h:p:=by exact(j9 O J O Tryz.isAgg140 (by first|exact I2 hq _|exact a03 _ _|exact ce|exact aE|exact hq3 _) O)):=h
def e3j(h:p:=by exact(c8 O (A9 [icv x3] O ⟨J,J⟩ t_4 t_1 t_7 O O O O O O O O O))):=h
def e2u(h:p:=by exact(A9 [nmC (y.p,y.o)] O ⟨J,J⟩ b6i a96 b7e O O O O O O O O O)):=h
def d4e(h:p:=by first|exact X9 _ _|exact P7 _ _ _|exact W8 _ _ _|exact C4 _ _ _|exact a0O _ _ _):=h
def e2v(h:p:=by exact(r6 O J J O O b6o a9d G (j5 (by rw[hmi,dK];exact eX.he)) O)):=h
def e1N(h:p:=by exact(λhg=>j9 O hg O t_8 (by first|exact a03 _ _|exact I2 hq _|exact I2 hs _) O)):=h
def e0m(h:p:=by exact(λhg=>a8s O hg O O O (by first|omega|(simp at hg;omega)) (by first|omega|(simp at hg;omega)))):=h
def d5p(h:p:=by exact(A9 [Fi.cv y] O ⟨J,J⟩ a8S a41 a68 O O O O O O O O O)):=h
def e1k(h:p:=by exact(A9 [Fi.cv f] O ⟨J,J⟩ a8S a41 a68 O O O O O O O O O)):=h
def e1y(h:p:=by exact(λhg=>b8T O hg O O O (by first|omega|(simp at hg;omega)) (by first|omega|(simp at hg;omega)))):=h
def e2i(h:p:=by exact⟨by show List.length _ <= _;simp only[n_8,D3,K8];omega,O⟩):=h
def e17(h:p:=by exact .inl ⟨n+1,a0Q O (.tup λi c h=>by simp at h),by rw[pIs,Q hb],hW n hn (a67 hb H)⟩):=h
def e1I(h:p:=by exact(c5 O a7K ⟨J,J⟩ (a0v hT hm (q:=0) (s:=kf ph) (by cases ph<;>exact⟨O,O,H⟩)) O)):=h
def d5c(h:p:=by exact(A9 [scv s6] O ⟨J,J⟩ t_2 t_0 t_3 O O O O O O O O O)):=h
def e1g(h:p:=by exact(A9 [bcv c] O ⟨J,J⟩ a0R a2U a59 O O O O O O O O O)):=h
def e1C(h:p:=by exact(c8 O (L3 O J O O O (by show([32]++sgn o:I).length +1 <= _;rw[O0];simp;omega)))):=h
def e1m(h:p:=by exact⟨⟨J,_,_,_,O,O,.inr ⟨_,b9J,a35,nb O,O⟩⟩,⟨J,(by conv=>lhs;whnf)⟩,J⟩):=h
def e2g(h:p:=by exact(A1 #[(0,1)] O J Tryz.runUnderlying28 Tryz.zeroValue28 O ⟨_,O⟩ (λw=>by kernel_rfl) O O)):=h
def e1G(h:p:=by exact⟨⟨J,(by first|exact ur_|exact a1o _ O)⟩,⟨J,(by first|exact ur_|exact a1o _ O)⟩,J⟩):=h
def e1W(h:p:=by rw[eT];simp only[<- H5 b];exact b4t (k:=6) O O H (F5 _ _ _ _ _) a3C):=h
def e2B(h:p:=by rw[eT];simp only[<- H5 b];exact b4t (k:=5) O O H (F5 _ _ _ _ _) a3C):=h
def e2A(h:p:=by exact(j9 O J O a2u (by first|exact a03 _ _|exact I2 hq _|exact I2 hs _) O)):=h
def e1l(h:p:=by exact(λhg=>a2a O hg O b1x t_6 O (a7O (j5 (hy (sm_ hg))) G) (nb O))):=h
def e2m(h:p:=by exact(λhg=>M9 O hg hg O O t_5 (by first|omega|(simp at hg;omega)) hb)):=h
def b67(h:p:=by show List.length _ <= _;simp only[n_8,D3,K8];omega):=h
def e2p(h:p:=by cases ph;exact U9 (k:=2) O O H (.val _);exact U9 (k:=3) O O H (.val _)):=h
def e1o(h:p:=by exact⟨⟨x,m,a2,e,b2⟩,a5E he O (.val _),.dead (λ_=>hN he) he hm cg ⟨bh,aE⟩⟩):=h
def e3p(h:p:=by exact .inl ⟨(i,m,b2),Z4 O O (nb O) (.val _),by rw[ah];exact g1,do_,g3,g4⟩):=h
def e1c(h:p:=by exact(λhg=>c5 O a7K ⟨hg,J⟩ (a0v hT hm (q:=2) (s:=0) ⟨O,O,H⟩) O)):=h
def d4R(h:p:=by have hb:Tryz.t205.bytes =40:=O;rw[hb];first|omega|(simp;done)|(simp;omega)):=h
def d9F(h:p:=by exact(r6 O J O O O t_4 t_1 G (j5 (Z5 g0)) O)):=h
def e0X(h:p:=by first|omega|(simp at hk hg;omega)|(change (_:Bool)=_ at hk;simp at hk hg;omega)):=h
def c7J(h:p:=by have hb:Tryz.t73.bytes =32:=O;rw[hb];first|omega|(simp;done)|(simp;omega)):=h
def d9B(h:p:=by have hb:Tryz.t40.bytes =32:=O;rw[hb];first|omega|(simp;done)|(simp;omega)):=h
def a24(h:p:=by exact⟨J,_,_,O,by first|omega|(simp at hg;omega),by first|omega|(simp at hg;omega)⟩):=h
def a6h(h:p:=by have hb:Tryz.t9.bytes =16:=O;rw[hb];first|omega|(simp;done)|(simp;omega)):=h
def e2O(h:p:=by exact(c5 O c7a ⟨J,J⟩ (a3t hT hn ⟨O,O,n_4 O⟩) O)):=h
def b3P(h:p:=by exact⟨⟨J,(by conv=>lhs;whnf)⟩,⟨J,(by conv=>lhs;whnf)⟩,⟨J,(by conv=>lhs;whnf)⟩,J⟩):=h
def b4G(h:p:=by exact(L3 O J O O O (by simp only[O0,D3,K8];omega))):=h
def c8D(h:p:=by have hb:Tryz.t3.bytes =8:=O;rw[hb];first|omega|(simp;done)|(simp;omega)):=h
def d3h(h:p:=by exact(P0 O J O a2u O (by rw[hmi];simpa using j5 (f:=icv) hv) O)):=h
def b4q(h:p:=by exact⟨J,(by first|exact ur_|exact .same O (F3 (f:=nmC) Y3 [] false).old)⟩):=h
def d1S(h:p:=by exact(c5 O Tryz.call125 ⟨J,J,J⟩ (b7g (a34 ao _) _ (bz.find _ _ _)) O)):=h
def d2v(h:p:=by exact(λhg=>X5 O hg O b6o (by first|exact Z1 _ _|rfl) O)):=h
def b7A(h:p:=by exact(M9 O J J O O t_5 G (by rw[a3N];exact hb))):=h
def b4n(h:p:=by exact c8 O (j3 O J O c6D O d2c H)):=h
def b8W(h:p:=by exact(L3 O O J O O (by simp only[D3,K8];omega))):=h
def c22(h:p:=by exact(r6 O J J O O a7D a30 G (j5 hd) O)):=h
def d7k(h:p:=by exact c8 O (j3 O J O a89 O b60 H)):=h
def d0s(h:p:=by exact(L3 O J O O O (by simp only[D3,K8];omega))):=h
def d8r(h:p:=by exact(r6 O J J O O a8S a41 G (j5 hb) O)):=h
def d7n(h:p:=by exact c8 O (j3 O J O a6l O c6k H)):=h
def a4u(h:p:=by exact(r6 O J J O O t_2 t_0 G (j5 hb) O)):=h
def a6E(h:p:=by exact c8 O (j3 O J O b63 O t_0 H)):=h
def e24(h:p:=by exact .inl ⟨(i6,n5,b6),Z4 O O (nb O) (.val _),ah,do_,fY,y6⟩):=h
def c9n(h:p:=by exact(r6 O J J O O t_2 t_0 G (j5 hy) O)):=h
def b4o(h:p:=by exact c8 O (I8 O J O b69 a3Z O (nb O))):=h
def a4k(h:p:=by exact(X5 O J O b6o (by first|exact Z1 _ _|rfl) O)):=h
def a9U(h:p:=by exact(X5 O J O a0R (by first|exact Z1 _ _|rfl) O)):=h
def P5(h:p:=by exact(X5 O J O t_2 (by first|exact Z1 _ _|rfl) O)):=h
def a11(h:p:=by exact c8 O (I8 O J O b9i b20 O (nb O))):=h
def a08(h:p:=by exact(X5 O J O a8S (by first|exact Z1 _ _|rfl) O)):=h
def a4V(h:p:=by exact(X5 O J O t_4 (by first|exact Z1 _ _|rfl) O)):=h
def a6w(h:p:=by exact(X5 O J O a7D (by first|exact Z1 _ _|rfl) O)):=h
def b8O(h:p:=by exact(X5 O J O a0k (by first|exact Z1 _ _|rfl) O)):=h
def c3m(h:p:=by exact(λhg=>c5 O a7K ⟨hg,J⟩ (a0v hT hn ⟨O,O,H⟩) O)):=h
def c5d(h:p:=by exact(X5 O J O a1X (by first|exact Z1 _ _|rfl) O)):=h
def c3Z(h:p:=by exact(X5 O J O b6i (by first|exact Z1 _ _|rfl) O)):=h
def c87(h:p:=by exact(X5 O J O c9C (by first|exact Z1 _ _|rfl) O)):=h
def d2G(h:p:=by exact(e1S O J O a0R t_5 b6r)):=h
def b3F(h:p:=by exact⟨J,_,_,_,O,O,.inr ⟨_,b69,a3Z,nb O,O⟩⟩):=h
def c8b(h:p:=by exact⟨J,_,_,_,O,O,.inr ⟨_,c4Z,a30,nb O,O⟩⟩):=h
def d1P(h:p:=by exact(c8 O (j3 O J O c6D O d2c H))):=h
def b4U(h:p:=by exact(X1 O J J O O a0k t_9 O G G)):=h
def d8w(h:p:=by exact(c8 O (j3 O J O a89 O b60 H))):=h
def a4j(h:p:=by exact⟨J,_,_,_,O,O,.inr ⟨_,b9i,b20,nb O,O⟩⟩):=h
def a4Q(h:p:=by exact(X1 O J J O O t_4 t_1 O G G)):=h
def c3x(h:p:=by exact⟨J,_,_,_,O,O,.inr ⟨_,b1x,t_6,nb O,O⟩⟩):=h
def a9N(h:p:=by exact⟨J,_,_,_,O,O,.inr ⟨_,b5S,t_9,nb O,O⟩⟩):=h
def a9Y(h:p:=by exact(X1 O J J O O t_2 t_0 O G G)):=h
def c3h(h:p:=by exact(c8 O (j3 O J O a6l O c6k H))):=h
def c8Q(h:p:=by simp only[O0,D3,K8]at hbm⊢;omega):=h
def d3f(h:p:=by rw[eT];exact b4t (k:=3) O O H (F5 _ _ _ _ _) a3C):=h
def e1Q(h:p:=by exact(c8 O (j3 O J O b63 O t_0 H))):=h
def c3Q(h:p:=by exact(c8 O (L3 O J O O O (by first|omega|(simp;omega))))):=h
def c4U(h:p:=by exact(λhg=>a3x O hg O a8T O a2u O)):=h
def e2h(h:p:=by exact(λhg=>a3I O hg O b63 O t_0 H)):=h
def c7S(h:p:=by exact(c8 O (j3 O J O b5g O t_0 H))):=h
def d2e(h:p:=by exact(λhg=>a3x O hg O a8T O t_8 O)):=h
def e2K(h:p:=by exact(λhg=>j3 O J O a89 O t_1 H)):=h
def d7e(h:p:=by exact(c8 O (L3 O J J O O (by first|omega|(simp;omega))))):=h
def b70(h:p:=by exact(λhg=>j3 O J O a8T O t_0 H)):=h
def b9N(h:p:=by exact⟨J,(by first|exact ur_|exact .same O (a0O _ ([]:I) _))⟩):=h
def e1O(h:p:=by exact(λhg=>j3 O J O d2h O b74 H)):=h
def c4F(h:p:=by exact(λhg=>j3 O J O a89 O t_0 H)):=h
def c3N(h:p:=by exact(λhg=>j3 O J O b5M O t_0 H)):=h
def d0B(h:p:=by exact(λhg=>j3 O J O a8T O t_1 H)):=h
def d2A(h:p:=by exact(λhg=>j3 O J O b63 O t_0 H)):=h
def b7U(h:p:=by exact(c5 O c7a ⟨J,J⟩ (a3t hT hn ⟨O,O,H⟩) O)):=h
def e2G(h:p:=by exact(λhg=>j3 O J O c0D O t_0 H)):=h
def d3K(h:p:=by exact(λhg=>j3 O J O a6l O t_0 H)):=h
def d3A(h:p:=by exact(λhg=>j3 O J O b5g O t_1 H)):=h
def d0I(h:p:=by exact(c8 O (I8 O J O b9i b20 O (nb O)))):=h
def a9I(h:p:=by injection h1 with h1;injection h2 with h2;exact h1.symm.trans h2):=h
def c8j(h:p:=by exact(c8 O (I8 O J O b9J a35 O (nb O)))):=h
def b9z(h:p:=by exact(c5 O a7K ⟨J,J⟩ (a0v hT hn ⟨O,O,H⟩) O)):=h
def d1g(h:p:=by exact(a8O O J O hg ⟨J,J⟩ (Jf y (n_3 hb)) O)):=h
def c4W(h:p:=by exact(λhg=>b1y O hg O (λhp=>⟨hg,hp⟩) (λ_=>rfl))):=h
def c9m(h:p:=by exact(λhg=>I8 O J O b1x t_6 O (nb O))):=h
def c8f(h:p:=by exact(λhg=>I8 O J O c4H c3I O (nb O))):=h
def d3x(h:p:=by exact(c8 O (c5 O d3J trivial (a2R _) O))):=h
def a7i(h:p:=by simp only[O0,D3,K8];omega):=h
def e2r(h:p:=by exact(j3 O J O c6D O d2c H)):=h
def b4A(h:p:=by exact(j3 O J O Tryz.runUnderlying264 O b62 H)):=h
def d8e(h:p:=by exact(j3 O J O b5M O b1B H)):=h
def c5i(h:p:=by exact(j3 O J O b55 O b1B H)):=h
def a0d(h:p:=by exact⟨⟨J,(by conv=>lhs;whnf)⟩,⟨J,(by conv=>lhs;whnf)⟩,J⟩):=h
def b3V(h:p:=by exact(j3 O J O b5M O a23 H)):=h
def a4n(h:p:=by exact(a3x O J O a8T O a2u O)):=h
def c3d(h:p:=by exact(j3 O J O a89 O b60 H)):=h
def b8o(h:p:=by exact(j3 O J O c6W O c5j H)):=h
def c4C(h:p:=by exact(j3 O J O c6W O c3k H)):=h
def b73(h:p:=by exact(j3 O J O b55 O c1J H)):=h
def b7b(h:p:=by exact(j3 O J O c6W O Tryz.sizeOf84 H)):=h
def c38(h:p:=by exact(a3x O J O a8T O t_8 O)):=h
def c9T(h:p:=by exact(j3 O J O c6o O c1J H)):=h
def c3Y(h:p:=by exact(j3 O J O a6l O c6k H)):=h
def b1m(h:p:=by exact(j3 O J O a89 O t_1 H)):=h
def d2W(h:p:=by exact(j3 O J O b5M O t_1 H)):=h
def b2v(h:p:=by exact(j3 O J O c0O O Tryz.sizeOf87 H)):=h
def b2F(h:p:=by exact(j3 O J O c0O O Tryz.sizeOf86 H)):=h
def b4Q(h:p:=by exact(j3 O J O b5M O t_0 H)):=h
def b6Q(h:p:=by exact(j3 O J O a8T O t_0 H)):=h
def b9P(h:p:=by exact(j3 O J O c5h O t_0 H)):=h
def c4p(h:p:=by exact(j3 O J O c6P O t_1 H)):=h
def b8Q(h:p:=by exact(j3 O J O a89 O t_0 H)):=h
def c4N(h:p:=by exact(j3 O J O Tryz.runUnderlying94 O Tryz.sizeOf92 H)):=h
def c3s(h:p:=by exact(j3 O J O Tryz.runUnderlying94 O a23 H)):=h
def c4D(h:p:=by exact(j3 O J O c5h O b8a H)):=h
def d0f(h:p:=by exact(j3 O J O c6D O t_1 H)):=h
def d1t(h:p:=by exact(j3 O J O b55 O t_1 H)):=h
def d3e(h:p:=by exact(j3 O J O a8T O t_1 H)):=h
def d2S(h:p:=by exact(j3 O J O c6W O b8a H)):=h
def a6H(h:p:=by exact(L3 O J O O O (by first|omega|(simp;omega)))):=h
def c4t(h:p:=by exact(j3 O J O b63 O t_0 H)):=h
def a2F(h:p:=by exact(j3 O J O c0D O t_0 H)):=h
def b1e(h:p:=by exact(L3 O O J O O (by first|omega|(simp;omega)))):=h
def d2B(h:p:=by exact(j3 O J O b5g O t_0 H)):=h
def c3W(h:p:=by exact(j3 O J O b5g O t_1 H)):=h
def a9w(h:p:=by exact(A3 ⟨.val _,.val _,.val _,.val _,.val _,.val _,J⟩)):=h
def b4T(h:p:=by exact(j3 O J O d2D O t_1 H)):=h
def b3H(h:p:=by exact c8 O (j9 O J O c10 O O)):=h
def c4P(h:p:=by exact(c5 O d2F ⟨J,J⟩ (a7b fl nn hl _) O)):=h
def b7s(h:p:=by exact(A3 ⟨.val _,.val _,.val _,.val _,P7 _ _ _,J⟩)):=h
def b7L(h:p:=by cases ph<;>exact⟨O,O,n_4 O⟩):=h
def c3z(h:p:=by exact(j3 O J O d3d O t_0 H)):=h
def d8P(h:p:=by exact c8 O (j9 O J O b7F O O)):=h
def d7K(h:p:=by exact c8 O (j9 O J O c7u O O)):=h
def c8z(h:p:=by exact(j3 O J O a6l O t_0 H)):=h
def d3B(h:p:=by exact(j3 O J O c0O O b8a H)):=h
def c9N(h:p:=by exact(j3 O J O c0D O t_1 H)):=h
def d0t(h:p:=by exact c8 O (j9 O J O c0s O O)):=h
def a9C(h:p:=by exact(L3 O J J O O (by first|omega|(simp;omega)))):=h
def b81(h:p:=by exact(I8 O J O b69 a3Z O (nb O))):=h
def a4q(h:p:=by exact c8 O (j9 O J O t_8 O O)):=h
def a7H(h:p:=by exact(A3 ⟨.val _,.val _,C4 _ _ _,N9 _ _ _,J⟩)):=h
def a9Z(h:p:=by exact(I8 O J O c4Z a30 O (nb O))):=h
def b4R(h:p:=by exact c8 O (j9 O J O a2u O O)):=h
def b4j(h:p:=by exact(I8 O J O c7K b9K O (nb O))):=h
def d3n(h:p:=by exact(I8 O J O c9R b7K O (nb O))):=h
def c3D(h:p:=by exact(I8 O J O Tryz.isAgg146 a9d O (nb O))):=h
def c48(h:p:=by exact(c5 O c8R ⟨J,J⟩ (c0p m G _) O)):=h
def d1H(h:p:=by first|exact a2b (by intro a;rfl) _|assumption):=h
def a8m(h:p:=by exact(I8 O J O b9i b20 O (nb O))):=h
def D7(h:p:=by exact c8 O (a2Y O J (by conv=>lhs;whnf))):=h
def a1A(h:p:=by exact(I8 O J O b1x t_6 O (nb O))):=h
def c4i(h:p:=by exact(I8 O J O b5S t_9 O (nb O))):=h
def c9s(h:p:=by exact(I8 O J O b9J a35 O (nb O))):=h
def b8g(h:p:=by exact(I8 O J O c3g a96 O (nb O))):=h
def d7j(h:p:=by exact(U5 O J O Tryz.isAgg146 a9d (nb O))):=h
def e23(h:p:=by exact(U5 O J O c4Z a30 (nb O))):=h
def d7g(h:p:=by exact(U5 O J O b5S t_9 (nb O))):=h
def c4m(h:p:=by exact(c5 O c7q ⟨J,J⟩ (a1Q x.a _) O)):=h
def d2t(h:p:=by exact⟨by rw[hr,aH,b8V];rfl,O⟩):=h
def d7R(h:p:=by exact(c5 O Tryz.call59 trivial (a5e _) O)):=h
def b77(h:p:=by exact(M9 O J J O O t_5 G hb)):=h
def c5n(h:p:=by exact(A3 ⟨.val _,C4 _ [] _,P1 _ [] _,J⟩)):=h
def R4(h:p:=by exact(b1y O J O (λhp=>hp) (λ_=>rfl))):=h
def a6G(h:p:=by exact(A3 ⟨.val _,C4 _ _ _,P1 _ _ _,J⟩)):=h
def d8I(h:p:=by exact(c8 O (a5k O O (by conv=>lhs;whnf)))):=h
def c8E(h:p:=by exact(c8 O (j9 O J O b7F O O))):=h
def c97(h:p:=by exact(c8 O (j9 O J O c2n O O))):=h
def c7Q(h:p:=by exact(c8 O (j9 O J O c10 O O))):=h
def c7X(h:p:=by exact(c8 O (j9 O J O d0T O O))):=h
def d0M(h:p:=by exact(c8 O (j9 O J O c0s O O))):=h
def U4(h:p:=by exact(b4W O J O (λhp=>hp) (λ_=>rfl))):=h
def b2Q(h:p:=by exact(c8 O (a5k O J (by conv=>lhs;whnf)))):=h
def c3b(h:p:=by exact(c8 O (j9 O J O t_8 O O))):=h
def b4H(h:p:=by exact(c8 O (j9 O J O a2u O O))):=h
def b4k(h:p:=by exact(λhg=>a2X O hg O O O (a7J _ _))):=h
def c34(h:p:=by exact(c5 O Tryz.call60 trivial (b2d _) O)):=h
def b2c(h:p:=by exact(λhg=>a2X O hg hg O O (a7J _ _))):=h
def b75(h:p:=by exact(a0W O J O t_2 O O)):=h
def e2Y(h:p:=by exact(λhg=>j9 O hg O Tryz.isAgg23 O O)):=h
def S8(h:p:=by exact(c8 O (a2Y O J (by conv=>lhs;whnf)))):=h
def a0J(h:p:=by exact(λhg=>j9 O hg O t_8 O O)):=h
def a7t(h:p:=by exact(λhg=>j9 O hg O a2u O O)):=h
def c3f(h:p:=by rw[K6,a7Y];omega):=h
def a1U(h:p:=by first|omega|(simp;done)|(simp;omega)):=h
def c5g(h:p:=by exact(λhg=>d0j O hg O t_5)):=h
def C9(h:p:=by exact(λhg=>a2Y O J (by conv=>lhs;whnf))):=h
def b8G(h:p:=by exact(λhg=>a2Y O hg (by conv=>lhs;whnf))):=h
def e1i(h:p:=by exact(λhg=>a0N O hg O t_8 O)):=h
def a2G(h:p:=by exact c8 O (a5N O J O O)):=h
def c29(h:p:=by rw[es];simp only[H5]):=h
def H0(h:p:=by simp[ho,Op.operands,Call.operands]):=h
def Q0(h:p:=by exact(a2X O J O O O (a7J _ _))):=h
def c4s(h:p:=by exact(j9 O J O c9P O O)):=h
def b82(h:p:=by exact(j9 O J O Tryz.isAgg159 O O)):=h
def a9S(h:p:=by exact(A3 ⟨Y8 _ ([]:List Fi) _,J⟩)):=h
def a7p(h:p:=by exact(a5k O O (by conv=>lhs;whnf))):=h
def G6(h:p:=by first|omega|(simp;omega)|simp):=h
def b36(h:p:=by exact(j9 O J O c2n O O)):=h
def a8e(h:p:=by exact(a2X O J J O O (a7J _ _))):=h
def c2u(h:p:=by exact(j9 O J O b7F O O)):=h
def b6N(h:p:=by exact(j9 O J O c0s O O)):=h
def b4L(h:p:=by exact(j9 O J O c7u O O)):=h
def b1n(h:p:=by exact(a2X O J J O O (c0v _ _))):=h
def b2C(h:p:=by exact(j9 O J O Tryz.isAgg87 O O)):=h
def b1t(h:p:=by exact(j9 O J O Tryz.isAgg86 O O)):=h
def c4Y(h:p:=by exact(j9 O J O d0T O O)):=h
def b7H(h:p:=by exact(j9 O J O Tryz.isAgg84 O O)):=h
def a0H(h:p:=by exact(a5k O J (by conv=>lhs;whnf))):=h
def a3h(h:p:=by exact(λhg=>a2I O hg O O O O)):=h
def M6(h:p:=by exact(j9 O J O t_8 O O)):=h
def a9M(h:p:=by first|omega|(simp at hg;omega)):=h
def a1l(h:p:=by exact(j9 O J O a2u O O)):=h
def a8A(h:p:=by exact(j9 O J O b9G O O)):=h
def S4(h:p:=by exact(d0j O J O t_5)):=h
def d7A(h:p:=by exact(a2Y O O (by conv=>lhs;whnf))):=h
def a0I(h:p:=by exact c8 O (b4c O J O)):=h
def a1y(h:p:=by cases ph<;>exact⟨O,O,H⟩):=h
def a9q(h:p:=by exact(λhg=>a2I O hg hg O O O)):=h
def b9Q(h:p:=by exact(j9 O J O a2u hk O)):=h
def D2(h:p:=by exact(a2Y O J (by conv=>lhs;whnf))):=h
def a8w(h:p:=by exact(c8 O (a5N O J O O))):=h
def a9z(h:p:=by exact(a0N O J O t_8 O)):=h
def b3A(h:p:=by exact(a0N O J O a2u O)):=h
def c24(h:p:=by rw[h1];exact b3j):=h
def a49(h:p:=by first|exact Z1 _ _|rfl):=h
def b9L(h:p:=by unfold maxLen;simp only;omega):=h
def o7(h:p:=by exact(b8T O J O O O G G)):=h
def b4g(h:p:=by first|omega|(simp;omega)):=h
def V4(h:p:=by exact(a8s O J O O O G G)):=h
def a6A(h:p:=by exact(b8T O J J O O G G)):=h
def a9r(h:p:=by rw[a7Y];omega):=h
def b78(h:p:=by rw[S9 gQ eh];decide):=h
def a0c(h:p:=by exact(a2I O J O O O O)):=h
def b9d(h:p:=by exact(c8 O (b4c O J O))):=h
def a7w(h:p:=by simp[z8.add,<- hr.len]):=h
def b0Z(h:p:=by exact(A3 ⟨.val _,.val _,J⟩)):=h
def a7v(h:p:=by exact(a2I O J J O O O)):=h
def a0G(h:p:=by exact(A3 ⟨Y8 _ _ _,J⟩)):=h
def a2D(h:p:=by exact(λhg=>c0t O hg O)):=h
def u0(h:p:=by simp[ho,Op.operands]):=h
def a9Q(h:p:=by exact(a5N O J O O)):=h
def a18(h:p:=by exact⟨J,_,_,O,G,G⟩):=h
def a4p(h:p:=by first|omega|simp):=h
def j2(h:p:=by conv=>lhs;whnf):=h
def P9(h:p:=by cases ph<;>rfl):=h
def a2E(h:p:=by exact(b6v H H H)):=h
def a6I(h:p:=by exact⟨J,J,J,J,J⟩):=h
def a3d(h:p:=by exact(N9 _ [] false)):=h
def B5(h:p:=by exact(λ_ _=>nb O)):=h
def W2(h:p:=by exact(b4c O J O)):=h
def X3(h:p:=by exact(a5j _ _ _ _)):=h
def c0x(h:p:=by exact(c0t O J O)):=h
def a4N(h:p:=by exact⟨J,O,O,J⟩):=h
def a9L(h:p:=by exact(b6F (nb O))):=h
def a3f(h:p:=by exact⟨J,J,O,J⟩):=h
def a2y(h:p:=by exact(C4 _ [] _)):=h
def d2n(h:p:=by rw[hr];rfl):=h
def E7(h:p:=by exact⟨J,J,J,J⟩):=h
def H6(h:p:=by simp;omega):=h
def N4(h:p:=by exact(C4 _ _ _)):=h
def W5(h:p:=by exact(b1M _ _ _)):=h
def a1b(h:p:=by exact(W8 _ _ _)):=h
def j4(h:p:=by exact(.inr ⟨_,O⟩)):=h
def o9(h:p:=by kernel_rfl):=h
def a0u(h:p:=by exact(Y8 _ _ _)):=h
def Y1(h:p:=by exact(λ_=>rfl)):=h
def B0(h:p:=by exact(a40 _ _)):=h
def o3(h:p:=by exact⟨J,O,J⟩):=h
def a5z(h:p:=by exact(j5 hb)):=h
def X4(h:p:=by exact(b6K _ _)):=h
def Y2(h:p:=by exact(b5Q _ _)):=h
def a2d(h:p:=by simp[e]):=h
def i7(h:p:=by exact⟨J,J,J⟩):=h
def B7(h:p:=by exact⟨J,O⟩):=h
def uo_(h:p:=by first|exact .val _|exact .ptr (nb O)|exact .map (nb O)|exact C4 _ _ _|exact Y8 _ _ _|exact P1 _ _ _|exact .ptr (by decide)|exact N9 _ _ _|exact(T8 [] _).old|exact .vec (nb O)|exact a1k _ _ _|exact a7u _ _|exact .clo (λi c h=>by rcases i with _|i;(injection h with h;subst h;exact .ptr (by decide));cases h)|exact P7 _ _ _|exact(b2p _ _).old|exact(a4K _ _).old|exact(by first|exact X9 _ _|exact P7 _ _ _|exact W8 _ _ _|exact C4 _ _ _|exact a0O _ _ _)|exact(p9.old (.val _))|exact a5j _ _ _ _|exact c76 _ _ _|exact a0O _ _ _|exact c2F _ [] _|exact(G7 _ _).old|exact W8 _ _ _|exact(b2p [] false).old):=h
def uz_(h:p:=by intro a ha;repeat' (first|exact .val _|exact .ptr (nb O)|exact .map (nb O)|exact J|exact C4 _ _ _|exact Y8 _ _ _|exact P1 _ _ _|exact .vec (nb O)|exact De.old _ _|exact Ex.old _ _|exact c82 _ _|exact a5j _ _ _ _|exact N9 _ _ _|exact(by first|exact X9 _ _|exact P7 _ _ _|exact C4 _ _ _|exact a0O _ _ _)|exact P7 _ _ _|exact a0O _ _ _|exact a1k _ _ _|exact(o0 (cs:=[_,_,_,_]) ⟨.val _,.val _,.val _,.val _,J⟩).old|exact Src.old _ _|exact(by first|exact C4 _ _ _|exact c2A _ _)|exact(G7 _ _).old|exact c3G _ _ _|exact(by first|exact .vec (nb O)|exact d1B _|exact C4 _ _ _)|exact(by first|exact X9 _ _|exact d3w _ _ _|exact P7 _ _ _|exact C4 _ _ _|exact a0O _ _ _)|exact(T8 [] _).old|exact(a4K _ _).old|exact b5Q _ _|exact a40 _ _|exact b6K _ _|exact c2F _ _ _|exact a7u _ _|exact b6v (nb O) (nb O) (nb O)|exact(by first|exact a4e (nb O)|exact a40 _ _|exact d3w _ _ _|exact A3 (show b6z _ _ from⟨.val _,.val _,.val _,.val _,J⟩))|exact(by first|exact C4 _ _ _|exact P7 _ _ _|exact c2A _ _)|exact(o0 (cs:=A0 _ _) ⟨D9 _ _,J⟩).old |refine A3 ?_|refine⟨?_,?_⟩)):=h
def pu_(h:p:=by repeat' (first|exact .val _|exact a0X _ _|exact F2 _ _|exact G7 _ _|exact a3n _ _|exact a7M _ _|exact D9 _ _|exact b8x _ _|exact a1j _ _|exact a3F _ _|exact a9l _ _|exact a7h _ _|exact J|refine o0 ?_|refine C5 ?_|refine⟨?_,?_⟩)):=h
def ur_(h:p:=by first|exact .ptr O|exact .map O|exact .vec O|exact .same O uo_|exact C3.grow (f:=scv) (λ_=>⟨.val _,J⟩) O|exact C3.grow (f:=Ky.cv) (λ_=>⟨.val _,.val _,.val _,J⟩) O|exact C3.grow (f:=nmC) (λ_=>⟨.val _,.val _,J⟩) O|exact C3.grow (f:=Tok.cv) (λ_=>⟨.val _,.val _,.val _,.val _,J⟩) O|exact C3.grow (f:=Fi.cv) (λ_=>⟨.val _,.val _,J⟩) O|exact .same O (C4 _ ([]:List I) _)|exact .same O (F2 ([]:List I) _).old|exact C3.grow (f:=Sn.cv) (λ_=>⟨.val _,.val _,J⟩) O|exact C3.grow (f:=icv) (λ_=>⟨.val _,J⟩) O|exact C3.grow (f:=bcv) (λ_=>⟨.val _,J⟩) O|exact .same O (W8 _ ([]:List Tok) _)):=h
def ut_(h:p:=by repeat' (first|exact J|refine⟨?_,?_⟩|exact ur_|exact O)):=h
def uq_(h:p:=by repeat' (first|exact J|exact .inl O|refine⟨?_,?_⟩|(refine .inr ⟨_,O,.same O ?_⟩;first|exact(a40 _ _)|exact(A3 ⟨Y8 _ _ _,J⟩)|exact(a5j _ _ _ _)|exact(b6K _ _)|exact(b6v (by decide) (by decide) (by decide))|exact(b5Q _ _)|exact(A3 (a3R _))|exact(a4e (nb O))|exact(b1M _ _ _)|exact(A3 ⟨.val _,.val _,C4 _ _ _,N9 _ _ _,J⟩)|exact(b6F (nb O))|exact(A3 ⟨c3G _ _ _,J⟩)|exact(A3 ⟨(G7 _ _).old,J⟩)|exact(A3 ⟨P7 _ _ _,J⟩)|exact(Src.old _ _)|exact(A3 ⟨.val _,.val _,.val _,.val _,J⟩)|exact(A3 ⟨.val _,.val _,C4 _ [] _,N9 _ [] _,J⟩)|exact(A3 ⟨.val _,J⟩)|exact(d6D (by decide))|exact(c8Y Nm.pure En.pure _ _ _)|exact(b5z (a2e _))|exact(a4e (by decide))|exact(A3 ⟨.val _,.val _,.val _,.val _,P7 _ [] _,J⟩)|exact(A3 ⟨Y8 _ ([]:List Fi) _,J⟩)|exact(b5z (a1J _))|exact(b1M 4 0 b.length)))):=h
def D(h:q->p:=by intro Ji;simpa using Ji):=h Ji
def sm_(h:q->p:=by intro Ji;simp at Ji;omega):=h Ji
theorem gx_{α:Type}(l:List α)(i:Nat)(h:i<l.length:=by omega):∃b,l[i]?=some b:=⟨l[i],by simp⟩
def tu_(h:p:=by repeat' (first|exact J|exact O|refine⟨?_,?_⟩)):=h
def do_(h:p:=by dsimp only;omega):=h
def G(h:p:=by omega):=h
def U(h:p:=by simp):=h
def H(h:p:=by decide):=h
def z_0(h:q->p:=by intro Ji;refine F6 ?_;refine C2 ?_;exact Ji):=h Ji
def z_1(h:q->p:=by intro Ji;refine cY a0H ?_;refine p7 ?_;exact Ji):=h Ji
def z_2(h:q->p:=by intro Ji;refine z_0 ?_;refine cY D2 ?_;exact Ji):=h Ji
def z_3(h:q->p:=by intro Ji;refine qD (o6 O a3b O j4 ?_);refine qD (j1 O J J O j2 a3Z j4 O O (nb O) ?_);exact Ji):=h Ji
def z_4(h:q->p:=by intro Ji;refine qD (j1 O J J O j2 a3Z j4 O O (nb O) ?_);refine c6 ?_;exact Ji):=h Ji
def z_5(h:q->p:=by intro Ji;refine cY a7p ?_;refine p7 ?_;exact Ji):=h Ji
def z_7(h:Qz q->p:=by intro Ji;refine qY o7 ?_;refine qD (j1 O J J O j2 t_1 (.inl O) O O (nb O) ?_);exact Ji J):=h λ_=>Ji
def z_8(h:q->p:=by intro Ji;refine z_0 ?_;refine cD (H3 O J j2 j4 ?_);exact Ji):=h Ji
def z_9(h:q->p:=by intro Ji;refine C2 ?_;refine cY D2 ?_;exact Ji):=h Ji
def e2C(h:q->p:=by intro Ji;refine cD (j1 O J J O j2 t_9 j4 O O (nb O) ?_);refine p7 ?_;exact Ji):=h Ji
def a56(h:q->p:=by intro Ji;refine p7 ?_;refine F6 ?_;exact Ji):=h Ji
def a4z(h:q->p:=by intro Ji;refine z_1 ?_;refine c6 ?_;exact Ji):=h Ji
def a1Y(h:q->p:=by intro Ji;refine z_2 ?_;refine cY D2 ?_;exact Ji):=h Ji
def c8l(h:q->p:=by intro Ji;refine cD (j1 O J J O j2 t_6 j4 O O (nb O) ?_);refine p7 ?_;exact Ji):=h Ji
def a2W(h:q->p:=by intro Ji;refine hY D2 ?_;refine hY W2 ?_;exact Ji):=h Ji
def c1n(h:q->p:=by intro Ji;refine qD (o6 O b2k O j4 ?_);refine qD (j1 O J J O j2 a30 j4 O O (nb O) ?_);exact Ji):=h Ji
def e1s(h:q->p:=by intro Ji;refine cY D2 ?_;refine p7 ?_;exact Ji):=h Ji
def b9M(h:q->p:=by intro Ji;refine w9 ?_;refine F6 ?_;exact Ji):=h Ji
def a0i(h:q->p:=by intro Ji;refine j8 ?_;refine c6 ?_;exact Ji):=h Ji
def e14(h:q->p:=by intro Ji;refine cY R4 ?_;refine cY D2 ?_;exact Ji):=h Ji
def b9q(h:q->p:=by intro Ji;refine p7 ?_;refine J9 ?_;exact Ji):=h Ji
def e0u(h:q->p:=by intro Ji;refine cD (j1 O J J O j2 t_0 (.inl O) O O (nb O) ?_);refine p7 ?_;exact Ji):=h Ji
def a4A(h:q->p:=by intro Ji;refine qG C9 ?_;refine qG C9 ?_;exact Ji):=h Ji
def d0y(h:p:=by refine c6 ?_;exact⟨_,rE1,_,_,O,O,(.tok (λr hr c hc=>(C6 (f:=scv) (λ_=>O4.all ⟨.val _,J⟩) _) r hr c hc))⟩):=h
def a5n(h:q->p:=by intro Ji;refine z_0 ?_;refine z_5 ?_;exact Ji):=h Ji
def a4w(h:q->p:=by intro Ji;refine qG a3h ?_;refine qY R4 ?_;exact Ji):=h Ji
def b2t(h:q->p:=by intro Ji;refine b9M ?_;refine J9 ?_;exact Ji):=h Ji
def d0b(h:p:=by refine z_4 ?_;exact⟨_,r8 (rs:=[.cell 4 205,.tmp 5,.tmp 6]) (cs:=[_,_,_]) O b1H (n_4 O),q_4⟩):=h
def b5O(h:p:=by refine qY o7 ?_;exact⟨(i+1),_,⟨G,G,hr⟩,tu_,O⟩):=h
def a5s(h:q->p:=by intro Ji;refine cY a0c ?_;refine p7 ?_;exact Ji):=h Ji
def a8F(h:Qz q->p:=by intro Ji;refine C2 ?_;refine cY o7 ?_;refine e1s ?_;exact Ji J):=h λ_=>Ji
def b0f(h:q->p:=by intro Ji;refine E8 O O b2Q ⟨J,?_⟩;refine a4h ?_;exact Ji):=h Ji
def a7n(h:q->p:=by intro Ji;refine chf O S8 ?_;refine chf O b9d ?_;exact Ji):=h Ji
def d2Y(h:q->p:=by intro Ji;refine qD (o6 O a4C O j4 ?_);refine qD (j1 O J J O j2 a35 j4 O O (nb O) ?_);exact Ji):=h Ji
def c7w(h:p:=by refine c6 ?_;exact⟨_,rE1,⟨(_,p1),a2V O X3 (.old (.val _)),b67,do_,do_⟩⟩):=h
def a3s(h:q->p:=by intro Ji;refine hY D2 ?_;refine hY D2 ?_;exact Ji):=h Ji
def a0T(h:q->p:=by intro Ji;refine a29 ?_;refine qo ?_;exact Ji):=h Ji
def c6K(h:q->p:=by intro Ji;refine cY a0c ?_;refine z_1 ?_;exact Ji):=h Ji
def b8j(h:p:=by refine qY o7 ?_;exact⟨(i+1),_,⟨G,G⟩,tu_,O⟩):=h
def b66(h:p:=by refine c6 ?_;exact⟨_,rE1,_,_,O,O,B4 d2n⟩):=h
def a2S(h:q->p:=by intro Ji;refine cY d7A ?_;refine b9q ?_;exact Ji):=h Ji
def c0K(h:p:=by refine c6 ?_;exact⟨_,rE1,_,_,O,O,B4 O⟩):=h
def d3y(h:q->p:=by intro Ji;refine cY D2 ?_;refine de O a92 a3f (Y7 _ _ H (q:=0) (s:=2) ⟨O,O,H⟩) O ?_;exact Ji):=h Ji
def d6Z(h:p:=by refine z_4 ?_;exact⟨_,r8 (rs:=[.cell 4 205,.tmp 5,.tmp 6]) (cs:=[_,_,_]) O b1H (n_4 O),q_5⟩):=h
def b3h(h:q->p:=by intro Ji;refine qs 1 (qD (H3 O J j2 j4 ?_));exact Ji):=h Ji
def c05(h:q->p:=by intro Ji;refine F6 ?_;refine z_2 ?_;exact Ji):=h Ji
def a5r(h:q->p:=by intro Ji;refine z_0 ?_;refine cY a8m ?_;exact Ji):=h Ji
def c9O(h:q->p:=by intro Ji;refine cD (j1 O J J O j2 a23 (.inl O) O O (nb O) ?_);refine p7 ?_;exact Ji):=h Ji
def a9k(h:q->p:=by intro Ji;refine⟨J,?_⟩;refine a4h ?_;exact Ji):=h Ji
def d9R(h:q->p:=by intro Ji;refine cY a9Q ?_;refine cY a9Q ?_;exact Ji):=h Ji
def c8P(h:q->p:=by intro Ji;refine qY b0P ?_;refine qD (j1 O J J O j2 a9d j4 O O (nb O) ?_);exact Ji):=h Ji
def c72(h:q->p:=by intro Ji;refine qD (j1 O J J O j2 a35 j4 O O (nb O) ?_);refine c6 ?_;exact Ji):=h Ji
def d3R(h:q->p:=by intro Ji;refine qD (j1 O J J O j2 b20 j4 O O (nb O) ?_);refine c6 ?_;exact Ji):=h Ji
def c6R(h:q->p:=by intro Ji;refine qD (H3 O J j2 j4 ?_);refine qD (H3 O J j2 j4 ?_);exact Ji):=h Ji
def a8q(h:q->p:=by intro Ji;refine qG a3h ?_;refine qY U4 ?_;exact Ji):=h Ji
def e0F(h:q->p:=by intro Ji;refine qN [rbx T n2 a2 e2 ps b 1,o5 e2 b.length,.box (tk T n).cells] O (qD (c4 O a4y o3 (N8 hT y2 hW [41] ⟨O,O,H⟩) O ?_));exact Ji):=h Ji
def a2P(h:q->p:=by intro Ji;refine z_0 ?_;refine cY a7v ?_;refine a56 ?_;exact Ji):=h Ji
def a6g(h:q->p:=by intro Ji;refine a29 ?_;refine p7 ?_;exact Ji):=h Ji
def c1o(h:q->p:=by intro Ji;refine cG a3h ?_;refine e14 ?_;exact Ji):=h Ji
def d6Q(h:q->p:=by intro Ji;refine H4 ?_;refine B6 O O O (j1 O J J O j2 t_6 j4 O O (nb O) ?_);exact Ji):=h Ji
def e0E(h:p:=by refine cY b81 ?_;exact a27 O O (P6 O a5y o3 (P2 _ _ _) O (λ_ _=>.inr ⟨(_,_),j7,ah,U⟩))):=h
def c1K(h:q->p:=by intro Ji;refine chf O d0I ?_;refine chf O S8 ?_;exact Ji):=h Ji
def a9h(h:Qz q->p:=by intro Ji;refine w9 ?_;refine a8F ?_;exact Ji J):=h λ_=>Ji
def c6L(h:q->p:=by intro Ji;refine cD (o6 O a1q O j4 ?_);refine c8l ?_;exact Ji):=h Ji
def d4y(h:q->p:=by intro Ji;refine qN [rbx T n3 a6 e6 ps b6 3,.dead,.box (tk T n).cells,o5 e6 b6.length] O ?_;refine c6 ?_;exact Ji):=h Ji
def b0b(h:q->p:=by intro Ji;refine cY a0c ?_;refine cY D2 ?_;exact Ji):=h Ji
def e05(h:q->p:=by intro Ji;refine cY b3V ?_;refine cY b36 ?_;exact Ji):=h Ji
def a97(h:Qz q->p:=by intro Ji;refine qY b1e ?_;refine qY a6H ?_;exact Ji J):=h λ_=>Ji
def a4B(h:q->p:=by intro Ji;refine z_0 ?_;refine c6K ?_;exact Ji):=h Ji
def e0y(h:p:=by refine c6 ?_;exact⟨_,rE1,_,_,O,O,j6 (show(B9 x.a &&decide (x.b=[]))=I1 x by simp_all[I1])⟩):=h
def a7d(h:q->p:=by intro Ji;refine qk (qY S4 ?_);exact Ji):=h Ji
def e2n(h:q->p:=by intro Ji;refine K9 [rbx T n6 x1 y1 [] [] 2,o5 0 b.length,o5 y1 ([]:List Ex).length,.dead,.box (⟨0,[],[],[]⟩:De).cells,.box [iv kd,(sv s2),.list (l.map scv) (gnn l.length) (F1 l.length 6),.list [] false none],m0 l.length] O ?_;refine p7 ?_;exact Ji):=h Ji
def a5p(h:q->p:=by intro Ji;refine b2t ?_;refine z_0 ?_;exact Ji):=h Ji
def d5V(h:q->p:=by intro Ji;refine cD (j1 O J J O j2 a30 j4 O O (nb O) ?_);refine p7 ?_;exact Ji):=h Ji
def d3Z(h:p:=by refine c6 ?_;exact⟨_,rE1,_,_,O,O,j6 O⟩):=h
def b7W(h:q->p:=by intro Ji;refine cY D2 ?_;refine d9R ?_;exact Ji):=h Ji
def d6f(h:q->p:=by intro Ji;refine qD (j1 O J J O j2 t_6 j4 O O (nb O) ?_);refine c6 ?_;exact Ji):=h Ji
def d3z(h:p:=by refine c6 ?_;exact⟨_,rE1,_,_,O,O,a04 O⟩):=h
def e2U(h:q->p:=by intro Ji;refine qD (o6 O b2Y O j4 ?_);refine qD (j1 O J J O j2 a9d j4 O O (nb O) ?_);exact Ji):=h Ji
def e0P(h:q->p:=by intro Ji;refine cD (o6 O c6y O j4 ?_);refine cD (j1 O J J O j2 b20 j4 O O (nb O) ?_);exact Ji):=h Ji
def b9y(h:Qz q->p:=by intro Ji;refine qY d8r ?_;refine qD (o6 O a68 O j4 ?_);refine qD (j1 O J J O j2 a41 j4 O O (nb O) ?_);exact Ji J):=h λ_=>Ji
def d4N(h:q->p:=by intro Ji;refine⟨⟨a11,D7,J⟩,?_⟩;refine E8 O O d4p ⟨⟨a11,J⟩,?_⟩;exact Ji):=h Ji
def d0S(h:q->p:=by intro Ji;refine O1 O O J O C9 ?_;refine O1 O O J O C9 ?_;exact Ji):=h Ji
def d5W(h:p:=by refine a4z ?_;exact⟨_,rE1,_,_,O,O,(.old (F2 _ _).old)⟩):=h
def c6N(h:q->p:=by intro Ji;refine cY R4 ?_;refine a4z ?_;exact Ji):=h Ji
def b2y(h:q->p:=by intro Ji;refine cY c0x ?_;refine p7 ?_;exact Ji):=h Ji
def a6k(h:q->p:=by intro Ji;refine z_8 ?_;refine z_5 ?_;exact Ji):=h Ji
def e1M(h:q->p:=by intro Ji;refine K9 [rbx T n2 a2 e2 [] [] 2,o5 0 b.length,o5 e2 ([]:List Ex).length,.box (⟨pk,im,bs⟩:Src).cells,.box (⟨0,[],[],[]⟩:De).cells,.box (⟨kd,[],[],[]⟩:De).cells] O ?_;refine cY b4Q ?_;exact Ji):=h Ji
def a82(h:q->p:=by intro Ji;refine p7 ?_;refine z_2 ?_;exact Ji):=h Ji
def e0x(h:p:=by refine c6 ?_;exact⟨_,rE1,_,_,O,O,j6 (show false=I1 x by simp_all[I1])⟩):=h
def d5x(h:p:=by refine c6 ?_;exact⟨_,rE1,_,_,O,O,j6 cM.symm⟩):=h
def e0w(h:p:=by refine c6 ?_;exact⟨_,rE1,⟨(_,p+2),a2V O X3 (.old (.val _)),b67,do_,do_⟩⟩):=h
def e0d(h:q->p:=by intro Ji;refine cG C9 ?_;refine e14 ?_;exact Ji):=h Ji
def e0A(h:q->p:=by intro Ji;refine a5Q ?_;refine c7F [] [0,0,1,7,15] [0,1] (tl:=[(2,[1]),(3,[]),(4,[])]) o9 o9 O ?_;exact Ji):=h Ji
def b8h(h:q->p:=by intro Ji;refine chf O S8 ?_;refine H4 ?_;exact Ji):=h Ji
def c5a(h:p:=by refine c6 ?_;exact⟨_,rE1,(by exact a2p O (.val _))⟩):=h
def c45(h:q->p:=by intro Ji;refine E8 O O b2Q ⟨J,?_⟩;refine E8 O O d8I ⟨J,?_⟩;exact Ji):=h Ji
def a7C(h:q->p:=by intro Ji;refine qG C9 ?_;refine qG c5g ?_;exact Ji):=h Ji
def c2y(h:q->p:=by intro Ji;refine z_0 ?_;refine cY c4i ?_;exact Ji):=h Ji
def c91(h:q->p:=by intro Ji;refine H4 ?_;refine B6 O O O (j1 O J J O j2 a35 j4 O O (nb O) ?_);exact Ji):=h Ji
def a75(h:q->p:=by intro Ji;refine cY c3W ?_;refine cY a1l ?_;exact Ji):=h Ji
def d2R(h:q->p:=by intro Ji;refine cF [] [0,1,2,3,4] (tl:=[(5,[0,1,2]),(6,[0,1]),(7,[0]),(8,[]),(9,[])]) ?_;refine c1K ?_;exact Ji):=h Ji
def c9v(h:q->p:=by intro Ji;refine cY d8e ?_;refine cY c4s ?_;exact Ji):=h Ji
def b4m(h:q->p:=by intro Ji;refine cY a0H ?_;refine z_1 ?_;exact Ji):=h Ji
def d0o(h:q->p:=by intro Ji;refine cF [] [0,1,2,3,4,5,6] (tl:=[(7,[0]),(8,[]),(9,[]),(10,[])]) ?_;refine chf O S8 ?_;exact Ji):=h Ji
def d7V(h:q->p:=by intro Ji;refine⟨⟨λ_=>by exact c8 O a8m,λ_=>by exact c8 O a8m,λ_=>by exact c8 O c4P,λ_=>by exact c8 O a0c,J⟩,?_⟩;refine d9u (i:=6) o9 O e3h ?_;exact Ji):=h Ji
def d2w(h:q->p:=by intro Ji;refine qD (o6 O c6y O j4 ?_);refine qD (o6 O c6y O j4 ?_);exact Ji):=h Ji
def a4H(h:q->p:=by intro Ji;refine a5n ?_;refine c6 ?_;exact Ji):=h Ji
def c2J(h:q->p:=by intro Ji;refine cG C9 ?_;refine c1o ?_;exact Ji):=h Ji
def d7W(h:q->p:=by intro Ji;refine qY a4n ?_;refine qD (c4 O a92 a3f (Y7 _ _ H ⟨O,O,H⟩) O ?_);exact Ji):=h Ji
def d1C(h:q->p:=by intro Ji;refine cY d2W ?_;refine cD (j1 O J O O j2 t_1 (.inl O) O O (nb O) ?_);exact Ji):=h Ji
def c8r(h:Qz q->p:=by intro Ji;refine qD (j1 O J J O j2 b74 (.inl O) O O (nb O) ?_);refine qY o7 ?_;exact Ji J):=h λ_=>Ji
def d9g(h:p:=by refine c6N ?_;exact⟨_,rE1,_,_,O,O,j6 (by simp[e1,e2,e3,e4])⟩):=h
def d9e(h:p:=by refine c6 ?_;exact⟨_,B1 O a4j,⟨(a6f fl ⟨sp,s⟩,p4),a2V O X3 (.old (R7 _ _).old),(hm.mono G).ins (hspa) do_,do_,do_⟩⟩):=h
def d0U(h:q->p:=by intro Ji;refine cY b8o ?_;refine cD (j1 O J J O j2 c5j (.inl O) O O (nb O) ?_);exact Ji):=h Ji
def c4x(h:q->p:=by intro Ji;refine⟨⟨D7,J⟩,?_⟩;refine E8 O O b9d ⟨J,?_⟩;exact Ji):=h Ji
def c5p(h:q->p:=by intro Ji;refine O1 O O J O d2A ?_;refine O1 O O J O a0J ?_;exact Ji):=h Ji
def c3q(h:q->p:=by intro Ji;refine O1 O O J O e1O ?_;refine O1 O O J O e2Y ?_;exact Ji):=h Ji
def c27(h:q->p:=by intro Ji;refine O1 O O J O e2h ?_;refine O1 O O J O e1i ?_;exact Ji):=h Ji
def c2O(h:q->p:=by intro Ji;refine qG C9 ?_;refine qG b2c ?_;exact Ji):=h Ji
def a9v(h:q->p:=by intro Ji;refine cY d2B ?_;refine cY M6 ?_;exact Ji):=h Ji
def b4E(h:q->p:=by intro Ji;refine chf O e1Q ?_;refine chf O c3b ?_;exact Ji):=h Ji
def a9p(h:q->p:=by intro Ji;refine cG e2K ?_;refine cG a7t ?_;exact Ji):=h Ji
def d8q(h:q->p:=by intro Ji;refine qH O O (λhk hg=>j3 O J O a8T O t_0 H) ?_;refine qH O O (λhk hg=>j9 O ⟨hk,hg⟩ O t_8 O O) ?_;exact Ji):=h Ji
def c9i(h:q->p:=by intro Ji;refine qN [rbx T n3 a3 e3 ps b 1,o5 e3 b.length,.box (tk T n).cells] O (qY e3b ?_);exact Ji):=h Ji
def d8a(h:q->p:=by intro Ji;refine d9K (i:=7) o9 O O (H3 O J j2 j4 ?_);refine⟨⟨λh=>absurd h H,λh=>absurd h H,λh=>absurd h H,λh=>absurd h H,J⟩,?_⟩;exact Ji):=h Ji
def d8M(h:Qz q->p:=by intro Ji;refine hY (r6 O J J O O b6f a3Z G (j5 (d9J hn)) O) ?_;refine hY (U5 O J O b69 a3Z (nb O)) ?_;exact Ji J):=h λ_=>Ji
def c4h(h:q->p:=by intro Ji;refine cD (o6 O a21 O j4 ?_);refine e2C ?_;exact Ji):=h Ji
def c4A(h:p:=by refine j8 ?_;exact⟨(k+2),_,O,tu_,O⟩):=h
def d9d(h:q->p:=by intro Ji;refine qN [rbx T n1 a1 e1 ps b 1,o5 e1 b.length,.box (tk T n).cells] O (qD (c4 O c2K i7 (b0x hT y1 hW true hc.l ⟨O,O,H⟩) O ?_));exact Ji):=h Ji
def a6r(h:q->p:=by intro Ji;refine F6 ?_;refine z_0 ?_;exact Ji):=h Ji
def b7S(h:p:=by refine c6 ?_;exact⟨_,rE1,e24⟩):=h
def a9W(h:q->p:=by intro Ji;refine qY R4 ?_;refine c6 ?_;exact Ji):=h Ji
def a8t(h:q->p:=by intro Ji;refine z_2 ?_;refine cY W2 ?_;exact Ji):=h Ji
def d3b(h:q->p:=by intro Ji;refine qN [rbx T n x y ps b 1,o5 y b.length,.box (tk T n).cells] O ?_;refine c6 ?_;exact Ji):=h Ji
def b1a(h:q->p:=by intro Ji;refine B6 O O O (j1 O J J O j2 b20 j4 O O (nb O) ?_);refine⟨J,?_⟩;refine a4h ?_;exact Ji):=h Ji
def d8k(h:p:=by refine c6 ?_;exact⟨_,r8 (rs:=[.tmp 4,.tmp 5]) (cs:=[_,_]) O a0d (n_4 O),⟨(),O,O,J⟩⟩):=h
def b9W(h:q->p:=by intro Ji;refine z_2 ?_;refine a4z ?_;exact Ji):=h Ji
def b7n(h:p:=by refine K9 [pbx T m ps b2 3,.dead,.box (tk T n).cells,m0 b2.length] O ?_;refine a4z ?_;exact⟨_,rE1,e3p⟩):=h
def d7q(h:p:=by refine c6 ?_;exact⟨_,rE1,_,_,O,O,(J5 (show CV.list (([]:List Ky).map Ky.cv) false none=_ from O) pu_)⟩):=h
def d8H(h:Qz q->p:=by intro Ji;refine cY (r6 O J J O O a1X t_6 G a5z O) ?_;refine cY (U5 O J O b1x t_6 (nb O)) ?_;exact Ji J):=h λ_=>Ji
def d8V(h:Qz q->p:=by intro Ji;refine cY (r6 O J J O O b6i a96 G a5z O) ?_;refine cY (U5 O J O c3g a96 (nb O)) ?_;exact Ji J):=h λ_=>Ji
def a9t(h:q->p:=by intro Ji;refine F6 ?_;refine F6 ?_;exact Ji):=h Ji
def d7m(h:Qz q->p:=by intro Ji;refine b07 O O (λ_=>c8 O a6H) ?_;refine B6 O O O (W4 O J O b9l trivial (by exact eo G (p+2) G) O ?_);exact Ji J):=h λ_=>Ji
def d8f(h:p:=by refine qY V4 ?_;exact⟨(s,cr,p6,n-1),[0,1,2],⟨do_,do_,do_,do_,do_,do_,do_⟩,⟨O,O⟩,ut_,uq_⟩):=h
def a7E(h:q->p:=by intro Ji;refine p7 ?_;refine z_0 ?_;exact Ji):=h Ji
def b39(h:Qz q->p:=by intro Ji;refine j8 ?_;refine qY o7 ?_;exact Ji J):=h λ_=>Ji
def d7t(h:Qz q->p:=by intro Ji;refine⟨⟨a11,D7,D7,J⟩,?_⟩;refine B6 O O O (c4 O Tryz.call32 i7 (b43 l nn (k+3) G hl v dy _ 0 O) O ?_);exact Ji J):=h λ_=>Ji
def d7B(h:Qz q->p:=by intro Ji;refine yc O Tryz.call61 trivial (a5l _) ?_;refine de O a3a i7 (G9 l nn (k+2) _ 0 O G hl U6 H H) O ?_;exact Ji J):=h λ_=>Ji
def d8b(h:p:=by refine a4z ?_;exact⟨_,rE1,(by exact .inl ⟨(i6,n+1,b6),Z4 O O (nb O) (.val _),ah,do_,bd,y6⟩)⟩):=h
def d9f(h:q->p:=by intro Ji;refine cG (λhg=>j3 O J O b5M O b1B H) ?_;refine cG (λhg=>j9 O hg O c9P O O) ?_;exact Ji):=h Ji
def b7Q(h:q->p:=by intro Ji;refine chf O S8 ?_;refine chf O S8 ?_;exact Ji):=h Ji
def d3W(h:Qz q->p:=by intro Ji;refine a4A ?_;refine qG e3g ?_;exact Ji J):=h λ_=>Ji
def a9A(h:q->p:=by intro Ji;refine z_9 ?_;refine cY D2 ?_;exact Ji):=h Ji
def d8l(h:q->p:=by intro Ji;refine qG (λhg=>j3 O J O a6l O a23 H) ?_;refine qG (λhg=>j9 O hg O c2n O O) ?_;exact Ji):=h Ji
def b0T(h:q->p:=by intro Ji;refine cY R4 ?_;refine p7 ?_;exact Ji):=h Ji
def d2l(h:q->p:=by intro Ji;refine a1Y ?_;refine e0d ?_;exact Ji):=h Ji
def d1q(h:p:=by refine a0i ?_;exact⟨_,rE1,_,_,O,O,j6 O⟩):=h
def c9w(h:p:=by refine a4z ?_;exact⟨_,rE1,_,_,O,O,j6 O⟩):=h
def d7E(h:Qz q->p:=by intro Ji;refine yc O Tryz.call60 trivial (b2d _) ?_;refine de O a3a i7 (G9 l nn (k+2) _ 0 O G hl Z9 H H) O ?_;exact Ji J):=h λ_=>Ji
def d7L(h:q->p:=by intro Ji;refine⟨⟨D7,a0I,b4n,(by exact c8 O b1m),b4R,J⟩,?_⟩;refine E8 O O e3k ⟨⟨D7,a0I,b4n,J⟩,?_⟩;exact Ji):=h Ji
def d0h(h:q->p:=by intro Ji;refine c2y ?_;refine e2C ?_;refine c6 ?_;exact Ji):=h Ji
def d7b(h:Qz q->p:=by intro Ji;refine H4 ?_;refine B6 O O O (c4 O a3a i7 (G9 l nn (k+2) _ 0 O G hl Q2 H H) O ?_);exact Ji J):=h λ_=>Ji
def c79(h:p:=by refine c6 ?_;exact⟨_,rE1,⟨(),O,O,J⟩⟩):=h
def a74(h:q->p:=by intro Ji;refine a56 ?_;refine z_0 ?_;exact Ji):=h Ji
def c9o(h:q->p:=by intro Ji;refine a5r ?_;refine dc O Tryz.call39 ⟨J,J⟩ (c9Q fl nn hl _) ?_;exact Ji):=h Ji
def d8y(h:q->p:=by intro Ji;refine E8 O O c3h ⟨J,?_⟩;refine B6 O O O (j1 O J J O j2 c6k (.inl O) O O (nb O) ?_);exact Ji):=h Ji
def d8Q(h:q->p:=by intro Ji;refine E8 O O d8w ⟨J,?_⟩;refine B6 O O O (j1 O J J O j2 b60 (.inl O) O O (nb O) ?_);exact Ji):=h Ji
def b1P(h:q->p:=by intro Ji;refine a1Y ?_;refine cY D2 ?_;exact Ji):=h Ji
def b4X(h:q->p:=by intro Ji;refine cY b81 ?_;refine cY D2 ?_;exact Ji):=h Ji
def b4p(h:q->p:=by intro Ji;refine cY a9Q ?_;refine cY a0H ?_;exact Ji):=h Ji
def b4K(h:Qz q->p:=by intro Ji;refine qY a9C ?_;refine qY a6H ?_;exact Ji J):=h λ_=>Ji
def b3G(h:q->p:=by intro Ji;refine hY a7v ?_;refine hY D2 ?_;exact Ji):=h Ji
def b3x(h:q->p:=by intro Ji;refine hY b4A ?_;refine hY b82 ?_;exact Ji):=h Ji
def d8R(h:q->p:=by intro Ji;refine cD (o6 O d1T O j4 ?_);refine cD (j1 O J J O j2 b9K j4 O O (nb O) ?_);exact Ji):=h Ji
def c5k(h:q->p:=by intro Ji;refine z_8 ?_;refine cD (H3 O J j2 j4 ?_);exact Ji):=h Ji
def d1c(h:q->p:=by intro Ji;refine cY e23 ?_;refine cD (o6 O b2k O j4 ?_);exact Ji):=h Ji
def d8m(h:q->p:=by intro Ji;refine cF [] [0,1,2,4,5] (tl:=[(3,[0,1,2,3,4]),(6,[0,1,2]),(7,[0,1,2]),(8,[0,1,2]),(9,[])]) ?_;refine a7n ?_;exact Ji):=h Ji
def d3U(h:q->p:=by intro Ji;refine cY c4C ?_;refine cY (j9 O J O d3t O O) ?_;exact Ji):=h Ji
def d8T(h:q->p:=by intro Ji;refine qD (o6 O a1q O j4 ?_);refine qD (j1 O J J O j2 t_6 j4 O O (nb O) ?_);exact Ji):=h Ji
def d9i(h:q->p:=by intro Ji;refine O1 O O J O (λhg=>U5 O hg O b1x t_6 (nb O)) ?_;refine O1 O O J O c9m ?_;exact Ji):=h Ji
def d7P(h:q->p:=by intro Ji;refine cD (o6 O b7e O j4 ?_);refine cD (j1 O J J O j2 a96 j4 O O (nb O) ?_);exact Ji):=h Ji
def d7X(h:p:=by refine cG (λhg=>c5 O c6J ⟨hg,J⟩ (a1R x.name G _) O) ?_;exact d9g):=h
def d8z(h:Qz q->p:=by intro Ji;refine E8 O O (c8 O (c5 O c1t i7 (a0L fl _ ⟨sp,s⟩ G _) O)) ⟨J,?_⟩;refine b1a ?_;exact Ji J):=h λ_=>Ji
def d8N(h:Qz q->p:=by intro Ji;refine E8 O O (c8 O (c5 O c1t i7 (a0L fl _ ⟨y,s⟩ G _) O)) ⟨J,?_⟩;refine b1a ?_;exact Ji J):=h λ_=>Ji
def a9n(h:q->p:=by intro Ji;refine c05 ?_;refine a5s ?_;exact Ji):=h Ji
def d9k(h:Qz q->p:=by intro Ji;refine qO Tryz.func308 ?_;refine qY (r6 O J J O O b6o a9d G (j5 hAt.node) O) ?_;exact Ji J):=h λ_=>Ji
def a9o(h:q->p:=by intro Ji;refine a5n ?_;refine c05 ?_;exact Ji):=h Ji
def d8B(h:q->p:=by intro Ji;refine hY (j3 O J O d2D O b60 H) ?_;refine hY (j9 O J O c7u hk O) ?_;exact Ji):=h Ji
def d0z(h:q->p:=by intro Ji;refine qY (a2X O J J O O (b9h _ _)) ?_;refine c6 ?_;exact Ji):=h Ji
def d7o(h:Qz q->p:=by intro Ji;refine qY (r6 O J O O O t_4 t_1 G (j5 (Z5 g1)) O) ?_;refine qY o7 ?_;exact Ji J):=h λ_=>Ji
def d8j(h:Qz q->p:=by intro Ji;refine qY d7R ?_;refine qD (c4 O a3a i7 (G9 l nn (k+2) _ 0 O G hl Q6 H H) O ?_);exact Ji J):=h λ_=>Ji
def d7s(h:q->p:=by intro Ji;refine B6 O O O (j1 O J J O j2 t_6 j4 O O (nb O) ?_);refine⟨⟨a2G,J⟩,?_⟩;exact Ji):=h Ji
def c31(h:Qz q->p:=by intro Ji;refine O1 O O J O C9 ?_;refine O1 O O J O e0m ?_;refine O1 O O J O e26 ?_;exact Ji J):=h λ_=>Ji
def b08(h:q->p:=by intro Ji;refine d2l ?_;refine c2J ?_;exact Ji):=h Ji
def b2K(h:q->p:=by intro Ji;refine a5n ?_;refine F6 ?_;exact Ji):=h Ji
def d7v(h:q->p:=by intro Ji;refine F6 ?_;refine cF [] [0,1,2,3,4,5,6,7,8] (tl:=[(9,[0,1,2,3,4,5,6,7,8]),(10,[8]),(11,[])]) ?_;exact Ji):=h Ji
def d7F(h:q->p:=by intro Ji;refine qY a4n ?_;refine qD (c4 O a92 a3f (Y7 _ _ H (q:=2) (s:=0) ⟨O,O,H⟩) O ?_);exact Ji):=h Ji
def d7h(h:Qz q->p:=by intro Ji;refine a0T ?_;refine qD (c4 O a3a i7 (G9 l nn (p+1) _ 0 O G hl Z9 H H) O ?_);exact Ji J):=h λ_=>Ji
def d0W(h:p:=by refine w9 ?_;exact⟨(),_,J,tu_,O⟩):=h
def d7z(h:p:=by refine c6 ?_;exact⟨_,rE1,_,_,O,O,B4 (by rw[C7,Q aj])⟩):=h
def b3I(h:Qz q->p:=by intro Ji;refine b9y ?_;refine qY a8e ?_;exact Ji J):=h λ_=>Ji
def d7N(h:q->p:=by intro Ji;refine cF [] [0,1,2,3,4] (tl:=[(5,[0,1]),(6,[0,1]),(7,[]),(8,[]),(9,[])]) ?_;refine chf O d8w ?_;exact Ji):=h Ji
def b4u(h:q->p:=by intro Ji;refine a1Y ?_;refine cY W2 ?_;exact Ji):=h Ji
def b40(h:q->p:=by intro Ji;refine e05 ?_;refine cY D2 ?_;exact Ji):=h Ji
def d8D(h:q->p:=by intro Ji;refine e2U ?_;refine qY (c5 O Tryz.call330 ⟨J,J⟩ (b2J ⟨k,u,o,nm,x8 ch s⟩ _) O) ?_;exact Ji):=h Ji
def b45(h:q->p:=by intro Ji;refine a2W ?_;refine hY e2r ?_;exact Ji):=h Ji
def b34(h:q->p:=by intro Ji;refine j8 ?_;refine b9W ?_;exact Ji):=h Ji
def d8S(h:q->p:=by intro Ji;refine B6 O O O (j1 O J J O j2 b1B (.inl O) O O (nb O) ?_);refine a9k ?_;exact Ji):=h Ji
def d7f(h:q->p:=by intro Ji;refine B6 O O O (j1 O J J O j2 c1J (.inl O) O O (nb O) ?_);refine a9k ?_;exact Ji):=h Ji
def b2i(h:q->p:=by intro Ji;refine z_0 ?_;refine c9v ?_;exact Ji):=h Ji
def b10(h:Qz q->p:=by intro Ji;refine z_9 ?_;refine cY o7 ?_;refine z_1 ?_;exact Ji J):=h λ_=>Ji
def d7T(h:p:=by refine qY (c5 O Tryz.call193 i7 (b1z s c _) O) ?_;exact c0K):=h
def b9n(h:q->p:=by intro Ji;refine qG e2G ?_;refine qG a0J ?_;exact Ji):=h Ji
def b8e(h:q->p:=by intro Ji;refine cY d2W ?_;refine cY a1l ?_;exact Ji):=h Ji
def b9O(h:q->p:=by intro Ji;refine hY b1m ?_;refine hY a1l ?_;exact Ji):=h Ji
def c0l(h:q->p:=by intro Ji;refine hY a0H ?_;refine hY a0H ?_;exact Ji):=h Ji
def d8L(h:p:=by refine a4z ?_;exact⟨_,rE1,(by exact⟨by rw[<- b0G p l 0],O⟩)⟩):=h
def d8F(h:Qz q->p:=by intro Ji;refine E8 O O d7e ⟨⟨a11,D7,J⟩,?_⟩;refine E8 O O d4p ⟨⟨a11,J⟩,?_⟩;exact Ji J):=h λ_=>Ji
def d7c(h:q->p:=by intro Ji;refine qY (c5 O a7K ⟨J,J⟩ (a0v hT y1 ⟨O,O,H⟩) O) ?_;refine qY a4n ?_;exact Ji):=h Ji
def d7p(h:p:=by refine b39 ?_;exact⟨(i+1,e),_,⟨do_,do_,hr,h0,do_⟩,tu_,O⟩):=h
def d7I(h:Qz q->p:=by intro Ji;refine cY (r6 O J J O O b6o a9d G a5z O) ?_;refine cY d7j ?_;exact Ji J):=h λ_=>Ji
def d8C(h:p:=by refine c6 ?_;exact⟨_,rE1,⟨v,O,O,n_3 hv⟩⟩):=h
def d7y(h:q->p:=by intro Ji;refine qY (c5 O a7K ⟨J,J⟩ (a0v hT fz ⟨O,O,H⟩) O) ?_;refine d7W ?_;exact Ji):=h Ji
def d8U(h:Qz q->p:=by intro Ji;refine cY a1A ?_;refine cY (X1 O J J O O a1X t_6 O G G) ?_;exact Ji J):=h λ_=>Ji
def d8x(h:Qz q->p:=by intro Ji;refine cY (r6 O J J O O a0k t_9 G a5z O) ?_;refine cY d7g ?_;exact Ji J):=h λ_=>Ji
def b4Y(h:q->p:=by intro Ji;refine qk (qY P5 ?_);exact Ji):=h Ji
def b4O(h:q->p:=by intro Ji;refine cY a2F ?_;refine e0u ?_;refine d0h ?_;exact Ji):=h Ji
def b3J(h:q->p:=by intro Ji;refine w9 ?_;refine z_2 ?_;exact Ji):=h Ji
def b64(h:q->p:=by intro Ji;refine qo (qY U4 ?_);exact Ji):=h Ji
def b46(h:Qz q->p:=by intro Ji;refine p7 ?_;refine a8F ?_;exact Ji J):=h λ_=>Ji
def c8V(h:Qz q->p:=by intro Ji;refine⟨J,?_⟩;refine E8 O O d7e ⟨J,?_⟩;exact Ji J):=h λ_=>Ji
def b92(h:q->p:=by intro Ji;refine qY e3n ?_;refine qY c6i ?_;exact Ji):=h Ji
def b6W(h:q->p:=by intro Ji;refine cY U4 ?_;refine p7 ?_;exact Ji):=h Ji
def d7u(h:q->p:=by intro Ji;refine qD (j1 O J J O j2 b62 (.inl O) O O (nb O) ?_);refine qY S4 ?_;exact Ji):=h Ji
def b4I(h:q->p:=by intro Ji;refine cW 10 ?_;refine a2W ?_;exact Ji):=h Ji
def d8X(h:q->p:=by intro Ji;refine cY c4p ?_;refine cD (j1 O J J O j2 t_1 (.inl O) O O (nb O) ?_);exact Ji):=h Ji
def b42(h:Qz q->p:=by intro Ji;refine d3W ?_;refine a4w ?_;exact Ji J):=h λ_=>Ji
def b4x(h:q->p:=by intro Ji;refine z_1 ?_;refine F6 ?_;exact Ji):=h Ji
def b3w(h:q->p:=by intro Ji;refine b7W ?_;refine b4m ?_;exact Ji):=h Ji
def d8d(h:q->p:=by intro Ji;refine cY b4T ?_;refine cD (j1 O J J O j2 t_1 (.inl O) hk O (nb O) ?_);exact Ji):=h Ji
def b9t(h:q->p:=by intro Ji;refine c2O ?_;refine qY R4 ?_;exact Ji):=h Ji
def d7C(h:q->p:=by intro Ji;refine d5r Tryz.func104 O O O O O O O O O O H H O O ?_;refine z_2 ?_;exact Ji):=h Ji
def d8K(h:q->p:=by intro Ji;refine O1 O O J O (λhg=>a2X O hg hg O O (b9h _ _)) ?_;refine hY R4 ?_;exact Ji):=h Ji
def d9b(h:q->p:=by intro Ji;refine cY d3n ?_;refine cD (j1 O J J O j2 b7K j4 O O (nb O) ?_);exact Ji):=h Ji
def d7H(h:p:=by refine c6 ?_;exact⟨_,rE1,_,_,O,O,B4 hr.symm⟩):=h
def d8u(h:q->p:=by intro Ji;refine⟨⟨d7n,d8P,J⟩,?_⟩;refine E8 O O e29 ⟨⟨d7n,d8P,J⟩,?_⟩;exact Ji):=h Ji
def d7w(h:q->p:=by intro Ji;refine qY e3q ?_;refine qD (j1 O J J O j2 b9K j4 O O (nb O) ?_);exact Ji):=h Ji
def d7Y(h:q->p:=by intro Ji;refine qN [rbx T n3 a6 e6 ps b6 4,.dead,.dead,.dead,o5 e6 b6.length] O ?_;refine c6 ?_;exact Ji):=h Ji
def d8p(h:q->p:=by intro Ji;refine⟨⟨d7k,d7K,J⟩,?_⟩;refine E8 O O e3j ⟨⟨d7k,d7K,J⟩,?_⟩;exact Ji):=h Ji
def d7U(h:p:=by refine b9W ?_;exact⟨_,rE1,(by exact⟨by rw[hr],O⟩)⟩):=h
def d8t(h:p:=by refine b64 ?_;exact⟨(_,p5+1),⟨do_,do_⟩,⟨⟨J,O⟩,⟨J,O⟩,⟨J,O⟩,⟨J,O⟩,⟨J,O⟩,⟨J,O⟩,⟨J,O⟩,J⟩,O⟩):=h
def d7D(h:q->p:=by intro Ji;refine H4 ?_;refine B6 O O O (c4 O Tryz.call324 trivial (b8y _) O ?_);exact Ji):=h Ji
def d8O(h:p:=by refine a9h ?_;exact⟨(i+1),_,⟨G,G,hr⟩,tu_,O⟩):=h
def b8w(h:q->p:=by intro Ji;refine e05 ?_;refine cY P5 ?_;exact Ji):=h Ji
def d7Z(h:q->p:=by intro Ji;refine qD (j1 O J J O j2 c0u j4 O O (nb O) ?_);refine c6 ?_;exact Ji):=h Ji
def b8f(h:q->p:=by intro Ji;refine cG a3h ?_;refine c6N ?_;exact Ji):=h Ji
def d8G(h:q->p:=by intro Ji;refine hY (j3 O J O c6W O Tryz.sizeOf140 H) ?_;refine hY e3o ?_;exact Ji):=h Ji
def d7S(h:q->p:=by intro Ji;refine cD (j1 O J J O j2 b20 j4 O O (nb O) ?_);refine p7 ?_;exact Ji):=h Ji
def d7G(h:Qz q->p:=by intro Ji;refine qY (r6 O J J O O c9C d3i G a5z O) ?_;refine qD (o6 O Tryz.zeroValue79 O j4 ?_);refine qD (j1 O J J O j2 d3i j4 O O (nb O) ?_);exact Ji J):=h λ_=>Ji
def d7l(h:q->p:=by intro Ji;refine qN [rbx T n3 a3 e3 ps b 1,o5 e3 b.length,.box (tk T n).cells] O (qY b0P ?_);refine qD (c4 O a4D E7 (N7 hb ⟨10,x2,0,[],[]⟩ _ ⟨O,O,H⟩) O ?_);exact Ji):=h Ji
def d9j(h:q->p:=by intro Ji;refine hY (j3 O J O c5h O t_1 H) ?_;refine hY a1l ?_;exact Ji):=h Ji
def d7O(h:p:=by refine a9h ?_;exact⟨(i+1),G,⟨G,hr⟩,tu_,O⟩):=h
end Go
