/- Names for closed terms that are often repeated. -/
import Derived.WalkKit
import Derived.Test.YtlppbmfecjabeaaGreatDoorProg
set_option linter.all false
namespace Go
open Go.Proofs.Tryz
theorem O.{u}{α:Sort u}{a:α}:a=a:=rfl
abbrev t_0:=@sizeOf9
abbrev t_1:=@sizeOf3
abbrev t_2:=@runUnderlying26
abbrev t_3:=@runUnderlying22
abbrev t_4:=@zeroValue9
abbrev t_5:=@runUnderlying9
abbrev t_6:=@zeroValue3
abbrev t_7:=@sizeOf59
abbrev t_8:=@sizeOf67
abbrev t_9:=@zeroValue231
abbrev a2E:=@sizeOf26
abbrev a2J:=@isAgg9
abbrev a3C:=@runUnderlying149
abbrev a3V:=@sizeOf231
abbrev a3Z:=@sizeOf39
abbrev a4d:=@call272
abbrev a4c:=@call185
abbrev a4W:=@runUnderlying205
abbrev a4R:=@call195
abbrev a4S:=@zeroValue67
abbrev a4r:=@zeroValue59
abbrev a5a:=@runUnderlying56
abbrev a5W:=@typeInfo9
abbrev a5L:=@call193
abbrev a5M:=@sizeOf119
abbrev a5V:=@call19
abbrev a6p:=@call20
abbrev a7T:=@isAgg3
abbrev a79:=@runUnderlying67
abbrev a8c:=@runUnderlying36
abbrev a7t:=@zeroValue39
abbrev a7Y:=@call183
abbrev a8B:=@sizeOf5
abbrev a8k:=@call230
abbrev a8K:=@runUnderlying231
abbrev a9r:=@sizeOf117
abbrev a9y:=@runUnderlying119
abbrev a9h:=@runUnderlying65
abbrev a9v:=@sizeOf54
abbrev a9m:=@call181
abbrev a9C:=@call12
abbrev a9o:=@sizeOf32
abbrev b1d:=@call279
abbrev b0E:=@zeroValue54
abbrev b1D:=@sizeOf25
abbrev b0h:=@runUnderlying181
abbrev b1y:=@call182
abbrev b02:=@runUnderlying212
abbrev b2e:=@runUnderlying5
abbrev b2l:=@zeroValue119
abbrev b2b:=@call172
abbrev b2f:=@runUnderlying30
abbrev b12:=@zeroValue5
abbrev b14:=@zeroValue32
abbrev b4Z:=@runUnderlying191
abbrev b5j:=@sizeOf212
abbrev b4z:=@isAgg67
abbrev b31:=@runUnderlying183
abbrev b5f:=@call226
abbrev b7r:=@runUnderlying3
abbrev b6a:=@runUnderlying117
abbrev b63:=@zeroValue212
abbrev b6R:=@sizeOf40
abbrev b6y:=@runUnderlying59
abbrev b7J:=@isAgg26
abbrev b6s:=@call171
abbrev b7j:=@runUnderlying228
abbrev b7n:=@call232
abbrev b8J:=@call163
abbrev b8z:=@zeroValue25
abbrev b7G:=@isAgg59
abbrev b9q:=@call241
abbrev b87:=@sizeOf95
abbrev b9g:=@call67
abbrev c0j:=@runUnderlying54
abbrev c3U:=@call85
abbrev c3A:=@call61
abbrev c41:=@runUnderlying195
abbrev c3q:=@runUnderlying199
abbrev c4R:=@call194
abbrev c3K:=@call277
abbrev c5d:=@call196
abbrev c3j:=@sizeOf22
abbrev c5r:=@typeInfo3
abbrev c3C:=@runUnderlying23
abbrev c31:=@sizeOf129
abbrev c4U:=@runUnderlying112
abbrev c34:=@runUnderlying39
abbrev c3P:=@runUnderlying86
abbrev c3x:=@call28
abbrev c5I:=@call124
abbrev c7v:=@call235
abbrev c6I:=@call317
abbrev c7A:=@sizeOf175
abbrev c8i:=@sizeOf30
abbrev c5J:=@isAgg39
abbrev c5T:=@sizeOf4
abbrev c6Y:=@isAgg65
abbrev d0E:=@call184
abbrev c8L:=@isAgg40
abbrev b8D:=@call186
abbrev b7u:=@typeInfo54
abbrev b5H:=@typeInfo5
abbrev b64:=@call122
abbrev b5z:=@call51
abbrev b5u:=@sizeOf105
abbrev b7U:=@runUnderlying103
abbrev b8K:=@call221
abbrev b8Q:=@isAgg36
abbrev b7v:=@runUnderlying95
abbrev b8m:=@isAgg25
abbrev b8q:=@sizeOf23
abbrev b7i:=@runUnderlying129
abbrev b8o:=@isAgg32
abbrev b5R:=@isAgg231
abbrev b6f:=@sizeOf65
abbrev c1I:=@runUnderlying165
abbrev c2N:=@typeInfo231
abbrev c1v:=@call192
abbrev c24:=@call237
abbrev c2V:=@runUnderlying275
abbrev c1e:=@runUnderlying110
abbrev c2x:=@typeInfo39
abbrev c1x:=@sizeOf36
abbrev c1F:=@call92
abbrev c2E:=@call316
abbrev c2z:=@call231
abbrev c2b:=@runUnderlying105
abbrev c26:=@sizeOf103
abbrev c2u:=@call148
abbrev c1s:=@isAgg4
abbrev c1j:=@runUnderlying221
abbrev c0K:=@zeroValue93
abbrev c11:=@zeroValue95
abbrev c12:=@isAgg95
abbrev c2R:=@runUnderlying25
abbrev c1R:=@zeroValue129
abbrev c25:=@zeroValue91
abbrev c1H:=@runUnderlying88
abbrev c1E:=@sizeOf91
abbrev c1f:=@call98
abbrev c71:=@call123
abbrev c7z:=@call131
abbrev c6S:=@call119
abbrev d0J:=@call118
abbrev c6g:=@call278
abbrev c6F:=@call191
abbrev c9C:=@runUnderlying20
abbrev c7Z:=@runUnderlying175
abbrev c97:=@zeroValue175
abbrev d0e:=@isAgg175
abbrev c7i:=@runUnderlying109
abbrev c9j:=@call90
abbrev c9g:=@call175
abbrev c6u:=@call170
abbrev c79:=@runUnderlying210
abbrev c73:=@call173
abbrev c8P:=@call273
abbrev c6A:=@call300
abbrev c7l:=@call322
abbrev c7s:=@call72
abbrev c6q:=@isAgg27
abbrev c66:=@call120
abbrev c6z:=@call87
abbrev c8A:=@zeroValue105
abbrev c9X:=@isAgg105
abbrev c52:=@call95
abbrev c81:=@sizeOf93
abbrev c65:=@isAgg23
abbrev c5L:=@call33
abbrev d0w:=@call94
abbrev c9z:=@runUnderlying29
abbrev c6C:=@isAgg119
abbrev c9r:=@isAgg22
abbrev G:=@if_neg
abbrev W:=@if_pos
abbrev n_2:=@List.mem_of_getElem?
abbrev n_3:=@List.getElem?_eq_some_iff
abbrev n_4:=@Nat.zero_le
abbrev n_5:=@Nat.ne_of_beq_eq_false
abbrev n_6:=@Nat.le_refl
abbrev n_7:=@Option.bind_some
abbrev n_8:=@List.length_append
abbrev n_9:=@List.length_cons
abbrev D9:=@congrArg
abbrev H4:=@List.append_assoc
abbrev H9:=@List.mem_map
abbrev J6:=@List.mem_cons
abbrev M5:=@List.mem_iff_getElem?
abbrev M6:=@Option.map_eq_some_iff
abbrev O5:=@Bool.and_eq_true
abbrev P2:=@Nat.zero_add
abbrev P8:=@List.getElem?_map
abbrev R1:=@List.length_nil
abbrev R6:=@Nat.add_mul
abbrev U4:=@List.drop_eq_nil_of_le
abbrev U5:=@List.drop_eq_getElem_cons
abbrev W0:=@List.mem_append
abbrev X1:=@List.getElem?_append_left
abbrev X3:=@Nat.mul_le_mul_right
abbrev X6:=@List.mem_cons_of_mem
abbrev a0D:=@Array.getD_eq_getD_getElem?
abbrev a02:=@List.length_map
abbrev a1f:=@List.append_nil
abbrev a1i:=@List.take_of_length_le
abbrev a1l:=@List.mem_cons_self
abbrev a1C:=@List.getElem?_eq_getElem
abbrev a1z:=@decide_eq_true_eq
abbrev a2a:=@Nat.eq_of_beq_eq_true
abbrev a1N:=@Array.getElem?_eq_some_iff
abbrev a2d:=@List.all_eq_true
abbrev a2h:=@decide_eq_true
abbrev a2c:=@decide_eq_false
abbrev a2I:=@Array.getElem?_eq_getElem
abbrev a2L:=@List.getElem?_take
abbrev a3i:=@List.getElem?_append_right
abbrev a4g:=@Nat.lt_or_ge
abbrev a4L:=@Nat.mod_lt
abbrev a5H:=@List.getElem?_drop
abbrev a5I:=@List.getElem?_set_ne
abbrev a5J:=@List.not_mem_nil
abbrev a6v:=@List.mem_of_mem_take
abbrev a6j:=@List.getElem?_append
abbrev a6m:=@List.pairwise_cons
abbrev a7d:=@Int.toNat_natCast
abbrev a7G:=@Int.le_refl
abbrev a8w:=@List.map_cons
abbrev a8H:=@List.mem_of_mem_drop
abbrev a8M:=@Nat.lt_of_lt_of_le
abbrev a8g:=@List.take_succ_cons
abbrev a8n:=@List.take_add_one
abbrev a9x:=@Nat.add_assoc
abbrev a9u:=@Array.length_toList
abbrev a9t:=@List.mem_singleton
abbrev a9A:=@List.getD_eq_getElem?_getD
abbrev a9q:=@List.take_length
abbrev a9j:=@List.cons_ne_nil
abbrev a94:=@Nat.blt_eq
abbrev b1q:=@Nat.add_zero
abbrev b0N:=@List.length_take
abbrev b09:=@List.getElem?_set
abbrev b1C:=@Nat.eq_zero_or_pos
abbrev b0I:=@List.filter_cons
abbrev b1F:=@List.all_cons
abbrev b2p:=@Bool.or_eq_true
abbrev b2h:=@List.length_pos_iff
abbrev b17:=@decide_eq_false_iff_not
abbrev b1Y:=@List.mem_filter
abbrev b2o:=@Bool.false_ne_true
abbrev b4J:=@Array.mem_of_getElem?
abbrev b48:=@Array.getElem?_eq_none
abbrev b3S:=@List.drop_zero
abbrev b4Y:=@List.nil_append
abbrev b42:=@List.map_append
abbrev b59:=@Array.getElem?_setIfInBounds_ne
abbrev b6Y:=@Array.getElem?_append
abbrev b8t:=@World.size_alloc
abbrev b7N:=@Bool.false_eq_true
abbrev b5w:=@Nat.add_comm
abbrev b50:=@Bool.not_eq_true'
abbrev b8H:=@UInt8.toNat_inj
abbrev b53:=@List.takeWhile_cons
abbrev b6k:=@List.length_drop
abbrev b6g:=@Bool.true_and
abbrev b8S:=@Option.getD_some
abbrev b9z:=@List.getElem?_eq_none
abbrev b8Y:=@Array.getElem?_modify
abbrev b9D:=@List.getElem_mem
abbrev c0q:=@Array.getElem?_map
abbrev b9E:=@List.eq_nil_of_length_eq_zero
abbrev b9c:=@Nat.mod_eq_of_lt
abbrev b8U:=@List.getElem?_set_self
abbrev c0C:=@Option.isSome_iff_exists
abbrev c0n:=@List.take_append_getElem
abbrev b0u:=@decide_eq_decide
abbrev a98:=@Bool.and_assoc
abbrev b1t:=@List.cons_append
abbrev b0t:=@List.mergeSort_perm
abbrev b2r:=@Array.ext_getElem?
abbrev b2K:=@Nat.mul_comm
abbrev b28:=@Array.getElem?_append_left
abbrev b2s:=@List.ext_getElem?
abbrev b25:=@List.take_append_drop
abbrev b2Z:=@Option.map_some
abbrev b22:=@List.mem_of_find?_eq_some
abbrev b20:=@List.set_append_right
abbrev b3M:=@Option.map_eq_none_iff
abbrev b78:=@Array.getElem?_push
abbrev b70:=@List.mem_append_left
abbrev b6V:=@List.isEmpty_iff
abbrev b5x:=@Int.tmod_eq_emod_of_nonneg
abbrev b8G:=@Bool.or_eq_false_iff
abbrev b6K:=@UInt8.lt_iff_toNat_lt
abbrev b7A:=@List.isPrefixOf_iff_prefix
abbrev b5N:=@List.find?_cons
abbrev b6I:=@List.length_singleton
abbrev b8A:=@List.lt_irrefl
abbrev c1W:=@Bool.eq_false_iff
abbrev c0L:=@List.mem_filterMap
abbrev c1o:=@List.flatten_cons
abbrev c0W:=@Array.size_append
abbrev c0H:=@List.length_mergeSort
abbrev c01:=@List.length_eraseIdx_of_lt
abbrev c20:=@List.foldl_append
abbrev c2K:=@List.drop_length
abbrev c2P:=@List.mem_flatMap
abbrev c17:=@List.pairwise_mergeSort
abbrev c0Q:=@List.le_antisymm
abbrev c1J:=@List.flatMap_cons
abbrev c2B:=@Bool.and_eq_true_iff
abbrev c8t:=@Option.bind_eq_some_iff
abbrev c7K:=@List.getElem?_cons_succ
abbrev c9v:=@List.mem_eraseIdx_iff_getElem?
abbrev c9f:=@Nat.add_sub_cancel_left
abbrev c5U:=@List.append_cancel_left
abbrev d0p:=@List.take_append_of_le_length
def Qz(q:Prop):Prop:=True->q
variable{p q:Prop}(Jj:q)
theorem nb{a b:Nat}(h:Nat.ble a b=true):a <= b:=Nat.le_of_ble_eq_true h
theorem D:True:=True.intro
def q_0(h:p:=by exact⟨⟨D,(by first|exact ur_|exact(by first|exact b3w _ O|exact .same O (Q7 [] _).old |(rw[a0y dB];exact .vec O)|(rw[a0y eW,hNn];exact .vec O)))⟩,⟨D,(by first|exact ur_|exact(by first|exact b3w _ O|exact .same O (Q7 [] _).old |(rw[a0y dB];exact .vec O)|(rw[a0y eW,hNn];exact .vec O)))⟩,⟨D,(by first|exact ur_|exact(by first|exact b3w _ O|exact .same O (Q7 [] _).old |(rw[a0y dB];exact .vec O)|(rw[a0y eW,hNn];exact .vec O)))⟩,⟨D,(by first|exact ur_|exact(by first|exact b3w _ O|exact .same O (Q7 [] _).old |(rw[a0y dB];exact .vec O)|(rw[a0y eW,hNn];exact .vec O)))⟩,⟨D,(by first|exact ur_|exact(by first|exact b3w _ O|exact .same O (Q7 [] _).old |(rw[a0y dB];exact .vec O)|(rw[a0y eW,hNn];exact .vec O)))⟩,D⟩):=h
def q_1(h:p:=by exact⟨⟨x6,n3,a6,e6,b6⟩,T4 (k:=4) O O U (.val _),⟨by rw[ai];exact k1.bindX (λi hi=>by rw[G (by rw[bn];decide),bn];exact k3.bindX (λj hj=>a1Z (by rw[hi,hj];exact k6)) k6.2) λh=>absurd O h,y3,w6,λh0=>by have:=z3 (k6.alive h0).1;have:=z1 O;dsimp only at h0⊢;omega,l6,u6⟩⟩):=h
def q_2(h:p:=by exact⟨⟨D,(by first|exact ur_|exact(by rw[a0y Q];exact .vec O))⟩,⟨D,(by first|exact ur_|exact(by rw[a0y Q];exact .vec O))⟩,⟨D,(by first|exact ur_|exact(by rw[a0y Q];exact .vec O))⟩,⟨D,(by first|exact ur_|exact(by rw[a0y Q];exact .vec O))⟩,D⟩):=h
def q_3(h:p:=by exact(a20 O (by first|exact a1M (by intro a;rfl) _|(intro r hr;simp at hr;done)|(intro r hr;simp at hr;subst hr;rfl)|(intro r hr;exact a1M (by intro a;rfl) _ r (a6v (a8H hr)))|(intro r hr;simp at hr;obtain⟨a,_,rfl⟩:=hr;rfl)))):=h
def q_4(h:p:=by exact(I9 (a:=n) (h:=(n+1)) O O O t_5 ⟨D,_,_,O,by first|omega|(simp at hg;omega),by first|omega|(simp at hg;omega)⟩ ⟨D,_,_,O,by first|omega|(simp at hg;omega),by first|omega|(simp at hg;omega)⟩ J (by show n+1 <= 10;omega))):=h
def q_5(h:p:=by first|rfl|(have hk:=h.kind;have h1:=h.k1;have h2:=h.k2;have h3:=h.k3;have h4:=h.k4;have h6:=h.k678;have h9:=h.k9;have bj:=h.k10;first|(simp;omega)|(have:=h3 J;simp[this])|(have:=h6 J;simp[this])|(have:=h9 J;simp[this]))):=h
def q_6(h:p:=by rw[b1b,hx,W O];exact⟨(),.ret (.old (.tup λi c hi=>by rcases i with _|_|_|i<;>first|(injection hi with hi;subst hi;first|exact .val _|exact(j4 (cs:=[_,_,_,_]) ⟨.val _,.val _,.val _,.val _,D⟩).old)|cases hi)),D⟩):=h
def q_7(h:p:=by rw[b1b,hx,G U];exact⟨(),.ret (.old (.tup λi c hi=>by rcases i with _|_|_|i<;>first|(injection hi with hi;subst hi;first|exact .val _|exact(j4 (cs:=[_,_,_,_]) ⟨.val _,.val _,.val _,.val _,D⟩).old)|cases hi)),D⟩):=h
def q_8(h:p:=by first|exact a1M (by intro a;rfl) _|assumption|(intro r hr;exact a1M (by intro a;rfl) _ r (a6v (a8H hr)))|(intro r hr;simp at hr;obtain⟨a,_,rfl⟩:=hr;rfl)):=h
def q_9(h:p:=by exact(λhg=>z8 O hg hg O O a5a t_7 (by first|omega|(simp at hg;omega)) (o7 (f:=En.cells) (show([]:List En)[_]?=some (fiE L d.k x.2.pkg d.name) by simp at hg)) O)):=h
def e0I(h:p:=by exact(a1J (h:=(st.length -x.args.length)) O D O t_3 t_1 O O ⟨D,_,_,O,J,J⟩ (by first|omega|(simp;done)|(simp;omega)) (by first|omega|(simp;omega)|simp))):=h
def e0P(h:p:=by exact(B4 (([[43],[45],[42],[47],[37],[60],[61,61]]:List I).map scv) O ⟨O,O,O,O,O,O,O,D⟩ t_2 t_0 t_4 O O O O O O O O O)):=h
def d8I(h:p:=by exact(S4 (kc:=sv) (vc:=vcS) (l:=c.ms) (a:=x.pl) (c:=vcS s) b8e O D D O O c7i a4S O O (show((glk c.ms x.pl).map vcS).getD _=vcS s by rw[gL];rfl))):=h
def d7Q(h:p:=by exact(z8 O D D O O b6a b5j J (o7 (by rw[show s+(Tr.n k u o nm ch).size -1=s+C2 ch by rw[Tr.size];omega];exact hAt.node)) O)):=h
def U6(h:p:=by exact⟨D,(by first|exact ur_|exact(by first|exact b3w _ O|exact .same O (Q7 [] _).old |(rw[a0y dB];exact .vec O)|(rw[a0y eW,hNn];exact .vec O)))⟩):=h
def d7E(h:p:=by exact⟨⟨D,_,_,_,O,O,.inr ⟨_,b4z,t_8,nb O,O⟩⟩,⟨D,_,_,_,O,O,.inl ⟨a7T,O⟩⟩,⟨D,_,_,_,O,O,.inl ⟨c8L,O⟩⟩,D⟩):=h
def d9u(h:p:=by exact⟨do_,do_,do_,by dsimp only;simp only[n_8];omega,by dsimp only;simp only[n_8,n_9,R1];omega,do_,do_⟩):=h
def e06(h:p:=by exact(c7 O (B2 #[(0,1),(1,1),(2,1),(3,1),(4,1)] O ⟨D,D,D,D,D⟩ c4U Tryz.zeroValue112 O ⟨_,O⟩ (λw=>by kernel_rfl) O O))):=h
def c6Q(h:p:=by exact⟨⟨D,(by conv=>lhs;whnf)⟩,⟨D,_,_,_,O,O,.inr ⟨_,b7G,t_7,nb O,O⟩⟩,⟨D,(by conv=>lhs;whnf)⟩,⟨D,(by conv=>lhs;whnf)⟩,D⟩):=h
def e0b(h:p:=by exact(c4 O Tryz.call75 ⟨D,D,D,D⟩ (c4d (w:=1) (q1:=2) (q2:=3) (t:=4) ⟨O,O,O,O,a3v ⟨U,U,U,U,U,U⟩⟩ F.f x.name him) O)):=h
def d8D(h:p:=by exact⟨⟨D,ur_⟩,⟨D,ur_⟩,⟨D,ur_⟩,⟨D,(by first|exact ur_|exact .same (D9 (λz:Int=>iv z) (by show _=((Q9 s i1:Nat):Int);omega)) uo_)⟩,D⟩):=h
def d9W(h:p:=by exact(B2 #[(0,1),(1,1),(2,1),(3,1),(4,1),(5,1)] O ⟨D,D,D,D⟩ b6y a4r O ⟨_,O⟩ (λw=>by kernel_rfl) O O)):=h
def d9m(h:p:=by exact(c7 O (B2 #[(0,1),(1,1),(2,1),(3,1),(4,1),(5,1)] O D b6y a4r O ⟨_,O⟩ (λw=>by kernel_rfl) O O))):=h
def d8Y(h:p:=by rw[hh,hr];exact⟨(),.ret (.old (.tup λi c hi=>by rcases i with _|_|i<;>first|(injection hi with hi;subst hi;exact .val _)|cases hi)),D⟩):=h
def e0o(h:p:=by exact(λhg=>T3 O hg hg O O t_2 t_0 a0K (by first|omega|(simp at hg;omega)) (by first|omega|(simp at hg;omega)))):=h
def c4B(h:p:=by exact(B2 #[(0,1),(1,1),(2,1),(3,1),(4,1)] O ⟨O,D,D,D⟩ b02 b63 O ⟨_,O⟩ (λw=>by kernel_rfl) O O)):=h
def d9h(h:p:=by exact(λhg=>T3 O hg hg O O a5a t_7 O (by first|omega|(simp at hg;omega)) (by first|omega|(simp at hg;omega)))):=h
def e0s(h:p:=by exact⟨⟨D,_,_,_,O,O,.inr ⟨_,b8o,a9o,nb O,O⟩⟩,⟨D,_,_,_,O,O,.inr ⟨_,b8m,b1D,nb O,O⟩⟩,D⟩):=h
def d9j(h:p:=by exact(c7 O (a1K O D O a2J a0K (o7 (by rw[P2];first|exact c0o hkm fF|(rw[hj1];exact b39 J hyk))) O))):=h
def b1v(h:p:=by exact(B2 #[(0,1),(1,1),(2,1),(3,1),(4,1)] O ⟨O,D,D⟩ b02 b63 O ⟨_,O⟩ (λw=>by kernel_rfl) O O)):=h
def e04(h:p:=by exact(B2 #[(0,1),(1,1),(2,1),(3,1),(4,1)] O ⟨D,D,D⟩ b02 b63 O ⟨_,O⟩ (λw=>by kernel_rfl) O O)):=h
def e0c(h:p:=by exact(a6V (vc:=vcE) (l:=me) (a:=(D4 x.k x.p x.o)) d1e O D D O O c1e a4r O O (c1q En.z O _))):=h
def d0Y(h:p:=by exact(B2 #[(0,1),(1,1),(2,1),(3,1)] O ⟨O,D,D,D⟩ a8K t_9 O ⟨_,O⟩ (λw=>by kernel_rfl) O O)):=h
def d3C(h:p:=by exact(B2 #[(0,1),(1,1),(2,1),(3,1),(4,1),(5,1)] O D b6y a4r O ⟨_,O⟩ (λw=>by kernel_rfl) O O)):=h
def b9M(h:p:=by exact(B2 #[(0,1),(1,1),(2,1),(3,1)] O ⟨O,D,D⟩ a8K t_9 O ⟨_,O⟩ (λw=>by kernel_rfl) O O)):=h
def d8B(h:p:=by exact(a6V (vc:=vcE) (l:=me) (a:=(D4 k p o)) d1e O D D O O c1e a4r O O (c1q En.z O _))):=h
def e07(h:p:=by exact(λhg=>J8 O hg hg O O t_5 (by first|omega|(simp at hg;omega)) (by rw[a7d];exact hc (sm_ hg)))):=h
def e0e(h:p:=by exact(B4 [En.cells (fiE L d.k x.2.pkg d.name)] O ⟨D,D⟩ a5a t_7 a4r O O O O O O O O O)):=h
def e1e(h:p:=by exact(λhg=>z8 O hg hg O O b2f a9v (by first|omega|(simp at hg;omega)) (o7 (hp (sm_ hg)).1) O)):=h
def d8Q(h:p:=by exact(B4 [Src.cv ((a6t l y.p).getD Src.z)] O ⟨D,D⟩ b7U t_8 a4S O O O O O O O O O)):=h
def b1o(h:p:=by exact⟨⟨D,_,_,_,O,O,.inr ⟨_,b5R,a3V,nb O,O⟩⟩,⟨D,(by conv=>lhs;whnf)⟩,⟨D,(by conv=>lhs;whnf)⟩,D⟩):=h
def e03(h:p:=by exact(B2 #[(0,1),(1,1),(2,1)] O ⟨D,D,D,D⟩ c7Z c97 O ⟨_,O⟩ (λw=>by kernel_rfl) O O)):=h
def e0O(h:p:=by exact(B2 #[(0,1),(1,1),(2,1)] O ⟨O,D,D,D⟩ c34 a7t O ⟨_,O⟩ (λw=>by kernel_rfl) O O)):=h
def d3d(h:p:=by exact(c7 O (B2 #[(0,1),(1,1)] O ⟨D,D,D⟩ c0j b0E O ⟨_,O⟩ (λw=>by kernel_rfl) O O))):=h
def d8n(h:p:=by exact⟨⟨D,_,_,_,O,O,.inr ⟨_,b4z,t_8,nb O,O⟩⟩,⟨D,(by conv=>lhs;whnf)⟩,⟨D,(by conv=>lhs;whnf)⟩,D⟩):=h
def d8k(h:p:=by exact⟨⟨D,_,_,_,O,O,.inr ⟨_,b7G,t_7,nb O,O⟩⟩,⟨D,(by conv=>lhs;whnf)⟩,⟨D,(by conv=>lhs;whnf)⟩,D⟩):=h
def d7F(h:p:=by exact(c7 O (B2 #[(0,1),(1,1),(2,1)] O D a79 a4S O ⟨_,O⟩ (λw=>by kernel_rfl) O O))):=h
def d7t(h:p:=by exact(B2 #[(0,1),(1,1),(2,1)] O ⟨O,D,D⟩ c34 a7t O ⟨_,O⟩ (λw=>by kernel_rfl) O O)):=h
def e0v(h:p:=by exact(B2 #[(0,1),(1,1),(2,1)] O ⟨O,D,D⟩ Tryz.runUnderlying93 c0K O ⟨_,O⟩ (λw=>by kernel_rfl) O O)):=h
def d2u(h:p:=by exact(B2 #[(0,1),(1,1),(2,1),(3,1)] O D a8K t_9 O ⟨_,O⟩ (λw=>by kernel_rfl) O O)):=h
def d6B(h:p:=by exact(λhg=>J8 O hg hg O O t_5 (by first|omega|(simp at hg;omega)) (by rw[a7d];exact hb))):=h
def d9t(h:p:=by exact(S4 (vc:=kv) (l:=m) (a:=(b.toNat :Int)) d1s O D D O O c1I t_6 O O (b4a _ _))):=h
def d9a(h:p:=by exact(λhg=>J8 O hg O O O t_5 (by first|omega|(simp at hg;omega)) (b:=s.headD 0) (c8M (sm_ hg)))):=h
def e0D(h:p:=by exact(λhg=>J8 O hg hg O O t_5 (by first|omega|(simp at hg;omega)) (b:=s[e]?.getD 0) (b9x (sm_ hg)))):=h
def d8E(h:p:=by exact(B4 (a1v.map scv) O ⟨O,O,O,D⟩ t_2 t_0 t_4 O O O O O O O O O)):=h
def d3P(h:p:=by exact .ret (.tups ⟨.old (c:=.agg ((⟨[],[],[]⟩:Src)).cells) (j4 (Src.pure _)).old,.old (.val _),.old (.val _),D⟩)):=h
def d9o(h:p:=by exact(B2 #[(0,1),(1,1),(2,1)] O ⟨D,D⟩ a79 a4S O ⟨_,O⟩ (λw=>by kernel_rfl) O O)):=h
def d9G(h:p:=by exact(c7 O (B4 [Ex.cv x] O ⟨D,D⟩ b6a b5j b63 O O O O O O O O O))):=h
def e0T(h:p:=by exact(c7 O (B4 [De.cv d] O ⟨D,D⟩ a9h a5M b2l O O O O O O O O O))):=h
def d7H(h:p:=by exact⟨⟨D,O⟩,⟨D,O⟩,⟨D,O⟩,⟨D,(by show(iv (arK x.k))=iv x.args.length;rw[bT])⟩,⟨D,O⟩,⟨D,O⟩,⟨D,O⟩,D⟩):=h
def d9b(h:p:=by exact(B4 ([x1,x3].map icv) O ⟨D,D,D⟩ t_3 t_1 t_6 O O O O O O O O O)):=h
def e08(h:p:=by exact(B4 ([x,x3].map icv) O ⟨D,D,D⟩ t_3 t_1 t_6 O O O O O O O O O)):=h
def d9O(h:p:=by exact(c7 O (B4 [scv y.p] O ⟨D,D⟩ t_2 t_0 t_4 O O O O O O O O O))):=h
def d9Y(h:p:=by exact(B2 #[(0,1),(1,1),(2,1)] O D a79 a4S O ⟨_,O⟩ (λw=>by kernel_rfl) O O)):=h
def e1b(h:p:=by exact(c7 O (B4 [icv x3] O ⟨D,D⟩ t_3 t_1 t_6 O O O O O O O O O))):=h
def d2X(h:p:=by exact(z8 O D O O O t_3 t_1 J (o7 (show x.args[0]?=some a0 by rw[e];rfl)) O)):=h
def d9p(h:p:=by exact(z8 O D O O O t_3 t_1 J (o7 (show x.args[1]?=some a1 by rw[e];rfl)) O)):=h
def d3j(h:p:=by first|exact X4 _ _|exact X7 _ _ _|exact V2 _ _ _|exact B8 _ _ _|exact a0R _ _ _):=h
def d8j(h:p:=by exact(B4 [icv (i:Int)] O ⟨D,D⟩ t_3 t_1 t_6 O O O O O O O O O)):=h
def e0X(h:p:=by exact(B2 #[(0,1)] O ⟨D,D⟩ c1j Tryz.zeroValue221 O ⟨_,O⟩ (λw=>by kernel_rfl) O O)):=h
def d9V(h:p:=by exact(λhg=>o5 O hg O a2J (by first|exact c2W _ _|exact a9K hq _|exact a9K hs _) O)):=h
def d0O(h:p:=by exact(λhg=>b6d O hg O O O (by first|omega|(simp at hg;omega)) (by first|omega|(simp at hg;omega)))):=h
def d6I(h:p:=by exact(B4 [Fi.cv y] O ⟨D,D⟩ b2f a9v b0E O O O O O O O O O)):=h
def d9K(h:p:=by exact(B4 [Fi.cv f] O ⟨D,D⟩ b2f a9v b0E O O O O O O O O O)):=h
def d9L(h:p:=by exact(λhg=>c2J O hg O O O (by first|omega|(simp at hg;omega)) (by first|omega|(simp at hg;omega)))):=h
def d9z(h:p:=by exact⟨by show List.length _ <= _;simp only[n_8,n_9,R1];omega,O⟩):=h
def d9N(h:p:=by exact .inl ⟨n+1,a0P O (.tup λi c h=>by simp at h),by rw[pIs,W hb],hW n hn (a6o hb U)⟩):=h
def d7O(h:p:=by exact(z8 O D O O O t_3 t_1 J (o7 (a0U (m:=0) (s:=s) O)) O)):=h
def e0C(h:p:=by exact(c4 O a7Y ⟨D,D⟩ (a0t hT hm (q:=0) (s:=kf ph) (by cases ph<;>exact⟨O,O,U⟩)) O)):=h
def d9Z(h:p:=by exact(z8 O D O O O t_3 t_1 J (o7 (a0U (m:=1) (s:=s) O)) O)):=h
def d3Q(h:p:=by exact(B4 [scv s6] O ⟨D,D⟩ t_2 t_0 t_4 O O O O O O O O O)):=h
def e0g(h:p:=by first|exact λ_=>Env.vb_ok O|exact λ_=>trivial|exact λh=>absurd h U|exact λh=>h):=h
def d1f(h:p:=by exact⟨D,(by first|exact ur_|exact .same O (.list (λi j r c h h'=>by simp at h) (λk h=>by cases h)))⟩):=h
def d3o(h:p:=by exact⟨⟨D,_,_,_,O,O,.inr ⟨_,b4z,t_8,nb O,O⟩⟩,⟨D,(by conv=>lhs;whnf)⟩,D⟩):=h
def c3m(h:p:=by exact⟨⟨D,.ptr O⟩,⟨D,.ptr O⟩,⟨D,.ptr O⟩,⟨D,.same O (.val _)⟩,⟨D,.ptr O⟩,⟨D,.ptr O⟩,D⟩):=h
def d8N(h:p:=by exact(o5 O D O a7T (by first|exact c2W _ _|exact a9K hq _|exact a9K hs _) O)):=h
def d9B(h:p:=by exact(λhg=>c7E O hg O b7G t_7 O (e0u (o7 (hy (sm_ hg))) J) (nb O))):=h
def d8S(h:p:=by exact(λhg=>J8 O hg hg O O t_5 (by first|omega|(simp at hg;omega)) hb)):=h
def b8i(h:p:=by show List.length _ <= _;simp only[n_8,n_9,R1];omega):=h
def d9T(h:p:=by have hb:Tryz.t39.bytes =40:=O;rw[hb];first|(simp;done)|(simp;simp at bf;omega)):=h
def e0F(h:p:=by cases ph;exact T4 (k:=2) O O U (.val _);exact T4 (k:=3) O O U (.val _)):=h
def e0f(h:p:=by exact⟨⟨x,m,a2,e,b2⟩,a5s he O (.val _),.dead (λ_=>hN he) he hm bY ⟨bv,aS⟩⟩):=h
def e02(h:p:=by exact .inl ⟨(i,m,b2),Z8 O O (nb O) (.val _),by rw[ai];exact g1,do_,g3,g4⟩):=h
def e0B(h:p:=by exact(λhg=>c4 O a7Y ⟨hg,D⟩ (a0t hT hm (q:=2) (s:=0) ⟨O,O,U⟩) O)):=h
def d1v(h:p:=by first|omega|(simp at hk hg;omega)|(change (_:Bool)=_ at hk;simp at hk hg;omega)):=h
def d0M(h:p:=by have hb:Tryz.t231.bytes =40:=O;rw[hb];first|omega|(simp;done)|(simp;omega)):=h
def c7P(h:p:=by have hb:Tryz.t54.bytes =32:=O;rw[hb];first|omega|(simp;done)|(simp;omega)):=h
def a3x(h:p:=by exact⟨D,_,_,O,by first|omega|(simp at hg;omega),by first|omega|(simp at hg;omega)⟩):=h
def a5O(h:p:=by have hb:Tryz.t9.bytes =16:=O;rw[hb];first|omega|(simp;done)|(simp;omega)):=h
def d2t(h:p:=by exact(z8 O D D O O b7U t_8 J (o7 (c2I hb)) O)):=h
def d5y(h:p:=by exact(c4 O c5d ⟨D,D⟩ (a3e hT hn ⟨O,O,n_5 O⟩) O)):=h
def b2M(h:p:=by exact⟨⟨D,(by conv=>lhs;whnf)⟩,⟨D,(by conv=>lhs;whnf)⟩,⟨D,(by conv=>lhs;whnf)⟩,D⟩):=h
def b3i(h:p:=by have hb:Tryz.t3.bytes =8:=O;rw[hb];first|omega|(simp;done)|(simp;omega)):=h
def b5q(h:p:=by exact(z8 O D D O O t_2 t_0 J (o7 (d1y hb)) O)):=h
def c6p(h:p:=by exact(λhg=>a0a O hg O b6a (by first|exact W4 _ _|rfl) O)):=h
def b7x(h:p:=by exact(J8 O D D O O t_5 J (by rw[a7d];exact hb))):=h
def c1V(h:p:=by exact(c7 O (T3 O D D O O t_2 t_0 a0K J J))):=h
def c7N(h:p:=by exact(λhg=>a0a O hg O a8c (by first|exact W4 _ _|rfl) O)):=h
def c7b(h:p:=by first|exact .inl ⟨O,O,O⟩|exact .inr ⟨a9j _ _,_,O,O⟩):=h
def d9y(h:p:=by exact U2 (cv:=ivc) [_,_] (eo.trans (by rw[hv,d1P hq])) (.val _) O):=h
def c1p(h:p:=by exact(z8 O D D O O b6a b5j J (o7 hb) O)):=h
def d8L(h:p:=by rw[S9,G u1,W u2];unfold H6;(repeat(first|split))<;>omega):=h
def b5Q(h:p:=by exact(z8 O D D O O a9h a5M J (o7 hd) O)):=h
def c22(h:p:=by exact(z8 O D D O O c3C c31 J (o7 hb) O)):=h
def d5z(h:p:=by exact c7 O (j2 O D O b02 O c3j U)):=h
def d0A(h:p:=by exact(z8 O D D O O a9h a5M J (o7 hb) O)):=h
def d5e(h:p:=by exact(z8 O D D O O b2f a9v J (o7 hb) O)):=h
def d5T(h:p:=by exact c7 O (j2 O D O a79 O b6f U)):=h
def c9a(h:p:=by exact(z8 O D D O O a8c a3Z J (o7 hb) O)):=h
def c9y(h:p:=by exact c7 O (j2 O D O c2R O b8q U)):=h
def a9e(h:p:=by exact(z8 O D D O O t_2 t_0 J (o7 hb) O)):=h
def a7m(h:p:=by exact c7 O (j2 O D O c0j O t_0 U)):=h
def d8R(h:p:=by exact .inl ⟨(i6,n5,b6),Z8 O O (nb O) (.val _),ai,do_,fG,y6⟩):=h
def c1l(h:p:=by exact(z8 O D D O O t_3 t_1 J (o7 hv) O)):=h
def c5G(h:p:=by exact(z8 O D D O O t_2 t_0 J (o7 hy) O)):=h
def b2u(h:p:=by exact c7 O (J7 O D O b5R a3V O (nb O))):=h
def a8V(h:p:=by exact(a0a O D O b6a (by first|exact W4 _ _|rfl) O)):=h
def c2S(h:p:=by exact(a0a O D O b7U (by first|exact W4 _ _|rfl) O)):=h
def c6w(h:p:=by exact(a0a O D O a3C (by first|exact W4 _ _|rfl) O)):=h
def K6(h:p:=by exact(a0a O D O t_2 (by first|exact W4 _ _|rfl) O)):=h
def a00(h:p:=by exact c7 O (J7 O D O b8o a9o O (nb O))):=h
def a1Q(h:p:=by exact(a0a O D O t_3 (by first|exact W4 _ _|rfl) O)):=h
def a2r(h:p:=by exact(a0a O D O b2f (by first|exact W4 _ _|rfl) O)):=h
def a4k(h:p:=by exact(a0a O D O a9h (by first|exact W4 _ _|rfl) O)):=h
def b61(h:p:=by exact(a0a O D O c3C (by first|exact W4 _ _|rfl) O)):=h
def c10(h:p:=by exact(λhg=>c4 O a7Y ⟨hg,D⟩ (a0t hT hn ⟨O,O,U⟩) O)):=h
def c9K(h:p:=by exact(a0a O D O a5a (by first|exact W4 _ _|rfl) O)):=h
def c9c(h:p:=by exact(a0a O D O a8c (by first|exact W4 _ _|rfl) O)):=h
def c6f(h:p:=by exact(d8Z O D O a3C t_5 b2e)):=h
def b3e(h:p:=by exact⟨D,_,_,_,O,O,.inr ⟨_,b5R,a3V,nb O,O⟩⟩):=h
def c8J(h:p:=by exact⟨D,_,_,_,O,O,.inr ⟨_,c6C,a5M,nb O,O⟩⟩):=h
def c7V(h:p:=by exact(c7 O (j2 O D O c2b O c26 U))):=h
def d4s(h:p:=by exact(c7 O (j2 O D O b02 O c3j U))):=h
def a4w(h:p:=by exact⟨D,_,_,_,O,O,.inr ⟨_,b8o,a9o,nb O,O⟩⟩):=h
def c3d(h:p:=by exact⟨D,_,_,_,O,O,.inr ⟨_,b7G,t_7,nb O,O⟩⟩):=h
def c2g(h:p:=by exact(c7 O (j2 O D O a79 O b6f U))):=h
def c7y(h:p:=by exact⟨D,_,_,_,O,O,.inr ⟨_,Tryz.isAgg93,c81,nb O,O⟩⟩):=h
def c9l(h:p:=by exact(λhg=>j2 O D O a9y O a9r U)):=h
def d8C(h:p:=by exact(c7 O (j2 O D O c0j O t_0 U))):=h
def c0R(h:p:=by exact(c7 O (a1e O D O O O (by first|omega|(simp;omega))))):=h
def c23(h:p:=by exact(λhg=>a28 O hg O a8K O a7T O)):=h
def d9M(h:p:=by exact(λhg=>a2U O hg O c0j O t_0 U)):=h
def c5X(h:p:=by exact(c7 O (j2 O D O b6y O t_0 U))):=h
def c7f(h:p:=by exact(λhg=>a28 O hg O a8K O a2J O)):=h
def d9D(h:p:=by exact(λhg=>j2 O D O b02 O t_1 U)):=h
def d5S(h:p:=by exact(c7 O (a1e O D D O O (by first|omega|(simp;omega))))):=h
def b8L(h:p:=by exact(λhg=>j2 O D O a8K O t_0 U)):=h
def b8b(h:p:=by exact(λhg=>j2 O D O a9y O t_0 U)):=h
def b7X(h:p:=by exact(λhg=>j2 O D O a9y O t_1 U)):=h
def b73(h:p:=by exact⟨D,(by first|exact ur_|exact .same O (a0R _ ([]:I) _))⟩):=h
def e0E(h:p:=by exact(λhg=>j2 O D O Tryz.runUnderlying32 O c8i U)):=h
def c8H(h:p:=by exact(λhg=>j2 O D O a8K O t_1 U)):=h
def d8U(h:p:=by exact(λhg=>j2 O D O b7i O t_1 U)):=h
def c9M(h:p:=by exact(λhg=>j2 O D O c0j O t_0 U)):=h
def b6Q(h:p:=by exact(c4 O c5d ⟨D,D⟩ (a3e hT hn ⟨O,O,U⟩) O)):=h
def e0G(h:p:=by exact(λhg=>j2 O D O c34 O t_0 U)):=h
def a7J(h:p:=by exact(c7 O (J7 O D O b8o a9o O (nb O)))):=h
def c87(h:p:=by exact(c7 O (J7 O D O b4z t_8 O (nb O)))):=h
def c5R(h:p:=by exact(c7 O (J7 O D O b7G t_7 O (nb O)))):=h
def b7p(h:p:=by exact(c4 O a7Y ⟨D,D⟩ (a0t hT hn ⟨O,O,U⟩) O)):=h
def c0J(h:p:=by exact(λhg=>a6K O hg O (λhp=>⟨hg,hp⟩) (λ_=>rfl))):=h
def d0s(h:p:=by exact(λhg=>J7 O D O b7G t_7 O (nb O))):=h
def c9D(h:p:=by exact(c7 O (c4 O Tryz.call69 trivial (a56 _) O))):=h
def b3E(h:p:=by exact(j2 O D O c4U O Tryz.sizeOf110 U)):=h
def b7g(h:p:=by exact(j2 O D O b31 O Tryz.sizeOf107 U)):=h
def c18(h:p:=by exact(j2 O D O b7j O a9r U)):=h
def c1m(h:p:=by exact(j2 O D O c4U O Tryz.sizeOf109 U)):=h
def d6h(h:p:=by exact(j2 O D O b02 O c3j U)):=h
def a2w(h:p:=by exact⟨⟨D,(by conv=>lhs;whnf)⟩,⟨D,(by conv=>lhs;whnf)⟩,D⟩):=h
def a37(h:p:=by exact(a28 O D O a8K O a7T O)):=h
def d5I(h:p:=by exact(j2 O D O a9y O a2E U)):=h
def b0g(h:p:=by exact(j2 O D O c2b O a2E U)):=h
def b8R(h:p:=by exact(j2 O D O b7j O b6R U)):=h
def c27(h:p:=by exact(a28 O D O a8K O a2J O)):=h
def c9G(h:p:=by exact(j2 O D O c41 O b6R U)):=h
def d0H(h:p:=by exact(a2K O D O b7r c3P O)):=h
def b7b(h:p:=by exact(j2 O D O a79 O b6f U)):=h
def b2H(h:p:=by exact(j2 O D O a9y O t_1 U)):=h
def b8E(h:p:=by exact(j2 O D O b31 O t_1 U)):=h
def c28(h:p:=by exact(c4 O Tryz.call100 ⟨D,D⟩ (b81 fl nn hl _) O)):=h
def b6z(h:p:=by exact(j2 O D O a8K O t_0 U)):=h
def b7T(h:p:=by exact(j2 O D O b02 O t_0 U)):=h
def c14(h:p:=by exact(j2 O D O c3q O t_1 U)):=h
def c6D(h:p:=by exact(j2 O D O a9y O t_0 U)):=h
def c6X(h:p:=by exact(j2 O D O a8K O t_1 U)):=h
def c92(h:p:=by exact(j2 O D O b7j O t_1 U)):=h
def c6n(h:p:=by exact(j2 O D O b02 O t_1 U)):=h
def W7(h:p:=by exact(a1e O D O O O (by first|omega|(simp;omega)))):=h
def a4l(h:p:=by exact(a1e O O D O O (by first|omega|(simp;omega)))):=h
def c2Y(h:p:=by exact(j2 O D O c0j O t_0 U)):=h
def b7d(h:p:=by exact(j2 O D O b6y O t_0 U)):=h
def a9b(h:p:=by exact(j2 O D O b6y O t_1 U)):=h
def b2R(h:p:=by exact(j2 O D O c9z O t_1 U)):=h
def b2D(h:p:=by exact c7 O (o5 O D O c8L O O)):=h
def b6T(h:p:=by cases ph<;>exact⟨O,O,n_5 O⟩):=h
def b5P(h:p:=by exact(j2 O D O a79 O t_0 U)):=h
def c3a(h:p:=by exact(j2 O D O c34 O t_0 U)):=h
def d3U(h:p:=by exact c7 O (o5 O D O c6Y O O)):=h
def d4E(h:p:=by exact c7 O (o5 O D O c9r O O)):=h
def d0f(h:p:=by exact c7 O (o5 O D O b8Q O O)):=h
def d0D(h:p:=by exact c7 O (o5 O D O c65 O O)):=h
def a1V(h:p:=by exact(a1e O D D O O (by first|omega|(simp;omega)))):=h
def b8M(h:p:=by exact(J7 O D O b5R a3V O (nb O))):=h
def a31(h:p:=by exact c7 O (o5 O D O a2J O O)):=h
def d4q(h:p:=by exact(J7 O D O Tryz.isAgg210 Tryz.sizeOf210 O (nb O))):=h
def b24(h:p:=by exact(J7 O D O d0e c7A O (nb O))):=h
def c2D(h:p:=by exact c7 O (o5 O D O a7T O O)):=h
def c7g(h:p:=by exact(J7 O D O Tryz.isAgg212 b5j O (nb O))):=h
def d0y(h:p:=by exact(J7 O D O c6C a5M O (nb O))):=h
def c2v(h:p:=by exact(c4 O c7s ⟨D,D⟩ (b6L m J _) O)):=h
def d4c(h:p:=by rw[hr];exact .tups ⟨.old (.val _),.old (.val _),D⟩):=h
def c06(h:p:=by first|exact a1M (by intro a;rfl) _|assumption):=h
def a2B(h:p:=by exact(J7 O D O b8o a9o O (nb O))):=h
def G3(h:p:=by exact c7 O (a1j O D (by conv=>lhs;whnf))):=h
def a2V(h:p:=by exact(J7 O D O b8m b1D O (nb O))):=h
def b05(h:p:=by exact(J7 O D O b7G t_7 O (nb O))):=h
def b7K(h:p:=by exact(J7 O D O b4z t_8 O (nb O))):=h
def c5M(h:p:=by exact(c4 O c3A ⟨D,D⟩ (a1I x.name _) O)):=h
def d0n(h:p:=by exact(Y7 O D O c6C a5M (nb O))):=h
def c1D(h:p:=by first|exact O|exact d1X (Env.vb_ok O) O):=h
def c98(h:p:=by exact(c4 O Tryz.call52 ⟨D,D⟩ (b0K l nn _) O)):=h
def c6d(h:p:=by exact(c4 O Tryz.call270 ⟨D,D⟩ (b9m x.k _) O)):=h
def e0k(h:p:=by exact(c4 O Tryz.call104 ⟨D,D⟩ (a81 _ _) O)):=h
def c1Z(h:p:=by exact(c4 O c3U ⟨D,D⟩ (a1E x.a _) O)):=h
def d5m(h:p:=by exact(c4 O Tryz.call29 trivial (b1s _) O)):=h
def b60(h:p:=by exact(J8 O D D O O t_5 J hb)):=h
def c2a(h:p:=by exact(A0 ⟨.val _,B8 _ [] _,K9 _ [] _,D⟩)):=h
def c95(h:p:=by exact(c4 O Tryz.call174 ⟨D,D⟩ (c8o _ _) O)):=h
def S6(h:p:=by exact(a6K O D O (λhp=>hp) (λ_=>rfl))):=h
def d4M(h:p:=by exact(c7 O (a1U O O (by conv=>lhs;whnf)))):=h
def c6y(h:p:=by exact(c7 O (o5 O D O c6Y O O))):=h
def c9Z(h:p:=by exact(c7 O (o5 O D O c8L O O))):=h
def c8g(h:p:=by exact(c7 O (o5 O D O b8Q O O))):=h
def c8C(h:p:=by exact(c7 O (o5 O D O c6q O O))):=h
def c7R(h:p:=by exact(c7 O (o5 O D O b7J O O))):=h
def U8(h:p:=by exact(a8F O D O (λhp=>hp) (λ_=>rfl))):=h
def a9f(h:p:=by exact(c7 O (a1U O D (by conv=>lhs;whnf)))):=h
def b8c(h:p:=by exact(c7 O (o5 O D O a2J O O))):=h
def b29(h:p:=by exact(λhg=>a1g O hg O O O (a4O _ _))):=h
def c1A(h:p:=by exact(c4 O Tryz.call83 trivial (c0d _) O)):=h
def c1w(h:p:=by exact(c7 O (o5 O D O a7T O O))):=h
def c1z(h:p:=by exact(λhg=>o5 O hg O Tryz.isAgg117 O O)):=h
def b2v(h:p:=by exact(λhg=>a1g O hg hg O O (a4O _ _))):=h
def b69(h:p:=by exact(a0M O D O t_3 O O)):=h
def e0a(h:p:=by unfold arK;(repeat(first|split))<;>omega):=h
def d8X(h:p:=by exact(λhg=>o5 O hg O Tryz.isAgg30 O O)):=h
def U7(h:p:=by exact(c7 O (a1j O D (by conv=>lhs;whnf)))):=h
def a32(h:p:=by exact(λhg=>o5 O hg O a7T O O)):=h
def a26(h:p:=by exact(λhg=>o5 O hg O a2J O O)):=h
def d4F(h:p:=by rw[hr,U4 (sm_ h2)];rfl):=h
def c0V(h:p:=by exact(λhg=>b9B O hg O t_5)):=h
def a7f(h:p:=by first|omega|(simp;done)|(simp;omega)):=h
def b7t(h:p:=by first|exact .inr ⟨_,O⟩|exact .inl O):=h
def D2(h:p:=by exact(λhg=>a1j O D (by conv=>lhs;whnf))):=h
def a84(h:p:=by exact(λhg=>a1j O hg (by conv=>lhs;whnf))):=h
def e0L(h:p:=by exact(λhg=>a0L O hg O a2J O)):=h
def a4t(h:p:=by exact c7 O (a2W O D O O)):=h
def L4(h:p:=by simp[ho,Op.operands,Call.operands]):=h
def U1(h:p:=by exact(a1g O D O O O (a4O _ _))):=h
def a86(h:p:=by exact(A0 ⟨a1t _ ([]:List Fi) _,D⟩)):=h
def b3k(h:p:=by exact(o5 O D O Tryz.isAgg110 O O)):=h
def b7B(h:p:=by exact(o5 O D O Tryz.isAgg107 O O)):=h
def c13(h:p:=by exact(o5 O D O Tryz.isAgg117 O O)):=h
def c2p(h:p:=by exact(o5 O D O Tryz.isAgg109 O O)):=h
def c2Q(h:p:=by exact(o5 O D O Tryz.isAgg103 O O)):=h
def G0(h:p:=by first|omega|(simp;omega)|simp):=h
def c2o(h:p:=by exact(o5 O D O c9r O O)):=h
def a6L(h:p:=by exact(a1g O D D O O (a4O _ _))):=h
def b3K(h:p:=by exact(o5 O D O b7J O O)):=h
def a54(h:p:=by exact(a1U O O (by conv=>lhs;whnf))):=h
def c00(h:p:=by exact(o5 O D O c8L O O)):=h
def b7Q(h:p:=by exact(o5 O D O c6Y O O)):=h
def c1Q(h:p:=by exact(o5 O D O c6q O O)):=h
def b2T(h:p:=by exact(a1g O D D O O (a75 _ _))):=h
def a2Z(h:p:=by exact(a1U O D (by conv=>lhs;whnf))):=h
def b1E(h:p:=by exact(λhg=>T9 O hg O O O O)):=h
def c0N(h:p:=by first|omega|(simp at hg;omega)):=h
def U0(h:p:=by exact(o5 O D O a2J O O)):=h
def V3(h:p:=by exact(o5 O D O a7T O O)):=h
def T7(h:p:=by exact(b9B O D O t_5)):=h
def a1n(h:p:=by cases ph<;>exact⟨O,O,U⟩):=h
def b2y(h:p:=by exact(λhg=>T9 O hg hg O O O)):=h
def a82(h:p:=by exact c7 O (b07 O D O)):=h
def e0p(h:p:=by exact(a1j O O (by conv=>lhs;whnf))):=h
def b6S(h:p:=by exact(o5 O D O a7T hk O)):=h
def A3(h:p:=by exact(a1j O D (by conv=>lhs;whnf))):=h
def a3r(h:p:=by exact(a0L O D O a7T O)):=h
def a68(h:p:=by exact(a0L O D O a2J O)):=h
def b06(h:p:=by exact(c7 O (a2W O D O O))):=h
def c1r(h:p:=by rw[h1];exact b2o):=h
def b1M(h:p:=by first|exact W4 _ _|rfl):=h
def r6(h:p:=by exact(c2J O D O O O J J)):=h
def a0k(h:p:=by exact(b6d O D O O O J J)):=h
def a5Z(h:p:=by exact(c2J O D D O O J J)):=h
def a8d(h:p:=by exact(b6d O D D O O J J)):=h
def a7e(h:p:=by rw[b0N];omega):=h
def b5G(h:p:=by rw[R3 gx dP];decide):=h
def a1s(h:p:=by exact(T9 O D O O O O)):=h
def b3m(h:p:=by exact(c7 O (b07 O D O))):=h
def b0r(h:p:=by exact(A0 ⟨.val _,.val _,D⟩)):=h
def b1i(h:p:=by simp[A5.add,<- hr.len]):=h
def P6(h:p:=by exact(A0 ⟨a1t _ _ _,D⟩)):=h
def a51(h:p:=by exact(T9 O D D O O O)):=h
def a35(h:p:=by exact(A0 ⟨a1B _ _ _,D⟩)):=h
def a4a(h:p:=by exact(λhg=>b6e O hg O)):=h
def w8(h:p:=by simp[ho,Op.operands]):=h
def a08(h:p:=by exact(a2W O D O O)):=h
def a52(h:p:=by exact⟨D,_,_,O,J,J⟩):=h
def a34(h:p:=by first|omega|simp):=h
def a2o(h:p:=by conv=>lhs;reduce):=h
def e0y(h:p:=by rw[hv,d6A hq]):=h
def j3(h:p:=by conv=>lhs;whnf):=h
def a0o(h:p:=by cases ph<;>rfl):=h
def b0j(h:p:=by exact⟨D,D,D,O,D⟩):=h
def a36(h:p:=by exact⟨D,D,D,D,D⟩):=h
def a21(h:p:=by exact(O4 _ [] false)):=h
def A7(h:p:=by exact(λ_ _=>nb O)):=h
def a57(h:p:=by exact(b07 O D O)):=h
def L6(h:p:=by exact(a7r _ _ _ _)):=h
def a2y(h:p:=by exact⟨D,O,O,D⟩):=h
def b5X(h:p:=by exact(b6e O D O)):=h
def a8S(h:p:=by exact(b4c (nb O))):=h
def a2j(h:p:=by exact⟨D,D,O,D⟩):=h
def a1b(h:p:=by rw[e];simp):=h
def a2u(h:p:=by exact(B8 _ [] _)):=h
def c7M(h:p:=by rw[hr];rfl):=h
def B7(h:p:=by exact⟨D,D,D,D⟩):=h
def M8(h:p:=by exact(B8 _ _ _)):=h
def N4(h:p:=by simp;omega):=h
def V5(h:p:=by exact(b0p _ _ _)):=h
def a1c(h:p:=by exact(V2 _ _ _)):=h
def j1(h:p:=by exact(.inr ⟨_,O⟩)):=h
def D7(h:p:=by kernel_rfl):=h
def a0A(h:p:=by exact(a1t _ _ _)):=h
def W9(h:p:=by exact(λ_=>rfl)):=h
def F0(h:p:=by exact(a5b _ _)):=h
def o4(h:p:=by exact⟨D,O,D⟩):=h
def j7(h:p:=by exact⟨D,D,D⟩):=h
def r7(h:p:=by exact⟨D,O⟩):=h
def uo_(h:p:=by first|exact .val _|exact .ptr (nb O)|exact .map (nb O)|exact a1t _ _ _|exact B8 _ _ _|exact K9 _ _ _|exact .vec (nb O)|exact O4 _ _ _|exact(Q7 [] _).old|exact a0u _ _ _|exact a6Y _ _|exact X7 _ _ _|exact(by first|exact X4 _ _|exact X7 _ _ _|exact V2 _ _ _|exact B8 _ _ _|exact a0R _ _ _)|exact a7r _ _ _ _|exact(F4 ([]:List Int) false).old|exact(F4 _ _).old|exact b0d _ _|exact b0M _ _ _|exact b6r _|exact a97 _ _ _|exact a1B _ _ _|exact(Q7 _ _).old|exact a0R _ _ _|exact V2 _ _ _):=h
def uz_(h:p:=by intro a ha;repeat' (first|exact .val _|exact .ptr (nb O)|exact .map (nb O)|exact D|exact B8 _ _ _|exact O4 _ _ _|exact K9 _ _ _|exact X7 _ _ _|exact a1t _ _ _|exact(F4 _ _).old|exact a1B _ _ _|exact a7r _ _ _ _|exact .vec (nb O)|exact De.old _ _|exact Ex.old _ _|exact Src.old _ _|exact a0u _ _ _|exact(by first|exact X4 _ _|exact X7 _ _ _|exact B8 _ _ _|exact a0R _ _ _)|exact(F4 ([]:List Int) false).old|exact b0d _ _|exact b0M _ _ _|exact(j4 (cs:=[_,_,_,_]) ⟨.val _,.val _,.val _,.val _,D⟩).old|exact a0R _ _ _|exact(by first|exact B8 _ _ _|exact b4E _ _)|exact d2k _ _ _|exact(by first|exact .vec (nb O)|exact c5W _|exact B8 _ _ _)|exact(by first|exact X4 _ _|exact c6c _ _ _|exact X7 _ _ _|exact B8 _ _ _|exact a0R _ _ _)|exact(a3z _ _).old|exact(Q7 [] _).old|exact(B6 _ _).old|exact Z2 _ _|exact a5b _ _|exact Y9 _ _|exact B8 _ [] _|exact a6Y _ _|exact a9R (nb O) (nb O) (nb O)|exact(by first|exact a3u (nb O)|exact a5b _ _|exact c6c _ _ _|exact A0 (show c6t _ _ from⟨.val _,.val _,.val _,.val _,D⟩))|exact(by first|exact B8 _ _ _|exact X7 _ _ _|exact b4E _ _)|exact(j4 (cs:=A9 _ _) ⟨B6 _ _,D⟩).old|exact a6H.old|exact K9 _ [] _|exact b5b Ky.kpure (λ_=>.val _) _ _|exact b4E _ _|exact a97 _ _ _|refine A0 ?_|refine⟨?_,?_⟩)):=h
def pu_(h:p:=by repeat' (first|exact .val _|exact F4 _ _|exact o6 _ _|exact B6 _ _|exact F8 _ _|exact C1 _ _|exact a1L _ _|exact a5t _ _|exact H3 _ _|exact a3z _ _|exact a3a _ _|exact D|refine j4 ?_|refine B3 ?_|refine⟨?_,?_⟩)):=h
def ur_(h:p:=by first|exact .ptr O|exact .map O|exact .vec O|exact .same O uo_|exact D5.grow (f:=scv) (λ_=>⟨.val _,D⟩) O|exact D5.grow (f:=icv) (λ_=>⟨.val _,D⟩) O|exact D5.grow (f:=Tok.cv) (λ_=>⟨.val _,.val _,.val _,.val _,D⟩) O|exact .same O (B8 _ ([]:List I) _)|exact D5.grow (f:=nmC) (λ_=>⟨.val _,.val _,D⟩) O|exact D5.grow (f:=bcv) (λ_=>⟨.val _,D⟩) O|exact(by exact .vec O)|exact .same O (F4 ([]:List Int) false).old|exact .same O (V2 _ ([]:List Tok) _)):=h
def ut_(h:p:=by repeat' (first|exact D|refine⟨?_,?_⟩|exact ur_|exact O)):=h
def uq_(h:p:=by repeat' (first|exact D|exact .inl O|refine⟨?_,?_⟩|(refine .inr ⟨_,O,.same O ?_⟩;first|exact(a5b _ _)|exact(a7r _ _ _ _)|exact(A0 (a3D _))|exact(A0 ⟨.ptr (by decide),a1B _ _ _,.val _,.map (by decide),.val _,.val _,.val _,.map (by decide),D⟩)|exact(Z2 _ _)|exact(a3u (nb O))|exact(Y9 _ _)|exact(b0p _ _ _)|exact(a9R (by decide) (by decide) (by decide))|exact a6H.old|exact(A0 ⟨a1t _ _ _,D⟩)|exact(b4c (nb O))|exact(A0 ⟨.val _,.val _,.val _,.val _,.val _,.val _,D⟩)|exact(A0 ⟨.val _,.val _,.val _,.val _,b6r _,.val _,D⟩)|exact(A0 ⟨.val _,.val _,.val _,D⟩)|exact(b5b Ky.kpure (λ_=>.val _) _ _)|exact(c6o Ky.kpure (λ_=>.val _) _ _ _)|exact(A0 ⟨.val _,.val _,.val _,.val _,D⟩)|exact(A0 ⟨.val _,.val _,B8 _ [] _,O4 _ [] _,D⟩)|exact(A0 ⟨.val _,.val _,B8 _ _ _,O4 _ _ _,D⟩)|exact(A0 ⟨.val _,D⟩)|exact(A0 ⟨B8 _ _ _,a0u _ _ _,D⟩)|exact(A0 ⟨a1B _ _ _,D⟩)|exact(d8g _ _)|exact(d3n _ _)|exact(c4J _ _)|exact(a3u (by decide))|exact(c32 _ _)|exact(A0 ⟨.val _,.val _,.val _,.val _,X7 _ [] _,D⟩)|exact(b0M _ _ _)|exact(b0p 4 0 b.length)))):=h
def H(h:q->p:=by intro Jj;simpa using Jj):=h Jj
def sm_(h:q->p:=by intro Jj;simp at Jj;omega):=h Jj
theorem gx_{α:Type}(l:List α)(i:Nat)(h:i<l.length:=by omega):∃b,l[i]?=some b:=⟨l[i],by simp⟩
def tu_(h:p:=by repeat' (first|exact D|exact O|refine⟨?_,?_⟩)):=h
def do_(h:p:=by dsimp only;omega):=h
def J(h:p:=by omega):=h
def Q(h:p:=by simp):=h
def U(h:p:=by decide):=h
def z_0(h:q->p:=by intro Jj;refine J2 ?_;refine C6 ?_;exact Jj):=h Jj
def z_1(h:q->p:=by intro Jj;refine qD (l8 O t_9 O j1 ?_);refine qD (i9 O D D O j3 a3V j1 O O (nb O) ?_);exact Jj):=h Jj
def z_2(h:q->p:=by intro Jj;refine qD (i9 O D D O j3 a3V j1 O O (nb O) ?_);refine c6 ?_;exact Jj):=h Jj
def z_3(h:q->p:=by intro Jj;refine z_0 ?_;refine cY A3 ?_;exact Jj):=h Jj
def z_4(h:Qz q->p:=by intro Jj;refine V r6 ?_;refine qD (i9 O D D O j3 t_1 (.inl O) O O (nb O) ?_);exact Jj D):=h λ_=>Jj
def z_6(h:q->p:=by intro Jj;refine qD (F1 O D j3 j1 ?_);refine qD (F1 O D j3 j1 ?_);exact Jj):=h Jj
def z_7(h:q->p:=by intro Jj;refine qD (l8 O a4r O j1 ?_);refine qD (i9 O D D O j3 t_7 j1 O O (nb O) ?_);exact Jj):=h Jj
def z_8(h:q->p:=by intro Jj;refine B9 O O O (i9 O D D O j3 a9o j1 O O (nb O) ?_);refine⟨D,?_⟩;exact Jj):=h Jj
def z_9(h:q->p:=by intro Jj;refine b1X (i:=6) D7 O O (i9 O D D O j3 a9o j1 O O (nb O) ?_);refine⟨⟨λh=>absurd h U,λh=>absurd h U,λ_=>by exact c7 O a2V,D⟩,?_⟩;exact Jj):=h Jj
def a24(h:q->p:=by intro Jj;refine cY a2Z ?_;refine A6 ?_;exact Jj):=h Jj
def c3L(h:q->p:=by intro Jj;refine b1X (i:=7) D7 O O (i9 O D D O j3 b1D j1 O O (nb O) ?_);refine⟨⟨λh=>absurd h U,λh=>absurd h U,λh=>absurd h U,D⟩,?_⟩;exact Jj):=h Jj
def c0w(h:q->p:=by intro Jj;refine qD (l8 O b2l O j1 ?_);refine qD (i9 O D D O j3 a5M j1 O O (nb O) ?_);exact Jj):=h Jj
def W5(h:q->p:=by intro Jj;refine l9 ?_;refine c6 ?_;exact Jj):=h Jj
def a1u(h:q->p:=by intro Jj;refine qG D2 ?_;refine qG D2 ?_;exact Jj):=h Jj
def b9Z(h:q->p:=by intro Jj;refine V e0k ?_;refine qD (j5 O b2b o4 (T1 _ 3 _) O (λ_ hq=>H5 [_,_] (eo.trans e0y) O) ?_);exact Jj):=h Jj
def b86(h:q->p:=by intro Jj;refine qD (l8 O b63 O j1 ?_);refine qD (i9 O D D O j3 b5j j1 O O (nb O) ?_);exact Jj):=h Jj
def a2b(h:q->p:=by intro Jj;refine a1m ?_;refine qo ?_;exact Jj):=h Jj
def b0P(h:p:=by refine V r6 ?_;exact⟨(i+1),_,⟨J,J,hr⟩,tu_,O⟩):=h
def a9D(h:p:=by refine c6 ?_;exact⟨_,rE1,_,_,O,O,o3 q_5⟩):=h
def a2g(h:q->p:=by intro Jj;refine qG b1E ?_;refine V S6 ?_;exact Jj):=h Jj
def a3l(h:q->p:=by intro Jj;refine qG b1E ?_;refine V U8 ?_;exact Jj):=h Jj
def c4t(h:q->p:=by intro Jj;refine qD (l8 O a4S O j1 ?_);refine qD (i9 O D D O j3 t_8 j1 O O (nb O) ?_);exact Jj):=h Jj
def c6O(h:p:=by refine c6 ?_;exact⟨_,rE1,_,_,O,O,(.tok (λr hr c hc=>(C7 (f:=scv) (λ_=>P5.all ⟨.val _,D⟩) _) r hr c hc))⟩):=h
def a5R(h:q->p:=by intro Jj;refine chf O U7 ?_;refine chf O U7 ?_;exact Jj):=h Jj
def b2n(h:p:=by refine V r6 ?_;exact⟨(i+1),_,⟨J,J⟩,tu_,O⟩):=h
def b11(h:p:=by refine c6 ?_;exact⟨_,rE1,_,_,O,O,C8 d8L⟩):=h
def c6N(h:p:=by refine z_2 ?_;exact⟨_,r8 (rs:=[.cell 4 231,.tmp 5,.tmp 6]) (cs:=[_,_,_]) O b1o (n_5 O),q_6⟩):=h
def c4P(h:q->p:=by intro Jj;refine cY A3 ?_;refine de O b1y a2j (a0s _ _ U (q:=0) (s:=2) ⟨O,O,U⟩) O ?_;exact Jj):=h Jj
def a2D(h:Qz q->p:=by intro Jj;refine V a4l ?_;refine V W7 ?_;exact Jj D):=h λ_=>Jj
def c5f(h:p:=by refine c6 ?_;exact⟨_,rE1,⟨(_,p1),a16 O L6 (.old (.val _)),b8i,do_,do_⟩⟩):=h
def a3X(h:q->p:=by intro Jj;refine hY A3 ?_;refine hY a57 ?_;exact Jj):=h Jj
def c5q(h:q->p:=by intro Jj;refine E8 O O a9f ⟨D,?_⟩;refine a2s ?_;exact Jj):=h Jj
def a4f(h:q->p:=by intro Jj;refine A6 ?_;refine J2 ?_;exact Jj):=h Jj
def b6j(h:p:=by refine c6 ?_;exact⟨_,rE1,_,_,O,O,C8 c7M⟩):=h
def c4s(h:q->p:=by intro Jj;refine qD (i9 O D D O j3 t_8 j1 O O (nb O) ?_);refine c6 ?_;exact Jj):=h Jj
def d3g(h:p:=by refine z_2 ?_;exact⟨_,r8 (rs:=[.cell 4 231,.tmp 5,.tmp 6]) (cs:=[_,_,_]) O b1o (n_5 O),q_7⟩):=h
def c7w(h:q->p:=by intro Jj;refine G4 ?_;refine B9 O O O (i9 O D D O j3 t_7 j1 O O (nb O) ?_);exact Jj):=h Jj
def d2N(h:q->p:=by intro Jj;refine⟨⟨λ_=>by exact c7 O A3,λ_=>by exact c7 O a2B,λ_=>by exact c7 O a2V,D⟩,?_⟩;refine z_9 ?_;exact Jj):=h Jj
def a4h(h:q->p:=by intro Jj;refine A6 ?_;refine z_3 ?_;exact Jj):=h Jj
def a8r(h:q->p:=by intro Jj;refine⟨D,?_⟩;refine a2s ?_;exact Jj):=h Jj
def a5N(h:q->p:=by intro Jj;refine hY A3 ?_;refine hY A3 ?_;exact Jj):=h Jj
def e0z(h:q->p:=by intro Jj;refine qk ?_;refine m0 hCC (α:=Nat) (λk=>[(3,(.vec 0 0 st.length)),(4,iv i),(5,.ptr 1 0),(6,iv x.args.length),(7,iv k),(8,(.list (E.map Ex.cv) en none)),(9,iv E.length),(10,iv i)]) (λ_=>[(.vec 1 ((st++rest).map icv)),.box x.cells]) (λk=>k<=x.args.length) (λk=>x.args.length -k) 0 (n_4 _) tu_ (aj:=[]) O A7 uz_ ?_;exact Jj):=h Jj
def d0W(h:q->p:=by intro Jj;refine qD (l8 O c1R O j1 ?_);refine qD (i9 O D D O j3 c31 j1 O O (nb O) ?_);exact Jj):=h Jj
def c3t(h:p:=by refine c6 ?_;exact⟨_,rE1,_,_,O,O,C8 O⟩):=h
def d9F(h:q->p:=by intro Jj;refine L8 O O D O D2 ?_;refine L8 O O D O D2 ?_;exact Jj):=h Jj
def d0P(h:q->p:=by intro Jj;refine hY d6h ?_;refine hY c2o ?_;exact Jj):=h Jj
def c7m(h:q->p:=by intro Jj;refine V b1v ?_;refine qD (i9 O D D O j3 b5j j1 O O (nb O) ?_);exact Jj):=h Jj
def c83(h:q->p:=by intro Jj;refine qD (i9 O D D O j3 a9o j1 O O (nb O) ?_);refine c6 ?_;exact Jj):=h Jj
def b5k(h:q->p:=by intro Jj;refine z_0 ?_;refine cD (F1 O D j3 j1 ?_);exact Jj):=h Jj
def d8v(h:q->p:=by intro Jj;refine qN [rbx T n2 a2 e2 ps b 1,o9 e2 b.length,.box (tk T n).cells] O (qD (c5 O a4c o4 (N7 hT y2 hW [41] ⟨O,O,U⟩) O ?_));exact Jj):=h Jj
def a8t(h:q->p:=by intro Jj;refine C6 ?_;refine cY A3 ?_;exact Jj):=h Jj
def d9d(h:q->p:=by intro Jj;refine V b61 ?_;refine m0 hCC (α:=Nat) (λi=>[(1,(sv s)),(9,(.list (l.map Va.cv) nn none)),(10,iv l.length),(11,iv i)]) (λ_=>[.box (O2 l nn)]) (λi=>i<=l.length/\Y2 l s=Y2 (l.drop i) s) (λi=>l.length -i) 0 ⟨n_4 _,O⟩ tu_ (aj:=[]) O A7 uz_ ?_;exact Jj):=h Jj
def d2K(h:q->p:=by intro Jj;refine G4 ?_;refine B9 O O O (i9 O D D O j3 t_8 j1 O O (nb O) ?_);exact Jj):=h Jj
def e0l(h:q->p:=by intro Jj;refine V K6 ?_;refine m0 hCC (α:=Nat) (λi=>[(1,(sv u)),(7,(.list (l.map scv) nn none)),(8,iv l.length),(9,iv i)]) (λ_=>[]) (λi=>i<=l.length/\decide (u∈l)=decide (u∈l.drop i)) (λi=>l.length -i) 0 ⟨n_4 _,O⟩ tu_ (aj:=[]) O A7 uz_ ?_;exact Jj):=h Jj
def d6x(h:p:=by refine cY b8M ?_;exact a1P O O (O6 O a4R o4 (O1 _ _ _) O (λ_ _=>.inr ⟨(_,_),j6,ai,Q⟩))):=h
def d3E(h:q->p:=by intro Jj;refine qN [rbx T n3 a6 e6 ps b6 3,.dead,.box (tk T n).cells,o9 e6 b6.length] O ?_;refine c6 ?_;exact Jj):=h Jj
def c5k(h:q->p:=by intro Jj;refine qG d9D ?_;refine qG a32 ?_;exact Jj):=h Jj
def d8y(h:Qz q->p:=by intro Jj;refine a2b ?_;refine qD (j5 O b6s B7 (a3y (HR a0 a1b (S.look (K8 c.fl x.name)) (SB.refl hs)).1 [.box F.cells,.box x.cells,.box (diE c.fl true c.me x.name).cells] (a0g _ _) S7) O (λer he=>H5 [_,_,_] (eo.trans (R8 he _)) O) ?_);exact Jj D):=h λ_=>Jj
def d3J(h:q->p:=by intro Jj;refine cY d5I ?_;refine cD (i9 O D D O j3 a2E (.inl O) O O (nb O) ?_);exact Jj):=h Jj
def e0A(h:q->p:=by intro Jj;refine qN [mbx c ((rec F a0 (S.look (K8 c.fl x.name))).2) 1 5 6,wbx c.fl c.nn true c.br 2 3 4,smO c.ms,emO c.me,p7 c.br.length,trO ((rec F a0 (S.look (K8 c.fl x.name))).2).tr,ndO,.box F.cells,.box x.cells,.box (diE c.fl true c.me x.name).cells] O ?_;refine a1u ?_;exact Jj):=h Jj
def d7g(h:p:=by refine c6 ?_;exact⟨_,rE1,_,_,O,O,o3 (show(B5 x.a &&decide (x.b=[]))=S5 x by simp_all[S5])⟩):=h
def c78(h:p:=by refine V r6 ?_;exact⟨(j+1),_,⟨J,J⟩,tu_,O⟩):=h
def c5F(h:p:=by refine c6 ?_;exact⟨_,rE1,_,_,O,O,C8 e0a⟩):=h
def d9l(h:Qz q->p:=by intro Jj;refine⟨⟨λ_=>by exact c7 O A3,λ_=>by exact c7 O a2B,λ_=>by exact c7 O a2V,D⟩,?_⟩;refine b1X (i:=2) D7 O O (c5 O c3x j7 (a5k l nn (q0+2) J hl 7540 ⟨J,J⟩ fl hm _ 0 O) O ?_);exact Jj D):=h λ_=>Jj
def d9f(h:q->p:=by intro Jj;refine G8 [rbx T n6 x1 y1 [] [] 2,o9 0 b.length,o9 y1 ([]:List Ex).length,.dead,.box (⟨0,[],[],[]⟩:De).cells,.box [iv kd,(sv s2),.list (l.map scv) (gnn l.length) (G9 l.length 6),.list [] false none],p7 l.length] O ?_;refine A6 ?_;exact Jj):=h Jj
def d2b(h:q->p:=by intro Jj;refine cD (i9 O D D O j3 t_7 j1 O O (nb O) ?_);refine A6 ?_;exact Jj):=h Jj
def d1d(h:q->p:=by intro Jj;refine qD (i9 O D D O j3 t_7 j1 O O (nb O) ?_);refine c6 ?_;exact Jj):=h Jj
def d1o(h:q->p:=by intro Jj;refine cD (i9 O D D O j3 c81 j1 O O (nb O) ?_);refine A6 ?_;exact Jj):=h Jj
def b0C(h:q->p:=by intro Jj;refine qG b2y ?_;refine V U8 ?_;exact Jj):=h Jj
def a61(h:q->p:=by intro Jj;refine qk (V T7 ?_);exact Jj):=h Jj
def d1Z(h:q->p:=by intro Jj;refine qH O O (λhk hg=>T9 O ⟨hk,hg⟩ O O O O) ?_;refine qG c0J ?_;exact Jj):=h Jj
def d2V(h:q->p:=by intro Jj;refine⟨⟨a00,G3,D⟩,?_⟩;refine E8 O O d3d ⟨⟨a00,D⟩,?_⟩;exact Jj):=h Jj
def c0D(h:p:=by refine c6 ?_;exact⟨_,rE1,d9y⟩):=h
def b8W(h:q->p:=by intro Jj;refine D8 ?_;refine J2 ?_;exact Jj):=h Jj
def d9w(h:q->p:=by intro Jj;refine a4p O O (λh=>h) O (λhk hg=>a2U O ⟨hk,hg⟩ O b7i O t_0 U) ?_;refine a4p O O (λh=>h) O (λhk hg=>a0L O ⟨hk,hg⟩ O a2J O) ?_;exact Jj):=h Jj
def d7Y(h:q->p:=by intro Jj;refine cF [] [0,1,2,3,4] (tl:=[(5,[0,1,2]),(6,[0,1]),(7,[0]),(8,[]),(9,[])]) ?_;refine chf O a7J ?_;exact Jj):=h Jj
def d9R(h:q->p:=by intro Jj;refine G8 [rbx T n2 a2 e2 [] [] 2,o9 0 b.length,o9 e2 ([]:List Ex).length,.box (⟨pk,im,bs⟩:Src).cells,.box (⟨0,[],[],[]⟩:De).cells,.box (⟨kd,[],[],[]⟩:De).cells] O ?_;refine cY c6D ?_;exact Jj):=h Jj
def d8e(h:p:=by refine c6 ?_;exact⟨_,rE1,_,_,O,O,o3 (show false=S5 x by simp_all[S5])⟩):=h
def d3y(h:p:=by refine c6 ?_;exact⟨_,rE1,_,_,O,O,o3 cA.symm⟩):=h
def d6E(h:p:=by refine c6 ?_;exact⟨_,rE1,⟨(_,p+2),a16 O L6 (.old (.val _)),b8i,do_,do_⟩⟩):=h
def d9g(h:q->p:=by intro Jj;refine a4p O O (λh=>h) O (λhk hg=>j2 O D O c2R O b8q U) ?_;refine a4p O O (λh=>h) O (λhk hg=>o5 O ⟨hk,hg⟩ O c65 O O) ?_;exact Jj):=h Jj
def d9e(h:q->p:=by intro Jj;refine a4p O O (λh=>h) O (λhk hg=>j2 O D O b7i O t_0 U) ?_;refine a4p O O (λh=>h) O (λhk hg=>o5 O ⟨hk,hg⟩ O a2J O O) ?_;exact Jj):=h Jj
def d8q(h:q->p:=by intro Jj;refine a9M ?_;refine c47 [] [0,0,1,7,15] [0,1] (tl:=[(2,[1]),(3,[]),(4,[])]) D7 D7 O ?_;exact Jj):=h Jj
def b1l(h:q->p:=by intro Jj;refine a24 ?_;refine c6 ?_;exact Jj):=h Jj
def d0R(h:q->p:=by intro Jj;refine qH O O (λhk hg=>b6e O ⟨hk,hg⟩ O) ?_;refine qG c0J ?_;exact Jj):=h Jj
def b6D(h:q->p:=by intro Jj;refine chf O U7 ?_;refine G4 ?_;exact Jj):=h Jj
def d2d(h:p:=by refine c6 ?_;exact⟨_,rE1,(by exact a17 O (.val _))⟩):=h
def d3u(h:q->p:=by intro Jj;refine E8 O O a9f ⟨D,?_⟩;refine E8 O O d4M ⟨D,?_⟩;exact Jj):=h Jj
def b5o(h:q->p:=by intro Jj;refine qG D2 ?_;refine qG c0V ?_;exact Jj):=h Jj
def d3M(h:q->p:=by intro Jj;refine qG D2 ?_;refine qG b2v ?_;exact Jj):=h Jj
def c3D(h:Qz q->p:=by intro Jj;refine V d5e ?_;refine qD (l8 O b0E O j1 ?_);refine qD (i9 O D D O j3 a9v j1 O O (nb O) ?_);exact Jj D):=h λ_=>Jj
def d2q(h:q->p:=by intro Jj;refine cY d5I ?_;refine cY b3K ?_;exact Jj):=h Jj
def d9s(h:q->p:=by intro Jj;refine qN [mbx c (S.look (K8 c.fl x.name)) 1 5 6,wbx c.fl c.nn true c.br 2 3 4,smO c.ms,emO c.me,p7 c.br.length,trO (S.look (K8 c.fl x.name)).tr,ndO,.box F.cells,.box x.cells] O ?_;refine z_7 ?_;exact Jj):=h Jj
def d9q(h:q->p:=by intro Jj;refine⟨⟨λ_=>by exact c7 O a2B,λ_=>by exact c7 O a2B,λ_=>by exact c7 O c28,λ_=>by exact c7 O a1s,D⟩,?_⟩;refine d6R (i:=6) D7 O e06 ?_;exact Jj):=h Jj
def b1G(h:Qz q->p:=by intro Jj;refine qk (V r6 ?_);exact Jj D):=h λ_=>Jj
def d6W(h:q->p:=by intro Jj;refine qD (l8 O b14 O j1 ?_);refine qD (l8 O b14 O j1 ?_);exact Jj):=h Jj
def d9k(h:q->p:=by intro Jj;refine V a37 ?_;refine qD (c5 O b1y a2j (a0s _ _ U ⟨O,O,U⟩) O ?_);exact Jj):=h Jj
def b4T(h:q->p:=by intro Jj;refine V S6 ?_;refine c6 ?_;exact Jj):=h Jj
def a8b(h:q->p:=by intro Jj;refine cY a1s ?_;refine A6 ?_;exact Jj):=h Jj
def a67(h:q->p:=by intro Jj;refine cY b5X ?_;refine A6 ?_;exact Jj):=h Jj
def d4G(h:q->p:=by intro Jj;refine cY A3 ?_;refine A6 ?_;exact Jj):=h Jj
def c3c(h:q->p:=by intro Jj;refine a9M ?_;refine b9f ?_;exact Jj):=h Jj
def c7q(h:q->p:=by intro Jj;refine cY b2H ?_;refine cD (i9 O D O O j3 t_1 (.inl O) O O (nb O) ?_);exact Jj):=h Jj
def c8r(h:Qz q->p:=by intro Jj;refine qD (i9 O D D O j3 c8i (.inl O) O O (nb O) ?_);refine V r6 ?_;exact Jj D):=h λ_=>Jj
def d5G(h:p:=by refine c6 ?_;exact⟨_,C4 O a4w,⟨(a5G fl ⟨sp,s⟩,p4),a16 O L6 (.old (T0 _ _).old),(hm.mono J).ins (hspa) do_,do_,do_⟩⟩):=h
def c1b(h:q->p:=by intro Jj;refine L8 O O D O c9M ?_;refine L8 O O D O a26 ?_;exact Jj):=h Jj
def c2L(h:q->p:=by intro Jj;refine L8 O O D O e0E ?_;refine L8 O O D O d8X ?_;exact Jj):=h Jj
def c2r(h:q->p:=by intro Jj;refine L8 O O D O d9M ?_;refine L8 O O D O e0L ?_;exact Jj):=h Jj
def c6G(h:q->p:=by intro Jj;refine L8 O O D O (λhg=>a1g O hg hg O O (b7E _ _)) ?_;refine hY S6 ?_;exact Jj):=h Jj
def b3u(h:q->p:=by intro Jj;refine chf O U7 ?_;refine chf O b3m ?_;exact Jj):=h Jj
def d4W(h:q->p:=by intro Jj;refine hY A3 ?_;refine hY d4q ?_;exact Jj):=h Jj
def d4k(h:q->p:=by intro Jj;refine b1X (i:=7) D7 O O (F1 O D j3 j1 ?_);refine⟨⟨λh=>absurd h U,λh=>absurd h U,λh=>absurd h U,λh=>absurd h U,D⟩,?_⟩;exact Jj):=h Jj
def c8D(h:q->p:=by intro Jj;refine cD (i9 O D D O j3 a5M j1 O O (nb O) ?_);refine A6 ?_;exact Jj):=h Jj
def d4a(h:p:=by refine c6 ?_;exact⟨_,rE1,_,_,O,O,o3 (show true=decide (u∈l)from(a2h (hw▸n_2 hb)).symm)⟩):=h
def d5t(h:q->p:=by intro Jj;refine qH O O (λhk hg=>j2 O D O a8K O t_0 U) ?_;refine qH O O (λhk hg=>o5 O ⟨hk,hg⟩ O a2J O O) ?_;exact Jj):=h Jj
def c7h(h:q->p:=by intro Jj;refine qN [rbx T n3 a3 e3 ps b 1,o9 e3 b.length,.box (tk T n).cells] O (V e04 ?_);exact Jj):=h Jj
def d4e(h:q->p:=by intro Jj;refine qH O O (λhk hg=>j2 O D O b02 O t_1 U) ?_;refine qH O O (λhk hg=>o5 O ⟨hk,hg⟩ O a7T O O) ?_;exact Jj):=h Jj
def d5w(h:q->p:=by intro Jj;refine qH O O (λhk hg=>j2 O D O a9y O t_0 U) ?_;refine qH O O (λhk hg=>o5 O ⟨hk,hg⟩ O a2J O O) ?_;exact Jj):=h Jj
def d4t(h:Qz q->p:=by intro Jj;refine hY (z8 O D D O O b4Z a3V J (o7 (d7w hn)) O) ?_;refine hY (Y7 O D O b5R a3V (nb O)) ?_;exact Jj D):=h λ_=>Jj
def c1a(h:p:=by refine l9 ?_;exact⟨(k+2),_,O,tu_,O⟩):=h
def d5X(h:q->p:=by intro Jj;refine qN [rbx T n1 a1 e1 ps b 1,o9 e1 b.length,.box (tk T n).cells] O (qD (c5 O c2z j7 (a9V hT y1 hW true hc.l ⟨O,O,U⟩) O ?_));exact Jj):=h Jj
def d5E(h:Qz q->p:=by intro Jj;refine a4p O O (λh=>h) O (λhk hg=>a1j O D j3) ?_;refine a4p O O (λh=>h) O (λhk hg=>b6d O ⟨hk,hg⟩ O O O d1v d1v) ?_;exact Jj D):=h λ_=>Jj
def b6h(h:p:=by refine c6 ?_;exact⟨_,rE1,d8R⟩):=h
def c1X(h:q->p:=by intro Jj;refine A6 ?_;refine a3p ?_;exact Jj):=h Jj
def a6O(h:q->p:=by intro Jj;refine z_3 ?_;refine cY a57 ?_;exact Jj):=h Jj
def c7I(h:q->p:=by intro Jj;refine qN [rbx T n x y ps b 1,o9 y b.length,.box (tk T n).cells] O ?_;refine c6 ?_;exact Jj):=h Jj
def d6b(h:p:=by refine c6 ?_;exact⟨_,r8 (rs:=[.tmp 4,.tmp 5]) (cs:=[_,_]) O a2w (n_5 O),_,_,O,O,d4c⟩):=h
def d5O(h:Qz q->p:=by intro Jj;refine hY (T3 O D D O O t_3 t_1 O J J) ?_;refine hY (a1K O D O a7T O (e0u (o7 cB) J) O) ?_;exact Jj D):=h λ_=>Jj
def d4r(h:p:=by refine W5 ?_;exact⟨_,r8 (rs:=[.tmp 4,.tmp 5]) (cs:=[_,_]) O a2w (n_5 O),_,_,O,O,d4c⟩):=h
def c7L(h:p:=by refine c6 ?_;exact⟨_,rE1,(by exact c9n [_,_] (.val _) O)⟩):=h
def b1r(h:q->p:=by intro Jj;refine z_8 ?_;refine a2s ?_;exact Jj):=h Jj
def b0b(h:Qz q->p:=by intro Jj;refine V a1V ?_;refine V W7 ?_;exact Jj D):=h λ_=>Jj
def c9S(h:q->p:=by intro Jj;refine G4 ?_;refine B9 O O O (l8 O a4r O j1 ?_);exact Jj):=h Jj
def a85(h:q->p:=by intro Jj;refine hY a2Z ?_;refine a2b ?_;exact Jj):=h Jj
def d4n(h:Qz q->p:=by intro Jj;refine b1f O O (λ_=>c7 O W7) ?_;refine B9 O O O (V7 O D O b8J trivial (by exact dQ J (p+2) J) O ?_);exact Jj D):=h λ_=>Jj
def d5H(h:p:=by refine V a0k ?_;exact⟨(s,cm,p6,n-1),[0,1,2],⟨do_,do_,do_,do_,do_,do_,do_⟩,⟨O,O⟩,ut_,uq_⟩):=h
def a7B(h:q->p:=by intro Jj;refine A6 ?_;refine z_0 ?_;exact Jj):=h Jj
def d5p(h:Qz q->p:=by intro Jj;refine⟨⟨a00,G3,G3,D⟩,?_⟩;refine B9 O O O (c5 O Tryz.call68 j7 (b2A l nn (k+3) J hl v db _ 0 O) O ?_);exact Jj D):=h λ_=>Jj
def d4h(h:p:=by refine b1l ?_;exact⟨_,rE1,(by exact .inl ⟨(i6,n+1,b6),Z8 O O (nb O) (.val _),ai,do_,bk,y6⟩)⟩):=h
def c96(h:p:=by refine c6 ?_;exact⟨_,rE1,_,_,O,O,o3 O⟩):=h
def b7o(h:q->p:=by intro Jj;refine chf O d8C ?_;refine chf O b8c ?_;exact Jj):=h Jj
def c6P(h:Qz q->p:=by intro Jj;refine a1u ?_;refine qG e07 ?_;exact Jj D):=h λ_=>Jj
def d5N(h:q->p:=by intro Jj;refine qG (λhg=>j2 O D O a79 O a2E U) ?_;refine qG (λhg=>o5 O hg O b7J O O) ?_;exact Jj):=h Jj
def d5x(h:q->p:=by intro Jj;refine a4p O O (λh=>h) O (λhk hg=>a1g O ⟨hk,hg⟩ ⟨hk,hg⟩ O O (b5D _ _)) ?_;refine L8 O O D O c0J ?_;exact Jj):=h Jj
def d4w(h:q->p:=by intro Jj;refine qG (λhg=>j2 O D O a79 O b6f U) ?_;refine qG (λhg=>o5 O hg O c6Y O O) ?_;exact Jj):=h Jj
def d5f(h:q->p:=by intro Jj;refine qG (λhg=>j2 O D O b7v O c1x U) ?_;refine qG (λhg=>o5 O hg O b8Q O O) ?_;exact Jj):=h Jj
def d5J(h:q->p:=by intro Jj;refine qG (λhg=>j2 O D O b7v O c5T U) ?_;refine qG (λhg=>o5 O hg O c1s O O) ?_;exact Jj):=h Jj
def a8P(h:Qz q->p:=by intro Jj;refine C6 ?_;refine cY r6 ?_;refine d4G ?_;exact Jj D):=h λ_=>Jj
def d3Y(h:Qz q->p:=by intro Jj;refine G4 ?_;refine B9 O O O (c5 O a5V j7 (K7 l nn (k+2) _ 0 O J hl W2 U U) O ?_);exact Jj D):=h λ_=>Jj
def d4U(h:q->p:=by intro Jj;refine E8 O O c2g ⟨D,?_⟩;refine B9 O O O (i9 O D D O j3 b6f (.inl O) O O (nb O) ?_);exact Jj):=h Jj
def d5D(h:q->p:=by intro Jj;refine E8 O O d4s ⟨D,?_⟩;refine B9 O O O (i9 O D D O j3 c3j (.inl O) O O (nb O) ?_);exact Jj):=h Jj
def b3F(h:Qz q->p:=by intro Jj;refine V a9e ?_;refine V a6L ?_;exact Jj D):=h λ_=>Jj
def d3Z(h:p:=by refine c6 ?_;exact⟨_,rE1,(by exact U2 (cv:=ivc) [_,_] (eo.trans (o_l hu)) (.val _) O)⟩):=h
def d4f(h:q->p:=by intro Jj;refine cD (l8 O c97 O j1 ?_);refine cD (i9 O D D O j3 c7A j1 O O (nb O) ?_);exact Jj):=h Jj
def d4x(h:q->p:=by intro Jj;refine qD (l8 O c8A O j1 ?_);refine qD (i9 O D D O j3 b5u j1 O O (nb O) ?_);exact Jj):=h Jj
def d5P(h:q->p:=by intro Jj;refine qD (l8 O a7t O j1 ?_);refine qD (i9 O D D O j3 a3Z j1 O O (nb O) ?_);exact Jj):=h Jj
def d6e(h:q->p:=by intro Jj;refine L8 O O D O (λhg=>Y7 O hg O b7G t_7 (nb O)) ?_;refine L8 O O D O d0s ?_;exact Jj):=h Jj
def d4I(h:q->p:=by intro Jj;refine qD (l8 O c11 O j1 ?_);refine qD (i9 O D D O j3 b87 j1 O O (nb O) ?_);exact Jj):=h Jj
def c9o(h:q->p:=by intro Jj;refine⟨⟨G3,D⟩,?_⟩;refine E8 O O b3m ⟨D,?_⟩;exact Jj):=h Jj
def b5Z(h:Qz q->p:=by intro Jj;refine l9 ?_;refine V r6 ?_;exact Jj D):=h λ_=>Jj
def d4u(h:Qz q->p:=by intro Jj;refine E8 O O (c7 O (c4 O b9g j7 (a0Q fl _ ⟨sp,s⟩ J _) O)) ⟨D,?_⟩;refine b1r ?_;exact Jj D):=h λ_=>Jj
def d4T(h:Qz q->p:=by intro Jj;refine E8 O O (c7 O (c4 O b9g j7 (a0Q fl _ ⟨y,s⟩ J _) O)) ⟨D,?_⟩;refine b1r ?_;exact Jj D):=h λ_=>Jj
def d6c(h:q->p:=by intro Jj;refine hY (j2 O D O b7v O c1x U) ?_;refine hY (o5 O D O b8Q O O) ?_;exact Jj):=h Jj
def d4D(h:q->p:=by intro Jj;refine hY (j2 O D O c9z O c3j U) ?_;refine hY (o5 O D O c9r hk O) ?_;exact Jj):=h Jj
def c75(h:q->p:=by intro Jj;refine L8 O O D O d8U ?_;refine L8 O O D O a32 ?_;exact Jj):=h Jj
def d4b(h:q->p:=by intro Jj;refine cY (j2 O D O c4U O c5T U) ?_;refine cY (o5 O D O c1s O O) ?_;exact Jj):=h Jj
def c6U(h:q->p:=by intro Jj;refine V (a1g O D D O O (b7E _ _)) ?_;refine c6 ?_;exact Jj):=h Jj
def d4g(h:Qz q->p:=by intro Jj;refine V d5m ?_;refine qD (c5 O a5V j7 (K7 l nn (k+2) _ 0 O J hl X8 U U) O ?_);exact Jj D):=h λ_=>Jj
def d5W(h:q->p:=by intro Jj;refine B9 O O O (i9 O D D O j3 t_7 j1 O O (nb O) ?_);refine⟨⟨a4t,D⟩,?_⟩;exact Jj):=h Jj
def c1C(h:Qz q->p:=by intro Jj;refine L8 O O D O D2 ?_;refine L8 O O D O d0O ?_;refine L8 O O D O e1e ?_;exact Jj D):=h λ_=>Jj
def d4V(h:q->p:=by intro Jj;refine J2 ?_;refine cF [] [0,1,2,3,4,5,6,7,8] (tl:=[(9,[0,1,2,3,4,5,6,7,8]),(10,[8]),(11,[])]) ?_;exact Jj):=h Jj
def d5n(h:q->p:=by intro Jj;refine V a37 ?_;refine qD (c5 O b1y a2j (a0s _ _ U (q:=2) (s:=0) ⟨O,O,U⟩) O ?_);exact Jj):=h Jj
def d3X(h:p:=by refine c6 ?_;exact⟨_,rE1,(by exact U2 (cv:=ivc) [_,_,_] eo (.val _) O)⟩):=h
def c5H(h:p:=by refine V a1Q ?_;exact⟨(),_,D,tu_,O⟩):=h
def b1J(h:q->p:=by intro Jj;refine cW 6 ?_;refine d4W ?_;refine d0P ?_;exact Jj):=h Jj
def d5K(h:Qz q->p:=by intro Jj;refine a2b ?_;refine qD (c5 O a5V j7 (K7 l nn (p+1) _ 0 O J hl a1G U U) O ?_);exact Jj D):=h λ_=>Jj
def d4P(h:q->p:=by intro Jj;refine⟨⟨λh=>absurd h U,λh=>absurd h U,λ_=>by exact c7 O a2V,D⟩,?_⟩;refine z_9 ?_;exact Jj):=h Jj
def d3V(h:p:=by refine c6 ?_;exact⟨_,rE1,_,_,O,O,C8 (by rw[B1,W am])⟩):=h
def b3z(h:q->p:=by intro Jj;refine d3M ?_;refine V S6 ?_;exact Jj):=h Jj
def b3B(h:Qz q->p:=by intro Jj;refine c3D ?_;refine V a6L ?_;exact Jj D):=h λ_=>Jj
def b2L(h:q->p:=by intro Jj;refine hY S6 ?_;refine a2b ?_;exact Jj):=h Jj
def d4R(h:q->p:=by intro Jj;refine cF [] [0,1,2,3,4] (tl:=[(5,[0,1]),(6,[0,1]),(7,[]),(8,[]),(9,[])]) ?_;refine chf O d4s ?_;exact Jj):=h Jj
def d5v(h:p:=by refine V r6 ?_;exact⟨(i+1),_,⟨J,J,c3O hb hd hw⟩,tu_,O⟩):=h
def b3s(h:q->p:=by intro Jj;refine d2q ?_;refine cY A3 ?_;exact Jj):=h Jj
def b2B(h:q->p:=by intro Jj;refine hY A3 ?_;refine d0P ?_;exact Jj):=h Jj
def b2w(h:q->p:=by intro Jj;refine hY A3 ?_;refine d9F ?_;exact Jj):=h Jj
def c1T(h:q->p:=by intro Jj;refine chf O a7J ?_;refine chf O U7 ?_;exact Jj):=h Jj
def d5a(h:p:=by refine V r6 ?_;exact⟨(i+1),_,⟨J,J,b8v hb hd hw⟩,tu_,O⟩):=h
def d6a(h:q->p:=by intro Jj;refine B9 O O O (i9 O D D O j3 a9r (.inl O) O O (nb O) ?_);refine a8r ?_;exact Jj):=h Jj
def d4p(h:q->p:=by intro Jj;refine B9 O O O (i9 O D D O j3 b6R (.inl O) O O (nb O) ?_);refine a8r ?_;exact Jj):=h Jj
def d4Y(h:q->p:=by intro Jj;refine V e0X ?_;refine V (b3R (xs:=[.int .i64 e]) O D O (b04 c1j O)) ?_;exact Jj):=h Jj
def b1R(h:q->p:=by intro Jj;refine c5k ?_;refine a3l ?_;exact Jj):=h Jj
def d5Q(h:Qz q->p:=by intro Jj;refine V (z8 O D D O O a9h a5M J (o7 hdd) O) ?_;refine c0w ?_;exact Jj D):=h λ_=>Jj
def d5i(h:p:=by refine V (c4 O Tryz.call233 j7 (a93 s c _) O) ?_;exact c3t):=h
def b7Z(h:q->p:=by intro Jj;refine qG b1E ?_;refine qG a84 ?_;exact Jj):=h Jj
def b8F(h:q->p:=by intro Jj;refine qG a4a ?_;refine V U8 ?_;exact Jj):=h Jj
def b6x(h:q->p:=by intro Jj;refine qG e0G ?_;refine qG a26 ?_;exact Jj):=h Jj
def b5U(h:Qz q->p:=by intro Jj;refine cY r6 ?_;refine cY a57 ?_;exact Jj D):=h λ_=>Jj
def b6b(h:q->p:=by intro Jj;refine hY A3 ?_;refine hY a1s ?_;exact Jj):=h Jj
def b71(h:Qz q->p:=by intro Jj;refine V a1V ?_;refine V r6 ?_;exact Jj D):=h λ_=>Jj
def d3S(h:Qz q->p:=by intro Jj;refine E8 O O d5S ⟨⟨a00,G3,D⟩,?_⟩;refine E8 O O d3d ⟨⟨a00,D⟩,?_⟩;exact Jj D):=h λ_=>Jj
def b6A(h:p:=by refine G8 [pbx T m ps b2 3,.dead,.box (tk T n).cells,p7 b2.length] O ?_;refine a24 ?_;refine c6 ?_;exact⟨_,rE1,e02⟩):=h
def d5M(h:q->p:=by intro Jj;refine V (c4 O a7Y ⟨D,D⟩ (a0t hT y1 ⟨O,O,U⟩) O) ?_;refine V a37 ?_;exact Jj):=h Jj
def d5b(h:p:=by refine b5Z ?_;exact⟨(i+1,e),_,⟨do_,do_,hr,h0,do_⟩,tu_,O⟩):=h
def d5u(h:p:=by refine c6 ?_;exact⟨_,rE1,⟨v,O,O,n_2 hv⟩⟩):=h
def d4o(h:q->p:=by intro Jj;refine B9 O O O (i9 O D D O j3 b1D j1 O O (nb O) ?_);refine a8r ?_;exact Jj):=h Jj
def b3r(h:q->p:=by intro Jj;refine a24 ?_;refine J2 ?_;exact Jj):=h Jj
def b3J(h:q->p:=by intro Jj;refine c5q ?_;refine c6 ?_;exact Jj):=h Jj
def d4S(h:q->p:=by intro Jj;refine V (c4 O a7Y ⟨D,D⟩ (a0t hT eP ⟨O,O,U⟩) O) ?_;refine d9k ?_;exact Jj):=h Jj
def b58(h:q->p:=by intro Jj;refine qo (V U8 ?_);exact Jj):=h Jj
def d4z(h:q->p:=by intro Jj;refine qD (l8 O b14 O j1 ?_);refine qD (l8 O b8z O j1 ?_);exact Jj):=h Jj
def c9s(h:Qz q->p:=by intro Jj;refine⟨D,?_⟩;refine E8 O O d5S ⟨D,?_⟩;exact Jj D):=h λ_=>Jj
def d0k(h:q->p:=by intro Jj;refine cD (F1 O D j3 j1 ?_);refine cY a54 ?_;exact Jj):=h Jj
def b6M(h:q->p:=by intro Jj;refine V e08 ?_;refine V c4B ?_;exact Jj):=h Jj
def d4J(h:q->p:=by intro Jj;refine qG (λhg=>j2 O D O a79 O t_0 U) ?_;refine qG a26 ?_;exact Jj):=h Jj
def d4X(h:q->p:=by intro Jj;refine qG (λhg=>j2 O D O b7v O t_1 U) ?_;refine qG a32 ?_;exact Jj):=h Jj
def d4l(h:q->p:=by intro Jj;refine cY c14 ?_;refine cD (i9 O D D O j3 t_1 (.inl O) O O (nb O) ?_);exact Jj):=h Jj
def d5l(h:q->p:=by intro Jj;refine cY b8E ?_;refine cD (i9 O D D O j3 t_1 (.inl O) O O (nb O) ?_);exact Jj):=h Jj
def b3O(h:Qz q->p:=by intro Jj;refine c6P ?_;refine a2g ?_;exact Jj D):=h λ_=>Jj
def d6j(h:q->p:=by intro Jj;refine cY b2R ?_;refine cD (i9 O D D O j3 t_1 (.inl O) hk O (nb O) ?_);exact Jj):=h Jj
def d5d(h:q->p:=by intro Jj;refine c0O Tryz.func154 O O O O O O O O O O U U O O ?_;refine z_3 ?_;exact Jj):=h Jj
def b7L(h:q->p:=by intro Jj;refine c3c ?_;refine cY A3 ?_;exact Jj):=h Jj
def b8w(h:q->p:=by intro Jj;refine cY e0p ?_;refine c1X ?_;exact Jj):=h Jj
def d5o(h:q->p:=by intro Jj;refine cD (i9 O D D O j3 t_0 (.inl O) O O (nb O) ?_);refine A6 ?_;exact Jj):=h Jj
def d6g(h:q->p:=by intro Jj;refine c0O Tryz.func176 O O O O O O O O O O U U O O ?_;refine z_3 ?_;exact Jj):=h Jj
def d5g(h:q->p:=by intro Jj;refine cF [] [0,1,2,3,4,5,6] (tl:=[(7,[0]),(8,[]),(9,[]),(10,[])]) ?_;refine a5R ?_;exact Jj):=h Jj
def d4K(h:p:=by refine c6 ?_;exact⟨_,rE1,_,_,O,O,o3 hr.symm⟩):=h
def d6k(h:q->p:=by intro Jj;refine⟨⟨d5T,d3U,D⟩,?_⟩;refine E8 O O e0T ⟨⟨d5T,d3U,D⟩,?_⟩;exact Jj):=h Jj
def d5h(h:q->p:=by intro Jj;refine V e03 ?_;refine qD (i9 O D D O j3 c7A j1 O O (nb O) ?_);exact Jj):=h Jj
def d4i(h:q->p:=by intro Jj;refine qN [rbx T n3 a6 e6 ps b6 4,.dead,.dead,.dead,o9 e6 b6.length] O ?_;refine c6 ?_;exact Jj):=h Jj
def d5U(h:q->p:=by intro Jj;refine⟨⟨d5z,d4E,D⟩,?_⟩;refine E8 O O e1b ⟨⟨d5z,d4E,D⟩,?_⟩;exact Jj):=h Jj
def b2F(h:q->p:=by intro Jj;refine z_3 ?_;refine cY b8M ?_;refine cY A3 ?_;exact Jj):=h Jj
def d6i(h:p:=by refine b58 ?_;exact⟨(_,p5+1),⟨do_,do_⟩,⟨⟨D,O⟩,⟨D,O⟩,⟨D,O⟩,⟨D,O⟩,⟨D,O⟩,⟨D,O⟩,⟨D,O⟩,D⟩,O⟩):=h
def d4L(h:q->p:=by intro Jj;refine qD (i9 O D D O j3 b5u j1 O O (nb O) ?_);refine c6 ?_;exact Jj):=h Jj
def b8u(h:q->p:=by intro Jj;refine a4h ?_;refine cY a57 ?_;exact Jj):=h Jj
def b6Z(h:q->p:=by intro Jj;refine cY U1 ?_;refine a24 ?_;exact Jj):=h Jj
def b5I(h:q->p:=by intro Jj;refine cY a51 ?_;refine a4f ?_;exact Jj):=h Jj
def b7D(h:q->p:=by intro Jj;refine b8W ?_;refine a3p ?_;exact Jj):=h Jj
def b5M(h:q->p:=by intro Jj;refine hY a3r ?_;refine a2b ?_;exact Jj):=h Jj
def d5V(h:q->p:=by intro Jj;refine cY a57 ?_;refine cY (j2 O D O b7j O a2E U) ?_;exact Jj):=h Jj
def c88(h:q->p:=by intro Jj;refine qs 2 (qD (F1 O D j3 j1 ?_));exact Jj):=h Jj
def d4N(h:q->p:=by intro Jj;refine hY (j2 O D O b7i O t_0 U) ?_;refine hY U0 ?_;exact Jj):=h Jj
def d5R(h:p:=by refine W5 ?_;exact⟨_,rE1,_,_,O,O,o3 d4F⟩):=h
def d5q(h:q->p:=by intro Jj;refine qN [rbx T n3 a3 e3 ps b 1,o9 e3 b.length,.box (tk T n).cells] O (V b1v ?_);refine qD (c5 O a4d B7 (N5 hb ⟨10,x2,0,[],[]⟩ _ ⟨O,O,U⟩) O ?_);exact Jj):=h Jj
def d4O(h:q->p:=by intro Jj;refine cY (b4X O D O c9C (.inr ⟨_,_,O⟩)) ?_;refine A6 ?_;exact Jj):=h Jj
def d6l(h:p:=by refine W5 ?_;exact⟨_,rE1,_,_,O,O,C8 d4F⟩):=h
def d3T(h:q->p:=by intro Jj;refine hY (j2 O D O c34 O t_1 U) ?_;refine hY V3 ?_;exact Jj):=h Jj
end Go
