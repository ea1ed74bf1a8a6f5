/- Names for closed terms that are often repeated. -/
import Derived.WalkKit
import Derived.Test.YtlppbmfecjabeaaGreatDoorProg
namespace Go
open Go.Proofs.Tryz
abbrev t_0:=@sizeOf9
abbrev t_1:=@sizeOf3
abbrev t_2:=@runUnderlying26
abbrev t_3:=@zeroValue9
abbrev t_4:=@runUnderlying9
abbrev t_5:=@runUnderlying22
abbrev t_6:=@zeroValue3
abbrev t_7:=@runUnderlying149
abbrev t_8:=@isAgg9
abbrev t_9:=@sizeOf59
abbrev a1Q:=@runUnderlying205
abbrev a1S:=@sizeOf54
abbrev a2d:=@call200
abbrev a25:=@sizeOf5
abbrev a3o:=@isAgg3
abbrev a3m:=@sizeOf67
abbrev a27:=@runUnderlying30
abbrev a3K:=@sizeOf231
abbrev a3O:=@sizeOf26
abbrev a3N:=@call185
abbrev a34:=@zeroValue54
abbrev a4D:=@call272
abbrev a5p:=@call193
abbrev a5l:=@zeroValue67
abbrev a5i:=@call19
abbrev a5k:=@runUnderlying56
abbrev a6h:=@sizeOf32
abbrev a6I:=@zeroValue231
abbrev a7j:=@runUnderlying67
abbrev a68:=@sizeOf119
abbrev a7n:=@zeroValue59
abbrev a6E:=@call183
abbrev a7M:=@zeroValue5
abbrev a8h:=@typeInfo9
abbrev a76:=@call20
abbrev a8b:=@runUnderlying212
abbrev a75:=@call230
abbrev a8p:=@runUnderlying231
abbrev a9t:=@zeroValue119
abbrev a9u:=@call181
abbrev a91:=@sizeOf212
abbrev a9Z:=@call279
abbrev b1F:=@runUnderlying65
abbrev b1a:=@call12
abbrev b2d:=@sizeOf117
abbrev b1Y:=@call284
abbrev b4S:=@runUnderlying5
abbrev b4G:=@runUnderlying191
abbrev b4V:=@call195
abbrev b4x:=@zeroValue212
abbrev b4z:=@runUnderlying119
abbrev b34:=@sizeOf305
abbrev b3L:=@zeroValue32
abbrev b4e:=@runUnderlying54
abbrev b50:=@runUnderlying117
abbrev b7s:=@sizeOf22
abbrev b6Y:=@runUnderlying112
abbrev b7K:=@runUnderlying228
abbrev b6E:=@call232
abbrev b5J:=@call182
abbrev b42:=@typeInfo5
abbrev b4X:=@sizeOf25
abbrev b6H:=@runUnderlying113
abbrev b9H:=@call241
abbrev b8o:=@isAgg67
abbrev b8j:=@runUnderlying302
abbrev b73:=@sizeOf129
abbrev b8f:=@runUnderlying129
abbrev b9N:=@typeInfo54
abbrev b8S:=@call163
abbrev b8J:=@runUnderlying309
abbrev b8M:=@sizeOf39
abbrev b88:=@zeroValue39
abbrev b9p:=@runUnderlying39
abbrev b81:=@call67
abbrev c2V:=@call74
abbrev c3i:=@call118
abbrev c2h:=@runUnderlying195
abbrev c2M:=@runUnderlying199
abbrev c2F:=@call277
abbrev c2c:=@sizeOf40
abbrev c17:=@runUnderlying59
abbrev c2A:=@isAgg26
abbrev c2Z:=@isAgg59
abbrev c3j:=@isAgg32
abbrev c6N:=@isAgg5
abbrev c4r:=@call124
abbrev c4q:=@call194
abbrev c62:=@call235
abbrev c6V:=@call160
abbrev c39:=@call196
abbrev c5E:=@typeInfo3
abbrev c7g:=@call317
abbrev c7i:=@call280
abbrev c7K:=@isAgg22
abbrev c4N:=@zeroValue129
abbrev c5I:=@runUnderlying23
abbrev c8x:=@sizeOf175
abbrev c6X:=@call184
abbrev c4G:=@isAgg40
abbrev b5i:=@call122
abbrev b5z:=@sizeOf105
abbrev b5h:=@runUnderlying103
abbrev b7P:=@call202
abbrev b6r:=@isAgg25
abbrev b64:=@runUnderlying36
abbrev b6K:=@call14
abbrev b7U:=@isAgg231
abbrev b6n:=@sizeOf65
abbrev c1D:=@runUnderlying3
abbrev b9U:=@runUnderlying165
abbrev c1N:=@typeInfo231
abbrev c0T:=@call192
abbrev c0n:=@call237
abbrev c1p:=@runUnderlying275
abbrev c1a:=@zeroValue305
abbrev b90:=@runUnderlying25
abbrev c07:=@sizeOf23
abbrev c0s:=@runUnderlying110
abbrev c1T:=@runUnderlying109
abbrev c05:=@call61
abbrev b9Y:=@call316
abbrev c0A:=@call231
abbrev b9S:=@call51
abbrev c0J:=@call246
abbrev b9R:=@call306
abbrev c0c:=@call159
abbrev c1f:=@runUnderlying32
abbrev c1m:=@zeroValue25
abbrev c0h:=@isAgg65
abbrev c5c:=@call123
abbrev c5b:=@call131
abbrev c5K:=@call119
abbrev c7f:=@call307
abbrev c6j:=@call278
abbrev c5n:=@call191
abbrev c7C:=@isAgg305
abbrev c6D:=@isAgg23
abbrev c7A:=@runUnderlying175
abbrev c5M:=@zeroValue175
abbrev c58:=@isAgg175
abbrev c8a:=@call273
abbrev c5Y:=@call300
abbrev c4f:=@call322
abbrev c7n:=@call72
abbrev c4B:=@isAgg27
abbrev c4D:=@call120
abbrev c8S:=@zeroValue105
abbrev c6g:=@isAgg105
abbrev c37:=@runUnderlying242
abbrev c5O:=@underlying3
abbrev c6h:=@isAgg4
abbrev c7x:=@sizeOf4
abbrev c4t:=@underlying9
abbrev c8R:=@sizeOf149
abbrev c50:=@call113
abbrev c5j:=@runUnderlying86
abbrev c5m:=@call90
abbrev c7D:=@runUnderlying29
abbrev c7s:=@isAgg54
abbrev c43:=@sizeOf244
abbrev c4T:=@isAgg119
abbrev c38:=@sizeOf30
abbrev n_0:=@List.getElem?_eq_some_iff
abbrev n_1:=@List.mem_of_getElem?
abbrev n_2:=@Nat.ne_of_beq_eq_false
abbrev n_3:=@Nat.zero_le
abbrev n_4:=@Nat.le_refl
abbrev n_5:=@Option.bind_some
abbrev n_6:=@List.length_append
abbrev n_7:=@List.length_cons
abbrev n_8:=@Nat.zero_add
abbrev n_9:=@List.append_assoc
abbrev I7:=@List.length_nil
abbrev K3:=@List.mem_map
abbrev K8:=@List.mem_iff_getElem?
abbrev L4:=@List.getElem?_append_left
abbrev N0:=@List.getElem?_map
abbrev P3:=@Array.getElem?_eq_some_iff
abbrev Q1:=@Option.map_eq_some_iff
abbrev Q2:=@List.mem_cons
abbrev Q6:=@Nat.add_mul
abbrev Q3:=@Nat.mul_le_mul_right
abbrev Q9:=@List.drop_eq_getElem_cons
abbrev R8:=@List.all_eq_true
abbrev T1:=@Array.getD_eq_getD_getElem?
abbrev T5:=@Nat.lt_or_ge
abbrev U8:=@Array.getElem?_eq_getElem
abbrev U5:=@List.drop_eq_nil_of_le
abbrev Y0:=@Bool.and_eq_true
abbrev Y9:=@List.take_of_length_le
abbrev a0a:=@List.getElem?_append_right
abbrev a0G:=@Nat.blt_eq
abbrev a0y:=@List.mem_append
abbrev a0B:=@List.length_map
abbrev a0P:=@List.append_nil
abbrev a09:=@List.getElem?_take
abbrev a1q:=@List.getElem?_eq_getElem
abbrev a2c:=@Nat.eq_of_beq_eq_true
abbrev a2A:=@List.getD_eq_getElem?_getD
abbrev a2H:=@decide_eq_true
abbrev a3q:=@List.getElem?_set_ne
abbrev a23:=@Int.toNat_natCast
abbrev a3l:=@decide_eq_false
abbrev a3R:=@Nat.add_zero
abbrev a4T:=@Bool.or_eq_true
abbrev a5h:=@List.getElem?_append
abbrev a5t:=@List.length_take
abbrev a5s:=@decide_eq_true_eq
abbrev a6d:=@Array.mem_of_getElem?
abbrev a6r:=@Array.getElem?_eq_none
abbrev a6f:=@Option.getD_some
abbrev a6b:=@Nat.mod_lt
abbrev a60:=@List.getElem?_drop
abbrev a7u:=@List.nil_append
abbrev a74:=@Bool.eq_false_iff
abbrev a73:=@Array.getElem?_setIfInBounds_ne
abbrev a8s:=@List.mem_of_mem_take
abbrev a8e:=@List.pairwise_cons
abbrev a9D:=@List.map_cons
abbrev a9E:=@List.mem_of_mem_drop
abbrev a9B:=@Nat.add_assoc
abbrev a9x:=@Array.length_toList
abbrev a9N:=@List.filter_cons
abbrev a9K:=@List.take_succ_cons
abbrev a9r:=@List.mem_cons_of_mem
abbrev a9v:=@Bool.false_ne_true
abbrev b1t:=@List.getElem?_set
abbrev b0c:=@Bool.not_true
abbrev b0J:=@Bool.false_or
abbrev a9Y:=@Nat.lt_of_lt_of_le
abbrev b0H:=@List.drop_zero
abbrev b1E:=@List.take_length
abbrev b0l:=@List.take_add_one
abbrev b0s:=@List.not_mem_nil
abbrev b13:=@List.length_pos_iff
abbrev b1Z:=@List.getElem?_concat_length
abbrev b4U:=@List.eq_nil_of_length_eq_zero
abbrev b4J:=@List.getElem?_set_self
abbrev b35:=@Int.le_refl
abbrev b6t:=@Bool.false_eq_true
abbrev b55:=@Nat.eq_zero_or_pos
abbrev b6D:=@List.mem_filter
abbrev b5x:=@List.map_append
abbrev b6v:=@List.takeWhile_cons
abbrev b83:=@Nat.le_trans
abbrev b9h:=@List.getElem?_eq_none
abbrev b9x:=@Array.ext_getElem?
abbrev b8H:=@List.mem_range
abbrev b9K:=@Nat.sub_self
abbrev b9z:=@Nat.mul_one
abbrev b8X:=@Option.isSome_iff_exists
abbrev b9I:=@List.mem_singleton
abbrev b9o:=@Bool.true_and
abbrev b8c:=@Bool.and_assoc
abbrev c21:=@Array.getElem?_modify
abbrev c2u:=@List.getElem_mem
abbrev c3L:=@Array.getElem?_map
abbrev c2Y:=@List.any_eq_true
abbrev c2O:=@List.getElem?_cons_zero
abbrev c3Z:=@Nat.add_comm
abbrev c2I:=@Nat.mod_eq_of_lt
abbrev c15:=@List.ext_getElem?
abbrev b3d:=@List.cons_append
abbrev b2z:=@Option.map_some
abbrev b2s:=@UInt8.toNat_inj
abbrev b22:=@List.take_append_getElem
abbrev b2J:=@List.length_drop
abbrev b26:=@Option.map_eq_none_iff
abbrev b23:=@Option.bind_map
abbrev b5y:=@Array.getElem?_append
abbrev b7I:=@Array.getElem?_replicate
abbrev b7a:=@Array.getElem?_push
abbrev b6S:=@List.mem_append_left
abbrev b7f:=@Array.getElem?_append_left
abbrev b5K:=@List.isPrefixOf_iff_prefix
abbrev b68:=@Nat.add_sub_cancel_left
abbrev b5M:=@List.length_singleton
abbrev b5u:=@List.flatMap_cons
abbrev c0C:=@Array.size_append
abbrev c0i:=@List.take_append
abbrev c0Z:=@List.getElem?_cons_succ
abbrev c0y:=@Nat.lt_or_gt_of_ne
abbrev c0S:=@Bool.or_eq_false_iff
abbrev b9V:=@List.mem_of_find?_eq_some
abbrev b9W:=@List.mem_cons_self
abbrev c7P:=@List.eq_nil_iff_forall_not_mem
abbrev c4F:=@List.getElem?_replicate
abbrev c47:=@Int.tdiv_eq_ediv_of_nonneg
abbrev c5a:=@Option.bind_eq_some_iff
abbrev c7O:=@List.mem_eraseIdx_iff_getElem?
def Qz (q:Prop):Prop:=True->q
variable {p q:Prop}
theorem nb {a b : Nat} (h : Nat.ble a b = true) : a <= b := Nat.le_of_ble_eq_true h
theorem tt : True := True.intro
theorem q_0 (h:p:=by exact ⟨⟨tt, (by first | exact .ptr rfl | exact .map rfl | exact .vec rfl | exact .same rfl uo_ | exact r8.grow (f := Fi.cv) (fun a => ⟨.val _, .val _, tt⟩) rfl)⟩, ⟨tt, (by first | exact .ptr rfl | exact .map rfl | exact .vec rfl | exact .same rfl uo_ | exact r8.grow (f := Fi.cv) (fun a => ⟨.val _, .val _, tt⟩) rfl)⟩, ⟨tt, (by first | exact .ptr rfl | exact .map rfl | exact .vec rfl | exact .same rfl uo_ | exact r8.grow (f := Fi.cv) (fun a => ⟨.val _, .val _, tt⟩) rfl)⟩, ⟨tt, (by first | exact .ptr rfl | exact .map rfl | exact .vec rfl | exact .same rfl uo_ | exact r8.grow (f := Fi.cv) (fun a => ⟨.val _, .val _, tt⟩) rfl)⟩, ⟨tt, (by first | exact .ptr rfl | exact .map rfl | exact .vec rfl | exact .same rfl uo_ | exact r8.grow (f := Fi.cv) (fun a => ⟨.val _, .val _, tt⟩) rfl)⟩, ⟨tt, (by first | exact .ptr rfl | exact .map rfl | exact .vec rfl | exact .same rfl uo_ | exact r8.grow (f := Fi.cv) (fun a => ⟨.val _, .val _, tt⟩) rfl)⟩, tt⟩):p:=h
theorem q_1 (h:p:=by exact ⟨⟨tt, (by first | exact .ptr rfl | exact .map rfl | exact .vec rfl | exact .same rfl uo_ | exact r8.same rfl (t7 _ _ _))⟩, ⟨tt, (by first | exact .ptr rfl | exact .map rfl | exact .vec rfl | exact .same rfl uo_ | exact r8.same rfl (t7 _ _ _))⟩, ⟨tt, (by first | exact .ptr rfl | exact .map rfl | exact .vec rfl | exact .same rfl uo_ | exact r8.same rfl (t7 _ _ _))⟩, ⟨tt, (by first | exact .ptr rfl | exact .map rfl | exact .vec rfl | exact .same rfl uo_ | exact r8.same rfl (t7 _ _ _))⟩, ⟨tt, (by first | exact .ptr rfl | exact .map rfl | exact .vec rfl | exact .same rfl uo_ | exact r8.same rfl (t7 _ _ _))⟩, ⟨tt, (by first | exact .ptr rfl | exact .map rfl | exact .vec rfl | exact .same rfl uo_ | exact r8.same rfl (t7 _ _ _))⟩, ⟨tt, (by first | exact .ptr rfl | exact .map rfl | exact .vec rfl | exact .same rfl uo_ | exact r8.same rfl (t7 _ _ _))⟩, tt⟩):p:=h
theorem q_2 (h:p:=by exact ⟨⟨tt, (by first | exact .ptr rfl | exact .map rfl | exact .vec rfl | exact .same rfl uo_ | exact r8.grow (f := Tok.cv) (fun _ => ⟨.val _, .val _, .val _, .val _, tt⟩) rfl)⟩, ⟨tt, (by first | exact .ptr rfl | exact .map rfl | exact .vec rfl | exact .same rfl uo_ | exact r8.grow (f := Tok.cv) (fun _ => ⟨.val _, .val _, .val _, .val _, tt⟩) rfl)⟩, ⟨tt, (by first | exact .ptr rfl | exact .map rfl | exact .vec rfl | exact .same rfl uo_ | exact r8.grow (f := Tok.cv) (fun _ => ⟨.val _, .val _, .val _, .val _, tt⟩) rfl)⟩, ⟨tt, (by first | exact .ptr rfl | exact .map rfl | exact .vec rfl | exact .same (congrArg (fun z : Int => CV.val (.int .i64 z)) (by show _ = ((K5 s i1 : Nat) : Int); omega)) uo_ | exact r8.grow (f := Tok.cv) (fun _ => ⟨.val _, .val _, .val _, .val _, tt⟩) rfl)⟩, tt⟩):p:=h
theorem q_3 (h:p:=by exact ⟨⟨tt, (by first | exact .ptr rfl | exact .map rfl | exact .vec rfl | exact .same rfl uo_ | exact r8.grow (f := Sn.cv) (fun _ => ⟨.val _, .val _, tt⟩) rfl)⟩, ⟨tt, (by first | exact .ptr rfl | exact .map rfl | exact .vec rfl | exact .same rfl uo_ | exact r8.grow (f := Sn.cv) (fun _ => ⟨.val _, .val _, tt⟩) rfl)⟩, ⟨tt, (by first | exact .ptr rfl | exact .map rfl | exact .vec rfl | exact .same rfl uo_ | exact r8.grow (f := Sn.cv) (fun _ => ⟨.val _, .val _, tt⟩) rfl)⟩, ⟨tt, (by first | exact .ptr rfl | exact .map rfl | exact .vec rfl | exact .same rfl uo_ | exact r8.grow (f := Sn.cv) (fun _ => ⟨.val _, .val _, tt⟩) rfl)⟩, ⟨tt, (by first | exact .ptr rfl | exact .map rfl | exact .vec rfl | exact .same rfl uo_ | exact r8.grow (f := Sn.cv) (fun _ => ⟨.val _, .val _, tt⟩) rfl)⟩, tt⟩):p:=h
theorem q_4 (h:p:=by exact ⟨⟨tt, (by first | exact .ptr rfl | exact .map rfl | exact .vec rfl | exact .same rfl uo_ | exact r8.same rfl (t7 _ _ _))⟩, ⟨tt, (by first | exact .ptr rfl | exact .map rfl | exact .vec rfl | exact .same rfl uo_ | exact r8.same rfl (t7 _ _ _))⟩, ⟨tt, (by first | exact .ptr rfl | exact .map rfl | exact .vec rfl | exact .same rfl uo_ | exact r8.same rfl (t7 _ _ _))⟩, ⟨tt, (by first | exact .ptr rfl | exact .map rfl | exact .vec rfl | exact .same rfl uo_ | exact r8.same rfl (t7 _ _ _))⟩, ⟨tt, (by first | exact .ptr rfl | exact .map rfl | exact .vec rfl | exact .same rfl uo_ | exact r8.same rfl (t7 _ _ _))⟩, ⟨tt, (by first | exact .ptr rfl | exact .map rfl | exact .vec rfl | exact .same rfl uo_ | exact r8.same rfl (t7 _ _ _))⟩, tt⟩):p:=h
theorem q_5 (h:p:=by exact ⟨⟨tt, (by first | exact .ptr rfl | exact .map rfl | exact .vec rfl | exact .same rfl uo_ | exact r8.grow (f := scv) (fun a => ⟨.val _, tt⟩) rfl)⟩, ⟨tt, (by first | exact .ptr rfl | exact .map rfl | exact .vec rfl | exact .same rfl uo_ | exact r8.grow (f := scv) (fun a => ⟨.val _, tt⟩) rfl)⟩, ⟨tt, (by first | exact .ptr rfl | exact .map rfl | exact .vec rfl | exact .same rfl uo_ | exact r8.grow (f := scv) (fun a => ⟨.val _, tt⟩) rfl)⟩, ⟨tt, (by first | exact .ptr rfl | exact .map rfl | exact .vec rfl | exact .same rfl uo_ | exact r8.grow (f := scv) (fun a => ⟨.val _, tt⟩) rfl)⟩, ⟨tt, (by first | exact .ptr rfl | exact .map rfl | exact .vec rfl | exact .same rfl uo_ | exact r8.grow (f := scv) (fun a => ⟨.val _, tt⟩) rfl)⟩, tt⟩):p:=h
theorem q_6 (h:p:=by exact ⟨⟨tt, (by first | exact .ptr rfl | exact .map rfl | exact .vec rfl | exact .same rfl uo_ | exact r8.grow (f := Tok.cv) (fun _ => ⟨.val _, .val _, .val _, .val _, tt⟩) rfl)⟩, ⟨tt, (by first | exact .ptr rfl | exact .map rfl | exact .vec rfl | exact .same rfl uo_ | exact r8.grow (f := Tok.cv) (fun _ => ⟨.val _, .val _, .val _, .val _, tt⟩) rfl)⟩, ⟨tt, (by first | exact .ptr rfl | exact .map rfl | exact .vec rfl | exact .same rfl uo_ | exact r8.grow (f := Tok.cv) (fun _ => ⟨.val _, .val _, .val _, .val _, tt⟩) rfl)⟩, ⟨tt, (by first | exact .ptr rfl | exact .map rfl | exact .vec rfl | exact .same rfl uo_ | exact r8.grow (f := Tok.cv) (fun _ => ⟨.val _, .val _, .val _, .val _, tt⟩) rfl)⟩, tt⟩):p:=h
theorem q_7 (h:p:=by exact ⟨⟨tt, (by first | exact .ptr rfl | exact .map rfl | exact .vec rfl | exact .same rfl uo_)⟩, ⟨tt, (by first | exact .ptr rfl | exact .map rfl | exact .vec rfl | exact .same rfl uo_)⟩, ⟨tt, (by first | exact .ptr rfl | exact .map rfl | exact .vec rfl | exact .same rfl uo_)⟩, ⟨tt, (by first | exact .ptr rfl | exact .map rfl | exact .vec rfl | exact .same rfl uo_)⟩, ⟨tt, (by first | exact .ptr rfl | exact .map rfl | exact .vec rfl | exact .same rfl uo_)⟩, ⟨tt, (by first | exact .ptr rfl | exact .map rfl | exact .vec rfl | exact .same rfl uo_)⟩, ⟨tt, (by first | exact .ptr rfl | exact .map rfl | exact .vec rfl | exact .same rfl uo_)⟩, tt⟩):p:=h
theorem q_8 (h:p:=by exact ⟨⟨tt, (by first | exact .ptr rfl | exact .map rfl | exact .vec rfl | exact .same rfl uo_ | exact r8.grow (f := scv) (fun a => ⟨.val _, tt⟩) rfl)⟩, ⟨tt, (by first | exact .ptr rfl | exact .map rfl | exact .vec rfl | exact .same rfl uo_ | exact r8.grow (f := scv) (fun a => ⟨.val _, tt⟩) rfl)⟩, ⟨tt, (by first | exact .ptr rfl | exact .map rfl | exact .vec rfl | exact .same rfl uo_ | exact r8.grow (f := scv) (fun a => ⟨.val _, tt⟩) rfl)⟩, ⟨tt, (by first | exact .ptr rfl | exact .map rfl | exact .vec rfl | exact .same rfl uo_ | exact r8.grow (f := scv) (fun a => ⟨.val _, tt⟩) rfl)⟩, tt⟩):p:=h
theorem q_9 (h:p:=by exact ⟨⟨tt, (by first | exact .ptr rfl | exact .map rfl | exact .vec rfl | exact .same rfl uo_ | exact r8.grow (f := scv) (fun _ => ⟨.val _, tt⟩) rfl)⟩, ⟨tt, (by first | exact .ptr rfl | exact .map rfl | exact .vec rfl | exact .same rfl uo_ | exact r8.grow (f := scv) (fun _ => ⟨.val _, tt⟩) rfl)⟩, ⟨tt, (by first | exact .ptr rfl | exact .map rfl | exact .vec rfl | exact .same rfl uo_ | exact r8.grow (f := scv) (fun _ => ⟨.val _, tt⟩) rfl)⟩, ⟨tt, (by first | exact .ptr rfl | exact .map rfl | exact .vec rfl | exact .same rfl uo_ | exact r8.grow (f := scv) (fun _ => ⟨.val _, tt⟩) rfl)⟩, tt⟩):p:=h
theorem a8g (h:p:=by exact ⟨⟨tt, (by first | exact .ptr rfl | exact .map rfl | exact .vec rfl | exact .same rfl uo_)⟩, ⟨tt, (by first | exact .ptr rfl | exact .map rfl | exact .vec rfl | exact .same rfl uo_)⟩, ⟨tt, (by first | exact .ptr rfl | exact .map rfl | exact .vec rfl | exact .same rfl uo_)⟩, ⟨tt, (by first | exact .ptr rfl | exact .map rfl | exact .vec rfl | exact .same rfl uo_)⟩, ⟨tt, (by first | exact .ptr rfl | exact .map rfl | exact .vec rfl | exact .same rfl uo_)⟩, ⟨tt, (by first | exact .ptr rfl | exact .map rfl | exact .vec rfl | exact .same rfl uo_)⟩, tt⟩):p:=h
theorem c2N (h:p:=by exact ⟨⟨tt, (by first | exact .ptr rfl | exact .map rfl | exact .vec rfl | exact .same rfl uo_)⟩, ⟨tt, (by first | exact .ptr rfl | exact .map rfl | exact .vec rfl | exact .same rfl uo_)⟩, ⟨tt, (by first | exact .ptr rfl | exact .map rfl | exact .vec rfl | exact .same rfl uo_)⟩, ⟨tt, (by first | exact .ptr rfl | exact .map rfl | exact .vec rfl | exact .same rfl uo_)⟩, ⟨tt, (by first | exact .ptr rfl | exact .map rfl | exact .vec rfl | exact .same rfl uo_)⟩, tt⟩):p:=h
theorem d4r (h:p:=by exact ⟨⟨tt, (by first | exact .ptr rfl | exact .map rfl | exact .vec rfl | exact .same rfl uo_ | exact r8.grow (f := icv) (fun _ => ⟨.val _, tt⟩) rfl)⟩, ⟨tt, (by first | exact .ptr rfl | exact .map rfl | exact .vec rfl | exact .same rfl uo_ | exact r8.grow (f := icv) (fun _ => ⟨.val _, tt⟩) rfl)⟩, ⟨tt, (by first | exact .ptr rfl | exact .map rfl | exact .vec rfl | exact .same rfl uo_ | exact r8.grow (f := icv) (fun _ => ⟨.val _, tt⟩) rfl)⟩, tt⟩):p:=h
theorem c4E (h:p:=by exact ⟨⟨tt, (by first | exact .ptr rfl | exact .map rfl | exact .vec rfl | exact .same rfl uo_)⟩, ⟨tt, (by first | exact .ptr rfl | exact .map rfl | exact .vec rfl | exact .same rfl uo_)⟩, ⟨tt, (by first | exact .ptr rfl | exact .map rfl | exact .vec rfl | exact .same rfl uo_)⟩, ⟨tt, (by first | exact .ptr rfl | exact .map rfl | exact .vec rfl | exact .same rfl uo_)⟩, tt⟩):p:=h
theorem d4z (h:p:=by exact ⟨⟨x6, n3, a6, e6, b6⟩, R0 (k := 4) rfl rfl de_ (.val _), ⟨by rw [hsp]; exact k1.bindX (fun i hi => by rw [if_neg (by rw [hop]; decide), hop]; exact k3.bindX (fun j hj => a1D (by rw [hi, hj]; exact k6)) k6.2) fun h => absurd rfl h, y3, w6, fun h0 => by have := z3 (k6.alive h0).1; have := z1 rfl; dsimp only at h0 ⊢; omega, l6, u6⟩⟩):p:=h
theorem d4O (h:p:=by exact ⟨⟨tt, (by first | exact .ptr rfl | exact .map rfl | exact .vec rfl | exact .same rfl uo_ | exact r8.grow (f := scv) (fun _ => ⟨.val _, tt⟩) rfl)⟩, ⟨tt, (by first | exact .ptr rfl | exact .map rfl | exact .vec rfl | exact .same rfl uo_ | exact r8.grow (f := scv) (fun _ => ⟨.val _, tt⟩) rfl)⟩, tt⟩):p:=h
theorem R6 (h:p:=by exact (a7e rfl (by first | exact a35 (by intro a; rfl) _ | (intro r hr; simp at hr; done) | (intro r hr; simp at hr; subst hr; rfl) | (intro r hr; exact a35 (by intro a; rfl) _ r (a8s (a9E hr))) | (intro r hr; simp at hr; obtain ⟨a, _, rfl⟩ := hr; rfl)))):p:=h
theorem d5z (h:p:=by exact ⟨⟨tt, (by first | exact .old (.val _) | exact .old (.ptr (nb rfl)))⟩, ⟨tt, (by first | exact .old (.val _) | exact .old (.ptr (nb rfl)))⟩, ⟨tt, (by first | exact .old (.val _) | exact .old (.ptr (nb rfl)))⟩, ⟨tt, (by first | exact .old (.val _) | exact .old (.ptr (nb rfl)))⟩, tt⟩):p:=h
theorem a3Q (h:p:=by exact ⟨⟨tt, (by first | exact .ptr rfl | exact .map rfl | exact .vec rfl | exact .same rfl uo_)⟩, ⟨tt, (by first | exact .ptr rfl | exact .map rfl | exact .vec rfl | exact .same rfl uo_)⟩, ⟨tt, (by first | exact .ptr rfl | exact .map rfl | exact .vec rfl | exact .same rfl uo_)⟩, tt⟩):p:=h
theorem d52 (h:p:=by rw [b1K, hx, if_pos rfl]; exact ⟨(), .ret (.old (.tup fun i c hi => by rcases i with _ | _ | _ | i <;> first | (injection hi with hi; subst hi; first | exact .val _ | exact (o8 (cs := [_, _, _, _]) ⟨.val _, .val _, .val _, .val _, tt⟩).old) | cases hi)), tt⟩):p:=h
theorem d6c (h:p:=by rw [b1K, hx, if_neg de_]; exact ⟨(), .ret (.old (.tup fun i c hi => by rcases i with _ | _ | _ | i <;> first | (injection hi with hi; subst hi; first | exact .val _ | exact (o8 (cs := [_, _, _, _]) ⟨.val _, .val _, .val _, .val _, tt⟩).old) | cases hi)), tt⟩):p:=h
theorem L3 (h:p:=by exact ⟨tt, (by first | exact .ptr rfl | exact .map rfl | exact .vec rfl | exact .same rfl uo_ | exact (by first | exact d5L _ rfl | exact .same rfl (a0z [] _).old | (rw [c0N hne0]; exact .vec rfl) | (rw [c0N hNne, hNn]; exact .vec rfl)))⟩):p:=h
theorem X0 (h:p:=by first | exact a35 (by intro a; rfl) _ | assumption | (intro r hr; exact a35 (by intro a; rfl) _ r (a8s (a9E hr))) | (intro r hr; simp at hr; obtain ⟨a, _, rfl⟩ := hr; rfl)):p:=h
theorem d5D (h:p:=by exact (fun hg => t6 rfl hg hg rfl rfl a5k t_9 (by first | omega | (simp at hg; omega)) (j8 (f := En.cells) (show ([] : List En)[_]? = some (fiE L d.k x.2.pkg d.name) by simp at hg)) rfl)):p:=h
theorem d3C (h:p:=by exact (A3 (([[43], [45], [42], [47], [37], [60], [61, 61]] : List Str).map scv) rfl ⟨rfl, rfl, rfl, rfl, rfl, rfl, rfl, tt⟩ t_2 t_0 t_3 rfl rfl rfl rfl rfl rfl rfl rfl rfl)):p:=h
theorem d5T (h:p:=by exact ⟨⟨tt, (by first | exact .ptr rfl | exact .map rfl | exact .vec rfl | exact .same rfl uo_)⟩, ⟨tt, (by first | exact .ptr rfl | exact .map rfl | exact .vec rfl | exact .same rfl uo_)⟩, tt⟩):p:=h
theorem d0u (h:p:=by exact ⟨⟨tt, _, _, _, rfl, rfl, .inr ⟨_, b8o, a3m, nb rfl, rfl⟩⟩, ⟨tt, _, _, _, rfl, rfl, .inl ⟨a3o, rfl⟩⟩, ⟨tt, _, _, _, rfl, rfl, .inl ⟨c4G, rfl⟩⟩, tt⟩):p:=h
theorem d3J (h:p:=by exact ⟨do_, do_, do_, by dsimp only; simp only [n_6]; omega, by dsimp only; simp only [n_6, n_7, I7]; omega, do_, do_⟩):p:=h
theorem d3G (h:p:=by exact ⟨tt, (by first | exact .ptr rfl | exact .map rfl | exact .vec rfl | exact .same rfl uo_ | exact r8.grow (f := Tok.cv) (fun a => ⟨.val _, .val _, .val _, .val _, tt⟩) rfl)⟩):p:=h
theorem d46 (h:p:=by exact (t6 rfl tt tt rfl rfl t_5 t_1 om_ (j8 (by rw [show (((m + 1 : Nat) : Int) - 1).toNat = m by omega, hnd.args]; exact a0j hc)) rfl)):p:=h
theorem d4u (h:p:=by exact (x9 #[(0, 1), (1, 1), (2, 1), (3, 1), (4, 1), (5, 1)] rfl ⟨tt, tt, tt, tt⟩ c17 a7n rfl ⟨_, rfl⟩ (fun w => by kernel_rfl) rfl rfl)):p:=h
theorem d4G (h:p:=by rw [hh, hr]; exact ⟨(), .ret (.old (.tup fun i c hi => by rcases i with _ | _ | i <;> first | (injection hi with hi; subst hi; exact .val _) | cases hi)), tt⟩):p:=h
theorem d3H (h:p:=by exact (x9 #[(0, 1), (1, 1), (2, 1), (3, 1), (4, 1)] rfl ⟨rfl, tt, tt, tt⟩ a8b b4x rfl ⟨_, rfl⟩ (fun w => by kernel_rfl) rfl rfl)):p:=h
theorem c92 (h:p:=by exact (fun hg => K7 rfl hg hg rfl rfl t_4 (by first | omega | (simp at hg; omega)) (by rw [a23]; exact hc (by simp at hg; omega)))):p:=h
theorem d49 (h:p:=by exact (fun hg => Q8 rfl hg hg rfl rfl a5k t_9 rfl (by first | omega | (simp at hg; omega)) (by first | omega | (simp at hg; omega)))):p:=h
theorem a4b (h:p:=by first | omega | (simp only [J4, n_7, I7] at hb ⊢; omega) | (simp only [J4, n_7, I7]; omega)):p:=h
theorem d51 (h:p:=by exact (fun hg => t6 rfl hg hg rfl rfl a27 a1S (by first | omega | (simp at hg; omega)) (j8 (hp (by simp at hg; omega)).1) rfl)):p:=h
theorem d4T (h:p:=by exact ⟨⟨tt, _, _, _, rfl, rfl, .inr ⟨_, c3j, a6h, nb rfl, rfl⟩⟩, ⟨tt, _, _, _, rfl, rfl, .inr ⟨_, b6r, b4X, nb rfl, rfl⟩⟩, tt⟩):p:=h
theorem b9E (h:p:=by exact (x9 #[(0, 1), (1, 1), (2, 1), (3, 1), (4, 1)] rfl ⟨rfl, tt, tt⟩ a8b b4x rfl ⟨_, rfl⟩ (fun w => by kernel_rfl) rfl rfl)):p:=h
theorem d3l (h:p:=by exact (x9 #[(0, 1), (1, 1), (2, 1), (3, 1), (4, 1)] rfl ⟨tt, tt, tt⟩ a8b b4x rfl ⟨_, rfl⟩ (fun w => by kernel_rfl) rfl rfl)):p:=h
theorem d4A (h:p:=by exact (a3a (vc := vcE) (l := me) (a := (H9 x.k x.p x.o)) c9B rfl tt tt rfl rfl c0s a7n rfl rfl (a40 En.z rfl _))):p:=h
theorem c86 (h:p:=by exact (x9 #[(0, 1), (1, 1), (2, 1), (3, 1)] rfl ⟨rfl, tt, tt, tt⟩ a8p a6I rfl ⟨_, rfl⟩ (fun w => by kernel_rfl) rfl rfl)):p:=h
theorem d41 (h:p:=by exact (fun hg => K7 rfl hg rfl rfl rfl t_4 (by first | omega | (simp at hg; omega)) (b := s.headD 0) (c4V (by simp at hg; omega)))):p:=h
theorem d5c (h:p:=by exact (fun hg => K7 rfl hg hg rfl rfl t_4 (by first | omega | (simp at hg; omega)) (b := s[e]?.getD 0) (b8U (by simp at hg; omega)))):p:=h
theorem d54 (h:p:=by exact (d6 rfl (P9 (vc := sv) (l := S0) (a := o) Z9 rfl tt tt rfl rfl a1Q t_3 rfl rfl (a40 ([] : Str) rfl _)))):p:=h
theorem b8s (h:p:=by exact (x9 #[(0, 1), (1, 1), (2, 1), (3, 1)] rfl ⟨rfl, tt, tt⟩ a8p a6I rfl ⟨_, rfl⟩ (fun w => by kernel_rfl) rfl rfl)):p:=h
theorem d5d (h:p:=by exact (a3a (vc := vcE) (l := me) (a := (H9 k p o)) c9B rfl tt tt rfl rfl c0s a7n rfl rfl (a40 En.z rfl _))):p:=h
theorem a07 (h:p:=by exact ⟨tt, (by first | exact .ptr rfl | exact .map rfl | exact .vec rfl | exact .same rfl uo_ | exact r8.grow (f := scv) (fun _ => ⟨.val _, tt⟩) rfl)⟩):p:=h
theorem c9l (h:p:=by exact ⟨tt, (by first | exact .ptr rfl | exact .map rfl | exact .vec rfl | exact .same rfl uo_ | exact r8.grow (f := bcv) (fun a => ⟨.val _, tt⟩) rfl)⟩):p:=h
theorem d40 (h:p:=by exact (A3 [En.cells (fiE L d.k x.2.pkg d.name)] rfl ⟨tt, tt⟩ a5k t_9 a7n rfl rfl rfl rfl rfl rfl rfl rfl rfl)):p:=h
theorem d4C (h:p:=by exact (A3 [Src.cv ((a6o l y.p).getD Src.z)] rfl ⟨tt, tt⟩ b5h a3m a5l rfl rfl rfl rfl rfl rfl rfl rfl rfl)):p:=h
theorem b1j (h:p:=by exact ⟨⟨tt, _, _, _, rfl, rfl, .inr ⟨_, b7U, a3K, nb rfl, rfl⟩⟩, ⟨tt, (by conv => lhs; whnf)⟩, ⟨tt, (by conv => lhs; whnf)⟩, tt⟩):p:=h
theorem d47 (h:p:=by rw [hp]; exact .tups ⟨.aggs ⟨.old (show Old _ (CV.list (([] : List Fi).map Fi.cv) false none) from t7 _ _ _), tt⟩, .old (.val _), tt⟩):p:=h
theorem d57 (h:p:=by exact (x9 #[(0, 1), (1, 1), (2, 1)] rfl ⟨tt, tt, tt, tt⟩ c7A c5M rfl ⟨_, rfl⟩ (fun w => by kernel_rfl) rfl rfl)):p:=h
theorem c9u (h:p:=by exact (d6 rfl (x9 #[(0, 1), (1, 1)] rfl ⟨tt, tt, tt⟩ b4e a34 rfl ⟨_, rfl⟩ (fun w => by kernel_rfl) rfl rfl))):p:=h
theorem d4i (h:p:=by exact ⟨⟨tt, _, _, _, rfl, rfl, .inr ⟨_, b8o, a3m, nb rfl, rfl⟩⟩, ⟨tt, (by conv => lhs; whnf)⟩, ⟨tt, (by conv => lhs; whnf)⟩, tt⟩):p:=h
theorem d3w (h:p:=by exact (x9 #[(0, 1), (1, 1), (2, 1)] rfl ⟨rfl, rfl, tt⟩ b9p b88 rfl ⟨_, rfl⟩ (fun w => by kernel_rfl) rfl rfl)):p:=h
theorem d3f (h:p:=by exact (d6 rfl (x9 #[(0, 1), (1, 1), (2, 1)] rfl tt a7j a5l rfl ⟨_, rfl⟩ (fun w => by kernel_rfl) rfl rfl))):p:=h
theorem d5W (h:p:=by exact (a3a (vc := vcS) (l := ms) (a := y.p) b6h rfl tt tt rfl rfl c1T a5l rfl rfl (a40 Src.z rfl _))):p:=h
theorem a6p (h:p:=by exact ⟨tt, (by first | exact .ptr rfl | exact .map rfl | exact .vec rfl | exact .same rfl uo_ | exact .same rfl (A5 _ ([] : List Str) _))⟩):p:=h
theorem d3a (h:p:=by exact ⟨tt, (by first | exact .ptr rfl | exact .map rfl | exact .vec rfl | exact .same rfl uo_ | exact .same rfl (S7 _ ([] : List Tok) _))⟩):p:=h
theorem d0a (h:p:=by exact (x9 #[(0, 1), (1, 1), (2, 1), (3, 1)] rfl tt a8p a6I rfl ⟨_, rfl⟩ (fun w => by kernel_rfl) rfl rfl)):p:=h
theorem d4e (h:p:=by exact (fun hg => K7 rfl hg hg rfl rfl t_4 (by first | omega | (simp at hg; omega)) (by rw [a23]; exact hb))):p:=h
theorem d5E (h:p:=by exact (P9 (vc := kv) (l := m) (a := (b.toNat : Int)) d0h rfl tt tt rfl rfl b9U t_6 rfl rfl (b4p _ _))):p:=h
theorem d5m (h:p:=by exact (A3 (a02.map scv) rfl ⟨rfl, rfl, rfl, tt⟩ t_2 t_0 t_3 rfl rfl rfl rfl rfl rfl rfl rfl rfl)):p:=h
theorem c8B (h:p:=by exact ⟨tt, (by first | exact .ptr rfl | exact .map rfl | exact .vec rfl | exact .same rfl uo_ | exact .same rfl (a0k _ ([] : Str) _))⟩):p:=h
theorem c9g (h:p:=by exact .ret (.tups ⟨.old (c := .agg ((⟨[], [], []⟩ : Src)).cells) (o8 (Src.pure _)).old, .old (.val _), .old (.val _), tt⟩)):p:=h
theorem d4I (h:p:=by exact (d6 rfl (A3 [Ex.cv x] rfl ⟨tt, tt⟩ b50 a91 b4x rfl rfl rfl rfl rfl rfl rfl rfl rfl))):p:=h
theorem d58 (h:p:=by exact (d6 rfl (A3 [De.cv d] rfl ⟨tt, tt⟩ b1F a68 a9t rfl rfl rfl rfl rfl rfl rfl rfl rfl))):p:=h
theorem d5Q (h:p:=by exact (x9 #[(0, 1), (1, 1)] rfl ⟨rfl, rfl, tt⟩ b4e a34 rfl ⟨_, rfl⟩ (fun w => by kernel_rfl) rfl rfl)):p:=h
theorem d5j (h:p:=by exact (x9 #[(0, 1), (1, 1)] rfl ⟨tt, tt, tt⟩ b4e a34 rfl ⟨_, rfl⟩ (fun w => by kernel_rfl) rfl rfl)):p:=h
theorem d5u (h:p:=by exact (A3 ([x1, x3].map icv) rfl ⟨tt, tt, tt⟩ t_5 t_1 t_6 rfl rfl rfl rfl rfl rfl rfl rfl rfl)):p:=h
theorem d6i (h:p:=by exact (A3 ([x, x3].map icv) rfl ⟨tt, tt, tt⟩ t_5 t_1 t_6 rfl rfl rfl rfl rfl rfl rfl rfl rfl)):p:=h
theorem d5B (h:p:=by exact (d6 rfl (A3 [scv y.p] rfl ⟨tt, tt⟩ t_2 t_0 t_3 rfl rfl rfl rfl rfl rfl rfl rfl rfl))):p:=h
theorem d5Z (h:p:=by exact (d6 rfl (A3 [icv x3] rfl ⟨tt, tt⟩ t_5 t_1 t_6 rfl rfl rfl rfl rfl rfl rfl rfl rfl))):p:=h
theorem c85 (h:p:=by first | exact U7 _ _ | exact T3 _ _ _ | exact S7 _ _ _ | exact A5 _ _ _ | exact a0k _ _ _):p:=h
theorem d5f (h:p:=by exact (fun hg => b7T rfl hg rfl c2Z t_9 rfl (d3Y (j8 (hy (by simp at hg; omega))) om_) (nb rfl))):p:=h
theorem d5K (h:p:=by exact (t6 rfl tt tt rfl rfl b50 a91 om_ (j8 (by rw [hmi, hbody]; exact hdp2.he)) rfl)):p:=h
theorem d4J (h:p:=by exact (fun hg => o9 rfl hg rfl t_8 (by first | exact c1v _ _ | exact a1e hq _ | exact a1e hs _) rfl)):p:=h
theorem d34 (h:p:=by exact (A3 [Fi.cv y] rfl ⟨tt, tt⟩ a27 a1S a34 rfl rfl rfl rfl rfl rfl rfl rfl rfl)):p:=h
theorem d32 (h:p:=by exact (fun hg => a63 rfl hg rfl rfl rfl (by first | omega | (simp at hg; omega)) (by first | omega | (simp at hg; omega)))):p:=h
theorem d6f (h:p:=by exact (A3 [Fi.cv x] rfl ⟨tt, tt⟩ a27 a1S a34 rfl rfl rfl rfl rfl rfl rfl rfl rfl)):p:=h
theorem d6d (h:p:=by exact (A3 [Fi.cv f] rfl ⟨tt, tt⟩ a27 a1S a34 rfl rfl rfl rfl rfl rfl rfl rfl rfl)):p:=h
theorem d4X (h:p:=by exact (fun hg => b9Z rfl hg rfl rfl rfl (by first | omega | (simp at hg; omega)) (by first | omega | (simp at hg; omega)))):p:=h
theorem d5b (h:p:=by exact ⟨by show List.length _ <= _; simp only [n_6, n_7, I7]; omega, rfl⟩):p:=h
theorem d6k (h:p:=by exact .inl ⟨n + 1, a0g rfl (.tup fun i c h => by simp at h), by rw [pIs, if_pos hb], hW n hn (a59 hb de_)⟩):p:=h
theorem d4p (h:p:=by exact (c7 rfl a6E ⟨tt, tt⟩ (Z1 hT hm (q := 0) (s := kf ph) (by cases ph <;> exact ⟨rfl, rfl, de_⟩)) rfl)):p:=h
theorem d0B (h:p:=by exact (A3 [scv s6] rfl ⟨tt, tt⟩ t_2 t_0 t_3 rfl rfl rfl rfl rfl rfl rfl rfl rfl)):p:=h
theorem d45 (h:p:=by exact (A3 [bcv c] rfl ⟨tt, tt⟩ t_7 a25 a7M rfl rfl rfl rfl rfl rfl rfl rfl rfl)):p:=h
theorem d5S (h:p:=by exact (d6 rfl (I6 rfl tt rfl rfl rfl (by show ([32] ++ sgn o : Str).length + 1 <= _; rw [J4]; simp; omega)))):p:=h
theorem d4Z (h:p:=by exact ⟨⟨tt, _, _, _, rfl, rfl, .inr ⟨_, c3j, a6h, nb rfl, rfl⟩⟩, ⟨tt, (by conv => lhs; whnf)⟩, tt⟩):p:=h
theorem d3v (h:p:=by exact (x9 #[(0, 1)] rfl tt c1f b3L rfl ⟨_, rfl⟩ (fun w => by kernel_rfl) rfl rfl)):p:=h
theorem d4g (h:p:=by exact (x9 #[(0, 1)] rfl tt b90 c1m rfl ⟨_, rfl⟩ (fun w => by kernel_rfl) rfl rfl)):p:=h
theorem d3g (h:p:=by exact ⟨⟨tt, _, _, _, rfl, rfl, .inr ⟨_, b8o, a3m, nb rfl, rfl⟩⟩, ⟨tt, (by conv => lhs; whnf)⟩, tt⟩):p:=h
theorem d5A (h:p:=by rw [eT]; simp only [<- n_9 b]; exact b3a (k := 6) rfl rfl de_ (C5 _ _ _ _ _) a2o):p:=h
theorem d6a (h:p:=by rw [eT]; simp only [<- n_9 b]; exact b3a (k := 5) rfl rfl de_ (C5 _ _ _ _ _) a2o):p:=h
theorem d5n (h:p:=by exact (o9 rfl tt rfl a3o (by first | exact c1v _ _ | exact a1e hq _ | exact a1e hs _) rfl)):p:=h
theorem d5F (h:p:=by exact (fun hg => K7 rfl hg hg rfl rfl t_4 (by first | omega | (simp at hg; omega)) hb)):p:=h
theorem d5x (h:p:=by show List.length _ <= _; simp only [n_6, n_7, I7]; omega):p:=h
theorem a7V (h:p:=by cases ph; exact R0 (k := 2) rfl rfl de_ (.val _); exact R0 (k := 3) rfl rfl de_ (.val _)):p:=h
theorem d09 (h:p:=by exact ⟨⟨x, m, a2, e, b2⟩, a5c he rfl (.val _), .dead (fun _ => hN he) he hm hb2 ⟨hx1, hx2⟩⟩):p:=h
theorem d23 (h:p:=by exact .inl ⟨(i, m, b2), X2 rfl rfl (nb rfl) (.val _), by rw [hsp]; exact g1, do_, g3, g4⟩):p:=h
theorem d4D (h:p:=by exact (fun hg => c7 rfl a6E ⟨hg, tt⟩ (Z1 hT hm (q := 2) (s := 0) ⟨rfl, rfl, de_⟩) rfl)):p:=h
theorem d2C (h:p:=by have hb : Tryz.t231.bytes = 40 := rfl; rw [hb]; first | omega | (simp; done) | (simp; omega)):p:=h
theorem c1A (h:p:=by exact (t6 rfl tt rfl rfl rfl t_5 t_1 om_ (j8 (a0j g0)) rfl)):p:=h
theorem c54 (h:p:=by first | omega | (simp at hk hg; omega) | (change (_ : Bool) = _ at hk; simp at hk hg; omega)):p:=h
theorem c4M (h:p:=by exact (c7 rfl c7i ⟨tt, tt⟩ (a1J d.name (by have := D7 hnm.1; omega) _) rfl)):p:=h
theorem d2x (h:p:=by have hb : Tryz.t54.bytes = 32 := rfl; rw [hb]; first | omega | (simp; done) | (simp; omega)):p:=h
theorem b0p (h:p:=by exact ⟨tt, _, _, rfl, by first | omega | (simp at hg; omega), by first | omega | (simp at hg; omega)⟩):p:=h
theorem V5 (h:p:=by have hb : Tryz.t9.bytes = 16 := rfl; rw [hb]; first | omega | (simp; done) | (simp; omega)):p:=h
theorem a2R (h:p:=by exact (c7 rfl c39 ⟨tt, tt⟩ (a4o hT hn ⟨rfl, rfl, n_2 rfl⟩) rfl)):p:=h
theorem c6Z (h:p:=by exact ⟨⟨tt, (by conv => lhs; whnf)⟩, ⟨tt, (by conv => lhs; whnf)⟩, ⟨tt, (by conv => lhs; whnf)⟩, tt⟩):p:=h
theorem a7E (h:p:=by exact (I6 rfl tt rfl rfl rfl (by simp only [J4, n_7, I7]; omega))):p:=h
theorem b2C (h:p:=by have hb : Tryz.t3.bytes = 8 := rfl; rw [hb]; first | omega | (simp; done) | (simp; omega)):p:=h
theorem b7G (h:p:=by exact (a0i rfl tt rfl a3o rfl (by rw [hmi]; simpa using j8 (f := icv) hv) rfl)):p:=h
theorem c5z (h:p:=by exact (c7 rfl Tryz.call106 ⟨tt, tt, tt⟩ (b44 (a29 hσ _) _ (hok.find _ _ _)) rfl)):p:=h
theorem c5J (h:p:=by exact (fun hg => X7 rfl hg rfl b50 (by first | exact a0t _ _ | rfl) rfl)):p:=h
theorem c6T (h:p:=by exact (K7 rfl tt tt rfl rfl t_4 om_ (by rw [a23]; exact hb))):p:=h
theorem d42 (h:p:=by exact ⟨tt, (by first | exact .ptr rfl | exact .map rfl | exact .vec rfl | exact .same rfl uo_)⟩):p:=h
theorem b5w (h:p:=by exact d6 rfl (j2 rfl tt rfl b8J rfl c43 de_)):p:=h
theorem c8w (h:p:=by exact (I6 rfl rfl tt rfl rfl (by simp only [n_7, I7]; omega))):p:=h
theorem b2T (h:p:=by exact (t6 rfl tt tt rfl rfl b1F a68 om_ (j8 hd) rfl)):p:=h
theorem c1n (h:p:=by exact d6 rfl (j2 rfl tt rfl a8b rfl b7s de_)):p:=h
theorem d2E (h:p:=by exact (I6 rfl tt rfl rfl rfl (by simp only [n_7, I7]; omega))):p:=h
theorem d44 (h:p:=by exact (t6 rfl tt tt rfl rfl a27 a1S om_ (j8 hb) rfl)):p:=h
theorem d07 (h:p:=by exact d6 rfl (j2 rfl tt rfl a7j rfl b6n de_)):p:=h
theorem c8t (h:p:=by exact d6 rfl (j2 rfl tt rfl b90 rfl c07 de_)):p:=h
theorem d5q (h:p:=by exact (t6 rfl tt tt rfl rfl t_2 t_0 om_ (j8 hb) rfl)):p:=h
theorem a5D (h:p:=by exact d6 rfl (j2 rfl tt rfl b4e rfl t_0 de_)):p:=h
theorem d5w (h:p:=by exact .inl ⟨(i6, n5, b6), X2 rfl rfl (nb rfl) (.val _), hsp, do_, kn5, y6⟩):p:=h
theorem c5g (h:p:=by exact (t6 rfl tt tt rfl rfl t_2 t_0 om_ (j8 hy) rfl)):p:=h
theorem b3q (h:p:=by exact d6 rfl (Q0 rfl tt rfl b7U a3K rfl (nb rfl))):p:=h
theorem d1I (h:p:=by exact (X7 rfl tt rfl b50 (by first | exact a0t _ _ | rfl) rfl)):p:=h
theorem a9d (h:p:=by exact (X7 rfl tt rfl t_7 (by first | exact a0t _ _ | rfl) rfl)):p:=h
theorem a4N (h:p:=by exact (X7 rfl tt rfl t_2 (by first | exact a0t _ _ | rfl) rfl)):p:=h
theorem V7 (h:p:=by exact d6 rfl (Q0 rfl tt rfl c3j a6h rfl (nb rfl))):p:=h
theorem c4e (h:p:=by exact (X7 rfl tt rfl a27 (by first | exact a0t _ _ | rfl) rfl)):p:=h
theorem c5T (h:p:=by exact (X7 rfl tt rfl b1F (by first | exact a0t _ _ | rfl) rfl)):p:=h
theorem a7l (h:p:=by exact (X7 rfl tt rfl t_5 (by first | exact a0t _ _ | rfl) rfl)):p:=h
theorem c0L (h:p:=by exact (fun hg => c7 rfl a6E ⟨hg, tt⟩ (Z1 hT hn ⟨rfl, rfl, de_⟩) rfl)):p:=h
theorem c6e (h:p:=by exact (X7 rfl tt rfl a5k (by first | exact a0t _ _ | rfl) rfl)):p:=h
theorem c5q (h:p:=by exact (X7 rfl tt rfl c5I (by first | exact a0t _ _ | rfl) rfl)):p:=h
theorem c4O (h:p:=by exact (d5r rfl tt rfl t_7 t_4 b4S)):p:=h
theorem b29 (h:p:=by exact ⟨tt, _, _, _, rfl, rfl, .inr ⟨_, b7U, a3K, nb rfl, rfl⟩⟩):p:=h
theorem c8A (h:p:=by exact ⟨tt, _, _, _, rfl, rfl, .inr ⟨_, c4T, a68, nb rfl, rfl⟩⟩):p:=h
theorem c4L (h:p:=by exact (d6 rfl (j2 rfl tt rfl b8J rfl c43 de_))):p:=h
theorem d2P (h:p:=by exact (d6 rfl (j2 rfl tt rfl a8b rfl b7s de_))):p:=h
theorem a1Z (h:p:=by exact ⟨tt, _, _, _, rfl, rfl, .inr ⟨_, c3j, a6h, nb rfl, rfl⟩⟩):p:=h
theorem a4g (h:p:=by exact (Q8 rfl tt tt rfl rfl t_5 t_1 rfl om_ om_)):p:=h
theorem c1G (h:p:=by exact (d6 rfl (j2 rfl tt rfl a7j rfl b6n de_))):p:=h
theorem c0F (h:p:=by exact ⟨tt, _, _, _, rfl, rfl, .inr ⟨_, c2Z, t_9, nb rfl, rfl⟩⟩):p:=h
theorem c6S (h:p:=by simp only [J4, n_7, I7] at hbm ⊢; omega):p:=h
theorem d5X (h:p:=by rw [eT]; exact b3a (k := 3) rfl rfl de_ (C5 _ _ _ _ _) a2o):p:=h
theorem d4M (h:p:=by exact (d6 rfl (j2 rfl tt rfl b4e rfl t_0 de_))):p:=h
theorem c0R (h:p:=by exact (d6 rfl (I6 rfl tt rfl rfl rfl (by first | omega | (simp; omega))))):p:=h
theorem c1S (h:p:=by exact (fun hg => a2t rfl hg rfl a8p rfl a3o rfl)):p:=h
theorem d5e (h:p:=by exact (fun hg => a49 rfl hg rfl b4e rfl t_0 de_)):p:=h
theorem c7o (h:p:=by exact (fun hg => a2t rfl hg rfl a8p rfl t_8 rfl)):p:=h
theorem d5p (h:p:=by exact (fun hg => j2 rfl tt rfl a8b rfl t_1 de_)):p:=h
theorem d1Y (h:p:=by exact (d6 rfl (I6 rfl tt tt rfl rfl (by first | omega | (simp; omega))))):p:=h
theorem d0U (h:p:=by exact (fun hg => j2 rfl tt rfl c1f rfl c38 de_)):p:=h
theorem b6w (h:p:=by exact (fun hg => j2 rfl tt rfl a8p rfl t_0 de_)):p:=h
theorem c00 (h:p:=by exact (fun hg => j2 rfl tt rfl a8b rfl t_0 de_)):p:=h
theorem c1l (h:p:=by exact (fun hg => j2 rfl tt rfl b4z rfl t_0 de_)):p:=h
theorem c6G (h:p:=by exact (fun hg => j2 rfl tt rfl a8p rfl t_1 de_)):p:=h
theorem b7b (h:p:=by exact (fun hg => j2 rfl tt rfl b4e rfl t_0 de_)):p:=h
theorem b7j (h:p:=by exact (c7 rfl c39 ⟨tt, tt⟩ (a4o hT hn ⟨rfl, rfl, de_⟩) rfl)):p:=h
theorem d5H (h:p:=by exact (fun hg => j2 rfl tt rfl b9p rfl t_0 de_)):p:=h
theorem c76 (h:p:=by exact (fun hg => j2 rfl tt rfl a7j rfl t_0 de_)):p:=h
theorem b0X (h:p:=by exact (d6 rfl (Q0 rfl tt rfl c3j a6h rfl (nb rfl)))):p:=h
theorem d4o (h:p:=by exact (c7 rfl a6E ⟨tt, tt⟩ (Z1 hT hn ⟨rfl, rfl, de_⟩) rfl)):p:=h
theorem c51 (h:p:=by exact (fun hg => b0N rfl hg rfl (fun hp => ⟨hg, hp⟩) (fun _ => rfl))):p:=h
theorem c8j (h:p:=by exact (fun hg => Q0 rfl tt rfl c2Z t_9 rfl (nb rfl))):p:=h
theorem c6r (h:p:=by exact (d6 rfl (c7 rfl Tryz.call69 trivial (a5R _) rfl))):p:=h
theorem a7f (h:p:=by simp only [J4, n_7, I7]; omega):p:=h
theorem b03 (h:p:=by exact (j2 rfl tt rfl b8J rfl c43 de_)):p:=h
theorem a7b (h:p:=by exact (j2 rfl tt rfl Tryz.runUnderlying244 rfl c8R de_)):p:=h
theorem b7Q (h:p:=by exact (j2 rfl tt rfl b4z rfl b2d de_)):p:=h
theorem d1t (h:p:=by exact (j2 rfl tt rfl Tryz.runUnderlying244 rfl Tryz.sizeOf242 de_)):p:=h
theorem b3b (h:p:=by exact (j2 rfl tt rfl b7K rfl b2d de_)):p:=h
theorem b2B (h:p:=by exact (j2 rfl tt rfl c2M rfl b2d de_)):p:=h
theorem b2K (h:p:=by exact (j2 rfl tt rfl b6Y rfl Tryz.sizeOf110 de_)):p:=h
theorem b71 (h:p:=by exact (j2 rfl tt rfl b6Y rfl Tryz.sizeOf109 de_)):p:=h
theorem b5m (h:p:=by exact (j2 rfl tt rfl Tryz.runUnderlying105 rfl Tryz.sizeOf103 de_)):p:=h
theorem V9 (h:p:=by exact ⟨⟨tt, (by conv => lhs; whnf)⟩, ⟨tt, (by conv => lhs; whnf)⟩, tt⟩):p:=h
theorem b61 (h:p:=by exact (j2 rfl tt rfl b7K rfl c2c de_)):p:=h
theorem c1q (h:p:=by exact (j2 rfl tt rfl a8b rfl b7s de_)):p:=h
theorem c0O (h:p:=by exact (j2 rfl tt rfl b4z rfl a3O de_)):p:=h
theorem a3I (h:p:=by exact (a2t rfl tt rfl a8p rfl a3o rfl)):p:=h
theorem c1L (h:p:=by exact (a2t rfl tt rfl a8p rfl t_8 rfl)):p:=h
theorem c03 (h:p:=by exact (j2 rfl tt rfl Tryz.runUnderlying105 rfl a3O de_)):p:=h
theorem c4R (h:p:=by exact (j2 rfl tt rfl b7K rfl a3O de_)):p:=h
theorem c57 (h:p:=by exact (j2 rfl tt rfl c2h rfl c2c de_)):p:=h
theorem d1u (h:p:=by rw [hr, U5 (by simp at h2; omega)]; rfl):p:=h
theorem d1a (h:p:=by exact (j2 rfl tt rfl c1f rfl c38 de_)):p:=h
theorem c02 (h:p:=by exact (j2 rfl tt rfl a8p rfl t_0 de_)):p:=h
theorem c5L (h:p:=by exact (j2 rfl tt rfl c2M rfl t_1 de_)):p:=h
theorem d5Y (h:p:=by exact (j2 rfl tt rfl a7j rfl b6n de_)):p:=h
theorem d2p (h:p:=by exact (j2 rfl tt rfl a8p rfl t_1 de_)):p:=h
theorem b3F (h:p:=by exact (j2 rfl tt rfl b7K rfl t_1 de_)):p:=h
theorem b6j (h:p:=by exact (j2 rfl tt rfl a8b rfl t_1 de_)):p:=h
theorem c8q (h:p:=by exact (j2 rfl tt rfl b4z rfl t_1 de_)):p:=h
theorem c4a (h:p:=by exact (j2 rfl tt rfl b4z rfl t_0 de_)):p:=h
theorem c5t (h:p:=by exact (j2 rfl tt rfl a7j rfl a3O de_)):p:=h
theorem b7e (h:p:=by exact (j2 rfl tt rfl b90 rfl c07 de_)):p:=h
theorem b5F (h:p:=by exact (j2 rfl tt rfl b8J rfl t_1 de_)):p:=h
theorem c0x (h:p:=by exact (j2 rfl tt rfl a8b rfl t_0 de_)):p:=h
theorem c6M (h:p:=by exact (c7 rfl Tryz.call100 ⟨tt, tt⟩ (b9v fl nn hl _) rfl)):p:=h
theorem d5R (h:p:=by exact (j2 rfl tt rfl b6Y rfl c7x de_)):p:=h
theorem b5l (h:p:=by exact (j2 rfl tt rfl b4e rfl t_0 de_)):p:=h
theorem a5Y (h:p:=by exact (I6 rfl tt rfl rfl rfl (by first | omega | (simp; omega)))):p:=h
theorem b5c (h:p:=by exact (j2 rfl tt rfl c17 rfl t_1 de_)):p:=h
theorem b0Q (h:p:=by exact (I6 rfl rfl tt rfl rfl (by first | omega | (simp; omega)))):p:=h
theorem b52 (h:p:=by exact (j2 rfl tt rfl c17 rfl t_0 de_)):p:=h
theorem a5T (h:p:=by exact (j2 rfl tt rfl b9p rfl t_0 de_)):p:=h
theorem c5Q (h:p:=by exact (j2 rfl tt rfl a7j rfl t_0 de_)):p:=h
theorem b2H (h:p:=by exact (j2 rfl tt rfl c7D rfl t_1 de_)):p:=h
theorem b2f (h:p:=by exact d6 rfl (o9 rfl tt rfl c4G rfl rfl)):p:=h
theorem b7c (h:p:=by exact (s8 ⟨.val _, .val _, .val _, .val _, T3 _ _ _, tt⟩)):p:=h
theorem b6U (h:p:=by cases ph <;> exact ⟨rfl, rfl, n_2 rfl⟩):p:=h
theorem d1e (h:p:=by exact d6 rfl (o9 rfl tt rfl c0h rfl rfl)):p:=h
theorem d1D (h:p:=by exact d6 rfl (o9 rfl tt rfl c7K rfl rfl)):p:=h
theorem c4d (h:p:=by exact d6 rfl (o9 rfl tt rfl c6D rfl rfl)):p:=h
theorem Y3 (h:p:=by exact (Q0 rfl tt rfl b7U a3K rfl (nb rfl))):p:=h
theorem a8J (h:p:=by exact (I6 rfl tt tt rfl rfl (by first | omega | (simp; omega)))):p:=h
theorem a88 (h:p:=by exact (Q0 rfl tt rfl Tryz.isAgg212 a91 rfl (nb rfl))):p:=h
theorem a4v (h:p:=by exact d6 rfl (o9 rfl tt rfl t_8 rfl rfl)):p:=h
theorem b3x (h:p:=by exact d6 rfl (o9 rfl tt rfl a3o rfl rfl)):p:=h
theorem b3z (h:p:=by exact (Q0 rfl tt rfl c58 c8x rfl (nb rfl))):p:=h
theorem c01 (h:p:=by exact (Q0 rfl tt rfl c4T a68 rfl (nb rfl))):p:=h
theorem c5V (h:p:=by exact (Q0 rfl tt rfl c7C b34 rfl (nb rfl))):p:=h
theorem d18 (h:p:=by exact (Q0 rfl tt rfl c6g b5z rfl (nb rfl))):p:=h
theorem c0K (h:p:=by exact (c7 rfl c2V ⟨tt, tt⟩ (a1i x.a om_ _) rfl)):p:=h
theorem c0X (h:p:=by exact (c7 rfl c7n ⟨tt, tt⟩ (b49 m om_ _) rfl)):p:=h
theorem c6i (h:p:=by first | exact a35 (by intro a; rfl) _ | assumption):p:=h
theorem a15 (h:p:=by exact (Q0 rfl tt rfl c3j a6h rfl (nb rfl))):p:=h
theorem C8 (h:p:=by exact d6 rfl (a3h rfl tt (by conv => lhs; whnf))):p:=h
theorem a3Y (h:p:=by exact (Q0 rfl tt rfl b8o a3m rfl (nb rfl))):p:=h
theorem c0f (h:p:=by exact (Q0 rfl tt rfl c7s a1S rfl (nb rfl))):p:=h
theorem b0M (h:p:=by exact (T4 rfl tt rfl c4T a68 (nb rfl))):p:=h
theorem a8I (h:p:=by exact (Q0 rfl tt rfl c2Z t_9 rfl (nb rfl))):p:=h
theorem c52 (h:p:=by exact (Q0 rfl tt rfl b6r b4X rfl (nb rfl))):p:=h
theorem b5A (h:p:=by exact (Q0 rfl tt rfl Tryz.isAgg39 b8M rfl (nb rfl))):p:=h
theorem c8L (h:p:=by exact (T4 rfl tt rfl Tryz.isAgg212 a91 (nb rfl))):p:=h
theorem c1E (h:p:=by exact (c7 rfl Tryz.call52 ⟨tt, tt⟩ (b74 l nn _) rfl)):p:=h
theorem d2Q (h:p:=by exact (T4 rfl tt rfl c7s a1S (nb rfl))):p:=h
theorem d2c (h:p:=by exact (c7 rfl Tryz.call29 trivial (b1b _) rfl)):p:=h
theorem b7o (h:p:=by exact (K7 rfl tt tt rfl rfl t_4 om_ hb)):p:=h
theorem c06 (h:p:=by exact (s8 ⟨.val _, A5 _ [] _, L2 _ [] _, tt⟩)):p:=h
theorem a5z (h:p:=by exact (b0N rfl tt rfl (fun hp => hp) (fun _ => rfl))):p:=h
theorem c69 (h:p:=by exact (d6 rfl (o9 rfl tt rfl c0h rfl rfl))):p:=h
theorem c7p (h:p:=by exact (d6 rfl (o9 rfl tt rfl c4G rfl rfl))):p:=h
theorem c67 (h:p:=by exact (d6 rfl (o9 rfl tt rfl c4B rfl rfl))):p:=h
theorem c7u (h:p:=by exact (d6 rfl (o9 rfl tt rfl c2A rfl rfl))):p:=h
theorem a6W (h:p:=by exact (b2Y rfl tt rfl (fun hp => hp) (fun _ => rfl))):p:=h
theorem c0r (h:p:=by exact (d6 rfl (b0m rfl tt (by conv => lhs; whnf)))):p:=h
theorem a5F (h:p:=by exact (fun hg => a0N rfl hg rfl rfl rfl (a6P _ _))):p:=h
theorem c8P (h:p:=by exact (d6 rfl (o9 rfl tt rfl t_8 rfl rfl))):p:=h
theorem b2n (h:p:=by exact (d6 rfl (o9 rfl tt rfl a3o rfl rfl))):p:=h
theorem c1b (h:p:=by exact (c7 rfl Tryz.call83 trivial (b9f _) rfl)):p:=h
theorem b04 (h:p:=by exact (fun hg => a0N rfl hg hg rfl rfl (a6P _ _))):p:=h
theorem d1i (h:p:=by exact (fun hg => o9 rfl hg rfl Tryz.isAgg30 rfl rfl)):p:=h
theorem U4 (h:p:=by exact (d6 rfl (a3h rfl tt (by conv => lhs; whnf)))):p:=h
theorem a0X (h:p:=by exact (fun hg => o9 rfl hg rfl t_8 rfl rfl)):p:=h
theorem b0R (h:p:=by exact (fun hg => o9 rfl hg rfl a3o rfl rfl)):p:=h
theorem c1y (h:p:=by rw [a0B, a5t]; omega):p:=h
theorem a3G (h:p:=by exact (fun hg => c8E rfl hg rfl t_4)):p:=h
theorem a9a (h:p:=by first | omega | (simp; done) | (simp; omega)):p:=h
theorem Y6 (h:p:=by exact (fun hg => a3h rfl tt (by conv => lhs; whnf))):p:=h
theorem b5r (h:p:=by exact (fun hg => a3h rfl hg (by conv => lhs; whnf))):p:=h
theorem d5s (h:p:=by exact (fun hg => T9 rfl hg rfl t_8 rfl)):p:=h
theorem a9b (h:p:=by exact d6 rfl (a7Q rfl tt rfl rfl)):p:=h
theorem b09 (h:p:=by rw [List.length_erase_of_mem hiu, hu]; rfl):p:=h
theorem c1x (h:p:=by rw [es]; simp only [n_9]):p:=h
theorem F9 (h:p:=by simp [ho, Op.operands, Call.operands]):p:=h
theorem c40 (h:p:=by exact (a0N rfl tt rfl rfl rfl (a6P _ _))):p:=h
theorem a7o (h:p:=by exact (o9 rfl tt rfl Tryz.isAgg117 rfl rfl)):p:=h
theorem a8E (h:p:=by exact (o9 rfl tt rfl Tryz.isAgg149 rfl rfl)):p:=h
theorem a86 (h:p:=by exact (s8 ⟨t7 _ ([] : List Fi) _, tt⟩)):p:=h
theorem b2i (h:p:=by exact (o9 rfl tt rfl Tryz.isAgg110 rfl rfl)):p:=h
theorem d4s (h:p:=by exact (o9 rfl tt rfl Tryz.isAgg242 rfl rfl)):p:=h
theorem b66 (h:p:=by exact (o9 rfl tt rfl Tryz.isAgg109 rfl rfl)):p:=h
theorem c1O (h:p:=by exact (o9 rfl tt rfl Tryz.isAgg103 rfl rfl)):p:=h
theorem a13 (h:p:=by exact (b0m rfl rfl (by conv => lhs; whnf))):p:=h
theorem H3 (h:p:=by first | omega | (simp; omega) | simp):p:=h
theorem a5U (h:p:=by exact (o9 rfl tt rfl c2A rfl rfl)):p:=h
theorem d5G (h:p:=by exact (o9 rfl tt rfl Tryz.isAgg30 rfl rfl)):p:=h
theorem d2m (h:p:=by exact (o9 rfl tt rfl c4G rfl rfl)):p:=h
theorem b5g (h:p:=by exact (o9 rfl tt rfl c7K rfl rfl)):p:=h
theorem d4x (h:p:=by exact (o9 rfl tt rfl c0h rfl rfl)):p:=h
theorem a5v (h:p:=by exact (o9 rfl tt rfl c4B rfl rfl)):p:=h
theorem c6n (h:p:=by exact (a0N rfl tt tt rfl rfl (a6P _ _))):p:=h
theorem d2i (h:p:=by exact (a0N rfl tt tt rfl rfl (b1M _ _))):p:=h
theorem c1F (h:p:=by exact (o9 rfl tt rfl c6D rfl rfl)):p:=h
theorem I1 (h:p:=by exact (b0m rfl tt (by conv => lhs; whnf))):p:=h
theorem Y2 (h:p:=by exact (o9 rfl tt rfl t_8 rfl rfl)):p:=h
theorem a0F (h:p:=by exact (o9 rfl tt rfl a3o rfl rfl)):p:=h
theorem b0O (h:p:=by exact (fun hg => a2E rfl hg rfl rfl rfl rfl)):p:=h
theorem a90 (h:p:=by first | omega | (simp at hg; omega)):p:=h
theorem d1j (h:p:=by exact (a3h rfl rfl (by conv => lhs; whnf))):p:=h
theorem V4 (h:p:=by exact (c8E rfl tt rfl t_4)):p:=h
theorem a1s (h:p:=by cases ph <;> exact ⟨rfl, rfl, de_⟩):p:=h
theorem a1K (h:p:=by exact d6 rfl (b7t rfl tt rfl)):p:=h
theorem a8z (h:p:=by exact (fun hg => a2E rfl hg hg rfl rfl rfl)):p:=h
theorem b7z (h:p:=by exact (o9 rfl tt rfl a3o hk rfl)):p:=h
theorem j7 (h:p:=by exact (a3h rfl tt (by conv => lhs; whnf))):p:=h
theorem a0T (h:p:=by exact (T9 rfl tt rfl t_8 rfl)):p:=h
theorem a3D (h:p:=by exact (T9 rfl tt rfl a3o rfl)):p:=h
theorem b2A (h:p:=by exact (d6 rfl (a7Q rfl tt rfl rfl))):p:=h
theorem c1e (h:p:=by rw [h1]; exact a9v):p:=h
theorem a4c (h:p:=by first | exact a0t _ _ | rfl):p:=h
theorem S8 (h:p:=by exact (b9Z rfl tt rfl rfl rfl om_ om_)):p:=h
theorem b2R (h:p:=by first | omega | (simp; omega)):p:=h
theorem a4K (h:p:=by exact (a63 rfl tt rfl rfl rfl om_ om_)):p:=h
theorem a5S (h:p:=by exact (b9Z rfl tt tt rfl rfl om_ om_)):p:=h
theorem b6Z (h:p:=by rw [P7 hv10 hi10]; decide):p:=h
theorem P1 (h:p:=by exact (a2E rfl tt rfl rfl rfl rfl)):p:=h
theorem d22 (h:p:=by exact (d6 rfl (b7t rfl tt rfl))):p:=h
theorem b1c (h:p:=by exact (s8 ⟨.val _, .val _, tt⟩)):p:=h
theorem b1d (h:p:=by simp [r9.add, <- hr.len]):p:=h
theorem a2B (h:p:=by exact (a2E rfl tt tt rfl rfl rfl)):p:=h
theorem a0Q (h:p:=by exact (s8 ⟨t7 _ _ _, tt⟩)):p:=h
theorem a3w (h:p:=by rw [hw]; simpa using hbw):p:=h
theorem b1r (h:p:=by simp [Region.wanted, hg]):p:=h
theorem a83 (h:p:=by exact (fun hg => c6t rfl hg rfl)):p:=h
theorem r5 (h:p:=by simp [ho, Op.operands]):p:=h
theorem a67 (h:p:=by exact (a7Q rfl tt rfl rfl)):p:=h
theorem a3v (h:p:=by first | omega | simp):p:=h
theorem a7m (h:p:=by exact ⟨tt, _, _, rfl, om_, om_⟩):p:=h
theorem c6 (h:p:=by conv => lhs; whnf):p:=h
theorem R9 (h:p:=by cases ph <;> rfl):p:=h
theorem a3B (h:p:=by exact (s8 (d0s _))):p:=h
theorem a5J (h:p:=by exact (J5 _ [] false)):p:=h
theorem a5Q (h:p:=by exact ⟨tt, tt, tt, tt, tt⟩):p:=h
theorem A1 (h:p:=by exact (fun _ _ => nb rfl)):p:=h
theorem S4 (h:p:=by simpa using hi):p:=h
theorem a3F (h:p:=by simpa using hk):p:=h
theorem a36 (h:p:=by simpa using h2):p:=h
theorem a4h (h:p:=by simpa using h1):p:=h
theorem a9l (h:p:=by simpa using hq):p:=h
theorem a8A (h:p:=by simpa using hj):p:=h
theorem a80 (h:p:=by simpa using hb):p:=h
theorem J2 (h:p:=by exact (b7t rfl tt rfl)):p:=h
theorem I0 (h:p:=by exact (V1 _ _ _ _)):p:=h
theorem a5M (h:p:=by exact (c6t rfl tt rfl)):p:=h
theorem V8 (h:p:=by simpa using h):p:=h
theorem a2C (h:p:=by exact ⟨tt, rfl, rfl, tt⟩):p:=h
theorem a2k (h:p:=by exact (c12 (nb rfl))):p:=h
theorem a89 (h:p:=by exact (a41 (nb rfl))):p:=h
theorem a66 (h:p:=by exact ⟨tt, tt, rfl, tt⟩):p:=h
theorem a3H (h:p:=by exact (A5 _ [] _)):p:=h
theorem d2q (h:p:=by rw [hr]; rfl):p:=h
theorem b3m (h:p:=by exact ⟨tt, rfl, tt, tt⟩):p:=h
theorem B9 (h:p:=by exact ⟨tt, tt, tt, tt⟩):p:=h
theorem O0 (h:p:=by exact (A5 _ _ _)):p:=h
theorem K9 (h:p:=by simp; omega):p:=h
theorem P6 (h:p:=by exact (b6c _ _ _)):p:=h
theorem a16 (h:p:=by exact (S7 _ _ _)):p:=h
theorem o4 (h:p:=by exact (.inr ⟨_, rfl⟩)):p:=h
theorem d5 (h:p:=by kernel_rfl):p:=h
theorem R5 (h:p:=by exact (t7 _ _ _)):p:=h
theorem a0Y (h:p:=by exact (fun _ => rfl)):p:=h
theorem s9 (h:p:=by exact (a7r _ _)):p:=h
theorem o6 (h:p:=by exact ⟨tt, rfl, tt⟩):p:=h
theorem a1W (h:p:=by exact (c1K _ _)):p:=h
theorem a14 (h:p:=by exact (c0U _ _)):p:=h
theorem a2u (h:p:=by simp [e]):p:=h
theorem j1 (h:p:=by exact ⟨tt, tt, tt⟩):p:=h
theorem B0 (h:p:=by exact ⟨tt, rfl⟩):p:=h
theorem uo_ (h:p:=by first|exact .val _|exact .ptr (nb rfl)|exact .map (nb rfl)|exact t7 _ _ _|exact A5 _ _ _|exact L2 _ _ _|exact (a0z [] _).old|exact .vec (nb rfl)|exact J5 _ _ _|exact a0C _ _ _|exact a6A _ _|exact T3 _ _ _|exact (by first|exact U7 _ _|exact T3 _ _ _|exact S7 _ _ _|exact A5 _ _ _|exact a0k _ _ _)|exact V1 _ _ _ _|exact c8f _ _ _|exact a0k _ _ _|exact c1J _ [] _|exact S7 _ _ _):p:=h
theorem uz_ (h:p:=by intro a ha; repeat' (first|exact .val _|exact .ptr (nb rfl)|exact .map (nb rfl)|exact tt|exact A5 _ _ _|exact t7 _ _ _|exact .vec (nb rfl)|exact L2 _ _ _|exact V1 _ _ _ _|exact De.old _ _|exact Ex.old _ _|exact c4n _ _|exact O4 _ _ _|exact J5 _ _ _|exact (by first|exact U7 _ _|exact T3 _ _ _|exact A5 _ _ _|exact a0k _ _ _)|exact (a0z _ _).old|exact a0k _ _ _|exact t7 _ ([]:List Fi) false|exact T3 _ _ _|exact a0C _ _ _|exact c60 _ _|exact (o8 (cs:=[_,_,_,_]) ⟨.val _,.val _,.val _,.val _,tt⟩).old|exact Src.old _ _|exact (by first|exact A5 _ _ _|exact d0H _ _)|exact (by first|exact .vec (nb rfl)|exact c6a _|exact A5 _ _ _)|exact (by first|exact U7 _ _|exact c4U _ _ _|exact T3 _ _ _|exact A5 _ _ _|exact a0k _ _ _)|exact (a0z [] _).old|exact c0U _ _|exact a7r _ _|exact c1K _ _|exact c1J _ _ _|exact a6A _ _|exact a3k (nb rfl) (nb rfl) (nb rfl)|exact (by first|exact a41 (nb rfl)|exact a7r _ _|exact c4U _ _ _|exact s8 (show b4m _ _ from ⟨.val _,.val _,.val _,.val _,tt⟩))|exact (o8 (cs:=u0 _ _) ⟨D4 _ _,tt⟩).old | refine s8 ?_ | refine ⟨?_,?_⟩)):p:=h
theorem pu_ (h:p:=by repeat' (first|exact .val _|exact a0l _ _|exact F7 _ _|exact a2D _ _|exact D4 _ _|exact a45 _ _|exact a7v _ _|exact b6O _ _|exact a0v _ _|exact a2w _ _|exact a7U _ _|exact a6n _ _|exact tt | refine o8 ?_ | refine B2 ?_ | refine ⟨?_,?_⟩)):p:=h
theorem tu_ (h:p:=by repeat' (first|exact tt|exact rfl | refine ⟨?_,?_⟩)):p:=h
theorem do_ (h:p:=by dsimp only; omega):p:=h
theorem om_ (h:p:=by omega):p:=h
theorem si_ (h:p:=by simp):p:=h
theorem de_ (h:p:=by decide):p:=h
theorem z_0 (kz:q) (h:q->p:=by intro kz;refine w8 ?_;refine A0 ?_;exact kz):p:=h kz
theorem z_1 (kz:q) (h:q->p:=by intro kz;refine z_0 ?_;refine cY j7 ?_;exact kz):p:=h kz
theorem z_2 (kz:q) (h:q->p:=by intro kz;refine cY I1 ?_;refine i7 ?_;exact kz):p:=h kz
theorem z_3 (kz:q) (h:q->p:=by intro kz;refine cY a13 ?_;refine i7 ?_;exact kz):p:=h kz
theorem z_4 (kz:q) (h:q->p:=by intro kz;refine z_1 ?_;refine cY j7 ?_;exact kz):p:=h kz
theorem z_5 (kz:q) (h:q->p:=by intro kz;refine A0 ?_;refine cY j7 ?_;exact kz):p:=h kz
theorem z_6 (kz:q) (h:q->p:=by intro kz;refine z_0 ?_;refine z_3 ?_;exact kz):p:=h kz
theorem z_7 (kz:q) (h:q->p:=by intro kz;refine z_2 ?_;refine G3 ?_;exact kz):p:=h kz
theorem z_8 (kz:q) (h:q->p:=by intro kz;refine i7 ?_;refine w8 ?_;exact kz):p:=h kz
theorem z_9 (kz:q) (h:q->p:=by intro kz;refine i8 ?_;refine w8 ?_;exact kz):p:=h kz
theorem a8m (kz:q) (h:q->p:=by intro kz;refine cD (r6 rfl a6I rfl o4 ?_);refine cD (j3 rfl tt tt rfl c6 a3K o4 rfl rfl (nb rfl) ?_);exact kz):p:=h kz
theorem b72 (kz:q) (h:Qz q->p:=by intro kz;refine cY S8 ?_;refine cY j7 ?_;exact kz tt):p:=h fun _=>kz
theorem G9 (kz:q) (h:q->p:=by intro kz;refine cY P1 ?_;refine i7 ?_;exact kz):p:=h kz
theorem a6i (kz:q) (h:q->p:=by intro kz;refine cY j7 ?_;refine cG Y6 ?_;exact kz):p:=h kz
theorem a6m (kz:q) (h:q->p:=by intro kz;refine z_0 ?_;refine cD (a5W rfl tt c6 o4 ?_);exact kz):p:=h kz
theorem a5q (kz:q) (h:q->p:=by intro kz;refine i7 ?_;refine B7 ?_;exact kz):p:=h kz
theorem a3c (kz:q) (h:q->p:=by intro kz;refine w8 ?_;refine z_1 ?_;exact kz):p:=h kz
theorem G5 (kz:q) (h:q->p:=by intro kz;refine z_6 ?_;refine G3 ?_;exact kz):p:=h kz
theorem c2o (kz:q) (h:q->p:=by intro kz;refine cD (j3 rfl tt tt rfl c6 t_1 (.inl rfl) rfl rfl (nb rfl) ?_);refine i7 ?_;exact kz):p:=h kz
theorem b4y (kz:q) (h:Qz q->p:=by intro kz;refine A0 ?_;refine b72 ?_;refine i7 ?_;exact kz tt):p:=h fun _=>kz
theorem a9M (kz:q) (h:q->p:=by intro kz;refine cY P1 ?_;refine z_2 ?_;exact kz):p:=h kz
theorem a6K (kz:q) (h:q->p:=by intro kz;refine z_9 ?_;refine B7 ?_;exact kz):p:=h kz
theorem a1n (kz:q) (h:q->p:=by intro kz;refine cY d1j ?_;refine a5q ?_;exact kz):p:=h kz
theorem b9t (kz:q) (h:q->p:=by intro kz;refine cG b0O ?_;refine cY a5z ?_;exact kz):p:=h kz
theorem b8Q (kz:q) (h:q->p:=by intro kz;refine cY d1a ?_;refine cD (j3 rfl tt tt rfl c6 c38 (.inl rfl) rfl rfl (nb rfl) ?_);exact kz):p:=h kz
theorem d33 (kz:q) (h:q->p:=by intro kz;refine A9 rfl rfl (j3 rfl tt tt rfl c6 a6h o4 rfl rfl (nb rfl) ?_);refine ⟨tt,?_⟩;exact kz):p:=h kz
theorem F2 (kz:q) (h:q->p:=by intro kz;refine z_0 ?_;refine cY a2B ?_;refine z_8 ?_;exact kz):p:=h kz
theorem R7 (kz:q) (h:q->p:=by intro kz;refine z_5 ?_;refine cY j7 ?_;exact kz):p:=h kz
theorem K1 (kz:q) (h:q->p:=by intro kz;refine z_0 ?_;refine a9M ?_;exact kz):p:=h kz
theorem d3R (h:p:=by refine z_2 ?_;exact ⟨⟨x4,n3,a4,e4,b4,true,g+1⟩,[0,1,2,5],⟨hme,fun h0=>(hst.1 h0).2.elim fun i hi=>⟨i,hi.1,hi.2,hfu (hst.1 h0).1⟩,hst.2,y3,w4,l4,u4,do_⟩,⟨rfl,rfl⟩,a3Q,⟨.inr ⟨_,rfl,.box ⟨.old a16,.old (.val _),.old (.val _),.old (.val _),.old O0,a2x rfl,.old a5J,tt⟩⟩,.inl rfl,.inl rfl,.inr ⟨_,rfl,.same rfl P6⟩,tt⟩⟩):p:=h
theorem O3 (kz:q) (h:q->p:=by intro kz;refine i7 ?_;refine z_1 ?_;exact kz):p:=h kz
theorem a6e (kz:q) (h:q->p:=by intro kz;refine z_3 ?_;refine G3 ?_;exact kz):p:=h kz
theorem c6W (kz:q) (h:Qz q->p:=by intro kz;refine cY d34 ?_;refine cD (D9 rfl tt tt rfl si_ R6 a27 a1S b9N a34 rfl (.inr rfl) X0 b0p H3 ((out++[y]).map Fi.cv) (out++[y]).length si_ si_ ?_);exact kz tt):p:=h fun _=>kz
theorem U2 (kz:q) (h:q->p:=by intro kz;refine i7 ?_;refine z_0 ?_;exact kz):p:=h kz
theorem c8o (kz:q) (h:q->p:=by intro kz;refine cD (j3 rfl tt tt rfl c6 a3K o4 rfl rfl (nb rfl) ?_);refine cY I1 ?_;exact kz):p:=h kz
theorem a2h (kz:q) (h:Qz q->p:=by intro kz;refine i8 ?_;refine b4y ?_;exact kz tt):p:=h fun _=>kz
theorem T7 (kz:q) (h:q->p:=by intro kz;refine cY a5M ?_;refine i7 ?_;exact kz):p:=h kz
theorem c4u (kz:q) (h:q->p:=by intro kz;refine cY d1a ?_;refine cY d5G ?_;exact kz):p:=h kz
theorem b8I (kz:q) (h:q->p:=by intro kz;refine cD (r6 rfl a9t rfl o4 ?_);refine cD (j3 rfl tt tt rfl c6 a68 o4 rfl rfl (nb rfl) ?_);exact kz):p:=h kz
theorem a4R (kz:q) (h:q->p:=by intro kz;refine z_1 ?_;refine cY J2 ?_;exact kz):p:=h kz
theorem a0n (kz:q) (h:q->p:=by intro kz;refine z_4 ?_;refine cY j7 ?_;exact kz):p:=h kz
theorem M9 (kz:q) (h:q->p:=by intro kz;refine z_2 ?_;refine z_1 ?_;exact kz):p:=h kz
theorem d5k (kz:q) (h:q->p:=by intro kz;refine cD (j3 rfl tt tt rfl c6 a6h o4 rfl rfl (nb rfl) ?_);refine i7 ?_;exact kz):p:=h kz
theorem a5r (kz:q) (h:q->p:=by intro kz;refine hY j7 ?_;refine hY J2 ?_;exact kz):p:=h kz
theorem a1R (kz:q) (h:q->p:=by intro kz;refine w8 ?_;refine z_0 ?_;exact kz):p:=h kz
theorem c5d (h:p:=by refine z_7 ?_;exact ⟨_,j5 rfl tt c6,_,_,rfl,rfl,(.tok (fun r hr c hc=>(A6 (f:=scv) (fun _=>S2.all ⟨.val _,tt⟩) _) r hr c hc))⟩):p:=h
theorem a1O (kz:q) (h:q->p:=by intro kz;refine a6K ?_;refine z_0 ?_;exact kz):p:=h kz
theorem b5W (kz:q) (h:q->p:=by intro kz;refine cD (j3 rfl tt tt rfl c6 a3K o4 rfl rfl (nb rfl) ?_);refine cY a13 ?_;exact kz):p:=h kz
theorem d3i (kz:q) (h:q->p:=by intro kz;refine cY a67 ?_;refine cY a67 ?_;exact kz):p:=h kz
theorem a4m (kz:q) (h:q->p:=by intro kz;refine cY b5l ?_;refine cY Y2 ?_;exact kz):p:=h kz
theorem d3A (kz:q) (h:q->p:=by intro kz;refine cD (j3 rfl tt tt rfl c6 a3K o4 rfl rfl (nb rfl) ?_);refine i7 ?_;exact kz):p:=h kz
theorem c9C (kz:q) (h:Qz q->p:=by intro kz;refine cD (D9 rfl tt tt rfl si_ R6 t_2 t_0 a8h t_3 rfl (.inr rfl) X0 a2R H3 ((l++[s6]).map scv) (l++[s6]).length si_ si_ ?_);refine cY c0O ?_;exact kz tt):p:=h fun _=>kz
theorem c3n (kz:q) (h:q->p:=by intro kz;refine cD (j3 rfl tt tt rfl c6 t_9 o4 rfl rfl (nb rfl) ?_);refine i7 ?_;exact kz):p:=h kz
theorem b4f (h:p:=by refine G5 ?_;exact ⟨_,j5 rfl tt c6,_,_,rfl,rfl,H6 d2q⟩):p:=h
theorem b0n (h:p:=by refine a2h ?_;exact ⟨(i+1),_,⟨om_,om_⟩,tu_,rfl⟩):p:=h
theorem a4L (kz:q) (h:q->p:=by intro kz;refine cY a6W ?_;refine i7 ?_;exact kz):p:=h kz
theorem a7Z (kz:q) (h:q->p:=by intro kz;refine a6i ?_;refine cG Y6 ?_;exact kz):p:=h kz
theorem c7S (h:p:=by refine a6e ?_;exact ⟨_,l9 (rs:=[.cell 4 231,.tmp 5,.tmp 6]) (cs:=[_,_,_]) rfl b1j (n_2 rfl),d52⟩):p:=h
theorem b9G (kz:q) (h:q->p:=by intro kz;refine cD (j3 rfl tt tt rfl c6 a3O (.inl rfl) rfl rfl (nb rfl) ?_);refine i7 ?_;exact kz):p:=h kz
theorem d39 (kz:q) (h:q->p:=by intro kz;refine B5 [0,1,2,3,4,5,6,7,8,9] 5 [0,0,0,0,0,24,60,126,255,511] [[0,1,2],[0,1],[0],[],[]] (hd1l:=[0,1,2,3,4]) (tll:=[(5,[0,1,2]),(6,[0,1]),(7,[0]),(8,[]),(9,[])]) d5 d5 rfl rfl rfl ?_;refine chf rfl b0X ?_;exact kz):p:=h kz
theorem b3R (h:p:=by refine a2h ?_;exact ⟨(i+1),_,⟨om_,om_,hr⟩,tu_,rfl⟩):p:=h
theorem c5v (kz:q) (h:q->p:=by intro kz;refine cD (r6 rfl a5l rfl o4 ?_);refine cD (j3 rfl tt tt rfl c6 a3m o4 rfl rfl (nb rfl) ?_);exact kz):p:=h kz
theorem a1b (kz:q) (h:q->p:=by intro kz;refine cY P1 ?_;refine a6i ?_;exact kz):p:=h kz
theorem a0x (kz:q) (h:q->p:=by intro kz;refine i8 ?_;refine z_0 ?_;exact kz):p:=h kz
theorem a2K (kz:q) (h:q->p:=by intro kz;refine cY c02 ?_;refine cY Y2 ?_;exact kz):p:=h kz
theorem c9i (kz:q) (h:q->p:=by intro kz;refine cY b61 ?_;refine cY d2m ?_;exact kz):p:=h kz
theorem a4a (kz:q) (h:q->p:=by intro kz;refine z_2 ?_;refine a3c ?_;exact kz):p:=h kz
theorem c2R (kz:q) (h:q->p:=by intro kz;refine cY j7 ?_;refine d3i ?_;exact kz):p:=h kz
theorem a2L (kz:q) (h:q->p:=by intro kz;refine i8 ?_;refine B7 ?_;exact kz):p:=h kz
theorem a8d (kz:q) (h:q->p:=by intro kz;refine chf rfl U4 ?_;refine chf rfl d22 ?_;exact kz):p:=h kz
theorem a6H (kz:q) (h:q->p:=by intro kz;refine w8 ?_;refine z_4 ?_;exact kz):p:=h kz
theorem a8a (kz:q) (h:q->p:=by intro kz;refine cY j7 ?_;refine cY j7 ?_;exact kz):p:=h kz
theorem c2y (kz:q) (h:q->p:=by intro kz;refine c8 [rbx T n3 a3 e3 ps b 1,o7 e3 b.length,.box (tk T n).cells] rfl ?_;refine i7 ?_;exact kz):p:=h kz
theorem a05 (kz:q) (h:q->p:=by intro kz;refine i8 ?_;refine z_1 ?_;exact kz):p:=h kz
theorem a2n (kz:q) (h:q->p:=by intro kz;refine a6m ?_;refine z_3 ?_;exact kz):p:=h kz
theorem c5F (kz:q) (h:q->p:=by intro kz;refine R7 ?_;refine cD (b9 rfl b5J a66 (a18 _ _ de_ (q:=0) (s:=2) ⟨rfl,rfl,de_⟩) rfl ?_);exact kz):p:=h kz
theorem c59 (h:p:=by refine z_7 ?_;exact ⟨_,j5 rfl tt c6,⟨(_,p1),a1x rfl I0 (.old (.val _)),a7V,do_,do_⟩⟩):p:=h
theorem d4L (h:p:=by refine z_2 ?_;exact ⟨⟨x4,n3,a4,e4,b4,true,g⟩,[0,1,2,5],⟨hme,fun h0=>(hst.1 h0).2.elim fun i hi=>⟨i,hi.1,hi.2,hfu (hst.1 h0).1⟩,hst.2,y3,w4,l4,u4,do_⟩,⟨rfl,rfl⟩,a3Q,⟨.inr ⟨_,rfl,.box ⟨.old a16,.old (.val _),.old (.val _),.old (.val _),.old O0,a2x rfl,.old a5J,tt⟩⟩,.inl rfl,.inl rfl,.inr ⟨_,rfl,.same rfl P6⟩,tt⟩⟩):p:=h
theorem d3M (kz:q) (h:Qz q->p:=by intro kz;refine cY S8 ?_;refine cY J2 ?_;exact kz tt):p:=h fun _=>kz
theorem d4N (kz:q) (h:q->p:=by intro kz;refine c8 [pbx T m ps b2 3,.dead,.box (tk T n).cells,r7 b2.length] rfl ?_;refine z_7 ?_;exact kz):p:=h kz
theorem c6O (kz:q) (h:q->p:=by intro kz;refine cY c40 ?_;refine z_2 ?_;exact kz):p:=h kz
theorem a8o (kz:q) (h:q->p:=by intro kz;refine w8 ?_;refine B7 ?_;exact kz):p:=h kz
theorem c9s (h:p:=by refine a6e ?_;exact ⟨_,l9 (rs:=[.cell 4 231,.tmp 5,.tmp 6]) (cs:=[_,_,_]) rfl b1j (n_2 rfl),d6c⟩):p:=h
theorem a2i (kz:q) (h:q->p:=by intro kz;refine z_8 ?_;refine z_0 ?_;exact kz):p:=h kz
theorem c8u (kz:q) (h:Qz q->p:=by intro kz;refine cY S8 ?_;refine z_2 ?_;exact kz tt):p:=h fun _=>kz
theorem a9I (kz:q) (h:q->p:=by intro kz;refine z6 ?_;refine z_1 ?_;exact kz):p:=h kz
theorem a6J (kz:q) (h:q->p:=by intro kz;refine cY a5z ?_;refine i7 ?_;exact kz):p:=h kz
theorem a1T (kz:q) (h:q->p:=by intro kz;refine z_6 ?_;refine z_1 ?_;exact kz):p:=h kz
theorem a6y (kz:q) (h:q->p:=by intro kz;refine cY d2p ?_;refine cY a0F ?_;exact kz):p:=h kz
theorem d3h (kz:q) (h:Qz q->p:=by intro kz;refine cY d44 ?_;refine cY d2Q ?_;exact kz tt):p:=h fun _=>kz
theorem a9A (kz:q) (h:q->p:=by intro kz;refine cY a2B ?_;refine i7 ?_;exact kz):p:=h kz
theorem a04 (kz:q) (h:q->p:=by intro kz;refine z_6 ?_;refine a3c ?_;exact kz):p:=h kz
theorem c82 (kz:q) (h:q->p:=by intro kz;refine cD (r6 rfl b3L rfl o4 ?_);refine cD (j3 rfl tt tt rfl c6 a6h o4 rfl rfl (nb rfl) ?_);exact kz):p:=h kz
theorem a6Q (kz:q) (h:q->p:=by intro kz;refine cY a5z ?_;refine z_7 ?_;exact kz):p:=h kz
theorem c64 (kz:q) (h:q->p:=by intro kz;refine c8 [rbx T n3 a3 e3 ps b3 4,.dead,.dead,.dead,o7 e3 b3.length] R9 ?_;refine z_2 ?_;exact kz):p:=h kz
theorem d3E (kz:q) (h:q->p:=by intro kz;refine c4u ?_;refine cY c4e ?_;exact kz):p:=h kz
theorem a3E (kz:q) (h:q->p:=by intro kz;refine ⟨tt,?_⟩;refine b4b ?_;exact kz):p:=h kz
theorem a5L (kz:q) (h:q->p:=by intro kz;refine cY c0O ?_;refine cY a5U ?_;exact kz):p:=h kz
theorem a1M (kz:q) (h:q->p:=by intro kz;refine cY b5c ?_;refine cY a0F ?_;exact kz):p:=h kz
theorem b7x (kz:q) (h:q->p:=by intro kz;refine cY b9E ?_;refine cD (j3 rfl tt tt rfl c6 a91 o4 rfl rfl (nb rfl) ?_);exact kz):p:=h kz
theorem Z5 (kz:q) (h:q->p:=by intro kz;refine z6 ?_;refine z_0 ?_;exact kz):p:=h kz
theorem c1u (h:p:=by refine z_7 ?_;exact ⟨_,j5 rfl tt c6,⟨(_,p+2),a1x rfl I0 (.old (.val _)),a7V,do_,do_⟩⟩):p:=h
theorem b1P (kz:q) (h:q->p:=by intro kz;refine z_0 ?_;refine cD (r6 rfl a6I rfl o4 ?_);exact kz):p:=h kz
theorem a2F (kz:q) (h:Qz q->p:=by intro kz;refine i7 ?_;refine b4y ?_;exact kz tt):p:=h fun _=>kz
theorem a0w (kz:q) (h:q->p:=by intro kz;refine cY a13 ?_;refine z_3 ?_;exact kz):p:=h kz
theorem a0W (kz:q) (h:q->p:=by intro kz;refine cY a4N ?_;refine a1n ?_;exact kz):p:=h kz
theorem d1E (kz:q) (h:Qz q->p:=by intro kz;refine cY a0F ?_;refine d3M ?_;exact kz tt):p:=h fun _=>kz
theorem a3y (kz:q) (h:q->p:=by intro kz;refine z6 ?_;refine G5 ?_;exact kz):p:=h kz
theorem a39 (kz:q) (h:q->p:=by intro kz;refine cY b52 ?_;refine cY Y2 ?_;exact kz):p:=h kz
theorem c0p (h:p:=by refine z_7 ?_;exact ⟨_,j5 rfl tt c6,_,_,rfl,rfl,H6 rfl⟩):p:=h
theorem b5o (h:p:=by refine z_7 ?_;exact ⟨_,j5 rfl tt c6,_,_,rfl,rfl,a0q rfl⟩):p:=h
theorem c6u (h:p:=by refine a6Q ?_;exact ⟨_,j5 rfl tt c6,_,_,rfl,rfl,j4 (show (B1 x.a && decide (x.b=[]))=a0J x by simp_all [a0J])⟩):p:=h
theorem Z0 (kz:q) (h:q->p:=by intro kz;refine a6K ?_;refine z_1 ?_;exact kz):p:=h kz
theorem a9f (kz:q) (h:q->p:=by intro kz;refine D5 rfl c0r ⟨tt,?_⟩;refine b4b ?_;exact kz):p:=h kz
theorem d16 (kz:q) (h:q->p:=by intro kz;refine B5 [0,1,2,4,5,3,6,7,8,9] 5 [0,1,3,0,0,16,56,120,248,511] [[0,1,2,3,4],[0,1,2],[0,1,2],[0,1,2],[]] (hd1l:=[0,1,2,4,5]) (tll:=[(3,[0,1,2,3,4]),(6,[0,1,2]),(7,[0,1,2]),(8,[0,1,2]),(9,[])]) d5 d5 rfl rfl rfl ?_;refine a8d ?_;exact kz):p:=h kz
theorem c1B (kz:q) (h:q->p:=by intro kz;refine c8 [rbx T n3 a6 e6 ps b6 3,.dead,.box (tk T n).cells,o7 e6 b6.length] rfl ?_;refine z_7 ?_;exact kz):p:=h kz
theorem c1X (kz:q) (h:q->p:=by intro kz;refine B4 12 [0,0,2,7,15,31,31,127,255,31,1023,2047] d5 d5 rfl ?_;refine hY j7 ?_;exact kz):p:=h kz
theorem a6M (kz:q) (h:q->p:=by intro kz;refine chf rfl U4 ?_;refine chf rfl U4 ?_;exact kz):p:=h kz
theorem d1f (kz:q) (h:q->p:=by intro kz;refine w8 ?_;refine B5 [0,1,2,3,4,5,6,7,8,9,10,11] 9 [0,1,3,7,0,31,63,127,127,0,767,2047] [[0,1,2,3,4,5,6,7,8],[8],[]] (hd1l:=[0,1,2,3,4,5,6,7,8]) (tll:=[(9,[0,1,2,3,4,5,6,7,8]),(10,[8]),(11,[])]) d5 d5 rfl rfl rfl ?_;exact kz):p:=h kz
theorem b97 (kz:q) (h:q->p:=by intro kz;refine cY a7b ?_;refine cD (j3 rfl tt tt rfl c6 c8R (.inl rfl) rfl rfl (nb rfl) ?_);exact kz):p:=h kz
theorem a3J (kz:q) (h:Qz q->p:=by intro kz;refine cY b0Q ?_;refine cY a5Y ?_;exact kz tt):p:=h fun _=>kz
theorem a6T (kz:q) (h:q->p:=by intro kz;refine N3 ?_;refine i7 ?_;exact kz):p:=h kz
theorem a0b (kz:q) (h:q->p:=by intro kz;refine z_0 ?_;refine c6O ?_;exact kz):p:=h kz
theorem d1K (kz:q) (h:q->p:=by intro kz;refine c8 [rbx T n6 x1 y1 [] [] 2,o7 0 b.length,o7 y1 ([]:List Ex).length,.dead,.box (⟨0,[],[],[]⟩:De).cells,.box [(.val (.int .i64 kd)),(sv s2),.list (l.map scv) (gnn l.length) (E7 l.length 6),.list [] false none],r7 l.length] rfl ?_;refine i7 ?_;exact kz):p:=h kz
theorem c8H (h:p:=by refine i7 ?_;exact ⟨_,l9 (rs:=[]) (cs:=[]) rfl tt (n_2 rfl),⟨(max d dp),d5X,tt⟩⟩):p:=h
theorem d1O (kz:q) (h:q->p:=by intro kz;refine c8 [rbx T n2 a2 e2 ps b 1,o7 e2 b.length,.box (tk T n).cells] rfl ?_;refine M9 ?_;exact kz):p:=h kz
theorem a4M (kz:q) (h:Qz q->p:=by intro kz;refine z_5 ?_;refine c8u ?_;exact kz tt):p:=h fun _=>kz
theorem c0v (kz:q) (h:q->p:=by intro kz;refine cD (j3 rfl tt tt rfl c6 a68 o4 rfl rfl (nb rfl) ?_);refine i7 ?_;exact kz):p:=h kz
theorem a0U (kz:q) (h:q->p:=by intro kz;refine d3E ?_;refine a1n ?_;exact kz):p:=h kz
theorem d12 (h:p:=by refine z_2 ?_;exact ⟨(s,hds,p6,n - 1),[0,1,2],⟨do_,do_,do_,do_,do_,do_,do_⟩,⟨rfl,rfl⟩,q_8,⟨.inr ⟨_,rfl,.same rfl I0⟩,.inr ⟨_,rfl,.same rfl s9⟩,.inr ⟨_,rfl,.same rfl s9⟩,tt⟩⟩):p:=h
theorem a2V (kz:q) (h:q->p:=by intro kz;refine cY a13 ?_;refine a6e ?_;exact kz):p:=h kz
theorem b01 (kz:q) (h:q->p:=by intro kz;refine a6m ?_;refine cD (a5W rfl tt c6 o4 ?_);exact kz):p:=h kz
theorem a2P (kz:q) (h:q->p:=by intro kz;refine c2R ?_;refine cY I1 ?_;exact kz):p:=h kz
theorem a4O (kz:q) (h:q->p:=by intro kz;refine cY P1 ?_;refine cY j7 ?_;exact kz):p:=h kz
theorem c1H (h:p:=by refine G5 ?_;exact ⟨_,j5 rfl tt c6,_,_,rfl,rfl,j4 hno.symm⟩):p:=h
theorem a32 (h:p:=by refine A0 ?_;refine cY Y3 ?_;exact b0d rfl rfl (a06 rfl b4V o6 (a1d _ _ _) rfl (fun _ _=>.inr ⟨(_,_),l8,hsp,si_⟩))):p:=h
theorem c6q (kz:q) (h:q->p:=by intro kz;refine cD (r6 rfl b4x rfl o4 ?_);refine cD (j3 rfl tt tt rfl c6 a91 o4 rfl rfl (nb rfl) ?_);exact kz):p:=h kz
theorem d2W (kz:q) (h:q->p:=by intro kz;refine B5 [0,1,2,3,4,5,6,7,8,9] 5 [0,1,0,0,8,28,60,127,255,511] [[0,1],[0,1],[],[],[]] (hd1l:=[0,1,2,3,4]) (tll:=[(5,[0,1]),(6,[0,1]),(7,[]),(8,[]),(9,[])]) d5 d5 rfl rfl rfl ?_;refine chf rfl d2P ?_;exact kz):p:=h kz
theorem c0k (h:p:=by refine G5 ?_;exact ⟨_,j5 rfl tt c6,(by exact a1I rfl (.val _))⟩):p:=h
theorem c7X (h:p:=by refine G5 ?_;exact ⟨_,j5 rfl tt c6,_,_,rfl,rfl,j4 (show false=a0J x by simp_all [a0J])⟩):p:=h
theorem c0M (h:p:=by refine a3y ?_;exact ⟨_,j5 rfl tt c6,_,_,rfl,rfl,j4 rfl⟩):p:=h
theorem d1X (kz:q) (h:q->p:=by intro kz;refine B5 [0,1,2,3,4,5,6,7,8,9,10] 7 [0,0,2,6,14,0,32,126,255,511,1023] [[0],[],[],[]] (hd1l:=[0,1,2,3,4,5,6]) (tll:=[(7,[0]),(8,[]),(9,[]),(10,[])]) d5 d5 rfl rfl rfl ?_;refine chf rfl U4 ?_;exact kz):p:=h kz
theorem d2X (kz:q) (h:q->p:=by intro kz;refine a6H ?_;refine cY V4 ?_;exact kz):p:=h kz
theorem b6k (kz:q) (h:q->p:=by intro kz;refine a3c ?_;refine cY J2 ?_;exact kz):p:=h kz
theorem b46 (kz:q) (h:q->p:=by intro kz;refine cY a5z ?_;refine a6i ?_;exact kz):p:=h kz
theorem a4x (kz:q) (h:q->p:=by intro kz;refine cY I1 ?_;refine a6e ?_;exact kz):p:=h kz
theorem b2X (kz:q) (h:q->p:=by intro kz;refine A0 ?_;refine z_3 ?_;exact kz):p:=h kz
theorem b2k (kz:q) (h:q->p:=by intro kz;refine cY c6n ?_;refine i7 ?_;exact kz):p:=h kz
theorem a5K (kz:q) (h:q->p:=by intro kz;refine cG b0O ?_;refine cY a6W ?_;exact kz):p:=h kz
theorem b5R (kz:q) (h:Qz q->p:=by intro kz;refine cY d5q ?_;refine cY a0T ?_;exact kz tt):p:=h fun _=>kz
theorem a5x (kz:q) (h:q->p:=by intro kz;refine cY c8q ?_;refine cY a0F ?_;exact kz):p:=h kz
theorem a52 (kz:q) (h:q->p:=by intro kz;refine cY c1q ?_;refine cY b5g ?_;exact kz):p:=h kz
theorem d1H (kz:q) (h:q->p:=by intro kz;refine ⟨⟨V7,C8,tt⟩,?_⟩;refine D5 rfl c9u ⟨⟨V7,tt⟩,?_⟩;exact kz):p:=h kz
theorem b6I (kz:q) (h:q->p:=by intro kz;refine cD (r6 rfl b3L rfl o4 ?_);refine U2 ?_;refine cD (r6 rfl b3L rfl o4 ?_);exact kz):p:=h kz
theorem a5H (kz:q) (h:q->p:=by intro kz;refine a4a ?_;refine G9 ?_;exact kz):p:=h kz
theorem b2Z (kz:q) (h:Qz q->p:=by intro kz;refine a1O ?_;refine d3h ?_;refine cD (r6 rfl a34 rfl o4 ?_);refine cD (j3 rfl tt tt rfl c6 a1S o4 rfl rfl (nb rfl) ?_);exact kz tt):p:=h fun _=>kz
theorem d1d (kz:q) (h:q->p:=by intro kz;refine a4j rfl rfl (fun h=>h) rfl rfl (fun hk hg=>j2 rfl tt rfl a8p rfl t_0 de_) ?_;refine a4j rfl rfl (fun h=>h) rfl rfl (fun hk hg=>o9 rfl ⟨hk,hg⟩ rfl t_8 rfl rfl) ?_;exact kz):p:=h kz
theorem d0K (kz:q) (h:q->p:=by intro kz;refine c8 [rbx T n2 a2 e2 [] [] 2,o7 0 b.length,o7 e2 ([]:List Ex).length,.box (⟨pk,im,bs⟩:Src).cells,.box (⟨0,[],[],[]⟩:De).cells,.box (⟨kd,[],[],[]⟩:De).cells] rfl ?_;refine cY c4a ?_;exact kz):p:=h kz
theorem a4s (kz:q) (h:q->p:=by intro kz;refine i7 ?_;refine z_4 ?_;exact kz):p:=h kz
theorem b56 (h:p:=by refine d4N ?_;exact ⟨_,j5 rfl tt c6,d4D⟩):p:=h
theorem c0a (kz:q) (h:q->p:=by intro kz;refine b9t ?_;refine cY j7 ?_;exact kz):p:=h kz
theorem d0N (h:p:=by refine a6Q ?_;exact ⟨_,j5 rfl tt c6,_,_,rfl,rfl,j4 (by simp [e1,e2,e3,e4])⟩):p:=h
theorem b6f (h:p:=by refine z_7 ?_;exact ⟨_,j5 rfl tt c6,d5w⟩):p:=h
theorem a8S (kz:q) (h:q->p:=by intro kz;refine chf rfl U4 ?_;refine D2 ?_;exact kz):p:=h kz
theorem d2F (kz:q) (h:Qz q->p:=by intro kz;refine cY d6f ?_;refine cD (D9 rfl tt tt rfl si_ R6 a27 a1S b9N a34 rfl (.inr rfl) X0 b0p H3 ((out++[x]).map Fi.cv) (out++[x]).length si_ si_ ?_);exact kz tt):p:=h fun _=>kz
theorem d1V (kz:q) (h:Qz q->p:=by intro kz;refine cY d6d ?_;refine cD (D9 rfl tt tt rfl si_ R6 a27 a1S b9N a34 rfl (.inr rfl) X0 b0p H3 ((out++[f]).map Fi.cv) (out++[f]).length si_ si_ ?_);exact kz tt):p:=h fun _=>kz
theorem b7r (kz:q) (h:q->p:=by intro kz;refine cG Y6 ?_;refine cG b04 ?_;exact kz):p:=h kz
theorem b53 (kz:q) (h:q->p:=by intro kz;refine cY a7o ?_;refine cY d1I ?_;exact kz):p:=h kz
theorem d2N (kz:q) (h:q->p:=by intro kz;refine cY d5Y ?_;refine cY d4x ?_;exact kz):p:=h kz
theorem c5G (h:p:=by refine i7 ?_;exact ⟨(m9,x0,y0),⟨b9T (hv9.symm.trans hw) hy0,hm9⟩,tu_,rfl⟩):p:=h
theorem b0G (kz:q) (h:q->p:=by intro kz;refine z_0 ?_;refine cY a15 ?_;exact kz):p:=h kz
theorem a5E (kz:q) (h:q->p:=by intro kz;refine A0 ?_;refine a9M ?_;exact kz):p:=h kz
theorem d0J (kz:q) (h:Qz q->p:=by intro kz;refine cY c5L ?_;refine d1E ?_;refine cY c5L ?_;exact kz tt):p:=h fun _=>kz
theorem c7Y (kz:q) (h:q->p:=by intro kz;refine A0 ?_;refine c4u ?_;exact kz):p:=h kz
theorem a19 (kz:q) (h:q->p:=by intro kz;refine z_9 ?_;refine z_0 ?_;exact kz):p:=h kz
theorem c4w (kz:q) (h:q->p:=by intro kz;refine d1O ?_;refine cD (b9 rfl a3N o6 (L1 hT y2 hW [41] ⟨rfl,rfl,de_⟩) rfl ?_);exact kz):p:=h kz
theorem c6l (kz:q) (h:q->p:=by intro kz;refine D2 ?_;refine A9 rfl rfl (j3 rfl tt tt rfl c6 a3m o4 rfl rfl (nb rfl) ?_);exact kz):p:=h kz
theorem d1C (kz:q) (h:q->p:=by intro kz;refine cY a3I ?_;refine cD (b9 rfl b5J a66 (a18 _ _ de_ ⟨rfl,rfl,de_⟩) rfl ?_);exact kz):p:=h kz
theorem c4l (kz:q) (h:q->p:=by intro kz;refine cY c8q ?_;refine cD (j3 rfl tt rfl rfl c6 t_1 (.inl rfl) rfl rfl (nb rfl) ?_);exact kz):p:=h kz
theorem d1x (h:p:=by refine G3 ?_;exact ⟨_,A8 rfl a1Z,⟨(a5g fl ⟨sp,s⟩,p4),a1x rfl I0 (.old (Q4 _ _).old),(hm.mono om_).ins (hspa) do_,do_,do_⟩⟩):p:=h
theorem a2U (kz:q) (h:q->p:=by intro kz;refine z_6 ?_;refine z_4 ?_;exact kz):p:=h kz
theorem a5w (kz:q) (h:Qz q->p:=by intro kz;refine cY a4K ?_;refine z_2 ?_;exact kz tt):p:=h fun _=>kz
theorem a5C (kz:q) (h:q->p:=by intro kz;refine i8 ?_;refine a0n ?_;exact kz):p:=h kz
theorem a5X (kz:q) (h:q->p:=by intro kz;refine i8 ?_;refine a4R ?_;exact kz):p:=h kz
theorem a2s (kz:q) (h:q->p:=by intro kz;refine z_8 ?_;refine z_1 ?_;exact kz):p:=h kz
theorem a8O (kz:q) (h:Qz q->p:=by intro kz;refine z6 ?_;refine b4y ?_;exact kz tt):p:=h fun _=>kz
theorem c8N (kz:q) (h:q->p:=by intro kz;refine a6y ?_;refine cD (b9 rfl b5J a66 (a18 _ _ de_ ⟨rfl,rfl,de_⟩) rfl ?_);exact kz):p:=h kz
theorem c4z (kz:q) (h:q->p:=by intro kz;refine R7 ?_;refine cD (b9 rfl b5J a66 (a18 _ _ de_ ⟨rfl,rfl,de_⟩) rfl ?_);exact kz):p:=h kz
theorem b93 (kz:q) (h:q->p:=by intro kz;refine O2 rfl rfl tt rfl b7b ?_;refine O2 rfl rfl tt rfl a0X ?_;exact kz):p:=h kz
theorem c0e (kz:q) (h:q->p:=by intro kz;refine O2 rfl rfl tt rfl d0U ?_;refine O2 rfl rfl tt rfl d1i ?_;exact kz):p:=h kz
theorem c4b (kz:q) (h:q->p:=by intro kz;refine O2 rfl rfl tt rfl d5e ?_;refine O2 rfl rfl tt rfl d5s ?_;exact kz):p:=h kz
theorem c1U (kz:q) (h:q->p:=by intro kz;refine O2 rfl rfl tt rfl Y6 ?_;refine O2 rfl rfl tt rfl Y6 ?_;exact kz):p:=h kz
theorem c7I (kz:q) (h:q->p:=by intro kz;refine c8 [rbx T n1 a1 e1 ps b 1,o7 e1 b.length,.box (tk T n).cells] rfl ?_;refine a4s ?_;exact kz):p:=h kz
theorem a8H (kz:q) (h:Qz q->p:=by intro kz;refine cY j7 ?_;refine cY S8 ?_;exact kz tt):p:=h fun _=>kz
theorem a8P (kz:q) (h:q->p:=by intro kz;refine cY c5t ?_;refine cY a5U ?_;exact kz):p:=h kz
theorem a8U (kz:q) (h:q->p:=by intro kz;refine cY c4a ?_;refine cY Y2 ?_;exact kz):p:=h kz
theorem b2D (kz:q) (h:q->p:=by intro kz;refine chf rfl d4M ?_;refine chf rfl c8P ?_;exact kz):p:=h kz
theorem c8G (kz:q) (h:q->p:=by intro kz;refine c8 [rbx T n x y ps b 1,o7 y b.length,.box (tk T n).cells] rfl ?_;refine i7 ?_;exact kz):p:=h kz
theorem d0R (kz:q) (h:Qz q->p:=by intro kz;refine hY (t6 rfl tt tt rfl rfl b4G a3K om_ (j8 (d4f hn)) rfl) ?_;refine hY (T4 rfl tt rfl b7U a3K (nb rfl)) ?_;exact kz tt):p:=h fun _=>kz
theorem a7B (kz:q) (h:q->p:=by intro kz;refine cY a4N ?_;refine G9 ?_;exact kz):p:=h kz
theorem d20 (kz:q) (h:q->p:=by intro kz;refine a4m ?_;refine cY j7 ?_;exact kz):p:=h kz
theorem a8T (kz:q) (h:q->p:=by intro kz;refine cY d3H ?_;refine cY j7 ?_;exact kz):p:=h kz
theorem d21 (kz:q) (h:Qz q->p:=by intro kz;refine cY (t6 rfl tt tt rfl rfl b5h a3m om_ (j8 (d0q hb)) rfl) ?_;refine cY (T4 rfl tt rfl b8o a3m (nb rfl)) ?_;exact kz tt):p:=h fun _=>kz
theorem b9X (h:p:=by refine z6 ?_;exact ⟨(k+2),_,rfl,tu_,rfl⟩):p:=h
theorem a3C (kz:q) (h:q->p:=by intro kz;refine z_6 ?_;refine z_0 ?_;exact kz):p:=h kz
theorem d03 (kz:q) (h:q->p:=by intro kz;refine cD (j3 rfl tt tt rfl c6 a6h o4 rfl rfl (nb rfl) ?_);refine a6e ?_;exact kz):p:=h kz
theorem c4o (h:p:=by refine z_7 ?_;exact ⟨_,j5 rfl tt c6,_,_,rfl,rfl,j4 rfl⟩):p:=h
theorem c5S (kz:q) (h:q->p:=by intro kz;refine c8 [rbx T n3 a3 e3 ps b3 3,.dead,.dead,o7 e3 b3.length] rfl ?_;refine z_2 ?_;exact kz):p:=h kz
theorem a33 (kz:q) (h:q->p:=by intro kz;refine a9I ?_;refine z_7 ?_;exact kz):p:=h kz
theorem d2M (kz:q) (h:q->p:=by intro kz;refine z_4 ?_;refine cG Y6 ?_;exact kz):p:=h kz
theorem d2y (h:p:=by refine d03 ?_;exact ⟨_,l9 (rs:=[.cell 6 32,.tmp 7]) (cs:=[_,_]) rfl d3v (n_2 rfl),_,_,rfl,rfl,d47⟩):p:=h
theorem a7d (kz:q) (h:q->p:=by intro kz;refine d33 ?_;refine b4b ?_;exact kz):p:=h kz
theorem d2o (kz:q) (h:Qz q->p:=by intro kz;refine cY (t6 rfl tt tt rfl rfl c5I b73 om_ (j8 hb) rfl) ?_;refine cY (T4 rfl tt rfl Tryz.isAgg129 b73 (nb rfl)) ?_;exact kz tt):p:=h fun _=>kz
theorem d0L (h:p:=by refine a4x ?_;exact ⟨_,l9 (rs:=[.tmp 4,.tmp 5]) (cs:=[_,_]) rfl V9 (n_2 rfl),⟨(),rfl,rfl,tt⟩⟩):p:=h
theorem d2R (kz:q) (h:q->p:=by intro kz;refine B5 [0,1,2,3,4] 2 [0,0,2,7,15] [[0],[],[]] (hd1l:=[0,1]) (tll:=[(2,[0]),(3,[]),(4,[])]) d5 d5 rfl rfl rfl ?_;refine chf rfl b0X ?_;exact kz):p:=h kz
theorem d0S (h:p:=by refine z_7 ?_;exact ⟨_,j5 rfl tt c6,(by exact .inl ⟨(i6,n+1,b6),X2 rfl rfl (nb rfl) (.val _),hsp,do_,hn1,y6⟩)⟩):p:=h
theorem d06 (kz:q) (h:q->p:=by intro kz;refine d2N ?_;refine cY c5T ?_;exact kz):p:=h kz
theorem a8Q (kz:q) (h:q->p:=by intro kz;refine c7Y ?_;refine cY c0f ?_;exact kz):p:=h kz
theorem a5O (kz:q) (h:q->p:=by intro kz;refine a4R ?_;refine c9i ?_;exact kz):p:=h kz
theorem d2Y (kz:q) (h:Qz q->p:=by intro kz;refine b07 rfl rfl (fun _=>d6 rfl a5Y) ?_;refine a3A rfl rfl rfl rfl (W9 rfl tt rfl b8S trivial (by exact hclo om_ (p+2) om_) rfl ?_);exact kz tt):p:=h fun _=>kz
theorem a4V (kz:q) (h:q->p:=by intro kz;refine z_9 ?_;refine z_1 ?_;exact kz):p:=h kz
theorem b0g (kz:q) (h:q->p:=by intro kz;refine hY j7 ?_;refine hY j7 ?_;exact kz):p:=h kz
theorem a84 (kz:q) (h:q->p:=by intro kz;refine cY V4 ?_;refine G9 ?_;exact kz):p:=h kz
theorem a8M (kz:q) (h:q->p:=by intro kz;refine cG b0O ?_;refine a4L ?_;exact kz):p:=h kz
theorem c4m (kz:q) (h:q->p:=by intro kz;refine cY a2B ?_;refine a7Z ?_;exact kz):p:=h kz
theorem c0Y (kz:q) (h:q->p:=by intro kz;refine b3C rfl rfl rfl c0r ⟨tt,?_⟩;refine c1V ?_;exact kz):p:=h kz
theorem a9e (kz:q) (h:Qz q->p:=by intro kz;refine d0J ?_;refine c2o ?_;exact kz tt):p:=h fun _=>kz
theorem d1S (kz:q) (h:q->p:=by intro kz;refine cG (fun hg=>o9 rfl hg rfl Tryz.isAgg117 rfl rfl) ?_;refine cG d42 ?_;exact kz):p:=h kz
theorem d1c (kz:q) (h:Qz q->p:=by intro kz;refine b2Z ?_;refine U2 ?_;exact kz tt):p:=h fun _=>kz
theorem c1c (h:p:=by refine i8 ?_;exact ⟨_,tt,⟨⟨tt,rfl⟩,⟨tt,rfl⟩,⟨tt,rfl⟩,⟨tt,rfl⟩,tt⟩,rfl⟩):p:=h
theorem a8W (kz:q) (h:Qz q->p:=by intro kz;refine z_4 ?_;refine cY S8 ?_;exact kz tt):p:=h fun _=>kz
theorem d1G (kz:q) (h:Qz q->p:=by intro kz;refine ⟨⟨V7,C8,C8,tt⟩,?_⟩;refine A9 rfl rfl (b9 rfl Tryz.call68 j1 (b3i l nn (k+3) om_ hl v hv8 _ 0 rfl) rfl ?_);exact kz tt):p:=h fun _=>kz
theorem d1v (kz:q) (h:q->p:=by intro kz;refine cG (fun hg=>j2 rfl tt rfl a7j rfl a3O de_) ?_;refine cG (fun hg=>o9 rfl hg rfl c2A rfl rfl) ?_;exact kz):p:=h kz
theorem d0V (kz:q) (h:q->p:=by intro kz;refine cG (fun hg=>j2 rfl tt rfl a7j rfl b6n de_) ?_;refine cG (fun hg=>o9 rfl hg rfl c0h rfl rfl) ?_;exact kz):p:=h kz
theorem d2g (h:p:=by refine i7 ?_;exact ⟨_,l9 (rs:=[]) (cs:=[]) rfl tt (n_2 rfl),⟨(),rfl,rfl,tt⟩⟩):p:=h
theorem a6Y (kz:q) (h:q->p:=by intro kz;refine a3c ?_;refine G9 ?_;exact kz):p:=h kz
theorem a7h (kz:q) (h:q->p:=by intro kz;refine a2n ?_;refine a1R ?_;exact kz):p:=h kz
theorem d26 (h:p:=by refine i7 ?_;exact ⟨_,l9 (rs:=[]) (cs:=[]) rfl tt (n_2 rfl),⟨d2,d6a,tt⟩⟩):p:=h
theorem a8Y (kz:q) (h:q->p:=by intro kz;refine i8 ?_;refine z_4 ?_;exact kz):p:=h kz
theorem a9j (kz:q) (h:q->p:=by intro kz;refine b9t ?_;refine i7 ?_;exact kz):p:=h kz
theorem a8y (kz:q) (h:q->p:=by intro kz;refine d2M ?_;refine b46 ?_;exact kz):p:=h kz
theorem a8v (kz:q) (h:q->p:=by intro kz;refine c0a ?_;refine cG d5p ?_;refine cG b0R ?_;exact kz):p:=h kz
theorem c6P (kz:q) (h:Qz q->p:=by intro kz;refine d1c ?_;refine d20 ?_;exact kz tt):p:=h fun _=>kz
theorem d1w (kz:q) (h:q->p:=by intro kz;refine d5k ?_;refine G3 ?_;exact kz):p:=h kz
theorem b0E (kz:q) (h:q->p:=by intro kz;refine cY a15 ?_;refine d1w ?_;exact kz):p:=h kz
theorem d2K (kz:q) (h:q->p:=by intro kz;refine ⟨⟨C8,a1K,b2T,(by exact d6 rfl b6j),b3x,tt⟩,?_⟩;refine D5 rfl d54 ⟨⟨C8,a1K,b2T,tt⟩,?_⟩;exact kz):p:=h kz
theorem b08 (kz:q) (h:Qz q->p:=by intro kz;refine i8 ?_;refine a4M ?_;exact kz tt):p:=h fun _=>kz
theorem b1p (kz:q) (h:q->p:=by intro kz;refine i7 ?_;refine G3 ?_;exact kz):p:=h kz
theorem a9c (kz:q) (h:q->p:=by intro kz;refine b6k ?_;refine c9i ?_;exact kz):p:=h kz
theorem c4C (kz:q) (h:q->p:=by intro kz;refine B4 2 [0,0,3,7,15,31] d5 d5 rfl ?_;refine hY a5v ?_;exact kz):p:=h kz
theorem b2O (kz:q) (h:q->p:=by intro kz;refine cY V4 ?_;refine cY j7 ?_;exact kz):p:=h kz
theorem b2u (kz:q) (h:q->p:=by intro kz;refine cY Y3 ?_;refine cY j7 ?_;exact kz):p:=h kz
theorem b25 (kz:q) (h:q->p:=by intro kz;refine cY c5Q ?_;refine cY Y2 ?_;exact kz):p:=h kz
theorem b3r (kz:q) (h:Qz q->p:=by intro kz;refine cY a8J ?_;refine cY a5Y ?_;exact kz tt):p:=h fun _=>kz
theorem d2n (kz:q) (h:Qz q->p:=by intro kz;refine D2 ?_;refine A9 rfl rfl (b9 rfl a5i j1 (J0 l nn (k+2) _ 0 rfl om_ hl U0 de_ de_) rfl ?_);exact kz tt):p:=h fun _=>kz
theorem d2I (kz:q) (h:q->p:=by intro kz;refine cD (r6 rfl c5M rfl o4 ?_);refine cD (j3 rfl tt tt rfl c6 c8x o4 rfl rfl (nb rfl) ?_);exact kz):p:=h kz
theorem d00 (kz:q) (h:q->p:=by intro kz;refine cY j7 ?_;refine cD (b9 rfl a4D B9 (M5 hb2 ⟨3,0,0,s1,l⟩ _ (q:=0) (s:=kg5 ph) a1s) rfl ?_);exact kz):p:=h kz
theorem d0W (h:p:=by refine cG (fun hg=>c7 rfl c3i ⟨hg,tt⟩ (a1k x.name om_ _) rfl) ?_;exact d0N):p:=h
theorem d0Z (kz:q) (h:q->p:=by intro kz;refine O2 rfl rfl tt rfl (fun hg=>T4 rfl hg rfl c2Z t_9 (nb rfl)) ?_;refine O2 rfl rfl tt rfl c8j ?_;exact kz):p:=h kz
theorem d1p (kz:q) (h:q->p:=by intro kz;refine cD (r6 rfl b88 rfl o4 ?_);refine cD (j3 rfl tt tt rfl c6 b8M o4 rfl rfl (nb rfl) ?_);exact kz):p:=h kz
theorem a7J (kz:q) (h:q->p:=by intro kz;refine z_2 ?_;refine z_4 ?_;exact kz):p:=h kz
theorem d19 (h:p:=by refine a9e ?_;exact ⟨_,l9 (rs:=[]) (cs:=[]) rfl tt (n_2 rfl),d6k⟩):p:=h
theorem a8B (kz:q) (h:q->p:=by intro kz;refine z_1 ?_;refine z_7 ?_;exact kz):p:=h kz
theorem c5e (kz:q) (h:q->p:=by intro kz;refine cY d5R ?_;refine cY (o9 rfl tt rfl c6h rfl rfl) ?_;exact kz):p:=h kz
theorem b7R (kz:q) (h:q->p:=by intro kz;refine cY b9E ?_;refine cY j7 ?_;exact kz):p:=h kz
theorem a87 (kz:q) (h:q->p:=by intro kz;refine b9t ?_;refine a7Z ?_;exact kz):p:=h kz
theorem a8R (kz:q) (h:q->p:=by intro kz;refine a5q ?_;refine K1 ?_;exact kz):p:=h kz
theorem d1M (kz:q) (h:q->p:=by intro kz;refine D5 rfl c1G ⟨tt,?_⟩;refine A9 rfl rfl (j3 rfl tt tt rfl c6 b6n (.inl rfl) rfl rfl (nb rfl) ?_);exact kz):p:=h kz
theorem d11 (kz:q) (h:q->p:=by intro kz;refine D5 rfl d2P ⟨tt,?_⟩;refine A9 rfl rfl (j3 rfl tt tt rfl c6 b7s (.inl rfl) rfl rfl (nb rfl) ?_);exact kz):p:=h kz
theorem d2r (kz:q) (h:q->p:=by intro kz;refine hY (j2 rfl tt rfl c7D rfl b7s de_) ?_;refine hY (o9 rfl tt rfl c7K hk rfl) ?_;exact kz):p:=h kz
theorem d1W (h:p:=by refine G5 ?_;exact ⟨_,j5 rfl tt c6,_,_,rfl,rfl,H6 (by rw [C2,if_pos hlen])⟩):p:=h
theorem d17 (kz:q) (h:Qz q->p:=by intro kz;refine cY (t6 rfl tt rfl rfl rfl t_5 t_1 om_ (j8 (a0j g1)) rfl) ?_;refine cY a3D ?_;exact kz tt):p:=h fun _=>kz
theorem d2a (kz:q) (h:Qz q->p:=by intro kz;refine cY d2c ?_;refine cD (b9 rfl a5i j1 (J0 l nn (k+2) _ 0 rfl om_ hl V6 de_ de_) rfl ?_);exact kz tt):p:=h fun _=>kz
theorem c4I (kz:q) (h:q->p:=by intro kz;refine a39 ?_;refine cY (a0N rfl tt tt rfl rfl (b1f _ _)) ?_;exact kz):p:=h kz
theorem d2H (kz:q) (h:Qz q->p:=by intro kz;refine cY (t6 rfl tt tt rfl rfl t_5 t_1 om_ (j8 (a0j gm)) rfl) ?_;refine cY a3D ?_;exact kz tt):p:=h fun _=>kz
theorem d08 (kz:q) (h:Qz q->p:=by intro kz;refine d1H ?_;refine D5 rfl (d6 rfl (c7 rfl b81 j1 (a0d fl _ ⟨sp,s⟩ om_ _) rfl)) ⟨tt,?_⟩;exact kz tt):p:=h fun _=>kz
theorem b3K (kz:q) (h:q->p:=by intro kz;refine cY c40 ?_;refine i7 ?_;exact kz):p:=h kz
theorem b2M (kz:q) (h:q->p:=by intro kz;refine hY I1 ?_;refine N3 ?_;exact kz):p:=h kz
theorem b2V (kz:q) (h:q->p:=by intro kz;refine cY d2i ?_;refine i7 ?_;exact kz):p:=h kz
theorem d15 (kz:q) (h:Qz q->p:=by intro kz;refine d1H ?_;refine D5 rfl (d6 rfl (c7 rfl b81 j1 (a0d fl _ ⟨y,s⟩ om_ _) rfl)) ⟨tt,?_⟩;exact kz tt):p:=h fun _=>kz
theorem b1q (kz:q) (h:q->p:=by intro kz;refine i8 ?_;refine z_5 ?_;exact kz):p:=h kz
theorem c8D (kz:q) (h:q->p:=by intro kz;refine cD (r6 rfl a34 rfl o4 ?_);refine cY I1 ?_;refine cD (j3 rfl tt tt rfl c6 a1S o4 rfl rfl (nb rfl) ?_);exact kz):p:=h kz
theorem b96 (kz:q) (h:Qz q->p:=by intro kz;refine O2 rfl rfl tt rfl Y6 ?_;refine O2 rfl rfl tt rfl d32 ?_;refine O2 rfl rfl tt rfl d51 ?_;exact kz tt):p:=h fun _=>kz
theorem a8G (kz:q) (h:Qz q->p:=by intro kz;refine z_2 ?_;refine b4y ?_;exact kz tt):p:=h fun _=>kz
theorem a8F (kz:q) (h:q->p:=by intro kz;refine b9t ?_;refine z_7 ?_;exact kz):p:=h kz
theorem c7R (kz:q) (h:q->p:=by intro kz;refine ⟨⟨C8,tt⟩,?_⟩;refine D5 rfl d22 ⟨tt,?_⟩;exact kz):p:=h kz
theorem a8D (kz:q) (h:q->p:=by intro kz;refine z_6 ?_;refine a1R ?_;exact kz):p:=h kz
theorem d2U (kz:q) (h:q->p:=by intro kz;refine b7R ?_;refine cD (b9 rfl a4D B9 (M5 hb ⟨10,x2,0,[],[]⟩ _ ⟨rfl,rfl,de_⟩) rfl ?_);exact kz):p:=h kz
theorem d1L (kz:q) (h:q->p:=by intro kz;refine cY a3I ?_;refine cD (b9 rfl b5J a66 (a18 _ _ de_ (q:=2) (s:=0) ⟨rfl,rfl,de_⟩) rfl ?_);exact kz):p:=h kz
theorem c5R (kz:q) (h:q->p:=by intro kz;refine cD (r6 rfl a7n rfl o4 ?_);refine c3n ?_;exact kz):p:=h kz
theorem d2v (kz:q) (h:Qz q->p:=by intro kz;refine cY j7 ?_;refine cY (t6 rfl tt tt rfl rfl b50 a91 om_ (j8 hAt.node) rfl) ?_;exact kz tt):p:=h fun _=>kz
theorem d1r (kz:q) (h:q->p:=by intro kz;refine A9 rfl rfl (j3 rfl tt tt rfl c6 t_9 o4 rfl rfl (nb rfl) ?_);refine ⟨⟨a9b,tt⟩,?_⟩;exact kz):p:=h kz
theorem d2A (kz:q) (h:q->p:=by intro kz;refine B4 15 [0,1,3,7,15,7,39,7,135,487,999,2023,4095,8191,16383] d5 d5 rfl ?_;refine hY j7 ?_;exact kz):p:=h kz
theorem b2r (kz:q) (h:q->p:=by intro kz;refine hY a5z ?_;refine a6T ?_;exact kz):p:=h kz
theorem b3j (kz:q) (h:q->p:=by intro kz;refine a5L ?_;refine cY j7 ?_;exact kz):p:=h kz
theorem d1B (kz:q) (h:Qz q->p:=by intro kz;refine N3 ?_;refine cD (b9 rfl a5i j1 (J0 l nn (p+1) _ 0 rfl om_ hl a1l de_ de_) rfl ?_);exact kz tt):p:=h fun _=>kz
theorem d0Y (kz:q) (h:q->p:=by intro kz;refine cY a88 ?_;refine cY (c7 rfl Tryz.call305 ⟨tt,tt⟩ (b0o ⟨k,u,o,nm,r3 ch s⟩ _) rfl) ?_;exact kz):p:=h kz
theorem d04 (h:p:=by refine z_7 ?_;exact ⟨_,j5 rfl tt c6,⟨v,rfl,rfl,n_1 hv⟩⟩):p:=h
theorem c56 (h:p:=by refine i8 ?_;exact ⟨(),_,tt,tu_,rfl⟩):p:=h
theorem b1z (kz:q) (h:q->p:=by intro kz;refine d06 ?_;refine a1n ?_;exact kz):p:=h kz
theorem d1q (kz:q) (h:q->p:=by intro kz;refine c8 [rbx T m10 a2 0 ps b2 (kf ph),.dead,ot1 ph 0 b2.length,ot2 ph 0 b2.length] R9 ?_;refine i7 ?_;exact kz):p:=h kz
theorem d1n (kz:q) (h:q->p:=by intro kz;refine c8 [rbx T m11 a2 0 ps b2 (kf ph),.dead,ot1 ph 0 b2.length,ot2 ph 0 b2.length] R9 ?_;refine i7 ?_;exact kz):p:=h kz
theorem d27 (kz:q) (h:Qz q->p:=by intro kz;refine cY (t6 rfl tt tt rfl rfl b1F a68 om_ (j8 hdd) rfl) ?_;refine cY b0M ?_;exact kz tt):p:=h fun _=>kz
theorem a8x (kz:q) (h:q->p:=by intro kz;refine z_2 ?_;refine z_5 ?_;exact kz):p:=h kz
theorem b3s (kz:q) (h:q->p:=by intro kz;refine w8 ?_;refine w8 ?_;exact kz):p:=h kz
theorem b3G (kz:q) (h:q->p:=by intro kz;refine cY j7 ?_;refine c8o ?_;exact kz):p:=h kz
theorem b2I (kz:q) (h:q->p:=by intro kz;refine c2R ?_;refine cY a67 ?_;exact kz):p:=h kz
theorem d2L (kz:q) (h:Qz q->p:=by intro kz;refine cY (t6 rfl tt tt rfl rfl b1F a68 om_ (j8 hb) rfl) ?_;refine cY b0M ?_;exact kz tt):p:=h fun _=>kz
theorem d2T (kz:q) (h:q->p:=by intro kz;refine cY P1 ?_;refine cD (b9 rfl c0A j1 (a9V hT y1 hW true hc.l ⟨rfl,rfl,de_⟩) rfl ?_);exact kz):p:=h kz
theorem b3E (kz:q) (h:q->p:=by intro kz;refine a5r ?_;refine hY b03 ?_;exact kz):p:=h kz
theorem c0B (kz:q) (h:q->p:=by intro kz;refine chf rfl b0X ?_;refine chf rfl U4 ?_;exact kz):p:=h kz
theorem b6o (kz:q) (h:q->p:=by intro kz;refine A0 ?_;refine cY Y3 ?_;exact kz):p:=h kz
theorem d2l (kz:q) (h:Qz q->p:=by intro kz;refine cY (t6 rfl tt rfl rfl rfl t_2 t_0 om_ (j8 g0) rfl) ?_;refine cY a0T ?_;exact kz tt):p:=h fun _=>kz
theorem d0X (kz:q) (h:q->p:=by intro kz;refine B4 14 [0,1,3,7,15,7,39,7,135,487,999,2023,4095,8191] d5 d5 rfl ?_;refine hY j7 ?_;exact kz):p:=h kz
theorem d1s (h:p:=by refine cY (c7 rfl Tryz.call233 j1 (b0b s c _) rfl) ?_;exact c0p):p:=h
theorem b0B (kz:q) (h:q->p:=by intro kz;refine a8m ?_;refine a2i ?_;exact kz):p:=h kz
theorem c6m (kz:q) (h:q->p:=by intro kz;refine R7 ?_;refine a8a ?_;exact kz):p:=h kz
theorem b02 (kz:q) (h:q->p:=by intro kz;refine b2X ?_;refine z_4 ?_;exact kz):p:=h kz
theorem c5k (kz:q) (h:Qz q->p:=by intro kz;refine ⟨tt,?_⟩;refine b3C rfl rfl rfl d1Y ⟨tt,?_⟩;exact kz tt):p:=h fun _=>kz
theorem b2y (kz:q) (h:q->p:=by intro kz;refine z_6 ?_;refine B7 ?_;exact kz):p:=h kz
theorem b58 (kz:q) (h:q->p:=by intro kz;refine cY a5T ?_;refine cY Y2 ?_;exact kz):p:=h kz
theorem d1A (kz:q) (h:q->p:=by intro kz;refine A9 rfl rfl (j3 rfl tt tt rfl c6 b2d (.inl rfl) rfl rfl (nb rfl) ?_);refine a3E ?_;exact kz):p:=h kz
theorem b7m (kz:q) (h:q->p:=by intro kz;refine cY Y3 ?_;refine cY a88 ?_;exact kz):p:=h kz
theorem b7i (kz:q) (h:q->p:=by intro kz;refine hY b6j ?_;refine hY a0F ?_;exact kz):p:=h kz
theorem b6l (kz:q) (h:q->p:=by intro kz;refine cY b6j ?_;refine cY a0F ?_;exact kz):p:=h kz
theorem b6z (kz:q) (h:q->p:=by intro kz;refine hY a2B ?_;refine hY j7 ?_;exact kz):p:=h kz
theorem b7A (kz:q) (h:q->p:=by intro kz;refine cY d1t ?_;refine cY d4s ?_;exact kz):p:=h kz
theorem d1U (h:p:=by refine a8B ?_;exact ⟨_,j5 rfl tt c6,_,_,rfl,rfl,H6 hr.symm⟩):p:=h
theorem d1R (kz:q) (h:q->p:=by intro kz;refine A9 rfl rfl (j3 rfl tt tt rfl c6 c2c (.inl rfl) rfl rfl (nb rfl) ?_);refine a3E ?_;exact kz):p:=h kz
theorem d2s (kz:q) (h:q->p:=by intro kz;refine cY (c7 rfl a6E ⟨tt,tt⟩ (Z1 hT y1 ⟨rfl,rfl,de_⟩) rfl) ?_;refine cY a3I ?_;exact kz):p:=h kz
theorem d2w (h:p:=by refine a8O ?_;exact ⟨(i+1,e),_,⟨do_,do_,hr,h0,do_⟩,tu_,rfl⟩):p:=h
theorem d0O (h:p:=by refine a3y ?_;exact ⟨_,j5 rfl tt c6,_,_,rfl,rfl,H6 d1u⟩):p:=h
theorem b1w (kz:q) (h:q->p:=by intro kz;refine z_2 ?_;refine a8o ?_;exact kz):p:=h kz
theorem d1N (kz:q) (h:q->p:=by intro kz;refine cY (c7 rfl a6E ⟨tt,tt⟩ (Z1 hT hm9 ⟨rfl,rfl,de_⟩) rfl) ?_;refine d1C ?_;exact kz):p:=h kz
theorem d2J (kz:q) (h:Qz q->p:=by intro kz;refine cY a8I ?_;refine cY (Q8 rfl tt tt rfl rfl a5k t_9 rfl om_ om_) ?_;exact kz tt):p:=h fun _=>kz
theorem d2h (kz:q) (h:q->p:=by intro kz;refine d2X ?_;refine c4m ?_;exact kz):p:=h kz
theorem b2F (kz:q) (h:q->p:=by intro kz;refine d3A ?_;refine G3 ?_;exact kz):p:=h kz
theorem d2S (h:p:=by refine a6Q ?_;exact ⟨_,j5 rfl tt c6,_,_,rfl,rfl,j4 rfl⟩):p:=h
theorem b2j (kz:q) (h:Qz q->p:=by intro kz;refine c6P ?_;refine b2k ?_;exact kz tt):p:=h fun _=>kz
theorem d1J (kz:q) (h:Qz q->p:=by intro kz;refine z_1 ?_;refine cD (W9 rfl tt rfl b8S trivial (by exact hclo om_ (p+1) om_) rfl ?_);exact kz tt):p:=h fun _=>kz
theorem d1b (kz:q) (h:q->p:=by intro kz;refine cD (r6 rfl b3L rfl o4 ?_);refine cD (r6 rfl c1m rfl o4 ?_);exact kz):p:=h kz
theorem d1z (kz:q) (h:q->p:=by intro kz;refine A9 rfl rfl (j3 rfl tt tt rfl c6 b4X o4 rfl rfl (nb rfl) ?_);refine a3E ?_;exact kz):p:=h kz
theorem d1P (kz:q) (h:q->p:=by intro kz;refine a4j rfl rfl (fun h=>h) rfl rfl (fun hk hg=>c6t rfl ⟨hk,hg⟩ rfl) ?_;refine cG c51 ?_;exact kz):p:=h kz
theorem d1k (kz:q) (h:q->p:=by intro kz;refine cY b7Q ?_;refine cD (j3 rfl tt tt rfl c6 b2d (.inl rfl) rfl rfl (nb rfl) ?_);exact kz):p:=h kz
theorem d1m (kz:q) (h:q->p:=by intro kz;refine cG (fun hg=>j2 rfl tt rfl b4z rfl b2d de_) ?_;refine d1S ?_;exact kz):p:=h kz
theorem d2t (kz:q) (h:Qz q->p:=by intro kz;refine cY (c7 rfl Tryz.call186 j1 (b6J l (gnn l.length) s6 om_ _) rfl) ?_;refine i7 ?_;exact kz tt):p:=h fun _=>kz
theorem d13 (kz:q) (h:q->p:=by intro kz;refine w8 ?_;refine B4 10 [0,1,3,7,15,0,32,96,224,480,1023,2047] d5 d5 rfl ?_;exact kz):p:=h kz
theorem d0T (kz:q) (h:Qz q->p:=by intro kz;refine D5 rfl d1Y ⟨⟨V7,C8,tt⟩,?_⟩;refine D5 rfl c9u ⟨⟨V7,tt⟩,?_⟩;exact kz tt):p:=h fun _=>kz
theorem b2E (kz:q) (h:q->p:=by intro kz;refine d2X ?_;refine a9A ?_;exact kz):p:=h kz
theorem d2B (kz:q) (h:q->p:=by intro kz;refine a6H ?_;refine cY (c7 rfl c4q b3m (b5p hT hn 4 u ⟨rfl,rfl,de_⟩) rfl) ?_;exact kz):p:=h kz
theorem d1y (kz:q) (h:q->p:=by intro kz;refine cY (c7 rfl Tryz.call236 ⟨tt,tt⟩ (a5y (tk T n).t _) rfl) ?_;refine i7 ?_;exact kz):p:=h kz
theorem b2v (kz:q) (h:Qz q->p:=by intro kz;refine a1O ?_;refine b5R ?_;exact kz tt):p:=h fun _=>kz
theorem b2m (kz:q) (h:Qz q->p:=by intro kz;refine b8Q ?_;refine a2F ?_;exact kz tt):p:=h fun _=>kz
theorem b2h (kz:q) (h:Qz q->p:=by intro kz;refine cY b3F ?_;refine d1E ?_;refine cY b3F ?_;refine c2o ?_;exact kz tt):p:=h fun _=>kz
theorem c6v (kz:q) (h:q->p:=by intro kz;refine (c4 Tryz.func246 rfl rfl ?_);refine a4R ?_;exact kz):p:=h kz
theorem b2l (kz:q) (h:q->p:=by intro kz;refine a5r ?_;refine hY a7b ?_;refine hY a8E ?_;exact kz):p:=h kz
theorem d1g (kz:q) (h:q->p:=by intro kz;refine cY b2H ?_;refine cD (j3 rfl tt tt rfl c6 t_1 (.inl rfl) hk rfl (nb rfl) ?_);exact kz):p:=h kz
theorem d2k (kz:q) (h:q->p:=by intro kz;refine cD (j3 rfl tt tt rfl c6 c2c (.inl rfl) rfl rfl (nb rfl) ?_);refine i7 ?_;exact kz):p:=h kz
theorem b5q (kz:q) (h:q->p:=by intro kz;refine cY j7 ?_;refine cG d5H ?_;refine cG a0X ?_;exact kz):p:=h kz
theorem b5v (kz:q) (h:q->p:=by intro kz;refine cY I1 ?_;refine a5H ?_;exact kz):p:=h kz
theorem b6g (kz:q) (h:q->p:=by intro kz;refine cG a0X ?_;refine b7r ?_;exact kz):p:=h kz
theorem d1h (kz:q) (h:q->p:=by intro kz;refine d0f Tryz.func154 rfl rfl rfl rfl rfl rfl rfl rfl rfl rfl de_ de_ rfl rfl ?_;refine z_1 ?_;exact kz):p:=h kz
theorem b7X (kz:q) (h:q->p:=by intro kz;refine cY b7Q ?_;refine b53 ?_;exact kz):p:=h kz
theorem d2G (kz:q) (h:q->p:=by intro kz;refine c8 [rbx T n3 a6 e6 ps b6 4,.dead,.dead,.dead,o7 e6 b6.length] rfl ?_;refine z_7 ?_;exact kz):p:=h kz
theorem d1Q (kz:q) (h:q->p:=by intro kz;refine cD (j3 rfl tt tt rfl c6 t_0 (.inl rfl) rfl rfl (nb rfl) ?_);refine i7 ?_;exact kz):p:=h kz
theorem b5a (kz:q) (h:q->p:=by intro kz;refine b0G ?_;refine cY c52 ?_;exact kz):p:=h kz
theorem d1o (kz:q) (h:q->p:=by intro kz;refine c8 [rbx T n1 a1 e1 ps b 1,o7 e1 b.length,.box (tk T n).cells] rfl ?_;refine O3 ?_;exact kz):p:=h kz
theorem d2u (kz:q) (h:q->p:=by intro kz;refine cY d18 ?_;refine cD (j3 rfl tt tt rfl c6 b5z o4 rfl rfl (nb rfl) ?_);exact kz):p:=h kz
theorem d25 (kz:q) (h:q->p:=by intro kz;refine cD (j3 rfl tt tt rfl c6 t_1 (.inl rfl) rfl rfl (nb rfl) ?_);refine a2i ?_;exact kz):p:=h kz
theorem d05 (kz:q) (h:q->p:=by intro kz;refine cY a3Y ?_;refine cD (j3 rfl tt tt rfl c6 a3m o4 rfl rfl (nb rfl) ?_);exact kz):p:=h kz
theorem d10 (kz:q) (h:q->p:=by intro kz;refine cY d57 ?_;refine cD (j3 rfl tt tt rfl c6 c8x o4 rfl rfl (nb rfl) ?_);exact kz):p:=h kz
theorem d24 (kz:q) (h:q->p:=by intro kz;refine c4b ?_;refine O2 rfl rfl tt rfl (fun hg=>a0N rfl hg hg rfl rfl (b1f _ _)) ?_;exact kz):p:=h kz
theorem b21 (kz:q) (h:q->p:=by intro kz;refine b9t ?_;refine a6i ?_;exact kz):p:=h kz
theorem d1Z (kz:q) (h:q->p:=by intro kz;refine cY (j2 rfl tt rfl b8J rfl b2d de_) ?_;refine cY a7o ?_;exact kz):p:=h kz
theorem b5N (kz:q) (h:q->p:=by intro kz;refine cY a6W ?_;refine a6i ?_;exact kz):p:=h kz
theorem b48 (kz:q) (h:q->p:=by intro kz;refine O3 ?_;refine cY J2 ?_;exact kz):p:=h kz
theorem d0M (kz:q) (h:q->p:=by intro kz;refine B4 10 [0,1,3,7,0,16,48,112,255,511,1023] d5 d5 rfl ?_;refine a5r ?_;exact kz):p:=h kz
theorem b5k (kz:q) (h:q->p:=by intro kz;refine a1T ?_;refine cY d4o ?_;exact kz):p:=h kz
theorem b6y (kz:q) (h:q->p:=by intro kz;refine c6m ?_;refine cY d6i ?_;exact kz):p:=h kz
theorem b6M (kz:q) (h:q->p:=by intro kz;refine cG a83 ?_;refine a6J ?_;exact kz):p:=h kz
theorem b6V (kz:q) (h:Qz q->p:=by intro kz;refine d2h ?_;refine cG c92 ?_;exact kz tt):p:=h fun _=>kz
theorem d1T (h:p:=by refine a4L ?_;exact ⟨(_,p5+1),⟨do_,do_⟩,⟨⟨tt,rfl⟩,⟨tt,rfl⟩,⟨tt,rfl⟩,⟨tt,rfl⟩,⟨tt,rfl⟩,⟨tt,rfl⟩,⟨tt,rfl⟩,tt⟩,rfl⟩):p:=h
theorem d2b (kz:q) (h:q->p:=by intro kz;refine cY (j2 rfl tt rfl b9p rfl t_1 de_) ?_;refine cY a0F ?_;exact kz):p:=h kz
theorem d2V (kz:q) (h:q->p:=by intro kz;refine ⟨⟨d07,d1e,tt⟩,?_⟩;refine D5 rfl d58 ⟨⟨d07,d1e,tt⟩,?_⟩;exact kz):p:=h kz
theorem d0I (h:p:=by refine a8O ?_;exact ⟨(i+1),_,⟨om_,om_⟩,tu_,rfl⟩):p:=h
theorem d14 (kz:q) (h:q->p:=by intro kz;refine ⟨⟨d2E,d1D,tt⟩,?_⟩;refine D5 rfl d5Z ⟨⟨d2E,d1D,tt⟩,?_⟩;exact kz):p:=h kz
end Go
