/- Names for closed terms that are often repeated. -/
import Derived.WalkKit
import Derived.Test.YtlppbmfecjabeaaGreatDoorProg
namespace Go
open Go.Proofs.Tryz
abbrev t_0:=@sizeOf9
abbrev t_1:=@runUnderlying26
abbrev t_2:=@sizeOf39
abbrev t_3:=@sizeOf3
abbrev t_4:=@runUnderlying36
abbrev t_5:=@zeroValue9
abbrev t_6:=@runUnderlying9
abbrev t_7:=@zeroValue39
abbrev t_8:=@runUnderlying22
abbrev t_9:=@isAgg9
abbrev t_10:=@runUnderlying149
abbrev t_11:=@zeroValue3
abbrev t_12:=@runUnderlying205
abbrev t_13:=@call200
abbrev t_14:=@isAgg3
abbrev t_15:=@sizeOf5
abbrev t_16:=@typeInfo39
abbrev t_17:=@call193
abbrev t_18:=@call19
abbrev t_19:=@sizeOf54
abbrev t_20:=@call20
abbrev t_21:=@sizeOf231
abbrev t_22:=@sizeOf26
abbrev t_23:=@zeroValue5
abbrev t_24:=@sizeOf119
abbrev t_25:=@zeroValue54
abbrev t_26:=@typeInfo9
abbrev t_27:=@zeroValue59
abbrev t_28:=@call279
abbrev t_29:=@runUnderlying67
abbrev t_30:=@runUnderlying30
abbrev t_31:=@isAgg39
abbrev t_32:=@zeroValue67
abbrev t_33:=@runUnderlying212
abbrev t_34:=@call284
abbrev t_35:=@call195
abbrev t_36:=@sizeOf212
abbrev t_37:=@runUnderlying65
abbrev t_38:=@sizeOf59
abbrev t_39:=@sizeOf305
abbrev t_40:=@call12
abbrev t_41:=@zeroValue32
abbrev t_42:=@sizeOf32
abbrev t_43:=@zeroValue231
abbrev t_44:=@runUnderlying117
abbrev t_45:=@runUnderlying231
abbrev t_46:=@runUnderlying119
abbrev t_47:=@zeroValue119
abbrev t_48:=@sizeOf67
abbrev t_49:=@typeInfo5
abbrev t_50:=@runUnderlying113
abbrev t_51:=@runUnderlying54
abbrev t_52:=@runUnderlying5
abbrev t_53:=@eqGuardType39
abbrev t_54:=@sizeOf117
abbrev t_55:=@call241
abbrev t_56:=@runUnderlying112
abbrev t_57:=@runUnderlying302
abbrev t_58:=@runUnderlying309
abbrev t_59:=@call163
abbrev t_60:=@call38
abbrev t_61:=@call67
abbrev t_62:=@runUnderlying39
abbrev t_63:=@call74
abbrev t_64:=@call118
abbrev t_65:=@runUnderlying195
abbrev t_66:=@runUnderlying199
abbrev t_67:=@zeroValue212
abbrev t_68:=@call277
abbrev t_69:=@isAgg5
abbrev t_70:=@call124
abbrev t_71:=@runUnderlying191
abbrev t_72:=@isAgg231
abbrev t_73:=@call194
abbrev t_74:=@call235
abbrev t_75:=@call160
abbrev t_76:=@call196
abbrev t_77:=@sizeOf22
abbrev t_78:=@call317
abbrev t_79:=@isAgg40
abbrev t_80:=@sizeOf129
abbrev t_81:=@runUnderlying129
abbrev t_82:=@sizeOf175
abbrev t_83:=@runUnderlying110
abbrev t_84:=@runUnderlying59
abbrev t_85:=@runUnderlying109
abbrev t_86:=@call280
abbrev t_87:=@call202
abbrev t_88:=@isAgg25
abbrev t_89:=@sizeOf25
abbrev t_90:=@call122
abbrev t_91:=@runUnderlying165
abbrev t_92:=@call192
abbrev t_93:=@call237
abbrev t_94:=@runUnderlying275
abbrev t_95:=@isAgg119
abbrev t_96:=@sizeOf65
abbrev t_97:=@sizeOf40
abbrev t_98:=@runUnderlying56
abbrev t_99:=@isAgg22
abbrev t_100:=@zeroValue305
abbrev t_101:=@call246
abbrev t_102:=@underlying3
abbrev t_103:=@underlying4
abbrev t_104:=@isAgg4
abbrev t_105:=@sizeOf4
abbrev t_106:=@call306
abbrev t_107:=@call159
abbrev t_108:=@isAgg26
abbrev t_109:=@zeroValue36
abbrev t_110:=@call16
abbrev t_111:=@func7
abbrev t_112:=@isAgg32
abbrev t_113:=@runUnderlying3
abbrev t_114:=@call123
abbrev t_115:=@call307
abbrev t_116:=@call278
abbrev t_117:=@call191
abbrev t_118:=@typeInfo3
abbrev t_119:=@isAgg67
abbrev t_120:=@runUnderlying25
abbrev t_121:=@runUnderlying23
abbrev t_122:=@runUnderlying175
abbrev t_123:=@zeroValue175
abbrev t_124:=@isAgg175
abbrev t_125:=@isAgg59
abbrev t_126:=@isAgg305
abbrev t_127:=@runUnderlying242
abbrev t_128:=@func217
abbrev t_129:=@underlying0
abbrev t_130:=@isAgg0
abbrev t_131:=@sizeOf0
abbrev t_132:=@zeroValue0
abbrev t_133:=@zeroValue4
abbrev t_134:=@underlying5
abbrev t_135:=@underlying9
abbrev t_136:=@sizeOf149
abbrev t_137:=@underlying141
abbrev t_138:=@isAgg141
abbrev t_139:=@sizeOf141
abbrev t_140:=@zeroValue141
abbrev t_141:=@underlying262
abbrev t_142:=@isAgg262
abbrev t_143:=@sizeOf262
abbrev t_144:=@zeroValue262
abbrev t_145:=@underlying86
abbrev t_146:=@isAgg86
abbrev t_147:=@sizeOf86
abbrev t_148:=@zeroValue86
abbrev t_149:=@call113
abbrev t_150:=@runUnderlying86
abbrev t_151:=@call90
abbrev t_152:=@call72
abbrev t_153:=@typeInfo54
abbrev t_154:=@isAgg27
abbrev t_155:=@call51
abbrev t_156:=@call120
abbrev t_157:=@sizeOf36
abbrev t_158:=@runUnderlying29
abbrev t_159:=@runUnderlying32
abbrev t_160:=@sizeOf244
abbrev t_161:=@sizeOf30
abbrev n_0:=@List.mem_of_getElem?
abbrev n_1:=@List.getElem?_eq_some_iff
abbrev n_2:=@Nat.ne_of_beq_eq_false
abbrev n_3:=@Nat.zero_le
abbrev n_4:=@Nat.le_refl
abbrev n_5:=@List.length_append
abbrev n_6:=@Option.bind_some
abbrev n_7:=@List.length_cons
abbrev n_8:=@List.append_assoc
abbrev n_9:=@List.mem_map
abbrev n_10:=@Nat.zero_add
abbrev n_11:=@List.length_nil
abbrev n_12:=@List.mem_iff_getElem?
abbrev n_13:=@List.mem_cons
abbrev n_14:=@Array.getElem?_eq_some_iff
abbrev n_15:=@List.getElem?_map
abbrev n_16:=@List.getElem?_append_left
abbrev n_17:=@List.length_map
abbrev n_18:=@List.mem_append
abbrev n_19:=@Nat.add_mul
abbrev n_20:=@Nat.mul_le_mul_right
abbrev n_21:=@List.all_eq_true
abbrev n_22:=@Array.getD_eq_getD_getElem?
abbrev n_23:=@Nat.lt_or_ge
abbrev n_24:=@Array.getElem?_eq_getElem
abbrev n_25:=@Option.map_eq_some_iff
abbrev n_26:=@List.take_of_length_le
abbrev n_27:=@List.drop_eq_getElem_cons
abbrev n_28:=@List.getElem?_take
abbrev n_29:=@Bool.and_eq_true
abbrev n_30:=@List.getElem?_append_right
abbrev n_31:=@Nat.blt_eq
abbrev n_32:=@List.append_nil
abbrev n_33:=@List.getElem?_eq_getElem
abbrev n_34:=@List.drop_eq_nil_of_le
abbrev n_35:=@List.nil_append
abbrev n_36:=@Nat.eq_of_beq_eq_true
abbrev n_37:=@List.getD_eq_getElem?_getD
abbrev n_38:=@Bool.or_eq_true
abbrev n_39:=@Nat.add_zero
abbrev n_40:=@List.getElem?_set_ne
abbrev n_41:=@Array.mem_of_getElem?
abbrev n_42:=@List.getElem?_append
abbrev n_43:=@List.length_take
abbrev n_44:=@Array.getElem?_eq_none
abbrev n_45:=@List.map_append
abbrev n_46:=@List.take_add_one
abbrev n_47:=@Option.getD_some
abbrev n_48:=@decide_eq_true_eq
abbrev n_49:=@List.pairwise_cons
abbrev n_50:=@List.getElem?_drop
abbrev n_51:=@Nat.mod_lt
abbrev n_52:=@Nat.lt_of_lt_of_le
abbrev n_53:=@List.cons_append
abbrev n_54:=@List.take_succ_cons
abbrev n_55:=@List.map_cons
abbrev n_56:=@List.mem_of_mem_take
abbrev n_57:=@List.getElem?_set
abbrev n_58:=@Array.length_toList
abbrev n_59:=@List.take_length
abbrev n_60:=@List.filter_cons
abbrev n_61:=@Int.toNat_natCast
abbrev n_62:=@Array.getElem?_setIfInBounds_ne
abbrev n_63:=@List.mem_of_mem_drop
abbrev n_64:=@Nat.add_assoc
abbrev n_65:=@Bool.not_true
abbrev n_66:=@List.length_pos_iff
abbrev n_67:=@List.drop_zero
abbrev n_68:=@decide_eq_true
abbrev n_69:=@List.mem_cons_of_mem
abbrev n_70:=@Bool.eq_false_iff
abbrev n_71:=@List.getElem?_eq_none
abbrev n_72:=@Bool.false_eq_true
abbrev n_73:=@Bool.false_or
abbrev n_74:=@List.getElem?_set_self
abbrev n_75:=@List.getElem?_concat_length
abbrev n_76:=@Array.ext_getElem?
abbrev n_77:=@List.eq_nil_of_length_eq_zero
abbrev n_78:=@decide_eq_false
abbrev n_79:=@List.not_mem_nil
abbrev n_80:=@List.mem_flatMap
abbrev n_81:=@List.flatMap_cons
abbrev n_82:=@Array.getElem?_modify
abbrev n_83:=@List.mem_append_left
abbrev n_84:=@Nat.eq_zero_or_pos
abbrev n_85:=@List.ext_getElem?
abbrev n_86:=@Bool.and_eq_true_iff
abbrev n_87:=@Nat.le_trans
abbrev n_88:=@List.mem_range
abbrev n_89:=@List.getElem?_cons_zero
abbrev n_90:=@Nat.sub_self
abbrev n_91:=@Nat.mul_one
abbrev n_92:=@List.mem_filter
abbrev n_93:=@Int.le_refl
abbrev n_94:=@Array.getElem?_append
abbrev n_95:=@Array.getElem?_map
abbrev n_96:=@Nat.mod_eq_of_lt
abbrev n_97:=@Nat.mul_comm
abbrev n_98:=@Array.getElem?_append_left
abbrev n_99:=@Option.map_some
abbrev n_100:=@Option.isSome_iff_exists
abbrev n_101:=@List.takeWhile_cons
abbrev n_102:=@List.length_drop
abbrev n_103:=@List.length_singleton
abbrev n_104:=@List.mem_cons_self
abbrev n_105:=@Array.getElem?_replicate
abbrev n_106:=@Array.getElem?_push
abbrev n_107:=@List.getElem_mem
abbrev n_108:=@List.foldl_cons
abbrev n_109:=@List.any_eq_true
abbrev n_110:=@List.mem_append_right
abbrev n_111:=@Array.size_append
abbrev n_112:=@List.getElem?_cons_succ
abbrev n_113:=@List.length_mergeSort
abbrev n_114:=@List.take_append_getElem
abbrev n_115:=@List.mem_singleton
abbrev n_116:=@UInt8.lt_iff_toNat_lt
abbrev n_117:=@List.find?_eq_none
abbrev n_118:=@List.drop_length
abbrev n_119:=@List.mergeSort_perm
abbrev n_120:=@Nat.lt_or_gt_of_ne
abbrev n_121:=@List.filter_eq_self
abbrev n_122:=@List.length_eraseIdx_of_lt
abbrev n_123:=@List.isPrefixOf_iff_prefix
abbrev n_124:=@List.mem_of_find?_eq_some
abbrev n_125:=@List.eq_nil_iff_forall_not_mem
abbrev n_126:=@List.perm_ext_iff_of_nodup
abbrev n_127:=@List.getElem?_replicate
abbrev n_128:=@Int.tdiv_eq_ediv_of_nonneg
abbrev n_129:=@Array.getElem?_setIfInBounds
abbrev n_130:=@List.mem_eraseIdx_iff_getElem?
abbrev n_131:=@Nat.add_sub_cancel_left
abbrev n_132:=@List.pairwise_mergeSort
def Qz (q:Prop):Prop:=True->q
variable {p q:Prop}
theorem nb {a b : Nat} (h : Nat.ble a b = true) : a <= b := Nat.le_of_ble_eq_true h
theorem tt : True := True.intro
theorem q_0 (h:p:=by exact ⟨⟨tt, (by first | exact .ptr rfl | exact .map rfl | exact .vec rfl | exact .same rfl uo_ | exact RenV.grow (f := Ky.cv) (fun _ => ⟨.val _, .val _, .val _, tt⟩) rfl | exact ren_lst (f := scv) (fun _ => ⟨.val _, tt⟩) _)⟩, ⟨tt, (by first | exact .ptr rfl | exact .map rfl | exact .vec rfl | exact .same rfl uo_ | exact RenV.grow (f := Ky.cv) (fun _ => ⟨.val _, .val _, .val _, tt⟩) rfl | exact ren_lst (f := scv) (fun _ => ⟨.val _, tt⟩) _)⟩, ⟨tt, (by first | exact .ptr rfl | exact .map rfl | exact .vec rfl | exact .same rfl uo_ | exact RenV.grow (f := Ky.cv) (fun _ => ⟨.val _, .val _, .val _, tt⟩) rfl | exact ren_lst (f := scv) (fun _ => ⟨.val _, tt⟩) _)⟩, ⟨tt, (by first | exact .ptr rfl | exact .map rfl | exact .vec rfl | exact .same rfl uo_ | exact RenV.grow (f := Ky.cv) (fun _ => ⟨.val _, .val _, .val _, tt⟩) rfl | exact ren_lst (f := scv) (fun _ => ⟨.val _, tt⟩) _)⟩, ⟨tt, (by first | exact .ptr rfl | exact .map rfl | exact .vec rfl | exact .same rfl uo_ | exact RenV.grow (f := Ky.cv) (fun _ => ⟨.val _, .val _, .val _, tt⟩) rfl | exact ren_lst (f := scv) (fun _ => ⟨.val _, tt⟩) _)⟩, tt⟩):p:=h
theorem q_1 (h:p:=by exact ⟨⟨tt, (by first | exact .ptr rfl | exact .map rfl | exact .vec rfl | exact .same rfl uo_ | exact (by first | exact .same rfl (show Old _ (CV.list [] false none) from old_keys _ ([] : List Ky) false) | (rw [outV_ne hne]; exact .vec rfl)))⟩, ⟨tt, (by first | exact .ptr rfl | exact .map rfl | exact .vec rfl | exact .same rfl uo_ | exact (by first | exact .same rfl (show Old _ (CV.list [] false none) from old_keys _ ([] : List Ky) false) | (rw [outV_ne hne]; exact .vec rfl)))⟩, ⟨tt, (by first | exact .ptr rfl | exact .map rfl | exact .vec rfl | exact .same rfl uo_ | exact (by first | exact .same rfl (show Old _ (CV.list [] false none) from old_keys _ ([] : List Ky) false) | (rw [outV_ne hne]; exact .vec rfl)))⟩, ⟨tt, (by first | exact .ptr rfl | exact .map rfl | exact .vec rfl | exact .same rfl uo_ | exact (by first | exact .same rfl (show Old _ (CV.list [] false none) from old_keys _ ([] : List Ky) false) | (rw [outV_ne hne]; exact .vec rfl)))⟩, tt⟩):p:=h
theorem q_2 (h:p:=by exact ⟨⟨tt, (by first | exact .ptr rfl | exact .map rfl | exact .vec rfl | exact .same rfl uo_ | exact RenV.grow (f := Fi.cv) (fun a => ⟨.val _, .val _, tt⟩) rfl)⟩, ⟨tt, (by first | exact .ptr rfl | exact .map rfl | exact .vec rfl | exact .same rfl uo_ | exact RenV.grow (f := Fi.cv) (fun a => ⟨.val _, .val _, tt⟩) rfl)⟩, ⟨tt, (by first | exact .ptr rfl | exact .map rfl | exact .vec rfl | exact .same rfl uo_ | exact RenV.grow (f := Fi.cv) (fun a => ⟨.val _, .val _, tt⟩) rfl)⟩, ⟨tt, (by first | exact .ptr rfl | exact .map rfl | exact .vec rfl | exact .same rfl uo_ | exact RenV.grow (f := Fi.cv) (fun a => ⟨.val _, .val _, tt⟩) rfl)⟩, ⟨tt, (by first | exact .ptr rfl | exact .map rfl | exact .vec rfl | exact .same rfl uo_ | exact RenV.grow (f := Fi.cv) (fun a => ⟨.val _, .val _, tt⟩) rfl)⟩, ⟨tt, (by first | exact .ptr rfl | exact .map rfl | exact .vec rfl | exact .same rfl uo_ | exact RenV.grow (f := Fi.cv) (fun a => ⟨.val _, .val _, tt⟩) rfl)⟩, tt⟩):p:=h
theorem q_3 (h:p:=by exact ⟨⟨tt, (by first | exact .ptr rfl | exact .map rfl | exact .vec rfl | exact .same rfl uo_ | exact RenV.grow (f := Tok.cv) (fun _ => ⟨.val _, .val _, .val _, .val _, tt⟩) rfl)⟩, ⟨tt, (by first | exact .ptr rfl | exact .map rfl | exact .vec rfl | exact .same rfl uo_ | exact RenV.grow (f := Tok.cv) (fun _ => ⟨.val _, .val _, .val _, .val _, tt⟩) rfl)⟩, ⟨tt, (by first | exact .ptr rfl | exact .map rfl | exact .vec rfl | exact .same rfl uo_ | exact RenV.grow (f := Tok.cv) (fun _ => ⟨.val _, .val _, .val _, .val _, tt⟩) rfl)⟩, ⟨tt, (by first | exact .ptr rfl | exact .map rfl | exact .vec rfl | exact .same (congrArg (fun z : Int => CV.val (.int .i64 z)) (by show _ = ((lineE s i1 : Nat) : Int); omega)) uo_ | exact RenV.grow (f := Tok.cv) (fun _ => ⟨.val _, .val _, .val _, .val _, tt⟩) rfl)⟩, tt⟩):p:=h
theorem q_4 (h:p:=by exact ⟨⟨tt, (by first | exact .ptr rfl | exact .map rfl | exact .vec rfl | exact .same rfl uo_ | exact RenV.grow (f := Sn.cv) (fun _ => ⟨.val _, .val _, tt⟩) rfl)⟩, ⟨tt, (by first | exact .ptr rfl | exact .map rfl | exact .vec rfl | exact .same rfl uo_ | exact RenV.grow (f := Sn.cv) (fun _ => ⟨.val _, .val _, tt⟩) rfl)⟩, ⟨tt, (by first | exact .ptr rfl | exact .map rfl | exact .vec rfl | exact .same rfl uo_ | exact RenV.grow (f := Sn.cv) (fun _ => ⟨.val _, .val _, tt⟩) rfl)⟩, ⟨tt, (by first | exact .ptr rfl | exact .map rfl | exact .vec rfl | exact .same rfl uo_ | exact RenV.grow (f := Sn.cv) (fun _ => ⟨.val _, .val _, tt⟩) rfl)⟩, ⟨tt, (by first | exact .ptr rfl | exact .map rfl | exact .vec rfl | exact .same rfl uo_ | exact RenV.grow (f := Sn.cv) (fun _ => ⟨.val _, .val _, tt⟩) rfl)⟩, tt⟩):p:=h
theorem q_5 (h:p:=by exact ⟨⟨tt, (by first | exact .ptr rfl | exact .map rfl | exact .vec rfl | exact .same rfl uo_ | exact RenV.grow (f := scv) (fun a => ⟨.val _, tt⟩) rfl)⟩, ⟨tt, (by first | exact .ptr rfl | exact .map rfl | exact .vec rfl | exact .same rfl uo_ | exact RenV.grow (f := scv) (fun a => ⟨.val _, tt⟩) rfl)⟩, ⟨tt, (by first | exact .ptr rfl | exact .map rfl | exact .vec rfl | exact .same rfl uo_ | exact RenV.grow (f := scv) (fun a => ⟨.val _, tt⟩) rfl)⟩, ⟨tt, (by first | exact .ptr rfl | exact .map rfl | exact .vec rfl | exact .same rfl uo_ | exact RenV.grow (f := scv) (fun a => ⟨.val _, tt⟩) rfl)⟩, ⟨tt, (by first | exact .ptr rfl | exact .map rfl | exact .vec rfl | exact .same rfl uo_ | exact RenV.grow (f := scv) (fun a => ⟨.val _, tt⟩) rfl)⟩, tt⟩):p:=h
theorem q_6 (h:p:=by exact ⟨⟨tt, (by first | exact .ptr rfl | exact .map rfl | exact .vec rfl | exact .same rfl uo_ | exact RenV.grow (f := Tok.cv) (fun _ => ⟨.val _, .val _, .val _, .val _, tt⟩) rfl)⟩, ⟨tt, (by first | exact .ptr rfl | exact .map rfl | exact .vec rfl | exact .same rfl uo_ | exact RenV.grow (f := Tok.cv) (fun _ => ⟨.val _, .val _, .val _, .val _, tt⟩) rfl)⟩, ⟨tt, (by first | exact .ptr rfl | exact .map rfl | exact .vec rfl | exact .same rfl uo_ | exact RenV.grow (f := Tok.cv) (fun _ => ⟨.val _, .val _, .val _, .val _, tt⟩) rfl)⟩, ⟨tt, (by first | exact .ptr rfl | exact .map rfl | exact .vec rfl | exact .same rfl uo_ | exact RenV.grow (f := Tok.cv) (fun _ => ⟨.val _, .val _, .val _, .val _, tt⟩) rfl)⟩, tt⟩):p:=h
theorem q_7 (h:p:=by exact ⟨⟨tt, (by first | exact .ptr rfl | exact .map rfl | exact .vec rfl | exact .same rfl uo_)⟩, ⟨tt, (by first | exact .ptr rfl | exact .map rfl | exact .vec rfl | exact .same rfl uo_)⟩, ⟨tt, (by first | exact .ptr rfl | exact .map rfl | exact .vec rfl | exact .same rfl uo_)⟩, ⟨tt, (by first | exact .ptr rfl | exact .map rfl | exact .vec rfl | exact .same rfl uo_)⟩, ⟨tt, (by first | exact .ptr rfl | exact .map rfl | exact .vec rfl | exact .same rfl uo_)⟩, ⟨tt, (by first | exact .ptr rfl | exact .map rfl | exact .vec rfl | exact .same rfl uo_)⟩, ⟨tt, (by first | exact .ptr rfl | exact .map rfl | exact .vec rfl | exact .same rfl uo_)⟩, tt⟩):p:=h
theorem q_8 (h:p:=by exact ⟨⟨tt, (by first | exact .ptr rfl | exact .map rfl | exact .vec rfl | exact .same rfl uo_ | exact RenV.grow (f := scv) (fun _ => ⟨.val _, tt⟩) rfl)⟩, ⟨tt, (by first | exact .ptr rfl | exact .map rfl | exact .vec rfl | exact .same rfl uo_ | exact RenV.grow (f := scv) (fun _ => ⟨.val _, tt⟩) rfl)⟩, ⟨tt, (by first | exact .ptr rfl | exact .map rfl | exact .vec rfl | exact .same rfl uo_ | exact RenV.grow (f := scv) (fun _ => ⟨.val _, tt⟩) rfl)⟩, ⟨tt, (by first | exact .ptr rfl | exact .map rfl | exact .vec rfl | exact .same rfl uo_ | exact RenV.grow (f := scv) (fun _ => ⟨.val _, tt⟩) rfl)⟩, tt⟩):p:=h
theorem q_9 (h:p:=by exact ⟨⟨tt, (by first | exact .ptr rfl | exact .map rfl | exact .vec rfl | exact .same rfl uo_ | exact RenV.grow (f := scv) (fun a => ⟨.val _, tt⟩) rfl)⟩, ⟨tt, (by first | exact .ptr rfl | exact .map rfl | exact .vec rfl | exact .same rfl uo_ | exact RenV.grow (f := scv) (fun a => ⟨.val _, tt⟩) rfl)⟩, ⟨tt, (by first | exact .ptr rfl | exact .map rfl | exact .vec rfl | exact .same rfl uo_ | exact RenV.grow (f := scv) (fun a => ⟨.val _, tt⟩) rfl)⟩, ⟨tt, (by first | exact .ptr rfl | exact .map rfl | exact .vec rfl | exact .same rfl uo_ | exact RenV.grow (f := scv) (fun a => ⟨.val _, tt⟩) rfl)⟩, tt⟩):p:=h
theorem q_10 (h:p:=by exact ⟨⟨tt, (by first | exact .ptr rfl | exact .map rfl | exact .vec rfl | exact .same rfl uo_ | exact .same rfl (old_strs _ ([] : List Str) _))⟩, ⟨tt, (by first | exact .ptr rfl | exact .map rfl | exact .vec rfl | exact .same rfl uo_ | exact .same rfl (old_strs _ ([] : List Str) _))⟩, ⟨tt, (by first | exact .ptr rfl | exact .map rfl | exact .vec rfl | exact .same rfl uo_ | exact .same rfl (old_strs _ ([] : List Str) _))⟩, ⟨tt, (by first | exact .ptr rfl | exact .map rfl | exact .vec rfl | exact .same rfl uo_ | exact .same rfl (old_strs _ ([] : List Str) _))⟩, tt⟩):p:=h
theorem q_11 (h:p:=by exact ⟨⟨tt, (by first | exact .ptr rfl | exact .map rfl | exact .vec rfl | exact .same rfl uo_)⟩, ⟨tt, (by first | exact .ptr rfl | exact .map rfl | exact .vec rfl | exact .same rfl uo_)⟩, ⟨tt, (by first | exact .ptr rfl | exact .map rfl | exact .vec rfl | exact .same rfl uo_)⟩, ⟨tt, (by first | exact .ptr rfl | exact .map rfl | exact .vec rfl | exact .same rfl uo_)⟩, ⟨tt, (by first | exact .ptr rfl | exact .map rfl | exact .vec rfl | exact .same rfl uo_)⟩, ⟨tt, (by first | exact .ptr rfl | exact .map rfl | exact .vec rfl | exact .same rfl uo_)⟩, tt⟩):p:=h
theorem q_12 (h:p:=by exact ⟨⟨tt, (by first | exact .ptr rfl | exact .map rfl | exact .vec rfl | exact .same rfl uo_)⟩, ⟨tt, (by first | exact .ptr rfl | exact .map rfl | exact .vec rfl | exact .same rfl uo_)⟩, ⟨tt, (by first | exact .ptr rfl | exact .map rfl | exact .vec rfl | exact .same rfl uo_)⟩, ⟨tt, (by first | exact .ptr rfl | exact .map rfl | exact .vec rfl | exact .same rfl uo_)⟩, ⟨tt, (by first | exact .ptr rfl | exact .map rfl | exact .vec rfl | exact .same rfl uo_)⟩, tt⟩):p:=h
theorem q_13 (h:p:=by exact ⟨⟨tt, (by first | exact .ptr rfl | exact .map rfl | exact .vec rfl | exact .same rfl uo_ | exact RenV.grow (f := icv) (fun _ => ⟨.val _, tt⟩) rfl)⟩, ⟨tt, (by first | exact .ptr rfl | exact .map rfl | exact .vec rfl | exact .same rfl uo_ | exact RenV.grow (f := icv) (fun _ => ⟨.val _, tt⟩) rfl)⟩, ⟨tt, (by first | exact .ptr rfl | exact .map rfl | exact .vec rfl | exact .same rfl uo_ | exact RenV.grow (f := icv) (fun _ => ⟨.val _, tt⟩) rfl)⟩, tt⟩):p:=h
theorem q_14 (h:p:=by exact ⟨⟨tt, (by first | exact .ptr rfl | exact .map rfl | exact .vec rfl | exact .same rfl uo_ | exact RenV.grow (f := Ky.cv) (fun _ => ⟨.val _, .val _, .val _, tt⟩) rfl | exact ren_lst (f := scv) (fun _ => ⟨.val _, tt⟩) _)⟩, ⟨tt, (by first | exact .ptr rfl | exact .map rfl | exact .vec rfl | exact .same rfl uo_ | exact RenV.grow (f := Ky.cv) (fun _ => ⟨.val _, .val _, .val _, tt⟩) rfl | exact ren_lst (f := scv) (fun _ => ⟨.val _, tt⟩) _)⟩, tt⟩):p:=h
theorem q_15 (h:p:=by exact ⟨⟨tt, (by first | exact .ptr rfl | exact .map rfl | exact .vec rfl | exact .same rfl uo_ | exact RenV.grow (f := En.cells) (fun _ => ⟨.val _, .val _, .val _, .val _, .val _, .val _, tt⟩) rfl)⟩, ⟨tt, (by first | exact .ptr rfl | exact .map rfl | exact .vec rfl | exact .same rfl uo_ | exact RenV.grow (f := En.cells) (fun _ => ⟨.val _, .val _, .val _, .val _, .val _, .val _, tt⟩) rfl)⟩, tt⟩):p:=h
theorem q_16 (h:p:=by exact ⟨⟨tt, (by first | exact .ptr rfl | exact .map rfl | exact .vec rfl | exact .same rfl uo_)⟩, ⟨tt, (by first | exact .ptr rfl | exact .map rfl | exact .vec rfl | exact .same rfl uo_)⟩, ⟨tt, (by first | exact .ptr rfl | exact .map rfl | exact .vec rfl | exact .same rfl uo_)⟩, ⟨tt, (by first | exact .ptr rfl | exact .map rfl | exact .vec rfl | exact .same rfl uo_)⟩, tt⟩):p:=h
theorem q_17 (h:p:=by exact ⟨⟨tt, (by first | exact .ptr rfl | exact .map rfl | exact .vec rfl | exact .same rfl uo_ | exact RenV.grow (f := scv) (fun _ => ⟨.val _, tt⟩) rfl)⟩, ⟨tt, (by first | exact .ptr rfl | exact .map rfl | exact .vec rfl | exact .same rfl uo_ | exact RenV.grow (f := scv) (fun _ => ⟨.val _, tt⟩) rfl)⟩, tt⟩):p:=h
theorem q_18 (h:p:=by exact (src_list rfl (by first | exact rows_len (by intro a; rfl) _ | (intro r hr; simp at hr; done) | (intro r hr; simp at hr; subst hr; rfl) | (intro r hr; exact rows_len (by intro a; rfl) _ r (n_56 (n_63 hr))) | (intro r hr; simp at hr; obtain ⟨a, _, rfl⟩ := hr; rfl)))):p:=h
theorem q_19 (h:p:=by exact ⟨⟨tt, (by first | exact .ptr rfl | exact .map rfl | exact .vec rfl | exact .same rfl uo_)⟩, ⟨tt, (by first | exact .ptr rfl | exact .map rfl | exact .vec rfl | exact .same rfl uo_)⟩, ⟨tt, (by first | exact .ptr rfl | exact .map rfl | exact .vec rfl | exact .same rfl uo_)⟩, tt⟩):p:=h
theorem q_20 (h:p:=by first | exact rows_len (by intro a; rfl) _ | assumption | (intro r hr; exact rows_len (by intro a; rfl) _ r (n_56 (n_63 hr))) | (intro r hr; simp at hr; obtain ⟨a, _, rfl⟩ := hr; rfl)):p:=h
theorem q_21 (h:p:=by exact ⟨do_, do_, do_, by dsimp only; simp only [n_5, n_7, n_11]; omega, by dsimp only; simp only [n_5, n_7, n_11]; omega, do_, do_⟩):p:=h
theorem q_22 (h:p:=by exact (y_lit (([[43], [45], [42], [47], [37], [60], [61, 61]] : List Str).map scv) rfl ⟨rfl, rfl, rfl, rfl, rfl, rfl, rfl, tt⟩ t_1 t_0 t_5 rfl rfl rfl rfl rfl rfl rfl rfl rfl)):p:=h
theorem q_23 (h:p:=by exact (fun hg => y_index rfl hg hg rfl rfl t_4 t_2 (by first | omega | (simp at hg; omega)) (rows_get (f := Ky.cv) (show ([] : List Ky)[_]? = some k by simp at hg)) rfl)):p:=h
theorem q_24 (h:p:=by exact ⟨⟨tt, _, _, _, rfl, rfl, .inr ⟨_, t_119, t_48, nb rfl, rfl⟩⟩, ⟨tt, _, _, _, rfl, rfl, .inl ⟨t_14, rfl⟩⟩, ⟨tt, _, _, _, rfl, rfl, .inl ⟨t_79, rfl⟩⟩, tt⟩):p:=h
theorem q_25 (h:p:=by exact (y_index rfl tt tt rfl rfl t_8 t_3 om_ (rows_get (by rw [show (((m + 1 : Nat) : Int) - 1).toNat = m by omega, hnd.args]; exact rootsL_get hc)) rfl)):p:=h
theorem q_26 (h:p:=by exact ⟨tt, (by first | exact .ptr rfl | exact .map rfl | exact .vec rfl | exact .same rfl uo_ | exact RenV.grow (f := Ky.cv) (fun _ => ⟨.val _, .val _, .val _, tt⟩) rfl)⟩):p:=h
theorem q_27 (h:p:=by exact (y_build' #[(0, 1), (1, 1), (2, 1), (3, 1), (4, 1)] rfl ⟨rfl, tt, tt, tt⟩ t_33 t_67 rfl ⟨_, rfl⟩ (fun w => by kernel_rfl) rfl rfl)):p:=h
theorem q_28 (h:p:=by exact (fun hg => y_index_v rfl hg hg rfl rfl t_4 t_2 rfl (by first | omega | (simp at hg; omega)) (by first | omega | (simp at hg; omega)))):p:=h
theorem q_29 (h:p:=by first | omega | (simp only [len_app, n_7, n_11] at hb ⊢; omega) | (simp only [len_app, n_7, n_11]; omega)):p:=h
theorem q_30 (h:p:=by exact (fun hg => y_index rfl hg hg rfl rfl t_30 t_19 (by first | omega | (simp at hg; omega)) (rows_get (hp (by simp at hg; omega)).1) rfl)):p:=h
theorem q_31 (h:p:=by exact (y_build' #[(0, 1), (1, 1), (2, 1), (3, 1), (4, 1)] rfl ⟨rfl, tt, tt⟩ t_33 t_67 rfl ⟨_, rfl⟩ (fun w => by kernel_rfl) rfl rfl)):p:=h
theorem q_32 (h:p:=by exact (y_lookup_gok (vc := vcE) (l := me) (a := (keyNm x.k x.p x.o)) keyN rfl tt tt rfl rfl t_83 t_27 rfl rfl (lk_dflt En.z rfl _))):p:=h
theorem q_33 (h:p:=by exact (fun hg => y_sindex rfl hg hg rfl rfl t_6 (by first | omega | (simp at hg; omega)) (b := s[e]?.getD 0) (at_get (by simp at hg; omega)))):p:=h
theorem q_34 (h:p:=by exact (hop_y rfl (y_lookup_g (vc := sv) (l := S0) (a := o) keyI rfl tt tt rfl rfl t_12 t_5 rfl rfl (lk_dflt ([] : Str) rfl _)))):p:=h
theorem q_35 (h:p:=by exact (y_build' #[(0, 1), (1, 1), (2, 1), (3, 1)] rfl ⟨rfl, tt, tt⟩ t_45 t_43 rfl ⟨_, rfl⟩ (fun w => by kernel_rfl) rfl rfl)):p:=h
theorem q_36 (h:p:=by exact (y_lookup_gok (vc := vcE) (l := me) (a := (keyNm k p o)) keyN rfl tt tt rfl rfl t_83 t_27 rfl rfl (lk_dflt En.z rfl _))):p:=h
theorem q_37 (h:p:=by exact ⟨tt, (by first | exact .ptr rfl | exact .map rfl | exact .vec rfl | exact .same rfl uo_ | exact RenV.grow (f := scv) (fun _ => ⟨.val _, tt⟩) rfl)⟩):p:=h
theorem q_38 (h:p:=by exact ⟨tt, (by first | exact .ptr rfl | exact .map rfl | exact .vec rfl | exact .same rfl uo_ | exact RenV.grow (f := bcv) (fun a => ⟨.val _, tt⟩) rfl)⟩):p:=h
theorem q_39 (h:p:=by exact ⟨⟨tt, _, _, _, rfl, rfl, .inr ⟨_, t_72, t_21, nb rfl, rfl⟩⟩, ⟨tt, (by conv => lhs; whnf)⟩, ⟨tt, (by conv => lhs; whnf)⟩, tt⟩):p:=h
theorem q_40 (h:p:=by exact (y_build' #[(0, 1), (1, 1), (2, 1)] rfl ⟨tt, tt, tt, tt⟩ t_122 t_123 rfl ⟨_, rfl⟩ (fun w => by kernel_rfl) rfl rfl)):p:=h
theorem q_41 (h:p:=by exact (y_build' #[(0, 1), (1, 1), (2, 1)] rfl ⟨rfl, tt, tt, tt⟩ t_62 t_7 rfl ⟨_, rfl⟩ (fun w => by kernel_rfl) rfl rfl)):p:=h
theorem q_42 (h:p:=by exact (hop_y rfl (y_build' #[(0, 1), (1, 1)] rfl ⟨tt, tt, tt⟩ t_51 t_25 rfl ⟨_, rfl⟩ (fun w => by kernel_rfl) rfl rfl))):p:=h
theorem q_43 (h:p:=by exact (hop_y rfl (y_build' #[(0, 1), (1, 1), (2, 1)] rfl tt t_29 t_32 rfl ⟨_, rfl⟩ (fun w => by kernel_rfl) rfl rfl))):p:=h
theorem q_44 (h:p:=by exact (y_lookup_gok (vc := vcS) (l := ms) (a := y.p) keyS rfl tt tt rfl rfl t_85 t_32 rfl rfl (lk_dflt Src.z rfl _))):p:=h
theorem q_45 (h:p:=by exact ⟨tt, (by first | exact .ptr rfl | exact .map rfl | exact .vec rfl | exact .same rfl uo_ | exact .same rfl (old_strs _ ([] : List Str) _))⟩):p:=h
theorem q_46 (h:p:=by exact (y_build' #[(0, 1), (1, 1), (2, 1)] rfl ⟨rfl, tt, tt⟩ t_62 t_7 rfl ⟨_, rfl⟩ (fun w => by kernel_rfl) rfl rfl)):p:=h
theorem q_47 (h:p:=by exact ⟨tt, (by first | exact .ptr rfl | exact .map rfl | exact .vec rfl | exact .same rfl uo_ | exact .same rfl (old_keys _ ([] : List Ky) _))⟩):p:=h
theorem q_48 (h:p:=by exact (y_build' #[(0, 1), (1, 1), (2, 1), (3, 1)] rfl tt t_45 t_43 rfl ⟨_, rfl⟩ (fun w => by kernel_rfl) rfl rfl)):p:=h
theorem q_49 (h:p:=by exact (y_lookup_g (vc := kv) (l := m) (a := (b.toNat : Int)) key8 rfl tt tt rfl rfl t_91 t_11 rfl rfl (lk_int _ _))):p:=h
theorem q_50 (h:p:=by exact (y_lit (madeDat.map scv) rfl ⟨rfl, rfl, rfl, tt⟩ t_1 t_0 t_5 rfl rfl rfl rfl rfl rfl rfl rfl rfl)):p:=h
theorem q_51 (h:p:=by exact ⟨tt, (by first | exact .ptr rfl | exact .map rfl | exact .vec rfl | exact .same rfl uo_ | exact .same rfl (old_bytes _ ([] : Str) _))⟩):p:=h
theorem q_52 (h:p:=by exact .ret (.tups ⟨.old (c := .agg ((⟨[], [], []⟩ : Src)).cells) (pure_agg (Src.pure _)).old, .old (.val _), .old (.val _), tt⟩)):p:=h
theorem q_53 (h:p:=by exact (y_build' #[(0, 1), (1, 1)] rfl ⟨rfl, rfl, tt⟩ t_51 t_25 rfl ⟨_, rfl⟩ (fun w => by kernel_rfl) rfl rfl)):p:=h
theorem q_54 (h:p:=by exact (y_build' #[(0, 1), (1, 1), (2, 1)] rfl tt t_62 t_7 rfl ⟨_, rfl⟩ (fun w => by kernel_rfl) rfl rfl)):p:=h
theorem q_55 (h:p:=by first | exact old_km _ _ | exact old_ints _ _ _ | exact old_toks _ _ _ | exact old_strs _ _ _ | exact old_bytes _ _ _):p:=h
theorem q_56 (h:p:=by exact (fun hg => y_load_e rfl hg rfl t_31 t_2 rfl (vget (rows_get (hb (by simp at hg; omega))) om_) (nb rfl))):p:=h
theorem q_57 (h:p:=by exact (y_lit [Ky.cv zK] rfl ⟨tt, tt⟩ t_4 t_2 t_7 rfl rfl rfl rfl rfl rfl rfl rfl rfl)):p:=h
theorem q_58 (h:p:=by exact (y_index rfl tt tt rfl rfl t_44 t_36 om_ (rows_get (by rw [hmi, hbody]; exact hdp2.he)) rfl)):p:=h
theorem q_59 (h:p:=by exact (fun hg => y_load1 rfl hg rfl t_9 (by first | exact get_len _ _ | exact get_app hq _ | exact get_app hs _) rfl)):p:=h
theorem q_60 (h:p:=by exact (y_lit [Fi.cv y] rfl ⟨tt, tt⟩ t_30 t_19 t_25 rfl rfl rfl rfl rfl rfl rfl rfl rfl)):p:=h
theorem q_61 (h:p:=by exact (fun hg => y_sub rfl hg rfl rfl rfl (by first | omega | (simp at hg; omega)) (by first | omega | (simp at hg; omega)))):p:=h
theorem q_62 (h:p:=by exact (y_lit [Fi.cv f] rfl ⟨tt, tt⟩ t_30 t_19 t_25 rfl rfl rfl rfl rfl rfl rfl rfl rfl)):p:=h
theorem q_63 (h:p:=by exact (y_build' #[(0, 1)] rfl ⟨tt, tt⟩ t_159 t_41 rfl ⟨_, rfl⟩ (fun w => by kernel_rfl) rfl rfl)):p:=h
theorem q_64 (h:p:=by exact ⟨by show List.length _ <= _; simp only [n_5, n_7, n_11]; omega, rfl⟩):p:=h
theorem q_65 (h:p:=by exact .inl ⟨n + 1, fin_st rfl (.tup fun i c h => by simp at h), by rw [pIs, if_pos hb], hW n hn (isT_ne hb de_)⟩):p:=h
theorem q_66 (h:p:=by exact (y_lit [bcv c] rfl ⟨tt, tt⟩ t_10 t_15 t_23 rfl rfl rfl rfl rfl rfl rfl rfl rfl)):p:=h
theorem q_67 (h:p:=by exact (hop_y rfl (y_scat rfl tt rfl rfl rfl (by show ([32] ++ sgn o : Str).length + 1 <= _; rw [len_app]; simp; omega)))):p:=h
theorem q_68 (h:p:=by exact (y_scat rfl tt rfl rfl rfl (by first | omega | (simp only [len_app, n_7, n_11]; omega)))):p:=h
theorem q_69 (h:p:=by exact (y_build' #[(0, 1)] rfl tt t_120 Tryz.zeroValue25 rfl ⟨_, rfl⟩ (fun w => by kernel_rfl) rfl rfl)):p:=h
theorem q_70 (h:p:=by rw [eT]; simp only [<- n_8 b]; exact fin_b (k := 6) rfl rfl de_ (pure_WR _ _ _ _ _) old_tup0):p:=h
theorem q_71 (h:p:=by rw [eT]; simp only [<- n_8 b]; exact fin_b (k := 5) rfl rfl de_ (pure_WR _ _ _ _ _) old_tup0):p:=h
theorem q_72 (h:p:=by exact (y_load1 rfl tt rfl t_14 (by first | exact get_len _ _ | exact get_app hq _ | exact get_app hs _) rfl)):p:=h
theorem q_73 (h:p:=by show List.length _ <= _; simp only [n_5, n_7, n_11]; omega):p:=h
theorem q_74 (h:p:=by exact .inl ⟨(i, m, b2), fin_gr rfl rfl (nb rfl) (.val _), by rw [hsp]; exact g1, do_, g3, g4⟩):p:=h
theorem q_75 (h:p:=by exact (y_index rfl tt rfl rfl rfl t_8 t_3 om_ (rows_get (rootsL_get g0)) rfl)):p:=h
theorem q_76 (h:p:=by first | omega | (simp at hk hg; omega) | (change (_ : Bool) = _ at hk; simp at hk hg; omega)):p:=h
theorem q_77 (h:p:=by exact (y_callf rfl t_86 ⟨tt, tt⟩ (so_named_s d.name (by have := nameB_len hnm.1; omega) _) rfl)):p:=h
theorem q_78 (h:p:=by have hb : Tryz.t39.bytes = 40 := rfl; rw [hb]; first | omega | (simp; done) | (simp; omega)):p:=h
theorem q_79 (h:p:=by have hb : Tryz.t54.bytes = 32 := rfl; rw [hb]; first | omega | (simp; done) | (simp; omega)):p:=h
theorem q_80 (h:p:=by exact ⟨tt, _, _, rfl, by first | omega | (simp at hg; omega), by first | omega | (simp at hg; omega)⟩):p:=h
theorem q_81 (h:p:=by have hb : Tryz.t9.bytes = 16 := rfl; rw [hb]; first | omega | (simp; done) | (simp; omega)):p:=h
theorem q_82 (h:p:=by exact (y_callf rfl t_76 ⟨tt, tt⟩ (so_token hT hn ⟨rfl, rfl, n_2 rfl⟩) rfl)):p:=h
theorem q_83 (h:p:=by exact (y_scat rfl tt rfl rfl rfl (by simp only [len_app, n_7, n_11]; omega))):p:=h
theorem q_84 (h:p:=by exact (y_scat rfl rfl tt rfl rfl (by simp only [len_app, n_7, n_11]; omega))):p:=h
theorem q_85 (h:p:=by exact ⟨⟨tt, (by conv => lhs; whnf)⟩, ⟨tt, (by conv => lhs; whnf)⟩, ⟨tt, (by conv => lhs; whnf)⟩, tt⟩):p:=h
theorem q_86 (h:p:=by exact (y_load_e1 rfl tt rfl t_14 rfl (by rw [hmi]; simpa using rows_get (f := icv) hv) rfl)):p:=h
theorem q_87 (h:p:=by exact (y_callf rfl Tryz.call106 ⟨tt, tt, tt⟩ (fa_declared (wat_app hσ _) _ (hok.find _ _ _)) rfl)):p:=h
theorem q_88 (h:p:=by exact ⟨tt, (by first | exact .ptr rfl | exact .map rfl | exact .vec rfl | exact .same rfl uo_)⟩):p:=h
theorem q_89 (h:p:=by exact hop_y rfl (y_field rfl tt rfl t_58 rfl t_160 de_)):p:=h
theorem q_90 (h:p:=by exact (y_index rfl tt tt rfl rfl t_37 t_24 om_ (rows_get hd) rfl)):p:=h
theorem q_91 (h:p:=by exact (y_index rfl tt tt rfl rfl t_121 t_80 om_ (rows_get hb) rfl)):p:=h
theorem q_92 (h:p:=by exact (y_index rfl tt tt rfl rfl t_30 t_19 om_ (rows_get hb) rfl)):p:=h
theorem q_93 (h:p:=by exact hop_y rfl (y_field rfl tt rfl t_51 rfl t_0 de_)):p:=h
theorem q_94 (h:p:=by exact (y_index rfl tt tt rfl rfl t_1 t_0 om_ (rows_get hb) rfl)):p:=h
theorem q_95 (h:p:=by exact .inl ⟨(i6, n5, b6), fin_gr rfl rfl (nb rfl) (.val _), hsp, do_, kn5, y6⟩):p:=h
theorem q_96 (h:p:=by exact (y_index rfl tt tt rfl rfl t_1 t_0 om_ (rows_get hy) rfl)):p:=h
theorem q_97 (h:p:=by exact hop_y rfl (y_load rfl tt rfl t_72 t_21 rfl (nb rfl))):p:=h
theorem q_98 (h:p:=by exact (y_len rfl tt rfl t_44 (by first | exact len_map _ _ | rfl) rfl)):p:=h
theorem q_99 (h:p:=by exact (y_len rfl tt rfl t_10 (by first | exact len_map _ _ | rfl) rfl)):p:=h
theorem q_100 (h:p:=by exact hop_y rfl (y_load rfl tt rfl t_112 t_42 rfl (nb rfl))):p:=h
theorem q_101 (h:p:=by exact (y_len rfl tt rfl t_1 (by first | exact len_map _ _ | rfl) rfl)):p:=h
theorem q_102 (h:p:=by exact (y_len rfl tt rfl t_30 (by first | exact len_map _ _ | rfl) rfl)):p:=h
theorem q_103 (h:p:=by exact (y_len rfl tt rfl t_4 (by first | exact len_map _ _ | rfl) rfl)):p:=h
theorem q_104 (h:p:=by exact (y_len rfl tt rfl t_8 (by first | exact len_map _ _ | rfl) rfl)):p:=h
theorem q_105 (h:p:=by exact (y_len rfl tt rfl t_37 (by first | exact len_map _ _ | rfl) rfl)):p:=h
theorem q_106 (h:p:=by exact (y_len rfl tt rfl t_121 (by first | exact len_map _ _ | rfl) rfl)):p:=h
theorem q_107 (h:p:=by exact (y_b2s rfl tt rfl t_10 t_6 t_52)):p:=h
theorem q_108 (h:p:=by exact hop_y rfl (y_load rfl tt rfl t_88 t_89 rfl (nb rfl))):p:=h
theorem q_109 (h:p:=by exact ⟨tt, _, _, _, rfl, rfl, .inr ⟨_, t_72, t_21, nb rfl, rfl⟩⟩):p:=h
theorem q_110 (h:p:=by exact (hop_y rfl (y_field rfl tt rfl t_58 rfl t_160 de_))):p:=h
theorem q_111 (h:p:=by exact (y_index_v rfl tt tt rfl rfl t_4 t_2 rfl om_ om_)):p:=h
theorem q_112 (h:p:=by exact ⟨tt, _, _, _, rfl, rfl, .inr ⟨_, t_112, t_42, nb rfl, rfl⟩⟩):p:=h
theorem q_113 (h:p:=by exact (y_index_v rfl tt tt rfl rfl t_8 t_3 rfl om_ om_)):p:=h
theorem q_114 (h:p:=by exact ⟨tt, _, _, _, rfl, rfl, .inr ⟨_, t_125, t_38, nb rfl, rfl⟩⟩):p:=h
theorem q_115 (h:p:=by simp only [len_app, n_7, n_11] at hbm ⊢; omega):p:=h
theorem q_116 (h:p:=by exact (hop_y rfl (y_field rfl tt rfl t_29 rfl t_96 de_))):p:=h
theorem q_117 (h:p:=by rw [eT]; exact fin_b (k := 3) rfl rfl de_ (pure_WR _ _ _ _ _) old_tup0):p:=h
theorem q_118 (h:p:=by exact (hop_y rfl (y_field rfl tt rfl t_51 rfl t_0 de_))):p:=h
theorem q_119 (h:p:=by exact (hop_y rfl (y_scat rfl tt rfl rfl rfl (by first | omega | (simp; omega))))):p:=h
theorem q_120 (h:p:=by exact (fun hg => y_field rfl tt rfl t_33 rfl t_3 de_)):p:=h
theorem q_121 (h:p:=by exact (hop_y rfl (y_scat rfl tt tt rfl rfl (by first | omega | (simp; omega))))):p:=h
theorem q_122 (h:p:=by exact (fun hg => y_field rfl tt rfl t_45 rfl t_0 de_)):p:=h
theorem q_123 (h:p:=by exact (fun hg => y_field rfl tt rfl t_33 rfl t_0 de_)):p:=h
theorem q_124 (h:p:=by exact (y_callf rfl t_76 ⟨tt, tt⟩ (so_token hT hn ⟨rfl, rfl, de_⟩) rfl)):p:=h
theorem q_125 (h:p:=by exact (fun hg => y_field rfl tt rfl t_62 rfl t_0 de_)):p:=h
theorem q_126 (h:p:=by exact (fun hg => y_field rfl tt rfl t_51 rfl t_0 de_)):p:=h
theorem q_127 (h:p:=by exact (hop_y rfl (y_load rfl tt rfl t_112 t_42 rfl (nb rfl)))):p:=h
theorem q_128 (h:p:=by exact (hop_y rfl (y_load rfl tt rfl t_88 t_89 rfl (nb rfl)))):p:=h
theorem q_129 (h:p:=by exact (fun hg => y_load rfl tt rfl t_31 t_2 rfl (nb rfl))):p:=h
theorem q_130 (h:p:=by exact (hop_y rfl (y_callf rfl Tryz.call69 trivial (mk_Packages_s _) rfl))):p:=h
theorem q_131 (h:p:=by exact (fun hg => y_load_c rfl hg rfl t_31 t_2 (nb rfl))):p:=h
theorem q_132 (h:p:=by simp only [len_app, n_7, n_11]; omega):p:=h
theorem q_133 (h:p:=by exact (y_field rfl tt rfl t_58 rfl t_160 de_)):p:=h
theorem q_134 (h:p:=by exact (y_field rfl tt rfl Tryz.runUnderlying244 rfl t_136 de_)):p:=h
theorem q_135 (h:p:=by exact (y_field rfl tt rfl t_46 rfl t_54 de_)):p:=h
theorem q_136 (h:p:=by exact (y_field rfl tt rfl t_56 rfl Tryz.sizeOf110 de_)):p:=h
theorem q_137 (h:p:=by exact (y_field rfl tt rfl Tryz.runUnderlying244 rfl Tryz.sizeOf242 de_)):p:=h
theorem q_138 (h:p:=by exact (y_field rfl tt rfl t_66 rfl t_54 de_)):p:=h
theorem q_139 (h:p:=by exact (y_field rfl tt rfl t_56 rfl Tryz.sizeOf109 de_)):p:=h
theorem q_140 (h:p:=by exact ⟨⟨tt, (by conv => lhs; whnf)⟩, ⟨tt, (by conv => lhs; whnf)⟩, tt⟩):p:=h
theorem q_141 (h:p:=by exact (y_field rfl tt rfl t_33 rfl t_77 de_)):p:=h
theorem q_142 (h:p:=by exact (y_field rfl tt rfl t_46 rfl t_22 de_)):p:=h
theorem q_143 (h:p:=by exact (y_fieldv1 rfl tt rfl t_45 rfl t_9 rfl)):p:=h
theorem q_144 (h:p:=by exact (y_field rfl tt rfl t_65 rfl t_97 de_)):p:=h
theorem q_145 (h:p:=by exact (y_field rfl tt rfl t_56 rfl t_42 de_)):p:=h
theorem q_146 (h:p:=by exact (y_field rfl tt rfl t_159 rfl t_161 de_)):p:=h
theorem q_147 (h:p:=by exact (y_field rfl tt rfl t_66 rfl t_3 de_)):p:=h
theorem q_148 (h:p:=by exact (y_field rfl tt rfl t_45 rfl t_0 de_)):p:=h
theorem q_149 (h:p:=by exact (y_field rfl tt rfl t_33 rfl t_3 de_)):p:=h
theorem q_150 (h:p:=by exact (y_field rfl tt rfl t_45 rfl t_3 de_)):p:=h
theorem q_151 (h:p:=by exact (y_field rfl tt rfl t_29 rfl t_96 de_)):p:=h
theorem q_152 (h:p:=by exact (y_field rfl tt rfl t_29 rfl t_22 de_)):p:=h
theorem q_153 (h:p:=by exact (y_field rfl tt rfl t_46 rfl t_0 de_)):p:=h
theorem q_154 (h:p:=by exact (y_field rfl tt rfl t_46 rfl t_3 de_)):p:=h
theorem q_155 (h:p:=by exact (y_field rfl tt rfl t_58 rfl t_3 de_)):p:=h
theorem q_156 (h:p:=by exact (y_field rfl tt rfl t_120 rfl Tryz.sizeOf23 de_)):p:=h
theorem q_157 (h:p:=by exact (y_field rfl tt rfl t_33 rfl t_0 de_)):p:=h
theorem q_158 (h:p:=by exact (y_callf rfl Tryz.call100 ⟨tt, tt⟩ (rv_Check_s fl nn hl _) rfl)):p:=h
theorem q_159 (h:p:=by exact (y_field rfl tt rfl t_81 rfl t_0 de_)):p:=h
theorem q_160 (h:p:=by exact (y_field rfl tt rfl t_56 rfl t_105 de_)):p:=h
theorem q_161 (h:p:=by exact (y_field rfl tt rfl t_51 rfl t_0 de_)):p:=h
theorem q_162 (h:p:=by exact (y_scat rfl tt rfl rfl rfl (by first | omega | (simp; omega)))):p:=h
theorem q_163 (h:p:=by exact (y_field rfl tt rfl t_62 rfl t_0 de_)):p:=h
theorem q_164 (h:p:=by exact (y_scat rfl rfl tt rfl rfl (by first | omega | (simp; omega)))):p:=h
theorem q_165 (h:p:=by exact (y_field rfl tt rfl t_62 rfl t_3 de_)):p:=h
theorem q_166 (h:p:=by exact (y_field rfl tt rfl t_84 rfl t_0 de_)):p:=h
theorem q_167 (h:p:=by exact (y_field rfl tt rfl t_158 rfl t_3 de_)):p:=h
theorem q_168 (h:p:=by exact (y_field rfl tt rfl t_29 rfl t_0 de_)):p:=h
theorem q_169 (h:p:=by exact (y_field rfl tt rfl t_84 rfl t_3 de_)):p:=h
theorem q_170 (h:p:=by exact (old_box ⟨.val _, .val _, .val _, .val _, old_ints _ _ _, tt⟩)):p:=h
theorem q_171 (h:p:=by cases ph <;> exact ⟨rfl, rfl, n_2 rfl⟩):p:=h
theorem q_172 (h:p:=by exact hop_y rfl (y_load1 rfl tt rfl t_79 rfl rfl)):p:=h
theorem q_173 (h:p:=by exact (y_load rfl tt rfl t_72 t_21 rfl (nb rfl))):p:=h
theorem q_174 (h:p:=by exact (y_scat rfl tt tt rfl rfl (by first | omega | (simp; omega)))):p:=h
theorem q_175 (h:p:=by exact hop_y rfl (y_load1 rfl tt rfl t_9 rfl rfl)):p:=h
theorem q_176 (h:p:=by exact (y_load rfl tt rfl Tryz.isAgg212 t_36 rfl (nb rfl))):p:=h
theorem q_177 (h:p:=by exact (y_load rfl tt rfl t_124 t_82 rfl (nb rfl))):p:=h
theorem q_178 (h:p:=by exact hop_y rfl (y_load1 rfl tt rfl t_14 rfl rfl)):p:=h
theorem q_179 (h:p:=by exact (y_load rfl tt rfl t_126 t_39 rfl (nb rfl))):p:=h
theorem q_180 (h:p:=by exact (y_callf rfl t_63 ⟨tt, tt⟩ (lx_Name_s x.a om_ _) rfl)):p:=h
theorem q_181 (h:p:=by exact (y_callf rfl t_152 ⟨tt, tt⟩ (mk_Digits_s m om_ _) rfl)):p:=h
theorem q_182 (h:p:=by first | exact rows_len (by intro a; rfl) _ | assumption):p:=h
theorem q_183 (h:p:=by exact (y_load rfl tt rfl t_112 t_42 rfl (nb rfl))):p:=h
theorem q_184 (h:p:=by exact hop_y rfl (y_move rfl tt (by conv => lhs; whnf))):p:=h
theorem q_185 (h:p:=by exact (y_load rfl tt rfl t_88 t_89 rfl (nb rfl))):p:=h
theorem q_186 (h:p:=by exact (y_load rfl tt rfl t_31 t_2 rfl (nb rfl))):p:=h
theorem q_187 (h:p:=by exact (y_load_c rfl tt rfl t_95 t_24 (nb rfl))):p:=h
theorem q_188 (h:p:=by exact (y_load rfl tt rfl t_119 t_48 rfl (nb rfl))):p:=h
theorem q_189 (h:p:=by exact (y_load rfl tt rfl Tryz.isAgg54 t_19 rfl (nb rfl))):p:=h
theorem q_190 (h:p:=by exact (y_load rfl tt rfl t_125 t_38 rfl (nb rfl))):p:=h
theorem q_191 (h:p:=by exact (y_load_c rfl tt rfl Tryz.isAgg212 t_36 (nb rfl))):p:=h
theorem q_192 (h:p:=by exact (y_load_c rfl tt rfl Tryz.isAgg129 t_80 (nb rfl))):p:=h
theorem q_193 (h:p:=by exact (y_load_c rfl tt rfl Tryz.isAgg54 t_19 (nb rfl))):p:=h
theorem q_194 (h:p:=by exact (y_load_c rfl tt rfl t_31 t_2 (nb rfl))):p:=h
theorem q_195 (h:p:=by exact (y_callf rfl Tryz.call29 trivial (mk_Functions_s _) rfl)):p:=h
theorem q_196 (h:p:=by exact (old_box ⟨.val _, old_strs _ [] _, old_des _ [] _, tt⟩)):p:=h
theorem q_197 (h:p:=by exact (y_pick_and rfl tt rfl (fun hp => hp) (fun _ => rfl))):p:=h
theorem q_198 (h:p:=by exact (old_box ⟨.val _, old_strs _ _ _, old_des _ _ _, tt⟩)):p:=h
theorem q_199 (h:p:=by exact (hop_y rfl (y_load1 rfl tt rfl t_154 rfl rfl))):p:=h
theorem q_200 (h:p:=by exact (y_pick_or rfl tt rfl (fun hp => hp) (fun _ => rfl))):p:=h
theorem q_201 (h:p:=by exact (hop_y rfl (y_assign rfl tt (by conv => lhs; whnf)))):p:=h
theorem q_202 (h:p:=by exact (hop_y rfl (y_load1 rfl tt rfl t_9 rfl rfl))):p:=h
theorem q_203 (h:p:=by exact (hop_y rfl (y_load1 rfl tt rfl t_14 rfl rfl))):p:=h
theorem q_204 (h:p:=by exact (fun hg => y_scmp rfl hg rfl rfl rfl (cstr_eql _ _))):p:=h
theorem q_205 (h:p:=by exact (y_callf rfl Tryz.call83 trivial (mk_Paths_s _) rfl)):p:=h
theorem q_206 (h:p:=by exact (fun hg => y_scmp rfl hg hg rfl rfl (cstr_eql _ _))):p:=h
theorem q_207 (h:p:=by exact (y_len_vec rfl tt rfl t_4 rfl rfl)):p:=h
theorem q_208 (h:p:=by exact (hop_y rfl (y_move rfl tt (by conv => lhs; whnf)))):p:=h
theorem q_209 (h:p:=by exact (fun hg => y_load1 rfl hg rfl t_9 rfl rfl)):p:=h
theorem q_210 (h:p:=by exact (fun hg => y_load1 rfl hg rfl t_14 rfl rfl)):p:=h
theorem q_211 (h:p:=by rw [n_17, n_43]; omega):p:=h
theorem q_212 (h:p:=by first | omega | (simp; done) | (simp; omega)):p:=h
theorem q_213 (h:p:=by exact (fun hg => y_slen rfl hg rfl t_6)):p:=h
theorem q_214 (h:p:=by exact (fun hg => y_move rfl tt (by conv => lhs; whnf))):p:=h
theorem q_215 (h:p:=by exact hop_y rfl (y_extract rfl tt rfl rfl)):p:=h
theorem q_216 (h:p:=by rw [List.length_erase_of_mem hiu, hu]; rfl):p:=h
theorem q_217 (h:p:=by rw [es]; simp only [n_8]):p:=h
theorem q_218 (h:p:=by simp [ho, Op.operands, Call.operands]):p:=h
theorem q_219 (h:p:=by exact (y_scmp rfl tt rfl rfl rfl (cstr_eql _ _))):p:=h
theorem q_220 (h:p:=by exact (y_load1 rfl tt rfl Tryz.isAgg117 rfl rfl)):p:=h
theorem q_221 (h:p:=by exact (y_load1 rfl tt rfl Tryz.isAgg149 rfl rfl)):p:=h
theorem q_222 (h:p:=by exact (old_box ⟨old_fis _ ([] : List Fi) _, tt⟩)):p:=h
theorem q_223 (h:p:=by exact (y_load1 rfl tt rfl Tryz.isAgg110 rfl rfl)):p:=h
theorem q_224 (h:p:=by exact (y_load1 rfl tt rfl Tryz.isAgg109 rfl rfl)):p:=h
theorem q_225 (h:p:=by exact (y_load1 rfl tt rfl Tryz.isAgg242 rfl rfl)):p:=h
theorem q_226 (h:p:=by exact (y_assign rfl rfl (by conv => lhs; whnf))):p:=h
theorem q_227 (h:p:=by first | omega | (simp; omega) | simp):p:=h
theorem q_228 (h:p:=by exact (y_load1 rfl tt rfl t_108 rfl rfl)):p:=h
theorem q_229 (h:p:=by exact (y_load1 rfl tt rfl Tryz.isAgg30 rfl rfl)):p:=h
theorem q_230 (h:p:=by exact (y_load1 rfl tt rfl t_154 rfl rfl)):p:=h
theorem q_231 (h:p:=by exact (y_load1 rfl tt rfl t_99 rfl rfl)):p:=h
theorem q_232 (h:p:=by exact (y_scmp rfl tt tt rfl rfl (cstr_eql _ _))):p:=h
theorem q_233 (h:p:=by exact (y_load1 rfl tt rfl Tryz.isAgg65 rfl rfl)):p:=h
theorem q_234 (h:p:=by exact (y_scmp rfl tt tt rfl rfl (cstr_neq _ _))):p:=h
theorem q_235 (h:p:=by exact (y_load1 rfl tt rfl Tryz.isAgg36 rfl rfl)):p:=h
theorem q_236 (h:p:=by exact (y_load1 rfl tt rfl Tryz.isAgg23 rfl rfl)):p:=h
theorem q_237 (h:p:=by exact (y_assign rfl tt (by conv => lhs; whnf))):p:=h
theorem q_238 (h:p:=by exact (y_load1 rfl tt rfl t_9 rfl rfl)):p:=h
theorem q_239 (h:p:=by exact (y_load1 rfl tt rfl t_14 rfl rfl)):p:=h
theorem q_240 (h:p:=by exact (fun hg => y_int rfl hg rfl rfl rfl rfl)):p:=h
theorem q_241 (h:p:=by first | omega | (simp at hg; omega)):p:=h
theorem q_242 (h:p:=by exact (y_move rfl rfl (by conv => lhs; whnf))):p:=h
theorem q_243 (h:p:=by exact (y_slen rfl tt rfl t_6)):p:=h
theorem q_244 (h:p:=by exact hop_y rfl (y_nil rfl tt rfl)):p:=h
theorem q_245 (h:p:=by exact (fun hg => y_int rfl hg hg rfl rfl rfl)):p:=h
theorem q_246 (h:p:=by exact (y_load1 rfl tt rfl t_14 hk rfl)):p:=h
theorem q_247 (h:p:=by exact (y_move rfl tt (by conv => lhs; whnf))):p:=h
theorem q_248 (h:p:=by exact (y_load_c1 rfl tt rfl t_9 rfl)):p:=h
theorem q_249 (h:p:=by exact (y_load_c1 rfl tt rfl t_14 rfl)):p:=h
theorem q_250 (h:p:=by exact (hop_y rfl (y_extract rfl tt rfl rfl))):p:=h
theorem q_251 (h:p:=by first | exact len_map _ _ | rfl):p:=h
theorem q_252 (h:p:=by exact (y_add rfl tt rfl rfl rfl om_ om_)):p:=h
theorem q_253 (h:p:=by first | omega | (simp; omega)):p:=h
theorem q_254 (h:p:=by exact (y_sub rfl tt rfl rfl rfl om_ om_)):p:=h
theorem q_255 (h:p:=by exact (y_add rfl tt tt rfl rfl om_ om_)):p:=h
theorem q_256 (h:p:=by exact (y_int rfl tt rfl rfl rfl rfl)):p:=h
theorem q_257 (h:p:=by exact (hop_y rfl (y_nil rfl tt rfl))):p:=h
theorem q_258 (h:p:=by simp [Plan.add, <- hr.len]):p:=h
theorem q_259 (h:p:=by exact (old_box ⟨.val _, .val _, tt⟩)):p:=h
theorem q_260 (h:p:=by exact (old_box ⟨old_strs _ _ _, tt⟩)):p:=h
theorem q_261 (h:p:=by exact (y_int rfl tt tt rfl rfl rfl)):p:=h
theorem q_262 (h:p:=by exact (old_box ⟨old_fis _ _ _, tt⟩)):p:=h
theorem q_263 (h:p:=by exact (old_keys _ ([] : List Ky) _)):p:=h
theorem q_264 (h:p:=by exact (old_box ⟨old_vas _ _ _, tt⟩)):p:=h
theorem q_265 (h:p:=by rw [hw]; simpa using hbw):p:=h
theorem q_266 (h:p:=by simp [Region.wanted, hg]):p:=h
theorem q_267 (h:p:=by exact (fun hg => y_not rfl hg rfl)):p:=h
theorem q_268 (h:p:=by simp [ho, Op.operands]):p:=h
theorem q_269 (h:p:=by exact (y_extract rfl tt rfl rfl)):p:=h
theorem q_270 (h:p:=by exact ⟨tt, _, _, rfl, om_, om_⟩):p:=h
theorem q_271 (h:p:=by first | omega | simp):p:=h
theorem q_272 (h:p:=by conv => lhs; whnf):p:=h
theorem q_273 (h:p:=by exact (old_wbx de_ de_ de_)):p:=h
theorem q_274 (h:p:=by cases ph <;> rfl):p:=h
theorem q_275 (h:p:=by exact ⟨tt, tt, tt, tt, tt⟩):p:=h
theorem q_276 (h:p:=by exact (fun _ _ => nb rfl)):p:=h
theorem q_277 (h:p:=by simpa using hi):p:=h
theorem q_278 (h:p:=by simpa using h2):p:=h
theorem q_279 (h:p:=by simpa using h1):p:=h
theorem q_280 (h:p:=by simpa using hk):p:=h
theorem q_281 (h:p:=by simpa using hj):p:=h
theorem q_282 (h:p:=by exact (y_nil rfl tt rfl)):p:=h
theorem q_283 (h:p:=by exact (old_tape _ _ _ _)):p:=h
theorem q_284 (h:p:=by exact (y_not rfl tt rfl)):p:=h
theorem q_285 (h:p:=by simpa using h):p:=h
theorem q_286 (h:p:=by exact ⟨tt, rfl, rfl, tt⟩):p:=h
theorem q_287 (h:p:=by exact (old_pbx (nb rfl))):p:=h
theorem q_288 (h:p:=by exact ⟨tt, tt, tt, tt⟩):p:=h
theorem q_289 (h:p:=by simp; omega):p:=h
theorem q_290 (h:p:=by exact (.inr ⟨_, rfl⟩)):p:=h
theorem q_291 (h:p:=by kernel_rfl):p:=h
theorem q_292 (h:p:=by exact (fun _ => rfl)):p:=h
theorem q_293 (h:p:=by exact (old_gobj _ _)):p:=h
theorem q_294 (h:p:=by exact ⟨tt, rfl, tt⟩):p:=h
theorem q_295 (h:p:=by exact (old_smO _ _)):p:=h
theorem q_296 (h:p:=by exact (old_emO _ _)):p:=h
theorem q_297 (h:p:=by exact ⟨tt, tt, tt⟩):p:=h
theorem q_298 (h:p:=by exact ⟨tt, rfl⟩):p:=h
theorem uo_ (h:p:=by first|exact .val _|exact .ptr (nb rfl)|exact .map (nb rfl)|exact old_strs _ _ _|exact old_fis _ _ _|exact old_des _ _ _|exact (pure_enl _ _).old|exact old_ints _ _ _|exact old_keys _ _ _|exact (by first|exact old_km _ _|exact old_ints _ _ _|exact old_toks _ _ _|exact old_strs _ _ _|exact old_bytes _ _ _)|exact old_caps|exact old_bytes _ _ _|exact old_sns _ [] _|exact old_vas _ _ _):p:=h
theorem uz_ (h:p:=by intro a ha; repeat' (first|exact .val _|exact .ptr (nb rfl)|exact .map (nb rfl)|exact tt|exact old_strs _ _ _|exact old_fis _ _ _|exact .vec (nb rfl)|exact De.old _ _|exact Ex.old _ _|exact old_ivec _ _|exact old_des _ _ _|exact old_tape _ _ _ _|exact (by first|exact old_km _ _|exact old_ints _ _ _|exact old_strs _ _ _|exact old_bytes _ _ _)|exact old_ints _ _ _|exact Src.old _ _|exact old_exs _ _ _|exact (by first|exact .vec (nb rfl)|exact old_svec _|exact old_strs _ _ _)|exact (by first|exact old_km _ _|exact old_it _ _ _|exact old_ints _ _ _|exact old_strs _ _ _|exact old_bytes _ _ _)|exact (by first|exact old_strs _ _ _|exact old_key _ _)|exact old_emO _ _|exact old_gobj _ _|exact old_smO _ _|exact old_sns _ _ _|exact old_vas _ _ _|exact old_wbx (nb rfl) (nb rfl) (nb rfl)|exact (by first|exact old_keys _ _ _|exact old_key _ _)|exact (by first|exact old_pbx (nb rfl)|exact old_gobj _ _|exact old_it _ _ _|exact old_box (show OldL _ _ from ⟨.val _,.val _,.val _,.val _,tt⟩))|exact (by first|exact old_strs _ _ _|exact old_ints _ _ _|exact old_key _ _)|exact old_bytes _ _ _ | refine old_box ?_ | refine ⟨?_,?_⟩)):p:=h
theorem tu_ (h:p:=by repeat' (first|exact tt|exact rfl | refine ⟨?_,?_⟩)):p:=h
theorem do_ (h:p:=by dsimp only; omega):p:=h
theorem om_ (h:p:=by omega):p:=h
theorem si_ (h:p:=by simp):p:=h
theorem de_ (h:p:=by decide):p:=h
theorem z_0 (kz:q) (h:q->p:=by intro kz;refine cw_seq ?_;refine cw_region ?_;exact kz):p:=h kz
theorem z_1 (kz:q) (h:q->p:=by intro kz;refine cY q_237 ?_;refine co_nil ?_;exact kz):p:=h kz
theorem z_2 (kz:q) (h:q->p:=by intro kz;refine z_0 ?_;refine cY q_247 ?_;exact kz):p:=h kz
theorem z_3 (kz:q) (h:q->p:=by intro kz;refine cY q_226 ?_;refine co_nil ?_;exact kz):p:=h kz
theorem z_4 (kz:q) (h:q->p:=by intro kz;refine z_1 ?_;refine cw_ret ?_;exact kz):p:=h kz
theorem z_5 (kz:q) (h:q->p:=by intro kz;refine z_0 ?_;refine z_3 ?_;exact kz):p:=h kz
theorem z_6 (kz:q) (h:q->p:=by intro kz;refine z_2 ?_;refine cY q_247 ?_;exact kz):p:=h kz
theorem z_7 (kz:q) (h:q->p:=by intro kz;refine cw_region ?_;refine cY q_247 ?_;exact kz):p:=h kz
theorem z_8 (kz:q) (h:q->p:=by intro kz;refine co_nil ?_;refine cw_seq ?_;exact kz):p:=h kz
theorem z_9 (kz:q) (h:q->p:=by intro kz;refine cw_skip ?_;refine cw_seq ?_;exact kz):p:=h kz
theorem z_10 (kz:q) (h:q->p:=by intro kz;refine z_0 ?_;refine cD (d_box rfl tt q_272 q_290 ?_);exact kz):p:=h kz
theorem z_11 (kz:q) (h:Qz q->p:=by intro kz;refine cY q_252 ?_;refine cY q_247 ?_;exact kz tt):p:=h fun _=>kz
theorem z_12 (kz:q) (h:q->p:=by intro kz;refine co_nil ?_;refine cw_block ?_;exact kz):p:=h kz
theorem z_13 (kz:q) (h:q->p:=by intro kz;refine cD (d_alloc rfl t_43 rfl q_290 ?_);refine cD (d_store rfl tt tt rfl q_272 t_21 q_290 rfl rfl (nb rfl) ?_);exact kz):p:=h kz
theorem z_14 (kz:q) (h:q->p:=by intro kz;refine cY q_256 ?_;refine co_nil ?_;exact kz):p:=h kz
theorem z_15 (kz:q) (h:q->p:=by intro kz;refine cY q_256 ?_;refine z_1 ?_;exact kz):p:=h kz
theorem z_17 (kz:q) (h:q->p:=by intro kz;refine cw_seq ?_;refine z_2 ?_;exact kz):p:=h kz
theorem z_19 (kz:q) (h:q->p:=by intro kz;refine z_9 ?_;refine cw_block ?_;exact kz):p:=h kz
theorem z_20 (kz:q) (h:Qz q->p:=by intro kz;refine cw_region ?_;refine z_11 ?_;refine co_nil ?_;exact kz tt):p:=h fun _=>kz
theorem z_22 (kz:q) (h:q->p:=by intro kz;refine z_5 ?_;refine cw_ret ?_;exact kz):p:=h kz
theorem z_23 (kz:q) (h:q->p:=by intro kz;refine cY q_247 ?_;refine cG q_214 ?_;exact kz):p:=h kz
theorem z_24 (kz:q) (h:q->p:=by intro kz;refine cY q_242 ?_;refine z_12 ?_;exact kz):p:=h kz
theorem z_26 (kz:q) (h:q->p:=by intro kz;refine cD (d_store rfl tt tt rfl q_272 t_3 (.inl rfl) rfl rfl (nb rfl) ?_);refine co_nil ?_;exact kz):p:=h kz
theorem z_27 (kz:q) (h:q->p:=by intro kz;refine z_0 ?_;refine z_15 ?_;exact kz):p:=h kz
theorem z_29 (kz:q) (h:q->p:=by intro kz;refine cD (d_store rfl tt tt rfl q_272 t_42 q_290 rfl rfl (nb rfl) ?_);refine co_nil ?_;exact kz):p:=h kz
theorem z_30 (kz:q) (h:q->p:=by intro kz;refine z_0 ?_;refine cY q_261 ?_;refine z_8 ?_;exact kz):p:=h kz
theorem z_31 (kz:q) (h:q->p:=by intro kz;refine co_nil ?_;refine z_2 ?_;exact kz):p:=h kz
theorem z_32 (kz:q) (h:q->p:=by intro kz;refine cG q_240 ?_;refine cY q_197 ?_;exact kz):p:=h kz
theorem z_33 (h:p:=by refine z_4 ?_;exact ⟨_,res1 rfl tt q_272,_,_,rfl,rfl,(.tok (fun r hr c hc=>(rows_pure (f:=scv) (fun _=>Pures.all ⟨.val _,tt⟩) _) r hr c hc))⟩):p:=h
theorem z_34 (kz:q) (h:q->p:=by intro kz;refine hY q_247 ?_;refine hY q_282 ?_;exact kz):p:=h kz
theorem z_35 (h:p:=by refine z_20 ?_;exact ⟨(i+1),_,⟨om_,om_⟩,tu_,rfl⟩):p:=h
theorem z_36 (kz:q) (h:q->p:=by intro kz;refine cY q_269 ?_;refine cY q_269 ?_;exact kz):p:=h kz
theorem z_37 (kz:q) (h:q->p:=by intro kz;refine z_19 ?_;refine z_0 ?_;exact kz):p:=h kz
theorem z_38 (kz:q) (h:q->p:=by intro kz;refine cY q_284 ?_;refine co_nil ?_;exact kz):p:=h kz
theorem z_39 (kz:q) (h:q->p:=by intro kz;refine z_1 ?_;refine z_2 ?_;exact kz):p:=h kz
theorem z_40 (kz:q) (h:q->p:=by intro kz;refine z_7 ?_;refine cY q_247 ?_;exact kz):p:=h kz
theorem z_41 (kz:q) (h:q->p:=by intro kz;refine cD (d_store rfl tt tt rfl q_272 t_21 q_290 rfl rfl (nb rfl) ?_);refine co_nil ?_;exact kz):p:=h kz
theorem z_42 (kz:q) (h:q->p:=by intro kz;refine co_nil ?_;refine z_0 ?_;exact kz):p:=h kz
theorem z_43 (kz:q) (h:q->p:=by intro kz;refine cw_float [0,1,2,3,4,5,6,7,8,9] 5 [0,0,0,0,0,24,60,126,255,511] [[0,1,2],[0,1],[0],[],[]] (hd1l:=[0,1,2,3,4]) (tll:=[(5,[0,1,2]),(6,[0,1]),(7,[0]),(8,[]),(9,[])]) q_291 q_291 rfl rfl rfl ?_;refine chf rfl q_127 ?_;exact kz):p:=h kz
theorem z_44 (kz:q) (h:q->p:=by intro kz;refine z_6 ?_;refine cY q_247 ?_;exact kz):p:=h kz
theorem z_45 (kz:q) (h:q->p:=by intro kz;refine cD (d_alloc rfl t_47 rfl q_290 ?_);refine cD (d_store rfl tt tt rfl q_272 t_24 q_290 rfl rfl (nb rfl) ?_);exact kz):p:=h kz
theorem z_46 (kz:q) (h:q->p:=by intro kz;refine cY q_282 ?_;refine cY q_147 ?_;exact kz):p:=h kz
theorem z_47 (kz:q) (h:q->p:=by intro kz;refine cw_seq ?_;refine z_0 ?_;exact kz):p:=h kz
theorem z_48 (kz:q) (h:q->p:=by intro kz;refine z_5 ?_;refine z_17 ?_;exact kz):p:=h kz
theorem z_49 (kz:q) (h:q->p:=by intro kz;refine z_3 ?_;refine cw_ret ?_;exact kz):p:=h kz
theorem z_50 (kz:q) (h:q->p:=by intro kz;refine z_10 ?_;refine z_3 ?_;exact kz):p:=h kz
theorem z_51 (h:p:=by refine z_4 ?_;exact ⟨_,res1 rfl tt q_272,⟨(_,p1),fin1 rfl q_283 (.old (.val _)),q_73,do_,do_⟩⟩):p:=h
theorem z_52 (h:p:=by refine z_4 ?_;exact ⟨_,res1 rfl tt q_272,_,_,rfl,rfl,cls_int rfl⟩):p:=h
theorem z_53 (kz:q) (h:q->p:=by intro kz;refine co_norm [pbx T m ps b2 3,.dead,.box (tk T n).cells,gobj b2.length] rfl ?_;refine z_4 ?_;exact kz):p:=h kz
theorem z_54 (kz:q) (h:q->p:=by intro kz;refine cY q_161 ?_;refine cY q_238 ?_;exact kz):p:=h kz
theorem z_55 (kz:q) (h:q->p:=by intro kz;refine cY q_247 ?_;refine z_36 ?_;exact kz):p:=h kz
theorem z_56 (kz:q) (h:q->p:=by intro kz;refine cY q_219 ?_;refine z_1 ?_;exact kz):p:=h kz
theorem z_57 (kz:q) (h:Qz q->p:=by intro kz;refine cY q_60 ?_;refine cD (d_appu rfl tt tt rfl si_ q_18 t_30 t_19 t_153 t_25 rfl (.inr rfl) q_20 q_79 q_227 ((out++[y]).map Fi.cv) (out++[y]).length si_ si_ ?_);exact kz tt):p:=h fun _=>kz
theorem z_58 (kz:q) (h:q->p:=by intro kz;refine hY q_247 ?_;refine hY q_247 ?_;exact kz):p:=h kz
theorem z_59 (kz:q) (h:q->p:=by intro kz;refine cY q_146 ?_;refine cY q_229 ?_;exact kz):p:=h kz
theorem z_60 (kz:q) (h:q->p:=by intro kz;refine cw_skip ?_;refine z_0 ?_;exact kz):p:=h kz
theorem z_61 (kz:q) (h:q->p:=by intro kz;refine cw_skip ?_;refine z_2 ?_;exact kz):p:=h kz
theorem z_62 (kz:q) (h:q->p:=by intro kz;refine cY q_261 ?_;refine co_nil ?_;exact kz):p:=h kz
theorem z_63 (kz:q) (h:q->p:=by intro kz;refine z_10 ?_;refine cD (d_box rfl tt q_272 q_290 ?_);exact kz):p:=h kz
theorem z_64 (kz:q) (h:q->p:=by intro kz;refine z_1 ?_;refine z_17 ?_;exact kz):p:=h kz
theorem z_65 (kz:q) (h:q->p:=by intro kz;refine cY q_200 ?_;refine co_nil ?_;exact kz):p:=h kz
theorem z_66 (kz:q) (h:q->p:=by intro kz;refine cY q_146 ?_;refine cD (d_store rfl tt tt rfl q_272 t_161 (.inl rfl) rfl rfl (nb rfl) ?_);exact kz):p:=h kz
theorem z_67 (kz:q) (h:q->p:=by intro kz;refine cw_exit ?_;refine z_2 ?_;exact kz):p:=h kz
theorem z_68 (kz:q) (h:q->p:=by intro kz;refine ch_nil ?_;refine co_nil ?_;exact kz):p:=h kz
theorem z_69 (kz:q) (h:q->p:=by intro kz;refine chf rfl q_208 ?_;refine chf rfl q_257 ?_;exact kz):p:=h kz
theorem z_70 (kz:q) (h:q->p:=by intro kz;refine cD (d_store rfl tt tt rfl q_272 t_21 q_290 rfl rfl (nb rfl) ?_);refine cY q_237 ?_;exact kz):p:=h kz
theorem z_71 (kz:q) (h:q->p:=by intro kz;refine cY q_31 ?_;refine cD (d_store rfl tt tt rfl q_272 t_36 q_290 rfl rfl (nb rfl) ?_);exact kz):p:=h kz
theorem z_72 (kz:q) (h:q->p:=by intro kz;refine cY q_197 ?_;refine z_4 ?_;exact kz):p:=h kz
theorem z_73 (kz:q) (h:Qz q->p:=by intro kz;refine cw_skip ?_;refine z_20 ?_;exact kz tt):p:=h fun _=>kz
theorem z_74 (h:p:=by refine z_4 ?_;exact ⟨_,res1 rfl tt q_272,⟨(_,p+2),fin1 rfl q_283 (.old (.val _)),q_73,do_,do_⟩⟩):p:=h
theorem z_75 (kz:q) (h:q->p:=by intro kz;refine cD (d_store rfl tt tt rfl q_272 t_38 q_290 rfl rfl (nb rfl) ?_);refine co_nil ?_;exact kz):p:=h kz
theorem z_76 (h:p:=by refine z_4 ?_;exact ⟨_,res1 rfl tt q_272,_,_,rfl,rfl,(cls_eq (show CV.list (([]:List Ky).map Ky.cv) false none=_ from rfl) (by repeat' (first|exact .val _|exact pure_ints _ _|exact pure_strs _ _|exact pure_keys _ _|exact tt | refine pure_agg ?_ | refine pure_tup ?_ | refine ⟨?_,?_⟩)))⟩):p:=h
theorem z_77 (kz:q) (h:q->p:=by intro kz;refine ctl_h rfl q_201 ⟨tt,?_⟩;refine ctl_nil ?_;exact kz):p:=h kz
theorem z_78 (h:p:=by refine z_73 ?_;exact ⟨(i+1),_,⟨om_,om_,hr⟩,tu_,rfl⟩):p:=h
theorem z_79 (kz:q) (h:q->p:=by intro kz;refine z_0 ?_;refine cY q_183 ?_;exact kz):p:=h kz
theorem z_80 (kz:q) (h:q->p:=by intro kz;refine z_5 ?_;refine z_2 ?_;exact kz):p:=h kz
theorem z_81 (kz:q) (h:q->p:=by intro kz;refine z_8 ?_;refine z_0 ?_;exact kz):p:=h kz
theorem z_82 (kz:q) (h:Qz q->p:=by intro kz;refine cY q_252 ?_;refine z_1 ?_;exact kz tt):p:=h fun _=>kz
theorem z_83 (kz:q) (h:q->p:=by intro kz;refine cY q_148 ?_;refine cY q_238 ?_;exact kz):p:=h kz
theorem z_84 (h:p:=by refine z_4 ?_;exact ⟨_,res1 rfl tt q_272,_,_,rfl,rfl,cls_str rfl⟩):p:=h
theorem z_85 (h:p:=by refine z_72 ?_;exact ⟨_,res1 rfl tt q_272,_,_,rfl,rfl,cls_bool (show (nameB x.a && decide (x.b=[]))=keyB x by simp_all [keyB])⟩):p:=h
theorem z_86 (kz:q) (h:q->p:=by intro kz;refine cw_seq ?_;refine z_6 ?_;exact kz):p:=h kz
theorem z_87 (kz:q) (h:q->p:=by intro kz;refine cw_float [0,1,2,4,5,3,6,7,8,9] 5 [0,1,3,0,0,16,56,120,248,511] [[0,1,2,3,4],[0,1,2],[0,1,2],[0,1,2],[]] (hd1l:=[0,1,2,4,5]) (tll:=[(3,[0,1,2,3,4]),(6,[0,1,2]),(7,[0,1,2]),(8,[0,1,2]),(9,[])]) q_291 q_291 rfl rfl rfl ?_;refine z_69 ?_;exact kz):p:=h kz
theorem z_88 (kz:q) (h:q->p:=by intro kz;refine cw_seq ?_;refine cw_float [0,1,2,3,4,5,6,7,8,9,10,11] 9 [0,1,3,7,0,31,63,127,127,0,767,2047] [[0,1,2,3,4,5,6,7,8],[8],[]] (hd1l:=[0,1,2,3,4,5,6,7,8]) (tll:=[(9,[0,1,2,3,4,5,6,7,8]),(10,[8]),(11,[])]) q_291 q_291 rfl rfl rfl ?_;exact kz):p:=h kz
theorem z_89 (kz:q) (h:q->p:=by intro kz;refine cY q_134 ?_;refine cD (d_store rfl tt tt rfl q_272 t_136 (.inl rfl) rfl rfl (nb rfl) ?_);exact kz):p:=h kz
theorem z_90 (kz:q) (h:q->p:=by intro kz;refine cw_seq ?_;refine cw_draw 12 [0,0,2,7,15,31,31,127,255,31,1023,2047] q_291 q_291 rfl ?_;exact kz):p:=h kz
theorem z_91 (kz:q) (h:q->p:=by intro kz;refine cY q_163 ?_;refine cY q_238 ?_;exact kz):p:=h kz
theorem z_92 (kz:q) (h:Qz q->p:=by intro kz;refine cY q_164 ?_;refine cY q_162 ?_;exact kz tt):p:=h fun _=>kz
theorem z_93 (kz:q) (h:q->p:=by intro kz;refine z_55 ?_;refine cY q_237 ?_;exact kz):p:=h kz
theorem z_94 (kz:q) (h:q->p:=by intro kz;refine z_0 ?_;refine z_56 ?_;exact kz):p:=h kz
theorem z_95 (kz:q) (h:Qz q->p:=by intro kz;refine cY q_92 ?_;refine cY q_193 ?_;exact kz tt):p:=h fun _=>kz
theorem z_96 (h:p:=by refine co_nil ?_;exact ⟨_,res_all (rs:=[]) (cs:=[]) rfl tt (n_2 rfl),⟨(max d dp),q_117,tt⟩⟩):p:=h
theorem z_97 (kz:q) (h:q->p:=by intro kz;refine cD (d_store rfl tt tt rfl q_272 t_21 q_290 rfl rfl (nb rfl) ?_);refine cY q_226 ?_;exact kz):p:=h kz
theorem z_98 (h:p:=by refine z_1 ?_;exact ⟨(s,hds,p6,n - 1),[0,1,2],⟨do_,do_,do_,do_,do_,do_,do_⟩,⟨rfl,rfl⟩,q_9,⟨.inr ⟨_,rfl,.same rfl q_283⟩,.inr ⟨_,rfl,.same rfl q_293⟩,.inr ⟨_,rfl,.same rfl q_293⟩,tt⟩⟩):p:=h
theorem z_99 (kz:q) (h:q->p:=by intro kz;refine cY q_102 ?_;refine z_24 ?_;exact kz):p:=h kz
theorem z_100 (kz:q) (h:Qz q->p:=by intro kz;refine cY q_239 ?_;refine cY q_252 ?_;exact kz tt):p:=h fun _=>kz
theorem z_101 (h:p:=by refine cw_region ?_;refine cY q_173 ?_;exact co_d rfl rfl (d_calln rfl t_35 q_294 (so_fail _ _ _) rfl (fun _ _=>.inr ⟨(_,_),fin_pan,hsp,si_⟩))):p:=h
theorem z_102 (kz:q) (h:q->p:=by intro kz;refine cD (d_alloc rfl t_32 rfl q_290 ?_);refine cD (d_store rfl tt tt rfl q_272 t_48 q_290 rfl rfl (nb rfl) ?_);exact kz):p:=h kz
theorem z_103 (kz:q) (h:q->p:=by intro kz;refine cD (d_alloc rfl t_7 rfl q_290 ?_);refine cD (d_store rfl tt tt rfl q_272 t_2 q_290 rfl rfl (nb rfl) ?_);exact kz):p:=h kz
theorem z_104 (kz:q) (h:Qz q->p:=by intro kz;refine z_1 ?_;refine z_20 ?_;exact kz tt):p:=h fun _=>kz
theorem z_105 (kz:q) (h:q->p:=by intro kz;refine cw_exit ?_;refine z_22 ?_;exact kz):p:=h kz
theorem z_106 (kz:q) (h:q->p:=by intro kz;refine cY q_226 ?_;refine z_3 ?_;exact kz):p:=h kz
theorem z_107 (h:p:=by refine z_22 ?_;exact ⟨_,res1 rfl tt q_272,_,_,rfl,rfl,cls_bool (show false=keyB x by simp_all [keyB])⟩):p:=h
theorem z_108 (h:p:=by refine z_105 ?_;exact ⟨_,res1 rfl tt q_272,_,_,rfl,rfl,cls_bool rfl⟩):p:=h
theorem z_109 (kz:q) (h:q->p:=by intro kz;refine z_23 ?_;refine cG q_214 ?_;exact kz):p:=h kz
theorem z_110 (kz:q) (h:q->p:=by intro kz;refine cY q_101 ?_;refine z_24 ?_;exact kz):p:=h kz
theorem z_111 (kz:q) (h:q->p:=by intro kz;refine cY q_197 ?_;refine z_23 ?_;exact kz):p:=h kz
theorem z_112 (kz:q) (h:Qz q->p:=by intro kz;refine co_nil ?_;refine z_20 ?_;exact kz tt):p:=h fun _=>kz
theorem z_113 (kz:q) (h:q->p:=by intro kz;refine cY q_247 ?_;refine cY q_247 ?_;exact kz):p:=h kz
theorem z_114 (kz:q) (h:q->p:=by intro kz;refine cY q_150 ?_;refine cY q_239 ?_;exact kz):p:=h kz
theorem z_115 (kz:q) (h:q->p:=by intro kz;refine ⟨⟨q_100,q_184,tt⟩,?_⟩;refine ctl_h rfl q_42 ⟨⟨q_100,tt⟩,?_⟩;exact kz):p:=h kz
theorem z_116 (kz:q) (h:q->p:=by intro kz;refine z_19 ?_;refine z_2 ?_;exact kz):p:=h kz
theorem z_117 (kz:q) (h:q->p:=by intro kz;refine z_0 ?_;refine cD (d_alloc rfl t_43 rfl q_290 ?_);exact kz):p:=h kz
theorem z_118 (kz:q) (h:q->p:=by intro kz;refine cw_skip ?_;refine cw_block ?_;exact kz):p:=h kz
theorem z_119 (kz:q) (h:q->p:=by intro kz;refine cY q_237 ?_;refine z_49 ?_;exact kz):p:=h kz
theorem z_120 (kz:q) (h:q->p:=by intro kz;refine chf rfl q_127 ?_;refine chf rfl q_208 ?_;exact kz):p:=h kz
theorem z_121 (kz:q) (h:q->p:=by intro kz;refine z_32 ?_;refine cY q_247 ?_;exact kz):p:=h kz
theorem z_122 (h:p:=by refine z_72 ?_;exact ⟨_,res1 rfl tt q_272,_,_,rfl,rfl,cls_bool (by simp [e1,e2,e3,e4])⟩):p:=h
theorem z_123 (kz:q) (h:q->p:=by intro kz;refine cw_skip ?_;refine z_7 ?_;exact kz):p:=h kz
theorem z_124 (h:p:=by refine z_53 ?_;exact ⟨_,res1 rfl tt q_272,q_74⟩):p:=h
theorem z_125 (kz:q) (h:q->p:=by intro kz;refine cw_float [0,1,3,4,2,5,6,7] 4 [0,0,3,0,0,31,63,127] [[2,3],[],[],[]] (hd1l:=[0,1,3,4]) (tll:=[(2,[2,3]),(5,[]),(6,[]),(7,[])]) q_291 q_291 rfl rfl rfl ?_;refine chf rfl q_208 ?_;exact kz):p:=h kz
theorem z_126 (kz:q) (h:q->p:=by intro kz;refine chf rfl q_208 ?_;refine chf_nil ?_;exact kz):p:=h kz
theorem z_127 (h:p:=by refine z_4 ?_;exact ⟨_,res1 rfl tt q_272,q_95⟩):p:=h
theorem z_128 (kz:q) (h:Qz q->p:=by intro kz;refine cY q_62 ?_;refine cD (d_appu rfl tt tt rfl si_ q_18 t_30 t_19 t_153 t_25 rfl (.inr rfl) q_20 q_79 q_227 ((out++[f]).map Fi.cv) (out++[f]).length si_ si_ ?_);exact kz tt):p:=h fun _=>kz
theorem z_129 (kz:q) (h:Qz q->p:=by intro kz;refine cY q_254 ?_;refine z_1 ?_;exact kz tt):p:=h fun _=>kz
theorem z_130 (kz:q) (h:q->p:=by intro kz;refine cY q_141 ?_;refine cY q_231 ?_;exact kz):p:=h kz
theorem z_131 (kz:q) (h:q->p:=by intro kz;refine co_nil ?_;refine z_6 ?_;exact kz):p:=h kz
theorem z_132 (kz:q) (h:q->p:=by intro kz;refine cw_region ?_;refine z_15 ?_;exact kz):p:=h kz
theorem z_133 (kz:q) (h:q->p:=by intro kz;refine z_5 ?_;refine z_6 ?_;exact kz):p:=h kz
theorem z_134 (kz:q) (h:q->p:=by intro kz;refine z_64 ?_;refine z_14 ?_;exact kz):p:=h kz
theorem z_135 (h:p:=by refine cw_skip ?_;exact z_35):p:=h
theorem z_136 (kz:q) (h:q->p:=by intro kz;refine cw_seq ?_;refine cw_block ?_;exact kz):p:=h kz
theorem z_137 (h:p:=by refine cw_ret ?_;exact ⟨_,res_one rfl q_112,⟨(insF fl ⟨sp,s⟩,p4),fin1 rfl q_283 (.old (pure_rev _ _).old),(hm.mono om_).ins (hspa) do_,do_,do_⟩⟩):p:=h
theorem z_138 (kz:q) (h:q->p:=by intro kz;refine z_2 ?_;refine cY q_282 ?_;exact kz):p:=h kz
theorem z_139 (kz:q) (h:q->p:=by intro kz;refine ctl_d rfl rfl (d_store rfl tt tt rfl q_272 t_42 q_290 rfl rfl (nb rfl) ?_);refine ⟨tt,?_⟩;refine ctl_nil ?_;exact kz):p:=h kz
theorem z_140 (kz:q) (h:q->p:=by intro kz;refine ch_g rfl rfl tt rfl q_214 ?_;refine ch_g rfl rfl tt rfl q_214 ?_;exact kz):p:=h kz
theorem z_142 (kz:q) (h:q->p:=by intro kz;refine cY q_135 ?_;refine cY q_220 ?_;exact kz):p:=h kz
theorem z_143 (kz:q) (h:q->p:=by intro kz;refine ch_g rfl rfl tt rfl (fun hg=>y_field rfl tt rfl t_159 rfl t_161 de_) ?_;refine ch_g rfl rfl tt rfl (fun hg=>y_load1 rfl hg rfl Tryz.isAgg30 rfl rfl) ?_;exact kz):p:=h kz
theorem z_144 (kz:q) (h:q->p:=by intro kz;refine cw_exit ?_;refine z_0 ?_;exact kz):p:=h kz
theorem z_145 (kz:q) (h:q->p:=by intro kz;refine ch_g rfl rfl tt rfl (fun hg=>y_field_c rfl hg rfl t_51 rfl t_0 de_) ?_;refine ch_g rfl rfl tt rfl (fun hg=>y_load_c1 rfl hg rfl t_9 rfl) ?_;exact kz):p:=h kz
theorem z_146 (kz:q) (h:q->p:=by intro kz;refine z_59 ?_;refine z_99 ?_;exact kz):p:=h kz
theorem z_148 (kz:q) (h:Qz q->p:=by intro kz;refine z_37 ?_;refine z_95 ?_;refine cD (d_alloc rfl t_25 rfl q_290 ?_);refine cD (d_store rfl tt tt rfl q_272 t_19 q_290 rfl rfl (nb rfl) ?_);exact kz tt):p:=h fun _=>kz
theorem z_149 (kz:q) (h:q->p:=by intro kz;refine cY q_256 ?_;refine z_23 ?_;exact kz):p:=h kz
theorem z_150 (kz:q) (h:q->p:=by intro kz;refine cD (d_alloc rfl t_41 rfl q_290 ?_);refine z_29 ?_;exact kz):p:=h kz
theorem z_151 (h:p:=by refine cw_exit ?_;exact ⟨(k+2),_,rfl,tu_,rfl⟩):p:=h
theorem z_152 (kz:q) (h:q->p:=by intro kz;refine cD (d_store rfl tt tt rfl q_272 t_36 q_290 rfl rfl (nb rfl) ?_);refine z_81 ?_;exact kz):p:=h kz
theorem z_153 (h:p:=by refine z_4 ?_;exact ⟨_,res1 rfl tt q_272,_,_,rfl,rfl,cls_bool rfl⟩):p:=h
theorem z_155 (kz:q) (h:Qz q->p:=by intro kz;refine z_46 ?_;refine z_100 ?_;refine z_46 ?_;exact kz tt):p:=h fun _=>kz
theorem z_156 (kz:q) (h:q->p:=by intro kz;refine co_nil ?_;refine z_7 ?_;exact kz):p:=h kz
theorem z_157 (kz:q) (h:q->p:=by intro kz;refine cY q_232 ?_;refine co_nil ?_;exact kz):p:=h kz
theorem z_158 (kz:q) (h:q->p:=by intro kz;refine z_67 ?_;refine z_4 ?_;exact kz):p:=h kz
theorem z_159 (kz:q) (h:q->p:=by intro kz;refine cw_skip ?_;refine z_44 ?_;exact kz):p:=h kz
theorem z_160 (kz:q) (h:q->p:=by intro kz;refine z_6 ?_;refine cG q_214 ?_;exact kz):p:=h kz
theorem z_161 (h:p:=by refine z_119 ?_;exact ⟨_,res_all (rs:=[.tmp 4,.tmp 5]) (cs:=[_,_]) rfl q_140 (n_2 rfl),⟨(),rfl,rfl,tt⟩⟩):p:=h
theorem z_162 (h:p:=by refine z_4 ?_;exact ⟨_,res1 rfl tt q_272,(by exact .inl ⟨(i6,n+1,b6),fin_gr rfl rfl (nb rfl) (.val _),hsp,do_,hn1,y6⟩)⟩):p:=h
theorem z_163 (kz:q) (h:Qz q->p:=by intro kz;refine cta_q rfl rfl (fun _=>hop_y rfl q_162) ?_;refine cta_d rfl rfl rfl rfl (d_callclov rfl tt rfl t_59 trivial (by exact hclo om_ (p+2) om_) rfl ?_);exact kz tt):p:=h fun _=>kz
theorem z_164 (kz:q) (h:q->p:=by intro kz;refine z_5 ?_;refine z_0 ?_;exact kz):p:=h kz
theorem z_165 (kz:q) (h:q->p:=by intro kz;refine cY q_165 ?_;refine cY q_239 ?_;exact kz):p:=h kz
theorem z_166 (kz:q) (h:q->p:=by intro kz;refine ⟨tt,?_⟩;refine ctl_nil ?_;exact kz):p:=h kz
theorem z_167 (kz:q) (h:q->p:=by intro kz;refine cY q_152 ?_;refine cY q_228 ?_;exact kz):p:=h kz
theorem z_168 (kz:q) (h:q->p:=by intro kz;refine cY q_166 ?_;refine cY q_238 ?_;exact kz):p:=h kz
theorem z_169 (kz:q) (h:q->p:=by intro kz;refine cY q_153 ?_;refine cY q_238 ?_;exact kz):p:=h kz
theorem z_170 (kz:q) (h:q->p:=by intro kz;refine cta_h rfl rfl rfl q_201 ⟨tt,?_⟩;refine cta_nil ?_;exact kz):p:=h kz
theorem z_171 (kz:q) (h:q->p:=by intro kz;refine z_79 ?_;refine cY q_183 ?_;exact kz):p:=h kz
theorem z_172 (kz:q) (h:Qz q->p:=by intro kz;refine z_155 ?_;refine z_26 ?_;exact kz tt):p:=h fun _=>kz
theorem z_173 (kz:q) (h:Qz q->p:=by intro kz;refine cY q_94 ?_;refine cY q_248 ?_;exact kz tt):p:=h fun _=>kz
theorem z_174 (h:p:=by refine cw_skip ?_;exact ⟨_,tt,tuk4_,rfl⟩):p:=h
theorem z_175 (kz:q) (h:q->p:=by intro kz;refine cG (fun hg=>y_field rfl tt rfl t_46 rfl t_54 de_) ?_;refine cG (fun hg=>y_load1 rfl hg rfl Tryz.isAgg117 rfl rfl) ?_;exact kz):p:=h kz
theorem z_176 (kz:q) (h:q->p:=by intro kz;refine cY q_269 ?_;refine z_8 ?_;exact kz):p:=h kz
theorem z_177 (kz:q) (h:q->p:=by intro kz;refine chf rfl q_118 ?_;refine chf rfl q_202 ?_;exact kz):p:=h kz
theorem z_178 (kz:q) (h:Qz q->p:=by intro kz;refine ⟨⟨q_100,q_184,q_184,tt⟩,?_⟩;refine ctl_d rfl rfl (d_callv rfl Tryz.call68 q_297 (mk_Source l nn (k+3) om_ hl v hv8 _ 0 rfl) rfl ?_);exact kz tt):p:=h fun _=>kz
theorem z_179 (kz:q) (h:q->p:=by intro kz;refine cG (fun hg=>y_field rfl tt rfl t_29 rfl t_22 de_) ?_;refine cG (fun hg=>y_load1 rfl hg rfl t_108 rfl rfl) ?_;exact kz):p:=h kz
theorem z_180 (kz:q) (h:q->p:=by intro kz;refine cG (fun hg=>y_field rfl tt rfl t_29 rfl t_96 de_) ?_;refine cG (fun hg=>y_load1 rfl hg rfl Tryz.isAgg65 rfl rfl) ?_;exact kz):p:=h kz
theorem z_181 (h:p:=by refine co_nil ?_;exact ⟨_,res_all (rs:=[]) (cs:=[]) rfl tt (n_2 rfl),⟨(),rfl,rfl,tt⟩⟩):p:=h
theorem z_182 (kz:q) (h:q->p:=by intro kz;refine z_12 ?_;refine z_27 ?_;exact kz):p:=h kz
theorem z_183 (kz:q) (h:q->p:=by intro kz;refine z_1 ?_;refine z_7 ?_;exact kz):p:=h kz
theorem z_184 (kz:q) (h:q->p:=by intro kz;refine z_9 ?_;refine z_2 ?_;exact kz):p:=h kz
theorem z_185 (kz:q) (h:q->p:=by intro kz;refine z_2 ?_;refine z_4 ?_;exact kz):p:=h kz
theorem z_186 (kz:q) (h:q->p:=by intro kz;refine z_8 ?_;refine z_2 ?_;exact kz):p:=h kz
theorem z_187 (h:p:=by refine co_nil ?_;exact ⟨_,res_all (rs:=[]) (cs:=[]) rfl tt (n_2 rfl),⟨d2,q_70,tt⟩⟩):p:=h
theorem z_188 (kz:q) (h:q->p:=by intro kz;refine z_160 ?_;refine z_111 ?_;exact kz):p:=h kz
theorem z_189 (kz:q) (h:q->p:=by intro kz;refine z_121 ?_;refine cG q_120 ?_;refine cG q_210 ?_;exact kz):p:=h kz
theorem z_190 (kz:q) (h:q->p:=by intro kz;refine cY q_247 ?_;refine z_157 ?_;exact kz):p:=h kz
theorem z_191 (kz:q) (h:q->p:=by intro kz;refine cD (d_alloc rfl Tryz.zeroValue26 rfl (.inl rfl) ?_);refine cD (d_store rfl tt tt rfl q_272 t_22 (.inl rfl) rfl rfl (nb rfl) ?_);exact kz):p:=h kz
theorem z_192 (kz:q) (h:q->p:=by intro kz;refine ⟨⟨q_184,q_244,q_89,(by exact hop_y rfl q_149),q_178,tt⟩,?_⟩;refine ctl_h rfl q_34 ⟨⟨q_184,q_244,q_89,tt⟩,?_⟩;exact kz):p:=h kz
theorem z_193 (kz:q) (h:q->p:=by intro kz;refine z_1 ?_;refine cw_seq ?_;exact kz):p:=h kz
theorem z_194 (kz:q) (h:q->p:=by intro kz;refine cw_draw 2 [0,0,3,7,15,31] q_291 q_291 rfl ?_;refine hY q_230 ?_;exact kz):p:=h kz
theorem z_195 (kz:q) (h:q->p:=by intro kz;refine cY q_243 ?_;refine cY q_247 ?_;exact kz):p:=h kz
theorem z_196 (kz:q) (h:q->p:=by intro kz;refine cY q_173 ?_;refine cY q_247 ?_;exact kz):p:=h kz
theorem z_197 (kz:q) (h:q->p:=by intro kz;refine cY q_142 ?_;refine cY q_228 ?_;exact kz):p:=h kz
theorem z_198 (kz:q) (h:q->p:=by intro kz;refine cY q_168 ?_;refine cY q_238 ?_;exact kz):p:=h kz
theorem z_200 (kz:q) (h:Qz q->p:=by intro kz;refine cY q_174 ?_;refine cY q_162 ?_;exact kz tt):p:=h fun _=>kz
theorem z_201 (kz:q) (h:Qz q->p:=by intro kz;refine chf_nil ?_;refine ctl_d rfl rfl (d_callv rfl t_18 q_297 (tape_one l nn (k+2) _ 0 rfl om_ hl madePackages de_ de_) rfl ?_);exact kz tt):p:=h fun _=>kz
theorem z_202 (kz:q) (h:q->p:=by intro kz;refine cD (d_alloc rfl Tryz.zeroValue129 rfl q_290 ?_);refine cD (d_store rfl tt tt rfl q_272 t_80 q_290 rfl rfl (nb rfl) ?_);exact kz):p:=h kz
theorem z_203 (kz:q) (h:q->p:=by intro kz;refine cD (d_alloc rfl t_123 rfl q_290 ?_);refine cD (d_store rfl tt tt rfl q_272 t_82 q_290 rfl rfl (nb rfl) ?_);exact kz):p:=h kz
theorem z_204 (kz:q) (h:q->p:=by intro kz;refine cY q_191 ?_;refine cD (d_alloc rfl t_67 rfl q_290 ?_);exact kz):p:=h kz
theorem z_205 (h:p:=by refine cG (fun hg=>y_callf rfl t_64 ⟨hg,tt⟩ (lx_Path_s x.name om_ _) rfl) ?_;exact z_122):p:=h
theorem z_206 (kz:q) (h:q->p:=by intro kz;refine cD (d_alloc rfl t_41 rfl q_290 ?_);refine cD (d_store rfl tt tt rfl q_272 t_42 q_290 rfl rfl (nb rfl) ?_);exact kz):p:=h kz
theorem z_207 (h:p:=by refine z_172 ?_;exact ⟨_,res_all (rs:=[]) (cs:=[]) rfl tt (n_2 rfl),q_65⟩):p:=h
theorem z_208 (kz:q) (h:q->p:=by intro kz;refine cY q_160 ?_;refine cY (y_load1 rfl tt rfl t_104 rfl rfl) ?_;exact kz):p:=h kz
theorem z_209 (kz:q) (h:q->p:=by intro kz;refine z_17 ?_;refine z_14 ?_;exact kz):p:=h kz
theorem z_210 (kz:q) (h:q->p:=by intro kz;refine hY (y_field rfl tt rfl t_158 rfl t_77 de_) ?_;refine hY (y_load1 rfl tt rfl t_99 hk rfl) ?_;exact kz):p:=h kz
theorem z_211 (kz:q) (h:q->p:=by intro kz;refine z_0 ?_;refine cY (y_entry rfl tt rfl rfl) ?_;exact kz):p:=h kz
theorem z_212 (kz:q) (h:Qz q->p:=by intro kz;refine cY (y_index rfl tt rfl rfl rfl t_8 t_3 om_ (rows_get (rootsL_get g1)) rfl) ?_;refine cY q_249 ?_;exact kz tt):p:=h fun _=>kz
theorem z_213 (kz:q) (h:Qz q->p:=by intro kz;refine cY (y_index rfl tt tt rfl rfl t_8 t_3 om_ (rows_get (rootsL_get gm)) rfl) ?_;refine cY q_249 ?_;exact kz tt):p:=h fun _=>kz
theorem z_214 (kz:q) (h:Qz q->p:=by intro kz;refine cY q_195 ?_;refine cD (d_callv rfl t_18 q_297 (tape_one l nn (k+2) _ 0 rfl om_ hl madeFunctions de_ de_) rfl ?_);exact kz tt):p:=h fun _=>kz
theorem z_215 (kz:q) (h:Qz q->p:=by intro kz;refine z_115 ?_;refine ctl_h rfl (hop_y rfl (y_callf rfl t_61 q_297 (mk_insert fl _ ⟨sp,s⟩ om_ _) rfl)) ⟨tt,?_⟩;exact kz tt):p:=h fun _=>kz
theorem z_216 (kz:q) (h:Qz q->p:=by intro kz;refine z_115 ?_;refine ctl_h rfl (hop_y rfl (y_callf rfl t_61 q_297 (mk_insert fl _ ⟨y,s⟩ om_ _) rfl)) ⟨tt,?_⟩;exact kz tt):p:=h fun _=>kz
theorem z_217 (kz:q) (h:Qz q->p:=by intro kz;refine cY q_247 ?_;refine cY (y_index rfl tt tt rfl rfl t_44 t_36 om_ (rows_get hAt.node) rfl) ?_;exact kz tt):p:=h fun _=>kz
theorem z_219 (kz:q) (h:q->p:=by intro kz;refine cD (d_alloc rfl t_41 rfl q_290 ?_);refine z_42 ?_;refine cD (d_alloc rfl t_41 rfl q_290 ?_);exact kz):p:=h kz
theorem z_220 (kz:q) (h:q->p:=by intro kz;refine ctl_d rfl rfl (d_store rfl tt tt rfl q_272 t_38 q_290 rfl rfl (nb rfl) ?_);refine ⟨⟨q_215,tt⟩,?_⟩;exact kz):p:=h kz
theorem z_221 (kz:q) (h:q->p:=by intro kz;refine cw_draw 15 [0,1,3,7,15,7,39,7,135,487,999,2023,4095,8191,16383] q_291 q_291 rfl ?_;refine hY q_247 ?_;exact kz):p:=h kz
theorem z_222 (kz:q) (h:q->p:=by intro kz;refine cY q_239 ?_;refine z_182 ?_;exact kz):p:=h kz
theorem z_223 (kz:q) (h:Qz q->p:=by intro kz;refine ch_nil ?_;refine cD (d_callv rfl t_18 q_297 (tape_one l nn (p+1) _ 0 rfl om_ hl madePaths de_ de_) rfl ?_);exact kz tt):p:=h fun _=>kz
theorem z_224 (kz:q) (h:q->p:=by intro kz;refine cY q_176 ?_;refine cY (y_callf rfl Tryz.call305 ⟨tt,tt⟩ (so_level_s ⟨k,u,o,nm,rootsL ch s⟩ _) rfl) ?_;exact kz):p:=h kz
theorem z_225 (h:p:=by refine z_4 ?_;exact ⟨_,res1 rfl tt q_272,⟨v,rfl,rfl,n_0 hv⟩⟩):p:=h
theorem z_226 (h:p:=by refine cw_skip ?_;exact ⟨(),_,tt,tu_,rfl⟩):p:=h
theorem z_227 (kz:q) (h:q->p:=by intro kz;refine z_86 ?_;refine cY (y_callf rfl t_73 ⟨tt,rfl,tt,tt⟩ (so_is hT hn 4 u ⟨rfl,rfl,de_⟩) rfl) ?_;exact kz):p:=h kz
theorem z_228 (kz:q) (h:q->p:=by intro kz;refine cY q_101 ?_;refine z_14 ?_;exact kz):p:=h kz
theorem z_229 (kz:q) (h:q->p:=by intro kz;refine cY q_226 ?_;refine z_49 ?_;exact kz):p:=h kz
theorem z_230 (kz:q) (h:q->p:=by intro kz;refine z_34 ?_;refine hY q_133 ?_;exact kz):p:=h kz
theorem z_231 (kz:q) (h:q->p:=by intro kz;refine cw_region ?_;refine cY q_173 ?_;exact kz):p:=h kz
theorem z_232 (kz:q) (h:Qz q->p:=by intro kz;refine cY (y_index rfl tt rfl rfl rfl t_1 t_0 om_ (rows_get g0) rfl) ?_;refine cY q_248 ?_;exact kz tt):p:=h fun _=>kz
theorem z_233 (kz:q) (h:Qz q->p:=by intro kz;refine cY (y_index rfl tt tt rfl rfl t_4 t_2 om_ (rows_get hb) rfl) ?_;refine cY q_194 ?_;exact kz tt):p:=h fun _=>kz
theorem z_234 (kz:q) (h:Qz q->p:=by intro kz;refine cY (y_index rfl tt tt rfl rfl t_1 t_0 om_ (rows_get hs) rfl) ?_;refine cY q_248 ?_;exact kz tt):p:=h fun _=>kz
theorem z_235 (kz:q) (h:q->p:=by intro kz;refine z_50 ?_;refine z_47 ?_;exact kz):p:=h kz
theorem z_236 (kz:q) (h:q->p:=by intro kz;refine z_13 ?_;refine z_81 ?_;exact kz):p:=h kz
theorem z_237 (kz:q) (h:Qz q->p:=by intro kz;refine ⟨tt,?_⟩;refine cta_h rfl rfl rfl q_121 ⟨tt,?_⟩;exact kz tt):p:=h fun _=>kz
theorem z_238 (h:p:=by refine cY (y_callf rfl Tryz.call233 q_297 (sl_IndexByte_s s c _) rfl) ?_;exact z_52):p:=h
theorem z_239 (h:p:=by refine z_22 ?_;exact ⟨_,res1 rfl tt q_272,_,_,rfl,rfl,cls_bool hno.symm⟩):p:=h
theorem z_241 (kz:q) (h:q->p:=by intro kz;refine cw_skip ?_;refine z_22 ?_;exact kz):p:=h kz
theorem z_242 (kz:q) (h:q->p:=by intro kz;refine cY q_282 ?_;refine cY q_167 ?_;exact kz):p:=h kz
theorem z_243 (kz:q) (h:q->p:=by intro kz;refine cG q_214 ?_;refine cG q_206 ?_;exact kz):p:=h kz
theorem z_244 (kz:q) (h:Qz q->p:=by intro kz;refine cY q_247 ?_;refine cY q_252 ?_;exact kz tt):p:=h fun _=>kz
theorem z_245 (kz:q) (h:q->p:=by intro kz;refine cY q_256 ?_;refine cY q_247 ?_;exact kz):p:=h kz
theorem z_246 (kz:q) (h:q->p:=by intro kz;refine cY q_173 ?_;refine cY q_176 ?_;exact kz):p:=h kz
theorem z_247 (kz:q) (h:q->p:=by intro kz;refine cY q_151 ?_;refine cY q_233 ?_;exact kz):p:=h kz
theorem z_248 (kz:q) (h:q->p:=by intro kz;refine hY q_149 ?_;refine hY q_239 ?_;exact kz):p:=h kz
theorem z_249 (kz:q) (h:q->p:=by intro kz;refine hY q_261 ?_;refine hY q_247 ?_;exact kz):p:=h kz
theorem z_250 (kz:q) (h:q->p:=by intro kz;refine cY q_137 ?_;refine cY q_225 ?_;exact kz):p:=h kz
theorem z_251 (kz:q) (h:q->p:=by intro kz;refine cY q_282 ?_;refine cY q_133 ?_;exact kz):p:=h kz
theorem z_252 (kz:q) (h:q->p:=by intro kz;refine z_5 ?_;refine cw_block ?_;exact kz):p:=h kz
theorem z_253 (kz:q) (h:q->p:=by intro kz;refine z_139 ?_;refine cw_ret ?_;exact kz):p:=h kz
theorem z_254 (h:p:=by refine z_185 ?_;exact ⟨_,res1 rfl tt q_272,_,_,rfl,rfl,cls_int hr.symm⟩):p:=h
theorem z_255 (kz:q) (h:q->p:=by intro kz;refine ctl_d rfl rfl (d_store rfl tt tt rfl q_272 t_97 (.inl rfl) rfl rfl (nb rfl) ?_);refine z_166 ?_;exact kz):p:=h kz
theorem z_256 (kz:q) (h:q->p:=by intro kz;refine z_1 ?_;refine z_40 ?_;exact kz):p:=h kz
theorem z_257 (kz:q) (h:q->p:=by intro kz;refine z_0 ?_;refine z_91 ?_;exact kz):p:=h kz
theorem z_258 (kz:q) (h:q->p:=by intro kz;refine chf_nil ?_;refine ctl_d rfl rfl (d_store rfl tt tt rfl q_272 t_48 q_290 rfl rfl (nb rfl) ?_);exact kz):p:=h kz
theorem z_259 (h:p:=by refine z_72 ?_;exact ⟨_,res1 rfl tt q_272,_,_,rfl,rfl,cls_bool rfl⟩):p:=h
theorem z_260 (kz:q) (h:Qz q->p:=by intro kz;refine z_2 ?_;refine cD (d_callclov rfl tt rfl t_59 trivial (by exact hclo om_ (p+1) om_) rfl ?_);exact kz tt):p:=h fun _=>kz
theorem z_261 (kz:q) (h:q->p:=by intro kz;refine hY q_237 ?_;refine ch_nil ?_;exact kz):p:=h kz
theorem z_262 (kz:q) (h:q->p:=by intro kz;refine (ccalls_of Tryz.func246 rfl rfl ?_);refine z_138 ?_;exact kz):p:=h kz
theorem z_263 (kz:q) (h:q->p:=by intro kz;refine cw_seq ?_;refine cw_draw 10 [0,1,3,7,15,0,32,96,224,480,1023,2047] q_291 q_291 rfl ?_;exact kz):p:=h kz
theorem z_264 (kz:q) (h:Qz q->p:=by intro kz;refine ctl_h rfl q_121 ⟨⟨q_100,q_184,tt⟩,?_⟩;refine ctl_h rfl q_42 ⟨⟨q_100,tt⟩,?_⟩;exact kz tt):p:=h fun _=>kz
theorem z_265 (kz:q) (h:Qz q->p:=by intro kz;refine z_123 ?_;refine z_82 ?_;exact kz tt):p:=h fun _=>kz
theorem z_266 (kz:q) (h:q->p:=by intro kz;refine cY (y_callf rfl Tryz.call236 ⟨tt,tt⟩ (so_reserved_s (tk T n).t _) rfl) ?_;refine co_nil ?_;exact kz):p:=h kz
theorem z_268 (kz:q) (h:Qz q->p:=by intro kz;refine z_148 ?_;refine z_42 ?_;refine z_54 ?_;exact kz tt):p:=h fun _=>kz
theorem z_269 (kz:q) (h:q->p:=by intro kz;refine z_34 ?_;refine hY q_134 ?_;refine hY q_221 ?_;exact kz):p:=h kz
theorem z_270 (kz:q) (h:q->p:=by intro kz;refine cY q_247 ?_;refine cG q_125 ?_;refine cG q_209 ?_;exact kz):p:=h kz
theorem z_271 (h:p:=by refine z_4 ?_;exact ⟨_,res1 rfl tt q_272,⟨(),rfl,rfl,tt⟩⟩):p:=h
theorem z_272 (kz:q) (h:q->p:=by intro kz;refine cdef_of Tryz.func154 rfl rfl rfl rfl rfl rfl rfl rfl rfl rfl de_ de_ rfl rfl ?_;refine z_2 ?_;exact kz):p:=h kz
theorem z_273 (kz:q) (h:q->p:=by intro kz;refine z_242 ?_;refine cD (d_store rfl tt tt rfl q_272 t_3 (.inl rfl) hk rfl (nb rfl) ?_);exact kz):p:=h kz
theorem z_274 (kz:q) (h:q->p:=by intro kz;refine cD (d_store rfl tt tt rfl q_272 t_3 (.inl rfl) rfl rfl (nb rfl) ?_);refine z_81 ?_;exact kz):p:=h kz
theorem z_275 (kz:q) (h:q->p:=by intro kz;refine cY q_40 ?_;refine cD (d_store rfl tt tt rfl q_272 t_82 q_290 rfl rfl (nb rfl) ?_);exact kz):p:=h kz
theorem z_276 (kz:q) (h:q->p:=by intro kz;refine z_0 ?_;refine z_146 ?_;exact kz):p:=h kz
theorem z_277 (kz:q) (h:q->p:=by intro kz;refine cY (y_field rfl tt rfl t_58 rfl t_54 de_) ?_;refine cY q_220 ?_;exact kz):p:=h kz
theorem z_278 (kz:q) (h:q->p:=by intro kz;refine cG q_240 ?_;refine z_65 ?_;exact kz):p:=h kz
theorem z_279 (kz:q) (h:q->p:=by intro kz;refine z_48 ?_;refine cY q_103 ?_;exact kz):p:=h kz
theorem z_280 (kz:q) (h:q->p:=by intro kz;refine cY q_105 ?_;refine z_24 ?_;exact kz):p:=h kz
theorem z_281 (kz:q) (h:q->p:=by intro kz;refine co_nil ?_;refine cw_ret ?_;exact kz):p:=h kz
theorem z_282 (kz:q) (h:q->p:=by intro kz;refine z_142 ?_;refine cY q_98 ?_;exact kz):p:=h kz
theorem z_283 (kz:q) (h:q->p:=by intro kz;refine z_59 ?_;refine cY q_189 ?_;exact kz):p:=h kz
theorem z_284 (h:p:=by refine z_65 ?_;exact ⟨(_,p5+1),⟨do_,do_⟩,tuk7_,rfl⟩):p:=h
end Go
