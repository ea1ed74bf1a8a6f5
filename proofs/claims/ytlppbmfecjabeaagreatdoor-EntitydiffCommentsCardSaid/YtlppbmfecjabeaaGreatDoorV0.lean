/- Names for closed terms that are often repeated. -/
import Derived.WalkKit
import Derived.Test.YtlppbmfecjabeaaGreatDoorProg
namespace Go
open Go.Proofs.Tryz
abbrev t_0:=@sizeOf9
abbrev t_1:=@sizeOf3
abbrev t_2:=@runUnderlying26
abbrev t_3:=@zeroValue9
abbrev t_4:=@sizeOf39
abbrev t_5:=@runUnderlying36
abbrev t_6:=@runUnderlying9
abbrev t_7:=@runUnderlying22
abbrev t_8:=@runUnderlying149
abbrev t_9:=@zeroValue3
abbrev t_10:=@isAgg9
abbrev t_11:=@zeroValue39
abbrev t_12:=@runUnderlying205
abbrev t_13:=@call200
abbrev t_14:=@isAgg3
abbrev t_15:=@sizeOf5
abbrev t_16:=@sizeOf54
abbrev t_17:=@zeroValue54
abbrev t_18:=@call193
abbrev t_19:=@runUnderlying30
abbrev t_20:=@sizeOf231
abbrev t_21:=@sizeOf26
abbrev t_22:=@zeroValue5
abbrev t_23:=@sizeOf119
abbrev t_24:=@typeInfo9
abbrev t_25:=@zeroValue59
abbrev t_26:=@call19
abbrev t_27:=@sizeOf32
abbrev t_28:=@call279
abbrev t_29:=@runUnderlying67
abbrev t_30:=@typeInfo39
abbrev t_31:=@call20
abbrev t_32:=@zeroValue67
abbrev t_33:=@runUnderlying212
abbrev t_34:=@call284
abbrev t_35:=@call12
abbrev t_36:=@call195
abbrev t_37:=@sizeOf212
abbrev t_38:=@runUnderlying65
abbrev t_39:=@sizeOf59
abbrev t_40:=@sizeOf305
abbrev t_41:=@isAgg39
abbrev t_42:=@zeroValue231
abbrev t_43:=@runUnderlying117
abbrev t_44:=@runUnderlying231
abbrev t_45:=@runUnderlying119
abbrev t_46:=@zeroValue119
abbrev t_47:=@sizeOf67
abbrev t_48:=@typeInfo5
abbrev t_49:=@runUnderlying113
abbrev t_50:=@zeroValue32
abbrev t_51:=@runUnderlying5
abbrev t_52:=@sizeOf117
abbrev t_53:=@call241
abbrev t_54:=@runUnderlying112
abbrev t_55:=@runUnderlying302
abbrev t_56:=@runUnderlying309
abbrev t_57:=@call163
abbrev t_58:=@runUnderlying39
abbrev t_59:=@call74
abbrev t_60:=@call118
abbrev t_61:=@runUnderlying195
abbrev t_62:=@runUnderlying199
abbrev t_63:=@zeroValue212
abbrev t_64:=@call277
abbrev t_65:=@runUnderlying54
abbrev t_66:=@isAgg5
abbrev t_67:=@call124
abbrev t_68:=@runUnderlying191
abbrev t_69:=@isAgg231
abbrev t_70:=@call194
abbrev t_71:=@call235
abbrev t_72:=@call160
abbrev t_73:=@call196
abbrev t_74:=@sizeOf22
abbrev t_75:=@call317
abbrev t_76:=@isAgg40
abbrev t_77:=@sizeOf129
abbrev t_78:=@runUnderlying129
abbrev t_79:=@sizeOf175
abbrev t_80:=@runUnderlying110
abbrev t_81:=@runUnderlying59
abbrev t_82:=@runUnderlying109
abbrev t_83:=@call280
abbrev t_84:=@call202
abbrev t_85:=@isAgg25
abbrev t_86:=@sizeOf25
abbrev t_87:=@typeInfo54
abbrev t_88:=@call122
abbrev t_89:=@isAgg32
abbrev t_90:=@runUnderlying165
abbrev t_91:=@eqGuardType39
abbrev t_92:=@call192
abbrev t_93:=@call237
abbrev t_94:=@runUnderlying275
abbrev t_95:=@isAgg119
abbrev t_96:=@sizeOf65
abbrev t_97:=@sizeOf40
abbrev t_98:=@runUnderlying56
abbrev t_99:=@isAgg22
abbrev t_100:=@zeroValue305
abbrev t_101:=@call246
abbrev t_102:=@underlying3
abbrev t_103:=@isAgg4
abbrev t_104:=@sizeOf4
abbrev t_105:=@call306
abbrev t_106:=@call159
abbrev t_107:=@isAgg26
abbrev t_108:=@call72
abbrev t_109:=@zeroValue36
abbrev t_110:=@call16
abbrev t_111:=@call38
abbrev t_112:=@call61
abbrev t_113:=@runUnderlying32
abbrev t_114:=@runUnderlying3
abbrev t_115:=@call123
abbrev t_116:=@call307
abbrev t_117:=@call278
abbrev t_118:=@call191
abbrev t_119:=@typeInfo3
abbrev t_120:=@isAgg67
abbrev t_121:=@runUnderlying25
abbrev t_122:=@runUnderlying23
abbrev t_123:=@runUnderlying175
abbrev t_124:=@zeroValue175
abbrev t_125:=@isAgg175
abbrev t_126:=@isAgg59
abbrev t_127:=@isAgg305
abbrev t_128:=@runUnderlying242
abbrev t_129:=@func217
abbrev t_130:=@underlying0
abbrev t_131:=@isAgg0
abbrev t_132:=@sizeOf0
abbrev t_133:=@zeroValue0
abbrev t_134:=@underlying4
abbrev t_135:=@zeroValue4
abbrev t_136:=@underlying5
abbrev t_137:=@underlying9
abbrev t_138:=@sizeOf149
abbrev t_139:=@underlying141
abbrev t_140:=@isAgg141
abbrev t_141:=@sizeOf141
abbrev t_142:=@zeroValue141
abbrev t_143:=@underlying262
abbrev t_144:=@isAgg262
abbrev t_145:=@sizeOf262
abbrev t_146:=@zeroValue262
abbrev t_147:=@underlying86
abbrev t_148:=@isAgg86
abbrev t_149:=@sizeOf86
abbrev t_150:=@zeroValue86
abbrev t_151:=@call113
abbrev t_152:=@runUnderlying86
abbrev t_153:=@call90
abbrev t_154:=@isAgg27
abbrev t_155:=@call51
abbrev t_156:=@call120
abbrev t_157:=@sizeOf36
abbrev t_158:=@runUnderlying29
abbrev t_159:=@sizeOf244
abbrev t_160:=@sizeOf30
abbrev n_0:=@List.mem_of_getElem?
abbrev n_1:=@List.getElem?_eq_some_iff
abbrev n_2:=@Nat.ne_of_beq_eq_false
abbrev n_3:=@Nat.zero_le
abbrev n_4:=@List.length_append
abbrev n_5:=@Nat.le_refl
abbrev n_6:=@Option.bind_some
abbrev n_7:=@List.length_cons
abbrev n_8:=@List.append_assoc
abbrev n_9:=@List.mem_map
abbrev n_10:=@Nat.zero_add
abbrev n_11:=@List.mem_iff_getElem?
abbrev n_12:=@List.length_nil
abbrev n_13:=@List.mem_cons
abbrev n_14:=@List.getElem?_map
abbrev n_15:=@List.getElem?_append_left
abbrev n_16:=@Array.getElem?_eq_some_iff
abbrev n_17:=@List.length_map
abbrev n_18:=@List.mem_append
abbrev n_19:=@Nat.mul_le_mul_right
abbrev n_20:=@Nat.add_mul
abbrev n_21:=@Array.getD_eq_getD_getElem?
abbrev n_22:=@List.all_eq_true
abbrev n_23:=@Nat.lt_or_ge
abbrev n_24:=@Array.getElem?_eq_getElem
abbrev n_25:=@List.drop_eq_getElem_cons
abbrev n_26:=@Option.map_eq_some_iff
abbrev n_27:=@List.getElem?_append_right
abbrev n_28:=@List.take_of_length_le
abbrev n_29:=@Bool.and_eq_true
abbrev n_30:=@Nat.blt_eq
abbrev n_31:=@List.getElem?_take
abbrev n_32:=@List.append_nil
abbrev n_33:=@List.nil_append
abbrev n_34:=@List.drop_eq_nil_of_le
abbrev n_35:=@List.getElem?_eq_getElem
abbrev n_36:=@Nat.eq_of_beq_eq_true
abbrev n_37:=@List.getD_eq_getElem?_getD
abbrev n_38:=@Nat.add_zero
abbrev n_39:=@Bool.or_eq_true
abbrev n_40:=@decide_eq_true
abbrev n_41:=@List.pairwise_cons
abbrev n_42:=@List.getElem?_set_ne
abbrev n_43:=@Array.getElem?_eq_none
abbrev n_44:=@Option.getD_some
abbrev n_45:=@List.getElem?_append
abbrev n_46:=@List.length_take
abbrev n_47:=@Array.mem_of_getElem?
abbrev n_48:=@List.cons_append
abbrev n_49:=@List.getElem?_drop
abbrev n_50:=@List.take_add_one
abbrev n_51:=@decide_eq_true_eq
abbrev n_52:=@List.mem_of_mem_drop
abbrev n_53:=@Nat.mod_lt
abbrev n_54:=@Nat.lt_of_lt_of_le
abbrev n_55:=@List.take_length
abbrev n_56:=@List.filter_cons
abbrev n_57:=@decide_eq_false
abbrev n_58:=@List.take_succ_cons
abbrev n_59:=@List.mem_cons_of_mem
abbrev n_60:=@List.mem_of_mem_take
abbrev n_61:=@Array.length_toList
abbrev n_62:=@List.map_append
abbrev n_63:=@Int.toNat_natCast
abbrev n_64:=@Array.getElem?_setIfInBounds_ne
abbrev n_65:=@List.map_cons
abbrev n_66:=@Nat.add_assoc
abbrev n_67:=@List.getElem?_set
abbrev n_68:=@Bool.not_true
abbrev n_69:=@List.length_pos_iff
abbrev n_70:=@List.drop_zero
abbrev n_71:=@Option.map_some
abbrev n_72:=@List.length_drop
abbrev n_73:=@Bool.eq_false_iff
abbrev n_74:=@Bool.false_eq_true
abbrev n_75:=@Bool.false_or
abbrev n_76:=@List.getElem?_set_self
abbrev n_77:=@List.getElem?_concat_length
abbrev n_78:=@Array.ext_getElem?
abbrev n_79:=@List.takeWhile_cons
abbrev n_80:=@List.not_mem_nil
abbrev n_81:=@List.mem_flatMap
abbrev n_82:=@List.flatMap_cons
abbrev n_83:=@List.mem_cons_self
abbrev n_84:=@List.getElem?_eq_none
abbrev n_85:=@Array.getElem?_modify
abbrev n_86:=@List.mem_append_left
abbrev n_87:=@List.eq_nil_of_length_eq_zero
abbrev n_88:=@Bool.and_eq_true_iff
abbrev n_89:=@Nat.le_trans
abbrev n_90:=@List.mem_range
abbrev n_91:=@List.getElem?_cons_zero
abbrev n_92:=@Nat.eq_zero_or_pos
abbrev n_93:=@List.ext_getElem?
abbrev n_94:=@Nat.sub_self
abbrev n_95:=@Nat.mul_one
abbrev n_96:=@List.mem_singleton
abbrev n_97:=@Bool.true_and
abbrev n_98:=@List.find?_eq_none
abbrev n_99:=@Int.le_refl
abbrev n_100:=@Array.getElem?_append
abbrev n_101:=@Array.getElem?_map
abbrev n_102:=@Nat.add_comm
abbrev n_103:=@List.mem_append_right
abbrev n_104:=@Nat.mod_eq_of_lt
abbrev n_105:=@Nat.mul_comm
abbrev n_106:=@Array.getElem?_append_left
abbrev n_107:=@List.filter_eq_self
abbrev n_108:=@List.mem_filter
abbrev n_109:=@Option.isSome_iff_exists
abbrev n_110:=@List.drop_length
abbrev n_111:=@List.length_singleton
abbrev n_112:=@Option.bind_map
abbrev n_113:=@Array.getElem?_replicate
abbrev n_114:=@Array.getElem?_push
abbrev n_115:=@List.getElem_mem
abbrev n_116:=@List.foldl_cons
abbrev n_117:=@List.any_eq_true
abbrev n_118:=@List.getElem?_cons_succ
abbrev n_119:=@List.length_mergeSort
abbrev n_120:=@UInt8.toNat_inj
abbrev n_121:=@List.take_append_getElem
abbrev n_122:=@UInt8.lt_iff_toNat_lt
abbrev n_123:=@List.mem_of_find?_eq_some
abbrev n_124:=@List.mergeSort_perm
abbrev n_125:=@List.drop_append_of_le_length
abbrev n_126:=@Array.size_append
abbrev n_127:=@Nat.lt_or_gt_of_ne
abbrev n_128:=@Nat.lt_trichotomy
abbrev n_129:=@List.length_eraseIdx_of_lt
abbrev n_130:=@List.isPrefixOf_iff_prefix
abbrev n_131:=@List.eq_nil_iff_forall_not_mem
abbrev n_132:=@List.perm_ext_iff_of_nodup
abbrev n_133:=@List.getElem?_replicate
abbrev n_134:=@Int.tdiv_eq_ediv_of_nonneg
abbrev n_135:=@Array.getElem?_setIfInBounds
abbrev n_136:=@List.mem_eraseIdx_iff_getElem?
abbrev n_137:=@Nat.add_sub_cancel_left
abbrev n_138:=@List.pairwise_mergeSort
def Qz (q:Prop):Prop:=True->q
variable {p q:Prop}
theorem nb {a b : Nat} (h : Nat.ble a b = true) : a <= b := Nat.le_of_ble_eq_true h
theorem tt : True := True.intro
theorem q_0 (h:p:=by exact ⟨⟨tt, (by first | exact .ptr rfl | exact .map rfl | exact .vec rfl | exact .same rfl uo_ | exact RenV.grow (f := Ky.cv) (fun _ => ⟨.val _, .val _, .val _, tt⟩) rfl | exact ren_lst (f := scv) (fun _ => ⟨.val _, tt⟩) _)⟩, ⟨tt, (by first | exact .ptr rfl | exact .map rfl | exact .vec rfl | exact .same rfl uo_ | exact RenV.grow (f := Ky.cv) (fun _ => ⟨.val _, .val _, .val _, tt⟩) rfl | exact ren_lst (f := scv) (fun _ => ⟨.val _, tt⟩) _)⟩, ⟨tt, (by first | exact .ptr rfl | exact .map rfl | exact .vec rfl | exact .same rfl uo_ | exact RenV.grow (f := Ky.cv) (fun _ => ⟨.val _, .val _, .val _, tt⟩) rfl | exact ren_lst (f := scv) (fun _ => ⟨.val _, tt⟩) _)⟩, ⟨tt, (by first | exact .ptr rfl | exact .map rfl | exact .vec rfl | exact .same rfl uo_ | exact RenV.grow (f := Ky.cv) (fun _ => ⟨.val _, .val _, .val _, tt⟩) rfl | exact ren_lst (f := scv) (fun _ => ⟨.val _, tt⟩) _)⟩, ⟨tt, (by first | exact .ptr rfl | exact .map rfl | exact .vec rfl | exact .same rfl uo_ | exact RenV.grow (f := Ky.cv) (fun _ => ⟨.val _, .val _, .val _, tt⟩) rfl | exact ren_lst (f := scv) (fun _ => ⟨.val _, tt⟩) _)⟩, tt⟩):p:=h
theorem q_1 (h:p:=by exact ⟨⟨tt, (by first | exact .ptr rfl | exact .map rfl | exact .vec rfl | exact .same rfl uo_ | exact RenV.grow (f := Fi.cv) (fun a => ⟨.val _, .val _, tt⟩) rfl)⟩, ⟨tt, (by first | exact .ptr rfl | exact .map rfl | exact .vec rfl | exact .same rfl uo_ | exact RenV.grow (f := Fi.cv) (fun a => ⟨.val _, .val _, tt⟩) rfl)⟩, ⟨tt, (by first | exact .ptr rfl | exact .map rfl | exact .vec rfl | exact .same rfl uo_ | exact RenV.grow (f := Fi.cv) (fun a => ⟨.val _, .val _, tt⟩) rfl)⟩, ⟨tt, (by first | exact .ptr rfl | exact .map rfl | exact .vec rfl | exact .same rfl uo_ | exact RenV.grow (f := Fi.cv) (fun a => ⟨.val _, .val _, tt⟩) rfl)⟩, ⟨tt, (by first | exact .ptr rfl | exact .map rfl | exact .vec rfl | exact .same rfl uo_ | exact RenV.grow (f := Fi.cv) (fun a => ⟨.val _, .val _, tt⟩) rfl)⟩, ⟨tt, (by first | exact .ptr rfl | exact .map rfl | exact .vec rfl | exact .same rfl uo_ | exact RenV.grow (f := Fi.cv) (fun a => ⟨.val _, .val _, tt⟩) rfl)⟩, tt⟩):p:=h
theorem q_2 (h:p:=by exact ⟨⟨tt, (by first | exact .ptr rfl | exact .map rfl | exact .vec rfl | exact .same rfl uo_ | exact RenV.same rfl (old_fis _ _ _))⟩, ⟨tt, (by first | exact .ptr rfl | exact .map rfl | exact .vec rfl | exact .same rfl uo_ | exact RenV.same rfl (old_fis _ _ _))⟩, ⟨tt, (by first | exact .ptr rfl | exact .map rfl | exact .vec rfl | exact .same rfl uo_ | exact RenV.same rfl (old_fis _ _ _))⟩, ⟨tt, (by first | exact .ptr rfl | exact .map rfl | exact .vec rfl | exact .same rfl uo_ | exact RenV.same rfl (old_fis _ _ _))⟩, ⟨tt, (by first | exact .ptr rfl | exact .map rfl | exact .vec rfl | exact .same rfl uo_ | exact RenV.same rfl (old_fis _ _ _))⟩, ⟨tt, (by first | exact .ptr rfl | exact .map rfl | exact .vec rfl | exact .same rfl uo_ | exact RenV.same rfl (old_fis _ _ _))⟩, ⟨tt, (by first | exact .ptr rfl | exact .map rfl | exact .vec rfl | exact .same rfl uo_ | exact RenV.same rfl (old_fis _ _ _))⟩, tt⟩):p:=h
theorem q_3 (h:p:=by exact ⟨⟨tt, (by first | exact .ptr rfl | exact .map rfl | exact .vec rfl | exact .same rfl uo_ | exact RenV.grow (f := Tok.cv) (fun _ => ⟨.val _, .val _, .val _, .val _, tt⟩) rfl)⟩, ⟨tt, (by first | exact .ptr rfl | exact .map rfl | exact .vec rfl | exact .same rfl uo_ | exact RenV.grow (f := Tok.cv) (fun _ => ⟨.val _, .val _, .val _, .val _, tt⟩) rfl)⟩, ⟨tt, (by first | exact .ptr rfl | exact .map rfl | exact .vec rfl | exact .same rfl uo_ | exact RenV.grow (f := Tok.cv) (fun _ => ⟨.val _, .val _, .val _, .val _, tt⟩) rfl)⟩, ⟨tt, (by first | exact .ptr rfl | exact .map rfl | exact .vec rfl | exact .same (congrArg (fun z : Int => CV.val (.int .i64 z)) (by show _ = ((lineE s i1 : Nat) : Int); omega)) uo_ | exact RenV.grow (f := Tok.cv) (fun _ => ⟨.val _, .val _, .val _, .val _, tt⟩) rfl)⟩, tt⟩):p:=h
theorem q_4 (h:p:=by exact ⟨⟨tt, (by first | exact .ptr rfl | exact .map rfl | exact .vec rfl | exact .same rfl uo_ | exact RenV.grow (f := Sn.cv) (fun _ => ⟨.val _, .val _, tt⟩) rfl)⟩, ⟨tt, (by first | exact .ptr rfl | exact .map rfl | exact .vec rfl | exact .same rfl uo_ | exact RenV.grow (f := Sn.cv) (fun _ => ⟨.val _, .val _, tt⟩) rfl)⟩, ⟨tt, (by first | exact .ptr rfl | exact .map rfl | exact .vec rfl | exact .same rfl uo_ | exact RenV.grow (f := Sn.cv) (fun _ => ⟨.val _, .val _, tt⟩) rfl)⟩, ⟨tt, (by first | exact .ptr rfl | exact .map rfl | exact .vec rfl | exact .same rfl uo_ | exact RenV.grow (f := Sn.cv) (fun _ => ⟨.val _, .val _, tt⟩) rfl)⟩, ⟨tt, (by first | exact .ptr rfl | exact .map rfl | exact .vec rfl | exact .same rfl uo_ | exact RenV.grow (f := Sn.cv) (fun _ => ⟨.val _, .val _, tt⟩) rfl)⟩, tt⟩):p:=h
theorem q_5 (h:p:=by exact ⟨⟨tt, (by first | exact .ptr rfl | exact .map rfl | exact .vec rfl | exact .same rfl uo_ | exact RenV.same rfl (old_fis _ _ _))⟩, ⟨tt, (by first | exact .ptr rfl | exact .map rfl | exact .vec rfl | exact .same rfl uo_ | exact RenV.same rfl (old_fis _ _ _))⟩, ⟨tt, (by first | exact .ptr rfl | exact .map rfl | exact .vec rfl | exact .same rfl uo_ | exact RenV.same rfl (old_fis _ _ _))⟩, ⟨tt, (by first | exact .ptr rfl | exact .map rfl | exact .vec rfl | exact .same rfl uo_ | exact RenV.same rfl (old_fis _ _ _))⟩, ⟨tt, (by first | exact .ptr rfl | exact .map rfl | exact .vec rfl | exact .same rfl uo_ | exact RenV.same rfl (old_fis _ _ _))⟩, ⟨tt, (by first | exact .ptr rfl | exact .map rfl | exact .vec rfl | exact .same rfl uo_ | exact RenV.same rfl (old_fis _ _ _))⟩, tt⟩):p:=h
theorem q_6 (h:p:=by exact ⟨⟨tt, (by first | exact .ptr rfl | exact .map rfl | exact .vec rfl | exact .same rfl uo_ | exact RenV.grow (f := scv) (fun a => ⟨.val _, tt⟩) rfl)⟩, ⟨tt, (by first | exact .ptr rfl | exact .map rfl | exact .vec rfl | exact .same rfl uo_ | exact RenV.grow (f := scv) (fun a => ⟨.val _, tt⟩) rfl)⟩, ⟨tt, (by first | exact .ptr rfl | exact .map rfl | exact .vec rfl | exact .same rfl uo_ | exact RenV.grow (f := scv) (fun a => ⟨.val _, tt⟩) rfl)⟩, ⟨tt, (by first | exact .ptr rfl | exact .map rfl | exact .vec rfl | exact .same rfl uo_ | exact RenV.grow (f := scv) (fun a => ⟨.val _, tt⟩) rfl)⟩, ⟨tt, (by first | exact .ptr rfl | exact .map rfl | exact .vec rfl | exact .same rfl uo_ | exact RenV.grow (f := scv) (fun a => ⟨.val _, tt⟩) rfl)⟩, tt⟩):p:=h
theorem q_7 (h:p:=by exact ⟨⟨tt, (by first | exact .ptr rfl | exact .map rfl | exact .vec rfl | exact .same rfl uo_ | exact RenV.grow (f := Tok.cv) (fun _ => ⟨.val _, .val _, .val _, .val _, tt⟩) rfl)⟩, ⟨tt, (by first | exact .ptr rfl | exact .map rfl | exact .vec rfl | exact .same rfl uo_ | exact RenV.grow (f := Tok.cv) (fun _ => ⟨.val _, .val _, .val _, .val _, tt⟩) rfl)⟩, ⟨tt, (by first | exact .ptr rfl | exact .map rfl | exact .vec rfl | exact .same rfl uo_ | exact RenV.grow (f := Tok.cv) (fun _ => ⟨.val _, .val _, .val _, .val _, tt⟩) rfl)⟩, ⟨tt, (by first | exact .ptr rfl | exact .map rfl | exact .vec rfl | exact .same rfl uo_ | exact RenV.grow (f := Tok.cv) (fun _ => ⟨.val _, .val _, .val _, .val _, tt⟩) rfl)⟩, tt⟩):p:=h
theorem q_8 (h:p:=by exact ⟨⟨tt, (by first | exact .ptr rfl | exact .map rfl | exact .vec rfl | exact .same rfl uo_)⟩, ⟨tt, (by first | exact .ptr rfl | exact .map rfl | exact .vec rfl | exact .same rfl uo_)⟩, ⟨tt, (by first | exact .ptr rfl | exact .map rfl | exact .vec rfl | exact .same rfl uo_)⟩, ⟨tt, (by first | exact .ptr rfl | exact .map rfl | exact .vec rfl | exact .same rfl uo_)⟩, ⟨tt, (by first | exact .ptr rfl | exact .map rfl | exact .vec rfl | exact .same rfl uo_)⟩, ⟨tt, (by first | exact .ptr rfl | exact .map rfl | exact .vec rfl | exact .same rfl uo_)⟩, ⟨tt, (by first | exact .ptr rfl | exact .map rfl | exact .vec rfl | exact .same rfl uo_)⟩, tt⟩):p:=h
theorem q_9 (h:p:=by exact ⟨⟨tt, (by first | exact .ptr rfl | exact .map rfl | exact .vec rfl | exact .same rfl uo_ | exact RenV.grow (f := scv) (fun _ => ⟨.val _, tt⟩) rfl)⟩, ⟨tt, (by first | exact .ptr rfl | exact .map rfl | exact .vec rfl | exact .same rfl uo_ | exact RenV.grow (f := scv) (fun _ => ⟨.val _, tt⟩) rfl)⟩, ⟨tt, (by first | exact .ptr rfl | exact .map rfl | exact .vec rfl | exact .same rfl uo_ | exact RenV.grow (f := scv) (fun _ => ⟨.val _, tt⟩) rfl)⟩, ⟨tt, (by first | exact .ptr rfl | exact .map rfl | exact .vec rfl | exact .same rfl uo_ | exact RenV.grow (f := scv) (fun _ => ⟨.val _, tt⟩) rfl)⟩, tt⟩):p:=h
theorem q_10 (h:p:=by exact ⟨⟨tt, (by first | exact .ptr rfl | exact .map rfl | exact .vec rfl | exact .same rfl uo_ | exact RenV.grow (f := scv) (fun a => ⟨.val _, tt⟩) rfl)⟩, ⟨tt, (by first | exact .ptr rfl | exact .map rfl | exact .vec rfl | exact .same rfl uo_ | exact RenV.grow (f := scv) (fun a => ⟨.val _, tt⟩) rfl)⟩, ⟨tt, (by first | exact .ptr rfl | exact .map rfl | exact .vec rfl | exact .same rfl uo_ | exact RenV.grow (f := scv) (fun a => ⟨.val _, tt⟩) rfl)⟩, ⟨tt, (by first | exact .ptr rfl | exact .map rfl | exact .vec rfl | exact .same rfl uo_ | exact RenV.grow (f := scv) (fun a => ⟨.val _, tt⟩) rfl)⟩, tt⟩):p:=h
theorem q_11 (h:p:=by exact ⟨⟨tt, (by first | exact .ptr rfl | exact .map rfl | exact .vec rfl | exact .same rfl uo_ | exact .same rfl (old_strs _ ([] : List Str) _))⟩, ⟨tt, (by first | exact .ptr rfl | exact .map rfl | exact .vec rfl | exact .same rfl uo_ | exact .same rfl (old_strs _ ([] : List Str) _))⟩, ⟨tt, (by first | exact .ptr rfl | exact .map rfl | exact .vec rfl | exact .same rfl uo_ | exact .same rfl (old_strs _ ([] : List Str) _))⟩, ⟨tt, (by first | exact .ptr rfl | exact .map rfl | exact .vec rfl | exact .same rfl uo_ | exact .same rfl (old_strs _ ([] : List Str) _))⟩, tt⟩):p:=h
theorem q_12 (h:p:=by exact ⟨⟨tt, (by first | exact .ptr rfl | exact .map rfl | exact .vec rfl | exact .same rfl uo_)⟩, ⟨tt, (by first | exact .ptr rfl | exact .map rfl | exact .vec rfl | exact .same rfl uo_)⟩, ⟨tt, (by first | exact .ptr rfl | exact .map rfl | exact .vec rfl | exact .same rfl uo_)⟩, ⟨tt, (by first | exact .ptr rfl | exact .map rfl | exact .vec rfl | exact .same rfl uo_)⟩, ⟨tt, (by first | exact .ptr rfl | exact .map rfl | exact .vec rfl | exact .same rfl uo_)⟩, ⟨tt, (by first | exact .ptr rfl | exact .map rfl | exact .vec rfl | exact .same rfl uo_)⟩, tt⟩):p:=h
theorem q_13 (h:p:=by exact ⟨⟨tt, (by first | exact .ptr rfl | exact .map rfl | exact .vec rfl | exact .same rfl uo_)⟩, ⟨tt, (by first | exact .ptr rfl | exact .map rfl | exact .vec rfl | exact .same rfl uo_)⟩, ⟨tt, (by first | exact .ptr rfl | exact .map rfl | exact .vec rfl | exact .same rfl uo_)⟩, ⟨tt, (by first | exact .ptr rfl | exact .map rfl | exact .vec rfl | exact .same rfl uo_)⟩, ⟨tt, (by first | exact .ptr rfl | exact .map rfl | exact .vec rfl | exact .same rfl uo_)⟩, tt⟩):p:=h
theorem q_14 (h:p:=by exact ⟨⟨tt, (by first | exact .ptr rfl | exact .map rfl | exact .vec rfl | exact .same rfl uo_ | exact RenV.grow (f := icv) (fun _ => ⟨.val _, tt⟩) rfl)⟩, ⟨tt, (by first | exact .ptr rfl | exact .map rfl | exact .vec rfl | exact .same rfl uo_ | exact RenV.grow (f := icv) (fun _ => ⟨.val _, tt⟩) rfl)⟩, ⟨tt, (by first | exact .ptr rfl | exact .map rfl | exact .vec rfl | exact .same rfl uo_ | exact RenV.grow (f := icv) (fun _ => ⟨.val _, tt⟩) rfl)⟩, tt⟩):p:=h
theorem q_15 (h:p:=by exact ⟨⟨tt, (by first | exact .ptr rfl | exact .map rfl | exact .vec rfl | exact .same rfl uo_ | exact RenV.grow (f := Ky.cv) (fun _ => ⟨.val _, .val _, .val _, tt⟩) rfl | exact ren_lst (f := scv) (fun _ => ⟨.val _, tt⟩) _)⟩, ⟨tt, (by first | exact .ptr rfl | exact .map rfl | exact .vec rfl | exact .same rfl uo_ | exact RenV.grow (f := Ky.cv) (fun _ => ⟨.val _, .val _, .val _, tt⟩) rfl | exact ren_lst (f := scv) (fun _ => ⟨.val _, tt⟩) _)⟩, tt⟩):p:=h
theorem q_16 (h:p:=by exact ⟨⟨tt, (by first | exact .ptr rfl | exact .map rfl | exact .vec rfl | exact .same rfl uo_ | exact RenV.grow (f := En.cells) (fun _ => ⟨.val _, .val _, .val _, .val _, .val _, .val _, tt⟩) rfl)⟩, ⟨tt, (by first | exact .ptr rfl | exact .map rfl | exact .vec rfl | exact .same rfl uo_ | exact RenV.grow (f := En.cells) (fun _ => ⟨.val _, .val _, .val _, .val _, .val _, .val _, tt⟩) rfl)⟩, tt⟩):p:=h
theorem q_17 (h:p:=by exact ⟨⟨tt, (by first | exact .ptr rfl | exact .map rfl | exact .vec rfl | exact .same rfl uo_)⟩, ⟨tt, (by first | exact .ptr rfl | exact .map rfl | exact .vec rfl | exact .same rfl uo_)⟩, ⟨tt, (by first | exact .ptr rfl | exact .map rfl | exact .vec rfl | exact .same rfl uo_)⟩, ⟨tt, (by first | exact .ptr rfl | exact .map rfl | exact .vec rfl | exact .same rfl uo_)⟩, tt⟩):p:=h
theorem q_18 (h:p:=by exact ⟨⟨tt, (by first | exact .ptr rfl | exact .map rfl | exact .vec rfl | exact .same rfl uo_ | exact RenV.grow (f := scv) (fun _ => ⟨.val _, tt⟩) rfl)⟩, ⟨tt, (by first | exact .ptr rfl | exact .map rfl | exact .vec rfl | exact .same rfl uo_ | exact RenV.grow (f := scv) (fun _ => ⟨.val _, tt⟩) rfl)⟩, tt⟩):p:=h
theorem q_19 (h:p:=by exact (src_list rfl (by first | exact rows_len (by intro a; rfl) _ | (intro r hr; simp at hr; done) | (intro r hr; simp at hr; subst hr; rfl) | (intro r hr; exact rows_len (by intro a; rfl) _ r (n_60 (n_52 hr))) | (intro r hr; simp at hr; obtain ⟨a, _, rfl⟩ := hr; rfl)))):p:=h
theorem q_20 (h:p:=by exact ⟨⟨tt, (by first | exact .ptr rfl | exact .map rfl | exact .vec rfl | exact .same rfl uo_)⟩, ⟨tt, (by first | exact .ptr rfl | exact .map rfl | exact .vec rfl | exact .same rfl uo_)⟩, ⟨tt, (by first | exact .ptr rfl | exact .map rfl | exact .vec rfl | exact .same rfl uo_)⟩, tt⟩):p:=h
theorem q_21 (h:p:=by first | exact rows_len (by intro a; rfl) _ | assumption | (intro r hr; exact rows_len (by intro a; rfl) _ r (n_60 (n_52 hr))) | (intro r hr; simp at hr; obtain ⟨a, _, rfl⟩ := hr; rfl)):p:=h
theorem q_22 (h:p:=by exact (y_lit (([[43], [45], [42], [47], [37], [60], [61, 61]] : List Str).map scv) rfl ⟨rfl, rfl, rfl, rfl, rfl, rfl, rfl, tt⟩ t_2 t_0 t_3 rfl rfl rfl rfl rfl rfl rfl rfl rfl)):p:=h
theorem q_23 (h:p:=by exact ⟨⟨tt, _, _, _, rfl, rfl, .inr ⟨_, t_120, t_47, nb rfl, rfl⟩⟩, ⟨tt, _, _, _, rfl, rfl, .inl ⟨t_14, rfl⟩⟩, ⟨tt, _, _, _, rfl, rfl, .inl ⟨t_76, rfl⟩⟩, tt⟩):p:=h
theorem q_24 (h:p:=by exact ⟨do_, do_, do_, by dsimp only; simp only [n_4]; omega, by dsimp only; simp only [n_4, n_7, n_12]; omega, do_, do_⟩):p:=h
theorem q_25 (h:p:=by exact (y_index rfl tt tt rfl rfl t_7 t_1 om_ (rows_get (by rw [show (((m + 1 : Nat) : Int) - 1).toNat = m by omega, hnd.args]; exact rootsL_get hc)) rfl)):p:=h
theorem q_26 (h:p:=by exact ⟨tt, (by first | exact .ptr rfl | exact .map rfl | exact .vec rfl | exact .same rfl uo_ | exact RenV.grow (f := Ky.cv) (fun _ => ⟨.val _, .val _, .val _, tt⟩) rfl)⟩):p:=h
theorem q_27 (h:p:=by exact (y_build' #[(0, 1), (1, 1), (2, 1), (3, 1), (4, 1)] rfl ⟨rfl, tt, tt, tt⟩ t_33 t_63 rfl ⟨_, rfl⟩ (fun w => by kernel_rfl) rfl rfl)):p:=h
theorem q_28 (h:p:=by first | omega | (simp only [len_app, n_7, n_12] at hb ⊢; omega) | (simp only [len_app, n_7, n_12]; omega)):p:=h
theorem q_29 (h:p:=by exact (fun hg => y_index rfl hg hg rfl rfl t_19 t_16 (by first | omega | (simp at hg; omega)) (rows_get (hp (by simp at hg; omega)).1) rfl)):p:=h
theorem q_30 (h:p:=by exact (y_build' #[(0, 1), (1, 1), (2, 1), (3, 1), (4, 1)] rfl ⟨rfl, tt, tt⟩ t_33 t_63 rfl ⟨_, rfl⟩ (fun w => by kernel_rfl) rfl rfl)):p:=h
theorem q_31 (h:p:=by exact (y_lookup_gok (vc := vcE) (l := me) (a := (keyNm x.k x.p x.o)) keyN rfl tt tt rfl rfl t_80 t_25 rfl rfl (lk_dflt En.z rfl _))):p:=h
theorem q_32 (h:p:=by exact (fun hg => y_sindex rfl hg hg rfl rfl t_6 (by first | omega | (simp at hg; omega)) (b := s[e]?.getD 0) (at_get (by simp at hg; omega)))):p:=h
theorem q_33 (h:p:=by exact (hop_y rfl (y_lookup_g (vc := sv) (l := S0) (a := o) keyI rfl tt tt rfl rfl t_12 t_3 rfl rfl (lk_dflt ([] : Str) rfl _)))):p:=h
theorem q_34 (h:p:=by exact (y_build' #[(0, 1), (1, 1), (2, 1), (3, 1)] rfl ⟨rfl, tt, tt⟩ t_44 t_42 rfl ⟨_, rfl⟩ (fun w => by kernel_rfl) rfl rfl)):p:=h
theorem q_35 (h:p:=by exact (y_lookup_gok (vc := vcE) (l := me) (a := (keyNm k p o)) keyN rfl tt tt rfl rfl t_80 t_25 rfl rfl (lk_dflt En.z rfl _))):p:=h
theorem q_36 (h:p:=by exact ⟨tt, (by first | exact .ptr rfl | exact .map rfl | exact .vec rfl | exact .same rfl uo_ | exact RenV.grow (f := scv) (fun _ => ⟨.val _, tt⟩) rfl)⟩):p:=h
theorem q_37 (h:p:=by exact ⟨tt, (by first | exact .ptr rfl | exact .map rfl | exact .vec rfl | exact .same rfl uo_ | exact RenV.grow (f := bcv) (fun a => ⟨.val _, tt⟩) rfl)⟩):p:=h
theorem q_38 (h:p:=by exact ⟨⟨tt, _, _, _, rfl, rfl, .inr ⟨_, t_69, t_20, nb rfl, rfl⟩⟩, ⟨tt, (by conv => lhs; whnf)⟩, ⟨tt, (by conv => lhs; whnf)⟩, tt⟩):p:=h
theorem q_39 (h:p:=by rw [hp]; exact .tups ⟨.aggs ⟨.old (show Old _ (CV.list (([] : List Fi).map Fi.cv) false none) from old_fis _ _ _), tt⟩, .old (.val _), tt⟩):p:=h
theorem q_40 (h:p:=by exact (y_build' #[(0, 1), (1, 1), (2, 1)] rfl ⟨tt, tt, tt, tt⟩ t_123 t_124 rfl ⟨_, rfl⟩ (fun w => by kernel_rfl) rfl rfl)):p:=h
theorem q_41 (h:p:=by exact (y_build' #[(0, 1), (1, 1), (2, 1)] rfl ⟨rfl, tt, tt, tt⟩ t_58 t_11 rfl ⟨_, rfl⟩ (fun w => by kernel_rfl) rfl rfl)):p:=h
theorem q_42 (h:p:=by exact (hop_y rfl (y_build' #[(0, 1), (1, 1)] rfl ⟨tt, tt, tt⟩ t_65 t_17 rfl ⟨_, rfl⟩ (fun w => by kernel_rfl) rfl rfl))):p:=h
theorem q_43 (h:p:=by exact (hop_y rfl (y_build' #[(0, 1), (1, 1), (2, 1)] rfl tt t_29 t_32 rfl ⟨_, rfl⟩ (fun w => by kernel_rfl) rfl rfl))):p:=h
theorem q_44 (h:p:=by exact (y_lookup_gok (vc := vcS) (l := ms) (a := y.p) keyS rfl tt tt rfl rfl t_82 t_32 rfl rfl (lk_dflt Src.z rfl _))):p:=h
theorem q_45 (h:p:=by exact ⟨tt, (by first | exact .ptr rfl | exact .map rfl | exact .vec rfl | exact .same rfl uo_ | exact .same rfl (old_strs _ ([] : List Str) _))⟩):p:=h
theorem q_46 (h:p:=by exact (y_build' #[(0, 1), (1, 1), (2, 1)] rfl ⟨rfl, tt, tt⟩ t_58 t_11 rfl ⟨_, rfl⟩ (fun w => by kernel_rfl) rfl rfl)):p:=h
theorem q_47 (h:p:=by exact ⟨tt, (by first | exact .ptr rfl | exact .map rfl | exact .vec rfl | exact .same rfl uo_ | exact .same rfl (old_keys _ ([] : List Ky) _))⟩):p:=h
theorem q_48 (h:p:=by exact (y_build' #[(0, 1), (1, 1), (2, 1), (3, 1)] rfl tt t_44 t_42 rfl ⟨_, rfl⟩ (fun w => by kernel_rfl) rfl rfl)):p:=h
theorem q_49 (h:p:=by exact (y_lookup_g (vc := kv) (l := m) (a := (b.toNat : Int)) key8 rfl tt tt rfl rfl t_90 t_9 rfl rfl (lk_int _ _))):p:=h
theorem q_50 (h:p:=by exact ⟨tt, (by first | exact .ptr rfl | exact .map rfl | exact .vec rfl | exact .same rfl uo_ | exact .same rfl (old_bytes _ ([] : Str) _))⟩):p:=h
theorem q_51 (h:p:=by exact .ret (.tups ⟨.old (c := .agg ((⟨[], [], []⟩ : Src)).cells) (pure_agg (Src.pure _)).old, .old (.val _), .old (.val _), tt⟩)):p:=h
theorem q_52 (h:p:=by exact (y_build' #[(0, 1), (1, 1)] rfl ⟨rfl, rfl, tt⟩ t_65 t_17 rfl ⟨_, rfl⟩ (fun w => by kernel_rfl) rfl rfl)):p:=h
theorem q_53 (h:p:=by exact (y_build' #[(0, 1), (1, 1)] rfl ⟨tt, tt, tt⟩ t_65 t_17 rfl ⟨_, rfl⟩ (fun w => by kernel_rfl) rfl rfl)):p:=h
theorem q_54 (h:p:=by first | exact old_km _ _ | exact old_ints _ _ _ | exact old_toks _ _ _ | exact old_strs _ _ _ | exact old_bytes _ _ _):p:=h
theorem q_55 (h:p:=by exact (y_index rfl tt tt rfl rfl t_43 t_37 om_ (rows_get (by rw [hmi, hbody]; exact hdp2.he)) rfl)):p:=h
theorem q_56 (h:p:=by exact (fun hg => y_load1 rfl hg rfl t_10 (by first | exact get_len _ _ | exact get_app hq _ | exact get_app hs _) rfl)):p:=h
theorem q_57 (h:p:=by exact (y_lit [Fi.cv y] rfl ⟨tt, tt⟩ t_19 t_16 t_17 rfl rfl rfl rfl rfl rfl rfl rfl rfl)):p:=h
theorem q_58 (h:p:=by exact (fun hg => y_sub rfl hg rfl rfl rfl (by first | omega | (simp at hg; omega)) (by first | omega | (simp at hg; omega)))):p:=h
theorem q_59 (h:p:=by exact (y_lit [Fi.cv x] rfl ⟨tt, tt⟩ t_19 t_16 t_17 rfl rfl rfl rfl rfl rfl rfl rfl rfl)):p:=h
theorem q_60 (h:p:=by exact (y_lit [Fi.cv f] rfl ⟨tt, tt⟩ t_19 t_16 t_17 rfl rfl rfl rfl rfl rfl rfl rfl rfl)):p:=h
theorem q_61 (h:p:=by exact (y_build' #[(0, 1)] rfl ⟨tt, tt⟩ t_113 t_50 rfl ⟨_, rfl⟩ (fun w => by kernel_rfl) rfl rfl)):p:=h
theorem q_62 (h:p:=by exact ⟨by show List.length _ <= _; simp only [n_4, n_7, n_12]; omega, rfl⟩):p:=h
theorem q_63 (h:p:=by exact .inl ⟨n + 1, fin_st rfl (.tup fun i c h => by simp at h), by rw [pIs, if_pos hb], hW n hn (isT_ne hb de_)⟩):p:=h
theorem q_64 (h:p:=by exact (y_lit [bcv c] rfl ⟨tt, tt⟩ t_8 t_15 t_22 rfl rfl rfl rfl rfl rfl rfl rfl rfl)):p:=h
theorem q_65 (h:p:=by exact (hop_y rfl (y_scat rfl tt rfl rfl rfl (by show ([32] ++ sgn o : Str).length + 1 <= _; rw [len_app]; simp; omega)))):p:=h
theorem q_66 (h:p:=by exact ⟨⟨tt, _, _, _, rfl, rfl, .inr ⟨_, t_89, t_27, nb rfl, rfl⟩⟩, ⟨tt, (by conv => lhs; whnf)⟩, tt⟩):p:=h
theorem q_67 (h:p:=by exact (y_build' #[(0, 1)] rfl tt t_113 t_50 rfl ⟨_, rfl⟩ (fun w => by kernel_rfl) rfl rfl)):p:=h
theorem q_68 (h:p:=by exact (y_build' #[(0, 1)] rfl tt t_121 Tryz.zeroValue25 rfl ⟨_, rfl⟩ (fun w => by kernel_rfl) rfl rfl)):p:=h
theorem q_69 (h:p:=by rw [eT]; simp only [<- n_8 b]; exact fin_b (k := 6) rfl rfl de_ (pure_WR _ _ _ _ _) old_tup0):p:=h
theorem q_70 (h:p:=by rw [eT]; simp only [<- n_8 b]; exact fin_b (k := 5) rfl rfl de_ (pure_WR _ _ _ _ _) old_tup0):p:=h
theorem q_71 (h:p:=by exact (y_load1 rfl tt rfl t_14 (by first | exact get_len _ _ | exact get_app hq _ | exact get_app hs _) rfl)):p:=h
theorem q_72 (h:p:=by exact (fun hg => y_sindex rfl hg hg rfl rfl t_6 (by first | omega | (simp at hg; omega)) hb)):p:=h
theorem q_73 (h:p:=by show List.length _ <= _; simp only [n_4, n_7, n_12]; omega):p:=h
theorem q_74 (h:p:=by exact .inl ⟨(i, m, b2), fin_gr rfl rfl (nb rfl) (.val _), by rw [hsp]; exact g1, do_, g3, g4⟩):p:=h
theorem q_75 (h:p:=by exact (y_index rfl tt rfl rfl rfl t_7 t_1 om_ (rows_get (rootsL_get g0)) rfl)):p:=h
theorem q_76 (h:p:=by first | omega | (simp at hk hg; omega) | (change (_ : Bool) = _ at hk; simp at hk hg; omega)):p:=h
theorem q_77 (h:p:=by exact (y_callf rfl t_83 ⟨tt, tt⟩ (so_named_s d.name (by have := nameB_len hnm.1; omega) _) rfl)):p:=h
theorem q_78 (h:p:=by have hb : Tryz.t54.bytes = 32 := rfl; rw [hb]; first | omega | (simp; done) | (simp; omega)):p:=h
theorem q_79 (h:p:=by have hb : Tryz.t39.bytes = 40 := rfl; rw [hb]; first | omega | (simp; done) | (simp; omega)):p:=h
theorem q_80 (h:p:=by exact ⟨tt, _, _, rfl, by first | omega | (simp at hg; omega), by first | omega | (simp at hg; omega)⟩):p:=h
theorem q_81 (h:p:=by have hb : Tryz.t9.bytes = 16 := rfl; rw [hb]; first | omega | (simp; done) | (simp; omega)):p:=h
theorem q_82 (h:p:=by exact (y_callf rfl t_73 ⟨tt, tt⟩ (so_token hT hn ⟨rfl, rfl, n_2 rfl⟩) rfl)):p:=h
theorem q_83 (h:p:=by exact (y_scat rfl tt rfl rfl rfl (by simp only [len_app, n_7, n_12]; omega))):p:=h
theorem q_84 (h:p:=by exact ⟨⟨tt, (by conv => lhs; whnf)⟩, ⟨tt, (by conv => lhs; whnf)⟩, ⟨tt, (by conv => lhs; whnf)⟩, tt⟩):p:=h
theorem q_85 (h:p:=by exact (y_load_e1 rfl tt rfl t_14 rfl (by rw [hmi]; simpa using rows_get (f := icv) hv) rfl)):p:=h
theorem q_86 (h:p:=by exact (y_callf rfl Tryz.call106 ⟨tt, tt, tt⟩ (fa_declared (wat_app hσ _) _ (hok.find _ _ _)) rfl)):p:=h
theorem q_87 (h:p:=by exact ⟨tt, (by first | exact .ptr rfl | exact .map rfl | exact .vec rfl | exact .same rfl uo_)⟩):p:=h
theorem q_88 (h:p:=by exact hop_y rfl (y_field rfl tt rfl t_56 rfl t_159 de_)):p:=h
theorem q_89 (h:p:=by exact (y_scat rfl rfl tt rfl rfl (by simp only [n_7, n_12]; omega))):p:=h
theorem q_90 (h:p:=by exact (y_index rfl tt tt rfl rfl t_38 t_23 om_ (rows_get hd) rfl)):p:=h
theorem q_91 (h:p:=by exact (y_scat rfl tt rfl rfl rfl (by simp only [n_7, n_12]; omega))):p:=h
theorem q_92 (h:p:=by exact (y_index rfl tt tt rfl rfl t_122 t_77 om_ (rows_get hb) rfl)):p:=h
theorem q_93 (h:p:=by exact (y_index rfl tt tt rfl rfl t_19 t_16 om_ (rows_get hb) rfl)):p:=h
theorem q_94 (h:p:=by exact (y_index rfl tt tt rfl rfl t_2 t_0 om_ (rows_get hb) rfl)):p:=h
theorem q_95 (h:p:=by exact .inl ⟨(i6, n5, b6), fin_gr rfl rfl (nb rfl) (.val _), hsp, do_, kn5, y6⟩):p:=h
theorem q_96 (h:p:=by exact (y_index rfl tt tt rfl rfl t_2 t_0 om_ (rows_get hy) rfl)):p:=h
theorem q_97 (h:p:=by exact hop_y rfl (y_load rfl tt rfl t_69 t_20 rfl (nb rfl))):p:=h
theorem q_98 (h:p:=by exact (y_len rfl tt rfl t_43 (by first | exact len_map _ _ | rfl) rfl)):p:=h
theorem q_99 (h:p:=by exact (y_len rfl tt rfl t_8 (by first | exact len_map _ _ | rfl) rfl)):p:=h
theorem q_100 (h:p:=by exact (y_len rfl tt rfl t_2 (by first | exact len_map _ _ | rfl) rfl)):p:=h
theorem q_101 (h:p:=by exact (y_len rfl tt rfl t_19 (by first | exact len_map _ _ | rfl) rfl)):p:=h
theorem q_102 (h:p:=by exact hop_y rfl (y_load rfl tt rfl t_89 t_27 rfl (nb rfl))):p:=h
theorem q_103 (h:p:=by exact (y_len rfl tt rfl t_7 (by first | exact len_map _ _ | rfl) rfl)):p:=h
theorem q_104 (h:p:=by exact (y_len rfl tt rfl t_38 (by first | exact len_map _ _ | rfl) rfl)):p:=h
theorem q_105 (h:p:=by exact (y_len rfl tt rfl t_5 (by first | exact len_map _ _ | rfl) rfl)):p:=h
theorem q_106 (h:p:=by exact (y_len rfl tt rfl t_122 (by first | exact len_map _ _ | rfl) rfl)):p:=h
theorem q_107 (h:p:=by exact (y_b2s rfl tt rfl t_8 t_6 t_51)):p:=h
theorem q_108 (h:p:=by exact hop_y rfl (y_load rfl tt rfl t_85 t_86 rfl (nb rfl))):p:=h
theorem q_109 (h:p:=by exact ⟨tt, _, _, _, rfl, rfl, .inr ⟨_, t_69, t_20, nb rfl, rfl⟩⟩):p:=h
theorem q_110 (h:p:=by exact (hop_y rfl (y_field rfl tt rfl t_56 rfl t_159 de_))):p:=h
theorem q_111 (h:p:=by exact (y_index_v rfl tt tt rfl rfl t_5 t_4 rfl om_ om_)):p:=h
theorem q_112 (h:p:=by exact (y_index_v rfl tt tt rfl rfl t_7 t_1 rfl om_ om_)):p:=h
theorem q_113 (h:p:=by exact ⟨tt, _, _, _, rfl, rfl, .inr ⟨_, t_89, t_27, nb rfl, rfl⟩⟩):p:=h
theorem q_114 (h:p:=by exact ⟨tt, _, _, _, rfl, rfl, .inr ⟨_, t_126, t_39, nb rfl, rfl⟩⟩):p:=h
theorem q_115 (h:p:=by simp only [len_app, n_7, n_12] at hbm ⊢; omega):p:=h
theorem q_116 (h:p:=by exact (hop_y rfl (y_field rfl tt rfl t_29 rfl t_96 de_))):p:=h
theorem q_117 (h:p:=by rw [eT]; exact fin_b (k := 3) rfl rfl de_ (pure_WR _ _ _ _ _) old_tup0):p:=h
theorem q_118 (h:p:=by exact (fun hg => y_field_c rfl hg rfl t_65 rfl t_0 de_)):p:=h
theorem q_119 (h:p:=by exact (fun hg => y_field rfl tt rfl t_33 rfl t_1 de_)):p:=h
theorem q_120 (h:p:=by exact (fun hg => y_field rfl tt rfl t_113 rfl t_160 de_)):p:=h
theorem q_121 (h:p:=by exact (fun hg => y_field rfl tt rfl t_44 rfl t_0 de_)):p:=h
theorem q_122 (h:p:=by exact (fun hg => y_field rfl tt rfl t_33 rfl t_0 de_)):p:=h
theorem q_123 (h:p:=by exact (hop_y rfl (y_scat rfl tt tt rfl rfl (by first | omega | (simp; omega))))):p:=h
theorem q_124 (h:p:=by exact (fun hg => y_field rfl tt rfl t_65 rfl t_0 de_)):p:=h
theorem q_125 (h:p:=by exact (y_callf rfl t_73 ⟨tt, tt⟩ (so_token hT hn ⟨rfl, rfl, de_⟩) rfl)):p:=h
theorem q_126 (h:p:=by exact (fun hg => y_field rfl tt rfl t_58 rfl t_0 de_)):p:=h
theorem q_127 (h:p:=by exact (fun hg => y_field rfl tt rfl t_58 rfl t_1 de_)):p:=h
theorem q_128 (h:p:=by exact (hop_y rfl (y_load rfl tt rfl t_89 t_27 rfl (nb rfl)))):p:=h
theorem q_129 (h:p:=by exact (hop_y rfl (y_load rfl tt rfl t_85 t_86 rfl (nb rfl)))):p:=h
theorem q_130 (h:p:=by simp only [len_app, n_7, n_12]; omega):p:=h
theorem q_131 (h:p:=by exact (y_field rfl tt rfl t_56 rfl t_159 de_)):p:=h
theorem q_132 (h:p:=by exact (y_field rfl tt rfl Tryz.runUnderlying244 rfl t_138 de_)):p:=h
theorem q_133 (h:p:=by exact (y_field rfl tt rfl t_45 rfl t_52 de_)):p:=h
theorem q_134 (h:p:=by exact (y_field rfl tt rfl t_54 rfl Tryz.sizeOf110 de_)):p:=h
theorem q_135 (h:p:=by exact (y_field rfl tt rfl Tryz.runUnderlying244 rfl Tryz.sizeOf242 de_)):p:=h
theorem q_136 (h:p:=by exact (y_field rfl tt rfl t_62 rfl t_52 de_)):p:=h
theorem q_137 (h:p:=by exact (y_field rfl tt rfl t_54 rfl Tryz.sizeOf109 de_)):p:=h
theorem q_138 (h:p:=by exact ⟨⟨tt, (by conv => lhs; whnf)⟩, ⟨tt, (by conv => lhs; whnf)⟩, tt⟩):p:=h
theorem q_139 (h:p:=by exact (y_field rfl tt rfl t_33 rfl t_74 de_)):p:=h
theorem q_140 (h:p:=by exact (y_field rfl tt rfl t_45 rfl t_21 de_)):p:=h
theorem q_141 (h:p:=by exact (y_fieldv1 rfl tt rfl t_44 rfl t_10 rfl)):p:=h
theorem q_142 (h:p:=by exact (y_field rfl tt rfl t_61 rfl t_97 de_)):p:=h
theorem q_143 (h:p:=by exact (y_field rfl tt rfl t_54 rfl t_27 de_)):p:=h
theorem q_144 (h:p:=by rw [hr, n_34 (by simp at h2; omega)]; rfl):p:=h
theorem q_145 (h:p:=by exact (y_field rfl tt rfl t_113 rfl t_160 de_)):p:=h
theorem q_146 (h:p:=by exact (y_field rfl tt rfl t_62 rfl t_1 de_)):p:=h
theorem q_147 (h:p:=by exact (y_field rfl tt rfl t_44 rfl t_0 de_)):p:=h
theorem q_148 (h:p:=by exact (y_field rfl tt rfl t_33 rfl t_1 de_)):p:=h
theorem q_149 (h:p:=by exact (y_field rfl tt rfl t_44 rfl t_1 de_)):p:=h
theorem q_150 (h:p:=by exact (y_field rfl tt rfl t_29 rfl t_96 de_)):p:=h
theorem q_151 (h:p:=by exact (y_field rfl tt rfl t_29 rfl t_21 de_)):p:=h
theorem q_152 (h:p:=by exact (y_field rfl tt rfl t_45 rfl t_0 de_)):p:=h
theorem q_153 (h:p:=by exact (y_field rfl tt rfl t_45 rfl t_1 de_)):p:=h
theorem q_154 (h:p:=by exact (y_field rfl tt rfl t_56 rfl t_1 de_)):p:=h
theorem q_155 (h:p:=by exact (y_field rfl tt rfl t_121 rfl Tryz.sizeOf23 de_)):p:=h
theorem q_156 (h:p:=by exact (y_field rfl tt rfl t_33 rfl t_0 de_)):p:=h
theorem q_157 (h:p:=by exact (y_callf rfl Tryz.call100 ⟨tt, tt⟩ (rv_Check_s fl nn hl _) rfl)):p:=h
theorem q_158 (h:p:=by exact (y_field rfl tt rfl t_78 rfl t_0 de_)):p:=h
theorem q_159 (h:p:=by exact (y_field rfl tt rfl t_54 rfl t_104 de_)):p:=h
theorem q_160 (h:p:=by exact (y_scat rfl tt rfl rfl rfl (by first | omega | (simp; omega)))):p:=h
theorem q_161 (h:p:=by exact (y_field rfl tt rfl t_65 rfl t_0 de_)):p:=h
theorem q_162 (h:p:=by exact (y_field rfl tt rfl t_58 rfl t_0 de_)):p:=h
theorem q_163 (h:p:=by exact (y_scat rfl rfl tt rfl rfl (by first | omega | (simp; omega)))):p:=h
theorem q_164 (h:p:=by exact (y_field rfl tt rfl t_81 rfl t_0 de_)):p:=h
theorem q_165 (h:p:=by exact (y_field rfl tt rfl t_158 rfl t_1 de_)):p:=h
theorem q_166 (h:p:=by exact (y_field rfl tt rfl t_29 rfl t_0 de_)):p:=h
theorem q_167 (h:p:=by exact (y_field rfl tt rfl t_81 rfl t_1 de_)):p:=h
theorem q_168 (h:p:=by exact (y_field rfl tt rfl t_58 rfl t_1 de_)):p:=h
theorem q_169 (h:p:=by exact (old_box ⟨.val _, .val _, .val _, .val _, old_ints _ _ _, tt⟩)):p:=h
theorem q_170 (h:p:=by cases ph <;> exact ⟨rfl, rfl, n_2 rfl⟩):p:=h
theorem q_171 (h:p:=by exact hop_y rfl (y_load1 rfl tt rfl t_76 rfl rfl)):p:=h
theorem q_172 (h:p:=by exact (y_load rfl tt rfl t_69 t_20 rfl (nb rfl))):p:=h
theorem q_173 (h:p:=by exact (y_scat rfl tt tt rfl rfl (by first | omega | (simp; omega)))):p:=h
theorem q_174 (h:p:=by exact (y_load rfl tt rfl Tryz.isAgg212 t_37 rfl (nb rfl))):p:=h
theorem q_175 (h:p:=by exact (y_load rfl tt rfl t_125 t_79 rfl (nb rfl))):p:=h
theorem q_176 (h:p:=by exact hop_y rfl (y_load1 rfl tt rfl t_14 rfl rfl)):p:=h
theorem q_177 (h:p:=by exact (y_load rfl tt rfl t_127 t_40 rfl (nb rfl))):p:=h
theorem q_178 (h:p:=by exact (y_callf rfl t_59 ⟨tt, tt⟩ (lx_Name_s x.a om_ _) rfl)):p:=h
theorem q_179 (h:p:=by first | exact rows_len (by intro a; rfl) _ | assumption):p:=h
theorem q_180 (h:p:=by exact (y_load rfl tt rfl t_89 t_27 rfl (nb rfl))):p:=h
theorem q_181 (h:p:=by exact hop_y rfl (y_move rfl tt (by conv => lhs; whnf))):p:=h
theorem q_182 (h:p:=by exact (y_load rfl tt rfl t_85 t_86 rfl (nb rfl))):p:=h
theorem q_183 (h:p:=by exact (y_load rfl tt rfl Tryz.isAgg54 t_16 rfl (nb rfl))):p:=h
theorem q_184 (h:p:=by exact (y_load_c rfl tt rfl t_95 t_23 (nb rfl))):p:=h
theorem q_185 (h:p:=by exact (y_load rfl tt rfl t_120 t_47 rfl (nb rfl))):p:=h
theorem q_186 (h:p:=by exact (y_load rfl tt rfl t_126 t_39 rfl (nb rfl))):p:=h
theorem q_187 (h:p:=by exact (y_load rfl tt rfl t_41 t_4 rfl (nb rfl))):p:=h
theorem q_188 (h:p:=by exact (y_load_c rfl tt rfl Tryz.isAgg212 t_37 (nb rfl))):p:=h
theorem q_189 (h:p:=by exact (y_load_c rfl tt rfl Tryz.isAgg129 t_77 (nb rfl))):p:=h
theorem q_190 (h:p:=by exact (y_callf rfl Tryz.call52 ⟨tt, tt⟩ (r7_Check_s l nn _) rfl)):p:=h
theorem q_191 (h:p:=by exact (y_load_c rfl tt rfl Tryz.isAgg54 t_16 (nb rfl))):p:=h
theorem q_192 (h:p:=by exact (y_load_c rfl tt rfl t_41 t_4 (nb rfl))):p:=h
theorem q_193 (h:p:=by exact (y_callf rfl Tryz.call29 trivial (mk_Functions_s _) rfl)):p:=h
theorem q_194 (h:p:=by exact (old_box ⟨.val _, old_strs _ [] _, old_des _ [] _, tt⟩)):p:=h
theorem q_195 (h:p:=by exact (y_sindex rfl tt tt rfl rfl t_6 om_ hb)):p:=h
theorem q_196 (h:p:=by exact (y_pick_and rfl tt rfl (fun hp => hp) (fun _ => rfl))):p:=h
theorem q_197 (h:p:=by exact (old_box ⟨.val _, old_strs _ _ _, old_des _ _ _, tt⟩)):p:=h
theorem q_198 (h:p:=by exact (hop_y rfl (y_load1 rfl tt rfl t_154 rfl rfl))):p:=h
theorem q_199 (h:p:=by exact (y_pick_or rfl tt rfl (fun hp => hp) (fun _ => rfl))):p:=h
theorem q_200 (h:p:=by exact (hop_y rfl (y_assign rfl tt (by conv => lhs; whnf)))):p:=h
theorem q_201 (h:p:=by exact (fun hg => y_scmp rfl hg rfl rfl rfl (cstr_eql _ _))):p:=h
theorem q_202 (h:p:=by exact (hop_y rfl (y_load1 rfl tt rfl t_14 rfl rfl))):p:=h
theorem q_203 (h:p:=by exact (y_callf rfl Tryz.call83 trivial (mk_Paths_s _) rfl)):p:=h
theorem q_204 (h:p:=by exact (fun hg => y_scmp rfl hg hg rfl rfl (cstr_eql _ _))):p:=h
theorem q_205 (h:p:=by exact (fun hg => y_load1 rfl hg rfl Tryz.isAgg30 rfl rfl)):p:=h
theorem q_206 (h:p:=by exact (hop_y rfl (y_move rfl tt (by conv => lhs; whnf)))):p:=h
theorem q_207 (h:p:=by exact (fun hg => y_load1 rfl hg rfl t_10 rfl rfl)):p:=h
theorem q_208 (h:p:=by exact (fun hg => y_load1 rfl hg rfl t_14 rfl rfl)):p:=h
theorem q_209 (h:p:=by rw [n_17, n_46]; omega):p:=h
theorem q_210 (h:p:=by exact (fun hg => y_slen rfl hg rfl t_6)):p:=h
theorem q_211 (h:p:=by first | omega | (simp; done) | (simp; omega)):p:=h
theorem q_212 (h:p:=by exact (fun hg => y_move rfl tt (by conv => lhs; whnf))):p:=h
theorem q_213 (h:p:=by exact (fun hg => y_load_c1 rfl hg rfl t_10 rfl)):p:=h
theorem q_214 (h:p:=by exact hop_y rfl (y_extract rfl tt rfl rfl)):p:=h
theorem q_215 (h:p:=by rw [List.length_erase_of_mem hiu, hu]; rfl):p:=h
theorem q_216 (h:p:=by rw [es]; simp only [n_8]):p:=h
theorem q_217 (h:p:=by simp [ho, Op.operands, Call.operands]):p:=h
theorem q_218 (h:p:=by exact (y_scmp rfl tt rfl rfl rfl (cstr_eql _ _))):p:=h
theorem q_219 (h:p:=by exact (y_load1 rfl tt rfl Tryz.isAgg117 rfl rfl)):p:=h
theorem q_220 (h:p:=by exact (y_load1 rfl tt rfl Tryz.isAgg149 rfl rfl)):p:=h
theorem q_221 (h:p:=by exact (y_load1 rfl tt rfl Tryz.isAgg110 rfl rfl)):p:=h
theorem q_222 (h:p:=by exact (y_load1 rfl tt rfl Tryz.isAgg109 rfl rfl)):p:=h
theorem q_223 (h:p:=by exact (old_box ⟨old_fis _ ([] : List Fi) _, tt⟩)):p:=h
theorem q_224 (h:p:=by exact (y_load1 rfl tt rfl Tryz.isAgg242 rfl rfl)):p:=h
theorem q_225 (h:p:=by exact (y_assign rfl rfl (by conv => lhs; whnf))):p:=h
theorem q_226 (h:p:=by first | omega | (simp; omega) | simp):p:=h
theorem q_227 (h:p:=by exact (y_load1 rfl tt rfl Tryz.isAgg30 rfl rfl)):p:=h
theorem q_228 (h:p:=by exact (y_load1 rfl tt rfl t_107 rfl rfl)):p:=h
theorem q_229 (h:p:=by exact (y_load1 rfl tt rfl t_154 rfl rfl)):p:=h
theorem q_230 (h:p:=by exact (y_load1 rfl tt rfl t_99 rfl rfl)):p:=h
theorem q_231 (h:p:=by exact (y_load1 rfl tt rfl Tryz.isAgg65 rfl rfl)):p:=h
theorem q_232 (h:p:=by exact (y_scmp rfl tt tt rfl rfl (cstr_eql _ _))):p:=h
theorem q_233 (h:p:=by exact (y_load1 rfl tt rfl Tryz.isAgg36 rfl rfl)):p:=h
theorem q_234 (h:p:=by exact (y_scmp rfl tt tt rfl rfl (cstr_neq _ _))):p:=h
theorem q_235 (h:p:=by exact (y_load1 rfl tt rfl Tryz.isAgg23 rfl rfl)):p:=h
theorem q_236 (h:p:=by exact (y_assign rfl tt (by conv => lhs; whnf))):p:=h
theorem q_237 (h:p:=by exact (y_load1 rfl tt rfl t_10 rfl rfl)):p:=h
theorem q_238 (h:p:=by exact (y_load1 rfl tt rfl t_14 rfl rfl)):p:=h
theorem q_239 (h:p:=by exact (fun hg => y_int rfl hg rfl rfl rfl rfl)):p:=h
theorem q_240 (h:p:=by first | omega | (simp at hg; omega)):p:=h
theorem q_241 (h:p:=by exact (y_move rfl rfl (by conv => lhs; whnf))):p:=h
theorem q_242 (h:p:=by exact (y_slen rfl tt rfl t_6)):p:=h
theorem q_243 (h:p:=by exact hop_y rfl (y_nil rfl tt rfl)):p:=h
theorem q_244 (h:p:=by exact (fun hg => y_int rfl hg hg rfl rfl rfl)):p:=h
theorem q_245 (h:p:=by exact (y_load1 rfl tt rfl t_14 hk rfl)):p:=h
theorem q_246 (h:p:=by exact (y_move rfl tt (by conv => lhs; whnf))):p:=h
theorem q_247 (h:p:=by exact (y_load_c1 rfl tt rfl t_10 rfl)):p:=h
theorem q_248 (h:p:=by exact (y_load_c1 rfl tt rfl t_14 rfl)):p:=h
theorem q_249 (h:p:=by exact (hop_y rfl (y_extract rfl tt rfl rfl))):p:=h
theorem q_250 (h:p:=by first | exact len_map _ _ | rfl):p:=h
theorem q_251 (h:p:=by exact (y_add rfl tt rfl rfl rfl om_ om_)):p:=h
theorem q_252 (h:p:=by first | omega | (simp; omega)):p:=h
theorem q_253 (h:p:=by exact (y_sub rfl tt rfl rfl rfl om_ om_)):p:=h
theorem q_254 (h:p:=by exact (y_add rfl tt tt rfl rfl om_ om_)):p:=h
theorem q_255 (h:p:=by exact (y_int rfl tt rfl rfl rfl rfl)):p:=h
theorem q_256 (h:p:=by exact (hop_y rfl (y_nil rfl tt rfl))):p:=h
theorem q_257 (h:p:=by exact (old_box ⟨.val _, .val _, tt⟩)):p:=h
theorem q_258 (h:p:=by simp [Plan.add, <- hr.len]):p:=h
theorem q_259 (h:p:=by exact (old_box ⟨old_strs _ _ _, tt⟩)):p:=h
theorem q_260 (h:p:=by exact (y_int rfl tt tt rfl rfl rfl)):p:=h
theorem q_261 (h:p:=by exact (old_box ⟨old_fis _ _ _, tt⟩)):p:=h
theorem q_262 (h:p:=by exact (old_box ⟨old_vas _ _ _, tt⟩)):p:=h
theorem q_263 (h:p:=by rw [hw]; simpa using hbw):p:=h
theorem q_264 (h:p:=by simp [Region.wanted, hg]):p:=h
theorem q_265 (h:p:=by simp [ho, Op.operands]):p:=h
theorem q_266 (h:p:=by exact (y_extract rfl tt rfl rfl)):p:=h
theorem q_267 (h:p:=by exact ⟨tt, _, _, rfl, om_, om_⟩):p:=h
theorem q_268 (h:p:=by first | omega | simp):p:=h
theorem q_269 (h:p:=by conv => lhs; whnf):p:=h
theorem q_270 (h:p:=by exact (old_wbx de_ de_ de_)):p:=h
theorem q_271 (h:p:=by cases ph <;> rfl):p:=h
theorem q_272 (h:p:=by exact ⟨tt, tt, tt, tt, tt⟩):p:=h
theorem q_273 (h:p:=by exact (fun _ _ => nb rfl)):p:=h
theorem q_274 (h:p:=by simpa using hi):p:=h
theorem q_275 (h:p:=by simpa using h2):p:=h
theorem q_276 (h:p:=by simpa using h1):p:=h
theorem q_277 (h:p:=by simpa using hk):p:=h
theorem q_278 (h:p:=by simpa using hj):p:=h
theorem q_279 (h:p:=by exact (y_nil rfl tt rfl)):p:=h
theorem q_280 (h:p:=by exact (y_not rfl tt rfl)):p:=h
theorem q_281 (h:p:=by exact (old_tape _ _ _ _)):p:=h
theorem q_282 (h:p:=by simpa using h):p:=h
theorem q_283 (h:p:=by exact ⟨tt, rfl, rfl, tt⟩):p:=h
theorem q_284 (h:p:=by exact (old_pbx (nb rfl))):p:=h
theorem q_285 (h:p:=by rw [hr]; rfl):p:=h
theorem q_286 (h:p:=by exact ⟨tt, tt, tt, tt⟩):p:=h
theorem q_287 (h:p:=by simp; omega):p:=h
theorem q_288 (h:p:=by exact (.inr ⟨_, rfl⟩)):p:=h
theorem q_289 (h:p:=by kernel_rfl):p:=h
theorem q_290 (h:p:=by exact (old_fis _ _ _)):p:=h
theorem q_291 (h:p:=by exact (fun _ => rfl)):p:=h
theorem q_292 (h:p:=by exact (old_gobj _ _)):p:=h
theorem q_293 (h:p:=by exact ⟨tt, rfl, tt⟩):p:=h
theorem q_294 (h:p:=by exact (old_smO _ _)):p:=h
theorem q_295 (h:p:=by exact (old_emO _ _)):p:=h
theorem q_296 (h:p:=by exact ⟨tt, tt, tt⟩):p:=h
theorem q_297 (h:p:=by exact ⟨tt, rfl⟩):p:=h
theorem uo_ (h:p:=by first|exact .val _|exact .ptr (nb rfl)|exact .map (nb rfl)|exact old_fis _ _ _|exact old_strs _ _ _|exact old_des _ _ _|exact (pure_enl _ _).old|exact old_ints _ _ _|exact old_keys _ _ _|exact (by first|exact old_km _ _|exact old_ints _ _ _|exact old_toks _ _ _|exact old_strs _ _ _|exact old_bytes _ _ _)|exact old_caps|exact old_bytes _ _ _|exact old_sns _ [] _|exact old_vas _ _ _):p:=h
theorem uz_ (h:p:=by intro a ha; repeat' (first|exact .val _|exact .ptr (nb rfl)|exact .map (nb rfl)|exact tt|exact old_strs _ _ _|exact .vec (nb rfl)|exact De.old _ _|exact Ex.old _ _|exact old_fis _ _ _|exact old_ints _ _ _|exact old_ivec _ _|exact old_des _ _ _|exact (by first|exact old_km _ _|exact old_ints _ _ _|exact old_strs _ _ _|exact old_bytes _ _ _)|exact Src.old _ _|exact old_exs _ _ _|exact (by first|exact old_strs _ _ _|exact old_key _ _)|exact old_keys _ _ _|exact (by first|exact .vec (nb rfl)|exact old_svec _|exact old_strs _ _ _)|exact (by first|exact old_km _ _|exact old_it _ _ _|exact old_ints _ _ _|exact old_strs _ _ _|exact old_bytes _ _ _)|exact old_emO _ _|exact old_gobj _ _|exact old_smO _ _|exact old_sns _ _ _|exact old_vas _ _ _|exact old_wbx (nb rfl) (nb rfl) (nb rfl)|exact (by first|exact old_pbx (nb rfl)|exact old_gobj _ _|exact old_it _ _ _|exact old_box (show OldL _ _ from ⟨.val _,.val _,.val _,.val _,tt⟩))|exact (by first|exact old_strs _ _ _|exact old_ints _ _ _|exact old_key _ _)|exact old_bytes _ _ _ | refine old_box ?_ | refine ⟨?_,?_⟩)):p:=h
theorem pu_ (h:p:=by repeat' (first|exact .val _|exact pure_ints _ _|exact pure_strs _ _|exact pure_keys _ _|exact pure_fis _ _|exact pure_exs _ _|exact pure_des _ _|exact pure_sns _ _|exact pure_vas _ _|exact pure_bytes _ _|exact pure_toks _ _|exact tt | refine pure_agg ?_ | refine pure_tup ?_ | refine ⟨?_,?_⟩)):p:=h
theorem tu_ (h:p:=by repeat' (first|exact tt|exact rfl | refine ⟨?_,?_⟩)):p:=h
theorem do_ (h:p:=by dsimp only; omega):p:=h
theorem om_ (h:p:=by omega):p:=h
theorem si_ (h:p:=by simp):p:=h
theorem de_ (h:p:=by decide):p:=h
theorem z_0 (kz:q) (h:q->p:=by intro kz;refine cw_seq ?_;refine cw_region ?_;exact kz):p:=h kz
theorem z_1 (kz:q) (h:q->p:=by intro kz;refine cY q_236 ?_;refine co_nil ?_;exact kz):p:=h kz
theorem z_2 (kz:q) (h:q->p:=by intro kz;refine z_0 ?_;refine cY q_246 ?_;exact kz):p:=h kz
theorem z_3 (kz:q) (h:q->p:=by intro kz;refine cY q_225 ?_;refine co_nil ?_;exact kz):p:=h kz
theorem z_4 (kz:q) (h:q->p:=by intro kz;refine z_0 ?_;refine z_3 ?_;exact kz):p:=h kz
theorem z_5 (kz:q) (h:q->p:=by intro kz;refine z_1 ?_;refine cw_ret ?_;exact kz):p:=h kz
theorem z_6 (kz:q) (h:q->p:=by intro kz;refine z_2 ?_;refine cY q_246 ?_;exact kz):p:=h kz
theorem z_7 (kz:q) (h:q->p:=by intro kz;refine cw_region ?_;refine cY q_246 ?_;exact kz):p:=h kz
theorem z_8 (kz:q) (h:q->p:=by intro kz;refine co_nil ?_;refine cw_seq ?_;exact kz):p:=h kz
theorem z_9 (kz:q) (h:q->p:=by intro kz;refine cw_skip ?_;refine cw_seq ?_;exact kz):p:=h kz
theorem z_10 (kz:q) (h:q->p:=by intro kz;refine z_0 ?_;refine cD (d_box rfl tt q_269 q_288 ?_);exact kz):p:=h kz
theorem z_11 (kz:q) (h:Qz q->p:=by intro kz;refine cY q_251 ?_;refine cY q_246 ?_;exact kz tt):p:=h fun _=>kz
theorem z_12 (kz:q) (h:q->p:=by intro kz;refine cY q_255 ?_;refine co_nil ?_;exact kz):p:=h kz
theorem z_13 (kz:q) (h:q->p:=by intro kz;refine co_nil ?_;refine cw_block ?_;exact kz):p:=h kz
theorem z_14 (kz:q) (h:q->p:=by intro kz;refine cD (d_alloc rfl t_42 rfl q_288 ?_);refine cD (d_store rfl tt tt rfl q_269 t_20 q_288 rfl rfl (nb rfl) ?_);exact kz):p:=h kz
theorem z_16 (kz:q) (h:q->p:=by intro kz;refine cw_seq ?_;refine z_2 ?_;exact kz):p:=h kz
theorem z_18 (kz:q) (h:q->p:=by intro kz;refine cY q_255 ?_;refine z_1 ?_;exact kz):p:=h kz
theorem z_19 (kz:q) (h:q->p:=by intro kz;refine z_4 ?_;refine cw_ret ?_;exact kz):p:=h kz
theorem z_20 (kz:q) (h:q->p:=by intro kz;refine z_9 ?_;refine cw_block ?_;exact kz):p:=h kz
theorem z_21 (kz:q) (h:Qz q->p:=by intro kz;refine cw_region ?_;refine z_11 ?_;refine co_nil ?_;exact kz tt):p:=h fun _=>kz
theorem z_22 (kz:q) (h:q->p:=by intro kz;refine cY q_246 ?_;refine cG q_212 ?_;exact kz):p:=h kz
theorem z_23 (kz:q) (h:q->p:=by intro kz;refine cD (d_alloc rfl t_17 rfl q_288 ?_);refine cD (d_store rfl tt tt rfl q_269 t_16 q_288 rfl rfl (nb rfl) ?_);exact kz):p:=h kz
theorem z_24 (kz:q) (h:q->p:=by intro kz;refine cY q_241 ?_;refine z_13 ?_;exact kz):p:=h kz
theorem z_25 (kz:q) (h:q->p:=by intro kz;refine cD (d_store rfl tt tt rfl q_269 t_1 (.inl rfl) rfl rfl (nb rfl) ?_);refine co_nil ?_;exact kz):p:=h kz
theorem z_27 (kz:q) (h:q->p:=by intro kz;refine z_0 ?_;refine z_18 ?_;exact kz):p:=h kz
theorem z_28 (kz:q) (h:q->p:=by intro kz;refine z_0 ?_;refine cY q_260 ?_;refine z_8 ?_;exact kz):p:=h kz
theorem z_29 (kz:q) (h:q->p:=by intro kz;refine cD (d_store rfl tt tt rfl q_269 t_27 q_288 rfl rfl (nb rfl) ?_);refine co_nil ?_;exact kz):p:=h kz
theorem z_30 (kz:q) (h:q->p:=by intro kz;refine cY q_145 ?_;refine cD (d_store rfl tt tt rfl q_269 t_160 (.inl rfl) rfl rfl (nb rfl) ?_);exact kz):p:=h kz
theorem z_31 (kz:q) (h:q->p:=by intro kz;refine cG q_239 ?_;refine cY q_196 ?_;exact kz):p:=h kz
theorem z_32 (kz:q) (h:q->p:=by intro kz;refine cY q_280 ?_;refine co_nil ?_;exact kz):p:=h kz
theorem z_33 (kz:q) (h:q->p:=by intro kz;refine co_nil ?_;refine z_2 ?_;exact kz):p:=h kz
theorem z_34 (h:p:=by refine z_5 ?_;exact ⟨_,res1 rfl tt q_269,_,_,rfl,rfl,(.tok (fun r hr c hc=>(rows_pure (f:=scv) (fun _=>Pures.all ⟨.val _,tt⟩) _) r hr c hc))⟩):p:=h
theorem z_35 (kz:q) (h:Qz q->p:=by intro kz;refine cY q_57 ?_;refine cD (d_appu rfl tt tt rfl si_ q_19 t_19 t_16 t_87 t_17 rfl (.inr rfl) q_21 q_79 q_226 ((out++[y]).map Fi.cv) (out++[y]).length si_ si_ ?_);exact kz tt):p:=h fun _=>kz
theorem z_36 (kz:q) (h:q->p:=by intro kz;refine hY q_246 ?_;refine hY q_279 ?_;exact kz):p:=h kz
theorem z_37 (h:p:=by refine z_19 ?_;exact ⟨_,res1 rfl tt q_269,_,_,rfl,rfl,cls_int q_285⟩):p:=h
theorem z_38 (kz:q) (h:q->p:=by intro kz;refine z_1 ?_;refine z_2 ?_;exact kz):p:=h kz
theorem z_39 (kz:q) (h:q->p:=by intro kz;refine z_3 ?_;refine cw_ret ?_;exact kz):p:=h kz
theorem z_40 (kz:q) (h:q->p:=by intro kz;refine cY q_266 ?_;refine cY q_266 ?_;exact kz):p:=h kz
theorem z_41 (kz:q) (h:q->p:=by intro kz;refine z_20 ?_;refine z_0 ?_;exact kz):p:=h kz
theorem z_42 (kz:q) (h:q->p:=by intro kz;refine cw_seq ?_;refine z_0 ?_;exact kz):p:=h kz
theorem z_43 (kz:q) (h:q->p:=by intro kz;refine cY q_145 ?_;refine cY q_227 ?_;exact kz):p:=h kz
theorem z_44 (kz:q) (h:q->p:=by intro kz;refine cY q_161 ?_;refine cY q_237 ?_;exact kz):p:=h kz
theorem z_45 (kz:q) (h:q->p:=by intro kz;refine z_7 ?_;refine cY q_246 ?_;exact kz):p:=h kz
theorem z_46 (kz:q) (h:q->p:=by intro kz;refine cw_skip ?_;refine z_0 ?_;exact kz):p:=h kz
theorem z_47 (kz:q) (h:q->p:=by intro kz;refine cD (d_store rfl tt tt rfl q_269 t_20 q_288 rfl rfl (nb rfl) ?_);refine co_nil ?_;exact kz):p:=h kz
theorem z_48 (kz:q) (h:q->p:=by intro kz;refine co_nil ?_;refine z_0 ?_;exact kz):p:=h kz
theorem z_49 (kz:q) (h:q->p:=by intro kz;refine z_6 ?_;refine cY q_246 ?_;exact kz):p:=h kz
theorem z_50 (kz:q) (h:q->p:=by intro kz;refine cD (d_alloc rfl t_46 rfl q_288 ?_);refine cD (d_store rfl tt tt rfl q_269 t_23 q_288 rfl rfl (nb rfl) ?_);exact kz):p:=h kz
theorem z_51 (kz:q) (h:Qz q->p:=by intro kz;refine cw_skip ?_;refine z_21 ?_;exact kz tt):p:=h fun _=>kz
theorem z_52 (kz:q) (h:q->p:=by intro kz;refine cY q_279 ?_;refine cY q_146 ?_;exact kz):p:=h kz
theorem z_53 (h:p:=by refine z_51 ?_;exact ⟨(i+1),_,⟨om_,om_,hr⟩,tu_,rfl⟩):p:=h
theorem z_54 (kz:q) (h:q->p:=by intro kz;refine z_4 ?_;refine z_16 ?_;exact kz):p:=h kz
theorem z_55 (h:p:=by refine z_5 ?_;exact ⟨_,res1 rfl tt q_269,⟨(_,p1),fin1 rfl q_281 (.old (.val _)),q_74,do_,do_⟩⟩):p:=h
theorem z_56 (h:p:=by refine z_5 ?_;exact ⟨_,res1 rfl tt q_269,_,_,rfl,rfl,cls_int rfl⟩):p:=h
theorem z_57 (kz:q) (h:q->p:=by intro kz;refine co_norm [pbx T m ps b2 3,.dead,.box (tk T n).cells,gobj b2.length] rfl ?_;refine z_5 ?_;exact kz):p:=h kz
theorem z_58 (kz:q) (h:q->p:=by intro kz;refine cY q_246 ?_;refine z_40 ?_;exact kz):p:=h kz
theorem z_59 (kz:q) (h:q->p:=by intro kz;refine cY q_218 ?_;refine z_1 ?_;exact kz):p:=h kz
theorem z_60 (kz:q) (h:q->p:=by intro kz;refine z_10 ?_;refine z_3 ?_;exact kz):p:=h kz
theorem z_61 (kz:q) (h:q->p:=by intro kz;refine cY q_199 ?_;refine co_nil ?_;exact kz):p:=h kz
theorem z_62 (kz:q) (h:q->p:=by intro kz;refine z_1 ?_;refine z_16 ?_;exact kz):p:=h kz
theorem z_63 (kz:q) (h:q->p:=by intro kz;refine z_10 ?_;refine cD (d_box rfl tt q_269 q_288 ?_);exact kz):p:=h kz
theorem z_64 (kz:q) (h:q->p:=by intro kz;refine cY q_260 ?_;refine co_nil ?_;exact kz):p:=h kz
theorem z_65 (kz:q) (h:q->p:=by intro kz;refine cw_exit ?_;refine z_2 ?_;exact kz):p:=h kz
theorem z_66 (kz:q) (h:q->p:=by intro kz;refine z_4 ?_;refine z_2 ?_;exact kz):p:=h kz
theorem z_67 (kz:q) (h:q->p:=by intro kz;refine z_8 ?_;refine z_0 ?_;exact kz):p:=h kz
theorem z_68 (kz:q) (h:q->p:=by intro kz;refine chf rfl q_206 ?_;refine chf rfl q_256 ?_;exact kz):p:=h kz
theorem z_69 (kz:q) (h:q->p:=by intro kz;refine cD (d_store rfl tt tt rfl q_269 t_20 q_288 rfl rfl (nb rfl) ?_);refine cY q_236 ?_;exact kz):p:=h kz
theorem z_70 (kz:q) (h:q->p:=by intro kz;refine cY q_30 ?_;refine cD (d_store rfl tt tt rfl q_269 t_37 q_288 rfl rfl (nb rfl) ?_);exact kz):p:=h kz
theorem z_71 (kz:q) (h:q->p:=by intro kz;refine cw_skip ?_;refine z_2 ?_;exact kz):p:=h kz
theorem z_72 (kz:q) (h:q->p:=by intro kz;refine cY q_196 ?_;refine z_5 ?_;exact kz):p:=h kz
theorem z_73 (h:p:=by refine z_5 ?_;exact ⟨_,res1 rfl tt q_269,⟨(_,p+2),fin1 rfl q_281 (.old (.val _)),q_74,do_,do_⟩⟩):p:=h
theorem z_74 (kz:q) (h:q->p:=by intro kz;refine cD (d_store rfl tt tt rfl q_269 t_39 q_288 rfl rfl (nb rfl) ?_);refine co_nil ?_;exact kz):p:=h kz
theorem z_75 (kz:q) (h:q->p:=by intro kz;refine ctl_h rfl q_200 ⟨tt,?_⟩;refine ctl_nil ?_;exact kz):p:=h kz
theorem z_76 (kz:q) (h:Qz q->p:=by intro kz;refine z_7 ?_;refine cY q_251 ?_;exact kz tt):p:=h fun _=>kz
theorem z_77 (kz:q) (h:q->p:=by intro kz;refine cw_seq ?_;refine z_6 ?_;exact kz):p:=h kz
theorem z_78 (kz:q) (h:q->p:=by intro kz;refine cY q_147 ?_;refine cY q_237 ?_;exact kz):p:=h kz
theorem z_79 (kz:q) (h:q->p:=by intro kz;refine ch_nil ?_;refine co_nil ?_;exact kz):p:=h kz
theorem z_80 (h:p:=by refine z_5 ?_;exact ⟨_,res1 rfl tt q_269,_,_,rfl,rfl,cls_str rfl⟩):p:=h
theorem z_81 (h:p:=by refine z_72 ?_;exact ⟨_,res1 rfl tt q_269,_,_,rfl,rfl,cls_bool (show (nameB x.a && decide (x.b=[]))=keyB x by simp_all [keyB])⟩):p:=h
theorem z_82 (kz:q) (h:q->p:=by intro kz;refine cw_float [0,1,2,4,5,3,6,7,8,9] 5 [0,1,3,0,0,16,56,120,248,511] [[0,1,2,3,4],[0,1,2],[0,1,2],[0,1,2],[]] (hd1l:=[0,1,2,4,5]) (tll:=[(3,[0,1,2,3,4]),(6,[0,1,2]),(7,[0,1,2]),(8,[0,1,2]),(9,[])]) q_289 q_289 rfl rfl rfl ?_;refine z_68 ?_;exact kz):p:=h kz
theorem z_83 (kz:q) (h:q->p:=by intro kz;refine cY q_225 ?_;refine z_3 ?_;exact kz):p:=h kz
theorem z_84 (kz:q) (h:q->p:=by intro kz;refine cw_seq ?_;refine cw_float [0,1,2,3,4,5,6,7,8,9,10,11] 9 [0,1,3,7,0,31,63,127,127,0,767,2047] [[0,1,2,3,4,5,6,7,8],[8],[]] (hd1l:=[0,1,2,3,4,5,6,7,8]) (tll:=[(9,[0,1,2,3,4,5,6,7,8]),(10,[8]),(11,[])]) q_289 q_289 rfl rfl rfl ?_;exact kz):p:=h kz
theorem z_85 (kz:q) (h:q->p:=by intro kz;refine cY q_132 ?_;refine cD (d_store rfl tt tt rfl q_269 t_138 (.inl rfl) rfl rfl (nb rfl) ?_);exact kz):p:=h kz
theorem z_86 (kz:q) (h:q->p:=by intro kz;refine cY q_246 ?_;refine cY q_246 ?_;exact kz):p:=h kz
theorem z_87 (kz:q) (h:Qz q->p:=by intro kz;refine cY q_163 ?_;refine cY q_160 ?_;exact kz tt):p:=h fun _=>kz
theorem z_88 (kz:q) (h:q->p:=by intro kz;refine z_0 ?_;refine z_59 ?_;exact kz):p:=h kz
theorem z_89 (kz:q) (h:Qz q->p:=by intro kz;refine co_nil ?_;refine z_21 ?_;exact kz tt):p:=h fun _=>kz
theorem z_90 (kz:q) (h:q->p:=by intro kz;refine cw_exit ?_;refine z_0 ?_;exact kz):p:=h kz
theorem z_91 (h:p:=by refine co_nil ?_;exact ⟨_,res_all (rs:=[]) (cs:=[]) rfl tt (n_2 rfl),⟨(max d dp),q_117,tt⟩⟩):p:=h
theorem z_92 (kz:q) (h:q->p:=by intro kz;refine cD (d_store rfl tt tt rfl q_269 t_20 q_288 rfl rfl (nb rfl) ?_);refine cY q_225 ?_;exact kz):p:=h kz
theorem z_93 (h:p:=by refine z_1 ?_;exact ⟨(s,hds,p6,n - 1),[0,1,2],⟨do_,do_,do_,do_,do_,do_,do_⟩,⟨rfl,rfl⟩,q_10,⟨.inr ⟨_,rfl,.same rfl q_281⟩,.inr ⟨_,rfl,.same rfl q_292⟩,.inr ⟨_,rfl,.same rfl q_292⟩,tt⟩⟩):p:=h
theorem z_94 (kz:q) (h:q->p:=by intro kz;refine z_22 ?_;refine cG q_212 ?_;exact kz):p:=h kz
theorem z_95 (kz:q) (h:q->p:=by intro kz;refine z_43 ?_;refine cY q_101 ?_;exact kz):p:=h kz
theorem z_96 (kz:q) (h:q->p:=by intro kz;refine z_58 ?_;refine cY q_236 ?_;exact kz):p:=h kz
theorem z_97 (kz:q) (h:Qz q->p:=by intro kz;refine cY q_238 ?_;refine cY q_251 ?_;exact kz tt):p:=h fun _=>kz
theorem z_98 (h:p:=by refine cw_region ?_;refine cY q_172 ?_;exact co_d rfl rfl (d_calln rfl t_36 q_293 (so_fail _ _ _) rfl (fun _ _=>.inr ⟨(_,_),fin_pan,hsp,si_⟩))):p:=h
theorem z_99 (h:p:=by refine z_51 ?_;exact ⟨(i+1),_,⟨om_,om_⟩,tu_,rfl⟩):p:=h
theorem z_100 (kz:q) (h:q->p:=by intro kz;refine cD (d_store rfl tt tt rfl q_269 t_27 q_288 rfl rfl (nb rfl) ?_);refine z_39 ?_;exact kz):p:=h kz
theorem z_101 (kz:q) (h:q->p:=by intro kz;refine cD (d_alloc rfl t_32 rfl q_288 ?_);refine cD (d_store rfl tt tt rfl q_269 t_47 q_288 rfl rfl (nb rfl) ?_);exact kz):p:=h kz
theorem z_102 (kz:q) (h:q->p:=by intro kz;refine cD (d_alloc rfl t_11 rfl q_288 ?_);refine cD (d_store rfl tt tt rfl q_269 t_4 q_288 rfl rfl (nb rfl) ?_);exact kz):p:=h kz
theorem z_103 (kz:q) (h:q->p:=by intro kz;refine cD (d_alloc rfl t_50 rfl q_288 ?_);refine cD (d_store rfl tt tt rfl q_269 t_27 q_288 rfl rfl (nb rfl) ?_);exact kz):p:=h kz
theorem z_104 (kz:q) (h:Qz q->p:=by intro kz;refine cY q_93 ?_;refine cY q_191 ?_;exact kz tt):p:=h fun _=>kz
theorem z_105 (h:p:=by refine z_19 ?_;exact ⟨_,res1 rfl tt q_269,_,_,rfl,rfl,cls_bool (show false=keyB x by simp_all [keyB])⟩):p:=h
theorem z_107 (kz:q) (h:q->p:=by intro kz;refine cY q_100 ?_;refine z_24 ?_;exact kz):p:=h kz
theorem z_108 (kz:q) (h:q->p:=by intro kz;refine cY q_196 ?_;refine z_22 ?_;exact kz):p:=h kz
theorem z_109 (kz:q) (h:q->p:=by intro kz;refine cY q_236 ?_;refine z_39 ?_;exact kz):p:=h kz
theorem z_110 (kz:q) (h:q->p:=by intro kz;refine cY q_149 ?_;refine cY q_238 ?_;exact kz):p:=h kz
theorem z_111 (kz:q) (h:Qz q->p:=by intro kz;refine z_1 ?_;refine z_21 ?_;exact kz tt):p:=h fun _=>kz
theorem z_112 (kz:q) (h:q->p:=by intro kz;refine z_0 ?_;refine cD (d_alloc rfl t_42 rfl q_288 ?_);exact kz):p:=h kz
theorem z_113 (kz:q) (h:q->p:=by intro kz;refine z_20 ?_;refine z_2 ?_;exact kz):p:=h kz
theorem z_114 (kz:q) (h:q->p:=by intro kz;refine z_31 ?_;refine cY q_246 ?_;exact kz):p:=h kz
theorem z_115 (h:p:=by refine z_72 ?_;exact ⟨_,res1 rfl tt q_269,_,_,rfl,rfl,cls_bool (by simp [e1,e2,e3,e4])⟩):p:=h
theorem z_116 (kz:q) (h:Qz q->p:=by intro kz;refine z_76 ?_;refine z_1 ?_;exact kz tt):p:=h fun _=>kz
theorem z_117 (h:p:=by refine z_57 ?_;exact ⟨_,res1 rfl tt q_269,q_75⟩):p:=h
theorem z_118 (kz:q) (h:q->p:=by intro kz;refine z_62 ?_;refine z_12 ?_;exact kz):p:=h kz
theorem z_119 (kz:q) (h:q->p:=by intro kz;refine cw_float [0,1,3,4,2,5,6,7] 4 [0,0,3,0,0,31,63,127] [[2,3],[],[],[]] (hd1l:=[0,1,3,4]) (tll:=[(2,[2,3]),(5,[]),(6,[]),(7,[])]) q_289 q_289 rfl rfl rfl ?_;refine chf rfl q_206 ?_;exact kz):p:=h kz
theorem z_120 (h:p:=by refine z_5 ?_;exact ⟨_,res1 rfl tt q_269,q_95⟩):p:=h
theorem z_121 (kz:q) (h:Qz q->p:=by intro kz;refine cY q_60 ?_;refine cD (d_appu rfl tt tt rfl si_ q_19 t_19 t_16 t_87 t_17 rfl (.inr rfl) q_21 q_79 q_226 ((out++[f]).map Fi.cv) (out++[f]).length si_ si_ ?_);exact kz tt):p:=h fun _=>kz
theorem z_122 (kz:q) (h:Qz q->p:=by intro kz;refine cY q_59 ?_;refine cD (d_appu rfl tt tt rfl si_ q_19 t_19 t_16 t_87 t_17 rfl (.inr rfl) q_21 q_79 q_226 ((out++[x]).map Fi.cv) (out++[x]).length si_ si_ ?_);exact kz tt):p:=h fun _=>kz
theorem z_123 (kz:q) (h:q->p:=by intro kz;refine ⟨tt,?_⟩;refine ctl_nil ?_;exact kz):p:=h kz
theorem z_124 (kz:q) (h:q->p:=by intro kz;refine z_0 ?_;refine cY q_180 ?_;exact kz):p:=h kz
theorem z_125 (kz:q) (h:q->p:=by intro kz;refine cY q_139 ?_;refine cY q_230 ?_;exact kz):p:=h kz
theorem z_126 (kz:q) (h:q->p:=by intro kz;refine cw_region ?_;refine z_18 ?_;exact kz):p:=h kz
theorem z_127 (kz:q) (h:q->p:=by intro kz;refine z_4 ?_;refine z_6 ?_;exact kz):p:=h kz
theorem z_128 (kz:q) (h:q->p:=by intro kz;refine cw_skip ?_;refine cw_block ?_;exact kz):p:=h kz
theorem z_129 (kz:q) (h:Qz q->p:=by intro kz;refine ctl_h rfl (hop_y rfl (y_callf rfl Tryz.call67 q_296 (mk_insert fl _ ⟨y,s⟩ om_ _) rfl)) ⟨tt,?_⟩;refine ctl_d rfl rfl (d_store rfl tt tt rfl q_269 t_27 q_288 rfl rfl (nb rfl) ?_);exact kz tt):p:=h fun _=>kz
theorem z_130 (kz:q) (h:q->p:=by intro kz;refine cY q_255 ?_;refine z_22 ?_;exact kz):p:=h kz
theorem z_131 (kz:q) (h:Qz q->p:=by intro kz;refine cY q_253 ?_;refine z_1 ?_;exact kz tt):p:=h fun _=>kz
theorem z_132 (kz:q) (h:q->p:=by intro kz;refine z_2 ?_;refine cY q_279 ?_;exact kz):p:=h kz
theorem z_133 (kz:q) (h:q->p:=by intro kz;refine ch_g rfl rfl tt rfl q_124 ?_;refine ch_g rfl rfl tt rfl q_207 ?_;exact kz):p:=h kz
theorem z_134 (kz:q) (h:q->p:=by intro kz;refine ch_g rfl rfl tt rfl q_120 ?_;refine ch_g rfl rfl tt rfl q_205 ?_;exact kz):p:=h kz
theorem z_135 (kz:q) (h:q->p:=by intro kz;refine ch_g rfl rfl tt rfl q_118 ?_;refine ch_g rfl rfl tt rfl q_213 ?_;exact kz):p:=h kz
theorem z_137 (kz:q) (h:q->p:=by intro kz;refine cY q_133 ?_;refine cY q_219 ?_;exact kz):p:=h kz
theorem z_139 (kz:q) (h:q->p:=by intro kz;refine z_95 ?_;refine z_24 ?_;exact kz):p:=h kz
theorem z_141 (kz:q) (h:q->p:=by intro kz;refine cD (d_alloc rfl t_50 rfl q_288 ?_);refine z_48 ?_;refine cD (d_alloc rfl t_50 rfl q_288 ?_);exact kz):p:=h kz
theorem z_142 (kz:q) (h:q->p:=by intro kz;refine z_43 ?_;refine cY q_183 ?_;exact kz):p:=h kz
theorem z_143 (kz:q) (h:q->p:=by intro kz;refine cD (d_store rfl tt tt rfl q_269 t_37 q_288 rfl rfl (nb rfl) ?_);refine z_67 ?_;exact kz):p:=h kz
theorem z_144 (kz:q) (h:q->p:=by intro kz;refine z_4 ?_;refine z_0 ?_;exact kz):p:=h kz
theorem z_145 (kz:q) (h:q->p:=by intro kz;refine z_9 ?_;refine z_2 ?_;exact kz):p:=h kz
theorem z_146 (kz:q) (h:q->p:=by intro kz;refine co_nil ?_;refine z_6 ?_;exact kz):p:=h kz
theorem z_147 (h:p:=by refine z_5 ?_;exact ⟨_,res1 rfl tt q_269,_,_,rfl,rfl,cls_bool rfl⟩):p:=h
theorem z_148 (kz:q) (h:q->p:=by intro kz;refine cw_seq ?_;refine cw_block ?_;exact kz):p:=h kz
theorem z_149 (kz:q) (h:q->p:=by intro kz;refine cw_skip ?_;refine z_49 ?_;exact kz):p:=h kz
theorem z_150 (kz:q) (h:q->p:=by intro kz;refine z_6 ?_;refine cG q_212 ?_;exact kz):p:=h kz
theorem z_151 (h:p:=by refine z_5 ?_;exact ⟨_,res1 rfl tt q_269,_,_,rfl,rfl,(cls_eq (show CV.list (([]:List Ky).map Ky.cv) false none=_ from rfl) pu_)⟩):p:=h
theorem z_152 (h:p:=by refine z_100 ?_;exact ⟨_,res_all (rs:=[.cell 6 32,.tmp 7]) (cs:=[_,_]) rfl q_67 (n_2 rfl),_,_,rfl,rfl,q_39⟩):p:=h
theorem z_153 (h:p:=by refine z_109 ?_;exact ⟨_,res_all (rs:=[.tmp 4,.tmp 5]) (cs:=[_,_]) rfl q_138 (n_2 rfl),⟨(),rfl,rfl,tt⟩⟩):p:=h
theorem z_154 (h:p:=by refine z_5 ?_;exact ⟨_,res1 rfl tt q_269,(by exact .inl ⟨(i6,n+1,b6),fin_gr rfl rfl (nb rfl) (.val _),hsp,do_,hn1,y6⟩)⟩):p:=h
theorem z_156 (kz:q) (h:Qz q->p:=by intro kz;refine z_52 ?_;refine z_97 ?_;refine z_52 ?_;exact kz tt):p:=h fun _=>kz
theorem z_157 (kz:q) (h:Qz q->p:=by intro kz;refine cta_q rfl rfl (fun _=>hop_y rfl q_160) ?_;refine cta_d rfl rfl rfl rfl (d_callclov rfl tt rfl t_57 trivial (by exact hclo om_ (p+2) om_) rfl ?_);exact kz tt):p:=h fun _=>kz
theorem z_158 (kz:q) (h:q->p:=by intro kz;refine z_8 ?_;refine z_2 ?_;exact kz):p:=h kz
theorem z_159 (kz:q) (h:q->p:=by intro kz;refine cY q_255 ?_;refine cY q_246 ?_;exact kz):p:=h kz
theorem z_160 (kz:q) (h:q->p:=by intro kz;refine cY q_151 ?_;refine cY q_228 ?_;exact kz):p:=h kz
theorem z_161 (kz:q) (h:q->p:=by intro kz;refine cY q_164 ?_;refine cY q_237 ?_;exact kz):p:=h kz
theorem z_162 (kz:q) (h:q->p:=by intro kz;refine cY q_152 ?_;refine cY q_237 ?_;exact kz):p:=h kz
theorem z_163 (kz:q) (h:q->p:=by intro kz;refine hY q_246 ?_;refine hY q_246 ?_;exact kz):p:=h kz
theorem z_164 (kz:q) (h:Qz q->p:=by intro kz;refine cw_skip ?_;refine z_116 ?_;exact kz tt):p:=h fun _=>kz
theorem z_165 (kz:q) (h:q->p:=by intro kz;refine cY q_238 ?_;refine z_13 ?_;exact kz):p:=h kz
theorem z_166 (kz:q) (h:q->p:=by intro kz;refine cY q_225 ?_;refine z_39 ?_;exact kz):p:=h kz
theorem z_167 (kz:q) (h:q->p:=by intro kz;refine cta_h rfl rfl rfl q_200 ⟨tt,?_⟩;refine cta_nil ?_;exact kz):p:=h kz
theorem z_168 (kz:q) (h:q->p:=by intro kz;refine z_46 ?_;refine cY q_180 ?_;exact kz):p:=h kz
theorem z_169 (kz:q) (h:q->p:=by intro kz;refine chf rfl q_206 ?_;refine chf_nil ?_;exact kz):p:=h kz
theorem z_170 (kz:q) (h:q->p:=by intro kz;refine z_65 ?_;refine z_5 ?_;exact kz):p:=h kz
theorem z_171 (kz:q) (h:Qz q->p:=by intro kz;refine z_156 ?_;refine z_25 ?_;exact kz tt):p:=h fun _=>kz
theorem z_172 (kz:q) (h:Qz q->p:=by intro kz;refine cY q_94 ?_;refine cY q_247 ?_;exact kz tt):p:=h fun _=>kz
theorem z_174 (kz:q) (h:Qz q->p:=by intro kz;refine z_41 ?_;refine z_104 ?_;refine z_23 ?_;exact kz tt):p:=h fun _=>kz
theorem z_175 (h:p:=by refine cw_skip ?_;exact ⟨_,tt,⟨⟨tt,rfl⟩,⟨tt,rfl⟩,⟨tt,rfl⟩,⟨tt,rfl⟩,tt⟩,rfl⟩):p:=h
theorem z_176 (kz:q) (h:q->p:=by intro kz;refine cG (fun hg=>y_field rfl tt rfl t_45 rfl t_52 de_) ?_;refine cG (fun hg=>y_load1 rfl hg rfl Tryz.isAgg117 rfl rfl) ?_;exact kz):p:=h kz
theorem z_177 (kz:q) (h:q->p:=by intro kz;refine cY q_266 ?_;refine z_8 ?_;exact kz):p:=h kz
theorem z_178 (kz:q) (h:q->p:=by intro kz;refine cw_exit ?_;refine z_19 ?_;exact kz):p:=h kz
theorem z_179 (kz:q) (h:q->p:=by intro kz;refine cG (fun hg=>y_field rfl tt rfl t_29 rfl t_21 de_) ?_;refine cG (fun hg=>y_load1 rfl hg rfl t_107 rfl rfl) ?_;exact kz):p:=h kz
theorem z_180 (kz:q) (h:q->p:=by intro kz;refine cG (fun hg=>y_field rfl tt rfl t_29 rfl t_96 de_) ?_;refine cG (fun hg=>y_load1 rfl hg rfl Tryz.isAgg65 rfl rfl) ?_;exact kz):p:=h kz
theorem z_181 (h:p:=by refine co_nil ?_;exact ⟨_,res_all (rs:=[]) (cs:=[]) rfl tt (n_2 rfl),⟨(),rfl,rfl,tt⟩⟩):p:=h
theorem z_182 (kz:q) (h:q->p:=by intro kz;refine cw_region ?_;refine z_142 ?_;exact kz):p:=h kz
theorem z_183 (kz:q) (h:q->p:=by intro kz;refine z_16 ?_;refine z_12 ?_;exact kz):p:=h kz
theorem z_184 (h:p:=by refine co_nil ?_;exact ⟨_,res_all (rs:=[]) (cs:=[]) rfl tt (n_2 rfl),⟨d2,q_70,tt⟩⟩):p:=h
theorem z_185 (kz:q) (h:q->p:=by intro kz;refine z_150 ?_;refine z_108 ?_;exact kz):p:=h kz
theorem z_186 (kz:q) (h:q->p:=by intro kz;refine z_114 ?_;refine cG q_119 ?_;refine cG q_208 ?_;exact kz):p:=h kz
theorem z_187 (kz:q) (h:q->p:=by intro kz;refine cD (d_alloc rfl Tryz.zeroValue26 rfl (.inl rfl) ?_);refine cD (d_store rfl tt tt rfl q_269 t_21 (.inl rfl) rfl rfl (nb rfl) ?_);exact kz):p:=h kz
theorem z_188 (kz:q) (h:q->p:=by intro kz;refine ⟨⟨q_181,q_243,q_90,(by exact hop_y rfl q_148),q_176,tt⟩,?_⟩;refine ctl_h rfl q_33 ⟨⟨q_181,q_243,q_90,tt⟩,?_⟩;exact kz):p:=h kz
theorem z_189 (kz:q) (h:q->p:=by intro kz;refine cG q_239 ?_;refine z_61 ?_;exact kz):p:=h kz
theorem z_190 (kz:q) (h:q->p:=by intro kz;refine co_nil ?_;refine z_7 ?_;exact kz):p:=h kz
theorem z_191 (kz:q) (h:q->p:=by intro kz;refine cw_draw 2 [0,0,3,7,15,31] q_289 q_289 rfl ?_;refine hY q_229 ?_;exact kz):p:=h kz
theorem z_192 (kz:q) (h:q->p:=by intro kz;refine cY q_162 ?_;refine cY q_237 ?_;exact kz):p:=h kz
theorem z_193 (kz:q) (h:q->p:=by intro kz;refine cY q_242 ?_;refine cY q_246 ?_;exact kz):p:=h kz
theorem z_194 (kz:q) (h:q->p:=by intro kz;refine cY q_172 ?_;refine cY q_246 ?_;exact kz):p:=h kz
theorem z_195 (kz:q) (h:q->p:=by intro kz;refine cY q_140 ?_;refine cY q_228 ?_;exact kz):p:=h kz
theorem z_196 (kz:q) (h:q->p:=by intro kz;refine cY q_166 ?_;refine cY q_237 ?_;exact kz):p:=h kz
theorem z_198 (kz:q) (h:Qz q->p:=by intro kz;refine cY q_173 ?_;refine cY q_160 ?_;exact kz tt):p:=h fun _=>kz
theorem z_199 (kz:q) (h:q->p:=by intro kz;refine cD (d_alloc rfl Tryz.zeroValue129 rfl q_288 ?_);refine cD (d_store rfl tt tt rfl q_269 t_77 q_288 rfl rfl (nb rfl) ?_);exact kz):p:=h kz
theorem z_200 (kz:q) (h:q->p:=by intro kz;refine cD (d_alloc rfl t_124 rfl q_288 ?_);refine cD (d_store rfl tt tt rfl q_269 t_79 q_288 rfl rfl (nb rfl) ?_);exact kz):p:=h kz
theorem z_201 (kz:q) (h:q->p:=by intro kz;refine cY q_188 ?_;refine cD (d_alloc rfl t_63 rfl q_288 ?_);exact kz):p:=h kz
theorem z_202 (h:p:=by refine cG (fun hg=>y_callf rfl t_60 ⟨hg,tt⟩ (lx_Path_s x.name om_ _) rfl) ?_;exact z_115):p:=h
theorem z_203 (kz:q) (h:q->p:=by intro kz;refine z_4 ?_;refine cw_block ?_;exact kz):p:=h kz
theorem z_204 (kz:q) (h:q->p:=by intro kz;refine z_2 ?_;refine z_5 ?_;exact kz):p:=h kz
theorem z_205 (h:p:=by refine z_171 ?_;exact ⟨_,res_all (rs:=[]) (cs:=[]) rfl tt (n_2 rfl),q_63⟩):p:=h
theorem z_206 (kz:q) (h:q->p:=by intro kz;refine cY q_159 ?_;refine cY (y_load1 rfl tt rfl t_103 rfl rfl) ?_;exact kz):p:=h kz
theorem z_207 (kz:q) (h:Qz q->p:=by intro kz;refine cw_exit ?_;refine z_21 ?_;exact kz tt):p:=h fun _=>kz
theorem z_208 (kz:q) (h:q->p:=by intro kz;refine z_38 ?_;refine z_12 ?_;exact kz):p:=h kz
theorem z_209 (kz:q) (h:q->p:=by intro kz;refine z_60 ?_;refine z_42 ?_;exact kz):p:=h kz
theorem z_210 (kz:q) (h:q->p:=by intro kz;refine hY (y_field rfl tt rfl t_158 rfl t_74 de_) ?_;refine hY (y_load1 rfl tt rfl t_99 hk rfl) ?_;exact kz):p:=h kz
theorem z_211 (h:p:=by refine z_19 ?_;exact ⟨_,res1 rfl tt q_269,_,_,rfl,rfl,cls_int (by rw [revE,if_pos hlen])⟩):p:=h
theorem z_212 (kz:q) (h:q->p:=by intro kz;refine z_0 ?_;refine cY (y_entry rfl tt rfl rfl) ?_;exact kz):p:=h kz
theorem z_213 (kz:q) (h:Qz q->p:=by intro kz;refine cY (y_index rfl tt rfl rfl rfl t_7 t_1 om_ (rows_get (rootsL_get g1)) rfl) ?_;refine cY q_248 ?_;exact kz tt):p:=h fun _=>kz
theorem z_214 (kz:q) (h:Qz q->p:=by intro kz;refine cY (y_index rfl tt tt rfl rfl t_7 t_1 om_ (rows_get (rootsL_get gm)) rfl) ?_;refine cY q_248 ?_;exact kz tt):p:=h fun _=>kz
theorem z_215 (kz:q) (h:Qz q->p:=by intro kz;refine cY q_193 ?_;refine cD (d_callv rfl t_26 q_296 (tape_one l nn (k+2) _ 0 rfl om_ hl madeFunctions de_ de_) rfl ?_);exact kz tt):p:=h fun _=>kz
theorem z_216 (kz:q) (h:Qz q->p:=by intro kz;refine ch_g rfl rfl tt rfl q_212 ?_;refine ch_g rfl rfl tt rfl q_58 ?_;refine ch_g rfl rfl tt rfl q_29 ?_;exact kz tt):p:=h fun _=>kz
theorem z_217 (kz:q) (h:q->p:=by intro kz;refine z_31 ?_;refine z_5 ?_;exact kz):p:=h kz
theorem z_218 (kz:q) (h:Qz q->p:=by intro kz;refine cY q_246 ?_;refine cY (y_index rfl tt tt rfl rfl t_43 t_37 om_ (rows_get hAt.node) rfl) ?_;exact kz tt):p:=h fun _=>kz
theorem z_219 (kz:q) (h:q->p:=by intro kz;refine cD (d_alloc rfl t_50 rfl q_288 ?_);refine z_29 ?_;exact kz):p:=h kz
theorem z_220 (kz:q) (h:q->p:=by intro kz;refine ctl_d rfl rfl (d_store rfl tt tt rfl q_269 t_39 q_288 rfl rfl (nb rfl) ?_);refine ⟨⟨q_214,tt⟩,?_⟩;exact kz):p:=h kz
theorem z_221 (kz:q) (h:q->p:=by intro kz;refine cw_draw 15 [0,1,3,7,15,7,39,7,135,487,999,2023,4095,8191,16383] q_289 q_289 rfl ?_;refine hY q_246 ?_;exact kz):p:=h kz
theorem z_222 (kz:q) (h:Qz q->p:=by intro kz;refine ch_nil ?_;refine cD (d_callv rfl t_26 q_296 (tape_one l nn (p+1) _ 0 rfl om_ hl madePaths de_ de_) rfl ?_);exact kz tt):p:=h fun _=>kz
theorem z_223 (kz:q) (h:q->p:=by intro kz;refine cY q_174 ?_;refine cY (y_callf rfl Tryz.call305 ⟨tt,tt⟩ (so_level_s ⟨k,u,o,nm,rootsL ch s⟩ _) rfl) ?_;exact kz):p:=h kz
theorem z_224 (h:p:=by refine z_5 ?_;exact ⟨_,res1 rfl tt q_269,⟨v,rfl,rfl,n_0 hv⟩⟩):p:=h
theorem z_225 (h:p:=by refine cw_skip ?_;exact ⟨(),_,tt,tu_,rfl⟩):p:=h
theorem z_226 (kz:q) (h:q->p:=by intro kz;refine z_77 ?_;refine cY (y_callf rfl t_70 ⟨tt,rfl,tt,tt⟩ (so_is hT hn 4 u ⟨rfl,rfl,de_⟩) rfl) ?_;exact kz):p:=h kz
theorem z_227 (kz:q) (h:q->p:=by intro kz;refine z_1 ?_;refine z_7 ?_;exact kz):p:=h kz
theorem z_228 (kz:q) (h:q->p:=by intro kz;refine cY q_242 ?_;refine z_12 ?_;exact kz):p:=h kz
theorem z_229 (kz:q) (h:q->p:=by intro kz;refine cY q_100 ?_;refine z_12 ?_;exact kz):p:=h kz
theorem z_230 (kz:q) (h:q->p:=by intro kz;refine z_9 ?_;refine z_0 ?_;exact kz):p:=h kz
theorem z_231 (kz:q) (h:q->p:=by intro kz;refine z_36 ?_;refine hY q_131 ?_;exact kz):p:=h kz
theorem z_232 (kz:q) (h:q->p:=by intro kz;refine cw_region ?_;refine cY q_172 ?_;exact kz):p:=h kz
theorem z_233 (kz:q) (h:Qz q->p:=by intro kz;refine cY (y_index rfl tt rfl rfl rfl t_2 t_0 om_ (rows_get g0) rfl) ?_;refine cY q_247 ?_;exact kz tt):p:=h fun _=>kz
theorem z_234 (kz:q) (h:Qz q->p:=by intro kz;refine cY (y_index rfl tt tt rfl rfl t_19 t_16 om_ (rows_get hy) rfl) ?_;refine cY q_191 ?_;exact kz tt):p:=h fun _=>kz
theorem z_235 (kz:q) (h:Qz q->p:=by intro kz;refine cY (y_index rfl tt tt rfl rfl t_5 t_4 om_ (rows_get hy) rfl) ?_;refine cY q_192 ?_;exact kz tt):p:=h fun _=>kz
theorem z_236 (kz:q) (h:Qz q->p:=by intro kz;refine cY (y_index rfl tt tt rfl rfl t_2 t_0 om_ (rows_get hs) rfl) ?_;refine cY q_247 ?_;exact kz tt):p:=h fun _=>kz
theorem z_237 (kz:q) (h:q->p:=by intro kz;refine cw_draw 14 [0,1,3,7,15,7,39,7,135,487,999,2023,4095,8191] q_289 q_289 rfl ?_;refine hY q_246 ?_;exact kz):p:=h kz
theorem z_238 (kz:q) (h:q->p:=by intro kz;refine z_14 ?_;refine z_67 ?_;exact kz):p:=h kz
theorem z_239 (kz:q) (h:Qz q->p:=by intro kz;refine ⟨tt,?_⟩;refine cta_h rfl rfl rfl q_123 ⟨tt,?_⟩;exact kz tt):p:=h fun _=>kz
theorem z_240 (h:p:=by refine cY (y_callf rfl Tryz.call233 q_296 (sl_IndexByte_s s c _) rfl) ?_;exact z_56):p:=h
theorem z_241 (kz:q) (h:q->p:=by intro kz;refine cw_exit ?_;refine z_16 ?_;exact kz):p:=h kz
theorem z_242 (h:p:=by refine z_19 ?_;exact ⟨_,res1 rfl tt q_269,_,_,rfl,rfl,cls_bool hno.symm⟩):p:=h
theorem z_243 (kz:q) (h:q->p:=by intro kz;refine cG q_239 ?_;refine cY q_199 ?_;exact kz):p:=h kz
theorem z_245 (kz:q) (h:q->p:=by intro kz;refine cw_skip ?_;refine z_19 ?_;exact kz):p:=h kz
theorem z_246 (kz:q) (h:q->p:=by intro kz;refine cY q_279 ?_;refine cY q_165 ?_;exact kz):p:=h kz
theorem z_247 (kz:q) (h:q->p:=by intro kz;refine cG q_212 ?_;refine cG q_204 ?_;exact kz):p:=h kz
theorem z_248 (kz:q) (h:Qz q->p:=by intro kz;refine cY q_246 ?_;refine cY q_251 ?_;exact kz tt):p:=h fun _=>kz
theorem z_249 (kz:q) (h:q->p:=by intro kz;refine cY q_172 ?_;refine cY q_174 ?_;exact kz):p:=h kz
theorem z_250 (kz:q) (h:q->p:=by intro kz;refine cY q_150 ?_;refine cY q_231 ?_;exact kz):p:=h kz
theorem z_251 (kz:q) (h:q->p:=by intro kz;refine hY q_148 ?_;refine hY q_238 ?_;exact kz):p:=h kz
theorem z_252 (kz:q) (h:q->p:=by intro kz;refine cY q_135 ?_;refine cY q_224 ?_;exact kz):p:=h kz
theorem z_253 (kz:q) (h:q->p:=by intro kz;refine cY q_279 ?_;refine cY q_131 ?_;exact kz):p:=h kz
theorem z_254 (h:p:=by refine z_204 ?_;exact ⟨_,res1 rfl tt q_269,_,_,rfl,rfl,cls_int hr.symm⟩):p:=h
theorem z_255 (kz:q) (h:q->p:=by intro kz;refine ctl_d rfl rfl (d_store rfl tt tt rfl q_269 t_97 (.inl rfl) rfl rfl (nb rfl) ?_);refine z_123 ?_;exact kz):p:=h kz
theorem z_256 (h:p:=by refine z_178 ?_;exact ⟨_,res1 rfl tt q_269,_,_,rfl,rfl,cls_int q_144⟩):p:=h
theorem z_257 (kz:q) (h:q->p:=by intro kz;refine z_1 ?_;refine z_45 ?_;exact kz):p:=h kz
theorem z_258 (kz:q) (h:q->p:=by intro kz;refine chf_nil ?_;refine ctl_d rfl rfl (d_store rfl tt tt rfl q_269 t_47 q_288 rfl rfl (nb rfl) ?_);exact kz):p:=h kz
theorem z_259 (kz:q) (h:q->p:=by intro kz;refine cw_skip ?_;refine z_7 ?_;exact kz):p:=h kz
theorem z_260 (h:p:=by refine z_72 ?_;exact ⟨_,res1 rfl tt q_269,_,_,rfl,rfl,cls_bool rfl⟩):p:=h
theorem z_261 (kz:q) (h:q->p:=by intro kz;refine z_29 ?_;refine cw_ret ?_;exact kz):p:=h kz
theorem z_262 (kz:q) (h:Qz q->p:=by intro kz;refine z_2 ?_;refine cD (d_callclov rfl tt rfl t_57 trivial (by exact hclo om_ (p+1) om_) rfl ?_);exact kz tt):p:=h fun _=>kz
theorem z_263 (kz:q) (h:q->p:=by intro kz;refine hY q_236 ?_;refine ch_nil ?_;exact kz):p:=h kz
theorem z_264 (kz:q) (h:q->p:=by intro kz;refine cY q_232 ?_;refine co_nil ?_;exact kz):p:=h kz
theorem z_265 (kz:q) (h:q->p:=by intro kz;refine cY q_196 ?_;refine co_nil ?_;exact kz):p:=h kz
theorem z_266 (kz:q) (h:q->p:=by intro kz;refine (ccalls_of Tryz.func246 rfl rfl ?_);refine z_132 ?_;exact kz):p:=h kz
theorem z_267 (kz:q) (h:q->p:=by intro kz;refine cw_seq ?_;refine cw_draw 10 [0,1,3,7,15,0,32,96,224,480,1023,2047] q_289 q_289 rfl ?_;exact kz):p:=h kz
theorem z_268 (kz:q) (h:q->p:=by intro kz;refine cY (y_callf rfl Tryz.call236 ⟨tt,tt⟩ (so_reserved_s (tk T n).t _) rfl) ?_;refine co_nil ?_;exact kz):p:=h kz
theorem z_269 (kz:q) (h:q->p:=by intro kz;refine z_165 ?_;refine z_27 ?_;exact kz):p:=h kz
theorem z_270 (kz:q) (h:q->p:=by intro kz;refine z_36 ?_;refine hY q_132 ?_;refine hY q_220 ?_;exact kz):p:=h kz
theorem z_271 (h:p:=by refine cw_exit ?_;refine z_19 ?_;exact ⟨_,res1 rfl tt q_269,_,_,rfl,rfl,cls_bool rfl⟩):p:=h
theorem z_272 (kz:q) (h:q->p:=by intro kz;refine cY q_246 ?_;refine cG q_126 ?_;refine cG q_207 ?_;exact kz):p:=h kz
theorem z_273 (h:p:=by refine z_5 ?_;exact ⟨_,res1 rfl tt q_269,⟨(),rfl,rfl,tt⟩⟩):p:=h
theorem z_274 (kz:q) (h:q->p:=by intro kz;refine cdef_of Tryz.func154 rfl rfl rfl rfl rfl rfl rfl rfl rfl rfl de_ de_ rfl rfl ?_;refine z_2 ?_;exact kz):p:=h kz
theorem z_275 (kz:q) (h:q->p:=by intro kz;refine ch_g rfl rfl tt rfl (fun hg=>y_scmp rfl hg hg rfl rfl (cstr_lss _ _)) ?_;refine hY q_196 ?_;exact kz):p:=h kz
theorem z_276 (kz:q) (h:q->p:=by intro kz;refine z_246 ?_;refine cD (d_store rfl tt tt rfl q_269 t_1 (.inl rfl) hk rfl (nb rfl) ?_);exact kz):p:=h kz
theorem z_277 (kz:q) (h:q->p:=by intro kz;refine cD (d_store rfl tt tt rfl q_269 t_1 (.inl rfl) rfl rfl (nb rfl) ?_);refine z_67 ?_;exact kz):p:=h kz
theorem z_278 (kz:q) (h:q->p:=by intro kz;refine cY q_236 ?_;refine cD (d_store rfl tt tt rfl q_269 t_16 q_288 rfl rfl (nb rfl) ?_);exact kz):p:=h kz
theorem z_279 (kz:q) (h:q->p:=by intro kz;refine cY q_40 ?_;refine cD (d_store rfl tt tt rfl q_269 t_79 q_288 rfl rfl (nb rfl) ?_);exact kz):p:=h kz
theorem z_280 (kz:q) (h:q->p:=by intro kz;refine cY (y_field rfl tt rfl t_56 rfl t_52 de_) ?_;refine cY q_219 ?_;exact kz):p:=h kz
theorem z_281 (kz:q) (h:q->p:=by intro kz;refine cY q_104 ?_;refine z_24 ?_;exact kz):p:=h kz
theorem z_282 (kz:q) (h:q->p:=by intro kz;refine co_nil ?_;refine cw_ret ?_;exact kz):p:=h kz
theorem z_283 (kz:q) (h:q->p:=by intro kz;refine z_137 ?_;refine cY q_98 ?_;exact kz):p:=h kz
theorem z_284 (h:p:=by refine z_61 ?_;exact ⟨(_,p5+1),⟨do_,do_⟩,⟨⟨tt,rfl⟩,⟨tt,rfl⟩,⟨tt,rfl⟩,⟨tt,rfl⟩,⟨tt,rfl⟩,⟨tt,rfl⟩,⟨tt,rfl⟩,tt⟩,rfl⟩):p:=h
theorem z_285 (h:p:=by refine z_207 ?_;exact ⟨(i+1),_,⟨om_,om_⟩,tu_,rfl⟩):p:=h
end Go
