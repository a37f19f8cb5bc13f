/-
  Closed facts on the types of this translation (printed by types.py).
-/
import Derived.Test.YtoofgniepbidnaaTy
import Derived.Test.YtoofgniepbidnaaDvT
namespace Go.Proofs.Ytoofgniepbidnaa
open Go.Dv
theorem fone_func_2829_ : OneTy PP 1 := by unfold OneTy; kernel_rfl
theorem fzero_func_2829_ : zeroV PP 1 = some [.nilfn] := by kernel_rfl
theorem fzeroN_func_2829_ : zeroN PP 1 = some [.nilfn] := by kernel_rfl
theorem fu_int64 : PP.underlying 2 = some (.int .i64) := by kernel_rfl
theorem fone_int64 : OneTy PP 2 := by unfold OneTy; kernel_rfl
theorem fzero_int64 : zeroV PP 2 = some [.int .i64 0] := by kernel_rfl
theorem fzeroN_int64 : zeroN PP 2 = some [.int .i64 0] := by kernel_rfl
theorem fu_int : PP.underlying 3 = some (.int .i64) := by kernel_rfl
theorem fone_int : OneTy PP 3 := by unfold OneTy; kernel_rfl
theorem fzero_int : zeroV PP 3 = some [.int .i64 0] := by kernel_rfl
theorem fzeroN_int : zeroN PP 3 = some [.int .i64 0] := by kernel_rfl
theorem fu_bool : PP.underlying 4 = some .bool := by kernel_rfl
theorem fone_bool : OneTy PP 4 := by unfold OneTy; kernel_rfl
theorem fzero_bool : zeroV PP 4 = some [.bool false] := by kernel_rfl
theorem fzeroN_bool : zeroN PP 4 = some [.bool false] := by kernel_rfl
theorem fu_uint8 : PP.underlying 5 = some (.int .u8) := by kernel_rfl
theorem fone_uint8 : OneTy PP 5 := by unfold OneTy; kernel_rfl
theorem fzero_uint8 : zeroV PP 5 = some [.int .u8 0] := by kernel_rfl
theorem fzeroN_uint8 : zeroN PP 5 = some [.int .u8 0] := by kernel_rfl
theorem fagg_struct_207b20_x_20_int64_3b20_y_20_int_3b20_signed_20_bool_3b20_code_20_abi_BoundsErrorCode_207d_ : AggTy PP 7 4 := by unfold AggTy; kernel_rfl
theorem fzero_struct_207b20_x_20_int64_3b20_y_20_int_3b20_signed_20_bool_3b20_code_20_abi_BoundsErrorCode_207d_ : zeroV PP 7 = some [.int .i64 0, .int .i64 0, .bool false, .int .u8 0] := by kernel_rfl
theorem fbld_struct_207b20_x_20_int64_3b20_y_20_int_3b20_signed_20_bool_3b20_code_20_abi_BoundsErrorCode_207d_ : bldTy PP 7 = some ([.int .i64 0, .int .i64 0, .bool false, .int .u8 0], [(0, 1), (1, 1), (2, 1), (3, 1)]) := by kernel_rfl
theorem fzeroN_struct_207b20_x_20_int64_3b20_y_20_int_3b20_signed_20_bool_3b20_code_20_abi_BoundsErrorCode_207d_ : zeroN PP 7 = some [.int .i64 0, .int .i64 0, .bool false, .int .u8 0] := by kernel_rfl
theorem fbldN_struct_207b20_x_20_int64_3b20_y_20_int_3b20_signed_20_bool_3b20_code_20_abi_BoundsErrorCode_207d_ : bldN PP 7 = some ([.int .i64 0, .int .i64 0, .bool false, .int .u8 0], [(0, 1), (1, 1), (2, 1), (3, 1)]) := by kernel_rfl
theorem ffld0_struct_207b20_x_20_int64_3b20_y_20_int_3b20_signed_20_bool_3b20_code_20_abi_BoundsErrorCode_207d_ : fldTy PP 7 0 = some (0, 1, false) := by kernel_rfl
theorem ffld1_struct_207b20_x_20_int64_3b20_y_20_int_3b20_signed_20_bool_3b20_code_20_abi_BoundsErrorCode_207d_ : fldTy PP 7 1 = some (1, 1, false) := by kernel_rfl
theorem ffld2_struct_207b20_x_20_int64_3b20_y_20_int_3b20_signed_20_bool_3b20_code_20_abi_BoundsErrorCode_207d_ : fldTy PP 7 2 = some (2, 1, false) := by kernel_rfl
theorem ffld3_struct_207b20_x_20_int64_3b20_y_20_int_3b20_signed_20_bool_3b20_code_20_abi_BoundsErrorCode_207d_ : fldTy PP 7 3 = some (3, 1, false) := by kernel_rfl
theorem fu_string : PP.underlying 9 = some .string := by kernel_rfl
theorem fone_string : OneTy PP 9 := by unfold OneTy; kernel_rfl
theorem fzero_string : zeroV PP 9 = some [.str []] := by kernel_rfl
theorem fzeroN_string : zeroN PP 9 = some [.str []] := by kernel_rfl
theorem fu_uintptr : PP.underlying 12 = some (.int .u64) := by kernel_rfl
theorem fone_uintptr : OneTy PP 12 := by unfold OneTy; kernel_rfl
theorem fzero_uintptr : zeroV PP 12 = some [.int .u64 0] := by kernel_rfl
theorem fzeroN_uintptr : zeroN PP 12 = some [.int .u64 0] := by kernel_rfl
theorem fagg_struct_207b20_msg_20_string_3b20_addr_20_uintptr_207d_ : AggTy PP 13 2 := by unfold AggTy; kernel_rfl
theorem fzero_struct_207b20_msg_20_string_3b20_addr_20_uintptr_207d_ : zeroV PP 13 = some [.str [], .int .u64 0] := by kernel_rfl
theorem fbld_struct_207b20_msg_20_string_3b20_addr_20_uintptr_207d_ : bldTy PP 13 = some ([.str [], .int .u64 0], [(0, 1), (1, 1)]) := by kernel_rfl
theorem fzeroN_struct_207b20_msg_20_string_3b20_addr_20_uintptr_207d_ : zeroN PP 13 = some [.str [], .int .u64 0] := by kernel_rfl
theorem fbldN_struct_207b20_msg_20_string_3b20_addr_20_uintptr_207d_ : bldN PP 13 = some ([.str [], .int .u64 0], [(0, 1), (1, 1)]) := by kernel_rfl
theorem ffld0_struct_207b20_msg_20_string_3b20_addr_20_uintptr_207d_ : fldTy PP 13 0 = some (0, 1, false) := by kernel_rfl
theorem ffld1_struct_207b20_msg_20_string_3b20_addr_20_uintptr_207d_ : fldTy PP 13 1 = some (1, 1, false) := by kernel_rfl
theorem fagg_struct_207b20_typ_202a_abi_Type_207d_ : AggTy PP 18 1 := by unfold AggTy; kernel_rfl
theorem fzero_struct_207b20_typ_202a_abi_Type_207d_ : zeroV PP 18 = some [.nilp] := by kernel_rfl
theorem fbld_struct_207b20_typ_202a_abi_Type_207d_ : bldTy PP 18 = some ([.nilp], [(0, 1)]) := by kernel_rfl
theorem fzeroN_struct_207b20_typ_202a_abi_Type_207d_ : zeroN PP 18 = some [.nilp] := by kernel_rfl
theorem fbldN_struct_207b20_typ_202a_abi_Type_207d_ : bldN PP 18 = some ([.nilp], [(0, 1)]) := by kernel_rfl
theorem ffld0_struct_207b20_typ_202a_abi_Type_207d_ : fldTy PP 18 0 = some (0, 1, false) := by kernel_rfl
theorem fu_int32 : PP.underlying 21 = some (.int .i32) := by kernel_rfl
theorem fone_int32 : OneTy PP 21 := by unfold OneTy; kernel_rfl
theorem fzero_int32 : zeroV PP 21 = some [.int .i32 0] := by kernel_rfl
theorem fzeroN_int32 : zeroN PP 21 = some [.int .i32 0] := by kernel_rfl
theorem fu_Sint : PP.underlying 22 = some (.slice 3) := by kernel_rfl
theorem fsl_Sint : slTy PP 22 = some (3, 1, 8, some (.int .i64 0)) := by kernel_rfl
theorem fone_Sint : OneTy PP 22 := by unfold OneTy; kernel_rfl
theorem fzero_Sint : zeroV PP 22 = some [.list []] := by kernel_rfl
theorem fzeroN_Sint : zeroN PP 22 = some [.nils] := by kernel_rfl
theorem fone_func_282920_bool : OneTy PP 23 := by unfold OneTy; kernel_rfl
theorem fzero_func_282920_bool : zeroV PP 23 = some [.nilfn] := by kernel_rfl
theorem fzeroN_func_282920_bool : zeroN PP 23 = some [.nilfn] := by kernel_rfl
theorem fone_func_285b5d_int_2920_bool : OneTy PP 24 := by unfold OneTy; kernel_rfl
theorem fzero_func_285b5d_int_2920_bool : zeroV PP 24 = some [.nilfn] := by kernel_rfl
theorem fzeroN_func_285b5d_int_2920_bool : zeroN PP 24 = some [.nilfn] := by kernel_rfl
theorem fone_Pcoverabilitymake_Deck : OneTy PP 25 := by unfold OneTy; kernel_rfl
theorem fzero_Pcoverabilitymake_Deck : zeroV PP 25 = some [.nilp] := by kernel_rfl
theorem fzeroN_Pcoverabilitymake_Deck : zeroN PP 25 = some [.nilp] := by kernel_rfl
theorem fone_func_285b5d_int_29202a_coverabilitymake_Deck : OneTy PP 26 := by unfold OneTy; kernel_rfl
theorem fzero_func_285b5d_int_29202a_coverabilitymake_Deck : zeroV PP 26 = some [.nilfn] := by kernel_rfl
theorem fzeroN_func_285b5d_int_29202a_coverabilitymake_Deck : zeroN PP 26 = some [.nilfn] := by kernel_rfl
theorem fone_func_28_int_2920_int : OneTy PP 27 := by unfold OneTy; kernel_rfl
theorem fzero_func_28_int_2920_int : zeroV PP 27 = some [.nilfn] := by kernel_rfl
theorem fzeroN_func_28_int_2920_int : zeroN PP 27 = some [.nilfn] := by kernel_rfl
theorem fone_func_28_int_2c20_bool_29205b5d_int : OneTy PP 28 := by unfold OneTy; kernel_rfl
theorem fzero_func_28_int_2c20_bool_29205b5d_int : zeroV PP 28 = some [.nilfn] := by kernel_rfl
theorem fzeroN_func_28_int_2c20_bool_29205b5d_int : zeroN PP 28 = some [.nilfn] := by kernel_rfl
theorem fu_api_Errno : PP.underlying 29 = some (.int .i64) := by kernel_rfl
theorem fone_api_Errno : OneTy PP 29 := by unfold OneTy; kernel_rfl
theorem fzero_api_Errno : zeroV PP 29 = some [.int .i64 0] := by kernel_rfl
theorem fzeroN_api_Errno : zeroN PP 29 = some [.int .i64 0] := by kernel_rfl
theorem fone_func_285b5d_int_2c205b5d_int_2920285b5d_int_2c20_api_Errno_29_ : OneTy PP 31 := by unfold OneTy; kernel_rfl
theorem fzero_func_285b5d_int_2c205b5d_int_2920285b5d_int_2c20_api_Errno_29_ : zeroV PP 31 = some [.nilfn] := by kernel_rfl
theorem fzeroN_func_285b5d_int_2c205b5d_int_2920285b5d_int_2c20_api_Errno_29_ : zeroN PP 31 = some [.nilfn] := by kernel_rfl
theorem fone_func_285b5d_int_2c205b5d_int_2920_bool : OneTy PP 32 := by unfold OneTy; kernel_rfl
theorem fzero_func_285b5d_int_2c205b5d_int_2920_bool : zeroV PP 32 = some [.nilfn] := by kernel_rfl
theorem fzeroN_func_285b5d_int_2c205b5d_int_2920_bool : zeroN PP 32 = some [.nilfn] := by kernel_rfl
theorem fone_func_28_int_2c20_int_29205b5d_int : OneTy PP 33 := by unfold OneTy; kernel_rfl
theorem fzero_func_28_int_2c20_int_29205b5d_int : zeroV PP 33 = some [.nilfn] := by kernel_rfl
theorem fzeroN_func_28_int_2c20_int_29205b5d_int : zeroN PP 33 = some [.nilfn] := by kernel_rfl
theorem fone_func_285b5d_int_2c205b5d_int_2920_int : OneTy PP 34 := by unfold OneTy; kernel_rfl
theorem fzero_func_285b5d_int_2c205b5d_int_2920_int : zeroV PP 34 = some [.nilfn] := by kernel_rfl
theorem fzeroN_func_285b5d_int_2c205b5d_int_2920_int : zeroN PP 34 = some [.nilfn] := by kernel_rfl
theorem fu_Sapi_Tree : PP.underlying 35 = some (.slice 37) := by kernel_rfl
theorem fsl_Sapi_Tree : slTy PP 35 = some (37, 2, 32, some (.agg #[.int .i64 0, .slice none 0 0])) := by kernel_rfl
theorem fone_Sapi_Tree : OneTy PP 35 := by unfold OneTy; kernel_rfl
theorem fzero_Sapi_Tree : zeroV PP 35 = some [.list []] := by kernel_rfl
theorem fzeroN_Sapi_Tree : zeroN PP 35 = some [.nils] := by kernel_rfl
theorem fagg_struct_207b20_Label_20_int_3b20_Kids_205b5d_api_Tree_207d_ : AggTy PP 36 2 := by unfold AggTy; kernel_rfl
theorem fzero_struct_207b20_Label_20_int_3b20_Kids_205b5d_api_Tree_207d_ : zeroV PP 36 = some [.int .i64 0, .list []] := by kernel_rfl
theorem fbld_struct_207b20_Label_20_int_3b20_Kids_205b5d_api_Tree_207d_ : bldTy PP 36 = some ([.int .i64 0, .list []], [(0, 1), (1, 1)]) := by kernel_rfl
theorem fzeroN_struct_207b20_Label_20_int_3b20_Kids_205b5d_api_Tree_207d_ : zeroN PP 36 = some [.int .i64 0, .nils] := by kernel_rfl
theorem fbldN_struct_207b20_Label_20_int_3b20_Kids_205b5d_api_Tree_207d_ : bldN PP 36 = some ([.int .i64 0, .nils], [(0, 1), (1, 1)]) := by kernel_rfl
theorem ffld0_struct_207b20_Label_20_int_3b20_Kids_205b5d_api_Tree_207d_ : fldTy PP 36 0 = some (0, 1, false) := by kernel_rfl
theorem ffld1_struct_207b20_Label_20_int_3b20_Kids_205b5d_api_Tree_207d_ : fldTy PP 36 1 = some (1, 1, false) := by kernel_rfl
theorem fagg_api_Tree : AggTy PP 37 2 := by unfold AggTy; kernel_rfl
theorem fzero_api_Tree : zeroV PP 37 = some [.int .i64 0, .list []] := by kernel_rfl
theorem fbld_api_Tree : bldTy PP 37 = some ([.int .i64 0, .list []], [(0, 1), (1, 1)]) := by kernel_rfl
theorem fzeroN_api_Tree : zeroN PP 37 = some [.int .i64 0, .nils] := by kernel_rfl
theorem fbldN_api_Tree : bldN PP 37 = some ([.int .i64 0, .nils], [(0, 1), (1, 1)]) := by kernel_rfl
theorem ffld0_api_Tree : fldTy PP 37 0 = some (0, 1, false) := by kernel_rfl
theorem ffld1_api_Tree : fldTy PP 37 1 = some (1, 1, false) := by kernel_rfl
theorem fone_func_28_int_2c20_int_2920_api_Tree : OneTy PP 38 := by unfold OneTy; kernel_rfl
theorem fzero_func_28_int_2c20_int_2920_api_Tree : zeroV PP 38 = some [.nilfn] := by kernel_rfl
theorem fzeroN_func_28_int_2c20_int_2920_api_Tree : zeroN PP 38 = some [.nilfn] := by kernel_rfl
theorem fone_func_28_api_Tree_2920_int : OneTy PP 39 := by unfold OneTy; kernel_rfl
theorem fzero_func_28_api_Tree_2920_int : zeroV PP 39 = some [.nilfn] := by kernel_rfl
theorem fzeroN_func_28_api_Tree_2920_int : zeroN PP 39 = some [.nilfn] := by kernel_rfl
theorem fone_func_28_api_Tree_2c20_api_Tree_2920_bool : OneTy PP 40 := by unfold OneTy; kernel_rfl
theorem fzero_func_28_api_Tree_2c20_api_Tree_2920_bool : zeroV PP 40 = some [.nilfn] := by kernel_rfl
theorem fzeroN_func_28_api_Tree_2c20_api_Tree_2920_bool : zeroN PP 40 = some [.nilfn] := by kernel_rfl
theorem fagg__5b_2_5d5b5d_int : AggTy PP 41 2 := by unfold AggTy; kernel_rfl
theorem fzero__5b_2_5d5b5d_int : zeroV PP 41 = some [.list [], .list []] := by kernel_rfl
theorem fbld__5b_2_5d5b5d_int : bldTy PP 41 = some ([.list [], .list []], [(0, 1), (1, 1)]) := by kernel_rfl
theorem fzeroN__5b_2_5d5b5d_int : zeroN PP 41 = some [.nils, .nils] := by kernel_rfl
theorem far__5b_2_5d5b5d_int : arTy PP 41 = some (2, 1, false) := by kernel_rfl
theorem fu__5b5d5b_2_5d5b5d_int : PP.underlying 42 = some (.slice 41) := by kernel_rfl
theorem fsl__5b5d5b_2_5d5b5d_int : slTy PP 42 = some (41, 2, 48, some (.agg #[.slice none 0 0, .slice none 0 0])) := by kernel_rfl
theorem fone__5b5d5b_2_5d5b5d_int : OneTy PP 42 := by unfold OneTy; kernel_rfl
theorem fzero__5b5d5b_2_5d5b5d_int : zeroV PP 42 = some [.list []] := by kernel_rfl
theorem fzeroN__5b5d5b_2_5d5b5d_int : zeroN PP 42 = some [.nils] := by kernel_rfl
theorem fone_func_285b5d_int_2c205b5d_int_2c205b5d_int_2920_bool : OneTy PP 43 := by unfold OneTy; kernel_rfl
theorem fzero_func_285b5d_int_2c205b5d_int_2c205b5d_int_2920_bool : zeroV PP 43 = some [.nilfn] := by kernel_rfl
theorem fzeroN_func_285b5d_int_2c205b5d_int_2c205b5d_int_2920_bool : zeroN PP 43 = some [.nilfn] := by kernel_rfl
theorem fone_func_28_api_Tree_2c20_int_2920_bool : OneTy PP 44 := by unfold OneTy; kernel_rfl
theorem fzero_func_28_api_Tree_2c20_int_2920_bool : zeroV PP 44 = some [.nilfn] := by kernel_rfl
theorem fzeroN_func_28_api_Tree_2c20_int_2920_bool : zeroN PP 44 = some [.nilfn] := by kernel_rfl
theorem fagg__5b_2_5d_api_Tree : AggTy PP 45 4 := by unfold AggTy; kernel_rfl
theorem fzero__5b_2_5d_api_Tree : zeroV PP 45 = some [.int .i64 0, .list [], .int .i64 0, .list []] := by kernel_rfl
theorem fbld__5b_2_5d_api_Tree : bldTy PP 45 = some ([.int .i64 0, .list [], .int .i64 0, .list []], [(0, 2), (2, 2)]) := by kernel_rfl
theorem fzeroN__5b_2_5d_api_Tree : zeroN PP 45 = some [.int .i64 0, .nils, .int .i64 0, .nils] := by kernel_rfl
theorem far__5b_2_5d_api_Tree : arTy PP 45 = some (2, 2, true) := by kernel_rfl
theorem fu__5b5d5b_2_5d_api_Tree : PP.underlying 46 = some (.slice 45) := by kernel_rfl
theorem fsl__5b5d5b_2_5d_api_Tree : slTy PP 46 = some (45, 4, 64, some (.agg #[.int .i64 0, .slice none 0 0, .int .i64 0, .slice none 0 0])) := by kernel_rfl
theorem fone__5b5d5b_2_5d_api_Tree : OneTy PP 46 := by unfold OneTy; kernel_rfl
theorem fzero__5b5d5b_2_5d_api_Tree : zeroV PP 46 = some [.list []] := by kernel_rfl
theorem fzeroN__5b5d5b_2_5d_api_Tree : zeroN PP 46 = some [.nils] := by kernel_rfl
theorem fone_func_28_api_Tree_2920_bool : OneTy PP 47 := by unfold OneTy; kernel_rfl
theorem fzero_func_28_api_Tree_2920_bool : zeroV PP 47 = some [.nilfn] := by kernel_rfl
theorem fzeroN_func_28_api_Tree_2920_bool : zeroN PP 47 = some [.nilfn] := by kernel_rfl
theorem fone_func_28_api_Tree_2c20_api_Tree_2920_int : OneTy PP 48 := by unfold OneTy; kernel_rfl
theorem fzero_func_28_api_Tree_2c20_api_Tree_2920_int : zeroV PP 48 = some [.nilfn] := by kernel_rfl
theorem fzeroN_func_28_api_Tree_2c20_api_Tree_2920_int : zeroN PP 48 = some [.nilfn] := by kernel_rfl
theorem fone_func_28_api_Tree_29205b5d_int : OneTy PP 49 := by unfold OneTy; kernel_rfl
theorem fzero_func_28_api_Tree_29205b5d_int : zeroV PP 49 = some [.nilfn] := by kernel_rfl
theorem fzeroN_func_28_api_Tree_29205b5d_int : zeroN PP 49 = some [.nilfn] := by kernel_rfl
theorem fone_func_28_api_Tree_2c20_api_Tree_2920285b5d_int_2c20_bool_29_ : OneTy PP 51 := by unfold OneTy; kernel_rfl
theorem fzero_func_28_api_Tree_2c20_api_Tree_2920285b5d_int_2c20_bool_29_ : zeroV PP 51 = some [.nilfn] := by kernel_rfl
theorem fzeroN_func_28_api_Tree_2c20_api_Tree_2920285b5d_int_2c20_bool_29_ : zeroN PP 51 = some [.nilfn] := by kernel_rfl
theorem fone_func_28_api_Tree_2c20_api_Tree_2c205b5d_int_2920_bool : OneTy PP 52 := by unfold OneTy; kernel_rfl
theorem fzero_func_28_api_Tree_2c20_api_Tree_2c205b5d_int_2920_bool : zeroV PP 52 = some [.nilfn] := by kernel_rfl
theorem fzeroN_func_28_api_Tree_2c20_api_Tree_2c205b5d_int_2920_bool : zeroN PP 52 = some [.nilfn] := by kernel_rfl
theorem fu__5b5d5b5d_int : PP.underlying 53 = some (.slice 22) := by kernel_rfl
theorem fsl__5b5d5b5d_int : slTy PP 53 = some (22, 1, 24, some (.slice none 0 0)) := by kernel_rfl
theorem fone__5b5d5b5d_int : OneTy PP 53 := by unfold OneTy; kernel_rfl
theorem fzero__5b5d5b5d_int : zeroV PP 53 = some [.list []] := by kernel_rfl
theorem fzeroN__5b5d5b5d_int : zeroN PP 53 = some [.nils] := by kernel_rfl
theorem fone_func_285b5d_int_2c20_api_Tree_2c20_api_Tree_2c205b5d_int_2920_bool : OneTy PP 54 := by unfold OneTy; kernel_rfl
theorem fzero_func_285b5d_int_2c20_api_Tree_2c20_api_Tree_2c205b5d_int_2920_bool : zeroV PP 54 = some [.nilfn] := by kernel_rfl
theorem fzeroN_func_285b5d_int_2c20_api_Tree_2c20_api_Tree_2c205b5d_int_2920_bool : zeroN PP 54 = some [.nilfn] := by kernel_rfl
theorem fu_uint64 : PP.underlying 55 = some (.int .u64) := by kernel_rfl
theorem fone_uint64 : OneTy PP 55 := by unfold OneTy; kernel_rfl
theorem fzero_uint64 : zeroV PP 55 = some [.int .u64 0] := by kernel_rfl
theorem fzeroN_uint64 : zeroN PP 55 = some [.int .u64 0] := by kernel_rfl
theorem fagg_struct_207b20_list_205b5d_int_3b20_at_20_int_3b20_state_20_uint64_207d_ : AggTy PP 56 3 := by unfold AggTy; kernel_rfl
theorem fzero_struct_207b20_list_205b5d_int_3b20_at_20_int_3b20_state_20_uint64_207d_ : zeroV PP 56 = some [.list [], .int .i64 0, .int .u64 0] := by kernel_rfl
theorem fbld_struct_207b20_list_205b5d_int_3b20_at_20_int_3b20_state_20_uint64_207d_ : bldTy PP 56 = some ([.list [], .int .i64 0, .int .u64 0], [(0, 1), (1, 1), (2, 1)]) := by kernel_rfl
theorem fzeroN_struct_207b20_list_205b5d_int_3b20_at_20_int_3b20_state_20_uint64_207d_ : zeroN PP 56 = some [.nils, .int .i64 0, .int .u64 0] := by kernel_rfl
theorem fbldN_struct_207b20_list_205b5d_int_3b20_at_20_int_3b20_state_20_uint64_207d_ : bldN PP 56 = some ([.nils, .int .i64 0, .int .u64 0], [(0, 1), (1, 1), (2, 1)]) := by kernel_rfl
theorem ffld0_struct_207b20_list_205b5d_int_3b20_at_20_int_3b20_state_20_uint64_207d_ : fldTy PP 56 0 = some (0, 1, false) := by kernel_rfl
theorem ffld1_struct_207b20_list_205b5d_int_3b20_at_20_int_3b20_state_20_uint64_207d_ : fldTy PP 56 1 = some (1, 1, false) := by kernel_rfl
theorem ffld2_struct_207b20_list_205b5d_int_3b20_at_20_int_3b20_state_20_uint64_207d_ : fldTy PP 56 2 = some (2, 1, false) := by kernel_rfl
theorem fagg_coverabilitymake_Deck : AggTy PP 57 3 := by unfold AggTy; kernel_rfl
theorem fzero_coverabilitymake_Deck : zeroV PP 57 = some [.list [], .int .i64 0, .int .u64 0] := by kernel_rfl
theorem fbld_coverabilitymake_Deck : bldTy PP 57 = some ([.list [], .int .i64 0, .int .u64 0], [(0, 1), (1, 1), (2, 1)]) := by kernel_rfl
theorem fzeroN_coverabilitymake_Deck : zeroN PP 57 = some [.nils, .int .i64 0, .int .u64 0] := by kernel_rfl
theorem fbldN_coverabilitymake_Deck : bldN PP 57 = some ([.nils, .int .i64 0, .int .u64 0], [(0, 1), (1, 1), (2, 1)]) := by kernel_rfl
theorem ffld0_coverabilitymake_Deck : fldTy PP 57 0 = some (0, 1, false) := by kernel_rfl
theorem ffld1_coverabilitymake_Deck : fldTy PP 57 1 = some (1, 1, false) := by kernel_rfl
theorem ffld2_coverabilitymake_Deck : fldTy PP 57 2 = some (2, 1, false) := by kernel_rfl
theorem fone_func_282920_uint64 : OneTy PP 58 := by unfold OneTy; kernel_rfl
theorem fzero_func_282920_uint64 : zeroV PP 58 = some [.nilfn] := by kernel_rfl
theorem fzeroN_func_282920_uint64 : zeroN PP 58 = some [.nilfn] := by kernel_rfl
theorem fu_uint : PP.underlying 59 = some (.int .u64) := by kernel_rfl
theorem fone_uint : OneTy PP 59 := by unfold OneTy; kernel_rfl
theorem fzero_uint : zeroV PP 59 = some [.int .u64 0] := by kernel_rfl
theorem fzeroN_uint : zeroN PP 59 = some [.int .u64 0] := by kernel_rfl
theorem fone_func_28_int_2920_bool : OneTy PP 60 := by unfold OneTy; kernel_rfl
theorem fzero_func_28_int_2920_bool : zeroV PP 60 = some [.nilfn] := by kernel_rfl
theorem fzeroN_func_28_int_2920_bool : zeroN PP 60 = some [.nilfn] := by kernel_rfl
theorem fone_func_285b5d_int_2c205b5d_int_2c20_func_285b5d_int_2920_bool_2c20_func_28_int_2c20_int_2920_int_2920285b5d_int_2c20_api_Errno_29_ : OneTy PP 61 := by unfold OneTy; kernel_rfl
theorem fzero_func_285b5d_int_2c205b5d_int_2c20_func_285b5d_int_2920_bool_2c20_func_28_int_2c20_int_2920_int_2920285b5d_int_2c20_api_Errno_29_ : zeroV PP 61 = some [.nilfn] := by kernel_rfl
theorem fzeroN_func_285b5d_int_2c205b5d_int_2c20_func_285b5d_int_2920_bool_2c20_func_28_int_2c20_int_2920_int_2920285b5d_int_2c20_api_Errno_29_ : zeroN PP 61 = some [.nilfn] := by kernel_rfl
theorem fone_func_28_int_2c20_int_2920_int : OneTy PP 62 := by unfold OneTy; kernel_rfl
theorem fzero_func_28_int_2c20_int_2920_int : zeroV PP 62 = some [.nilfn] := by kernel_rfl
theorem fzeroN_func_28_int_2c20_int_2920_int : zeroN PP 62 = some [.nilfn] := by kernel_rfl
theorem fone_func_282e2e2e_int_2920_int : OneTy PP 63 := by unfold OneTy; kernel_rfl
theorem fzero_func_282e2e2e_int_2920_int : zeroV PP 63 = some [.nilfn] := by kernel_rfl
theorem fzeroN_func_282e2e2e_int_2920_int : zeroN PP 63 = some [.nilfn] := by kernel_rfl
theorem fu_Stree_node : PP.underlying 64 = some (.slice 70) := by kernel_rfl
theorem fsl_Stree_node : slTy PP 64 = some (70, 3, 40, some (.agg #[.int .i64 0, .int .i64 0, .slice none 0 0])) := by kernel_rfl
theorem fone_Stree_node : OneTy PP 64 := by unfold OneTy; kernel_rfl
theorem fzero_Stree_node : zeroV PP 64 = some [.list []] := by kernel_rfl
theorem fzeroN_Stree_node : zeroN PP 64 = some [.nils] := by kernel_rfl
theorem fone_func_28_api_Tree_29205b5d_tree_node : OneTy PP 65 := by unfold OneTy; kernel_rfl
theorem fzero_func_28_api_Tree_29205b5d_tree_node : zeroV PP 65 = some [.nilfn] := by kernel_rfl
theorem fzeroN_func_28_api_Tree_29205b5d_tree_node : zeroN PP 65 = some [.nilfn] := by kernel_rfl
theorem fone_func_285b5d_int_2c20_func_28_int_2920_bool_2920_bool : OneTy PP 66 := by unfold OneTy; kernel_rfl
theorem fzero_func_285b5d_int_2c20_func_28_int_2920_bool_2920_bool : zeroV PP 66 = some [.nilfn] := by kernel_rfl
theorem fzeroN_func_285b5d_int_2c20_func_28_int_2920_bool_2920_bool : zeroN PP 66 = some [.nilfn] := by kernel_rfl
theorem fone_func_285b5d_int_2c205b5d_int_2920_api_Errno : OneTy PP 67 := by unfold OneTy; kernel_rfl
theorem fzero_func_285b5d_int_2c205b5d_int_2920_api_Errno : zeroV PP 67 = some [.nilfn] := by kernel_rfl
theorem fzeroN_func_285b5d_int_2c205b5d_int_2920_api_Errno : zeroN PP 67 = some [.nilfn] := by kernel_rfl
theorem fone_func_28_api_Tree_2c20_int_2920_int : OneTy PP 68 := by unfold OneTy; kernel_rfl
theorem fzero_func_28_api_Tree_2c20_int_2920_int : zeroV PP 68 = some [.nilfn] := by kernel_rfl
theorem fzeroN_func_28_api_Tree_2c20_int_2920_int : zeroN PP 68 = some [.nilfn] := by kernel_rfl
theorem fagg_struct_207b20_label_20_int_3b20_end_20_int_3b20_kids_205b5d_int_207d_ : AggTy PP 69 3 := by unfold AggTy; kernel_rfl
theorem fzero_struct_207b20_label_20_int_3b20_end_20_int_3b20_kids_205b5d_int_207d_ : zeroV PP 69 = some [.int .i64 0, .int .i64 0, .list []] := by kernel_rfl
theorem fbld_struct_207b20_label_20_int_3b20_end_20_int_3b20_kids_205b5d_int_207d_ : bldTy PP 69 = some ([.int .i64 0, .int .i64 0, .list []], [(0, 1), (1, 1), (2, 1)]) := by kernel_rfl
theorem fzeroN_struct_207b20_label_20_int_3b20_end_20_int_3b20_kids_205b5d_int_207d_ : zeroN PP 69 = some [.int .i64 0, .int .i64 0, .nils] := by kernel_rfl
theorem fbldN_struct_207b20_label_20_int_3b20_end_20_int_3b20_kids_205b5d_int_207d_ : bldN PP 69 = some ([.int .i64 0, .int .i64 0, .nils], [(0, 1), (1, 1), (2, 1)]) := by kernel_rfl
theorem ffld0_struct_207b20_label_20_int_3b20_end_20_int_3b20_kids_205b5d_int_207d_ : fldTy PP 69 0 = some (0, 1, false) := by kernel_rfl
theorem ffld1_struct_207b20_label_20_int_3b20_end_20_int_3b20_kids_205b5d_int_207d_ : fldTy PP 69 1 = some (1, 1, false) := by kernel_rfl
theorem ffld2_struct_207b20_label_20_int_3b20_end_20_int_3b20_kids_205b5d_int_207d_ : fldTy PP 69 2 = some (2, 1, false) := by kernel_rfl
theorem fagg_tree_node : AggTy PP 70 3 := by unfold AggTy; kernel_rfl
theorem fzero_tree_node : zeroV PP 70 = some [.int .i64 0, .int .i64 0, .list []] := by kernel_rfl
theorem fbld_tree_node : bldTy PP 70 = some ([.int .i64 0, .int .i64 0, .list []], [(0, 1), (1, 1), (2, 1)]) := by kernel_rfl
theorem fzeroN_tree_node : zeroN PP 70 = some [.int .i64 0, .int .i64 0, .nils] := by kernel_rfl
theorem fbldN_tree_node : bldN PP 70 = some ([.int .i64 0, .int .i64 0, .nils], [(0, 1), (1, 1), (2, 1)]) := by kernel_rfl
theorem ffld0_tree_node : fldTy PP 70 0 = some (0, 1, false) := by kernel_rfl
theorem ffld1_tree_node : fldTy PP 70 1 = some (1, 1, false) := by kernel_rfl
theorem ffld2_tree_node : fldTy PP 70 2 = some (2, 1, false) := by kernel_rfl
theorem fone_func_28_api_Tree_2c20_api_Tree_2c20_int_2920285b5d_int_2c20_bool_29_ : OneTy PP 71 := by unfold OneTy; kernel_rfl
theorem fzero_func_28_api_Tree_2c20_api_Tree_2c20_int_2920285b5d_int_2c20_bool_29_ : zeroV PP 71 = some [.nilfn] := by kernel_rfl
theorem fzeroN_func_28_api_Tree_2c20_api_Tree_2c20_int_2920285b5d_int_2c20_bool_29_ : zeroN PP 71 = some [.nilfn] := by kernel_rfl
theorem fone_Ptree_search : OneTy PP 72 := by unfold OneTy; kernel_rfl
theorem fzero_Ptree_search : zeroV PP 72 = some [.nilp] := by kernel_rfl
theorem fzeroN_Ptree_search : zeroN PP 72 = some [.nilp] := by kernel_rfl
theorem fagg_struct_207b20_a_205b5d_tree_node_3b20_b_205b5d_tree_node_3b20_to_205b5d5b5d_int_207d_ : AggTy PP 73 3 := by unfold AggTy; kernel_rfl
theorem fzero_struct_207b20_a_205b5d_tree_node_3b20_b_205b5d_tree_node_3b20_to_205b5d5b5d_int_207d_ : zeroV PP 73 = some [.list [], .list [], .list []] := by kernel_rfl
theorem fbld_struct_207b20_a_205b5d_tree_node_3b20_b_205b5d_tree_node_3b20_to_205b5d5b5d_int_207d_ : bldTy PP 73 = some ([.list [], .list [], .list []], [(0, 1), (1, 1), (2, 1)]) := by kernel_rfl
theorem fzeroN_struct_207b20_a_205b5d_tree_node_3b20_b_205b5d_tree_node_3b20_to_205b5d5b5d_int_207d_ : zeroN PP 73 = some [.nils, .nils, .nils] := by kernel_rfl
theorem fbldN_struct_207b20_a_205b5d_tree_node_3b20_b_205b5d_tree_node_3b20_to_205b5d5b5d_int_207d_ : bldN PP 73 = some ([.nils, .nils, .nils], [(0, 1), (1, 1), (2, 1)]) := by kernel_rfl
theorem ffld0_struct_207b20_a_205b5d_tree_node_3b20_b_205b5d_tree_node_3b20_to_205b5d5b5d_int_207d_ : fldTy PP 73 0 = some (0, 1, false) := by kernel_rfl
theorem ffld1_struct_207b20_a_205b5d_tree_node_3b20_b_205b5d_tree_node_3b20_to_205b5d5b5d_int_207d_ : fldTy PP 73 1 = some (1, 1, false) := by kernel_rfl
theorem ffld2_struct_207b20_a_205b5d_tree_node_3b20_b_205b5d_tree_node_3b20_to_205b5d5b5d_int_207d_ : fldTy PP 73 2 = some (2, 1, false) := by kernel_rfl
theorem fagg_tree_search : AggTy PP 74 3 := by unfold AggTy; kernel_rfl
theorem fzero_tree_search : zeroV PP 74 = some [.list [], .list [], .list []] := by kernel_rfl
theorem fbld_tree_search : bldTy PP 74 = some ([.list [], .list [], .list []], [(0, 1), (1, 1), (2, 1)]) := by kernel_rfl
theorem fzeroN_tree_search : zeroN PP 74 = some [.nils, .nils, .nils] := by kernel_rfl
theorem fbldN_tree_search : bldN PP 74 = some ([.nils, .nils, .nils], [(0, 1), (1, 1), (2, 1)]) := by kernel_rfl
theorem ffld0_tree_search : fldTy PP 74 0 = some (0, 1, false) := by kernel_rfl
theorem ffld1_tree_search : fldTy PP 74 1 = some (1, 1, false) := by kernel_rfl
theorem ffld2_tree_search : fldTy PP 74 2 = some (2, 1, false) := by kernel_rfl
theorem fone_func_285b5d_int_2c20_int_2c20_int_29_ : OneTy PP 75 := by unfold OneTy; kernel_rfl
theorem fzero_func_285b5d_int_2c20_int_2c20_int_29_ : zeroV PP 75 = some [.nilfn] := by kernel_rfl
theorem fzeroN_func_285b5d_int_2c20_int_2c20_int_29_ : zeroN PP 75 = some [.nilfn] := by kernel_rfl
theorem fone_func_28_api_Tree_2c20_int_2c20_api_Tree_2c205b5d_int_2920_bool : OneTy PP 76 := by unfold OneTy; kernel_rfl
theorem fzero_func_28_api_Tree_2c20_int_2c20_api_Tree_2c205b5d_int_2920_bool : zeroV PP 76 = some [.nilfn] := by kernel_rfl
theorem fzeroN_func_28_api_Tree_2c20_int_2c20_api_Tree_2c205b5d_int_2920_bool : zeroN PP 76 = some [.nilfn] := by kernel_rfl
theorem fone_func_285b5d_int_2c20_func_28_int_2920_bool_2920_int : OneTy PP 77 := by unfold OneTy; kernel_rfl
theorem fzero_func_285b5d_int_2c20_func_28_int_2920_bool_2920_int : zeroV PP 77 = some [.nilfn] := by kernel_rfl
theorem fzeroN_func_285b5d_int_2c20_func_28_int_2920_bool_2920_int : zeroN PP 77 = some [.nilfn] := by kernel_rfl
theorem fone_func_285b5d_tree_node_2c20_api_Tree_29205b5d_tree_node : OneTy PP 78 := by unfold OneTy; kernel_rfl
theorem fzero_func_285b5d_tree_node_2c20_api_Tree_29205b5d_tree_node : zeroV PP 78 = some [.nilfn] := by kernel_rfl
theorem fzeroN_func_285b5d_tree_node_2c20_api_Tree_29205b5d_tree_node : zeroN PP 78 = some [.nilfn] := by kernel_rfl
theorem fone_func_285b5d_tree_node_2c20_func_28_tree_node_2920_bool_2920_bool : OneTy PP 79 := by unfold OneTy; kernel_rfl
theorem fzero_func_285b5d_tree_node_2c20_func_28_tree_node_2920_bool_2920_bool : zeroV PP 79 = some [.nilfn] := by kernel_rfl
theorem fzeroN_func_285b5d_tree_node_2c20_func_28_tree_node_2920_bool_2920_bool : zeroN PP 79 = some [.nilfn] := by kernel_rfl
theorem fone_func_28_tree_node_2920_bool : OneTy PP 80 := by unfold OneTy; kernel_rfl
theorem fzero_func_28_tree_node_2920_bool : zeroV PP 80 = some [.nilfn] := by kernel_rfl
theorem fzeroN_func_28_tree_node_2920_bool : zeroN PP 80 = some [.nilfn] := by kernel_rfl
theorem fone_func_285b5d_api_Tree_2c205b5d_api_Tree_2c20_func_28_api_Tree_2c20_api_Tree_2920_int_2920_int : OneTy PP 81 := by unfold OneTy; kernel_rfl
theorem fzero_func_285b5d_api_Tree_2c205b5d_api_Tree_2c20_func_28_api_Tree_2c20_api_Tree_2920_int_2920_int : zeroV PP 81 = some [.nilfn] := by kernel_rfl
theorem fzeroN_func_285b5d_api_Tree_2c205b5d_api_Tree_2c20_func_28_api_Tree_2c20_api_Tree_2920_int_2920_int : zeroN PP 81 = some [.nilfn] := by kernel_rfl
theorem fone_func_28_int_2c20_int_2920285b5d_int_2c20_bool_29_ : OneTy PP 82 := by unfold OneTy; kernel_rfl
theorem fzero_func_28_int_2c20_int_2920285b5d_int_2c20_bool_29_ : zeroV PP 82 = some [.nilfn] := by kernel_rfl
theorem fzeroN_func_28_int_2c20_int_2920285b5d_int_2c20_bool_29_ : zeroN PP 82 = some [.nilfn] := by kernel_rfl
theorem fone_func_28_api_Tree_2c20_int_2920_api_Tree : OneTy PP 83 := by unfold OneTy; kernel_rfl
theorem fzero_func_28_api_Tree_2c20_int_2920_api_Tree : zeroV PP 83 = some [.nilfn] := by kernel_rfl
theorem fzeroN_func_28_api_Tree_2c20_int_2920_api_Tree : zeroN PP 83 = some [.nilfn] := by kernel_rfl
theorem fone_func_28_api_Tree_2c20_int_2c20_int_2920_int : OneTy PP 84 := by unfold OneTy; kernel_rfl
theorem fzero_func_28_api_Tree_2c20_int_2c20_int_2920_int : zeroV PP 84 = some [.nilfn] := by kernel_rfl
theorem fzeroN_func_28_api_Tree_2c20_int_2c20_int_2920_int : zeroN PP 84 = some [.nilfn] := by kernel_rfl
theorem fone_func_285b5d_tree_node_2c20_func_28_tree_node_2920_bool_2920_int : OneTy PP 85 := by unfold OneTy; kernel_rfl
theorem fzero_func_285b5d_tree_node_2c20_func_28_tree_node_2920_bool_2920_int : zeroV PP 85 = some [.nilfn] := by kernel_rfl
theorem fzeroN_func_285b5d_tree_node_2c20_func_28_tree_node_2920_bool_2920_int : zeroN PP 85 = some [.nilfn] := by kernel_rfl
theorem fone_func_282920_string : OneTy PP 86 := by unfold OneTy; kernel_rfl
theorem fzero_func_282920_string : zeroV PP 86 = some [.nilfn] := by kernel_rfl
theorem fzeroN_func_282920_string : zeroN PP 86 = some [.nilfn] := by kernel_rfl
theorem fagg_struct_207b205f_interface_202a_abi_Type_3b20_concrete_202a_abi_Type_3b20_asserted_202a_abi_Type_3b20_missingMethod_20_string_207d_ : AggTy PP 87 4 := by unfold AggTy; kernel_rfl
theorem fzero_struct_207b205f_interface_202a_abi_Type_3b20_concrete_202a_abi_Type_3b20_asserted_202a_abi_Type_3b20_missingMethod_20_string_207d_ : zeroV PP 87 = some [.nilp, .nilp, .nilp, .str []] := by kernel_rfl
theorem fbld_struct_207b205f_interface_202a_abi_Type_3b20_concrete_202a_abi_Type_3b20_asserted_202a_abi_Type_3b20_missingMethod_20_string_207d_ : bldTy PP 87 = some ([.nilp, .nilp, .nilp, .str []], [(0, 1), (1, 1), (2, 1), (3, 1)]) := by kernel_rfl
theorem fzeroN_struct_207b205f_interface_202a_abi_Type_3b20_concrete_202a_abi_Type_3b20_asserted_202a_abi_Type_3b20_missingMethod_20_string_207d_ : zeroN PP 87 = some [.nilp, .nilp, .nilp, .str []] := by kernel_rfl
theorem fbldN_struct_207b205f_interface_202a_abi_Type_3b20_concrete_202a_abi_Type_3b20_asserted_202a_abi_Type_3b20_missingMethod_20_string_207d_ : bldN PP 87 = some ([.nilp, .nilp, .nilp, .str []], [(0, 1), (1, 1), (2, 1), (3, 1)]) := by kernel_rfl
theorem ffld0_struct_207b205f_interface_202a_abi_Type_3b20_concrete_202a_abi_Type_3b20_asserted_202a_abi_Type_3b20_missingMethod_20_string_207d_ : fldTy PP 87 0 = some (0, 1, false) := by kernel_rfl
theorem ffld1_struct_207b205f_interface_202a_abi_Type_3b20_concrete_202a_abi_Type_3b20_asserted_202a_abi_Type_3b20_missingMethod_20_string_207d_ : fldTy PP 87 1 = some (1, 1, false) := by kernel_rfl
theorem ffld2_struct_207b205f_interface_202a_abi_Type_3b20_concrete_202a_abi_Type_3b20_asserted_202a_abi_Type_3b20_missingMethod_20_string_207d_ : fldTy PP 87 2 = some (2, 1, false) := by kernel_rfl
theorem ffld3_struct_207b205f_interface_202a_abi_Type_3b20_concrete_202a_abi_Type_3b20_asserted_202a_abi_Type_3b20_missingMethod_20_string_207d_ : fldTy PP 87 3 = some (3, 1, false) := by kernel_rfl
theorem fagg_struct_207b205f205b_0_5d2a_runtime_PanicNilError_207d_ : AggTy PP 90 0 := by unfold AggTy; kernel_rfl
theorem fzero_struct_207b205f205b_0_5d2a_runtime_PanicNilError_207d_ : zeroV PP 90 = some [] := by kernel_rfl
theorem fbld_struct_207b205f205b_0_5d2a_runtime_PanicNilError_207d_ : bldTy PP 90 = some ([], [(0, 0)]) := by kernel_rfl
theorem fzeroN_struct_207b205f205b_0_5d2a_runtime_PanicNilError_207d_ : zeroN PP 90 = some [] := by kernel_rfl
theorem fbldN_struct_207b205f205b_0_5d2a_runtime_PanicNilError_207d_ : bldN PP 90 = some ([], [(0, 0)]) := by kernel_rfl
theorem ffld0_struct_207b205f205b_0_5d2a_runtime_PanicNilError_207d_ : fldTy PP 90 0 = some (0, 0, true) := by kernel_rfl
theorem fone_func_282920_int : OneTy PP 92 := by unfold OneTy; kernel_rfl
theorem fzero_func_282920_int : zeroV PP 92 = some [.nilfn] := by kernel_rfl
theorem fzeroN_func_282920_int : zeroN PP 92 = some [.nilfn] := by kernel_rfl
theorem fu_uint32 : PP.underlying 93 = some (.int .u32) := by kernel_rfl
theorem fone_uint32 : OneTy PP 93 := by unfold OneTy; kernel_rfl
theorem fzero_uint32 : zeroV PP 93 = some [.int .u32 0] := by kernel_rfl
theorem fzeroN_uint32 : zeroN PP 93 = some [.int .u32 0] := by kernel_rfl
theorem fone_func_28_unsafe_Pointer_2c20_unsafe_Pointer_2920_bool : OneTy PP 96 := by unfold OneTy; kernel_rfl
theorem fzero_func_28_unsafe_Pointer_2c20_unsafe_Pointer_2920_bool : zeroV PP 96 = some [.nilfn] := by kernel_rfl
theorem fzeroN_func_28_unsafe_Pointer_2c20_unsafe_Pointer_2920_bool : zeroN PP 96 = some [.nilfn] := by kernel_rfl
theorem fone_Puint8 : OneTy PP 97 := by unfold OneTy; kernel_rfl
theorem fzero_Puint8 : zeroV PP 97 = some [.nilp] := by kernel_rfl
theorem fzeroN_Puint8 : zeroN PP 97 = some [.nilp] := by kernel_rfl
theorem fagg_struct_207b20_Size_5f20_uintptr_3b20_PtrBytes_20_uintptr_3b20_Hash_20_uint32_3b20_TFlag_20_abi_TFlag_3b20_Align_5f20_uint8_3b20_FieldAlign_5f20_uint8_3b20_Kind_5f20_abi_Kind_3b20_Equal_20_func_28_unsafe_Pointer_2c20_unsafe_Pointer_2920_bool_3b20_GCData_202a_uint8_3b20_Str_20_abi_NameOff_3b20_PtrToThis_20_abi_TypeOff_207d_ : AggTy PP 100 11 := by unfold AggTy; kernel_rfl
theorem fzero_struct_207b20_Size_5f20_uintptr_3b20_PtrBytes_20_uintptr_3b20_Hash_20_uint32_3b20_TFlag_20_abi_TFlag_3b20_Align_5f20_uint8_3b20_FieldAlign_5f20_uint8_3b20_Kind_5f20_abi_Kind_3b20_Equal_20_func_28_unsafe_Pointer_2c20_unsafe_Pointer_2920_bool_3b20_GCData_202a_uint8_3b20_Str_20_abi_NameOff_3b20_PtrToThis_20_abi_TypeOff_207d_ : zeroV PP 100 = some [.int .u64 0, .int .u64 0, .int .u32 0, .int .u8 0, .int .u8 0, .int .u8 0, .int .u8 0, .nilfn, .nilp, .int .i32 0, .int .i32 0] := by kernel_rfl
theorem fbld_struct_207b20_Size_5f20_uintptr_3b20_PtrBytes_20_uintptr_3b20_Hash_20_uint32_3b20_TFlag_20_abi_TFlag_3b20_Align_5f20_uint8_3b20_FieldAlign_5f20_uint8_3b20_Kind_5f20_abi_Kind_3b20_Equal_20_func_28_unsafe_Pointer_2c20_unsafe_Pointer_2920_bool_3b20_GCData_202a_uint8_3b20_Str_20_abi_NameOff_3b20_PtrToThis_20_abi_TypeOff_207d_ : bldTy PP 100 = some ([.int .u64 0, .int .u64 0, .int .u32 0, .int .u8 0, .int .u8 0, .int .u8 0, .int .u8 0, .nilfn, .nilp, .int .i32 0, .int .i32 0], [(0, 1), (1, 1), (2, 1), (3, 1), (4, 1), (5, 1), (6, 1), (7, 1), (8, 1), (9, 1), (10, 1)]) := by kernel_rfl
theorem fzeroN_struct_207b20_Size_5f20_uintptr_3b20_PtrBytes_20_uintptr_3b20_Hash_20_uint32_3b20_TFlag_20_abi_TFlag_3b20_Align_5f20_uint8_3b20_FieldAlign_5f20_uint8_3b20_Kind_5f20_abi_Kind_3b20_Equal_20_func_28_unsafe_Pointer_2c20_unsafe_Pointer_2920_bool_3b20_GCData_202a_uint8_3b20_Str_20_abi_NameOff_3b20_PtrToThis_20_abi_TypeOff_207d_ : zeroN PP 100 = some [.int .u64 0, .int .u64 0, .int .u32 0, .int .u8 0, .int .u8 0, .int .u8 0, .int .u8 0, .nilfn, .nilp, .int .i32 0, .int .i32 0] := by kernel_rfl
theorem fbldN_struct_207b20_Size_5f20_uintptr_3b20_PtrBytes_20_uintptr_3b20_Hash_20_uint32_3b20_TFlag_20_abi_TFlag_3b20_Align_5f20_uint8_3b20_FieldAlign_5f20_uint8_3b20_Kind_5f20_abi_Kind_3b20_Equal_20_func_28_unsafe_Pointer_2c20_unsafe_Pointer_2920_bool_3b20_GCData_202a_uint8_3b20_Str_20_abi_NameOff_3b20_PtrToThis_20_abi_TypeOff_207d_ : bldN PP 100 = some ([.int .u64 0, .int .u64 0, .int .u32 0, .int .u8 0, .int .u8 0, .int .u8 0, .int .u8 0, .nilfn, .nilp, .int .i32 0, .int .i32 0], [(0, 1), (1, 1), (2, 1), (3, 1), (4, 1), (5, 1), (6, 1), (7, 1), (8, 1), (9, 1), (10, 1)]) := by kernel_rfl
theorem ffld0_struct_207b20_Size_5f20_uintptr_3b20_PtrBytes_20_uintptr_3b20_Hash_20_uint32_3b20_TFlag_20_abi_TFlag_3b20_Align_5f20_uint8_3b20_FieldAlign_5f20_uint8_3b20_Kind_5f20_abi_Kind_3b20_Equal_20_func_28_unsafe_Pointer_2c20_unsafe_Pointer_2920_bool_3b20_GCData_202a_uint8_3b20_Str_20_abi_NameOff_3b20_PtrToThis_20_abi_TypeOff_207d_ : fldTy PP 100 0 = some (0, 1, false) := by kernel_rfl
theorem ffld1_struct_207b20_Size_5f20_uintptr_3b20_PtrBytes_20_uintptr_3b20_Hash_20_uint32_3b20_TFlag_20_abi_TFlag_3b20_Align_5f20_uint8_3b20_FieldAlign_5f20_uint8_3b20_Kind_5f20_abi_Kind_3b20_Equal_20_func_28_unsafe_Pointer_2c20_unsafe_Pointer_2920_bool_3b20_GCData_202a_uint8_3b20_Str_20_abi_NameOff_3b20_PtrToThis_20_abi_TypeOff_207d_ : fldTy PP 100 1 = some (1, 1, false) := by kernel_rfl
theorem ffld2_struct_207b20_Size_5f20_uintptr_3b20_PtrBytes_20_uintptr_3b20_Hash_20_uint32_3b20_TFlag_20_abi_TFlag_3b20_Align_5f20_uint8_3b20_FieldAlign_5f20_uint8_3b20_Kind_5f20_abi_Kind_3b20_Equal_20_func_28_unsafe_Pointer_2c20_unsafe_Pointer_2920_bool_3b20_GCData_202a_uint8_3b20_Str_20_abi_NameOff_3b20_PtrToThis_20_abi_TypeOff_207d_ : fldTy PP 100 2 = some (2, 1, false) := by kernel_rfl
theorem ffld3_struct_207b20_Size_5f20_uintptr_3b20_PtrBytes_20_uintptr_3b20_Hash_20_uint32_3b20_TFlag_20_abi_TFlag_3b20_Align_5f20_uint8_3b20_FieldAlign_5f20_uint8_3b20_Kind_5f20_abi_Kind_3b20_Equal_20_func_28_unsafe_Pointer_2c20_unsafe_Pointer_2920_bool_3b20_GCData_202a_uint8_3b20_Str_20_abi_NameOff_3b20_PtrToThis_20_abi_TypeOff_207d_ : fldTy PP 100 3 = some (3, 1, false) := by kernel_rfl
theorem ffld4_struct_207b20_Size_5f20_uintptr_3b20_PtrBytes_20_uintptr_3b20_Hash_20_uint32_3b20_TFlag_20_abi_TFlag_3b20_Align_5f20_uint8_3b20_FieldAlign_5f20_uint8_3b20_Kind_5f20_abi_Kind_3b20_Equal_20_func_28_unsafe_Pointer_2c20_unsafe_Pointer_2920_bool_3b20_GCData_202a_uint8_3b20_Str_20_abi_NameOff_3b20_PtrToThis_20_abi_TypeOff_207d_ : fldTy PP 100 4 = some (4, 1, false) := by kernel_rfl
theorem ffld5_struct_207b20_Size_5f20_uintptr_3b20_PtrBytes_20_uintptr_3b20_Hash_20_uint32_3b20_TFlag_20_abi_TFlag_3b20_Align_5f20_uint8_3b20_FieldAlign_5f20_uint8_3b20_Kind_5f20_abi_Kind_3b20_Equal_20_func_28_unsafe_Pointer_2c20_unsafe_Pointer_2920_bool_3b20_GCData_202a_uint8_3b20_Str_20_abi_NameOff_3b20_PtrToThis_20_abi_TypeOff_207d_ : fldTy PP 100 5 = some (5, 1, false) := by kernel_rfl
theorem ffld6_struct_207b20_Size_5f20_uintptr_3b20_PtrBytes_20_uintptr_3b20_Hash_20_uint32_3b20_TFlag_20_abi_TFlag_3b20_Align_5f20_uint8_3b20_FieldAlign_5f20_uint8_3b20_Kind_5f20_abi_Kind_3b20_Equal_20_func_28_unsafe_Pointer_2c20_unsafe_Pointer_2920_bool_3b20_GCData_202a_uint8_3b20_Str_20_abi_NameOff_3b20_PtrToThis_20_abi_TypeOff_207d_ : fldTy PP 100 6 = some (6, 1, false) := by kernel_rfl
theorem ffld7_struct_207b20_Size_5f20_uintptr_3b20_PtrBytes_20_uintptr_3b20_Hash_20_uint32_3b20_TFlag_20_abi_TFlag_3b20_Align_5f20_uint8_3b20_FieldAlign_5f20_uint8_3b20_Kind_5f20_abi_Kind_3b20_Equal_20_func_28_unsafe_Pointer_2c20_unsafe_Pointer_2920_bool_3b20_GCData_202a_uint8_3b20_Str_20_abi_NameOff_3b20_PtrToThis_20_abi_TypeOff_207d_ : fldTy PP 100 7 = some (7, 1, false) := by kernel_rfl
theorem ffld8_struct_207b20_Size_5f20_uintptr_3b20_PtrBytes_20_uintptr_3b20_Hash_20_uint32_3b20_TFlag_20_abi_TFlag_3b20_Align_5f20_uint8_3b20_FieldAlign_5f20_uint8_3b20_Kind_5f20_abi_Kind_3b20_Equal_20_func_28_unsafe_Pointer_2c20_unsafe_Pointer_2920_bool_3b20_GCData_202a_uint8_3b20_Str_20_abi_NameOff_3b20_PtrToThis_20_abi_TypeOff_207d_ : fldTy PP 100 8 = some (8, 1, false) := by kernel_rfl
theorem ffld9_struct_207b20_Size_5f20_uintptr_3b20_PtrBytes_20_uintptr_3b20_Hash_20_uint32_3b20_TFlag_20_abi_TFlag_3b20_Align_5f20_uint8_3b20_FieldAlign_5f20_uint8_3b20_Kind_5f20_abi_Kind_3b20_Equal_20_func_28_unsafe_Pointer_2c20_unsafe_Pointer_2920_bool_3b20_GCData_202a_uint8_3b20_Str_20_abi_NameOff_3b20_PtrToThis_20_abi_TypeOff_207d_ : fldTy PP 100 9 = some (9, 1, false) := by kernel_rfl
theorem ffld10_struct_207b20_Size_5f20_uintptr_3b20_PtrBytes_20_uintptr_3b20_Hash_20_uint32_3b20_TFlag_20_abi_TFlag_3b20_Align_5f20_uint8_3b20_FieldAlign_5f20_uint8_3b20_Kind_5f20_abi_Kind_3b20_Equal_20_func_28_unsafe_Pointer_2c20_unsafe_Pointer_2920_bool_3b20_GCData_202a_uint8_3b20_Str_20_abi_NameOff_3b20_PtrToThis_20_abi_TypeOff_207d_ : fldTy PP 100 10 = some (10, 1, false) := by kernel_rfl
end Go.Proofs.Ytoofgniepbidnaa
