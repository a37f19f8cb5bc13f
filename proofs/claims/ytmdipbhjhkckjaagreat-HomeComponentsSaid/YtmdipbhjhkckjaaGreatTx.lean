/-
  Closed facts on the types of this translation.
-/
import Derived.Test.YtmdipbhjhkckjaaGreatProg
import Derived.Test.YtmdipbhjhkckjaaGreatDb
import Derived.KernelRfl
namespace Go.Proofs.YtmdipbhjhkckjaaGreat
open Go.Dv
noncomputable abbrev PP : Program := Tryz.prog
theorem mixed : PP.follows .mixedOrders = true := by kernel_rfl
theorem uBool : PP.underlying 4 = some .bool := by kernel_rfl
end Go.Proofs.YtmdipbhjhkckjaaGreat

namespace Go.Proofs.YtmdipbhjhkckjaaGreat
open Go.Dv
theorem fu_int : PP.underlying 3 = some (.int .i64) := by kernel_rfl
theorem fone_int : OneTy PP 3 := by unfold OneTy; kernel_rfl
theorem fzero_int : zeroV PP 3 = some [.int .i64 0] := by kernel_rfl
theorem fone_bool : OneTy PP 4 := by unfold OneTy; kernel_rfl
theorem fu_uint8 : PP.underlying 5 = some (.int .u8) := by kernel_rfl
theorem fone_uint8 : OneTy PP 5 := by unfold OneTy; kernel_rfl
theorem fu_Suint8 : PP.underlying 22 = some (.slice 5) := by kernel_rfl
theorem fsl_Suint8 : slTy PP 22 = some (5, 1, 1, some (.int .u8 0)) := by kernel_rfl
theorem fone_Suint8 : OneTy PP 22 := by unfold OneTy; kernel_rfl
theorem fu_Sint : PP.underlying 27 = some (.slice 3) := by kernel_rfl
theorem fsl_Sint : slTy PP 27 = some (3, 1, 8, some (.int .i64 0)) := by kernel_rfl
theorem fone_Sint : OneTy PP 27 := by unfold OneTy; kernel_rfl
theorem fzero_Sint : zeroV PP 27 = some [.list []] := by kernel_rfl
theorem fu_Sapi_Value : PP.underlying 29 = some (.slice 31) := by kernel_rfl
theorem fsl_Sapi_Value : slTy PP 29 = some (31, 2, 32, some (.agg #[.int .i64 0, .slice none 0 0])) := by kernel_rfl
theorem fone_Sapi_Value : OneTy PP 29 := by unfold OneTy; kernel_rfl
theorem fagg_api_Value : AggTy PP 31 2 := by unfold AggTy; kernel_rfl
theorem fzero_api_Value : zeroV PP 31 = some [.int .i64 0, .list []] := by kernel_rfl
theorem fbldN_api_Value : bldN PP 31 = some ([.int .i64 0, .nils], [(0, 1), (1, 1)]) := by kernel_rfl
theorem fu__5b5d5b5d_api_Arc : PP.underlying 35 = some (.slice 46) := by kernel_rfl
theorem fsl__5b5d5b5d_api_Arc : slTy PP 35 = some (46, 1, 24, some (.slice none 0 0)) := by kernel_rfl
theorem fone__5b5d5b5d_api_Arc : OneTy PP 35 := by unfold OneTy; kernel_rfl
theorem fagg_api_Graph : AggTy PP 37 2 := by unfold AggTy; kernel_rfl
theorem fzero_api_Graph : zeroV PP 37 = some [.list [], .list []] := by kernel_rfl
theorem fzeroN_api_Graph : zeroN PP 37 = some [.nils, .nils] := by kernel_rfl
theorem ffld0_api_Graph : fldTy PP 37 0 = some (0, 1, false) := by kernel_rfl
theorem ffld1_api_Graph : fldTy PP 37 1 = some (1, 1, false) := by kernel_rfl
theorem fu_Sapi_Arc : PP.underlying 46 = some (.slice 48) := by kernel_rfl
theorem fsl_Sapi_Arc : slTy PP 46 = some (48, 2, 16, some (.agg #[.int .i64 0, .int .i64 0])) := by kernel_rfl
theorem fone_Sapi_Arc : OneTy PP 46 := by unfold OneTy; kernel_rfl
theorem fagg_api_Arc : AggTy PP 48 2 := by unfold AggTy; kernel_rfl
theorem fzero_api_Arc : zeroV PP 48 = some [.int .i64 0, .int .i64 0] := by kernel_rfl
theorem fbld_api_Arc : bldTy PP 48 = some ([.int .i64 0, .int .i64 0], [(0, 1), (1, 1)]) := by kernel_rfl
theorem ffld0_api_Arc : fldTy PP 48 0 = some (0, 1, false) := by kernel_rfl
theorem ffld1_api_Arc : fldTy PP 48 1 = some (1, 1, false) := by kernel_rfl
theorem fu__5b5d5b5d_int : PP.underlying 61 = some (.slice 27) := by kernel_rfl
theorem fsl__5b5d5b5d_int : slTy PP 61 = some (27, 1, 24, some (.slice none 0 0)) := by kernel_rfl
theorem fu_Sbool : PP.underlying 64 = some (.slice 4) := by kernel_rfl
theorem fsl_Sbool : slTy PP 64 = some (4, 1, 1, some (.bool false)) := by kernel_rfl
theorem fone_Sbool : OneTy PP 64 := by unfold OneTy; kernel_rfl
theorem fzero_Sbool : zeroV PP 64 = some [.list []] := by kernel_rfl
theorem fbld_coverabilityplay_Dice : bldTy PP 71 = some ([.list [], .int .i64 0], [(0, 1), (1, 1)]) := by kernel_rfl
theorem ffld0_coverabilityplay_Dice : fldTy PP 71 0 = some (0, 1, false) := by kernel_rfl
theorem ffld1_coverabilityplay_Dice : fldTy PP 71 1 = some (1, 1, false) := by kernel_rfl
theorem fone_func_28_int_2920_bool : OneTy PP 86 := by unfold OneTy; kernel_rfl
theorem fzero_func_28_int_2920_bool : zeroV PP 86 = some [.nilfn] := by kernel_rfl
theorem fu__5b5d5b5d_bool : PP.underlying 88 = some (.slice 64) := by kernel_rfl
theorem fsl__5b5d5b5d_bool : slTy PP 88 = some (64, 1, 24, some (.slice none 0 0)) := by kernel_rfl
theorem fone__5b5d5b5d_bool : OneTy PP 88 := by unfold OneTy; kernel_rfl
theorem fzero__5b5d5b5d_bool : zeroV PP 88 = some [.list []] := by kernel_rfl
theorem fu_uint : PP.underlying 133 = some (.int .u64) := by kernel_rfl
end Go.Proofs.YtmdipbhjhkckjaaGreat
