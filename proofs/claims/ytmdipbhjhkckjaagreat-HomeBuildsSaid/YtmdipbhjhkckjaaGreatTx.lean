/-
 Closed facts on the types of this translation.
-/
import Derived.Test.YtmdipbhjhkckjaaGreatProg
import Derived.Test.YtmdipbhjhkckjaaGreatDb
import Derived.KernelRfl
namespace Go.Proofs.YtmdipbhjhkckjaaGreat
open Go.Dv
noncomputable abbrev PP : Program := Tryz.prog
theorem mixed : PP.follows .mixedOrders = true := by kernel_rfl
end Go.Proofs.YtmdipbhjhkckjaaGreat

namespace Go.Proofs.YtmdipbhjhkckjaaGreat
open Go.Dv
theorem fu_int : PP.underlying 3 = some (.int .i64) := by kernel_rfl
theorem fone_int : OneTy PP 3 := by unfold OneTy; kernel_rfl
theorem fzero_int : zeroV PP 3 = some [.int .i64 0] := by kernel_rfl
theorem fone_bool : OneTy PP 4 := by unfold OneTy; kernel_rfl
theorem fu_uint8 : PP.underlying 5 = some (.int .u8) := by kernel_rfl
theorem fone_uint8 : OneTy PP 5 := by unfold OneTy; kernel_rfl
theorem fone_string : OneTy PP 9 := by unfold OneTy; kernel_rfl
theorem fu_Suint8 : PP.underlying 22 = some (.slice 5) := by kernel_rfl
theorem fsl_Suint8 : slTy PP 22 = some (5, 1, 1, some (.int .u8 0)) := by kernel_rfl
theorem fone_Suint8 : OneTy PP 22 := by unfold OneTy; kernel_rfl
theorem fu_Sstring : PP.underlying 26 = some (.slice 9) := by kernel_rfl
theorem fsl_Sstring : slTy PP 26 = some (9, 1, 16, some (.string ⟨#[]⟩)) := by kernel_rfl
theorem fone_Sstring : OneTy PP 26 := by unfold OneTy; kernel_rfl
theorem fu_Sint : PP.underlying 27 = some (.slice 3) := by kernel_rfl
theorem fsl_Sint : slTy PP 27 = some (3, 1, 8, some (.int .i64 0)) := by kernel_rfl
theorem fone_Sint : OneTy PP 27 := by unfold OneTy; kernel_rfl
theorem fu_Sapi_Rule : PP.underlying 28 = some (.slice 69) := by kernel_rfl
theorem fsl_Sapi_Rule : slTy PP 28 = some (69, 14, 232, some (.agg #[.string ⟨#[]⟩, .int .i64 0, .int .i64 0, .slice none 0 0, .slice none 0 0, .slice none 0 0, .int .i64 0, .int .i64 0, .int .i64 0, .slice none 0 0, .slice none 0 0, .slice none 0 0, .slice none 0 0, .int .i64 0])) := by kernel_rfl
theorem fone_Sapi_Rule : OneTy PP 28 := by unfold OneTy; kernel_rfl
theorem fu_Sapi_Value : PP.underlying 29 = some (.slice 31) := by kernel_rfl
theorem fsl_Sapi_Value : slTy PP 29 = some (31, 2, 32, some (.agg #[.int .i64 0, .slice none 0 0])) := by kernel_rfl
theorem fone_Sapi_Value : OneTy PP 29 := by unfold OneTy; kernel_rfl
theorem fagg_api_Value : AggTy PP 31 2 := by unfold AggTy; kernel_rfl
theorem fzero_api_Value : zeroV PP 31 = some [.int .i64 0, .list []] := by kernel_rfl
theorem fbld_api_Value : bldTy PP 31 = some ([.int .i64 0, .list []], [(0, 1), (1, 1)]) := by kernel_rfl
theorem fzeroN_api_Value : zeroN PP 31 = some [.int .i64 0, .nils] := by kernel_rfl
theorem fbldN_api_Value : bldN PP 31 = some ([.int .i64 0, .nils], [(0, 1), (1, 1)]) := by kernel_rfl
theorem ffld0_api_Value : fldTy PP 31 0 = some (0, 1, false) := by kernel_rfl
theorem ffld1_api_Value : fldTy PP 31 1 = some (1, 1, false) := by kernel_rfl
theorem fagg_api_Model : AggTy PP 33 10 := by unfold AggTy; kernel_rfl
theorem fzero_api_Model : zeroV PP 33 = some [.int .i64 0, .list [], .list [], .list [], .list [], .int .i64 0, .int .i64 0, .list [], .int .i64 0, .list []] := by kernel_rfl
theorem fzeroN_api_Model : zeroN PP 33 = some [.int .i64 0, .nils, .nils, .nils, .nils, .int .i64 0, .int .i64 0, .nils, .int .i64 0, .nils] := by kernel_rfl
theorem fbldN_api_Model : bldN PP 33 = some ([.int .i64 0, .nils, .nils, .nils, .nils, .int .i64 0, .int .i64 0, .nils, .int .i64 0, .nils], [(0, 1), (1, 1), (2, 1), (3, 1), (4, 1), (5, 1), (6, 1), (7, 1), (8, 2)]) := by kernel_rfl
theorem ffld0_api_Model : fldTy PP 33 0 = some (0, 1, false) := by kernel_rfl
theorem ffld1_api_Model : fldTy PP 33 1 = some (1, 1, false) := by kernel_rfl
theorem ffld2_api_Model : fldTy PP 33 2 = some (2, 1, false) := by kernel_rfl
theorem ffld7_api_Model : fldTy PP 33 7 = some (7, 1, false) := by kernel_rfl
theorem ffld8_api_Model : fldTy PP 33 8 = some (8, 2, true) := by kernel_rfl
theorem fu__5b5d5b5d_api_Arc : PP.underlying 35 = some (.slice 46) := by kernel_rfl
theorem fsl__5b5d5b5d_api_Arc : slTy PP 35 = some (46, 1, 24, some (.slice none 0 0)) := by kernel_rfl
theorem fone__5b5d5b5d_api_Arc : OneTy PP 35 := by unfold OneTy; kernel_rfl
theorem fagg_api_Graph : AggTy PP 37 2 := by unfold AggTy; kernel_rfl
theorem fzero_api_Graph : zeroV PP 37 = some [.list [], .list []] := by kernel_rfl
theorem fzeroN_api_Graph : zeroN PP 37 = some [.nils, .nils] := by kernel_rfl
theorem ffld0_api_Graph : fldTy PP 37 0 = some (0, 1, false) := by kernel_rfl
theorem ffld1_api_Graph : fldTy PP 37 1 = some (1, 1, false) := by kernel_rfl
theorem fu_Sapi_Step : PP.underlying 43 = some (.slice 50) := by kernel_rfl
theorem fsl_Sapi_Step : slTy PP 43 = some (50, 3, 40, some (.agg #[.int .i64 0, .int .i64 0, .slice none 0 0])) := by kernel_rfl
theorem fu_Sapi_Arc : PP.underlying 46 = some (.slice 48) := by kernel_rfl
theorem fsl_Sapi_Arc : slTy PP 46 = some (48, 2, 16, some (.agg #[.int .i64 0, .int .i64 0])) := by kernel_rfl
theorem fone_Sapi_Arc : OneTy PP 46 := by unfold OneTy; kernel_rfl
theorem fagg_api_Arc : AggTy PP 48 2 := by unfold AggTy; kernel_rfl
theorem fzero_api_Arc : zeroV PP 48 = some [.int .i64 0, .int .i64 0] := by kernel_rfl
theorem fbld_api_Arc : bldTy PP 48 = some ([.int .i64 0, .int .i64 0], [(0, 1), (1, 1)]) := by kernel_rfl
theorem ffld0_api_Arc : fldTy PP 48 0 = some (0, 1, false) := by kernel_rfl
theorem ffld1_api_Arc : fldTy PP 48 1 = some (1, 1, false) := by kernel_rfl
theorem fagg_api_Step : AggTy PP 50 3 := by unfold AggTy; kernel_rfl
theorem fzero_api_Step : zeroV PP 50 = some [.int .i64 0, .int .i64 0, .list []] := by kernel_rfl
theorem fbldN_api_Step : bldN PP 50 = some ([.int .i64 0, .int .i64 0, .nils], [(0, 1), (1, 2)]) := by kernel_rfl
theorem ffld0_api_Step : fldTy PP 50 0 = some (0, 1, false) := by kernel_rfl
theorem ffld1_api_Step : fldTy PP 50 1 = some (1, 2, true) := by kernel_rfl
theorem fu_Sbool : PP.underlying 64 = some (.slice 4) := by kernel_rfl
theorem fsl_Sbool : slTy PP 64 = some (4, 1, 1, some (.bool false)) := by kernel_rfl
theorem fone_Sbool : OneTy PP 64 := by unfold OneTy; kernel_rfl
theorem fzero_Sbool : zeroV PP 64 = some [.list []] := by kernel_rfl
theorem fagg_api_Rule : AggTy PP 69 14 := by unfold AggTy; kernel_rfl
theorem fzero_api_Rule : zeroV PP 69 = some [.str [], .int .i64 0, .int .i64 0, .list [], .list [], .list [], .int .i64 0, .int .i64 0, .int .i64 0, .list [], .list [], .list [], .list [], .int .i64 0] := by kernel_rfl
theorem fzeroN_api_Rule : zeroN PP 69 = some [.str [], .int .i64 0, .int .i64 0, .nils, .nils, .nils, .int .i64 0, .int .i64 0, .int .i64 0, .nils, .nils, .nils, .nils, .int .i64 0] := by kernel_rfl
theorem fbldN_api_Rule : bldN PP 69 = some ([.str [], .int .i64 0, .int .i64 0, .nils, .nils, .nils, .int .i64 0, .int .i64 0, .int .i64 0, .nils, .nils, .nils, .nils, .int .i64 0], [(0, 1), (1, 1), (2, 1), (3, 1), (4, 1), (5, 1), (6, 1), (7, 1), (8, 1), (9, 1), (10, 1), (11, 1), (12, 1), (13, 1)]) := by kernel_rfl
theorem ffld1_api_Rule : fldTy PP 69 1 = some (1, 1, false) := by kernel_rfl
theorem ffld2_api_Rule : fldTy PP 69 2 = some (2, 1, false) := by kernel_rfl
theorem ffld3_api_Rule : fldTy PP 69 3 = some (3, 1, false) := by kernel_rfl
theorem ffld4_api_Rule : fldTy PP 69 4 = some (4, 1, false) := by kernel_rfl
theorem ffld5_api_Rule : fldTy PP 69 5 = some (5, 1, false) := by kernel_rfl
theorem fbld_coverabilityplay_Dice : bldTy PP 71 = some ([.list [], .int .i64 0], [(0, 1), (1, 1)]) := by kernel_rfl
theorem ffld0_coverabilityplay_Dice : fldTy PP 71 0 = some (0, 1, false) := by kernel_rfl
theorem ffld1_coverabilityplay_Dice : fldTy PP 71 1 = some (1, 1, false) := by kernel_rfl
end Go.Proofs.YtmdipbhjhkckjaaGreat
