/-
  Closed facts on the types of this translation.
-/
import Derived.Test.YtoofgniepbidnaaProg
import Derived.Test.YtoofgniepbidnaaDvN
import Derived.KernelRfl
namespace Go.Proofs.Ytoofgniepbidnaa
open Go.Dv
noncomputable abbrev PP : Program := Try.prog
theorem mixed : PP.follows .mixedOrders = true := by kernel_rfl
theorem slInt : slTy PP 22 = some (3, 1, 8, some (.int .i64 0)) := by kernel_rfl
theorem uInts : PP.underlying 22 = some (.slice 3) := by kernel_rfl
theorem uInt : PP.underlying 3 = some (.int .i64) := by kernel_rfl
theorem uU64 : PP.underlying 55 = some (.int .u64) := by kernel_rfl
theorem uBool : PP.underlying 4 = some .bool := by kernel_rfl
theorem oneInt : OneTy PP 3 := by unfold OneTy; kernel_rfl
theorem oneInts : OneTy PP 22 := by unfold OneTy; kernel_rfl
theorem oneU64 : OneTy PP 55 := by unfold OneTy; kernel_rfl
theorem bldDk : bldTy PP 57 = some ([.list [], .int .i64 0, .int .u64 0], [(0, 1), (1, 1), (2, 1)]) := by kernel_rfl
theorem fldDk0 : fldTy PP 57 0 = some (0, 1, false) := by kernel_rfl
theorem fldDk1 : fldTy PP 57 1 = some (1, 1, false) := by kernel_rfl
theorem fldDk2 : fldTy PP 57 2 = some (2, 1, false) := by kernel_rfl
end Go.Proofs.Ytoofgniepbidnaa
