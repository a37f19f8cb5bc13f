/-
  Closed facts on the types of this translation: pairs of vectors.
-/
import Derived.Test.YtoofgniepbidnaaTy
namespace Go.Proofs.Ytoofgniepbidnaa
open Go.Dv
theorem slPair : slTy PP 42 = some (41, 2, 48, (PP.info? 41).bind (·.zero)) := by kernel_rfl
theorem uPairs : PP.underlying 42 = some (.slice 41) := by kernel_rfl
theorem aggPair : AggTy PP 41 2 := by unfold AggTy; kernel_rfl
theorem zeroPair : zeroV PP 41 = some [.list [], .list []] := by kernel_rfl
theorem bldPair : bldTy PP 41 = some ([.list [], .list []], [(0, 1), (1, 1)]) := by kernel_rfl
theorem arPair : arTy PP 41 = some (2, 1, false) := by kernel_rfl
end Go.Proofs.Ytoofgniepbidnaa
