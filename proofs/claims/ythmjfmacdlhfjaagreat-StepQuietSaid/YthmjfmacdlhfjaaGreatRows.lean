/-
  No cell of these rows narrows 'for every input' (looked for: loops, veiled, ifaces, maps, wideKeys, modest, calm, conditions, laid).
  DERIVED. THE GIVEN ROWS OF THIS SEAT. 3 by the template 'for every input the law returns true; each argument reads behind the call as it read before'; 0 by the template 'total and deterministic' (their statements: YthmjfmacdlhfjaaGreatTotals.lean).
  GIVEN WITH THE SEED: the statements are not yours to turn. If you find one false, say at which input.
  Laid BY PROGRAM, IN A SANDBOX (cutbox-rows.mjs): the forced cells as the released guide's own fill.sh prints them over the translation d37880c947f82745… (all of the seat's roots in one cut). By AI agents, Wed Nov 11 2026. No macro, syntax, notation, axiom, sorry.
-/
import Derived.Test.YthmjfmacdlhfjaaGreatChecked
import GoSem.Claim
import GoSem.ClaimJoined
import GoSem.ClaimMapViews
import Derived.JoinedTies
import Derived.KernelRfl
namespace Go.Proofs.YthmjfmacdlhfjaaGreat
/- THE CELL 'sum', in the pinned program and in every row, IS THE sha256 OF THE DUMP (.gsa) THAT YthmjfmacdlhfjaaGreatProg.lean LOADS. Nothing in Lean hashes anything: it is a label: what it is worth is what the hold of that sum in a sandbox is worth. -/
noncomputable def Tryz.pinned : Pinned := { name := "ythmjfmacdlhfjaagreat", sum := "d37880c947f82745660397f81ba8b7395e95ccaea47455a178a254d001ec0634", checked := Tryz.checked }
namespace Rows
def none {H : Type} : Left H := { results := [], args := [] }

/-- 'coverabilitylaw22.StepAll': WHATEVER THE INPUT: true; the input reads as it did. -/
def stepAllSpec : ChangeSpec := { name := "stepAll", fn := fun _ => fun
  | [d] => { results := [.lit (.bool true)], args := [d] }
  | _ => none }
def stepAllRow : OpenClaim := { program := "ythmjfmacdlhfjaagreat", sum := "d37880c947f82745660397f81ba8b7395e95ccaea47455a178a254d001ec0634", func := "coverability/coverabilitylaw22.StepAll", spec := "stepAll", unfollowed := true, recurses := true, apart := false }
def StepAllSaid : Prop := stepAllRow.holds Tryz.pinned (OpenSpec.ofChange stepAllSpec)

/-- ITS FALSE NEIGHBOUR: 'it returns false'. Refute it at one input. -/
def stepAllWrong : ChangeSpec := { name := "stepAll", fn := fun _ => fun
  | [d] => { results := [.lit (.bool false)], args := [d] }
  | _ => none }
def StepAllWrongFalsely : Prop := stepAllRow.holds Tryz.pinned (OpenSpec.ofChange stepAllWrong)

/-- 'coverabilitylaw22.StepQuiet': WHATEVER THE INPUT: true; the input reads as it did. -/
def stepQuietSpec : ChangeSpec := { name := "stepQuiet", fn := fun _ => fun
  | [d] => { results := [.lit (.bool true)], args := [d] }
  | _ => none }
def stepQuietRow : OpenClaim := { program := "ythmjfmacdlhfjaagreat", sum := "d37880c947f82745660397f81ba8b7395e95ccaea47455a178a254d001ec0634", func := "coverability/coverabilitylaw22.StepQuiet", spec := "stepQuiet", unfollowed := true, recurses := true, apart := false }
def StepQuietSaid : Prop := stepQuietRow.holds Tryz.pinned (OpenSpec.ofChange stepQuietSpec)

/-- ITS FALSE NEIGHBOUR: 'it returns false'. Refute it at one input. -/
def stepQuietWrong : ChangeSpec := { name := "stepQuiet", fn := fun _ => fun
  | [d] => { results := [.lit (.bool false)], args := [d] }
  | _ => none }
def StepQuietWrongFalsely : Prop := stepQuietRow.holds Tryz.pinned (OpenSpec.ofChange stepQuietWrong)

/-- 'coverabilitylaw22.StepStates': WHATEVER THE INPUT: true; the input reads as it did. -/
def stepStatesSpec : ChangeSpec := { name := "stepStates", fn := fun _ => fun
  | [d] => { results := [.lit (.bool true)], args := [d] }
  | _ => none }
def stepStatesRow : OpenClaim := { program := "ythmjfmacdlhfjaagreat", sum := "d37880c947f82745660397f81ba8b7395e95ccaea47455a178a254d001ec0634", func := "coverability/coverabilitylaw22.StepStates", spec := "stepStates", unfollowed := true, recurses := true, apart := false }
def StepStatesSaid : Prop := stepStatesRow.holds Tryz.pinned (OpenSpec.ofChange stepStatesSpec)

/-- ITS FALSE NEIGHBOUR: 'it returns false'. Refute it at one input. -/
def stepStatesWrong : ChangeSpec := { name := "stepStates", fn := fun _ => fun
  | [d] => { results := [.lit (.bool false)], args := [d] }
  | _ => none }
def StepStatesWrongFalsely : Prop := stepStatesRow.holds Tryz.pinned (OpenSpec.ofChange stepStatesWrong)

/- THE SECOND FORM. 'bulk': how many values and letters a reading holds, each counted each time it is reached (what is shared counts as often as it is met; a slice's spare places count too). A statement '..UptoSaid' is the law's where the arguments, and the package variables that the reading takes, are together of bulk at most 1048576: NARROWER than '..Said'. Prove '..Said' where nothing that the law and all that it calls make is longer than what came in: it says more and counts as full. Else prove '..UptoSaid'. A law counts once. -/
mutual
def uptoBulk {H : Type} : DataW H → Nat
  | .lit (.string bytes) => bytes.length + 1
  | .lit _ => 1
  | .nil => 1
  | .ptr d => uptoBulk d + 1
  | .slice elems spare => uptoBulkAll elems + uptoBulkAll spare + 1
  | .agg parts => uptoBulkAll parts + 1
  | .iface _ d => uptoBulk d + 1
  | .map entries => uptoBulkEntries entries + 1
  | .held _ => 1
def uptoBulkAll {H : Type} : List (DataW H) → Nat
  | [] => 0
  | d :: r => uptoBulk d + uptoBulkAll r
def uptoBulkEntries {H : Type} : List (Lit × DataW H) → Nat
  | [] => 0
  | x :: r => uptoBulkEntry x + uptoBulkEntries r
def uptoBulkEntry {H : Type} : Lit × DataW H → Nat
  | (.string bytes, d) => bytes.length + uptoBulk d + 1
  | (_, d) => uptoBulk d + 1
 end
def uptoSmall : (H : Type) → List (DataW H) → Bool := fun _ ds => decide (uptoBulkAll ds ≤ 1048576)
def OpenSpec.upto (s : _root_.Go.ChangeSpec) : _root_.Go.OpenSpec := { _root_.Go.OpenSpec.ofChange s with cond := some uptoSmall }

/-- 'coverabilitylaw22.StepAll', WHERE WHAT IT READS IS OF BULK AT MOST 1048576: true; the input reads as it did. -/
def stepAllUptoRow : OpenClaim := { program := "ythmjfmacdlhfjaagreat", sum := "d37880c947f82745660397f81ba8b7395e95ccaea47455a178a254d001ec0634", func := "coverability/coverabilitylaw22.StepAll", spec := "stepAll", unfollowed := true, recurses := true, apart := false, narrowed := true }
def StepAllUptoSaid : Prop := stepAllUptoRow.holds Tryz.pinned (OpenSpec.upto stepAllSpec)

/-- 'coverabilitylaw22.StepQuiet', WHERE WHAT IT READS IS OF BULK AT MOST 1048576: true; the input reads as it did. -/
def stepQuietUptoRow : OpenClaim := { program := "ythmjfmacdlhfjaagreat", sum := "d37880c947f82745660397f81ba8b7395e95ccaea47455a178a254d001ec0634", func := "coverability/coverabilitylaw22.StepQuiet", spec := "stepQuiet", unfollowed := true, recurses := true, apart := false, narrowed := true }
def StepQuietUptoSaid : Prop := stepQuietUptoRow.holds Tryz.pinned (OpenSpec.upto stepQuietSpec)

/-- 'coverabilitylaw22.StepStates', WHERE WHAT IT READS IS OF BULK AT MOST 1048576: true; the input reads as it did. -/
def stepStatesUptoRow : OpenClaim := { program := "ythmjfmacdlhfjaagreat", sum := "d37880c947f82745660397f81ba8b7395e95ccaea47455a178a254d001ec0634", func := "coverability/coverabilitylaw22.StepStates", spec := "stepStates", unfollowed := true, recurses := true, apart := false, narrowed := true }
def StepStatesUptoSaid : Prop := stepStatesUptoRow.holds Tryz.pinned (OpenSpec.upto stepStatesSpec)

end Rows
end Go.Proofs.YthmjfmacdlhfjaaGreat
