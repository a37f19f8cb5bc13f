/-
  No cell of these rows narrows 'for every input' (looked for: loops, veiled, ifaces, maps, wideKeys, modest, calm, conditions, laid).
  DERIVED. THE GIVEN ROWS OF THIS SEAT. 5 by the template 'for every input the law returns true; each argument reads behind the call as it read before'; 0 by the template 'total and deterministic' (their statements: YtmdipbhjhkckjaaGreatTotals.lean).
  GIVEN WITH THE SEED: the statements are not yours to turn. If you find one false, say at which input.
  Laid BY PROGRAM, IN A SANDBOX (cutbox-rows.mjs): the forced cells as the released guide's own fill.sh prints them over the translation e303f33a2a697d13… (all of the seat's roots in one cut). By AI agents, Wed Nov 11 2026. No macro, syntax, notation, axiom, sorry.
-/
import Derived.Test.YtmdipbhjhkckjaaGreatChecked
import GoSem.Claim
import GoSem.ClaimJoined
import GoSem.ClaimMapViews
import Derived.JoinedTies
import Derived.KernelRfl
namespace Go.Proofs.YtmdipbhjhkckjaaGreat
/- THE CELL 'sum', in the pinned program and in every row, IS THE sha256 OF THE DUMP (.gsa) THAT YtmdipbhjhkckjaaGreatProg.lean LOADS. Nothing in Lean hashes anything: it is a label: what it is worth is what the hold of that sum in a sandbox is worth. -/
noncomputable def Tryz.pinned : Pinned := { name := "ytmdipbhjhkckjaagreat", sum := "e303f33a2a697d1327cfe10adbc3b7160e202dbad38ece853e9b6176306a28d4", checked := Tryz.checked }
namespace Rows
def none {H : Type} : Left H := { results := [], args := [] }

/-- 'coverabilitylaw35.HomeBuilds': WHATEVER THE INPUT: true; the input reads as it did. -/
def homeBuildsSpec : ChangeSpec := { name := "homeBuilds", fn := fun _ => fun
  | [d] => { results := [.lit (.bool true)], args := [d] }
  | _ => none }
def homeBuildsRow : OpenClaim := { program := "ytmdipbhjhkckjaagreat", sum := "e303f33a2a697d1327cfe10adbc3b7160e202dbad38ece853e9b6176306a28d4", func := "coverability/coverabilitylaw35.HomeBuilds", spec := "homeBuilds", unfollowed := true, recurses := true, apart := false }
def HomeBuildsSaid : Prop := homeBuildsRow.holds Tryz.pinned (OpenSpec.ofChange homeBuildsSpec)

/-- ITS FALSE NEIGHBOUR: 'it returns false'. Refute it at one input. -/
def homeBuildsWrong : ChangeSpec := { name := "homeBuilds", fn := fun _ => fun
  | [d] => { results := [.lit (.bool false)], args := [d] }
  | _ => none }
def HomeBuildsWrongFalsely : Prop := homeBuildsRow.holds Tryz.pinned (OpenSpec.ofChange homeBuildsWrong)

/-- 'coverabilitylaw35.HomeWays': WHATEVER THE INPUT: true; the input reads as it did. -/
def homeWaysSpec : ChangeSpec := { name := "homeWays", fn := fun _ => fun
  | [d1, d2, d3] => { results := [.lit (.bool true)], args := [d1, d2, d3] }
  | _ => none }
def homeWaysRow : OpenClaim := { program := "ytmdipbhjhkckjaagreat", sum := "e303f33a2a697d1327cfe10adbc3b7160e202dbad38ece853e9b6176306a28d4", func := "coverability/coverabilitylaw35.HomeWays", spec := "homeWays", unfollowed := true, recurses := true, apart := false }
def HomeWaysSaid : Prop := homeWaysRow.holds Tryz.pinned (OpenSpec.ofChange homeWaysSpec)

/-- ITS FALSE NEIGHBOUR: 'it returns false'. Refute it at one input. -/
def homeWaysWrong : ChangeSpec := { name := "homeWays", fn := fun _ => fun
  | [d1, d2, d3] => { results := [.lit (.bool false)], args := [d1, d2, d3] }
  | _ => none }
def HomeWaysWrongFalsely : Prop := homeWaysRow.holds Tryz.pinned (OpenSpec.ofChange homeWaysWrong)

/-- 'coverabilitylaw35.HomeHomes': WHATEVER THE INPUT: true; the input reads as it did. -/
def homeHomesSpec : ChangeSpec := { name := "homeHomes", fn := fun _ => fun
  | [d] => { results := [.lit (.bool true)], args := [d] }
  | _ => none }
def homeHomesRow : OpenClaim := { program := "ytmdipbhjhkckjaagreat", sum := "e303f33a2a697d1327cfe10adbc3b7160e202dbad38ece853e9b6176306a28d4", func := "coverability/coverabilitylaw35.HomeHomes", spec := "homeHomes", unfollowed := true, recurses := true, apart := false }
def HomeHomesSaid : Prop := homeHomesRow.holds Tryz.pinned (OpenSpec.ofChange homeHomesSpec)

/-- ITS FALSE NEIGHBOUR: 'it returns false'. Refute it at one input. -/
def homeHomesWrong : ChangeSpec := { name := "homeHomes", fn := fun _ => fun
  | [d] => { results := [.lit (.bool false)], args := [d] }
  | _ => none }
def HomeHomesWrongFalsely : Prop := homeHomesRow.holds Tryz.pinned (OpenSpec.ofChange homeHomesWrong)

/-- 'coverabilitylaw35.HomeLive': WHATEVER THE INPUT: true; the input reads as it did. -/
def homeLiveSpec : ChangeSpec := { name := "homeLive", fn := fun _ => fun
  | [d1, d2] => { results := [.lit (.bool true)], args := [d1, d2] }
  | _ => none }
def homeLiveRow : OpenClaim := { program := "ytmdipbhjhkckjaagreat", sum := "e303f33a2a697d1327cfe10adbc3b7160e202dbad38ece853e9b6176306a28d4", func := "coverability/coverabilitylaw35.HomeLive", spec := "homeLive", unfollowed := true, recurses := true, apart := false }
def HomeLiveSaid : Prop := homeLiveRow.holds Tryz.pinned (OpenSpec.ofChange homeLiveSpec)

/-- ITS FALSE NEIGHBOUR: 'it returns false'. Refute it at one input. -/
def homeLiveWrong : ChangeSpec := { name := "homeLive", fn := fun _ => fun
  | [d1, d2] => { results := [.lit (.bool false)], args := [d1, d2] }
  | _ => none }
def HomeLiveWrongFalsely : Prop := homeLiveRow.holds Tryz.pinned (OpenSpec.ofChange homeLiveWrong)

/-- 'coverabilitylaw35.HomeComponents': WHATEVER THE INPUT: true; the input reads as it did. -/
def homeComponentsSpec : ChangeSpec := { name := "homeComponents", fn := fun _ => fun
  | [d] => { results := [.lit (.bool true)], args := [d] }
  | _ => none }
def homeComponentsRow : OpenClaim := { program := "ytmdipbhjhkckjaagreat", sum := "e303f33a2a697d1327cfe10adbc3b7160e202dbad38ece853e9b6176306a28d4", func := "coverability/coverabilitylaw35.HomeComponents", spec := "homeComponents", unfollowed := true, recurses := true, apart := false }
def HomeComponentsSaid : Prop := homeComponentsRow.holds Tryz.pinned (OpenSpec.ofChange homeComponentsSpec)

/-- ITS FALSE NEIGHBOUR: 'it returns false'. Refute it at one input. -/
def homeComponentsWrong : ChangeSpec := { name := "homeComponents", fn := fun _ => fun
  | [d] => { results := [.lit (.bool false)], args := [d] }
  | _ => none }
def HomeComponentsWrongFalsely : Prop := homeComponentsRow.holds Tryz.pinned (OpenSpec.ofChange homeComponentsWrong)

/- THE SECOND FORM. 'bulk': how many values and letters a reading holds, each counted each time it is reached (what is shared counts as often as it is met; a slice's spare places count too). A statement '..UptoSaid' is the law's where the arguments, and the package variables that the reading takes, are together of bulk at most 1048576: NARROWER than '..Said'. Prove '..Said' where nothing that the law and all that it calls make is longer than what came in: it says more and counts as full. Else prove '..UptoSaid'. A law counts once. -/
mutual
def uptoBulk {H : Type} : DataW H → Nat
  | .lit (.string bytes) => bytes.length + 1
  | .lit _ => 1
  | .nil => 1
  | .ptr d => uptoBulk d + 1
  | .slice elems spare => uptoBulkAll elems + uptoBulkAll spare + 1
  | .agg parts => uptoBulkAll parts + 1
  | .iface _ d => uptoBulk d + 1
  | .map entries => uptoBulkEntries entries + 1
  | .held _ => 1
def uptoBulkAll {H : Type} : List (DataW H) → Nat
  | [] => 0
  | d :: r => uptoBulk d + uptoBulkAll r
def uptoBulkEntries {H : Type} : List (Lit × DataW H) → Nat
  | [] => 0
  | x :: r => uptoBulkEntry x + uptoBulkEntries r
def uptoBulkEntry {H : Type} : Lit × DataW H → Nat
  | (.string bytes, d) => bytes.length + uptoBulk d + 1
  | (_, d) => uptoBulk d + 1
 end
def uptoSmall : (H : Type) → List (DataW H) → Bool := fun _ ds => decide (uptoBulkAll ds ≤ 1048576)
def OpenSpec.upto (s : _root_.Go.ChangeSpec) : _root_.Go.OpenSpec := { _root_.Go.OpenSpec.ofChange s with cond := some uptoSmall }

/-- 'coverabilitylaw35.HomeBuilds', WHERE WHAT IT READS IS OF BULK AT MOST 1048576: true; the input reads as it did. -/
def homeBuildsUptoRow : OpenClaim := { program := "ytmdipbhjhkckjaagreat", sum := "e303f33a2a697d1327cfe10adbc3b7160e202dbad38ece853e9b6176306a28d4", func := "coverability/coverabilitylaw35.HomeBuilds", spec := "homeBuilds", unfollowed := true, recurses := true, apart := false, narrowed := true }
def HomeBuildsUptoSaid : Prop := homeBuildsUptoRow.holds Tryz.pinned (OpenSpec.upto homeBuildsSpec)

/-- 'coverabilitylaw35.HomeWays', WHERE WHAT IT READS IS OF BULK AT MOST 1048576: true; the input reads as it did. -/
def homeWaysUptoRow : OpenClaim := { program := "ytmdipbhjhkckjaagreat", sum := "e303f33a2a697d1327cfe10adbc3b7160e202dbad38ece853e9b6176306a28d4", func := "coverability/coverabilitylaw35.HomeWays", spec := "homeWays", unfollowed := true, recurses := true, apart := false, narrowed := true }
def HomeWaysUptoSaid : Prop := homeWaysUptoRow.holds Tryz.pinned (OpenSpec.upto homeWaysSpec)

/-- 'coverabilitylaw35.HomeHomes', WHERE WHAT IT READS IS OF BULK AT MOST 1048576: true; the input reads as it did. -/
def homeHomesUptoRow : OpenClaim := { program := "ytmdipbhjhkckjaagreat", sum := "e303f33a2a697d1327cfe10adbc3b7160e202dbad38ece853e9b6176306a28d4", func := "coverability/coverabilitylaw35.HomeHomes", spec := "homeHomes", unfollowed := true, recurses := true, apart := false, narrowed := true }
def HomeHomesUptoSaid : Prop := homeHomesUptoRow.holds Tryz.pinned (OpenSpec.upto homeHomesSpec)

/-- 'coverabilitylaw35.HomeLive', WHERE WHAT IT READS IS OF BULK AT MOST 1048576: true; the input reads as it did. -/
def homeLiveUptoRow : OpenClaim := { program := "ytmdipbhjhkckjaagreat", sum := "e303f33a2a697d1327cfe10adbc3b7160e202dbad38ece853e9b6176306a28d4", func := "coverability/coverabilitylaw35.HomeLive", spec := "homeLive", unfollowed := true, recurses := true, apart := false, narrowed := true }
def HomeLiveUptoSaid : Prop := homeLiveUptoRow.holds Tryz.pinned (OpenSpec.upto homeLiveSpec)

/-- 'coverabilitylaw35.HomeComponents', WHERE WHAT IT READS IS OF BULK AT MOST 1048576: true; the input reads as it did. -/
def homeComponentsUptoRow : OpenClaim := { program := "ytmdipbhjhkckjaagreat", sum := "e303f33a2a697d1327cfe10adbc3b7160e202dbad38ece853e9b6176306a28d4", func := "coverability/coverabilitylaw35.HomeComponents", spec := "homeComponents", unfollowed := true, recurses := true, apart := false, narrowed := true }
def HomeComponentsUptoSaid : Prop := homeComponentsUptoRow.holds Tryz.pinned (OpenSpec.upto homeComponentsSpec)

end Rows
end Go.Proofs.YtmdipbhjhkckjaaGreat
