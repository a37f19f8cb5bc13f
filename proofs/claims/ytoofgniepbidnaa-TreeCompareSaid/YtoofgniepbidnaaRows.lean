/-
  NARROWER THAN 'FOR EVERY INPUT', by the rows' own cells (each row's printed sentence says how): TreeExact: loops.
  DERIVED. THE GIVEN ROWS OF THIS SEAT. 10 by the template 'for every input the law returns true; each argument reads behind the call as it read before'; 0 by the template 'total and deterministic' (their statements: YtoofgniepbidnaaTotals.lean).
  GIVEN WITH THE SEED: the statements are not yours to turn. If you find one false, say at which input.
  Laid BY PROGRAM, IN A SANDBOX (cutbox-rows.mjs): the forced cells as the released guide's own fill.sh prints them over the translation 50988babe62d9b67… (all of the seat's roots in one cut). By AI agents, Wed Nov 11 2026. No macro, syntax, notation, axiom, sorry.
-/
import Derived.Test.YtoofgniepbidnaaChecked
import GoSem.Claim
import GoSem.ClaimJoined
import GoSem.ClaimMapViews
import Derived.JoinedTies
import Derived.KernelRfl
namespace Go.Proofs.Ytoofgniepbidnaa
/- THE CELL 'sum', in the pinned program and in every row, IS THE sha256 OF THE DUMP (.gsa) THAT YtoofgniepbidnaaProg.lean LOADS. Nothing in Lean hashes anything: it is a label: what it is worth is what the hold of that sum in a sandbox is worth. -/
noncomputable def Try.pinned : Pinned := { name := "ytoofgniepbidnaa", sum := "50988babe62d9b679126f404ee4e4e5e659999dde2738cf2a9358bb689b36081", checked := Try.checked }
namespace Rows
def none {H : Type} : Left H := { results := [], args := [] }

/-- 'coverabilitylaw01.VectorLattice': WHATEVER THE INPUT: true; the input reads as it did. -/
def vectorLatticeSpec : ChangeSpec := { name := "vectorLattice", fn := fun _ => fun
  | [d] => { results := [.lit (.bool true)], args := [d] }
  | _ => none }
def vectorLatticeRow : OpenClaim := { program := "ytoofgniepbidnaa", sum := "50988babe62d9b679126f404ee4e4e5e659999dde2738cf2a9358bb689b36081", func := "coverability/coverabilitylaw01.VectorLattice", spec := "vectorLattice", unfollowed := true, recurses := true, apart := false }
def VectorLatticeSaid : Prop := vectorLatticeRow.holds Try.pinned (OpenSpec.ofChange vectorLatticeSpec)

/-- ITS FALSE NEIGHBOUR: 'it returns false'. Refute it at one input. -/
def vectorLatticeWrong : ChangeSpec := { name := "vectorLattice", fn := fun _ => fun
  | [d] => { results := [.lit (.bool false)], args := [d] }
  | _ => none }
def VectorLatticeWrongFalsely : Prop := vectorLatticeRow.holds Try.pinned (OpenSpec.ofChange vectorLatticeWrong)

/-- 'coverabilitylaw01.VectorUndone': WHATEVER THE INPUT: true; the input reads as it did. -/
def vectorUndoneSpec : ChangeSpec := { name := "vectorUndone", fn := fun _ => fun
  | [d] => { results := [.lit (.bool true)], args := [d] }
  | _ => none }
def vectorUndoneRow : OpenClaim := { program := "ytoofgniepbidnaa", sum := "50988babe62d9b679126f404ee4e4e5e659999dde2738cf2a9358bb689b36081", func := "coverability/coverabilitylaw01.VectorUndone", spec := "vectorUndone", unfollowed := true, recurses := true, apart := false }
def VectorUndoneSaid : Prop := vectorUndoneRow.holds Try.pinned (OpenSpec.ofChange vectorUndoneSpec)

/-- ITS FALSE NEIGHBOUR: 'it returns false'. Refute it at one input. -/
def vectorUndoneWrong : ChangeSpec := { name := "vectorUndone", fn := fun _ => fun
  | [d] => { results := [.lit (.bool false)], args := [d] }
  | _ => none }
def VectorUndoneWrongFalsely : Prop := vectorUndoneRow.holds Try.pinned (OpenSpec.ofChange vectorUndoneWrong)

/-- 'coverabilitylaw01.VectorOrder': WHATEVER THE INPUT: true; the input reads as it did. -/
def vectorOrderSpec : ChangeSpec := { name := "vectorOrder", fn := fun _ => fun
  | [d] => { results := [.lit (.bool true)], args := [d] }
  | _ => none }
def vectorOrderRow : OpenClaim := { program := "ytoofgniepbidnaa", sum := "50988babe62d9b679126f404ee4e4e5e659999dde2738cf2a9358bb689b36081", func := "coverability/coverabilitylaw01.VectorOrder", spec := "vectorOrder", unfollowed := true, recurses := true, apart := false }
def VectorOrderSaid : Prop := vectorOrderRow.holds Try.pinned (OpenSpec.ofChange vectorOrderSpec)

/-- ITS FALSE NEIGHBOUR: 'it returns false'. Refute it at one input. -/
def vectorOrderWrong : ChangeSpec := { name := "vectorOrder", fn := fun _ => fun
  | [d] => { results := [.lit (.bool false)], args := [d] }
  | _ => none }
def VectorOrderWrongFalsely : Prop := vectorOrderRow.holds Try.pinned (OpenSpec.ofChange vectorOrderWrong)

/-- 'coverabilitylaw01.VectorCompare': WHATEVER THE INPUT: true; the input reads as it did. -/
def vectorCompareSpec : ChangeSpec := { name := "vectorCompare", fn := fun _ => fun
  | [d] => { results := [.lit (.bool true)], args := [d] }
  | _ => none }
def vectorCompareRow : OpenClaim := { program := "ytoofgniepbidnaa", sum := "50988babe62d9b679126f404ee4e4e5e659999dde2738cf2a9358bb689b36081", func := "coverability/coverabilitylaw01.VectorCompare", spec := "vectorCompare", unfollowed := true, recurses := true, apart := false }
def VectorCompareSaid : Prop := vectorCompareRow.holds Try.pinned (OpenSpec.ofChange vectorCompareSpec)

/-- ITS FALSE NEIGHBOUR: 'it returns false'. Refute it at one input. -/
def vectorCompareWrong : ChangeSpec := { name := "vectorCompare", fn := fun _ => fun
  | [d] => { results := [.lit (.bool false)], args := [d] }
  | _ => none }
def VectorCompareWrongFalsely : Prop := vectorCompareRow.holds Try.pinned (OpenSpec.ofChange vectorCompareWrong)

/-- 'coverabilitylaw04.TreeBelow': WHATEVER THE INPUT: true; the input reads as it did. -/
def treeBelowSpec : ChangeSpec := { name := "treeBelow", fn := fun _ => fun
  | [d] => { results := [.lit (.bool true)], args := [d] }
  | _ => none }
def treeBelowRow : OpenClaim := { program := "ytoofgniepbidnaa", sum := "50988babe62d9b679126f404ee4e4e5e659999dde2738cf2a9358bb689b36081", func := "coverability/coverabilitylaw04.TreeBelow", spec := "treeBelow", unfollowed := true, recurses := true, apart := false }
def TreeBelowSaid : Prop := treeBelowRow.holds Try.pinned (OpenSpec.ofChange treeBelowSpec)

/-- ITS FALSE NEIGHBOUR: 'it returns false'. Refute it at one input. -/
def treeBelowWrong : ChangeSpec := { name := "treeBelow", fn := fun _ => fun
  | [d] => { results := [.lit (.bool false)], args := [d] }
  | _ => none }
def TreeBelowWrongFalsely : Prop := treeBelowRow.holds Try.pinned (OpenSpec.ofChange treeBelowWrong)

/-- 'coverabilitylaw04.TreeGrows': WHATEVER THE INPUT: true; the input reads as it did. -/
def treeGrowsSpec : ChangeSpec := { name := "treeGrows", fn := fun _ => fun
  | [d] => { results := [.lit (.bool true)], args := [d] }
  | _ => none }
def treeGrowsRow : OpenClaim := { program := "ytoofgniepbidnaa", sum := "50988babe62d9b679126f404ee4e4e5e659999dde2738cf2a9358bb689b36081", func := "coverability/coverabilitylaw04.TreeGrows", spec := "treeGrows", unfollowed := true, recurses := true, apart := false }
def TreeGrowsSaid : Prop := treeGrowsRow.holds Try.pinned (OpenSpec.ofChange treeGrowsSpec)

/-- ITS FALSE NEIGHBOUR: 'it returns false'. Refute it at one input. -/
def treeGrowsWrong : ChangeSpec := { name := "treeGrows", fn := fun _ => fun
  | [d] => { results := [.lit (.bool false)], args := [d] }
  | _ => none }
def TreeGrowsWrongFalsely : Prop := treeGrowsRow.holds Try.pinned (OpenSpec.ofChange treeGrowsWrong)

/-- 'coverabilitylaw01.VectorExact': WHATEVER THE INPUT: true; the input reads as it did. -/
def vectorExactSpec : ChangeSpec := { name := "vectorExact", fn := fun _ => fun
  | [d1, d2, d3] => { results := [.lit (.bool true)], args := [d1, d2, d3] }
  | _ => none }
def vectorExactRow : OpenClaim := { program := "ytoofgniepbidnaa", sum := "50988babe62d9b679126f404ee4e4e5e659999dde2738cf2a9358bb689b36081", func := "coverability/coverabilitylaw01.VectorExact", spec := "vectorExact", unfollowed := true, recurses := true, apart := false }
def VectorExactSaid : Prop := vectorExactRow.holds Try.pinned (OpenSpec.ofChange vectorExactSpec)

/-- ITS FALSE NEIGHBOUR: 'it returns false'. Refute it at one input. -/
def vectorExactWrong : ChangeSpec := { name := "vectorExact", fn := fun _ => fun
  | [d1, d2, d3] => { results := [.lit (.bool false)], args := [d1, d2, d3] }
  | _ => none }
def VectorExactWrongFalsely : Prop := vectorExactRow.holds Try.pinned (OpenSpec.ofChange vectorExactWrong)

/-- 'coverabilitylaw04.TreeExact': WHATEVER THE INPUT: true; the input reads as it did. -/
def treeExactSpec : ChangeSpec := { name := "treeExact", fn := fun _ => fun
  | [d1, d2, d3, d4] => { results := [.lit (.bool true)], args := [d1, d2, d3, d4] }
  | _ => none }
def treeExactRow : OpenClaim := { program := "ytoofgniepbidnaa", sum := "50988babe62d9b679126f404ee4e4e5e659999dde2738cf2a9358bb689b36081", func := "coverability/coverabilitylaw04.TreeExact", spec := "treeExact", unfollowed := true, recurses := true, loops := true, apart := false }
def TreeExactSaid : Prop := treeExactRow.holds Try.pinned (OpenSpec.ofChange treeExactSpec)

/-- ITS FALSE NEIGHBOUR: 'it returns false'. Refute it at one input. -/
def treeExactWrong : ChangeSpec := { name := "treeExact", fn := fun _ => fun
  | [d1, d2, d3, d4] => { results := [.lit (.bool false)], args := [d1, d2, d3, d4] }
  | _ => none }
def TreeExactWrongFalsely : Prop := treeExactRow.holds Try.pinned (OpenSpec.ofChange treeExactWrong)

/-- 'coverabilitylaw04.TreeOrder': WHATEVER THE INPUT: true; the input reads as it did. -/
def treeOrderSpec : ChangeSpec := { name := "treeOrder", fn := fun _ => fun
  | [d] => { results := [.lit (.bool true)], args := [d] }
  | _ => none }
def treeOrderRow : OpenClaim := { program := "ytoofgniepbidnaa", sum := "50988babe62d9b679126f404ee4e4e5e659999dde2738cf2a9358bb689b36081", func := "coverability/coverabilitylaw04.TreeOrder", spec := "treeOrder", unfollowed := true, recurses := true, apart := false }
def TreeOrderSaid : Prop := treeOrderRow.holds Try.pinned (OpenSpec.ofChange treeOrderSpec)

/-- ITS FALSE NEIGHBOUR: 'it returns false'. Refute it at one input. -/
def treeOrderWrong : ChangeSpec := { name := "treeOrder", fn := fun _ => fun
  | [d] => { results := [.lit (.bool false)], args := [d] }
  | _ => none }
def TreeOrderWrongFalsely : Prop := treeOrderRow.holds Try.pinned (OpenSpec.ofChange treeOrderWrong)

/-- 'coverabilitylaw04.TreeCompare': WHATEVER THE INPUT: true; the input reads as it did. -/
def treeCompareSpec : ChangeSpec := { name := "treeCompare", fn := fun _ => fun
  | [d] => { results := [.lit (.bool true)], args := [d] }
  | _ => none }
def treeCompareRow : OpenClaim := { program := "ytoofgniepbidnaa", sum := "50988babe62d9b679126f404ee4e4e5e659999dde2738cf2a9358bb689b36081", func := "coverability/coverabilitylaw04.TreeCompare", spec := "treeCompare", unfollowed := true, recurses := true, apart := false }
def TreeCompareSaid : Prop := treeCompareRow.holds Try.pinned (OpenSpec.ofChange treeCompareSpec)

/-- ITS FALSE NEIGHBOUR: 'it returns false'. Refute it at one input. -/
def treeCompareWrong : ChangeSpec := { name := "treeCompare", fn := fun _ => fun
  | [d] => { results := [.lit (.bool false)], args := [d] }
  | _ => none }
def TreeCompareWrongFalsely : Prop := treeCompareRow.holds Try.pinned (OpenSpec.ofChange treeCompareWrong)

/- THE SECOND FORM. 'bulk': how many values and letters a reading holds, each counted each time it is reached (what is shared counts as often as it is met; a slice's spare places count too). A statement '..UptoSaid' is the law's where the arguments, and the package variables that the reading takes, are together of bulk at most 1048576: NARROWER than '..Said'. Prove '..Said' where nothing that the law and all that it calls make is longer than what came in: it says more and counts as full. Else prove '..UptoSaid'. A law counts once. -/
mutual
def uptoBulk {H : Type} : DataW H → Nat
  | .lit (.string bytes) => bytes.length + 1
  | .lit _ => 1
  | .nil => 1
  | .ptr d => uptoBulk d + 1
  | .slice elems spare => uptoBulkAll elems + uptoBulkAll spare + 1
  | .agg parts => uptoBulkAll parts + 1
  | .iface _ d => uptoBulk d + 1
  | .map entries => uptoBulkEntries entries + 1
  | .held _ => 1
def uptoBulkAll {H : Type} : List (DataW H) → Nat
  | [] => 0
  | d :: r => uptoBulk d + uptoBulkAll r
def uptoBulkEntries {H : Type} : List (Lit × DataW H) → Nat
  | [] => 0
  | x :: r => uptoBulkEntry x + uptoBulkEntries r
def uptoBulkEntry {H : Type} : Lit × DataW H → Nat
  | (.string bytes, d) => bytes.length + uptoBulk d + 1
  | (_, d) => uptoBulk d + 1
 end
def uptoSmall : (H : Type) → List (DataW H) → Bool := fun _ ds => decide (uptoBulkAll ds ≤ 1048576)
def OpenSpec.upto (s : _root_.Go.ChangeSpec) : _root_.Go.OpenSpec := { _root_.Go.OpenSpec.ofChange s with cond := some uptoSmall }

/-- 'coverabilitylaw01.VectorLattice', WHERE WHAT IT READS IS OF BULK AT MOST 1048576: true; the input reads as it did. -/
def vectorLatticeUptoRow : OpenClaim := { program := "ytoofgniepbidnaa", sum := "50988babe62d9b679126f404ee4e4e5e659999dde2738cf2a9358bb689b36081", func := "coverability/coverabilitylaw01.VectorLattice", spec := "vectorLattice", unfollowed := true, recurses := true, apart := false, narrowed := true }
def VectorLatticeUptoSaid : Prop := vectorLatticeUptoRow.holds Try.pinned (OpenSpec.upto vectorLatticeSpec)

/-- 'coverabilitylaw01.VectorUndone', WHERE WHAT IT READS IS OF BULK AT MOST 1048576: true; the input reads as it did. -/
def vectorUndoneUptoRow : OpenClaim := { program := "ytoofgniepbidnaa", sum := "50988babe62d9b679126f404ee4e4e5e659999dde2738cf2a9358bb689b36081", func := "coverability/coverabilitylaw01.VectorUndone", spec := "vectorUndone", unfollowed := true, recurses := true, apart := false, narrowed := true }
def VectorUndoneUptoSaid : Prop := vectorUndoneUptoRow.holds Try.pinned (OpenSpec.upto vectorUndoneSpec)

/-- 'coverabilitylaw01.VectorOrder', WHERE WHAT IT READS IS OF BULK AT MOST 1048576: true; the input reads as it did. -/
def vectorOrderUptoRow : OpenClaim := { program := "ytoofgniepbidnaa", sum := "50988babe62d9b679126f404ee4e4e5e659999dde2738cf2a9358bb689b36081", func := "coverability/coverabilitylaw01.VectorOrder", spec := "vectorOrder", unfollowed := true, recurses := true, apart := false, narrowed := true }
def VectorOrderUptoSaid : Prop := vectorOrderUptoRow.holds Try.pinned (OpenSpec.upto vectorOrderSpec)

/-- 'coverabilitylaw01.VectorCompare', WHERE WHAT IT READS IS OF BULK AT MOST 1048576: true; the input reads as it did. -/
def vectorCompareUptoRow : OpenClaim := { program := "ytoofgniepbidnaa", sum := "50988babe62d9b679126f404ee4e4e5e659999dde2738cf2a9358bb689b36081", func := "coverability/coverabilitylaw01.VectorCompare", spec := "vectorCompare", unfollowed := true, recurses := true, apart := false, narrowed := true }
def VectorCompareUptoSaid : Prop := vectorCompareUptoRow.holds Try.pinned (OpenSpec.upto vectorCompareSpec)

/-- 'coverabilitylaw04.TreeBelow', WHERE WHAT IT READS IS OF BULK AT MOST 1048576: true; the input reads as it did. -/
def treeBelowUptoRow : OpenClaim := { program := "ytoofgniepbidnaa", sum := "50988babe62d9b679126f404ee4e4e5e659999dde2738cf2a9358bb689b36081", func := "coverability/coverabilitylaw04.TreeBelow", spec := "treeBelow", unfollowed := true, recurses := true, apart := false, narrowed := true }
def TreeBelowUptoSaid : Prop := treeBelowUptoRow.holds Try.pinned (OpenSpec.upto treeBelowSpec)

/-- 'coverabilitylaw04.TreeGrows', WHERE WHAT IT READS IS OF BULK AT MOST 1048576: true; the input reads as it did. -/
def treeGrowsUptoRow : OpenClaim := { program := "ytoofgniepbidnaa", sum := "50988babe62d9b679126f404ee4e4e5e659999dde2738cf2a9358bb689b36081", func := "coverability/coverabilitylaw04.TreeGrows", spec := "treeGrows", unfollowed := true, recurses := true, apart := false, narrowed := true }
def TreeGrowsUptoSaid : Prop := treeGrowsUptoRow.holds Try.pinned (OpenSpec.upto treeGrowsSpec)

/-- 'coverabilitylaw01.VectorExact', WHERE WHAT IT READS IS OF BULK AT MOST 1048576: true; the input reads as it did. -/
def vectorExactUptoRow : OpenClaim := { program := "ytoofgniepbidnaa", sum := "50988babe62d9b679126f404ee4e4e5e659999dde2738cf2a9358bb689b36081", func := "coverability/coverabilitylaw01.VectorExact", spec := "vectorExact", unfollowed := true, recurses := true, apart := false, narrowed := true }
def VectorExactUptoSaid : Prop := vectorExactUptoRow.holds Try.pinned (OpenSpec.upto vectorExactSpec)

/-- 'coverabilitylaw04.TreeExact', WHERE WHAT IT READS IS OF BULK AT MOST 1048576: true; the input reads as it did. -/
def treeExactUptoRow : OpenClaim := { program := "ytoofgniepbidnaa", sum := "50988babe62d9b679126f404ee4e4e5e659999dde2738cf2a9358bb689b36081", func := "coverability/coverabilitylaw04.TreeExact", spec := "treeExact", unfollowed := true, recurses := true, loops := true, apart := false, narrowed := true }
def TreeExactUptoSaid : Prop := treeExactUptoRow.holds Try.pinned (OpenSpec.upto treeExactSpec)

/-- 'coverabilitylaw04.TreeOrder', WHERE WHAT IT READS IS OF BULK AT MOST 1048576: true; the input reads as it did. -/
def treeOrderUptoRow : OpenClaim := { program := "ytoofgniepbidnaa", sum := "50988babe62d9b679126f404ee4e4e5e659999dde2738cf2a9358bb689b36081", func := "coverability/coverabilitylaw04.TreeOrder", spec := "treeOrder", unfollowed := true, recurses := true, apart := false, narrowed := true }
def TreeOrderUptoSaid : Prop := treeOrderUptoRow.holds Try.pinned (OpenSpec.upto treeOrderSpec)

/-- 'coverabilitylaw04.TreeCompare', WHERE WHAT IT READS IS OF BULK AT MOST 1048576: true; the input reads as it did. -/
def treeCompareUptoRow : OpenClaim := { program := "ytoofgniepbidnaa", sum := "50988babe62d9b679126f404ee4e4e5e659999dde2738cf2a9358bb689b36081", func := "coverability/coverabilitylaw04.TreeCompare", spec := "treeCompare", unfollowed := true, recurses := true, apart := false, narrowed := true }
def TreeCompareUptoSaid : Prop := treeCompareUptoRow.holds Try.pinned (OpenSpec.upto treeCompareSpec)

end Rows
end Go.Proofs.Ytoofgniepbidnaa
