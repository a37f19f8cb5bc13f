/-
  DERIVED. GIVEN WITH THE SEED: THE CARDS: each row of YtfhgjfkleggjfaaGreatDoorRows.lean that lists a variable, with what it lists TIED to the program's text (the seventh form; the later family's looks); each row that meets fmt, with fmt's text TOLD by the authors' own Lean function (tested against real Go, not proved from fmt's source: count such statements apart). THE CARD IS WHAT COUNTS. Prove the row's statement (the work); the ties are given (YtfhgjfkleggjfaaGreatDoorTie.lean); close each card by the builder's one call (the guide's Derived/Test/ToyasCard.lean, 'card_holds'). Laid BY PROGRAM, IN A SANDBOX (cutbox-door.mjs). By AI agents, Wed Nov 11 2026. No macro, syntax, notation, axiom, sorry.
-/
import Derived.Test.YtfhgjfkleggjfaaGreatDoorRows
import GoSem.ClaimSeven
namespace Go.Proofs.YtfhgjfkleggjfaaGreatDoor
namespace Rows

/-- THE TIED CARD OF 'coverabilitylaw45.AuditExplores'. -/
def auditExploresCard : Claim7 := { stood := { row := auditExploresRow, standIns := [], harness := (true, "3120c45b12ce910f93a089b6706515cc6ac47b7031509c1c3854a97a68f0a6f9"), looks := false }, kinds := [], alts := [], laidByText := true, laidKinds := [.data, .data, .data], laidTests := true, laidLooks := .later }
def AuditExploresCardSaid : Prop := Claim7.holds Tryz.pinned (.plain (OpenSpec.ofChange auditExploresSpec)) auditExploresCard

/-- THE SECOND FORM's CARD OF 'coverabilitylaw45.AuditExplores'. -/
def auditExploresUptoCard : Claim7 := { stood := { row := auditExploresUptoRow, standIns := [], harness := (true, "3120c45b12ce910f93a089b6706515cc6ac47b7031509c1c3854a97a68f0a6f9"), looks := false }, kinds := [], alts := [], laidByText := true, laidKinds := [.data, .data, .data], laidTests := true, laidLooks := .later }
def AuditExploresUptoCardSaid : Prop := Claim7.holds Tryz.pinned (.plain (OpenSpec.upto auditExploresSpec)) auditExploresUptoCard
end Rows
end Go.Proofs.YtfhgjfkleggjfaaGreatDoor
