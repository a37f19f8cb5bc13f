/-
  DERIVED. GIVEN WITH THE SEED: THE CARDS: each row of YtmhjflomgppcnaaGreatDoorRows.lean that lists a variable, with what it lists TIED to the program's text (the seventh form; the later family's looks); each row that meets fmt, with fmt's text TOLD by the authors' own Lean function (tested against real Go, not proved from fmt's source: count such statements apart). THE CARD IS WHAT COUNTS. Prove the row's statement (the work); the ties are given (YtmhjflomgppcnaaGreatDoorTie.lean); close each card by the builder's one call (the guide's Derived/Test/ToyasCard.lean, 'card_holds'). Laid BY PROGRAM, IN A SANDBOX (cutbox-door.mjs). By AI agents, Wed Nov 11 2026. No macro, syntax, notation, axiom, sorry.
-/
import Derived.Test.YtmhjflomgppcnaaGreatDoorRows
import GoSem.ClaimSeven
namespace Go.Proofs.YtmhjflomgppcnaaGreatDoor
namespace Rows

/-- THE TIED CARD OF 'coverabilitylaw45.AuditExplores'. -/
def auditExploresCard : Claim7 := { stood := { row := auditExploresRow, standIns := [], harness := (true, "f4210816e16c8122ca706da7ae8baa2ee4fdfe9360b92eccba2f2b4c00562762"), looks := false }, kinds := [], alts := [], laidByText := true, laidKinds := [.data, .data, .data], laidTests := true, laidLooks := .later }
def AuditExploresCardSaid : Prop := Claim7.holds Tryz.pinned (.plain (OpenSpec.ofChange auditExploresSpec)) auditExploresCard

/-- THE TIED CARD OF 'coverabilitylaw45.AuditDeeper'. -/
def auditDeeperCard : Claim7 := { stood := { row := auditDeeperRow, standIns := [], harness := (true, "f4210816e16c8122ca706da7ae8baa2ee4fdfe9360b92eccba2f2b4c00562762"), looks := false }, kinds := [], alts := [], laidByText := true, laidKinds := [.data, .data, .data, .data], laidTests := true, laidLooks := .later }
def AuditDeeperCardSaid : Prop := Claim7.holds Tryz.pinned (.plain (OpenSpec.ofChange auditDeeperSpec)) auditDeeperCard

/-- THE SECOND FORM's CARD OF 'coverabilitylaw45.AuditExplores'. -/
def auditExploresUptoCard : Claim7 := { stood := { row := auditExploresUptoRow, standIns := [], harness := (true, "f4210816e16c8122ca706da7ae8baa2ee4fdfe9360b92eccba2f2b4c00562762"), looks := false }, kinds := [], alts := [], laidByText := true, laidKinds := [.data, .data, .data], laidTests := true, laidLooks := .later }
def AuditExploresUptoCardSaid : Prop := Claim7.holds Tryz.pinned (.plain (OpenSpec.upto auditExploresSpec)) auditExploresUptoCard

/-- THE SECOND FORM's CARD OF 'coverabilitylaw45.AuditDeeper'. -/
def auditDeeperUptoCard : Claim7 := { stood := { row := auditDeeperUptoRow, standIns := [], harness := (true, "f4210816e16c8122ca706da7ae8baa2ee4fdfe9360b92eccba2f2b4c00562762"), looks := false }, kinds := [], alts := [], laidByText := true, laidKinds := [.data, .data, .data, .data], laidTests := true, laidLooks := .later }
def AuditDeeperUptoCardSaid : Prop := Claim7.holds Tryz.pinned (.plain (OpenSpec.upto auditDeeperSpec)) auditDeeperUptoCard
end Rows
end Go.Proofs.YtmhjflomgppcnaaGreatDoor
