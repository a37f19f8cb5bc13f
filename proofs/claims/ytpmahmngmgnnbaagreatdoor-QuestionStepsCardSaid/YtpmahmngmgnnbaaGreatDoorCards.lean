/-
  DERIVED. GIVEN WITH THE SEED: THE CARDS: each row of YtpmahmngmgnnbaaGreatDoorRows.lean that lists a variable, with what it lists TIED to the program's text (the seventh form; the later family's looks); each row that meets fmt, with fmt's text TOLD by the authors' own Lean function (tested against real Go, not proved from fmt's source: count such statements apart). THE CARD IS WHAT COUNTS. Prove the row's statement (the work); the ties are given (YtpmahmngmgnnbaaGreatDoorTie.lean); close each card by the builder's one call (the guide's Derived/Test/ToyasCard.lean, 'card_holds'). Laid BY PROGRAM, IN A SANDBOX (cutbox-door.mjs). By AI agents, Wed Nov 11 2026. No macro, syntax, notation, axiom, sorry.
-/
import Derived.Test.YtpmahmngmgnnbaaGreatDoorRows
import GoSem.ClaimSeven
namespace Go.Proofs.YtpmahmngmgnnbaaGreatDoor
namespace Rows

/-- THE TIED CARD OF 'coverabilitylaw41.QuestionSteps'. -/
def questionStepsCard : Claim7 := { stood := { row := questionStepsRow, standIns := [], harness := (true, "c5923f6d663d228f00f73bd9c0435ef07e78bef20d35bd90ea513f8dfd72b46f"), looks := true }, kinds := [], alts := [], laidByText := true, laidKinds := [.data, .data, .data, .sentinel, .sentinel, .data], laidTests := true, laidLooks := .later }
def QuestionStepsCardSaid : Prop := Claim7.holds Tryz.pinned (.plain (OpenSpec.ofChange questionStepsSpec)) questionStepsCard

/-- THE SECOND FORM's CARD OF 'coverabilitylaw41.QuestionSteps'. -/
def questionStepsUptoCard : Claim7 := { stood := { row := questionStepsUptoRow, standIns := [], harness := (true, "c5923f6d663d228f00f73bd9c0435ef07e78bef20d35bd90ea513f8dfd72b46f"), looks := true }, kinds := [], alts := [], laidByText := true, laidKinds := [.data, .data, .data, .sentinel, .sentinel, .data], laidTests := true, laidLooks := .later }
def QuestionStepsUptoCardSaid : Prop := Claim7.holds Tryz.pinned (.plain (OpenSpec.upto questionStepsSpec)) questionStepsUptoCard
end Rows
end Go.Proofs.YtpmahmngmgnnbaaGreatDoor
