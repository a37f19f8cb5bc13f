/-
  DERIVED. GIVEN WITH THE SEED: THE CARDS: each row of YtopbcpgmffppjaaGreatDoorRows.lean that lists a variable, with what it lists TIED to the program's text (the seventh form; the later family's looks); each row that meets fmt, with fmt's text TOLD by the authors' own Lean function (tested against real Go, not proved from fmt's source: count such statements apart). THE CARD IS WHAT COUNTS. Prove the row's statement (the work); the ties are given (YtopbcpgmffppjaaGreatDoorTie.lean); close each card by the builder's one call (the guide's Derived/Test/ToyasCard.lean, 'card_holds'). Laid BY PROGRAM, IN A SANDBOX (cutbox-door.mjs). By AI agents, Wed Nov 11 2026. No macro, syntax, notation, axiom, sorry.
-/
import Derived.Test.YtopbcpgmffppjaaGreatDoorRows
import GoSem.ClaimSeven
namespace Go.Proofs.YtopbcpgmffppjaaGreatDoor
namespace Rows

/-- THE TIED CARD OF 'coverabilitylaw41.QuestionKinds'. -/
def questionKindsCard : Claim7 := { stood := { row := questionKindsRow, standIns := [], harness := (true, "da591b76e13f952d77ace67f4a514efbda74e0421b31db010e2a9026c041d579"), looks := true }, kinds := [], alts := [], laidByText := true, laidKinds := [.data, .data, .data, .sentinel, .sentinel, .data], laidTests := true, laidLooks := .later }
def QuestionKindsCardSaid : Prop := Claim7.holds Tryz.pinned (.plain (OpenSpec.ofChange questionKindsSpec)) questionKindsCard

/-- THE TIED CARD OF 'coverabilitylaw41.QuestionPlaces'. -/
def questionPlacesCard : Claim7 := { stood := { row := questionPlacesRow, standIns := [], harness := (true, "da591b76e13f952d77ace67f4a514efbda74e0421b31db010e2a9026c041d579"), looks := true }, kinds := [], alts := [], laidByText := true, laidKinds := [.data, .data, .data, .sentinel, .sentinel, .data], laidTests := true, laidLooks := .later }
def QuestionPlacesCardSaid : Prop := Claim7.holds Tryz.pinned (.plain (OpenSpec.ofChange questionPlacesSpec)) questionPlacesCard

/-- THE TIED CARD OF 'coverabilitylaw41.QuestionBack'. -/
def questionBackCard : Claim7 := { stood := { row := questionBackRow, standIns := [], harness := (true, "da591b76e13f952d77ace67f4a514efbda74e0421b31db010e2a9026c041d579"), looks := true }, kinds := [], alts := [], laidByText := true, laidKinds := [.data, .data, .data, .sentinel, .sentinel, .data], laidTests := true, laidLooks := .later }
def QuestionBackCardSaid : Prop := Claim7.holds Tryz.pinned (.plain (OpenSpec.ofChange questionBackSpec)) questionBackCard

/-- THE TIED CARD OF 'coverabilitylaw41.QuestionApart'. -/
def questionApartCard : Claim7 := { stood := { row := questionApartRow, standIns := [], harness := (true, "da591b76e13f952d77ace67f4a514efbda74e0421b31db010e2a9026c041d579"), looks := true }, kinds := [], alts := [], laidByText := true, laidKinds := [.data, .data, .data, .sentinel, .sentinel, .data], laidTests := true, laidLooks := .later }
def QuestionApartCardSaid : Prop := Claim7.holds Tryz.pinned (.plain (OpenSpec.ofChange questionApartSpec)) questionApartCard

/-- THE SECOND FORM's CARD OF 'coverabilitylaw41.QuestionKinds'. -/
def questionKindsUptoCard : Claim7 := { stood := { row := questionKindsUptoRow, standIns := [], harness := (true, "da591b76e13f952d77ace67f4a514efbda74e0421b31db010e2a9026c041d579"), looks := true }, kinds := [], alts := [], laidByText := true, laidKinds := [.data, .data, .data, .sentinel, .sentinel, .data], laidTests := true, laidLooks := .later }
def QuestionKindsUptoCardSaid : Prop := Claim7.holds Tryz.pinned (.plain (OpenSpec.upto questionKindsSpec)) questionKindsUptoCard

/-- THE SECOND FORM's CARD OF 'coverabilitylaw41.QuestionPlaces'. -/
def questionPlacesUptoCard : Claim7 := { stood := { row := questionPlacesUptoRow, standIns := [], harness := (true, "da591b76e13f952d77ace67f4a514efbda74e0421b31db010e2a9026c041d579"), looks := true }, kinds := [], alts := [], laidByText := true, laidKinds := [.data, .data, .data, .sentinel, .sentinel, .data], laidTests := true, laidLooks := .later }
def QuestionPlacesUptoCardSaid : Prop := Claim7.holds Tryz.pinned (.plain (OpenSpec.upto questionPlacesSpec)) questionPlacesUptoCard

/-- THE SECOND FORM's CARD OF 'coverabilitylaw41.QuestionBack'. -/
def questionBackUptoCard : Claim7 := { stood := { row := questionBackUptoRow, standIns := [], harness := (true, "da591b76e13f952d77ace67f4a514efbda74e0421b31db010e2a9026c041d579"), looks := true }, kinds := [], alts := [], laidByText := true, laidKinds := [.data, .data, .data, .sentinel, .sentinel, .data], laidTests := true, laidLooks := .later }
def QuestionBackUptoCardSaid : Prop := Claim7.holds Tryz.pinned (.plain (OpenSpec.upto questionBackSpec)) questionBackUptoCard

/-- THE SECOND FORM's CARD OF 'coverabilitylaw41.QuestionApart'. -/
def questionApartUptoCard : Claim7 := { stood := { row := questionApartUptoRow, standIns := [], harness := (true, "da591b76e13f952d77ace67f4a514efbda74e0421b31db010e2a9026c041d579"), looks := true }, kinds := [], alts := [], laidByText := true, laidKinds := [.data, .data, .data, .sentinel, .sentinel, .data], laidTests := true, laidLooks := .later }
def QuestionApartUptoCardSaid : Prop := Claim7.holds Tryz.pinned (.plain (OpenSpec.upto questionApartSpec)) questionApartUptoCard
end Rows
end Go.Proofs.YtopbcpgmffppjaaGreatDoor
