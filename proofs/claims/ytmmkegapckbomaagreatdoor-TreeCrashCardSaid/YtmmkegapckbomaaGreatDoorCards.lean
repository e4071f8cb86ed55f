/-
  DERIVED. GIVEN WITH THE SEED: THE CARDS: each row of YtmmkegapckbomaaGreatDoorRows.lean that lists a variable, with what it lists TIED to the program's text (the seventh form; the later family's looks); each row that meets fmt, with fmt's text TOLD by the authors' own Lean function (tested against real Go, not proved from fmt's source: count such statements apart). THE CARD IS WHAT COUNTS. Prove the row's statement (the work); the ties are given (YtmmkegapckbomaaGreatDoorTie.lean); close each card by the builder's one call (the guide's Derived/Test/ToyasCard.lean, 'card_holds'). Laid BY PROGRAM, IN A SANDBOX (cutbox-door.mjs). By AI agents, Wed Nov 11 2026. No macro, syntax, notation, axiom, sorry.
-/
import Derived.Test.YtmmkegapckbomaaGreatDoorRows
import GoSem.ClaimSeven
namespace Go.Proofs.YtmmkegapckbomaaGreatDoor
namespace Rows

/-- THE TIED CARD OF 'cashbooklaw27.ReserveHigh'. -/
def reserveHighCard : Claim7 := { stood := { row := reserveHighRow, standIns := [], harness := (true, "4d19501b154f073b67691db972dc163c9a45030925480ce7469c8b8df4030f4b"), looks := true }, kinds := [], alts := [], laidByText := true, laidKinds := [.data], laidTests := true, laidLooks := .later }
def ReserveHighCardSaid : Prop := Claim7.holds Tryz.pinned (.plain (OpenSpec.ofChange reserveHighSpec)) reserveHighCard

/-- THE TIED CARD OF 'cashbooklaw13.CursorLists'. -/
def cursorListsCard : Claim7 := { stood := { row := cursorListsRow, standIns := [], harness := (true, "4d19501b154f073b67691db972dc163c9a45030925480ce7469c8b8df4030f4b"), looks := true }, kinds := [], alts := [], laidByText := true, laidKinds := [.data], laidTests := true, laidLooks := .later }
def CursorListsCardSaid : Prop := Claim7.holds Tryz.pinned (.plain (OpenSpec.ofChange cursorListsSpec)) cursorListsCard

/-- THE TIED CARD OF 'cashbooklaw13.CursorSteps'. -/
def cursorStepsCard : Claim7 := { stood := { row := cursorStepsRow, standIns := [], harness := (true, "4d19501b154f073b67691db972dc163c9a45030925480ce7469c8b8df4030f4b"), looks := true }, kinds := [], alts := [], laidByText := true, laidKinds := [.data], laidTests := true, laidLooks := .later }
def CursorStepsCardSaid : Prop := Claim7.holds Tryz.pinned (.plain (OpenSpec.ofChange cursorStepsSpec)) cursorStepsCard

/-- THE TIED CARD OF 'cashbooklaw13.CursorTurns'. -/
def cursorTurnsCard : Claim7 := { stood := { row := cursorTurnsRow, standIns := [], harness := (true, "4d19501b154f073b67691db972dc163c9a45030925480ce7469c8b8df4030f4b"), looks := true }, kinds := [], alts := [], laidByText := true, laidKinds := [.data], laidTests := true, laidLooks := .later }
def CursorTurnsCardSaid : Prop := Claim7.holds Tryz.pinned (.plain (OpenSpec.ofChange cursorTurnsSpec)) cursorTurnsCard

/-- THE TIED CARD OF 'cashbooklaw13.CursorStops'. -/
def cursorStopsCard : Claim7 := { stood := { row := cursorStopsRow, standIns := [], harness := (true, "4d19501b154f073b67691db972dc163c9a45030925480ce7469c8b8df4030f4b"), looks := true }, kinds := [], alts := [], laidByText := true, laidKinds := [.data], laidTests := true, laidLooks := .later }
def CursorStopsCardSaid : Prop := Claim7.holds Tryz.pinned (.plain (OpenSpec.ofChange cursorStopsSpec)) cursorStopsCard

/-- THE TIED CARD OF 'cashbooklaw12.TreeTurns'. -/
def treeTurnsCard : Claim7 := { stood := { row := treeTurnsRow, standIns := [], harness := (true, "4d19501b154f073b67691db972dc163c9a45030925480ce7469c8b8df4030f4b"), looks := true }, kinds := [], alts := [], laidByText := true, laidKinds := [.data], laidTests := true, laidLooks := .later }
def TreeTurnsCardSaid : Prop := Claim7.holds Tryz.pinned (.plain (OpenSpec.ofChange treeTurnsSpec)) treeTurnsCard

/-- THE TIED CARD OF 'cashbooklaw12.TreePlays'. -/
def treePlaysCard : Claim7 := { stood := { row := treePlaysRow, standIns := [], harness := (true, "4d19501b154f073b67691db972dc163c9a45030925480ce7469c8b8df4030f4b"), looks := true }, kinds := [], alts := [], laidByText := true, laidKinds := [.data], laidTests := true, laidLooks := .later }
def TreePlaysCardSaid : Prop := Claim7.holds Tryz.pinned (.plain (OpenSpec.ofChange treePlaysSpec)) treePlaysCard

/-- THE TIED CARD OF 'cashbooklaw12.TreeRoom'. -/
def treeRoomCard : Claim7 := { stood := { row := treeRoomRow, standIns := [], harness := (true, "4d19501b154f073b67691db972dc163c9a45030925480ce7469c8b8df4030f4b"), looks := true }, kinds := [], alts := [], laidByText := true, laidKinds := [.data], laidTests := true, laidLooks := .later }
def TreeRoomCardSaid : Prop := Claim7.holds Tryz.pinned (.plain (OpenSpec.ofChange treeRoomSpec)) treeRoomCard

/-- THE TIED CARD OF 'cashbooklaw12.TreeShapes'. -/
def treeShapesCard : Claim7 := { stood := { row := treeShapesRow, standIns := [], harness := (true, "4d19501b154f073b67691db972dc163c9a45030925480ce7469c8b8df4030f4b"), looks := true }, kinds := [], alts := [], laidByText := true, laidKinds := [.data], laidTests := true, laidLooks := .later }
def TreeShapesCardSaid : Prop := Claim7.holds Tryz.pinned (.plain (OpenSpec.ofChange treeShapesSpec)) treeShapesCard

/-- THE TIED CARD OF 'cashbooklaw12.TreeCrash'. -/
def treeCrashCard : Claim7 := { stood := { row := treeCrashRow, standIns := [], harness := (true, "4d19501b154f073b67691db972dc163c9a45030925480ce7469c8b8df4030f4b"), looks := true }, kinds := [], alts := [], laidByText := true, laidKinds := [.data], laidTests := true, laidLooks := .later }
def TreeCrashCardSaid : Prop := Claim7.holds Tryz.pinned (.plain (OpenSpec.ofChange treeCrashSpec)) treeCrashCard

/-- THE SECOND FORM's CARD OF 'cashbooklaw27.ReserveHigh'. -/
def reserveHighUptoCard : Claim7 := { stood := { row := reserveHighUptoRow, standIns := [], harness := (true, "4d19501b154f073b67691db972dc163c9a45030925480ce7469c8b8df4030f4b"), looks := true }, kinds := [], alts := [], laidByText := true, laidKinds := [.data], laidTests := true, laidLooks := .later }
def ReserveHighUptoCardSaid : Prop := Claim7.holds Tryz.pinned (.plain (OpenSpec.upto reserveHighSpec)) reserveHighUptoCard

/-- THE SECOND FORM's CARD OF 'cashbooklaw13.CursorLists'. -/
def cursorListsUptoCard : Claim7 := { stood := { row := cursorListsUptoRow, standIns := [], harness := (true, "4d19501b154f073b67691db972dc163c9a45030925480ce7469c8b8df4030f4b"), looks := true }, kinds := [], alts := [], laidByText := true, laidKinds := [.data], laidTests := true, laidLooks := .later }
def CursorListsUptoCardSaid : Prop := Claim7.holds Tryz.pinned (.plain (OpenSpec.upto cursorListsSpec)) cursorListsUptoCard

/-- THE SECOND FORM's CARD OF 'cashbooklaw13.CursorSteps'. -/
def cursorStepsUptoCard : Claim7 := { stood := { row := cursorStepsUptoRow, standIns := [], harness := (true, "4d19501b154f073b67691db972dc163c9a45030925480ce7469c8b8df4030f4b"), looks := true }, kinds := [], alts := [], laidByText := true, laidKinds := [.data], laidTests := true, laidLooks := .later }
def CursorStepsUptoCardSaid : Prop := Claim7.holds Tryz.pinned (.plain (OpenSpec.upto cursorStepsSpec)) cursorStepsUptoCard

/-- THE SECOND FORM's CARD OF 'cashbooklaw13.CursorTurns'. -/
def cursorTurnsUptoCard : Claim7 := { stood := { row := cursorTurnsUptoRow, standIns := [], harness := (true, "4d19501b154f073b67691db972dc163c9a45030925480ce7469c8b8df4030f4b"), looks := true }, kinds := [], alts := [], laidByText := true, laidKinds := [.data], laidTests := true, laidLooks := .later }
def CursorTurnsUptoCardSaid : Prop := Claim7.holds Tryz.pinned (.plain (OpenSpec.upto cursorTurnsSpec)) cursorTurnsUptoCard

/-- THE SECOND FORM's CARD OF 'cashbooklaw13.CursorStops'. -/
def cursorStopsUptoCard : Claim7 := { stood := { row := cursorStopsUptoRow, standIns := [], harness := (true, "4d19501b154f073b67691db972dc163c9a45030925480ce7469c8b8df4030f4b"), looks := true }, kinds := [], alts := [], laidByText := true, laidKinds := [.data], laidTests := true, laidLooks := .later }
def CursorStopsUptoCardSaid : Prop := Claim7.holds Tryz.pinned (.plain (OpenSpec.upto cursorStopsSpec)) cursorStopsUptoCard

/-- THE SECOND FORM's CARD OF 'cashbooklaw12.TreeTurns'. -/
def treeTurnsUptoCard : Claim7 := { stood := { row := treeTurnsUptoRow, standIns := [], harness := (true, "4d19501b154f073b67691db972dc163c9a45030925480ce7469c8b8df4030f4b"), looks := true }, kinds := [], alts := [], laidByText := true, laidKinds := [.data], laidTests := true, laidLooks := .later }
def TreeTurnsUptoCardSaid : Prop := Claim7.holds Tryz.pinned (.plain (OpenSpec.upto treeTurnsSpec)) treeTurnsUptoCard

/-- THE SECOND FORM's CARD OF 'cashbooklaw12.TreePlays'. -/
def treePlaysUptoCard : Claim7 := { stood := { row := treePlaysUptoRow, standIns := [], harness := (true, "4d19501b154f073b67691db972dc163c9a45030925480ce7469c8b8df4030f4b"), looks := true }, kinds := [], alts := [], laidByText := true, laidKinds := [.data], laidTests := true, laidLooks := .later }
def TreePlaysUptoCardSaid : Prop := Claim7.holds Tryz.pinned (.plain (OpenSpec.upto treePlaysSpec)) treePlaysUptoCard

/-- THE SECOND FORM's CARD OF 'cashbooklaw12.TreeRoom'. -/
def treeRoomUptoCard : Claim7 := { stood := { row := treeRoomUptoRow, standIns := [], harness := (true, "4d19501b154f073b67691db972dc163c9a45030925480ce7469c8b8df4030f4b"), looks := true }, kinds := [], alts := [], laidByText := true, laidKinds := [.data], laidTests := true, laidLooks := .later }
def TreeRoomUptoCardSaid : Prop := Claim7.holds Tryz.pinned (.plain (OpenSpec.upto treeRoomSpec)) treeRoomUptoCard

/-- THE SECOND FORM's CARD OF 'cashbooklaw12.TreeShapes'. -/
def treeShapesUptoCard : Claim7 := { stood := { row := treeShapesUptoRow, standIns := [], harness := (true, "4d19501b154f073b67691db972dc163c9a45030925480ce7469c8b8df4030f4b"), looks := true }, kinds := [], alts := [], laidByText := true, laidKinds := [.data], laidTests := true, laidLooks := .later }
def TreeShapesUptoCardSaid : Prop := Claim7.holds Tryz.pinned (.plain (OpenSpec.upto treeShapesSpec)) treeShapesUptoCard

/-- THE SECOND FORM's CARD OF 'cashbooklaw12.TreeCrash'. -/
def treeCrashUptoCard : Claim7 := { stood := { row := treeCrashUptoRow, standIns := [], harness := (true, "4d19501b154f073b67691db972dc163c9a45030925480ce7469c8b8df4030f4b"), looks := true }, kinds := [], alts := [], laidByText := true, laidKinds := [.data], laidTests := true, laidLooks := .later }
def TreeCrashUptoCardSaid : Prop := Claim7.holds Tryz.pinned (.plain (OpenSpec.upto treeCrashSpec)) treeCrashUptoCard
end Rows
end Go.Proofs.YtmmkegapckbomaaGreatDoor
