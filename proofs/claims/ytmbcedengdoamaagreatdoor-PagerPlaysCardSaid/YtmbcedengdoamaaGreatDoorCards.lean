/-
  DERIVED. GIVEN WITH THE SEED: THE CARDS: each row of YtmbcedengdoamaaGreatDoorRows.lean that lists a variable, with what it lists TIED to the program's text (the seventh form; the later family's looks); each row that meets fmt, with fmt's text TOLD by the authors' own Lean function (tested against real Go, not proved from fmt's source: count such statements apart). THE CARD IS WHAT COUNTS. Prove the row's statement (the work); the ties are given (YtmbcedengdoamaaGreatDoorTie.lean); close each card by the builder's one call (the guide's Derived/Test/ToyasCard.lean, 'card_holds'). Laid BY PROGRAM, IN A SANDBOX (cutbox-door.mjs). By AI agents, Wed Nov 11 2026. No macro, syntax, notation, axiom, sorry.
-/
import Derived.Test.YtmbcedengdoamaaGreatDoorRows
import GoSem.ClaimSeven
namespace Go.Proofs.YtmbcedengdoamaaGreatDoor
namespace Rows

/-- THE TIED CARD OF 'cashbooklaw10.PagerLeast'. -/
def pagerLeastCard : Claim7 := { stood := { row := pagerLeastRow, standIns := [], harness := (true, "4a8a0a8be0afb2b4813266b83dcd829ae1c6e5e8a5e2043e08fbb98bc957283f"), looks := true }, kinds := [], alts := [], laidByText := true, laidKinds := [.data], laidTests := true, laidLooks := .later }
def PagerLeastCardSaid : Prop := Claim7.holds Tryz.pinned (.plain (OpenSpec.ofChange pagerLeastSpec)) pagerLeastCard

/-- THE TIED CARD OF 'cashbooklaw10.PagerCrash'. -/
def pagerCrashCard : Claim7 := { stood := { row := pagerCrashRow, standIns := [], harness := (true, "4a8a0a8be0afb2b4813266b83dcd829ae1c6e5e8a5e2043e08fbb98bc957283f"), looks := true }, kinds := [], alts := [], laidByText := true, laidKinds := [.data], laidTests := true, laidLooks := .later }
def PagerCrashCardSaid : Prop := Claim7.holds Tryz.pinned (.plain (OpenSpec.ofChange pagerCrashSpec)) pagerCrashCard

/-- THE TIED CARD OF 'cashbooklaw10.PagerOpens'. -/
def pagerOpensCard : Claim7 := { stood := { row := pagerOpensRow, standIns := [], harness := (true, "4a8a0a8be0afb2b4813266b83dcd829ae1c6e5e8a5e2043e08fbb98bc957283f"), looks := true }, kinds := [], alts := [], laidByText := true, laidKinds := [.data], laidTests := true, laidLooks := .later }
def PagerOpensCardSaid : Prop := Claim7.holds Tryz.pinned (.plain (OpenSpec.ofChange pagerOpensSpec)) pagerOpensCard

/-- THE TIED CARD OF 'cashbooklaw10.PagerParts'. -/
def pagerPartsCard : Claim7 := { stood := { row := pagerPartsRow, standIns := [], harness := (true, "4a8a0a8be0afb2b4813266b83dcd829ae1c6e5e8a5e2043e08fbb98bc957283f"), looks := true }, kinds := [], alts := [], laidByText := true, laidKinds := [.data], laidTests := true, laidLooks := .later }
def PagerPartsCardSaid : Prop := Claim7.holds Tryz.pinned (.plain (OpenSpec.ofChange pagerPartsSpec)) pagerPartsCard

/-- THE TIED CARD OF 'cashbooklaw10.PagerPlays'. -/
def pagerPlaysCard : Claim7 := { stood := { row := pagerPlaysRow, standIns := [], harness := (true, "4a8a0a8be0afb2b4813266b83dcd829ae1c6e5e8a5e2043e08fbb98bc957283f"), looks := true }, kinds := [], alts := [], laidByText := true, laidKinds := [.data], laidTests := true, laidLooks := .later }
def PagerPlaysCardSaid : Prop := Claim7.holds Tryz.pinned (.plain (OpenSpec.ofChange pagerPlaysSpec)) pagerPlaysCard

/-- THE SECOND FORM's CARD OF 'cashbooklaw10.PagerLeast'. -/
def pagerLeastUptoCard : Claim7 := { stood := { row := pagerLeastUptoRow, standIns := [], harness := (true, "4a8a0a8be0afb2b4813266b83dcd829ae1c6e5e8a5e2043e08fbb98bc957283f"), looks := true }, kinds := [], alts := [], laidByText := true, laidKinds := [.data], laidTests := true, laidLooks := .later }
def PagerLeastUptoCardSaid : Prop := Claim7.holds Tryz.pinned (.plain (OpenSpec.upto pagerLeastSpec)) pagerLeastUptoCard

/-- THE SECOND FORM's CARD OF 'cashbooklaw10.PagerCrash'. -/
def pagerCrashUptoCard : Claim7 := { stood := { row := pagerCrashUptoRow, standIns := [], harness := (true, "4a8a0a8be0afb2b4813266b83dcd829ae1c6e5e8a5e2043e08fbb98bc957283f"), looks := true }, kinds := [], alts := [], laidByText := true, laidKinds := [.data], laidTests := true, laidLooks := .later }
def PagerCrashUptoCardSaid : Prop := Claim7.holds Tryz.pinned (.plain (OpenSpec.upto pagerCrashSpec)) pagerCrashUptoCard

/-- THE SECOND FORM's CARD OF 'cashbooklaw10.PagerOpens'. -/
def pagerOpensUptoCard : Claim7 := { stood := { row := pagerOpensUptoRow, standIns := [], harness := (true, "4a8a0a8be0afb2b4813266b83dcd829ae1c6e5e8a5e2043e08fbb98bc957283f"), looks := true }, kinds := [], alts := [], laidByText := true, laidKinds := [.data], laidTests := true, laidLooks := .later }
def PagerOpensUptoCardSaid : Prop := Claim7.holds Tryz.pinned (.plain (OpenSpec.upto pagerOpensSpec)) pagerOpensUptoCard

/-- THE SECOND FORM's CARD OF 'cashbooklaw10.PagerParts'. -/
def pagerPartsUptoCard : Claim7 := { stood := { row := pagerPartsUptoRow, standIns := [], harness := (true, "4a8a0a8be0afb2b4813266b83dcd829ae1c6e5e8a5e2043e08fbb98bc957283f"), looks := true }, kinds := [], alts := [], laidByText := true, laidKinds := [.data], laidTests := true, laidLooks := .later }
def PagerPartsUptoCardSaid : Prop := Claim7.holds Tryz.pinned (.plain (OpenSpec.upto pagerPartsSpec)) pagerPartsUptoCard

/-- THE SECOND FORM's CARD OF 'cashbooklaw10.PagerPlays'. -/
def pagerPlaysUptoCard : Claim7 := { stood := { row := pagerPlaysUptoRow, standIns := [], harness := (true, "4a8a0a8be0afb2b4813266b83dcd829ae1c6e5e8a5e2043e08fbb98bc957283f"), looks := true }, kinds := [], alts := [], laidByText := true, laidKinds := [.data], laidTests := true, laidLooks := .later }
def PagerPlaysUptoCardSaid : Prop := Claim7.holds Tryz.pinned (.plain (OpenSpec.upto pagerPlaysSpec)) pagerPlaysUptoCard
end Rows
end Go.Proofs.YtmbcedengdoamaaGreatDoor
