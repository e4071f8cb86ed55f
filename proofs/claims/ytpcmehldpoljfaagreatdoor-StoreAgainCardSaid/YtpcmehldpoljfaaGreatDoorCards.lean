/-
  DERIVED. GIVEN WITH THE SEED: THE CARDS: each row of YtpcmehldpoljfaaGreatDoorRows.lean that lists a variable, with what it lists TIED to the program's text (the seventh form; the later family's looks); each row that meets fmt, with fmt's text TOLD by the authors' own Lean function (tested against real Go, not proved from fmt's source: count such statements apart). THE CARD IS WHAT COUNTS. Prove the row's statement (the work); the ties are given (YtpcmehldpoljfaaGreatDoorTie.lean); close each card by the builder's one call (the guide's Derived/Test/ToyasCard.lean, 'card_holds'). Laid BY PROGRAM, IN A SANDBOX (cutbox-door.mjs). By AI agents, Wed Nov 11 2026. No macro, syntax, notation, axiom, sorry.
-/
import Derived.Test.YtpcmehldpoljfaaGreatDoorRows
import GoSem.ClaimSeven
namespace Go.Proofs.YtpcmehldpoljfaaGreatDoor
namespace Rows

/-- THE TIED CARD OF 'cashbooklaw16.StoreDue'. -/
def storeDueCard : Claim7 := { stood := { row := storeDueRow, standIns := [], harness := (true, "53e231c8da452eb8a975f9f934b0113bc632fc9ce246daf849bbee0c8eb0bf88"), looks := true }, kinds := [], alts := [], laidByText := true, laidKinds := [.data], laidTests := true, laidLooks := .later }
def StoreDueCardSaid : Prop := Claim7.holds Tryz.pinned (.plain (OpenSpec.ofChange storeDueSpec)) storeDueCard

/-- THE TIED CARD OF 'cashbooklaw16.StoreMoves'. -/
def storeMovesCard : Claim7 := { stood := { row := storeMovesRow, standIns := [], harness := (true, "53e231c8da452eb8a975f9f934b0113bc632fc9ce246daf849bbee0c8eb0bf88"), looks := true }, kinds := [], alts := [], laidByText := true, laidKinds := [.data], laidTests := true, laidLooks := .later }
def StoreMovesCardSaid : Prop := Claim7.holds Tryz.pinned (.plain (OpenSpec.ofChange storeMovesSpec)) storeMovesCard

/-- THE TIED CARD OF 'cashbooklaw16.StoreRows'. -/
def storeRowsCard : Claim7 := { stood := { row := storeRowsRow, standIns := [], harness := (true, "53e231c8da452eb8a975f9f934b0113bc632fc9ce246daf849bbee0c8eb0bf88"), looks := true }, kinds := [], alts := [], laidByText := true, laidKinds := [.data], laidTests := true, laidLooks := .later }
def StoreRowsCardSaid : Prop := Claim7.holds Tryz.pinned (.plain (OpenSpec.ofChange storeRowsSpec)) storeRowsCard

/-- THE TIED CARD OF 'cashbooklaw16.StoreAgain'. -/
def storeAgainCard : Claim7 := { stood := { row := storeAgainRow, standIns := [], harness := (true, "53e231c8da452eb8a975f9f934b0113bc632fc9ce246daf849bbee0c8eb0bf88"), looks := true }, kinds := [], alts := [], laidByText := true, laidKinds := [.data], laidTests := true, laidLooks := .later }
def StoreAgainCardSaid : Prop := Claim7.holds Tryz.pinned (.plain (OpenSpec.ofChange storeAgainSpec)) storeAgainCard

/-- THE TIED CARD OF 'cashbooklaw16.StoreKeeps'. -/
def storeKeepsCard : Claim7 := { stood := { row := storeKeepsRow, standIns := [], harness := (true, "53e231c8da452eb8a975f9f934b0113bc632fc9ce246daf849bbee0c8eb0bf88"), looks := true }, kinds := [], alts := [], laidByText := true, laidKinds := [.data], laidTests := true, laidLooks := .later }
def StoreKeepsCardSaid : Prop := Claim7.holds Tryz.pinned (.plain (OpenSpec.ofChange storeKeepsSpec)) storeKeepsCard

/-- THE SECOND FORM's CARD OF 'cashbooklaw16.StoreDue'. -/
def storeDueUptoCard : Claim7 := { stood := { row := storeDueUptoRow, standIns := [], harness := (true, "53e231c8da452eb8a975f9f934b0113bc632fc9ce246daf849bbee0c8eb0bf88"), looks := true }, kinds := [], alts := [], laidByText := true, laidKinds := [.data], laidTests := true, laidLooks := .later }
def StoreDueUptoCardSaid : Prop := Claim7.holds Tryz.pinned (.plain (OpenSpec.upto storeDueSpec)) storeDueUptoCard

/-- THE SECOND FORM's CARD OF 'cashbooklaw16.StoreMoves'. -/
def storeMovesUptoCard : Claim7 := { stood := { row := storeMovesUptoRow, standIns := [], harness := (true, "53e231c8da452eb8a975f9f934b0113bc632fc9ce246daf849bbee0c8eb0bf88"), looks := true }, kinds := [], alts := [], laidByText := true, laidKinds := [.data], laidTests := true, laidLooks := .later }
def StoreMovesUptoCardSaid : Prop := Claim7.holds Tryz.pinned (.plain (OpenSpec.upto storeMovesSpec)) storeMovesUptoCard

/-- THE SECOND FORM's CARD OF 'cashbooklaw16.StoreRows'. -/
def storeRowsUptoCard : Claim7 := { stood := { row := storeRowsUptoRow, standIns := [], harness := (true, "53e231c8da452eb8a975f9f934b0113bc632fc9ce246daf849bbee0c8eb0bf88"), looks := true }, kinds := [], alts := [], laidByText := true, laidKinds := [.data], laidTests := true, laidLooks := .later }
def StoreRowsUptoCardSaid : Prop := Claim7.holds Tryz.pinned (.plain (OpenSpec.upto storeRowsSpec)) storeRowsUptoCard

/-- THE SECOND FORM's CARD OF 'cashbooklaw16.StoreAgain'. -/
def storeAgainUptoCard : Claim7 := { stood := { row := storeAgainUptoRow, standIns := [], harness := (true, "53e231c8da452eb8a975f9f934b0113bc632fc9ce246daf849bbee0c8eb0bf88"), looks := true }, kinds := [], alts := [], laidByText := true, laidKinds := [.data], laidTests := true, laidLooks := .later }
def StoreAgainUptoCardSaid : Prop := Claim7.holds Tryz.pinned (.plain (OpenSpec.upto storeAgainSpec)) storeAgainUptoCard

/-- THE SECOND FORM's CARD OF 'cashbooklaw16.StoreKeeps'. -/
def storeKeepsUptoCard : Claim7 := { stood := { row := storeKeepsUptoRow, standIns := [], harness := (true, "53e231c8da452eb8a975f9f934b0113bc632fc9ce246daf849bbee0c8eb0bf88"), looks := true }, kinds := [], alts := [], laidByText := true, laidKinds := [.data], laidTests := true, laidLooks := .later }
def StoreKeepsUptoCardSaid : Prop := Claim7.holds Tryz.pinned (.plain (OpenSpec.upto storeKeepsSpec)) storeKeepsUptoCard
end Rows
end Go.Proofs.YtpcmehldpoljfaaGreatDoor
