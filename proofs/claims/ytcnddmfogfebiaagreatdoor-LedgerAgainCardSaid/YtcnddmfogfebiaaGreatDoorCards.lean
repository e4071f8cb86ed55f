/-
  DERIVED. GIVEN WITH THE SEED: THE CARDS: each row of YtcnddmfogfebiaaGreatDoorRows.lean that lists a variable, with what it lists TIED to the program's text (the seventh form; the later family's looks); each row that meets fmt, with fmt's text TOLD by the authors' own Lean function (tested against real Go, not proved from fmt's source: count such statements apart). THE CARD IS WHAT COUNTS. Prove the row's statement (the work); the ties are given (YtcnddmfogfebiaaGreatDoorTie.lean); close each card by the builder's one call (the guide's Derived/Test/ToyasCard.lean, 'card_holds'). Laid BY PROGRAM, IN A SANDBOX (cutbox-door.mjs). By AI agents, Wed Nov 11 2026. No macro, syntax, notation, axiom, sorry.
-/
import Derived.Test.YtcnddmfogfebiaaGreatDoorRows
import GoSem.ClaimSeven
namespace Go.Proofs.YtcnddmfogfebiaaGreatDoor
namespace Rows

/-- THE TIED CARD OF 'cashbooklaw23.LedgerEven'. -/
def ledgerEvenCard : Claim7 := { stood := { row := ledgerEvenRow, standIns := [], harness := (true, "1a99e94729d49c696b8f3a21509cea188bd2603a60e0ca5bc714dc1f258628d2"), looks := true }, kinds := [], alts := [], laidByText := true, laidKinds := [.data], laidTests := true, laidLooks := .later }
def LedgerEvenCardSaid : Prop := Claim7.holds Tryz.pinned (.plain (OpenSpec.ofChange ledgerEvenSpec)) ledgerEvenCard

/-- THE TIED CARD OF 'cashbooklaw23.LedgerSums'. -/
def ledgerSumsCard : Claim7 := { stood := { row := ledgerSumsRow, standIns := [], harness := (true, "1a99e94729d49c696b8f3a21509cea188bd2603a60e0ca5bc714dc1f258628d2"), looks := true }, kinds := [], alts := [], laidByText := true, laidKinds := [.data], laidTests := true, laidLooks := .later }
def LedgerSumsCardSaid : Prop := Claim7.holds Tryz.pinned (.plain (OpenSpec.ofChange ledgerSumsSpec)) ledgerSumsCard

/-- THE TIED CARD OF 'cashbooklaw23.LedgerLimits'. -/
def ledgerLimitsCard : Claim7 := { stood := { row := ledgerLimitsRow, standIns := [], harness := (true, "1a99e94729d49c696b8f3a21509cea188bd2603a60e0ca5bc714dc1f258628d2"), looks := true }, kinds := [], alts := [], laidByText := true, laidKinds := [.data], laidTests := true, laidLooks := .later }
def LedgerLimitsCardSaid : Prop := Claim7.holds Tryz.pinned (.plain (OpenSpec.ofChange ledgerLimitsSpec)) ledgerLimitsCard

/-- THE TIED CARD OF 'cashbooklaw23.LedgerAgain'. -/
def ledgerAgainCard : Claim7 := { stood := { row := ledgerAgainRow, standIns := [], harness := (true, "1a99e94729d49c696b8f3a21509cea188bd2603a60e0ca5bc714dc1f258628d2"), looks := true }, kinds := [], alts := [], laidByText := true, laidKinds := [.data], laidTests := true, laidLooks := .later }
def LedgerAgainCardSaid : Prop := Claim7.holds Tryz.pinned (.plain (OpenSpec.ofChange ledgerAgainSpec)) ledgerAgainCard

/-- THE TIED CARD OF 'cashbooklaw23.LedgerParts'. -/
def ledgerPartsCard : Claim7 := { stood := { row := ledgerPartsRow, standIns := [], harness := (true, "1a99e94729d49c696b8f3a21509cea188bd2603a60e0ca5bc714dc1f258628d2"), looks := true }, kinds := [], alts := [], laidByText := true, laidKinds := [.data], laidTests := true, laidLooks := .later }
def LedgerPartsCardSaid : Prop := Claim7.holds Tryz.pinned (.plain (OpenSpec.ofChange ledgerPartsSpec)) ledgerPartsCard

/-- THE TIED CARD OF 'cashbooklaw23.LedgerChains'. -/
def ledgerChainsCard : Claim7 := { stood := { row := ledgerChainsRow, standIns := [], harness := (true, "1a99e94729d49c696b8f3a21509cea188bd2603a60e0ca5bc714dc1f258628d2"), looks := true }, kinds := [], alts := [], laidByText := true, laidKinds := [.data], laidTests := true, laidLooks := .later }
def LedgerChainsCardSaid : Prop := Claim7.holds Tryz.pinned (.plain (OpenSpec.ofChange ledgerChainsSpec)) ledgerChainsCard

/-- THE SECOND FORM's CARD OF 'cashbooklaw23.LedgerEven'. -/
def ledgerEvenUptoCard : Claim7 := { stood := { row := ledgerEvenUptoRow, standIns := [], harness := (true, "1a99e94729d49c696b8f3a21509cea188bd2603a60e0ca5bc714dc1f258628d2"), looks := true }, kinds := [], alts := [], laidByText := true, laidKinds := [.data], laidTests := true, laidLooks := .later }
def LedgerEvenUptoCardSaid : Prop := Claim7.holds Tryz.pinned (.plain (OpenSpec.upto ledgerEvenSpec)) ledgerEvenUptoCard

/-- THE SECOND FORM's CARD OF 'cashbooklaw23.LedgerSums'. -/
def ledgerSumsUptoCard : Claim7 := { stood := { row := ledgerSumsUptoRow, standIns := [], harness := (true, "1a99e94729d49c696b8f3a21509cea188bd2603a60e0ca5bc714dc1f258628d2"), looks := true }, kinds := [], alts := [], laidByText := true, laidKinds := [.data], laidTests := true, laidLooks := .later }
def LedgerSumsUptoCardSaid : Prop := Claim7.holds Tryz.pinned (.plain (OpenSpec.upto ledgerSumsSpec)) ledgerSumsUptoCard

/-- THE SECOND FORM's CARD OF 'cashbooklaw23.LedgerLimits'. -/
def ledgerLimitsUptoCard : Claim7 := { stood := { row := ledgerLimitsUptoRow, standIns := [], harness := (true, "1a99e94729d49c696b8f3a21509cea188bd2603a60e0ca5bc714dc1f258628d2"), looks := true }, kinds := [], alts := [], laidByText := true, laidKinds := [.data], laidTests := true, laidLooks := .later }
def LedgerLimitsUptoCardSaid : Prop := Claim7.holds Tryz.pinned (.plain (OpenSpec.upto ledgerLimitsSpec)) ledgerLimitsUptoCard

/-- THE SECOND FORM's CARD OF 'cashbooklaw23.LedgerAgain'. -/
def ledgerAgainUptoCard : Claim7 := { stood := { row := ledgerAgainUptoRow, standIns := [], harness := (true, "1a99e94729d49c696b8f3a21509cea188bd2603a60e0ca5bc714dc1f258628d2"), looks := true }, kinds := [], alts := [], laidByText := true, laidKinds := [.data], laidTests := true, laidLooks := .later }
def LedgerAgainUptoCardSaid : Prop := Claim7.holds Tryz.pinned (.plain (OpenSpec.upto ledgerAgainSpec)) ledgerAgainUptoCard

/-- THE SECOND FORM's CARD OF 'cashbooklaw23.LedgerParts'. -/
def ledgerPartsUptoCard : Claim7 := { stood := { row := ledgerPartsUptoRow, standIns := [], harness := (true, "1a99e94729d49c696b8f3a21509cea188bd2603a60e0ca5bc714dc1f258628d2"), looks := true }, kinds := [], alts := [], laidByText := true, laidKinds := [.data], laidTests := true, laidLooks := .later }
def LedgerPartsUptoCardSaid : Prop := Claim7.holds Tryz.pinned (.plain (OpenSpec.upto ledgerPartsSpec)) ledgerPartsUptoCard

/-- THE SECOND FORM's CARD OF 'cashbooklaw23.LedgerChains'. -/
def ledgerChainsUptoCard : Claim7 := { stood := { row := ledgerChainsUptoRow, standIns := [], harness := (true, "1a99e94729d49c696b8f3a21509cea188bd2603a60e0ca5bc714dc1f258628d2"), looks := true }, kinds := [], alts := [], laidByText := true, laidKinds := [.data], laidTests := true, laidLooks := .later }
def LedgerChainsUptoCardSaid : Prop := Claim7.holds Tryz.pinned (.plain (OpenSpec.upto ledgerChainsSpec)) ledgerChainsUptoCard
end Rows
end Go.Proofs.YtcnddmfogfebiaaGreatDoor
