/-
  DERIVED. GIVEN WITH THE SEED: THE CARDS: each row of YtfneoijhmknlnaaGreatDoorRows.lean that lists a variable, with what it lists TIED to the program's text (the seventh form; the later family's looks); each row that meets fmt, with fmt's text TOLD by the authors' own Lean function (tested against real Go, not proved from fmt's source: count such statements apart). THE CARD IS WHAT COUNTS. Prove the row's statement (the work); the ties are given (YtfneoijhmknlnaaGreatDoorTie.lean); close each card by the builder's one call (the guide's Derived/Test/ToyasCard.lean, 'card_holds'). Laid BY PROGRAM, IN A SANDBOX (cutbox-door.mjs). By AI agents, Wed Nov 11 2026. No macro, syntax, notation, axiom, sorry.
-/
import Derived.Test.YtfneoijhmknlnaaGreatDoorRows
import GoSem.ClaimSeven
namespace Go.Proofs.YtfneoijhmknlnaaGreatDoor
namespace Rows

/-- THE TIED CARD OF 'cashbooklaw22.ExpiryOnce'. -/
def expiryOnceCard : Claim7 := { stood := { row := expiryOnceRow, standIns := [], harness := (true, "1037a4b5b331120edf9540d690764b70fe13b5f84383b5734b071e3ee05468b0"), looks := true }, kinds := [], alts := [], laidByText := true, laidKinds := [.data], laidTests := true, laidLooks := .later }
def ExpiryOnceCardSaid : Prop := Claim7.holds Tryz.pinned (.plain (OpenSpec.ofChange expiryOnceSpec)) expiryOnceCard

/-- THE TIED CARD OF 'cashbooklaw22.ExpiryBack'. -/
def expiryBackCard : Claim7 := { stood := { row := expiryBackRow, standIns := [], harness := (true, "1037a4b5b331120edf9540d690764b70fe13b5f84383b5734b071e3ee05468b0"), looks := true }, kinds := [], alts := [], laidByText := true, laidKinds := [.data], laidTests := true, laidLooks := .later }
def ExpiryBackCardSaid : Prop := Claim7.holds Tryz.pinned (.plain (OpenSpec.ofChange expiryBackSpec)) expiryBackCard

/-- THE TIED CARD OF 'cashbooklaw22.ExpiryPulses'. -/
def expiryPulsesCard : Claim7 := { stood := { row := expiryPulsesRow, standIns := [], harness := (true, "1037a4b5b331120edf9540d690764b70fe13b5f84383b5734b071e3ee05468b0"), looks := true }, kinds := [], alts := [], laidByText := true, laidKinds := [.data], laidTests := true, laidLooks := .later }
def ExpiryPulsesCardSaid : Prop := Claim7.holds Tryz.pinned (.plain (OpenSpec.ofChange expiryPulsesSpec)) expiryPulsesCard

/-- THE TIED CARD OF 'cashbooklaw22.ExpiryKeeps'. -/
def expiryKeepsCard : Claim7 := { stood := { row := expiryKeepsRow, standIns := [], harness := (true, "1037a4b5b331120edf9540d690764b70fe13b5f84383b5734b071e3ee05468b0"), looks := true }, kinds := [], alts := [], laidByText := true, laidKinds := [.data], laidTests := true, laidLooks := .later }
def ExpiryKeepsCardSaid : Prop := Claim7.holds Tryz.pinned (.plain (OpenSpec.ofChange expiryKeepsSpec)) expiryKeepsCard

/-- THE SECOND FORM's CARD OF 'cashbooklaw22.ExpiryOnce'. -/
def expiryOnceUptoCard : Claim7 := { stood := { row := expiryOnceUptoRow, standIns := [], harness := (true, "1037a4b5b331120edf9540d690764b70fe13b5f84383b5734b071e3ee05468b0"), looks := true }, kinds := [], alts := [], laidByText := true, laidKinds := [.data], laidTests := true, laidLooks := .later }
def ExpiryOnceUptoCardSaid : Prop := Claim7.holds Tryz.pinned (.plain (OpenSpec.upto expiryOnceSpec)) expiryOnceUptoCard

/-- THE SECOND FORM's CARD OF 'cashbooklaw22.ExpiryBack'. -/
def expiryBackUptoCard : Claim7 := { stood := { row := expiryBackUptoRow, standIns := [], harness := (true, "1037a4b5b331120edf9540d690764b70fe13b5f84383b5734b071e3ee05468b0"), looks := true }, kinds := [], alts := [], laidByText := true, laidKinds := [.data], laidTests := true, laidLooks := .later }
def ExpiryBackUptoCardSaid : Prop := Claim7.holds Tryz.pinned (.plain (OpenSpec.upto expiryBackSpec)) expiryBackUptoCard

/-- THE SECOND FORM's CARD OF 'cashbooklaw22.ExpiryPulses'. -/
def expiryPulsesUptoCard : Claim7 := { stood := { row := expiryPulsesUptoRow, standIns := [], harness := (true, "1037a4b5b331120edf9540d690764b70fe13b5f84383b5734b071e3ee05468b0"), looks := true }, kinds := [], alts := [], laidByText := true, laidKinds := [.data], laidTests := true, laidLooks := .later }
def ExpiryPulsesUptoCardSaid : Prop := Claim7.holds Tryz.pinned (.plain (OpenSpec.upto expiryPulsesSpec)) expiryPulsesUptoCard

/-- THE SECOND FORM's CARD OF 'cashbooklaw22.ExpiryKeeps'. -/
def expiryKeepsUptoCard : Claim7 := { stood := { row := expiryKeepsUptoRow, standIns := [], harness := (true, "1037a4b5b331120edf9540d690764b70fe13b5f84383b5734b071e3ee05468b0"), looks := true }, kinds := [], alts := [], laidByText := true, laidKinds := [.data], laidTests := true, laidLooks := .later }
def ExpiryKeepsUptoCardSaid : Prop := Claim7.holds Tryz.pinned (.plain (OpenSpec.upto expiryKeepsSpec)) expiryKeepsUptoCard
end Rows
end Go.Proofs.YtfneoijhmknlnaaGreatDoor
