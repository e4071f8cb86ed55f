/-
  DERIVED. GIVEN WITH THE SEED: THE CARDS: each row of YtgjidjnaigkdfaaGreatDoorRows.lean that lists a variable, with what it lists TIED to the program's text (the seventh form; the later family's looks); each row that meets fmt, with fmt's text TOLD by the authors' own Lean function (tested against real Go, not proved from fmt's source: count such statements apart). THE CARD IS WHAT COUNTS. Prove the row's statement (the work); the ties are given (YtgjidjnaigkdfaaGreatDoorTie.lean); close each card by the builder's one call (the guide's Derived/Test/ToyasCard.lean, 'card_holds'). Laid BY PROGRAM, IN A SANDBOX (cutbox-door.mjs). By AI agents, Wed Nov 11 2026. No macro, syntax, notation, axiom, sorry.
-/
import Derived.Test.YtgjidjnaigkdfaaGreatDoorRows
import GoSem.ClaimSeven
namespace Go.Proofs.YtgjidjnaigkdfaaGreatDoor
namespace Rows

/-- THE TIED CARD OF 'cashbooklaw12.TreeShapes'. -/
def treeShapesCard : Claim7 := { stood := { row := treeShapesRow, standIns := [], harness := (true, "cc0fd3e744fbe833ff987e16369e5cba18b0a719542cc61cb58987e4550a6db5"), looks := true }, kinds := [], alts := [], laidByText := true, laidKinds := [.data], laidTests := true, laidLooks := .later }
def TreeShapesCardSaid : Prop := Claim7.holds Tryz.pinned (.plain (OpenSpec.ofChange treeShapesSpec)) treeShapesCard

/-- THE TIED CARD OF 'cashbooklaw28.AuditLooks'. -/
def auditLooksCard : Claim7 := { stood := { row := auditLooksRow, standIns := [], harness := (true, "cc0fd3e744fbe833ff987e16369e5cba18b0a719542cc61cb58987e4550a6db5"), looks := true }, kinds := [], alts := [], laidByText := true, laidKinds := [.data], laidTests := true, laidLooks := .later }
def AuditLooksCardSaid : Prop := Claim7.holds Tryz.pinned (.plain (OpenSpec.ofChange auditLooksSpec)) auditLooksCard

/-- THE TIED CARD OF 'cashbooklaw28.AuditSound'. -/
def auditSoundCard : Claim7 := { stood := { row := auditSoundRow, standIns := [], harness := (true, "cc0fd3e744fbe833ff987e16369e5cba18b0a719542cc61cb58987e4550a6db5"), looks := true }, kinds := [], alts := [], laidByText := true, laidKinds := [.data], laidTests := true, laidLooks := .later }
def AuditSoundCardSaid : Prop := Claim7.holds Tryz.pinned (.plain (OpenSpec.ofChange auditSoundSpec)) auditSoundCard

/-- THE SECOND FORM's CARD OF 'cashbooklaw12.TreeShapes'. -/
def treeShapesUptoCard : Claim7 := { stood := { row := treeShapesUptoRow, standIns := [], harness := (true, "cc0fd3e744fbe833ff987e16369e5cba18b0a719542cc61cb58987e4550a6db5"), looks := true }, kinds := [], alts := [], laidByText := true, laidKinds := [.data], laidTests := true, laidLooks := .later }
def TreeShapesUptoCardSaid : Prop := Claim7.holds Tryz.pinned (.plain (OpenSpec.upto treeShapesSpec)) treeShapesUptoCard

/-- THE SECOND FORM's CARD OF 'cashbooklaw28.AuditLooks'. -/
def auditLooksUptoCard : Claim7 := { stood := { row := auditLooksUptoRow, standIns := [], harness := (true, "cc0fd3e744fbe833ff987e16369e5cba18b0a719542cc61cb58987e4550a6db5"), looks := true }, kinds := [], alts := [], laidByText := true, laidKinds := [.data], laidTests := true, laidLooks := .later }
def AuditLooksUptoCardSaid : Prop := Claim7.holds Tryz.pinned (.plain (OpenSpec.upto auditLooksSpec)) auditLooksUptoCard

/-- THE SECOND FORM's CARD OF 'cashbooklaw28.AuditSound'. -/
def auditSoundUptoCard : Claim7 := { stood := { row := auditSoundUptoRow, standIns := [], harness := (true, "cc0fd3e744fbe833ff987e16369e5cba18b0a719542cc61cb58987e4550a6db5"), looks := true }, kinds := [], alts := [], laidByText := true, laidKinds := [.data], laidTests := true, laidLooks := .later }
def AuditSoundUptoCardSaid : Prop := Claim7.holds Tryz.pinned (.plain (OpenSpec.upto auditSoundSpec)) auditSoundUptoCard
end Rows
end Go.Proofs.YtgjidjnaigkdfaaGreatDoor
