/-
  NARROWER THAN 'FOR EVERY INPUT', by the rows' own cells (each row's printed sentence says how): TreeShapes: laid · AuditLooks: laid · AuditSound: laid.
  DERIVED. THE GIVEN ROWS OF THIS SEAT. 3 by the template 'for every input the law returns true; each argument reads behind the call as it read before'; 0 by the template 'total and deterministic' (their statements: YtgjidjnaigkdfaaGreatDoorTotals.lean).
  GIVEN WITH THE SEED: the statements are not yours to turn. If you find one false, say at which input.
  Laid BY PROGRAM, IN A SANDBOX (cutbox-rows.mjs): the forced cells as the released guide's own fill.sh prints them over the translation 0ff1949728b4cb94… (all of the seat's roots in one cut). By AI agents, Wed Nov 11 2026. No macro, syntax, notation, axiom, sorry.
-/
import Derived.Test.YtgjidjnaigkdfaaGreatDoorChecked
import GoSem.Claim
import GoSem.ClaimJoined
import GoSem.ClaimMapViews
import Derived.JoinedTies
import Derived.KernelRfl
namespace Go.Proofs.YtgjidjnaigkdfaaGreatDoor
/- THE CELL 'sum', in the pinned program and in every row, IS THE sha256 OF THE DUMP (.gsa) THAT YtgjidjnaigkdfaaGreatDoorProg.lean LOADS. Nothing in Lean hashes anything: it is a label: what it is worth is what the hold of that sum in a sandbox is worth. -/
noncomputable def Tryz.pinned : Pinned := { name := "ytgjidjnaigkdfaagreatdoor", sum := "0ff1949728b4cb948fd2baa93ed0097e35275aa38f5cef335f3b2849dcb9944e", checked := Tryz.checked }
namespace Rows
def none {H : Type} : Left H := { results := [], args := [] }

/- WHAT THE LISTED PACKAGE-LEVEL VARIABLES READ AS WHEN THE CALL BEGINS. Each datum BY PROGRAM (the guide's laid-datum.mjs) off the statement by which the dump's own 'gosem.cut.vars' lays the variable. In a bare row this is a premise. The card (YtgjidjnaigkdfaaGreatDoorCards.lean) ties it to the program's text. -/
def laid_cashbook_crc_halves {H : Type} : DataW H := .agg [.lit (.int .u32 0), .lit (.int .u32 274646895), .lit (.int .u32 549293790), .lit (.int .u32 820201905), .lit (.int .u32 1098587580), .lit (.int .u32 1361435347), .lit (.int .u32 1640403810), .lit (.int .u32 1905808397), .lit (.int .u32 2197175160), .lit (.int .u32 2460548119), .lit (.int .u32 2722870694), .lit (.int .u32 2987750089), .lit (.int .u32 3280807620), .lit (.int .u32 3553878443), .lit (.int .u32 3811616794), .lit (.int .u32 4084100981)]

/-- 'cashbooklaw12.TreeShapes': WHATEVER THE INPUT: true; the input reads as it did. -/
def treeShapesSpec : ChangeSpec := { name := "treeShapes", fn := fun _ => fun
  | [d1, d2] => { results := [.lit (.bool true)], args := [d1, d2] }
  | _ => none }
def treeShapesRow : OpenClaim := { program := "ytgjidjnaigkdfaagreatdoor", sum := "0ff1949728b4cb948fd2baa93ed0097e35275aa38f5cef335f3b2849dcb9944e", func := "cashbook/cashbooklaw12.TreeShapes", spec := "treeShapes", inPlace := ["internal/bytealg.Count", "internal/bytealg.IndexByte", "internal/bytealg.Index", "internal/bytealg.Compare", "slices.overlaps[[]byte]", "slices.overlaps[uint32]", "maps.clone"], unfollowed := true, recurses := true, named := ["cashbook/crc.halves", "internal/bytealg.MaxLen"], apart := false, laid := [("cashbook/crc.halves", laid_cashbook_crc_halves)] }
def TreeShapesSaid : Prop := treeShapesRow.holds Tryz.pinned (OpenSpec.ofChange treeShapesSpec)

/-- ITS FALSE NEIGHBOUR: 'it returns false'. Refute it at one input. -/
def treeShapesWrong : ChangeSpec := { name := "treeShapes", fn := fun _ => fun
  | [d1, d2] => { results := [.lit (.bool false)], args := [d1, d2] }
  | _ => none }
def TreeShapesWrongFalsely : Prop := treeShapesRow.holds Tryz.pinned (OpenSpec.ofChange treeShapesWrong)

/-- 'cashbooklaw28.AuditLooks': WHATEVER THE INPUT: true; the input reads as it did. -/
def auditLooksSpec : ChangeSpec := { name := "auditLooks", fn := fun _ => fun
  | [d1, d2, d3] => { results := [.lit (.bool true)], args := [d1, d2, d3] }
  | _ => none }
def auditLooksRow : OpenClaim := { program := "ytgjidjnaigkdfaagreatdoor", sum := "0ff1949728b4cb948fd2baa93ed0097e35275aa38f5cef335f3b2849dcb9944e", func := "cashbook/cashbooklaw28.AuditLooks", spec := "auditLooks", inPlace := ["internal/bytealg.Count", "internal/bytealg.IndexByte", "internal/bytealg.Index", "internal/bytealg.Compare", "slices.overlaps[[]byte]", "slices.overlaps[uint32]", "maps.clone"], unfollowed := true, recurses := true, named := ["cashbook/crc.halves", "internal/bytealg.MaxLen"], apart := false, laid := [("cashbook/crc.halves", laid_cashbook_crc_halves)] }
def AuditLooksSaid : Prop := auditLooksRow.holds Tryz.pinned (OpenSpec.ofChange auditLooksSpec)

/-- ITS FALSE NEIGHBOUR: 'it returns false'. Refute it at one input. -/
def auditLooksWrong : ChangeSpec := { name := "auditLooks", fn := fun _ => fun
  | [d1, d2, d3] => { results := [.lit (.bool false)], args := [d1, d2, d3] }
  | _ => none }
def AuditLooksWrongFalsely : Prop := auditLooksRow.holds Tryz.pinned (OpenSpec.ofChange auditLooksWrong)

/-- 'cashbooklaw28.AuditSound': WHATEVER THE INPUT: true; the input reads as it did. -/
def auditSoundSpec : ChangeSpec := { name := "auditSound", fn := fun _ => fun
  | [d1, d2] => { results := [.lit (.bool true)], args := [d1, d2] }
  | _ => none }
def auditSoundRow : OpenClaim := { program := "ytgjidjnaigkdfaagreatdoor", sum := "0ff1949728b4cb948fd2baa93ed0097e35275aa38f5cef335f3b2849dcb9944e", func := "cashbook/cashbooklaw28.AuditSound", spec := "auditSound", inPlace := ["internal/bytealg.Count", "internal/bytealg.IndexByte", "internal/bytealg.Index", "internal/bytealg.Compare", "slices.overlaps[[]byte]", "slices.overlaps[uint32]", "maps.clone"], unfollowed := true, recurses := true, named := ["cashbook/crc.halves", "internal/bytealg.MaxLen"], apart := false, laid := [("cashbook/crc.halves", laid_cashbook_crc_halves)] }
def AuditSoundSaid : Prop := auditSoundRow.holds Tryz.pinned (OpenSpec.ofChange auditSoundSpec)

/-- ITS FALSE NEIGHBOUR: 'it returns false'. Refute it at one input. -/
def auditSoundWrong : ChangeSpec := { name := "auditSound", fn := fun _ => fun
  | [d1, d2] => { results := [.lit (.bool false)], args := [d1, d2] }
  | _ => none }
def AuditSoundWrongFalsely : Prop := auditSoundRow.holds Tryz.pinned (OpenSpec.ofChange auditSoundWrong)

/- THE SECOND FORM. 'bulk': how many values and letters a reading holds, each counted each time it is reached (what is shared counts as often as it is met; a slice's spare places count too). A statement '..UptoSaid' is the law's where the arguments, and the package variables that the reading takes, are together of bulk at most 1048576: NARROWER than '..Said'. Prove '..Said' where nothing that the law and all that it calls make is longer than what came in: it says more and counts as full. Else prove '..UptoSaid'. A law counts once. -/
mutual
def uptoBulk {H : Type} : DataW H → Nat
  | .lit (.string bytes) => bytes.length + 1
  | .lit _ => 1
  | .nil => 1
  | .ptr d => uptoBulk d + 1
  | .slice elems spare => uptoBulkAll elems + uptoBulkAll spare + 1
  | .agg parts => uptoBulkAll parts + 1
  | .iface _ d => uptoBulk d + 1
  | .map entries => uptoBulkEntries entries + 1
  | .held _ => 1
def uptoBulkAll {H : Type} : List (DataW H) → Nat
  | [] => 0
  | d :: r => uptoBulk d + uptoBulkAll r
def uptoBulkEntries {H : Type} : List (Lit × DataW H) → Nat
  | [] => 0
  | x :: r => uptoBulkEntry x + uptoBulkEntries r
def uptoBulkEntry {H : Type} : Lit × DataW H → Nat
  | (.string bytes, d) => bytes.length + uptoBulk d + 1
  | (_, d) => uptoBulk d + 1
 end
def uptoSmall : (H : Type) → List (DataW H) → Bool := fun _ ds => decide (uptoBulkAll ds ≤ 1048576)
def OpenSpec.upto (s : _root_.Go.ChangeSpec) : _root_.Go.OpenSpec := { _root_.Go.OpenSpec.ofChange s with cond := some uptoSmall }

/-- 'cashbooklaw12.TreeShapes', WHERE WHAT IT READS IS OF BULK AT MOST 1048576: true; the input reads as it did. -/
def treeShapesUptoRow : OpenClaim := { program := "ytgjidjnaigkdfaagreatdoor", sum := "0ff1949728b4cb948fd2baa93ed0097e35275aa38f5cef335f3b2849dcb9944e", func := "cashbook/cashbooklaw12.TreeShapes", spec := "treeShapes", inPlace := ["internal/bytealg.Count", "internal/bytealg.IndexByte", "internal/bytealg.Index", "internal/bytealg.Compare", "slices.overlaps[[]byte]", "slices.overlaps[uint32]", "maps.clone"], unfollowed := true, recurses := true, named := ["cashbook/crc.halves", "internal/bytealg.MaxLen"], apart := false, laid := [("cashbook/crc.halves", laid_cashbook_crc_halves)], narrowed := true }
def TreeShapesUptoSaid : Prop := treeShapesUptoRow.holds Tryz.pinned (OpenSpec.upto treeShapesSpec)

/-- 'cashbooklaw28.AuditLooks', WHERE WHAT IT READS IS OF BULK AT MOST 1048576: true; the input reads as it did. -/
def auditLooksUptoRow : OpenClaim := { program := "ytgjidjnaigkdfaagreatdoor", sum := "0ff1949728b4cb948fd2baa93ed0097e35275aa38f5cef335f3b2849dcb9944e", func := "cashbook/cashbooklaw28.AuditLooks", spec := "auditLooks", inPlace := ["internal/bytealg.Count", "internal/bytealg.IndexByte", "internal/bytealg.Index", "internal/bytealg.Compare", "slices.overlaps[[]byte]", "slices.overlaps[uint32]", "maps.clone"], unfollowed := true, recurses := true, named := ["cashbook/crc.halves", "internal/bytealg.MaxLen"], apart := false, laid := [("cashbook/crc.halves", laid_cashbook_crc_halves)], narrowed := true }
def AuditLooksUptoSaid : Prop := auditLooksUptoRow.holds Tryz.pinned (OpenSpec.upto auditLooksSpec)

/-- 'cashbooklaw28.AuditSound', WHERE WHAT IT READS IS OF BULK AT MOST 1048576: true; the input reads as it did. -/
def auditSoundUptoRow : OpenClaim := { program := "ytgjidjnaigkdfaagreatdoor", sum := "0ff1949728b4cb948fd2baa93ed0097e35275aa38f5cef335f3b2849dcb9944e", func := "cashbook/cashbooklaw28.AuditSound", spec := "auditSound", inPlace := ["internal/bytealg.Count", "internal/bytealg.IndexByte", "internal/bytealg.Index", "internal/bytealg.Compare", "slices.overlaps[[]byte]", "slices.overlaps[uint32]", "maps.clone"], unfollowed := true, recurses := true, named := ["cashbook/crc.halves", "internal/bytealg.MaxLen"], apart := false, laid := [("cashbook/crc.halves", laid_cashbook_crc_halves)], narrowed := true }
def AuditSoundUptoSaid : Prop := auditSoundUptoRow.holds Tryz.pinned (OpenSpec.upto auditSoundSpec)

end Rows
end Go.Proofs.YtgjidjnaigkdfaaGreatDoor
