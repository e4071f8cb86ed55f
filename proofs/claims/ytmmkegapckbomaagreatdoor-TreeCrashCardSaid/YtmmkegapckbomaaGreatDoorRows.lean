/-
  NARROWER THAN 'FOR EVERY INPUT', by the rows' own cells (each row's printed sentence says how): ReserveHigh: laid · CursorLists: laid · CursorSteps: laid · CursorTurns: laid · CursorStops: laid · TreeTurns: laid · TreePlays: laid · TreeRoom: laid · TreeShapes: laid · TreeCrash: laid.
  DERIVED. THE GIVEN ROWS OF THIS SEAT. 10 by the template 'for every input the law returns true; each argument reads behind the call as it read before'; 0 by the template 'total and deterministic' (their statements: YtmmkegapckbomaaGreatDoorTotals.lean).
  GIVEN WITH THE SEED: the statements are not yours to turn. If you find one false, say at which input.
  Laid BY PROGRAM, IN A SANDBOX (cutbox-rows.mjs): the forced cells as the released guide's own fill.sh prints them over the translation 7e4a028ff61cc9a6… (all of the seat's roots in one cut). By AI agents, Wed Nov 11 2026. No macro, syntax, notation, axiom, sorry.
-/
import Derived.Test.YtmmkegapckbomaaGreatDoorChecked
import GoSem.Claim
import GoSem.ClaimJoined
import GoSem.ClaimMapViews
import Derived.JoinedTies
import Derived.KernelRfl
namespace Go.Proofs.YtmmkegapckbomaaGreatDoor
/- THE CELL 'sum', in the pinned program and in every row, IS THE sha256 OF THE DUMP (.gsa) THAT YtmmkegapckbomaaGreatDoorProg.lean LOADS. Nothing in Lean hashes anything: it is a label: what it is worth is what the hold of that sum in a sandbox is worth. -/
noncomputable def Tryz.pinned : Pinned := { name := "ytmmkegapckbomaagreatdoor", sum := "7e4a028ff61cc9a6434801a9f83371e37f6827c0b3d475996203d085f81fb8a4", checked := Tryz.checked }
namespace Rows
def none {H : Type} : Left H := { results := [], args := [] }

/- WHAT THE LISTED PACKAGE-LEVEL VARIABLES READ AS WHEN THE CALL BEGINS. Each datum BY PROGRAM (the guide's laid-datum.mjs) off the statement by which the dump's own 'gosem.cut.vars' lays the variable. In a bare row this is a premise. The card (YtmmkegapckbomaaGreatDoorCards.lean) ties it to the program's text. -/
def laid_cashbook_crc_halves {H : Type} : DataW H := .agg [.lit (.int .u32 0), .lit (.int .u32 274646895), .lit (.int .u32 549293790), .lit (.int .u32 820201905), .lit (.int .u32 1098587580), .lit (.int .u32 1361435347), .lit (.int .u32 1640403810), .lit (.int .u32 1905808397), .lit (.int .u32 2197175160), .lit (.int .u32 2460548119), .lit (.int .u32 2722870694), .lit (.int .u32 2987750089), .lit (.int .u32 3280807620), .lit (.int .u32 3553878443), .lit (.int .u32 3811616794), .lit (.int .u32 4084100981)]

/-- 'cashbooklaw27.ReserveHigh': WHATEVER THE INPUT: true; the input reads as it did. -/
def reserveHighSpec : ChangeSpec := { name := "reserveHigh", fn := fun _ => fun
  | [d1, d2, d3] => { results := [.lit (.bool true)], args := [d1, d2, d3] }
  | _ => none }
def reserveHighRow : OpenClaim := { program := "ytmmkegapckbomaagreatdoor", sum := "7e4a028ff61cc9a6434801a9f83371e37f6827c0b3d475996203d085f81fb8a4", func := "cashbook/cashbooklaw27.ReserveHigh", spec := "reserveHigh", inPlace := ["internal/bytealg.Count", "internal/bytealg.IndexByte", "internal/bytealg.Index", "internal/bytealg.Compare", "slices.overlaps[[]byte]", "slices.overlaps[uint32]", "maps.clone"], unfollowed := true, recurses := true, named := ["cashbook/crc.halves", "internal/bytealg.MaxLen"], apart := false, laid := [("cashbook/crc.halves", laid_cashbook_crc_halves)] }
def ReserveHighSaid : Prop := reserveHighRow.holds Tryz.pinned (OpenSpec.ofChange reserveHighSpec)

/-- ITS FALSE NEIGHBOUR: 'it returns false'. Refute it at one input. -/
def reserveHighWrong : ChangeSpec := { name := "reserveHigh", fn := fun _ => fun
  | [d1, d2, d3] => { results := [.lit (.bool false)], args := [d1, d2, d3] }
  | _ => none }
def ReserveHighWrongFalsely : Prop := reserveHighRow.holds Tryz.pinned (OpenSpec.ofChange reserveHighWrong)

/-- 'cashbooklaw13.CursorLists': WHATEVER THE INPUT: true; the input reads as it did. -/
def cursorListsSpec : ChangeSpec := { name := "cursorLists", fn := fun _ => fun
  | [d1, d2] => { results := [.lit (.bool true)], args := [d1, d2] }
  | _ => none }
def cursorListsRow : OpenClaim := { program := "ytmmkegapckbomaagreatdoor", sum := "7e4a028ff61cc9a6434801a9f83371e37f6827c0b3d475996203d085f81fb8a4", func := "cashbook/cashbooklaw13.CursorLists", spec := "cursorLists", inPlace := ["internal/bytealg.Count", "internal/bytealg.IndexByte", "internal/bytealg.Index", "internal/bytealg.Compare", "slices.overlaps[[]byte]", "slices.overlaps[uint32]", "maps.clone"], unfollowed := true, recurses := true, named := ["cashbook/crc.halves", "internal/bytealg.MaxLen"], apart := false, laid := [("cashbook/crc.halves", laid_cashbook_crc_halves)] }
def CursorListsSaid : Prop := cursorListsRow.holds Tryz.pinned (OpenSpec.ofChange cursorListsSpec)

/-- ITS FALSE NEIGHBOUR: 'it returns false'. Refute it at one input. -/
def cursorListsWrong : ChangeSpec := { name := "cursorLists", fn := fun _ => fun
  | [d1, d2] => { results := [.lit (.bool false)], args := [d1, d2] }
  | _ => none }
def CursorListsWrongFalsely : Prop := cursorListsRow.holds Tryz.pinned (OpenSpec.ofChange cursorListsWrong)

/-- 'cashbooklaw13.CursorSteps': WHATEVER THE INPUT: true; the input reads as it did. -/
def cursorStepsSpec : ChangeSpec := { name := "cursorSteps", fn := fun _ => fun
  | [d1, d2] => { results := [.lit (.bool true)], args := [d1, d2] }
  | _ => none }
def cursorStepsRow : OpenClaim := { program := "ytmmkegapckbomaagreatdoor", sum := "7e4a028ff61cc9a6434801a9f83371e37f6827c0b3d475996203d085f81fb8a4", func := "cashbook/cashbooklaw13.CursorSteps", spec := "cursorSteps", inPlace := ["internal/bytealg.Count", "internal/bytealg.IndexByte", "internal/bytealg.Index", "internal/bytealg.Compare", "slices.overlaps[[]byte]", "slices.overlaps[uint32]", "maps.clone"], unfollowed := true, recurses := true, named := ["cashbook/crc.halves", "internal/bytealg.MaxLen"], apart := false, laid := [("cashbook/crc.halves", laid_cashbook_crc_halves)] }
def CursorStepsSaid : Prop := cursorStepsRow.holds Tryz.pinned (OpenSpec.ofChange cursorStepsSpec)

/-- ITS FALSE NEIGHBOUR: 'it returns false'. Refute it at one input. -/
def cursorStepsWrong : ChangeSpec := { name := "cursorSteps", fn := fun _ => fun
  | [d1, d2] => { results := [.lit (.bool false)], args := [d1, d2] }
  | _ => none }
def CursorStepsWrongFalsely : Prop := cursorStepsRow.holds Tryz.pinned (OpenSpec.ofChange cursorStepsWrong)

/-- 'cashbooklaw13.CursorTurns': WHATEVER THE INPUT: true; the input reads as it did. -/
def cursorTurnsSpec : ChangeSpec := { name := "cursorTurns", fn := fun _ => fun
  | [d1, d2] => { results := [.lit (.bool true)], args := [d1, d2] }
  | _ => none }
def cursorTurnsRow : OpenClaim := { program := "ytmmkegapckbomaagreatdoor", sum := "7e4a028ff61cc9a6434801a9f83371e37f6827c0b3d475996203d085f81fb8a4", func := "cashbook/cashbooklaw13.CursorTurns", spec := "cursorTurns", inPlace := ["internal/bytealg.Count", "internal/bytealg.IndexByte", "internal/bytealg.Index", "internal/bytealg.Compare", "slices.overlaps[[]byte]", "slices.overlaps[uint32]", "maps.clone"], unfollowed := true, recurses := true, named := ["cashbook/crc.halves", "internal/bytealg.MaxLen"], apart := false, laid := [("cashbook/crc.halves", laid_cashbook_crc_halves)] }
def CursorTurnsSaid : Prop := cursorTurnsRow.holds Tryz.pinned (OpenSpec.ofChange cursorTurnsSpec)

/-- ITS FALSE NEIGHBOUR: 'it returns false'. Refute it at one input. -/
def cursorTurnsWrong : ChangeSpec := { name := "cursorTurns", fn := fun _ => fun
  | [d1, d2] => { results := [.lit (.bool false)], args := [d1, d2] }
  | _ => none }
def CursorTurnsWrongFalsely : Prop := cursorTurnsRow.holds Tryz.pinned (OpenSpec.ofChange cursorTurnsWrong)

/-- 'cashbooklaw13.CursorStops': WHATEVER THE INPUT: true; the input reads as it did. -/
def cursorStopsSpec : ChangeSpec := { name := "cursorStops", fn := fun _ => fun
  | [d1, d2] => { results := [.lit (.bool true)], args := [d1, d2] }
  | _ => none }
def cursorStopsRow : OpenClaim := { program := "ytmmkegapckbomaagreatdoor", sum := "7e4a028ff61cc9a6434801a9f83371e37f6827c0b3d475996203d085f81fb8a4", func := "cashbook/cashbooklaw13.CursorStops", spec := "cursorStops", inPlace := ["internal/bytealg.Count", "internal/bytealg.IndexByte", "internal/bytealg.Index", "internal/bytealg.Compare", "slices.overlaps[[]byte]", "slices.overlaps[uint32]", "maps.clone"], unfollowed := true, recurses := true, named := ["cashbook/crc.halves", "internal/bytealg.MaxLen"], apart := false, laid := [("cashbook/crc.halves", laid_cashbook_crc_halves)] }
def CursorStopsSaid : Prop := cursorStopsRow.holds Tryz.pinned (OpenSpec.ofChange cursorStopsSpec)

/-- ITS FALSE NEIGHBOUR: 'it returns false'. Refute it at one input. -/
def cursorStopsWrong : ChangeSpec := { name := "cursorStops", fn := fun _ => fun
  | [d1, d2] => { results := [.lit (.bool false)], args := [d1, d2] }
  | _ => none }
def CursorStopsWrongFalsely : Prop := cursorStopsRow.holds Tryz.pinned (OpenSpec.ofChange cursorStopsWrong)

/-- 'cashbooklaw12.TreeTurns': WHATEVER THE INPUT: true; the input reads as it did. -/
def treeTurnsSpec : ChangeSpec := { name := "treeTurns", fn := fun _ => fun
  | [d1, d2, d3] => { results := [.lit (.bool true)], args := [d1, d2, d3] }
  | _ => none }
def treeTurnsRow : OpenClaim := { program := "ytmmkegapckbomaagreatdoor", sum := "7e4a028ff61cc9a6434801a9f83371e37f6827c0b3d475996203d085f81fb8a4", func := "cashbook/cashbooklaw12.TreeTurns", spec := "treeTurns", inPlace := ["internal/bytealg.Count", "internal/bytealg.IndexByte", "internal/bytealg.Index", "internal/bytealg.Compare", "slices.overlaps[[]byte]", "slices.overlaps[uint32]", "maps.clone"], unfollowed := true, recurses := true, named := ["cashbook/crc.halves", "internal/bytealg.MaxLen"], apart := false, laid := [("cashbook/crc.halves", laid_cashbook_crc_halves)] }
def TreeTurnsSaid : Prop := treeTurnsRow.holds Tryz.pinned (OpenSpec.ofChange treeTurnsSpec)

/-- ITS FALSE NEIGHBOUR: 'it returns false'. Refute it at one input. -/
def treeTurnsWrong : ChangeSpec := { name := "treeTurns", fn := fun _ => fun
  | [d1, d2, d3] => { results := [.lit (.bool false)], args := [d1, d2, d3] }
  | _ => none }
def TreeTurnsWrongFalsely : Prop := treeTurnsRow.holds Tryz.pinned (OpenSpec.ofChange treeTurnsWrong)

/-- 'cashbooklaw12.TreePlays': WHATEVER THE INPUT: true; the input reads as it did. -/
def treePlaysSpec : ChangeSpec := { name := "treePlays", fn := fun _ => fun
  | [d1, d2] => { results := [.lit (.bool true)], args := [d1, d2] }
  | _ => none }
def treePlaysRow : OpenClaim := { program := "ytmmkegapckbomaagreatdoor", sum := "7e4a028ff61cc9a6434801a9f83371e37f6827c0b3d475996203d085f81fb8a4", func := "cashbook/cashbooklaw12.TreePlays", spec := "treePlays", inPlace := ["internal/bytealg.Count", "internal/bytealg.IndexByte", "internal/bytealg.Index", "internal/bytealg.Compare", "slices.overlaps[[]byte]", "slices.overlaps[uint32]", "maps.clone"], unfollowed := true, recurses := true, named := ["cashbook/crc.halves", "internal/bytealg.MaxLen"], apart := false, laid := [("cashbook/crc.halves", laid_cashbook_crc_halves)] }
def TreePlaysSaid : Prop := treePlaysRow.holds Tryz.pinned (OpenSpec.ofChange treePlaysSpec)

/-- ITS FALSE NEIGHBOUR: 'it returns false'. Refute it at one input. -/
def treePlaysWrong : ChangeSpec := { name := "treePlays", fn := fun _ => fun
  | [d1, d2] => { results := [.lit (.bool false)], args := [d1, d2] }
  | _ => none }
def TreePlaysWrongFalsely : Prop := treePlaysRow.holds Tryz.pinned (OpenSpec.ofChange treePlaysWrong)

/-- 'cashbooklaw12.TreeRoom': WHATEVER THE INPUT: true; the input reads as it did. -/
def treeRoomSpec : ChangeSpec := { name := "treeRoom", fn := fun _ => fun
  | [d1, d2] => { results := [.lit (.bool true)], args := [d1, d2] }
  | _ => none }
def treeRoomRow : OpenClaim := { program := "ytmmkegapckbomaagreatdoor", sum := "7e4a028ff61cc9a6434801a9f83371e37f6827c0b3d475996203d085f81fb8a4", func := "cashbook/cashbooklaw12.TreeRoom", spec := "treeRoom", inPlace := ["internal/bytealg.Count", "internal/bytealg.IndexByte", "internal/bytealg.Index", "internal/bytealg.Compare", "slices.overlaps[[]byte]", "slices.overlaps[uint32]", "maps.clone"], unfollowed := true, recurses := true, named := ["cashbook/crc.halves", "internal/bytealg.MaxLen"], apart := false, laid := [("cashbook/crc.halves", laid_cashbook_crc_halves)] }
def TreeRoomSaid : Prop := treeRoomRow.holds Tryz.pinned (OpenSpec.ofChange treeRoomSpec)

/-- ITS FALSE NEIGHBOUR: 'it returns false'. Refute it at one input. -/
def treeRoomWrong : ChangeSpec := { name := "treeRoom", fn := fun _ => fun
  | [d1, d2] => { results := [.lit (.bool false)], args := [d1, d2] }
  | _ => none }
def TreeRoomWrongFalsely : Prop := treeRoomRow.holds Tryz.pinned (OpenSpec.ofChange treeRoomWrong)

/-- 'cashbooklaw12.TreeShapes': WHATEVER THE INPUT: true; the input reads as it did. -/
def treeShapesSpec : ChangeSpec := { name := "treeShapes", fn := fun _ => fun
  | [d1, d2] => { results := [.lit (.bool true)], args := [d1, d2] }
  | _ => none }
def treeShapesRow : OpenClaim := { program := "ytmmkegapckbomaagreatdoor", sum := "7e4a028ff61cc9a6434801a9f83371e37f6827c0b3d475996203d085f81fb8a4", func := "cashbook/cashbooklaw12.TreeShapes", spec := "treeShapes", inPlace := ["internal/bytealg.Count", "internal/bytealg.IndexByte", "internal/bytealg.Index", "internal/bytealg.Compare", "slices.overlaps[[]byte]", "slices.overlaps[uint32]", "maps.clone"], unfollowed := true, recurses := true, named := ["cashbook/crc.halves", "internal/bytealg.MaxLen"], apart := false, laid := [("cashbook/crc.halves", laid_cashbook_crc_halves)] }
def TreeShapesSaid : Prop := treeShapesRow.holds Tryz.pinned (OpenSpec.ofChange treeShapesSpec)

/-- ITS FALSE NEIGHBOUR: 'it returns false'. Refute it at one input. -/
def treeShapesWrong : ChangeSpec := { name := "treeShapes", fn := fun _ => fun
  | [d1, d2] => { results := [.lit (.bool false)], args := [d1, d2] }
  | _ => none }
def TreeShapesWrongFalsely : Prop := treeShapesRow.holds Tryz.pinned (OpenSpec.ofChange treeShapesWrong)

/-- 'cashbooklaw12.TreeCrash': WHATEVER THE INPUT: true; the input reads as it did. -/
def treeCrashSpec : ChangeSpec := { name := "treeCrash", fn := fun _ => fun
  | [d1, d2, d3] => { results := [.lit (.bool true)], args := [d1, d2, d3] }
  | _ => none }
def treeCrashRow : OpenClaim := { program := "ytmmkegapckbomaagreatdoor", sum := "7e4a028ff61cc9a6434801a9f83371e37f6827c0b3d475996203d085f81fb8a4", func := "cashbook/cashbooklaw12.TreeCrash", spec := "treeCrash", inPlace := ["internal/bytealg.Count", "internal/bytealg.IndexByte", "internal/bytealg.Index", "internal/bytealg.Compare", "slices.overlaps[[]byte]", "slices.overlaps[uint32]", "maps.clone"], unfollowed := true, recurses := true, named := ["cashbook/crc.halves", "internal/bytealg.MaxLen"], apart := false, laid := [("cashbook/crc.halves", laid_cashbook_crc_halves)] }
def TreeCrashSaid : Prop := treeCrashRow.holds Tryz.pinned (OpenSpec.ofChange treeCrashSpec)

/-- ITS FALSE NEIGHBOUR: 'it returns false'. Refute it at one input. -/
def treeCrashWrong : ChangeSpec := { name := "treeCrash", fn := fun _ => fun
  | [d1, d2, d3] => { results := [.lit (.bool false)], args := [d1, d2, d3] }
  | _ => none }
def TreeCrashWrongFalsely : Prop := treeCrashRow.holds Tryz.pinned (OpenSpec.ofChange treeCrashWrong)

/- THE SECOND FORM. 'bulk': how many values and letters a reading holds, each counted each time it is reached (what is shared counts as often as it is met; a slice's spare places count too). A statement '..UptoSaid' is the law's where the arguments, and the package variables that the reading takes, are together of bulk at most 1048576: NARROWER than '..Said'. Prove '..Said' where nothing that the law and all that it calls make is longer than what came in: it says more and counts as full. Else prove '..UptoSaid'. A law counts once. -/
mutual
def uptoBulk {H : Type} : DataW H → Nat
  | .lit (.string bytes) => bytes.length + 1
  | .lit _ => 1
  | .nil => 1
  | .ptr d => uptoBulk d + 1
  | .slice elems spare => uptoBulkAll elems + uptoBulkAll spare + 1
  | .agg parts => uptoBulkAll parts + 1
  | .iface _ d => uptoBulk d + 1
  | .map entries => uptoBulkEntries entries + 1
  | .held _ => 1
def uptoBulkAll {H : Type} : List (DataW H) → Nat
  | [] => 0
  | d :: r => uptoBulk d + uptoBulkAll r
def uptoBulkEntries {H : Type} : List (Lit × DataW H) → Nat
  | [] => 0
  | x :: r => uptoBulkEntry x + uptoBulkEntries r
def uptoBulkEntry {H : Type} : Lit × DataW H → Nat
  | (.string bytes, d) => bytes.length + uptoBulk d + 1
  | (_, d) => uptoBulk d + 1
 end
def uptoSmall : (H : Type) → List (DataW H) → Bool := fun _ ds => decide (uptoBulkAll ds ≤ 1048576)
def OpenSpec.upto (s : _root_.Go.ChangeSpec) : _root_.Go.OpenSpec := { _root_.Go.OpenSpec.ofChange s with cond := some uptoSmall }

/-- 'cashbooklaw27.ReserveHigh', WHERE WHAT IT READS IS OF BULK AT MOST 1048576: true; the input reads as it did. -/
def reserveHighUptoRow : OpenClaim := { program := "ytmmkegapckbomaagreatdoor", sum := "7e4a028ff61cc9a6434801a9f83371e37f6827c0b3d475996203d085f81fb8a4", func := "cashbook/cashbooklaw27.ReserveHigh", spec := "reserveHigh", inPlace := ["internal/bytealg.Count", "internal/bytealg.IndexByte", "internal/bytealg.Index", "internal/bytealg.Compare", "slices.overlaps[[]byte]", "slices.overlaps[uint32]", "maps.clone"], unfollowed := true, recurses := true, named := ["cashbook/crc.halves", "internal/bytealg.MaxLen"], apart := false, laid := [("cashbook/crc.halves", laid_cashbook_crc_halves)], narrowed := true }
def ReserveHighUptoSaid : Prop := reserveHighUptoRow.holds Tryz.pinned (OpenSpec.upto reserveHighSpec)

/-- 'cashbooklaw13.CursorLists', WHERE WHAT IT READS IS OF BULK AT MOST 1048576: true; the input reads as it did. -/
def cursorListsUptoRow : OpenClaim := { program := "ytmmkegapckbomaagreatdoor", sum := "7e4a028ff61cc9a6434801a9f83371e37f6827c0b3d475996203d085f81fb8a4", func := "cashbook/cashbooklaw13.CursorLists", spec := "cursorLists", inPlace := ["internal/bytealg.Count", "internal/bytealg.IndexByte", "internal/bytealg.Index", "internal/bytealg.Compare", "slices.overlaps[[]byte]", "slices.overlaps[uint32]", "maps.clone"], unfollowed := true, recurses := true, named := ["cashbook/crc.halves", "internal/bytealg.MaxLen"], apart := false, laid := [("cashbook/crc.halves", laid_cashbook_crc_halves)], narrowed := true }
def CursorListsUptoSaid : Prop := cursorListsUptoRow.holds Tryz.pinned (OpenSpec.upto cursorListsSpec)

/-- 'cashbooklaw13.CursorSteps', WHERE WHAT IT READS IS OF BULK AT MOST 1048576: true; the input reads as it did. -/
def cursorStepsUptoRow : OpenClaim := { program := "ytmmkegapckbomaagreatdoor", sum := "7e4a028ff61cc9a6434801a9f83371e37f6827c0b3d475996203d085f81fb8a4", func := "cashbook/cashbooklaw13.CursorSteps", spec := "cursorSteps", inPlace := ["internal/bytealg.Count", "internal/bytealg.IndexByte", "internal/bytealg.Index", "internal/bytealg.Compare", "slices.overlaps[[]byte]", "slices.overlaps[uint32]", "maps.clone"], unfollowed := true, recurses := true, named := ["cashbook/crc.halves", "internal/bytealg.MaxLen"], apart := false, laid := [("cashbook/crc.halves", laid_cashbook_crc_halves)], narrowed := true }
def CursorStepsUptoSaid : Prop := cursorStepsUptoRow.holds Tryz.pinned (OpenSpec.upto cursorStepsSpec)

/-- 'cashbooklaw13.CursorTurns', WHERE WHAT IT READS IS OF BULK AT MOST 1048576: true; the input reads as it did. -/
def cursorTurnsUptoRow : OpenClaim := { program := "ytmmkegapckbomaagreatdoor", sum := "7e4a028ff61cc9a6434801a9f83371e37f6827c0b3d475996203d085f81fb8a4", func := "cashbook/cashbooklaw13.CursorTurns", spec := "cursorTurns", inPlace := ["internal/bytealg.Count", "internal/bytealg.IndexByte", "internal/bytealg.Index", "internal/bytealg.Compare", "slices.overlaps[[]byte]", "slices.overlaps[uint32]", "maps.clone"], unfollowed := true, recurses := true, named := ["cashbook/crc.halves", "internal/bytealg.MaxLen"], apart := false, laid := [("cashbook/crc.halves", laid_cashbook_crc_halves)], narrowed := true }
def CursorTurnsUptoSaid : Prop := cursorTurnsUptoRow.holds Tryz.pinned (OpenSpec.upto cursorTurnsSpec)

/-- 'cashbooklaw13.CursorStops', WHERE WHAT IT READS IS OF BULK AT MOST 1048576: true; the input reads as it did. -/
def cursorStopsUptoRow : OpenClaim := { program := "ytmmkegapckbomaagreatdoor", sum := "7e4a028ff61cc9a6434801a9f83371e37f6827c0b3d475996203d085f81fb8a4", func := "cashbook/cashbooklaw13.CursorStops", spec := "cursorStops", inPlace := ["internal/bytealg.Count", "internal/bytealg.IndexByte", "internal/bytealg.Index", "internal/bytealg.Compare", "slices.overlaps[[]byte]", "slices.overlaps[uint32]", "maps.clone"], unfollowed := true, recurses := true, named := ["cashbook/crc.halves", "internal/bytealg.MaxLen"], apart := false, laid := [("cashbook/crc.halves", laid_cashbook_crc_halves)], narrowed := true }
def CursorStopsUptoSaid : Prop := cursorStopsUptoRow.holds Tryz.pinned (OpenSpec.upto cursorStopsSpec)

/-- 'cashbooklaw12.TreeTurns', WHERE WHAT IT READS IS OF BULK AT MOST 1048576: true; the input reads as it did. -/
def treeTurnsUptoRow : OpenClaim := { program := "ytmmkegapckbomaagreatdoor", sum := "7e4a028ff61cc9a6434801a9f83371e37f6827c0b3d475996203d085f81fb8a4", func := "cashbook/cashbooklaw12.TreeTurns", spec := "treeTurns", inPlace := ["internal/bytealg.Count", "internal/bytealg.IndexByte", "internal/bytealg.Index", "internal/bytealg.Compare", "slices.overlaps[[]byte]", "slices.overlaps[uint32]", "maps.clone"], unfollowed := true, recurses := true, named := ["cashbook/crc.halves", "internal/bytealg.MaxLen"], apart := false, laid := [("cashbook/crc.halves", laid_cashbook_crc_halves)], narrowed := true }
def TreeTurnsUptoSaid : Prop := treeTurnsUptoRow.holds Tryz.pinned (OpenSpec.upto treeTurnsSpec)

/-- 'cashbooklaw12.TreePlays', WHERE WHAT IT READS IS OF BULK AT MOST 1048576: true; the input reads as it did. -/
def treePlaysUptoRow : OpenClaim := { program := "ytmmkegapckbomaagreatdoor", sum := "7e4a028ff61cc9a6434801a9f83371e37f6827c0b3d475996203d085f81fb8a4", func := "cashbook/cashbooklaw12.TreePlays", spec := "treePlays", inPlace := ["internal/bytealg.Count", "internal/bytealg.IndexByte", "internal/bytealg.Index", "internal/bytealg.Compare", "slices.overlaps[[]byte]", "slices.overlaps[uint32]", "maps.clone"], unfollowed := true, recurses := true, named := ["cashbook/crc.halves", "internal/bytealg.MaxLen"], apart := false, laid := [("cashbook/crc.halves", laid_cashbook_crc_halves)], narrowed := true }
def TreePlaysUptoSaid : Prop := treePlaysUptoRow.holds Tryz.pinned (OpenSpec.upto treePlaysSpec)

/-- 'cashbooklaw12.TreeRoom', WHERE WHAT IT READS IS OF BULK AT MOST 1048576: true; the input reads as it did. -/
def treeRoomUptoRow : OpenClaim := { program := "ytmmkegapckbomaagreatdoor", sum := "7e4a028ff61cc9a6434801a9f83371e37f6827c0b3d475996203d085f81fb8a4", func := "cashbook/cashbooklaw12.TreeRoom", spec := "treeRoom", inPlace := ["internal/bytealg.Count", "internal/bytealg.IndexByte", "internal/bytealg.Index", "internal/bytealg.Compare", "slices.overlaps[[]byte]", "slices.overlaps[uint32]", "maps.clone"], unfollowed := true, recurses := true, named := ["cashbook/crc.halves", "internal/bytealg.MaxLen"], apart := false, laid := [("cashbook/crc.halves", laid_cashbook_crc_halves)], narrowed := true }
def TreeRoomUptoSaid : Prop := treeRoomUptoRow.holds Tryz.pinned (OpenSpec.upto treeRoomSpec)

/-- 'cashbooklaw12.TreeShapes', WHERE WHAT IT READS IS OF BULK AT MOST 1048576: true; the input reads as it did. -/
def treeShapesUptoRow : OpenClaim := { program := "ytmmkegapckbomaagreatdoor", sum := "7e4a028ff61cc9a6434801a9f83371e37f6827c0b3d475996203d085f81fb8a4", func := "cashbook/cashbooklaw12.TreeShapes", spec := "treeShapes", inPlace := ["internal/bytealg.Count", "internal/bytealg.IndexByte", "internal/bytealg.Index", "internal/bytealg.Compare", "slices.overlaps[[]byte]", "slices.overlaps[uint32]", "maps.clone"], unfollowed := true, recurses := true, named := ["cashbook/crc.halves", "internal/bytealg.MaxLen"], apart := false, laid := [("cashbook/crc.halves", laid_cashbook_crc_halves)], narrowed := true }
def TreeShapesUptoSaid : Prop := treeShapesUptoRow.holds Tryz.pinned (OpenSpec.upto treeShapesSpec)

/-- 'cashbooklaw12.TreeCrash', WHERE WHAT IT READS IS OF BULK AT MOST 1048576: true; the input reads as it did. -/
def treeCrashUptoRow : OpenClaim := { program := "ytmmkegapckbomaagreatdoor", sum := "7e4a028ff61cc9a6434801a9f83371e37f6827c0b3d475996203d085f81fb8a4", func := "cashbook/cashbooklaw12.TreeCrash", spec := "treeCrash", inPlace := ["internal/bytealg.Count", "internal/bytealg.IndexByte", "internal/bytealg.Index", "internal/bytealg.Compare", "slices.overlaps[[]byte]", "slices.overlaps[uint32]", "maps.clone"], unfollowed := true, recurses := true, named := ["cashbook/crc.halves", "internal/bytealg.MaxLen"], apart := false, laid := [("cashbook/crc.halves", laid_cashbook_crc_halves)], narrowed := true }
def TreeCrashUptoSaid : Prop := treeCrashUptoRow.holds Tryz.pinned (OpenSpec.upto treeCrashSpec)

end Rows
end Go.Proofs.YtmmkegapckbomaaGreatDoor
