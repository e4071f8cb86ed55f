/-
  NARROWER THAN 'FOR EVERY INPUT', by the rows' own cells (each row's printed sentence says how): StoreDue: laid · StoreMoves: laid · StoreRows: laid · StoreAgain: laid · StoreKeeps: laid.
  DERIVED. THE GIVEN ROWS OF THIS SEAT. 5 by the template 'for every input the law returns true; each argument reads behind the call as it read before'; 0 by the template 'total and deterministic' (their statements: YtpcmehldpoljfaaGreatDoorTotals.lean).
  GIVEN WITH THE SEED: the statements are not yours to turn. If you find one false, say at which input.
  Laid BY PROGRAM, IN A SANDBOX (cutbox-rows.mjs): the forced cells as the released guide's own fill.sh prints them over the translation 316f65c4cb17d118… (all of the seat's roots in one cut). By AI agents, Wed Nov 11 2026. No macro, syntax, notation, axiom, sorry.
-/
import Derived.Test.YtpcmehldpoljfaaGreatDoorChecked
import GoSem.Claim
import GoSem.ClaimJoined
import GoSem.ClaimMapViews
import Derived.JoinedTies
import Derived.KernelRfl
namespace Go.Proofs.YtpcmehldpoljfaaGreatDoor
/- THE CELL 'sum', in the pinned program and in every row, IS THE sha256 OF THE DUMP (.gsa) THAT YtpcmehldpoljfaaGreatDoorProg.lean LOADS. Nothing in Lean hashes anything: it is a label: what it is worth is what the hold of that sum in a sandbox is worth. -/
noncomputable def Tryz.pinned : Pinned := { name := "ytpcmehldpoljfaagreatdoor", sum := "316f65c4cb17d11885e862b7715c84a31617030ee341075299d5a98fc2cac217", checked := Tryz.checked }
namespace Rows
def none {H : Type} : Left H := { results := [], args := [] }

/- WHAT THE LISTED PACKAGE-LEVEL VARIABLES READ AS WHEN THE CALL BEGINS. Each datum BY PROGRAM (the guide's laid-datum.mjs) off the statement by which the dump's own 'gosem.cut.vars' lays the variable. In a bare row this is a premise. The card (YtpcmehldpoljfaaGreatDoorCards.lean) ties it to the program's text. -/
def laid_cashbook_crc_halves {H : Type} : DataW H := .agg [.lit (.int .u32 0), .lit (.int .u32 274646895), .lit (.int .u32 549293790), .lit (.int .u32 820201905), .lit (.int .u32 1098587580), .lit (.int .u32 1361435347), .lit (.int .u32 1640403810), .lit (.int .u32 1905808397), .lit (.int .u32 2197175160), .lit (.int .u32 2460548119), .lit (.int .u32 2722870694), .lit (.int .u32 2987750089), .lit (.int .u32 3280807620), .lit (.int .u32 3553878443), .lit (.int .u32 3811616794), .lit (.int .u32 4084100981)]

/-- 'cashbooklaw16.StoreDue': WHATEVER THE INPUT: true; the input reads as it did. -/
def storeDueSpec : ChangeSpec := { name := "storeDue", fn := fun _ => fun
  | [d1, d2, d3] => { results := [.lit (.bool true)], args := [d1, d2, d3] }
  | _ => none }
def storeDueRow : OpenClaim := { program := "ytpcmehldpoljfaagreatdoor", sum := "316f65c4cb17d11885e862b7715c84a31617030ee341075299d5a98fc2cac217", func := "cashbook/cashbooklaw16.StoreDue", spec := "storeDue", inPlace := ["internal/bytealg.Count", "internal/bytealg.IndexByte", "internal/bytealg.Index", "internal/bytealg.Compare", "slices.overlaps[[]byte]", "slices.overlaps[uint32]", "maps.clone"], unfollowed := true, recurses := true, named := ["cashbook/crc.halves", "internal/bytealg.MaxLen"], apart := false, laid := [("cashbook/crc.halves", laid_cashbook_crc_halves)] }
def StoreDueSaid : Prop := storeDueRow.holds Tryz.pinned (OpenSpec.ofChange storeDueSpec)

/-- ITS FALSE NEIGHBOUR: 'it returns false'. Refute it at one input. -/
def storeDueWrong : ChangeSpec := { name := "storeDue", fn := fun _ => fun
  | [d1, d2, d3] => { results := [.lit (.bool false)], args := [d1, d2, d3] }
  | _ => none }
def StoreDueWrongFalsely : Prop := storeDueRow.holds Tryz.pinned (OpenSpec.ofChange storeDueWrong)

/-- 'cashbooklaw16.StoreMoves': WHATEVER THE INPUT: true; the input reads as it did. -/
def storeMovesSpec : ChangeSpec := { name := "storeMoves", fn := fun _ => fun
  | [d1, d2] => { results := [.lit (.bool true)], args := [d1, d2] }
  | _ => none }
def storeMovesRow : OpenClaim := { program := "ytpcmehldpoljfaagreatdoor", sum := "316f65c4cb17d11885e862b7715c84a31617030ee341075299d5a98fc2cac217", func := "cashbook/cashbooklaw16.StoreMoves", spec := "storeMoves", inPlace := ["internal/bytealg.Count", "internal/bytealg.IndexByte", "internal/bytealg.Index", "internal/bytealg.Compare", "slices.overlaps[[]byte]", "slices.overlaps[uint32]", "maps.clone"], unfollowed := true, recurses := true, named := ["cashbook/crc.halves", "internal/bytealg.MaxLen"], apart := false, laid := [("cashbook/crc.halves", laid_cashbook_crc_halves)] }
def StoreMovesSaid : Prop := storeMovesRow.holds Tryz.pinned (OpenSpec.ofChange storeMovesSpec)

/-- ITS FALSE NEIGHBOUR: 'it returns false'. Refute it at one input. -/
def storeMovesWrong : ChangeSpec := { name := "storeMoves", fn := fun _ => fun
  | [d1, d2] => { results := [.lit (.bool false)], args := [d1, d2] }
  | _ => none }
def StoreMovesWrongFalsely : Prop := storeMovesRow.holds Tryz.pinned (OpenSpec.ofChange storeMovesWrong)

/-- 'cashbooklaw16.StoreRows': WHATEVER THE INPUT: true; the input reads as it did. -/
def storeRowsSpec : ChangeSpec := { name := "storeRows", fn := fun _ => fun
  | [d1, d2] => { results := [.lit (.bool true)], args := [d1, d2] }
  | _ => none }
def storeRowsRow : OpenClaim := { program := "ytpcmehldpoljfaagreatdoor", sum := "316f65c4cb17d11885e862b7715c84a31617030ee341075299d5a98fc2cac217", func := "cashbook/cashbooklaw16.StoreRows", spec := "storeRows", inPlace := ["internal/bytealg.Count", "internal/bytealg.IndexByte", "internal/bytealg.Index", "internal/bytealg.Compare", "slices.overlaps[[]byte]", "slices.overlaps[uint32]", "maps.clone"], unfollowed := true, recurses := true, named := ["cashbook/crc.halves", "internal/bytealg.MaxLen"], apart := false, laid := [("cashbook/crc.halves", laid_cashbook_crc_halves)] }
def StoreRowsSaid : Prop := storeRowsRow.holds Tryz.pinned (OpenSpec.ofChange storeRowsSpec)

/-- ITS FALSE NEIGHBOUR: 'it returns false'. Refute it at one input. -/
def storeRowsWrong : ChangeSpec := { name := "storeRows", fn := fun _ => fun
  | [d1, d2] => { results := [.lit (.bool false)], args := [d1, d2] }
  | _ => none }
def StoreRowsWrongFalsely : Prop := storeRowsRow.holds Tryz.pinned (OpenSpec.ofChange storeRowsWrong)

/-- 'cashbooklaw16.StoreAgain': WHATEVER THE INPUT: true; the input reads as it did. -/
def storeAgainSpec : ChangeSpec := { name := "storeAgain", fn := fun _ => fun
  | [d] => { results := [.lit (.bool true)], args := [d] }
  | _ => none }
def storeAgainRow : OpenClaim := { program := "ytpcmehldpoljfaagreatdoor", sum := "316f65c4cb17d11885e862b7715c84a31617030ee341075299d5a98fc2cac217", func := "cashbook/cashbooklaw16.StoreAgain", spec := "storeAgain", inPlace := ["internal/bytealg.Count", "internal/bytealg.IndexByte", "internal/bytealg.Index", "internal/bytealg.Compare", "slices.overlaps[[]byte]", "slices.overlaps[uint32]", "maps.clone"], unfollowed := true, recurses := true, named := ["cashbook/crc.halves", "internal/bytealg.MaxLen"], apart := false, laid := [("cashbook/crc.halves", laid_cashbook_crc_halves)] }
def StoreAgainSaid : Prop := storeAgainRow.holds Tryz.pinned (OpenSpec.ofChange storeAgainSpec)

/-- ITS FALSE NEIGHBOUR: 'it returns false'. Refute it at one input. -/
def storeAgainWrong : ChangeSpec := { name := "storeAgain", fn := fun _ => fun
  | [d] => { results := [.lit (.bool false)], args := [d] }
  | _ => none }
def StoreAgainWrongFalsely : Prop := storeAgainRow.holds Tryz.pinned (OpenSpec.ofChange storeAgainWrong)

/-- 'cashbooklaw16.StoreKeeps': WHATEVER THE INPUT: true; the input reads as it did. -/
def storeKeepsSpec : ChangeSpec := { name := "storeKeeps", fn := fun _ => fun
  | [d1, d2] => { results := [.lit (.bool true)], args := [d1, d2] }
  | _ => none }
def storeKeepsRow : OpenClaim := { program := "ytpcmehldpoljfaagreatdoor", sum := "316f65c4cb17d11885e862b7715c84a31617030ee341075299d5a98fc2cac217", func := "cashbook/cashbooklaw16.StoreKeeps", spec := "storeKeeps", inPlace := ["internal/bytealg.Count", "internal/bytealg.IndexByte", "internal/bytealg.Index", "internal/bytealg.Compare", "slices.overlaps[[]byte]", "slices.overlaps[uint32]", "maps.clone"], unfollowed := true, recurses := true, named := ["cashbook/crc.halves", "internal/bytealg.MaxLen"], apart := false, laid := [("cashbook/crc.halves", laid_cashbook_crc_halves)] }
def StoreKeepsSaid : Prop := storeKeepsRow.holds Tryz.pinned (OpenSpec.ofChange storeKeepsSpec)

/-- ITS FALSE NEIGHBOUR: 'it returns false'. Refute it at one input. -/
def storeKeepsWrong : ChangeSpec := { name := "storeKeeps", fn := fun _ => fun
  | [d1, d2] => { results := [.lit (.bool false)], args := [d1, d2] }
  | _ => none }
def StoreKeepsWrongFalsely : Prop := storeKeepsRow.holds Tryz.pinned (OpenSpec.ofChange storeKeepsWrong)

/- THE SECOND FORM. 'bulk': how many values and letters a reading holds, each counted each time it is reached (what is shared counts as often as it is met; a slice's spare places count too). A statement '..UptoSaid' is the law's where the arguments, and the package variables that the reading takes, are together of bulk at most 1048576: NARROWER than '..Said'. Prove '..Said' where nothing that the law and all that it calls make is longer than what came in: it says more and counts as full. Else prove '..UptoSaid'. A law counts once. -/
mutual
def uptoBulk {H : Type} : DataW H → Nat
  | .lit (.string bytes) => bytes.length + 1
  | .lit _ => 1
  | .nil => 1
  | .ptr d => uptoBulk d + 1
  | .slice elems spare => uptoBulkAll elems + uptoBulkAll spare + 1
  | .agg parts => uptoBulkAll parts + 1
  | .iface _ d => uptoBulk d + 1
  | .map entries => uptoBulkEntries entries + 1
  | .held _ => 1
def uptoBulkAll {H : Type} : List (DataW H) → Nat
  | [] => 0
  | d :: r => uptoBulk d + uptoBulkAll r
def uptoBulkEntries {H : Type} : List (Lit × DataW H) → Nat
  | [] => 0
  | x :: r => uptoBulkEntry x + uptoBulkEntries r
def uptoBulkEntry {H : Type} : Lit × DataW H → Nat
  | (.string bytes, d) => bytes.length + uptoBulk d + 1
  | (_, d) => uptoBulk d + 1
 end
def uptoSmall : (H : Type) → List (DataW H) → Bool := fun _ ds => decide (uptoBulkAll ds ≤ 1048576)
def OpenSpec.upto (s : _root_.Go.ChangeSpec) : _root_.Go.OpenSpec := { _root_.Go.OpenSpec.ofChange s with cond := some uptoSmall }

/-- 'cashbooklaw16.StoreDue', WHERE WHAT IT READS IS OF BULK AT MOST 1048576: true; the input reads as it did. -/
def storeDueUptoRow : OpenClaim := { program := "ytpcmehldpoljfaagreatdoor", sum := "316f65c4cb17d11885e862b7715c84a31617030ee341075299d5a98fc2cac217", func := "cashbook/cashbooklaw16.StoreDue", spec := "storeDue", inPlace := ["internal/bytealg.Count", "internal/bytealg.IndexByte", "internal/bytealg.Index", "internal/bytealg.Compare", "slices.overlaps[[]byte]", "slices.overlaps[uint32]", "maps.clone"], unfollowed := true, recurses := true, named := ["cashbook/crc.halves", "internal/bytealg.MaxLen"], apart := false, laid := [("cashbook/crc.halves", laid_cashbook_crc_halves)], narrowed := true }
def StoreDueUptoSaid : Prop := storeDueUptoRow.holds Tryz.pinned (OpenSpec.upto storeDueSpec)

/-- 'cashbooklaw16.StoreMoves', WHERE WHAT IT READS IS OF BULK AT MOST 1048576: true; the input reads as it did. -/
def storeMovesUptoRow : OpenClaim := { program := "ytpcmehldpoljfaagreatdoor", sum := "316f65c4cb17d11885e862b7715c84a31617030ee341075299d5a98fc2cac217", func := "cashbook/cashbooklaw16.StoreMoves", spec := "storeMoves", inPlace := ["internal/bytealg.Count", "internal/bytealg.IndexByte", "internal/bytealg.Index", "internal/bytealg.Compare", "slices.overlaps[[]byte]", "slices.overlaps[uint32]", "maps.clone"], unfollowed := true, recurses := true, named := ["cashbook/crc.halves", "internal/bytealg.MaxLen"], apart := false, laid := [("cashbook/crc.halves", laid_cashbook_crc_halves)], narrowed := true }
def StoreMovesUptoSaid : Prop := storeMovesUptoRow.holds Tryz.pinned (OpenSpec.upto storeMovesSpec)

/-- 'cashbooklaw16.StoreRows', WHERE WHAT IT READS IS OF BULK AT MOST 1048576: true; the input reads as it did. -/
def storeRowsUptoRow : OpenClaim := { program := "ytpcmehldpoljfaagreatdoor", sum := "316f65c4cb17d11885e862b7715c84a31617030ee341075299d5a98fc2cac217", func := "cashbook/cashbooklaw16.StoreRows", spec := "storeRows", inPlace := ["internal/bytealg.Count", "internal/bytealg.IndexByte", "internal/bytealg.Index", "internal/bytealg.Compare", "slices.overlaps[[]byte]", "slices.overlaps[uint32]", "maps.clone"], unfollowed := true, recurses := true, named := ["cashbook/crc.halves", "internal/bytealg.MaxLen"], apart := false, laid := [("cashbook/crc.halves", laid_cashbook_crc_halves)], narrowed := true }
def StoreRowsUptoSaid : Prop := storeRowsUptoRow.holds Tryz.pinned (OpenSpec.upto storeRowsSpec)

/-- 'cashbooklaw16.StoreAgain', WHERE WHAT IT READS IS OF BULK AT MOST 1048576: true; the input reads as it did. -/
def storeAgainUptoRow : OpenClaim := { program := "ytpcmehldpoljfaagreatdoor", sum := "316f65c4cb17d11885e862b7715c84a31617030ee341075299d5a98fc2cac217", func := "cashbook/cashbooklaw16.StoreAgain", spec := "storeAgain", inPlace := ["internal/bytealg.Count", "internal/bytealg.IndexByte", "internal/bytealg.Index", "internal/bytealg.Compare", "slices.overlaps[[]byte]", "slices.overlaps[uint32]", "maps.clone"], unfollowed := true, recurses := true, named := ["cashbook/crc.halves", "internal/bytealg.MaxLen"], apart := false, laid := [("cashbook/crc.halves", laid_cashbook_crc_halves)], narrowed := true }
def StoreAgainUptoSaid : Prop := storeAgainUptoRow.holds Tryz.pinned (OpenSpec.upto storeAgainSpec)

/-- 'cashbooklaw16.StoreKeeps', WHERE WHAT IT READS IS OF BULK AT MOST 1048576: true; the input reads as it did. -/
def storeKeepsUptoRow : OpenClaim := { program := "ytpcmehldpoljfaagreatdoor", sum := "316f65c4cb17d11885e862b7715c84a31617030ee341075299d5a98fc2cac217", func := "cashbook/cashbooklaw16.StoreKeeps", spec := "storeKeeps", inPlace := ["internal/bytealg.Count", "internal/bytealg.IndexByte", "internal/bytealg.Index", "internal/bytealg.Compare", "slices.overlaps[[]byte]", "slices.overlaps[uint32]", "maps.clone"], unfollowed := true, recurses := true, named := ["cashbook/crc.halves", "internal/bytealg.MaxLen"], apart := false, laid := [("cashbook/crc.halves", laid_cashbook_crc_halves)], narrowed := true }
def StoreKeepsUptoSaid : Prop := storeKeepsUptoRow.holds Tryz.pinned (OpenSpec.upto storeKeepsSpec)

end Rows
end Go.Proofs.YtpcmehldpoljfaaGreatDoor
