/-
  NARROWER THAN 'FOR EVERY INPUT', by the rows' own cells (each row's printed sentence says how): ExpiryOnce: laid · ExpiryBack: laid · ExpiryPulses: laid · ExpiryKeeps: laid.
  DERIVED. THE GIVEN ROWS OF THIS SEAT. 4 by the template 'for every input the law returns true; each argument reads behind the call as it read before'; 0 by the template 'total and deterministic' (their statements: YtfneoijhmknlnaaGreatDoorTotals.lean).
  GIVEN WITH THE SEED: the statements are not yours to turn. If you find one false, say at which input.
  Laid BY PROGRAM, IN A SANDBOX (cutbox-rows.mjs): the forced cells as the released guide's own fill.sh prints them over the translation 0b0266898f4fcc6c… (all of the seat's roots in one cut). By AI agents, Wed Nov 11 2026. No macro, syntax, notation, axiom, sorry.
-/
import Derived.Test.YtfneoijhmknlnaaGreatDoorChecked
import GoSem.Claim
import GoSem.ClaimJoined
import GoSem.ClaimMapViews
import Derived.JoinedTies
import Derived.KernelRfl
namespace Go.Proofs.YtfneoijhmknlnaaGreatDoor
/- THE CELL 'sum', in the pinned program and in every row, IS THE sha256 OF THE DUMP (.gsa) THAT YtfneoijhmknlnaaGreatDoorProg.lean LOADS. Nothing in Lean hashes anything: it is a label: what it is worth is what the hold of that sum in a sandbox is worth. -/
noncomputable def Tryz.pinned : Pinned := { name := "ytfneoijhmknlnaagreatdoor", sum := "0b0266898f4fcc6ca856eb0176579a0d7c3f65cb857fb02859cf0442d66b0a63", checked := Tryz.checked }
namespace Rows
def none {H : Type} : Left H := { results := [], args := [] }

/- WHAT THE LISTED PACKAGE-LEVEL VARIABLES READ AS WHEN THE CALL BEGINS. Each datum BY PROGRAM (the guide's laid-datum.mjs) off the statement by which the dump's own 'gosem.cut.vars' lays the variable. In a bare row this is a premise. The card (YtfneoijhmknlnaaGreatDoorCards.lean) ties it to the program's text. -/
def laid_cashbook_crc_halves {H : Type} : DataW H := .agg [.lit (.int .u32 0), .lit (.int .u32 274646895), .lit (.int .u32 549293790), .lit (.int .u32 820201905), .lit (.int .u32 1098587580), .lit (.int .u32 1361435347), .lit (.int .u32 1640403810), .lit (.int .u32 1905808397), .lit (.int .u32 2197175160), .lit (.int .u32 2460548119), .lit (.int .u32 2722870694), .lit (.int .u32 2987750089), .lit (.int .u32 3280807620), .lit (.int .u32 3553878443), .lit (.int .u32 3811616794), .lit (.int .u32 4084100981)]

/-- 'cashbooklaw22.ExpiryOnce': WHATEVER THE INPUT: true; the input reads as it did. -/
def expiryOnceSpec : ChangeSpec := { name := "expiryOnce", fn := fun _ => fun
  | [d1, d2, d3] => { results := [.lit (.bool true)], args := [d1, d2, d3] }
  | _ => none }
def expiryOnceRow : OpenClaim := { program := "ytfneoijhmknlnaagreatdoor", sum := "0b0266898f4fcc6ca856eb0176579a0d7c3f65cb857fb02859cf0442d66b0a63", func := "cashbook/cashbooklaw22.ExpiryOnce", spec := "expiryOnce", inPlace := ["internal/bytealg.Count", "internal/bytealg.IndexByte", "internal/bytealg.Index", "internal/bytealg.Compare", "slices.overlaps[[]byte]", "slices.overlaps[uint32]", "maps.clone", "math/bits.Sub64", "math/bits.Add64"], unfollowed := true, recurses := true, named := ["cashbook/crc.halves", "internal/bytealg.MaxLen"], apart := false, laid := [("cashbook/crc.halves", laid_cashbook_crc_halves)] }
def ExpiryOnceSaid : Prop := expiryOnceRow.holds Tryz.pinned (OpenSpec.ofChange expiryOnceSpec)

/-- ITS FALSE NEIGHBOUR: 'it returns false'. Refute it at one input. -/
def expiryOnceWrong : ChangeSpec := { name := "expiryOnce", fn := fun _ => fun
  | [d1, d2, d3] => { results := [.lit (.bool false)], args := [d1, d2, d3] }
  | _ => none }
def ExpiryOnceWrongFalsely : Prop := expiryOnceRow.holds Tryz.pinned (OpenSpec.ofChange expiryOnceWrong)

/-- 'cashbooklaw22.ExpiryBack': WHATEVER THE INPUT: true; the input reads as it did. -/
def expiryBackSpec : ChangeSpec := { name := "expiryBack", fn := fun _ => fun
  | [d1, d2] => { results := [.lit (.bool true)], args := [d1, d2] }
  | _ => none }
def expiryBackRow : OpenClaim := { program := "ytfneoijhmknlnaagreatdoor", sum := "0b0266898f4fcc6ca856eb0176579a0d7c3f65cb857fb02859cf0442d66b0a63", func := "cashbook/cashbooklaw22.ExpiryBack", spec := "expiryBack", inPlace := ["internal/bytealg.Count", "internal/bytealg.IndexByte", "internal/bytealg.Index", "internal/bytealg.Compare", "slices.overlaps[[]byte]", "slices.overlaps[uint32]", "maps.clone", "math/bits.Sub64", "math/bits.Add64"], unfollowed := true, recurses := true, named := ["cashbook/crc.halves", "internal/bytealg.MaxLen"], apart := false, laid := [("cashbook/crc.halves", laid_cashbook_crc_halves)] }
def ExpiryBackSaid : Prop := expiryBackRow.holds Tryz.pinned (OpenSpec.ofChange expiryBackSpec)

/-- ITS FALSE NEIGHBOUR: 'it returns false'. Refute it at one input. -/
def expiryBackWrong : ChangeSpec := { name := "expiryBack", fn := fun _ => fun
  | [d1, d2] => { results := [.lit (.bool false)], args := [d1, d2] }
  | _ => none }
def ExpiryBackWrongFalsely : Prop := expiryBackRow.holds Tryz.pinned (OpenSpec.ofChange expiryBackWrong)

/-- 'cashbooklaw22.ExpiryPulses': WHATEVER THE INPUT: true; the input reads as it did. -/
def expiryPulsesSpec : ChangeSpec := { name := "expiryPulses", fn := fun _ => fun
  | [d1, d2, d3] => { results := [.lit (.bool true)], args := [d1, d2, d3] }
  | _ => none }
def expiryPulsesRow : OpenClaim := { program := "ytfneoijhmknlnaagreatdoor", sum := "0b0266898f4fcc6ca856eb0176579a0d7c3f65cb857fb02859cf0442d66b0a63", func := "cashbook/cashbooklaw22.ExpiryPulses", spec := "expiryPulses", inPlace := ["internal/bytealg.Count", "internal/bytealg.IndexByte", "internal/bytealg.Index", "internal/bytealg.Compare", "slices.overlaps[[]byte]", "slices.overlaps[uint32]", "maps.clone", "math/bits.Sub64", "math/bits.Add64"], unfollowed := true, recurses := true, named := ["cashbook/crc.halves", "internal/bytealg.MaxLen"], apart := false, laid := [("cashbook/crc.halves", laid_cashbook_crc_halves)] }
def ExpiryPulsesSaid : Prop := expiryPulsesRow.holds Tryz.pinned (OpenSpec.ofChange expiryPulsesSpec)

/-- ITS FALSE NEIGHBOUR: 'it returns false'. Refute it at one input. -/
def expiryPulsesWrong : ChangeSpec := { name := "expiryPulses", fn := fun _ => fun
  | [d1, d2, d3] => { results := [.lit (.bool false)], args := [d1, d2, d3] }
  | _ => none }
def ExpiryPulsesWrongFalsely : Prop := expiryPulsesRow.holds Tryz.pinned (OpenSpec.ofChange expiryPulsesWrong)

/-- 'cashbooklaw22.ExpiryKeeps': WHATEVER THE INPUT: true; the input reads as it did. -/
def expiryKeepsSpec : ChangeSpec := { name := "expiryKeeps", fn := fun _ => fun
  | [d1, d2] => { results := [.lit (.bool true)], args := [d1, d2] }
  | _ => none }
def expiryKeepsRow : OpenClaim := { program := "ytfneoijhmknlnaagreatdoor", sum := "0b0266898f4fcc6ca856eb0176579a0d7c3f65cb857fb02859cf0442d66b0a63", func := "cashbook/cashbooklaw22.ExpiryKeeps", spec := "expiryKeeps", inPlace := ["internal/bytealg.Count", "internal/bytealg.IndexByte", "internal/bytealg.Index", "internal/bytealg.Compare", "slices.overlaps[[]byte]", "slices.overlaps[uint32]", "maps.clone", "math/bits.Sub64", "math/bits.Add64"], unfollowed := true, recurses := true, named := ["cashbook/crc.halves", "internal/bytealg.MaxLen"], apart := false, laid := [("cashbook/crc.halves", laid_cashbook_crc_halves)] }
def ExpiryKeepsSaid : Prop := expiryKeepsRow.holds Tryz.pinned (OpenSpec.ofChange expiryKeepsSpec)

/-- ITS FALSE NEIGHBOUR: 'it returns false'. Refute it at one input. -/
def expiryKeepsWrong : ChangeSpec := { name := "expiryKeeps", fn := fun _ => fun
  | [d1, d2] => { results := [.lit (.bool false)], args := [d1, d2] }
  | _ => none }
def ExpiryKeepsWrongFalsely : Prop := expiryKeepsRow.holds Tryz.pinned (OpenSpec.ofChange expiryKeepsWrong)

/- THE SECOND FORM. 'bulk': how many values and letters a reading holds, each counted each time it is reached (what is shared counts as often as it is met; a slice's spare places count too). A statement '..UptoSaid' is the law's where the arguments, and the package variables that the reading takes, are together of bulk at most 1048576: NARROWER than '..Said'. Prove '..Said' where nothing that the law and all that it calls make is longer than what came in: it says more and counts as full. Else prove '..UptoSaid'. A law counts once. -/
mutual
def uptoBulk {H : Type} : DataW H → Nat
  | .lit (.string bytes) => bytes.length + 1
  | .lit _ => 1
  | .nil => 1
  | .ptr d => uptoBulk d + 1
  | .slice elems spare => uptoBulkAll elems + uptoBulkAll spare + 1
  | .agg parts => uptoBulkAll parts + 1
  | .iface _ d => uptoBulk d + 1
  | .map entries => uptoBulkEntries entries + 1
  | .held _ => 1
def uptoBulkAll {H : Type} : List (DataW H) → Nat
  | [] => 0
  | d :: r => uptoBulk d + uptoBulkAll r
def uptoBulkEntries {H : Type} : List (Lit × DataW H) → Nat
  | [] => 0
  | x :: r => uptoBulkEntry x + uptoBulkEntries r
def uptoBulkEntry {H : Type} : Lit × DataW H → Nat
  | (.string bytes, d) => bytes.length + uptoBulk d + 1
  | (_, d) => uptoBulk d + 1
 end
def uptoSmall : (H : Type) → List (DataW H) → Bool := fun _ ds => decide (uptoBulkAll ds ≤ 1048576)
def OpenSpec.upto (s : _root_.Go.ChangeSpec) : _root_.Go.OpenSpec := { _root_.Go.OpenSpec.ofChange s with cond := some uptoSmall }

/-- 'cashbooklaw22.ExpiryOnce', WHERE WHAT IT READS IS OF BULK AT MOST 1048576: true; the input reads as it did. -/
def expiryOnceUptoRow : OpenClaim := { program := "ytfneoijhmknlnaagreatdoor", sum := "0b0266898f4fcc6ca856eb0176579a0d7c3f65cb857fb02859cf0442d66b0a63", func := "cashbook/cashbooklaw22.ExpiryOnce", spec := "expiryOnce", inPlace := ["internal/bytealg.Count", "internal/bytealg.IndexByte", "internal/bytealg.Index", "internal/bytealg.Compare", "slices.overlaps[[]byte]", "slices.overlaps[uint32]", "maps.clone", "math/bits.Sub64", "math/bits.Add64"], unfollowed := true, recurses := true, named := ["cashbook/crc.halves", "internal/bytealg.MaxLen"], apart := false, laid := [("cashbook/crc.halves", laid_cashbook_crc_halves)], narrowed := true }
def ExpiryOnceUptoSaid : Prop := expiryOnceUptoRow.holds Tryz.pinned (OpenSpec.upto expiryOnceSpec)

/-- 'cashbooklaw22.ExpiryBack', WHERE WHAT IT READS IS OF BULK AT MOST 1048576: true; the input reads as it did. -/
def expiryBackUptoRow : OpenClaim := { program := "ytfneoijhmknlnaagreatdoor", sum := "0b0266898f4fcc6ca856eb0176579a0d7c3f65cb857fb02859cf0442d66b0a63", func := "cashbook/cashbooklaw22.ExpiryBack", spec := "expiryBack", inPlace := ["internal/bytealg.Count", "internal/bytealg.IndexByte", "internal/bytealg.Index", "internal/bytealg.Compare", "slices.overlaps[[]byte]", "slices.overlaps[uint32]", "maps.clone", "math/bits.Sub64", "math/bits.Add64"], unfollowed := true, recurses := true, named := ["cashbook/crc.halves", "internal/bytealg.MaxLen"], apart := false, laid := [("cashbook/crc.halves", laid_cashbook_crc_halves)], narrowed := true }
def ExpiryBackUptoSaid : Prop := expiryBackUptoRow.holds Tryz.pinned (OpenSpec.upto expiryBackSpec)

/-- 'cashbooklaw22.ExpiryPulses', WHERE WHAT IT READS IS OF BULK AT MOST 1048576: true; the input reads as it did. -/
def expiryPulsesUptoRow : OpenClaim := { program := "ytfneoijhmknlnaagreatdoor", sum := "0b0266898f4fcc6ca856eb0176579a0d7c3f65cb857fb02859cf0442d66b0a63", func := "cashbook/cashbooklaw22.ExpiryPulses", spec := "expiryPulses", inPlace := ["internal/bytealg.Count", "internal/bytealg.IndexByte", "internal/bytealg.Index", "internal/bytealg.Compare", "slices.overlaps[[]byte]", "slices.overlaps[uint32]", "maps.clone", "math/bits.Sub64", "math/bits.Add64"], unfollowed := true, recurses := true, named := ["cashbook/crc.halves", "internal/bytealg.MaxLen"], apart := false, laid := [("cashbook/crc.halves", laid_cashbook_crc_halves)], narrowed := true }
def ExpiryPulsesUptoSaid : Prop := expiryPulsesUptoRow.holds Tryz.pinned (OpenSpec.upto expiryPulsesSpec)

/-- 'cashbooklaw22.ExpiryKeeps', WHERE WHAT IT READS IS OF BULK AT MOST 1048576: true; the input reads as it did. -/
def expiryKeepsUptoRow : OpenClaim := { program := "ytfneoijhmknlnaagreatdoor", sum := "0b0266898f4fcc6ca856eb0176579a0d7c3f65cb857fb02859cf0442d66b0a63", func := "cashbook/cashbooklaw22.ExpiryKeeps", spec := "expiryKeeps", inPlace := ["internal/bytealg.Count", "internal/bytealg.IndexByte", "internal/bytealg.Index", "internal/bytealg.Compare", "slices.overlaps[[]byte]", "slices.overlaps[uint32]", "maps.clone", "math/bits.Sub64", "math/bits.Add64"], unfollowed := true, recurses := true, named := ["cashbook/crc.halves", "internal/bytealg.MaxLen"], apart := false, laid := [("cashbook/crc.halves", laid_cashbook_crc_halves)], narrowed := true }
def ExpiryKeepsUptoSaid : Prop := expiryKeepsUptoRow.holds Tryz.pinned (OpenSpec.upto expiryKeepsSpec)

end Rows
end Go.Proofs.YtfneoijhmknlnaaGreatDoor
