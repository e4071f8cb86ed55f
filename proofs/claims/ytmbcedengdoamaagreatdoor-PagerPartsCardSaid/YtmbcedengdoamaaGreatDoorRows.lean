/-
  NARROWER THAN 'FOR EVERY INPUT', by the rows' own cells (each row's printed sentence says how): PagerLeast: laid · PagerCrash: laid · PagerOpens: laid · PagerParts: laid · PagerPlays: laid.
  DERIVED. THE GIVEN ROWS OF THIS SEAT. 5 by the template 'for every input the law returns true; each argument reads behind the call as it read before'; 0 by the template 'total and deterministic' (their statements: YtmbcedengdoamaaGreatDoorTotals.lean).
  GIVEN WITH THE SEED: the statements are not yours to turn. If you find one false, say at which input.
  Laid BY PROGRAM, IN A SANDBOX (cutbox-rows.mjs): the forced cells as the released guide's own fill.sh prints them over the translation 100d338823f97516… (all of the seat's roots in one cut). By AI agents, Wed Nov 11 2026. No macro, syntax, notation, axiom, sorry.
-/
import Derived.Test.YtmbcedengdoamaaGreatDoorChecked
import GoSem.Claim
import GoSem.ClaimJoined
import GoSem.ClaimMapViews
import Derived.JoinedTies
import Derived.KernelRfl
namespace Go.Proofs.YtmbcedengdoamaaGreatDoor
/- THE CELL 'sum', in the pinned program and in every row, IS THE sha256 OF THE DUMP (.gsa) THAT YtmbcedengdoamaaGreatDoorProg.lean LOADS. Nothing in Lean hashes anything: it is a label: what it is worth is what the hold of that sum in a sandbox is worth. -/
noncomputable def Tryz.pinned : Pinned := { name := "ytmbcedengdoamaagreatdoor", sum := "100d338823f97516086e3a3dda5990e76e8a539bb3e2c698fd43dfb6ab204d41", checked := Tryz.checked }
namespace Rows
def none {H : Type} : Left H := { results := [], args := [] }

/- WHAT THE LISTED PACKAGE-LEVEL VARIABLES READ AS WHEN THE CALL BEGINS. Each datum BY PROGRAM (the guide's laid-datum.mjs) off the statement by which the dump's own 'gosem.cut.vars' lays the variable. In a bare row this is a premise. The card (YtmbcedengdoamaaGreatDoorCards.lean) ties it to the program's text. -/
def laid_cashbook_crc_halves {H : Type} : DataW H := .agg [.lit (.int .u32 0), .lit (.int .u32 274646895), .lit (.int .u32 549293790), .lit (.int .u32 820201905), .lit (.int .u32 1098587580), .lit (.int .u32 1361435347), .lit (.int .u32 1640403810), .lit (.int .u32 1905808397), .lit (.int .u32 2197175160), .lit (.int .u32 2460548119), .lit (.int .u32 2722870694), .lit (.int .u32 2987750089), .lit (.int .u32 3280807620), .lit (.int .u32 3553878443), .lit (.int .u32 3811616794), .lit (.int .u32 4084100981)]

/-- 'cashbooklaw10.PagerLeast': WHATEVER THE INPUT: true; the input reads as it did. -/
def pagerLeastSpec : ChangeSpec := { name := "pagerLeast", fn := fun _ => fun
  | [d1, d2] => { results := [.lit (.bool true)], args := [d1, d2] }
  | _ => none }
def pagerLeastRow : OpenClaim := { program := "ytmbcedengdoamaagreatdoor", sum := "100d338823f97516086e3a3dda5990e76e8a539bb3e2c698fd43dfb6ab204d41", func := "cashbook/cashbooklaw10.PagerLeast", spec := "pagerLeast", inPlace := ["internal/bytealg.Count", "internal/bytealg.IndexByte", "internal/bytealg.Index"], unfollowed := true, recurses := true, named := ["cashbook/crc.halves", "internal/bytealg.MaxLen"], apart := false, laid := [("cashbook/crc.halves", laid_cashbook_crc_halves)] }
def PagerLeastSaid : Prop := pagerLeastRow.holds Tryz.pinned (OpenSpec.ofChange pagerLeastSpec)

/-- ITS FALSE NEIGHBOUR: 'it returns false'. Refute it at one input. -/
def pagerLeastWrong : ChangeSpec := { name := "pagerLeast", fn := fun _ => fun
  | [d1, d2] => { results := [.lit (.bool false)], args := [d1, d2] }
  | _ => none }
def PagerLeastWrongFalsely : Prop := pagerLeastRow.holds Tryz.pinned (OpenSpec.ofChange pagerLeastWrong)

/-- 'cashbooklaw10.PagerCrash': WHATEVER THE INPUT: true; the input reads as it did. -/
def pagerCrashSpec : ChangeSpec := { name := "pagerCrash", fn := fun _ => fun
  | [d1, d2, d3] => { results := [.lit (.bool true)], args := [d1, d2, d3] }
  | _ => none }
def pagerCrashRow : OpenClaim := { program := "ytmbcedengdoamaagreatdoor", sum := "100d338823f97516086e3a3dda5990e76e8a539bb3e2c698fd43dfb6ab204d41", func := "cashbook/cashbooklaw10.PagerCrash", spec := "pagerCrash", inPlace := ["internal/bytealg.Count", "internal/bytealg.IndexByte", "internal/bytealg.Index"], unfollowed := true, recurses := true, named := ["cashbook/crc.halves", "internal/bytealg.MaxLen"], apart := false, laid := [("cashbook/crc.halves", laid_cashbook_crc_halves)] }
def PagerCrashSaid : Prop := pagerCrashRow.holds Tryz.pinned (OpenSpec.ofChange pagerCrashSpec)

/-- ITS FALSE NEIGHBOUR: 'it returns false'. Refute it at one input. -/
def pagerCrashWrong : ChangeSpec := { name := "pagerCrash", fn := fun _ => fun
  | [d1, d2, d3] => { results := [.lit (.bool false)], args := [d1, d2, d3] }
  | _ => none }
def PagerCrashWrongFalsely : Prop := pagerCrashRow.holds Tryz.pinned (OpenSpec.ofChange pagerCrashWrong)

/-- 'cashbooklaw10.PagerOpens': WHATEVER THE INPUT: true; the input reads as it did. -/
def pagerOpensSpec : ChangeSpec := { name := "pagerOpens", fn := fun _ => fun
  | [d1, d2] => { results := [.lit (.bool true)], args := [d1, d2] }
  | _ => none }
def pagerOpensRow : OpenClaim := { program := "ytmbcedengdoamaagreatdoor", sum := "100d338823f97516086e3a3dda5990e76e8a539bb3e2c698fd43dfb6ab204d41", func := "cashbook/cashbooklaw10.PagerOpens", spec := "pagerOpens", inPlace := ["internal/bytealg.Count", "internal/bytealg.IndexByte", "internal/bytealg.Index", "maps.clone"], unfollowed := true, recurses := true, named := ["cashbook/crc.halves", "internal/bytealg.MaxLen"], apart := false, laid := [("cashbook/crc.halves", laid_cashbook_crc_halves)] }
def PagerOpensSaid : Prop := pagerOpensRow.holds Tryz.pinned (OpenSpec.ofChange pagerOpensSpec)

/-- ITS FALSE NEIGHBOUR: 'it returns false'. Refute it at one input. -/
def pagerOpensWrong : ChangeSpec := { name := "pagerOpens", fn := fun _ => fun
  | [d1, d2] => { results := [.lit (.bool false)], args := [d1, d2] }
  | _ => none }
def PagerOpensWrongFalsely : Prop := pagerOpensRow.holds Tryz.pinned (OpenSpec.ofChange pagerOpensWrong)

/-- 'cashbooklaw10.PagerParts': WHATEVER THE INPUT: true; the input reads as it did. -/
def pagerPartsSpec : ChangeSpec := { name := "pagerParts", fn := fun _ => fun
  | [d1, d2] => { results := [.lit (.bool true)], args := [d1, d2] }
  | _ => none }
def pagerPartsRow : OpenClaim := { program := "ytmbcedengdoamaagreatdoor", sum := "100d338823f97516086e3a3dda5990e76e8a539bb3e2c698fd43dfb6ab204d41", func := "cashbook/cashbooklaw10.PagerParts", spec := "pagerParts", inPlace := ["internal/bytealg.Count", "internal/bytealg.IndexByte", "internal/bytealg.Index", "maps.clone"], unfollowed := true, recurses := true, named := ["cashbook/crc.halves", "internal/bytealg.MaxLen"], apart := false, laid := [("cashbook/crc.halves", laid_cashbook_crc_halves)] }
def PagerPartsSaid : Prop := pagerPartsRow.holds Tryz.pinned (OpenSpec.ofChange pagerPartsSpec)

/-- ITS FALSE NEIGHBOUR: 'it returns false'. Refute it at one input. -/
def pagerPartsWrong : ChangeSpec := { name := "pagerParts", fn := fun _ => fun
  | [d1, d2] => { results := [.lit (.bool false)], args := [d1, d2] }
  | _ => none }
def PagerPartsWrongFalsely : Prop := pagerPartsRow.holds Tryz.pinned (OpenSpec.ofChange pagerPartsWrong)

/-- 'cashbooklaw10.PagerPlays': WHATEVER THE INPUT: true; the input reads as it did. -/
def pagerPlaysSpec : ChangeSpec := { name := "pagerPlays", fn := fun _ => fun
  | [d1, d2] => { results := [.lit (.bool true)], args := [d1, d2] }
  | _ => none }
def pagerPlaysRow : OpenClaim := { program := "ytmbcedengdoamaagreatdoor", sum := "100d338823f97516086e3a3dda5990e76e8a539bb3e2c698fd43dfb6ab204d41", func := "cashbook/cashbooklaw10.PagerPlays", spec := "pagerPlays", inPlace := ["internal/bytealg.Count", "internal/bytealg.IndexByte", "internal/bytealg.Index", "maps.clone"], unfollowed := true, recurses := true, named := ["cashbook/crc.halves", "internal/bytealg.MaxLen"], apart := false, laid := [("cashbook/crc.halves", laid_cashbook_crc_halves)] }
def PagerPlaysSaid : Prop := pagerPlaysRow.holds Tryz.pinned (OpenSpec.ofChange pagerPlaysSpec)

/-- ITS FALSE NEIGHBOUR: 'it returns false'. Refute it at one input. -/
def pagerPlaysWrong : ChangeSpec := { name := "pagerPlays", fn := fun _ => fun
  | [d1, d2] => { results := [.lit (.bool false)], args := [d1, d2] }
  | _ => none }
def PagerPlaysWrongFalsely : Prop := pagerPlaysRow.holds Tryz.pinned (OpenSpec.ofChange pagerPlaysWrong)

/- THE SECOND FORM. 'bulk': how many values and letters a reading holds, each counted each time it is reached (what is shared counts as often as it is met; a slice's spare places count too). A statement '..UptoSaid' is the law's where the arguments, and the package variables that the reading takes, are together of bulk at most 1048576: NARROWER than '..Said'. Prove '..Said' where nothing that the law and all that it calls make is longer than what came in: it says more and counts as full. Else prove '..UptoSaid'. A law counts once. -/
mutual
def uptoBulk {H : Type} : DataW H → Nat
  | .lit (.string bytes) => bytes.length + 1
  | .lit _ => 1
  | .nil => 1
  | .ptr d => uptoBulk d + 1
  | .slice elems spare => uptoBulkAll elems + uptoBulkAll spare + 1
  | .agg parts => uptoBulkAll parts + 1
  | .iface _ d => uptoBulk d + 1
  | .map entries => uptoBulkEntries entries + 1
  | .held _ => 1
def uptoBulkAll {H : Type} : List (DataW H) → Nat
  | [] => 0
  | d :: r => uptoBulk d + uptoBulkAll r
def uptoBulkEntries {H : Type} : List (Lit × DataW H) → Nat
  | [] => 0
  | x :: r => uptoBulkEntry x + uptoBulkEntries r
def uptoBulkEntry {H : Type} : Lit × DataW H → Nat
  | (.string bytes, d) => bytes.length + uptoBulk d + 1
  | (_, d) => uptoBulk d + 1
 end
def uptoSmall : (H : Type) → List (DataW H) → Bool := fun _ ds => decide (uptoBulkAll ds ≤ 1048576)
def OpenSpec.upto (s : _root_.Go.ChangeSpec) : _root_.Go.OpenSpec := { _root_.Go.OpenSpec.ofChange s with cond := some uptoSmall }

/-- 'cashbooklaw10.PagerLeast', WHERE WHAT IT READS IS OF BULK AT MOST 1048576: true; the input reads as it did. -/
def pagerLeastUptoRow : OpenClaim := { program := "ytmbcedengdoamaagreatdoor", sum := "100d338823f97516086e3a3dda5990e76e8a539bb3e2c698fd43dfb6ab204d41", func := "cashbook/cashbooklaw10.PagerLeast", spec := "pagerLeast", inPlace := ["internal/bytealg.Count", "internal/bytealg.IndexByte", "internal/bytealg.Index"], unfollowed := true, recurses := true, named := ["cashbook/crc.halves", "internal/bytealg.MaxLen"], apart := false, laid := [("cashbook/crc.halves", laid_cashbook_crc_halves)], narrowed := true }
def PagerLeastUptoSaid : Prop := pagerLeastUptoRow.holds Tryz.pinned (OpenSpec.upto pagerLeastSpec)

/-- 'cashbooklaw10.PagerCrash', WHERE WHAT IT READS IS OF BULK AT MOST 1048576: true; the input reads as it did. -/
def pagerCrashUptoRow : OpenClaim := { program := "ytmbcedengdoamaagreatdoor", sum := "100d338823f97516086e3a3dda5990e76e8a539bb3e2c698fd43dfb6ab204d41", func := "cashbook/cashbooklaw10.PagerCrash", spec := "pagerCrash", inPlace := ["internal/bytealg.Count", "internal/bytealg.IndexByte", "internal/bytealg.Index"], unfollowed := true, recurses := true, named := ["cashbook/crc.halves", "internal/bytealg.MaxLen"], apart := false, laid := [("cashbook/crc.halves", laid_cashbook_crc_halves)], narrowed := true }
def PagerCrashUptoSaid : Prop := pagerCrashUptoRow.holds Tryz.pinned (OpenSpec.upto pagerCrashSpec)

/-- 'cashbooklaw10.PagerOpens', WHERE WHAT IT READS IS OF BULK AT MOST 1048576: true; the input reads as it did. -/
def pagerOpensUptoRow : OpenClaim := { program := "ytmbcedengdoamaagreatdoor", sum := "100d338823f97516086e3a3dda5990e76e8a539bb3e2c698fd43dfb6ab204d41", func := "cashbook/cashbooklaw10.PagerOpens", spec := "pagerOpens", inPlace := ["internal/bytealg.Count", "internal/bytealg.IndexByte", "internal/bytealg.Index", "maps.clone"], unfollowed := true, recurses := true, named := ["cashbook/crc.halves", "internal/bytealg.MaxLen"], apart := false, laid := [("cashbook/crc.halves", laid_cashbook_crc_halves)], narrowed := true }
def PagerOpensUptoSaid : Prop := pagerOpensUptoRow.holds Tryz.pinned (OpenSpec.upto pagerOpensSpec)

/-- 'cashbooklaw10.PagerParts', WHERE WHAT IT READS IS OF BULK AT MOST 1048576: true; the input reads as it did. -/
def pagerPartsUptoRow : OpenClaim := { program := "ytmbcedengdoamaagreatdoor", sum := "100d338823f97516086e3a3dda5990e76e8a539bb3e2c698fd43dfb6ab204d41", func := "cashbook/cashbooklaw10.PagerParts", spec := "pagerParts", inPlace := ["internal/bytealg.Count", "internal/bytealg.IndexByte", "internal/bytealg.Index", "maps.clone"], unfollowed := true, recurses := true, named := ["cashbook/crc.halves", "internal/bytealg.MaxLen"], apart := false, laid := [("cashbook/crc.halves", laid_cashbook_crc_halves)], narrowed := true }
def PagerPartsUptoSaid : Prop := pagerPartsUptoRow.holds Tryz.pinned (OpenSpec.upto pagerPartsSpec)

/-- 'cashbooklaw10.PagerPlays', WHERE WHAT IT READS IS OF BULK AT MOST 1048576: true; the input reads as it did. -/
def pagerPlaysUptoRow : OpenClaim := { program := "ytmbcedengdoamaagreatdoor", sum := "100d338823f97516086e3a3dda5990e76e8a539bb3e2c698fd43dfb6ab204d41", func := "cashbook/cashbooklaw10.PagerPlays", spec := "pagerPlays", inPlace := ["internal/bytealg.Count", "internal/bytealg.IndexByte", "internal/bytealg.Index", "maps.clone"], unfollowed := true, recurses := true, named := ["cashbook/crc.halves", "internal/bytealg.MaxLen"], apart := false, laid := [("cashbook/crc.halves", laid_cashbook_crc_halves)], narrowed := true }
def PagerPlaysUptoSaid : Prop := pagerPlaysUptoRow.holds Tryz.pinned (OpenSpec.upto pagerPlaysSpec)

end Rows
end Go.Proofs.YtmbcedengdoamaaGreatDoor
