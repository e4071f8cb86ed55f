/-
  NARROWER THAN 'FOR EVERY INPUT', by the rows' own cells (each row's printed sentence says how): LedgerEven: laid · LedgerSums: laid · LedgerLimits: laid · LedgerAgain: laid · LedgerParts: laid · LedgerChains: laid.
  DERIVED. THE GIVEN ROWS OF THIS SEAT. 6 by the template 'for every input the law returns true; each argument reads behind the call as it read before'; 0 by the template 'total and deterministic' (their statements: YtcnddmfogfebiaaGreatDoorTotals.lean).
  GIVEN WITH THE SEED: the statements are not yours to turn. If you find one false, say at which input.
  Laid BY PROGRAM, IN A SANDBOX (cutbox-rows.mjs): the forced cells as the released guide's own fill.sh prints them over the translation b51ad8b4da2ca7c3… (all of the seat's roots in one cut). By AI agents, Wed Nov 11 2026. No macro, syntax, notation, axiom, sorry.
-/
import Derived.Test.YtcnddmfogfebiaaGreatDoorChecked
import GoSem.Claim
import GoSem.ClaimJoined
import GoSem.ClaimMapViews
import Derived.JoinedTies
import Derived.KernelRfl
namespace Go.Proofs.YtcnddmfogfebiaaGreatDoor
/- THE CELL 'sum', in the pinned program and in every row, IS THE sha256 OF THE DUMP (.gsa) THAT YtcnddmfogfebiaaGreatDoorProg.lean LOADS. Nothing in Lean hashes anything: it is a label: what it is worth is what the hold of that sum in a sandbox is worth. -/
noncomputable def Tryz.pinned : Pinned := { name := "ytcnddmfogfebiaagreatdoor", sum := "b51ad8b4da2ca7c37383b5504b1d94edba155c2792edc7d88973c9056203828a", checked := Tryz.checked }
namespace Rows
def none {H : Type} : Left H := { results := [], args := [] }

/- WHAT THE LISTED PACKAGE-LEVEL VARIABLES READ AS WHEN THE CALL BEGINS. Each datum BY PROGRAM (the guide's laid-datum.mjs) off the statement by which the dump's own 'gosem.cut.vars' lays the variable. In a bare row this is a premise. The card (YtcnddmfogfebiaaGreatDoorCards.lean) ties it to the program's text. -/
def laid_cashbook_crc_halves {H : Type} : DataW H := .agg [.lit (.int .u32 0), .lit (.int .u32 274646895), .lit (.int .u32 549293790), .lit (.int .u32 820201905), .lit (.int .u32 1098587580), .lit (.int .u32 1361435347), .lit (.int .u32 1640403810), .lit (.int .u32 1905808397), .lit (.int .u32 2197175160), .lit (.int .u32 2460548119), .lit (.int .u32 2722870694), .lit (.int .u32 2987750089), .lit (.int .u32 3280807620), .lit (.int .u32 3553878443), .lit (.int .u32 3811616794), .lit (.int .u32 4084100981)]

/-- 'cashbooklaw23.LedgerEven': WHATEVER THE INPUT: true; the input reads as it did. -/
def ledgerEvenSpec : ChangeSpec := { name := "ledgerEven", fn := fun _ => fun
  | [d] => { results := [.lit (.bool true)], args := [d] }
  | _ => none }
def ledgerEvenRow : OpenClaim := { program := "ytcnddmfogfebiaagreatdoor", sum := "b51ad8b4da2ca7c37383b5504b1d94edba155c2792edc7d88973c9056203828a", func := "cashbook/cashbooklaw23.LedgerEven", spec := "ledgerEven", inPlace := ["internal/bytealg.Count", "internal/bytealg.IndexByte", "internal/bytealg.Index", "internal/bytealg.Compare", "slices.overlaps[[]byte]", "slices.overlaps[uint32]", "maps.clone", "math/bits.Sub64", "math/bits.Add64"], unfollowed := true, recurses := true, named := ["cashbook/crc.halves", "internal/bytealg.MaxLen"], plainKeys := false, apart := false, laid := [("cashbook/crc.halves", laid_cashbook_crc_halves)] }
def LedgerEvenSaid : Prop := ledgerEvenRow.holds Tryz.pinned (OpenSpec.ofChange ledgerEvenSpec)

/-- ITS FALSE NEIGHBOUR: 'it returns false'. Refute it at one input. -/
def ledgerEvenWrong : ChangeSpec := { name := "ledgerEven", fn := fun _ => fun
  | [d] => { results := [.lit (.bool false)], args := [d] }
  | _ => none }
def LedgerEvenWrongFalsely : Prop := ledgerEvenRow.holds Tryz.pinned (OpenSpec.ofChange ledgerEvenWrong)

/-- 'cashbooklaw23.LedgerSums': WHATEVER THE INPUT: true; the input reads as it did. -/
def ledgerSumsSpec : ChangeSpec := { name := "ledgerSums", fn := fun _ => fun
  | [d] => { results := [.lit (.bool true)], args := [d] }
  | _ => none }
def ledgerSumsRow : OpenClaim := { program := "ytcnddmfogfebiaagreatdoor", sum := "b51ad8b4da2ca7c37383b5504b1d94edba155c2792edc7d88973c9056203828a", func := "cashbook/cashbooklaw23.LedgerSums", spec := "ledgerSums", inPlace := ["internal/bytealg.Count", "internal/bytealg.IndexByte", "internal/bytealg.Index", "internal/bytealg.Compare", "slices.overlaps[[]byte]", "slices.overlaps[uint32]", "maps.clone", "math/bits.Sub64", "math/bits.Add64"], unfollowed := true, recurses := true, named := ["cashbook/crc.halves", "internal/bytealg.MaxLen"], plainKeys := false, apart := false, laid := [("cashbook/crc.halves", laid_cashbook_crc_halves)] }
def LedgerSumsSaid : Prop := ledgerSumsRow.holds Tryz.pinned (OpenSpec.ofChange ledgerSumsSpec)

/-- ITS FALSE NEIGHBOUR: 'it returns false'. Refute it at one input. -/
def ledgerSumsWrong : ChangeSpec := { name := "ledgerSums", fn := fun _ => fun
  | [d] => { results := [.lit (.bool false)], args := [d] }
  | _ => none }
def LedgerSumsWrongFalsely : Prop := ledgerSumsRow.holds Tryz.pinned (OpenSpec.ofChange ledgerSumsWrong)

/-- 'cashbooklaw23.LedgerLimits': WHATEVER THE INPUT: true; the input reads as it did. -/
def ledgerLimitsSpec : ChangeSpec := { name := "ledgerLimits", fn := fun _ => fun
  | [d] => { results := [.lit (.bool true)], args := [d] }
  | _ => none }
def ledgerLimitsRow : OpenClaim := { program := "ytcnddmfogfebiaagreatdoor", sum := "b51ad8b4da2ca7c37383b5504b1d94edba155c2792edc7d88973c9056203828a", func := "cashbook/cashbooklaw23.LedgerLimits", spec := "ledgerLimits", inPlace := ["internal/bytealg.Count", "internal/bytealg.IndexByte", "internal/bytealg.Index", "internal/bytealg.Compare", "slices.overlaps[[]byte]", "slices.overlaps[uint32]", "maps.clone", "math/bits.Sub64", "math/bits.Add64"], unfollowed := true, recurses := true, named := ["cashbook/crc.halves", "internal/bytealg.MaxLen"], plainKeys := false, apart := false, laid := [("cashbook/crc.halves", laid_cashbook_crc_halves)] }
def LedgerLimitsSaid : Prop := ledgerLimitsRow.holds Tryz.pinned (OpenSpec.ofChange ledgerLimitsSpec)

/-- ITS FALSE NEIGHBOUR: 'it returns false'. Refute it at one input. -/
def ledgerLimitsWrong : ChangeSpec := { name := "ledgerLimits", fn := fun _ => fun
  | [d] => { results := [.lit (.bool false)], args := [d] }
  | _ => none }
def LedgerLimitsWrongFalsely : Prop := ledgerLimitsRow.holds Tryz.pinned (OpenSpec.ofChange ledgerLimitsWrong)

/-- 'cashbooklaw23.LedgerAgain': WHATEVER THE INPUT: true; the input reads as it did. -/
def ledgerAgainSpec : ChangeSpec := { name := "ledgerAgain", fn := fun _ => fun
  | [d1, d2] => { results := [.lit (.bool true)], args := [d1, d2] }
  | _ => none }
def ledgerAgainRow : OpenClaim := { program := "ytcnddmfogfebiaagreatdoor", sum := "b51ad8b4da2ca7c37383b5504b1d94edba155c2792edc7d88973c9056203828a", func := "cashbook/cashbooklaw23.LedgerAgain", spec := "ledgerAgain", inPlace := ["internal/bytealg.Count", "internal/bytealg.IndexByte", "internal/bytealg.Index", "internal/bytealg.Compare", "slices.overlaps[[]byte]", "slices.overlaps[uint32]", "maps.clone", "math/bits.Sub64", "math/bits.Add64"], unfollowed := true, recurses := true, named := ["cashbook/crc.halves", "internal/bytealg.MaxLen"], plainKeys := false, apart := false, laid := [("cashbook/crc.halves", laid_cashbook_crc_halves)] }
def LedgerAgainSaid : Prop := ledgerAgainRow.holds Tryz.pinned (OpenSpec.ofChange ledgerAgainSpec)

/-- ITS FALSE NEIGHBOUR: 'it returns false'. Refute it at one input. -/
def ledgerAgainWrong : ChangeSpec := { name := "ledgerAgain", fn := fun _ => fun
  | [d1, d2] => { results := [.lit (.bool false)], args := [d1, d2] }
  | _ => none }
def LedgerAgainWrongFalsely : Prop := ledgerAgainRow.holds Tryz.pinned (OpenSpec.ofChange ledgerAgainWrong)

/-- 'cashbooklaw23.LedgerParts': WHATEVER THE INPUT: true; the input reads as it did. -/
def ledgerPartsSpec : ChangeSpec := { name := "ledgerParts", fn := fun _ => fun
  | [d1, d2] => { results := [.lit (.bool true)], args := [d1, d2] }
  | _ => none }
def ledgerPartsRow : OpenClaim := { program := "ytcnddmfogfebiaagreatdoor", sum := "b51ad8b4da2ca7c37383b5504b1d94edba155c2792edc7d88973c9056203828a", func := "cashbook/cashbooklaw23.LedgerParts", spec := "ledgerParts", inPlace := ["internal/bytealg.Count", "internal/bytealg.IndexByte", "internal/bytealg.Index", "internal/bytealg.Compare", "slices.overlaps[[]byte]", "slices.overlaps[uint32]", "maps.clone", "math/bits.Sub64", "math/bits.Add64"], unfollowed := true, recurses := true, named := ["cashbook/crc.halves", "internal/bytealg.MaxLen"], plainKeys := false, apart := false, laid := [("cashbook/crc.halves", laid_cashbook_crc_halves)] }
def LedgerPartsSaid : Prop := ledgerPartsRow.holds Tryz.pinned (OpenSpec.ofChange ledgerPartsSpec)

/-- ITS FALSE NEIGHBOUR: 'it returns false'. Refute it at one input. -/
def ledgerPartsWrong : ChangeSpec := { name := "ledgerParts", fn := fun _ => fun
  | [d1, d2] => { results := [.lit (.bool false)], args := [d1, d2] }
  | _ => none }
def LedgerPartsWrongFalsely : Prop := ledgerPartsRow.holds Tryz.pinned (OpenSpec.ofChange ledgerPartsWrong)

/-- 'cashbooklaw23.LedgerChains': WHATEVER THE INPUT: true; the input reads as it did. -/
def ledgerChainsSpec : ChangeSpec := { name := "ledgerChains", fn := fun _ => fun
  | [d1, d2] => { results := [.lit (.bool true)], args := [d1, d2] }
  | _ => none }
def ledgerChainsRow : OpenClaim := { program := "ytcnddmfogfebiaagreatdoor", sum := "b51ad8b4da2ca7c37383b5504b1d94edba155c2792edc7d88973c9056203828a", func := "cashbook/cashbooklaw23.LedgerChains", spec := "ledgerChains", inPlace := ["internal/bytealg.Count", "internal/bytealg.IndexByte", "internal/bytealg.Index", "internal/bytealg.Compare", "slices.overlaps[[]byte]", "slices.overlaps[uint32]", "maps.clone", "math/bits.Sub64", "math/bits.Add64"], unfollowed := true, recurses := true, named := ["cashbook/crc.halves", "internal/bytealg.MaxLen"], plainKeys := false, apart := false, laid := [("cashbook/crc.halves", laid_cashbook_crc_halves)] }
def LedgerChainsSaid : Prop := ledgerChainsRow.holds Tryz.pinned (OpenSpec.ofChange ledgerChainsSpec)

/-- ITS FALSE NEIGHBOUR: 'it returns false'. Refute it at one input. -/
def ledgerChainsWrong : ChangeSpec := { name := "ledgerChains", fn := fun _ => fun
  | [d1, d2] => { results := [.lit (.bool false)], args := [d1, d2] }
  | _ => none }
def LedgerChainsWrongFalsely : Prop := ledgerChainsRow.holds Tryz.pinned (OpenSpec.ofChange ledgerChainsWrong)

/- THE SECOND FORM. 'bulk': how many values and letters a reading holds, each counted each time it is reached (what is shared counts as often as it is met; a slice's spare places count too). A statement '..UptoSaid' is the law's where the arguments, and the package variables that the reading takes, are together of bulk at most 1048576: NARROWER than '..Said'. Prove '..Said' where nothing that the law and all that it calls make is longer than what came in: it says more and counts as full. Else prove '..UptoSaid'. A law counts once. -/
mutual
def uptoBulk {H : Type} : DataW H → Nat
  | .lit (.string bytes) => bytes.length + 1
  | .lit _ => 1
  | .nil => 1
  | .ptr d => uptoBulk d + 1
  | .slice elems spare => uptoBulkAll elems + uptoBulkAll spare + 1
  | .agg parts => uptoBulkAll parts + 1
  | .iface _ d => uptoBulk d + 1
  | .map entries => uptoBulkEntries entries + 1
  | .held _ => 1
def uptoBulkAll {H : Type} : List (DataW H) → Nat
  | [] => 0
  | d :: r => uptoBulk d + uptoBulkAll r
def uptoBulkEntries {H : Type} : List (Lit × DataW H) → Nat
  | [] => 0
  | x :: r => uptoBulkEntry x + uptoBulkEntries r
def uptoBulkEntry {H : Type} : Lit × DataW H → Nat
  | (.string bytes, d) => bytes.length + uptoBulk d + 1
  | (_, d) => uptoBulk d + 1
 end
def uptoSmall : (H : Type) → List (DataW H) → Bool := fun _ ds => decide (uptoBulkAll ds ≤ 1048576)
def OpenSpec.upto (s : _root_.Go.ChangeSpec) : _root_.Go.OpenSpec := { _root_.Go.OpenSpec.ofChange s with cond := some uptoSmall }

/-- 'cashbooklaw23.LedgerEven', WHERE WHAT IT READS IS OF BULK AT MOST 1048576: true; the input reads as it did. -/
def ledgerEvenUptoRow : OpenClaim := { program := "ytcnddmfogfebiaagreatdoor", sum := "b51ad8b4da2ca7c37383b5504b1d94edba155c2792edc7d88973c9056203828a", func := "cashbook/cashbooklaw23.LedgerEven", spec := "ledgerEven", inPlace := ["internal/bytealg.Count", "internal/bytealg.IndexByte", "internal/bytealg.Index", "internal/bytealg.Compare", "slices.overlaps[[]byte]", "slices.overlaps[uint32]", "maps.clone", "math/bits.Sub64", "math/bits.Add64"], unfollowed := true, recurses := true, named := ["cashbook/crc.halves", "internal/bytealg.MaxLen"], plainKeys := false, apart := false, laid := [("cashbook/crc.halves", laid_cashbook_crc_halves)], narrowed := true }
def LedgerEvenUptoSaid : Prop := ledgerEvenUptoRow.holds Tryz.pinned (OpenSpec.upto ledgerEvenSpec)

/-- 'cashbooklaw23.LedgerSums', WHERE WHAT IT READS IS OF BULK AT MOST 1048576: true; the input reads as it did. -/
def ledgerSumsUptoRow : OpenClaim := { program := "ytcnddmfogfebiaagreatdoor", sum := "b51ad8b4da2ca7c37383b5504b1d94edba155c2792edc7d88973c9056203828a", func := "cashbook/cashbooklaw23.LedgerSums", spec := "ledgerSums", inPlace := ["internal/bytealg.Count", "internal/bytealg.IndexByte", "internal/bytealg.Index", "internal/bytealg.Compare", "slices.overlaps[[]byte]", "slices.overlaps[uint32]", "maps.clone", "math/bits.Sub64", "math/bits.Add64"], unfollowed := true, recurses := true, named := ["cashbook/crc.halves", "internal/bytealg.MaxLen"], plainKeys := false, apart := false, laid := [("cashbook/crc.halves", laid_cashbook_crc_halves)], narrowed := true }
def LedgerSumsUptoSaid : Prop := ledgerSumsUptoRow.holds Tryz.pinned (OpenSpec.upto ledgerSumsSpec)

/-- 'cashbooklaw23.LedgerLimits', WHERE WHAT IT READS IS OF BULK AT MOST 1048576: true; the input reads as it did. -/
def ledgerLimitsUptoRow : OpenClaim := { program := "ytcnddmfogfebiaagreatdoor", sum := "b51ad8b4da2ca7c37383b5504b1d94edba155c2792edc7d88973c9056203828a", func := "cashbook/cashbooklaw23.LedgerLimits", spec := "ledgerLimits", inPlace := ["internal/bytealg.Count", "internal/bytealg.IndexByte", "internal/bytealg.Index", "internal/bytealg.Compare", "slices.overlaps[[]byte]", "slices.overlaps[uint32]", "maps.clone", "math/bits.Sub64", "math/bits.Add64"], unfollowed := true, recurses := true, named := ["cashbook/crc.halves", "internal/bytealg.MaxLen"], plainKeys := false, apart := false, laid := [("cashbook/crc.halves", laid_cashbook_crc_halves)], narrowed := true }
def LedgerLimitsUptoSaid : Prop := ledgerLimitsUptoRow.holds Tryz.pinned (OpenSpec.upto ledgerLimitsSpec)

/-- 'cashbooklaw23.LedgerAgain', WHERE WHAT IT READS IS OF BULK AT MOST 1048576: true; the input reads as it did. -/
def ledgerAgainUptoRow : OpenClaim := { program := "ytcnddmfogfebiaagreatdoor", sum := "b51ad8b4da2ca7c37383b5504b1d94edba155c2792edc7d88973c9056203828a", func := "cashbook/cashbooklaw23.LedgerAgain", spec := "ledgerAgain", inPlace := ["internal/bytealg.Count", "internal/bytealg.IndexByte", "internal/bytealg.Index", "internal/bytealg.Compare", "slices.overlaps[[]byte]", "slices.overlaps[uint32]", "maps.clone", "math/bits.Sub64", "math/bits.Add64"], unfollowed := true, recurses := true, named := ["cashbook/crc.halves", "internal/bytealg.MaxLen"], plainKeys := false, apart := false, laid := [("cashbook/crc.halves", laid_cashbook_crc_halves)], narrowed := true }
def LedgerAgainUptoSaid : Prop := ledgerAgainUptoRow.holds Tryz.pinned (OpenSpec.upto ledgerAgainSpec)

/-- 'cashbooklaw23.LedgerParts', WHERE WHAT IT READS IS OF BULK AT MOST 1048576: true; the input reads as it did. -/
def ledgerPartsUptoRow : OpenClaim := { program := "ytcnddmfogfebiaagreatdoor", sum := "b51ad8b4da2ca7c37383b5504b1d94edba155c2792edc7d88973c9056203828a", func := "cashbook/cashbooklaw23.LedgerParts", spec := "ledgerParts", inPlace := ["internal/bytealg.Count", "internal/bytealg.IndexByte", "internal/bytealg.Index", "internal/bytealg.Compare", "slices.overlaps[[]byte]", "slices.overlaps[uint32]", "maps.clone", "math/bits.Sub64", "math/bits.Add64"], unfollowed := true, recurses := true, named := ["cashbook/crc.halves", "internal/bytealg.MaxLen"], plainKeys := false, apart := false, laid := [("cashbook/crc.halves", laid_cashbook_crc_halves)], narrowed := true }
def LedgerPartsUptoSaid : Prop := ledgerPartsUptoRow.holds Tryz.pinned (OpenSpec.upto ledgerPartsSpec)

/-- 'cashbooklaw23.LedgerChains', WHERE WHAT IT READS IS OF BULK AT MOST 1048576: true; the input reads as it did. -/
def ledgerChainsUptoRow : OpenClaim := { program := "ytcnddmfogfebiaagreatdoor", sum := "b51ad8b4da2ca7c37383b5504b1d94edba155c2792edc7d88973c9056203828a", func := "cashbook/cashbooklaw23.LedgerChains", spec := "ledgerChains", inPlace := ["internal/bytealg.Count", "internal/bytealg.IndexByte", "internal/bytealg.Index", "internal/bytealg.Compare", "slices.overlaps[[]byte]", "slices.overlaps[uint32]", "maps.clone", "math/bits.Sub64", "math/bits.Add64"], unfollowed := true, recurses := true, named := ["cashbook/crc.halves", "internal/bytealg.MaxLen"], plainKeys := false, apart := false, laid := [("cashbook/crc.halves", laid_cashbook_crc_halves)], narrowed := true }
def LedgerChainsUptoSaid : Prop := ledgerChainsUptoRow.holds Tryz.pinned (OpenSpec.upto ledgerChainsSpec)

end Rows
end Go.Proofs.YtcnddmfogfebiaaGreatDoor
