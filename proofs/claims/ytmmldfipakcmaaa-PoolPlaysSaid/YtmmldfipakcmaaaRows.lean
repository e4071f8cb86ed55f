/-
  No cell of these rows narrows 'for every input' (looked for: loops, veiled, ifaces, maps, wideKeys, modest, calm, conditions, laid).
  DERIVED. THE GIVEN ROWS OF THIS SEAT. 6 by the template 'for every input the law returns true; each argument reads behind the call as it read before'; 0 by the template 'total and deterministic' (their statements: YtmmldfipakcmaaaTotals.lean).
  GIVEN WITH THE SEED: the statements are not yours to turn. If you find one false, say at which input.
  Laid BY PROGRAM, IN A SANDBOX (cutbox-rows.mjs): the forced cells as the released guide's own fill.sh prints them over the translation 10c7025e5e9f93e2… (all of the seat's roots in one cut). By AI agents, Wed Nov 11 2026. No macro, syntax, notation, axiom, sorry.
-/
import Derived.Test.YtmmldfipakcmaaaChecked
import GoSem.Claim
import GoSem.ClaimJoined
import GoSem.ClaimMapViews
import Derived.JoinedTies
import Derived.KernelRfl
namespace Go.Proofs.Ytmmldfipakcmaaa
/- THE CELL 'sum', in the pinned program and in every row, IS THE sha256 OF THE DUMP (.gsa) THAT YtmmldfipakcmaaaProg.lean LOADS. Nothing in Lean hashes anything: it is a label: what it is worth is what the hold of that sum in a sandbox is worth. -/
noncomputable def Try.pinned : Pinned := { name := "ytmmldfipakcmaaa", sum := "10c7025e5e9f93e2dbf65ef99bfd96822511c14d47c03335eff9b74288fa2777", checked := Try.checked }
namespace Rows
def none {H : Type} : Left H := { results := [], args := [] }

/-- 'cashbooklaw27.ReserveHeights': WHATEVER THE INPUT: true; the input reads as it did. -/
def reserveHeightsSpec : ChangeSpec := { name := "reserveHeights", fn := fun _ => fun
  | [d1, d2, d3] => { results := [.lit (.bool true)], args := [d1, d2, d3] }
  | _ => none }
def reserveHeightsRow : OpenClaim := { program := "ytmmldfipakcmaaa", sum := "10c7025e5e9f93e2dbf65ef99bfd96822511c14d47c03335eff9b74288fa2777", func := "cashbook/cashbooklaw27.ReserveHeights", spec := "reserveHeights", apart := false }
def ReserveHeightsSaid : Prop := reserveHeightsRow.holds Try.pinned (OpenSpec.ofChange reserveHeightsSpec)

/-- ITS FALSE NEIGHBOUR: 'it returns false'. Refute it at one input. -/
def reserveHeightsWrong : ChangeSpec := { name := "reserveHeights", fn := fun _ => fun
  | [d1, d2, d3] => { results := [.lit (.bool false)], args := [d1, d2, d3] }
  | _ => none }
def ReserveHeightsWrongFalsely : Prop := reserveHeightsRow.holds Try.pinned (OpenSpec.ofChange reserveHeightsWrong)

/-- 'cashbooklaw27.ReserveNeeds': WHATEVER THE INPUT: true; the input reads as it did. -/
def reserveNeedsSpec : ChangeSpec := { name := "reserveNeeds", fn := fun _ => fun
  | [d1, d2, d3] => { results := [.lit (.bool true)], args := [d1, d2, d3] }
  | _ => none }
def reserveNeedsRow : OpenClaim := { program := "ytmmldfipakcmaaa", sum := "10c7025e5e9f93e2dbf65ef99bfd96822511c14d47c03335eff9b74288fa2777", func := "cashbook/cashbooklaw27.ReserveNeeds", spec := "reserveNeeds", apart := false }
def ReserveNeedsSaid : Prop := reserveNeedsRow.holds Try.pinned (OpenSpec.ofChange reserveNeedsSpec)

/-- ITS FALSE NEIGHBOUR: 'it returns false'. Refute it at one input. -/
def reserveNeedsWrong : ChangeSpec := { name := "reserveNeeds", fn := fun _ => fun
  | [d1, d2, d3] => { results := [.lit (.bool false)], args := [d1, d2, d3] }
  | _ => none }
def ReserveNeedsWrongFalsely : Prop := reserveNeedsRow.holds Try.pinned (OpenSpec.ofChange reserveNeedsWrong)

/-- 'cashbooklaw08.PoolPlays': WHATEVER THE INPUT: true; the input reads as it did. -/
def poolPlaysSpec : ChangeSpec := { name := "poolPlays", fn := fun _ => fun
  | [d] => { results := [.lit (.bool true)], args := [d] }
  | _ => none }
def poolPlaysRow : OpenClaim := { program := "ytmmldfipakcmaaa", sum := "10c7025e5e9f93e2dbf65ef99bfd96822511c14d47c03335eff9b74288fa2777", func := "cashbook/cashbooklaw08.PoolPlays", spec := "poolPlays", unfollowed := true, recurses := true, apart := false }
def PoolPlaysSaid : Prop := poolPlaysRow.holds Try.pinned (OpenSpec.ofChange poolPlaysSpec)

/-- ITS FALSE NEIGHBOUR: 'it returns false'. Refute it at one input. -/
def poolPlaysWrong : ChangeSpec := { name := "poolPlays", fn := fun _ => fun
  | [d] => { results := [.lit (.bool false)], args := [d] }
  | _ => none }
def PoolPlaysWrongFalsely : Prop := poolPlaysRow.holds Try.pinned (OpenSpec.ofChange poolPlaysWrong)

/-- 'cashbooklaw08.PoolSorts': WHATEVER THE INPUT: true; the input reads as it did. -/
def poolSortsSpec : ChangeSpec := { name := "poolSorts", fn := fun _ => fun
  | [d] => { results := [.lit (.bool true)], args := [d] }
  | _ => none }
def poolSortsRow : OpenClaim := { program := "ytmmldfipakcmaaa", sum := "10c7025e5e9f93e2dbf65ef99bfd96822511c14d47c03335eff9b74288fa2777", func := "cashbook/cashbooklaw08.PoolSorts", spec := "poolSorts", unfollowed := true, recurses := true, apart := false }
def PoolSortsSaid : Prop := poolSortsRow.holds Try.pinned (OpenSpec.ofChange poolSortsSpec)

/-- ITS FALSE NEIGHBOUR: 'it returns false'. Refute it at one input. -/
def poolSortsWrong : ChangeSpec := { name := "poolSorts", fn := fun _ => fun
  | [d] => { results := [.lit (.bool false)], args := [d] }
  | _ => none }
def PoolSortsWrongFalsely : Prop := poolSortsRow.holds Try.pinned (OpenSpec.ofChange poolSortsWrong)

/-- 'cashbooklaw08.PoolOwn': WHATEVER THE INPUT: true; the input reads as it did. -/
def poolOwnSpec : ChangeSpec := { name := "poolOwn", fn := fun _ => fun
  | [d1, d2] => { results := [.lit (.bool true)], args := [d1, d2] }
  | _ => none }
def poolOwnRow : OpenClaim := { program := "ytmmldfipakcmaaa", sum := "10c7025e5e9f93e2dbf65ef99bfd96822511c14d47c03335eff9b74288fa2777", func := "cashbook/cashbooklaw08.PoolOwn", spec := "poolOwn", unfollowed := true, recurses := true, apart := false }
def PoolOwnSaid : Prop := poolOwnRow.holds Try.pinned (OpenSpec.ofChange poolOwnSpec)

/-- ITS FALSE NEIGHBOUR: 'it returns false'. Refute it at one input. -/
def poolOwnWrong : ChangeSpec := { name := "poolOwn", fn := fun _ => fun
  | [d1, d2] => { results := [.lit (.bool false)], args := [d1, d2] }
  | _ => none }
def PoolOwnWrongFalsely : Prop := poolOwnRow.holds Try.pinned (OpenSpec.ofChange poolOwnWrong)

/-- 'cashbooklaw08.PoolCopies': WHATEVER THE INPUT: true; the input reads as it did. -/
def poolCopiesSpec : ChangeSpec := { name := "poolCopies", fn := fun _ => fun
  | [d1, d2, d3] => { results := [.lit (.bool true)], args := [d1, d2, d3] }
  | _ => none }
def poolCopiesRow : OpenClaim := { program := "ytmmldfipakcmaaa", sum := "10c7025e5e9f93e2dbf65ef99bfd96822511c14d47c03335eff9b74288fa2777", func := "cashbook/cashbooklaw08.PoolCopies", spec := "poolCopies", unfollowed := true, recurses := true, apart := false }
def PoolCopiesSaid : Prop := poolCopiesRow.holds Try.pinned (OpenSpec.ofChange poolCopiesSpec)

/-- ITS FALSE NEIGHBOUR: 'it returns false'. Refute it at one input. -/
def poolCopiesWrong : ChangeSpec := { name := "poolCopies", fn := fun _ => fun
  | [d1, d2, d3] => { results := [.lit (.bool false)], args := [d1, d2, d3] }
  | _ => none }
def PoolCopiesWrongFalsely : Prop := poolCopiesRow.holds Try.pinned (OpenSpec.ofChange poolCopiesWrong)

/- THE SECOND FORM. 'bulk': how many values and letters a reading holds, each counted each time it is reached (what is shared counts as often as it is met; a slice's spare places count too). A statement '..UptoSaid' is the law's where the arguments, and the package variables that the reading takes, are together of bulk at most 1048576: NARROWER than '..Said'. Prove '..Said' where nothing that the law and all that it calls make is longer than what came in: it says more and counts as full. Else prove '..UptoSaid'. A law counts once. -/
mutual
def uptoBulk {H : Type} : DataW H → Nat
  | .lit (.string bytes) => bytes.length + 1
  | .lit _ => 1
  | .nil => 1
  | .ptr d => uptoBulk d + 1
  | .slice elems spare => uptoBulkAll elems + uptoBulkAll spare + 1
  | .agg parts => uptoBulkAll parts + 1
  | .iface _ d => uptoBulk d + 1
  | .map entries => uptoBulkEntries entries + 1
  | .held _ => 1
def uptoBulkAll {H : Type} : List (DataW H) → Nat
  | [] => 0
  | d :: r => uptoBulk d + uptoBulkAll r
def uptoBulkEntries {H : Type} : List (Lit × DataW H) → Nat
  | [] => 0
  | x :: r => uptoBulkEntry x + uptoBulkEntries r
def uptoBulkEntry {H : Type} : Lit × DataW H → Nat
  | (.string bytes, d) => bytes.length + uptoBulk d + 1
  | (_, d) => uptoBulk d + 1
 end
def uptoSmall : (H : Type) → List (DataW H) → Bool := fun _ ds => decide (uptoBulkAll ds ≤ 1048576)
def OpenSpec.upto (s : _root_.Go.ChangeSpec) : _root_.Go.OpenSpec := { _root_.Go.OpenSpec.ofChange s with cond := some uptoSmall }

/-- 'cashbooklaw27.ReserveHeights', WHERE WHAT IT READS IS OF BULK AT MOST 1048576: true; the input reads as it did. -/
def reserveHeightsUptoRow : OpenClaim := { program := "ytmmldfipakcmaaa", sum := "10c7025e5e9f93e2dbf65ef99bfd96822511c14d47c03335eff9b74288fa2777", func := "cashbook/cashbooklaw27.ReserveHeights", spec := "reserveHeights", apart := false, narrowed := true }
def ReserveHeightsUptoSaid : Prop := reserveHeightsUptoRow.holds Try.pinned (OpenSpec.upto reserveHeightsSpec)

/-- 'cashbooklaw27.ReserveNeeds', WHERE WHAT IT READS IS OF BULK AT MOST 1048576: true; the input reads as it did. -/
def reserveNeedsUptoRow : OpenClaim := { program := "ytmmldfipakcmaaa", sum := "10c7025e5e9f93e2dbf65ef99bfd96822511c14d47c03335eff9b74288fa2777", func := "cashbook/cashbooklaw27.ReserveNeeds", spec := "reserveNeeds", apart := false, narrowed := true }
def ReserveNeedsUptoSaid : Prop := reserveNeedsUptoRow.holds Try.pinned (OpenSpec.upto reserveNeedsSpec)

/-- 'cashbooklaw08.PoolPlays', WHERE WHAT IT READS IS OF BULK AT MOST 1048576: true; the input reads as it did. -/
def poolPlaysUptoRow : OpenClaim := { program := "ytmmldfipakcmaaa", sum := "10c7025e5e9f93e2dbf65ef99bfd96822511c14d47c03335eff9b74288fa2777", func := "cashbook/cashbooklaw08.PoolPlays", spec := "poolPlays", unfollowed := true, recurses := true, apart := false, narrowed := true }
def PoolPlaysUptoSaid : Prop := poolPlaysUptoRow.holds Try.pinned (OpenSpec.upto poolPlaysSpec)

/-- 'cashbooklaw08.PoolSorts', WHERE WHAT IT READS IS OF BULK AT MOST 1048576: true; the input reads as it did. -/
def poolSortsUptoRow : OpenClaim := { program := "ytmmldfipakcmaaa", sum := "10c7025e5e9f93e2dbf65ef99bfd96822511c14d47c03335eff9b74288fa2777", func := "cashbook/cashbooklaw08.PoolSorts", spec := "poolSorts", unfollowed := true, recurses := true, apart := false, narrowed := true }
def PoolSortsUptoSaid : Prop := poolSortsUptoRow.holds Try.pinned (OpenSpec.upto poolSortsSpec)

/-- 'cashbooklaw08.PoolOwn', WHERE WHAT IT READS IS OF BULK AT MOST 1048576: true; the input reads as it did. -/
def poolOwnUptoRow : OpenClaim := { program := "ytmmldfipakcmaaa", sum := "10c7025e5e9f93e2dbf65ef99bfd96822511c14d47c03335eff9b74288fa2777", func := "cashbook/cashbooklaw08.PoolOwn", spec := "poolOwn", unfollowed := true, recurses := true, apart := false, narrowed := true }
def PoolOwnUptoSaid : Prop := poolOwnUptoRow.holds Try.pinned (OpenSpec.upto poolOwnSpec)

/-- 'cashbooklaw08.PoolCopies', WHERE WHAT IT READS IS OF BULK AT MOST 1048576: true; the input reads as it did. -/
def poolCopiesUptoRow : OpenClaim := { program := "ytmmldfipakcmaaa", sum := "10c7025e5e9f93e2dbf65ef99bfd96822511c14d47c03335eff9b74288fa2777", func := "cashbook/cashbooklaw08.PoolCopies", spec := "poolCopies", unfollowed := true, recurses := true, apart := false, narrowed := true }
def PoolCopiesUptoSaid : Prop := poolCopiesUptoRow.holds Try.pinned (OpenSpec.upto poolCopiesSpec)

end Rows
end Go.Proofs.Ytmmldfipakcmaaa
