/- container/heap over pool's row: the steps up and down. Conditions: those that stand in each line. -/
import Derived.Test.YtmmldfipakcmaaaSrtA
import Derived.Test.YtmmldfipakcmaaaFormsP
import Derived.Test.YtmmldfipakcmaaaPtL
import Derived.Test.YtmmldfipakcmaaaPtM
import Derived.Sort.LotA
import Derived.KernelRfl
set_option linter.unusedVariables false
set_option linter.unusedSimpArgs false
namespace Go.Proofs.Ytmmldfipakcmaaa
open Go Go.Pt Go.Sort
attribute [local irreducible] ld ldA st new idx idxS idxA slc slcS slcP mkS chk nn call callV inv run runQ runU join loop held IntKind.wrap

/-- A pool's block: the row's slice, and the map. -/
def plB (rb len cap : Nat) (m : Value) : Obj := .cells #[.slice (some ⟨rb, 0, none⟩) len cap, m] 69 (0, 0)

section
variable {pb rb len cap : Nat} {m : Value} {w0 w : World} {d : Array Int} {T : TypeId}

/-- The row's block is written, the pool's own is not. -/
theorem row_cell (hp : w0.heap[pb]? = some (plB rb len cap m)) (hne : rb ≠ pb) (h : Arr rb T w0 w d) : w.cell? ⟨pb, 0, none⟩ = some (.slice (some ⟨rb, 0, none⟩) len cap) := by
  have h1 : w.heap[pb]? = some (plB rb len cap m) := by
    rw [h.fr.block pb (lt_of_blk hp) (by simpa using fun e => hne e.symm)]
    exact hp
  rw [cell_of_blk h1]
  rfl

theorem mLess {i k : Nat} {K : Bool → World → Prop} (hp : w0.heap[pb]? = some (plB rb len cap m)) (hne : rb ≠ pb) (h : Arr rb T w0 w d) (hi : i < len) (hk : k < len) (hl : len ≤ d.size ∧ len ≤ 1152921504606846976)
    (hK : ∀ w', Arr rb T w0 w' d → K (ltInt d[i]! d[k]!) w') :
    inv Try.prog (.iface 74 (.pointer (some ⟨pb, 0, none⟩))) "Less" [.int .i64 i, .int .i64 k] [.one .bool] w K := by
  refine inv_val (f := 78) (by kernel_rfl) (e := 67) (by kernel_rfl) (by kernel_rfl) (by kernel_rfl) (by kernel_rfl) (row_cell hp hne h) ?_
  refine pool_row_Less_of (r := ⟨some ⟨rb, 0, none⟩, len, cap⟩) ?_
  unfold pool_row_LessF
  refine h.drew.rd i rfl hi hl ?_
  refine h.drew.rd k rfl hk hl ?_
  exact hK _ h.drew

theorem mSwap {i k : Nat} {K : Unit → World → Prop} (hp : w0.heap[pb]? = some (plB rb len cap m)) (hne : rb ≠ pb) (h : Arr rb T w0 w d) (hi : i < len) (hk : k < len) (hl : len ≤ d.size ∧ len ≤ 1152921504606846976)
    (hK : ∀ w', Arr rb T w0 w' (swp d i k) → K () w') :
    inv Try.prog (.iface 74 (.pointer (some ⟨pb, 0, none⟩))) "Swap" [.int .i64 i, .int .i64 k] [] w K := by
  refine inv_val (f := 79) (by kernel_rfl) (e := 67) (by kernel_rfl) (by kernel_rfl) (by kernel_rfl) (by kernel_rfl) (row_cell hp hne h) ?_
  refine pool_row_Swap_of (r := ⟨some ⟨rb, 0, none⟩, len, cap⟩) ?_
  unfold pool_row_SwapF
  exact h.drew.swap i k rfl rfl hi hk hl hK

theorem mLen {K : Int → World → Prop} (hp : w0.heap[pb]? = some (plB rb len cap m)) (hne : rb ≠ pb) (h : Arr rb T w0 w d) (hK : K len w) :
    inv Try.prog (.iface 74 (.pointer (some ⟨pb, 0, none⟩))) "Len" [] [.one (.int .i64)] w K := by
  refine inv_val (f := 77) (by kernel_rfl) (e := 67) (by kernel_rfl) (by kernel_rfl) (by kernel_rfl) (by kernel_rfl) (row_cell hp hne h) ?_
  refine pool_row_Len_of (r := ⟨some ⟨rb, 0, none⟩, len, cap⟩) ?_
  unfold pool_row_LenF
  exact hK

end
end Go.Proofs.Ytmmldfipakcmaaa
