/- Whoever writes into the numbers that were told changes nothing of a pool. Condition: none. -/
import Derived.Test.YtmmldfipakcmaaaRows
import Derived.Test.YtmmldfipakcmaaaPtP
import Derived.Test.YtmmldfipakcmaaaPlG
namespace Go.Proofs.Ytmmldfipakcmaaa.poolOwn
open Go.ChangeShapes Go.WideShapes Go.ChangeAt Go.RowKit Go.Pt
set_option linter.unusedVariables false

theorem own : ownKnob Try.prog.godebug = none := by kernel_rfl
theorem laidOut : laidOutB Try.prog = true := by kernel_rfl

set_option maxRecDepth 100000 in
theorem lifted (os : Os) (started : os.Started) (H : Type) (enc : TypeId × Value → H) :
    ReturnsInHanded {} Try.checked os 7 .any (Rows.poolOwnSpec.pre6 enc Try.prog Try.f7 Rows.poolOwnRow.domain false) (Rows.poolOwnSpec.post enc Try.prog Try.f7 false true false false) := by
  refine returnsInHanded_of_change (C := Try.checked) own started (by kernel_rfl) Try.func7
    (ChangeSpec.witness6 (enc := enc) (C := Try.checked) false ⟨#[], #[.slice none 0 0, .int .u32 0], []⟩ 8 (by kernel_rfl) (by kernel_rfl) (by kernel_rfl) (by kernel_rfl)) ?_
  intro W base args ds gs before hval0 hW hcnd _
  have hval : ∀ (j : Nat) t v, Try.f7.params[j]? = some t → args[j]? = some v → Value.okWide Try.prog W .any base t v := hval0
  have hW' := hW
  obtain ⟨p, q, hA0, hV, rfl, hfz, hnd⟩ := hW
  have hA : DataW.TrodAll enc Try.prog W 0 (fun _ => true) true Try.f7.params.toList args.toList ds p := hA0
  rw [Try.params7] at hA hval
  obtain ⟨v0, vs0, d0, ds0, p0, q0, hargs, rfl, rfl, h0, r0⟩ := trodAll_cons hA
  obtain ⟨v1, vs1, d1, ds1, p1, q1, rfl, rfl, rfl, h1, r1⟩ := trodAll_cons r0
  obtain ⟨rfl, rfl, rfl⟩ := trodAll_nil r1
  obtain rfl : args = #[v0, v1] := by cases args; simp_all
  clear hA0 hval0
  obtain ⟨x0, rfl, hx0⟩ := one_open (P := Try.prog) (t := 41) (c := .slice) (by kernel_rfl) rfl (hval 0 41 v0 rfl rfl)
  obtain ⟨m0, t0⟩ := h0
  obtain ⟨l0, g0, e0⟩ := trod_rows (P := Try.prog) (t := 41) (e := 46) (s := x0) (k := 2) (encB := HL.mk (opC)) (by kernel_rfl) (by kernel_rfl) (by decide) (elem_flat (cs := opC) (by kernel_rfl)) t0
  obtain ⟨x1, rfl, hx1⟩ := one_open (P := Try.prog) (t := 31) (c := .int .u32) (by kernel_rfl) rfl (hval 1 31 v1 rfl rfl)
  refine Calls.mono (PoolOwn_ok g0 (K := fun b w' => b = true ∧ Fr [] W w') fun w' h => ⟨rfl, h⟩) ?_
  rintro e W' ⟨x, rfl, rfl, hf⟩
  exact ⟨_, rfl, law_post (s := Rows.poolOwnSpec) (tb := 4) rfl hW' ⟨rfl, rfl, rfl⟩ laidOut (by kernel_rfl) rfl (by kernel_rfl) hf.below⟩

theorem over : Rows.poolOwnRow.holds Try.pinned (OpenSpec.ofChange Rows.poolOwnSpec) :=
  OpenClaim.holds_of_wide 7 Try.f7 rfl rfl rfl rfl rfl rfl rfl ⟨rfl, rfl, rfl, rfl, rfl⟩ rfl rfl rfl rfl rfl (by kernel_rfl) Try.func7 (by kernel_rfl)
    (of_decide_eq_true (by kernel_rfl)) (by unfold Func.isWrapper; first | (rw [if_pos (by decide +kernel)]; kernel_rfl) | (rw [if_neg (by decide +kernel)]; exact ⟨rfl, rfl⟩))
    (fun os started H enc _ => lifted os started H enc)

/-- ████ THE STATEMENT ████ -/
theorem proved : Rows.PoolOwnSaid :=
  over
#print axioms proved
end Go.Proofs.Ytmmldfipakcmaaa.poolOwn
