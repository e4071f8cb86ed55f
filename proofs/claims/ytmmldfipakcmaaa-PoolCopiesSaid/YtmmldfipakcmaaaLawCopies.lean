/- What is done to a copy of a pool is nothing to the first one, and the other way about. Condition: none. -/
import Derived.Test.YtmmldfipakcmaaaRows
import Derived.Test.YtmmldfipakcmaaaPtP
import Derived.Test.YtmmldfipakcmaaaPlG
namespace Go.Proofs.Ytmmldfipakcmaaa.poolCopies
open Go.ChangeShapes Go.WideShapes Go.ChangeAt Go.RowKit Go.Pt
set_option linter.unusedVariables false

theorem own : ownKnob Try.prog.godebug = none := by kernel_rfl
theorem laidOut : laidOutB Try.prog = true := by kernel_rfl

set_option maxRecDepth 100000 in
theorem lifted (os : Os) (started : os.Started) (H : Type) (enc : TypeId × Value → H) :
    ReturnsInHanded {} Try.checked os 8 .any (Rows.poolCopiesSpec.pre6 enc Try.prog Try.f8 Rows.poolCopiesRow.domain false) (Rows.poolCopiesSpec.post enc Try.prog Try.f8 false true false false) := by
  refine returnsInHanded_of_change (C := Try.checked) own started (by kernel_rfl) Try.func8
    (ChangeSpec.witness6 (enc := enc) (C := Try.checked) false ⟨#[], #[.slice none 0 0, .slice none 0 0, .slice none 0 0], []⟩ 8 (by kernel_rfl) (by kernel_rfl) (by kernel_rfl) (by kernel_rfl)) ?_
  intro W base args ds gs before hval0 hW hcnd _
  have hval : ∀ (j : Nat) t v, Try.f8.params[j]? = some t → args[j]? = some v → Value.okWide Try.prog W .any base t v := hval0
  have hW' := hW
  obtain ⟨p, q, hA0, hV, rfl, hfz, hnd⟩ := hW
  have hA : DataW.TrodAll enc Try.prog W 0 (fun _ => true) true Try.f8.params.toList args.toList ds p := hA0
  rw [Try.params8] at hA hval
  obtain ⟨v0, vs0, d0, ds0, p0, q0, hargs, rfl, rfl, h0, r0⟩ := trodAll_cons hA
  obtain ⟨v1, vs1, d1, ds1, p1, q1, rfl, rfl, rfl, h1, r1⟩ := trodAll_cons r0
  obtain ⟨v2, vs2, d2, ds2, p2, q2, rfl, rfl, rfl, h2, r2⟩ := trodAll_cons r1
  obtain ⟨rfl, rfl, rfl⟩ := trodAll_nil r2
  obtain rfl : args = #[v0, v1, v2] := by cases args; simp_all
  clear hA0 hval0
  obtain ⟨x0, rfl, hx0⟩ := one_open (P := Try.prog) (t := 41) (c := .slice) (by kernel_rfl) rfl (hval 0 41 v0 rfl rfl)
  obtain ⟨m0, t0⟩ := h0
  obtain ⟨l0, g0, e0⟩ := trod_rows (P := Try.prog) (t := 41) (e := 46) (s := x0) (k := 2) (encB := HL.mk (opC)) (by kernel_rfl) (by kernel_rfl) (by decide) (elem_flat (cs := opC) (by kernel_rfl)) t0
  obtain ⟨x1, rfl, hx1⟩ := one_open (P := Try.prog) (t := 41) (c := .slice) (by kernel_rfl) rfl (hval 1 41 v1 rfl rfl)
  obtain ⟨m1, t1⟩ := h1
  obtain ⟨l1, g1, e1⟩ := trod_rows (P := Try.prog) (t := 41) (e := 46) (s := x1) (k := 2) (encB := HL.mk (opC)) (by kernel_rfl) (by kernel_rfl) (by decide) (elem_flat (cs := opC) (by kernel_rfl)) t1
  obtain ⟨x2, rfl, hx2⟩ := one_open (P := Try.prog) (t := 41) (c := .slice) (by kernel_rfl) rfl (hval 2 41 v2 rfl rfl)
  obtain ⟨m2, t2⟩ := h2
  obtain ⟨l2, g2, e2⟩ := trod_rows (P := Try.prog) (t := 41) (e := 46) (s := x2) (k := 2) (encB := HL.mk (opC)) (by kernel_rfl) (by kernel_rfl) (by decide) (elem_flat (cs := opC) (by kernel_rfl)) t2
  refine Calls.mono (PoolCopies_ok g0 g1 g2 (K := fun b w' => b = true ∧ Fr [] W w') fun w' h => ⟨rfl, h⟩) ?_
  rintro e W' ⟨x, rfl, rfl, hf⟩
  exact ⟨_, rfl, law_post (s := Rows.poolCopiesSpec) (tb := 4) rfl hW' ⟨rfl, rfl, rfl⟩ laidOut (by kernel_rfl) rfl (by kernel_rfl) hf.below⟩

theorem over : Rows.poolCopiesRow.holds Try.pinned (OpenSpec.ofChange Rows.poolCopiesSpec) :=
  OpenClaim.holds_of_wide 8 Try.f8 rfl rfl rfl rfl rfl rfl rfl ⟨rfl, rfl, rfl, rfl, rfl⟩ rfl rfl rfl rfl rfl (by kernel_rfl) Try.func8 (by kernel_rfl)
    (of_decide_eq_true (by kernel_rfl)) (by unfold Func.isWrapper; first | (rw [if_pos (by decide +kernel)]; kernel_rfl) | (rw [if_neg (by decide +kernel)]; exact ⟨rfl, rfl⟩))
    (fun os started H enc _ => lifted os started H enc)

/-- ████ THE STATEMENT ████ -/
theorem proved : Rows.PoolCopiesSaid :=
  over
#print axioms proved
end Go.Proofs.Ytmmldfipakcmaaa.poolCopies
