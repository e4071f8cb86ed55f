/- How often any request puts and cuts, and how many pages it needs, are the document's. Condition: none. -/
import Derived.Test.YtmmldfipakcmaaaRows
import Derived.Test.YtmmldfipakcmaaaPtK
import Derived.Test.YtmmldfipakcmaaaNeedsLaw
namespace Go.Proofs.Ytmmldfipakcmaaa.reserveNeeds
open Go.ChangeShapes Go.WideShapes Go.ChangeAt Go.RowKit Go.Pt
set_option linter.unusedVariables false

theorem own : ownKnob Try.prog.godebug = none := by kernel_rfl
theorem laidOut : laidOutB Try.prog = true := by kernel_rfl

set_option maxRecDepth 100000 in
theorem lifted (os : Os) (started : os.Started) (H : Type) (enc : TypeId × Value → H) :
    ReturnsInHanded {} Try.checked os 4 .any (Rows.reserveNeedsSpec.pre6 enc Try.prog Try.f4 Rows.reserveNeedsRow.domain false) (Rows.reserveNeedsSpec.post enc Try.prog Try.f4 false true false false) := by
  refine returnsInHanded_of_change (C := Try.checked) own started (by kernel_rfl) Try.func4
    (ChangeSpec.witness6 (enc := enc) (C := Try.checked) false ⟨#[], #[.agg #[.int .i64 0, .slice none 0 0, .slice none 0 0, .slice none 0 0, .int .u64 0, .int .u64 0, .int .u64 0, .int .u64 0, .int .u32 0, .int .u32 0],
      .agg #[.int .u32 0, .int .u32 0, .int .u32 0, .int .u32 0, .int .u32 0, .int .u32 0, .int .u32 0, .int .u32 0], .int .i64 0], []⟩ 8 (by kernel_rfl) (by kernel_rfl) (by kernel_rfl) (by kernel_rfl)) ?_
  intro W base args ds gs before hval0 hW hcnd _
  have hval : ∀ (j : Nat) t v, Try.f4.params[j]? = some t → args[j]? = some v → Value.okWide Try.prog W .any base t v := hval0
  have hW' := hW
  obtain ⟨p, q, hA0, hV, rfl, hfz, hnd⟩ := hW
  have hA : DataW.TrodAll enc Try.prog W 0 (fun _ => true) true Try.f4.params.toList args.toList ds p := hA0
  rw [Try.params4] at hA hval
  obtain ⟨v0, vs0, d0, ds0, p0, q0, hargs, rfl, rfl, h0, r0⟩ := trodAll_cons hA
  obtain ⟨v1, vs1, d1, ds1, p1, q1, rfl, rfl, rfl, h1, r1⟩ := trodAll_cons r0
  obtain ⟨v2, vs2, d2, ds2, p2, q2, rfl, rfl, rfl, h2, r2⟩ := trodAll_cons r1
  obtain ⟨rfl, rfl, rfl⟩ := trodAll_nil r2
  obtain rfl : args = #[v0, v1, v2] := by cases args; simp_all
  clear hA0 hval0
  obtain ⟨r, rfl, hr⟩ := agg_open (P := Try.prog) (t := 35) (cs := rcs1) (by kernel_rfl) (by kernel_rfl) (by kernel_rfl) (hval 0 35 v0 rfl rfl)
  obtain ⟨c, rfl, hc⟩ := agg_open (P := Try.prog) (t := 36) (cs := rcs3) (by kernel_rfl) (by kernel_rfl) (by kernel_rfl) (hval 1 36 v1 rfl rfl)
  obtain ⟨b, rfl, hb⟩ := one_open (P := Try.prog) (t := 3) (c := .int .i64) (by kernel_rfl) rfl (hval 2 3 v2 rfl rfl)
  have hc8 : In8 0 4294967295 c := by
    intro j hj
    obtain ⟨k0, k1, k2, k3, k4, k5, k6, k7⟩ := hc
    rcases lt8 hj with rfl | rfl | rfl | rfl | rfl | rfl | rfl | rfl
    · exact k0
    · exact k1
    · exact k2
    · exact k3
    · exact k4
    · exact k5
    · exact k6
    · exact k7
  refine Calls.mono (ReserveNeeds_ok (r := r) (c := c) (blocks := b) (w := W) (K := fun b w' => b = true ∧ Fr [] W w') hc8 fun w' h => ⟨rfl, h⟩) ?_
  rintro e W' ⟨x, rfl, rfl, hf⟩
  exact ⟨_, rfl, law_post (s := Rows.reserveNeedsSpec) (tb := 4) rfl hW' ⟨rfl, rfl, rfl⟩ laidOut (by kernel_rfl) rfl Try.underlying4 hf.below⟩

theorem over : Rows.reserveNeedsRow.holds Try.pinned (OpenSpec.ofChange Rows.reserveNeedsSpec) :=
  OpenClaim.holds_of_wide 4 Try.f4 rfl rfl rfl rfl rfl rfl rfl ⟨rfl, rfl, rfl, rfl, rfl⟩ rfl rfl rfl rfl rfl (by kernel_rfl) Try.func4 (by kernel_rfl)
    (of_decide_eq_true (by kernel_rfl)) (by unfold Func.isWrapper; first | (rw [if_pos (by decide +kernel)]; kernel_rfl) | (rw [if_neg (by decide +kernel)]; exact ⟨rfl, rfl⟩))
    (fun os started H enc _ => lifted os started H enc)

/-- ████ THE STATEMENT ████ -/
theorem proved : Rows.ReserveNeedsSaid :=
  over
#print axioms proved
end Go.Proofs.Ytmmldfipakcmaaa.reserveNeeds
