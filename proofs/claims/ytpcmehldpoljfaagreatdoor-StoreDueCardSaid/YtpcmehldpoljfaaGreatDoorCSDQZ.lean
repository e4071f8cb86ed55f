/- Behind any operations those that expire up to any time, the first ones, are the document's (up to 60 operations). Condition: none. -/
import Derived.Test.YtpcmehldpoljfaaGreatDoorCards
import Derived.Test.YtpcmehldpoljfaaGreatDoorCSDQ3
import Derived.SevenTiedAt
import Derived.Test.YtpcmehldpoljfaaGreatDoorCSDQ1
import Derived.Test.YtpcmehldpoljfaaGreatDoorCSDQ7
namespace Go.Proofs.YtpcmehldpoljfaaGreatDoor.storeDue
open Go.ChangeShapes Go.WideShapes Go.ChangeAt Go.RowKit Go.Pt
set_option linter.unusedVariables false

set_option maxRecDepth 100000 in
theorem lifted (os : Os) (started : os.Started) (H : Type) (enc : TypeId × Value → H) :
    ReturnsInHanded {} Tryz.checked os 3 .any (fun w args => (Rows.storeDueSpec.pre enc Tryz.prog Tryz.f3 [] false w args ∧ laidMetH Tryz.prog qj w) ∧ sizedMet enc Tryz.prog Tryz.f3 (OpenSpec.ofChange Rows.storeDueSpec) false w args) (Rows.storeDueSpec.post enc Tryz.prog Tryz.f3 false true false false) := by
  refine returnsInHanded_of_change_and (C := Tryz.checked) (X := fun w _ => laidMetH Tryz.prog qj w) (fun _ _ _ hh h => h.of_heap hh) qz3 started (by kernel_rfl) Tryz.func3
    (ChangeSpec.witness_shaped (enc := enc) (C := Tryz.checked) (os := os) (X := fun w _ => laidMetH Tryz.prog qj w) false (World.doorLaid Tryz.prog 4000 os) #[.slice none 0 0, .int .u64 0, .int .i64 0] 8 rfl (World.shaped_of_RefB (by kernel_rfl) (by kernel_rfl)) (by kernel_rfl) (by kernel_rfl) (by kernel_rfl) (qxn os _)) ?_
  intro W base args ds gs before hval0 hW _ _ hL _
  have hval : ∀ (j : Nat) t v, Tryz.f3.params[j]? = some t → args[j]? = some v → Value.okWide Tryz.prog W .any base t v := hval0
  have hW' := hW
  obtain ⟨p, q, hA0, hV, rfl, hfz, hnd⟩ := hW
  have hA : DataW.TrodAll enc Tryz.prog W 0 (fun _ => true) true Tryz.f3.params.toList args.toList ds p := hA0
  rw [Tryz.params3] at hA hval
  obtain ⟨v0, vs0, d0, ds0, p0, q0, hargs, rfl, rfl, h0, r0⟩ := trodAll_cons hA
  obtain ⟨v1, vs1, d1, ds1, p1, q1, rfl, rfl, rfl, h1, r1⟩ := trodAll_cons r0
  obtain ⟨v2, vs2, d2, ds2, p2, q2, rfl, rfl, rfl, h2, r2⟩ := trodAll_cons r1
  obtain ⟨rfl, rfl, rfl⟩ := trodAll_nil r2
  obtain rfl : args = #[v0, v1, v2] := by cases args; simp_all
  have hv := quu hL
  clear hA0 hval0
  obtain ⟨x0, rfl, hx0⟩ := Dr (P := Tryz.prog) (t := 22) (c := .slice) (by kernel_rfl) rfl (hval 0 22 v0 rfl rfl)
  obtain ⟨m0, t0⟩ := h0
  obtain ⟨l0, g0, e0⟩ := qwN (P := Tryz.prog) (t := 22) (e := 81) (s := x0) (k := 52) (encB := tC) (by kernel_rfl) (by kernel_rfl) (by decide) qyz t0
  obtain ⟨x1, rfl, hx1⟩ := Dr (P := Tryz.prog) (t := 23) (c := .int .u64) (by kernel_rfl) rfl (hval 1 23 v1 rfl rfl)
  obtain ⟨x2, rfl, hx2⟩ := Dr (P := Tryz.prog) (t := 3) (c := .int .i64) (by kernel_rfl) rfl (hval 2 3 v2 rfl rfl)
  refine Calls.mono (qsh (K := fun b w' => b = true ∧ Fr [] W w') hv g0 e0 hx1 fun w' h => ⟨rfl, h⟩) ?_
  rintro e W' ⟨x, rfl, rfl, hf⟩
  exact ⟨_, rfl, qxD (s := Rows.storeDueSpec) (tb := 4) rfl hW' ⟨rfl, rfl, rfl⟩ qv8 (by kernel_rfl) rfl (by kernel_rfl) hf.below⟩

/-! The closed facts in three parts: one by one they are within the kernel's memory. -/
theorem cl1 : (Rows.storeDueRow.wf (OpenSpec.ofChange Rows.storeDueSpec) && laidOutB Tryz.prog && mapsRowed Tryz.prog && Tryz.f3.params.all (Tryz.prog.readableRec ·) && namedTie Tryz.prog Rows.storeDueRow.named Rows.storeDueSpec.vars && (Rows.storeDueRow.stops == []) && (Tryz.prog.stops == []) && (Rows.storeDueRow.knobs == []) && (Tryz.prog.stopKnobs == [])) = true := by kernel_rfl
theorem cl2 : (true && (Rows.storeDueRow.inPlace == Tryz.prog.inPlace 3) && (Rows.storeDueRow.unfollowed == Tryz.prog.unfollowed 3)) = true := by kernel_rfl
theorem cl3 : (true && (Rows.storeDueRow.recurses == Tryz.prog.recurses 3) && (Rows.storeDueRow.named == Tryz.prog.varsNamed 3)) = true := by kernel_rfl
theorem cl4 : joinedFacts Tryz.prog 3 Tryz.f3 Rows.storeDueSpec Rows.storeDueRow = true := by unfold joinedFacts; rw [cl1, cl2, cl3]; kernel_rfl

theorem over : Rows.storeDueRow.holds Tryz.pinned (OpenSpec.ofChange Rows.storeDueSpec) :=
  OpenClaim.holds_of_wide 3 Tryz.f3 rfl rfl rfl rfl rfl rfl rfl ⟨rfl, rfl, rfl, rfl, rfl⟩ rfl rfl rfl rfl rfl (by kernel_rfl) Tryz.func3 cl4
    (of_decide_eq_true (by kernel_rfl)) (by unfold Func.isWrapper; first | (rw [if_pos (by decide +kernel)]; kernel_rfl) | (rw [if_neg (by decide +kernel)]; exact ⟨rfl, rfl⟩))
    (fun os started H enc _ => lifted os started H enc)

/-- ████ THE STATEMENT ████ -/
theorem proved : Rows.StoreDueCardSaid :=
  Claim7.holds_tied_plain_at .later [] [.data] true (Rows.storeDueCard.stood.harness) true
    over (fun _ h => by cases h) (by kernel_rfl) (fun _ h => by cases h) storeDue_row_tie rfl ⟨rfl, rfl⟩ (by kernel_rfl) rfl
    (fun f fn hf hfn => by
      obtain rfl : f = 3 := Option.some.inj ((show Tryz.prog.funcNamed "cashbook/cashbooklaw16.StoreDue" = some 3 by kernel_rfl).symm.trans hf) |>.symm
      obtain rfl : fn = Tryz.f3 := (Option.some.inj (Tryz.func3.symm.trans hfn)).symm
      exact ⟨by kernel_rfl, fun j t ht => by
        rw [Tryz.params3] at ht
        have hm : t ∈ [22, 23, 3] := by simpa using Array.mem_of_getElem? ht
        have hall : ([22, 23, 3].all fun u => !Tryz.prog.wantsStandIn u) = true := by kernel_rfl
        exact (show Tryz.prog.wantsStandIn t = false by simpa using List.all_eq_true.1 hall t hm)⟩)
    (by kernel_rfl)
#print axioms proved
end Go.Proofs.YtpcmehldpoljfaaGreatDoor.storeDue
