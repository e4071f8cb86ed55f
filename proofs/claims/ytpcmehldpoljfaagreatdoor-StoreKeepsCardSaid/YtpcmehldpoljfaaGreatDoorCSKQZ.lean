/- Behind any operations what is kept by each ID is the document's, and how much there is (up to 60 operations). Condition: none. -/
import Derived.Test.YtpcmehldpoljfaaGreatDoorCards
import Derived.Test.YtpcmehldpoljfaaGreatDoorCSKQ4
import Derived.SevenTiedAt
import Derived.Test.YtpcmehldpoljfaaGreatDoorCSKQ1
import Derived.Test.YtpcmehldpoljfaaGreatDoorCSKQ7
namespace Go.Proofs.YtpcmehldpoljfaaGreatDoor.storeKeeps
open Go.ChangeShapes Go.WideShapes Go.ChangeAt Go.RowKit Go.Pt
set_option linter.unusedVariables false

set_option maxRecDepth 100000 in
theorem lifted (os : Os) (started : os.Started) (H : Type) (enc : TypeId × Value → H) :
    ReturnsInHanded {} Tryz.checked os 7 .any (fun w args => (Rows.storeKeepsSpec.pre enc Tryz.prog Tryz.f7 [] false w args ∧ laidMetH Tryz.prog qA w) ∧ sizedMet enc Tryz.prog Tryz.f7 (OpenSpec.ofChange Rows.storeKeepsSpec) false w args) (Rows.storeKeepsSpec.post enc Tryz.prog Tryz.f7 false true false false) := by
  refine returnsInHanded_of_change_and (C := Tryz.checked) (X := fun w _ => laidMetH Tryz.prog qA w) (fun _ _ _ hh h => h.of_heap hh) qA8 started (by kernel_rfl) Tryz.func7
    (ChangeSpec.witness_shaped (enc := enc) (C := Tryz.checked) (os := os) (X := fun w _ => laidMetH Tryz.prog qA w) false (World.doorLaid Tryz.prog 4000 os) #[.slice none 0 0, .agg #[.int .u64 0, .int .u64 0]] 8 rfl (World.shaped_of_RefB (by kernel_rfl) (by kernel_rfl)) (by kernel_rfl) (by kernel_rfl) (by kernel_rfl) (qyj os _)) ?_
  intro W base args ds gs before hval0 hW _ _ hL _
  have hval : ∀ (j : Nat) t v, Tryz.f7.params[j]? = some t → args[j]? = some v → Value.okWide Tryz.prog W .any base t v := hval0
  have hW' := hW
  obtain ⟨p, q, hA0, hV, rfl, hfz, hnd⟩ := hW
  have hA : DataW.TrodAll enc Tryz.prog W 0 (fun _ => true) true Tryz.f7.params.toList args.toList ds p := hA0
  rw [Tryz.params7] at hA hval
  obtain ⟨v0, vs0, d0, ds0, p0, q0, hargs, rfl, rfl, h0, r0⟩ := trodAll_cons hA
  obtain ⟨v1, vs1, d1, ds1, p1, q1, rfl, rfl, rfl, h1, r1⟩ := trodAll_cons r0
  obtain ⟨rfl, rfl, rfl⟩ := trodAll_nil r1
  obtain rfl : args = #[v0, v1] := by cases args; simp_all
  have hv := qvl hL
  clear hA0 hval0
  obtain ⟨x0, rfl, hx0⟩ := qyF (P := Tryz.prog) (t := 22) (c := .slice) (by kernel_rfl) rfl (hval 0 22 v0 rfl rfl)
  obtain ⟨m0, t0⟩ := h0
  obtain ⟨l0, g0, e0⟩ := qxI (P := Tryz.prog) (t := 22) (e := 81) (s := x0) (k := 52) (encB := t7) (by kernel_rfl) (by kernel_rfl) (by decide) qzB t0
  obtain ⟨x1, rfl, hx1⟩ := qx5 (P := Tryz.prog) (t := 39) (cs := [.int .u64, .int .u64]) (by kernel_rfl) (by kernel_rfl) (by kernel_rfl) (hval 1 39 v1 rfl rfl)
  refine Calls.mono (qqT (K := fun b w' => b = true ∧ Fr [] W w') hv g0 e0 ⟨hx1.1, hx1.2⟩ fun w' h => ⟨rfl, h⟩) ?_
  rintro e W' ⟨x, rfl, rfl, hf⟩
  exact ⟨_, rfl, qyy (s := Rows.storeKeepsSpec) (tb := 4) rfl hW' ⟨rfl, rfl, rfl⟩ qw0 (by kernel_rfl) rfl (by kernel_rfl) hf.below⟩

/-! The closed facts in three parts: one by one they are within the kernel's memory. -/
theorem cl1 : (Rows.storeKeepsRow.wf (OpenSpec.ofChange Rows.storeKeepsSpec) && laidOutB Tryz.prog && mapsRowed Tryz.prog && Tryz.f7.params.all (Tryz.prog.readableRec ·) && namedTie Tryz.prog Rows.storeKeepsRow.named Rows.storeKeepsSpec.vars && (Rows.storeKeepsRow.stops == []) && (Tryz.prog.stops == []) && (Rows.storeKeepsRow.knobs == []) && (Tryz.prog.stopKnobs == [])) = true := by kernel_rfl
theorem cl2 : (true && (Rows.storeKeepsRow.inPlace == Tryz.prog.inPlace 7) && (Rows.storeKeepsRow.unfollowed == Tryz.prog.unfollowed 7)) = true := by kernel_rfl
theorem cl3 : (true && (Rows.storeKeepsRow.recurses == Tryz.prog.recurses 7) && (Rows.storeKeepsRow.named == Tryz.prog.varsNamed 7)) = true := by kernel_rfl
theorem cl4 : joinedFacts Tryz.prog 7 Tryz.f7 Rows.storeKeepsSpec Rows.storeKeepsRow = true := by unfold joinedFacts; rw [cl1, cl2, cl3]; kernel_rfl

theorem over : Rows.storeKeepsRow.holds Tryz.pinned (OpenSpec.ofChange Rows.storeKeepsSpec) :=
  OpenClaim.holds_of_wide 7 Tryz.f7 rfl rfl rfl rfl rfl rfl rfl ⟨rfl, rfl, rfl, rfl, rfl⟩ rfl rfl rfl rfl rfl (by kernel_rfl) Tryz.func7 cl4
    (of_decide_eq_true (by kernel_rfl)) (by unfold Func.isWrapper; first | (rw [if_pos (by decide +kernel)]; kernel_rfl) | (rw [if_neg (by decide +kernel)]; exact ⟨rfl, rfl⟩))
    (fun os started H enc _ => lifted os started H enc)

/-- ████ THE STATEMENT ████ -/
theorem proved : Rows.StoreKeepsCardSaid :=
  Claim7.holds_tied_plain_at .later [] [.data] true (Rows.storeKeepsCard.stood.harness) true
    over (fun _ h => by cases h) (by kernel_rfl) (fun _ h => by cases h) storeKeeps_row_tie rfl ⟨rfl, rfl⟩ (by kernel_rfl) rfl
    (fun f fn hf hfn => by
      obtain rfl : f = 7 := Option.some.inj ((show Tryz.prog.funcNamed "cashbook/cashbooklaw16.StoreKeeps" = some 7 by kernel_rfl).symm.trans hf) |>.symm
      obtain rfl : fn = Tryz.f7 := (Option.some.inj (Tryz.func7.symm.trans hfn)).symm
      exact ⟨by kernel_rfl, fun j t ht => by
        rw [Tryz.params7] at ht
        have hm : t ∈ [22, 39] := by simpa using Array.mem_of_getElem? ht
        have hall : ([22, 39].all fun u => !Tryz.prog.wantsStandIn u) = true := by kernel_rfl
        exact (show Tryz.prog.wantsStandIn t = false by simpa using List.all_eq_true.1 hall t hm)⟩)
    (by kernel_rfl)
#print axioms proved
end Go.Proofs.YtpcmehldpoljfaaGreatDoor.storeKeeps
