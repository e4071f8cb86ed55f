/- A batch all of whose events were made is refused as a whole, if it is handed in again, and changes nothing but the last stamp (up to 15 batches of 30 events). Condition: none. -/
import Derived.Test.YtcnddmfogfebiaaGreatDoorCards
import Derived.Test.YtcnddmfogfebiaaGreatDoorCLBT3
import Derived.SevenTiedAt
import Derived.Test.YtcnddmfogfebiaaGreatDoorCLBT1
import Derived.Test.YtcnddmfogfebiaaGreatDoorCLBT6
namespace Go.Proofs.YtcnddmfogfebiaaGreatDoor.ledgerAgain
open Go.ChangeShapes Go.WideShapes Go.ChangeAt Go.RowKit Go.Pt
set_option linter.unusedVariables false

set_option maxRecDepth 100000 in
theorem lifted (os : Os) (started : os.Started) (H : Type) (enc : Mf × Me → H) :
    ReturnsInHanded {} Tryz.checked os 6 .any (λw args => (Rows.ledgerAgainSpec.pre enc Tryz.prog Tryz.f6 [] false w args ∧ laidMetH Tryz.prog uH w) ∧ sizedMet enc Tryz.prog Tryz.f6 (OpenSpec.ofChange Rows.ledgerAgainSpec) false w args) (Rows.ledgerAgainSpec.post enc Tryz.prog Tryz.f6 false true false false) := by
  refine returnsInHanded_of_change_and (C := Tryz.checked) (X := λw _ => laidMetH Tryz.prog uH w) (λ_ _ _ hh h => h.of_heap hh) qFB started (by kernel_rfl) Tryz.func6
    (ChangeSpec.witness_shaped (enc := enc) (C := Tryz.checked) (os := os) (X := λw _ => laidMetH Tryz.prog uH w) false (World.doorLaid Tryz.prog 4000 os) #[.slice none 0 0, .agg #[.slice none 0 0, .slice none 0 0, .int .u16 0]] 8 rfl (World.shaped_of_RefB (by kernel_rfl) (by kernel_rfl)) (by kernel_rfl) (by kernel_rfl) (by kernel_rfl) (qB5 os _)) ?_
  intro W base args ds gs before hval0 hW _ _ hL _;have hval : ∀ (j : Nat) t v, Tryz.f6.params[j]? = some t → args[j]? = some v → Value.okWide Tryz.prog W .any base t v := hval0;have hW' := hW;obtain ⟨p, q, hA0, hV, rfl, hfz, hnd⟩ := hW;have hA : DataW.TrodAll enc Tryz.prog W 0 (λ_ => true) true Tryz.f6.params.toList args.toList ds p := hA0;rw [Tryz.params6] at hA hval;obtain ⟨v0, vs0, d0, ds0, p0, q0, hargs, rfl, rfl, h0, r0⟩ := trodAll_cons hA;obtain ⟨v1, vs1, d1, ds1, p1, q1, rfl, rfl, rfl, h1, r1⟩ := trodAll_cons r0;obtain ⟨rfl, rfl, rfl⟩ := trodAll_nil r1;obtain rfl : args = #[v0, v1] := by cases args; simp_all
  have hv := qx4 hL
  clear hA0 hval0
  obtain ⟨x0, rfl, hx0⟩ := qCx (P := Tryz.prog) (t := 22) (c := .slice) (by kernel_rfl) rfl (hval 0 22 v0 rfl rfl);obtain ⟨m0, t0⟩ := h0;obtain ⟨ss0, l0, g0, e0⟩ := qDz t0;obtain ⟨x1, rfl, hx1⟩ := qBO (P := Tryz.prog) (t := 52) (cs := nG) (by kernel_rfl) (by kernel_rfl) (by kernel_rfl) (hval 1 52 v1 rfl rfl);obtain ⟨m1, t1⟩ := h1;obtain ⟨z1, g1, e1⟩ := qEI hx1 t1;refine Calls.mono (qqI (K := λb w' => b = true ∧ Fr [] W w') hv g0 e0 g1 e1 λw' h => ⟨rfl, h⟩) ?_;rintro e W' ⟨x, rfl, rfl, hf⟩;exact ⟨_, rfl, qCk (s := Rows.ledgerAgainSpec) (tb := 4) rfl hW' ⟨rfl, rfl, rfl⟩ qAd (by kernel_rfl) rfl (by kernel_rfl) hf.below⟩

/-! The closed facts in three parts: one by one they are within the kernel's memory. -/
theorem cl1 : (Rows.ledgerAgainRow.wf (OpenSpec.ofChange Rows.ledgerAgainSpec) && laidOutB Tryz.prog && mapsRowed Tryz.prog && Tryz.f6.params.all (Tryz.prog.readableRec ·) && namedTie Tryz.prog Rows.ledgerAgainRow.named Rows.ledgerAgainSpec.vars && (Rows.ledgerAgainRow.stops == []) && (Tryz.prog.stops == []) && (Rows.ledgerAgainRow.knobs == []) && (Tryz.prog.stopKnobs == [])) = true := by kernel_rfl
theorem cl2 : (true && (Rows.ledgerAgainRow.inPlace == Tryz.prog.inPlace 6) && (Rows.ledgerAgainRow.unfollowed == Tryz.prog.unfollowed 6)) = true := by kernel_rfl
theorem cl3 : (true && (Rows.ledgerAgainRow.recurses == Tryz.prog.recurses 6) && (Rows.ledgerAgainRow.named == Tryz.prog.varsNamed 6)) = true := by kernel_rfl
theorem cl4 : joinedFacts Tryz.prog 6 Tryz.f6 Rows.ledgerAgainSpec Rows.ledgerAgainRow = true := by unfold joinedFacts; rw [cl1, cl2, cl3]; kernel_rfl

theorem over : Rows.ledgerAgainRow.holds Tryz.pinned (OpenSpec.ofChange Rows.ledgerAgainSpec) :=
  OpenClaim.holds_of_wide 6 Tryz.f6 rfl rfl rfl rfl rfl rfl rfl ⟨rfl, rfl, rfl, rfl, rfl⟩ rfl rfl rfl rfl rfl (by kernel_rfl) Tryz.func6 cl4
    (of_decide_eq_true (by kernel_rfl)) (by unfold Func.isWrapper; first | (rw [iP (by decide +kernel)]; kernel_rfl) | (rw [iN (by decide +kernel)]; exact ⟨rfl, rfl⟩))
    (λos started H enc _ => lifted os started H enc)

/-- ████ THE STATEMENT ████ -/
theorem proved : Rows.LedgerAgainCardSaid :=
  Claim7.holds_tied_plain_at .later [] [.data] true (Rows.ledgerAgainCard.stood.harness) true
    over (λ_ h => by cases h) (by kernel_rfl) (λ_ h => by cases h) ledgerAgain_row_tie rfl ⟨rfl, rfl⟩ (by kernel_rfl) rfl
    (λf fn hf hfn => by
      obtain rfl : f = 6 := Option.some.inj ((show Tryz.prog.funcNamed "cashbook/cashbooklaw23.LedgerAgain" = some 6 by kernel_rfl).symm.trans hf) |>.symm;obtain rfl : fn = Tryz.f6 := (Option.some.inj (Tryz.func6.symm.trans hfn)).symm;exact ⟨by kernel_rfl,λj t ht => by
        rw [Tryz.params6] at ht;have hm : t ∈ [22, 52] := by simpa using Array.mem_of_getElem? ht
        have hall : ([22, 52].all λu => !Tryz.prog.wantsStandIn u) = true := by kernel_rfl
        exact (show Tryz.prog.wantsStandIn t = false by simpa using List.all_eq_true.1 hall t hm)⟩)
    (by kernel_rfl)
#print axioms proved
end Go.Proofs.YtcnddmfogfebiaaGreatDoor.ledgerAgain
