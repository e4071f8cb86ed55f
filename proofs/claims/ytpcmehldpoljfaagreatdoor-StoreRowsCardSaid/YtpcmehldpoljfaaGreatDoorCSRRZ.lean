/- Behind any operations an account's balances between any stamps are the document's, in order; whoever stops early has the first ones (up to 60 operations). Condition: none. -/
import Derived.Test.YtpcmehldpoljfaaGreatDoorCards
import Derived.Test.YtpcmehldpoljfaaGreatDoorCSRR3
import Derived.SevenTiedAt
import Derived.Test.YtpcmehldpoljfaaGreatDoorCSRR1
import Derived.Test.YtpcmehldpoljfaaGreatDoorCSRR7
namespace Go.Proofs.YtpcmehldpoljfaaGreatDoor.storeRows
open Go.ChangeShapes Go.WideShapes Go.ChangeAt Go.RowKit Go.Pt
set_option linter.unusedVariables false

set_option maxRecDepth 100000 in
theorem lifted (os : Os) (started : os.Started) (H : Type) (enc : IM × IL → H) :
    ReturnsInHanded {} Tryz.checked os 5 .any (λw args => (Rows.storeRowsSpec.pre enc Tryz.prog Tryz.f5 [] false w args ∧ laidMetH Tryz.prog rH w) ∧ sizedMet enc Tryz.prog Tryz.f5 (OpenSpec.ofChange Rows.storeRowsSpec) false w args) (Rows.storeRowsSpec.post enc Tryz.prog Tryz.f5 false true false false) := by
  refine returnsInHanded_of_change_and (C := Tryz.checked) (X := λw _ => laidMetH Tryz.prog rH w) (λ_ _ _ hh h => h.of_heap hh) qAX started (by kernel_rfl) Tryz.func5
    (ChangeSpec.witness_shaped (enc := enc) (C := Tryz.checked) (os := os) (X := λw _ => laidMetH Tryz.prog rH w) false (World.doorLaid Tryz.prog 4000 os) #[.slice none 0 0, .agg #[.w 0, .w 0, .w 0, .w 0, .bool false, .int .u8 0, .int .u8 0]] 8 rfl (World.shaped_of_RefB (by kernel_rfl) (by kernel_rfl)) (by kernel_rfl) (by kernel_rfl) (by kernel_rfl) (qx7 os _)) ?_
  intro W base args ds gs before hval0 hW _ _ hL _;have hval : ∀ (j : Nat) t v, Tryz.f5.params[j]? = some t → args[j]? = some v → Value.okWide Tryz.prog W .any base t v := hval0;have hW' := hW;obtain ⟨p, q, hA0, hV, rfl, hfz, hnd⟩ := hW;have hA : DataW.TrodAll enc Tryz.prog W 0 (λ_ => true) true Tryz.f5.params.toList args.toList ds p := hA0;rw [Tryz.params5] at hA hval;obtain ⟨v0, vs0, d0, ds0, p0, q0, hargs, rfl, rfl, h0, r0⟩ := trodAll_cons hA;obtain ⟨v1, vs1, d1, ds1, p1, q1, rfl, rfl, rfl, h1, r1⟩ := trodAll_cons r0;obtain ⟨rfl, rfl, rfl⟩ := trodAll_nil r1;obtain rfl : args = #[v0, v1] := by cases args; simp_all
  have hv := qu9 hL
  clear hA0 hval0
  obtain ⟨x0, rfl, hx0⟩ := qyt (P := Tryz.prog) (t := 22) (c := .slice) (by kernel_rfl) rfl (hval 0 22 v0 rfl rfl);obtain ⟨m0, t0⟩ := h0;obtain ⟨l0, g0, e0⟩ := qxw (P := Tryz.prog) (t := 22) (e := 81) (s := x0) (k := 52) (encB := uR) (by kernel_rfl) (by kernel_rfl) (by decide) qzm t0;obtain ⟨x1, rfl, hx1⟩ := qxW (P := Tryz.prog) (t := 44) (cs := sV) (by kernel_rfl) (by kernel_rfl) (by kernel_rfl) (hval 1 44 v1 rfl rfl);refine Calls.mono (qrh (K := λb w' => b = true ∧ Fr [] W w') hv g0 e0 hx1 λw' h => ⟨rfl, h⟩) ?_;rintro e W' ⟨x, rfl, rfl, hf⟩;exact ⟨_, rfl, qym (s := Rows.storeRowsSpec) (tb := 4) rfl hW' ⟨rfl, rfl, rfl⟩ qwO (by kernel_rfl) rfl (by kernel_rfl) hf.below⟩

/-! The closed facts in three parts: one by one they are within the kernel's memory. -/
theorem cl1 : (Rows.storeRowsRow.wf (OpenSpec.ofChange Rows.storeRowsSpec) && laidOutB Tryz.prog && mapsRowed Tryz.prog && Tryz.f5.params.all (Tryz.prog.readableRec ·) && namedTie Tryz.prog Rows.storeRowsRow.named Rows.storeRowsSpec.vars && (Rows.storeRowsRow.stops == []) && (Tryz.prog.stops == []) && (Rows.storeRowsRow.knobs == []) && (Tryz.prog.stopKnobs == [])) = true := by kernel_rfl
theorem cl2 : (true && (Rows.storeRowsRow.inPlace == Tryz.prog.inPlace 5) && (Rows.storeRowsRow.unfollowed == Tryz.prog.unfollowed 5)) = true := by kernel_rfl
theorem cl3 : (true && (Rows.storeRowsRow.recurses == Tryz.prog.recurses 5) && (Rows.storeRowsRow.named == Tryz.prog.varsNamed 5)) = true := by kernel_rfl
theorem cl4 : joinedFacts Tryz.prog 5 Tryz.f5 Rows.storeRowsSpec Rows.storeRowsRow = true := by unfold joinedFacts; rw [cl1, cl2, cl3]; kernel_rfl

theorem over : Rows.storeRowsRow.holds Tryz.pinned (OpenSpec.ofChange Rows.storeRowsSpec) :=
  OpenClaim.holds_of_wide 5 Tryz.f5 rfl rfl rfl rfl rfl rfl rfl ⟨rfl, rfl, rfl, rfl, rfl⟩ rfl rfl rfl rfl rfl (by kernel_rfl) Tryz.func5 cl4
    (of_decide_eq_true (by kernel_rfl)) (by unfold Func.isWrapper; first | (rw [iP (by decide +kernel)]; kernel_rfl) | (rw [iN (by decide +kernel)]; exact ⟨rfl, rfl⟩))
    (λos started H enc _ => lifted os started H enc)

/-- ████ THE STATEMENT ████ -/
theorem proved : Rows.StoreRowsCardSaid :=
  Claim7.holds_tied_plain_at .later [] [.data] true (Rows.storeRowsCard.stood.harness) true
    over (λ_ h => by cases h) (by kernel_rfl) (λ_ h => by cases h) storeRows_row_tie rfl ⟨rfl, rfl⟩ (by kernel_rfl) rfl
    (λf fn hf hfn => by
      obtain rfl : f = 5 := Option.some.inj ((show Tryz.prog.funcNamed "cashbook/cashbooklaw16.StoreRows" = some 5 by kernel_rfl).symm.trans hf) |>.symm;obtain rfl : fn = Tryz.f5 := (Option.some.inj (Tryz.func5.symm.trans hfn)).symm;exact ⟨by kernel_rfl,λj t ht => by
        rw [Tryz.params5] at ht;have hm : t ∈ [22, 44] := by simpa using Array.mem_of_getElem? ht
        have hall : ([22, 44].all λu => !Tryz.prog.wantsStandIn u) = true := by kernel_rfl
        exact (show Tryz.prog.wantsStandIn t = false by simpa using List.all_eq_true.1 hall t hm)⟩)
    (by kernel_rfl)
#print axioms proved
end Go.Proofs.YtpcmehldpoljfaaGreatDoor.storeRows
