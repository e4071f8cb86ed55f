/- A walk of a range that is broken off, and then again, and then whole tells the same from its start each time (up to 120 keys of 100 bytes). Condition: none. -/
import Derived.Test.YtmmkegapckbomaaGreatDoorCards
import Derived.Test.YtmmkegapckbomaaGreatDoorCCP2
import Derived.SevenTiedAt
import Derived.Test.YtmmkegapckbomaaGreatDoorCCP6
import Derived.Test.YtmmkegapckbomaaGreatDoorCCP1
namespace Go.Proofs.YtmmkegapckbomaaGreatDoor.cursorStops
open Go.ChangeShapes Go.WideShapes Go.ChangeAt Go.RowKit Go.Pt
set_option linter.unusedVariables false

set_option maxRecDepth 100000 in
theorem lifted (os : Os) (started : os.Started) (H : Type) (enc : TypeId × Value → H) :
    ReturnsInHanded {} Tryz.checked os 7 .any (fun w args => (Rows.cursorStopsSpec.pre enc Tryz.prog Tryz.f7 [] false w args ∧ laidMetH Tryz.prog laidH w) ∧ sizedMet enc Tryz.prog Tryz.f7 (OpenSpec.ofChange Rows.cursorStopsSpec) false w args) (Rows.cursorStopsSpec.post enc Tryz.prog Tryz.f7 false true false false) := by
  refine returnsInHanded_of_change_and (C := Tryz.checked) (X := fun w _ => laidMetH Tryz.prog laidH w) (fun _ _ _ hh h => h.of_heap hh) quD started (by kernel_rfl) Tryz.func7
    (ChangeSpec.witness_shaped (enc := enc) (C := Tryz.checked) (os := os) (X := fun w _ => laidMetH Tryz.prog laidH w) false (World.doorLaid Tryz.prog 4000 os) #[.agg #[.int .i64 0, .slice none 0 0, .slice none 0 0, .slice none 0 0, .slice none 0 0, .bool false], .int .u8 0] 8 rfl (World.shaped_of_RefB (by kernel_rfl) (by kernel_rfl)) (by kernel_rfl) (by kernel_rfl) (by kernel_rfl) (qsK os _)) ?_
  intro W base args ds gs before hval0 hW _ _ hL _
  have hval : ∀ (j : Nat) t v, Tryz.f7.params[j]? = some t → args[j]? = some v → Value.okWide Tryz.prog W .any base t v := hval0
  have hW' := hW
  obtain ⟨p, q, hA0, hV, rfl, hfz, hnd⟩ := hW
  have hA : DataW.TrodAll enc Tryz.prog W 0 (fun _ => true) true Tryz.f7.params.toList args.toList ds p := hA0
  rw [Tryz.params7] at hA hval
  obtain ⟨v0, vs0, d0, ds0, p0, q0, hargs, rfl, rfl, h0, r0⟩ := trodAll_cons hA
  obtain ⟨v1, vs1, d1, ds1, p1, q1, rfl, rfl, rfl, h1, r1⟩ := trodAll_cons r0
  obtain ⟨rfl, rfl, rfl⟩ := trodAll_nil r1
  obtain rfl : args = #[v0, v1] := by cases args; simp_all
  have hv := qpr hL
  clear hA0 hval0
  obtain ⟨x0, rfl, hx0⟩ := qsi (P := Tryz.prog) (t := 49) (cs := qql) (by kernel_rfl) (by kernel_rfl) (by kernel_rfl) (hval 0 49 v0 rfl rfl)
  obtain ⟨m0, t0⟩ := h0
  obtain ⟨rows, cuts, frm, to, g0⟩ := qsA t0
  obtain ⟨x1, rfl, hx1⟩ := qsM (P := Tryz.prog) (t := 5) (c := .int .u8) (by kernel_rfl) rfl (hval 1 5 v1 rfl rfl)
  refine Calls.mono (qlh (K := fun b w' => b = true ∧ Fr [] W w') (qpq hx1) hv g0 fun w' h => ⟨rfl, h⟩) ?_
  rintro e W' ⟨x, rfl, rfl, hf⟩
  exact ⟨_, rfl, qr7 (s := Rows.cursorStopsSpec) (tb := 4) rfl hW' ⟨rfl, rfl, rfl⟩ qq1 (by kernel_rfl) rfl (by kernel_rfl) hf.below⟩

theorem over : Rows.cursorStopsRow.holds Tryz.pinned (OpenSpec.ofChange Rows.cursorStopsSpec) :=
  OpenClaim.holds_of_wide 7 Tryz.f7 rfl rfl rfl rfl rfl rfl rfl ⟨rfl, rfl, rfl, rfl, rfl⟩ rfl rfl rfl rfl rfl (by kernel_rfl) Tryz.func7 (by kernel_rfl)
    (of_decide_eq_true (by kernel_rfl)) (by unfold Func.isWrapper; first | (rw [if_pos (by decide +kernel)]; kernel_rfl) | (rw [if_neg (by decide +kernel)]; exact ⟨rfl, rfl⟩))
    (fun os started H enc _ => lifted os started H enc)

/-- ████ THE STATEMENT ████ -/
theorem proved : Rows.CursorStopsCardSaid :=
  Claim7.holds_tied_plain_at .later [] [.data] true (Rows.cursorStopsCard.stood.harness) true
    over (fun _ h => by cases h) (by kernel_rfl) (fun _ h => by cases h) cursorStops_row_tie rfl ⟨rfl, rfl⟩ (by kernel_rfl) rfl
    (fun f fn hf hfn => by
      obtain rfl : f = 7 := Option.some.inj ((show Tryz.prog.funcNamed "cashbook/cashbooklaw13.CursorStops" = some 7 by kernel_rfl).symm.trans hf) |>.symm
      obtain rfl : fn = Tryz.f7 := (Option.some.inj (Tryz.func7.symm.trans hfn)).symm
      exact ⟨by kernel_rfl, fun j t ht => by
        rw [Tryz.params7] at ht
        have hm : t ∈ [49, 5] := by simpa using Array.mem_of_getElem? ht
        have hall : ([49, 5].all fun u => !Tryz.prog.wantsStandIn u) = true := by kernel_rfl
        exact (show Tryz.prog.wantsStandIn t = false by simpa using List.all_eq_true.1 hall t hm)⟩)
    (by kernel_rfl)
#print axioms proved
end Go.Proofs.YtmmkegapckbomaaGreatDoor.cursorStops
