/- What any disk is opened as, or why it isn't, is the document's. Condition: none. -/
import Derived.Test.YtmbcedengdoamaaGreatDoorCards
import Derived.Test.YtmbcedengdoamaaGreatDoorCOpens2
import Derived.SevenTiedAt
import Derived.Test.YtmbcedengdoamaaGreatDoorCOpens6
import Derived.Test.YtmbcedengdoamaaGreatDoorCOpens1
namespace Go.Proofs.YtmbcedengdoamaaGreatDoor.pagerOpens
open Go.ChangeShapes Go.WideShapes Go.ChangeAt Go.RowKit Go.Pt
set_option linter.unusedVariables false

set_option maxRecDepth 100000 in
theorem lifted (os : Os) (started : os.Started) (H : Type) (enc : TypeId × Value → H) :
    ReturnsInHanded {} Tryz.checked os 5 .any (fun w args => (Rows.pagerOpensSpec.pre enc Tryz.prog Tryz.f5 [] false w args ∧ laidMetH Tryz.prog laidH w) ∧ sizedMet enc Tryz.prog Tryz.f5 (OpenSpec.ofChange Rows.pagerOpensSpec) false w args) (Rows.pagerOpensSpec.post enc Tryz.prog Tryz.f5 false true false false) := by
  refine returnsInHanded_of_change_and (C := Tryz.checked) (X := fun w _ => laidMetH Tryz.prog laidH w) (fun _ _ _ hh h => h.of_heap hh) qtL started (by kernel_rfl) Tryz.func5
    (ChangeSpec.witness_shaped (enc := enc) (C := Tryz.checked) (os := os) (X := fun w _ => laidMetH Tryz.prog laidH w) false (World.doorLaid Tryz.prog 4000 os) #[.slice none 0 0, .slice none 0 0] 8 rfl (World.shaped_of_RefB (by kernel_rfl) (by kernel_rfl)) (by kernel_rfl) (by kernel_rfl) (by kernel_rfl) (qrS os _)) ?_
  intro W base args ds gs before hval0 hW _ _ hL _
  have hval : ∀ (j : Nat) t v, Tryz.f5.params[j]? = some t → args[j]? = some v → Value.okWide Tryz.prog W .any base t v := hval0
  have hW' := hW
  obtain ⟨p, q, hA0, hV, rfl, hfz, hnd⟩ := hW
  have hA : DataW.TrodAll enc Tryz.prog W 0 (fun _ => true) true Tryz.f5.params.toList args.toList ds p := hA0
  rw [Tryz.params5] at hA hval
  obtain ⟨v0, vs0, d0, ds0, p0, q0, hargs, rfl, rfl, h0, r0⟩ := trodAll_cons hA
  obtain ⟨v1, vs1, d1, ds1, p1, q1, rfl, rfl, rfl, h1, r1⟩ := trodAll_cons r0
  obtain ⟨rfl, rfl, rfl⟩ := trodAll_nil r1
  obtain rfl : args = #[v0, v1] := by cases args; simp_all
  have hv := qqe hL
  clear hA0 hval0
  obtain ⟨x0, rfl, hx0⟩ := qoX (P := Tryz.prog) (t := 39) (c := .slice) (by kernel_rfl) rfl (hval 0 39 v0 rfl rfl)
  obtain ⟨m0, t0⟩ := h0
  obtain ⟨l0, g0, e0⟩ := qhi (P := Tryz.prog) (t := 39) (e := 52) (s := x0) (k := 6) (encB := HL.mk ([.int .u8, .int .u32, .int .u8, .slice, .int .u16, .slice])) (by kernel_rfl) (by kernel_rfl) (by decide) (qke (cs := [.int .u8, .int .u32, .int .u8, .slice, .int .u16, .slice]) (by kernel_rfl)) t0
  obtain ⟨x1, rfl, hx1⟩ := qoX (P := Tryz.prog) (t := 39) (c := .slice) (by kernel_rfl) rfl (hval 1 39 v1 rfl rfl)
  obtain ⟨m1, t1⟩ := h1
  obtain ⟨l1, g1, e1⟩ := qhi (P := Tryz.prog) (t := 39) (e := 52) (s := x1) (k := 6) (encB := HL.mk ([.int .u8, .int .u32, .int .u8, .slice, .int .u16, .slice])) (by kernel_rfl) (by kernel_rfl) (by decide) (qke (cs := [.int .u8, .int .u32, .int .u8, .slice, .int .u16, .slice]) (by kernel_rfl)) t1
  refine Calls.mono (qnx (K := fun b w' => b = true ∧ Fr [] W w') hv g0 (fun o ho => qst (e0 o ho)) g1 (fun o ho => qst (e1 o ho)) fun w' h => ⟨rfl, h⟩) ?_
  rintro e W' ⟨x, rfl, rfl, hf⟩
  exact ⟨_, rfl, qsc (s := Rows.pagerOpensSpec) (tb := 4) rfl hW' ⟨rfl, rfl, rfl⟩ qrd (by kernel_rfl) rfl (by kernel_rfl) hf.below⟩

theorem over : Rows.pagerOpensRow.holds Tryz.pinned (OpenSpec.ofChange Rows.pagerOpensSpec) :=
  OpenClaim.holds_of_wide 5 Tryz.f5 rfl rfl rfl rfl rfl rfl rfl ⟨rfl, rfl, rfl, rfl, rfl⟩ rfl rfl rfl rfl rfl (by kernel_rfl) Tryz.func5 (by kernel_rfl)
    (of_decide_eq_true (by kernel_rfl)) (by unfold Func.isWrapper; first | (rw [if_pos (by decide +kernel)]; kernel_rfl) | (rw [if_neg (by decide +kernel)]; exact ⟨rfl, rfl⟩))
    (fun os started H enc _ => lifted os started H enc)

/-- ████ THE STATEMENT ████ -/
theorem proved : Rows.PagerOpensCardSaid :=
  Claim7.holds_tied_plain_at .later [] [.data] true (Rows.pagerOpensCard.stood.harness) true
    over (fun _ h => by cases h) (by kernel_rfl) (fun _ h => by cases h) pagerOpens_row_tie rfl ⟨rfl, rfl⟩ (by kernel_rfl) rfl
    (fun f fn hf hfn => by
      obtain rfl : f = 5 := Option.some.inj ((show Tryz.prog.funcNamed "cashbook/cashbooklaw10.PagerOpens" = some 5 by kernel_rfl).symm.trans hf) |>.symm
      obtain rfl : fn = Tryz.f5 := (Option.some.inj (Tryz.func5.symm.trans hfn)).symm
      exact ⟨by kernel_rfl, fun j t ht => by
        rw [Tryz.params5] at ht
        have hm : t ∈ [39, 39] := by simpa using Array.mem_of_getElem? ht
        have hall : ([39, 39].all fun u => !Tryz.prog.wantsStandIn u) = true := by kernel_rfl
        exact (show Tryz.prog.wantsStandIn t = false by simpa using List.all_eq_true.1 hall t hm)⟩)
    (by kernel_rfl)
#print axioms proved
end Go.Proofs.YtmbcedengdoamaaGreatDoor.pagerOpens
