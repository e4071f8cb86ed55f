/- Whenever the disk falls, and whatever it loses: opened again it is, as a whole, at the last commit that was answered OK, or at the one that was under way. Condition: none. -/
import Derived.Test.YtmbcedengdoamaaGreatDoorCards
import Derived.Test.YtmbcedengdoamaaGreatDoorCCrash2
import Derived.SevenTiedAt
import Derived.Test.YtmbcedengdoamaaGreatDoorCCrash5
import Derived.Test.YtmbcedengdoamaaGreatDoorCCrash1
namespace Go.Proofs.YtmbcedengdoamaaGreatDoor.pagerCrash
open Go.ChangeShapes Go.WideShapes Go.ChangeAt Go.RowKit Go.Pt
set_option linter.unusedVariables false

set_option maxRecDepth 100000 in
theorem lifted (os : Os) (started : os.Started) (H : Type) (enc : TypeId × Value → H) :
    ReturnsInHanded {} Tryz.checked os 4 .any (fun w args => (Rows.pagerCrashSpec.pre enc Tryz.prog Tryz.f4 [] false w args ∧ laidMetH Tryz.prog laidH w) ∧ sizedMet enc Tryz.prog Tryz.f4 (OpenSpec.ofChange Rows.pagerCrashSpec) false w args) (Rows.pagerCrashSpec.post enc Tryz.prog Tryz.f4 false true false false) := by
  refine returnsInHanded_of_change_and (C := Tryz.checked) (X := fun w _ => laidMetH Tryz.prog laidH w) (fun _ _ _ hh h => h.of_heap hh) qt9 started (by kernel_rfl) Tryz.func4
    (ChangeSpec.witness_shaped (enc := enc) (C := Tryz.checked) (os := os) (X := fun w _ => laidMetH Tryz.prog laidH w) false (World.doorLaid Tryz.prog 4000 os) #[.slice none 0 0, .int .u8 0, .slice none 0 0] 8 rfl (World.shaped_of_RefB (by kernel_rfl) (by kernel_rfl)) (by kernel_rfl) (by kernel_rfl) (by kernel_rfl) (qso os _)) ?_
  intro W base args ds gs before hval0 hW _ _ hL _
  have hval : ∀ (j : Nat) t v, Tryz.f4.params[j]? = some t → args[j]? = some v → Value.okWide Tryz.prog W .any base t v := hval0
  have hW' := hW
  obtain ⟨p, q, hA0, hV, rfl, hfz, hnd⟩ := hW
  have hA : DataW.TrodAll enc Tryz.prog W 0 (fun _ => true) true Tryz.f4.params.toList args.toList ds p := hA0
  rw [Tryz.params4] at hA hval
  obtain ⟨v0, vs0, d0, ds0, p0, q0, hargs, rfl, rfl, h0, r0⟩ := trodAll_cons hA
  obtain ⟨v1, vs1, d1, ds1, p1, q1, rfl, rfl, rfl, h1, r1⟩ := trodAll_cons r0
  obtain ⟨v2, vs2, d2, ds2, p2, q2, rfl, rfl, rfl, h2, r2⟩ := trodAll_cons r1
  obtain ⟨rfl, rfl, rfl⟩ := trodAll_nil r2
  obtain rfl : args = #[v0, v1, v2] := by cases args; simp_all
  have hv := qql hL
  clear hA0 hval0
  obtain ⟨x0, rfl, hx0⟩ := qj3 (P := Tryz.prog) (t := 39) (c := .slice) (by kernel_rfl) rfl (hval 0 39 v0 rfl rfl)
  obtain ⟨m0, t0⟩ := h0
  obtain ⟨l0, g0, e0⟩ := qfa (P := Tryz.prog) (t := 39) (e := 52) (s := x0) (k := 6) (encB := HL.mk ([.int .u8, .int .u32, .int .u8, .slice, .int .u16, .slice])) (by kernel_rfl) (by kernel_rfl) (by decide) (qhI (cs := [.int .u8, .int .u32, .int .u8, .slice, .int .u16, .slice]) (by kernel_rfl)) t0
  obtain ⟨x1, rfl, hx1⟩ := qj3 (P := Tryz.prog) (t := 5) (c := .int .u8) (by kernel_rfl) rfl (hval 1 5 v1 rfl rfl)
  obtain ⟨x2, rfl, hx2⟩ := qj3 (P := Tryz.prog) (t := 40) (c := .slice) (by kernel_rfl) rfl (hval 2 40 v2 rfl rfl)
  obtain ⟨m2, t2⟩ := h2
  obtain ⟨l2, g2, e2⟩ := qfa (P := Tryz.prog) (t := 40) (e := 136) (s := x2) (k := 2) (encB := HL.mk ([.int .i64, .int .i64])) (by kernel_rfl) (by kernel_rfl) (by decide) (qhI (cs := [.int .i64, .int .i64]) (by kernel_rfl)) t2
  refine Calls.mono (qmL (K := fun b w' => b = true ∧ Fr [] W w') hv (qnc hx1) g0 (fun o ho => quj (e0 o ho)) g2 fun w' h => ⟨rfl, h⟩) ?_
  rintro e W' ⟨x, rfl, rfl, hf⟩
  exact ⟨_, rfl, qsC (s := Rows.pagerCrashSpec) (tb := 4) rfl hW' ⟨rfl, rfl, rfl⟩ qrL (by kernel_rfl) rfl (by kernel_rfl) hf.below⟩

theorem over : Rows.pagerCrashRow.holds Tryz.pinned (OpenSpec.ofChange Rows.pagerCrashSpec) :=
  OpenClaim.holds_of_wide 4 Tryz.f4 rfl rfl rfl rfl rfl rfl rfl ⟨rfl, rfl, rfl, rfl, rfl⟩ rfl rfl rfl rfl rfl (by kernel_rfl) Tryz.func4 (by kernel_rfl)
    (of_decide_eq_true (by kernel_rfl)) (by unfold Func.isWrapper; first | (rw [if_pos (by decide +kernel)]; kernel_rfl) | (rw [if_neg (by decide +kernel)]; exact ⟨rfl, rfl⟩))
    (fun os started H enc _ => lifted os started H enc)

/-- ████ THE STATEMENT ████ -/
theorem proved : Rows.PagerCrashCardSaid :=
  Claim7.holds_tied_plain_at .later [] [.data] true (Rows.pagerCrashCard.stood.harness) true
    over (fun _ h => by cases h) (by kernel_rfl) (fun _ h => by cases h) pagerCrash_row_tie rfl ⟨rfl, rfl⟩ (by kernel_rfl) rfl
    (fun f fn hf hfn => by
      obtain rfl : f = 4 := Option.some.inj ((show Tryz.prog.funcNamed "cashbook/cashbooklaw10.PagerCrash" = some 4 by kernel_rfl).symm.trans hf) |>.symm
      obtain rfl : fn = Tryz.f4 := (Option.some.inj (Tryz.func4.symm.trans hfn)).symm
      exact ⟨by kernel_rfl, fun j t ht => by
        rw [Tryz.params4] at ht
        have hm : t ∈ [39, 5, 40] := by simpa using Array.mem_of_getElem? ht
        have hall : ([39, 5, 40].all fun u => !Tryz.prog.wantsStandIn u) = true := by kernel_rfl
        exact (show Tryz.prog.wantsStandIn t = false by simpa using List.all_eq_true.1 hall t hm)⟩)
    (by kernel_rfl)
#print axioms proved
end Go.Proofs.YtmbcedengdoamaaGreatDoor.pagerCrash
