/- What expires leaves all accounts together with just as much less pending as it had, on both sides; behind one pulse without a bound nothing is due any more (up to 8 accounts, 25 pending transfers). Condition: none. -/
import Derived.Test.YtfneoijhmknlnaaGreatDoorCards
import Derived.Test.YtfneoijhmknlnaaGreatDoorCXBQ4
import Derived.SevenTiedAt
import Derived.Test.YtfneoijhmknlnaaGreatDoorCXBQ1
import Derived.Test.YtfneoijhmknlnaaGreatDoorCXBQ7
namespace Go.Proofs.YtfneoijhmknlnaaGreatDoor.expiryBack
open Go.ChangeShapes Go.WideShapes Go.ChangeAt Go.RowKit Go.Pt
set_option linter.unusedVariables false

set_option maxRecDepth 100000 in
theorem lifted (os : Os) (started : os.Started) (H : Type) (enc : TypeId × Value → H) :
    ReturnsInHanded {} Tryz.checked os 4 .any (fun w args => (Rows.expiryBackSpec.pre enc Tryz.prog Tryz.f4 [] false w args ∧ laidMetH Tryz.prog ss w) ∧ sizedMet enc Tryz.prog Tryz.f4 (OpenSpec.ofChange Rows.expiryBackSpec) false w args) (Rows.expiryBackSpec.post enc Tryz.prog Tryz.f4 false true false false) := by
  refine returnsInHanded_of_change_and (C := Tryz.checked) (X := fun w _ => laidMetH Tryz.prog ss w) (fun _ _ _ hh h => h.of_heap hh) qBs started (by kernel_rfl) Tryz.func4
    (ChangeSpec.witness_shaped (enc := enc) (C := Tryz.checked) (os := os) (X := fun w _ => laidMetH Tryz.prog ss w) false (World.doorLaid Tryz.prog 4000 os) #[.agg #[.slice none 0 0, .slice none 0 0], .int .u64 0] 8 rfl (World.shaped_of_RefB (by kernel_rfl) (by kernel_rfl)) (by kernel_rfl) (by kernel_rfl) (by kernel_rfl) (qyx os _)) ?_
  intro W base args ds gs before hval0 hW _ _ hL _
  have hval : ∀ (j : Nat) t v, Tryz.f4.params[j]? = some t → args[j]? = some v → Value.okWide Tryz.prog W .any base t v := hval0
  have hW' := hW
  obtain ⟨p, q, hA0, hV, rfl, hfz, hnd⟩ := hW
  have hA : DataW.TrodAll enc Tryz.prog W 0 (fun _ => true) true Tryz.f4.params.toList args.toList ds p := hA0
  rw [Tryz.params4] at hA hval
  obtain ⟨v0, vs0, d0, ds0, p0, q0, hargs, rfl, rfl, h0, r0⟩ := trodAll_cons hA
  obtain ⟨v1, vs1, d1, ds1, p1, q1, rfl, rfl, rfl, h1, r1⟩ := trodAll_cons r0
  obtain ⟨rfl, rfl, rfl⟩ := trodAll_nil r1
  obtain rfl : args = #[v0, v1] := by cases args; simp_all
  have hv := qvt hL
  clear hA0 hval0
  obtain ⟨x0, rfl, hx0⟩ := qyh (P := Tryz.prog) (t := 25) (cs := [Cell.slice, Cell.slice]) (by kernel_rfl) (by kernel_rfl) (by kernel_rfl) (hval 0 25 v0 rfl rfl)
  obtain ⟨m0, t0⟩ := h0
  obtain ⟨la, lp, ⟨g0a, e0a⟩, g0b, e0b⟩ := qBn t0
  obtain ⟨x1, rfl, hx1⟩ := qyT (P := Tryz.prog) (t := 26) (c := .int .u64) (by kernel_rfl) rfl (hval 1 26 v1 rfl rfl)
  refine Calls.mono (qq2 (K := fun b w' => b = true ∧ Fr [] W w') hv g0a e0a g0b e0b hx1 fun w' h => ⟨rfl, h⟩) ?_
  rintro e W' ⟨x, rfl, rfl, hf⟩
  exact ⟨_, rfl, qyM (s := Rows.expiryBackSpec) (tb := 4) rfl hW' ⟨rfl, rfl, rfl⟩ qw7 (by kernel_rfl) rfl (by kernel_rfl) hf.below⟩

theorem over : Rows.expiryBackRow.holds Tryz.pinned (OpenSpec.ofChange Rows.expiryBackSpec) :=
  OpenClaim.holds_of_wide 4 Tryz.f4 rfl rfl rfl rfl rfl rfl rfl ⟨rfl, rfl, rfl, rfl, rfl⟩ rfl rfl rfl rfl rfl (by kernel_rfl) Tryz.func4 (by kernel_rfl)
    (of_decide_eq_true (by kernel_rfl)) (by unfold Func.isWrapper; first | (rw [if_pos (by decide +kernel)]; kernel_rfl) | (rw [if_neg (by decide +kernel)]; exact ⟨rfl, rfl⟩))
    (fun os started H enc _ => lifted os started H enc)

/-- ████ THE STATEMENT ████ -/
theorem proved : Rows.ExpiryBackCardSaid :=
  Claim7.holds_tied_plain_at .later [] [.data] true (Rows.expiryBackCard.stood.harness) true
    over (fun _ h => by cases h) (by kernel_rfl) (fun _ h => by cases h) expiryBack_row_tie rfl ⟨rfl, rfl⟩ (by kernel_rfl) rfl
    (fun f fn hf hfn => by
      obtain rfl : f = 4 := Option.some.inj ((show Tryz.prog.funcNamed "cashbook/cashbooklaw22.ExpiryBack" = some 4 by kernel_rfl).symm.trans hf) |>.symm
      obtain rfl : fn = Tryz.f4 := (Option.some.inj (Tryz.func4.symm.trans hfn)).symm
      exact ⟨by kernel_rfl, fun j t ht => by
        rw [Tryz.params4] at ht
        have hm : t ∈ [25, 26] := by simpa using Array.mem_of_getElem? ht
        have hall : ([25, 26].all fun u => !Tryz.prog.wantsStandIn u) = true := by kernel_rfl
        exact (show Tryz.prog.wantsStandIn t = false by simpa using List.all_eq_true.1 hall t hm)⟩)
    (by kernel_rfl)
#print axioms proved
end Go.Proofs.YtfneoijhmknlnaaGreatDoor.expiryBack
