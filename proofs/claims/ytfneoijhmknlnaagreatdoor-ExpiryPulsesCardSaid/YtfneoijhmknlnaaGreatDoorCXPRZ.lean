/- What expires of any sound store, one pulse behind the other, and what is kept then, is the document's (up to 8 accounts, 25 pending transfers, 20 pulses). Condition: none. -/
import Derived.Test.YtfneoijhmknlnaaGreatDoorCards
import Derived.Test.YtfneoijhmknlnaaGreatDoorCXPR4
import Derived.SevenTiedAt
import Derived.Test.YtfneoijhmknlnaaGreatDoorCXPR1
import Derived.Test.YtfneoijhmknlnaaGreatDoorCXPR7
import Derived.Test.YtfneoijhmknlnaaGreatDoorCXPR8
namespace Go.Proofs.YtfneoijhmknlnaaGreatDoor.expiryPulses
open Go.ChangeShapes Go.WideShapes Go.ChangeAt Go.RowKit Go.Pt
set_option linter.unusedVariables false

set_option maxRecDepth 100000 in
theorem lifted (os : Os) (started : os.Started) (H : Type) (enc : Kx × Kw → H) :
    ReturnsInHanded {} Tryz.checked os 5 .any (λw args => (Rows.expiryPulsesSpec.pre enc Tryz.prog Tryz.f5 [] false w args ∧ laidMetH Tryz.prog tT w) ∧ sizedMet enc Tryz.prog Tryz.f5 (OpenSpec.ofChange Rows.expiryPulsesSpec) false w args) (Rows.expiryPulsesSpec.post enc Tryz.prog Tryz.f5 false true false false) := by
  refine returnsInHanded_of_change_and (C := Tryz.checked) (X := λw _ => laidMetH Tryz.prog tT w) (λ_ _ _ hh h => h.of_heap hh) qCu started (by kernel_rfl) Tryz.func5
    (ChangeSpec.witness_shaped (enc := enc) (C := Tryz.checked) (os := os) (X := λw _ => laidMetH Tryz.prog tT w) false (World.doorLaid Tryz.prog 4000 os) #[.agg #[.slice none 0 0, .slice none 0 0], .slice none 0 0, .int .u8 0] 8 rfl (World.shaped_of_RefB (by kernel_rfl) (by kernel_rfl)) (by kernel_rfl) (by kernel_rfl) (by kernel_rfl) (qzu os _)) ?_
  intro W base args ds gs before hval0 hW _ _ hL _;have hval : ∀ (j : Nat) t v, Tryz.f5.params[j]? = some t → args[j]? = some v → Value.okWide Tryz.prog W .any base t v := hval0;have hW' := hW;obtain ⟨p, q, hA0, hV, rfl, hfz, hnd⟩ := hW;have hA : DataW.TrodAll enc Tryz.prog W 0 (λ_ => true) true Tryz.f5.params.toList args.toList ds p := hA0;rw [Tryz.params5] at hA hval;obtain ⟨v0, vs0, d0, ds0, p0, q0, hargs, rfl, rfl, h0, r0⟩ := trodAll_cons hA;obtain ⟨v1, vs1, d1, ds1, p1, q1, rfl, rfl, rfl, h1, r1⟩ := trodAll_cons r0;obtain ⟨v2, vs2, d2, ds2, p2, q2, rfl, rfl, rfl, h2, r2⟩ := trodAll_cons r1;obtain ⟨rfl, rfl, rfl⟩ := trodAll_nil r2;obtain rfl : args = #[v0, v1, v2] := by cases args; simp_all
  have hv := qwo hL
  clear hA0 hval0
  obtain ⟨x0, rfl, hx0⟩ := qzf (P := Tryz.prog) (t := 25) (cs := [Cell.slice, Cell.slice]) (by kernel_rfl) (by kernel_rfl) (by kernel_rfl) (hval 0 25 v0 rfl rfl);obtain ⟨m0, t0⟩ := h0;obtain ⟨la, lp, ⟨g0a, e0a⟩, g0b, e0b⟩ := qCp t0;obtain ⟨x1, rfl, hx1⟩ := qtf (P := Tryz.prog) (t := 64) (c := .slice) (by kernel_rfl) rfl (hval 1 64 v1 rfl rfl);obtain ⟨m1, t1⟩ := h1;obtain ⟨l1, g1, e1⟩ := IF (P := Tryz.prog) (t := 64) (e := 26) (s := x1) (k := 1) (encB := λn => [Value.int .u64 n]) (by kernel_rfl) (by kernel_rfl) (by decide) (qzx (k := .u64) (by kernel_rfl)) t1;obtain ⟨x2, rfl, hx2⟩ := qtf (P := Tryz.prog) (t := 5) (c := .int .u8) (by kernel_rfl) rfl (hval 2 5 v2 rfl rfl);refine Calls.mono (qom (K := λb w' => b = true ∧ Fr [] W w') hv g0a e0a g0b e0b g1 e1 (GQ hx2) λw' h => ⟨rfl, h⟩) ?_;rintro e W' ⟨x, rfl, rfl, hf⟩;exact ⟨_, rfl, qzJ (s := Rows.expiryPulsesSpec) (tb := 4) rfl hW' ⟨rfl, rfl, rfl⟩ qx5 (by kernel_rfl) rfl (by kernel_rfl) hf.below⟩

theorem over : Rows.expiryPulsesRow.holds Tryz.pinned (OpenSpec.ofChange Rows.expiryPulsesSpec) :=
  OpenClaim.holds_of_wide 5 Tryz.f5 rfl rfl rfl rfl rfl rfl rfl ⟨rfl, rfl, rfl, rfl, rfl⟩ rfl rfl rfl rfl rfl (by kernel_rfl) Tryz.func5 (by kernel_rfl)
    (of_decide_eq_true (by kernel_rfl)) (by unfold Func.isWrapper; first | (rw [iP (by decide +kernel)]; kernel_rfl) | (rw [iN (by decide +kernel)]; exact ⟨rfl, rfl⟩))
    (λos started H enc _ => lifted os started H enc)

/-- ████ THE STATEMENT ████ -/
theorem proved : Rows.ExpiryPulsesCardSaid :=
  Claim7.holds_tied_plain_at .later [] [.data] true (Rows.expiryPulsesCard.stood.harness) true
    over (λ_ h => by cases h) (by kernel_rfl) (λ_ h => by cases h) expiryPulses_row_tie rfl ⟨rfl, rfl⟩ (by kernel_rfl) rfl
    (λf fn hf hfn => by
      obtain rfl : f = 5 := Option.some.inj ((show Tryz.prog.funcNamed "cashbook/cashbooklaw22.ExpiryPulses" = some 5 by kernel_rfl).symm.trans hf) |>.symm;obtain rfl : fn = Tryz.f5 := (Option.some.inj (Tryz.func5.symm.trans hfn)).symm;exact ⟨by kernel_rfl,λj t ht => by
        rw [Tryz.params5] at ht;have hm : t ∈ [25, 64, 5] := by simpa using Array.mem_of_getElem? ht
        have hall : ([25, 64, 5].all λu => !Tryz.prog.wantsStandIn u) = true := by kernel_rfl
        exact (show Tryz.prog.wantsStandIn t = false by simpa using List.all_eq_true.1 hall t hm)⟩)
    (by kernel_rfl)
#print axioms proved
end Go.Proofs.YtfneoijhmknlnaaGreatDoor.expiryPulses
