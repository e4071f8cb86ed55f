/- What keeping any parties leaves in a store is the document's; which parties there are, too (up to 20 of them). Condition: none. -/
import Derived.Test.YtfneoijhmknlnaaGreatDoorCards
import Derived.Test.YtfneoijhmknlnaaGreatDoorCXKR4
import Derived.SevenTiedAt
import Derived.Test.YtfneoijhmknlnaaGreatDoorCXKR1
import Derived.Test.YtfneoijhmknlnaaGreatDoorCXKR7
import Derived.Test.YtfneoijhmknlnaaGreatDoorCXKR8
namespace Go.Proofs.YtfneoijhmknlnaaGreatDoor.expiryKeeps
open Go.ChangeShapes Go.WideShapes Go.ChangeAt Go.RowKit Go.Pt
set_option linter.unusedVariables false

set_option maxRecDepth 100000 in
theorem lifted (os : Os) (started : os.Started) (H : Type) (enc : Kl × Kk → H) :
    ReturnsInHanded {} Tryz.checked os 6 .any (λw args => (Rows.expiryKeepsSpec.pre enc Tryz.prog Tryz.f6 [] false w args ∧ laidMetH Tryz.prog tN w) ∧ sizedMet enc Tryz.prog Tryz.f6 (OpenSpec.ofChange Rows.expiryKeepsSpec) false w args) (Rows.expiryKeepsSpec.post enc Tryz.prog Tryz.f6 false true false false) := by
  refine returnsInHanded_of_change_and (C := Tryz.checked) (X := λw _ => laidMetH Tryz.prog tN w) (λ_ _ _ hh h => h.of_heap hh) qCi started (by kernel_rfl) Tryz.func6
    (ChangeSpec.witness_shaped (enc := enc) (C := Tryz.checked) (os := os) (X := λw _ => laidMetH Tryz.prog tN w) false (World.doorLaid Tryz.prog 4000 os) #[.slice none 0 0, .slice none 0 0] 8 rfl (World.shaped_of_RefB (by kernel_rfl) (by kernel_rfl)) (by kernel_rfl) (by kernel_rfl) (by kernel_rfl) (qzi os _)) ?_
  intro W base args ds gs before hval0 hW _ _ hL _;have hval : ∀ (j : Nat) t v, Tryz.f6.params[j]? = some t → args[j]? = some v → Value.okWide Tryz.prog W .any base t v := hval0;have hW' := hW;obtain ⟨p, q, hA0, hV, rfl, hfz, hnd⟩ := hW;have hA : DataW.TrodAll enc Tryz.prog W 0 (λ_ => true) true Tryz.f6.params.toList args.toList ds p := hA0;rw [Tryz.params6] at hA hval;obtain ⟨v0, vs0, d0, ds0, p0, q0, hargs, rfl, rfl, h0, r0⟩ := trodAll_cons hA;obtain ⟨v1, vs1, d1, ds1, p1, q1, rfl, rfl, rfl, h1, r1⟩ := trodAll_cons r0;obtain ⟨rfl, rfl, rfl⟩ := trodAll_nil r1;obtain rfl : args = #[v0, v1] := by cases args; simp_all
  have hv := qwd hL
  clear hA0 hval0
  obtain ⟨x0, rfl, hx0⟩ := qs5 (P := Tryz.prog) (t := 69) (c := .slice) (by kernel_rfl) rfl (hval 0 69 v0 rfl rfl);obtain ⟨m0, t0⟩ := h0;obtain ⟨l0, g0, e0⟩ := qrz (P := Tryz.prog) (t := 69) (e := qb) (s := x0) (k := 32) (encB := kM) (by kernel_rfl) (by kernel_rfl) (by decide) qAH t0;obtain ⟨x1, rfl, hx1⟩ := qs5 (P := Tryz.prog) (t := 64) (c := .slice) (by kernel_rfl) rfl (hval 1 64 v1 rfl rfl);obtain ⟨m1, t1⟩ := h1;obtain ⟨l1, g1, e1⟩ := qrz (P := Tryz.prog) (t := 64) (e := 26) (s := x1) (k := 1) (encB := λn => [Value.int .u64 n]) (by kernel_rfl) (by kernel_rfl) (by decide) (qzk (k := .u64) (by kernel_rfl)) t1;refine Calls.mono (qpA (K := λb w' => b = true ∧ Fr [] W w') hv g0 e0 g1 e1 λw' h => ⟨rfl, h⟩) ?_;rintro e W' ⟨x, rfl, rfl, hf⟩;exact ⟨_, rfl, qzw (s := Rows.expiryKeepsSpec) (tb := 4) rfl hW' ⟨rfl, rfl, rfl⟩ qxT (by kernel_rfl) rfl (by kernel_rfl) hf.below⟩

theorem over : Rows.expiryKeepsRow.holds Tryz.pinned (OpenSpec.ofChange Rows.expiryKeepsSpec) :=
  OpenClaim.holds_of_wide 6 Tryz.f6 rfl rfl rfl rfl rfl rfl rfl ⟨rfl, rfl, rfl, rfl, rfl⟩ rfl rfl rfl rfl rfl (by kernel_rfl) Tryz.func6 (by kernel_rfl)
    (of_decide_eq_true (by kernel_rfl)) (by unfold Func.isWrapper; first | (rw [iP (by decide +kernel)]; kernel_rfl) | (rw [iN (by decide +kernel)]; exact ⟨rfl, rfl⟩))
    (λos started H enc _ => lifted os started H enc)

/-- ████ THE STATEMENT ████ -/
theorem proved : Rows.ExpiryKeepsCardSaid :=
  Claim7.holds_tied_plain_at .later [] [.data] true (Rows.expiryKeepsCard.stood.harness) true
    over (λ_ h => by cases h) (by kernel_rfl) (λ_ h => by cases h) expiryKeeps_row_tie rfl ⟨rfl, rfl⟩ (by kernel_rfl) rfl
    (λf fn hf hfn => by
      obtain rfl : f = 6 := Option.some.inj ((show Tryz.prog.funcNamed "cashbook/cashbooklaw22.ExpiryKeeps" = some 6 by kernel_rfl).symm.trans hf) |>.symm;obtain rfl : fn = Tryz.f6 := (Option.some.inj (Tryz.func6.symm.trans hfn)).symm;exact ⟨by kernel_rfl,λj t ht => by
        rw [Tryz.params6] at ht;have hm : t ∈ [69, 64] := by simpa using Array.mem_of_getElem? ht
        have hall : ([69, 64].all λu => !Tryz.prog.wantsStandIn u) = true := by kernel_rfl
        exact (show Tryz.prog.wantsStandIn t = false by simpa using List.all_eq_true.1 hall t hm)⟩)
    (by kernel_rfl)
#print axioms proved
end Go.Proofs.YtfneoijhmknlnaaGreatDoor.expiryKeeps
