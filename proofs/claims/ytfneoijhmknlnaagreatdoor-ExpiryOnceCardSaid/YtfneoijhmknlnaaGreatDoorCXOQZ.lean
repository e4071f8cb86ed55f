/- Pulses of a few at a time leave the balances that one of as many at once leaves (up to 8 accounts, 25 pending transfers). Condition: none. -/
import Derived.Test.YtfneoijhmknlnaaGreatDoorCards
import Derived.Test.YtfneoijhmknlnaaGreatDoorCXOQ4
import Derived.SevenTiedAt
import Derived.Test.YtfneoijhmknlnaaGreatDoorCXOQ1
import Derived.Test.YtfneoijhmknlnaaGreatDoorCXOQ7
namespace Go.Proofs.YtfneoijhmknlnaaGreatDoor.expiryOnce
open Go.ChangeShapes Go.WideShapes Go.ChangeAt Go.RowKit Go.Pt
set_option linter.unusedVariables false

set_option maxRecDepth 100000 in
theorem lifted (os : Os) (started : os.Started) (H : Type) (enc : TypeId × Value → H) :
    ReturnsInHanded {} Tryz.checked os 3 .any (fun w args => (Rows.expiryOnceSpec.pre enc Tryz.prog Tryz.f3 [] false w args ∧ laidMetH Tryz.prog rR w) ∧ sizedMet enc Tryz.prog Tryz.f3 (OpenSpec.ofChange Rows.expiryOnceSpec) false w args) (Rows.expiryOnceSpec.post enc Tryz.prog Tryz.f3 false true false false) := by
  refine returnsInHanded_of_change_and (C := Tryz.checked) (X := fun w _ => laidMetH Tryz.prog rR w) (fun _ _ _ hh h => h.of_heap hh) qBk started (by kernel_rfl) Tryz.func3
    (ChangeSpec.witness_shaped (enc := enc) (C := Tryz.checked) (os := os) (X := fun w _ => laidMetH Tryz.prog rR w) false (World.doorLaid Tryz.prog 4000 os) #[.agg #[.slice none 0 0, .slice none 0 0], .int .u64 0, .int .u8 0] 8 rfl (World.shaped_of_RefB (by kernel_rfl) (by kernel_rfl)) (by kernel_rfl) (by kernel_rfl) (by kernel_rfl) (qyr os _)) ?_
  intro W base args ds gs before hval0 hW _ _ hL _
  have hval : ∀ (j : Nat) t v, Tryz.f3.params[j]? = some t → args[j]? = some v → Value.okWide Tryz.prog W .any base t v := hval0
  have hW' := hW
  obtain ⟨p, q, hA0, hV, rfl, hfz, hnd⟩ := hW
  have hA : DataW.TrodAll enc Tryz.prog W 0 (fun _ => true) true Tryz.f3.params.toList args.toList ds p := hA0
  rw [Tryz.params3] at hA hval
  obtain ⟨v0, vs0, d0, ds0, p0, q0, hargs, rfl, rfl, h0, r0⟩ := trodAll_cons hA
  obtain ⟨v1, vs1, d1, ds1, p1, q1, rfl, rfl, rfl, h1, r1⟩ := trodAll_cons r0
  obtain ⟨v2, vs2, d2, ds2, p2, q2, rfl, rfl, rfl, h2, r2⟩ := trodAll_cons r1
  obtain ⟨rfl, rfl, rfl⟩ := trodAll_nil r2
  obtain rfl : args = #[v0, v1, v2] := by cases args; simp_all
  have hv := qvo hL
  clear hA0 hval0
  obtain ⟨x0, rfl, hx0⟩ := qyb (P := Tryz.prog) (t := 25) (cs := [Cell.slice, Cell.slice]) (by kernel_rfl) (by kernel_rfl) (by kernel_rfl) (hval 0 25 v0 rfl rfl)
  obtain ⟨m0, t0⟩ := h0
  obtain ⟨la, lp, ⟨g0a, e0a⟩, g0b, e0b⟩ := qBf t0
  obtain ⟨x1, rfl, hx1⟩ := qsp (P := Tryz.prog) (t := 26) (c := .int .u64) (by kernel_rfl) rfl (hval 1 26 v1 rfl rfl)
  obtain ⟨x2, rfl, hx2⟩ := qsp (P := Tryz.prog) (t := 5) (c := .int .u8) (by kernel_rfl) rfl (hval 2 5 v2 rfl rfl)
  refine Calls.mono (qqX (K := fun b w' => b = true ∧ Fr [] W w') hv g0a e0a g0b e0b hx1 (FC hx2) fun w' h => ⟨rfl, h⟩) ?_
  rintro e W' ⟨x, rfl, rfl, hf⟩
  exact ⟨_, rfl, qyG (s := Rows.expiryOnceSpec) (tb := 4) rfl hW' ⟨rfl, rfl, rfl⟩ qw4 (by kernel_rfl) rfl (by kernel_rfl) hf.below⟩

theorem over : Rows.expiryOnceRow.holds Tryz.pinned (OpenSpec.ofChange Rows.expiryOnceSpec) :=
  OpenClaim.holds_of_wide 3 Tryz.f3 rfl rfl rfl rfl rfl rfl rfl ⟨rfl, rfl, rfl, rfl, rfl⟩ rfl rfl rfl rfl rfl (by kernel_rfl) Tryz.func3 (by kernel_rfl)
    (of_decide_eq_true (by kernel_rfl)) (by unfold Func.isWrapper; first | (rw [if_pos (by decide +kernel)]; kernel_rfl) | (rw [if_neg (by decide +kernel)]; exact ⟨rfl, rfl⟩))
    (fun os started H enc _ => lifted os started H enc)

/-- ████ THE STATEMENT ████ -/
theorem proved : Rows.ExpiryOnceCardSaid :=
  Claim7.holds_tied_plain_at .later [] [.data] true (Rows.expiryOnceCard.stood.harness) true
    over (fun _ h => by cases h) (by kernel_rfl) (fun _ h => by cases h) expiryOnce_row_tie rfl ⟨rfl, rfl⟩ (by kernel_rfl) rfl
    (fun f fn hf hfn => by
      obtain rfl : f = 3 := Option.some.inj ((show Tryz.prog.funcNamed "cashbook/cashbooklaw22.ExpiryOnce" = some 3 by kernel_rfl).symm.trans hf) |>.symm
      obtain rfl : fn = Tryz.f3 := (Option.some.inj (Tryz.func3.symm.trans hfn)).symm
      exact ⟨by kernel_rfl, fun j t ht => by
        rw [Tryz.params3] at ht
        have hm : t ∈ [25, 26, 5] := by simpa using Array.mem_of_getElem? ht
        have hall : ([25, 26, 5].all fun u => !Tryz.prog.wantsStandIn u) = true := by kernel_rfl
        exact (show Tryz.prog.wantsStandIn t = false by simpa using List.all_eq_true.1 hall t hm)⟩)
    (by kernel_rfl)
#print axioms proved
end Go.Proofs.YtfneoijhmknlnaaGreatDoor.expiryOnce
