/- In whatever order keys are put, the tree has the same keys; put and cut again, it has what it had (up to 80 keys). Condition: none. -/
import Derived.Test.YtmmkegapckbomaaGreatDoorCards
import Derived.Test.YtmmkegapckbomaaGreatDoorCTT3
import Derived.SevenTiedAt
import Derived.Test.YtmmkegapckbomaaGreatDoorCTT4
import Derived.Test.YtmmkegapckbomaaGreatDoorCTT1
import Derived.Test.YtmmkegapckbomaaGreatDoorCTT6
namespace Go.Proofs.YtmmkegapckbomaaGreatDoor.treeTurns
open Go.ChangeShapes Go.WideShapes Go.ChangeAt Go.RowKit Go.Pt
set_option linter.unusedVariables false

set_option maxRecDepth 100000 in
theorem lifted (os : Os) (started : os.Started) (H : Type) (enc : TypeId × Value → H) :
    ReturnsInHanded {} Tryz.checked os 8 .any (fun w args => (Rows.treeTurnsSpec.pre enc Tryz.prog Tryz.f8 [] false w args ∧ laidMetH Tryz.prog laidH w) ∧ sizedMet enc Tryz.prog Tryz.f8 (OpenSpec.ofChange Rows.treeTurnsSpec) false w args) (Rows.treeTurnsSpec.post enc Tryz.prog Tryz.f8 false true false false) := by
  refine returnsInHanded_of_change_and (C := Tryz.checked) (X := fun w _ => laidMetH Tryz.prog laidH w) (fun _ _ _ hh h => h.of_heap hh) qu5 started (by kernel_rfl) Tryz.func8
    (ChangeSpec.witness_shaped (enc := enc) (C := Tryz.checked) (os := os) (X := fun w _ => laidMetH Tryz.prog laidH w) false (World.doorLaid Tryz.prog 4000 os) #[.int .u8 0, .slice none 0 0, .slice none 0 0] 8 rfl (World.shaped_of_RefB (by kernel_rfl) (by kernel_rfl)) (by kernel_rfl) (by kernel_rfl) (by kernel_rfl) (qtu os _)) ?_
  intro W base args ds gs before hval0 hW _ _ hL _
  have hval : ∀ (j : Nat) t v, Tryz.f8.params[j]? = some t → args[j]? = some v → Value.okWide Tryz.prog W .any base t v := hval0
  have hW' := hW
  obtain ⟨p, q, hA0, hV, rfl, hfz, hnd⟩ := hW
  have hA : DataW.TrodAll enc Tryz.prog W 0 (fun _ => true) true Tryz.f8.params.toList args.toList ds p := hA0
  rw [Tryz.params8] at hA hval
  obtain ⟨v0, vs0, d0, ds0, p0, q0, hargs, rfl, rfl, h0, r0⟩ := trodAll_cons hA
  obtain ⟨v1, vs1, d1, ds1, p1, q1, rfl, rfl, rfl, h1, r1⟩ := trodAll_cons r0
  obtain ⟨v2, vs2, d2, ds2, p2, q2, rfl, rfl, rfl, h2, r2⟩ := trodAll_cons r1
  obtain ⟨rfl, rfl, rfl⟩ := trodAll_nil r2
  obtain rfl : args = #[v0, v1, v2] := by cases args; simp_all
  have hv := qqj hL
  clear hA0 hval0
  obtain ⟨x0, rfl, hx0⟩ := qjM (P := Tryz.prog) (t := 5) (c := .int .u8) (by kernel_rfl) rfl (hval 0 5 v0 rfl rfl)
  obtain ⟨x1, rfl, hx1⟩ := qjM (P := Tryz.prog) (t := 22) (c := .slice) (by kernel_rfl) rfl (hval 1 22 v1 rfl rfl)
  obtain ⟨m1, t1⟩ := h1
  obtain ⟨l1, g1, e1⟩ := qtW t1
  obtain ⟨x2, rfl, hx2⟩ := qjM (P := Tryz.prog) (t := 23) (c := .slice) (by kernel_rfl) rfl (hval 2 23 v2 rfl rfl)
  obtain ⟨m2, t2⟩ := h2
  obtain ⟨l2, g2, e2⟩ := qib (P := Tryz.prog) (t := 23) (e := 5) (s := x2) (k := 1) (encB := fun n => [Value.int .u8 n]) (by kernel_rfl) (by kernel_rfl) (by decide) (qnR (k := .u8) (by kernel_rfl)) t2
  refine Calls.mono (qoo (K := fun b w' => b = true ∧ Fr [] W w') (qq0 hx0) hv g1 e1 g2 (fun z hz => qq0 (e2 z hz)) fun w' h => ⟨rfl, h⟩) ?_
  rintro e W' ⟨x, rfl, rfl, hf⟩
  exact ⟨_, rfl, qsW (s := Rows.treeTurnsSpec) (tb := 4) rfl hW' ⟨rfl, rfl, rfl⟩ qrp (by kernel_rfl) rfl (by kernel_rfl) hf.below⟩

theorem over : Rows.treeTurnsRow.holds Tryz.pinned (OpenSpec.ofChange Rows.treeTurnsSpec) :=
  OpenClaim.holds_of_wide 8 Tryz.f8 rfl rfl rfl rfl rfl rfl rfl ⟨rfl, rfl, rfl, rfl, rfl⟩ rfl rfl rfl rfl rfl (by kernel_rfl) Tryz.func8 (by kernel_rfl)
    (of_decide_eq_true (by kernel_rfl)) (by unfold Func.isWrapper; first | (rw [if_pos (by decide +kernel)]; kernel_rfl) | (rw [if_neg (by decide +kernel)]; exact ⟨rfl, rfl⟩))
    (fun os started H enc _ => lifted os started H enc)

/-- ████ THE STATEMENT ████ -/
theorem proved : Rows.TreeTurnsCardSaid :=
  Claim7.holds_tied_plain_at .later [] [.data] true (Rows.treeTurnsCard.stood.harness) true
    over (fun _ h => by cases h) (by kernel_rfl) (fun _ h => by cases h) treeTurns_row_tie rfl ⟨rfl, rfl⟩ (by kernel_rfl) rfl
    (fun f fn hf hfn => by
      obtain rfl : f = 8 := Option.some.inj ((show Tryz.prog.funcNamed "cashbook/cashbooklaw12.TreeTurns" = some 8 by kernel_rfl).symm.trans hf) |>.symm
      obtain rfl : fn = Tryz.f8 := (Option.some.inj (Tryz.func8.symm.trans hfn)).symm
      exact ⟨by kernel_rfl, fun j t ht => by
        rw [Tryz.params8] at ht
        have hm : t ∈ [5, 22, 23] := by simpa using Array.mem_of_getElem? ht
        have hall : ([5, 22, 23].all fun u => !Tryz.prog.wantsStandIn u) = true := by kernel_rfl
        exact (show Tryz.prog.wantsStandIn t = false by simpa using List.all_eq_true.1 hall t hm)⟩)
    (by kernel_rfl)
#print axioms proved
end Go.Proofs.YtmmkegapckbomaaGreatDoor.treeTurns
