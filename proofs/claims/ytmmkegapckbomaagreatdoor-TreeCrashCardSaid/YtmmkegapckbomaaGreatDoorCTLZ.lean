/- Whenever the disk falls in a commit, and whatever it loses of whole blocks: opened again, the trees have what they had at the commit ahead, or at this one. Condition: none. -/
import Derived.Test.YtmmkegapckbomaaGreatDoorCards
import Derived.Test.YtmmkegapckbomaaGreatDoorCTL3
import Derived.SevenTiedAt
import Derived.Test.YtmmkegapckbomaaGreatDoorCTL1
import Derived.Test.YtmmkegapckbomaaGreatDoorCTL6
namespace Go.Proofs.YtmmkegapckbomaaGreatDoor.treeCrash
open Go.ChangeShapes Go.WideShapes Go.ChangeAt Go.RowKit Go.Pt
set_option linter.unusedVariables false

set_option maxRecDepth 100000 in
theorem lifted (os : Os) (started : os.Started) (H : Type) (enc : TypeId × Value → H) :
    ReturnsInHanded {} Tryz.checked os 12 .any (fun w args => (Rows.treeCrashSpec.pre enc Tryz.prog Tryz.f12 [] false w args ∧ laidMetH Tryz.prog laidH w) ∧ sizedMet enc Tryz.prog Tryz.f12 (OpenSpec.ofChange Rows.treeCrashSpec) false w args) (Rows.treeCrashSpec.post enc Tryz.prog Tryz.f12 false true false false) := by
  refine returnsInHanded_of_change_and (C := Tryz.checked) (X := fun w _ => laidMetH Tryz.prog laidH w) (fun _ _ _ hh h => h.of_heap hh) qxV started (by kernel_rfl) Tryz.func12
    (ChangeSpec.witness_shaped (enc := enc) (C := Tryz.checked) (os := os) (X := fun w _ => laidMetH Tryz.prog laidH w) false (World.doorLaid Tryz.prog 4000 os) #[.slice none 0 0, .slice none 0 0, .agg #[.int .u8 0, .slice none 0 0]] 8 rfl (World.shaped_of_RefB (by kernel_rfl) (by kernel_rfl)) (by kernel_rfl) (by kernel_rfl) (by kernel_rfl) (qvu os _)) ?_
  intro W base args ds gs before hval0 hW _ _ hL _
  have hval : ∀ (j : Nat) t v, Tryz.f12.params[j]? = some t → args[j]? = some v → Value.okWide Tryz.prog W .any base t v := hval0
  have hW' := hW
  obtain ⟨p, q, hA0, hV, rfl, hfz, hnd⟩ := hW
  have hA : DataW.TrodAll enc Tryz.prog W 0 (fun _ => true) true Tryz.f12.params.toList args.toList ds p := hA0
  rw [Tryz.params12] at hA hval
  obtain ⟨v0, vs0, d0, ds0, p0, q0, hargs, rfl, rfl, h0, r0⟩ := trodAll_cons hA
  obtain ⟨v1, vs1, d1, ds1, p1, q1, rfl, rfl, rfl, h1, r1⟩ := trodAll_cons r0
  obtain ⟨v2, vs2, d2, ds2, p2, q2, rfl, rfl, rfl, h2, r2⟩ := trodAll_cons r1
  obtain ⟨rfl, rfl, rfl⟩ := trodAll_nil r2
  obtain rfl : args = #[v0, v1, v2] := by cases args; simp_all
  have hv := qsG hL
  clear hA0 hval0
  obtain ⟨x0, rfl, hx0⟩ := qp2 (P := Tryz.prog) (t := 87) (c := .slice) (by kernel_rfl) rfl (hval 0 87 v0 rfl rfl)
  obtain ⟨m0, t0⟩ := h0
  obtain ⟨l0, g0, e0⟩ := qep (P := Tryz.prog) (t := 87) (e := 77) (s := x0) (k := 5) (encB := HL.mk (qas)) (by kernel_rfl) (by kernel_rfl) (by decide) (qiR (cs := qas) (by kernel_rfl)) t0
  obtain ⟨x1, rfl, hx1⟩ := qp2 (P := Tryz.prog) (t := 87) (c := .slice) (by kernel_rfl) rfl (hval 1 87 v1 rfl rfl)
  obtain ⟨m1, t1⟩ := h1
  obtain ⟨l1, g1, e1⟩ := qep (P := Tryz.prog) (t := 87) (e := 77) (s := x1) (k := 5) (encB := HL.mk (qas)) (by kernel_rfl) (by kernel_rfl) (by decide) (qiR (cs := qas) (by kernel_rfl)) t1
  obtain ⟨x2, rfl, hx2⟩ := qvl (P := Tryz.prog) (t := 99) (cs := flcs) (by kernel_rfl) (by kernel_rfl) (by kernel_rfl) (hval 2 99 v2 rfl rfl)
  obtain ⟨m2, t2⟩ := h2
  obtain ⟨kl, g2⟩ := qwB t2
  refine Calls.mono (qpa (K := fun b w' => b = true ∧ Fr [] W w') hv g0 (fun o ho => qut (e0 o ho)) g1 (fun o ho => qut (e1 o ho)) (qto hx2.1) g2 fun w' h => ⟨rfl, h⟩) ?_
  rintro e W' ⟨x, rfl, rfl, hf⟩
  exact ⟨_, rfl, qvJ (s := Rows.treeCrashSpec) (tb := 4) rfl hW' ⟨rfl, rfl, rfl⟩ qug (by kernel_rfl) rfl (by kernel_rfl) hf.below⟩

theorem over : Rows.treeCrashRow.holds Tryz.pinned (OpenSpec.ofChange Rows.treeCrashSpec) :=
  OpenClaim.holds_of_wide 12 Tryz.f12 rfl rfl rfl rfl rfl rfl rfl ⟨rfl, rfl, rfl, rfl, rfl⟩ rfl rfl rfl rfl rfl (by kernel_rfl) Tryz.func12 (by kernel_rfl)
    (of_decide_eq_true (by kernel_rfl)) (by unfold Func.isWrapper; first | (rw [if_pos (by decide +kernel)]; kernel_rfl) | (rw [if_neg (by decide +kernel)]; exact ⟨rfl, rfl⟩))
    (fun os started H enc _ => lifted os started H enc)

/-- ████ THE STATEMENT ████ -/
theorem proved : Rows.TreeCrashCardSaid :=
  Claim7.holds_tied_plain_at .later [] [.data] true (Rows.treeCrashCard.stood.harness) true
    over (fun _ h => by cases h) (by kernel_rfl) (fun _ h => by cases h) treeCrash_row_tie rfl ⟨rfl, rfl⟩ (by kernel_rfl) rfl
    (fun f fn hf hfn => by
      obtain rfl : f = 12 := Option.some.inj ((show Tryz.prog.funcNamed "cashbook/cashbooklaw12.TreeCrash" = some 12 by kernel_rfl).symm.trans hf) |>.symm
      obtain rfl : fn = Tryz.f12 := (Option.some.inj (Tryz.func12.symm.trans hfn)).symm
      exact ⟨by kernel_rfl, fun j t ht => by
        rw [Tryz.params12] at ht
        have hm : t ∈ [87, 87, 99] := by simpa using Array.mem_of_getElem? ht
        have hall : ([87, 87, 99].all fun u => !Tryz.prog.wantsStandIn u) = true := by kernel_rfl
        exact (show Tryz.prog.wantsStandIn t = false by simpa using List.all_eq_true.1 hall t hm)⟩)
    (by kernel_rfl)
#print axioms proved
end Go.Proofs.YtmmkegapckbomaaGreatDoor.treeCrash
