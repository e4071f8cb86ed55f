/- The law ReserveNeeds, walked. Conditions: those of the Go types. -/
import Derived.Test.YtmmldfipakcmaaaNeedAll
import Derived.KernelRfl
import Derived.Test.YtmmldfipakcmaaaPtJ
set_option linter.unusedVariables false
set_option linter.unusedSimpArgs false
namespace Go.Proofs.Ytmmldfipakcmaaa
open Go Go.Pt
attribute [local irreducible] ld ldA st new idx idxS idxA slc slcS slcP mkS chk nn call callV inv run runQ runU join loop held IntKind.wrap

theorem eqV8 (a0 a1 a2 a3 a4 a5 a6 a7 b0 b1 b2 b3 b4 b5 b6 b7 : Int) : eqV Try.prog 3 37 (.agg (HL.mk rcs2 (a0, a1, a2, a3, a4, a5, a6, a7)).toArray) (.agg (HL.mk rcs2 (b0, b1, b2, b3, b4, b5, b6, b7)).toArray) =
    some (bif a0 == b0 then bif a1 == b1 then bif a2 == b2 then bif a3 == b3 then bif a4 == b4 then bif a5 == b5 then bif a6 == b6 then bif a7 == b7 then true else false else false else false else false else false else false else false else false) := by kernel_rfl

theorem eql8 {x y : Operand} (o : HL rcs2) {w : World} {K : Bool → Prop} (k : K true) :
    runQ [Ty1.one Cell.bool] (fun w' => (do eqGuard .eql 37 x y (.agg (HL.mk rcs2 o).toArray) (.agg (HL.mk rcs2 o).toArray); binOp .eql 37 (.agg (HL.mk rcs2 o).toArray) (.agg (HL.mk rcs2 o).toArray) : Sem Value).run Try.prog w') w K := by
  obtain ⟨o0, o1, o2, o3, o4, o5, o6, o7⟩ := o
  refine eql_of 3 (by decide) _ (eqV8 _ _ _ _ _ _ _ _ _ _ _ _ _ _ _ _) (by kernel_rfl) ?_
  simpa using k

theorem ReserveNeeds_ok {r : Req} {c : HL rcs3} {blocks : Int} {w : World} {K : Bool → World → Prop} (hc : In8 0 4294967295 c) (hk : ∀ w', Fr [] w w' → K true w') :
    call Try.prog 4 [.agg (HL.mk rcs1 r).toArray, .agg (HL.mk rcs3 c).toArray, .int .i64 blocks] [.one .bool] w K := by
  obtain ⟨r0, r1, r2, r3, r4, r5, r6, r7, r8, r9⟩ := r
  obtain ⟨c0, c1, c2, c3, c4, c5, c6, c7⟩ := c
  apply cashbooklaw27_ReserveNeeds_of
  unfold cashbooklaw27_ReserveNeedsF
  have h := Own.start [] w
  refine Own.new h fun b1_1 w1_1 eb1_1 sb1_1 h => ?_
  simp only [List.set_cons_zero, List.set_cons_succ, splice, List.setIfInBounds_toArray, HL.mk, Cell.mk] at h
  refine Own.new h fun b1_2 w1_2 eb1_2 sb1_2 h => ?_
  simp only [List.set_cons_zero, List.set_cons_succ, splice, List.setIfInBounds_toArray, HL.mk, Cell.mk] at h
  by_cases hg : r1.len > 30 ∨ r2.len > 30 ∨ r3.len > 30 ∨ blocks > 100000 ∨ blocks < 2
  · refine join_mid (fun b w' => b = true ∧ w' = w1_2) ?_ ?_
    · refine Own.ld h 1 rfl _ rfl ?_
      refine cond_of (fun h1 => ⟨rfl, rfl⟩) (fun h1 => ?_)
      have h1' := of_decide_eq_false h1
      refine Own.ld h 1 rfl _ rfl ?_
      refine cond_of (fun h1 => ⟨rfl, rfl⟩) (fun h2 => ?_)
      have h2' := of_decide_eq_false h2
      refine Own.ld h 1 rfl _ rfl ?_
      refine cond_of (fun h1 => ⟨rfl, rfl⟩) (fun h3 => ?_)
      have h3' := of_decide_eq_false h3
      refine cond_of (fun h1 => ⟨rfl, rfl⟩) (fun h4 => ?_)
      have h4' := of_decide_eq_false h4
      exact ⟨decide_eq_true (by omega), rfl⟩
    · rintro b w' ⟨rfl, rfl⟩
      refine cond_true rfl ?_
      exact fixed_ok fun w' hs => hk _ (h.same hs).fr
  · refine join_mid (fun b w' => b = false ∧ w' = w1_2) ?_ ?_
    · refine Own.ld h 1 rfl _ rfl ?_
      refine cond_false (decide_eq_false (by omega)) ?_
      refine Own.ld h 1 rfl _ rfl ?_
      refine cond_false (decide_eq_false (by omega)) ?_
      refine Own.ld h 1 rfl _ rfl ?_
      refine cond_false (decide_eq_false (by omega)) ?_
      refine cond_false (decide_eq_false (by omega)) ?_
      exact ⟨decide_eq_false (by omega), rfl⟩
    · rintro b w' ⟨rfl, rfl⟩
      refine cond_false rfl ?_
      refine fixed_ok fun w1 hs => ?_
      have h := h.drew.same hs
      refine cond_true rfl ?_
      refine Own.ldA h 1 rfl (_, _, _, _, _, _, _, _, _, _) rfl ?_
      refine Own.ldA h 1 rfl (_, _, _, _, _, _, _, _, _, _) rfl ?_
      refine Ops_ok (r := (r0, r1, r2, r3, r4, r5, r6, r7, r8, r9)) (by dsimp only; omega) (by dsimp only; omega) fun w2 hf => ?_
      have h := h.frame0 hf
      refine held_one (Own.cells h 1 rfl rfl) ?_
      refine ROps_ok (r := (r0, r1, r2, r3, r4, r5, r6, r7, r8, r9)) (by dsimp only; omega) (by dsimp only; omega) fun w3 hf => ?_
      have h := h.frame0 hf
      refine eql8 _ ?_
      refine cond_true rfl ?_
      refine Own.ldA h 1 rfl (_, _, _, _, _, _, _, _, _, _) rfl ?_
      refine Own.ldA h 0 rfl (_, _, _, _, _, _, _, _) rfl ?_
      refine Own.ldA h 1 rfl (_, _, _, _, _, _, _, _, _, _) rfl ?_
      refine Own.ldA h 0 rfl (_, _, _, _, _, _, _, _) rfl ?_
      refine Need_ok (r := (r0, r1, r2, r3, r4, r5, r6, r7, r8, r9)) (c := (c0, c1, c2, c3, c4, c5, c6, c7)) (by dsimp only; omega) (by dsimp only; omega) hc (by omega) fun w4 hf => ?_
      have h := h.frame0 hf
      refine held_two (Own.cells h 0 rfl rfl) (Own.cells h 1 rfl rfl) ?_
      refine RNeedA_ok (r := (r0, r1, r2, r3, r4, r5, r6, r7, r8, r9)) (c := (c0, c1, c2, c3, c4, c5, c6, c7)) (by dsimp only; omega) (by dsimp only; omega) hc (by omega) fun w5 hf => ?_
      have h := h.frame0 hf
      have := hk _ h.fr
      simpa using this

end Go.Proofs.Ytmmldfipakcmaaa
