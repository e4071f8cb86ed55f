/- The reserve layer: how often a request puts and cuts, and how many pages it needs. Conditions: those of the Go types, and those that stand in each line. -/
import Derived.Test.YtmmldfipakcmaaaPtI
import Derived.Test.YtmmldfipakcmaaaRes
set_option linter.unusedVariables false
set_option linter.unusedSimpArgs false
namespace Go.Proofs.Ytmmldfipakcmaaa
open Go Go.Pt
attribute [local irreducible] ld ldA st new idx idxS idxA slc slcS slcP mkS chk nn call callV inv run runQ runU join loop held IntKind.wrap

abbrev I8 := Int × Int × Int × Int × Int × Int × Int × Int

def timesV (kind : Int) : I8 × Int :=
  if kind = 1 then ((1, 0, 0, 0, 0, 0, 0, 0), 0) else if kind = 2 then ((2, 1, 1, 1, 1, 1, 2, 0), 0) else if kind = 7 then ((2, 0, 1, 1, 0, 0, 2, 0), 16) else ((0, 0, 0, 0, 0, 0, 0, 0), 0)

theorem times_1 {w : World} {K : I8 × Int → World → Prop} (hk : ∀ w', Fr [] w w' → K (timesV 1) w') : reserve_timesF 1 K w := by
  unfold reserve_timesF
  have h := Own.start [] w
  refine Own.new h fun b1_1 w1_1 eb1_1 sb1_1 h => ?_
  refine Own.new h fun b1_2 w1_2 eb1_2 sb1_2 h => ?_
  refine loop_norm 0 (by decide +kernel) fun X hX => ?_
  refine cond_true rfl ?_
  refine idx_lit (by decide) (by decide) ?_
  refine Own.ldA h 0 rfl (_, _, _, _, _, _, _, _, _, _) rfl ?_
  refine Own.new h fun b1_7 w1_7 eb1_7 sb1_7 h => ?_
  refine Own.st h 0 rfl _ rfl rfl rfl fun w1_8 h _ => ?_
  simp only [List.set_cons_zero, List.set_cons_succ, splice, List.setIfInBounds_toArray, HL.mk, Cell.mk] at h
  refine Own.ld h 0 rfl _ rfl ?_
  refine cond_true rfl ?_
  refine Own.ldA h.drew 0 rfl (_, _, _, _, _, _, _, _) rfl ?_
  refine Own.ld h.drew 0 rfl _ rfl ?_
  refine Own.st h.drew 2 rfl _ rfl rfl rfl fun w1_13 h _ => ?_
  simp only [List.set_cons_zero, List.set_cons_succ, splice, List.setIfInBounds_toArray, HL.mk, Cell.mk] at h
  refine held_one (Own.cell h 0 rfl rfl) ?_
  refine Own.ldA h 2 rfl (_, _, _, _, _, _, _, _) rfl ?_
  exact hk _ h.fr

theorem times_2 {w : World} {K : I8 × Int → World → Prop} (hk : ∀ w', Fr [] w w' → K (timesV 2) w') : reserve_timesF 2 K w := by
  unfold reserve_timesF
  have h := Own.start [] w
  refine Own.new h fun b2_1 w2_1 eb2_1 sb2_1 h => ?_
  refine Own.new h fun b2_2 w2_2 eb2_2 sb2_2 h => ?_
  refine loop_norm 0 (by decide +kernel) fun X hX => ?_
  refine cond_true rfl ?_
  refine idx_lit (by decide) (by decide) ?_
  refine Own.ldA h 0 rfl (_, _, _, _, _, _, _, _, _, _) rfl ?_
  refine Own.new h fun b2_7 w2_7 eb2_7 sb2_7 h => ?_
  refine Own.st h 0 rfl _ rfl rfl rfl fun w2_8 h _ => ?_
  simp only [List.set_cons_zero, List.set_cons_succ, splice, List.setIfInBounds_toArray, HL.mk, Cell.mk] at h
  refine Own.ld h 0 rfl _ rfl ?_
  refine cond_false rfl ?_
  refine hX _ _ ?_
  clear hX X
  refine loop_norm 1 (by decide +kernel) fun X hX => ?_
  refine cond_true rfl ?_
  refine idx_lit (by decide) (by decide) ?_
  refine Own.ldA h 1 rfl (_, _, _, _, _, _, _, _, _, _) rfl ?_
  refine Own.new h fun b2_16 w2_16 eb2_16 sb2_16 h => ?_
  refine Own.st h 0 rfl _ rfl rfl rfl fun w2_17 h _ => ?_
  simp only [List.set_cons_zero, List.set_cons_succ, splice, List.setIfInBounds_toArray, HL.mk, Cell.mk] at h
  refine Own.ld h 0 rfl _ rfl ?_
  refine cond_true rfl ?_
  refine Own.ldA h.drew 0 rfl (_, _, _, _, _, _, _, _) rfl ?_
  refine Own.ld h.drew 0 rfl _ rfl ?_
  refine Own.st h.drew 3 rfl _ rfl rfl rfl fun w2_22 h _ => ?_
  simp only [List.set_cons_zero, List.set_cons_succ, splice, List.setIfInBounds_toArray, HL.mk, Cell.mk] at h
  refine held_one (Own.cell h 0 rfl rfl) ?_
  refine Own.ldA h 3 rfl (_, _, _, _, _, _, _, _) rfl ?_
  exact hk _ h.fr

theorem times_7 {w : World} {K : I8 × Int → World → Prop} (hk : ∀ w', Fr [] w w' → K (timesV 7) w') : reserve_timesF 7 K w := by
  unfold reserve_timesF
  have h := Own.start [] w
  refine Own.new h fun b3_1 w3_1 eb3_1 sb3_1 h => ?_
  refine Own.new h fun b3_2 w3_2 eb3_2 sb3_2 h => ?_
  refine loop_norm 0 (by decide +kernel) fun X hX => ?_
  refine cond_true rfl ?_
  refine idx_lit (by decide) (by decide) ?_
  refine Own.ldA h 0 rfl (_, _, _, _, _, _, _, _, _, _) rfl ?_
  refine Own.new h fun b3_7 w3_7 eb3_7 sb3_7 h => ?_
  refine Own.st h 0 rfl _ rfl rfl rfl fun w3_8 h _ => ?_
  simp only [List.set_cons_zero, List.set_cons_succ, splice, List.setIfInBounds_toArray, HL.mk, Cell.mk] at h
  refine Own.ld h 0 rfl _ rfl ?_
  refine cond_false rfl ?_
  refine hX _ _ ?_
  clear hX X
  refine loop_norm 1 (by decide +kernel) fun X hX => ?_
  refine cond_true rfl ?_
  refine idx_lit (by decide) (by decide) ?_
  refine Own.ldA h 1 rfl (_, _, _, _, _, _, _, _, _, _) rfl ?_
  refine Own.new h fun b3_16 w3_16 eb3_16 sb3_16 h => ?_
  refine Own.st h 0 rfl _ rfl rfl rfl fun w3_17 h _ => ?_
  simp only [List.set_cons_zero, List.set_cons_succ, splice, List.setIfInBounds_toArray, HL.mk, Cell.mk] at h
  refine Own.ld h 0 rfl _ rfl ?_
  refine cond_false rfl ?_
  refine hX _ _ ?_
  clear hX X
  refine loop_norm 2 (by decide +kernel) fun X hX => ?_
  refine cond_true rfl ?_
  refine idx_lit (by decide) (by decide) ?_
  refine Own.ldA h 2 rfl (_, _, _, _, _, _, _, _, _, _) rfl ?_
  refine Own.new h fun b3_25 w3_25 eb3_25 sb3_25 h => ?_
  refine Own.st h 0 rfl _ rfl rfl rfl fun w3_26 h _ => ?_
  simp only [List.set_cons_zero, List.set_cons_succ, splice, List.setIfInBounds_toArray, HL.mk, Cell.mk] at h
  refine Own.ld h 0 rfl _ rfl ?_
  refine cond_true rfl ?_
  refine Own.ldA h.drew 0 rfl (_, _, _, _, _, _, _, _) rfl ?_
  refine Own.ld h.drew 0 rfl _ rfl ?_
  refine Own.st h.drew 4 rfl _ rfl rfl rfl fun w3_31 h _ => ?_
  simp only [List.set_cons_zero, List.set_cons_succ, splice, List.setIfInBounds_toArray, HL.mk, Cell.mk] at h
  refine held_one (Own.cell h 0 rfl rfl) ?_
  refine Own.ldA h 4 rfl (_, _, _, _, _, _, _, _) rfl ?_
  exact hk _ h.fr

theorem times_else {kind : Int} {w : World} {K : I8 × Int → World → Prop} (h1 : kind ≠ 1) (h2 : kind ≠ 2) (h7 : kind ≠ 7) (hk : ∀ w', Fr [] w w' → K ((0, 0, 0, 0, 0, 0, 0, 0), 0) w') : reserve_timesF kind K w := by
  unfold reserve_timesF
  have h := Own.start [] w
  refine Own.new h fun b4_1 w4_1 eb4_1 sb4_1 h => ?_
  refine Own.new h fun b4_2 w4_2 eb4_2 sb4_2 h => ?_
  refine loop_norm 0 (by decide +kernel) fun X hX => ?_
  refine cond_true rfl ?_
  refine idx_lit (by decide) (by decide) ?_
  refine Own.ldA h 0 rfl (_, _, _, _, _, _, _, _, _, _) rfl ?_
  refine Own.new h fun b4_7 w4_7 eb4_7 sb4_7 h => ?_
  refine Own.st h 0 rfl _ rfl rfl rfl fun w4_8 h _ => ?_
  simp only [List.set_cons_zero, List.set_cons_succ, splice, List.setIfInBounds_toArray, HL.mk, Cell.mk] at h
  refine Own.ld h 0 rfl _ rfl ?_
  refine cond_false (beq_false_of_ne (Ne.symm h1)) ?_
  refine hX _ _ ?_
  clear hX X
  refine loop_norm 1 (by decide +kernel) fun X hX => ?_
  refine cond_true rfl ?_
  refine idx_lit (by decide) (by decide) ?_
  refine Own.ldA h 1 rfl (_, _, _, _, _, _, _, _, _, _) rfl ?_
  refine Own.new h fun b4_16 w4_16 eb4_16 sb4_16 h => ?_
  refine Own.st h 0 rfl _ rfl rfl rfl fun w4_17 h _ => ?_
  simp only [List.set_cons_zero, List.set_cons_succ, splice, List.setIfInBounds_toArray, HL.mk, Cell.mk] at h
  refine Own.ld h 0 rfl _ rfl ?_
  refine cond_false (beq_false_of_ne (Ne.symm h2)) ?_
  refine hX _ _ ?_
  clear hX X
  refine loop_norm 2 (by decide +kernel) fun X hX => ?_
  refine cond_true rfl ?_
  refine idx_lit (by decide) (by decide) ?_
  refine Own.ldA h 2 rfl (_, _, _, _, _, _, _, _, _, _) rfl ?_
  refine Own.new h fun b4_25 w4_25 eb4_25 sb4_25 h => ?_
  refine Own.st h 0 rfl _ rfl rfl rfl fun w4_26 h _ => ?_
  simp only [List.set_cons_zero, List.set_cons_succ, splice, List.setIfInBounds_toArray, HL.mk, Cell.mk] at h
  refine Own.ld h 0 rfl _ rfl ?_
  refine cond_false (beq_false_of_ne (Ne.symm h7)) ?_
  refine hX _ _ ?_
  clear hX X
  refine loop_norm 3 (by decide +kernel) fun X hX => ?_
  refine cond_false rfl ?_
  refine Own.st h 4 rfl _ rfl rfl rfl fun w4_32 h _ => ?_
  simp only [List.set_cons_zero, List.set_cons_succ, splice, List.setIfInBounds_toArray, HL.mk, Cell.mk] at h
  refine Own.ldA h 4 rfl (_, _, _, _, _, _, _, _) rfl ?_
  exact hk _ h.fr

theorem times_ok {kind : Int} {w : World} {K : I8 × Int → World → Prop} (hk : ∀ w', Fr [] w w' → K (timesV kind) w') : call Try.prog 31 [.int .i64 kind] [.agg rcs2, .one (.int .i64)] w K := by
  apply reserve_times_of
  by_cases h1 : kind = 1
  · subst h1; exact times_1 hk
  by_cases h2 : kind = 2
  · subst h2; exact times_2 hk
  by_cases h7 : kind = 7
  · subst h7; exact times_7 hk
  have e : timesV kind = ((0, 0, 0, 0, 0, 0, 0, 0), 0) := by simp [timesV, h1, h2, h7]
  rw [e] at hk
  exact times_else h1 h2 h7 hk

/-! ### Need of a list -/
def needV (n : Int) : Int := if n < 1 then 0 else (n - 1) / 124 + 1

theorem LNeed_ok {n : Int} {w : World} {K : Int → World → Prop} (hn : -100 ≤ n ∧ n ≤ 1000000) (hk : K (needV n) w) : call Try.prog 32 [.int .i64 n] [.one (.int .i64)] w K := by
  apply freelist_Need_of
  unfold freelist_NeedF
  unfold needV at hk
  refine cond_of (fun h => ?_) (fun h => ?_)
  · rw [if_pos (by simpa using h)] at hk; exact hk
  · have h' : ¬ n < 1 := by simpa using h
    rw [if_neg h'] at hk
    rw [IntWalk.i64_in (n - 1) (by omega), Int.tdiv_eq_ediv_of_nonneg (by omega), IntWalk.i64_in ((n - 1) / 124) (by omega), IntWalk.i64_in _ (by omega)]
    exact hk

theorem RNeed_ok {n : Int} {w : World} {K : Int → World → Prop} (hn : -100 ≤ n ∧ n ≤ 1000000) (hk : ∀ w', Same w w' → K (needV n) w') : call Try.prog 33 [.int .i64 n] [.one (.int .i64)] w K := by
  apply cashbookref09_Need_of
  unfold cashbookref09_NeedF
  refine loop_ind (fun x w' => 0 ≤ x ∧ x ≤ needV n ∧ Same w w') (fun x _ => (needV n - x).toNat) ⟨by omega, by unfold needV; split <;> omega, .refl w⟩ ?_
  rintro x w' ⟨h0, hx, hs⟩ X hX
  have hb : needV n ≤ 100000 := by unfold needV; split <;> omega
  refine join_mid (fun b w2 => b = decide (x < needV n) ∧ Same w w2) ?_ ?_
  · rw [IntWalk.i64_in (123 * x) (by omega), IntWalk.i64_in (n - x) (by omega)]
    refine cond_of (fun h => ?_) (fun h => ?_)
    · have h' : 0 < n := by simpa using h
      refine cond_of (fun h2 => ?_) (fun h2 => ?_)
      · have h2' : 123 * x < n - x := by simpa using h2
        refine ⟨?_, hs⟩
        rw [decide_eq_decide]
        unfold needV at hb ⊢
        rw [if_neg (by omega)] at hb ⊢
        omega
      · have h2' : ¬ 123 * x < n - x := by simpa using h2
        refine ⟨?_, hs⟩
        rw [eq_comm, decide_eq_false_iff_not]
        unfold needV
        rw [if_neg (by omega)]
        omega
    · have h' : ¬ 0 < n := by simpa using h
      refine ⟨?_, hs⟩
      rw [eq_comm, decide_eq_false_iff_not]
      unfold needV
      rw [if_pos (by omega)]
      omega
  · rintro b w2 ⟨rfl, hs2⟩
    refine cond_of (fun h => ?_) (fun h => ?_)
    · have h' : x < needV n := by simpa using h
      rw [IntWalk.i64_in (x + 1) (by omega)]
      exact hX _ _ ⟨by omega, by omega, hs2⟩ (by omega)
    · have h' : ¬ x < needV n := by simpa using h
      rw [show x = needV n by omega]
      exact hk _ hs2

end Go.Proofs.Ytmmldfipakcmaaa
