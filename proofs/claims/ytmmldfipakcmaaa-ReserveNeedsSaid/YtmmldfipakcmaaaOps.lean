/- The reserve layer: how often a request puts and cuts. Conditions: those of the Go types, and lengths up to 1000. -/
import Derived.Test.YtmmldfipakcmaaaNeed
set_option linter.unusedVariables false
set_option linter.unusedSimpArgs false
namespace Go.Proofs.Ytmmldfipakcmaaa
open Go Go.Pt
attribute [local irreducible] ld ldA st new idx idxS idxA slc slcS slcP mkS chk nn call callV inv run runQ runU join loop held IntKind.wrap

def opsV (kind a t : Int) : I8 :=
  if kind = 1 ∧ 0 < a then (a, 0, 0, 0, 0, 0, 0, 1) else if kind = 2 ∧ 0 < t then (2 * t, t, t, t, t, t, 2 * t, 1) else if kind = 7 then (32, 0, 16, 16, 0, 0, 32, 1) else (0, 0, 0, 0, 0, 0, 0, 0)

abbrev Req := HL rcs1


theorem wr0 : IntKind.i64.wrap 0 = 0 := by decide +kernel

theorem fin8 {K : I8 → World → Prop} {v : I8} {w : World} (hk : ∀ w', Fr [] w w' → K v w') (y : I8) (hy : y = v) {w' : World} (hw : Fr [] w w') : K y w' := hy ▸ hk w' hw

theorem Ops_1 {r : Req} {w : World} {K : I8 → World → Prop} (h1 : r.1 = 1) (ha : r.2.1.len ≤ 1000) (hk : ∀ w', Fr [] w w' → K (opsV 1 r.2.1.len r.2.2.1.len) w') : call Try.prog 12 [.agg (HL.mk rcs1 r).toArray] [.agg rcs2] w K := by
  obtain ⟨r0, r1, r2, r3, r4, r5, r6, r7, r8, r9⟩ := r
  apply reserve_Ops_of
  unfold reserve_OpsF
  have h := Own.start [] w
  change r0 = 1 at h1
  change r1.len ≤ 1000 at ha
  subst h1
  refine Own.new h fun b1_1 w1_1 eb1_1 sb1_1 h => ?_
  simp only [List.set_cons_zero, List.set_cons_succ, splice, List.setIfInBounds_toArray, HL.mk, Cell.mk] at h
  refine Own.new h fun b1_2 w1_2 eb1_2 sb1_2 h => ?_
  refine Own.ld h 1 rfl _ rfl ?_
  refine times_ok fun w2 hf => ?_
  have h := h.frame0 hf
  by_cases hn : 0 < r1.len
  · refine Own.new h fun b2_1 w2_1 eb2_1 sb2_1 h => ?_
    refine Own.st h 0 rfl _ rfl rfl rfl fun w2_2 h _ => ?_
    simp only [List.set_cons_zero, List.set_cons_succ, splice, List.setIfInBounds_toArray, HL.mk, Cell.mk] at h
    refine join_thru ?_
    refine Own.ld h 2 rfl _ rfl ?_
    refine cond_true rfl ?_
    refine Own.ld h 2 rfl _ rfl ?_
    refine loop_norm 0 (by decide +kernel) fun X hX => ?_
    refine cond_true rfl ?_
    refine chk_of ⟨by decide, by decide⟩ ?_
    rw [Addr.add_mk]
    refine Own.ld h 0 rfl _ rfl ?_
    refine chk_of ⟨by decide, by decide⟩ ?_
    refine Own.st h 0 rfl _ rfl rfl rfl fun w2_13 h _ => ?_
    simp only [List.set_cons_zero, List.set_cons_succ, splice, List.setIfInBounds_toArray, HL.mk, Cell.mk] at h
    refine hX _ _ ?_
    clear hX X
    refine loop_norm 1 (by decide +kernel) fun X hX => ?_
    refine cond_true rfl ?_
    refine chk_of ⟨by decide, by decide⟩ ?_
    rw [Addr.add_mk]
    refine Own.ld h 0 rfl _ rfl ?_
    refine chk_of ⟨by decide, by decide⟩ ?_
    refine Own.st h 0 rfl _ rfl rfl rfl fun w2_21 h _ => ?_
    simp only [List.set_cons_zero, List.set_cons_succ, splice, List.setIfInBounds_toArray, HL.mk, Cell.mk] at h
    refine hX _ _ ?_
    clear hX X
    refine loop_norm 2 (by decide +kernel) fun X hX => ?_
    refine cond_true rfl ?_
    refine chk_of ⟨by decide, by decide⟩ ?_
    rw [Addr.add_mk]
    refine Own.ld h 0 rfl _ rfl ?_
    refine chk_of ⟨by decide, by decide⟩ ?_
    refine Own.st h 0 rfl _ rfl rfl rfl fun w2_29 h _ => ?_
    simp only [List.set_cons_zero, List.set_cons_succ, splice, List.setIfInBounds_toArray, HL.mk, Cell.mk] at h
    refine hX _ _ ?_
    clear hX X
    refine loop_norm 3 (by decide +kernel) fun X hX => ?_
    refine cond_true rfl ?_
    refine chk_of ⟨by decide, by decide⟩ ?_
    rw [Addr.add_mk]
    refine Own.ld h 0 rfl _ rfl ?_
    refine chk_of ⟨by decide, by decide⟩ ?_
    refine Own.st h 0 rfl _ rfl rfl rfl fun w2_37 h _ => ?_
    simp only [List.set_cons_zero, List.set_cons_succ, splice, List.setIfInBounds_toArray, HL.mk, Cell.mk] at h
    refine hX _ _ ?_
    clear hX X
    refine loop_norm 4 (by decide +kernel) fun X hX => ?_
    refine cond_true rfl ?_
    refine chk_of ⟨by decide, by decide⟩ ?_
    rw [Addr.add_mk]
    refine Own.ld h 0 rfl _ rfl ?_
    refine chk_of ⟨by decide, by decide⟩ ?_
    refine Own.st h 0 rfl _ rfl rfl rfl fun w2_45 h _ => ?_
    simp only [List.set_cons_zero, List.set_cons_succ, splice, List.setIfInBounds_toArray, HL.mk, Cell.mk] at h
    refine hX _ _ ?_
    clear hX X
    refine loop_norm 5 (by decide +kernel) fun X hX => ?_
    refine cond_true rfl ?_
    refine chk_of ⟨by decide, by decide⟩ ?_
    rw [Addr.add_mk]
    refine Own.ld h 0 rfl _ rfl ?_
    refine chk_of ⟨by decide, by decide⟩ ?_
    refine Own.st h 0 rfl _ rfl rfl rfl fun w2_53 h _ => ?_
    simp only [List.set_cons_zero, List.set_cons_succ, splice, List.setIfInBounds_toArray, HL.mk, Cell.mk] at h
    refine hX _ _ ?_
    clear hX X
    refine loop_norm 6 (by decide +kernel) fun X hX => ?_
    refine cond_true rfl ?_
    refine chk_of ⟨by decide, by decide⟩ ?_
    rw [Addr.add_mk]
    refine Own.ld h 0 rfl _ rfl ?_
    refine chk_of ⟨by decide, by decide⟩ ?_
    refine Own.st h 0 rfl _ rfl rfl rfl fun w2_61 h _ => ?_
    simp only [List.set_cons_zero, List.set_cons_succ, splice, List.setIfInBounds_toArray, HL.mk, Cell.mk] at h
    refine hX _ _ ?_
    clear hX X
    refine loop_norm 7 (by decide +kernel) fun X hX => ?_
    refine cond_true rfl ?_
    refine chk_of ⟨by decide, by decide⟩ ?_
    rw [Addr.add_mk]
    refine Own.ld h 0 rfl _ rfl ?_
    refine chk_of ⟨by decide, by decide⟩ ?_
    refine Own.st h 0 rfl _ rfl rfl rfl fun w2_69 h _ => ?_
    simp only [List.set_cons_zero, List.set_cons_succ, splice, List.setIfInBounds_toArray, HL.mk, Cell.mk] at h
    refine hX _ _ ?_
    clear hX X
    refine loop_norm 8 (by decide +kernel) fun X hX => ?_
    refine cond_false rfl ?_
    refine join_thru ?_
    refine cond_true (decide_eq_true (Int.ofNat_lt.2 hn)) ?_
    refine Own.st h 0 rfl _ rfl rfl rfl fun w2_75 h _ => ?_
    simp only [List.set_cons_zero, List.set_cons_succ, splice, List.setIfInBounds_toArray, HL.mk, Cell.mk] at h
    refine Own.ldA h 0 rfl (_, _, _, _, _, _, _, _) rfl ?_
    refine Own.st h 1 rfl _ rfl rfl rfl fun w2_77 h _ => ?_
    simp only [List.set_cons_zero, List.set_cons_succ, splice, List.setIfInBounds_toArray, HL.mk, Cell.mk] at h
    refine Own.ldA h 1 rfl (_, _, _, _, _, _, _, _) rfl ?_
    refine fin8 hk _ ?_ h.fr
    have e1 := IntWalk.i64_in (r1.len : Int) (by omega)
    simp [opsV, timesV, wr0, hn, e1]
  · refine Own.new h fun b3_1 w3_1 eb3_1 sb3_1 h => ?_
    refine Own.st h 0 rfl _ rfl rfl rfl fun w3_2 h _ => ?_
    simp only [List.set_cons_zero, List.set_cons_succ, splice, List.setIfInBounds_toArray, HL.mk, Cell.mk] at h
    refine join_thru ?_
    refine Own.ld h 2 rfl _ rfl ?_
    refine cond_true rfl ?_
    refine Own.ld h 2 rfl _ rfl ?_
    refine loop_norm 0 (by decide +kernel) fun X hX => ?_
    refine cond_true rfl ?_
    refine chk_of ⟨by decide, by decide⟩ ?_
    rw [Addr.add_mk]
    refine Own.ld h 0 rfl _ rfl ?_
    refine chk_of ⟨by decide, by decide⟩ ?_
    refine Own.st h 0 rfl _ rfl rfl rfl fun w3_13 h _ => ?_
    simp only [List.set_cons_zero, List.set_cons_succ, splice, List.setIfInBounds_toArray, HL.mk, Cell.mk] at h
    refine hX _ _ ?_
    clear hX X
    refine loop_norm 1 (by decide +kernel) fun X hX => ?_
    refine cond_true rfl ?_
    refine chk_of ⟨by decide, by decide⟩ ?_
    rw [Addr.add_mk]
    refine Own.ld h 0 rfl _ rfl ?_
    refine chk_of ⟨by decide, by decide⟩ ?_
    refine Own.st h 0 rfl _ rfl rfl rfl fun w3_21 h _ => ?_
    simp only [List.set_cons_zero, List.set_cons_succ, splice, List.setIfInBounds_toArray, HL.mk, Cell.mk] at h
    refine hX _ _ ?_
    clear hX X
    refine loop_norm 2 (by decide +kernel) fun X hX => ?_
    refine cond_true rfl ?_
    refine chk_of ⟨by decide, by decide⟩ ?_
    rw [Addr.add_mk]
    refine Own.ld h 0 rfl _ rfl ?_
    refine chk_of ⟨by decide, by decide⟩ ?_
    refine Own.st h 0 rfl _ rfl rfl rfl fun w3_29 h _ => ?_
    simp only [List.set_cons_zero, List.set_cons_succ, splice, List.setIfInBounds_toArray, HL.mk, Cell.mk] at h
    refine hX _ _ ?_
    clear hX X
    refine loop_norm 3 (by decide +kernel) fun X hX => ?_
    refine cond_true rfl ?_
    refine chk_of ⟨by decide, by decide⟩ ?_
    rw [Addr.add_mk]
    refine Own.ld h 0 rfl _ rfl ?_
    refine chk_of ⟨by decide, by decide⟩ ?_
    refine Own.st h 0 rfl _ rfl rfl rfl fun w3_37 h _ => ?_
    simp only [List.set_cons_zero, List.set_cons_succ, splice, List.setIfInBounds_toArray, HL.mk, Cell.mk] at h
    refine hX _ _ ?_
    clear hX X
    refine loop_norm 4 (by decide +kernel) fun X hX => ?_
    refine cond_true rfl ?_
    refine chk_of ⟨by decide, by decide⟩ ?_
    rw [Addr.add_mk]
    refine Own.ld h 0 rfl _ rfl ?_
    refine chk_of ⟨by decide, by decide⟩ ?_
    refine Own.st h 0 rfl _ rfl rfl rfl fun w3_45 h _ => ?_
    simp only [List.set_cons_zero, List.set_cons_succ, splice, List.setIfInBounds_toArray, HL.mk, Cell.mk] at h
    refine hX _ _ ?_
    clear hX X
    refine loop_norm 5 (by decide +kernel) fun X hX => ?_
    refine cond_true rfl ?_
    refine chk_of ⟨by decide, by decide⟩ ?_
    rw [Addr.add_mk]
    refine Own.ld h 0 rfl _ rfl ?_
    refine chk_of ⟨by decide, by decide⟩ ?_
    refine Own.st h 0 rfl _ rfl rfl rfl fun w3_53 h _ => ?_
    simp only [List.set_cons_zero, List.set_cons_succ, splice, List.setIfInBounds_toArray, HL.mk, Cell.mk] at h
    refine hX _ _ ?_
    clear hX X
    refine loop_norm 6 (by decide +kernel) fun X hX => ?_
    refine cond_true rfl ?_
    refine chk_of ⟨by decide, by decide⟩ ?_
    rw [Addr.add_mk]
    refine Own.ld h 0 rfl _ rfl ?_
    refine chk_of ⟨by decide, by decide⟩ ?_
    refine Own.st h 0 rfl _ rfl rfl rfl fun w3_61 h _ => ?_
    simp only [List.set_cons_zero, List.set_cons_succ, splice, List.setIfInBounds_toArray, HL.mk, Cell.mk] at h
    refine hX _ _ ?_
    clear hX X
    refine loop_norm 7 (by decide +kernel) fun X hX => ?_
    refine cond_true rfl ?_
    refine chk_of ⟨by decide, by decide⟩ ?_
    rw [Addr.add_mk]
    refine Own.ld h 0 rfl _ rfl ?_
    refine chk_of ⟨by decide, by decide⟩ ?_
    refine Own.st h 0 rfl _ rfl rfl rfl fun w3_69 h _ => ?_
    simp only [List.set_cons_zero, List.set_cons_succ, splice, List.setIfInBounds_toArray, HL.mk, Cell.mk] at h
    refine hX _ _ ?_
    clear hX X
    refine loop_norm 8 (by decide +kernel) fun X hX => ?_
    refine cond_false rfl ?_
    refine join_thru ?_
    refine cond_false (decide_eq_false (fun h' => hn (Int.ofNat_lt.1 h'))) ?_
    refine Own.ldA h 0 rfl (_, _, _, _, _, _, _, _) rfl ?_
    refine Own.st h 1 rfl _ rfl rfl rfl fun w3_76 h _ => ?_
    simp only [List.set_cons_zero, List.set_cons_succ, splice, List.setIfInBounds_toArray, HL.mk, Cell.mk] at h
    refine Own.ldA h 1 rfl (_, _, _, _, _, _, _, _) rfl ?_
    refine fin8 hk _ ?_ h.fr
    have e1 : r1.len = 0 := by omega
    simp [opsV, timesV, wr0, e1]

theorem Ops_2 {r : Req} {w : World} {K : I8 → World → Prop} (h1 : r.1 = 2) (ha : r.2.2.1.len ≤ 1000) (hk : ∀ w', Fr [] w w' → K (opsV 2 r.2.1.len r.2.2.1.len) w') : call Try.prog 12 [.agg (HL.mk rcs1 r).toArray] [.agg rcs2] w K := by
  obtain ⟨r0, r1, r2, r3, r4, r5, r6, r7, r8, r9⟩ := r
  apply reserve_Ops_of
  unfold reserve_OpsF
  have h := Own.start [] w
  change r0 = 2 at h1
  change r2.len ≤ 1000 at ha
  subst h1
  refine Own.new h fun b4_1 w4_1 eb4_1 sb4_1 h => ?_
  simp only [List.set_cons_zero, List.set_cons_succ, splice, List.setIfInBounds_toArray, HL.mk, Cell.mk] at h
  refine Own.new h fun b4_2 w4_2 eb4_2 sb4_2 h => ?_
  refine Own.ld h 1 rfl _ rfl ?_
  refine times_ok fun w2 hf => ?_
  have h := h.frame0 hf
  by_cases hn : 0 < r2.len
  · refine Own.new h fun b5_1 w5_1 eb5_1 sb5_1 h => ?_
    refine Own.st h 0 rfl _ rfl rfl rfl fun w5_2 h _ => ?_
    simp only [List.set_cons_zero, List.set_cons_succ, splice, List.setIfInBounds_toArray, HL.mk, Cell.mk] at h
    refine join_thru ?_
    refine Own.ld h 2 rfl _ rfl ?_
    refine cond_false rfl ?_
    refine cond_true rfl ?_
    refine Own.ld h 2 rfl _ rfl ?_
    refine loop_norm 0 (by decide +kernel) fun X hX => ?_
    refine cond_true rfl ?_
    refine chk_of ⟨by decide, by decide⟩ ?_
    rw [Addr.add_mk]
    refine Own.ld h 0 rfl _ rfl ?_
    refine chk_of ⟨by decide, by decide⟩ ?_
    refine Own.st h 0 rfl _ rfl rfl rfl fun w5_14 h _ => ?_
    simp only [List.set_cons_zero, List.set_cons_succ, splice, List.setIfInBounds_toArray, HL.mk, Cell.mk] at h
    refine hX _ _ ?_
    clear hX X
    refine loop_norm 1 (by decide +kernel) fun X hX => ?_
    refine cond_true rfl ?_
    refine chk_of ⟨by decide, by decide⟩ ?_
    rw [Addr.add_mk]
    refine Own.ld h 0 rfl _ rfl ?_
    refine chk_of ⟨by decide, by decide⟩ ?_
    refine Own.st h 0 rfl _ rfl rfl rfl fun w5_22 h _ => ?_
    simp only [List.set_cons_zero, List.set_cons_succ, splice, List.setIfInBounds_toArray, HL.mk, Cell.mk] at h
    refine hX _ _ ?_
    clear hX X
    refine loop_norm 2 (by decide +kernel) fun X hX => ?_
    refine cond_true rfl ?_
    refine chk_of ⟨by decide, by decide⟩ ?_
    rw [Addr.add_mk]
    refine Own.ld h 0 rfl _ rfl ?_
    refine chk_of ⟨by decide, by decide⟩ ?_
    refine Own.st h 0 rfl _ rfl rfl rfl fun w5_30 h _ => ?_
    simp only [List.set_cons_zero, List.set_cons_succ, splice, List.setIfInBounds_toArray, HL.mk, Cell.mk] at h
    refine hX _ _ ?_
    clear hX X
    refine loop_norm 3 (by decide +kernel) fun X hX => ?_
    refine cond_true rfl ?_
    refine chk_of ⟨by decide, by decide⟩ ?_
    rw [Addr.add_mk]
    refine Own.ld h 0 rfl _ rfl ?_
    refine chk_of ⟨by decide, by decide⟩ ?_
    refine Own.st h 0 rfl _ rfl rfl rfl fun w5_38 h _ => ?_
    simp only [List.set_cons_zero, List.set_cons_succ, splice, List.setIfInBounds_toArray, HL.mk, Cell.mk] at h
    refine hX _ _ ?_
    clear hX X
    refine loop_norm 4 (by decide +kernel) fun X hX => ?_
    refine cond_true rfl ?_
    refine chk_of ⟨by decide, by decide⟩ ?_
    rw [Addr.add_mk]
    refine Own.ld h 0 rfl _ rfl ?_
    refine chk_of ⟨by decide, by decide⟩ ?_
    refine Own.st h 0 rfl _ rfl rfl rfl fun w5_46 h _ => ?_
    simp only [List.set_cons_zero, List.set_cons_succ, splice, List.setIfInBounds_toArray, HL.mk, Cell.mk] at h
    refine hX _ _ ?_
    clear hX X
    refine loop_norm 5 (by decide +kernel) fun X hX => ?_
    refine cond_true rfl ?_
    refine chk_of ⟨by decide, by decide⟩ ?_
    rw [Addr.add_mk]
    refine Own.ld h 0 rfl _ rfl ?_
    refine chk_of ⟨by decide, by decide⟩ ?_
    refine Own.st h 0 rfl _ rfl rfl rfl fun w5_54 h _ => ?_
    simp only [List.set_cons_zero, List.set_cons_succ, splice, List.setIfInBounds_toArray, HL.mk, Cell.mk] at h
    refine hX _ _ ?_
    clear hX X
    refine loop_norm 6 (by decide +kernel) fun X hX => ?_
    refine cond_true rfl ?_
    refine chk_of ⟨by decide, by decide⟩ ?_
    rw [Addr.add_mk]
    refine Own.ld h 0 rfl _ rfl ?_
    refine chk_of ⟨by decide, by decide⟩ ?_
    refine Own.st h 0 rfl _ rfl rfl rfl fun w5_62 h _ => ?_
    simp only [List.set_cons_zero, List.set_cons_succ, splice, List.setIfInBounds_toArray, HL.mk, Cell.mk] at h
    refine hX _ _ ?_
    clear hX X
    refine loop_norm 7 (by decide +kernel) fun X hX => ?_
    refine cond_true rfl ?_
    refine chk_of ⟨by decide, by decide⟩ ?_
    rw [Addr.add_mk]
    refine Own.ld h 0 rfl _ rfl ?_
    refine chk_of ⟨by decide, by decide⟩ ?_
    refine Own.st h 0 rfl _ rfl rfl rfl fun w5_70 h _ => ?_
    simp only [List.set_cons_zero, List.set_cons_succ, splice, List.setIfInBounds_toArray, HL.mk, Cell.mk] at h
    refine hX _ _ ?_
    clear hX X
    refine loop_norm 8 (by decide +kernel) fun X hX => ?_
    refine cond_false rfl ?_
    refine join_thru ?_
    refine cond_true (decide_eq_true (Int.ofNat_lt.2 hn)) ?_
    refine Own.st h 0 rfl _ rfl rfl rfl fun w5_76 h _ => ?_
    simp only [List.set_cons_zero, List.set_cons_succ, splice, List.setIfInBounds_toArray, HL.mk, Cell.mk] at h
    refine Own.ldA h 0 rfl (_, _, _, _, _, _, _, _) rfl ?_
    refine Own.st h 1 rfl _ rfl rfl rfl fun w5_78 h _ => ?_
    simp only [List.set_cons_zero, List.set_cons_succ, splice, List.setIfInBounds_toArray, HL.mk, Cell.mk] at h
    refine Own.ldA h 1 rfl (_, _, _, _, _, _, _, _) rfl ?_
    refine fin8 hk _ ?_ h.fr
    have e1 := IntWalk.i64_in (r2.len : Int) (by omega)
    have e2 := IntWalk.i64_in (2 * r2.len : Int) (by omega)
    simp [opsV, timesV, wr0, hn, e1, e2]
  · refine Own.new h fun b6_1 w6_1 eb6_1 sb6_1 h => ?_
    refine Own.st h 0 rfl _ rfl rfl rfl fun w6_2 h _ => ?_
    simp only [List.set_cons_zero, List.set_cons_succ, splice, List.setIfInBounds_toArray, HL.mk, Cell.mk] at h
    refine join_thru ?_
    refine Own.ld h 2 rfl _ rfl ?_
    refine cond_false rfl ?_
    refine cond_true rfl ?_
    refine Own.ld h 2 rfl _ rfl ?_
    refine loop_norm 0 (by decide +kernel) fun X hX => ?_
    refine cond_true rfl ?_
    refine chk_of ⟨by decide, by decide⟩ ?_
    rw [Addr.add_mk]
    refine Own.ld h 0 rfl _ rfl ?_
    refine chk_of ⟨by decide, by decide⟩ ?_
    refine Own.st h 0 rfl _ rfl rfl rfl fun w6_14 h _ => ?_
    simp only [List.set_cons_zero, List.set_cons_succ, splice, List.setIfInBounds_toArray, HL.mk, Cell.mk] at h
    refine hX _ _ ?_
    clear hX X
    refine loop_norm 1 (by decide +kernel) fun X hX => ?_
    refine cond_true rfl ?_
    refine chk_of ⟨by decide, by decide⟩ ?_
    rw [Addr.add_mk]
    refine Own.ld h 0 rfl _ rfl ?_
    refine chk_of ⟨by decide, by decide⟩ ?_
    refine Own.st h 0 rfl _ rfl rfl rfl fun w6_22 h _ => ?_
    simp only [List.set_cons_zero, List.set_cons_succ, splice, List.setIfInBounds_toArray, HL.mk, Cell.mk] at h
    refine hX _ _ ?_
    clear hX X
    refine loop_norm 2 (by decide +kernel) fun X hX => ?_
    refine cond_true rfl ?_
    refine chk_of ⟨by decide, by decide⟩ ?_
    rw [Addr.add_mk]
    refine Own.ld h 0 rfl _ rfl ?_
    refine chk_of ⟨by decide, by decide⟩ ?_
    refine Own.st h 0 rfl _ rfl rfl rfl fun w6_30 h _ => ?_
    simp only [List.set_cons_zero, List.set_cons_succ, splice, List.setIfInBounds_toArray, HL.mk, Cell.mk] at h
    refine hX _ _ ?_
    clear hX X
    refine loop_norm 3 (by decide +kernel) fun X hX => ?_
    refine cond_true rfl ?_
    refine chk_of ⟨by decide, by decide⟩ ?_
    rw [Addr.add_mk]
    refine Own.ld h 0 rfl _ rfl ?_
    refine chk_of ⟨by decide, by decide⟩ ?_
    refine Own.st h 0 rfl _ rfl rfl rfl fun w6_38 h _ => ?_
    simp only [List.set_cons_zero, List.set_cons_succ, splice, List.setIfInBounds_toArray, HL.mk, Cell.mk] at h
    refine hX _ _ ?_
    clear hX X
    refine loop_norm 4 (by decide +kernel) fun X hX => ?_
    refine cond_true rfl ?_
    refine chk_of ⟨by decide, by decide⟩ ?_
    rw [Addr.add_mk]
    refine Own.ld h 0 rfl _ rfl ?_
    refine chk_of ⟨by decide, by decide⟩ ?_
    refine Own.st h 0 rfl _ rfl rfl rfl fun w6_46 h _ => ?_
    simp only [List.set_cons_zero, List.set_cons_succ, splice, List.setIfInBounds_toArray, HL.mk, Cell.mk] at h
    refine hX _ _ ?_
    clear hX X
    refine loop_norm 5 (by decide +kernel) fun X hX => ?_
    refine cond_true rfl ?_
    refine chk_of ⟨by decide, by decide⟩ ?_
    rw [Addr.add_mk]
    refine Own.ld h 0 rfl _ rfl ?_
    refine chk_of ⟨by decide, by decide⟩ ?_
    refine Own.st h 0 rfl _ rfl rfl rfl fun w6_54 h _ => ?_
    simp only [List.set_cons_zero, List.set_cons_succ, splice, List.setIfInBounds_toArray, HL.mk, Cell.mk] at h
    refine hX _ _ ?_
    clear hX X
    refine loop_norm 6 (by decide +kernel) fun X hX => ?_
    refine cond_true rfl ?_
    refine chk_of ⟨by decide, by decide⟩ ?_
    rw [Addr.add_mk]
    refine Own.ld h 0 rfl _ rfl ?_
    refine chk_of ⟨by decide, by decide⟩ ?_
    refine Own.st h 0 rfl _ rfl rfl rfl fun w6_62 h _ => ?_
    simp only [List.set_cons_zero, List.set_cons_succ, splice, List.setIfInBounds_toArray, HL.mk, Cell.mk] at h
    refine hX _ _ ?_
    clear hX X
    refine loop_norm 7 (by decide +kernel) fun X hX => ?_
    refine cond_true rfl ?_
    refine chk_of ⟨by decide, by decide⟩ ?_
    rw [Addr.add_mk]
    refine Own.ld h 0 rfl _ rfl ?_
    refine chk_of ⟨by decide, by decide⟩ ?_
    refine Own.st h 0 rfl _ rfl rfl rfl fun w6_70 h _ => ?_
    simp only [List.set_cons_zero, List.set_cons_succ, splice, List.setIfInBounds_toArray, HL.mk, Cell.mk] at h
    refine hX _ _ ?_
    clear hX X
    refine loop_norm 8 (by decide +kernel) fun X hX => ?_
    refine cond_false rfl ?_
    refine join_thru ?_
    refine cond_false (decide_eq_false (fun h' => hn (Int.ofNat_lt.1 h'))) ?_
    refine Own.ldA h 0 rfl (_, _, _, _, _, _, _, _) rfl ?_
    refine Own.st h 1 rfl _ rfl rfl rfl fun w6_77 h _ => ?_
    simp only [List.set_cons_zero, List.set_cons_succ, splice, List.setIfInBounds_toArray, HL.mk, Cell.mk] at h
    refine Own.ldA h 1 rfl (_, _, _, _, _, _, _, _) rfl ?_
    refine fin8 hk _ ?_ h.fr
    have e1 : r2.len = 0 := by omega
    simp [opsV, timesV, wr0, e1]

theorem Ops_7 {r : Req} {w : World} {K : I8 → World → Prop} (h1 : r.1 = 7) (hk : ∀ w', Fr [] w w' → K (opsV 7 r.2.1.len r.2.2.1.len) w') : call Try.prog 12 [.agg (HL.mk rcs1 r).toArray] [.agg rcs2] w K := by
  obtain ⟨r0, r1, r2, r3, r4, r5, r6, r7, r8, r9⟩ := r
  apply reserve_Ops_of
  unfold reserve_OpsF
  have h := Own.start [] w
  change r0 = 7 at h1
  subst h1
  refine Own.new h fun b7_1 w7_1 eb7_1 sb7_1 h => ?_
  simp only [List.set_cons_zero, List.set_cons_succ, splice, List.setIfInBounds_toArray, HL.mk, Cell.mk] at h
  refine Own.new h fun b7_2 w7_2 eb7_2 sb7_2 h => ?_
  refine Own.ld h 1 rfl _ rfl ?_
  refine times_ok fun w2 hf => ?_
  have h := h.frame0 hf
  refine Own.new h fun b8_1 w8_1 eb8_1 sb8_1 h => ?_
  refine Own.st h 0 rfl _ rfl rfl rfl fun w8_2 h _ => ?_
  simp only [List.set_cons_zero, List.set_cons_succ, splice, List.setIfInBounds_toArray, HL.mk, Cell.mk] at h
  refine join_thru ?_
  refine Own.ld h 2 rfl _ rfl ?_
  refine cond_false rfl ?_
  refine cond_false rfl ?_
  refine loop_norm 0 (by decide +kernel) fun X hX => ?_
  refine cond_true rfl ?_
  refine chk_of ⟨by decide, by decide⟩ ?_
  rw [Addr.add_mk]
  refine Own.ld h 0 rfl _ rfl ?_
  refine chk_of ⟨by decide, by decide⟩ ?_
  refine Own.st h 0 rfl _ rfl rfl rfl fun w8_13 h _ => ?_
  simp only [List.set_cons_zero, List.set_cons_succ, splice, List.setIfInBounds_toArray, HL.mk, Cell.mk] at h
  refine hX _ _ ?_
  clear hX X
  refine loop_norm 1 (by decide +kernel) fun X hX => ?_
  refine cond_true rfl ?_
  refine chk_of ⟨by decide, by decide⟩ ?_
  rw [Addr.add_mk]
  refine Own.ld h 0 rfl _ rfl ?_
  refine chk_of ⟨by decide, by decide⟩ ?_
  refine Own.st h 0 rfl _ rfl rfl rfl fun w8_21 h _ => ?_
  simp only [List.set_cons_zero, List.set_cons_succ, splice, List.setIfInBounds_toArray, HL.mk, Cell.mk] at h
  refine hX _ _ ?_
  clear hX X
  refine loop_norm 2 (by decide +kernel) fun X hX => ?_
  refine cond_true rfl ?_
  refine chk_of ⟨by decide, by decide⟩ ?_
  rw [Addr.add_mk]
  refine Own.ld h 0 rfl _ rfl ?_
  refine chk_of ⟨by decide, by decide⟩ ?_
  refine Own.st h 0 rfl _ rfl rfl rfl fun w8_29 h _ => ?_
  simp only [List.set_cons_zero, List.set_cons_succ, splice, List.setIfInBounds_toArray, HL.mk, Cell.mk] at h
  refine hX _ _ ?_
  clear hX X
  refine loop_norm 3 (by decide +kernel) fun X hX => ?_
  refine cond_true rfl ?_
  refine chk_of ⟨by decide, by decide⟩ ?_
  rw [Addr.add_mk]
  refine Own.ld h 0 rfl _ rfl ?_
  refine chk_of ⟨by decide, by decide⟩ ?_
  refine Own.st h 0 rfl _ rfl rfl rfl fun w8_37 h _ => ?_
  simp only [List.set_cons_zero, List.set_cons_succ, splice, List.setIfInBounds_toArray, HL.mk, Cell.mk] at h
  refine hX _ _ ?_
  clear hX X
  refine loop_norm 4 (by decide +kernel) fun X hX => ?_
  refine cond_true rfl ?_
  refine chk_of ⟨by decide, by decide⟩ ?_
  rw [Addr.add_mk]
  refine Own.ld h 0 rfl _ rfl ?_
  refine chk_of ⟨by decide, by decide⟩ ?_
  refine Own.st h 0 rfl _ rfl rfl rfl fun w8_45 h _ => ?_
  simp only [List.set_cons_zero, List.set_cons_succ, splice, List.setIfInBounds_toArray, HL.mk, Cell.mk] at h
  refine hX _ _ ?_
  clear hX X
  refine loop_norm 5 (by decide +kernel) fun X hX => ?_
  refine cond_true rfl ?_
  refine chk_of ⟨by decide, by decide⟩ ?_
  rw [Addr.add_mk]
  refine Own.ld h 0 rfl _ rfl ?_
  refine chk_of ⟨by decide, by decide⟩ ?_
  refine Own.st h 0 rfl _ rfl rfl rfl fun w8_53 h _ => ?_
  simp only [List.set_cons_zero, List.set_cons_succ, splice, List.setIfInBounds_toArray, HL.mk, Cell.mk] at h
  refine hX _ _ ?_
  clear hX X
  refine loop_norm 6 (by decide +kernel) fun X hX => ?_
  refine cond_true rfl ?_
  refine chk_of ⟨by decide, by decide⟩ ?_
  rw [Addr.add_mk]
  refine Own.ld h 0 rfl _ rfl ?_
  refine chk_of ⟨by decide, by decide⟩ ?_
  refine Own.st h 0 rfl _ rfl rfl rfl fun w8_61 h _ => ?_
  simp only [List.set_cons_zero, List.set_cons_succ, splice, List.setIfInBounds_toArray, HL.mk, Cell.mk] at h
  refine hX _ _ ?_
  clear hX X
  refine loop_norm 7 (by decide +kernel) fun X hX => ?_
  refine cond_true rfl ?_
  refine chk_of ⟨by decide, by decide⟩ ?_
  rw [Addr.add_mk]
  refine Own.ld h 0 rfl _ rfl ?_
  refine chk_of ⟨by decide, by decide⟩ ?_
  refine Own.st h 0 rfl _ rfl rfl rfl fun w8_69 h _ => ?_
  simp only [List.set_cons_zero, List.set_cons_succ, splice, List.setIfInBounds_toArray, HL.mk, Cell.mk] at h
  refine hX _ _ ?_
  clear hX X
  refine loop_norm 8 (by decide +kernel) fun X hX => ?_
  refine cond_false rfl ?_
  refine join_thru ?_
  refine cond_true rfl ?_
  refine Own.st h 0 rfl _ rfl rfl rfl fun w8_75 h _ => ?_
  simp only [List.set_cons_zero, List.set_cons_succ, splice, List.setIfInBounds_toArray, HL.mk, Cell.mk] at h
  refine Own.ldA h 0 rfl (_, _, _, _, _, _, _, _) rfl ?_
  refine Own.st h 1 rfl _ rfl rfl rfl fun w8_77 h _ => ?_
  simp only [List.set_cons_zero, List.set_cons_succ, splice, List.setIfInBounds_toArray, HL.mk, Cell.mk] at h
  refine Own.ldA h 1 rfl (_, _, _, _, _, _, _, _) rfl ?_
  refine fin8 hk _ ?_ h.fr
  have e : opsV 7 r1.len r2.len = (32, 0, 16, 16, 0, 0, 32, 1) := by simp [opsV]
  refine Eq.trans ?_ e.symm
  simp [timesV, wr0, show IntKind.i64.wrap 32 = 32 by decide +kernel, show IntKind.i64.wrap 16 = 16 by decide +kernel]

theorem Ops_else {r : Req} {w : World} {K : I8 → World → Prop} (h1 : r.1 ≠ 1) (h2 : r.1 ≠ 2) (h7 : r.1 ≠ 7) (hk : ∀ w', Fr [] w w' → K (opsV r.1 r.2.1.len r.2.2.1.len) w') : call Try.prog 12 [.agg (HL.mk rcs1 r).toArray] [.agg rcs2] w K := by
  obtain ⟨r0, r1, r2, r3, r4, r5, r6, r7, r8, r9⟩ := r
  apply reserve_Ops_of
  unfold reserve_OpsF
  have h := Own.start [] w
  change r0 ≠ 1 at h1
  change r0 ≠ 2 at h2
  change r0 ≠ 7 at h7
  refine Own.new h fun b9_1 w9_1 eb9_1 sb9_1 h => ?_
  simp only [List.set_cons_zero, List.set_cons_succ, splice, List.setIfInBounds_toArray, HL.mk, Cell.mk] at h
  refine Own.new h fun b9_2 w9_2 eb9_2 sb9_2 h => ?_
  refine Own.ld h 1 rfl _ rfl ?_
  refine times_ok fun w2 hf => ?_
  have e : timesV r0 = ((0, 0, 0, 0, 0, 0, 0, 0), 0) := by simp [timesV, h1, h2, h7]
  rw [e]
  have h := h.frame0 hf
  refine Own.new h fun b10_1 w10_1 eb10_1 sb10_1 h => ?_
  refine Own.st h 0 rfl _ rfl rfl rfl fun w10_2 h _ => ?_
  simp only [List.set_cons_zero, List.set_cons_succ, splice, List.setIfInBounds_toArray, HL.mk, Cell.mk] at h
  refine join_thru ?_
  refine Own.ld h 2 rfl _ rfl ?_
  refine cond_false (beq_false_of_ne h1) ?_
  refine cond_false (beq_false_of_ne h2) ?_
  refine loop_norm 0 (by decide +kernel) fun X hX => ?_
  refine cond_true rfl ?_
  refine chk_of ⟨by decide, by decide⟩ ?_
  rw [Addr.add_mk]
  refine Own.ld h 0 rfl _ rfl ?_
  refine chk_of ⟨by decide, by decide⟩ ?_
  refine Own.st h 0 rfl _ rfl rfl rfl fun w10_13 h _ => ?_
  simp only [List.set_cons_zero, List.set_cons_succ, splice, List.setIfInBounds_toArray, HL.mk, Cell.mk] at h
  refine hX _ _ ?_
  clear hX X
  refine loop_norm 1 (by decide +kernel) fun X hX => ?_
  refine cond_true rfl ?_
  refine chk_of ⟨by decide, by decide⟩ ?_
  rw [Addr.add_mk]
  refine Own.ld h 0 rfl _ rfl ?_
  refine chk_of ⟨by decide, by decide⟩ ?_
  refine Own.st h 0 rfl _ rfl rfl rfl fun w10_21 h _ => ?_
  simp only [List.set_cons_zero, List.set_cons_succ, splice, List.setIfInBounds_toArray, HL.mk, Cell.mk] at h
  refine hX _ _ ?_
  clear hX X
  refine loop_norm 2 (by decide +kernel) fun X hX => ?_
  refine cond_true rfl ?_
  refine chk_of ⟨by decide, by decide⟩ ?_
  rw [Addr.add_mk]
  refine Own.ld h 0 rfl _ rfl ?_
  refine chk_of ⟨by decide, by decide⟩ ?_
  refine Own.st h 0 rfl _ rfl rfl rfl fun w10_29 h _ => ?_
  simp only [List.set_cons_zero, List.set_cons_succ, splice, List.setIfInBounds_toArray, HL.mk, Cell.mk] at h
  refine hX _ _ ?_
  clear hX X
  refine loop_norm 3 (by decide +kernel) fun X hX => ?_
  refine cond_true rfl ?_
  refine chk_of ⟨by decide, by decide⟩ ?_
  rw [Addr.add_mk]
  refine Own.ld h 0 rfl _ rfl ?_
  refine chk_of ⟨by decide, by decide⟩ ?_
  refine Own.st h 0 rfl _ rfl rfl rfl fun w10_37 h _ => ?_
  simp only [List.set_cons_zero, List.set_cons_succ, splice, List.setIfInBounds_toArray, HL.mk, Cell.mk] at h
  refine hX _ _ ?_
  clear hX X
  refine loop_norm 4 (by decide +kernel) fun X hX => ?_
  refine cond_true rfl ?_
  refine chk_of ⟨by decide, by decide⟩ ?_
  rw [Addr.add_mk]
  refine Own.ld h 0 rfl _ rfl ?_
  refine chk_of ⟨by decide, by decide⟩ ?_
  refine Own.st h 0 rfl _ rfl rfl rfl fun w10_45 h _ => ?_
  simp only [List.set_cons_zero, List.set_cons_succ, splice, List.setIfInBounds_toArray, HL.mk, Cell.mk] at h
  refine hX _ _ ?_
  clear hX X
  refine loop_norm 5 (by decide +kernel) fun X hX => ?_
  refine cond_true rfl ?_
  refine chk_of ⟨by decide, by decide⟩ ?_
  rw [Addr.add_mk]
  refine Own.ld h 0 rfl _ rfl ?_
  refine chk_of ⟨by decide, by decide⟩ ?_
  refine Own.st h 0 rfl _ rfl rfl rfl fun w10_53 h _ => ?_
  simp only [List.set_cons_zero, List.set_cons_succ, splice, List.setIfInBounds_toArray, HL.mk, Cell.mk] at h
  refine hX _ _ ?_
  clear hX X
  refine loop_norm 6 (by decide +kernel) fun X hX => ?_
  refine cond_true rfl ?_
  refine chk_of ⟨by decide, by decide⟩ ?_
  rw [Addr.add_mk]
  refine Own.ld h 0 rfl _ rfl ?_
  refine chk_of ⟨by decide, by decide⟩ ?_
  refine Own.st h 0 rfl _ rfl rfl rfl fun w10_61 h _ => ?_
  simp only [List.set_cons_zero, List.set_cons_succ, splice, List.setIfInBounds_toArray, HL.mk, Cell.mk] at h
  refine hX _ _ ?_
  clear hX X
  refine loop_norm 7 (by decide +kernel) fun X hX => ?_
  refine cond_true rfl ?_
  refine chk_of ⟨by decide, by decide⟩ ?_
  rw [Addr.add_mk]
  refine Own.ld h 0 rfl _ rfl ?_
  refine chk_of ⟨by decide, by decide⟩ ?_
  refine Own.st h 0 rfl _ rfl rfl rfl fun w10_69 h _ => ?_
  simp only [List.set_cons_zero, List.set_cons_succ, splice, List.setIfInBounds_toArray, HL.mk, Cell.mk] at h
  refine hX _ _ ?_
  clear hX X
  refine loop_norm 8 (by decide +kernel) fun X hX => ?_
  refine cond_false rfl ?_
  refine join_thru ?_
  refine cond_false rfl ?_
  refine Own.ldA h 0 rfl (_, _, _, _, _, _, _, _) rfl ?_
  refine Own.st h 1 rfl _ rfl rfl rfl fun w10_76 h _ => ?_
  simp only [List.set_cons_zero, List.set_cons_succ, splice, List.setIfInBounds_toArray, HL.mk, Cell.mk] at h
  refine Own.ldA h 1 rfl (_, _, _, _, _, _, _, _) rfl ?_
  refine fin8 hk _ ?_ h.fr
  simp [opsV, wr0, h1, h2, h7]

theorem Ops_ok {r : Req} {w : World} {K : I8 → World → Prop} (ha : r.2.1.len ≤ 1000) (ht : r.2.2.1.len ≤ 1000) (hk : ∀ w', Fr [] w w' → K (opsV r.1 r.2.1.len r.2.2.1.len) w') : call Try.prog 12 [.agg (HL.mk rcs1 r).toArray] [.agg rcs2] w K := by
  by_cases h1 : r.1 = 1
  · rw [h1] at hk; exact Ops_1 h1 ha hk
  by_cases h2 : r.1 = 2
  · rw [h2] at hk; exact Ops_2 h2 ht hk
  by_cases h7 : r.1 = 7
  · rw [h7] at hk; exact Ops_7 h7 hk
  exact Ops_else h1 h2 h7 hk

theorem ROps_ok {r : Req} {w : World} {K : I8 → World → Prop} (ha : r.2.1.len ≤ 1000) (ht : r.2.2.1.len ≤ 1000) (hk : ∀ w', Fr [] w w' → K (opsV r.1 r.2.1.len r.2.2.1.len) w') : call Try.prog 13 [.agg (HL.mk rcs1 r).toArray] [.agg rcs2] w K := by
  obtain ⟨r0, r1, r2, r3, r4, r5, r6, r7, r8, r9⟩ := r
  apply cashbookref27_Ops_of
  unfold cashbookref27_OpsF
  have h := Own.start [] w
  change r1.len ≤ 1000 at ha
  change r2.len ≤ 1000 at ht
  by_cases h1 : r0 = 1
  · subst h1
    by_cases hn : r1.len = 0
    · refine Own.new h fun b11_1 w11_1 eb11_1 sb11_1 h => ?_
      simp only [List.set_cons_zero, List.set_cons_succ, splice, List.setIfInBounds_toArray, HL.mk, Cell.mk] at h
      refine Own.new h fun b11_2 w11_2 eb11_2 sb11_2 h => ?_
      refine Own.new h fun b11_3 w11_3 eb11_3 sb11_3 h => ?_
      refine Own.st h 0 rfl _ rfl rfl rfl fun w11_4 h _ => ?_
      simp only [List.set_cons_zero, List.set_cons_succ, splice, List.setIfInBounds_toArray, HL.mk, Cell.mk] at h
      refine join_thru ?_
      refine Own.ld h 2 rfl _ rfl ?_
      refine cond_true rfl ?_
      refine Own.ld h 2 rfl _ rfl ?_
      refine Own.st h 0 rfl _ rfl rfl rfl fun w11_9 h _ => ?_
      simp only [List.set_cons_zero, List.set_cons_succ, splice, List.setIfInBounds_toArray, HL.mk, Cell.mk] at h
      refine join_thru ?_
      refine Own.ld h 2 rfl _ rfl ?_
      refine cond_false rfl ?_
      refine join_thru ?_
      refine Own.ld h 2 rfl _ rfl ?_
      refine cond_false rfl ?_
      refine cond_true (beq_iff_eq.2 (Int.ofNat_eq_zero.2 hn)) ?_
      refine Own.st h 1 rfl _ rfl rfl rfl fun w11_17 h _ => ?_
      simp only [List.set_cons_zero, List.set_cons_succ, splice, List.setIfInBounds_toArray, HL.mk, Cell.mk] at h
      refine Own.ldA h 1 rfl (_, _, _, _, _, _, _, _) rfl ?_
      refine fin8 hk _ ?_ h.fr
      simp [opsV, hn]
    · refine Own.new h fun b12_1 w12_1 eb12_1 sb12_1 h => ?_
      simp only [List.set_cons_zero, List.set_cons_succ, splice, List.setIfInBounds_toArray, HL.mk, Cell.mk] at h
      refine Own.new h fun b12_2 w12_2 eb12_2 sb12_2 h => ?_
      refine Own.new h fun b12_3 w12_3 eb12_3 sb12_3 h => ?_
      refine Own.st h 0 rfl _ rfl rfl rfl fun w12_4 h _ => ?_
      simp only [List.set_cons_zero, List.set_cons_succ, splice, List.setIfInBounds_toArray, HL.mk, Cell.mk] at h
      refine join_thru ?_
      refine Own.ld h 2 rfl _ rfl ?_
      refine cond_true rfl ?_
      refine Own.ld h 2 rfl _ rfl ?_
      refine Own.st h 0 rfl _ rfl rfl rfl fun w12_9 h _ => ?_
      simp only [List.set_cons_zero, List.set_cons_succ, splice, List.setIfInBounds_toArray, HL.mk, Cell.mk] at h
      refine join_thru ?_
      refine Own.ld h 2 rfl _ rfl ?_
      refine cond_false rfl ?_
      refine join_thru ?_
      refine Own.ld h 2 rfl _ rfl ?_
      refine cond_false rfl ?_
      refine cond_false (beq_false_of_ne (fun h' => hn (Int.ofNat_eq_zero.1 h'))) ?_
      refine Own.ldA h 0 rfl (_, _, _, _, _, _, _, _) rfl ?_
      refine Own.st h 1 rfl _ rfl rfl rfl fun w12_18 h _ => ?_
      simp only [List.set_cons_zero, List.set_cons_succ, splice, List.setIfInBounds_toArray, HL.mk, Cell.mk] at h
      refine Own.ldA h 1 rfl (_, _, _, _, _, _, _, _) rfl ?_
      refine fin8 hk _ ?_ h.fr
      simp [opsV, show 0 < r1.len by omega]
  by_cases h2 : r0 = 2
  · subst h2
    have e2 := IntWalk.i64_in (2 * r2.len : Int) (by omega)
    by_cases hn : r2.len = 0
    · refine Own.new h fun b13_1 w13_1 eb13_1 sb13_1 h => ?_
      simp only [List.set_cons_zero, List.set_cons_succ, splice, List.setIfInBounds_toArray, HL.mk, Cell.mk] at h
      refine Own.new h fun b13_2 w13_2 eb13_2 sb13_2 h => ?_
      refine Own.new h fun b13_3 w13_3 eb13_3 sb13_3 h => ?_
      refine Own.st h 0 rfl _ rfl rfl rfl fun w13_4 h _ => ?_
      simp only [List.set_cons_zero, List.set_cons_succ, splice, List.setIfInBounds_toArray, HL.mk, Cell.mk] at h
      refine join_thru ?_
      refine Own.ld h 2 rfl _ rfl ?_
      refine cond_false rfl ?_
      refine join_thru ?_
      refine Own.ld h 2 rfl _ rfl ?_
      refine cond_true rfl ?_
      refine Own.ld h 2 rfl _ rfl ?_
      refine Own.st h 0 rfl _ rfl rfl rfl fun w13_12 h _ => ?_
      simp only [List.set_cons_zero, List.set_cons_succ, splice, List.setIfInBounds_toArray, HL.mk, Cell.mk] at h
      refine join_thru ?_
      refine Own.ld h 2 rfl _ rfl ?_
      refine cond_false rfl ?_
      refine cond_true (beq_iff_eq.2 (Int.ofNat_eq_zero.2 hn)) ?_
      refine Own.st h 1 rfl _ rfl rfl rfl fun w13_17 h _ => ?_
      simp only [List.set_cons_zero, List.set_cons_succ, splice, List.setIfInBounds_toArray, HL.mk, Cell.mk] at h
      refine Own.ldA h 1 rfl (_, _, _, _, _, _, _, _) rfl ?_
      refine fin8 hk _ ?_ h.fr
      simp [opsV, hn]
    · refine Own.new h fun b14_1 w14_1 eb14_1 sb14_1 h => ?_
      simp only [List.set_cons_zero, List.set_cons_succ, splice, List.setIfInBounds_toArray, HL.mk, Cell.mk] at h
      refine Own.new h fun b14_2 w14_2 eb14_2 sb14_2 h => ?_
      refine Own.new h fun b14_3 w14_3 eb14_3 sb14_3 h => ?_
      refine Own.st h 0 rfl _ rfl rfl rfl fun w14_4 h _ => ?_
      simp only [List.set_cons_zero, List.set_cons_succ, splice, List.setIfInBounds_toArray, HL.mk, Cell.mk] at h
      refine join_thru ?_
      refine Own.ld h 2 rfl _ rfl ?_
      refine cond_false rfl ?_
      refine join_thru ?_
      refine Own.ld h 2 rfl _ rfl ?_
      refine cond_true rfl ?_
      refine Own.ld h 2 rfl _ rfl ?_
      refine Own.st h 0 rfl _ rfl rfl rfl fun w14_12 h _ => ?_
      simp only [List.set_cons_zero, List.set_cons_succ, splice, List.setIfInBounds_toArray, HL.mk, Cell.mk] at h
      refine join_thru ?_
      refine Own.ld h 2 rfl _ rfl ?_
      refine cond_false rfl ?_
      refine cond_false (beq_false_of_ne (fun h' => hn (Int.ofNat_eq_zero.1 h'))) ?_
      refine Own.ldA h 0 rfl (_, _, _, _, _, _, _, _) rfl ?_
      refine Own.st h 1 rfl _ rfl rfl rfl fun w14_18 h _ => ?_
      simp only [List.set_cons_zero, List.set_cons_succ, splice, List.setIfInBounds_toArray, HL.mk, Cell.mk] at h
      refine Own.ldA h 1 rfl (_, _, _, _, _, _, _, _) rfl ?_
      refine fin8 hk _ ?_ h.fr
      simp [opsV, show 0 < r2.len by omega, e2]
  by_cases h7 : r0 = 7
  · subst h7
    refine Own.new h fun b15_1 w15_1 eb15_1 sb15_1 h => ?_
    simp only [List.set_cons_zero, List.set_cons_succ, splice, List.setIfInBounds_toArray, HL.mk, Cell.mk] at h
    refine Own.new h fun b15_2 w15_2 eb15_2 sb15_2 h => ?_
    refine Own.new h fun b15_3 w15_3 eb15_3 sb15_3 h => ?_
    refine Own.st h 0 rfl _ rfl rfl rfl fun w15_4 h _ => ?_
    simp only [List.set_cons_zero, List.set_cons_succ, splice, List.setIfInBounds_toArray, HL.mk, Cell.mk] at h
    refine join_thru ?_
    refine Own.ld h 2 rfl _ rfl ?_
    refine cond_false rfl ?_
    refine join_thru ?_
    refine Own.ld h 2 rfl _ rfl ?_
    refine cond_false rfl ?_
    refine join_thru ?_
    refine Own.ld h 2 rfl _ rfl ?_
    refine cond_true rfl ?_
    refine Own.st h 0 rfl _ rfl rfl rfl fun w15_14 h _ => ?_
    simp only [List.set_cons_zero, List.set_cons_succ, splice, List.setIfInBounds_toArray, HL.mk, Cell.mk] at h
    refine cond_false rfl ?_
    refine Own.ldA h 0 rfl (_, _, _, _, _, _, _, _) rfl ?_
    refine Own.st h 1 rfl _ rfl rfl rfl fun w15_17 h _ => ?_
    simp only [List.set_cons_zero, List.set_cons_succ, splice, List.setIfInBounds_toArray, HL.mk, Cell.mk] at h
    refine Own.ldA h 1 rfl (_, _, _, _, _, _, _, _) rfl ?_
    refine fin8 hk _ ?_ h.fr
    simp [opsV]
  refine Own.new h fun b16_1 w16_1 eb16_1 sb16_1 h => ?_
  simp only [List.set_cons_zero, List.set_cons_succ, splice, List.setIfInBounds_toArray, HL.mk, Cell.mk] at h
  refine Own.new h fun b16_2 w16_2 eb16_2 sb16_2 h => ?_
  refine Own.new h fun b16_3 w16_3 eb16_3 sb16_3 h => ?_
  refine Own.st h 0 rfl _ rfl rfl rfl fun w16_4 h _ => ?_
  simp only [List.set_cons_zero, List.set_cons_succ, splice, List.setIfInBounds_toArray, HL.mk, Cell.mk] at h
  refine join_thru ?_
  refine Own.ld h 2 rfl _ rfl ?_
  refine cond_false (beq_false_of_ne h1) ?_
  refine join_thru ?_
  refine Own.ld h 2 rfl _ rfl ?_
  refine cond_false (beq_false_of_ne h2) ?_
  refine join_thru ?_
  refine Own.ld h 2 rfl _ rfl ?_
  refine cond_false (beq_false_of_ne h7) ?_
  refine cond_true rfl ?_
  refine Own.st h 1 rfl _ rfl rfl rfl fun w16_15 h _ => ?_
  simp only [List.set_cons_zero, List.set_cons_succ, splice, List.setIfInBounds_toArray, HL.mk, Cell.mk] at h
  refine Own.ldA h 1 rfl (_, _, _, _, _, _, _, _) rfl ?_
  refine fin8 hk _ ?_ h.fr
  simp [opsV, h1, h2, h7]

end Go.Proofs.Ytmmldfipakcmaaa
