/- The reserve layer: how many pages a request needs. Conditions: those of the Go types, lengths up to 30, blocks from 2 up to 100000. -/
import Derived.Test.YtmmldfipakcmaaaOps
set_option linter.unusedVariables false
set_option linter.unusedSimpArgs false
namespace Go.Proofs.Ytmmldfipakcmaaa
open Go Go.Pt
attribute [local irreducible] ld ldA st new idx idxS idxA slc slcS slcP mkS chk nn call callV inv run runQ runU join loop held IntKind.wrap

def at8 (o : I8) : Nat → Int
  | 0 => o.1 | 1 => o.2.1 | 2 => o.2.2.1 | 3 => o.2.2.2.1 | 4 => o.2.2.2.2.1 | 5 => o.2.2.2.2.2.1 | 6 => o.2.2.2.2.2.2.1 | _ => o.2.2.2.2.2.2.2

theorem lt8 {j : Nat} (h : j < 8) : j = 0 ∨ j = 1 ∨ j = 2 ∨ j = 3 ∨ j = 4 ∨ j = 5 ∨ j = 6 ∨ j = 7 := by omega

theorem at_i64 (o : HL rcs2) {j : Nat} (h : j < 8) : (HL.mk rcs2 o)[j]? = some (.int .i64 (at8 o j)) := by
  rcases lt8 h with rfl | rfl | rfl | rfl | rfl | rfl | rfl | rfl <;> rfl
theorem at_i64' (o : HL rcs2) {j : Nat} (h : j < 8) : (HL.mk rcs2 o).toArray[j]? = some (.int .i64 (at8 o j)) := by
  rcases lt8 h with rfl | rfl | rfl | rfl | rfl | rfl | rfl | rfl <;> rfl
theorem at_u32' (o : HL rcs3) {j : Nat} (h : j < 8) : (HL.mk rcs3 o).toArray[j]? = some (.int .u32 (at8 o j)) := by
  rcases lt8 h with rfl | rfl | rfl | rfl | rfl | rfl | rfl | rfl <;> rfl

/-- Eight numbers, each in bounds. -/
def In8 (lo hi : Int) (o : I8) : Prop := ∀ j, j < 8 → lo ≤ at8 o j ∧ at8 o j ≤ hi

theorem opsV_in {k a t : Int} (ha : 0 ≤ a ∧ a ≤ 30) (ht : 0 ≤ t ∧ t ≤ 30) : In8 0 60 (opsV k a t) := by
  intro j hj
  rcases lt8 hj with rfl | rfl | rfl | rfl | rfl | rfl | rfl | rfl <;> simp only [at8, opsV] <;> (repeat' split) <;> dsimp only <;> omega

open Classical in
noncomputable def hgtF (t keys : Int) : Int := if h : ∃ x, HgtIs t keys x then Classical.choose h else 0

theorem hgtF_eq {t keys x : Int} (h : HgtIs t keys x) : x = hgtF t keys := by
  unfold hgtF
  rw [dif_pos ⟨x, h⟩]
  exact HgtIs.unique h (Classical.choose_spec ⟨x, h⟩)

theorem HgtIs.le {t keys x : Int} (h : HgtIs t keys x) : 0 ≤ x ∧ x ≤ 65 := by
  unfold HgtIs at h
  split at h
  · obtain ⟨k, rfl, hk, _⟩ := h; omega
  · omega

theorem hgtF_le (t keys : Int) : 0 ≤ hgtF t keys ∧ hgtF t keys ≤ 65 := by
  unfold hgtF
  split
  · rename_i h; exact (Classical.choose_spec h).le
  · omega

/-- What tree number j takes. -/
noncomputable def takes (o c : I8) (j : Nat) : Int := if 0 < at8 o j then at8 o j * (2 * hgtF j (at8 c j + at8 o j) + 1) else 0

noncomputable def sumTo (f : Nat → Int) : Nat → Int
  | 0 => 0
  | n + 1 => sumTo f n + f n

noncomputable def needsV (o c : I8) (blocks : Int) : Int := if sumTo (takes o c) 8 = 0 then 0 else sumTo (takes o c) 8 + needV (blocks - 2)

theorem mul_le_30 {a b : Int} (ha : 0 ≤ a ∧ a ≤ 60) (hb : 0 ≤ b ∧ b ≤ 131) : 0 ≤ a * b ∧ a * b ≤ 7860 := by
  constructor
  · exact Int.mul_nonneg ha.1 hb.1
  · have h1 : a * b ≤ 60 * b := Int.mul_le_mul_of_nonneg_right ha.2 hb.1
    omega

theorem wu64 (x : Int) (h : 0 ≤ x ∧ x ≤ 18446744073709551615) : IntKind.u64.wrap x = x := IntWalk.u64_in x h

theorem takes_in {o c : I8} (ho : In8 0 60 o) {j : Nat} (hj : j < 8) : 0 ≤ takes o c j ∧ takes o c j ≤ 8000 := by
  unfold takes
  split
  · have h1 := ho j hj
    have h2 : 0 ≤ hgtF j (at8 c j + at8 o j) ∧ hgtF j (at8 c j + at8 o j) ≤ 65 := hgtF_le _ _
    have := mul_le_30 h1 (show 0 ≤ 2 * hgtF j (at8 c j + at8 o j) + 1 ∧ 2 * hgtF j (at8 c j + at8 o j) + 1 ≤ 131 by omega)
    omega
  · omega

theorem Need_ok {r : Req} {c : HL rcs3} {blocks : Int} {w : World} {K : Int → World → Prop} (ha : r.2.1.len ≤ 30) (ht : r.2.2.1.len ≤ 30) (hc : In8 0 4294967295 c) (hb : 2 ≤ blocks ∧ blocks ≤ 100000)
    (hk : ∀ w', Fr [] w w' → K (needsV (opsV r.1 r.2.1.len r.2.2.1.len) c blocks) w') : call Try.prog 14 [.agg (HL.mk rcs1 r).toArray, .agg (HL.mk rcs3 c).toArray, .int .i64 blocks] [.one (.int .i64)] w K := by
  have hin := opsV_in (k := r.1) (a := r.2.1.len) (t := r.2.2.1.len) (by omega) (by omega)
  revert hk hin
  generalize ho : opsV r.1 r.2.1.len r.2.2.1.len = o
  intro hk hin
  have hget : ∃ r0 r1 r2 r3 r4 r5 r6 r7 r8 r9, r = (r0, r1, r2, r3, r4, r5, r6, r7, r8, r9) := ⟨_, _, _, _, _, _, _, _, _, _, rfl⟩
  obtain ⟨r0, r1, r2, r3, r4, r5, r6, r7, r8, r9, hr⟩ := hget
  have hget : ∃ c0 c1 c2 c3 c4 c5 c6 c7, c = (c0, c1, c2, c3, c4, c5, c6, c7) := ⟨_, _, _, _, _, _, _, _, rfl⟩
  obtain ⟨c0, c1, c2, c3, c4, c5, c6, c7, hcc⟩ := hget
  have key : reserve_NeedF r0 r1 r2 r3 r4 r5 r6 r7 r8 r9 c0 c1 c2 c3 c4 c5 c6 c7 blocks K w := by
    unfold reserve_NeedF
    have h := Own.start [] w
    refine Own.new h fun b1_1 w1_1 eb1_1 sb1_1 h => ?_
    refine Own.new h fun b1_2 w1_2 eb1_2 sb1_2 h => ?_
    refine Own.ldA h 1 rfl (_, _, _, _, _, _, _, _, _, _) rfl ?_
    refine Ops_ok (r := (r0, r1, r2, r3, r4, r5, r6, r7, r8, r9)) (by subst hr; exact Nat.le_trans ha (by omega)) (by subst hr; exact Nat.le_trans ht (by omega)) fun w2 hf => ?_
    have h := h.frame0 hf
    rw [show opsV ((r0, r1, r2, r3, r4, r5, r6, r7, r8, r9) : Req).1 ((r0, r1, r2, r3, r4, r5, r6, r7, r8, r9) : Req).2.1.len ((r0, r1, r2, r3, r4, r5, r6, r7, r8, r9) : Req).2.2.1.len = o by rw [← ho, hr]]
    have hS : ∀ j, j ≤ 8 → 0 ≤ sumTo (takes o c) j ∧ sumTo (takes o c) j ≤ 8000 * j := by
      intro j hj
      induction j with
      | zero => simp [sumTo]
      | succ j ih =>
        have := ih (by omega)
        have := takes_in (c := c) hin (show j < 8 by omega)
        simp only [sumTo]
        omega
    refine loop_ind (fun s w' => (∃ j : Nat, j ≤ 8 ∧ s = (sumTo (takes o c) j, (j : Int))) ∧ Own [] w w' [(b1_2, .cells (HL.mk rcs3 c).toArray 36)]) (fun s _ => (8 - s.2).toNat) ⟨⟨0, by omega, rfl⟩, ?_⟩ ?_
    · rw [hcc]
      exact h.sub (List.Sublist.cons_cons _ (List.nil_sublist _))
    · rintro s w3 ⟨⟨j, hj, rfl⟩, h⟩ X hX
      dsimp only
      refine cond_of (fun hl => ?_) (fun hl => ?_)
      · have hl' : j < 8 := by have := of_decide_eq_true hl; omega
        have hoj := hin j hl'
        have hcj := hc j hl'
        have hSj := hS j (by omega)
        have hTj := takes_in (c := c) hin hl'
        refine join_mid (fun x w' => x = sumTo (takes o c) (j + 1) ∧ Own [] w w' [(b1_2, .cells (HL.mk rcs3 c).toArray 36)]) ?_ ?_
        · refine idxA_of (at8 o j) (by omega) (by omega) (by rw [Int.toNat_natCast]; exact at_i64 o hl') ?_
          refine cond_of (fun hp => ?_) (fun hp => ?_)
          · have hp' : 0 < at8 o j := of_decide_eq_true hp
            refine chk_of ⟨by omega, by omega⟩ ?_
            rw [Addr.add_mk]
            refine Own.ld (c := .int .u32) h 0 rfl (at8 c j) ?_ ?_
            · rw [Int.toNat_natCast, Nat.zero_add, Nat.mul_one]; exact at_u32' c hl'
            rw [wu64 (at8 c j) (by omega), wu64 (at8 o j) (by omega), wu64 _ (by omega)]
            refine Height_ok (by omega) fun x w4 hx hs => ?_
            have hb1 := hx.le
            have e1 := hgtF_eq hx
            have e2 : takes o c j = at8 o j * (2 * x + 1) := by unfold takes; rw [if_pos hp', e1]
            rw [e2] at hTj
            rw [IntWalk.i64_in (2 * x) (by omega), IntWalk.i64_in (2 * x + 1) (by omega), IntWalk.i64_in (at8 o j * (2 * x + 1)) (by omega), IntWalk.i64_in _ (by omega)]
            exact ⟨by rw [← e2]; rfl, h.same hs⟩
          · have hp' : ¬ 0 < at8 o j := of_decide_eq_false hp
            have e2 : takes o c j = 0 := by unfold takes; rw [if_neg hp']
            refine ⟨?_, h⟩
            simp only [sumTo, e2]; omega
        · rintro x w4 ⟨rfl, h⟩
          rw [IntWalk.i64_in _ (by omega)]
          exact hX _ _ ⟨⟨j + 1, by omega, rfl⟩, h⟩ (by dsimp only; omega)
      · have hl' : j = 8 := by have := of_decide_eq_false hl; omega
        subst hl'
        have hS8 := hS 8 (by omega)
        refine cond_of (fun hz => ?_) (fun hz => ?_)
        · have hz' : sumTo (takes o c) 8 = 0 := beq_iff_eq.1 hz
          have := hk _ h.fr
          unfold needsV at this
          rw [if_pos hz'] at this
          exact this
        · have hz' : ¬ sumTo (takes o c) 8 = 0 := fun e => by rw [e] at hz; cases hz
          rw [IntWalk.i64_in (blocks - 2) (by omega)]
          refine LNeed_ok (by omega) ?_
          have := hk _ h.fr
          unfold needsV at this
          rw [if_neg hz'] at this
          have hN : 0 ≤ needV (blocks - 2) ∧ needV (blocks - 2) ≤ 100000 := by unfold needV; split <;> omega
          rw [IntWalk.i64_in _ (by omega)]
          exact this
  subst hr hcc
  exact reserve_Need_of key

theorem RNeedA_ok {r : Req} {c : HL rcs3} {blocks : Int} {w : World} {K : Int → World → Prop} (ha : r.2.1.len ≤ 30) (ht : r.2.2.1.len ≤ 30) (hc : In8 0 4294967295 c) (hb : 2 ≤ blocks ∧ blocks ≤ 100000)
    (hk : ∀ w', Fr [] w w' → K (needsV (opsV r.1 r.2.1.len r.2.2.1.len) c blocks) w') : call Try.prog 15 [.agg (HL.mk rcs1 r).toArray, .agg (HL.mk rcs3 c).toArray, .int .i64 blocks] [.one (.int .i64)] w K := by
  have hin := opsV_in (k := r.1) (a := r.2.1.len) (t := r.2.2.1.len) (by omega) (by omega)
  revert hk hin
  generalize ho : opsV r.1 r.2.1.len r.2.2.1.len = o
  intro hk hin
  have hget : ∃ r0 r1 r2 r3 r4 r5 r6 r7 r8 r9, r = (r0, r1, r2, r3, r4, r5, r6, r7, r8, r9) := ⟨_, _, _, _, _, _, _, _, _, _, rfl⟩
  obtain ⟨r0, r1, r2, r3, r4, r5, r6, r7, r8, r9, hr⟩ := hget
  have hget : ∃ c0 c1 c2 c3 c4 c5 c6 c7, c = (c0, c1, c2, c3, c4, c5, c6, c7) := ⟨_, _, _, _, _, _, _, _, rfl⟩
  obtain ⟨c0, c1, c2, c3, c4, c5, c6, c7, hcc⟩ := hget
  have key : cashbookref27_NeedF r0 r1 r2 r3 r4 r5 r6 r7 r8 r9 c0 c1 c2 c3 c4 c5 c6 c7 blocks K w := by
    unfold cashbookref27_NeedF
    have h := Own.start [] w
    refine Own.new h fun b2_1 w2_1 eb2_1 sb2_1 h => ?_
    refine Own.new h fun b2_2 w2_2 eb2_2 sb2_2 h => ?_
    refine Own.ldA h 1 rfl (_, _, _, _, _, _, _, _, _, _) rfl ?_
    refine ROps_ok (r := (r0, r1, r2, r3, r4, r5, r6, r7, r8, r9)) (by subst hr; exact Nat.le_trans ha (by omega)) (by subst hr; exact Nat.le_trans ht (by omega)) fun w2 hf => ?_
    have h := h.frame0 hf
    rw [show opsV ((r0, r1, r2, r3, r4, r5, r6, r7, r8, r9) : Req).1 ((r0, r1, r2, r3, r4, r5, r6, r7, r8, r9) : Req).2.1.len ((r0, r1, r2, r3, r4, r5, r6, r7, r8, r9) : Req).2.2.1.len = o by rw [← ho, hr]]
    have hS : ∀ j, j ≤ 8 → 0 ≤ sumTo (takes o c) j ∧ sumTo (takes o c) j ≤ 8000 * j := by
      intro j hj
      induction j with
      | zero => simp [sumTo]
      | succ j ih =>
        have := ih (by omega)
        have := takes_in (c := c) hin (show j < 8 by omega)
        simp only [sumTo]
        omega
    refine Own.new h fun b3_1 w3_1 eb3_1 sb3_1 h => ?_
    refine Own.st h 0 rfl _ rfl rfl rfl fun w3_2 h _ => ?_
    simp only [List.set_cons_zero, List.set_cons_succ, splice, List.setIfInBounds_toArray, HL.mk, Cell.mk] at h
    refine loop_ind (fun s w' => (∃ j : Nat, j ≤ 8 ∧ s = (sumTo (takes o c) j, (j : Int))) ∧ Own [] w w' [(b3_1, .cells (HL.mk rcs2 o).toArray 37), (b2_2, .cells (HL.mk rcs3 c).toArray 36)]) (fun s _ => (8 - s.2).toNat) ⟨⟨0, by omega, rfl⟩, ?_⟩ ?_
    · rw [hcc]
      exact h.sub (List.Sublist.cons_cons _ (List.Sublist.cons_cons _ (List.nil_sublist _)))
    · rintro s w3 ⟨⟨j, hj, rfl⟩, h⟩ X hX
      dsimp only
      refine cond_of (fun hl => ?_) (fun hl => ?_)
      · have hl' : j < 8 := by have := of_decide_eq_true hl; omega
        have hoj := hin j hl'
        have hcj := hc j hl'
        have hSj := hS j (by omega)
        have hTj := takes_in (c := c) hin hl'
        have hH := hgtF_le (j : Int) (at8 c j + at8 o j)
        have eT : takes o c j = at8 o j * (2 * hgtF j (at8 c j + at8 o j) + 1) := by
          unfold takes
          split
          · rfl
          · rw [show at8 o j = 0 by omega]; simp
        refine loop_ind (fun s w' => (∃ i : Nat, (i : Int) ≤ at8 o j ∧ s = (sumTo (takes o c) j + i * (2 * hgtF j (at8 c j + at8 o j) + 1), (i : Int))) ∧ Own [] w w' [(b3_1, .cells (HL.mk rcs2 o).toArray 37), (b2_2, .cells (HL.mk rcs3 c).toArray 36)]) (fun s _ => (at8 o j - s.2).toNat) ⟨⟨0, by omega, by simp⟩, h⟩ ?_
        rintro s w4 ⟨⟨i, hi, rfl⟩, h⟩ Z hZ
        dsimp only
        refine chk_of ⟨by omega, by omega⟩ ?_
        rw [Addr.add_mk]
        refine Own.ld (c := .int .i64) h 0 rfl (at8 o j) (by rw [Int.toNat_natCast, Nat.zero_add, Nat.mul_one]; exact at_i64' o hl') ?_
        refine cond_of (fun hp => ?_) (fun hp => ?_)
        · have hp' : (i : Int) < at8 o j := of_decide_eq_true hp
          refine chk_of ⟨by omega, by omega⟩ ?_
          rw [Addr.add_mk]
          refine Own.ld (c := .int .u32) h.drew 1 rfl (at8 c j) (by rw [Int.toNat_natCast, Nat.zero_add, Nat.mul_one]; exact at_u32' c hl') ?_
          refine chk_of ⟨by omega, by omega⟩ ?_
          refine Own.ld (c := .int .i64) h.drew 0 rfl (at8 o j) (by rw [Int.toNat_natCast, Nat.zero_add, Nat.mul_one]; exact at_i64' o hl') ?_
          rw [wu64 (at8 c j) (by omega), wu64 (at8 o j) (by omega), wu64 _ (by omega)]
          refine RHeight_ok (by omega) fun x hx => ?_
          have e1 := hgtF_eq hx
          rw [← e1] at hH ⊢
          have hm := mul_le_30 (a := i) (b := 2 * x + 1) (by omega) (by omega)
          rw [IntWalk.i64_in (2 * x) (by omega), IntWalk.i64_in (_ + 2 * x) (by omega), IntWalk.i64_in _ (by omega), IntWalk.i64_in _ (by omega)]
          refine hZ _ _ ⟨⟨i + 1, by omega, ?_⟩, h.drew⟩ (by dsimp only; omega)
          rw [show ((i + 1 : Nat) : Int) = (i : Int) + 1 by omega, Int.add_mul, ← e1]
          refine pair_eq ?_ rfl
          omega
        · have hp' : ¬ (i : Int) < at8 o j := of_decide_eq_false hp
          have ei : (i : Int) = at8 o j := by omega
          rw [ei, ← eT, IntWalk.i64_in _ (by omega)]
          exact hX _ _ ⟨⟨j + 1, by omega, rfl⟩, h⟩ (by dsimp only; omega)
      · have hl' : j = 8 := by have := of_decide_eq_false hl; omega
        subst hl'
        have hS8 := hS 8 (by omega)
        refine cond_of (fun hz => ?_) (fun hz => ?_)
        · have hz' : sumTo (takes o c) 8 = 0 := beq_iff_eq.1 hz
          have := hk _ h.fr
          unfold needsV at this
          rw [if_pos hz'] at this
          exact this
        · have hz' : ¬ sumTo (takes o c) 8 = 0 := fun e => by rw [e] at hz; cases hz
          rw [IntWalk.i64_in (blocks - 2) (by omega)]
          refine RNeed_ok (by omega) fun w4 hs => ?_
          have := hk _ (h.same hs).fr
          unfold needsV at this
          rw [if_neg hz'] at this
          have hN : 0 ≤ needV (blocks - 2) ∧ needV (blocks - 2) ≤ 100000 := by unfold needV; split <;> omega
          rw [IntWalk.i64_in _ (by omega)]
          exact this
  subst hr hcc
  exact cashbookref27_Need_of key

end Go.Proofs.Ytmmldfipakcmaaa
