/- container/heap over pool's row: up and down keep a heap. Conditions: those that stand in each line. -/
import Derived.Test.YtmmldfipakcmaaaHpA
set_option linter.unusedVariables false
set_option linter.unusedSimpArgs false
namespace Go.Proofs.Ytmmldfipakcmaaa
open Go Go.Pt Go.Sort
attribute [local irreducible] ld ldA st new idx idxS idxA slc slcS slcP mkS chk nn call callV inv run runQ runU join loop held IntKind.wrap

def IsHeap (d : Array Int) (n : Nat) : Prop := ∀ i, 0 < i → i < n → d[(i - 1) / 2]! ≤ d[i]!

/-- A heap but for place j, which may be less than what stands above it. -/
def UpAt (d : Array Int) (n j : Nat) : Prop := (∀ i, 0 < i → i < n → i ≠ j → d[(i - 1) / 2]! ≤ d[i]!) ∧ ∀ i, 0 < i → i < n → (i - 1) / 2 = j → 0 < j → d[(j - 1) / 2]! ≤ d[i]!

/-- A heap but for place j, which may be greater than what stands below it. -/
def DownAt (d : Array Int) (n j : Nat) : Prop := (∀ i, 0 < i → i < n → (i - 1) / 2 ≠ j → d[(i - 1) / 2]! ≤ d[i]!) ∧ ∀ i, 0 < i → i < n → (i - 1) / 2 = j → 0 < j → d[(j - 1) / 2]! ≤ d[i]!

theorem swp_at (d : Array Int) {i j : Nat} (hi : i < d.size) (hj : j < d.size) (k : Nat) : (swp d i j)[k]! = if k = j then d[i]! else if k = i then d[j]! else d[k]! := swp_get d hi hj k

theorem UpAt.step {d : Array Int} {n j : Nat} (h : UpAt d n j) (hj : 0 < j) (hjn : j < n) (hn : n ≤ d.size) (hlt : d[j]! < d[(j - 1) / 2]!) : UpAt (swp d ((j - 1) / 2) j) n ((j - 1) / 2) := by
  have hp : (j - 1) / 2 < d.size := by omega
  have hq : j < d.size := by omega
  have hne : (j - 1) / 2 ≠ j := by omega
  constructor
  · intro i h0 hi hij
    have a1 := h.1 i h0 hi
    have a2 := h.2 i h0 hi
    rw [swp_at d hp hq, swp_at d hp hq]
    by_cases e1 : i = j
    · subst e1
      rw [if_neg (by omega), if_pos rfl, if_pos rfl]
      omega
    · rw [if_neg e1, if_neg hij]
      by_cases e2 : (i - 1) / 2 = j
      · rw [if_pos e2]; exact a2 e2 hj
      · rw [if_neg e2]
        by_cases e3 : (i - 1) / 2 = (j - 1) / 2
        · rw [if_pos e3]
          have := a1 e1
          rw [e3] at this
          omega
        · rw [if_neg e3]; exact a1 e1
  · intro i h0 hi hip hjp
    have a1 := h.1 i h0 hi
    have b1 := h.1 ((j - 1) / 2) hjp (by omega) hne
    rw [swp_at d hp hq, swp_at d hp hq]
    rw [if_neg (by omega), if_neg (by omega)]
    by_cases e1 : i = j
    · subst e1; rw [if_pos rfl]; exact b1
    · rw [if_neg e1, if_neg (by omega)]
      have := a1 e1
      rw [hip] at this
      omega

theorem UpAt.stop {d : Array Int} {n j : Nat} (h : UpAt d n j) (hs : j = 0 ∨ d[(j - 1) / 2]! ≤ d[j]!) : IsHeap d n := by
  intro i h0 hi
  by_cases e : i = j
  · subst e
    rcases hs with hs | hs
    · omega
    · exact hs
  · exact h.1 i h0 hi e

theorem DownAt.step {d : Array Int} {n i c : Nat} (h : DownAt d n i) (hc : c = 2 * i + 1 ∨ c = 2 * i + 2) (hcn : c < n) (hn : n ≤ d.size) (hlt : d[c]! < d[i]!) (hmin : ∀ k, k < n → (k = 2 * i + 1 ∨ k = 2 * i + 2) → d[c]! ≤ d[k]!) : DownAt (swp d i c) n c := by
  have hp : i < d.size := by omega
  have hq : c < d.size := by omega
  constructor
  · intro k h0 hk hkc
    have a1 := h.1 k h0 hk
    have a2 := h.2 k h0 hk
    rw [swp_at d hp hq, swp_at d hp hq, if_neg hkc]
    by_cases e1 : k = c
    · rw [if_pos e1, if_pos (by omega)]; omega
    · rw [if_neg e1]
      by_cases e2 : k = i
      · rw [if_pos e2]
        subst e2
        rw [if_neg (by omega)]
        exact h.2 c (by omega) hcn (by omega) h0
      · rw [if_neg e2]
        by_cases e3 : (k - 1) / 2 = i
        · rw [if_pos e3]; exact hmin k hk (by omega)
        · rw [if_neg e3]; exact a1 e3
  · intro k h0 hk hkc hc0
    have a1 := h.1 k h0 hk (by omega)
    rw [swp_at d hp hq, swp_at d hp hq]
    rw [if_neg (by omega), if_pos (by omega), if_neg (by omega), if_neg (by omega)]
    rw [hkc] at a1
    exact a1

theorem DownAt.stop {d : Array Int} {n i : Nat} (h : DownAt d n i) (hs : ∀ k, k < n → (k = 2 * i + 1 ∨ k = 2 * i + 2) → d[i]! ≤ d[k]!) : IsHeap d n := by
  intro k h0 hk
  by_cases e : (k - 1) / 2 = i
  · rw [e]; exact hs k hk (by omega)
  · exact h.1 k h0 hk e

section
variable {pb rb len cap : Nat} {m : Value} {w0 w : World} {d : Array Int} {T : TypeId}

theorem Up_ok {j : Nat} {K : Unit → World → Prop} (hp : w0.heap[pb]? = some (plB rb len cap m)) (hne : rb ≠ pb) (h : Arr rb T w0 w d) (hj : j < len) (hl : len ≤ d.size ∧ len ≤ 1152921504606846976) (hu : UpAt d len j)
    (hk : ∀ d' w', PermIn 0 len d d' → IsHeap d' len → Arr rb T w0 w' d' → K () w') :
    call Try.prog 41 [.iface 74 (.pointer (some ⟨pb, 0, none⟩)), .int .i64 j] [] w K := by
  apply heap_up_of
  unfold heap_upF
  refine loop_ind (fun x w' => ∃ (j : Nat) (d' : Array Int), x = j ∧ j < len ∧ PermIn 0 len d d' ∧ UpAt d' len j ∧ Arr rb T w0 w' d') (fun x _ => x.toNat) ⟨j, d, rfl, hj, permIn_refl _ _ _, hu, h⟩ ?_
  rintro x w1 ⟨j, d1, rfl, hj, hpm, hu, h⟩ X hX
  have hs := hpm.1
  have e1 : IntKind.i64.wrap (Int.tdiv (IntKind.i64.wrap ((j : Int) - 1)) 2) = (((j - 1) / 2 : Nat) : Int) := by
    rw [wi ((j : Int) - 1) (by omega)]
    by_cases h0 : j = 0
    · subst h0; decide +kernel
    · rw [Int.tdiv_eq_ediv_of_nonneg (by omega), wi _ (by omega)]; omega
  rw [e1]
  refine join_mid (fun c w' => c = (decide (j = 0) || !ltInt d1[j]! d1[(j - 1) / 2]!) ∧ Arr rb T w0 w' d1) ?_ ?_
  · refine cond_of (fun hc => ?_) (fun hc => ?_)
    · have h0 : j = 0 := by have := beq_iff_eq.1 hc; omega
      exact ⟨by simp [h0], h⟩
    · have h0 : j ≠ 0 := fun e => by subst e; cases hc
      refine mLess hp hne h hj (by omega) (by omega) fun w2 h => ?_
      exact ⟨by simp [h0], h⟩
  · rintro c w2 ⟨rfl, h⟩
    refine cond_of (fun hc => ?_) (fun hc => ?_)
    · simp only [Bool.or_eq_true, decide_eq_true_eq, Bool.not_eq_true', ltInt, decide_eq_false_iff_not, Int.not_lt] at hc
      exact hk _ _ hpm (hu.stop hc) h
    · simp only [Bool.or_eq_false_iff, decide_eq_false_iff_not, Bool.not_eq_false', ltInt, decide_eq_true_eq] at hc
      refine mSwap hp hne h (by omega) hj (by omega) fun w3 h => ?_
      exact hX _ _ ⟨_, _, rfl, by omega, permIn_trans _ _ _ _ _ hpm (swp_permIn _ _ _ _ _ (by omega) (by omega) (by omega) hj (by omega)), hu.step (by omega) hj (by omega) hc.2, h⟩ (by omega)

theorem Down_ok {n : Nat} {K : Bool → World → Prop} (hp : w0.heap[pb]? = some (plB rb len cap m)) (hne : rb ≠ pb) (h : Arr rb T w0 w d) (hn : n ≤ len) (hl : len ≤ d.size ∧ len ≤ 1152921504606846976) (hu : DownAt d n 0)
    (hk : ∀ b d' w', PermIn 0 n d d' → IsHeap d' n → Arr rb T w0 w' d' → K b w') :
    call Try.prog 42 [.iface 74 (.pointer (some ⟨pb, 0, none⟩)), .int .i64 0, .int .i64 n] [.one .bool] w K := by
  apply heap_down_of
  unfold heap_downF
  refine join_mid (fun _ w' => ∃ d', PermIn 0 n d d' ∧ IsHeap d' n ∧ Arr rb T w0 w' d') ?_ (fun x w' ⟨d', h1, h2, h3⟩ => hk _ d' w' h1 h2 h3)
  refine loop_ind (fun x w' => ∃ (i : Nat) (d' : Array Int), x = i ∧ (i < n ∨ i = 0) ∧ PermIn 0 n d d' ∧ DownAt d' n i ∧ Arr rb T w0 w' d') (fun x _ => ((n : Int) - x).toNat) ⟨0, d, rfl, .inr rfl, permIn_refl _ _ _, hu, h⟩ ?_
  rintro x w1 ⟨i, d1, rfl, hi, hpm, hu, h⟩ X hX
  have hs := hpm.1
  have e1 : IntKind.i64.wrap (IntKind.i64.wrap (2 * (i : Int)) + 1) = ((2 * i + 1 : Nat) : Int) := by rw [wi (2 * (i : Int)) (by omega), wi _ (by omega)]; omega
  have e2 : IntKind.i64.wrap (((2 * i + 1 : Nat) : Int) + 1) = ((2 * i + 2 : Nat) : Int) := by rw [wi _ (by omega)]; omega
  rw [e1, e2]
  refine join_mid (fun c w' => c = decide (n ≤ 2 * i + 1) ∧ Arr rb T w0 w' d1) ?_ ?_
  · refine cond_of (fun hc => ?_) (fun hc => ?_)
    · have h0 : n ≤ 2 * i + 1 := by have := of_decide_eq_true hc; omega
      exact ⟨by simp [h0], h⟩
    · have h0 : ¬ n ≤ 2 * i + 1 := by have := of_decide_eq_false hc; omega
      refine ⟨?_, h⟩
      rw [decide_eq_false h0, decide_eq_false (by omega)]
  rintro c w2 ⟨rfl, h⟩
  refine cond_of (fun hc => ?_) (fun hc => ?_)
  · have h0 := of_decide_eq_true hc
    exact ⟨d1, hpm, hu.stop (fun k hk hk2 => by omega), h⟩
  have h0 : 2 * i + 1 < n := by have := of_decide_eq_false hc; omega
  refine join_mid (fun x w' => ∃ c : Nat, x = c ∧ (c = 2 * i + 1 ∨ c = 2 * i + 2) ∧ c < n ∧ (∀ k, k < n → (k = 2 * i + 1 ∨ k = 2 * i + 2) → d1[c]! ≤ d1[k]!) ∧ Arr rb T w0 w' d1) ?_ ?_
  · refine join_mid (fun c w' => c = (decide (2 * i + 2 < n) && ltInt d1[2 * i + 2]! d1[2 * i + 1]!) ∧ Arr rb T w0 w' d1) ?_ ?_
    · refine cond_of (fun hc => ?_) (fun hc => ?_)
      · have h2 : 2 * i + 2 < n := by have := of_decide_eq_true hc; omega
        refine mLess hp hne h (by omega) (by omega) (by omega) fun w3 h => ?_
        exact ⟨by simp [h2], h⟩
      · have h2 : ¬ 2 * i + 2 < n := by have := of_decide_eq_false hc; omega
        exact ⟨by simp [h2], h⟩
    · rintro c w3 ⟨rfl, h⟩
      refine cond_of (fun hc => ?_) (fun hc => ?_)
      · simp only [Bool.and_eq_true, decide_eq_true_eq, ltInt] at hc
        refine ⟨2 * i + 2, rfl, .inr rfl, hc.1, fun k hk hk2 => ?_, h⟩
        rcases hk2 with rfl | rfl <;> omega
      · simp only [Bool.and_eq_false_iff, decide_eq_false_iff_not, ltInt, Int.not_lt] at hc
        refine ⟨2 * i + 1, rfl, .inl rfl, h0, fun k hk hk2 => ?_, h⟩
        rcases hk2 with rfl | rfl <;> omega
  rintro x w3 ⟨c, rfl, hcc, hcn, hmin, h⟩
  refine mLess hp hne h (by omega) (by omega) (by omega) fun w4 h => ?_
  refine cond_of (fun hc => ?_) (fun hc => ?_)
  · simp only [Bool.not_eq_true', ltInt, decide_eq_false_iff_not, Int.not_lt] at hc
    exact ⟨d1, hpm, hu.stop (fun k hk hk2 => Int.le_trans hc (hmin k hk hk2)), h⟩
  · simp only [Bool.not_eq_false', ltInt, decide_eq_true_eq] at hc
    refine mSwap hp hne h (by omega) (by omega) (by omega) fun w5 h => ?_
    exact hX _ _ ⟨c, _, rfl, .inl hcn, permIn_trans _ _ _ _ _ hpm (swp_permIn _ _ _ _ _ (by omega) (by omega) (by omega) hcn (by omega)), hu.step hcc hcn (by omega) hc hmin, h⟩ (by omega)

end
end Go.Proofs.Ytmmldfipakcmaaa
