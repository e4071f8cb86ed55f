/- slices' sort of uint32: the short insertion. Conditions: those that stand in each line. -/
import Derived.Test.YtmmldfipakcmaaaSrtC
import Derived.Sort.LotA
set_option linter.unusedVariables false
set_option linter.unusedSimpArgs false
namespace Go.Proofs.Ytmmldfipakcmaaa
open Go Go.Pt Go.Sort
attribute [local irreducible] ld ldA st new idx idxS idxA slc slcS slcP mkS chk nn call callV inv run runQ runU join loop held IntKind.wrap

section
variable {blk : Nat} {T : TypeId} {w0 w : World} {d : Array Int} {len cap : Nat}

theorem Short_ok {a b : Nat} {K : Bool → World → Prop} (h : Arr blk T w0 w d) (hab : a < b) (hb : b ≤ len) (hl : len ≤ d.size ∧ len ≤ 1152921504606846976)
    (hk : ∀ w', Arr blk T w0 w' (Sort.partialInsertionSort ltInt d a b).1 → K (Sort.partialInsertionSort ltInt d a b).2 w') :
    call Try.prog 48 [.slice (some ⟨blk, 0, none⟩) len cap, .int .i64 a, .int .i64 b] [.one .bool] w K := by
  refine slices_partialInsertionSortOrdered_of (data := ⟨some ⟨blk, 0, none⟩, len, cap⟩) ?_
  unfold slices_partialInsertionSortOrderedF
  revert hk
  unfold Sort.partialInsertionSort
  intro hk
  rw [wi ((a : Int) + 1) (by omega)]
  refine loop_ind (fun x w' => ∃ (i s : Nat) (d' : Array Int), x = ((i : Int), 5 - (s : Int)) ∧ s ≤ 5 ∧ a + 1 ≤ i ∧ i ≤ b ∧ Arr blk T w0 w' d' ∧ d'.size = d.size ∧ partialIns ltInt a b s i d' = partialIns ltInt a b 5 (a + 1) d) (fun x _ => (5 - x.2).toNat)
    ⟨a + 1, 5, d, pair_eq (by omega) (by omega), by omega, by omega, by omega, h, rfl, rfl⟩ ?_
  rintro x w1 ⟨i, s, d1, rfl, hs5, hi1, hi2, h, hs1, he⟩ X hX
  dsimp only
  refine cond_of (fun hc => ?_) (fun hc => ?_)
  · obtain ⟨s, rfl⟩ : ∃ k, s = k + 1 := ⟨s - 1, by have := of_decide_eq_true hc; omega⟩
    rw [partialIns_succ] at he
    refine join_mid (fun x w' => ∃ (i : Nat) (d' : Array Int), x = i ∧ a + 1 ≤ i ∧ i ≤ b ∧ Arr blk T w0 w' d' ∧ d'.size = d.size ∧ partialIns ltInt a b s i d' = partialIns ltInt a b 5 (a + 1) d) ?_ ?_
    · refine loop_ind (fun x w' => ∃ k : Nat, x = k ∧ a + 1 ≤ k ∧ k ≤ b ∧ Arr blk T w0 w' d1 ∧ scanSorted ltInt d1 b k = scanSorted ltInt d1 b i) (fun x _ => ((b : Int) - x).toNat) ⟨i, rfl, hi1, hi2, h, rfl⟩ ?_
      rintro x w2 ⟨k, rfl, hk1, hk2, h, hsc⟩ Z hZ
      have hd := scanSorted.eq_1 ltInt d1 b k
      refine join_mid (fun c w' => c = (decide (k < b) && !ltInt d1[k]! d1[k - 1]!) ∧ Arr blk T w0 w' d1) ?_ ?_
      · refine cond_of (fun hc => ?_) (fun hc => ?_)
        · have hc' : k < b := by have := of_decide_eq_true hc; omega
          refine h.drew.rd k rfl (by omega) (by omega) ?_
          refine h.drew.rd (k - 1) (by rw [wi _ (by omega)]; omega) (by omega) (by omega) ?_
          refine Less_ok ?_
          exact ⟨by simp [hc'], h.drew⟩
        · have hc' : ¬ k < b := by have := of_decide_eq_false hc; omega
          exact ⟨by simp [hc'], h.drew⟩
      · rintro c w3 ⟨rfl, h⟩
        refine cond_of (fun hc => ?_) (fun hc => ?_)
        · have hc1 := hc
          simp only [Bool.and_eq_true, decide_eq_true_eq] at hc
          rw [if_pos (by simpa using hc1)] at hd
          rw [wi _ (by omega)]
          exact hZ _ _ ⟨k + 1, by omega, by omega, by omega, h, hd.symm.trans hsc⟩ (by omega)
        · rw [if_neg (by simpa using hc)] at hd
          rw [show scanSorted ltInt d1 b i = k by rw [← hsc, hd]] at he
          unfold fixUp fixDown at he
          refine cond_of (fun hc => ?_) (fun hc => ?_)
          · have hkb : k = b := by have := beq_iff_eq.1 hc; omega
            rw [if_pos hkb] at he
            rw [← he] at hk
            exact hk _ h
          · have hkb : ¬ k = b := fun e => by rw [e] at hc; simp at hc
            rw [if_neg hkb] at he
            rw [wi ((b : Int) - a) (by omega)]
            refine cond_of (fun hc => ?_) (fun hc => ?_)
            · have h50 : b - a < 50 := by have := of_decide_eq_true hc; omega
              rw [if_pos h50] at he
              rw [← he] at hk
              exact hk _ h
            · have h50 : ¬ b - a < 50 := by have := of_decide_eq_false hc; omega
              rw [if_neg h50] at he
              refine h.drew.swap k (k - 1) rfl (by rw [wi _ (by omega)]; omega) (by omega) (by omega) (by omega) fun w4 h => ?_
              have hsz2 : (swp d1 k (k - 1)).size = d1.size := Sort.size_swp _ _ _
              generalize swp d1 k (k - 1) = d2 at h he hsz2
              refine join_mid (fun _ w' => Arr blk T w0 w' (if k - a ≥ 2 then shiftDown ltInt (k - 1) d2 else d2) ∧ (if k - a ≥ 2 then shiftDown ltInt (k - 1) d2 else d2).size = d2.size) ?_ ?_
              · rw [wi ((k : Int) - a) (by omega)]
                refine cond_of (fun hc => ?_) (fun hc => ?_)
                · have hka : k - a ≥ 2 := by have := of_decide_eq_true hc; omega
                  simp only [if_pos hka]
                  rw [wi ((k : Int) - 1) (by omega)]
                  refine loop_ind (fun x w' => ∃ (j : Nat) (d' : Array Int), x = j ∧ j ≤ k - 1 ∧ Arr blk T w0 w' d' ∧ d'.size = d2.size ∧ shiftDown ltInt j d' = shiftDown ltInt (k - 1) d2) (fun x _ => x.toNat) ⟨k - 1, d2, by omega, by omega, h, rfl, rfl⟩ ?_
                  rintro x w5 ⟨j, d3, rfl, hj, h, hs3, he3⟩ Q hQ
                  refine cond_of (fun hc => ?_) (fun hc => ?_)
                  · obtain ⟨j, rfl⟩ : ∃ m, j = m + 1 := ⟨j - 1, by have := of_decide_eq_true hc; omega⟩
                    rw [shiftDown] at he3
                    refine h.drew.rd (j + 1) rfl (by omega) (by omega) ?_
                    refine h.drew.rd j (by rw [wi _ (by omega)]; omega) (by omega) (by omega) ?_
                    refine Less_ok ?_
                    refine cond_of (fun hc => ?_) (fun hc => ?_)
                    · rw [if_pos hc] at he3
                      rw [← he3]
                      exact ⟨h.drew, hs3⟩
                    · rw [if_neg (by rw [hc]; decide)] at he3
                      refine h.drew.drew.swap (j + 1) j rfl (by rw [wi _ (by omega)]; omega) (by omega) (by omega) (by omega) fun w6 h => ?_
                      rw [wi _ (by omega)]
                      exact hQ _ _ ⟨j, _, by omega, by omega, h, by rw [Sort.size_swp]; exact hs3, he3⟩ (by omega)
                  · have hj0 : j = 0 := by have := of_decide_eq_false hc; omega
                    subst hj0
                    rw [← he3]
                    exact ⟨h, hs3⟩
                · have hka : ¬ k - a ≥ 2 := by have := of_decide_eq_false hc; omega
                  simp only [if_neg hka]
                  exact ⟨h, trivial⟩
              · rintro _ w5 ⟨h, hs3⟩
                generalize (if k - a ≥ 2 then shiftDown ltInt (k - 1) d2 else d2) = d3 at h he hs3
                rw [wi ((b : Int) - k) (by omega)]
                refine cond_of (fun hc => ?_) (fun hc => ?_)
                · have hbk : b - k ≥ 2 := by have := of_decide_eq_true hc; omega
                  rw [if_pos hbk] at he
                  rw [wi ((k : Int) + 1) (by omega)]
                  refine loop_ind (fun x w' => ∃ (j : Nat) (d' : Array Int), x = j ∧ k + 1 ≤ j ∧ j ≤ b ∧ Arr blk T w0 w' d' ∧ d'.size = d.size ∧ shiftUp ltInt b j d' = shiftUp ltInt b (k + 1) d3) (fun x _ => ((b : Int) - x).toNat) ⟨k + 1, d3, by omega, by omega, by omega, h, by omega, rfl⟩ ?_
                  rintro x w6 ⟨j, d4, rfl, hj1, hj2, h, hs4, he4⟩ Q hQ
                  have hd4 := shiftUp.eq_1 ltInt b j d4
                  refine cond_of (fun hc => ?_) (fun hc => ?_)
                  · have hjb : j < b := by have := of_decide_eq_true hc; omega
                    rw [if_pos hjb] at hd4
                    refine h.drew.rd j rfl (by omega) (by omega) ?_
                    refine h.drew.rd (j - 1) (by rw [wi _ (by omega)]; omega) (by omega) (by omega) ?_
                    refine Less_ok ?_
                    refine cond_of (fun hc => ?_) (fun hc => ?_)
                    · rw [if_pos hc] at hd4
                      rw [← he4, hd4] at he
                      exact ⟨k, d4, rfl, hk1, hk2, h.drew, hs4, he⟩
                    · rw [if_neg (by rw [hc]; decide)] at hd4
                      refine h.drew.drew.swap j (j - 1) rfl (by rw [wi _ (by omega)]; omega) (by omega) (by omega) (by omega) fun w6 h => ?_
                      rw [wi _ (by omega)]
                      exact hQ _ _ ⟨j + 1, _, by omega, by omega, by omega, h, by rw [Sort.size_swp]; exact hs4, hd4.symm.trans he4⟩ (by omega)
                  · have hjb : ¬ j < b := by have := of_decide_eq_false hc; omega
                    rw [if_neg hjb] at hd4
                    rw [← he4, hd4] at he
                    exact ⟨k, d4, rfl, hk1, hk2, h, hs4, he⟩
                · have hbk : ¬ b - k ≥ 2 := by have := of_decide_eq_false hc; omega
                  rw [if_neg hbk] at he
                  exact ⟨k, d3, rfl, hk1, hk2, h, by omega, he⟩
    · rintro x w2 ⟨k, d2, rfl, hk1, hk2, h, hs2, he2⟩
      rw [wi _ (by omega)]
      exact hX _ _ ⟨k, s, d2, pair_eq rfl (by omega), by omega, hk1, hk2, h, hs2, he2⟩ (by dsimp only; omega)
  · have hs0 : s = 0 := by have := of_decide_eq_false hc; omega
    subst hs0
    rw [← he] at hk
    exact hk _ h

end
end Go.Proofs.Ytmmldfipakcmaaa
