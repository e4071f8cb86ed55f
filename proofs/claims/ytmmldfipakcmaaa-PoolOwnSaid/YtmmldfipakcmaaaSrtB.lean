/- slices' sort of uint32: the heap, the reversal. Conditions: those that stand in each line. -/
import Derived.Test.YtmmldfipakcmaaaSrtA
set_option linter.unusedVariables false
set_option linter.unusedSimpArgs false
namespace Go.Proofs.Ytmmldfipakcmaaa
open Go Go.Pt Go.Sort
attribute [local irreducible] ld ldA st new idx idxS idxA slc slcS slcP mkS chk nn call callV inv run runQ runU join loop held IntKind.wrap

section
variable {blk : Nat} {T : TypeId} {w0 w : World} {d : Array Int} {len cap : Nat}

theorem Sift_ok {lo hi first : Nat} {K : Unit → World → Prop} (h : Arr blk T w0 w d) (hlo : lo ≤ hi) (hf : first + hi ≤ len) (hl : len ≤ d.size ∧ len ≤ 1152921504606846976)
    (hk : ∀ w', Arr blk T w0 w' (siftDown ltInt hi first lo d) → (siftDown ltInt hi first lo d).size = d.size → K () w') :
    call Try.prog 54 [.slice (some ⟨blk, 0, none⟩) len cap, .int .i64 lo, .int .i64 hi, .int .i64 first] [] w K := by
  refine slices_siftDownOrdered_of (data := ⟨some ⟨blk, 0, none⟩, len, cap⟩) ?_
  unfold slices_siftDownOrderedF
  refine loop_ind (fun x w' => ∃ (r : Nat) (d' : Array Int), x = r ∧ r ≤ hi ∧ Arr blk T w0 w' d' ∧ d'.size = d.size ∧ siftDown ltInt hi first r d' = siftDown ltInt hi first lo d) (fun x _ => ((hi : Int) - x).toNat)
    ⟨lo, d, rfl, hlo, h, rfl, rfl⟩ ?_
  rintro x w1 ⟨r, d1, rfl, hr, h, hs1, he1⟩ X hX
  have e1 : IntKind.i64.wrap (IntKind.i64.wrap (2 * (r : Int)) + 1) = ((2 * r + 1 : Nat) : Int) := by rw [wi (2 * (r : Int)) (by omega), wi _ (by omega)]; omega
  have e2 : IntKind.i64.wrap (((2 * r + 1 : Nat) : Int) + 1) = ((2 * r + 2 : Nat) : Int) := by rw [wi _ (by omega)]; omega
  rw [e1, e2]
  have hd := siftDown.eq_1 ltInt hi first r d1
  refine cond_of (fun hc => ?_) (fun hc => ?_)
  · have hc' : 2 * r + 1 ≥ hi := by have := of_decide_eq_true hc; omega
    rw [dif_pos hc'] at hd
    rw [hd] at he1
    refine hk _ ?_ ?_
    · rw [← he1]; exact h
    · rw [← he1]; exact hs1
  · have hc' : ¬ 2 * r + 1 ≥ hi := by have := of_decide_eq_false hc; omega
    rw [dif_neg hc'] at hd
    refine join_mid (fun x w' => x = ((if 2 * r + 1 + 1 < hi && ltInt d1[first + (2 * r + 1)]! d1[first + (2 * r + 1) + 1]! then 2 * r + 2 else 2 * r + 1 : Nat) : Int) ∧ Arr blk T w0 w' d1) ?_ ?_
    · refine join_mid (fun c w' => c = (decide (2 * r + 1 + 1 < hi) && ltInt d1[first + (2 * r + 1)]! d1[first + (2 * r + 1) + 1]!) ∧ Arr blk T w0 w' d1) ?_ ?_
      · refine cond_of (fun hc => ?_) (fun hc => ?_)
        · have hc2 : 2 * r + 1 + 1 < hi := by have := of_decide_eq_true hc; omega
          refine h.drew.rd (first + (2 * r + 1)) (by rw [wi _ (by omega)]; omega) (by omega) (by omega) ?_
          refine h.drew.rd (first + (2 * r + 1) + 1) (by rw [wi ((first : Int) + _) (by omega), wi _ (by omega)]; omega) (by omega) (by omega) ?_
          refine Less_ok ?_
          exact ⟨by simp [hc2], h.drew⟩
        · have hc2 : ¬ 2 * r + 1 + 1 < hi := by have := of_decide_eq_false hc; omega
          exact ⟨by simp [hc2], h.drew⟩
      · rintro c w3 ⟨rfl, h⟩
        refine cond_of (fun hc => ?_) (fun hc => ?_)
        · exact ⟨by rw [if_pos hc], h⟩
        · exact ⟨by rw [if_neg (by simpa using hc)], h⟩
    · rintro x w3 ⟨rfl, h⟩
      have fin : ∀ c : Nat, (c = 2 * r + 1 ∨ c = 2 * r + 2) → c < hi → ((if !ltInt d1[first + r]! d1[first + c]! then d1 else siftDown ltInt hi first c (swp d1 (first + r) (first + c))) = siftDown ltInt hi first lo d) →
          idx ⟨some ⟨blk, 0, none⟩, len, cap⟩ (IntKind.i64.wrap (first + r)) 1 fun a_16 => ld (.int .u32) a_16 w3.drew fun x_17 => idx ⟨some ⟨blk, 0, none⟩, len, cap⟩ (IntKind.i64.wrap (first + c)) 1 fun a_18 => ld (.int .u32) a_18 w3.drew fun x_19 =>
            call Try.prog 49 [.int .u32 x_17, .int .u32 x_19] [.one .bool] w3.drew fun b_20 w_21 =>
              bif !b_20 then K () w_21 else
                idx ⟨some ⟨blk, 0, none⟩, len, cap⟩ (IntKind.i64.wrap (first + c)) 1 fun a_22 => ld (.int .u32) a_22 w_21.drew fun x_23 => idx ⟨some ⟨blk, 0, none⟩, len, cap⟩ (IntKind.i64.wrap (first + r)) 1 fun a_24 => ld (.int .u32) a_24 w_21.drew fun x_25 =>
                  idx ⟨some ⟨blk, 0, none⟩, len, cap⟩ (IntKind.i64.wrap (first + r)) 1 fun a_26 => st a_26 [.int .u32 x_23] w_21.drew fun w_27 => idx ⟨some ⟨blk, 0, none⟩, len, cap⟩ (IntKind.i64.wrap (first + c)) 1 fun a_28 => st a_28 [.int .u32 x_25] w_27 fun w_29 => X c w_29 := by
        intro c hcc hch hceq
        refine h.drew.rd (first + r) (by rw [wi _ (by omega)]; omega) (by omega) (by omega) ?_
        refine h.drew.rd (first + c) (by rw [wi _ (by omega)]; omega) (by omega) (by omega) ?_
        refine Less_ok ?_
        refine cond_of (fun hc => ?_) (fun hc => ?_)
        · rw [if_pos hc] at hceq
          refine hk _ ?_ ?_
          · rw [← hceq]; exact h.drew
          · rw [← hceq]; exact hs1
        · rw [if_neg (by rw [hc]; decide)] at hceq
          refine h.drew.drew.swap (first + r) (first + c) (by rw [wi _ (by omega)]; omega) (by rw [wi _ (by omega)]; omega) (by omega) (by omega) (by omega) fun w4 h => ?_
          exact hX _ _ ⟨c, _, rfl, by omega, h, by rw [swp_size]; exact hs1, hceq⟩ (by omega)
      split
      · rename_i hcc
        rw [if_pos hcc] at hd
        have hlt : 2 * r + 2 < hi := by simp only [Bool.and_eq_true, decide_eq_true_eq] at hcc; omega
        rw [dif_pos hlt] at hd
        exact fin _ (.inr rfl) hlt (hd.symm.trans he1)
      · rename_i hcc
        rw [if_neg hcc] at hd
        exact fin _ (.inl rfl) (by omega) (hd.symm.trans he1)

theorem siftDown_size (hi first : Nat) : ∀ (root : Nat) (d : Array Int), (siftDown ltInt hi first root d).size = d.size := by
  intro root d
  induction root, d using siftDown.induct ltInt hi first with
  | case1 r d h => rw [siftDown, dif_pos h]
  | case2 r d h h1 h2 => rw [siftDown, dif_neg h, if_pos h1, if_pos h2]
  | case3 r d h h1 h2 h3 ih => rw [siftDown, dif_neg h, if_pos h1, if_neg h2, dif_pos h3, ih, swp_size]
  | case4 r d h h1 h2 h3 => rw [siftDown, dif_neg h, if_pos h1, if_neg h2, dif_neg h3]
  | case5 r d h h1 h2 => rw [siftDown, dif_neg h, if_neg h1, if_pos h2]
  | case6 r d h h1 h2 ih => rw [siftDown, dif_neg h, if_neg h1, if_neg h2, ih, swp_size]

theorem Heap_ok {a b : Nat} {K : Unit → World → Prop} (h : Arr blk T w0 w d) (hab : a ≤ b) (hb : b ≤ len) (hl : len ≤ d.size ∧ len ≤ 1152921504606846976)
    (hk : ∀ w', Arr blk T w0 w' (heapSort ltInt d a b) → K () w') :
    call Try.prog 44 [.slice (some ⟨blk, 0, none⟩) len cap, .int .i64 a, .int .i64 b] [] w K := by
  refine slices_heapSortOrdered_of (data := ⟨some ⟨blk, 0, none⟩, len, cap⟩) ?_
  unfold slices_heapSortOrderedF
  dsimp only
  have e0 : IntKind.i64.wrap ((b : Int) - a) = ((b - a : Nat) : Int) := by rw [wi _ (by omega)]; omega
  have e2 : IntKind.i64.wrap (Int.tdiv (IntKind.i64.wrap (((b - a : Nat) : Int) - 1)) 2) = (((b - a - 1) / 2 + 1 : Nat) : Int) - 1 := by
    rw [wi (_ - 1) (by omega)]
    by_cases hn : b - a = 0
    · rw [hn]; decide +kernel
    · rw [Int.tdiv_eq_ediv_of_nonneg (by omega), wi _ (by omega)]; omega
  rw [e0, e2]
  refine loop_ind (fun x w' => ∃ (k : Nat) (d' : Array Int), x = (k : Int) - 1 ∧ k ≤ (b - a - 1) / 2 + 1 ∧ Arr blk T w0 w' d' ∧ d'.size = d.size ∧ heapBuild ltInt (b - a) a k d' = heapBuild ltInt (b - a) a ((b - a - 1) / 2 + 1) d) (fun x _ => (x + 1).toNat)
    ⟨_, d, rfl, Nat.le_refl _, h, rfl, rfl⟩ ?_
  rintro x w1 ⟨k, d1, rfl, hkk, h, hs1, he1⟩ X hX
  refine cond_of (fun hc => ?_) (fun hc => ?_)
  · have hc' : 1 ≤ k := by have := of_decide_eq_true hc; omega
    obtain ⟨j, rfl⟩ : ∃ j, k = j + 1 := ⟨k - 1, by omega⟩
    rw [show ((j + 1 : Nat) : Int) - 1 = (j : Nat) by omega]
    refine Sift_ok h (by omega) (by omega) (by omega) fun w2 h hs => ?_
    rw [wi _ (by omega)]
    exact hX _ _ ⟨j, _, rfl, by omega, h, by rw [hs, hs1], he1⟩ (by omega)
  · have hc' : k = 0 := by have := of_decide_eq_false hc; omega
    subst hc'
    have he1' : d1 = heapBuild ltInt (b - a) a ((b - a - 1) / 2 + 1) d := he1
    rw [wi (_ - 1) (by omega)]
    refine loop_ind (fun x w' => ∃ (k : Nat) (d' : Array Int), x = (k : Int) - 1 ∧ k ≤ b - a ∧ Arr blk T w0 w' d' ∧ d'.size = d.size ∧ heapPop ltInt a k d' = heapPop ltInt a (b - a) d1) (fun x _ => (x + 1).toNat)
      ⟨_, d1, rfl, Nat.le_refl _, h, hs1, rfl⟩ ?_
    rintro x w2 ⟨k, d2, rfl, hkk, h, hs2, he2⟩ Z hZ
    refine cond_of (fun hc => ?_) (fun hc => ?_)
    · have hc' : 1 ≤ k := by have := of_decide_eq_true hc; omega
      obtain ⟨j, rfl⟩ : ∃ j, k = j + 1 := ⟨k - 1, by omega⟩
      rw [show ((j + 1 : Nat) : Int) - 1 = (j : Nat) by omega]
      refine h.drew.swap a (a + j) rfl (by rw [wi _ (by omega)]; omega) (by omega) (by omega) (by omega) fun w3 h => ?_
      refine Sift_ok (lo := 0) h (by omega) (by omega) (by rw [swp_size]; omega) fun w4 h hs => ?_
      rw [wi _ (by omega)]
      exact hZ _ _ ⟨j, _, rfl, by omega, h, by rw [hs, swp_size, hs2], he2⟩ (by omega)
    · have hc' : k = 0 := by have := of_decide_eq_false hc; omega
      subst hc'
      refine hk _ ?_
      unfold heapSort
      rw [← he1', ← he2]
      exact h

theorem Rev_ok {a b : Nat} {K : Unit → World → Prop} (h : Arr blk T w0 w d) (hab : a < b) (hb : b ≤ len) (hl : len ≤ d.size ∧ len ≤ 1152921504606846976)
    (hk : ∀ w', Arr blk T w0 w' (reverseRange d a b) → K () w') :
    call Try.prog 47 [.slice (some ⟨blk, 0, none⟩) len cap, .int .i64 a, .int .i64 b] [] w K := by
  refine slices_reverseRangeOrdered_of (data := ⟨some ⟨blk, 0, none⟩, len, cap⟩) ?_
  unfold slices_reverseRangeOrderedF
  rw [wi _ (by omega)]
  refine loop_ind (fun x w' => ∃ (i j : Nat) (d' : Array Int), x = ((i : Int), (j : Int)) ∧ i ≤ j + 1 ∧ j < b ∧ Arr blk T w0 w' d' ∧ d'.size = d.size ∧ reverseLoop i j d' = reverseLoop a (b - 1) d) (fun x _ => (x.2 - x.1).toNat)
    ⟨a, b - 1, d, pair_eq rfl (by omega), by omega, by omega, h, rfl, rfl⟩ ?_
  rintro x w1 ⟨i, j, d1, rfl, hij, hjb, h, hs1, he1⟩ X hX
  have hd := reverseLoop.eq_1 i j d1
  dsimp only
  refine cond_of (fun hc => ?_) (fun hc => ?_)
  · have hc' : i < j := by have := of_decide_eq_true hc; omega
    rw [if_pos hc'] at hd
    refine h.drew.swap i j rfl rfl (by omega) (by omega) (by omega) fun w2 h => ?_
    rw [wi (_ + 1) (by omega), wi (_ - 1) (by omega)]
    exact hX _ _ ⟨i + 1, j - 1, _, pair_eq (by omega) (by omega), by omega, by omega, h, by rw [swp_size, hs1], hd.symm.trans he1⟩ (by dsimp only; omega)
  · have hc' : ¬ i < j := by have := of_decide_eq_false hc; omega
    rw [if_neg hc'] at hd
    refine hk _ ?_
    unfold reverseRange
    rw [← he1, hd]
    exact h

end
end Go.Proofs.Ytmmldfipakcmaaa
