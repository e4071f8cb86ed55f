/- slices' sort of uint32: the scans and the two partitions. Conditions: those that stand in each line. -/
import Derived.Test.YtmmldfipakcmaaaSrtB
import Derived.Sort.LotC
set_option linter.unusedVariables false
set_option linter.unusedSimpArgs false
namespace Go.Proofs.Ytmmldfipakcmaaa
open Go Go.Pt Go.Sort
attribute [local irreducible] ld ldA st new idx idxS idxA slc slcS slcP mkS chk nn call callV inv run runQ runU join loop held IntKind.wrap

section
variable {blk : Nat} {T : TypeId} {w0 w : World} {d : Array Int} {len cap : Nat}

theorem scanUp_rule {p : Int → Bool} {J i0 : Nat} {E : Int → World → Prop} {t : Int → World → (Bool → World → Prop) → Prop} (h : Arr blk T w0 w d) (hJ : J ≤ 1152921504606846976) (hi0 : i0 ≤ J + 2)
    (hT : ∀ (x : Nat) w Y, i0 ≤ x → Arr blk T w0 w d → (∀ w', Arr blk T w0 w' d → Y (decide (x ≤ J) && p d[x]!) w') → t x w Y)
    (hE : ∀ w', Arr blk T w0 w' d → E (scanUp p d J i0 : Nat) w') :
    loop Int (fun X x w => join Bool (fun Y => t x w Y) fun b w' => bif b then X (IntKind.i64.wrap (x + 1)) w' else E x w') i0 w := by
  refine loop_ind (fun x w' => ∃ i : Nat, x = i ∧ i0 ≤ i ∧ i ≤ J + 2 ∧ Arr blk T w0 w' d ∧ scanUp p d J i = scanUp p d J i0) (fun x _ => ((J : Int) + 2 - x).toNat) ⟨i0, rfl, Nat.le_refl _, hi0, h, rfl⟩ ?_
  rintro x w1 ⟨i, rfl, hi, hiJ, h, he⟩ X hX
  refine join_mid (fun c w' => c = (decide (i ≤ J) && p d[i]!) ∧ Arr blk T w0 w' d) (hT i w1 _ hi h fun w' h => ⟨rfl, h⟩) ?_
  rintro c w2 ⟨rfl, h⟩
  have hd := scanUp.eq_1 p d J i
  refine cond_of (fun hc => ?_) (fun hc => ?_)
  · have hc1 := hc
    simp only [Bool.and_eq_true, decide_eq_true_eq] at hc
    rw [if_pos (by simpa using hc1)] at hd
    rw [wi _ (by omega)]
    exact hX _ _ ⟨i + 1, by omega, by omega, by omega, h, hd.symm.trans he⟩ (by omega)
  · rw [if_neg (by simpa using hc)] at hd
    rw [show (i : Int) = (scanUp p d J i0 : Nat) by rw [← he, hd]]
    exact hE _ h

theorem scanDown_rule {p : Int → Bool} {i j0 : Nat} {E : Int → World → Prop} {t : Int → World → (Bool → World → Prop) → Prop} (h : Arr blk T w0 w d) (hJ : j0 ≤ 1152921504606846976) (hi : 1 ≤ i)
    (hT : ∀ (x : Nat) w Y, x ≤ j0 → Arr blk T w0 w d → (∀ w', Arr blk T w0 w' d → Y (decide (i ≤ x) && p d[x]!) w') → t x w Y)
    (hE : ∀ w', Arr blk T w0 w' d → E (scanDown p d i j0 : Nat) w') :
    loop Int (fun X x w => join Bool (fun Y => t x w Y) fun b w' => bif b then X (IntKind.i64.wrap (x - 1)) w' else E x w') j0 w := by
  refine loop_ind (fun x w' => ∃ j : Nat, x = j ∧ j ≤ j0 ∧ Arr blk T w0 w' d ∧ scanDown p d i j = scanDown p d i j0) (fun x _ => x.toNat) ⟨j0, rfl, Nat.le_refl _, h, rfl⟩ ?_
  rintro x w1 ⟨j, rfl, hj, h, he⟩ X hX
  refine join_mid (fun c w' => c = (decide (i ≤ j) && p d[j]!) ∧ Arr blk T w0 w' d) (hT j w1 _ hj h fun w' h => ⟨rfl, h⟩) ?_
  rintro c w2 ⟨rfl, h⟩
  refine cond_of (fun hc => ?_) (fun hc => ?_)
  · have hc1 := hc
    simp only [Bool.and_eq_true, decide_eq_true_eq] at hc
    obtain ⟨k, rfl⟩ : ∃ k, j = k + 1 := ⟨j - 1, by omega⟩
    rw [wi _ (by omega)]
    refine hX _ _ ⟨k, by omega, by omega, h, ?_⟩ (by omega)
    rw [← he, scanDown, if_pos (by simpa using hc1)]
  · rw [show (j : Int) = (scanDown p d i j0 : Nat) by
      rw [← he]
      cases j with
      | zero => rfl
      | succ k => rw [scanDown, if_neg (by simpa using hc)]]
    exact hE _ h

theorem Part_ok {a b pivot : Nat} {K : Int × Bool → World → Prop} (h : Arr blk T w0 w d) (hap : a ≤ pivot) (hpb : pivot < b) (hb : b ≤ len) (hl : len ≤ d.size ∧ len ≤ 1152921504606846976)
    (hk : ∀ w', Arr blk T w0 w' (Sort.partition ltInt d a b pivot).2.2 → K (((Sort.partition ltInt d a b pivot).1 : Nat), (Sort.partition ltInt d a b pivot).2.1) w') :
    call Try.prog 51 [.slice (some ⟨blk, 0, none⟩) len cap, .int .i64 a, .int .i64 b, .int .i64 pivot] [.one (.int .i64), .one .bool] w K := by
  refine slices_partitionOrdered_of (data := ⟨some ⟨blk, 0, none⟩, len, cap⟩) ?_
  unfold slices_partitionOrderedF
  revert hk
  unfold Sort.partition
  dsimp only
  intro hk
  refine h.drew.swap a pivot rfl rfl (by omega) (by omega) (by omega) fun w1 h => ?_
  have hsz : (swp d a pivot).size = d.size := Sort.size_swp _ _ _
  generalize swp d a pivot = d1 at h hk hsz
  have eb : IntKind.i64.wrap ((b : Int) - 1) = ((b - 1 : Nat) : Int) := by rw [wi _ (by omega)]; omega
  rw [eb, wi ((a : Int) + 1) (by omega), show (a : Int) + 1 = ((a + 1 : Nat) : Int) by omega]
  refine scanUp_rule (p := fun x => ltInt x d1[a]!) (J := b - 1) (i0 := a + 1) h (by omega) (by omega) (fun x w Y hx h hY => ?_) fun w2 h => ?_
  · refine cond_of (fun hc => ?_) (fun hc => ?_)
    · have hc' : x ≤ b - 1 := by have := of_decide_eq_true hc; omega
      refine h.drew.rd x rfl (by omega) (by omega) ?_
      refine h.drew.rd a rfl (by omega) (by omega) ?_
      refine Less_ok ?_
      have := hY _ h.drew
      simpa [hc'] using this
    · have hc' : ¬ x ≤ b - 1 := by have := of_decide_eq_false hc; omega
      have := hY _ h.drew
      simpa [hc'] using this
  have hu1 := scanUp_ge (fun x => ltInt x d1[a]!) d1 (b - 1) (a + 1)
  generalize scanUp (fun x => ltInt x d1[a]!) d1 (b - 1) (a + 1) = i at hk hu1 ⊢
  refine scanDown_rule (p := fun x => !ltInt x d1[a]!) (i := i) (j0 := b - 1) h (by omega) (by omega) (fun x w Y hx h hY => ?_) fun w3 h => ?_
  · refine cond_of (fun hc => ?_) (fun hc => ?_)
    · have hc' : i ≤ x := by have := of_decide_eq_true hc; omega
      refine h.drew.rd x rfl (by omega) (by omega) ?_
      refine h.drew.rd a rfl (by omega) (by omega) ?_
      refine Less_ok ?_
      have := hY _ h.drew
      simpa [hc'] using this
    · have hc' : ¬ i ≤ x := by have := of_decide_eq_false hc; omega
      have := hY _ h.drew
      simpa [hc'] using this
  have hv1 := scanDown_le (fun x => !ltInt x d1[a]!) d1 i (b - 1)
  generalize scanDown (fun x => !ltInt x d1[a]!) d1 i (b - 1) = j at hk hv1 ⊢
  refine cond_of (fun hc => ?_) (fun hc => ?_)
  · have hc' : i > j := by have := of_decide_eq_true hc; omega
    simp only [if_pos hc'] at hk
    exact h.drew.swap j a rfl rfl (by omega) (by omega) (by omega) fun w4 h => hk _ h
  · have hc' : ¬ i > j := by have := of_decide_eq_false hc; omega
    simp only [if_neg hc'] at hk
    refine h.drew.swap i j rfl rfl (by omega) (by omega) (by omega) fun w4 h => ?_
    have hsz2 : (swp d1 i j).size = d1.size := Sort.size_swp _ _ _
    generalize swp d1 i j = d2 at h hk hsz2
    rw [wi ((i : Int) + 1) (by omega), wi ((j : Int) - 1) (by omega)]
    refine loop_ind (fun s w' => ∃ (i' j' : Nat) (d' : Array Int), s = ((i' : Int), (j' : Int)) ∧ a + 1 ≤ i' ∧ i' ≤ b ∧ j' ≤ b - 1 ∧ i' ≤ j' + 2 ∧ Arr blk T w0 w' d' ∧ d'.size = d.size ∧ partLoop ltInt a i' j' d' = partLoop ltInt a (i + 1) (j - 1) d2) (fun s _ => (s.2 + 2 - s.1).toNat)
      ⟨i + 1, j - 1, d2, pair_eq (by omega) (by omega), by omega, by omega, by omega, by omega, h, by omega, rfl⟩ ?_
    rintro s w5 ⟨i', j', d3, rfl, hi1, hi2, hj1, hij, h, hs3, he⟩ X hX
    rw [partLoop_eq ltInt a i' j' d3] at he
    dsimp only
    refine scanUp_rule (p := fun x => ltInt x d3[a]!) (J := j') (i0 := i') h (by omega) (by omega) (fun x w Y hx h hY => ?_) fun w6 h => ?_
    · refine cond_of (fun hc => ?_) (fun hc => ?_)
      · have hc' : x ≤ j' := by have := of_decide_eq_true hc; omega
        refine h.drew.rd x rfl (by omega) (by omega) ?_
        refine h.drew.rd a rfl (by omega) (by omega) ?_
        refine Less_ok ?_
        have := hY _ h.drew
        simpa [hc'] using this
      · have hc' : ¬ x ≤ j' := by have := of_decide_eq_false hc; omega
        have := hY _ h.drew
        simpa [hc'] using this
    have hu1 := scanUp_ge (fun x => ltInt x d3[a]!) d3 j' i'
    generalize scanUp (fun x => ltInt x d3[a]!) d3 j' i' = i2 at he hu1 ⊢
    refine scanDown_rule (p := fun x => !ltInt x d3[a]!) (i := i2) (j0 := j') h (by omega) (by omega) (fun x w Y hx h hY => ?_) fun w7 h => ?_
    · refine cond_of (fun hc => ?_) (fun hc => ?_)
      · have hc' : i2 ≤ x := by have := of_decide_eq_true hc; omega
        refine h.drew.rd x rfl (by omega) (by omega) ?_
        refine h.drew.rd a rfl (by omega) (by omega) ?_
        refine Less_ok ?_
        have := hY _ h.drew
        simpa [hc'] using this
      · have hc' : ¬ i2 ≤ x := by have := of_decide_eq_false hc; omega
        have := hY _ h.drew
        simpa [hc'] using this
    have hv1 := scanDown_le (fun x => !ltInt x d3[a]!) d3 i2 j'
    generalize scanDown (fun x => !ltInt x d3[a]!) d3 i2 j' = j2 at he hv1 ⊢
    refine cond_of (fun hc => ?_) (fun hc => ?_)
    · have hc' : i2 > j2 := by have := of_decide_eq_true hc; omega
      rw [if_pos hc'] at he
      rw [← he] at hk
      exact h.drew.swap j2 a rfl rfl (by omega) (by omega) (by omega) fun w4 h => hk _ h
    · have hc' : ¬ i2 > j2 := by have := of_decide_eq_false hc; omega
      rw [if_neg hc'] at he
      refine h.drew.swap i2 j2 rfl rfl (by omega) (by omega) (by omega) fun w4 h => ?_
      rw [wi ((i2 : Int) + 1) (by omega), wi ((j2 : Int) - 1) (by omega)]
      exact hX _ _ ⟨i2 + 1, j2 - 1, _, pair_eq (by omega) (by omega), by omega, by omega, by omega, by omega, h, by rw [Sort.size_swp]; exact hs3, he⟩ (by dsimp only; omega)

theorem PartEq_ok {a b pivot : Nat} {K : Int → World → Prop} (h : Arr blk T w0 w d) (hap : a ≤ pivot) (hpb : pivot < b) (hb : b ≤ len) (hl : len ≤ d.size ∧ len ≤ 1152921504606846976)
    (hk : ∀ w', Arr blk T w0 w' (Sort.partitionEqual ltInt d a b pivot).2 → K ((Sort.partitionEqual ltInt d a b pivot).1 : Nat) w') :
    call Try.prog 50 [.slice (some ⟨blk, 0, none⟩) len cap, .int .i64 a, .int .i64 b, .int .i64 pivot] [.one (.int .i64)] w K := by
  refine slices_partitionEqualOrdered_of (data := ⟨some ⟨blk, 0, none⟩, len, cap⟩) ?_
  unfold slices_partitionEqualOrderedF
  revert hk
  unfold Sort.partitionEqual
  intro hk
  refine h.drew.swap a pivot rfl rfl (by omega) (by omega) (by omega) fun w1 h => ?_
  have hsz : (swp d a pivot).size = d.size := Sort.size_swp _ _ _
  generalize swp d a pivot = d2 at h hk hsz
  rw [wi ((a : Int) + 1) (by omega), wi ((b : Int) - 1) (by omega)]
  refine loop_ind (fun s w' => ∃ (i' j' : Nat) (d' : Array Int), s = ((i' : Int), (j' : Int)) ∧ a + 1 ≤ i' ∧ i' ≤ b ∧ j' ≤ b - 1 ∧ i' ≤ j' + 2 ∧ Arr blk T w0 w' d' ∧ d'.size = d.size ∧ partEqLoop ltInt a i' j' d' = partEqLoop ltInt a (a + 1) (b - 1) d2) (fun s _ => (s.2 + 2 - s.1).toNat)
    ⟨a + 1, b - 1, d2, pair_eq (by omega) (by omega), by omega, by omega, by omega, by omega, h, by omega, rfl⟩ ?_
  rintro s w5 ⟨i', j', d3, rfl, hi1, hi2, hj1, hij, h, hs3, he⟩ X hX
  rw [partEqLoop_eq ltInt a i' j' d3] at he
  dsimp only
  refine scanUp_rule (p := fun x => !ltInt d3[a]! x) (J := j') (i0 := i') h (by omega) (by omega) (fun x w Y hx h hY => ?_) fun w6 h => ?_
  · refine cond_of (fun hc => ?_) (fun hc => ?_)
    · have hc' : x ≤ j' := by have := of_decide_eq_true hc; omega
      refine h.drew.rd a rfl (by omega) (by omega) ?_
      refine h.drew.rd x rfl (by omega) (by omega) ?_
      refine Less_ok ?_
      have := hY _ h.drew
      simpa [hc'] using this
    · have hc' : ¬ x ≤ j' := by have := of_decide_eq_false hc; omega
      have := hY _ h.drew
      simpa [hc'] using this
  have hu1 := scanUp_ge (fun x => !ltInt d3[a]! x) d3 j' i'
  generalize scanUp (fun x => !ltInt d3[a]! x) d3 j' i' = i2 at he hu1 ⊢
  refine scanDown_rule (p := fun x => ltInt d3[a]! x) (i := i2) (j0 := j') h (by omega) (by omega) (fun x w Y hx h hY => ?_) fun w7 h => ?_
  · refine cond_of (fun hc => ?_) (fun hc => ?_)
    · have hc' : i2 ≤ x := by have := of_decide_eq_true hc; omega
      refine h.drew.rd a rfl (by omega) (by omega) ?_
      refine h.drew.rd x rfl (by omega) (by omega) ?_
      refine Less_ok ?_
      have := hY _ h.drew
      simpa [hc'] using this
    · have hc' : ¬ i2 ≤ x := by have := of_decide_eq_false hc; omega
      have := hY _ h.drew
      simpa [hc'] using this
  have hv1 := scanDown_le (fun x => ltInt d3[a]! x) d3 i2 j'
  generalize scanDown (fun x => ltInt d3[a]! x) d3 i2 j' = j2 at he hv1 ⊢
  refine cond_of (fun hc => ?_) (fun hc => ?_)
  · have hc' : i2 > j2 := by have := of_decide_eq_true hc; omega
    rw [if_pos hc'] at he
    rw [← he] at hk
    exact hk _ h
  · have hc' : ¬ i2 > j2 := by have := of_decide_eq_false hc; omega
    rw [if_neg hc'] at he
    refine h.drew.swap i2 j2 rfl rfl (by omega) (by omega) (by omega) fun w4 h => ?_
    rw [wi ((i2 : Int) + 1) (by omega), wi ((j2 : Int) - 1) (by omega)]
    exact hX _ _ ⟨i2 + 1, j2 - 1, _, pair_eq (by omega) (by omega), by omega, by omega, by omega, by omega, h, by rw [Sort.size_swp]; exact hs3, he⟩ (by dsimp only; omega)

end
end Go.Proofs.Ytmmldfipakcmaaa
