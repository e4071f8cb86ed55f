/- Arrays of numbers in one block: reading, exchanging; cmp.Less; the small functions of slices' sort. Conditions: those that stand in each line. -/
import Derived.Test.YtmmldfipakcmaaaPtI
import Derived.Test.YtmmldfipakcmaaaFormsS
import Derived.Sort.LotD6
set_option linter.unusedVariables false
set_option linter.unusedSimpArgs false
namespace Go.Proofs.Ytmmldfipakcmaaa
open Go Go.Pt Go.Sort
attribute [local irreducible] ld ldA st new idx idxS idxA slc slcS slcP mkS chk nn call callV inv run runQ runU join loop held IntKind.wrap

/-- The block's cells: the numbers of d. -/
def u32s (d : Array Int) : Array Value := d.map (.int .u32)

theorem u32s_get (d : Array Int) (i : Nat) (h : i < d.size) : (u32s d)[i]? = some (.int .u32 d[i]!) := by
  unfold u32s
  simp [h]

theorem u32s_size (d : Array Int) : (u32s d).size = d.size := by simp [u32s]

theorem u32s_set (d : Array Int) (i : Nat) (v : Int) : (u32s d).setIfInBounds i (.int .u32 v) = u32s (d.setIfInBounds i v) := by
  unfold u32s
  apply Array.ext_getElem?
  intro j
  simp only [Array.getElem?_setIfInBounds, Array.getElem?_map, Array.size_map]
  by_cases hj : i = j
  · subst hj
    by_cases hi : i < d.size <;> simp [hi]
  · simp [hj]

/-- All that was there is as it was, but block blk; it holds d. -/
structure Arr (blk : Nat) (T : TypeId) (w0 w : World) (d : Array Int) : Prop where
  fr : Fr [blk] w0 w
  blk : w.heap[blk]? = some (.cells (u32s d) T (0, 0))

theorem Arr.start {blk : Nat} {T : TypeId} {w : World} {d : Array Int} (h : w.heap[blk]? = some (.cells (u32s d) T (0, 0))) : Arr blk T w w d := ⟨.refl _ _, h⟩

section
variable {blk : Nat} {T : TypeId} {w0 w : World} {d : Array Int} {len cap : Nat}

theorem Arr.drew (h : Arr blk T w0 w d) : Arr blk T w0 w.drew d := ⟨h.fr.drew, h.blk⟩
theorem Arr.same {w' : World} (h : Arr blk T w0 w d) (k : Same w w') : Arr blk T w0 w' d := ⟨h.fr.same k, by rw [k.heap]; exact h.blk⟩
theorem Arr.trans {w' : World} {d' : Array Int} (h : Arr blk T w0 w d) (k : Arr blk T w w' d') : Arr blk T w0 w' d' := ⟨h.fr.trans k.fr, k.blk⟩

/-- data[i], read. -/
theorem Arr.rd (h : Arr blk T w0 w d) (n : Nat) {i : Int} {K : Int → Prop} (hi : i = n) (hn : n < len) (hl : len ≤ d.size ∧ len ≤ 1152921504606846976) (k : K d[n]!) :
    idx ⟨some ⟨blk, 0, none⟩, len, cap⟩ i 1 fun a => ld (.int .u32) a w K := by
  subst hi
  refine idx_lit (by omega) (by omega) ?_
  refine ld_blk h.blk d[n]! ?_ k
  rw [Int.toNat_natCast, Nat.zero_add, Nat.mul_one]
  exact u32s_get d n (by omega)

/-- data[i], written. -/
theorem Arr.wr (h : Arr blk T w0 w d) (n : Nat) {i v : Int} {K : World → Prop} (hi : i = n) (hn : n < len) (hl : len ≤ d.size ∧ len ≤ 1152921504606846976) (k : ∀ w', Arr blk T w0 w' (d.setIfInBounds n v) → K w') :
    idx ⟨some ⟨blk, 0, none⟩, len, cap⟩ i 1 fun a => st a [.int .u32 v] w K := by
  subst hi
  refine idx_lit (by omega) (by omega) ?_
  rw [Int.toNat_natCast, Nat.zero_add, Nat.mul_one]
  show st ⟨blk, n, none⟩ _ w K
  unfold st
  refine st_blk (w := w) [.int .u32 v] n 0 _ w K h.blk rfl (by rw [u32s_size]; simp; omega) (k _ ⟨?_, ?_⟩)
  · refine h.fr.trans ⟨rfl, rfl, rfl, by rw [size_upd]; exact Nat.le_refl _, fun j hj hS => ?_⟩
    rw [heap_upd _ _ _ _ (lt_of_blk h.blk), if_neg (by simpa using hS)]
  · rw [heap_upd _ _ _ _ (lt_of_blk h.blk), if_pos rfl]
    simp only [splice, Nat.add_zero, u32s_set]

/-- data[i], data[j] = data[j], data[i]. -/
theorem Arr.swap (h : Arr blk T w0 w d) (n m : Nat) {i j : Int} {K : World → Prop} (hi : i = n) (hj : j = m) (hn : n < len) (hm : m < len) (hl : len ≤ d.size ∧ len ≤ 1152921504606846976) (k : ∀ w', Arr blk T w0 w' (swp d n m) → K w') :
    idx ⟨some ⟨blk, 0, none⟩, len, cap⟩ j 1 fun a => ld (.int .u32) a w fun x => idx ⟨some ⟨blk, 0, none⟩, len, cap⟩ i 1 fun a => ld (.int .u32) a w fun y =>
      idx ⟨some ⟨blk, 0, none⟩, len, cap⟩ i 1 fun a => st a [.int .u32 x] w fun w' => idx ⟨some ⟨blk, 0, none⟩, len, cap⟩ j 1 fun a => st a [.int .u32 y] w' K := by
  refine h.rd m hj hm hl ?_
  refine h.rd n hi hn hl ?_
  refine h.wr n hi hn hl fun w1 h1 => ?_
  refine h1.wr m hj hm (by simpa using hl) fun w2 h2 => ?_
  exact k w2 h2

theorem swp_size (d : Array Int) (n m : Nat) : (swp d n m).size = d.size := by simp [swp]
end

theorem isNaN_ok {x : Int} {w : World} {K : Bool → World → Prop} (hk : K false w) : call Try.prog 59 [.int .u32 x] [.one .bool] w K := by
  apply cmp_isNaN_of
  unfold cmp_isNaNF
  simpa using hk

theorem Less_ok {x y : Int} {w : World} {K : Bool → World → Prop} (hk : K (ltInt x y) w) : call Try.prog 49 [.int .u32 x, .int .u32 y] [.one .bool] w K := by
  apply cmp_Less_of
  unfold cmp_LessF
  refine isNaN_ok ?_
  exact cond_false rfl hk

theorem swo : SWO ltInt := ⟨fun x => by simp [ltInt], fun x y z h1 h2 => by simp [ltInt] at *; omega, fun x y z h1 h2 => by simp [ltInt] at *; omega⟩

/-- Whole numbers as Go's ints: no wrap. -/
theorem wi (x : Int) (h : -9223372036854775808 ≤ x ∧ x ≤ 9223372036854775807) : IntKind.i64.wrap x = x := IntWalk.i64_in x h

theorem Ins_ok {blk : Nat} {T : TypeId} {w0 w : World} {d : Array Int} {len cap a b : Nat} {K : Unit → World → Prop} (h : Arr blk T w0 w d) (hab : a ≤ b) (hb : b ≤ len) (hl : len ≤ d.size ∧ len ≤ 1152921504606846976)
    (hk : ∀ w', Arr blk T w0 w' (insertionSort ltInt d a b) → K () w') : call Try.prog 43 [.slice (some ⟨blk, 0, none⟩) len cap, .int .i64 a, .int .i64 b] [] w K := by
  refine slices_insertionSortOrdered_of (data := ⟨some ⟨blk, 0, none⟩, len, cap⟩) ?_
  unfold slices_insertionSortOrderedF
  rw [wi _ (by omega)]
  refine loop_ind (fun x w' => ∃ (i : Nat) (d' : Array Int), x = i ∧ a + 1 ≤ i ∧ Arr blk T w0 w' d' ∧ d'.size = d.size ∧ insOuter ltInt a b i d' = insOuter ltInt a b (a + 1) d) (fun x _ => ((b : Int) - x).toNat)
    ⟨a + 1, d, by omega, by omega, h, rfl, rfl⟩ ?_
  rintro x w1 ⟨i, d1, rfl, hi, h, hs1, he1⟩ X hX
  refine cond_of (fun hc => ?_) (fun hc => ?_)
  · have hib : i < b := by have := of_decide_eq_true hc; omega
    refine loop_ind (fun y w' => ∃ (j : Nat) (d' : Array Int), y = j ∧ j ≤ i ∧ Arr blk T w0 w' d' ∧ d'.size = d.size ∧ insInner ltInt a j d' = insInner ltInt a i d1) (fun y _ => y.toNat)
      ⟨i, d1, rfl, by omega, h, hs1, rfl⟩ ?_
    rintro y w2 ⟨j, d2, rfl, hj, h, hs2, he2⟩ Z hZ
    refine join_mid (fun c w' => c = (decide (a < j) && ltInt d2[j]! d2[j - 1]!) ∧ Arr blk T w0 w' d2) ?_ ?_
    · refine cond_of (fun hc => ?_) (fun hc => ?_)
      · have hc' : a < j := by have := of_decide_eq_true hc; omega
        refine h.drew.rd j rfl (by omega) (by omega) ?_
        refine h.drew.rd (j - 1) (by rw [wi _ (by omega)]; omega) (by omega) (by omega) ?_
        refine Less_ok ?_
        exact ⟨by simp [hc'], h.drew⟩
      · have hc' : ¬ a < j := by have := of_decide_eq_false hc; omega
        exact ⟨by simp [hc'], h.drew⟩
    · rintro c w3 ⟨rfl, h⟩
      refine cond_of (fun hc => ?_) (fun hc => ?_)
      · simp only [Bool.and_eq_true, decide_eq_true_eq] at hc
        obtain ⟨k, rfl⟩ : ∃ k, j = k + 1 := ⟨j - 1, by omega⟩
        refine h.drew.swap (k + 1) k rfl (by rw [wi _ (by omega)]; omega) (by omega) (by omega) (by omega) fun w4 h => ?_
        refine hZ _ _ ⟨k, _, by rw [wi _ (by omega)]; omega, by omega, h, by rw [swp_size]; exact hs2, ?_⟩ (by rw [wi _ (by omega)]; omega)
        rw [← he2, insInner, if_pos (by simpa using hc)]
      · rw [wi _ (by omega)]
        refine hX _ _ ⟨i + 1, d2, by omega, by omega, h, hs2, ?_⟩ (by omega)
        rw [← he1, insOuter.eq_1 ltInt a b i d1, if_pos hib, ← he2]
        cases j with
        | zero => rfl
        | succ k =>
          rw [insInner, if_neg]
          simpa using hc
  · have hib : ¬ i < b := by have := of_decide_eq_false hc; omega
    rw [insOuter.eq_1 ltInt a b i d1, if_neg hib] at he1
    refine hk _ ?_
    unfold insertionSort
    rw [← he1]
    exact h

end Go.Proofs.Ytmmldfipakcmaaa
