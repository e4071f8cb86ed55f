/- slices' sort of uint32: the pivot's choice, the broken patterns. Conditions: those that stand in each line. -/
import Derived.Test.YtmmldfipakcmaaaSrtE
set_option linter.unusedVariables false
set_option linter.unusedSimpArgs false
namespace Go.Proofs.Ytmmldfipakcmaaa
open Go Go.Pt Go.Sort
attribute [local irreducible] ld ldA st new idx idxS idxA slc slcS slcP mkS chk nn call callV inv run runQ runU join loop held IntKind.wrap

/-- Beside the array: a number in a block of the call's own. -/
structure Arr2 (blk : Nat) (T : TypeId) (w0 w : World) (d : Array Int) (sb : Nat) (k : IntKind) (v : Int) : Prop where
  arr : Arr blk T w0 w d
  cell : ∃ T2, w.heap[sb]? = some (.cells #[.int k v] T2 (0, 0))
  ne : sb ≠ blk
  new : w0.heap.size ≤ sb

section
variable {blk : Nat} {T : TypeId} {w0 w : World} {d : Array Int} {len cap sb : Nat} {k : IntKind} {v : Int}

theorem Arr2.drew (h : Arr2 blk T w0 w d sb k v) : Arr2 blk T w0 w.drew d sb k v := ⟨h.arr.drew, h.cell, h.ne, h.new⟩

theorem Arr2.get (h : Arr2 blk T w0 w d sb k v) {K : Int → Prop} (hk : K v) : ld (.int k) ⟨sb, 0, none⟩ w K := by
  obtain ⟨T2, hc⟩ := h.cell
  exact ld_blk hc v rfl hk

theorem Arr2.put (h : Arr2 blk T w0 w d sb k v) (u : Int) {K : World → Prop} (hk : ∀ w', Arr2 blk T w0 w' d sb k u → K w') : st ⟨sb, 0, none⟩ [.int k u] w K := by
  obtain ⟨T2, hc⟩ := h.cell
  unfold st
  refine st_blk (w := w) [.int k u] 0 0 _ w K hc rfl (by simp) (hk _ ⟨⟨?_, ?_⟩, ⟨T2, ?_⟩, h.ne, h.new⟩)
  · refine h.arr.fr.trans' (T := [sb]) ⟨rfl, rfl, rfl, by rw [size_upd]; exact Nat.le_refl _, fun j hj hS => ?_⟩ (fun i hi => .inr ?_)
    · rw [heap_upd _ _ _ _ (lt_of_blk hc), if_neg (by simpa using hS)]
    · have := h.new
      simp at hi; omega
  · rw [heap_upd _ _ _ _ (lt_of_blk hc), if_neg (fun e => h.ne e.symm)]
    exact h.arr.blk
  · rw [heap_upd _ _ _ _ (lt_of_blk hc), if_pos rfl]
    rfl

theorem Arr2.mk' (h : Arr blk T w0 w d) (T2 : TypeId) (u : Int) {K : Nat → World → Prop} (hk : ∀ b w', Arr2 blk T w0 w' d b k u → K b w') : Pt.new (.cells #[.int k u] T2 (0, 0)) w K := by
  unfold Pt.new
  refine hk _ _ ⟨⟨h.fr.alloc _, ?_⟩, ⟨T2, ?_⟩, ?_, h.fr.size⟩
  · have := lt_of_blk h.blk
    rw [heap_alloc, if_neg (by omega)]
    exact h.blk
  · rw [heap_alloc, if_pos rfl]
  · have := lt_of_blk h.blk
    omega

theorem Order2_ok {a b : Nat} {K : Int × Int → World → Prop} (h : Arr2 blk T w0 w d sb .i64 v) (ha : a < len) (hb : b < len) (hl : len ≤ d.size ∧ len ≤ 1152921504606846976)
    (hk : ∀ (p q : Nat) u w', (p = a ∧ q = b ∨ p = b ∧ q = a) → Arr2 blk T w0 w' d sb .i64 u → K ((p : Int), (q : Int)) w') :
    call Try.prog 60 [.slice (some ⟨blk, 0, none⟩) len cap, .int .i64 a, .int .i64 b, .pointer (some ⟨sb, 0, none⟩)] [.one (.int .i64), .one (.int .i64)] w K := by
  refine slices_order2Ordered_of (data := ⟨some ⟨blk, 0, none⟩, len, cap⟩) ?_
  unfold slices_order2OrderedF
  refine h.arr.drew.rd b rfl hb hl ?_
  refine h.arr.drew.rd a rfl ha hl ?_
  refine Less_ok ?_
  refine cond_of (fun hc => ?_) (fun hc => ?_)
  · refine nn_some ?_
    refine h.drew.get ?_
    refine nn_some ?_
    exact h.drew.put _ fun w' h => hk b a _ _ (.inr ⟨rfl, rfl⟩) h
  · exact hk a b _ _ (.inl ⟨rfl, rfl⟩) h.drew

theorem Median_ok {a b c : Nat} {K : Int → World → Prop} (h : Arr2 blk T w0 w d sb .i64 v) (ha : a < len) (hb : b < len) (hc : c < len) (hl : len ≤ d.size ∧ len ≤ 1152921504606846976)
    (hk : ∀ (p : Nat) u w', (p = a ∨ p = b ∨ p = c) → Arr2 blk T w0 w' d sb .i64 u → K (p : Int) w') :
    call Try.prog 58 [.slice (some ⟨blk, 0, none⟩) len cap, .int .i64 a, .int .i64 b, .int .i64 c, .pointer (some ⟨sb, 0, none⟩)] [.one (.int .i64)] w K := by
  refine slices_medianOrdered_of (data := ⟨some ⟨blk, 0, none⟩, len, cap⟩) ?_
  unfold slices_medianOrderedF
  dsimp only
  refine Order2_ok h ha hb hl fun p q u w1 hp h => ?_
  dsimp only
  refine Order2_ok h (by omega) hc hl fun p' q' u w1 hp' h => ?_
  dsimp only
  refine Order2_ok h (by omega) (by omega) hl fun p'' q'' u w1 hp'' h => ?_
  exact hk _ _ _ (by omega) h

theorem MedAdj_ok {a : Nat} {K : Int → World → Prop} (h : Arr2 blk T w0 w d sb .i64 v) (ha : 1 ≤ a) (hb : a + 1 < len) (hl : len ≤ d.size ∧ len ≤ 1152921504606846976)
    (hk : ∀ (p : Nat) u w', (a ≤ p + 1 ∧ p ≤ a + 1) → Arr2 blk T w0 w' d sb .i64 u → K (p : Int) w') :
    call Try.prog 57 [.slice (some ⟨blk, 0, none⟩) len cap, .int .i64 a, .pointer (some ⟨sb, 0, none⟩)] [.one (.int .i64)] w K := by
  refine slices_medianAdjacentOrdered_of (data := ⟨some ⟨blk, 0, none⟩, len, cap⟩) ?_
  unfold slices_medianAdjacentOrderedF
  dsimp only
  rw [wi ((a : Int) - 1) (by omega), wi ((a : Int) + 1) (by omega), show (a : Int) - 1 = ((a - 1 : Nat) : Int) by omega, show (a : Int) + 1 = ((a + 1 : Nat) : Int) by omega]
  exact Median_ok h (by omega) (by omega) (by omega) hl fun p u w' hp h => hk p u w' (by omega) h

theorem Pivot_ok {a b : Nat} {K : Int × Int → World → Prop} (h : Arr blk T w0 w d) (hab : a < b) (hb : b ≤ len) (hl : len ≤ d.size ∧ len ≤ 1152921504606846976)
    (hk : ∀ (p : Nat) (x : Int) w', a ≤ p ∧ p < b → Arr blk T w0 w' d → K ((p : Int), x) w') :
    call Try.prog 46 [.slice (some ⟨blk, 0, none⟩) len cap, .int .i64 a, .int .i64 b] [.one (.int .i64), .one (.int .i64)] w K := by
  refine slices_choosePivotOrdered_of (data := ⟨some ⟨blk, 0, none⟩, len, cap⟩) ?_
  unfold slices_choosePivotOrderedF
  dsimp only
  have e0 : IntKind.i64.wrap ((b : Int) - a) = ((b - a : Nat) : Int) := by rw [wi _ (by omega)]; omega
  have e4 : Int.tdiv ((b - a : Nat) : Int) 4 = (((b - a) / 4 : Nat) : Int) := by rw [Int.tdiv_eq_ediv_of_nonneg (by omega)]; omega
  have e1 : ∀ m : Nat, m ≤ 3 → IntKind.i64.wrap ((a : Int) + IntKind.i64.wrap (IntKind.i64.wrap (((b - a) / 4 : Nat) : Int) * (m : Int))) = ((a + (b - a) / 4 * m : Nat) : Int) := by
    intro m hm
    have hq : (b - a) / 4 * m ≤ (b - a) / 4 * 3 := Nat.mul_le_mul_left _ hm
    have hz : (((b - a) / 4 : Nat) : Int) * (m : Int) = (((b - a) / 4 * m : Nat) : Int) := by push_cast; rfl
    rw [wi (((b - a) / 4 : Nat) : Int) (by omega), hz, wi (((b - a) / 4 * m : Nat) : Int) (by omega), wi _ (by omega)]
    omega
  have f1 := e1 1 (by omega)
  have f2 := e1 2 (by omega)
  have f3 := e1 3 (by omega)
  simp only [Int.cast_ofNat_Int] at f1 f2 f3
  rw [e0, e4, f1, f2, f3]
  refine Arr2.mk' h _ _ fun sb w1 h => ?_
  refine join_mid (fun x w' => ∃ (p : Nat) (u : Int), x = p ∧ a ≤ p ∧ p < b ∧ Arr2 blk T w0 w' d sb .i64 u) ?_ ?_
  · refine cond_of (fun hc => ?_) (fun hc => ?_)
    · have h8 : b - a ≥ 8 := by have := of_decide_eq_true hc; omega
      refine join_mid (fun x w' => ∃ (p q r : Nat) (u : Int), x = ((p : Int), (q : Int), (r : Int)) ∧ a ≤ p ∧ p < b ∧ a ≤ q ∧ q < b ∧ a ≤ r ∧ r < b ∧ Arr2 blk T w0 w' d sb .i64 u) ?_ ?_
      · refine cond_of (fun hc => ?_) (fun hc => ?_)
        · have h50 : b - a ≥ 50 := by have := of_decide_eq_true hc; omega
          refine MedAdj_ok h (by omega) (by omega) hl fun p u w2 hp h => ?_
          refine MedAdj_ok h (by omega) (by omega) hl fun q u w2 hq h => ?_
          refine MedAdj_ok h (by omega) (by omega) hl fun r u w2 hr h => ?_
          exact ⟨p, q, r, u, rfl, by omega, by omega, by omega, by omega, by omega, by omega, h⟩
        · exact ⟨_, _, _, _, rfl, by omega, by omega, by omega, by omega, by omega, by omega, h⟩
      · rintro x w2 ⟨p, q, r, u, rfl, hp1, hp2, hq1, hq2, hr1, hr2, h⟩
        dsimp only
        refine Median_ok h (by omega) (by omega) (by omega) hl fun m u w3 hm h => ?_
        exact ⟨m, u, rfl, by omega, by omega, h⟩
    · exact ⟨_, _, rfl, by omega, by omega, h⟩
  · rintro x w2 ⟨p, u, rfl, hp1, hp2, h⟩
    refine h.get ?_
    refine cond_of (fun hc => ?_) (fun hc => ?_)
    · exact hk _ _ _ ⟨hp1, hp2⟩ h.arr
    · refine cond_of (fun hc => ?_) (fun hc => ?_)
      · exact hk _ _ _ ⟨hp1, hp2⟩ h.arr
      · exact hk _ _ _ ⟨hp1, hp2⟩ h.arr

end
end Go.Proofs.Ytmmldfipakcmaaa
