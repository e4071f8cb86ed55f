/- slices.Sort at uint32: it sorts. Conditions: those that stand in each line. -/
import Derived.Test.YtmmldfipakcmaaaSrtG
import Derived.Sort.LotB
import Derived.Sort.LotD3
set_option linter.unusedVariables false
set_option linter.unusedSimpArgs false
namespace Go.Proofs.Ytmmldfipakcmaaa
open Go Go.Pt Go.Sort
attribute [local irreducible] ld ldA st new idx idxS idxA slc slcS slcP mkS chk nn call callV inv run runQ runU join loop held IntKind.wrap

section
variable {blk : Nat} {T : TypeId} {len cap : Nat}

theorem Pdq_ok : ∀ (n : Nat) {w0 w : World} {d : Array Int} {a b : Nat} {limit : Int} {K : Unit → World → Prop}, b - a ≤ n → Arr blk T w0 w d → a ≤ b → b ≤ len → (len ≤ d.size ∧ len ≤ 1152921504606846976) → Sort.Below ltInt a b d →
    (∀ d' w', PermIn a b d d' → SortedIn ltInt a b d' → Arr blk T w0 w' d' → K () w') →
    call Try.prog 39 [.slice (some ⟨blk, 0, none⟩) len cap, .int .i64 a, .int .i64 b, .int .i64 limit] [] w K := by
  intro n
  induction n using Nat.strongRecOn with
  | _ n ih =>
  intro w0 w d a0 b0 limit0 K hn h hab hb hl hB hk
  refine slices_pdqsortOrdered_of (data := ⟨some ⟨blk, 0, none⟩, len, cap⟩) ?_
  unfold slices_pdqsortOrderedF
  dsimp only
  refine loop_ind (fun x w' => ∃ (a b : Nat) (l : Int) (wb wp : Bool) (d' : Array Int), x = ((a : Int), (b : Int), l, wb, wp) ∧ b - a ≤ n ∧ a ≤ b ∧ b ≤ len ∧ d'.size = d.size ∧ Sort.Below ltInt a b d' ∧ Arr blk T w0 w' d' ∧
      ∀ R, PermIn a b d' R → SortedIn ltInt a b R → PermIn a0 b0 d R ∧ SortedIn ltInt a0 b0 R) (fun x _ => (x.2.1 - x.1).toNat)
    ⟨a0, b0, limit0, true, true, d, rfl, hn, hab, hb, rfl, hB, h, fun R h1 h2 => ⟨h1, h2⟩⟩ ?_
  rintro x w1 ⟨a, b, l, wb, wp, d1, rfl, hn1, hab, hb, hs1, hB, h, hR⟩ X hX
  dsimp only
  have e0 : IntKind.i64.wrap ((b : Int) - a) = ((b - a : Nat) : Int) := by rw [wi _ (by omega)]; omega
  rw [e0]
  refine cond_of (fun hc => ?_) (fun hc => ?_)
  · refine Ins_ok h hab hb (by omega) fun w2 h => ?_
    obtain ⟨h1, h2⟩ := insertionSort_holds swo d1 a b hab (by omega)
    obtain ⟨h3, h4⟩ := hR _ h1 h2
    exact hk _ _ h3 h4 h
  have h12 : 12 < b - a := by have := of_decide_eq_false hc; omega
  refine cond_of (fun hc => ?_) (fun hc => ?_)
  · refine Heap_ok h hab hb (by omega) fun w2 h => ?_
    obtain ⟨h1, h2⟩ := heapSort_holds swo d1 a b hab (by omega)
    obtain ⟨h3, h4⟩ := hR _ h1 h2
    exact hk _ _ h3 h4 h
  refine join_mid (fun _ w' => ∃ d2, PermIn a b d1 d2 ∧ Arr blk T w0 w' d2) ?_ ?_
  · refine cond_of (fun hc => ?_) (fun hc => ?_)
    · exact Break_ok h hab hb (by omega) fun d2 w2 hp h => ⟨d2, hp, h⟩
    · exact ⟨d1, permIn_refl _ _ _, h⟩
  rintro lim w2 ⟨d2, hp2, h⟩
  have hs2 := hp2.1
  refine Pivot_ok h (by omega) hb (by omega) fun p hint w3 hpp h => ?_
  dsimp only
  refine join_mid (fun x w' => ∃ (p : Nat) (hint : Int) (d3 : Array Int), x = ((p : Int), hint) ∧ a ≤ p ∧ p < b ∧ PermIn a b d1 d3 ∧ Arr blk T w0 w' d3) ?_ ?_
  · refine cond_of (fun hc => ?_) (fun hc => ?_)
    · refine Rev_ok h (by omega) hb (by omega) fun w4 h => ?_
      refine ⟨(b - 1) - (p - a), 1, _, pair_eq ?_ rfl, by omega, by omega, permIn_trans _ _ _ _ _ hp2 (reverseRange_holds _ _ _ hab (by omega)), h⟩
      rw [wi ((b : Int) - 1) (by omega), wi ((p : Int) - a) (by omega), wi _ (by omega)]
      omega
    · exact ⟨p, hint, d2, rfl, hpp.1, hpp.2, hp2, h⟩
  rintro x w4 ⟨p, hint, d3, rfl, hp1, hp2, hp3, h⟩
  have hs3 := hp3.1
  dsimp only
  refine join_mid (fun _ w' => ∃ d4, PermIn a b d1 d4 ∧ Arr blk T w0 w' d4) ?_ ?_
  · refine join_mid (fun _ w' => Arr blk T w0 w' d3) ?_ ?_
    · refine cond_of (fun hc => ?_) (fun hc => ?_)
      · refine cond_of (fun hc => ?_) (fun hc => ?_)
        · exact h
        · exact h
      · exact h
    · rintro c w5 h
      refine cond_of (fun hc => ?_) (fun hc => ?_)
      · refine Short_ok h (by omega) hb (by omega) fun w6 h => ?_
        obtain ⟨h1, h2⟩ := partialInsertionSort_holds swo d3 a b (by omega) (by omega) (hB.perm (by omega) hp3)
        refine cond_of (fun hc => ?_) (fun hc => ?_)
        · obtain ⟨h3, h4⟩ := hR _ (permIn_trans _ _ _ _ _ hp3 h1) (h2 hc)
          exact hk _ _ h3 h4 h
        · exact ⟨_, permIn_trans _ _ _ _ _ hp3 h1, h⟩
      · exact ⟨d3, hp3, h⟩
  rintro _ w5 ⟨d4, hp4, h⟩
  have hs4 := hp4.1
  have hB4 := hB.perm (by omega) hp4
  refine join_mid (fun c w' => c = (decide (0 < a) && !ltInt d4[a - 1]! d4[p]!) ∧ Arr blk T w0 w' d4) ?_ ?_
  · refine cond_of (fun hc => ?_) (fun hc => ?_)
    · have ha : 0 < a := by have := of_decide_eq_true hc; omega
      refine h.drew.rd (a - 1) (by rw [wi _ (by omega)]; omega) (by omega) (by omega) ?_
      refine h.drew.rd p rfl (by omega) (by omega) ?_
      refine Less_ok ?_
      exact ⟨by simp [ha], h.drew⟩
    · have ha : ¬ 0 < a := by have := of_decide_eq_false hc; omega
      exact ⟨by simp [ha], h.drew⟩
  rintro c w6 ⟨rfl, h⟩
  refine cond_of (fun hc => ?_) (fun hc => ?_)
  · simp only [Bool.and_eq_true, decide_eq_true_eq, Bool.not_eq_true'] at hc
    have hr := round_eq swo (partitionEqual_holds ltInt) hc.1 hp1 hp2 (by omega) hB4 hc.2 (mid := (Sort.partitionEqual ltInt d4 a b p).1) (d4 := (Sort.partitionEqual ltInt d4 a b p).2) rfl
    refine PartEq_ok h hp1 hp2 hb (by omega) fun w7 h => ?_
    obtain ⟨h1, h2, h3, h4, h5⟩ := hr
    refine hX _ _ ⟨_, b, lim, wb, wp, _, rfl, by omega, h2, hb, by omega, h4, h, fun R r1 r2 => ?_⟩ (by dsimp only; omega)
    obtain ⟨q1, q2⟩ := h5 R r1 r2
    exact hR R (permIn_trans _ _ _ _ _ hp4 q1) q2
  · have hr := round_part swo (partition_holds ltInt) hp1 hp2 (by omega) hB4 (mid := (Sort.partition ltInt d4 a b p).1) (ap := (Sort.partition ltInt d4 a b p).2.1) (d4 := (Sort.partition ltInt d4 a b p).2.2) rfl
    refine Part_ok h hp1 hp2 hb (by omega) fun w7 h => ?_
    obtain ⟨h1, h2, h3, h4, h5, h6, h7⟩ := hr
    dsimp only
    generalize (Sort.partition ltInt d4 a b p).1 = mid at *
    generalize (Sort.partition ltInt d4 a b p).2.2 = d5 at *
    rw [wi ((mid : Int) - a) (by omega), wi ((b : Int) - mid) (by omega), wi ((mid : Int) + 1) (by omega), show (mid : Int) + 1 = ((mid + 1 : Nat) : Int) by omega]
    refine cond_of (fun hc => ?_) (fun hc => ?_)
    · have hlt : mid - a < b - mid := by have := of_decide_eq_true hc; omega
      refine ih (mid - a) (by omega) (Nat.le_refl _) h h1 (by omega) (by omega) h4 fun d6 w8 r1 r2 h => ?_
      obtain ⟨q1, q2⟩ := h6 d6 r1 r2
      refine hX _ _ ⟨mid + 1, b, lim, _, _, d6, rfl, by omega, by omega, hb, by have := r1.1; omega, q1, h, fun R s1 s2 => ?_⟩ (by dsimp only; omega)
      obtain ⟨t1, t2⟩ := q2 R s1 s2
      exact hR R (permIn_trans _ _ _ _ _ hp4 t1) t2
    · refine ih (b - (mid + 1)) (by omega) (Nat.le_refl _) h (by omega) hb (by omega) h5 fun d6 w8 r1 r2 h => ?_
      obtain ⟨q1, q2⟩ := h7 d6 r1 r2
      refine hX _ _ ⟨a, mid, lim, _, _, d6, rfl, by omega, by omega, by omega, by have := r1.1; omega, q1, h, fun R s1 s2 => ?_⟩ (by dsimp only; omega)
      obtain ⟨t1, t2⟩ := q2 R s1 s2
      exact hR R (permIn_trans _ _ _ _ _ hp4 t1) t2

theorem Sort_ok {w0 w : World} {d : Array Int} {K : Unit → World → Prop} (h : Arr blk T w0 w d) (hl : len ≤ d.size ∧ len ≤ 1152921504606846976)
    (hk : ∀ d' w', PermIn 0 len d d' → SortedIn ltInt 0 len d' → Arr blk T w0 w' d' → K () w') :
    call Try.prog 36 [.slice (some ⟨blk, 0, none⟩) len cap] [] w K := by
  refine slices_Sort_of (x := ⟨some ⟨blk, 0, none⟩, len, cap⟩) ?_
  unfold slices_SortF
  dsimp only
  rw [IntWalk.u64_in (len : Int) (by omega)]
  refine Len_ok (by omega) ?_
  exact Pdq_ok len (a := 0) (by omega) h (by omega) (Nat.le_refl _) hl (.inl rfl) hk

theorem Sort_nil {w : World} {K : Unit → World → Prop} (hk : K () w) : call Try.prog 36 [.slice none 0 0] [] w K := by
  refine slices_Sort_of (x := ⟨none, 0, 0⟩) ?_
  unfold slices_SortF
  dsimp only
  rw [IntWalk.u64_in ((0 : Nat) : Int) (by omega)]
  refine Len_ok (n := 0) (by omega) ?_
  refine slices_pdqsortOrdered_of (data := ⟨none, 0, 0⟩) ?_
  unfold slices_pdqsortOrderedF
  refine loop_step fun X hX => ?_
  refine cond_true (by decide +kernel) ?_
  refine slices_insertionSortOrdered_of (data := ⟨none, 0, 0⟩) ?_
  unfold slices_insertionSortOrderedF
  refine loop_step fun X hX => ?_
  exact cond_false (by decide +kernel) hk

end
end Go.Proofs.Ytmmldfipakcmaaa
