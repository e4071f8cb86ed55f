/- slices' sort of uint32: the broken patterns. Conditions: those that stand in each line. -/
import Derived.Test.YtmmldfipakcmaaaSrtF
import Derived.Sort.LotD2
set_option linter.unusedVariables false
set_option linter.unusedSimpArgs false
namespace Go.Proofs.Ytmmldfipakcmaaa
open Go Go.Pt Go.Sort
attribute [local irreducible] ld ldA st new idx idxS idxA slc slcS slcP mkS chk nn call callV inv run runQ runU join loop held IntKind.wrap

section
variable {blk : Nat} {T : TypeId} {w0 w : World} {d : Array Int} {len cap sb : Nat} {k : IntKind} {v : Int}

theorem Arr.self (h : Arr blk T w0 w d) : Arr blk T w w d := ⟨.refl _ _, h.blk⟩

theorem Arr2.step (h : Arr2 blk T w0 w d sb k v) {w' : World} {d' : Array Int} (g : Arr blk T w w' d') : Arr2 blk T w0 w' d' sb k v := by
  obtain ⟨T2, hc⟩ := h.cell
  refine ⟨⟨h.arr.fr.trans g.fr, g.blk⟩, ⟨T2, ?_⟩, h.ne, h.new⟩
  rw [g.fr.block sb (lt_of_blk hc) (by simpa using h.ne)]
  exact hc

theorem Next_ok {K : Int → World → Prop} (h : Arr2 blk T w0 w d sb .u64 v) (hk : ∀ (x : Int) w', 0 ≤ x ∧ x ≤ 18446744073709551615 → Arr2 blk T w0 w' d sb .u64 x → K x w') :
    call Try.prog 56 [.pointer (some ⟨sb, 0, none⟩)] [.one (.int .u64)] w K := by
  refine slices_xorshift_Next_of (r := some ⟨sb, 0, none⟩) ?_
  unfold slices_xorshift_NextF
  refine nn_some (h.drew.get (nn_some (h.drew.get (nn_some (h.drew.put _ fun w1 h => ?_)))))
  refine nn_some (h.drew.get (nn_some (h.drew.get (nn_some (h.drew.put _ fun w1 h => ?_)))))
  refine nn_some (h.drew.get (nn_some (h.drew.get (nn_some (h.drew.put _ fun w1 h => ?_)))))
  refine nn_some (h.get ?_)
  exact hk _ _ (bits_within .xor .u64 _ _) h

theorem Pow_ok {n : Nat} {w : World} {K : Int → World → Prop} (hn : 1 ≤ n ∧ n ≤ 1152921504606846976) (hk : K ((2 ^ bitsLen n : Nat) : Int) w) : call Try.prog 55 [.int .i64 n] [.one (.int .u64)] w K := by
  apply slices_nextPowerOfTwo_of
  unfold slices_nextPowerOfTwoF
  rw [IntWalk.u64_in (n : Int) (by omega)]
  refine Len_ok (by omega) ?_
  refine chk_of (by omega) ?_
  have h1 := two_pow_bitsLen_le (n := n) (by omega)
  have h2 : bitsLen n ≤ 61 := (bitsLen_le_iff n 61).2 (by omega)
  rw [Int.toNat_natCast, Nat.min_eq_left (by omega)]
  have e : (1 : Int) * 2 ^ bitsLen n = ((2 ^ bitsLen n : Nat) : Int) := by rw [Int.one_mul]; push_cast; rfl
  have hnn : (0 : Int) ≤ ((2 ^ bitsLen n : Nat) : Int) := Int.natCast_nonneg _
  rw [e, IntWalk.u64_in _ (by omega)]
  exact hk

theorem Break_ok {a b : Nat} {K : Unit → World → Prop} (h : Arr blk T w0 w d) (hab : a ≤ b) (hb : b ≤ len) (hl : len ≤ d.size ∧ len ≤ 1152921504606846976)
    (hk : ∀ d' w', PermIn a b d d' → Arr blk T w0 w' d' → K () w') :
    call Try.prog 45 [.slice (some ⟨blk, 0, none⟩) len cap, .int .i64 a, .int .i64 b] [] w K := by
  refine slices_breakPatternsOrdered_of (data := ⟨some ⟨blk, 0, none⟩, len, cap⟩) ?_
  unfold slices_breakPatternsOrderedF
  have e0 : IntKind.i64.wrap ((b : Int) - a) = ((b - a : Nat) : Int) := by rw [wi _ (by omega)]; omega
  rw [e0]
  refine cond_of (fun hc => ?_) (fun hc => ?_)
  · have h8 : b - a ≥ 8 := by have := of_decide_eq_true hc; omega
    have e4 : Int.tdiv ((b - a : Nat) : Int) 4 = (((b - a) / 4 : Nat) : Int) := by rw [Int.tdiv_eq_ediv_of_nonneg (by omega)]; omega
    have e1 : IntKind.i64.wrap ((a : Int) + IntKind.i64.wrap (IntKind.i64.wrap (((b - a) / 4 : Nat) : Int) * 2)) = ((a + (b - a) / 4 * 2 : Nat) : Int) := by
      rw [wi (((b - a) / 4 : Nat) : Int) (by omega), wi ((((b - a) / 4 : Nat) : Int) * 2) (by omega), wi _ (by omega)]
      omega
    rw [e4, e1, IntWalk.u64_in ((b - a : Nat) : Int) (by omega)]
    refine Arr2.mk' h _ _ fun sb w1 h => ?_
    refine h.put _ fun w2 h => ?_
    refine Pow_ok (by omega) ?_
    have hp1 := two_pow_bitsLen_le (n := b - a) (by omega)
    have hp2 := Nat.two_pow_pos (bitsLen (b - a))
    rw [wi (_ - 1) (by omega), wi (_ + 1) (by omega)]
    refine loop_ind (fun x w' => ∃ (i : Nat) (d' : Array Int) (u : Int), x = i ∧ a ≤ i ∧ i ≤ a + (b - a) / 4 * 2 + 2 ∧ PermIn a b d d' ∧ Arr2 blk T w0 w' d' sb .u64 u) (fun x _ => (((a + (b - a) / 4 * 2 + 2 : Nat) : Int) - x).toNat)
      ⟨a + (b - a) / 4 * 2 - 1, d, _, by omega, by omega, by omega, permIn_refl _ _ _, h⟩ ?_
    rintro x w3 ⟨i, d1, u, rfl, hi1, hi2, hp, h⟩ X hX
    have hs1 := hp.1
    refine cond_of (fun hc => ?_) (fun hc => ?_)
    · have hi3 : i ≤ a + (b - a) / 4 * 2 + 1 := by have := of_decide_eq_true hc; omega
      refine Next_ok h fun y w4 hy h => ?_
      obtain ⟨z, rfl⟩ : ∃ z : Nat, y = z := ⟨y.toNat, by omega⟩
      have ez : bits .and .u64 (z : Int) (IntKind.u64.wrap (((2 ^ bitsLen (b - a) : Nat) : Int) - 1)) = ((z % 2 ^ bitsLen (b - a) : Nat) : Int) := by
        rw [IntWalk.u64_in _ (by omega), show ((2 ^ bitsLen (b - a) : Nat) : Int) - 1 = ((2 ^ bitsLen (b - a) - 1 : Nat) : Int) by omega, bits_and_u64_nat z _ (by omega) (by omega), Nat.and_two_pow_sub_one_eq_mod]
      rw [ez]
      have hz := Nat.mod_lt z hp2
      rw [wi ((z % 2 ^ bitsLen (b - a) : Nat) : Int) (by omega)]
      refine join_mid (fun x w' => ∃ o : Nat, x = o ∧ o < b - a ∧ Arr2 blk T w0 w' d1 sb .u64 z) ?_ ?_
      · refine cond_of (fun hc => ?_) (fun hc => ?_)
        · have := of_decide_eq_true hc
          exact ⟨z % 2 ^ bitsLen (b - a) - (b - a), by rw [wi _ (by omega)]; omega, by omega, h⟩
        · have := of_decide_eq_false hc
          exact ⟨z % 2 ^ bitsLen (b - a), rfl, by omega, h⟩
      · rintro x w5 ⟨o, rfl, ho, h⟩
        refine h.drew.arr.self.swap i (a + o) rfl (by rw [wi _ (by omega)]; omega) (by omega) (by omega) (by omega) fun w6 h6 => ?_
        rw [wi _ (by omega)]
        exact hX _ _ ⟨i + 1, _, _, by omega, by omega, by omega, permIn_trans _ _ _ _ _ hp (swp_permIn _ _ _ _ _ (by omega) (by omega) (by omega) (by omega) (by omega)), h.drew.step h6⟩ (by omega)
    · exact hk d1 _ hp h.arr
  · exact hk d _ (permIn_refl _ _ _) h

end
end Go.Proofs.Ytmmldfipakcmaaa
