/- slices' sort of uint32: Len, the pivot's choice, the broken patterns. Conditions: those that stand in each line. -/
import Derived.Test.YtmmldfipakcmaaaSrtD
import Derived.Sort.LotD1
import Derived.Laws.Bits64b
import Derived.Laws.Closers25b
import Derived.KernelRfl
set_option linter.unusedVariables false
set_option linter.unusedSimpArgs false
namespace Go.Proofs.Ytmmldfipakcmaaa
open Go Go.Pt Go.Sort
attribute [local irreducible] ld ldA st new idx idxS idxA slc slcS slcP mkS chk nn call callV inv run runQ runU join loop held IntKind.wrap

theorem idxS_of {s : ByteArray} {i : Int} {K : Int → Prop} (b : UInt8) (h0 : 0 ≤ i) (h : s[i.toNat]? = some b) (k : K (b.toNat : Int)) : idxS s i K := by
  unfold idxS
  exact ⟨b, ⟨h0, h⟩, k⟩

theorem bitsLen_shift {n k : Nat} (h : 2 ^ k ≤ n) : bitsLen n = bitsLen (n / 2 ^ k) + k := by
  have h1 : bitsLen n ≤ bitsLen (n / 2 ^ k) + k := by
    rw [bitsLen_le_iff, Nat.pow_add]
    have := lt_two_pow_bitsLen (n / 2 ^ k)
    exact (Nat.div_lt_iff_lt_mul (Nat.two_pow_pos k)).1 this
  have h2 : bitsLen (n / 2 ^ k) + k ≤ bitsLen n := by
    have hn := lt_two_pow_bitsLen n
    have hk : k ≤ bitsLen n := by
      rcases Nat.lt_or_ge (bitsLen n) k with hl | hl
      · have := Nat.pow_le_pow_right (show 0 < 2 by decide) (Nat.le_of_lt hl); omega
      · exact hl
    have : bitsLen (n / 2 ^ k) ≤ bitsLen n - k := by
      rw [bitsLen_le_iff, Nat.div_lt_iff_lt_mul (Nat.two_pow_pos k), ← Nat.pow_add, Nat.sub_add_cancel hk]
      exact hn
    omega
  omega

theorem bitsLen_lt {n k : Nat} (h : n < 2 ^ k) : bitsLen n ≤ k := (bitsLen_le_iff n k).2 h

theorem fdiv_nat (n k : Nat) : Int.fdiv (n : Int) ((k : Nat) : Int) = ((n / k : Nat) : Int) := by
  rw [Int.fdiv_eq_ediv_of_nonneg _ (by omega)]
  rfl

theorem Len64_ok {n : Nat} {w : World} {K : Int → World → Prop} (hn : n < 18446744073709551616) (hk : K (bitsLen n : Nat) w) : call Try.prog 53 [.int .u64 n] [.one (.int .i64)] w K := by
  apply bits_Len64_of
  unfold bits_Len64F
  refine join_mid (fun t w' => ∃ m c : Nat, t = ((m : Int), (c : Int)) ∧ w = w' ∧ m < 4294967296 ∧ c ≤ 32 ∧ bitsLen n = bitsLen m + c) ?_ ?_
  · refine cond_of (fun hc => ?_) (fun hc => ?_)
    · have h := of_decide_eq_true hc
      refine ⟨n / 2 ^ 32, 32, pair_eq (fdiv_nat n (2 ^ 32)) rfl, rfl, by omega, by omega, bitsLen_shift (by omega)⟩
    · have h := of_decide_eq_false hc
      exact ⟨n, 0, rfl, rfl, by omega, by omega, rfl⟩
  rintro t w' ⟨m, c, rfl, rfl, hm, hc1, he⟩
  dsimp only
  refine join_mid (fun t w' => ∃ m c : Nat, t = ((m : Int), (c : Int)) ∧ w = w' ∧ m < 65536 ∧ c ≤ 48 ∧ bitsLen n = bitsLen m + c) ?_ ?_
  · refine cond_of (fun hc => ?_) (fun hc => ?_)
    · have h := of_decide_eq_true hc
      refine ⟨m / 2 ^ 16, c + 16, pair_eq (fdiv_nat m (2 ^ 16)) (by rw [wi _ (by omega)]; omega), rfl, by omega, by omega, by rw [he, bitsLen_shift (n := m) (k := 16) (by omega)]; omega⟩
    · have h := of_decide_eq_false hc
      exact ⟨m, c, rfl, rfl, by omega, by omega, he⟩
  rintro t w' ⟨m, c, rfl, rfl, hm, hc1, he⟩
  dsimp only
  refine join_mid (fun t w' => ∃ m c : Nat, t = ((m : Int), (c : Int)) ∧ w = w' ∧ m < 256 ∧ c ≤ 56 ∧ bitsLen n = bitsLen m + c) ?_ ?_
  · refine cond_of (fun hc => ?_) (fun hc => ?_)
    · have h := of_decide_eq_true hc
      refine ⟨m / 2 ^ 8, c + 8, pair_eq (fdiv_nat m (2 ^ 8)) (by rw [wi _ (by omega)]; omega), rfl, by omega, by omega, by rw [he, bitsLen_shift (n := m) (k := 8) (by omega)]; omega⟩
    · have h := of_decide_eq_false hc
      exact ⟨m, c, rfl, rfl, by omega, by omega, he⟩
  rintro t w' ⟨m, c, rfl, rfl, hm, hc1, he⟩
  dsimp only
  have hb := bitsLen_lt (n := m) (k := 8) (by omega)
  rw [IntWalk.u8_in (m : Int) (by omega)]
  refine idxS_of (UInt8.ofNat (bitsLen m)) (by omega) ?_ ?_
  · rw [Int.toNat_natCast]
    clear he hb
    revert m
    decide +kernel
  · have e : (UInt8.ofNat (bitsLen m)).toNat = bitsLen m := by simp; omega
    rw [e, wi (bitsLen m : Nat) (by omega), wi _ (by omega)]
    rw [he] at hk
    rw [show (c : Int) + (bitsLen m : Nat) = ((bitsLen m + c : Nat) : Int) by omega]
    exact hk

theorem Len_ok {n : Nat} {w : World} {K : Int → World → Prop} (hn : n < 18446744073709551616) (hk : K (bitsLen n : Nat) w) : call Try.prog 40 [.int .u64 n] [.one (.int .i64)] w K := by
  apply bits_Len_of
  unfold bits_LenF
  exact Len64_ok hn hk

end Go.Proofs.Ytmmldfipakcmaaa
