/- The reserve layer: heights. What each function gives, as plain numbers. No condition but those of the Go types. -/
import Derived.Test.YtmmldfipakcmaaaPtH
import Derived.Test.YtmmldfipakcmaaaFormsR
set_option linter.unusedVariables false
namespace Go.Proofs.Ytmmldfipakcmaaa
open Go Go.Pt

def shp (t : Int) : Int × Int :=
  if t = 0 then (16, 88) else if t = 1 then (16, 108) else if t = 2 then (16, 1) else if t = 3 then (16, 16)
  else if t = 4 then (24, 16) else if t = 5 then (24, 16) else if t = 6 then (24, 65) else if t = 7 then (1, 8) else (0, 0)

theorem shp_cases (t : Int) : t = 0 ∨ t = 1 ∨ t = 2 ∨ t = 3 ∨ t = 4 ∨ t = 5 ∨ t = 6 ∨ t = 7 ∨ (t ≠ 0 ∧ t ≠ 1 ∧ t ≠ 2 ∧ t ≠ 3 ∧ t ≠ 4 ∧ t ≠ 5 ∧ t ≠ 6 ∧ t ≠ 7) := by omega

theorem Shape_ok {t : Int} {w : World} {K : Int × Int → World → Prop} (h : K (shp t) w) : call Try.prog 27 [.int .i64 t] [.one (.int .i64), .one (.int .i64)] w K := by
  apply tree_Shape_of
  unfold tree_ShapeF
  rcases shp_cases t with rfl | rfl | rfl | rfl | rfl | rfl | rfl | rfl | ⟨h0, h1, h2, h3, h4, h5, h6, h7⟩ <;> simpa [shp, *] using h

theorem RShape_ok {t : Int} {w : World} {K : Int × Int → World → Prop} (h : K (shp t) w) : call Try.prog 29 [.int .i64 t] [.one (.int .i64), .one (.int .i64)] w K := by
  apply cashbookref12_Shape_of
  unfold cashbookref12_ShapeF
  rcases shp_cases t with rfl | rfl | rfl | rfl | rfl | rfl | rfl | rfl | ⟨h0, h1, h2, h3, h4, h5, h6, h7⟩ <;> simpa [shp, *] using h

/-- How much a leaf and an inner node hold. -/
def caps (k v : Int) : Int × Int := if k < 1 ∨ k > 24 ∨ v < 0 ∨ v > 108 then (0, 0) else (498 / (k + v), (498 + k) / (4 + k))

theorem Caps_ok {k v : Int} {w : World} {K : Int × Int → World → Prop} (h : ∀ w', Same w w' → K (caps k v) w') : call Try.prog 28 [.int .i64 k, .int .i64 v] [.one (.int .i64), .one (.int .i64)] w K := by
  apply node_Caps_of
  unfold node_CapsF
  by_cases hc : k < 1 ∨ k > 24 ∨ v < 0 ∨ v > 108
  · refine join_val true w (fun M hM => ?_) ?_
    · by_cases h1 : k < 1
      · simpa [h1] using hM
      by_cases h2 : k > 24
      · simpa [h1, h2] using hM
      by_cases h3 : v < 0
      · simpa [h1, h2, h3] using hM
      have h4 : v > 108 := by omega
      simpa [h1, h2, h3, h4] using hM
    · have := h w (.refl w)
      simpa [caps, hc] using this
  · refine join_val false w (fun M hM => ?_) ?_
    · simpa [show ¬ k < 1 by omega, show ¬ k > 24 by omega, show ¬ v < 0 by omega, show ¬ v > 108 by omega] using hM
    · have := h w.drew (Same.refl w).drew
      simp only [caps, hc, if_false] at this
      have e1 : IntKind.i64.wrap (k + v) = k + v := IntWalk.i64_in _ (by omega)
      have e2 : IntKind.i64.wrap (4 + k) = 4 + k := IntWalk.i64_in _ (by omega)
      have e3 : IntKind.i64.wrap (498 + k) = 498 + k := IntWalk.i64_in _ (by omega)
      have p1 : 0 < k + v := by omega
      have p2 : 0 < 4 + k := by omega
      have d1 : (498 : Int).tdiv (k + v) = 498 / (k + v) := Int.tdiv_eq_ediv_of_nonneg (by omega)
      have d2 : (498 + k).tdiv (4 + k) = (498 + k) / (4 + k) := Int.tdiv_eq_ediv_of_nonneg (by omega)
      have b1 : 498 / (k + v) ≤ 498 := Int.ediv_le_self _ (by omega)
      have b2 : (498 + k) / (4 + k) ≤ 498 + k := Int.ediv_le_self _ (by omega)
      have b3 : 0 ≤ 498 / (k + v) := Int.ediv_nonneg (by omega) (by omega)
      have b4 : 0 ≤ (498 + k) / (4 + k) := Int.ediv_nonneg (by omega) (by omega)
      rw [e1, e2, e3, d1, d2, IntWalk.i64_in _ ⟨by omega, by omega⟩, IntWalk.i64_in _ ⟨by omega, by omega⟩]
      exact ⟨by omega, by omega, this⟩

theorem RCaps_ok {k v : Int} {w : World} {K : Int × Int → World → Prop} (h : K (caps k v) w) : call Try.prog 30 [.int .i64 k, .int .i64 v] [.one (.int .i64), .one (.int .i64)] w K := by
  apply cashbookref11_Caps_of
  unfold cashbookref11_CapsF
  by_cases hc : k < 1 ∨ k > 24 ∨ v < 0 ∨ v > 108
  · refine join_val true w (fun M hM => ?_) ?_
    · by_cases h1 : k < 1
      · simpa [h1] using hM
      by_cases h2 : k > 24
      · simpa [h1, h2] using hM
      by_cases h3 : v < 0
      · simpa [h1, h2, h3] using hM
      have h4 : v > 108 := by omega
      simpa [h1, h2, h3, h4] using hM
    · simpa [caps, hc] using h
  · refine join_val false w (fun M hM => ?_) ?_
    · simpa [show ¬ k < 1 by omega, show ¬ k > 24 by omega, show ¬ v < 0 by omega, show ¬ v > 108 by omega] using hM
    · simp only [caps, hc, if_false] at h
      have p1 : 0 < k + v := by omega
      have p2 : 0 < 4 + k := by omega
      have e1 : IntKind.i64.wrap (k + v) = k + v := IntWalk.i64_in _ (by omega)
      generalize ha : 498 / (k + v) = A at h
      generalize hb : (498 + k) / (4 + k) = B at h
      have hA : ∀ x : Int, x + 1 ≤ A ↔ (x + 1) * (k + v) ≤ 498 := fun x => by rw [← ha, Int.le_ediv_iff_mul_le p1]
      have hB : ∀ x : Int, x + 1 ≤ B ↔ (x + 1) * (4 + k) ≤ 498 + k := fun x => by rw [← hb, Int.le_ediv_iff_mul_le p2]
      have bA : 0 ≤ A ∧ A ≤ 498 := by rw [← ha]; exact ⟨Int.ediv_nonneg (by omega) (by omega), Int.ediv_le_self _ (by omega)⟩
      have bB : 1 ≤ B ∧ B ≤ 522 := by
        rw [← hb]
        refine ⟨?_, Int.le_trans (Int.ediv_le_self _ (by omega)) (by omega)⟩
        rw [Int.le_ediv_iff_mul_le p2]; omega
      simp only [cond_false]
      refine loop_ind (fun x w' => w' = w ∧ 0 ≤ x ∧ x ≤ A) (fun x _ => (A - x).toNat) ⟨rfl, by omega, by omega⟩ ?_
      rintro x w' ⟨rfl, hx0, hxA⟩ X hX
      have m1 : (x + 1) * (k + v) ≤ 499 * 132 := Int.mul_le_mul (by omega) (by omega) (by omega) (by omega)
      have m0 : 0 ≤ (x + 1) * (k + v) := Int.mul_nonneg (by omega) (by omega)
      rw [e1, IntWalk.i64_in (x + 1) (by omega), IntWalk.i64_in _ (by omega : -9223372036854775808 ≤ (x + 1) * (k + v) ∧ (x + 1) * (k + v) ≤ 9223372036854775807), IntWalk.i64_in _ (by omega)]
      refine cond_of (fun hd => ?_) (fun hd => ?_)
      · have hd' : (x + 1) * (k + v) ≤ 498 := by have := of_decide_eq_true hd; omega
        have := (hA x).2 hd'
        exact hX _ _ ⟨rfl, by omega, by omega⟩ (by omega)
      · have hd' : ¬ (x + 1) * (k + v) ≤ 498 := by have := of_decide_eq_false hd; omega
        have hxA' : x = A := by have := mt (hA x).1 hd'; omega
        subst hxA'
        refine loop_ind (fun y w'' => w'' = w' ∧ 1 ≤ y ∧ y ≤ B) (fun y _ => (B - y).toNat) ⟨rfl, by omega, by omega⟩ ?_
        rintro y w'' ⟨rfl, hy0, hyB⟩ Y hY
        have n1 : k * y ≤ 24 * 522 := Int.mul_le_mul (by omega) (by omega) (by omega) (by omega)
        have n0 : 0 ≤ k * y := Int.mul_nonneg (by omega) (by omega)
        rw [IntWalk.i64_in (y + 1) (by omega), IntWalk.i64_in (4 * (y + 1)) (by omega), IntWalk.i64_in (2 + 4 * (y + 1)) (by omega), IntWalk.i64_in (k * y) (by omega), IntWalk.i64_in _ (by omega)]
        have key : (y + 1) * (4 + k) = 4 * (y + 1) + k * y + k := by
          rw [Int.mul_add, Int.add_mul, Int.add_mul, Int.mul_comm y k]; omega
        refine cond_of (fun hd => ?_) (fun hd => ?_)
        · have hd' := of_decide_eq_true hd
          have := (hB y).2 (by rw [key]; omega)
          exact hY _ _ ⟨rfl, by omega, by omega⟩ (by omega)
        · have hd' := of_decide_eq_false hd
          have : y = B := by have := mt (hB y).1 (by rw [key]; omega); omega
          subst this
          exact h

/-! ### Heights -/
/-- Which k is the least one for which n lies below a times b to the power k. -/
def IsH (a b n : Nat) (k : Nat) : Prop := n < a * b ^ k ∧ ∀ j, j < k → a * b ^ j ≤ n

theorem IsH.unique {a b n k l : Nat} (h : IsH a b n k) (h' : IsH a b n l) : k = l := by
  rcases Nat.lt_trichotomy k l with hlt | he | hlt
  · have := h'.2 k hlt; have := h.1; omega
  · exact he
  · have := h.2 l hlt; have := h'.1; omega

theorem IsH.mono {a b n m k l : Nat} (h : IsH a b n k) (h' : IsH a b m l) (hn : n ≤ m) : k ≤ l := by
  rcases Nat.lt_or_ge l k with hlt | he
  · have := h.2 l hlt; have := h'.1; omega
  · exact he

theorem pow_ge {b : Nat} (hb : 2 ≤ b) (k : Nat) : 2 ^ k ≤ b ^ k := Nat.pow_le_pow_left hb k

/-- The halves of the shapes' caps: what a height is reckoned with. -/
def halfs (t : Int) : Nat × Nat :=
  if t = 0 then (4, 12) else if t = 1 then (4, 12) else if t = 2 then (28, 12) else if t = 3 then (14, 12)
  else if t = 4 then (12, 9) else if t = 5 then (12, 9) else if t = 6 then (4, 9) else (54, 49)

abbrev good (t : Int) : Prop := 0 ≤ t ∧ t ≤ 7

theorem halfs_caps (t : Int) (h : good t) : (shp t).1 ≠ 0 ∧ 2 * ((caps (shp t).1 (shp t).2).1 / 2) = (halfs t).1 ∧ (caps (shp t).1 (shp t).2).2 / 2 = (halfs t).2 ∧ 4 ≤ (halfs t).1 ∧ 9 ≤ (halfs t).2 ∧ (halfs t).1 ≤ 54 ∧ (halfs t).2 ≤ 49 ∧ 0 ≤ (caps (shp t).1 (shp t).2).1 ∧ 0 ≤ (caps (shp t).1 (shp t).2).2 ∧ (caps (shp t).1 (shp t).2).1 ≤ 500 ∧ (caps (shp t).1 (shp t).2).2 ≤ 500 := by
  obtain ⟨h0, h1⟩ := h
  have : t = 0 ∨ t = 1 ∨ t = 2 ∨ t = 3 ∨ t = 4 ∨ t = 5 ∨ t = 6 ∨ t = 7 := by omega
  rcases this with rfl | rfl | rfl | rfl | rfl | rfl | rfl | rfl <;> decide

theorem bad_shp (t : Int) (h : ¬ good t) : (shp t).1 = 0 := by
  unfold good at h
  simp only [shp]
  rw [if_neg (by omega), if_neg (by omega), if_neg (by omega), if_neg (by omega), if_neg (by omega), if_neg (by omega), if_neg (by omega), if_neg (by omega)]

/-- What a height is. -/
def HgtIs (t keys h : Int) : Prop :=
  if good t ∧ keys ≠ 0 then ∃ k : Nat, h = 1 + k ∧ k ≤ 64 ∧ IsH (halfs t).1 (halfs t).2 keys.toNat k else h = 0

theorem HgtIs.unique {t keys h h' : Int} (a : HgtIs t keys h) (b : HgtIs t keys h') : h = h' := by
  unfold HgtIs at a b
  split at a
  · rw [if_pos ‹_›] at b
    obtain ⟨k, rfl, _, hk⟩ := a
    obtain ⟨l, rfl, _, hl⟩ := b
    rw [hk.unique hl]
  · rw [if_neg ‹_›] at b
    rw [a, b]

theorem isH_le {a b n k : Nat} (ha : 1 ≤ a) (hb : 2 ≤ b) (hn : n < 2 ^ 64) (h : ∀ j, j < k → a * b ^ j ≤ n) : k ≤ 64 := by
  rcases Nat.lt_or_ge 64 k with hk | hk
  · have h1 := h 64 hk
    have h2 := pow_ge hb 64
    have h3 : 1 * b ^ 64 ≤ a * b ^ 64 := Nat.mul_le_mul_right _ ha
    omega
  · exact hk

theorem Height_ok {t keys : Int} {w : World} {K : Int → World → Prop} (hk : 0 ≤ keys ∧ keys ≤ 18446744073709551615) (h : ∀ x w', HgtIs t keys x → Same w w' → K x w') :
    call Try.prog 9 [.int .i64 t, .int .u64 keys] [.one (.int .i64)] w K := by
  apply reserve_Height_of
  unfold reserve_HeightF
  refine Shape_ok ?_
  by_cases hg : good t ∧ keys ≠ 0
  · obtain ⟨hgt, hk0⟩ := hg
    obtain ⟨e0, e1, e2, g1, g2, g3, g4, g5, g6, g7, g8⟩ := halfs_caps t hgt
    generalize hcap : caps (shp t).1 (shp t).2 = c at *
    generalize ha : (halfs t).1 = a at *
    generalize hb : (halfs t).2 = b at *
    refine join_val false w (fun M hM => by simpa [e0, beq_eq_false_iff_ne.2 hk0] using hM) ?_
    simp only [cond_false]
    refine Caps_ok (fun w1 hw1 => ?_)
    rw [hcap]
    obtain ⟨n, rfl⟩ := Int.eq_ofNat_of_zero_le hk.1
    have q1 : c.1.tdiv 2 = c.1 / 2 := Int.tdiv_eq_ediv_of_nonneg g5
    have q2 : c.2.tdiv 2 = c.2 / 2 := Int.tdiv_eq_ediv_of_nonneg g6
    rw [q1, q2, e2, IntWalk.i64_in (c.1 / 2) (by omega), e1, IntWalk.i64_in (a : Int) (by omega), IntWalk.i64_in (b : Int) (by omega), IntWalk.u64_in (a : Int) (by omega), IntWalk.u64_in (b : Int) (by omega)]
    refine chk_of (by omega) ?_
    have q3 : ((n : Int).tdiv a) = ((n / a : Nat) : Int) := by rw [Int.tdiv_eq_ediv_of_nonneg (by omega)]; rfl
    have q4 : ((n / a : Nat) : Int) ≤ n := Int.ofNat_le.2 (Nat.div_le_self _ _)
    have q4' : (0 : Int) ≤ ((n / a : Nat) : Int) := Int.natCast_nonneg _
    rw [q3, IntWalk.u64_in _ (by omega)]
    have hn64 : n < 2 ^ 64 := by have := hk.2; omega
    refine loop_ind (fun s w' => w' = w1.drew ∧ ∃ k : Nat, s = (1 + (k : Int), ((n / (a * b ^ k) : Nat) : Int)) ∧ ∀ j, j < k → a * b ^ j ≤ n) (fun s _ => (65 - s.1).toNat) ⟨rfl, 0, by simp, by omega⟩ ?_
    rintro s w2 ⟨rfl, k, rfl, hj⟩ X hX
    have hk64 : k ≤ 64 := isH_le (by omega) (by omega) hn64 hj
    have hpos : 0 < a * b ^ k := Nat.mul_pos (by omega) (Nat.pow_pos (by omega))
    refine cond_of (fun hd => ?_) (fun hd => ?_)
    · have hd' := of_decide_eq_true hd
      have hle : a * b ^ k ≤ n := by
        rcases Nat.lt_or_ge n (a * b ^ k) with hlt | hge
        · rw [Nat.div_eq_of_lt hlt] at hd'; simp at hd'
        · exact hge
      have hj' : ∀ j, j < k + 1 → a * b ^ j ≤ n := by
        intro j hjk
        by_cases hq : j = k
        · subst hq; exact hle
        · exact hj j (by omega)
      have hk65 : k + 1 ≤ 64 := isH_le (by omega) (by omega) hn64 hj'
      refine chk_of (by omega) ?_
      have q5 : ((n / (a * b ^ k) : Nat) : Int).tdiv b = ((n / (a * b ^ (k + 1)) : Nat) : Int) := by
        have : n / (a * b ^ (k + 1)) = n / (a * b ^ k) / b := by rw [Nat.div_div_eq_div_mul, Nat.pow_succ, Nat.mul_assoc]
        rw [Int.tdiv_eq_ediv_of_nonneg (Int.natCast_nonneg _), this]; rfl
      have q6 : ((n / (a * b ^ (k + 1)) : Nat) : Int) ≤ n := Int.ofNat_le.2 (Nat.div_le_self _ _)
      have q6' : (0 : Int) ≤ ((n / (a * b ^ (k + 1)) : Nat) : Int) := Int.natCast_nonneg _
      dsimp only
      rw [q5, IntWalk.u64_in _ (by omega), IntWalk.i64_in _ (by omega)]
      exact hX _ _ ⟨rfl, k + 1, by simp; omega, hj'⟩ (by simp; omega)
    · have hd' := of_decide_eq_false hd
      have hlt : n < a * b ^ k := by
        rcases Nat.lt_or_ge n (a * b ^ k) with hlt | hge
        · exact hlt
        · exact absurd (Int.ofNat_lt.2 (Nat.div_pos hge hpos)) hd'
      refine h _ _ ?_ (hw1.drew)
      unfold HgtIs
      rw [if_pos ⟨hgt, hk0⟩]
      exact ⟨k, rfl, hk64, by rw [ha, hb]; exact hlt, by rw [ha, hb]; exact hj⟩
  · have hz : HgtIs t keys 0 := by unfold HgtIs; rw [if_neg hg]
    refine join_val true w (fun M hM => ?_) ?_
    · by_cases h0 : (shp t).1 = 0
      · simpa [h0] using hM
      · have : keys = 0 := by
          by_cases hgt : good t
          · have : ¬ keys ≠ 0 := fun hq => hg ⟨hgt, hq⟩
            omega
          · exact absurd (bad_shp t hgt) h0
        simpa [h0, this] using hM
    · exact h 0 w hz (.refl w)

theorem RHeight_ok {t keys : Int} {w : World} {K : Int → World → Prop} (hk : 0 ≤ keys ∧ keys ≤ 18446744073709551615) (h : ∀ x, HgtIs t keys x → K x w) :
    call Try.prog 11 [.int .i64 t, .int .u64 keys] [.one (.int .i64)] w K := by
  apply cashbookref27_Height_of
  unfold cashbookref27_HeightF
  refine RShape_ok ?_
  by_cases hg : good t ∧ keys ≠ 0
  · obtain ⟨hgt, hk0⟩ := hg
    obtain ⟨e0, e1, e2, g1, g2, g3, g4, g5, g6, g7, g8⟩ := halfs_caps t hgt
    generalize hcap : caps (shp t).1 (shp t).2 = c at *
    generalize ha : (halfs t).1 = a at *
    generalize hb : (halfs t).2 = b at *
    refine join_val false w (fun M hM => by simpa [e0, beq_eq_false_iff_ne.2 hk0] using hM) ?_
    simp only [cond_false]
    refine RCaps_ok ?_
    rw [hcap]
    obtain ⟨n, rfl⟩ := Int.eq_ofNat_of_zero_le hk.1
    have q1 : c.1.tdiv 2 = c.1 / 2 := Int.tdiv_eq_ediv_of_nonneg g5
    have q2 : c.2.tdiv 2 = c.2 / 2 := Int.tdiv_eq_ediv_of_nonneg g6
    rw [q1, q2, e2, IntWalk.i64_in (c.1 / 2) (by omega), e1, IntWalk.i64_in (a : Int) (by omega), IntWalk.i64_in (b : Int) (by omega), IntWalk.u64_in (a : Int) (by omega), IntWalk.u64_in (b : Int) (by omega)]
    have q3 : (18446744073709551615 : Int).tdiv b = ((18446744073709551615 / b : Nat) : Int) := by rw [Int.tdiv_eq_ediv_of_nonneg (by omega)]; rfl
    have q4 : ((18446744073709551615 / b : Nat) : Int) ≤ 18446744073709551615 := Int.ofNat_le.2 (Nat.div_le_self _ _)
    have q4' : (0 : Int) ≤ ((18446744073709551615 / b : Nat) : Int) := Int.natCast_nonneg _
    rw [q3, IntWalk.u64_in _ ⟨q4', q4⟩]
    have hn64 : n < 2 ^ 64 := by have := hk.2; omega
    have fin : ∀ k : Nat, n < a * b ^ k → (∀ j, j < k → a * b ^ j ≤ n) → K (1 + (k : Int)) w := by
      intro k h1 h2
      refine h _ ?_
      unfold HgtIs
      rw [if_pos ⟨hgt, hk0⟩]
      exact ⟨k, rfl, isH_le (by omega) (by omega) hn64 h2, by rw [ha, hb]; exact h1, by rw [ha, hb]; exact h2⟩
    refine loop_ind (fun s w' => w' = w ∧ ∃ k : Nat, s = (((a * b ^ k : Nat) : Int), 1 + (k : Int)) ∧ a * b ^ k ≤ 18446744073709551615 ∧ ∀ j, j < k → a * b ^ j ≤ n) (fun s _ => (70 - s.2).toNat) ⟨rfl, 0, by simp, by simp; omega, by omega⟩ ?_
    rintro s w2 ⟨rfl, k, rfl, hle, hj⟩ X hX
    have hk64 : k ≤ 64 := isH_le (by omega) (by omega) hn64 hj
    refine join_val (decide (a * b ^ k ≤ n)) w2 (fun M hM => ?_) ?_
    · have hdd : decide ((n : Int) ≥ ((a * b ^ k : Nat) : Int)) = decide (a * b ^ k ≤ n) := decide_eq_decide.2 Int.ofNat_le
      simp only [show ((1 : Int) + k < 70) by omega, decide_true, cond_true]
      rw [hdd]
      exact hM
    · by_cases hd : a * b ^ k ≤ n
      · simp only [hd, decide_true, cond_true]
        refine chk_of (by omega) ?_
        have hj' : ∀ j, j < k + 1 → a * b ^ j ≤ n := by
          intro j hjk
          by_cases hq : j = k
          · subst hq; exact hd
          · exact hj j (by omega)
        have hk65 : k + 1 ≤ 64 := isH_le (by omega) (by omega) hn64 hj'
        have hpow : a * b ^ (k + 1) = a * b ^ k * b := by rw [Nat.pow_succ, Nat.mul_assoc]
        refine cond_of (fun hc => ?_) (fun hc => ?_)
        · have hc' : 18446744073709551615 / b < a * b ^ k := Int.ofNat_lt.1 (of_decide_eq_true hc)
          have hbig : n < a * b ^ (k + 1) := by
            rw [hpow]
            have := (Nat.div_lt_iff_lt_mul (by omega)).1 hc'
            omega
          have := fin (k + 1) hbig hj'
          rw [IntWalk.i64_in _ (by omega)]
          have e : (1 + ((k + 1 : Nat) : Int)) = 1 + (k : Int) + 1 := by omega
          rw [e] at this
          exact this
        · have hc' : ¬ 18446744073709551615 / b < a * b ^ k := fun h => of_decide_eq_false hc (Int.ofNat_lt.2 h)
          have hsm : a * b ^ (k + 1) ≤ 18446744073709551615 := by
            rw [hpow]
            exact (Nat.le_div_iff_mul_le (by omega)).1 (by omega)
          have e : ((a * b ^ k : Nat) : Int) * b = ((a * b ^ (k + 1) : Nat) : Int) := by rw [hpow]; rfl
          rw [e, IntWalk.u64_in _ ⟨Int.natCast_nonneg _, Int.ofNat_le.2 hsm⟩, IntWalk.i64_in _ (by omega)]
          exact hX _ _ ⟨rfl, k + 1, by simp; omega, hsm, hj'⟩ (by simp; omega)
      · simp only [hd, decide_false, cond_false]
        exact fin k (by omega) hj
  · have hz : HgtIs t keys 0 := by unfold HgtIs; rw [if_neg hg]
    refine join_val true w (fun M hM => ?_) ?_
    · by_cases h0 : (shp t).1 = 0
      · simpa [h0] using hM
      · have : keys = 0 := by
          by_cases hgt : good t
          · have : ¬ keys ≠ 0 := fun hq => hg ⟨hgt, hq⟩
            omega
          · exact absurd (bad_shp t hgt) h0
        simpa [h0, this] using hM
    · exact h 0 hz

/-! ### The chapter's examples, and the law -/
theorem hgt_of {t n : Nat} (k : Nat) (h1 : good t) (h0 : (n : Int) ≠ 0) (h2 : n < (halfs t).1 * (halfs t).2 ^ k) (h3 : k ≤ 64) (h4 : ∀ j, j < k → (halfs t).1 * (halfs t).2 ^ j ≤ n) : HgtIs t n (1 + (k : Int)) := by
  unfold HgtIs
  rw [if_pos ⟨h1, h0⟩]
  exact ⟨k, rfl, h3, h2, h4⟩

theorem fixed_ok {w : World} {K : Bool → World → Prop} (h : ∀ w', Same w w' → K true w') : call Try.prog 10 [] [.one .bool] w K := by
  apply cashbooklaw27_fixed_of
  unfold cashbooklaw27_fixedF
  have a1 : HgtIs 0 1 1 := hgt_of (t := 0) (n := 1) 0 (by decide) (by decide) (by decide) (by decide) (by omega)
  have a2 : HgtIs 0 3 1 := hgt_of (t := 0) (n := 3) 0 (by decide) (by decide) (by decide) (by decide) (by omega)
  have a3 : HgtIs 0 4 2 := hgt_of (t := 0) (n := 4) 1 (by decide) (by decide) (by decide) (by decide) (by intro j hj; obtain rfl : j = 0 := (by omega); decide)
  have a4 : HgtIs 0 47 2 := hgt_of (t := 0) (n := 47) 1 (by decide) (by decide) (by decide) (by decide) (by intro j hj; obtain rfl : j = 0 := (by omega); decide)
  have a5 : HgtIs 0 48 3 := hgt_of (t := 0) (n := 48) 2 (by decide) (by decide) (by decide) (by decide) (by
    intro j hj
    have : j = 0 ∨ j = 1 := by omega
    rcases this with rfl | rfl <;> decide)
  refine Height_ok (by omega) (fun x w1 hx hw1 => ?_)
  obtain rfl := hx.unique a1
  refine Height_ok (by omega) (fun x w2 hx hw2 => ?_)
  obtain rfl := hx.unique a2
  refine Height_ok (by omega) (fun x w3 hx hw3 => ?_)
  obtain rfl := hx.unique a3
  refine Height_ok (by omega) (fun x w4 hx hw4 => ?_)
  obtain rfl := hx.unique a4
  refine Height_ok (by omega) (fun x w5 hx hw5 => ?_)
  obtain rfl := hx.unique a5
  exact h _ ((((hw1.trans hw2).trans hw3).trans hw4).trans hw5)

theorem ReserveHeights_ok {t keys more : Int} {w : World} {K : Bool → World → Prop} (hk : 0 ≤ keys ∧ keys ≤ 18446744073709551615) (hm : 0 ≤ more ∧ more ≤ 18446744073709551615) (h : ∀ w', Same w w' → K true w') :
    call Try.prog 3 [.int .i64 t, .int .u64 keys, .int .u64 more] [.one .bool] w K := by
  apply cashbooklaw27_ReserveHeights_of
  unfold cashbooklaw27_ReserveHeightsF
  refine Height_ok hk (fun x w1 hx hw1 => ?_)
  refine fixed_ok (fun w2 hw2 => ?_)
  refine RHeight_ok hk (fun y hy => ?_)
  obtain rfl := hx.unique hy
  simp only [cond_true, beq_self_eq_true]
  refine cond_of (fun _ => h _ (hw1.trans hw2)) (fun hd => ?_)
  have hd' := of_decide_eq_false hd
  refine Height_ok hm (fun z w3 hz hw3 => ?_)
  have hle : x ≤ z := by
    unfold HgtIs at hx hz
    by_cases hg : good t ∧ keys ≠ 0
    · rw [if_pos hg] at hx
      rw [if_pos ⟨hg.1, by omega⟩] at hz
      obtain ⟨k, rfl, _, h1⟩ := hx
      obtain ⟨l, rfl, _, h2⟩ := hz
      have := h1.mono h2 (by omega)
      omega
    · rw [if_neg hg] at hx
      split at hz
      · obtain ⟨l, rfl, _, _⟩ := hz; omega
      · omega
  simp only [hle, decide_true]
  exact h _ ((hw1.trans hw2).trans hw3)

end Go.Proofs.Ytmmldfipakcmaaa
