/- The pool: what it is in memory; New, Has, Len. Conditions: those that stand in each line. -/
import Derived.Test.YtmmldfipakcmaaaHpB
import Derived.Test.YtmmldfipakcmaaaPtN
set_option linter.unusedVariables false
set_option linter.unusedSimpArgs false
namespace Go.Proofs.Ytmmldfipakcmaaa
open Go Go.Pt Go.Sort
attribute [local irreducible] ld ldA st new idx idxS idxA slc slcS slcP mkS chk nn call callV inv run runQ runU join loop held IntKind.wrap

abbrev PT : TypeId := 69
abbrev u32V : Int → Value := fun n => Value.int .u32 n

/-- The row behind a pool: n numbers at the front of d. -/
def RowAt (w : World) (pb : Nat) (m : Value) (F : List Nat) (d : Array Int) (n : Nat) : Prop :=
  (n = 0 ∧ d = #[] ∧ F = [] ∧ w.heap[pb]? = some (.cells #[.slice none 0 0, m] PT (0, 0))) ∨
  ∃ rb T, F = [rb] ∧ w.heap[pb]? = some (plB rb n d.size m) ∧ w.heap[rb]? = some (.cells (u32s d) T (0, 0)) ∧ rb ≠ pb ∧ n ≤ d.size

/-- A pool at block pb, that holds the numbers of l (rising, each once); F: the blocks that are its own. -/
structure PoolAt (w : World) (pb : Nat) (F : List Nat) (l : List Int) : Prop where
  ex : ∃ (mb : Nat) (R : List Nat) (d : Array Int) (f : List (Int × Value)), F = pb :: mb :: R ∧ RowAt w pb (.map (some mb)) R d l.length ∧ MapAt u32V w mb f ∧
    (d.toList.take l.length).Perm l ∧ IsHeap d l.length ∧ (f.map (·.1)).Perm l ∧ ∀ p ∈ f, p.2 = .int .i64 1
  sorted : l.Pairwise (· < ·)

theorem keyOk31 : KeyOk Try.prog 31 u32V := keyOk_int (by kernel_rfl)

theorem posOf_mem {x : Int} : ∀ {f : List (Int × Value)}, (∀ p ∈ f, p.2 = Value.int .i64 1) → (posOf x f = none ∧ x ∉ f.map (·.1)) ∨ ∃ j, posOf x f = some (j, .int .i64 1) ∧ x ∈ f.map (·.1) ∧ (f.map (·.1))[j]? = some x
  | [], _ => .inl ⟨rfl, by simp⟩
  | p :: f, h => by
    simp only [posOf]
    by_cases hx : x = p.1
    · rw [if_pos hx, h p (by simp)]
      exact .inr ⟨0, rfl, by simp [hx], by simp [hx]⟩
    · rw [if_neg hx]
      rcases posOf_mem (x := x) (f := f) (fun q hq => h q (List.mem_cons_of_mem _ hq)) with ⟨h1, h2⟩ | ⟨j, h1, h2, h3⟩
      · rw [h1]
        exact .inl ⟨rfl, by simp only [List.map_cons, List.mem_cons]; rintro (e | e); exact hx e; exact h2 e⟩
      · rw [h1]
        exact .inr ⟨j + 1, rfl, by simp only [List.map_cons, List.mem_cons]; exact .inr h2, by simpa using h3⟩

theorem PoolAt.cells {w : World} {pb : Nat} {F : List Nat} {l : List Int} (h : PoolAt w pb F l) : ∃ (s : Sl) (mb : Nat), w.heap[pb]? = some (.cells #[.slice s.a s.len s.cap, .map (some mb)] PT (0, 0)) ∧ s.len = l.length ∧ mb ∈ F := by
  obtain ⟨mb, R, d, f, rfl, hr, _⟩ := h.ex
  rcases hr with ⟨h0, _, _, hb⟩ | ⟨rb, T, _, hb, _⟩
  · exact ⟨⟨none, 0, 0⟩, mb, hb, h0.symm, by simp⟩
  · exact ⟨⟨some ⟨rb, 0, none⟩, _, _⟩, mb, hb, rfl, by simp⟩

theorem New_ok {w : World} {K : Option Addr → World → Prop} (hk : ∀ pb F w', PoolAt w' pb F [] → Fr [] w w' → (∀ b ∈ F, w.heap.size ≤ b) → K (some ⟨pb, 0, none⟩) w') : call Try.prog 17 [] [.one .ptr] w K := by
  apply pool_New_of
  unfold pool_NewF
  have h := Own.start [] w
  refine Own.new h fun mb w1 em sm h => ?_
  refine Own.new h fun pb w2 ep sp h => ?_
  refine hk pb [pb, mb] w2 ⟨⟨mb, [], #[], [], rfl, .inl ⟨rfl, rfl, rfl, ?_⟩, ⟨#[], 0, ?_, rfl⟩, by simp, fun i h0 hi => by simp at hi, by simp, by simp⟩, List.Pairwise.nil⟩ h.fr ?_
  · exact h.at (i := 0) rfl
  · exact h.at (i := 1) rfl
  · intro b hb
    simp at hb
    omega

theorem Len_ok' {w : World} {pb : Nat} {F : List Nat} {l : List Int} {K : Int → World → Prop} (h : PoolAt w pb F l) (hk : K l.length w) : call Try.prog 19 [.pointer (some ⟨pb, 0, none⟩)] [.one (.int .i64)] w K := by
  refine pool_Pool_Len_of (p := some ⟨pb, 0, none⟩) ?_
  unfold pool_Pool_LenF
  obtain ⟨s, mb, hb, hl, _⟩ := h.cells
  refine nn_some ?_
  refine ld_blk (c := .slice) hb s rfl ?_
  rw [hl]; exact hk

theorem Has_ok {w : World} {pb : Nat} {F : List Nat} {l : List Int} {n : Int} {K : Bool → World → Prop} (h : PoolAt w pb F l) (hk : K (decide (n ∈ l)) w) : call Try.prog 24 [.pointer (some ⟨pb, 0, none⟩), .int .u32 n] [.one .bool] w K := by
  refine pool_Pool_Has_of (p := some ⟨pb, 0, none⟩) ?_
  unfold pool_Pool_HasF
  obtain ⟨mb, R, d, f, rfl, hr, hm, _, _, hf, h1⟩ := h.ex
  have hb : ∃ s : Sl, w.heap[pb]? = some (.cells #[.slice s.a s.len s.cap, .map (some mb)] PT (0, 0)) := by
    rcases hr with ⟨h0, _, _, hb⟩ | ⟨rb, T, _, hb, _⟩
    · exact ⟨⟨none, 0, 0⟩, hb⟩
    · exact ⟨⟨some ⟨rb, 0, none⟩, _, _⟩, hb⟩
  obtain ⟨s, hb⟩ := hb
  refine nn_some ?_
  refine ld_blk (c := .map) hb (some mb) rfl ?_
  unfold runQ
  rcases posOf_mem (x := n) h1 with ⟨hp, hx⟩ | ⟨j, hp, hx, _⟩
  · refine ⟨0, ?_, ?_⟩
    · have := run_lookup (P := Try.prog) (w := w) (t := 66) (et := 3) (z := .int .i64 0) (by kernel_rfl) (fun w => by kernel_rfl) keyOk31 hm n
      rw [hp] at this
      exact this
    · rw [show decide (n ∈ l) = false by rw [decide_eq_false_iff_not]; exact fun e => hx (hf.mem_iff.2 e)] at hk
      exact hk
  · refine ⟨1, ?_, ?_⟩
    · have := run_lookup (P := Try.prog) (w := w) (t := 66) (et := 3) (z := .int .i64 0) (by kernel_rfl) (fun w => by kernel_rfl) keyOk31 hm n
      rw [hp] at this
      exact this
    · rw [show decide (n ∈ l) = true by rw [decide_eq_true_iff]; exact hf.mem_iff.1 hx] at hk
      exact hk

end Go.Proofs.Ytmmldfipakcmaaa
