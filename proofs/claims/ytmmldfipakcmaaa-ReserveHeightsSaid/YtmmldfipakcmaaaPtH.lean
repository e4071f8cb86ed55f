/- Rules for the combinators of the readable forms; blocks of memory; what a call leaves alone. No condition. -/
import Derived.Test.YtmmldfipakcmaaaPtG
set_option linter.unusedVariables false
namespace Go.Pt
open Go

/-! ### Joins, loops, branches -/
theorem join_val {S : Type} {X : (S → World → Prop) → Prop} {Y : S → World → Prop} (s : S) (w : World) (hX : ∀ M : S → World → Prop, M s w → X M) (hY : Y s w) : join S X Y :=
  ⟨fun s' w' => s' = s ∧ w' = w, hX _ ⟨rfl, rfl⟩, by rintro _ _ ⟨rfl, rfl⟩; exact hY⟩

theorem join_mid {S : Type} {X : (S → World → Prop) → Prop} {Y : S → World → Prop} (Mid : S → World → Prop) (hX : X Mid) (hY : ∀ s w, Mid s w → Y s w) : join S X Y := ⟨Mid, hX, hY⟩

@[simp] theorem join_pure {S : Type} {s : S} {w : World} {Y : S → World → Prop} : join S (fun X => X s w) Y ↔ Y s w :=
  ⟨fun ⟨_, h1, h2⟩ => h2 _ _ h1, fun h => join_val s w (fun _ h => h) h⟩

theorem join_cond {S : Type} {b : Bool} {F G : (S → World → Prop) → Prop} {Y : S → World → Prop} : join S (fun X => bif b then F X else G X) Y ↔ bif b then join S F Y else join S G Y := by
  cases b <;> exact Iff.rfl

/-- The way through a join, if nothing is to be forgotten. -/
theorem join_thru {S : Type} {X : (S → World → Prop) → Prop} {Y : S → World → Prop} (hX : X Y) : join S X Y := ⟨Y, hX, fun _ _ h => h⟩

theorem loop_ind {S : Type} {B : (S → World → Prop) → S → World → Prop} {s : S} {w : World} (I : S → World → Prop) (m : S → World → Nat) (h0 : I s w)
    (step : ∀ s w, I s w → ∀ X : S → World → Prop, (∀ s' w', I s' w' → m s' w' < m s w → X s' w') → B X s w) : loop S B s w := by
  intro J hJ
  have key : ∀ k s w, m s w = k → I s w → J s w := by
    intro k
    induction k using Nat.strongRecOn with
    | _ k ih =>
      intro s w hk hI
      exact hJ s w (step s w hI J fun s' w' hI' hlt => ih (m s' w') (hk ▸ hlt) s' w' rfl hI')
  exact key _ s w rfl h0

theorem cond_of {b : Bool} {A B : Prop} (h1 : b = true → A) (h2 : b = false → B) : cond b A B := by
  cases b with
  | true => exact h1 rfl
  | false => exact h2 rfl

theorem chk_of {p K : Prop} (h : p) (k : K) : chk p K := ⟨h, k⟩
theorem nn_some {a : Addr} {K : Addr → Prop} (h : K a) : nn (some a) K := h
theorem ld_of {c : Cell} {a : Addr} {w : World} {K : c.El → Prop} (x : c.El) (h : w.cell? a = some (c.mk x)) (k : K x) : ld c a w K := ⟨x, h, k⟩
theorem new_of {o : Obj} {w : World} {K : Nat → World → Prop} (k : K w.heap.size (w.alloc o)) : new o w K := k
theorem call_mono {P : Program} {f : FuncId} {args : List Value} {ts : List Ty1} {w : World} {K K' : ElR ts → World → Prop} (h : call P f args ts w K) (hk : ∀ x w', K x w' → K' x w') : call P f args ts w K' :=
  Calls.mono h fun _ _ ⟨x, e, k⟩ => ⟨x, e, hk _ _ k⟩

/-! ### Worlds: only draws between them; all but some blocks as they were -/
structure Same (w w' : World) : Prop where
  heap : w'.heap = w.heap
  os : w'.os = w.os
  tape : w'.tape = w.tape
  output : w'.output = w.output

theorem Same.refl (w : World) : Same w w := ⟨rfl, rfl, rfl, rfl⟩
theorem Same.drew {w w' : World} (h : Same w w') : Same w w'.drew := ⟨h.heap, h.os, h.tape, h.output⟩
theorem Same.trans {a b c : World} (h : Same a b) (k : Same b c) : Same a c := ⟨k.heap.trans h.heap, k.os.trans h.os, k.tape.trans h.tape, k.output.trans h.output⟩

/-- All blocks that were there, but those of S, are as they were. -/
structure Fr (S : List Nat) (w w' : World) : Prop where
  os : w'.os = w.os
  tape : w'.tape = w.tape
  output : w'.output = w.output
  size : w.heap.size ≤ w'.heap.size
  block : ∀ i, i < w.heap.size → i ∉ S → w'.heap[i]? = w.heap[i]?

theorem Fr.refl (S : List Nat) (w : World) : Fr S w w := ⟨rfl, rfl, rfl, Nat.le_refl _, fun _ _ _ => rfl⟩
theorem Fr.of_same {S : List Nat} {w w' : World} (h : Same w w') : Fr S w w' := ⟨h.os, h.tape, h.output, by rw [h.heap]; exact Nat.le_refl _, fun _ _ _ => by rw [h.heap]⟩
theorem Fr.trans {S : List Nat} {a b c : World} (h : Fr S a b) (k : Fr S b c) : Fr S a c :=
  ⟨k.os.trans h.os, k.tape.trans h.tape, k.output.trans h.output, Nat.le_trans h.size k.size, fun i hi hs => (k.block i (Nat.lt_of_lt_of_le hi h.size) hs).trans (h.block i hi hs)⟩
theorem Fr.mono {S T : List Nat} {a b : World} (h : Fr S a b) (hs : ∀ i, i ∈ S → i < a.heap.size → i ∈ T) : Fr T a b :=
  ⟨h.os, h.tape, h.output, h.size, fun i hi ht => h.block i hi fun hS => ht (hs i hS hi)⟩
/-- What came later than the first world may be written. -/
theorem Fr.trans' {S T : List Nat} {a b c : World} (h : Fr S a b) (k : Fr T b c) (ht : ∀ i, i ∈ T → i ∈ S ∨ a.heap.size ≤ i) : Fr S a c :=
  ⟨k.os.trans h.os, k.tape.trans h.tape, k.output.trans h.output, Nat.le_trans h.size k.size, fun i hi hs => (k.block i (Nat.lt_of_lt_of_le hi h.size) fun hT => by
    rcases ht i hT with h' | h'
    · exact hs h'
    · omega).trans (h.block i hi hs)⟩
theorem Fr.drew {S : List Nat} {a b : World} (h : Fr S a b) : Fr S a b.drew := ⟨h.os, h.tape, h.output, h.size, h.block⟩
theorem Fr.alloc {S : List Nat} {a b : World} (h : Fr S a b) (o : Obj) : Fr S a (b.alloc o) :=
  ⟨h.os, h.tape, h.output, by have := h.size; simp; omega, fun i hi hs => by
    rw [← h.block i hi hs]
    show (b.heap.push o)[i]? = _
    rw [Array.getElem?_push, if_neg (by have := h.size; omega)]⟩
theorem Fr.same {S : List Nat} {a b c : World} (h : Fr S a b) (k : Same b c) : Fr S a c := h.trans (.of_same k)

/-- To the model's own word for it: nothing that was there has turned. -/
theorem Fr.grown {w w' : World} (h : Fr [] w w') (hf : ∀ a, w'.frozen? a = w.frozen? a) : RowKit.Grown w w' := by
  have hb : ∀ i, i < w.heap.size → w'.heap[i]? = w.heap[i]? := fun i hi => h.block i hi (by simp)
  refine ⟨?_, hf, h.size⟩
  exact (RowKit.Below.mk h.os h.tape h.output h.size hb : RowKit.Below w.heap.size w w').frame _

end Go.Pt
