/- Rules for the combinators of the readable forms; blocks of memory; what a call leaves alone. No condition. -/
import Derived.Test.YtmmldfipakcmaaaPtG
set_option linter.unusedVariables false
namespace Go.Pt
open Go

/-! ### Joins, loops, branches -/
theorem join_val {S : Type} {X : (S → World → Prop) → Prop} {Y : S → World → Prop} (s : S) (w : World) (hX : ∀ M : S → World → Prop, M s w → X M) (hY : Y s w) : join S X Y :=
  ⟨fun s' w' => s' = s ∧ w' = w, hX _ ⟨rfl, rfl⟩, by rintro _ _ ⟨rfl, rfl⟩; exact hY⟩

theorem join_mid {S : Type} {X : (S → World → Prop) → Prop} {Y : S → World → Prop} (Mid : S → World → Prop) (hX : X Mid) (hY : ∀ s w, Mid s w → Y s w) : join S X Y := ⟨Mid, hX, hY⟩

@[simp] theorem join_pure {S : Type} {s : S} {w : World} {Y : S → World → Prop} : join S (fun X => X s w) Y ↔ Y s w :=
  ⟨fun ⟨_, h1, h2⟩ => h2 _ _ h1, fun h => join_val s w (fun _ h => h) h⟩

theorem join_cond {S : Type} {b : Bool} {F G : (S → World → Prop) → Prop} {Y : S → World → Prop} : join S (fun X => bif b then F X else G X) Y ↔ bif b then join S F Y else join S G Y := by
  cases b <;> exact Iff.rfl

/-- The way through a join, if nothing is to be forgotten. -/
theorem join_thru {S : Type} {X : (S → World → Prop) → Prop} {Y : S → World → Prop} (hX : X Y) : join S X Y := ⟨Y, hX, fun _ _ h => h⟩

theorem loop_ind {S : Type} {B : (S → World → Prop) → S → World → Prop} {s : S} {w : World} (I : S → World → Prop) (m : S → World → Nat) (h0 : I s w)
    (step : ∀ s w, I s w → ∀ X : S → World → Prop, (∀ s' w', I s' w' → m s' w' < m s w → X s' w') → B X s w) : loop S B s w := by
  intro J hJ
  have key : ∀ k s w, m s w = k → I s w → J s w := by
    intro k
    induction k using Nat.strongRecOn with
    | _ k ih =>
      intro s w hk hI
      exact hJ s w (step s w hI J fun s' w' hI' hlt => ih (m s' w') (hk ▸ hlt) s' w' rfl hI')
  exact key _ s w rfl h0

theorem cond_of {b : Bool} {A B : Prop} (h1 : b = true → A) (h2 : b = false → B) : cond b A B := by
  cases b with
  | true => exact h1 rfl
  | false => exact h2 rfl

theorem chk_of {p K : Prop} (h : p) (k : K) : chk p K := ⟨h, k⟩
theorem nn_some {a : Addr} {K : Addr → Prop} (h : K a) : nn (some a) K := h
theorem ld_of {c : Cell} {a : Addr} {w : World} {K : c.El → Prop} (x : c.El) (h : w.cell? a = some (c.mk x)) (k : K x) : ld c a w K := ⟨x, h, k⟩
theorem new_of {o : Obj} {w : World} {K : Nat → World → Prop} (k : K w.heap.size (w.alloc o)) : new o w K := k
theorem call_mono {P : Program} {f : FuncId} {args : List Value} {ts : List Ty1} {w : World} {K K' : ElR ts → World → Prop} (h : call P f args ts w K) (hk : ∀ x w', K x w' → K' x w') : call P f args ts w K' :=
  Calls.mono h fun _ _ ⟨x, e, k⟩ => ⟨x, e, hk _ _ k⟩

/-! ### Worlds: only draws between them; all but some blocks as they were -/
structure Same (w w' : World) : Prop where
  heap : w'.heap = w.heap
  os : w'.os = w.os
  tape : w'.tape = w.tape
  output : w'.output = w.output

theorem Same.refl (w : World) : Same w w := ⟨rfl, rfl, rfl, rfl⟩
theorem Same.drew {w w' : World} (h : Same w w') : Same w w'.drew := ⟨h.heap, h.os, h.tape, h.output⟩
theorem Same.trans {a b c : World} (h : Same a b) (k : Same b c) : Same a c := ⟨k.heap.trans h.heap, k.os.trans h.os, k.tape.trans h.tape, k.output.trans h.output⟩

/-- All blocks that were there, but those of S, are as they were. -/
structure Fr (S : List Nat) (w w' : World) : Prop where
  os : w'.os = w.os
  tape : w'.tape = w.tape
  output : w'.output = w.output
  size : w.heap.size ≤ w'.heap.size
  block : ∀ i, i < w.heap.size → i ∉ S → w'.heap[i]? = w.heap[i]?

theorem Fr.refl (S : List Nat) (w : World) : Fr S w w := ⟨rfl, rfl, rfl, Nat.le_refl _, fun _ _ _ => rfl⟩
theorem Fr.of_same {S : List Nat} {w w' : World} (h : Same w w') : Fr S w w' := ⟨h.os, h.tape, h.output, by rw [h.heap]; exact Nat.le_refl _, fun _ _ _ => by rw [h.heap]⟩
theorem Fr.trans {S : List Nat} {a b c : World} (h : Fr S a b) (k : Fr S b c) : Fr S a c :=
  ⟨k.os.trans h.os, k.tape.trans h.tape, k.output.trans h.output, Nat.le_trans h.size k.size, fun i hi hs => (k.block i (Nat.lt_of_lt_of_le hi h.size) hs).trans (h.block i hi hs)⟩
theorem Fr.mono {S T : List Nat} {a b : World} (h : Fr S a b) (hs : ∀ i, i ∈ S → i < a.heap.size → i ∈ T) : Fr T a b :=
  ⟨h.os, h.tape, h.output, h.size, fun i hi ht => h.block i hi fun hS => ht (hs i hS hi)⟩
/-- What came later than the first world may be written. -/
theorem Fr.trans' {S T : List Nat} {a b c : World} (h : Fr S a b) (k : Fr T b c) (ht : ∀ i, i ∈ T → i ∈ S ∨ a.heap.size ≤ i) : Fr S a c :=
  ⟨k.os.trans h.os, k.tape.trans h.tape, k.output.trans h.output, Nat.le_trans h.size k.size, fun i hi hs => (k.block i (Nat.lt_of_lt_of_le hi h.size) fun hT => by
    rcases ht i hT with h' | h'
    · exact hs h'
    · omega).trans (h.block i hi hs)⟩
theorem Fr.drew {S : List Nat} {a b : World} (h : Fr S a b) : Fr S a b.drew := ⟨h.os, h.tape, h.output, h.size, h.block⟩
theorem Fr.alloc {S : List Nat} {a b : World} (h : Fr S a b) (o : Obj) : Fr S a (b.alloc o) :=
  ⟨h.os, h.tape, h.output, by have := h.size; simp; omega, fun i hi hs => by
    rw [← h.block i hi hs]
    show (b.heap.push o)[i]? = _
    rw [Array.getElem?_push, if_neg (by have := h.size; omega)]⟩
theorem Fr.same {S : List Nat} {a b c : World} (h : Fr S a b) (k : Same b c) : Fr S a c := h.trans (.of_same k)

/-- To the model's own word for it: nothing that was there has turned. -/
theorem Fr.grown {w w' : World} (h : Fr [] w w') (hf : ∀ a, w'.frozen? a = w.frozen? a) : RowKit.Grown w w' := by
  have hb : ∀ i, i < w.heap.size → w'.heap[i]? = w.heap[i]? := fun i hi => h.block i hi (by simp)
  refine ⟨?_, hf, h.size⟩
  exact (RowKit.Below.mk h.os h.tape h.output h.size hb : RowKit.Below w.heap.size w w').frame _

/-! ### Blocks -/
theorem heap_alloc (w : World) (o : Obj) (i : Nat) : (w.alloc o).heap[i]? = if i = w.heap.size then some o else w.heap[i]? := by
  show (w.heap.push o)[i]? = _
  rw [Array.getElem?_push]

/-- A world with one block written over. -/
def upd (w : World) (b : Nat) (o : Obj) : World := { w with heap := w.heap.setIfInBounds b o }

theorem size_upd (w : World) (b : Nat) (o : Obj) : (upd w b o).heap.size = w.heap.size := by simp [upd]
theorem heap_upd (w : World) (b : Nat) (o : Obj) (i : Nat) (h : b < w.heap.size) : (upd w b o).heap[i]? = if i = b then some o else w.heap[i]? := by
  show (w.heap.setIfInBounds b o)[i]? = _
  rw [Array.getElem?_setIfInBounds]
  by_cases hi : b = i
  · subst hi; simp [h]
  · rw [if_neg hi, if_neg (fun e => hi e.symm)]

def splice (cs : Array Value) : Nat → List Value → Array Value
  | _, [] => cs
  | off, v :: vs => splice (cs.setIfInBounds off v) (off + 1) vs

theorem size_splice : ∀ (vs : List Value) (cs : Array Value) (off : Nat), (splice cs off vs).size = cs.size
  | [], _, _ => rfl
  | v :: vs, cs, off => by simp [splice, size_splice vs]

theorem lt_of_blk {w : World} {b : Nat} {o : Obj} (h : w.heap[b]? = some o) : b < w.heap.size := by
  rcases Nat.lt_or_ge b w.heap.size with hl | hl
  · exact hl
  · rw [Array.getElem?_eq_none hl] at h; cases h

theorem cell_of_blk {w : World} {b off : Nat} {cs : Array Value} {T : TypeId} {fr : Nat × Nat} (h : w.heap[b]? = some (.cells cs T fr)) : w.cell? ⟨b, off, none⟩ = cs[off]? := by
  simp [World.cell?, h]

theorem setCell_upd {w : World} {b off : Nat} {cs : Array Value} {T : TypeId} {fr : Nat × Nat} (h : w.heap[b]? = some (.cells cs T fr)) (v : Value) :
    w.setCell ⟨b, off, none⟩ v = upd w b (.cells (cs.setIfInBounds off v) T fr) := by
  have hb := lt_of_blk h
  unfold World.setCell upd
  congr 1
  apply Array.ext_getElem?
  intro i
  rw [Array.getElem?_modify, Array.getElem?_setIfInBounds]
  by_cases hi : b = i
  · subst hi; rw [if_pos rfl, if_pos rfl, if_pos hb, h]; rfl
  · simp [hi]

theorem upd_upd (w : World) (b : Nat) (o o' : Obj) : upd (upd w b o) b o' = upd w b o' := by
  unfold upd
  congr 1
  apply Array.ext_getElem?
  intro i
  simp only [Array.getElem?_setIfInBounds, Array.size_setIfInBounds]
  by_cases hi : b = i <;> simp [hi]

theorem Addr.add_mk (b o n : Nat) : Addr.add ⟨b, o, none⟩ n = ⟨b, o + n, none⟩ := Go.Addr.add_lit b o n

theorem st_blk {w : World} {b : Nat} {T : TypeId} : ∀ (vs : List Value) (off k : Nat) (cs : Array Value) (w : World) (K : World → Prop), w.heap[b]? = some (.cells cs T (0, 0)) → (vs.all Value.oneCell') = true → off + k + vs.length ≤ cs.size →
    K (upd w b (.cells (splice cs (off + k) vs) T (0, 0))) → stC ⟨b, off, none⟩ k vs w K
  | [], off, k, cs, w, K, hb, _, _, hk => by
    have : upd w b (.cells (splice cs (off + k) []) T (0, 0)) = w := by
      unfold upd splice
      have : w.heap.setIfInBounds b (.cells cs T (0, 0)) = w.heap := by
        apply Array.ext_getElem?
        intro i
        rw [Array.getElem?_setIfInBounds]
        by_cases hi : b = i
        · subst hi; rw [if_pos rfl, if_pos (lt_of_blk hb), hb]
        · simp [hi]
      rw [this]
    rw [this] at hk
    exact hk
  | v :: vs, off, k, cs, w, K, hb, h1, hl, hk => by
    simp only [List.all_cons, Bool.and_eq_true] at h1
    simp only [List.length_cons] at hl
    have hlt : off + k < cs.size := by omega
    refine ⟨⟨h1.1, ⟨cs[off + k], ?_⟩, ?_⟩, ?_⟩
    · rw [Addr.add_mk, cell_of_blk hb]; simp [hlt]
    · rw [Addr.add_mk]; simp [World.frozen?, hb]
    · rw [Addr.add_mk, setCell_upd hb]
      have hb' : (upd w b (.cells (cs.setIfInBounds (off + k) v) T (0, 0))).heap[b]? = some (.cells (cs.setIfInBounds (off + k) v) T (0, 0)) := by
        rw [heap_upd _ _ _ _ (lt_of_blk hb), if_pos rfl]
      refine st_blk (w := w) vs off (k + 1) _ _ K hb' h1.2 (by simp; omega) ?_
      rw [upd_upd]
      exact hk

theorem cellsAt_blk {w : World} {b : Nat} {T : TypeId} {fr : Nat × Nat} {cs : Array Value} (hb : w.heap[b]? = some (.cells cs T fr)) : ∀ (vs : List Value) (off k : Nat), (cs.toList.drop (off + k)).take vs.length = vs → cellsAt w ⟨b, off, none⟩ k vs
  | [], _, _, _ => trivial
  | [v], off, k, h => by
    show w.cell? _ = _
    rw [Addr.add_mk, cell_of_blk hb]
    have : (cs.toList.drop (off + k))[0]? = some v := by
      have := congrArg (·[0]?) h
      simpa using this
    simpa using this
  | v :: u :: vs, off, k, h => by
    have hv : (cs.toList.drop (off + k))[0]? = some v := by
      have := congrArg (·[0]?) h
      simpa using this
    refine ⟨?_, cellsAt_blk hb (u :: vs) off (k + 1) ?_⟩
    · rw [Addr.add_mk, cell_of_blk hb]; simpa using hv
    · have := congrArg (List.drop 1) h
      simp only [List.drop_succ_cons, List.drop_zero, List.length_cons] at this
      rw [List.drop_take, List.drop_drop] at this
      exact this

/-! ### What a call holds of memory: some blocks whole; all else as it was when it began, but those of S -/
structure Own (S : List Nat) (w0 w : World) (L : List (Nat × Obj)) : Prop where
  blk : ∀ p ∈ L, w.heap[p.1]? = some p.2
  nodup : (L.map (·.1)).Nodup
  fr : Fr S w0 w
  own : ∀ p ∈ L, p.1 ∈ S ∨ w0.heap.size ≤ p.1

variable {S : List Nat} {w0 w : World} {L : List (Nat × Obj)}

theorem Own.start (S : List Nat) (w : World) : Own S w w [] := ⟨by simp, by simp, .refl _ _, by simp⟩

theorem Own.at (h : Own S w0 w L) {i : Nat} {p : Nat × Obj} (hi : L[i]? = some p) : w.heap[p.1]? = some p.2 := h.blk p (List.mem_of_getElem? hi)

theorem Own.drew (h : Own S w0 w L) : Own S w0 w.drew L := ⟨h.blk, h.nodup, h.fr.drew, h.own⟩

theorem Own.same {w' : World} (h : Own S w0 w L) (k : Same w w') : Own S w0 w' L := ⟨fun p hp => by rw [k.heap]; exact h.blk p hp, h.nodup, h.fr.same k, h.own⟩

theorem Own.frame {T : List Nat} {w' : World} (h : Own S w0 w L) (k : Fr T w w') (ht : ∀ i ∈ T, i ∈ S ∨ w0.heap.size ≤ i) (hd : ∀ p ∈ L, p.1 ∉ T) : Own S w0 w' L :=
  ⟨fun p hp => by rw [k.block p.1 (lt_of_blk (h.blk p hp)) (hd p hp)]; exact h.blk p hp, h.nodup, h.fr.trans' k ht, h.own⟩

/-- A call that leaves all that was there alone. -/
theorem Own.frame0 {w' : World} (h : Own S w0 w L) (k : Fr [] w w') : Own S w0 w' L := h.frame k (by simp) (by simp)

theorem Own.alloc (h : Own S w0 w L) (o : Obj) : Own S w0 (w.alloc o) ((w.heap.size, o) :: L) := by
  refine ⟨fun p hp => ?_, ?_, h.fr.alloc o, fun p hp => ?_⟩
  · rcases List.mem_cons.1 hp with rfl | hp
    · rw [heap_alloc, if_pos rfl]
    · have := lt_of_blk (h.blk p hp)
      rw [heap_alloc, if_neg (by omega)]
      exact h.blk p hp
  · simp only [List.map_cons]
    refine List.nodup_cons.2 ⟨fun hm => ?_, h.nodup⟩
    obtain ⟨p, hp, he⟩ := List.mem_map.1 hm
    have := lt_of_blk (h.blk p hp)
    omega
  · rcases List.mem_cons.1 hp with rfl | hp
    · exact .inr h.fr.size
    · exact h.own p hp

theorem Own.new {o : Obj} {K : Nat → World → Prop} (h : Own S w0 w L) (k : ∀ b w', b = w.heap.size → w'.heap.size = w.heap.size + 1 → Own S w0 w' ((b, o) :: L) → K b w') : Pt.new o w K :=
  k _ _ rfl (by simp) (h.alloc o)

theorem Own.ld {c : Cell} {b off : Nat} {cs : Array Value} {T : TypeId} {fr : Nat × Nat} {K : c.El → Prop} (h : Own S w0 w L) (i : Nat) (hi : L[i]? = some (b, .cells cs T fr)) (x : c.El) (hx : cs[off]? = some (c.mk x)) (k : K x) : Pt.ld c ⟨b, off, none⟩ w K :=
  ⟨x, by rw [cell_of_blk (h.at hi)]; exact hx, k⟩

theorem Own.ldA {cl : List Cell} {b off : Nat} {cs : Array Value} {T : TypeId} {fr : Nat × Nat} {K : HL cl → Prop} (h : Own S w0 w L) (i : Nat) (hi : L[i]? = some (b, .cells cs T fr)) (x : HL cl) (hx : (cs.toList.drop off).take cl.length = HL.mk cl x) (k : K x) : Pt.ldA cl ⟨b, off, none⟩ w K :=
  ⟨x, cellsAt_blk (h.at hi) _ off 0 (by rw [HL.mk_length]; exact hx), k⟩

theorem Own.upd {b : Nat} {o o' : Obj} (h : Own S w0 w L) (i : Nat) (hi : L[i]? = some (b, o)) : Own S w0 (Pt.upd w b o') (L.set i (b, o')) := by
  have hb := h.at hi
  have hlt := lt_of_blk hb
  have hil : i < L.length := by
    rcases Nat.lt_or_ge i L.length with hl | hl
    · exact hl
    · rw [List.getElem?_eq_none hl] at hi; cases hi
  have hmap : (L.set i (b, o')).map (·.1) = L.map (·.1) := by
    rw [List.map_set]
    apply List.ext_getElem?
    intro j
    rw [List.getElem?_set]
    by_cases hj : i = j
    · subst hj
      rw [if_pos rfl, List.getElem?_map, hi]; simp [hil]
    · simp [hj]
  refine ⟨fun p hp => ?_, by rw [hmap]; exact h.nodup, ?_, fun p hp => ?_⟩
  · obtain ⟨j, hj, hpj⟩ := List.getElem_of_mem hp
    have hpj' : (L.set i (b, o'))[j]? = some p := by rw [List.getElem?_eq_getElem hj, hpj]
    rw [List.getElem?_set] at hpj'
    by_cases hij : i = j
    · subst hij
      simp [hil] at hpj'
      subst hpj'
      rw [heap_upd _ _ _ _ hlt, if_pos rfl]
    · rw [if_neg hij] at hpj'
      have hne : p.1 ≠ b := by
        intro he
        have h1 : (L.map (·.1))[j]? = some b := by simp [hpj', he]
        have h2 : (L.map (·.1))[i]? = some b := by simp [hi]
        have hj' : j < (L.map (·.1)).length := by
          rcases Nat.lt_or_ge j (L.map (·.1)).length with hl | hl
          · exact hl
          · rw [List.getElem?_eq_none hl] at h1; cases h1
        have hi' : i < (L.map (·.1)).length := by simpa using hil
        rw [List.getElem?_eq_getElem hj'] at h1
        rw [List.getElem?_eq_getElem hi'] at h2
        have hne := List.pairwise_iff_getElem.1 h.nodup
        rcases Nat.lt_or_gt_of_ne hij with hl | hl
        · exact hne i j hi' hj' hl ((Option.some.inj h2).trans (Option.some.inj h1).symm)
        · exact hne j i hj' hi' hl ((Option.some.inj h1).trans (Option.some.inj h2).symm)
      rw [heap_upd _ _ _ _ hlt, if_neg hne]
      exact h.blk p (List.mem_of_getElem? hpj')
  · have hbo := h.own (b, o) (List.mem_of_getElem? hi)
    refine ⟨h.fr.os, h.fr.tape, h.fr.output, by rw [size_upd]; exact h.fr.size, fun j hj hS => ?_⟩
    rw [heap_upd _ _ _ _ hlt, if_neg (fun e => by subst e; rcases hbo with h1 | h1; exact hS h1; omega)]
    exact h.fr.block j hj hS
  · rcases List.mem_or_eq_of_mem_set hp with hp | rfl
    · exact h.own p hp
    · exact h.own (b, o) (List.mem_of_getElem? hi)

theorem Own.st {b off : Nat} {cs : Array Value} {T : TypeId} {vs : List Value} {K : World → Prop} (h : Own S w0 w L) (i : Nat) (hi : L[i]? = some (b, .cells cs T (0, 0))) (cs' : Array Value) (hcs : splice cs off vs = cs') (h1 : (vs.all Value.oneCell') = true) (hl : Nat.ble (off + vs.length) cs.size = true)
    (k : ∀ w', Own S w0 w' (L.set i (b, .cells cs' T (0, 0))) → w'.heap.size = w.heap.size → K w') : Pt.st ⟨b, off, none⟩ vs w K :=
  st_blk (w := w) vs off 0 cs w K (h.at hi) h1 (Nat.le_of_ble_eq_true hl) (k _ (by rw [Nat.add_zero, hcs]; exact h.upd i hi) (size_upd _ _ _))

/-- A block that was there, and that the call doesn't write. -/
theorem Own.old {b : Nat} {o : Obj} (h : Own S w0 w L) (hb : w0.heap[b]? = some o) (hS : b ∉ S) : w.heap[b]? = some o := by
  rw [h.fr.block b (lt_of_blk hb) hS]; exact hb

theorem ld_blk {c : Cell} {b off : Nat} {cs : Array Value} {T : TypeId} {fr : Nat × Nat} {K : c.El → Prop} (hb : w.heap[b]? = some (.cells cs T fr)) (x : c.El) (hx : cs[off]? = some (c.mk x)) (k : K x) : Pt.ld c ⟨b, off, none⟩ w K :=
  ⟨x, by rw [cell_of_blk hb]; exact hx, k⟩

theorem Own.sub {L' : List (Nat × Obj)} (h : Own S w0 w L) (hs : L'.Sublist L) : Own S w0 w L' :=
  ⟨fun p hp => h.blk p (hs.subset hp), (hs.map _).nodup h.nodup, h.fr, fun p hp => h.own p (hs.subset hp)⟩

theorem idx_of {s : Sl} {i : Int} {size : Nat} {K : Addr → Prop} {b o : Nat} (hs : s.a = some ⟨b, o, none⟩) (hi : 0 ≤ i ∧ i < (s.len : Int)) (k : K ⟨b, o + i.toNat * size, none⟩) : idx s i size K :=
  ⟨_, hs, hi, by rw [Addr.add_mk]; exact k⟩

end Go.Pt
