/- The pool: Clone of the row, List. Conditions: those that stand in each line. -/
import Derived.Test.YtmmldfipakcmaaaPlD
import Derived.Test.YtmmldfipakcmaaaSrtH
set_option linter.unusedVariables false
set_option linter.unusedSimpArgs false
namespace Go.Proofs.Ytmmldfipakcmaaa
open Go Go.Pt Go.Sort
attribute [local irreducible] ld ldA st new idx idxS idxA slc slcS slcP mkS chk nn call callV inv run runQ runU join loop held IntKind.wrap

theorem Clone_ok {w : World} {rb n cap : Nat} {d : Array Int} {T : TypeId} {K : Sl → World → Prop} (hrb : w.heap[rb]? = some (.cells (u32s d) T (0, 0))) (hnd : n ≤ d.size) (hn : n ≤ 1000000)
    (hk : ∀ b d' cap' T' w', w'.heap[b]? = some (.cells (u32s d') T' (0, 0)) → n ≤ d'.size → n ≤ cap' → d'.toList.take n = d.toList.take n → w.heap.size ≤ b → Fr [] w w' → K ⟨some ⟨b, 0, none⟩, n, cap'⟩ w') :
    call Try.prog 35 [.slice (some ⟨rb, 0, none⟩) n cap] [.one .slice] w K := by
  obtain ⟨i31, hi, hz, hsz, hby⟩ := info31
  refine slices_Clone_of (s := ⟨some ⟨rb, 0, none⟩, n, cap⟩) ?_
  unfold slices_CloneF
  refine cond_false rfl ?_
  have ho := Own.start [] w
  refine Own.new ho fun tb w1 et st1 ho => ?_
  have hr1 : w1.heap[rb]? = some (.cells (u32s d) T (0, 0)) := by rw [ho.fr.block rb (lt_of_blk hrb) (by simp)]; exact hrb
  have hnews : ∀ (j : Nat) u, ((d.toList.take n).map (Value.int .u32))[j]? = some u → w1.cell? ((⟨rb, 0, none⟩ : Addr).add j) = some u := fun j u hj => by
    rw [Addr.add_mk, cell_of_blk hr1, Nat.zero_add]
    rw [List.getElem?_map, List.getElem?_take] at hj
    by_cases hjn : j < n
    · rw [if_pos hjn] at hj
      unfold u32s
      rw [Array.getElem?_map]
      simpa using hj
    · rw [if_neg hjn] at hj; cases hj
  have hlen : ((d.toList.take n).map (Value.int .u32)).length = n := by simp; omega
  dsimp only
  by_cases h0 : n = 0
  · subst h0
    refine app_fit (P := Try.prog) (e := 31) (by kernel_rfl) hi [] (ho.at (i := 0) rfl) (by simp) (fun j u hj => by simp at hj) (by simp) (by omega) (by simp) ?_
    have ho2 := ho.upd (o' := .cells (splice #[] (0 + 0 * i31.size) []) 31 (0, 0)) 0 rfl
    have := ho2.at (i := 0) rfl
    have e : u32s #[] = #[] := by simp [u32s]
    exact hk tb #[] 0 31 _ (by rw [e]; exact this) (by simp) (Nat.le_refl _) (by simp) (by omega) ho2.fr
  · refine app_grow (P := Try.prog) (e := 31) (by kernel_rfl) hi hz [] ((d.toList.take n).map (Value.int .u32)) (by simp) (fun j u hj => by simp at hj) (by rw [hlen, hsz]; omega) hnews (by omega) (by rw [hby]; omega) (by omega) fun q hq1 hq2 => ?_
    rw [zero_cells _ _ rfl]
    have hcs : ([] : List Value).toArray ++ ((d.toList.take n).map (Value.int .u32)).toArray ++ Array.replicate (q - (0 + n)) (.int .u32 0) = u32s ((d.toList.take n ++ List.replicate (q - (0 + n)) (0 : Int)).toArray) := by
      rw [u32s_list]
      apply Array.ext'
      simp
    rw [hcs]
    have ho := ho.drew.alloc (.cells (u32s ((d.toList.take n ++ List.replicate (q - (0 + n)) (0 : Int)).toArray)) 31 (0, 0))
    have hl : (d.toList.take n).length = n := by simp; omega
    rw [Nat.zero_add]
    refine hk _ _ q _ _ (by have := ho.at (i := 0) rfl; rw [Nat.zero_add] at this; exact this) (by simp; omega) (by omega) ?_ (by show w.heap.size ≤ w1.heap.size; omega) (by rw [Nat.zero_add] at ho; exact ho.fr)
    show ((d.toList.take n ++ List.replicate (q - n) (0 : Int))).take n = _
    rw [List.take_append_of_le_length (by omega), List.take_take, Nat.min_self]

theorem perm_sorted_eq : ∀ {l1 l2 : List Int}, l1.Perm l2 → l1.Pairwise (· ≤ ·) → l2.Pairwise (· ≤ ·) → l1 = l2
  | [], l2, h, _, _ => h.nil_eq
  | a :: l1, [], h, _, _ => absurd h.symm.nil_eq (by simp)
  | a :: l1, b :: l2, h, h1, h2 => by
    have h1' := List.pairwise_cons.1 h1
    have h2' := List.pairwise_cons.1 h2
    have hab : a = b := by
      have m1 : a ∈ b :: l2 := h.mem_iff.1 (by simp)
      have m2 : b ∈ a :: l1 := h.mem_iff.2 (by simp)
      rcases List.mem_cons.1 m1 with e | e
      · exact e
      · rcases List.mem_cons.1 m2 with e' | e'
        · exact e'.symm
        · have := h2'.1 a e
          have := h1'.1 b e'
          omega
    subst hab
    rw [perm_sorted_eq h.cons_inv h1'.2 h2'.2]

/-- A slice that is told: nil, or a fresh block from its beginning on. -/
def Told (w w' : World) (s : Sl) (l : List Int) : Prop :=
  (l = [] ∧ s = ⟨none, 0, 0⟩) ∨ ∃ b d T cap, s = ⟨some ⟨b, 0, none⟩, l.length, cap⟩ ∧ w'.heap[b]? = some (.cells (u32s d) T (0, 0)) ∧ l.length ≤ d.size ∧ l.length ≤ cap ∧ d.toList.take l.length = l ∧ w.heap.size ≤ b

theorem List_ok {w : World} {pb : Nat} {F : List Nat} {l : List Int} {K : Sl → World → Prop} (h : PoolAt w pb F l) (hl : l.length ≤ 1000000)
    (hk : ∀ s w', Told w w' s l → Fr [] w w' → K s w') : call Try.prog 21 [.pointer (some ⟨pb, 0, none⟩)] [.one .slice] w K := by
  refine pool_Pool_List_of (p := some ⟨pb, 0, none⟩) ?_
  unfold pool_Pool_ListF
  have hsort := h.sorted
  obtain ⟨mb, R, d, f, rfl, hr, hm, hp, hh, hf, h1⟩ := h.ex
  rcases hr with ⟨h0, hd, hR, hb⟩ | ⟨rb, T, hR, hb, hrb, hne, hnd⟩
  · have hl0 : l = [] := List.eq_nil_of_length_eq_zero h0
    subst hl0
    refine nn_some ?_
    refine ld_blk (c := .slice) hb ⟨none, 0, 0⟩ rfl ?_
    refine slices_Clone_of (s := ⟨none, 0, 0⟩) ?_
    unfold slices_CloneF
    refine cond_true rfl ?_
    refine Sort_nil ?_
    exact hk _ _ (.inl ⟨rfl, rfl⟩) (.refl _ _)
  · refine nn_some ?_
    refine ld_blk (c := .slice) hb ⟨some ⟨rb, 0, none⟩, l.length, d.size⟩ rfl ?_
    dsimp only
    refine Clone_ok hrb hnd hl fun b d' cap' T' w' c1 c2 c2' c3 c4 c5 => ?_
    dsimp only
    refine Sort_ok (.start c1) ⟨c2, by omega⟩ fun d2 w2 s1 s2 s3 => ?_
    have hsz := s1.1
    refine hk _ _ (.inr ⟨b, d2, T', cap', rfl, s3.blk, by omega, c2', ?_, c4⟩) (c5.trans' s3.fr fun i hi => by simp at hi; subst hi; exact .inr c4)
    refine perm_sorted_eq ((permIn_take s1).trans (by rw [c3]; exact hp)) ?_ (hsort.imp Int.le_of_lt)
    rw [List.pairwise_iff_getElem]
    intro i j hi hj hij
    have hi' : i < l.length := by simp at hi; omega
    have hj' : j < l.length := by simp at hj; omega
    have g1 := get_take (d := d2) rfl hi' (by omega)
    have g2 := get_take (d := d2) rfl hj' (by omega)
    rw [List.getElem?_eq_getElem hi] at g1
    rw [List.getElem?_eq_getElem hj] at g2
    rw [Option.some.inj g1, Option.some.inj g2]
    have := s2 i j (by omega) hij hj'
    simp [ltInt] at this
    exact this

end Go.Proofs.Ytmmldfipakcmaaa
