/- The pool's row: Push and Pop. Conditions: those that stand in each line. -/
import Derived.Test.YtmmldfipakcmaaaPlA
set_option linter.unusedVariables false
set_option linter.unusedSimpArgs false
namespace Go.Proofs.Ytmmldfipakcmaaa
open Go Go.Pt Go.Sort
attribute [local irreducible] ld ldA st new idx idxS idxA slc slcS slcP mkS chk nn call callV inv run runQ runU join loop held IntKind.wrap

theorem info31 : ∃ i, Try.prog.info? 31 = some i ∧ i.zero = some (.int .u32 0) ∧ i.size = 1 ∧ i.bytes = 4 := info_of (by kernel_rfl)

theorem zero_cells (v : Value) (k : Nat) (h : v.cells = #[v]) : Builtin.zeroCells v.cells k = Array.replicate k v := by
  rw [h]
  apply Array.ext
  · simp [Builtin.zeroCells]
  · intro i h1 h2
    simp [Builtin.zeroCells, Nat.mod_one]

theorem u32s_list (l : List Int) : u32s l.toArray = (l.map (Value.int .u32)).toArray := by simp [u32s]

theorem get_take {d : Array Int} {l : List Int} {n i : Nat} (h : d.toList.take n = l) (hi : i < n) (hd : n ≤ d.size) : l[i]? = some d[i]! := by
  rw [← h, List.getElem?_take, if_pos hi]
  simp [show i < d.size by omega]

theorem set_take {α : Type} (x : α) : ∀ (l : List α) (n : Nat), n < l.length → (l.set n x).take (n + 1) = l.take n ++ [x]
  | a :: l, 0, _ => by simp
  | a :: l, n + 1, h => by simpa using set_take x l n (by simpa using h)

/-- What the row's Push gives. -/
theorem mPush {w : World} {pb : Nat} {mb : Value} {R : List Nat} {d : Array Int} {n : Nat} {x : Int} {K : Unit → World → Prop} (h : RowAt w pb mb R d n) (hn : n ≤ 1000000)
    (hk : ∀ R' d' w', RowAt w' pb mb R' d' (n + 1) → d'.toList.take (n + 1) = d.toList.take n ++ [x] → Fr (pb :: R) w w' → (∀ b ∈ R', b ∈ R ∨ w.heap.size ≤ b) → K () w') :
    inv Try.prog (.iface 74 (.pointer (some ⟨pb, 0, none⟩))) "Push" [.iface 31 (.int .u32 x)] [] w K := by
  obtain ⟨i31, hi, hz, hsz, hby⟩ := info31
  refine inv_ptr (f := 81) (by kernel_rfl) (e := 67) (by kernel_rfl) (by kernel_rfl) ?_
  refine pool_row_Push_of (r := some ⟨pb, 0, none⟩) ?_
  unfold pool_row_PushF
  have ta : (Instr.typeAssert (.iface 31 (.int .u32 x)) 20 31 true).run Try.prog w = .ok (.tuple #[.int .u32 x, .bool true]) w := by kernel_rfl
  refine runQ_of (ts := [.one (.int .u32), .one .bool]) (x, true) ta ?_
  refine cond_true rfl ?_
  refine nn_some ?_
  have zc : ∀ k, Builtin.zeroCells (Value.int .u32 0).cells k = Array.replicate k (.int .u32 0) := fun k => zero_cells _ k rfl
  rcases h with ⟨h0, hd, hR, hb⟩ | ⟨rb, T, hR, hb, hrb, hne, hnd⟩
  · -- nil
    subst h0 hd hR
    refine ld_blk (c := .slice) hb ⟨none, 0, 0⟩ rfl ?_
    have ho : Own [pb] w w [(pb, .cells #[.slice none 0 0, mb] PT (0, 0))] := ⟨by simpa using hb, by simp, .refl _ _, by simp⟩
    refine Own.new ho fun tb w1 et st1 ho => ?_
    refine app_nil (P := Try.prog) (e := 31) (by kernel_rfl) hi hz [.int .u32 x] (by rw [hsz]; rfl) (fun j u hj => ?_) (by omega) (by rw [hby]; omega) (by omega) fun q hq1 hq2 => ?_
    · match j, hj with
      | 0, hj =>
        have := ho.cell (off := 0) 0 rfl rfl
        simp at hj
        subst hj
        exact this
      | j + 1, hj => simp at hj
    rw [zc]
    have ho := ho.drew.alloc (.cells (#[Value.int .u32 x] ++ Array.replicate (q - 1) (.int .u32 0)) 31 (0, 0))
    refine nn_some ?_
    refine Own.st ho 2 rfl _ rfl rfl rfl fun w2 ho _ => ?_
    have hnp : w1.drew.heap.size ≠ pb := by
      have := ho.nodup
      simp at this
      exact fun e => this.1.2 e
    have hd' : #[Value.int .u32 x] ++ Array.replicate (q - 1) (.int .u32 0) = u32s (([x] ++ List.replicate (q - 1) 0).toArray) := by
      rw [u32s_list]
      apply Array.ext'
      simp
    refine hk [w1.drew.heap.size] (([x] ++ List.replicate (q - 1) 0).toArray) w2 (.inr ⟨w1.drew.heap.size, 31, rfl, ?_, ?_, hnp, by simp⟩) (by simp) (ho.fr.mono (fun i hi _ => by simpa using hi)) (fun b hb => ?_)
    · have := ho.at (i := 2) rfl
      have e : (([x] ++ List.replicate (q - 1) (0 : Int)).toArray).size = q := by simp; omega
      rw [e]
      exact this
    · have := ho.at (i := 0) rfl
      rw [← hd']
      exact this
    · simp at hb
      subst hb
      right
      have := ho.own (w1.drew.heap.size, _) (by simp; exact .inl rfl)
      simp at this
      omega
  · subst hR
    refine ld_blk (c := .slice) hb ⟨some ⟨rb, 0, none⟩, n, d.size⟩ rfl ?_
    dsimp only
    have ho : Own [pb, rb] w w [(pb, plB rb n d.size mb), (rb, .cells (u32s d) T (0, 0))] := ⟨by simpa using ⟨hb, hrb⟩, by simpa using fun e => hne e.symm, .refl _ _, by simp⟩
    refine Own.new ho fun tb w1 et st1 ho => ?_
    have hnews : ∀ (j : Nat) u, [Value.int .u32 x][j]? = some u → w1.cell? ((⟨tb, 0, none⟩ : Addr).add j) = some u := fun j u hj => by
      match j, hj with
      | 0, hj =>
        have := ho.cell (off := 0) 0 rfl rfl
        simp at hj
        subst hj
        exact this
      | j + 1, hj => simp at hj
    by_cases hroom : n + 1 ≤ d.size
    · refine app_fit (P := Try.prog) (e := 31) (by kernel_rfl) hi [.int .u32 x] (ho.at (i := 2) rfl) (by rw [hsz]; rfl) hnews (by simp [Value.oneCell']) hroom (by rw [hsz, u32s_size]; simp; omega) ?_
      have hsp : splice (u32s d) (0 + n * i31.size) [.int .u32 x] = u32s (d.setIfInBounds n x) := by
        rw [hsz, Nat.zero_add, Nat.mul_one]
        exact u32s_set d n x
      rw [hsp]
      have ho := ho.upd (o' := .cells (u32s (d.setIfInBounds n x)) T (0, 0)) 2 rfl
      refine nn_some ?_
      refine Own.st ho 1 rfl _ rfl rfl rfl fun w2 ho _ => ?_
      refine hk [rb] (d.setIfInBounds n x) w2 (.inr ⟨rb, T, rfl, ?_, ?_, hne, by simpa using hroom⟩) ?_ (ho.fr.mono (fun i hi _ => by simpa using hi)) (fun b hb => .inl hb)
      · have := ho.at (i := 1) rfl
        rw [Array.size_setIfInBounds]
        exact this
      · exact ho.at (i := 2) rfl
      · rw [Array.toList_setIfInBounds]
        exact set_take x _ _ (by simp; omega)
    · have hnd' : n = d.size := by omega
      refine app_grow (P := Try.prog) (e := 31) (by kernel_rfl) hi hz (d.toList.map (Value.int .u32)) [.int .u32 x] (by rw [hsz]; simp; omega) (fun j u hj => ?_) (by rw [hsz]; rfl) hnews (by omega) (by rw [hby]; omega) (by omega) fun q hq1 hq2 => ?_
      · rw [Addr.add_mk, cell_of_blk (ho.at (i := 2) rfl), Nat.zero_add]
        rw [List.getElem?_map] at hj
        unfold u32s
        rw [Array.getElem?_map]
        simpa using hj
      rw [zc]
      have hcs : (d.toList.map (Value.int .u32)).toArray ++ [Value.int .u32 x].toArray ++ Array.replicate (q - (n + 1)) (.int .u32 0) = u32s ((d.toList ++ [x] ++ List.replicate (q - (n + 1)) (0 : Int)).toArray) := by
        rw [u32s_list]
        apply Array.ext'
        simp
      rw [hcs]
      have e : ((d.toList ++ [x] ++ List.replicate (q - (n + 1)) (0 : Int)).toArray).size = q := by simp; omega
      have ho := ho.drew.alloc (.cells (u32s ((d.toList ++ [x] ++ List.replicate (q - (n + 1)) (0 : Int)).toArray)) 31 (0, 0))
      refine nn_some ?_
      refine Own.st ho 2 rfl _ rfl rfl rfl fun w2 ho _ => ?_
      have hnp : w1.drew.heap.size ≠ pb := by
        have := ho.nodup
        simp at this
        exact fun e => this.1.2.1 e
      refine hk [w1.drew.heap.size] _ w2 (.inr ⟨w1.drew.heap.size, 31, rfl, ?_, ho.at (i := 0) rfl, hnp, by rw [e]; exact hq1⟩) ?_ (ho.fr.mono (fun i hi _ => by simpa using hi)) (fun b hb => ?_)
      · have := ho.at (i := 2) rfl
        rw [e]
        exact this
      · rw [hnd']
        simp [List.take_append, List.take_of_length_le]
      · simp at hb
        subst hb
        right
        show w.heap.size ≤ w1.heap.size
        omega

/-- What the row's Pop gives. -/
theorem mPop {w : World} {pb rb : Nat} {mb : Value} {d : Array Int} {n : Nat} {T : TypeId} {K : Value → World → Prop} (hb : w.heap[pb]? = some (plB rb (n + 1) d.size mb)) (hrb : w.heap[rb]? = some (.cells (u32s d) T (0, 0))) (hne : rb ≠ pb) (hn : n + 1 ≤ d.size) (hn2 : n ≤ 1000000)
    (hk : ∀ w', w'.heap[pb]? = some (plB rb n d.size mb) → w'.heap[rb]? = some (.cells (u32s d) T (0, 0)) → Fr [pb] w w' → K (.iface 31 (.int .u32 d[n]!)) w') :
    inv Try.prog (.iface 74 (.pointer (some ⟨pb, 0, none⟩))) "Pop" [] [.one .any] w K := by
  refine inv_ptr (f := 80) (by kernel_rfl) (e := 67) (by kernel_rfl) (by kernel_rfl) ?_
  refine pool_row_Pop_of (r := some ⟨pb, 0, none⟩) ?_
  unfold pool_row_PopF
  have ho : Own [pb] w w [(pb, plB rb (n + 1) d.size mb)] := ⟨by simpa using hb, by simp, .refl _ _, by simp⟩
  have ha : Arr rb T w w d := .start hrb
  refine nn_some (Own.ld (c := .slice) ho.drew 0 rfl ⟨some ⟨rb, 0, none⟩, n + 1, d.size⟩ rfl ?_)
  refine nn_some (Own.ld (c := .slice) ho.drew 0 rfl ⟨some ⟨rb, 0, none⟩, n + 1, d.size⟩ rfl ?_)
  dsimp only
  refine ha.drew.rd n (by rw [wi _ (by omega)]; omega) (by omega) (by omega) ?_
  refine nn_some (Own.ld (c := .slice) ho.drew.drew 0 rfl ⟨some ⟨rb, 0, none⟩, n + 1, d.size⟩ rfl ?_)
  refine nn_some (Own.ld (c := .slice) ho.drew.drew 0 rfl ⟨some ⟨rb, 0, none⟩, n + 1, d.size⟩ rfl ?_)
  dsimp only
  rw [wi _ (by omega)]
  refine slc_hi ⟨by omega, by dsimp only; omega⟩ ?_
  refine nn_some ?_
  refine Own.st ho.drew.drew 0 rfl _ rfl rfl rfl fun w2 ho2 _ => ?_
  refine hk w2 ?_ ?_ ho2.fr
  · have := ho2.at (i := 0) rfl
    rw [show (((n + 1 : Nat) : Int) - 1).toNat = n by omega] at this
    exact this
  · rw [ho2.fr.block rb (lt_of_blk hrb) (by simpa using hne)]
    exact hrb

end Go.Proofs.Ytmmldfipakcmaaa
