/- container/heap's Push and Pop over the pool's row. Conditions: those that stand in each line. -/
import Derived.Test.YtmmldfipakcmaaaPlB
set_option linter.unusedVariables false
set_option linter.unusedSimpArgs false
namespace Go.Proofs.Ytmmldfipakcmaaa
open Go Go.Pt Go.Sort
attribute [local irreducible] ld ldA st new idx idxS idxA slc slcS slcP mkS chk nn call callV inv run runQ runU join loop held IntKind.wrap

theorem permIn_take {d d' : Array Int} {n : Nat} (h : PermIn 0 n d d') : (d'.toList.take n).Perm (d.toList.take n) := by
  have := h.2.2
  simpa [Array.toList_extract] using this

theorem HPush_ok {w : World} {pb : Nat} {mb : Value} {R : List Nat} {d : Array Int} {n : Nat} {x : Int} {K : Unit → World → Prop} (h : RowAt w pb mb R d n) (hn : n ≤ 1000000) (hh : IsHeap d n)
    (hk : ∀ R' d' w', RowAt w' pb mb R' d' (n + 1) → IsHeap d' (n + 1) → (d'.toList.take (n + 1)).Perm (d.toList.take n ++ [x]) → Fr (pb :: R) w w' → (∀ b ∈ R', b ∈ R ∨ w.heap.size ≤ b) → K () w') :
    call Try.prog 37 [.iface 74 (.pointer (some ⟨pb, 0, none⟩)), .iface 31 (.int .u32 x)] [] w K := by
  have hdn : n ≤ d.size := by
    rcases h with ⟨h0, _⟩ | ⟨_, _, _, _, _, _, h1⟩
    · omega
    · exact h1
  apply heap_Push_of
  unfold heap_PushF
  refine mPush h hn fun R1 d1 w1 hr ht hf hR => ?_
  rcases hr with ⟨h0, _⟩ | ⟨rb, T, hR1, hb, hrb, hne, hnd⟩
  · omega
  subst hR1
  refine mLen hb hne (.start hrb) ?_
  rw [wi _ (by omega), show ((n + 1 : Nat) : Int) - 1 = (n : Nat) by omega]
  have hsame : ∀ i, i < n → d1[i]! = d[i]! := fun i hi => by
    have h1 := get_take ht (show i < n + 1 by omega) hnd
    rw [List.getElem?_append_left (by simp; omega)] at h1
    have h2 := get_take (d := d) rfl hi hdn
    rw [h2] at h1
    exact (Option.some.inj h1).symm
  refine Up_ok hb hne (.start hrb) (Nat.lt_succ_self n) ⟨hnd, by omega⟩ ⟨fun i h0 hi hin => ?_, fun i h0 hi hip _ => by omega⟩ fun d2 w2 hp hH ha => ?_
  · rw [hsame i (by omega), hsame _ (by omega)]
    exact hh i h0 (by omega)
  · refine hk [rb] d2 w2 (.inr ⟨rb, T, rfl, ?_, ha.blk, hne, by rw [hp.1]; exact hnd⟩) hH ((permIn_take hp).trans (by rw [ht])) (hf.trans' ha.fr fun i hi => ?_) hR
    · rw [ha.fr.block pb (lt_of_blk hb) (by simpa using fun e => hne e.symm), hp.1]
      exact hb
    · simp at hi
      subst hi
      rcases hR i (by simp) with h1 | h1
      · exact .inl (List.mem_cons_of_mem _ h1)
      · exact .inr h1

theorem IsHeap.min {d : Array Int} {n : Nat} (h : IsHeap d n) : ∀ i, i < n → d[0]! ≤ d[i]! := by
  intro i
  induction i using Nat.strongRecOn with
  | _ i ih =>
    intro hi
    by_cases h0 : i = 0
    · rw [h0]; exact Int.le_refl _
    · exact Int.le_trans (ih ((i - 1) / 2) (by omega) (by omega)) (h i (by omega) hi)

theorem HPop_ok {w : World} {pb rb : Nat} {mb : Value} {d : Array Int} {n : Nat} {T : TypeId} {K : Value → World → Prop} (hb : w.heap[pb]? = some (plB rb (n + 1) d.size mb)) (hrb : w.heap[rb]? = some (.cells (u32s d) T (0, 0))) (hne : rb ≠ pb) (hnd : n + 1 ≤ d.size) (hn : n ≤ 1000000) (hh : IsHeap d (n + 1))
    (hk : ∀ d' w', RowAt w' pb mb [rb] d' n → IsHeap d' n → (d[0]! :: d'.toList.take n).Perm (d.toList.take (n + 1)) → Fr [pb, rb] w w' → K (.iface 31 (.int .u32 d[0]!)) w') :
    call Try.prog 38 [.iface 74 (.pointer (some ⟨pb, 0, none⟩))] [.one .any] w K := by
  apply heap_Pop_of
  unfold heap_PopF
  refine mLen hb hne (.start hrb) ?_
  rw [wi _ (by omega), show ((n + 1 : Nat) : Int) - 1 = (n : Nat) by omega]
  refine mSwap (i := 0) (k := n) hb hne (.start hrb) (by omega) (by omega) ⟨hnd, by omega⟩ fun w1 h1 => ?_
  have hs1 : (swp d 0 n).size = d.size := Sort.size_swp _ _ _
  have hat := swp_at d (i := 0) (j := n) (by omega) (by omega)
  refine Down_ok (n := n) hb hne h1 (by omega) ⟨by omega, by omega⟩ ⟨fun i h0 hi hin => ?_, fun i h0 hi hip hc => by omega⟩ fun b d2 w2 hp hH h2 => ?_
  · rw [hat, hat, if_neg (by omega), if_neg (by omega), if_neg (by omega), if_neg (by omega)]
    exact hh i h0 (by omega)
  have hs2 := hp.1
  have hb2 : w2.heap[pb]? = some (plB rb (n + 1) d2.size mb) := by
    rw [h2.fr.block pb (lt_of_blk hb) (by simpa using fun e => hne e.symm), hs2, hs1]
    exact hb
  refine mPop hb2 h2.blk hne (by omega) hn fun w3 g1 g2 g3 => ?_
  have hlast : d2[n]! = d[0]! := by
    rw [hp.2.1 n (.inr (Nat.le_refl _)), hat, if_pos rfl]
  rw [hlast]
  refine hk d2 w3 (.inr ⟨rb, T, rfl, g1, g2, hne, by omega⟩) hH ?_ ((h2.fr.mono (T := [pb, rb]) (fun i hi _ => by simp at hi; simp [hi])).trans (g3.mono (fun i hi _ => by simp at hi; simp [hi])))
  have p1 := permIn_take hp
  have p2 := permIn_take (swp_permIn d 0 (n + 1) 0 n (by omega) (by omega) (by omega) (by omega) (by omega))
  have e1 : (swp d 0 n).toList.take (n + 1) = (swp d 0 n).toList.take n ++ [d[0]!] := by
    have hv : (swp d 0 n)[n]! = d[0]! := by rw [hat, if_pos rfl]
    have hl : n < (swp d 0 n).toList.length := by simp [hs1]; omega
    rw [List.take_succ_eq_append_getElem hl]
    congr 2
    rw [← hv]
    simp [show n < (swp d 0 n).size by omega]
  rw [e1] at p2
  exact ((List.perm_append_singleton _ _).symm.trans (p1.append_right _)).trans p2

end Go.Proofs.Ytmmldfipakcmaaa
