/- The pool: Put and Take. Conditions: those that stand in each line. -/
import Derived.Test.YtmmldfipakcmaaaPlC
set_option linter.unusedVariables false
set_option linter.unusedSimpArgs false
namespace Go.Proofs.Ytmmldfipakcmaaa
open Go Go.Pt Go.Sort
attribute [local irreducible] ld ldA st new idx idxS idxA slc slcS slcP mkS chk nn call callV inv run runQ runU join loop held IntKind.wrap

def ins (x : Int) : List Int → List Int
  | [] => [x]
  | a :: l => if x < a then x :: a :: l else if x = a then a :: l else a :: ins x l

theorem ins_perm {x : Int} : ∀ {l : List Int}, x ∉ l → (ins x l).Perm (x :: l)
  | [], _ => .refl _
  | a :: l, h => by
    simp only [List.mem_cons, not_or] at h
    simp only [ins]
    split
    · exact .refl _
    · rw [if_neg h.1]
      exact ((ins_perm h.2).cons a).trans (.swap x a l)

theorem ins_mem {x y : Int} : ∀ {l : List Int}, y ∈ ins x l → y = x ∨ y ∈ l
  | [], h => by simp [ins] at h; exact .inl h
  | a :: l, h => by
    simp only [ins] at h
    split at h
    · simp only [List.mem_cons] at h ⊢; exact h
    · split at h
      · exact .inr h
      · simp only [List.mem_cons] at h ⊢
        rcases h with h | h
        · exact .inr (.inl h)
        · rcases ins_mem h with h | h
          · exact .inl h
          · exact .inr (.inr h)

theorem ins_sorted {x : Int} : ∀ {l : List Int}, l.Pairwise (· < ·) → (ins x l).Pairwise (· < ·)
  | [], _ => by simp [ins]
  | a :: l, h => by
    have h' := List.pairwise_cons.1 h
    simp only [ins]
    split
    · rename_i hx
      refine List.pairwise_cons.2 ⟨fun b hb => ?_, h⟩
      rcases List.mem_cons.1 hb with rfl | hb
      · exact hx
      · exact Int.lt_trans hx (h'.1 b hb)
    · split
      · exact h
      · rename_i h1 h2
        refine List.pairwise_cons.2 ⟨fun b hb => ?_, ins_sorted h'.2⟩
        rcases ins_mem hb with rfl | hb
        · omega
        · exact h'.1 b hb

theorem ins_same {x : Int} : ∀ {l : List Int}, l.Pairwise (· < ·) → x ∈ l → ins x l = l
  | a :: l, h, hx => by
    have h' := List.pairwise_cons.1 h
    simp only [ins]
    rcases List.mem_cons.1 hx with rfl | hx
    · rw [if_neg (Int.lt_irrefl _), if_pos rfl]
    · have := h'.1 x hx
      rw [if_neg (by omega), if_neg (by omega), ins_same h'.2 hx]

theorem upd_fr {w : World} {b : Nat} (hb : b < w.heap.size) (o : Obj) : Fr [b] w (upd w b o) :=
  ⟨rfl, rfl, rfl, by rw [size_upd]; exact Nat.le_refl _, fun j hj hS => by rw [heap_upd _ _ _ _ hb, if_neg (by simpa using hS)]⟩

theorem RowAt.frame {w w' : World} {pb : Nat} {m : Value} {R S : List Nat} {d : Array Int} {n : Nat} (h : RowAt w pb m R d n) (k : Fr S w w') (h1 : pb ∉ S) (h2 : ∀ r ∈ R, r ∉ S) : RowAt w' pb m R d n := by
  rcases h with ⟨a, b, c, e⟩ | ⟨rb, T, a, b, c, e, f⟩
  · exact .inl ⟨a, b, c, by rw [k.block pb (lt_of_blk e) h1]; exact e⟩
  · exact .inr ⟨rb, T, a, by rw [k.block pb (lt_of_blk b) h1]; exact b, by rw [k.block rb (lt_of_blk c) (h2 rb (by rw [a]; simp))]; exact c, e, f⟩

theorem map_frame {α : Type} [DecidableEq α] {kv : α → Value} {w w' : World} {b : Nat} {S : List Nat} {f : List (α × Value)} (h : MapAt kv w b f) (k : Fr S w w') (h1 : b ∉ S) : MapAt kv w' b f := by
  obtain ⟨es, c, hb, he⟩ := h
  exact ⟨es, c, by rw [k.block b (lt_of_blk hb) h1]; exact hb, he⟩

theorem RowAt.map_ne {w : World} {pb mb : Nat} {m : Value} {R : List Nat} {d : Array Int} {n : Nat} {f : List (Int × Value)} (h : RowAt w pb m R d n) (hm : MapAt u32V w mb f) : pb ≠ mb ∧ ∀ r ∈ R, r ≠ mb := by
  obtain ⟨es, c, hb, _⟩ := hm
  rcases h with ⟨_, _, c', e⟩ | ⟨rb, T, a, b, c', e, _⟩
  · refine ⟨fun e' => ?_, by simp [c']⟩
    subst e'
    rw [e] at hb; cases hb
  · refine ⟨fun e' => ?_, fun r hr e' => ?_⟩
    · subst e'
      rw [b] at hb; cases hb
    · rw [a] at hr
      simp at hr
      subst hr e'
      rw [c'] at hb; cases hb

/-- A pool leaves what is not its own alone: another pool, or what was told, stays. -/
theorem PoolAt.frame {w w' : World} {pb : Nat} {F S : List Nat} {l : List Int} (h : PoolAt w pb F l) (k : Fr S w w') (hd : ∀ b ∈ F, b ∉ S) : PoolAt w' pb F l := by
  obtain ⟨⟨mb, R, d, f, rfl, hr, hm, h1, h2, h3, h4⟩, hs⟩ := h
  exact ⟨⟨mb, R, d, f, rfl, hr.frame k (hd _ (by simp)) (fun r hr => hd r (by simp [hr])), map_frame hm k (hd _ (by simp)), h1, h2, h3, h4⟩, hs⟩

theorem PoolAt.lt {w : World} {pb : Nat} {F : List Nat} {l : List Int} (h : PoolAt w pb F l) : ∀ b ∈ F, b < w.heap.size := by
  obtain ⟨⟨mb, R, d, f, rfl, hr, ⟨es, c, hb, _⟩, _⟩, _⟩ := h
  intro b hbm
  simp only [List.mem_cons] at hbm
  rcases hr with ⟨_, _, c', e⟩ | ⟨rb, T, a, b', c', e, _⟩
  · rcases hbm with rfl | rfl | hbm
    · exact lt_of_blk e
    · exact lt_of_blk hb
    · rw [c'] at hbm; cases hbm
  · rcases hbm with rfl | rfl | hbm
    · exact lt_of_blk b'
    · exact lt_of_blk hb
    · rw [a] at hbm
      simp at hbm
      subst hbm
      exact lt_of_blk c'

theorem Put_ok {w : World} {pb : Nat} {F : List Nat} {l : List Int} {n : Int} {K : Bool → World → Prop} (h : PoolAt w pb F l) (hl : l.length ≤ 1000000)
    (hk : ∀ F' w', PoolAt w' pb F' (ins n l) → Fr F w w' → (∀ b ∈ F', b ∈ F ∨ w.heap.size ≤ b) → K (decide (n ∉ l)) w') :
    call Try.prog 22 [.pointer (some ⟨pb, 0, none⟩), .int .u32 n] [.one .bool] w K := by
  refine pool_Pool_Put_of (p := some ⟨pb, 0, none⟩) ?_
  unfold pool_Pool_PutF
  refine Has_ok h ?_
  by_cases hx : n ∈ l
  · refine cond_true (by simpa using hx) ?_
    have := hk F w (by rw [ins_same h.sorted hx]; exact h) (.refl _ _) (fun b hb => .inl hb)
    simpa [hx] using this
  refine cond_false (by simpa using hx) ?_
  obtain ⟨s, mb', hcell, _, _⟩ := h.cells
  have hsort := h.sorted
  obtain ⟨mb, R, d, f, rfl, hr, hm, hp, hh, hf, h1⟩ := h.ex
  have hmb : mb' = mb := by
    rcases hr with ⟨_, _, _, e⟩ | ⟨rb, T, _, b, _⟩
    · have h3 := congrArg (fun o => match o with | some (Obj.cells cs _ _) => cs[1]? | _ => none) (hcell.symm.trans e)
      simpa using h3
    · have h3 := congrArg (fun o => match o with | some (Obj.cells cs _ _) => cs[1]? | _ => none) (hcell.symm.trans b)
      simpa [plB] using h3
  subst hmb
  refine nn_some ?_
  refine ld_blk (c := .map) hcell (some mb') rfl ?_
  have hpos : posOf n f = none := by
    rcases posOf_mem (x := n) h1 with ⟨hp, _⟩ | ⟨j, _, hx', _⟩
    · exact hp
    · exact absurd (hf.mem_iff.1 hx') hx
  obtain ⟨o, hrun, hm1⟩ := run_mapNew (P := Try.prog) (t := 66) (et := 3) (v := .int .i64 1) (by kernel_rfl) keyOk31 hm n hpos
  refine runU_of _ hrun ?_
  obtain ⟨hne1, hne2⟩ := hr.map_ne hm
  have hmlt : mb' < w.heap.size := by obtain ⟨es, c, hb, _⟩ := hm; exact lt_of_blk hb
  have hfr := upd_fr hmlt o
  have hr1 := hr.frame hfr (by simpa using hne1) (fun r hr => by simpa using hne2 r hr)
  refine nn_some ?_
  refine HPush_ok hr1 hl hh fun R' d' w2 hr2 hh2 hp2 hf2 hR2 => ?_
  have hperm := ins_perm hx
  have hlen : (ins n l).length = l.length + 1 := by have := hperm.length_eq; simpa using this
  have hm2 : MapAt u32V w2 mb' (f ++ [(n, .int .i64 1)]) := map_frame hm1 hf2 (by simp only [List.mem_cons, not_or]; exact ⟨fun e => hne1 e.symm, fun e => hne2 _ e rfl⟩)
  have := hk (pb :: mb' :: R') w2 ⟨⟨mb', R', d', f ++ [(n, .int .i64 1)], rfl, by rw [hlen]; exact hr2, hm2, ?_, by rw [hlen]; exact hh2, ?_, ?_⟩, ins_sorted hsort⟩
    ((hfr.mono (T := pb :: mb' :: R) (fun i hi _ => by simp at hi; simp [hi])).trans (hf2.mono (fun i hi _ => by simp at hi; rcases hi with rfl | hi <;> simp [*]))) (fun b hb => ?_)
  · simpa [hx] using this
  · rw [hlen]
    exact hp2.trans (((hp.append_right [n]).trans (List.perm_append_singleton _ _)).trans hperm.symm)
  · rw [List.map_append]
    exact ((hf.append_right _).trans (List.perm_append_singleton _ _)).trans hperm.symm
  · intro p hp
    rcases List.mem_append.1 hp with hp | hp
    · exact h1 p hp
    · simp at hp; rw [hp]
  · simp only [List.mem_cons] at hb
    rcases hb with rfl | rfl | hb
    · exact .inl (by simp)
    · exact .inl (by simp)
    · rcases hR2 b hb with h' | h'
      · exact .inl (by simp [h'])
      · rw [size_upd] at h'; exact .inr h'

theorem cons_erase_perm {α : Type} : ∀ (l : List α) (i : Nat) (h : i < l.length), (l[i] :: l.eraseIdx i).Perm l
  | a :: l, 0, _ => .refl _
  | a :: l, i + 1, h => by
    simp only [List.getElem_cons_succ, List.eraseIdx_cons_succ]
    exact (List.Perm.swap _ _ _).trans ((cons_erase_perm l i (by simpa using h)).cons a)

/-- What Take hands out, and what stays. -/
def takeV : List Int → (Int × Bool) × List Int
  | [] => ((0, false), [])
  | x :: r => ((x, true), r)

theorem Take_ok {w : World} {pb : Nat} {F : List Nat} {l : List Int} {K : Int × Bool → World → Prop} (h : PoolAt w pb F l) (hl : l.length ≤ 1000000)
    (hk : ∀ F' w', PoolAt w' pb F' (takeV l).2 → Fr F w w' → (∀ b ∈ F', b ∈ F ∨ w.heap.size ≤ b) → K (takeV l).1 w') :
    call Try.prog 23 [.pointer (some ⟨pb, 0, none⟩)] [.one (.int .u32), .one .bool] w K := by
  refine pool_Pool_Take_of (p := some ⟨pb, 0, none⟩) ?_
  unfold pool_Pool_TakeF
  have hsort := h.sorted
  have hwhole := h
  obtain ⟨mb, R, d, f, rfl, hr, hm, hp, hh, hf, h1⟩ := h.ex
  rcases hr with ⟨h0, hd, hR, hb⟩ | ⟨rb, T, hR, hb, hrb, hne, hnd⟩
  · have hl0 : l = [] := List.eq_nil_of_length_eq_zero h0
    subst hl0
    refine nn_some ?_
    refine ld_blk (c := .slice) hb ⟨none, 0, 0⟩ rfl ?_
    refine cond_true rfl ?_
    exact hk _ w hwhole (.refl _ _) (fun b hb => .inl hb)
  subst hR
  refine nn_some ?_
  refine ld_blk (c := .slice) hb ⟨some ⟨rb, 0, none⟩, l.length, d.size⟩ rfl ?_
  match l, hl, hk, hsort, hwhole, hb, hp, hh, hf, hnd with
  | [], hl, hk, hsort, hwhole, hb, hp, hh, hf, hnd =>
    refine cond_true rfl ?_
    exact hk _ w hwhole (.refl _ _) (fun b hb => .inl hb)
  | x :: r, hl, hk, hsort, hwhole, hb, hp, hh, hf, hnd =>
    simp only [List.length_cons] at hb hp hh hnd hl ⊢
    refine cond_false (by simp; omega) ?_
    refine nn_some ?_
    have hne' := (show RowAt w pb (.map (some mb)) [rb] d (r.length + 1) from .inr ⟨rb, T, rfl, hb, hrb, hne, hnd⟩).map_ne hm
    have hd0 : d[0]! = x := by
      have hmem : d[0]! ∈ x :: r := hp.mem_iff.1 (by
        have := get_take (d := d) rfl (show 0 < r.length + 1 by omega) hnd
        exact List.mem_of_getElem? this)
      have hx : x ∈ d.toList.take (r.length + 1) := hp.mem_iff.2 (by simp)
      obtain ⟨i, hi, hix⟩ := List.getElem_of_mem hx
      have hi' : i < r.length + 1 := by simp at hi; omega
      have h2 := get_take (d := d) rfl hi' hnd
      rw [List.getElem?_eq_getElem hi, hix] at h2
      have hmin := hh.min i hi'
      rw [← Option.some.inj h2] at hmin
      rcases List.mem_cons.1 hmem with e | e
      · exact e
      · have := (List.pairwise_cons.1 hsort).1 _ e
        omega
    refine HPop_ok hb hrb hne hnd (by omega) hh fun d2 w2 hr2 hh2 hp2 hf2 => ?_
    rw [hd0] at hp2 ⊢
    have ta : (Instr.typeAssert (.iface 31 (.int .u32 x)) 20 31 true).run Try.prog w2 = .ok (.tuple #[.int .u32 x, .bool true]) w2 := by kernel_rfl
    refine runQ_of (ts := [.one (.int .u32), .one .bool]) (x, true) ta ?_
    have hm2 : MapAt u32V w2 mb f := map_frame hm hf2 (by simp only [List.mem_cons, List.not_mem_nil, or_false, not_or]; exact ⟨fun e => hne'.1 e.symm, fun e => hne'.2 rb (by simp) e.symm⟩)
    obtain ⟨s2, hc2⟩ : ∃ s : Sl, w2.heap[pb]? = some (.cells #[.slice s.a s.len s.cap, .map (some mb)] PT (0, 0)) := by
      rcases hr2 with ⟨_, _, _, hb'⟩ | ⟨rb', T', _, hb', _⟩
      · exact ⟨⟨none, 0, 0⟩, hb'⟩
      · exact ⟨⟨some ⟨rb', 0, none⟩, _, _⟩, hb'⟩
    refine nn_some ?_
    refine ld_blk (c := .map) hc2 (some mb) rfl ?_
    obtain ⟨o, hrun, hm3⟩ := run_mapDel (P := Try.prog) (t := 66) (et := 3) (kt := 31) (ty := 0) (by kernel_rfl) keyOk31 hm2 x
    refine run_of (ts := []) () _ hrun ?_
    rcases posOf_mem (x := x) h1 with ⟨_, hx'⟩ | ⟨j, hpos, _, hj⟩
    · exact absurd (hf.mem_iff.2 (by simp)) hx'
    rw [hpos] at hm3
    have hmlt : mb < w2.heap.size := by obtain ⟨es, c, hb, _⟩ := hm2; exact lt_of_blk hb
    have hfr := upd_fr hmlt o
    refine hk [pb, mb, rb] (upd w2 mb o) ⟨⟨mb, [rb], d2, f.eraseIdx j, rfl, hr2.frame hfr (by simpa using hne'.1) (fun r hr => by simpa using hne'.2 r hr), hm3, (hp2.trans hp).cons_inv, hh2, ?_, fun p hp => h1 p (List.mem_of_mem_eraseIdx hp)⟩, (List.pairwise_cons.1 hsort).2⟩
      ((hf2.mono (T := [pb, mb, rb]) (fun i hi _ => by simp at hi; rcases hi with rfl | rfl <;> simp)).trans (hfr.mono (fun i hi _ => by simp at hi; simp [hi]))) (fun b hb => .inl hb)
    show ((f.eraseIdx j).map (·.1)).Perm r
    rw [map_erase]
    obtain ⟨hjl, hje⟩ := List.getElem?_eq_some_iff.1 hj
    have := cons_erase_perm _ _ hjl
    rw [hje] at this
    exact (this.trans hf).cons_inv

end Go.Proofs.Ytmmldfipakcmaaa
