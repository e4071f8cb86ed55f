/- The pool: Copy; the chapter's example; one operation on both. Conditions: those that stand in each line. -/
import Derived.Test.YtmmldfipakcmaaaRfA
set_option linter.unusedVariables false
set_option linter.unusedSimpArgs false
namespace Go.Proofs.Ytmmldfipakcmaaa
open Go Go.Pt Go.Sort
attribute [local irreducible] ld ldA st new idx idxS idxA slc slcS slcP mkS chk nn call callV inv run runQ runU join loop held IntKind.wrap

theorem strict_le {l : List Int} (h : l.Pairwise (· < ·)) : l.Pairwise (· ≤ ·) := h.imp Int.le_of_lt

/-- The blocks of F' came of F, or are new since w. -/
theorem new_of {w0 w : World} {F F' : List Nat} (hF : ∀ b ∈ F, w0.heap.size ≤ b) (hs : w0.heap.size ≤ w.heap.size) (h : ∀ b ∈ F', b ∈ F ∨ w.heap.size ≤ b) : ∀ b ∈ F', w0.heap.size ≤ b := by
  intro b hb
  rcases h b hb with h | h
  · exact hF b h
  · omega

theorem Copy_ok {w : World} {pb : Nat} {F : List Nat} {l : List Int} {K : Option Addr → World → Prop} (h : PoolAt w pb F l) (hl : l.length ≤ 1000000)
    (hk : ∀ pb' F' w', PoolAt w' pb' F' l → Fr [] w w' → (∀ b ∈ F', w.heap.size ≤ b) → K (some ⟨pb', 0, none⟩) w') :
    call Try.prog 26 [.pointer (some ⟨pb, 0, none⟩)] [.one .ptr] w K := by
  refine pool_Pool_Copy_of (p := some ⟨pb, 0, none⟩) ?_
  unfold pool_Pool_CopyF
  refine New_ok fun nb F0 w1 h1 f1 hF0 => ?_
  have hp1 : PoolAt w1 pb F l := h.frame f1 (fun _ _ h => by cases h)
  have hsort := h.sorted
  refine nn_some ?_
  obtain ⟨mb, R, d, f, rfl, hr, hm, hp, hh, hf, hv⟩ := hp1.ex
  rcases hr with ⟨h0, hd, hR, hb⟩ | ⟨rb, T, hR, hb, hrb, hne, hnd⟩
  · have hl0 : l = [] := List.eq_nil_of_length_eq_zero h0
    subst hl0
    refine ld_blk (c := .slice) hb ⟨none, 0, 0⟩ rfl ?_
    refine loop_step fun X hX => ?_
    refine cond_false rfl ?_
    exact hk nb F0 w1 h1 f1 hF0
  · refine ld_blk (c := .slice) hb ⟨some ⟨rb, 0, none⟩, l.length, d.size⟩ rfl ?_
    dsimp only
    have hrbF : rb < w.heap.size := h.lt rb (by rw [hR]; simp)
    have hrd0 : Rd F0 w1 ⟨some ⟨rb, 0, none⟩, l.length, d.size⟩ (d.toList.take l.length) := by
      refine ⟨by rw [List.length_take, Array.length_toList]; exact (Nat.min_eq_left hnd).symm, hnd, .inr ⟨rb, 0, _, T, _, rfl, hrb, fun hm => by have := hF0 rb hm; omega, fun i x hx => ?_⟩⟩
      have hi := (List.getElem?_eq_some_iff.1 hx).1
      rw [List.length_take, Array.length_toList] at hi
      have hil : i < l.length := Nat.lt_of_lt_of_le hi (Nat.min_le_left _ _)
      have hid : i < d.size := Nat.lt_of_lt_of_le hi (Nat.min_le_right _ _)
      have hx' := get_take (d := d) rfl hil hnd
      rw [hx'] at hx
      rw [Nat.zero_add, Nat.mul_one]
      have hc : (u32s d)[i]? = some (.int .u32 x) := by
        unfold u32s
        rw [Array.getElem?_map]
        rw [← Option.some.inj hx]
        simp [hid]
      apply List.ext_getElem?
      intro j
      rw [List.getElem?_take, List.getElem?_drop]
      match j with
      | 0 => simpa using hc
      | j + 1 => simp
    have hlen : (d.toList.take l.length).length = l.length := by simp; omega
    have hnodup : (d.toList.take l.length).Nodup := hp.symm.nodup (hsort.imp (fun h => Int.ne_of_lt h))
    generalize hL : d.toList.take l.length = L at hrd0 hlen hnodup hp
    refine loop_ind (fun x w' => ∃ (i : Nat) (l' : List Int) (F' : List Nat), x = i ∧ i ≤ l.length ∧ PoolAt w' nb F' l' ∧ l'.Perm (L.take i) ∧ Fr [] w w' ∧ Rd F' w' ⟨some ⟨rb, 0, none⟩, l.length, d.size⟩ L ∧ ∀ b ∈ F', w.heap.size ≤ b) (fun x _ => ((l.length : Int) - x).toNat)
      ⟨0, [], F0, rfl, by omega, h1, by simp, f1, hrd0, hF0⟩ ?_
    rintro x w2 ⟨i, l', F', rfl, hi, h2, hperm, f2, hrd, hF'⟩ X hX
    have hlen' : l'.length = i := by rw [hperm.length_eq, List.length_take]; omega
    refine cond_of (fun hc => ?_) (fun hc => ?_)
    · have hil : i < l.length := by have := of_decide_eq_true hc; omega
      have hiL : i < L.length := by omega
      refine Rd.at hrd i rfl (List.getElem?_eq_getElem hiL) ?_
      refine Put_ok h2 (by omega) fun F3 w3 h3 f3 hF3 => ?_
      rw [wi _ (by omega)]
      have hnot : L[i] ∉ l' := by
        intro hm
        have hm' := hperm.mem_iff.1 hm
        have e : L.take (i + 1) = L.take i ++ [L[i]] := List.take_succ_eq_append_getElem hiL
        have hn2 : (L.take (i + 1)).Nodup := (List.take_sublist _ _).nodup hnodup
        rw [e] at hn2
        have := (List.nodup_append.1 hn2).2.2 _ hm' L[i] (by simp)
        exact this rfl
      refine hX _ _ ⟨i + 1, ins L[i] l', F3, by omega, by omega, h3, ?_, f2.trans' f3 (fun b hb => .inr (hF' b hb)), hrd.frame f3 hF3, new_of hF' f2.size hF3⟩ (by omega)
      rw [List.take_succ_eq_append_getElem hiL]
      exact ((ins_perm hnot).trans (hperm.cons _)).trans (List.perm_append_singleton _ _).symm
    · have hil : i = l.length := by have := of_decide_eq_false hc; omega
      subst hil
      rw [List.take_of_length_le (by omega)] at hperm
      have : l' = l := perm_sorted_eq (hperm.trans hp) (strict_le h2.sorted) (strict_le hsort)
      subst this
      exact hk nb F' w2 h2 f2 hF'

theorem fixed08_ok {w : World} {K : Bool → World → Prop} (hk : ∀ w', Fr [] w w' → K true w') : call Try.prog 16 [] [.one .bool] w K := by
  apply cashbooklaw08_fixed_of
  unfold cashbooklaw08_fixedF
  refine New_ok fun pb F0 w0 h0 f0 n0 => ?_
  refine cond_false rfl ?_
  refine Put_ok h0 (by decide) fun F1 w1 h1 f1 n1 => ?_
  refine Put_ok h1 (by decide) fun F2 w2 h2 f2 n2 => ?_
  refine Put_ok h2 (by decide) fun F3 w3 h3 f3 n3 => ?_
  refine Take_ok h3 (by decide) fun F4 w4 h4 f4 n4 => ?_
  refine Put_ok h4 (by decide) fun F5 w5 h5 f5 n5 => ?_
  refine Take_ok h5 (by decide) fun F6 w6 h6 f6 n6 => ?_
  refine Take_ok h6 (by decide) fun F7 w7 h7 f7 n7 => ?_
  have g1 := f0.trans' f1 fun b hb => .inr (n0 b hb)
  have m1 := new_of n0 f0.size n1
  have g2 := g1.trans' f2 fun b hb => .inr (m1 b hb)
  have m2 := new_of m1 g1.size n2
  have g3 := g2.trans' f3 fun b hb => .inr (m2 b hb)
  have m3 := new_of m2 g2.size n3
  have g4 := g3.trans' f4 fun b hb => .inr (m3 b hb)
  have m4 := new_of m3 g3.size n4
  have g5 := g4.trans' f5 fun b hb => .inr (m4 b hb)
  have m5 := new_of m4 g4.size n5
  have g6 := g5.trans' f6 fun b hb => .inr (m5 b hb)
  have m6 := new_of m5 g5.size n6
  have g7 := g6.trans' f7 fun b hb => .inr (m6 b hb)
  refine cond_true (by decide) ?_
  refine cond_true (by decide) ?_
  refine cond_true (by decide) ?_
  refine cond_true (by decide) ?_
  refine cond_true (by decide) ?_
  refine cond_true (by decide) ?_
  refine cond_true (by decide) ?_
  refine cond_true (by decide) ?_
  refine Len_ok' h7 ?_
  exact hk _ g7

/-- What one operation makes of the list. -/
def stepL (o0 o1 : Int) (l : List Int) : List Int :=
  if Int.tmod o0 3 = 0 then ins o1 l else if Int.tmod o0 3 = 1 then l.drop 1 else l

theorem stepL_len (o0 o1 : Int) (l : List Int) : (stepL o0 o1 l).length ≤ l.length + 1 := by
  unfold stepL
  split
  · induction l with
    | nil => simp [ins]
    | cons a l ih =>
      simp only [ins]
      split
      · simp
      · split <;> simp <;> omega
  · split <;> simp <;> omega

theorem step_ok {w : World} {pb : Nat} {F : List Nat} (G : List Nat) {l : List Int} {s : Sl} {o0 o1 : Int} {K : Sl × Bool → World → Prop} (h : PoolAt w pb F l) (hs : Rd (F ++ G) w s l) (hG : ∀ b ∈ G, b < w.heap.size) (hl : l.length ≤ 100000)
    (hk : ∀ F' s' w', PoolAt w' pb F' (stepL o0 o1 l) → Rd (F' ++ G) w' s' (stepL o0 o1 l) → Fr F w w' → (∀ b ∈ F', b ∈ F ∨ w.heap.size ≤ b) → K (s', true) w') :
    call Try.prog 18 [.pointer (some ⟨pb, 0, none⟩), .slice s.a s.len s.cap, .agg #[.int .u8 o0, .int .u32 o1]] [.one .slice, .one .bool] w K := by
  refine cashbooklaw08_step_of (p := some ⟨pb, 0, none⟩) (l := s) (o0 := o0) (o1 := o1) ?_
  unfold cashbooklaw08_stepF
  have hlen := hs.1
  refine Own.new (Own.start [] w) fun ob w1 eb sb ho => ?_
  have h1 : PoolAt w1 pb F l := h.frame ho.fr (fun _ _ h => by cases h)
  have s1 : Rd (F ++ G) w1 s l := hs.frame0 ho.fr
  have fG : ∀ {a b : World}, Fr F a b → Fr (F ++ G) a b := fun f => f.mono (fun i hi _ => List.mem_append_left _ hi)
  have nG : ∀ {a : World} {F' : List Nat}, (∀ b ∈ F', b ∈ F ∨ a.heap.size ≤ b) → ∀ b ∈ F' ++ G, b ∈ F ++ G ∨ a.heap.size ≤ b := fun n b hb => by
    rcases List.mem_append.1 hb with hb | hb
    · rcases n b hb with h' | h'
      · exact .inl (List.mem_append_left _ h')
      · exact .inr h'
    · exact .inl (List.mem_append_right _ hb)
  have c0 : w1.cell? ⟨ob, 0, none⟩ = some (.int .u8 o0) := ho.cell 0 rfl rfl
  have hob : ob ∉ F := fun hm => by have := h.lt ob hm; omega
  refine ld_of (c := .int .u8) o0 c0 ?_
  refine cond_of (fun hc => ?_) (fun hc => ?_)
  · have hc' : Int.tmod o0 3 = 0 := by simpa using hc
    have e : stepL o0 o1 l = ins o1 l := by simp [stepL, hc']
    rw [e] at hk
    have hod := ho.drew
    have hrd : ∀ {w' : World} {K : Int → Prop}, Own [] w w' [(ob, .cells #[.int .u8 o0, .int .u32 o1] 46 (0, 0))] → K o1 → ld (.int .u32) ⟨ob, 1, none⟩ w' K := fun ho k => Own.ld ho 0 rfl o1 rfl k
    refine hrd hod ?_
    refine hrd hod ?_
    refine hrd hod ?_
    refine RPut_ok (S := F ++ G) (w := w1.drew) s1 hl fun s' B w2 hb f2 hB => ?_
    have ho2 := hod.frame0 f2
    refine held_two (ho2.cell (off := 1) 0 rfl rfl) (ho2.cell (off := 1) 0 rfl rfl) ?_
    have h2 : PoolAt w2 pb F l := (show PoolAt w1.drew pb F l from h1.frame (.of_same (.drew (.refl _))) (S := []) (fun _ _ h => by cases h)).frame f2 (fun _ _ h => by cases h)
    have s2 : Rd (F ++ G) w2 s l := Rds.frame0 (w := w1.drew) s1 f2
    refine Put_ok h2 (by omega) fun F3 w3 h3 f3 n3 => ?_
    have ho3 : Own F w w3 [(ob, .cells #[.int .u8 o0, .int .u32 o1] 46 (0, 0))] :=
      ⟨fun p hp => by simp at hp; subst hp; rw [f3.block ob (lt_of_blk (ho2.at (i := 0) rfl)) hob]; exact ho2.at (i := 0) rfl, by simp, (ho2.fr.mono (fun i hi _ => by cases hi)).trans f3, fun p hp => by simp at hp; subst hp; exact .inr (by dsimp only; omega)⟩
    refine held_one (ho3.cell (off := 1) 0 rfl rfl) ?_
    have hw1 : w.heap.size ≤ w1.drew.heap.size := hod.fr.size
    have s3 : Rd (F3 ++ G) w3 s l := s2.frame (fG f3) (nG n3)
    have hw2 := f2.size
    refine RHas_ok s3 (by omega) ?_
    have hBlt := hb.lt
    have b3 : Rd (F3 ++ G) w3 s' (putR l o1) := by
      refine Buf.rds encU_len (hb.frame f3 fun b hbm hbF => ?_) fun b hbm hbF => ?_
      · have := hB b hbm
        have := h1.lt b hbF
        have e1 : w1.drew.heap.size = w1.heap.size := rfl
        omega
      · rcases List.mem_append.1 hbF with hbF | hbF
        · rcases n3 b hbF with h' | h'
          · have := hB b hbm
            have := h1.lt b h'
            have e1 : w1.drew.heap.size = w1.heap.size := rfl
            omega
          · have := hBlt b hbm
            omega
        · have := hB b hbm
          have := hG b hbF
          omega
    rw [putR_ins h.sorted] at b3
    have := hk F3 s' w3 h3 b3 ho3.fr (fun b hb => by rcases n3 b hb with h' | h'; exact .inl h'; exact .inr (by omega))
    by_cases hm : o1 ∈ l <;> simp [hm] <;> exact this
  · have hc0 : ¬ Int.tmod o0 3 = 0 := by simpa using hc
    refine cond_of (fun hc => ?_) (fun hc => ?_)
    · have hc' : Int.tmod o0 3 = 1 := by simpa using hc
      have e : stepL o0 o1 l = l.drop 1 := by simp [stepL, hc']
      rw [e] at hk
      refine Take_ok h1 (by omega) fun F2 w2 h2 f2 n2 => ?_
      have s2 : Rd (F2 ++ G) w2 s l := s1.frame (fG f2) (nG n2)
      have hw1 := ho.fr.size
      have f2' : Fr F w w2 := (ho.fr.mono (fun i hi _ => by cases hi)).trans f2
      have n2' : ∀ b ∈ F2, b ∈ F ∨ w.heap.size ≤ b := fun b hb => by rcases n2 b hb with h' | h'; exact .inl h'; exact .inr (by omega)
      match l, hlen, h2, s2, hk with
      | [], hlen, h2, s2, hk =>
        refine cond_true (by rw [hlen]; rfl) ?_
        exact hk F2 s w2 h2 s2 f2' n2'
      | x :: r, hlen, h2, s2, hk =>
        refine cond_false (by rw [hlen]; simp; omega) ?_
        refine Rds.drop s2 1 rfl (by simp) (by simp) fun s' hs' => ?_
        refine cond_true rfl ?_
        refine Rd.at s2.drew 0 rfl rfl ?_
        have := hk F2 s' w2.drew (h2.frame (.of_same (.drew (.refl _))) (S := []) (fun _ _ h => by cases h)) hs'.drew f2'.drew n2'
        simpa [takeV] using this
    · have hc1 : ¬ Int.tmod o0 3 = 1 := by simpa using hc
      have e : stepL o0 o1 l = l := by simp [stepL, hc0, hc1]
      rw [e] at hk
      have hod := ho.drew
      have c1 : w1.drew.cell? ⟨ob, 1, none⟩ = some (.int .u32 o1) := hod.cell (off := 1) 0 rfl rfl
      refine ld_of (c := .int .u32) o1 c1 ?_
      refine ld_of (c := .int .u32) o1 c1 ?_
      have h1d : PoolAt w1.drew pb F l := h1.frame (.of_same (.drew (.refl _))) (S := []) (fun _ _ h => by cases h)
      refine Has_ok h1d ?_
      refine held_one c1 ?_
      refine RHas_ok s1.drew (by omega) ?_
      have := hk F s w1.drew h1d s1.drew (hod.fr.mono (fun i hi _ => by cases hi)) (fun b hb => .inl hb)
      simpa using this

end Go.Proofs.Ytmmldfipakcmaaa
