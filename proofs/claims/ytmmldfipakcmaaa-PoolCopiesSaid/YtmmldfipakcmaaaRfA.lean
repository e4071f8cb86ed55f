/- The document's pool: lists of numbers that are read; Has, Same, Put. Conditions: those that stand in each line. -/
import Derived.Test.YtmmldfipakcmaaaPlE
import Derived.Test.YtmmldfipakcmaaaPtO
set_option linter.unusedVariables false
set_option linter.unusedSimpArgs false
namespace Go.Proofs.Ytmmldfipakcmaaa
open Go Go.Pt Go.Sort
attribute [local irreducible] ld ldA st new idx idxS idxA slc slcS slcP mkS chk nn call callV inv run runQ runU join loop held IntKind.wrap

abbrev encU : Int → List Value := fun n => [Value.int .u32 n]
/-- The slice s reads as the numbers l; its block, if there is one, is none of those of S. -/
abbrev Rd (S : List Nat) (w : World) (s : Sl) (l : List Int) : Prop := Rds encU 1 S w s l
abbrev BufU (w : World) (s : Sl) (l : List Int) (B : List Nat) : Prop := Buf encU 1 w s l B
theorem encU_len : ∀ x, (encU x).length = 1 := fun _ => rfl

theorem Rd.at {S : List Nat} {w : World} {s : Sl} {l : List Int} (h : Rd S w s l) (n : Nat) {i x : Int} {K : Int → Prop} (hi : i = n) (hx : l[n]? = some x) (k : K x) : idx s i 1 fun a => ld (.int .u32) a w K :=
  Rds.get (c := .int .u32) (y := x) h n hi hx rfl k

theorem pushU {w : World} {s : Sl} {l : List Int} {B : List Nat} {x : Int} {T : TypeId} {K : Sl → World → Prop} (h : BufU w s l B) (hl : l.length ≤ 1000000)
    (kk : ∀ s' B' w', BufU w' s' (l ++ [x]) B' → Fr B w w' → (∀ b ∈ B', b ∈ B ∨ w.heap.size ≤ b) → K s' w') :
    Pt.new (.cells #[.int .u32 x] T) w fun r w1 => Pt.run [Ty1.one Cell.slice] ((Builtin.append_ #[44, 44] 44 #[.slice s.a s.len s.cap, .slice (some ⟨r, 0, none⟩) 1 1]).run Try.prog w1) K := by
  obtain ⟨i, hi, hz, hsz, hby⟩ := info31
  exact Buf.push (e := 31) h encU_len (by simp [Value.oneCell']) (by kernel_rfl) hi hz hsz rfl rfl (by rw [hby]; omega) (by omega) kk

theorem RHas_ok {S : List Nat} {w : World} {s : Sl} {l : List Int} {n : Int} {K : Bool → World → Prop} (h : Rd S w s l) (hl : l.length ≤ 1000000) (hk : K (decide (n ∈ l)) w) :
    call Try.prog 25 [.slice s.a s.len s.cap, .int .u32 n] [.one .bool] w K := by
  refine cashbookref08_Has_of (l := s) ?_
  unfold cashbookref08_HasF
  have hlen := h.1
  refine loop_ind (fun x w' => w' = w ∧ ∃ i : Nat, x = i ∧ i ≤ l.length ∧ ∀ j y, j < i → l[j]? = some y → y ≠ n) (fun x _ => ((l.length : Int) - x).toNat) ⟨rfl, 0, rfl, by omega, fun j y hj => by omega⟩ ?_
  rintro x w' ⟨rfl, i, rfl, hi, hno⟩ X hX
  refine cond_of (fun hc => ?_) (fun hc => ?_)
  · have hil : i < l.length := by have := of_decide_eq_true hc; omega
    refine Rd.at h i rfl (List.getElem?_eq_getElem hil) ?_
    refine cond_of (fun he => ?_) (fun he => ?_)
    · have he' : l[i] = n := beq_iff_eq.1 he
      rw [show decide (n ∈ l) = true by rw [decide_eq_true_iff]; rw [← he']; exact List.getElem_mem hil] at hk
      exact hk
    · have he' : l[i] ≠ n := fun e => by rw [e] at he; simp at he
      rw [wi _ (by omega)]
      refine hX _ _ ⟨rfl, i + 1, by omega, by omega, fun j y hj hy => ?_⟩ (by omega)
      by_cases hji : j = i
      · subst hji
        rw [List.getElem?_eq_getElem hil] at hy
        rw [← Option.some.inj hy]; exact he'
      · exact hno j y (by omega) hy
  · have hil : i = l.length := by have := of_decide_eq_false hc; omega
    rw [show decide (n ∈ l) = false by
      rw [decide_eq_false_iff_not]
      intro hm
      obtain ⟨j, hj, he⟩ := List.getElem_of_mem hm
      exact hno j n (by omega) (by rw [List.getElem?_eq_getElem hj, he]) rfl] at hk
    exact hk

theorem RSame_ok {S S' : List Nat} {w : World} {s t : Sl} {l : List Int} {K : Bool → World → Prop} (h : Rd S w s l) (g : Rd S' w t l) (hl : l.length ≤ 1000000) (hk : ∀ w', Same w w' → K true w') :
    call Try.prog 20 [.slice s.a s.len s.cap, .slice t.a t.len t.cap] [.one .bool] w K := by
  refine cashbookref08_Same_of (a := s) (b := t) ?_
  unfold cashbookref08_SameF
  have hlen := h.1
  refine cond_false (by rw [h.1, g.1]; simp) ?_
  refine loop_ind (fun x w' => Same w w' ∧ ∃ i : Nat, x = i ∧ i ≤ l.length) (fun x _ => ((l.length : Int) - x).toNat) ⟨.refl _, 0, rfl, by omega⟩ ?_
  rintro x w' ⟨hs, i, rfl, hi⟩ X hX
  have h' : Rd S w' s l := h.same hs
  have g' : Rd S' w' t l := g.same hs
  refine cond_of (fun hc => ?_) (fun hc => ?_)
  · have hil : i < l.length := by have := of_decide_eq_true hc; omega
    refine Rd.at h'.drew i rfl (List.getElem?_eq_getElem hil) ?_
    refine Rd.at g'.drew i rfl (List.getElem?_eq_getElem hil) ?_
    refine cond_false (by simp) ?_
    rw [wi _ (by omega)]
    exact hX _ _ ⟨hs.drew, i + 1, by omega, by omega⟩ (by omega)
  · exact hk _ hs

/-- The document's Put, as its loop makes it: what is made of the first ones. -/
def putAcc (n : Int) (acc : List Int × Bool) (x : Int) : List Int × Bool :=
  let a1 := if !acc.2 && decide (x ≥ n) then (acc.1 ++ [n], true) else acc
  (if x ≠ n then a1.1 ++ [x] else a1.1, a1.2)

def putFin (n : Int) (r : List Int × Bool) : List Int := if !r.2 then r.1 ++ [n] else r.1

def putR (l : List Int) (n : Int) : List Int := putFin n (l.foldl (putAcc n) ([], false))

theorem putAcc_len (n : Int) (acc : List Int × Bool) (x : Int) : (putAcc n acc x).1.length ≤ acc.1.length + 2 := by
  unfold putAcc
  dsimp only
  split <;> split <;> simp

theorem putFold_len (n : Int) : ∀ (l : List Int) (acc : List Int × Bool), (l.foldl (putAcc n) acc).1.length ≤ acc.1.length + 2 * l.length
  | [], acc => by simp
  | x :: l, acc => by
    have h1 := putAcc_len n acc x
    have h2 := putFold_len n l (putAcc n acc x)
    simp only [List.foldl_cons, List.length_cons]
    omega

theorem putFold_true (n : Int) : ∀ (l : List Int) (a : List Int), (∀ x ∈ l, n < x) → l.foldl (putAcc n) (a, true) = (a ++ l, true)
  | [], a, _ => by simp
  | x :: l, a, h => by
    have hx := h x (by simp)
    have e : putAcc n (a, true) x = (a ++ [x], true) := by simp [putAcc, show x ≠ n by omega]
    rw [List.foldl_cons, e, putFold_true n l _ (fun y hy => h y (by simp [hy]))]
    simp

theorem putFold_ins (n : Int) : ∀ (l : List Int) (a : List Int), l.Pairwise (· < ·) → putFin n (l.foldl (putAcc n) (a, false)) = a ++ ins n l
  | [], a, _ => by simp [ins, putFin]
  | x :: l, a, h => by
    have h' := List.pairwise_cons.1 h
    simp only [List.foldl_cons, ins]
    by_cases h1 : n < x
    · have e : putAcc n (a, false) x = (a ++ [n] ++ [x], true) := by simp [putAcc, show x ≥ n by omega, show x ≠ n by omega]
      rw [e, putFold_true n l _ (fun y hy => by have := h'.1 y hy; omega), if_pos h1]
      simp [putFin]
    · by_cases h2 : n = x
      · have e : putAcc n (a, false) x = (a ++ [n], true) := by simp [putAcc, show x ≥ n by omega, h2]
        rw [e, putFold_true n l _ (fun y hy => by have := h'.1 y hy; omega), if_neg h1, if_pos h2, h2]
        simp [putFin]
      · have e : putAcc n (a, false) x = (a ++ [x], false) := by simp [putAcc, show ¬ n ≤ x by omega, show x ≠ n by omega]
        rw [e, if_neg h1, if_neg h2]
        have := putFold_ins n l (a ++ [x]) h'.2
        simpa using this

theorem putR_ins {l : List Int} {n : Int} (h : l.Pairwise (· < ·)) : putR l n = ins n l := by
  have := putFold_ins n l [] h
  simpa [putR] using this

theorem RPut_ok {S : List Nat} {w : World} {s : Sl} {l : List Int} {n : Int} {K : Sl → World → Prop} (h : Rd S w s l) (hl : l.length ≤ 100000)
    (hk : ∀ s' B w', BufU w' s' (putR l n) B → Fr [] w w' → (∀ b ∈ B, w.heap.size ≤ b) → K s' w') :
    call Try.prog 34 [.slice s.a s.len s.cap, .int .u32 n] [.one .slice] w K := by
  refine cashbookref08_Put_of (l := s) ?_
  unfold cashbookref08_PutF
  have hlen := h.1
  refine Own.new (Own.start [] w) fun b0 w1 e0 s0 ho => ?_
  have hB0 : BufU w1 ⟨some ⟨b0, 0, none⟩, 0, 0⟩ [] [b0] := Buf.fresh encU_len (ho.at (i := 0) rfl) rfl (Nat.le_refl _) (by simp) (by simp)
  have key : ∀ {w2 : World}, Fr [] w w2 → ∀ {s2 : Sl} {l2 : List Int} {B2 : List Nat}, BufU w2 s2 l2 B2 → (∀ b ∈ B2, w.heap.size ≤ b) → l2.length ≤ 300000 → ∀ {x : Int} {T : TypeId} {K : Sl → World → Prop},
      (∀ s' B' w', BufU w' s' (l2 ++ [x]) B' → Fr [] w w' → (∀ b ∈ B', w.heap.size ≤ b) → K s' w') →
      Pt.new (.cells #[.int .u32 x] T) w2 fun r w1 => Pt.run [Ty1.one Cell.slice] ((Builtin.append_ #[44, 44] 44 #[.slice s2.a s2.len s2.cap, .slice (some ⟨r, 0, none⟩) 1 1]).run Try.prog w1) K := by
    intro w2 f2 s2 l2 B2 hb hB hl2 x T K kk
    refine pushU hb (by omega) fun s' B' w' g1 g2 g3 => kk s' B' w' g1 (f2.trans' g2 fun i hi => .inr (hB i hi)) (fun b hb => ?_)
    rcases g3 b hb with h | h
    · exact hB b h
    · have := f2.size; omega
  refine loop_ind (fun x w' => ∃ (i : Nat) (B : List Nat), x.2.2 = i ∧ i ≤ l.length ∧ BufU w' x.1 ((l.take i).foldl (putAcc n) ([], false)).1 B ∧ x.2.1 = ((l.take i).foldl (putAcc n) ([], false)).2 ∧ Fr [] w w' ∧ ∀ b ∈ B, w.heap.size ≤ b) (fun x _ => ((l.length : Int) - x.2.2).toNat)
    ⟨0, [b0], rfl, by omega, by simpa using hB0, rfl, ho.fr, fun b hb => by simp at hb; omega⟩ ?_
  rintro ⟨sa, da, ia⟩ w2 ⟨i, B, hi0, hi, hb, hd, hf, hB⟩ X hX
  simp only at hi0 hb hd
  subst hi0
  have hh : Rd S w2 s l := h.frame0 hf
  dsimp only
  generalize hacc : (l.take i).foldl (putAcc n) ([], false) = acc at hb hd
  have hacclen : acc.1.length ≤ 2 * i := by
    have := putFold_len n (l.take i) ([], false)
    rw [hacc, List.length_take] at this
    simp at this
    omega
  refine cond_of (fun hc => ?_) (fun hc => ?_)
  · have hil : i < l.length := by have := of_decide_eq_true hc; omega
    have hget := List.getElem?_eq_getElem hil
    have hnext : (l.take (i + 1)).foldl (putAcc n) ([], false) = putAcc n acc l[i] := by
      rw [List.take_succ_eq_append_getElem hil, List.foldl_append, hacc]; rfl
    -- what the first part leaves
    refine join_mid (fun (x : Sl × Bool) w' => ∃ B, BufU w' x.1 (putAcc n acc l[i]).1 B ∧ x.2 = (putAcc n acc l[i]).2 ∧ Fr [] w w' ∧ ∀ b ∈ B, w.heap.size ≤ b) ?_ ?_
    · refine join_mid (fun (x : Sl × Bool) w' => ∃ B, BufU w' x.1 (if !acc.2 && decide (l[i] ≥ n) then (acc.1 ++ [n], true) else acc).1 B ∧ x.2 = (if !acc.2 && decide (l[i] ≥ n) then (acc.1 ++ [n], true) else acc).2 ∧ Fr [] w w' ∧ ∀ b ∈ B, w.heap.size ≤ b) ?_ ?_
      · refine join_mid (fun x w' => x = (!acc.2 && decide (l[i] ≥ n)) ∧ w' = w2) ?_ ?_
        · rw [hd]
          refine cond_of (fun hc => ?_) (fun hc => ?_)
          · refine Rd.at hh i rfl hget ⟨?_, rfl⟩
            rw [hc, Bool.true_and]
          · exact ⟨by rw [hc]; rfl, rfl⟩
        · rintro x w' ⟨rfl, rfl⟩
          refine cond_of (fun hc => ?_) (fun hc => ?_)
          · rw [if_pos hc]
            exact key hf hb hB (by omega) fun s' B' w' g1 g2 g3 => ⟨B', g1, rfl, g2, g3⟩
          · rw [if_neg (by rw [hc]; simp)]
            exact ⟨B, hb, hd, hf, hB⟩
      · rintro ⟨s3, d3⟩ w3 ⟨B3, h3, hd3, f3, hB3⟩
        simp only at h3 hd3
        have hh3 : Rd S w3 s l := h.frame0 f3
        refine Rd.at hh3 i rfl hget ?_
        generalize hacc3 : (if !acc.2 && decide (l[i] ≥ n) then (acc.1 ++ [n], true) else acc) = acc3 at h3 hd3
        have hl3 : acc3.1.length ≤ 2 * i + 1 := by rw [← hacc3]; split <;> (try rw [List.length_append, List.length_singleton]) <;> omega
        have hput : putAcc n acc l[i] = (if l[i] ≠ n then acc3.1 ++ [l[i]] else acc3.1, acc3.2) := by unfold putAcc; rw [hacc3]
        rw [hput]
        refine cond_of (fun hc => ?_) (fun hc => ?_)
        · have hne : l[i] ≠ n := by simpa using hc
          refine Rd.at hh3 i rfl hget ?_
          rw [if_pos hne]
          exact key f3 h3 hB3 (by omega) fun s' B' w' g1 g2 g3 => ⟨B', g1, hd3, g2, g3⟩
        · have hne : ¬ l[i] ≠ n := by simpa using hc
          rw [if_neg hne]
          exact ⟨B3, h3, hd3, f3, hB3⟩
    · rintro ⟨s4, d4⟩ w4 ⟨B4, h4, hd4, f4, hB4⟩
      rw [wi _ (by omega)]
      exact hX _ _ ⟨i + 1, B4, by simp, by omega, by rw [hnext]; exact h4, by rw [hnext]; exact hd4, f4, hB4⟩ (by dsimp only; omega)
  · have hil : i = l.length := by have := of_decide_eq_false hc; omega
    subst hil
    rw [List.take_length] at hacc
    have hput : putR l n = if !acc.2 then acc.1 ++ [n] else acc.1 := by unfold putR; rw [hacc]; rfl
    refine join_mid (fun s' w' => ∃ B, BufU w' s' (putR l n) B ∧ Fr [] w w' ∧ ∀ b ∈ B, w.heap.size ≤ b) ?_ (fun s' w' ⟨B', g1, g2, g3⟩ => hk s' B' w' g1 g2 g3)
    rw [hd, hput]
    refine cond_of (fun hc => ?_) (fun hc => ?_)
    · rw [if_pos hc]
      exact key hf hb hB (by omega) fun s' B' w' g1 g2 g3 => ⟨B', g1, g2, g3⟩
    · rw [if_neg (by rw [hc]; simp)]
      exact ⟨B, hb, hf, hB⟩

end Go.Proofs.Ytmmldfipakcmaaa
