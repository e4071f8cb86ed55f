/- Whatever numbers are put in, they are taken out rising, each once. Conditions: those that stand in each line. -/
import Derived.Test.YtmmldfipakcmaaaPlG
set_option linter.unusedVariables false
set_option linter.unusedSimpArgs false
namespace Go.Proofs.Ytmmldfipakcmaaa
open Go Go.Pt Go.Sort
attribute [local irreducible] ld ldA st new idx idxS idxA slc slcS slcP mkS chk nn call callV inv run runQ runU join loop held IntKind.wrap

def insAll (l : List Int) : List Int := l.foldl (fun a n => ins n a) []

theorem mem_ins {x : Int} : ∀ {l : List Int}, x ∈ ins x l
  | [] => by simp [ins]
  | a :: l => by
    simp only [ins]
    split
    · simp
    · split
      · simp [*]
      · simp [mem_ins (l := l)]

theorem ins_of_mem {x y : Int} : ∀ {l : List Int}, y ∈ l → y ∈ ins x l
  | a :: l, h => by
    simp only [ins]
    split
    · simp only [List.mem_cons] at h ⊢; exact .inr h
    · split
      · exact h
      · simp only [List.mem_cons] at h ⊢
        rcases h with h | h
        · exact .inl h
        · exact .inr (ins_of_mem h)

theorem insFold_mem : ∀ (l a : List Int) (y : Int), (y ∈ l ∨ y ∈ a) → y ∈ l.foldl (fun a n => ins n a) a
  | [], a, y, h => by rcases h with h | h; cases h; exact h
  | x :: l, a, y, h => by
    rw [List.foldl_cons]
    apply insFold_mem l
    rcases h with h | h
    · rcases List.mem_cons.1 h with rfl | h
      · exact .inr mem_ins
      · exact .inl h
    · exact .inr (ins_of_mem h)

theorem ins_len (x : Int) : ∀ l : List Int, (ins x l).length ≤ l.length + 1
  | [] => by simp [ins]
  | a :: l => by
    simp only [ins]
    split
    · simp
    · split
      · simp
      · have := ins_len x l; simp; omega

theorem insAll_len (l : List Int) : (insAll l).length ≤ l.length := by
  have : ∀ (l a : List Int), (l.foldl (fun a n => ins n a) a).length ≤ a.length + l.length := by
    intro l
    induction l with
    | nil => intro a; simp
    | cons x l ih =>
      intro a
      rw [List.foldl_cons, List.length_cons]
      have := ih (ins x a)
      have := ins_len x a
      omega
  have := this l []
  simpa [insAll] using this

theorem insAll_succ {l : List Int} {i : Nat} (hi : i < l.length) : insAll (l.take (i + 1)) = ins l[i] (insAll (l.take i)) := by
  rw [List.take_succ_eq_append_getElem hi, insAll, List.foldl_append]; rfl

theorem PoolSorts_ok {w : World} {ls : Sl} {l : List Int} {K : Bool → World → Prop} (ho : Rd [] w ls l) (hk : ∀ w', Fr [] w w' → K true w') :
    call Try.prog 6 [.slice ls.a ls.len ls.cap] [.one .bool] w K := by
  refine cashbooklaw08_PoolSorts_of (l := ls) ?_
  unfold cashbooklaw08_PoolSortsF
  have hlen := ho.1
  refine cond_of (fun hc => ?_) (fun hc => ?_)
  · exact fixed08_ok fun w' f => hk w' f
  have hle : l.length ≤ 300 := by have := of_decide_eq_false hc; omega
  refine New_ok fun pb F0 w0 h0 f0 n0 => ?_
  refine cond_false rfl ?_
  refine loop_ind (fun x w' => ∃ (i : Nat) (F : List Nat), x.2 = i ∧ i ≤ l.length ∧ x.1 = ((insAll (l.take i)).length : Int) ∧ PoolAt w' pb F (insAll (l.take i)) ∧ Fr [] w w' ∧ ∀ b ∈ F, w.heap.size ≤ b) (fun x _ => ((l.length : Int) - x.2).toNat)
    ⟨0, F0, rfl, by omega, rfl, h0, f0, n0⟩ ?_
  rintro ⟨fr, ii⟩ w2 ⟨i, F, hi0, hi, hfr, h2, f2, n2⟩ X hX
  simp only at hi0 hfr
  subst hi0 hfr
  have hL := insAll_len (l.take i)
  rw [List.length_take] at hL
  refine cond_of (fun hc => ?_) (fun hc => ?_)
  · have hil : i < l.length := by have := of_decide_eq_true hc; omega
    refine join_mid (fun x w' => ∃ F, x = ((insAll (l.take (i + 1))).length : Int) ∧ PoolAt w' pb F (insAll (l.take (i + 1))) ∧ Fr [] w w' ∧ ∀ b ∈ F, w.heap.size ≤ b) ?_ ?_
    · refine Rd.at (ho.frame0 f2) i rfl (List.getElem?_eq_getElem hil) ?_
      refine Put_ok h2 (by omega) fun F3 w3 h3 f3 n3 => ?_
      rw [← insAll_succ hil] at h3
      have hmid : Fr [] w w3 ∧ ∀ b ∈ F3, w.heap.size ≤ b := ⟨f2.trans' f3 (fun b hb => .inr (n2 b hb)), new_of n2 f2.size n3⟩
      refine cond_of (fun hc => ?_) (fun hc => ?_)
      · have hn : l[i] ∉ insAll (l.take i) := of_decide_eq_true hc
        have := (ins_perm hn).length_eq
        rw [List.length_cons] at this
        rw [wi _ (by omega)]
        exact ⟨F3, by rw [insAll_succ hil, this]; rfl, h3, hmid⟩
      · have hn : l[i] ∈ insAll (l.take i) := by have := of_decide_eq_false hc; simpa using this
        refine ⟨F3, ?_, h3, hmid⟩
        rw [insAll_succ hil, ins_same h2.sorted hn]
    · rintro x w3 ⟨F3, rfl, h3, f3, n3⟩
      rw [wi _ (by omega)]
      exact hX _ _ ⟨i + 1, F3, by simp, by omega, rfl, h3, f3, n3⟩ (by dsimp only; omega)
  have hil : i = l.length := by have := of_decide_eq_false hc; omega
  subst hil
  rw [List.take_length] at h2 hL ⊢
  generalize hLL : insAll l = L at h2 hL ⊢
  have hall : ∀ n ∈ l, n ∈ L := fun n hn => by rw [← hLL]; exact insFold_mem l [] n (.inl hn)
  refine List_ok h2 (by omega) fun s3 w3 t3 f3 => ?_
  have h3 := h2.frame f3 (fun _ _ h => by cases h)
  have r3 : Rd F w3 s3 L := told_rd t3 h2.lt
  have hs3 := r3.1
  refine join_mid (fun b w' => b = false ∧ w' = w3) ?_ ?_
  · refine cond_false (by rw [hs3]; simp) ?_
    refine Len_ok' h3 ⟨by simp, rfl⟩
  rintro b w' ⟨rfl, rfl⟩
  refine cond_false rfl ?_
  have f3' := f2.trans f3
  have hsort := h2.sorted
  refine loop_ind (fun x w'' => ∃ (i : Nat) (F' : List Nat), x = i ∧ i ≤ L.length ∧ PoolAt w'' pb F' (L.drop i) ∧ Rd F' w'' s3 L ∧ Fr [] w w'' ∧ ∀ b ∈ F', w.heap.size ≤ b) (fun x _ => ((L.length : Int) - x).toNat)
    ⟨0, F, rfl, by omega, by simpa using h3, r3, f3', n2⟩ ?_
  rintro x w4 ⟨i, F4, rfl, hi, h4, r4, f4, n4⟩ X2 hX2
  refine cond_of (fun hc => ?_) (fun hc => ?_)
  · have hil : i < L.length := by have := of_decide_eq_true hc; omega
    have hdrop : L.drop i = L[i] :: L.drop (i + 1) := List.drop_eq_getElem_cons hil
    refine Rd.at r4 i rfl (List.getElem?_eq_getElem hil) ?_
    rw [hdrop] at h4
    refine Take_ok h4 (by simp; omega) fun F5 w5 h5 f5 n5 => ?_
    have r5 : Rd F5 w5 s3 L := r4.frame f5 n5
    have hpw := List.pairwise_iff_getElem.1 hsort
    have hnot : L[i] ∉ L.drop (i + 1) := by
      intro hm
      obtain ⟨j, hj, he⟩ := List.getElem_of_mem hm
      rw [List.getElem_drop] at he
      have := hpw i (i + 1 + j) hil (by simp at hj; omega) (by omega)
      omega
    have hhas : ∀ {K : Bool → World → Prop}, K false w5 → call Try.prog 24 [.pointer (some ⟨pb, 0, none⟩), .int .u32 L[i]] [.one .bool] w5 K := fun k => by
      refine Has_ok h5 ?_
      have e : decide (L[i] ∈ (takeV (L[i] :: L.drop (i + 1))).2) = false := by rw [decide_eq_false_iff_not]; exact hnot
      rw [e]; exact k
    refine join_mid (fun b w' => b = false ∧ w' = w5) ?_ ?_
    · refine cond_false rfl ?_
      refine cond_false (by simp [takeV]) ?_
      refine cond_of (fun hc => ?_) (fun hc => ?_)
      · have hi0 : 0 < i := by have := of_decide_eq_true hc; omega
        rw [wi _ (by omega)]
        refine Rd.at r5 (i - 1) (by omega) (List.getElem?_eq_getElem (show i - 1 < L.length by omega)) ?_
        have := hpw (i - 1) i (by omega) hil (by omega)
        refine cond_false (by rw [decide_eq_false_iff_not]; omega) ?_
        exact hhas ⟨rfl, rfl⟩
      · exact hhas ⟨rfl, rfl⟩
    · rintro b w' ⟨rfl, rfl⟩
      refine cond_false rfl ?_
      rw [wi _ (by omega)]
      exact hX2 _ _ ⟨i + 1, F5, by simp, by omega, h5, r5, f4.trans' f5 (fun b hb => .inr (n4 b hb)), new_of n4 f4.size n5⟩ (by omega)
  have hil : i = L.length := by have := of_decide_eq_false hc; omega
  subst hil
  rw [List.drop_length] at h4
  refine loop_ind (fun x w'' => ∃ (i : Nat), x = i ∧ i ≤ l.length ∧ w'' = w4) (fun x _ => ((l.length : Int) - x).toNat) ⟨0, rfl, by omega, rfl⟩ ?_
  rintro x w5 ⟨j, rfl, hj, rfl⟩ X3 hX3
  refine cond_of (fun hc => ?_) (fun hc => ?_)
  · have hjl : j < l.length := by have := of_decide_eq_true hc; omega
    refine Rd.at (ho.frame0 f4) j rfl (List.getElem?_eq_getElem hjl) ?_
    refine RHas_ok r4 (by omega) ?_
    refine cond_false (by rw [decide_eq_true (hall _ (List.getElem_mem hjl))]; rfl) ?_
    rw [wi _ (by omega)]
    exact hX3 _ _ ⟨j + 1, by simp, by omega, rfl⟩ (by omega)
  · refine Take_ok h4 (by simp) fun F6 w6 h6 f6 n6 => ?_
    refine fixed08_ok fun w7 f7 => ?_
    refine cond_true rfl ?_
    exact hk w7 ((f4.trans' f6 (fun b hb => .inr (n4 b hb))).trans f7)

end Go.Proofs.Ytmmldfipakcmaaa
