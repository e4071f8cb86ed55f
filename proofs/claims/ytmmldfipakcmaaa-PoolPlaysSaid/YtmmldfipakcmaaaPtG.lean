/- Code and functions: the evaluator is sound against the model. No condition. -/
import Derived.Test.YtmmldfipakcmaaaPtF
set_option linter.unusedVariables false
namespace Go.Pt
open Go

variable {P : Program} {n : Nat} {e : Env} {a : Act} {w : World}

/-! ### What a drawn order is -/
theorem backward_spec {ops : List Oper} (h : backward ops = true) {i : Nat} {o : Oper} (ho : ops[i]? = some o) {x : Edge} (hx : x ∈ o.after) (hb : Region.binds .any x = true) : x.on < i := by
  unfold backward at h
  rw [List.all_eq_true] at h
  have hm : (o, i) ∈ ops.zipIdx := by
    rw [List.mem_zipIdx_iff_getElem?]
    simpa using ho
  have := h (o, i) hm
  simp only [Array.all_eq_true'] at this
  have := this x hx
  simp only [hb, Bool.not_true, Bool.false_or] at this
  exact Nat.le_of_ble_eq_true this

theorem predsOk_spec {ops : List Oper} {b : Array Nat} (h : predsOk ops b = true) {x y : Nat} {o : Oper} (ho : ops[x]? = some o) (hy : y < ops.length) (hb : isBefore b y x = true) :
    ∃ e ∈ o.after, Region.binds .any e = true ∧ (e.on = y ∨ isBefore b y e.on = true) := by
  unfold predsOk at h
  rw [List.all_eq_true] at h
  have hm : (o, x) ∈ ops.zipIdx := by
    rw [List.mem_zipIdx_iff_getElem?]
    simpa using ho
  have := h (o, x) hm
  rw [List.all_eq_true] at this
  have := this y (by simpa using hy)
  simp only [hb, Bool.not_true, Bool.false_or, Array.any_eq_true', Bool.and_eq_true, Bool.or_eq_true] at this
  obtain ⟨e, he, h1, h2⟩ := this
  exact ⟨e, he, h1, h2.imp Nat.eq_of_beq_eq_true id⟩

/-- Each thing's edges lead to what stands ahead of it. -/
def Topo (ops : List Oper) (listed : Nat → Prop) (L : List Nat) : Prop :=
  ∀ pre x post, L = pre ++ x :: post → ∀ o, ops[x]? = some o → ∀ e ∈ o.after, Region.binds .any e = true → listed e.on ∨ e.on ∈ pre

theorem topo_before {ops : List Oper} {b : Array Nat} {L : List Nat} (hB : backward ops = true) (hp : predsOk ops b = true) (hT : Topo ops (fun _ => False) L) (hL : ∀ i ∈ L, i < ops.length) (y : Nat) (hy : y < ops.length) :
    ∀ (k x : Nat), x < k → ∀ pre post, L = pre ++ x :: post → isBefore b y x = true → y ∈ pre
  | 0, x, hx, _, _, _, _ => by omega
  | k + 1, x, hx, pre, post, hL', hb => by
    have hxl : x < ops.length := hL x (by simp [hL'])
    obtain ⟨o, ho⟩ : ∃ o, ops[x]? = some o := ⟨ops[x], by simp [hxl]⟩
    obtain ⟨e, he, hbi, h⟩ := predsOk_spec hp ho hy hb
    have hin := (hT pre x post hL' o ho e he hbi).resolve_left (fun h => h)
    rcases h with rfl | h
    · exact hin
    · obtain ⟨p1, p2, rfl, _⟩ := mem_split hin
      have hlt := backward_spec hB ho he hbi
      have := topo_before hB hp hT hL y hy k e.on (by omega) p1 (p2 ++ x :: post) (by simp [hL']) h
      exact List.mem_append_left _ this

theorem ready_iff {ops : Array Oper} {listed : Array Bool} {i : Nat} : i ∈ Region.ready .any ops listed ↔ listed.getD i true = false ∧ ∃ o, ops[i]? = some o ∧ ∀ e ∈ o.after, Region.binds .any e = true → listed.getD e.on false = true := by
  simp only [Region.ready, List.mem_filter, List.mem_range, Bool.and_eq_true, Bool.not_eq_true']
  constructor
  · rintro ⟨hi, h1, h2⟩
    refine ⟨h1, ops[i], by simp [hi], ?_⟩
    simp only [Array.getElem?_eq_getElem hi, Option.map_some, Option.getD_some, Array.all_eq_true', Bool.or_eq_true, Bool.not_eq_true'] at h2
    intro e he hb
    rcases h2 e he with h | h
    · rw [hb] at h; cases h
    · exact h
  · rintro ⟨h1, o, ho, h2⟩
    have hi : i < ops.size := by
      rcases Nat.lt_or_ge i ops.size with h | h
      · exact h
      · simp [Array.getElem?_eq_none h] at ho
    refine ⟨hi, h1, ?_⟩
    simp only [ho, Option.map_some, Option.getD_some, Array.all_eq_true', Bool.or_eq_true, Bool.not_eq_true']
    intro e he
    cases hb : Region.binds .any e with
    | false => exact .inl rfl
    | true => exact .inr (h2 e he hb)

/-- How many are not listed yet. -/
def unl (listed : Array Bool) (k : Nat) : Nat := ((List.range k).filter fun i => !listed.getD i true).length

theorem unl_set {listed : Array Bool} {i : Nat} (hi : listed.getD i true = false) : ∀ k, i < k → unl (listed.setIfInBounds i true) k + 1 = unl listed k := by
  intro k
  have hlt : i < listed.size := by
    rcases Nat.lt_or_ge i listed.size with h | h
    · exact h
    · simp [Array.getElem?_eq_none h] at hi
  have heq : ∀ j, (listed.setIfInBounds i true).getD j true = if j = i then true else listed.getD j true := by
    intro j
    by_cases hj : j = i
    · subst hj; simp [hlt]
    · rw [if_neg hj, getD_set_ne true (fun h => hj h.symm)]
  induction k with
  | zero => intro h; omega
  | succ k ih =>
    intro hk
    unfold unl at ih ⊢
    rw [List.range_succ, List.filter_append, List.filter_append, List.length_append, List.length_append]
    by_cases hki : k = i
    · subst hki
      have h1 : ∀ j ∈ List.range k, (!(listed.setIfInBounds k true).getD j true) = !listed.getD j true := fun j hj => by
        rw [heq j, if_neg (by have := List.mem_range.1 hj; omega)]
      rw [List.filter_congr h1]
      simp only [List.filter_cons, List.filter_nil, heq k, if_true, hi]
      simp
    · have := ih (by omega)
      simp only [List.filter_cons, List.filter_nil, heq k, if_neg hki]
      omega

theorem unl_pos {listed : Array Bool} {k : Nat} (h : 0 < unl listed k) : ∃ i, i < k ∧ listed.getD i true = false ∧ ∀ j, j < i → listed.getD j true = true := by
  induction k with
  | zero => simp [unl] at h
  | succ k ih =>
    by_cases hk : 0 < unl listed k
    · obtain ⟨i, h1, h2⟩ := ih hk
      exact ⟨i, by omega, h2⟩
    · have h0 : unl listed k = 0 := by omega
      have hall : ∀ j, j < k → listed.getD j true = true := by
        intro j hj
        unfold unl at h0
        have : (List.range k).filter (fun i => !listed.getD i true) = [] := List.eq_nil_of_length_eq_zero h0
        have := List.filter_eq_nil_iff.1 this j (List.mem_range.2 hj)
        simpa using this
      refine ⟨k, by omega, ?_, hall⟩
      unfold unl at h h0
      rw [List.range_succ, List.filter_append, List.length_append] at h
      rw [h0] at h
      simp only [List.filter_cons, List.filter_nil, Nat.zero_add] at h
      cases hk : listed.getD k true with
      | false => rfl
      | true => rw [hk] at h; simp at h

theorem lin_spec {ops : List Oper} (hB : backward ops = true) : ∀ (fuel t : Nat) (listed : Array Bool), listed.size = ops.length → unl listed ops.length ≤ fuel →
    ∃ L, Region.linearise.go .any ops.toArray fuel t listed [] = L ∧ L.Nodup ∧ (∀ i, i ∈ L ↔ i < ops.length ∧ listed.getD i true = false) ∧ Topo ops (fun j => listed.getD j false = true) L := by
  intro fuel
  induction fuel with
  | zero =>
    intro t listed hs hu
    refine ⟨[], by simp [Region.linearise.go], List.nodup_nil, fun i => ⟨fun h => (by cases h), fun ⟨h1, h2⟩ => ?_⟩, ?_⟩
    · exfalso
      have : i ∈ (List.range ops.length).filter fun i => !listed.getD i true := List.mem_filter.2 ⟨List.mem_range.2 h1, by simp [h2]⟩
      have h0 : ((List.range ops.length).filter fun i => !listed.getD i true) = [] := List.eq_nil_of_length_eq_zero (by unfold unl at hu; omega)
      rw [h0] at this; cases this
    · intro pre x post h; simp at h
  | succ fuel ih =>
    intro t listed hs hu
    simp only [Region.linearise.go]
    have hrs : ((List.range ops.toArray.size).filter fun i => !listed.getD i true && ((ops.toArray[i]?).map (·.after.all fun e => !Region.binds .any e || listed.getD e.on false)).getD false) = Region.ready .any ops.toArray listed := rfl
    rw [hrs]
    by_cases hr : Region.ready .any ops.toArray listed = []
    · -- nothing is left
      have hnone : ∀ i, i < ops.length → listed.getD i true = true := by
        intro i hi
        cases hli : listed.getD i true with
        | true => rfl
        | false =>
          exfalso
          have hpos : 0 < unl listed ops.length := by
            unfold unl
            exact List.length_pos_of_mem (List.mem_filter.2 ⟨List.mem_range.2 hi, by simp [hli]⟩)
          obtain ⟨j, hj, hj0, hjall⟩ := unl_pos hpos
          have : j ∈ Region.ready .any ops.toArray listed := by
            rw [ready_iff]
            refine ⟨hj0, ops[j], by simp [hj], fun e he hb => ?_⟩
            have hlt := backward_spec hB (show ops[j]? = some ops[j] by simp [hj]) he hb
            have := hjall e.on hlt
            have hlt2 : e.on < listed.size := by omega
            simp only [Array.getD_eq_getD_getElem?, Array.getElem?_eq_getElem hlt2, Option.getD_some] at this ⊢
            exact this
          rw [hr] at this; cases this
      refine ⟨[], by simp [hr], List.nodup_nil, fun i => ⟨fun h => (by cases h), fun ⟨h1, h2⟩ => ?_⟩, ?_⟩
      · rw [hnone i h1] at h2; cases h2
      · intro pre x post h; simp at h
    · have hlen : 0 < (Region.ready .any ops.toArray listed).length := List.length_pos_iff.2 hr
      have hmod : t % (Region.ready .any ops.toArray listed).length < (Region.ready .any ops.toArray listed).length := Nat.mod_lt _ hlen
      rw [List.getElem?_eq_getElem hmod]
      simp only
      generalize hi : (Region.ready .any ops.toArray listed)[t % (Region.ready .any ops.toArray listed).length] = i
      have hmem : i ∈ Region.ready .any ops.toArray listed := by rw [← hi]; exact List.getElem_mem _
      obtain ⟨h1, o, ho, h2⟩ := ready_iff.1 hmem
      have hilt : i < ops.length := by
        rcases Nat.lt_or_ge i ops.length with h | h
        · exact h
        · simp [List.getElem?_eq_none h] at ho
      rw [linearise_go_acc]
      have hu' := unl_set h1 ops.length hilt
      obtain ⟨L, hL, hnd, hm, hT⟩ := ih (t / (Region.ready .any ops.toArray listed).length) (listed.setIfInBounds i true) (by simpa using hs) (by omega)
      have heq : ∀ j, (listed.setIfInBounds i true).getD j true = if j = i then true else listed.getD j true := by
        intro j
        by_cases hj : j = i
        · subst hj
          have : j < listed.size := by omega
          simp [this]
        · rw [if_neg hj, getD_set_ne true (fun h => hj h.symm)]
      refine ⟨i :: L, by rw [hL]; simp, List.nodup_cons.2 ⟨fun hin => ?_, hnd⟩, fun j => ?_, ?_⟩
      · have := ((hm i).1 hin).2
        rw [heq i, if_pos rfl] at this; cases this
      · rw [List.mem_cons, hm j, heq j]
        constructor
        · rintro (rfl | ⟨hj1, hj2⟩)
          · exact ⟨hilt, h1⟩
          · by_cases hji : j = i
            · rw [if_pos hji] at hj2; cases hj2
            · rw [if_neg hji] at hj2; exact ⟨hj1, hj2⟩
        · rintro ⟨hj1, hj2⟩
          by_cases hji : j = i
          · exact .inl hji
          · exact .inr ⟨hj1, by rw [if_neg hji]; exact hj2⟩
      · intro pre x post hsplit ox hox e he hb
        cases pre with
        | nil =>
          simp only [List.nil_append, List.cons.injEq] at hsplit
          obtain ⟨rfl, rfl⟩ := hsplit
          have : o = ox := by
            have ho' : ops[i]? = some o := by simpa using ho
            rw [ho'] at hox; exact Option.some.inj hox
          subst this
          exact .inl (h2 e he hb)
        | cons z pre =>
          simp only [List.cons_append, List.cons.injEq] at hsplit
          obtain ⟨rfl, rfl⟩ := hsplit
          rcases hT pre x post rfl ox hox e he hb with h | h
          · by_cases hei : e.on = i
            · exact .inr (by simp [hei])
            · rw [getD_set_ne false (fun h => hei h.symm)] at h
              exact .inl h
          · exact .inr (List.mem_cons_of_mem _ h)

theorem cover_spec {b : Array Nat} : ∀ (k : Nat) (rem : List Nat) (seqs : List (List Nat)) (σ : List Nat), cover b k rem seqs = true → σ.Nodup → (∀ i, i ∈ σ ↔ i ∈ rem) →
    (∀ pre x post, σ = pre ++ x :: post → ∀ y ∈ post, isBefore b y x = false) → σ ∈ seqs
  | 0, rem, seqs, σ, h, _, hm, _ => by
    simp only [cover, Bool.and_eq_true, List.isEmpty_iff] at h
    obtain ⟨rfl, h2⟩ := h
    have : σ = [] := List.eq_nil_iff_forall_not_mem.2 fun i hi => by have := (hm i).1 hi; cases this
    subst this
    simpa using h2
  | k + 1, rem, seqs, σ, h, hn, hm, hb => by
    simp only [cover, Bool.or_eq_true, Bool.and_eq_true, List.isEmpty_iff, Bool.not_eq_true'] at h
    rcases h with ⟨rfl, h2⟩ | ⟨h1, h2⟩
    · have : σ = [] := List.eq_nil_iff_forall_not_mem.2 fun i hi => by have := (hm i).1 hi; cases this
      subst this
      simpa using h2
    · cases σ with
      | nil =>
        exfalso
        cases rem with
        | nil => simp at h1
        | cons r rs => have := (hm r).2 (by simp); cases this
      | cons x σ =>
        have hx : x ∈ rem := (hm x).1 (by simp)
        rw [List.all_eq_true] at h2
        have h3 := h2 x hx
        have hno : (rem.any fun y => !(Nat.beq y x) && isBefore b y x) = false := by
          rw [List.any_eq_false]
          intro y hy
          simp only [Bool.and_eq_true, Bool.not_eq_true', not_and]
          intro hyx
          have hyne : y ≠ x := fun e => by subst e; simp at hyx
          have hyσ : y ∈ σ := by
            rcases List.mem_cons.1 ((hm y).2 hy) with h | h
            · exact absurd h hyne
            · exact h
          simp [hb [] x σ rfl y hyσ]
        rw [hno, Bool.false_or] at h3
        have hxn := List.nodup_cons.1 hn
        have hm' : ∀ i, i ∈ σ ↔ i ∈ rem.filter fun y => !(Nat.beq y x) := by
          intro i
          rw [List.mem_filter]
          constructor
          · intro hi
            refine ⟨(hm i).1 (by simp [hi]), ?_⟩
            have : i ≠ x := fun e => hxn.1 (e ▸ hi)
            cases hq : Nat.beq i x with
            | false => rfl
            | true => exact absurd (Nat.eq_of_beq_eq_true hq) this
          · rintro ⟨h5, h6⟩
            rcases List.mem_cons.1 ((hm i).2 h5) with rfl | h
            · simp at h6
            · exact h
        have := cover_spec k _ _ σ h3 hxn.2 hm' (fun pre z post hs => hb (x :: pre) z post (by simp [hs]))
        unfold tailsOf at this
        rw [List.mem_filterMap] at this
        obtain ⟨s, hs, hsσ⟩ := this
        cases s with
        | nil => cases hsσ
        | cons y t =>
          simp only at hsσ
          cases hyx : Nat.beq y x with
          | true =>
            rw [hyx] at hsσ
            simp only [cond_true, Option.some.injEq] at hsσ
            have := Nat.eq_of_beq_eq_true hyx
            subst this; subst hsσ
            exact hs
          | false => rw [hyx] at hsσ; simp at hsσ

theorem runCans_mem {ops : List Oper} {b : Array Nat} {K : Env → World → Prop} : ∀ {orders : List (List Nat)} {e : Env} {w : World}, runCans (std P) P ops b K orders e w → ∀ C ∈ orders, runCan (std P) P ops b K C [] e w
  | [], _, _, _, _, h => by cases h
  | [o], _, _, h, C, hC => by simp at hC; subst hC; exact h
  | o :: p :: r, _, _, h, C, hC => by
    rcases List.mem_cons.1 hC with rfl | hC
    · exact h.1
    · exact runCans_mem (orders := p :: r) h.2 C hC

/-- A region that draws its order. -/
theorem draw_sound {id : Nat} {ops : List Oper} {orders : List (List Nat)} {K : Env → World → Prop} {Q : Exit → Act → World → Prop} {wr : Nat → Bool}
    (hm : P.follows .mixedOrders = true) (hok : drawOk P ops orders = true) (hd : dstsLt n ops = true) (hw : ∀ o ∈ ops, ∀ d, o.dst = some d → wr d = true)
    (h : runCans (std P) P ops (preds ops) K orders e w.drew) (hr : Rel n e a) (hQ : ∀ e' a' w', K e' w' → Rel n e' a' → Keeps wr a a' → Q .normal a' w') :
    (Code.region id ops.toArray true).wp P Q a w := by
  refine wp_region_draw fun t => ?_
  simp only [Region.schedule, hm, Bool.true_or, if_true, Region.linearise]
  simp only [drawOk, Bool.and_eq_true, List.all_eq_true] at hok
  obtain ⟨⟨⟨⟨hB, hp⟩, hns⟩, hall⟩, hcov⟩ := hok
  have hun : unl (Array.replicate ops.toArray.size false) ops.length ≤ ops.toArray.size := by
    unfold unl
    refine Nat.le_trans (List.length_filter_le _ _) ?_
    simp
  obtain ⟨L, hL, hnd, hmem, hT⟩ := lin_spec hB ops.toArray.size t (Array.replicate ops.toArray.size false) (by simp) hun
  rw [hL]
  have hmem' : ∀ i, i ∈ L ↔ i < ops.length := by
    intro i
    rw [hmem i]
    constructor
    · exact fun h => h.1
    · intro hi; exact ⟨hi, by simp [hi]⟩
  have hT' : Topo ops (fun _ => False) L := fun pre x post hs o ho e he hb => by
    rcases hT pre x post hs o ho e he hb with h | h
    · exfalso
      simp only [Array.getD_eq_getD_getElem?, Array.getElem?_replicate] at h
      split at h <;> simp at h
    · exact .inr h
  have hbef : ∀ pre x post, L = pre ++ x :: post → ∀ y ∈ post, isBefore (preds ops) y x = false := by
    intro pre x post hs y hy
    cases hb : isBefore (preds ops) y x with
    | false => rfl
    | true =>
      exfalso
      have hyl : y < ops.length := (hmem' y).1 (by simp [hs, hy])
      have := topo_before hB hp hT' (fun i hi => (hmem' i).1 hi) y hyl (x + 1) x (by omega) pre post hs hb
      rw [hs] at hnd
      rw [List.nodup_append] at hnd
      exact hnd.2.2 y this y (List.mem_cons_of_mem _ hy) rfl
  have hσ : effsOf P ops L ∈ orders.map (effsOf P ops) := by
    refine cover_spec _ _ _ _ hcov (hnd.filter _) (fun i => ?_) ?_
    · simp only [effsOf, List.mem_filter, List.mem_range, hmem']
    · intro pre x post hs y hy
      -- lift the split to L
      have hlift : ∀ (l : List Nat) (f : Nat → Bool) (pre : List Nat) (x : Nat) (post : List Nat), l.filter f = pre ++ x :: post → ∃ p q, l = p ++ x :: q ∧ ∀ y ∈ post, y ∈ q := by
        intro l f
        induction l with
        | nil => intro pre x post h; simp at h
        | cons z l ih =>
          intro pre x post h
          by_cases hz : f z = true
          · rw [List.filter_cons_of_pos hz] at h
            cases pre with
            | nil =>
              simp only [List.nil_append, List.cons.injEq] at h
              obtain ⟨rfl, h⟩ := h
              exact ⟨[], l, rfl, fun y hy => (List.mem_filter.1 (h ▸ hy)).1⟩
            | cons p pre =>
              simp only [List.cons_append, List.cons.injEq] at h
              obtain ⟨rfl, h⟩ := h
              obtain ⟨p', q, hq, hh⟩ := ih pre x post h
              exact ⟨z :: p', q, by simp [hq], hh⟩
          · rw [List.filter_cons_of_neg hz] at h
            obtain ⟨p', q, hq, hh⟩ := ih pre x post h
            exact ⟨z :: p', q, by simp [hq], hh⟩
      obtain ⟨p, q, hpq, hh⟩ := hlift L _ pre x post hs
      exact hbef p x q hpq y (hh y hy)
  obtain ⟨C, hC, hCe⟩ := List.mem_map.1 hσ
  have hCa := hall C hC
  obtain ⟨⟨⟨c1, c2⟩, c3⟩, c4⟩ := hCa
  have c3' := nodupB_spec c3
  have hCm : ∀ i, i ∈ C ↔ i < ops.length := by
    intro i
    constructor
    · intro hi; exact Nat.le_of_ble_eq_true (c2 i hi)
    · intro hi
      obtain ⟨j, hj, hij⟩ := List.any_eq_true.1 (c1 i (List.mem_range.2 hi))
      exact (Nat.eq_of_beq_eq_true hij) ▸ hj
  have hrun := runCans_mem h C hC
  have hcan := canA_of_runCan (Q := Q) (a0 := a) hd hw hQ C [] [] e a w.drew (fun x w' h => h) hrun hr (Keeps.refl _ _)
  exact canA_sched hns L C a w.drew hnd c3' (fun i => by rw [hmem' i, hCm i]) c4 hCe.symm hbef hcan

/-! ### Code -/
/-- A loop's body, with the loop behind it. -/
def LoopWp (P : Program) (c : Code) (Q : Exit → Act → World → Prop) (a : Act) (w : World) : Prop :=
  ∀ (b : Frame) (k : List Item) (cs : List Frame), ∃ e a' w', Q e a' w' ∧ Arrives P (lone (b.at a (.code c :: .inLoop c :: k)) cs w) b k cs e a' w'

theorem LoopWp.loop {c : Code} {Q : Exit → Act → World → Prop} {a : Act} {w : World} (h : LoopWp P c Q a w) : (Code.loop c).wp P Q a w :=
  fun b k cs => let ⟨e, a', w', q, r⟩ := h b k cs; ⟨e, a', w', q, .of_steps (.one step_loop) r⟩

theorem LoopWp.unroll {c : Code} {Q : Exit → Act → World → Prop} {a : Act} {w : World} (h : c.wp P (Exit.then (fun a w => LoopWp P c Q a w) Q) a w) : LoopWp P c Q a w := by
  intro b k cs
  obtain ⟨e, a₁, w₁, hq, harr⟩ := h b (.inLoop c :: k) cs
  cases e with
  | normal =>
    obtain ⟨e₂, a₂, w₂, hq₂, harr₂⟩ := hq b k cs
    exact ⟨e₂, a₂, w₂, hq₂, .of_steps (Steps.trans harr (.one step_inLoop)) harr₂⟩
  | exit id => exact ⟨_, a₁, w₁, hq, .pass (x := .inLoop c) rfl (fun _ _ => .inl (by simp)) harr⟩
  | goto l => exact ⟨_, a₁, w₁, hq, .pass (x := .inLoop c) rfl (fun _ _ => .inl (by simp)) harr⟩
  | ret => exact ⟨_, a₁, w₁, hq, .pass (x := .inLoop c) rfl (fun _ _ => .inl (by simp)) harr⟩
  | panic ch => exact ⟨_, a₁, w₁, hq, .pass (x := .inLoop c) rfl (fun _ _ => .inl (by simp)) harr⟩
  | outgrown => exact ⟨_, a₁, w₁, hq, .pass (x := .inLoop c) rfl (fun _ _ => .inl (by simp)) harr⟩

def PC.fits (P : Program) (n : Nat) : PC → Bool
  | .skip => true
  | .region _ ops => dstsLt n ops
  | .draw _ ops orders => dstsLt n ops && drawOk P ops orders && P.follows .mixedOrders
  | .seq a b => a.fits P n && b.fits P n
  | .join _ a b => a.fits P n && b.fits P n
  | .cond _ a b => a.fits P n && b.fits P n
  | .block _ b => b.fits P n
  | .loop _ b => b.fits P n
  | .exit _ => true
  | .ret => true
  | .other _ => true

def PExit.to : PExit → Exit
  | .normal => .normal
  | .exit id => .exit id
  | .ret => .ret

theorem get_append : ∀ (e1 e2 : Env) (t : Nat), (e1 ++ e2 : Env).get t = match e1.get t with | some v => some v | none => e2.get t
  | [], e2, t => rfl
  | (k, v) :: r, e2, t => by
    show Env.get ((k, v) :: (r ++ e2)) t = _
    rw [Env.get_put, Env.get_put]
    by_cases h : k = t
    · simp [h]
    · simp [h, get_append r e2 t]

theorem get_keep : ∀ (e : Env) (wr : Nat → Bool) (t : Nat), (e.keep wr).get t = if wr t = true then none else e.get t
  | [], wr, t => by simp [Env.keep, Env.get]
  | (k, v) :: r, wr, t => by
    simp only [Env.keep]
    cases hk : wr k with
    | true =>
      simp only [cond_true]
      rw [get_keep r wr t, Env.get_put]
      by_cases h : k = t
      · subst h; simp [hk]
      · simp [h]
    | false =>
      simp only [cond_false]
      rw [Env.get_put, Env.get_put, get_keep r wr t]
      by_cases h : k = t
      · subst h; simp [hk]
      · simp [h]

/-- The state that was read off is there. -/
theorem bld_proj : ∀ {live : Live} {e : Env} {s : StOf live}, projR live e = some s → ∀ t v, (bldR live s).get t = some v → e.get t = some v
  | [], _, _, _, t, v, h => by simp [bldR, Env.get] at h
  | [(k, y)], e, s, hp, t, v, h => by
    simp only [projR] at hp
    split at hp
    · rename_i u hu
      simp only [bldR] at h
      rw [Env.get_put] at h
      by_cases hk : k = t
      · subst hk
        simp only [if_true, Option.some.injEq] at h
        rw [← h, hu, Ty1.mk_un hp]
      · simp [hk, Env.get] at h
    · cases hp
  | (k, y) :: p :: r, e, s, hp, t, v, h => by
    simp only [projR] at hp
    split at hp
    · rename_i u hu
      split at hp
      · rename_i x hx
        split at hp
        · rename_i z hz
          cases hp
          simp only [bldR] at h
          rw [Env.get_put] at h
          by_cases hk : k = t
          · subst hk
            simp only [if_true, Option.some.injEq] at h
            rw [← h, hu, Ty1.mk_un hx]
          · simp only [hk, if_false] at h
            exact bld_proj (live := p :: r) hz t v h
        · cases hp
      · cases hp
    · cases hp

/-- What stands in the state, and what was not written: both are in the frame. -/
theorem rel_state {live : Live} {e0 e' : Env} {a0 a' : Act} {wr : Nat → Bool} {s : StOf live} (h0 : Rel n e0 a0) (h' : Rel n e' a') (hk : Keeps wr a0 a') (hp : projR live e' = some s) :
    Rel n (bldR live s ++ e0.keep wr) a' := by
  refine ⟨h'.size, h'.defers, fun t v hv => ?_⟩
  rw [get_append] at hv
  split at hv
  · rename_i u hu
    cases hv
    exact h'.get t v (bld_proj hp t v hu)
  · rw [get_keep] at hv
    by_cases hw : wr t = true
    · simp [hw] at hv
    · rw [if_neg hw] at hv
      rw [hk t (by simpa using hw)]
      exact h0.get t v hv

theorem code_sound : ∀ (c : PC) (Q : PPost) (e : Env) (a : Act) (w : World) (Q' : Exit → Act → World → Prop), c.fits P n = true → c.pt (std P) P Q e w → Rel n e a →
    (∀ x e' a' w', Q x e' w' → Rel n e' a' → Keeps c.wr a a' → Q' x.to a' w') → c.erase.wp P Q' a w
  | .skip, Q, e, a, w, Q', _, h, hr, hQ => wp_skip (hQ .normal e a w h hr (Keeps.refl _ _))
  | .region id ops, Q, e, a, w, Q', hf, h, hr, hQ => by
    refine wp_region_list ?_
    exact ops_sound (wr := opsWr ops) ops e a w h hr hf (fun o ho d hd => opsWr_mem ho hd) (Keeps.refl _ _) (fun e' a' w' hk hr' hkeep => hQ .normal e' a' w' hk hr' hkeep)
  | .draw id ops orders, Q, e, a, w, Q', hf, h, hr, hQ => by
    simp only [PC.fits, Bool.and_eq_true] at hf
    exact draw_sound (wr := opsWr ops) hf.2 hf.1.2 hf.1.1 (fun o ho d hd => opsWr_mem ho hd) h hr (fun e' a' w' hk hr' hkeep => hQ .normal e' a' w' hk hr' hkeep)
  | .seq x y, Q, e, a, w, Q', hf, h, hr, hQ => by
    simp only [PC.fits, Bool.and_eq_true] at hf
    refine wp_seq (code_sound x _ e a w _ hf.1 h hr ?_)
    intro z e1 a1 w1 hz hr1 hk1
    cases z with
    | normal =>
      refine code_sound y Q e1 a1 w1 Q' hf.2 hz hr1 (fun z e2 a2 w2 hz2 hr2 hk2 => hQ z e2 a2 w2 hz2 hr2 ?_)
      exact hk1.trans hk2 (fun t ht => by simpa [PC.wr] using ht)
    | exit id => exact hQ (.exit id) e1 a1 w1 hz hr1 (hk1.mono (fun t ht => by simp [PC.wr] at ht; exact ht.1))
    | ret => exact hQ .ret e1 a1 w1 hz hr1 (hk1.mono (fun t ht => by simp [PC.wr] at ht; exact ht.1))
  | .join live x y, Q, e, a, w, Q', hf, h, hr, hQ => by
    simp only [PC.fits, Bool.and_eq_true] at hf
    obtain ⟨Mid, hX, hY⟩ := h
    refine wp_seq (code_sound x _ e a w _ hf.1 hX hr ?_)
    intro z e1 a1 w1 hz hr1 hk1
    cases z with
    | normal =>
      simp only [PPost.withNormal] at hz
      split at hz
      · rename_i s hs
        refine code_sound y Q _ a1 w1 Q' hf.2 (hY s w1 hz) (rel_state hr hr1 hk1 hs) (fun z e2 a2 w2 hz2 hr2 hk2 => hQ z e2 a2 w2 hz2 hr2 ?_)
        exact hk1.trans hk2 (fun t ht => by simpa [PC.wr] using ht)
      · exact hz.elim
    | exit id => exact hQ (.exit id) e1 a1 w1 hz hr1 (hk1.mono (fun t ht => by simp [PC.wr] at ht; exact ht.1))
    | ret => exact hQ .ret e1 a1 w1 hz hr1 (hk1.mono (fun t ht => by simp [PC.wr] at ht; exact ht.1))
  | .cond c x y, Q, e, a, w, Q', hf, h, hr, hQ => by
    simp only [PC.fits, Bool.and_eq_true] at hf
    simp only [PC.pt] at h
    split at h
    · rename_i b hb
      cases b with
      | true => exact wp_cond_true (hr.ev hb) (code_sound x Q e a w Q' hf.1 h hr (fun z e1 a1 w1 hz hr1 hk1 => hQ z e1 a1 w1 hz hr1 (hk1.mono (fun t ht => by simp [PC.wr] at ht; exact ht.1))))
      | false => exact wp_cond_false (hr.ev hb) (code_sound y Q e a w Q' hf.2 h hr (fun z e1 a1 w1 hz hr1 hk1 => hQ z e1 a1 w1 hz hr1 (hk1.mono (fun t ht => by simp [PC.wr] at ht; exact ht.2))))
    · exact h.elim
  | .block id body, Q, e, a, w, Q', hf, h, hr, hQ => by
    refine wp_block (code_sound body _ e a w _ hf h hr ?_)
    intro z e1 a1 w1 hz hr1 hk1
    cases z with
    | normal => exact hQ .normal e1 a1 w1 hz hr1 hk1
    | exit j =>
      simp only at hz
      simp only [PExit.to, Exit.inBlock]
      cases hj : Nat.beq j id with
      | true =>
        rw [hj] at hz
        rw [if_pos (Nat.eq_of_beq_eq_true hj)]
        exact hQ .normal e1 a1 w1 hz hr1 hk1
      | false =>
        rw [hj] at hz
        rw [if_neg (fun hq => by subst hq; simp at hj)]
        exact hQ (.exit j) e1 a1 w1 hz hr1 hk1
    | ret => exact hQ .ret e1 a1 w1 hz hr1 hk1
  | .loop live body, Q, e, a, w, Q', hf, h, hr, hQ => by
    simp only [PC.pt] at h
    split at h
    · rename_i s0 hs0
      have key := h (fun s w1 => ∀ a1, Rel n (bldR live s ++ e.keep (fun t => body.wr t)) a1 → Keeps body.wr a a1 → LoopWp P body.erase Q' a1 w1) ?_
      · exact LoopWp.loop (key a (rel_state hr hr (Keeps.refl _ _) hs0) (Keeps.refl _ _))
      · intro s w1 hB a1 hr1 hk1
        refine LoopWp.unroll (code_sound body _ _ a1 w1 _ hf hB hr1 ?_)
        intro z e2 a2 w2 hz hr2 hk2
        have hk : Keeps body.wr a a2 := hk1.trans hk2 (fun t ht => ⟨ht, ht⟩)
        cases z with
        | normal =>
          simp only [PPost.withNormal] at hz
          split at hz
          · rename_i s' hs'
            exact hz a2 (rel_state hr hr2 hk hs') hk
          · exact hz.elim
        | exit id => exact hQ (.exit id) e2 a2 w2 hz hr2 hk
        | ret => exact hQ .ret e2 a2 w2 hz hr2 hk
    · exact h.elim
  | .exit id, Q, e, a, w, Q', _, h, hr, hQ => wp_exit (hQ (.exit id) e a w h hr (Keeps.refl _ _))
  | .ret, Q, e, a, w, Q', _, h, hr, hQ => wp_ret (hQ .ret e a w h hr (Keeps.refl _ _))
  | .other c, Q, e, a, w, Q', _, h, _, _ => h.elim

/-! ### Functions -/
theorem toPC_erase : ∀ (c : Code) (as : List Ann), (toPC c as).1.erase = c
  | .skip, as => rfl
  | .region id ops draw, as => by
    cases draw with
    | false => simp [toPC, PC.erase]
    | true =>
      simp only [toPC]
      split
      · simp [PC.erase]
      · rfl
  | .seq a b, as => by
    simp only [toPC]
    split
    · simp only [PC.erase, toPC_erase a, toPC_erase b]
    · simp only [PC.erase, toPC_erase a, toPC_erase b]
    · rfl
  | .cond c a b, as => by simp only [toPC, PC.erase, toPC_erase a, toPC_erase b]
  | .block id b, as => by simp only [toPC, PC.erase, toPC_erase b]
  | .loop b, as => by
    simp only [toPC]
    split
    · simp only [PC.erase, toPC_erase b]
    · rfl
  | .rangeFunc f ps x y, as => rfl
  | .exit id, as => rfl
  | .scope b, as => rfl
  | .label l, as => rfl
  | .goto l, as => rfl
  | .ret, as => rfl
  | .refuse s, as => rfl

theorem unVals_spec : ∀ {ts : List Ty1} {vs : List Value} {x : ElR ts}, unRes.unVals ts vs = some x → ElR.vals ts x = vs
  | [], [], _, _ => rfl
  | [], _ :: _, _, h => by simp [unRes.unVals] at h
  | [t], [v], x, h => by simp only [unRes.unVals] at h; simp only [ElR.vals, Ty1.mk_un h]
  | [t], [], x, h => by simp [unRes.unVals] at h
  | [t], _ :: _ :: _, x, h => by simp [unRes.unVals] at h
  | t :: u :: ts, [], x, h => by simp [unRes.unVals] at h
  | t :: u :: ts, v :: vs, x, h => by
    simp only [unRes.unVals] at h
    split at h
    · rename_i y hy
      split at h
      · rename_i z hz
        cases h
        simp only [ElR.vals, Ty1.mk_un hy, unVals_spec hz]
      · cases h
    · cases h

theorem unRes_spec {ts : List Ty1} {v : Value} {x : ElR ts} (h : unRes ts v = some x) (hv : ts = [] → v = .tuple #[]) : resVal ts x = v := by
  match ts, x, h with
  | [], x, h => simp [resVal, hv rfl]
  | [t], x, h => exact Ty1.mk_un h
  | t :: u :: ts, x, h =>
    cases v <;> simp only [unRes] at h <;> try (cases h; done)
    rename_i vs
    simp only [resVal, unVals_spec h]

def stepRes (tmps : Array Value) : ResultVar → Sem Value
  | .tmp t => pure (tmps.getD t undef)
  | .cell a t => do loadVar t (← asAddr (tmps.getD a undef))

theorem resPt_sound {R : List Value → Prop} : ∀ (rvs : List ResultVar) (e : Env) (a : Act) (w : World) (K : List Value → Prop), resPt (std P) P rvs e w K → Rel n e a →
    ∃ vs, (rvs.mapM (stepRes a.tmps)).run P w = .ok vs w ∧ vs.length = rvs.length ∧ K vs
  | [], e, a, w, K, h, hr => ⟨[], by simp, rfl, h⟩
  | .tmp t :: r, e, a, w, K, h, hr => by
    simp only [resPt] at h
    split at h
    · rename_i v hv
      obtain ⟨vs, h1, h2, h3⟩ := resPt_sound (R := R) r e a w _ h hr
      exact ⟨v :: vs, by simp [List.mapM_cons, stepRes, h1, ← hr.get t v hv], by simp [h2], h3⟩
    · exact h.elim
  | .cell ad t :: r, e, a, w, K, h, hr => by
    simp only [resPt] at h
    split at h
    · rename_i p hp
      have hp' := hr.get _ _ hp
      split at h
      · rename_i c hcell
        cases hok : !okT P t with
        | true => simp only [hok, cond_true] at h
        | false =>
          simp only [hok, cond_false] at h
          obtain ⟨hi1, hi2⟩ := okT_info hok
          cases hag : isAggT P t with
          | true => simp only [hag, cond_true] at h
          | false =>
            simp only [hag, cond_false] at h
            obtain ⟨y, hy, hk⟩ := h
            obtain ⟨vs, h1, h2, h3⟩ := resPt_sound (R := R) r e a w _ hk hr
            exact ⟨_ :: vs, by simp [List.mapM_cons, stepRes, hp', asAddr, loadVar, run_isAgg hi2, hag, hy, h1], by simp [h2], h3⟩
      · rename_i cs hcells
        cases hg : isAggT P t && Nat.beq (sizeT P t) cs.length with
        | false => simp only [hg, cond_false] at h
        | true =>
          simp only [hg, cond_true] at h
          simp only [Bool.and_eq_true] at hg
          obtain ⟨hag, hsz⟩ := hg
          have hsz' := Nat.eq_of_beq_eq_true hsz
          obtain ⟨y, hy, hk⟩ := h
          have hlen : (HL.mk cs y).length = cs.length := HL.mk_length cs y
          have hsome : (P.info? t).isSome = true := by
            cases hi : P.info? t with
            | none =>
              have : (P.underlying t).isSome = true := isAggT_some hag
              simp [Program.underlying, hi] at this
            | some i => rfl
          obtain ⟨vs, h1, h2, h3⟩ := resPt_sound (R := R) r e a w _ hk hr
          have hl := run_loadCells_at (P := P) (HL.mk cs y) 0 #[] w hy
          rw [hlen, ← hsz'] at hl
          exact ⟨_ :: vs, by simp [List.mapM_cons, stepRes, hp', asAddr, loadVar, run_isAgg (isAggT_some hag), hag, run_sizeOf' hsome, loadCells, hl, h1], by simp [h2], h3⟩
    · exact h.elim

theorem results_eq (fn : Func) (tmps : Array Value) : results fn tmps = (do let vs ← fn.results.mapM (stepRes tmps); Pure.pure (if h : vs.size = 1 then vs[0] else .tuple vs)) := by
  unfold results
  congr 1

theorem argEnv_get : ∀ (args : List Value) (i t : Nat) (v : Value), (argEnv i args).get t = some v → ∃ j, t = i + j ∧ args[j]? = some v
  | [], i, t, v, h => by simp [argEnv, Env.get] at h
  | u :: r, i, t, v, h => by
    simp only [argEnv] at h
    rw [Env.get_put] at h
    by_cases hi : i = t
    · subst hi
      simp at h
      exact ⟨0, by simp, by simp [h]⟩
    · simp [hi] at h
      obtain ⟨j, hj, hv⟩ := argEnv_get r (i + 1) t v h
      exact ⟨j + 1, by omega, by simpa using hv⟩

/-- **A function's form is sound.** -/
theorem calls_of_fnPt {f : FuncId} {fn : Func} {an : List Ann} {ts : List Ty1} {args : List Value} {w : World} {K : ElR ts → World → Prop}
    (hf : P.funcs[f]? = some fn)
    (hfit : (match fn.body with | some c => (toPC c an).1.fits P fn.ntmps && Nat.ble args.length fn.ntmps && (!ts.isEmpty || fn.results.isEmpty) | none => false) = true)
    (h : fnPt (std P) P fn an ts args K w) : call P f args ts w K := by
  unfold fnPt at h
  split at h
  · rename_i c hb
    simp only [hb, Bool.and_eq_true] at hfit
    obtain ⟨⟨hfit, hlen⟩, hts⟩ := hfit
    have hlen' : args.length ≤ fn.ntmps := Nat.le_of_ble_eq_true hlen
    unfold call
    refine calls_of_wp hf hb ?_
    have hrel : Rel fn.ntmps (argEnv 0 args) { tmps := args.toArray ++ Array.replicate (fn.ntmps - args.toArray.size) undef, defers := [] } := by
      refine ⟨by simp; omega, rfl, fun t v hv => ?_⟩
      obtain ⟨j, hj, hv'⟩ := argEnv_get args 0 t v hv
      have hjl : j < args.length := by
        rcases Nat.lt_or_ge j args.length with h | h
        · exact h
        · simp [List.getElem?_eq_none h] at hv'
      have : t = j := by omega
      subst this
      rw [List.getElem?_eq_getElem hjl] at hv'
      simp [Array.getElem?_append, hjl]
      exact Option.some.inj hv'
    have hs := code_sound (n := fn.ntmps) (toPC c an).1 _ _ _ w (bodyPost P fn fun e w' => ∃ x : ElR ts, e = .returned (resVal ts x) ∧ K x w') hfit h hrel ?_
    · rw [toPC_erase] at hs
      exact hs
    · intro x e' a' w' hx hr' _
      have fin : ∀ (hres : resPt (std P) P fn.results.toList e' w' (fun vs => match unRes ts (oneOf vs) with | some x => K x w' | none => False)),
          a'.defers = [] ∧ ∃ v, (results fn a'.tmps).run P w' = .ok v w' ∧ ∃ x : ElR ts, Ending.returned v = .returned (resVal ts x) ∧ K x w' := by
        intro hres
        obtain ⟨vs, h1, h2, h3⟩ := resPt_sound (R := fun _ => True) fn.results.toList e' a' w' _ hres hr'
        split at h3
        · rename_i y hy
          refine ⟨hr'.defers, oneOf vs, ?_, y, ?_, h3⟩
          · rw [results_eq]
            have hmm : (fn.results.mapM (stepRes a'.tmps)).run P w' = .ok vs.toArray w' := by
              rw [Array.mapM_eq_mapM_toList]
              simp [h1]
            simp only [Sem.run_bind, hmm, Result.andThen_ok]
            match vs with
            | [] => simp [oneOf]
            | [v] => simp [oneOf]
            | v :: u :: vs => simp [oneOf]
          · rw [unRes_spec hy]
            intro h0
            subst h0
            simp at hts
            have : vs = [] := by
              have : vs.length = 0 := by rw [h2]; simp [hts]
              exact List.eq_nil_of_length_eq_zero this
            subst this
            rfl
        · exact h3.elim
      cases x with
      | normal => exact fin hx
      | ret => exact fin hx
      | exit id => exact hx.elim
  · exact h.elim

end Go.Pt
