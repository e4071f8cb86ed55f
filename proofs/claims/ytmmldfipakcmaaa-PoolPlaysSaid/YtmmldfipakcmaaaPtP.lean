/- Arguments that are slices: what their reading gives. Conditions: those that stand in each line. -/
import Derived.Test.YtmmldfipakcmaaaPtK
import Derived.Test.YtmmldfipakcmaaaPtO
import Derived.Deep.Slices
set_option linter.unusedVariables false
namespace Go.Pt
open Go Go.RowKit Go.ChangeShapes

section
variable {H : Type} {enc : TypeId × Value → H} {P : Program} {w : World} {base : Nat} {spare : Nat → Bool} {held : Bool}

theorem wf_has {k : IntKind} {n : Int} (h : (Lit.int k n).wf = true) : k.has n := by
  have h' : k.min ≤ n ∧ n ≤ k.max := by simpa [Lit.wf] using h
  exact h'

theorem trod_cell {t : TypeId} {n : Nat} {v : Value} {y : DataW H × List MemPlace} {c : Cell} (hc : cellT P t = c) (h : DataW.trod enc P w base spare held n t [v] = some y) : ∃ x : c.El, v = c.mk x ∧ CFit c x := by
  unfold cellT at hc
  split at hc <;> subst hc
  · rename_i k hu
    obtain ⟨m, hm, _, hw⟩ := DataW.trod_int hu h
    simp only [List.cons.injEq, and_true] at hm
    exact ⟨m, hm, wf_has hw⟩
  · rename_i hu
    obtain ⟨m, hm, _⟩ := DataW.trod_bool hu h
    simp only [List.cons.injEq, and_true] at hm
    exact ⟨m, hm, trivial⟩
  · rename_i hu
    obtain ⟨s, hm, _, hs⟩ := DataW.trod_string hu h
    simp only [List.cons.injEq, and_true] at hm
    exact ⟨s, hm, by have : maxLen = 9223372036854775807 := rfl; show (s.size : Int) ≤ 9223372036854775807; omega⟩
  · rename_i e hu
    cases n with
    | zero => simp [DataW.trod] at h
    | succ n =>
      unfold DataW.trod at h
      rw [hu] at h
      split at h <;> simp_all
      · exact ⟨none, rfl⟩
      · exact ⟨_, rfl⟩
  · rename_i e hu
    rcases DataW.trod_slice hu h with ⟨hm, _⟩ | ⟨a, len, cap, _, _, _, _, hm, _, _, hl, hc, _⟩
    · simp only [List.cons.injEq, and_true] at hm
      exact ⟨⟨none, 0, 0⟩, hm, Nat.le_refl _, by decide, fun _ => rfl⟩
    · simp only [List.cons.injEq, and_true] at hm
      exact ⟨⟨some a, len, cap⟩, hm, hl, by have : maxLen = 9223372036854775807 := rfl; show (cap : Int) ≤ 9223372036854775807; omega, fun e => by cases e⟩
  · rename_i k e hu
    cases n with
    | zero => simp [DataW.trod] at h
    | succ n =>
      unfold DataW.trod at h
      rw [hu] at h
      split at h <;> simp_all
      · exact ⟨none, rfl⟩
      · exact ⟨_, rfl⟩
  · exact ⟨v, rfl, trivial⟩

theorem pick_list {β : Type} {R : Nat → β → Prop} : ∀ n, (∀ i, i < n → ∃ x, R i x) → ∃ l : List β, l.length = n ∧ ∀ (i : Nat) x, l[i]? = some x → R i x
  | 0, _ => ⟨[], rfl, fun i x h => by simp at h⟩
  | n + 1, h => by
    obtain ⟨l, hl, hr⟩ := pick_list n (fun i hi => h i (by omega))
    obtain ⟨x, hx⟩ := h n (by omega)
    refine ⟨l ++ [x], by simp [hl], fun i y hy => ?_⟩
    by_cases hi : i < n
    · rw [List.getElem?_append_left (by omega)] at hy
      exact hr i y hy
    · have : i < n + 1 := by have := (List.getElem?_eq_some_iff.1 hy).1; simp at this; omega
      have e : i = n := by omega
      subst e
      rw [List.getElem?_append_right (by omega)] at hy
      simp [hl] at hy
      subst hy
      exact hx

/-- A slice that is read: its elements, each with what the reading says of it. -/
theorem trod_rows {t e : TypeId} {n : Nat} {s : Sl} {y : DataW H × List MemPlace} {β : Type} {encB : β → List Value} {k : Nat} {Q : β → Prop} (ht : P.underlying t = some (.slice e)) (hce : P.cellsOf e = k) (hpos : 0 < k)
    (elem : ∀ n cells y, DataW.trod enc P w base spare held n e cells = some y → ∃ x : β, cells = encB x ∧ Q x) (h : DataW.trod enc P w base spare held n t [.slice s.a s.len s.cap] = some y) :
    ∃ l : List β, Rds encB k [] w s l ∧ ∀ x ∈ l, Q x := by
  rcases Go.Deep.open_slice ht h with ⟨hm, _⟩ | ⟨a, len, cap, m, n', D, Pl, hm, _, hl, hc, hmm, _, hx⟩
  · simp only [List.cons.injEq, Value.slice.injEq, and_true] at hm
    obtain ⟨h1, h2, h3⟩ := hm
    exact ⟨[], ⟨by rw [h2]; rfl, by omega, .inl rfl⟩, fun x hx => by cases hx⟩
  · simp only [List.cons.injEq, Value.slice.injEq, and_true] at hm
    obtain ⟨h1, h2, h3⟩ := hm
    have hlm : len ≤ m := by rw [hmm]; split <;> omega
    have hcells : ∀ i, i < len → ∃ x : β, w.cells? base (a.add (i * k)) k = some (encB x) ∧ Q x := fun i hi => by
      obtain ⟨cs', g1, g2⟩ := hx i (by omega)
      obtain ⟨x, rfl, hq⟩ := elem _ _ _ g2
      rw [hce] at g1
      exact ⟨x, g1, hq⟩
    obtain ⟨l, hll, hlr⟩ := pick_list len hcells
    refine ⟨l, ⟨by rw [h2, hll], by omega, ?_⟩, fun x hx => ?_⟩
    · by_cases h0 : l = []
      · exact .inl h0
      · right
        have hl0 : 0 < l.length := List.length_pos_iff.2 h0
        obtain ⟨_, hlen0, hcell0⟩ := World.cells?_some (hlr 0 l[0] (List.getElem?_eq_getElem hl0)).1
        have hc0 := hcell0 0 hpos
        rw [List.getElem?_eq_getElem (by omega)] at hc0
        obtain ⟨b, o, spot⟩ := a
        have hspot : spot = none := by simpa [Addr.add] using World.cell?_spot hc0
        subst hspot
        have hblk : ∃ cs T fr, w.heap[b]? = some (.cells cs T fr) := by
          simp only [Nat.zero_mul, Addr.add_mk] at hc0
          unfold World.cell? at hc0
          split at hc0
          · rename_i c T fr hb
            exact ⟨c, T, fr, hb⟩
          · cases hc0
        obtain ⟨cs, T, fr, hb⟩ := hblk
        refine ⟨b, o, cs, T, fr, h1, hb, by simp, fun i x hx => ?_⟩
        obtain ⟨_, hlen', hcell'⟩ := World.cells?_some (hlr i x hx).1
        apply List.ext_getElem?
        intro j
        rw [List.getElem?_take, List.getElem?_drop]
        by_cases hj : j < k
        · rw [if_pos hj]
          have := hcell' j hj
          rw [Addr.add_mk, Addr.add_mk, cell_of_blk hb] at this
          rw [← this]
          simp
        · rw [if_neg hj, List.getElem?_eq_none (by omega)]
    · obtain ⟨i, hi, rfl⟩ := List.getElem_of_mem hx
      exact (hlr i _ (List.getElem?_eq_getElem hi)).2

theorem elem_int {e : TypeId} {k : IntKind} (he : P.underlying e = some (.int k)) : ∀ n cells y, DataW.trod enc P w base spare held n e cells = some y → ∃ x : Int, cells = [Value.int k x] ∧ k.has x := by
  intro n cells y h
  obtain ⟨m, hm, _, hw⟩ := DataW.trod_int he h
  exact ⟨m, hm, wf_has hw⟩

theorem hl_of_cells : ∀ {ts : List TypeId} {vs : List Value} {cs : List Cell}, ts.map (cellT P) = cs → vs.length = ts.length → (∀ (i : Nat) v, vs[i]? = some v → ∃ u n y, ts[i]? = some u ∧ DataW.trod enc P w base spare held n u [v] = some y) → ∃ x : HL cs, vs = HL.mk cs x ∧ HFit cs x
  | [], vs, cs, hc, hl, h => by
    simp at hc hl
    subst hc hl
    exact ⟨(), rfl, trivial⟩
  | [t], vs, cs, hc, hl, h => by
    simp at hc hl
    subst hc
    match vs, hl with
    | [v], _ =>
      obtain ⟨u, n, y, hu, ho⟩ := h 0 v rfl
      simp at hu
      subst hu
      obtain ⟨x, hx, hf⟩ := trod_cell rfl ho
      exact ⟨x, by rw [hx]; rfl, hf⟩
  | t :: t' :: ts, vs, cs, hc, hl, h => by
    match vs, hl with
    | v :: vs, hl =>
      simp only [List.map_cons] at hc
      subst hc
      obtain ⟨u, n, y, hu, ho⟩ := h 0 v rfl
      simp at hu
      subst hu
      obtain ⟨x, hx, hf⟩ := trod_cell rfl ho
      obtain ⟨y, hy, hg⟩ := hl_of_cells (ts := t' :: ts) (vs := vs) rfl (by simpa using hl) (fun i v hv => by simpa using h (i + 1) v (by simpa using hv))
      exact ⟨(x, y), by rw [hx, hy]; rfl, hf, hg⟩

/-- Fields of one cell each, in order. -/
def flatF (P : Program) : Nat → List Field → Bool
  | _, [] => true
  | i, f :: fs => Nat.beq f.offset i && Nat.beq (P.cellsOf f.type) 1 && flatF P (i + 1) fs

theorem flatF_at {P : Program} : ∀ {fs : List Field} {k : Nat}, flatF P k fs = true → ∀ (i : Nat) f, fs[i]? = some f → f.offset = k + i ∧ P.cellsOf f.type = 1
  | [], k, _, i, f, h => by simp at h
  | g :: fs, k, hf, i, f, h => by
    simp only [flatF, Bool.and_eq_true] at hf
    match i with
    | 0 =>
      simp at h
      subst h
      exact ⟨Nat.eq_of_beq_eq_true hf.1.1, Nat.eq_of_beq_eq_true hf.1.2⟩
    | i + 1 =>
      have := flatF_at hf.2 i f (by simpa using h)
      exact ⟨by omega, this.2⟩

/-- A struct of one-cell fields. -/
theorem elem_struct {e : TypeId} {fs : Array Field} {cs : List Cell} (he : P.underlying e = some (.struct fs)) (hfl : flatF P 0 fs.toList = true) (hce : P.cellsOf e = fs.size) (hcs : fs.toList.map (fun f => cellT P f.type) = cs) :
    ∀ n cells y, DataW.trod enc P w base spare held n e cells = some y → ∃ x : HL cs, cells = HL.mk cs x ∧ (HFit cs x ∧ ∀ (i : Nat) v, (HL.mk cs x)[i]? = some v → ∃ f n y, fs[i]? = some f ∧ DataW.trod enc P w base spare held n f.type [v] = some y) := by
  intro n cells y h
  obtain ⟨xs, m, _, _, hlen, hxl, hf⟩ := DataW.trod_struct he h
  have key : ∀ (i : Nat) v, cells[i]? = some v → ∃ f n y, fs[i]? = some f ∧ DataW.trod enc P w base spare held n f.type [v] = some y := by
    intro i v hv
    have hi : i < fs.size := by have := (List.getElem?_eq_some_iff.1 hv).1; omega
    have hfi : fs[i]? = some fs[i] := by simp [hi]
    obtain ⟨ho, h1⟩ := flatF_at hfl i fs[i] (by simp [hi])
    have := hf i fs[i] hfi
    rw [ho, Nat.zero_add, h1] at this
    have e : (cells.drop i).take 1 = [v] := by
      obtain ⟨hic, rfl⟩ := List.getElem?_eq_some_iff.1 hv
      rw [List.drop_eq_getElem_cons hic]; rfl
    rw [e, List.getElem?_eq_getElem (show i < xs.length by omega)] at this
    exact ⟨_, _, _, hfi, this⟩
  obtain ⟨x, hx, hfit⟩ := hl_of_cells (ts := fs.toList.map (·.type)) (vs := cells) (cs := cs) (by rw [List.map_map]; exact hcs) (by simp; omega) (fun i v hv => by
    obtain ⟨f, n, y, g1, g2⟩ := key i v hv
    exact ⟨f.type, n, y, by simp [g1], g2⟩)
  refine ⟨x, hx, hfit, ?_⟩
  rw [← hx]
  exact key

/-- The cells of a struct of one-cell fields, off the table. -/
def flatT (P : Program) (e : TypeId) : Option (List Cell) :=
  match P.underlying e with
  | some (.struct fs) => bif flatF P 0 fs.toList && Nat.beq (P.cellsOf e) fs.size then some (fs.toList.map (fun f => cellT P f.type)) else none
  | _ => none

def fieldT (P : Program) (e : TypeId) (i : Nat) : Option TypeId :=
  match P.underlying e with
  | some (.struct fs) => (fs[i]?).map (·.type)
  | _ => none

theorem elem_flat {e : TypeId} {cs : List Cell} (hT : flatT P e = some cs) :
    ∀ n cells y, DataW.trod enc P w base spare held n e cells = some y → ∃ x : HL cs, cells = HL.mk cs x ∧ (HFit cs x ∧ ∀ (i : Nat) v, (HL.mk cs x)[i]? = some v → ∃ u n y, fieldT P e i = some u ∧ DataW.trod enc P w base spare held n u [v] = some y) := by
  unfold flatT at hT
  split at hT
  · rename_i fs he
    cases hc : (flatF P 0 fs.toList && Nat.beq (P.cellsOf e) fs.size) with
    | false => rw [hc] at hT; cases hT
    | true =>
      rw [hc] at hT
      simp only [Bool.and_eq_true] at hc
      intro n cells y h
      obtain ⟨x, h1, h2, h3⟩ := elem_struct he hc.1 (Nat.eq_of_beq_eq_true hc.2) (Option.some.inj hT) n cells y h
      refine ⟨x, h1, h2, fun i v hv => ?_⟩
      obtain ⟨f, n, y, g1, g2⟩ := h3 i v hv
      exact ⟨f.type, n, y, by unfold fieldT; rw [he]; simp [g1], g2⟩
  · cases hT
end

end Go.Pt
