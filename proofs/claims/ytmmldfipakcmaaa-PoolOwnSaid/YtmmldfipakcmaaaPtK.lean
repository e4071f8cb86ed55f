/- The frame of the laws: arguments as typed values; 'it returns true and all that was there is as it was' gives the claim's post. No condition. -/
import Derived.Test.YtmmldfipakcmaaaPtJ
import Derived.Carry
import Derived.ProofKit
import Derived.OpenShut
set_option linter.unusedVariables false
namespace Go.Pt
open Go Go.RowKit Go.ChangeShapes

/-! ### Arguments -/
def cellT (P : Program) (u : TypeId) : Cell :=
  match P.underlying u with
  | some (.int k) => .int k
  | some .bool => .bool
  | some .string => .str
  | some (.pointer _) => .ptr
  | some (.slice _) => .slice
  | some (.map _ _) => .map
  | _ => .any

@[reducible] def CFit : (c : Cell) → c.El → Prop
  | .int k, n => k.has n
  | .str, s => (s.size : Int) ≤ IntKind.i64.max
  | .slice, s => s.len ≤ s.cap ∧ (s.cap : Int) ≤ IntKind.i64.max ∧ (s.a = none → s.cap = 0)
  | _, _ => True

theorem cell_open {P : Program} {w : World} {r : Reach} {base : Nat} {u : TypeId} {v : Value} {c : Cell} (hc : cellT P u = c) (h : Cell.okWide P w r base u v) : ∃ x : c.El, v = c.mk x ∧ CFit c x := by
  unfold cellT at hc
  split at hc <;> subst hc
  · rename_i k hu
    simp only [Cell.okWide, hu] at h
    cases v <;> simp only [Cell.ok, hu] at h
    rename_i q n
    obtain ⟨rfl, h⟩ := h
    exact ⟨n, rfl, h⟩
  · rename_i hu
    simp only [Cell.okWide, hu] at h
    cases v <;> simp only [Cell.ok, hu] at h
    rename_i b
    exact ⟨b, rfl, trivial⟩
  · rename_i hu
    simp only [Cell.okWide, hu] at h
    cases v <;> simp only [Cell.ok, hu] at h
    rename_i s
    exact ⟨s, rfl, h⟩
  · rename_i e hu
    simp only [Cell.okWide, hu] at h
    cases v <;> simp only [Cell.ok, hu] at h
    rename_i p
    exact ⟨p, rfl, trivial⟩
  · rename_i e hu
    simp only [Cell.okWide, hu] at h
    cases v <;> simp only [Cell.ok, hu] at h
    rename_i a l c
    cases a with
    | none =>
      cases l with
      | succ l => simp at h
      | zero => cases c with
        | succ c => simp at h
        | zero => exact ⟨⟨none, 0, 0⟩, rfl, Nat.le_refl _, by decide, fun _ => rfl⟩
    | some a => exact ⟨⟨some a, l, c⟩, rfl, h.1, h.2.1, fun e => by cases e⟩
  · rename_i k e hu
    simp only [Cell.okWide, hu] at h
    cases v <;> simp only [Cell.ok, hu] at h
    rename_i m
    exact ⟨m, rfl, trivial⟩
  · exact ⟨v, rfl, trivial⟩

def HFit : (cs : List Cell) → HL cs → Prop
  | [], _ => True
  | [c], x => CFit c x
  | c :: d :: cs, x => CFit c x.1 ∧ HFit (d :: cs) x.2

theorem cells_open {P : Program} {w : World} {r : Reach} {base : Nat} : ∀ {ts : List TypeId} {vs : List Value} {cs : List Cell}, ts.map (cellT P) = cs → vs.length = ts.length → (∀ (i : Nat) v, vs[i]? = some v → ∃ u, ts[i]? = some u ∧ Cell.okWide P w r base u v) → ∃ x : HL cs, vs = HL.mk cs x ∧ HFit cs x
  | [], vs, cs, hc, hl, h => by
    simp at hc hl
    subst hc hl
    exact ⟨(), rfl, trivial⟩
  | [t], vs, cs, hc, hl, h => by
    simp at hc hl
    subst hc
    match vs, hl with
    | [v], _ =>
      obtain ⟨u, hu, ho⟩ := h 0 v rfl
      simp at hu
      subst hu
      obtain ⟨x, hx, hf⟩ := cell_open rfl ho
      exact ⟨x, by rw [hx]; rfl, hf⟩
  | t :: t' :: ts, vs, cs, hc, hl, h => by
    match vs, hl with
    | v :: vs, hl =>
      simp only [List.map_cons] at hc
      subst hc
      obtain ⟨u, hu, ho⟩ := h 0 v rfl
      simp at hu
      subst hu
      obtain ⟨x, hx, hf⟩ := cell_open rfl ho
      obtain ⟨y, hy, hg⟩ := cells_open (P := P) (w := w) (r := r) (base := base) (ts := t' :: ts) (vs := vs) rfl (by simpa using hl) (fun i v hv => by simpa using h (i + 1) v (by simpa using hv))
      exact ⟨(x, y), by rw [hx, hy]; rfl, hf, hg⟩

/-- A struct or an array by value. -/
theorem agg_open {P : Program} {w : World} {r : Reach} {base : Nat} {t : TypeId} {v : Value} {cs : List Cell} (ht : isAggT P t = true) (hts : (P.cellTypes P.depth t).map (List.map (cellT P)) = some cs) (hn : P.cellsOf t = cs.length)
    (h : Value.okWide P w r base t v) : ∃ x : HL cs, v = .agg (HL.mk cs x).toArray ∧ HFit cs x := by
  obtain ⟨ts, hts, hc⟩ := Option.map_eq_some_iff.1 hts
  replace hn : P.cellsOf t = ts.length := by rw [hn, ← hc]; simp
  have h' : ∃ cs, v = .agg cs ∧ cs.size = P.cellsOf t ∧ Row.okWide P w r base t cs := by
    unfold Value.okWide at h
    unfold isAggT at ht
    split at h
    · exact h
    · exact h
    · exfalso
      split at ht <;> simp_all
  obtain ⟨vs, rfl, hsz, ts', hts', _, hall⟩ := h'
  rw [hts] at hts'
  cases hts'
  obtain ⟨x, hx, hf⟩ := cells_open (vs := vs.toList) hc (by simpa [hn] using hsz) (fun i v hv => by
    have hv' : vs[i]? = some v := by simpa using hv
    have hi : i < ts.length := by
      rw [← hn, ← hsz]
      rcases Nat.lt_or_ge i vs.size with hl | hl
      · exact hl
      · rw [Array.getElem?_eq_none hl] at hv'; cases hv'
    have := hall i v hv'
    rw [Nat.mod_eq_of_lt hi] at this
    exact this)
  exact ⟨x, by rw [← hx], hf⟩

theorem one_open {P : Program} {w : World} {r : Reach} {base : Nat} {t : TypeId} {v : Value} {c : Cell} (ht : isAggT P t = false) (hc : cellT P t = c) (h : Value.okWide P w r base t v) : ∃ x : c.El, v = c.mk x ∧ CFit c x := by
  refine cell_open hc (w := w) (r := r) (base := base) ?_
  unfold Value.okWide at h
  unfold isAggT at ht
  split at h
  · simp_all
  · simp_all
  · exact h

/-! ### The claim's post -/
theorem Fr.below {w w' : World} (h : Fr [] w w') : Below w.heap.size w w' := ⟨h.os, h.tape, h.output, h.size, fun i hi => h.block i hi (by simp)⟩

section
variable {H : Type} {enc : TypeId × Value → H} {P : Program}

theorem trodAll_stays (hl : laidOutB P = true) {W W' : World} (hb : Below W.heap.size W W') : ∀ {ts : List TypeId} {vs : List Value} {ds : List (DataW H)} {ps : List MemPlace},
    (ts.all fun t => P.readableRec t && decide (t < P.types.size)) = true → DataW.TrodAll enc P W 0 (fun _ => true) true ts vs ds ps → (∀ x ∈ ps, x.block < W.heap.size) →
    DataW.TrodAll enc P W' 0 (fun b => decide (b < W.heap.size)) true ts vs ds ps
  | [], vs, ds, ps, _, h, _ => by
    obtain ⟨rfl, rfl, rfl⟩ := trodAll_nil h
    exact trodAll_mk0
  | t :: ts, vs, ds, ps, hr, h, hlt => by
    simp only [List.all_cons, Bool.and_eq_true, decide_eq_true_eq] at hr
    obtain ⟨v, vs', d, ds', p, p', rfl, rfl, rfl, h1, h2⟩ := trodAll_cons h
    exact trodAll_cons_mk (Below.trod hl hr.1.1 hr.1.2 h1 hb fun x hx => hlt x (List.mem_append_left _ hx))
      (trodAll_stays hl hb (by simpa using hr.2) h2 fun x hx => hlt x (List.mem_append_right _ hx))

/-- A law's post: it returns true; what was there is as it was. -/
theorem law_post {fn : Func} {s : ChangeSpec} {W W' : World} {args : Array Value} {ds gs : List (DataW H)} {before : List MemPlace} {tb : TypeId}
    (hv : s.vars = []) (hW : DataW.Whole enc P fn.params.toList s.vars false W args.toList ds gs before) (hs : (s.fn H ds).results = [.lit (.bool true)] ∧ (s.fn H ds).args = ds ∧ (s.fn H ds).vars = [])
    (hl : laidOutB P = true) (hr : (fn.params.toList.all fun t => P.readableRec t && decide (t < P.types.size)) = true) (hres : fn.resultTypes = #[tb]) (htb : P.underlying tb = some .bool)
    (hb : Below W.heap.size W W') : ChangeSpec.post enc P fn s false true false false W args (.bool true) W' := by
  have hW' := hW
  obtain ⟨p, q, hA, hV, hbe, _, _⟩ := hW
  rw [hv] at hV
  obtain ⟨rfl, rfl⟩ := trodVars_none hV
  obtain ⟨h1, h2, h3⟩ := hs
  rw [← List.append_nil ds] at h1 h2 h3
  refine ⟨ds, [], before, [], p, [], hW', ?_, ?_, ?_, hb.frame _, fun h => by cases h⟩
  · rw [h1, hres]
    exact trodAll_cons_mk (shut_bool htb _) trodAll_mk0
  · rw [h2, List.append_nil]
    exact trodAll_stays hl hb hr hA fun x hx => hW'.lt x (by rw [hbe]; exact List.mem_append_left _ hx)
  · rw [h3, hv]
    exact (rfl : DataW.TrodVars enc P W' (fun b => decide (b < W.heap.size)) [] [] [])
end

end Go.Pt
