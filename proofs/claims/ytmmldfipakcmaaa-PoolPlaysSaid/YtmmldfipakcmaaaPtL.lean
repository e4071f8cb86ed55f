/- Rules for append. Conditions: those that stand in each line. -/
import Derived.Test.YtmmldfipakcmaaaPtI
import Derived.ArgAppend
set_option linter.unusedVariables false
namespace Go.Pt
open Go

variable {P : Program} {w : World}

theorem setCells_upd {b : Nat} {T : TypeId} {fr : Nat × Nat} : ∀ {vs : List Value} {off : Nat} {w : World} {cs : Array Value}, w.heap[b]? = some (.cells cs T fr) → w.setCells b off vs = upd w b (.cells (splice cs off vs) T fr)
  | [], off, w, cs, h => by
    show w = _
    unfold upd splice
    have : w.heap.setIfInBounds b (.cells cs T fr) = w.heap := by
      apply Array.ext_getElem?
      intro i
      rw [Array.getElem?_setIfInBounds]
      by_cases hi : b = i
      · subst hi; rw [if_pos rfl, if_pos (lt_of_blk h), h]
      · simp [hi]
    rw [this]
  | v :: vs, off, w, cs, h => by
    have h1 : w.setCells b off (v :: vs) = (w.setCell ⟨b, off, none⟩ v).setCells b (off + 1) vs := rfl
    rw [h1, setCell_upd h]
    have h2 : (upd w b (.cells (cs.setIfInBounds off v) T fr)).heap[b]? = some (.cells (cs.setIfInBounds off v) T fr) := by
      rw [heap_upd _ _ _ _ (lt_of_blk h), if_pos rfl]
    rw [setCells_upd h2, upd_upd]
    rfl

theorem info_of {t : TypeId} {z : Value} {s b : Nat} (h : (P.info? t).map (fun i => (i.zero, i.size, i.bytes)) = some (some z, s, b)) : ∃ i, P.info? t = some i ∧ i.zero = some z ∧ i.size = s ∧ i.bytes = b := by
  obtain ⟨i, hi, he⟩ := Option.map_eq_some_iff.1 h
  simp only [Prod.mk.injEq] at he
  exact ⟨i, hi, he.1, he.2.1, he.2.2⟩

theorem runQ_of {ts : List Ty1} {r : World → Result Value} {K : ElR ts → Prop} (x : ElR ts) (h : r w = .ok (resVal ts x) w) (k : K x) : runQ ts r w K := ⟨x, h, k⟩
theorem run_of {ts : List Ty1} {r : Result Value} {K : ElR ts → World → Prop} (x : ElR ts) (w' : World) (h : r = .ok (resVal ts x) w') (k : K x w') : Pt.run ts r K := ⟨x, w', h, k⟩
theorem runU_of {r : Result Unit} {K : World → Prop} (w' : World) (h : r = .ok () w') (k : K w') : runU r K := ⟨w', h, k⟩

theorem add_zero' (a : Addr) : a.add 0 = a := by
  cases a with
  | mk b o k => cases k <;> simp [Addr.add]

/-- s[:hi]. -/
theorem slc_hi {s : Sl} {hi : Int} {size : Nat} {K : Sl → Prop} (h : 0 ≤ hi ∧ hi ≤ s.cap) (k : K ⟨s.a, hi.toNat, s.cap⟩) : slc s none (some hi) none size K := by
  unfold slc
  refine ⟨⟨by simp, by simpa using h.1, by simpa using h.2, by simp⟩, ?_⟩
  have e : (s.a.map (·.add ((none : Option Int).getD 0).toNat)) = s.a := by
    cases s.a with
    | none => rfl
    | some a => simp [add_zero']
  simp only [Option.getD_none, Option.getD_some, Int.toNat_zero, Nat.zero_mul, Nat.sub_zero, Int.toNat_natCast] at e ⊢
  rw [e, ite_self]
  exact k

/-- s[lo:], of a slice that is not nil. -/
theorem slc_lo {b o len cap : Nat} {lo : Int} {size : Nat} {K : Sl → Prop} (h : 0 ≤ lo ∧ lo ≤ len) (hc : len ≤ cap) (k : ∀ o', (lo < cap → o' = o + lo.toNat * size) → K ⟨some ⟨b, o', none⟩, len - lo.toNat, cap - lo.toNat⟩) :
    slc ⟨some ⟨b, o, none⟩, len, cap⟩ (some lo) none none size K := by
  unfold slc
  refine ⟨⟨by simpa using h.1, by simpa using h.2, by simpa using hc, by simp⟩, ?_⟩
  simp only [Option.getD_none, Option.getD_some, Int.toNat_natCast]
  by_cases e : cap = lo.toNat
  · rw [if_pos e]
    exact k o (fun h => by omega)
  · rw [if_neg e]
    simp only [Option.map_some, Addr.add_mk]
    exact k _ (fun _ => rfl)

theorem run_sl {r : Result Value} {K : Sl → World → Prop} (s : Sl) (w' : World) (h : r = .ok (.slice s.a s.len s.cap) w') (k : K s w') : Pt.run [Ty1.one Cell.slice] r K := ⟨s, w', h, k⟩

/-- append where there is room. -/
theorem app_fit {t ty e : TypeId} {i : TypeInfo} {b off n cap m c : Nat} {a : Addr} {cs : Array Value} {T : TypeId} {K : Sl → World → Prop} (ht : P.underlying t = some (.slice e)) (hi : P.info? e = some i) (news : List Value)
    (hb : w.heap[b]? = some (.cells cs T (0, 0))) (hl : news.length = m * i.size) (hnews : ∀ (j : Nat) u, news[j]? = some u → w.cell? (a.add j) = some u) (h1 : ∀ u ∈ news, u.oneCell' = true)
    (hroom : n + m ≤ cap) (hsz : off + n * i.size + news.length ≤ cs.size) (k : K ⟨some ⟨b, off, none⟩, n + m, cap⟩ (upd w b (.cells (splice cs (off + n * i.size) news) T (0, 0)))) :
    Pt.run [Ty1.one Cell.slice] ((Builtin.append_ #[t, t] ty #[.slice (some ⟨b, off, none⟩) n cap, .slice (some a) m c]).run P w) K := by
  refine run_sl ⟨_, _, _⟩ _ (run_append_room_cells w t ty e i ht hi b off n cap a m c news hl hnews h1 hroom (fun j hj => ?_) (fun j hj => ?_)) ?_
  · rw [cell_of_blk hb]
    have : off + n * i.size + j < cs.size := by omega
    simp [this]
  · simp [World.frozen?, hb]
  · rw [setCells_upd hb]; exact k

/-- append where there is none. -/
theorem app_grow {t ty e : TypeId} {i : TypeInfo} {z : Value} {b : Addr} {n cap m c : Nat} {a : Addr} {K : Sl → World → Prop} (ht : P.underlying t = some (.slice e)) (hi : P.info? e = some i) (hz : i.zero = some z) (olds news : List Value)
    (hlo : olds.length = n * i.size) (holds : ∀ (j : Nat) u, olds[j]? = some u → w.cell? (b.add j) = some u)
    (hl : news.length = m * i.size) (hnews : ∀ (j : Nat) u, news[j]? = some u → w.cell? (a.add j) = some u)
    (hg : cap < n + m) (hbytes : (n + m) * i.bytes ≤ 140737488355328) (h63 : n + m ≤ 9223372036854775807)
    (k : ∀ q, n + m ≤ q → q ≤ maxLen → K ⟨some ⟨w.heap.size, 0, none⟩, n + m, q⟩ (w.drew.alloc (.cells (olds.toArray ++ news.toArray ++ Builtin.zeroCells z.cells (q - (n + m))) e))) :
    Pt.run [Ty1.one Cell.slice] ((Builtin.append_ #[t, t] ty #[.slice (some b) n cap, .slice (some a) m c]).run P w) K := by
  refine run_sl ⟨_, _, _⟩ _ (run_append_grow w t ty e i z ht hi hz b n cap olds hlo holds a m c news hl hnews hg (by omega) (growslice_fits hg hbytes)) ?_
  exact k _ (grownCap_ge w (n + m) cap e) (grownCap_le_maxLen w (n + m) cap e (by unfold maxLen; omega))

/-- append to nil. -/
theorem app_nil {t ty e : TypeId} {i : TypeInfo} {z : Value} {m c : Nat} {a : Addr} {K : Sl → World → Prop} (ht : P.underlying t = some (.slice e)) (hi : P.info? e = some i) (hz : i.zero = some z) (news : List Value)
    (hl : news.length = m * i.size) (hnews : ∀ (j : Nat) u, news[j]? = some u → w.cell? (a.add j) = some u)
    (hm : 0 < m) (hbytes : m * i.bytes ≤ 140737488355328) (h63 : m ≤ 9223372036854775807)
    (k : ∀ q, m ≤ q → q ≤ maxLen → K ⟨some ⟨w.heap.size, 0, none⟩, m, q⟩ (w.drew.alloc (.cells (news.toArray ++ Builtin.zeroCells z.cells (q - m)) e))) :
    Pt.run [Ty1.one Cell.slice] ((Builtin.append_ #[t, t] ty #[.slice none 0 0, .slice (some a) m c]).run P w) K := by
  refine run_sl ⟨_, _, _⟩ _ (run_append_nil w t ty e i z ht hi hz a m c news hl hnews hm (by omega) (by omega)) ?_
  exact k _ (grownCap_ge w m 0 e) (grownCap_le_maxLen w m 0 e (by unfold maxLen; omega))

end Go.Pt
