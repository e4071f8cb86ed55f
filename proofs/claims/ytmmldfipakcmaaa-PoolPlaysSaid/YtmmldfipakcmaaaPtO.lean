/- Rows of elements: slices that are read (Rds), buffers of one's own that grow (Buf). Conditions: those that stand in each line. -/
import Derived.Test.YtmmldfipakcmaaaPtL
import Derived.Deep.AppendSrc
set_option linter.unusedVariables false
namespace Go.Pt
open Go

section
variable {α : Type} {enc : α → List Value} {k : Nat}

/-- The slice s reads as the elements l, k cells each; its block, if there is an element, is none of those of S. -/
def Rds (enc : α → List Value) (k : Nat) (S : List Nat) (w : World) (s : Sl) (l : List α) : Prop :=
  s.len = l.length ∧ s.len ≤ s.cap ∧ (l = [] ∨ ∃ b o cs T fr, s.a = some ⟨b, o, none⟩ ∧ w.heap[b]? = some (.cells cs T fr) ∧ b ∉ S ∧ ∀ (i : Nat) x, l[i]? = some x → (cs.toList.drop (o + i * k)).take k = enc x)

theorem Rds.frame {S S' : List Nat} {w w' : World} {s : Sl} {l : List α} (h : Rds enc k S w s l) (f : Fr S w w') (hS : ∀ b ∈ S', b ∈ S ∨ w.heap.size ≤ b) : Rds enc k S' w' s l := by
  obtain ⟨h1, h2, h3⟩ := h
  refine ⟨h1, h2, ?_⟩
  rcases h3 with h3 | ⟨b, o, cs, T, fr, ha, hb, hn, hc⟩
  · exact .inl h3
  · refine .inr ⟨b, o, cs, T, fr, ha, by rw [f.block b (lt_of_blk hb) hn]; exact hb, fun hs => ?_, hc⟩
    have := lt_of_blk hb
    rcases hS b hs with h' | h'
    · exact hn h'
    · omega

theorem Rds.frame0 {S : List Nat} {w w' : World} {s : Sl} {l : List α} (h : Rds enc k S w s l) (f : Fr [] w w') : Rds enc k S w' s l :=
  h.frame (f.mono (fun i hi _ => by cases hi)) (fun b hb => .inl hb)

theorem Rds.drew {S : List Nat} {w : World} {s : Sl} {l : List α} (h : Rds enc k S w s l) : Rds enc k S w.drew s l := h
theorem Rds.same {S : List Nat} {w w' : World} {s : Sl} {l : List α} (h : Rds enc k S w s l) (f : Same w w') : Rds enc k S w' s l := h.frame (.of_same f) (fun b hb => .inl hb)
theorem Rds.weak {S S' : List Nat} {w : World} {s : Sl} {l : List α} (h : Rds enc k S w s l) (hS : ∀ b ∈ S', b ∈ S ∨ w.heap.size ≤ b) : Rds enc k S' w s l := h.frame (.refl _ _) hS

theorem Rds.nil (enc : α → List Value) (k : Nat) (S : List Nat) (w : World) : Rds enc k S w ⟨none, 0, 0⟩ [] := ⟨rfl, Nat.le_refl _, .inl rfl⟩

theorem Rds.at {S : List Nat} {w : World} {s : Sl} {l : List α} (h : Rds enc k S w s l) (n : Nat) {x : α} (hx : l[n]? = some x) :
    n < s.len ∧ ∃ b o, s.a = some ⟨b, o, none⟩ ∧ b ∉ S ∧ ∃ cs T fr, w.heap[b]? = some (.cells cs T fr) ∧ (cs.toList.drop (o + n * k)).take k = enc x := by
  obtain ⟨h1, h2, h3⟩ := h
  have hn : n < l.length := (List.getElem?_eq_some_iff.1 hx).1
  rcases h3 with h3 | ⟨b, o, cs, T, fr, ha, hb, hnS, hc⟩
  · rw [h3] at hx; simp at hx
  · exact ⟨by omega, b, o, ha, hnS, cs, T, fr, hb, hc n x hx⟩

/-- l[i], read as one cell. -/
theorem Rds.get {S : List Nat} {w : World} {s : Sl} {l : List α} {c : Cell} (h : Rds enc 1 S w s l) (n : Nat) {i : Int} {x : α} {y : c.El} {K : c.El → Prop} (hi : i = n) (hx : l[n]? = some x) (hy : enc x = [c.mk y]) (kk : K y) : idx s i 1 fun a => ld c a w K := by
  subst hi
  obtain ⟨hn, b, o, ha, _, cs, T, fr, hb, hc⟩ := h.at n hx
  refine idx_of ha ⟨by omega, by omega⟩ ?_
  rw [Int.toNat_natCast]
  refine ld_blk hb y ?_ kk
  rw [hy] at hc
  have := congrArg (·[0]?) hc
  simpa using this

/-- l[i], read as several cells. -/
theorem Rds.getA {S : List Nat} {w : World} {s : Sl} {l : List α} {cl : List Cell} (h : Rds enc k S w s l) (n : Nat) {i : Int} {x : α} {y : HL cl} {K : HL cl → Prop} (hi : i = n) (hx : l[n]? = some x) (hk : cl.length = k) (hy : enc x = HL.mk cl y) (kk : K y) : idx s i k fun a => ldA cl a w K := by
  subst hi hk
  obtain ⟨hn, b, o, ha, _, cs, T, fr, hb, hc⟩ := h.at n hx
  refine idx_of ha ⟨by omega, by omega⟩ ?_
  rw [Int.toNat_natCast]
  refine ⟨y, cellsAt_blk hb _ _ 0 ?_, kk⟩
  rw [HL.mk_length, Nat.add_zero, hc, hy]

/-- s[lo:], read. -/
theorem Rds.drop {S : List Nat} {w : World} {s : Sl} {l : List α} (h : Rds enc k S w s l) (n : Nat) {lo : Int} {K : Sl → Prop} (hlo : lo = n) (hn : n ≤ l.length) (hl : 0 < l.length) (kk : ∀ s', Rds enc k S w s' (l.drop n) → K s') : slc s (some lo) none none k K := by
  subst hlo
  obtain ⟨h1, h2, h3⟩ := h
  rcases h3 with h3 | ⟨b, o, cs, T, fr, ha, hb, hnS, hc⟩
  · rw [h3] at hl; simp at hl
  · obtain ⟨a, len, cap⟩ := s
    simp only at ha h1 h2
    subst ha
    refine slc_lo ⟨by omega, by omega⟩ h2 fun o' ho' => ?_
    rw [Int.toNat_natCast] at ho' ⊢
    refine kk _ ⟨by simp only [List.length_drop]; omega, by dsimp only; omega, ?_⟩
    by_cases he : l.drop n = []
    · exact .inl he
    · have hlt : n < l.length := by
        rcases Nat.lt_or_ge n l.length with h | h
        · exact h
        · exact absurd (List.drop_eq_nil_of_le h) he
      refine .inr ⟨b, o', cs, T, fr, rfl, hb, hnS, fun i x hx => ?_⟩
      rw [ho' (by omega), Nat.add_assoc, ← Nat.add_mul]
      refine hc (n + i) x ?_
      rw [List.getElem?_drop] at hx
      exact hx

/-- All cells of the row, from its address on. -/
theorem Rds.cells {S : List Nat} {w : World} {s : Sl} {l : List α} (h : Rds enc k S w s l) (henc : ∀ x, (enc x).length = k) {a : Addr} (ha : s.a = some a) : ∀ (j : Nat) u, (l.flatMap enc)[j]? = some u → w.cell? (a.add j) = some u := by
  obtain ⟨h1, h2, h3⟩ := h
  rcases h3 with h3 | ⟨b, o, cs, T, fr, ha', hb, hnS, hc⟩
  · rw [h3]; intro j u hj; simp at hj
  · rw [ha'] at ha
    cases ha
    have key : ∀ (l : List α) (o : Nat), (∀ (i : Nat) x, l[i]? = some x → (cs.toList.drop (o + i * k)).take k = enc x) → ∀ (j : Nat) u, (l.flatMap enc)[j]? = some u → cs[o + j]? = some u := by
      intro l
      induction l with
      | nil => intro o _ j u hj; simp at hj
      | cons x l ih =>
        intro o hc j u hj
        rw [List.flatMap_cons] at hj
        by_cases hjk : j < k
        · rw [List.getElem?_append_left (by rw [henc]; exact hjk)] at hj
          have h0 := hc 0 x rfl
          rw [← h0, List.getElem?_take, if_pos hjk, List.getElem?_drop] at hj
          simpa using hj
        · rw [List.getElem?_append_right (by rw [henc]; omega), henc] at hj
          have := ih (o + k) (fun i x hx => by
            have := hc (i + 1) x (by simpa using hx)
            rw [← this]; congr 2; rw [Nat.add_mul]; omega) (j - k) u hj
          rw [← this]; congr 1; omega
    intro j u hj
    rw [Addr.add_mk, cell_of_blk hb]
    exact key l o hc j u hj

/-! ### Buffers of one's own -/
def Buf (enc : α → List Value) (k : Nat) (w : World) (s : Sl) (l : List α) (B : List Nat) : Prop :=
  (s = ⟨none, 0, 0⟩ ∧ l = [] ∧ B = []) ∨ ∃ b o cs T, B = [b] ∧ s.a = some ⟨b, o, none⟩ ∧ w.heap[b]? = some (.cells cs T (0, 0)) ∧ s.len = l.length ∧ s.len ≤ s.cap ∧ o + s.cap * k ≤ cs.size ∧ (cs.toList.drop o).take (l.length * k) = l.flatMap enc

theorem flatMap_len (henc : ∀ x, (enc x).length = k) : ∀ l : List α, (l.flatMap enc).length = l.length * k
  | [] => by simp
  | x :: l => by rw [List.flatMap_cons, List.length_append, henc, flatMap_len henc l, List.length_cons, Nat.add_mul]; omega

theorem flatMap_at (henc : ∀ x, (enc x).length = k) : ∀ (l : List α) (i : Nat) (x : α), l[i]? = some x → ((l.flatMap enc).drop (i * k)).take k = enc x
  | [], i, x, h => by simp at h
  | y :: l, 0, x, h => by
    simp at h
    subst h
    rw [List.flatMap_cons, Nat.zero_mul, List.drop_zero, List.take_append_of_le_length (by rw [henc]; exact Nat.le_refl _), List.take_of_length_le (by rw [henc]; exact Nat.le_refl _)]
  | y :: l, i + 1, x, h => by
    rw [List.flatMap_cons, Nat.add_mul, Nat.one_mul, Nat.add_comm, List.drop_append, henc, Nat.add_sub_cancel_left, List.drop_eq_nil_of_le (by rw [henc]; omega), List.nil_append]
    exact flatMap_at henc l i x (by simpa using h)

theorem Buf.nil (enc : α → List Value) (k : Nat) (w : World) : Buf enc k w ⟨none, 0, 0⟩ [] [] := .inl ⟨rfl, rfl, rfl⟩

theorem Buf.len {w : World} {s : Sl} {l : List α} {B : List Nat} (h : Buf enc k w s l B) : s.len = l.length := by
  rcases h with ⟨rfl, rfl, _⟩ | ⟨b, o, cs, T, _, _, _, h, _⟩
  · rfl
  · exact h

theorem Buf.rds {S : List Nat} {w : World} {s : Sl} {l : List α} {B : List Nat} (henc : ∀ x, (enc x).length = k) (h : Buf enc k w s l B) (hS : ∀ b ∈ B, b ∉ S) : Rds enc k S w s l := by
  rcases h with ⟨rfl, rfl, rfl⟩ | ⟨b, o, cs, T, rfl, ha, hb, h1, h2, h3, h4⟩
  · exact .nil _ _ _ _
  · refine ⟨h1, h2, .inr ⟨b, o, cs, T, _, ha, hb, hS b (by simp), fun i x hx => ?_⟩⟩
    have hi := (List.getElem?_eq_some_iff.1 hx).1
    have := flatMap_at henc l i x hx
    rw [← h4] at this
    rw [← this, List.drop_take, List.drop_drop, List.take_take, Nat.min_eq_left]
    have : (i + 1) * k ≤ l.length * k := Nat.mul_le_mul_right k hi
    rw [Nat.add_mul] at this
    omega

theorem Buf.frame {S : List Nat} {w w' : World} {s : Sl} {l : List α} {B : List Nat} (h : Buf enc k w s l B) (f : Fr S w w') (hS : ∀ b ∈ B, b ∉ S) : Buf enc k w' s l B := by
  rcases h with h | ⟨b, o, cs, T, rfl, ha, hb, h1⟩
  · exact .inl h
  · exact .inr ⟨b, o, cs, T, rfl, ha, by rw [f.block b (lt_of_blk hb) (hS b (by simp))]; exact hb, h1⟩

theorem Buf.frame0 {w w' : World} {s : Sl} {l : List α} {B : List Nat} (h : Buf enc k w s l B) (f : Fr [] w w') : Buf enc k w' s l B := h.frame f (fun _ _ h => by cases h)

theorem Buf.lt {w : World} {s : Sl} {l : List α} {B : List Nat} (h : Buf enc k w s l B) : ∀ b ∈ B, b < w.heap.size := by
  rcases h with ⟨_, _, rfl⟩ | ⟨b, o, cs, T, rfl, ha, hb, h1⟩
  · intro b hb; cases hb
  · intro c hc; simp at hc; subst hc; exact lt_of_blk hb

/-- A fresh block that holds just the row. -/
theorem Buf.fresh (henc : ∀ x, (enc x).length = k) {w : World} {b : Nat} {T : TypeId} {l : List α} {n cap : Nat} {cs : Array Value} (hb : w.heap[b]? = some (.cells cs T (0, 0))) (hn : n = l.length) (hc : n ≤ cap) (hcs : cap * k ≤ cs.size) (hl : cs.toList.take (l.length * k) = l.flatMap enc) : Buf enc k w ⟨some ⟨b, 0, none⟩, n, cap⟩ l [b] :=
  .inr ⟨b, 0, cs, T, rfl, rfl, hb, hn, hc, by rw [Nat.zero_add]; exact hcs, by rw [List.drop_zero]; exact hl⟩

theorem upd_fr' {w : World} {b : Nat} (hb : b < w.heap.size) (o : Obj) : Fr [b] w (upd w b o) :=
  ⟨rfl, rfl, rfl, by rw [size_upd]; exact Nat.le_refl _, fun j hj hS => by rw [heap_upd _ _ _ _ hb, if_neg (by simpa using hS)]⟩

theorem splice_toList : ∀ (vs : List Value) (cs : Array Value) (off : Nat), off + vs.length ≤ cs.size → (splice cs off vs).toList = cs.toList.take off ++ vs ++ cs.toList.drop (off + vs.length)
  | [], cs, off, h => by simp [splice]
  | v :: vs, cs, off, h => by
    simp only [List.length_cons] at h
    rw [splice, splice_toList vs _ _ (by simp; omega), Array.toList_setIfInBounds]
    have h1 : (cs.toList.set off v).take (off + 1) = cs.toList.take off ++ [v] := by
      have : off < cs.toList.length := by simp; omega
      rw [List.set_eq_take_append_cons_drop, if_pos this, List.take_append, List.length_take, Nat.min_eq_left (by omega), List.take_of_length_le (by simp; omega)]
      simp [show off + 1 - off = 1 by omega]
    have h2 : (cs.toList.set off v).drop (off + 1 + vs.length) = cs.toList.drop (off + 1 + vs.length) := by
      rw [List.drop_set, if_pos (by omega)]
    rw [h1, h2]
    simp [Nat.add_assoc, Nat.add_comm 1]

theorem mid_take (L Y R : List Value) (o n : Nat) (h : o + n ≤ L.length) : ((L.take (o + n) ++ Y ++ R).drop o).take (n + Y.length) = (L.drop o).take n ++ Y := by
  have e1 : (L.take (o + n)).length = o + n := by simp; omega
  have e2 : ((L.drop o).take n).length = n := by simp; omega
  rw [List.append_assoc, List.drop_append_of_le_length (by omega), List.drop_take, Nat.add_sub_cancel_left, List.take_append, e2, List.take_of_length_le (by omega), Nat.add_sub_cancel_left, List.take_append_of_le_length (Nat.le_refl _), List.take_of_length_le (Nat.le_refl _)]

variable {P : Program}

theorem zeroCells_size (z : Array Value) (n : Nat) : (Builtin.zeroCells z n).size = n * z.size := by simp [Builtin.zeroCells]

/-- append onto a buffer of one's own, of whatever source. -/
theorem Buf.appSrc {w : World} {t tx ty e : TypeId} {i : TypeInfo} {z : Value} {s : Sl} {l ys : List α} {B : List Nat} {x : Value} {m : Nat} {K : Sl → World → Prop} (h : Buf enc k w s l B) (henc : ∀ x, (enc x).length = k)
    (ht : P.underlying t = some (.slice e)) (hi : P.info? e = some i) (hz : i.zero = some z) (hsz : i.size = k) (hzs : z.cells.size = k) (hs : Src P k tx x m (ys.flatMap enc) w) (hm : m = ys.length)
    (hbytes : (l.length + m) * i.bytes ≤ 140737488355328) (h63 : l.length + m ≤ 9223372036854775807)
    (kk : ∀ s' B' w', Buf enc k w' s' (l ++ ys) B' → Fr B w w' → (∀ b ∈ B', b ∈ B ∨ w.heap.size ≤ b) → K s' w') :
    Pt.run [Ty1.one Cell.slice] ((Builtin.append_ #[t, tx] ty #[.slice s.a s.len s.cap, x]).run P w) K := by
  subst hsz hm
  have hfl := flatMap_len henc
  have hgrow : ∀ (olds : List Value), olds = l.flatMap enc → s.len = l.length → (Builtin.firstCells i.size s.len (.slice s.a s.len s.cap)).run P w.drew = .ok olds.toArray w.drew → s.cap < s.len + ys.length →
      Pt.run [Ty1.one Cell.slice] ((Builtin.append_ #[t, tx] ty #[.slice s.a s.len s.cap, x]).run P w) K := by
    intro olds ho hl hold hg
    refine run_sl ⟨_, _, _⟩ _ (run_append_grow_src w t tx ty e i z ht hi hz s.a s.len s.cap olds hold x ys.length _ hs hg (by omega) (growslice_fits hg (by rw [hl]; exact hbytes))) ?_
    have hge := grownCap_ge w (s.len + ys.length) s.cap e
    refine kk _ [w.heap.size] _ (Buf.fresh henc (b := w.heap.size) (T := e) (cs := (olds ++ ys.flatMap enc).toArray ++ Builtin.zeroCells z.cells (grownCap w (s.len + ys.length) s.cap e - (s.len + ys.length))) ?_ (by rw [List.length_append, hl]) hge ?_ ?_) ?_ ?_
    · rw [heap_alloc]; exact if_pos rfl
    · rw [Array.size_append, zeroCells_size, hzs, List.size_toArray, List.length_append, ho, hfl, hfl, ← Nat.add_mul, ← Nat.add_mul, hl]
      have : l.length + ys.length + (grownCap w (l.length + ys.length) s.cap e - (l.length + ys.length)) = grownCap w (l.length + ys.length) s.cap e := by rw [hl] at hge; omega
      rw [this]; exact Nat.le_refl _
    · rw [Array.toList_append, List.take_append_of_le_length (by simp [ho, hfl, Nat.add_mul]), List.take_of_length_le (by simp [ho, hfl, Nat.add_mul]), ho, List.flatMap_append]
    · exact (Fr.refl B w).drew.alloc _
    · intro b hb; simp at hb; subst hb; exact .inr (Nat.le_refl _)
  rcases h with ⟨rfl, rfl, rfl⟩ | ⟨b, o, cs, T, rfl, ha, hb, h1, h2, h3, h4⟩
  · by_cases hy : ys = []
    · subst hy
      refine run_sl ⟨none, 0, 0⟩ w ?_ (kk _ _ _ (.nil _ _ _) (.refl _ _) (fun b hb => .inl hb))
      have hc := hs.cells
      simp at hc
      rcases hs.kind with ⟨e', hk⟩ | hk <;> simp [Builtin.append_, run_underlying ht, run_underlying hk, sizeOf, typeInfo, hi, hs.len, hc]
    · have : 0 < ys.length := List.length_pos_iff.2 hy
      exact hgrow [] rfl rfl (run_firstCells_none _ _ _ _ _) (by dsimp only; omega)
  · obtain ⟨a, len, cap⟩ := s
    simp only at ha h1 h2 h3
    subst ha
    subst h1
    by_cases hroom : l.length + ys.length ≤ cap
    · have hsz' : o + (l.length + ys.length) * i.size ≤ cs.size := Nat.le_trans (Nat.add_le_add_left (Nat.mul_le_mul_right _ hroom) _) h3
      rw [Nat.add_mul] at hsz'
      refine run_sl ⟨_, _, _⟩ _ (run_append_room_src w t tx ty e i ht hi b o l.length cap x ys.length _ hs hroom (fun j hj => ?_) (fun j hj => ?_)) ?_
      · rw [hfl] at hj
        rw [cell_of_blk hb]
        simp [show o + l.length * i.size + j < cs.size by omega]
      · simp [World.frozen?, hb]
      · rw [setCells_upd hb]
        refine kk _ [b] _ (.inr ⟨b, o, _, T, rfl, rfl, by rw [heap_upd _ _ _ _ (lt_of_blk hb), if_pos rfl], by simp, by dsimp only; omega, by rw [size_splice]; exact h3, ?_⟩) (upd_fr' (lt_of_blk hb) _) (fun c hc => .inl hc)
        rw [splice_toList _ _ _ (by rw [hfl]; omega), List.length_append, Nat.add_mul, List.flatMap_append, ← h4]
        have := mid_take cs.toList (ys.flatMap enc) (cs.toList.drop (o + l.length * i.size + (ys.flatMap enc).length)) o (l.length * i.size) (by simp; omega)
        rw [hfl] at this ⊢
        exact this
    · refine hgrow (l.flatMap enc) rfl rfl (run_firstCells_some _ _ _ _ _ _ _ (hfl l) (fun j u hj => ?_)) (by dsimp only; omega)
      rw [Addr.add_mk]
      show w.cell? _ = _
      rw [cell_of_blk hb]
      have hjl : j < l.length * i.size := by
        have := (List.getElem?_eq_some_iff.1 hj).1
        rw [hfl] at this; exact this
      rw [← h4, List.getElem?_take, if_pos hjl, List.getElem?_drop] at hj
      simpa using hj

/-- append(s, x): x lies in a new block. -/
theorem Buf.push {w : World} {t ty e T' : TypeId} {i : TypeInfo} {z : Value} {s : Sl} {l : List α} {B : List Nat} {x : α} {cs' : Array Value} {K : Sl → World → Prop} (h : Buf enc k w s l B) (henc : ∀ x, (enc x).length = k) (hone : ∀ u ∈ enc x, u.oneCell' = true)
    (ht : P.underlying t = some (.slice e)) (hi : P.info? e = some i) (hz : i.zero = some z) (hsz : i.size = k) (hzs : z.cells.size = k) (hcs : cs'.toList = enc x)
    (hbytes : (l.length + 1) * i.bytes ≤ 140737488355328) (h63 : l.length + 1 ≤ 9223372036854775807)
    (kk : ∀ s' B' w', Buf enc k w' s' (l ++ [x]) B' → Fr B w w' → (∀ b ∈ B', b ∈ B ∨ w.heap.size ≤ b) → K s' w') :
    Pt.new (.cells cs' T') w fun r w1 => Pt.run [Ty1.one Cell.slice] ((Builtin.append_ #[t, t] ty #[.slice s.a s.len s.cap, .slice (some ⟨r, 0, none⟩) 1 1]).run P w1) K := by
  have ho := (Own.start [] w).alloc (.cells cs' T')
  have hf := ho.fr
  refine Own.new (Own.start [] w) fun b w1 eb sb ho => ?_
  refine Buf.appSrc (ys := [x]) (h.frame0 ho.fr) henc ht hi hz hsz hzs (.ofSlice _ ht _ 1 1 _ ?_ ?_ ?_) rfl (by simpa using hbytes) (by simpa using h63) fun s' B' w' h1 h2 h3 => kk s' B' w' h1 ((ho.fr.mono (fun i hi _ => by cases hi)).trans' h2 (fun i hi => .inl hi)) (fun b hb => ?_)
  · simp [henc]
  · intro j u hj
    rw [Addr.add_mk, cell_of_blk (ho.at (i := 0) rfl), Nat.zero_add]
    have hj' : (enc x)[j]? = some u := by simpa using hj
    rw [← hcs] at hj'
    simpa using hj'
  · intro u hu
    exact hone u (by simpa using hu)
  · rcases h3 b hb with h | h
    · exact .inl h
    · exact .inr (by omega)
end

end Go.Pt
