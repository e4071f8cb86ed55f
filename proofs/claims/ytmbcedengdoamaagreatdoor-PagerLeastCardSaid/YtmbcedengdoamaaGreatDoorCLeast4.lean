/- Texts PrA, PrB, PrC, PrD, PrE, PrF, PrG, FormsD, DkA, DkB, DkC, DkD, PmA, PrH, FlD, PmB, PrI, PmC, PrJ, PrK, PrL: contracts of the program's functions, one behind the other. Conditions: those that stand in each line. -/
import Derived.Test.YtmbcedengdoamaaGreatDoorCLeast3
import Derived.Test.YtmbcedengdoamaaGreatDoorCLeast1
import Derived.Test.YtmbcedengdoamaaGreatDoorProg
import Derived.KernelRfl

section
/- The pager: what it is in memory. Conditions: those that stand in each line. -/
set_option linter.unusedVariables false
set_option linter.unusedSimpArgs false
namespace Go.Proofs.YtmbcedengdoamaaGreatDoor
open Go Go.Pt
attribute [local irreducible] ld ldA ldV fld fldA newZ st new idx idxS idxA slc slcS slcP mkS chk nn call callV inv run runQ runU join loop held ext rng undefer s2a nxt ent IntKind.wrap

abbrev PGT : TypeId := 100
abbrev MLT : TypeId := 96

/-! ### Rows of pairs, looked up by number -/
def look {β : Type} (n : Int) : List (Int × β) → Option (Nat × β)
  | [] => none
  | p :: r => if n = p.1 then some (0, p.2) else (look n r).map fun q => (q.1 + 1, q.2)
def setL {β : Type} (n : Int) (v : β) (l : List (Int × β)) : List (Int × β) := match look n l with | some q => l.set q.1 (n, v) | none => l ++ [(n, v)]
def delL {β : Type} (n : Int) (l : List (Int × β)) : List (Int × β) := match look n l with | some q => l.eraseIdx q.1 | none => l

theorem look_map {β γ : Type} (g : β → γ) (n : Int) : ∀ l : List (Int × β), look n (l.map fun e => (e.1, g e.2)) = (look n l).map fun q => (q.1, g q.2)
  | [] => rfl
  | p :: r => by
    simp only [List.map_cons, look]
    by_cases h : n = p.1
    · simp [h]
    · rw [if_neg h, if_neg h, look_map g n r]
      cases look n r <;> rfl
theorem posOf_look (n : Int) : ∀ l : List (Int × Value), posOf n l = look n l
  | [] => rfl
  | p :: r => by simp only [posOf, look, posOf_look n r]
theorem look_mem {β : Type} {n : Int} : ∀ {l : List (Int × β)} {q : Nat × β}, look n l = some q → l[q.1]? = some (n, q.2) ∧ (n, q.2) ∈ l
  | p :: r, q, h => by
    simp only [look] at h
    by_cases hp : n = p.1
    · rw [if_pos hp] at h
      cases h
      subst hp
      exact ⟨rfl, by simp⟩
    · rw [if_neg hp] at h
      obtain ⟨x, hx, rfl⟩ := Option.map_eq_some_iff.1 h
      obtain ⟨h1, h2⟩ := look_mem hx
      exact ⟨by simpa using h1, List.mem_cons_of_mem _ h2⟩
theorem look_none {β : Type} {n : Int} : ∀ {l : List (Int × β)}, look n l = none ↔ n ∉ l.map (·.1)
  | [] => by simp [look]
  | p :: r => by
    simp only [look, List.map_cons, List.mem_cons, not_or]
    by_cases hp : n = p.1
    · simp [hp]
    · rw [if_neg hp, Option.map_eq_none_iff, look_none (l := r)]
      simp [hp]
theorem setL_map {β γ : Type} (g : β → γ) (n : Int) (v : β) (l : List (Int × β)) : (setL n v l).map (fun e => (e.1, g e.2)) = setL n (g v) (l.map fun e => (e.1, g e.2)) := by
  unfold setL
  rw [look_map]
  cases look n l with
  | none => simp
  | some q => simp [List.map_set]
theorem delL_map {β γ : Type} (g : β → γ) (n : Int) (l : List (Int × β)) : (delL n l).map (fun e => (e.1, g e.2)) = delL n (l.map fun e => (e.1, g e.2)) := by
  unfold delL
  rw [look_map]
  cases look n l with
  | none => rfl
  | some q => simp only [Option.map_some]; exact map_erase _ l q.1
theorem mem_setL {β : Type} {n : Int} {v : β} {l : List (Int × β)} {e : Int × β} (h : e ∈ setL n v l) : e ∈ l ∨ e = (n, v) := by
  unfold setL at h
  split at h
  · exact List.mem_or_eq_of_mem_set h
  · rcases List.mem_append.1 h with h | h
    · exact .inl h
    · exact .inr (by simpa using h)
theorem mem_delL {β : Type} {n : Int} {l : List (Int × β)} {e : Int × β} (h : e ∈ delL n l) : e ∈ l := by
  unfold delL at h
  split at h
  · exact List.mem_of_mem_eraseIdx h
  · exact h

/-- A value laid into a map, the key being there or not. -/
theorem run_mapSet {t et : TypeId} {v : Value} {w : World} (ht : Tryz.prog.underlying t = some (.map 29 et)) {b : Nat} {f : List (Int × Value)} (h : MapS u32V w b f) (x : Int) :
    ∃ o, (Instr.mapUpdate t (.map (some b)) (u32V x) v).run Tryz.prog w = .ok () (upd w b o) ∧ MapS u32V (upd w b o) b (setL x v f) := by
  have K := keyOk31
  cases hp : posOf x f with
  | none =>
    obtain ⟨o, h1, h2⟩ := MapS.new ht K h x (v := v) hp
    refine ⟨o, h1, ?_⟩
    rw [posOf_look] at hp
    rw [setL, hp]
    exact h2
  | some q =>
    obtain ⟨es, c, hb, he, hs, hc⟩ := h
    have hq := hp
    rw [posOf_look] at hq
    obtain ⟨h1, _⟩ := look_mem hq
    have he' := he
    simp only [Ents] at he'
    have hi : es[q.1]?.map (·.key) = some (u32V x) := by
      have := congrArg (·[q.1]?) he'
      simp only [List.getElem?_map, h1, Option.map_some] at this
      rw [← Array.getElem?_toList]
      cases hh : es.toList[q.1]? with
      | none => rw [hh] at this; cases this
      | some e => rw [hh] at this; simp at this; simp [this.1]
    refine ⟨.map (es.modify q.1 fun e => { e with key := u32V x, val := v }) c, ?_, es.modify q.1 fun e => { e with key := u32V x, val := v }, c, ?_, ?_, ?_, ?_⟩
    · simp [Instr.mapUpdate, run_underlying ht, Go.MapKept.run_getObj_map hb, K.check, run_findKey K he, hp, hi, Instr.keyThatStays, Instr.sameBits, Go.MapKept.run_setObj_map _ hb]
      rfl
    · rw [heap_upd _ _ _ _ (lt_of_blk hb), if_pos rfl]
    · rw [setL, hq]
      show ((es.modify q.1 _).toList).map _ = (f.set q.1 (x, v)).map _
      rw [Array.toList_modify]
      apply List.ext_getElem?
      intro j
      have hj := congrArg (·[j]?) he'
      simp only [List.getElem?_map] at hj
      rw [List.getElem?_map, List.getElem?_map, List.getElem?_modify, List.getElem?_set]
      by_cases hqj : q.1 = j
      · subst hqj
        have hlt := (List.getElem?_eq_some_iff.1 h1).1
        rw [h1] at hj
        cases hh : es.toList[q.1]? with
        | none => rw [hh] at hj; cases hj
        | some e => simp [hlt]
      · simp only [hqj, if_false]
        rw [← hj]
        cases es.toList[j]? <;> rfl
    · have e : (es.modify q.1 fun e => { e with key := u32V x, val := v }).toList.map (·.born) = es.toList.map (·.born) := by
        rw [Array.toList_modify]
        apply List.ext_getElem?
        intro j
        rw [List.getElem?_map, List.getElem?_map, List.getElem?_modify]
        by_cases hqj : q.1 = j
        · subst hqj; cases es.toList[q.1]? <;> simp
        · simp [hqj]
      rw [e]; exact hs
    · intro e he2
      rw [Array.toList_modify] at he2
      obtain ⟨j, hj⟩ := List.mem_iff_getElem?.1 he2
      rw [List.getElem?_modify] at hj
      by_cases hqj : q.1 = j
      · subst hqj
        cases hh : es.toList[q.1]? with
        | none => rw [hh] at hj; simp at hj
        | some e0 =>
          rw [hh] at hj
          simp at hj
          subst hj
          exact hc e0 (List.mem_of_getElem? hh)
      · simp [hqj] at hj
        exact hc e (List.mem_of_getElem? (by rw [Array.getElem?_toList]; exact hj))

end Go.Proofs.YtmbcedengdoamaaGreatDoor
end

section
/- The pager: its state, and what is told of it. Conditions: those that stand in each line. -/
set_option linter.unusedVariables false
set_option linter.unusedSimpArgs false
namespace Go.Proofs.YtmbcedengdoamaaGreatDoor
open Go Go.Pt
attribute [local irreducible] ld ldA ldV fld fldA newZ st new idx idxS idxA slc slcS slcP mkS chk nn call callV inv run runQ runU join loop held ext rng undefer s2a nxt ent IntKind.wrap

/-- What a pager has. -/
structure PgM where
  sup : Sup
  lists : List Int
  named : List Int
  turn : Int
  over : Bool
  free : List Int
  deferred : List Int
  fresh : List (Int × Int × List Int)
  roots : List Int

abbrev Leaf := Int × Sl × List Int
def leafV (x : Leaf) : Value := .agg #[.int .u8 x.1, .slice x.2.1.a x.2.1.len x.2.1.cap]

def pgRest (sl sn : Sl) (turn : Int) (over : Bool) (fb defb mb : Nat) : List Value :=
  [.slice sl.a sl.len sl.cap, .slice sn.a sn.len sn.cap, .int .i64 turn, .bool over, .pointer (some ⟨fb, 0, none⟩), .pointer (some ⟨defb, 0, none⟩), .map (some mb)]
def pgCells (db : Option Addr) (sup : Sup) (sl sn : Sl) (turn : Int) (over : Bool) (fb defb mb : Nat) (roots : List Int) : Array Value :=
  ((.pointer db :: supV sup.1 sup.2) ++ pgRest sl sn turn over fb defb mb ++ roots.map (Value.int .u32)).toArray

section
variable {db : Option Addr} {sup : Sup} {sl sn : Sl} {turn : Int} {over : Bool} {fb defb mb : Nat} {roots : List Int}
theorem pg_head (hl : sup.2.length = 27) : (Value.pointer db :: supV sup.1 sup.2).length = 29 := by rw [List.length_cons, supV_len hl]
theorem pg_size (hl : sup.2.length = 27) : (pgCells db sup sl sn turn over fb defb mb roots).size = 36 + roots.length := by
  rw [pgCells, List.size_toArray, List.length_append, List.length_append, pg_head hl, List.length_map]; rfl
theorem pg_d : (pgCells db sup sl sn turn over fb defb mb roots)[0]? = some (.pointer db) := rfl
theorem pg_seq : (pgCells db sup sl sn turn over fb defb mb roots)[1]? = some (.int .u64 sup.1) := rfl
theorem pg_sup (hl : sup.2.length = 27) (n : Nat) (h : n < 27) : (pgCells db sup sl sn turn over fb defb mb roots)[n + 2]? = some (.int .u32 (sup.2.getD n 0)) := by
  rw [pgCells, List.getElem?_toArray, List.append_assoc, List.getElem?_append_left (by rw [pg_head hl]; omega), List.getElem?_cons_succ]
  have := supV_at (q := sup.1) (t := sup.2) n (by omega)
  rw [List.getElem?_toArray] at this
  exact this
theorem pg_at (hl : sup.2.length = 27) (j : Nat) (h : j < 7) : (pgCells db sup sl sn turn over fb defb mb roots)[29 + j]? = (pgRest sl sn turn over fb defb mb)[j]? := by
  rw [pgCells, List.getElem?_toArray, List.append_assoc, List.getElem?_append_right (by rw [pg_head hl]; omega), pg_head hl, Nat.add_sub_cancel_left, List.getElem?_append_left (by exact h)]
theorem pg_lists (hl : sup.2.length = 27) : (pgCells db sup sl sn turn over fb defb mb roots)[29]? = some (.slice sl.a sl.len sl.cap) := pg_at hl 0 (by decide)
theorem pg_named (hl : sup.2.length = 27) : (pgCells db sup sl sn turn over fb defb mb roots)[30]? = some (.slice sn.a sn.len sn.cap) := pg_at hl 1 (by decide)
theorem pg_turn (hl : sup.2.length = 27) : (pgCells db sup sl sn turn over fb defb mb roots)[31]? = some (.int .i64 turn) := pg_at hl 2 (by decide)
theorem pg_over (hl : sup.2.length = 27) : (pgCells db sup sl sn turn over fb defb mb roots)[32]? = some (.bool over) := pg_at hl 3 (by decide)
theorem pg_free (hl : sup.2.length = 27) : (pgCells db sup sl sn turn over fb defb mb roots)[33]? = some (.pointer (some ⟨fb, 0, none⟩)) := pg_at hl 4 (by decide)
theorem pg_def (hl : sup.2.length = 27) : (pgCells db sup sl sn turn over fb defb mb roots)[34]? = some (.pointer (some ⟨defb, 0, none⟩)) := pg_at hl 5 (by decide)
theorem pg_map (hl : sup.2.length = 27) : (pgCells db sup sl sn turn over fb defb mb roots)[35]? = some (.map (some mb)) := pg_at hl 6 (by decide)
end

/-- What is only read. -/
structure Rows (F : List Nat) (w : World) (sl sn : Sl) (lists named : List Int) (fs : List (Int × Leaf)) : Prop where
  lists : Rd F w sl lists
  named : Rd F w sn named
  bodies : ∀ e ∈ fs, RdB F w e.2.2.1 e.2.2.2

theorem Rows.frame {F F' : List Nat} {w w' : World} {sl sn : Sl} {lists named : List Int} {fs : List (Int × Leaf)} (h : Rows F w sl sn lists named fs) (f : Fr F w w') (hF : ∀ b ∈ F', b ∈ F ∨ w.heap.size ≤ b) : Rows F' w' sl sn lists named fs :=
  ⟨h.lists.frame f hF, h.named.frame f hF, fun e he => (h.bodies e he).frame f hF⟩

structure PgX (w : World) (X : List Nat) (pb : Nat) (db : Option Addr) (M : PgM) (fb defb mb : Nat) (sl sn : Sl) (F1 F2 : List Nat) (fs : List (Int × Leaf)) : Prop where
  cell : w.heap[pb]? = some (.cells (pgCells db M.sup sl sn M.turn M.over fb defb mb M.roots) PGT (0, 0))
  free : PoolAt w fb F1 M.free
  deferred : PoolAt w defb F2 M.deferred
  map : MapS u32V w mb (fs.map fun e => (e.1, leafV e.2))
  fresh : M.fresh = fs.map fun e => (e.1, e.2.1, e.2.2.2)
  rows : Rows (X ++ pb :: mb :: (F1 ++ F2)) w sl sn M.lists M.named fs
  xlt : ∀ b ∈ X, b < w.heap.size
  xsep : ∀ b ∈ X, b ∉ pb :: mb :: (F1 ++ F2)
  sep : pb ≠ mb ∧ (∀ b ∈ F1, b ≠ pb ∧ b ≠ mb ∧ b ∉ F2) ∧ (∀ b ∈ F2, b ≠ pb ∧ b ≠ mb)
  suplen : M.sup.2.length = 27
  rootlen : M.roots.length = 24

/-- A pager at block pb; F: the blocks that are its own; X: others that may turn, as the disk's. -/
def PagerAt (w : World) (X : List Nat) (pb : Nat) (db : Option Addr) (F : List Nat) (M : PgM) : Prop :=
  ∃ fb defb mb sl sn F1 F2 fs, F = pb :: mb :: (F1 ++ F2) ∧ PgX w X pb db M fb defb mb sl sn F1 F2 fs

theorem PgX.lt_mb {w : World} {X : List Nat} {pb : Nat} {db : Option Addr} {M : PgM} {fb defb mb : Nat} {sl sn : Sl} {F1 F2 : List Nat} {fs : List (Int × Leaf)} (h : PgX w X pb db M fb defb mb sl sn F1 F2 fs) : mb < w.heap.size := by
  exact h.map.lt
theorem PgX.lt {w : World} {X : List Nat} {pb : Nat} {db : Option Addr} {M : PgM} {fb defb mb : Nat} {sl sn : Sl} {F1 F2 : List Nat} {fs : List (Int × Leaf)} (h : PgX w X pb db M fb defb mb sl sn F1 F2 fs) : ∀ b ∈ pb :: mb :: (F1 ++ F2), b < w.heap.size := by
  intro b hb
  rcases List.mem_cons.1 hb with rfl | hb
  · exact lt_of_blk h.cell
  rcases List.mem_cons.1 hb with rfl | hb
  · exact h.lt_mb
  rcases List.mem_append.1 hb with hb | hb
  · exact h.free.lt b hb
  · exact h.deferred.lt b hb
theorem PagerAt.lt {w : World} {X : List Nat} {pb : Nat} {db : Option Addr} {F : List Nat} {M : PgM} (h : PagerAt w X pb db F M) : ∀ b ∈ F, b < w.heap.size := by
  obtain ⟨fb, defb, mb, sl, sn, F1, F2, fs, rfl, hx⟩ := h
  exact hx.lt

/-- The world turns, and none of the pager's own blocks. -/
theorem PgX.frame {w w' : World} {S X : List Nat} {pb : Nat} {db : Option Addr} {M : PgM} {fb defb mb : Nat} {sl sn : Sl} {F1 F2 : List Nat} {fs : List (Int × Leaf)} (h : PgX w X pb db M fb defb mb sl sn F1 F2 fs) (f : Fr S w w') (hS : ∀ b ∈ pb :: mb :: (F1 ++ F2), b ∉ S)
    (hr : Rows (X ++ pb :: mb :: (F1 ++ F2)) w' sl sn M.lists M.named fs) : PgX w' X pb db M fb defb mb sl sn F1 F2 fs where
  cell := by rw [f.block pb (lt_of_blk h.cell) (hS pb (by simp))]; exact h.cell
  free := h.free.frame f fun b hb => hS b (by simp [hb])
  deferred := h.deferred.frame f fun b hb => hS b (by simp [hb])
  map := h.map.frame f (hS mb (by simp))
  fresh := h.fresh
  rows := hr
  xlt := fun b hb => Nat.lt_of_lt_of_le (h.xlt b hb) f.size
  xsep := h.xsep
  sep := h.sep
  suplen := h.suplen
  rootlen := h.rootlen
theorem PgX.frame0 {w w' : World} {X : List Nat} {pb : Nat} {db : Option Addr} {M : PgM} {fb defb mb : Nat} {sl sn : Sl} {F1 F2 : List Nat} {fs : List (Int × Leaf)} (h : PgX w X pb db M fb defb mb sl sn F1 F2 fs) (f : Fr [] w w') : PgX w' X pb db M fb defb mb sl sn F1 F2 fs :=
  h.frame f (by simp) (h.rows.frame (f.mono (fun b hb => by cases hb)) (fun b hb => .inl hb))
theorem PagerAt.frame0 {w w' : World} {X : List Nat} {pb : Nat} {db : Option Addr} {F : List Nat} {M : PgM} (h : PagerAt w X pb db F M) (f : Fr [] w w') : PagerAt w' X pb db F M := by
  obtain ⟨fb, defb, mb, sl, sn, F1, F2, fs, rfl, hx⟩ := h
  exact ⟨fb, defb, mb, sl, sn, F1, F2, fs, rfl, hx.frame0 f⟩

theorem newF1 {w : World} {pb mb : Nat} {F1 F1' F2 : List Nat} (n1 : ∀ b ∈ F1', b ∈ F1 ∨ w.heap.size ≤ b) : ∀ b ∈ pb :: mb :: (F1' ++ F2), b ∈ pb :: mb :: (F1 ++ F2) ∨ w.heap.size ≤ b := fun b hb => by
  simp only [List.mem_cons, List.mem_append] at hb ⊢
  rcases hb with hb | hb | hb | hb
  · exact .inl (.inl hb)
  · exact .inl (.inr (.inl hb))
  · rcases n1 b hb with h1 | h1
    · exact .inl (.inr (.inr (.inl h1)))
    · exact .inr h1
  · exact .inl (.inr (.inr (.inr hb)))
theorem newF2 {w : World} {pb mb : Nat} {F1 F2 F2' : List Nat} (n1 : ∀ b ∈ F2', b ∈ F2 ∨ w.heap.size ≤ b) : ∀ b ∈ pb :: mb :: (F1 ++ F2'), b ∈ pb :: mb :: (F1 ++ F2) ∨ w.heap.size ≤ b := fun b hb => by
  simp only [List.mem_cons, List.mem_append] at hb ⊢
  rcases hb with hb | hb | hb | hb
  · exact .inl (.inl hb)
  · exact .inl (.inr (.inl hb))
  · exact .inl (.inr (.inr (.inl hb)))
  · rcases n1 b hb with h1 | h1
    · exact .inl (.inr (.inr (.inr h1)))
    · exact .inr h1
theorem newX {w : World} {X F F' : List Nat} (n : ∀ b ∈ F', b ∈ F ∨ w.heap.size ≤ b) : ∀ b ∈ X ++ F', b ∈ X ++ F ∨ w.heap.size ≤ b := fun b hb => by
  rcases List.mem_append.1 hb with h | h
  · exact .inl (List.mem_append_left _ h)
  · rcases n b h with h | h
    · exact .inl (List.mem_append_right _ h)
    · exact .inr h
/-- Blocks that were there, told apart from one that may have new ones. -/
theorem sepX {w : World} {X F F' : List Nat} (hl : ∀ b ∈ X, b < w.heap.size) (hs : ∀ b ∈ X, b ∉ F) (n : ∀ b ∈ F', b ∈ F ∨ w.heap.size ≤ b) : ∀ b ∈ X, b ∉ F' := fun b hb h => by
  rcases n b h with h | h
  · exact hs b hb h
  · have := hl b hb; omega

/-- The pool of free pages turns. -/
theorem PgX.setFree {w w' : World} {X : List Nat} {pb : Nat} {db : Option Addr} {M : PgM} {fb defb mb : Nat} {sl sn : Sl} {F1 F1' F2 : List Nat} {fs : List (Int × Leaf)} {l : List Int} (h : PgX w X pb db M fb defb mb sl sn F1 F2 fs) (f : Fr F1 w w') (hp : PoolAt w' fb F1' l) (hn : ∀ b ∈ F1', b ∈ F1 ∨ w.heap.size ≤ b) :
    PgX w' X pb db { M with free := l } fb defb mb sl sn F1' F2 fs where
  cell := by rw [f.block pb (lt_of_blk h.cell) (fun hb => (h.sep.2.1 pb hb).1 rfl)]; exact h.cell
  free := hp
  deferred := h.deferred.frame f fun b hb hb1 => (h.sep.2.1 b hb1).2.2 hb
  map := h.map.frame f (fun hb => (h.sep.2.1 mb hb).2.1 rfl)
  fresh := h.fresh
  rows := h.rows.frame (f.mono fun b hb _ => by simp [hb]) (newX (newF1 hn))
  xlt := fun b hb => Nat.lt_of_lt_of_le (h.xlt b hb) f.size
  xsep := sepX h.xlt h.xsep (newF1 hn)
  sep := ⟨h.sep.1, fun b hb => by
    rcases hn b hb with h1 | h1
    · exact h.sep.2.1 b h1
    · have l1 := lt_of_blk h.cell
      have l2 := h.lt_mb
      exact ⟨by omega, by omega, fun h2 => by have := h.deferred.lt b h2; omega⟩, h.sep.2.2⟩
  suplen := h.suplen
  rootlen := h.rootlen
/-- The pool of deferred pages turns. -/
theorem PgX.setDef {w w' : World} {X : List Nat} {pb : Nat} {db : Option Addr} {M : PgM} {fb defb mb : Nat} {sl sn : Sl} {F1 F2 F2' : List Nat} {fs : List (Int × Leaf)} {l : List Int} (h : PgX w X pb db M fb defb mb sl sn F1 F2 fs) (f : Fr F2 w w') (hp : PoolAt w' defb F2' l) (hn : ∀ b ∈ F2', b ∈ F2 ∨ w.heap.size ≤ b) :
    PgX w' X pb db { M with deferred := l } fb defb mb sl sn F1 F2' fs where
  cell := by rw [f.block pb (lt_of_blk h.cell) (fun hb => (h.sep.2.2 pb hb).1 rfl)]; exact h.cell
  free := h.free.frame f fun b hb hb1 => (h.sep.2.1 b hb).2.2 hb1
  deferred := hp
  map := h.map.frame f (fun hb => (h.sep.2.2 mb hb).2 rfl)
  fresh := h.fresh
  rows := h.rows.frame (f.mono fun b hb _ => by simp [hb]) (newX (newF2 hn))
  xlt := fun b hb => Nat.lt_of_lt_of_le (h.xlt b hb) f.size
  xsep := sepX h.xlt h.xsep (newF2 hn)
  sep := ⟨h.sep.1, fun b hb => ⟨(h.sep.2.1 b hb).1, (h.sep.2.1 b hb).2.1, fun h2 => by
    rcases hn b h2 with h1 | h1
    · exact (h.sep.2.1 b hb).2.2 h1
    · have := h.free.lt b hb; omega⟩, fun b hb => by
    rcases hn b hb with h1 | h1
    · exact h.sep.2.2 b h1
    · have l1 := lt_of_blk h.cell
      have l2 := h.lt_mb
      exact ⟨by omega, by omega⟩⟩
  suplen := h.suplen
  rootlen := h.rootlen
/-- The map of fresh pages turns. -/
theorem PgX.setMap {w : World} {o : Obj} {X : List Nat} {pb : Nat} {db : Option Addr} {M : PgM} {fb defb mb : Nat} {sl sn : Sl} {F1 F2 : List Nat} {fs fs' : List (Int × Leaf)} (h : PgX w X pb db M fb defb mb sl sn F1 F2 fs) (hm : MapS u32V (upd w mb o) mb (fs'.map fun e => (e.1, leafV e.2)))
    (hb : ∀ e ∈ fs', e ∈ fs ∨ RdB (X ++ pb :: mb :: (F1 ++ F2)) w e.2.2.1 e.2.2.2) :
    PgX (upd w mb o) X pb db { M with fresh := fs'.map fun e => (e.1, e.2.1, e.2.2.2) } fb defb mb sl sn F1 F2 fs' := by
  have f : Fr [mb] w (upd w mb o) := upd_fr h.lt_mb o
  have f' : Fr (X ++ pb :: mb :: (F1 ++ F2)) w (upd w mb o) := f.mono fun b hb _ => by simp only [List.mem_singleton] at hb; subst hb; simp
  have hr := h.rows.frame f' (F' := X ++ pb :: mb :: (F1 ++ F2)) (fun b hb => .inl hb)
  exact {
    cell := by rw [f.block pb (lt_of_blk h.cell) (by simpa using h.sep.1)]; exact h.cell
    free := h.free.frame f fun b hb => by simpa using (h.sep.2.1 b hb).2.1
    deferred := h.deferred.frame f fun b hb => by simpa using (h.sep.2.2 b hb).2
    map := hm
    fresh := rfl
    rows := ⟨hr.lists, hr.named, fun e he => by
      rcases hb e he with h1 | h1
      · exact hr.bodies e h1
      · exact h1.frame f' (fun b hb => .inl hb)⟩
    xlt := fun b hb => Nat.lt_of_lt_of_le (h.xlt b hb) f.size
    xsep := h.xsep
    sep := h.sep
    suplen := h.suplen
    rootlen := h.rootlen }

/-- Others turn. -/
theorem PagerAt.frameX {w w' : World} {X X' : List Nat} {pb : Nat} {db : Option Addr} {F : List Nat} {M : PgM} (h : PagerAt w X pb db F M) (f : Fr X w w') (hx : ∀ b ∈ X', b < w'.heap.size) (hX : ∀ b ∈ X', b ∈ X ∨ w.heap.size ≤ b) : PagerAt w' X' pb db F M := by
  obtain ⟨fb, defb, mb, sl, sn, F1, F2, fs, rfl, h⟩ := h
  have hF : ∀ b ∈ pb :: mb :: (F1 ++ F2), b ∉ X := fun b hb hx => h.xsep b hx hb
  have hx1 := h.frame (w' := w') f hF (h.rows.frame (f.mono fun b hb _ => List.mem_append_left _ hb) (fun b hb => .inl hb))
  refine ⟨fb, defb, mb, sl, sn, F1, F2, fs, rfl, { hx1 with rows := h.rows.frame (f.mono fun b hb _ => List.mem_append_left _ hb) (fun b hb => ?_), xlt := hx, xsep := fun b hb hm => ?_ }⟩
  · rcases List.mem_append.1 hb with hb | hb
    · rcases hX b hb with hb | hb
      · exact .inl (List.mem_append_left _ hb)
      · exact .inr hb
    · exact .inl (List.mem_append_right _ hb)
  · rcases hX b hb with hb | hb
    · exact h.xsep b hb hm
    · have := h.lt b hm; omega
theorem PagerAt.sep {w : World} {X : List Nat} {pb : Nat} {db : Option Addr} {F : List Nat} {M : PgM} (h : PagerAt w X pb db F M) : ∀ b ∈ X, b ∉ F := by
  obtain ⟨fb, defb, mb, sl, sn, F1, F2, fs, rfl, h⟩ := h
  exact h.xsep

end Go.Proofs.YtmbcedengdoamaaGreatDoor
end

section
/- The pager: what is told, used, Make, Put, Drop. Conditions: those that stand in each line. -/
set_option linter.unusedVariables false
set_option linter.unusedSimpArgs false
namespace Go.Proofs.YtmbcedengdoamaaGreatDoor
open Go Go.Pt
attribute [local irreducible] ld ldA ldV fld fldA newZ st new idx idxS idxA slc slcS slcP mkS chk nn call callV inv run runQ runU join loop held ext rng undefer s2a nxt ent IntKind.wrap

theorem Index_ok {S : List Nat} {w : World} {s : Sl} {l : List Int} {n : Int} {K : Int → World → Prop} (h : Rd S w s l) (hl : l.length ≤ 1000000) (hk : ∀ x : Int, (decide (x ≥ 0) = decide (n ∈ l)) → K x w) :
    call Tryz.prog 128 [.slice s.a s.len s.cap, .int .u32 n] [.one (.int .i64)] w K := by
  refine slices_Index_of (s := s) ?_
  unfold slices_IndexF
  have hlen := h.1
  refine loop_ind (fun x w' => w' = w ∧ ∃ i : Nat, x = i ∧ i ≤ l.length ∧ n ∉ l.take i) (fun x _ => ((l.length : Int) - x).toNat) ⟨rfl, 0, rfl, by omega, by simp⟩ ?_
  rintro x w' ⟨rfl, i, rfl, hi, hno⟩ X hX
  refine cond_of (fun hc => ?_) (fun hc => ?_)
  · have hil : i < l.length := by have := of_decide_eq_true hc; omega
    refine Rd.at h i rfl (List.getElem?_eq_getElem hil) ?_
    refine cond_of (fun hc => ?_) (fun hc => ?_)
    · have e : n = l[i] := by simpa using hc
      refine hk _ ?_
      rw [decide_eq_true (show (i : Int) ≥ 0 by omega), decide_eq_true (by rw [e]; exact List.getElem_mem hil)]
    · have e : n ≠ l[i] := by simpa using hc
      rw [wi' _ (by omega)]
      refine hX _ _ ⟨rfl, i + 1, by simp, by omega, ?_⟩ (by omega)
      rw [List.take_succ_eq_append_getElem hil]
      simp only [List.mem_append, List.mem_singleton, not_or]
      exact ⟨hno, e⟩
  · have : i = l.length := by have := of_decide_eq_false hc; omega
    subst this
    rw [List.take_length] at hno
    refine hk _ ?_
    rw [decide_eq_false (by decide), decide_eq_false hno]

theorem Contains_ok {S : List Nat} {w : World} {s : Sl} {l : List Int} {n : Int} {K : Bool → World → Prop} (h : Rd S w s l) (hl : l.length ≤ 1000000) (hk : K (decide (n ∈ l)) w) :
    call Tryz.prog 95 [.slice s.a s.len s.cap, .int .u32 n] [.one .bool] w K := by
  refine slices_Contains_of (s := s) ?_
  unfold slices_ContainsF
  refine Index_ok h hl fun x hx => ?_
  rw [hx]
  exact hk

theorem mapZ : ∀ w, (zeroValue 105).run Tryz.prog w = .ok (.agg #[.int .u8 0, .slice none 0 0]) w := fun w => by kernel_rfl
theorem mapU : Tryz.prog.underlying MLT = some (.map 29 105) := by kernel_rfl

/-- A fresh page, looked up. -/
theorem look_ok {w : World} {mb : Nat} {fs : List (Int × Leaf)} {n : Int} {K : ((Int × Sl) × Bool) → Prop} (h : MapAt u32V w mb (fs.map fun e => (e.1, leafV e.2)))
    (hs : ∀ q, look n fs = some q → K ((q.2.1, q.2.2.1), true)) (hn : look n fs = none → K ((0, ⟨none, 0, 0⟩), false)) :
    runQ [Ty1.agg [Cell.int .u8, Cell.slice], Ty1.one Cell.bool] (fun w' => (Instr.lookup MLT (.map (some mb)) (.int .u32 n) true).run Tryz.prog w') w K := by
  have := run_lookupOk (P := Tryz.prog) mapU mapZ keyOk31 h n
  rw [posOf_look, look_map] at this
  cases hl : look n fs with
  | none =>
    rw [hl] at this
    exact runQ_of (ts := [Ty1.agg [Cell.int .u8, Cell.slice], Ty1.one Cell.bool]) ((0, ⟨none, 0, 0⟩), false) this (hn hl)
  | some q =>
    rw [hl] at this
    exact runQ_of (ts := [Ty1.agg [Cell.int .u8, Cell.slice], Ty1.one Cell.bool]) ((q.2.1, q.2.2.1), true) this (hs q hl)

section
variable {w : World} {X : List Nat} {pb : Nat} {db : Option Addr} {F : List Nat} {M : PgM}

theorem PSeq_ok {K : Int → World → Prop} (h : PagerAt w X pb db F M) (hk : K M.sup.1 w) : call Tryz.prog 25 [.pointer (some ⟨pb, 0, none⟩)] [.one (.int .u64)] w K := by
  obtain ⟨fb, defb, mb, sl, sn, F1, F2, fs, rfl, hx⟩ := h
  refine pager_Pager_Seq_of (p := some ⟨pb, 0, none⟩) ?_
  unfold pager_Pager_SeqF
  exact nn_some (ld_blk (c := .int .u64) hx.cell M.sup.1 pg_seq hk)

theorem PRoom_ok {K : Int → World → Prop} (h : PagerAt w X pb db F M) (hk : K M.free.length w) : call Tryz.prog 11 [.pointer (some ⟨pb, 0, none⟩)] [.one (.int .i64)] w K := by
  obtain ⟨fb, defb, mb, sl, sn, F1, F2, fs, rfl, hx⟩ := h
  refine pager_Pager_Room_of (p := some ⟨pb, 0, none⟩) ?_
  unfold pager_Pager_RoomF
  refine nn_some (ld_blk (c := .ptr) hx.cell (some ⟨fb, 0, none⟩) (pg_free hx.suplen) ?_)
  exact Len_ok' hx.free hk

theorem PFree_ok {K : Sl → World → Prop} (h : PagerAt w X pb db F M) (hl : M.free.length ≤ 1000000) (hk : ∀ s w', Told w w' s M.free → Fr [] w w' → K s w') : call Tryz.prog 9 [.pointer (some ⟨pb, 0, none⟩)] [.one .slice] w K := by
  obtain ⟨fb, defb, mb, sl, sn, F1, F2, fs, rfl, hx⟩ := h
  refine pager_Pager_Free_of (p := some ⟨pb, 0, none⟩) ?_
  unfold pager_Pager_FreeF
  refine nn_some (ld_blk (c := .ptr) hx.cell (some ⟨fb, 0, none⟩) (pg_free hx.suplen) ?_)
  exact List_ok hx.free hl hk

theorem PDeferred_ok {K : Sl → World → Prop} (h : PagerAt w X pb db F M) (hl : M.deferred.length ≤ 1000000) (hk : ∀ s w', Told w w' s M.deferred → Fr [] w w' → K s w') : call Tryz.prog 33 [.pointer (some ⟨pb, 0, none⟩)] [.one .slice] w K := by
  obtain ⟨fb, defb, mb, sl, sn, F1, F2, fs, rfl, hx⟩ := h
  refine pager_Pager_Deferred_of (p := some ⟨pb, 0, none⟩) ?_
  unfold pager_Pager_DeferredF
  refine nn_some ?_
  simp only [Addr.add_mk]
  refine ld_blk (c := .ptr) hx.cell (some ⟨defb, 0, none⟩) (pg_def hx.suplen) ?_
  exact List_ok hx.deferred hl hk

def usedV (M : PgM) (n : Int) : Bool := !(decide (n < 2) || decide (n ≥ M.sup.2.getD 0 0) || decide (n ∈ M.lists) || decide (n ∈ M.free) || decide (n ∈ M.deferred)) && (look n M.fresh).isNone

theorem PUsed_ok {n : Int} {K : Bool → World → Prop} (h : PagerAt w X pb db F M) (hl : M.lists.length ≤ 1000000) (hk : ∀ w', Fr [] w w' → K (usedV M n) w') : call Tryz.prog 45 [.pointer (some ⟨pb, 0, none⟩), .int .u32 n] [.one .bool] w K := by
  obtain ⟨fb, defb, mb, sl, sn, F1, F2, fs, rfl, hx⟩ := h
  refine pager_Pager_used_of (p := some ⟨pb, 0, none⟩) ?_
  unfold pager_Pager_usedF
  refine join_mid (fun b w' => b = (decide (n < 2) || decide (n ≥ M.sup.2.getD 0 0) || decide (n ∈ M.lists) || decide (n ∈ M.free) || decide (n ∈ M.deferred)) ∧ w' = w) ?_ ?_
  · refine cond_of (fun hc => ⟨by rw [hc]; rfl, rfl⟩) (fun hc => ?_)
    refine nn_some ?_
    simp only [Addr.add_mk]
    refine ld_blk (c := .int .u32) hx.cell (M.sup.2.getD 0 0) (pg_sup hx.suplen 0 (by decide)) ?_
    refine cond_of (fun hc2 => ⟨by rw [hc, hc2]; rfl, by trivial⟩) (fun hc2 => ?_)
    refine nn_some (ld_blk (c := .slice) hx.cell sl (pg_lists hx.suplen) ?_)
    refine Contains_ok hx.rows.lists hl ?_
    refine cond_of (fun hc3 => ⟨by rw [hc, hc2, hc3]; rfl, by trivial⟩) (fun hc3 => ?_)
    refine nn_some (ld_blk (c := .ptr) hx.cell (some ⟨fb, 0, none⟩) (pg_free hx.suplen) ?_)
    refine Has_ok hx.free ?_
    refine cond_of (fun hc4 => ⟨by rw [hc, hc2, hc3, hc4]; rfl, by trivial⟩) (fun hc4 => ?_)
    refine nn_some ?_
    refine ld_blk (c := .ptr) hx.cell (some ⟨defb, 0, none⟩) (pg_def hx.suplen) ?_
    refine Has_ok hx.deferred ⟨by rw [hc, hc2, hc3, hc4]; rfl, by trivial⟩
  rintro b w' ⟨rfl, rfl⟩
  have hfr : (look n M.fresh).isNone = (look n fs).isNone := by
    rw [hx.fresh, look_map (fun x : Leaf => (x.1, x.2.2))]
    cases look n fs <;> rfl
  refine cond_of (fun hc => ?_) (fun hc => ?_)
  · have := hk w' (.refl _ _)
    rw [usedV, hc] at this
    exact this
  refine nn_some ?_
  simp only [Addr.add_mk]
  refine ld_blk (c := .map) hx.cell (some mb) (pg_map hx.suplen) ?_
  refine look_ok hx.map.at (fun q hq => ?_) (fun hq => ?_)
  · refine Own.new' (Own.start [] w') fun r w1 e1 f1 ho => ?_
    refine Own.st ho 0 rfl _ rfl rfl rfl fun w2 ho _ => ?_
    have := hk w2 ho.fr
    rw [usedV, hc, hfr, hq] at this
    exact this
  · refine Own.new' (Own.start [] w') fun r w1 e1 f1 ho => ?_
    refine Own.st ho 0 rfl _ rfl rfl rfl fun w2 ho _ => ?_
    have := hk w2 ho.fr
    rw [usedV, hc, hfr, hq] at this
    exact this

def makeV (M : PgM) (kind : Int) (body : List Int) : (Int × Int) × PgM :=
  if M.over then ((0, 7), M) else if body.length > 500 then ((0, 3), M) else
  match M.free with
  | [] => ((0, 6), M)
  | n :: r => ((n, 0), { M with free := r, fresh := setL n (kind, body) M.fresh })

theorem PMake_ok {kind : Int} {s : Sl} {body : List Int} {K : Int × Int → World → Prop} (h : PagerAt w X pb db F M) (hb : RdB (X ++ F) w s body) (hl : body.length ≤ 100000) (hf : M.free.length ≤ 1000000)
    (hk : ∀ F' w', PagerAt w' X pb db F' (makeV M kind body).2 → Fr F w w' → (∀ b ∈ F', b ∈ F ∨ w.heap.size ≤ b) → K (makeV M kind body).1 w') :
    call Tryz.prog 10 [.pointer (some ⟨pb, 0, none⟩), .int .u8 kind, .slice s.a s.len s.cap] [.one (.int .u32), .one (.int .i64)] w K := by
  have h0 := h
  obtain ⟨fb, defb, mb, sl, sn, F1, F2, fs, rfl, hx⟩ := h
  have hlen := hb.1
  refine pager_Pager_Make_of (p := some ⟨pb, 0, none⟩) (body := s) ?_
  unfold pager_Pager_MakeF
  have same : ∀ {e : Int}, makeV M kind body = ((0, e), M) → K (0, e) w := by
    intro e he
    have := hk _ w (by rw [he]; exact h0) (.refl _ _) (fun b hb => .inl hb)
    rw [he] at this
    exact this
  refine nn_some (ld_blk (c := .bool) hx.cell M.over (pg_over hx.suplen) ?_)
  refine cond_of (fun hc => same (by rw [makeV, if_pos hc])) (fun hc => ?_)
  have ho : ¬ M.over = true := by rw [hc]; decide
  refine cond_of (fun hc => ?_) (fun hc => ?_)
  · have := of_decide_eq_true hc
    exact same (by rw [makeV, if_neg ho, if_pos (by omega)])
  have hb5 : ¬ body.length > 500 := by have := of_decide_eq_false hc; omega
  refine nn_some (ld_blk (c := .ptr) hx.cell (some ⟨fb, 0, none⟩) (pg_free hx.suplen) ?_)
  refine Take_ok hx.free hf fun F1' w1 hp1 f1 n1 => ?_
  have hx1 := hx.setFree f1 hp1 n1
  have fF : Fr (pb :: mb :: (F1 ++ F2)) w w1 := f1.mono fun b hb _ => by simp [hb]
  have nF := newF1 (w := w) (pb := pb) (mb := mb) (F2 := F2) n1
  cases hfr : M.free with
  | nil =>
    have hmv : makeV M kind body = ((0, 6), M) := by rw [makeV, if_neg ho, if_neg hb5, hfr]
    rw [hfr] at hp1 hx1
    refine cond_true rfl ?_
    have hM : { M with free := (takeV []).2 } = M := by
      show { M with free := [] } = M
      rw [← hfr]
    rw [hM] at hx1
    have := hk _ w1 (by rw [hmv]; exact ⟨fb, defb, mb, sl, sn, F1', F2, fs, rfl, hx1⟩) fF nF
    rw [hmv] at this
    exact this
  | cons n r =>
    have hmv : makeV M kind body = ((n, 0), { M with free := r, fresh := setL n (kind, body) M.fresh }) := by rw [makeV, if_neg ho, if_neg hb5, hfr]
    rw [hfr] at hp1 hx1
    refine cond_false rfl ?_
    refine nn_some ?_
    simp only [Addr.add_mk]
    have c1 : w1.heap[pb]? = _ := hx1.cell
    refine ld_blk (w := w1.drew) (c := .map) c1 (some mb) (pg_map hx.suplen) ?_
    have hb1 : RdB (X ++ pb :: mb :: (F1' ++ F2)) w1.drew s body := hb.frame (fF.drew.mono fun b hb _ => List.mem_append_right _ hb) (newX nF)
    refine slices_CloneB_ok hb1 (by omega) fun s2 B2 w2 b2 f2 n2 _ _ => ?_
    have f12 : Fr [] w1 w2 := ((Fr.refl [] w1).drew).trans f2
    have hx2 := hx1.frame0 f12
    refine held_one (by rw [cell_of_blk hx2.cell]; exact pg_map hx.suplen) ?_
    obtain ⟨o, hr, hm⟩ := run_mapSet (v := leafV (kind, s2, body)) mapU hx2.map n
    refine runU_of _ hr ?_
    have hm' : MapS u32V (upd w2 mb o) mb ((setL n (kind, s2, body) fs).map fun e => (e.1, leafV e.2)) := by rw [setL_map leafV]; exact hm
    have hx3 := hx2.setMap hm' fun e he => by
      rcases mem_setL he with h1 | h1
      · exact .inl h1
      · subst h1
        refine .inr (b2.rds encB_len fun b hb hb2 => ?_)
        have l2 : w1.heap.size ≤ b := n2 b hb
        rcases List.mem_append.1 hb2 with hb2 | hb2
        · have := hx1.xlt b hb2; omega
        · have := hx1.lt b hb2; omega
    have hM : (setL n (kind, s2, body) fs).map (fun e => (e.1, e.2.1, e.2.2.2)) = setL n (kind, body) M.fresh := by
      rw [hx.fresh]; exact setL_map (fun x : Leaf => (x.1, x.2.2)) n (kind, s2, body) fs
    rw [hM] at hx3
    have f3 : Fr (pb :: mb :: (F1 ++ F2)) w (upd w2 mb o) := (fF.trans' f12 (by simp)).trans' (upd_fr hx2.lt_mb o) fun b hb => by simp only [List.mem_singleton] at hb; subst hb; exact .inl (by simp)
    have := hk _ (upd w2 mb o) (by rw [hmv]; exact ⟨fb, defb, mb, sl, sn, F1', F2, _, rfl, hx3⟩) f3 nF
    rw [hmv] at this
    exact this
end

end Go.Proofs.YtmbcedengdoamaaGreatDoor
end

section
/- The pager: Put, Drop. Conditions: those that stand in each line. -/
set_option linter.unusedVariables false
set_option linter.unusedSimpArgs false
namespace Go.Proofs.YtmbcedengdoamaaGreatDoor
open Go Go.Pt
attribute [local irreducible] ld ldA ldV fld fldA newZ st new idx idxS idxA slc slcS slcP mkS chk nn call callV inv run runQ runU join loop held ext rng undefer s2a nxt ent IntKind.wrap

theorem PgX.fresh_look {w : World} {X : List Nat} {pb : Nat} {db : Option Addr} {M : PgM} {fb defb mb : Nat} {sl sn : Sl} {F1 F2 : List Nat} {fs : List (Int × Leaf)} (h : PgX w X pb db M fb defb mb sl sn F1 F2 fs) (n : Int) : look n M.fresh = (look n fs).map fun q => (q.1, q.2.1, q.2.2.2) := by
  rw [h.fresh, look_map (fun x : Leaf => (x.1, x.2.2))]

section
variable {w : World} {X : List Nat} {pb : Nat} {db : Option Addr} {F : List Nat} {M : PgM}

def putV (M : PgM) (n kind : Int) (body : List Int) : Int × PgM :=
  if M.over then (7, M) else match look n M.fresh with
  | none => (10, M)
  | some _ => if body.length > 500 then (3, M) else (0, { M with fresh := setL n (kind, body) M.fresh })

theorem PPut_ok {n kind : Int} {s : Sl} {body : List Int} {K : Int → World → Prop} (h : PagerAt w X pb db F M) (hb : RdB (X ++ F) w s body) (hl : body.length ≤ 100000)
    (hk : ∀ w', PagerAt w' X pb db F (putV M n kind body).2 → Fr F w w' → K (putV M n kind body).1 w') :
    call Tryz.prog 49 [.pointer (some ⟨pb, 0, none⟩), .int .u32 n, .int .u8 kind, .slice s.a s.len s.cap] [.one (.int .i64)] w K := by
  have h0 := h
  obtain ⟨fb, defb, mb, sl, sn, F1, F2, fs, rfl, hx⟩ := h
  have hlen := hb.1
  refine pager_Pager_Put_of (p := some ⟨pb, 0, none⟩) (body := s) ?_
  unfold pager_Pager_PutF
  have same : ∀ {e : Int} {w' : World}, putV M n kind body = (e, M) → Fr [] w w' → K e w' := by
    intro e w' he hf
    have := hk w' (by rw [he]; exact h0.frame0 hf) (hf.mono (fun b hb => by cases hb))
    rw [he] at this
    exact this
  have hfl := hx.fresh_look n
  refine nn_some (ld_blk (c := .bool) hx.cell M.over (pg_over hx.suplen) ?_)
  refine cond_of (fun hc => same (by rw [putV, if_pos hc]) (.refl _ _)) (fun hc => ?_)
  have ho : ¬ M.over = true := by rw [hc]; decide
  refine nn_some ?_
  simp only [Addr.add_mk]
  refine ld_blk (c := .map) hx.cell (some mb) (pg_map hx.suplen) ?_
  refine look_ok hx.map.at (fun q hq => ?_) (fun hq => ?_)
  · rw [hq] at hfl
    refine Own.new' (Own.start [] w) fun r w1 e1 f1 ho1 => ?_
    refine Own.st ho1 0 rfl _ rfl rfl rfl fun w2 ho1 _ => ?_
    refine cond_false rfl ?_
    refine cond_of (fun hc => ?_) (fun hc => ?_)
    · have := of_decide_eq_true hc
      exact same (by rw [putV, if_neg ho, hfl]; dsimp only [Option.map_some]; rw [if_pos (by omega)]) ho1.fr
    have hb5 : ¬ body.length > 500 := by have := of_decide_eq_false hc; omega
    have hmv : putV M n kind body = (0, { M with fresh := setL n (kind, body) M.fresh }) := by rw [putV, if_neg ho, hfl]; dsimp only [Option.map_some]; rw [if_neg hb5]
    have hx2 := hx.frame0 ho1.drew.fr
    refine nn_some ?_
    refine ld_blk (w := w2.drew) (c := .map) hx2.cell (some mb) (pg_map hx.suplen) ?_
    refine slices_CloneB_ok (hb.frame0 ho1.drew.fr) (by omega) fun s2 B2 w3 b2 f2 n2 _ _ => ?_
    have f03 : Fr [] w w3 := ho1.drew.fr.trans f2
    have hx3 := hx.frame0 f03
    refine held_one (by simp only [Addr.add_mk]; rw [cell_of_blk hx3.cell]; exact pg_map hx.suplen) ?_
    obtain ⟨o, hr, hm⟩ := run_mapSet (v := leafV (kind, s2, body)) mapU hx3.map n
    refine runU_of _ hr ?_
    have hm' : MapS u32V (upd w3 mb o) mb ((setL n (kind, s2, body) fs).map fun e => (e.1, leafV e.2)) := by rw [setL_map leafV]; exact hm
    have hx4 := hx3.setMap hm' fun e he => by
      rcases mem_setL he with h1 | h1
      · exact .inl h1
      · subst h1
        refine .inr (b2.rds encB_len fun b hb hb2 => ?_)
        have l2 : w2.drew.heap.size ≤ b := n2 b hb
        rcases List.mem_append.1 hb2 with hb2 | hb2
        · have : b < w2.heap.size := hx2.xlt b hb2
          have : w2.drew.heap.size = w2.heap.size := rfl
          omega
        · have : b < w2.heap.size := hx2.lt b hb2
          have : w2.drew.heap.size = w2.heap.size := rfl
          omega
    have hM : (setL n (kind, s2, body) fs).map (fun e => (e.1, e.2.1, e.2.2.2)) = setL n (kind, body) M.fresh := by
      rw [hx.fresh]; exact setL_map (fun x : Leaf => (x.1, x.2.2)) n (kind, s2, body) fs
    rw [hM] at hx4
    have f4 : Fr (pb :: mb :: (F1 ++ F2)) w (upd w3 mb o) := (f03.mono (T := pb :: mb :: (F1 ++ F2)) (fun b hb => by cases hb)).trans' (upd_fr hx3.lt_mb o) fun b hb => by simp only [List.mem_singleton] at hb; subst hb; exact .inl (by simp)
    have := hk (upd w3 mb o) (by rw [hmv]; exact ⟨fb, defb, mb, sl, sn, F1, F2, _, rfl, hx4⟩) f4
    rw [hmv] at this
    exact this
  · rw [hq] at hfl
    refine Own.new' (Own.start [] w) fun r w1 e1 f1 ho1 => ?_
    refine Own.st ho1 0 rfl _ rfl rfl rfl fun w2 ho1 _ => ?_
    refine cond_true rfl ?_
    exact same (by rw [putV, if_neg ho, hfl]; rfl) ho1.fr

def dropV (M : PgM) (n : Int) : Int × PgM :=
  if M.over then (7, M) else match look n M.fresh with
  | some _ => (0, { M with fresh := delL n M.fresh, free := ins n M.free })
  | none => if usedV M n then (0, { M with deferred := ins n M.deferred }) else (10, M)

theorem PDrop_ok {n : Int} {K : Int → World → Prop} (h : PagerAt w X pb db F M) (hl : M.lists.length ≤ 1000000) (hf : M.free.length ≤ 1000000) (hd : M.deferred.length ≤ 1000000)
    (hk : ∀ F' w', PagerAt w' X pb db F' (dropV M n).2 → Fr F w w' → (∀ b ∈ F', b ∈ F ∨ w.heap.size ≤ b) → K (dropV M n).1 w') :
    call Tryz.prog 13 [.pointer (some ⟨pb, 0, none⟩), .int .u32 n] [.one (.int .i64)] w K := by
  have h0 := h
  obtain ⟨fb, defb, mb, sl, sn, F1, F2, fs, rfl, hx⟩ := h
  refine pager_Pager_Drop_of (p := some ⟨pb, 0, none⟩) ?_
  unfold pager_Pager_DropF
  have same : ∀ {e : Int} {w' : World}, dropV M n = (e, M) → Fr [] w w' → K e w' := by
    intro e w' he hf
    have := hk _ w' (by rw [he]; exact h0.frame0 hf) (hf.mono (fun b hb => by cases hb)) (fun b hb => .inl hb)
    rw [he] at this
    exact this
  have hfl := hx.fresh_look n
  refine nn_some (ld_blk (c := .bool) hx.cell M.over (pg_over hx.suplen) ?_)
  refine cond_of (fun hc => same (by rw [dropV, if_pos hc]) (.refl _ _)) (fun hc => ?_)
  have ho : ¬ M.over = true := by rw [hc]; decide
  refine nn_some ?_
  simp only [Addr.add_mk]
  refine ld_blk (c := .map) hx.cell (some mb) (pg_map hx.suplen) ?_
  refine look_ok hx.map.at (fun q hq => ?_) (fun hq => ?_)
  · rw [hq] at hfl
    refine Own.new' (Own.start [] w) fun r w1 e1 f1 ho1 => ?_
    refine Own.st ho1 0 rfl _ rfl rfl rfl fun w2 ho1 _ => ?_
    refine cond_true rfl ?_
    have hmv : dropV M n = (0, { M with fresh := delL n M.fresh, free := ins n M.free }) := by rw [dropV, if_neg ho, hfl]; rfl
    have hx2 := hx.frame0 ho1.fr
    refine nn_some ?_
    refine ld_blk (c := .map) hx2.cell (some mb) (pg_map hx.suplen) ?_
    obtain ⟨o, hr, hm⟩ := MapS.del (ty := 0) mapU keyOk31 hx2.map n
    refine run_of (ts := []) () _ hr ?_
    have hm' : MapS u32V (upd w2 mb o) mb ((delL n fs).map fun e => (e.1, leafV e.2)) := by
      rw [delL_map leafV]
      rw [posOf_look] at hm
      unfold delL
      cases hl : look n (fs.map fun e => (e.1, leafV e.2)) with
      | none => rw [hl] at hm; exact hm
      | some q => rw [hl] at hm; exact hm
    have hx3 := hx2.setMap hm' fun e he => .inl (mem_delL he)
    have hM : (delL n fs).map (fun e => (e.1, e.2.1, e.2.2.2)) = delL n M.fresh := by
      rw [hx.fresh]; exact delL_map (fun x : Leaf => (x.1, x.2.2)) n fs
    rw [hM] at hx3
    have f3 : Fr (pb :: mb :: (F1 ++ F2)) w (upd w2 mb o) := (ho1.fr.mono (T := pb :: mb :: (F1 ++ F2)) (fun b hb => by cases hb)).trans' (upd_fr hx2.lt_mb o) fun b hb => by simp only [List.mem_singleton] at hb; subst hb; exact .inl (by simp)
    refine nn_some (ld_blk (c := .ptr) hx3.cell (some ⟨fb, 0, none⟩) (pg_free hx.suplen) ?_)
    refine Put_ok hx3.free hf fun F1' w4 hp4 f4 n4 => ?_
    have hx4 := hx3.setFree f4 hp4 n4
    have hs : w.heap.size ≤ (upd w2 mb o).heap.size := by rw [size_upd]; exact ho1.fr.size
    have := hk _ w4 (by rw [hmv]; exact ⟨fb, defb, mb, sl, sn, F1', F2, _, rfl, hx4⟩) (f3.trans' f4 fun b hb => .inl (by simp [hb])) fun b hb => by
      rcases newF1 n4 b hb with h1 | h1
      · exact .inl h1
      · exact .inr (Nat.le_trans hs h1)
    rw [hmv] at this
    exact this
  · rw [hq] at hfl
    refine Own.new' (Own.start [] w) fun r w1 e1 f1 ho1 => ?_
    refine Own.st ho1 0 rfl _ rfl rfl rfl fun w2 ho1 _ => ?_
    refine cond_false rfl ?_
    refine PUsed_ok (h0.frame0 ho1.fr) hl fun w3 f3 => ?_
    have f03 := ho1.fr.trans f3
    refine cond_of (fun hc => ?_) (fun hc => ?_)
    · have hu : usedV M n = false := by simpa using hc
      exact same (by rw [dropV, if_neg ho, hfl]; show (if usedV M n then _ else _) = _; rw [hu]; rfl) f03
    have hu : usedV M n = true := by simpa using hc
    have hmv : dropV M n = (0, { M with deferred := ins n M.deferred }) := by
      rw [dropV, if_neg ho, hfl]; show (if usedV M n then _ else _) = _; rw [hu]; rfl
    have hx3 := hx.frame0 f03
    refine nn_some (ld_blk (c := .ptr) hx3.cell (some ⟨defb, 0, none⟩) (pg_def hx.suplen) ?_)
    refine Put_ok hx3.deferred hd fun F2' w4 hp4 f4 n4 => ?_
    have hx4 := hx3.setDef f4 hp4 n4
    have := hk _ w4 (by rw [hmv]; exact ⟨fb, defb, mb, sl, sn, F1, F2', _, rfl, hx4⟩) ((f03.mono (T := pb :: mb :: (F1 ++ F2)) (fun b hb => by cases hb)).trans' f4 fun b hb => .inl (by simp [hb])) fun b hb => by
      rcases newF2 n4 b hb with h1 | h1
      · exact .inl h1
      · exact .inr (Nat.le_trans f03.size h1)
    rw [hmv] at this
    exact this
end

end Go.Proofs.YtmbcedengdoamaaGreatDoor
end

section
/- The pager: Fresh, over a range over the map. Conditions: those that stand in each line. -/
set_option linter.unusedVariables false
set_option linter.unusedSimpArgs false
namespace Go.Proofs.YtmbcedengdoamaaGreatDoor
open Go Go.Pt
attribute [local irreducible] ld ldA ldV fld fldA newZ st new idx idxS idxA slc slcS slcP mkS chk nn call callV inv run runQ runU join loop held ext rng undefer s2a nxt ent IntKind.wrap

def keyI (e : MapEntry) : Int := match e.key with | .int _ n => n | _ => 0
theorem keyI_map {es : List MapEntry} {f : List (Int × Value)} (h : Ents u32V es f) : es.map keyI = f.map (·.1) ∧ ∀ e ∈ es, e.key = u32V (keyI e) := by
  induction es generalizing f with
  | nil => cases f with
    | nil => exact ⟨rfl, by simp⟩
    | cons p f => simp [Ents] at h
  | cons e es ih => cases f with
    | nil => simp [Ents] at h
    | cons p f =>
      simp only [Ents, List.map_cons, List.cons.injEq, Prod.mk.injEq] at h
      obtain ⟨⟨h1, h2⟩, h3⟩ := h
      obtain ⟨i1, i2⟩ := ih h3
      have hk : keyI e = p.1 := by unfold keyI; rw [h1]
      refine ⟨by rw [List.map_cons, List.map_cons, hk, i1], fun e' he => ?_⟩
      rcases List.mem_cons.1 he with rfl | he
      · rw [hk]; exact h1
      · exact i2 e' he

theorem perm_pick {β : Type} {g : β → Nat} : ∀ {l : List β} {e : β}, (l.map g).Pairwise (· < ·) → e ∈ l → l.Perm (e :: l.filter fun x => !(g x == g e))
  | x :: l, e, hs, he => by
    rw [List.map_cons, List.pairwise_cons] at hs
    rcases List.mem_cons.1 he with rfl | he
    · have : (e :: l).filter (fun x => !(g x == g e)) = l := by
        rw [List.filter_cons_of_neg (by simp)]
        exact List.filter_eq_self.2 fun y hy => by
          have := hs.1 (g y) (List.mem_map_of_mem hy)
          have hne : g y ≠ g e := by omega
          simp [hne]
      rw [this]
    · have hlt := hs.1 (g e) (List.mem_map_of_mem he)
      have hne : g x ≠ g e := by omega
      rw [List.filter_cons_of_pos (by simp [hne])]
      exact ((perm_pick hs.2 he).cons x).trans (List.Perm.swap e x _)

def left (es : Array MapEntry) (seen : Array Nat) : List MapEntry := es.toList.filter fun e => !seen.toList.contains e.born
theorem left_push {es : Array MapEntry} {seen : Array Nat} {e : MapEntry} (hs : (es.toList.map (·.born)).Pairwise (· < ·)) (he : e ∈ es.toList) (hn : e.born ∉ seen.toList) : (left es seen).Perm (e :: left es (seen.push e.born)) := by
  have h1 : left es (seen.push e.born) = (left es seen).filter fun x => !(x.born == e.born) := by
    rw [left, left, List.filter_filter]
    congr 1
    funext x
    rw [Array.toList_push]
    by_cases h : x.born = e.born <;> simp [h]
  rw [h1]
  refine perm_pick (g := fun x : MapEntry => x.born) ?_ (List.mem_filter.2 ⟨he, by simpa using hn⟩)
  exact hs.sublist (List.filter_sublist.map _)

/-- How many the range has told. -/
def seenAt (w : World) (it : Nat) : Nat := match w.heap[it]? with | some (.mapIter _ _ seen _) => seen.size | _ => 0
theorem seenAt_of {w : World} {it : Nat} {a : Option Nat} {b c : Nat} {seen : Array Nat} (h : w.heap[it]? = some (.mapIter a b seen c)) : seenAt w it = seen.size := by unfold seenAt; rw [h]

theorem AppendKeys_ok {w : World} {mb rk : Nat} {f : List (Int × Value)} {T : TypeId} {K : Sl → World → Prop} (hm : MapS u32V w mb f) (hrk : w.heap[rk]? = some (.cells #[.map (some mb)] T (0, 0))) (hf : f.length ≤ 100000)
    (hk : ∀ s' B l' w', BufU w' s' l' B → l'.Perm (f.map (·.1)) → Fr [] w w' → (∀ b ∈ B, w.heap.size ≤ b) → K s' w') :
    call Tryz.prog 139 [.slice none 0 0, .func (.func 117) #[] #[.pointer (some ⟨rk, 0, none⟩)]] [.one .slice] w K := by
  refine slices_AppendSeq_of (s := ⟨none, 0, 0⟩) ?_
  unfold slices_AppendSeqF
  obtain ⟨es, c, hb, he, hs, hc⟩ := hm
  obtain ⟨hkm, hkey⟩ := keyI_map he
  have hesl : es.toList.length = f.length := by have := congrArg List.length hkm; simpa using this
  have hbW : ∀ {w' : World}, Fr [] w w' → w'.heap[mb]? = some (.map es c) := fun f => by rw [f.block mb (lt_of_blk hb) (by simp)]; exact hb
  have hrW : ∀ {w' : World}, Fr [] w w' → w'.heap[rk]? = some (.cells #[.map (some mb)] T (0, 0)) := fun f => by rw [f.block rk (lt_of_blk hrk) (by simp)]; exact hrk
  refine Own.new' (Own.start [] w) fun r1 w1 e1 f1 ho => ?_
  refine Own.rng (lb := [.pointer (some ⟨rk, 0, none⟩)]) ho rfl (by kernel_rfl) fun Dm l R Bz J E E0 w6 el eD f56 ho6 hy => ?_
  refine maps_Keys_c1_of ?_
  unfold maps_Keys_c1F
  refine ld_blk (c := .map) (hrW ho6.fr) (some mb) rfl ?_
  refine run_of (ts := [.one .any]) _ _ (run_range mapU (hbW ho6.fr)) ?_
  have ho7 := ho6.alloc (.mapIter (some mb) c #[] c)
  generalize hit : w6.heap.size = it at ho7
  refine loop_ind (fun _ w' => ∃ (seen : Array Nat) (so : Sl) (xs : List Int) (Bo : List Nat),
      Own [] w w' [(it, .mapIter (some mb) c seen c), (l, R), (Dm, .deferred (some [])), (r1, .cells #[.slice so.a so.len so.cap] 27 (0, 0))] ∧ (xs ++ (left es seen).map keyI).Perm (f.map (·.1)) ∧ xs.length = seen.size ∧ BufU w' so xs Bo ∧
      ∀ b ∈ Bo, w.heap.size ≤ b ∧ b ∉ [it, l, Dm, r1]) (fun _ w' => f.length - seenAt w' it)
    ⟨#[], ⟨none, 0, 0⟩, [], [], ho7, ?_, rfl, .nil _ _ _, by simp⟩ ?_
  · have : left es #[] = es.toList := by unfold left; exact List.filter_eq_self.2 (by simp)
    rw [this, hkm]
    exact .refl _
  rintro _ w8 ⟨seen, so, xs, Bo, ho8, hperm, hxl, hbu, hBo⟩ X hX
  have hxs : xs.length + (left es seen).length = f.length := by have := hperm.length_eq; simpa using this
  refine nxt_of (hbW ho8.fr) (ho8.at (i := 0) rfl) hc (fun hall => ?_) (fun e hem hne w9 hsame => ?_)
  · have hl0 : left es seen = [] := List.filter_eq_nil_iff.2 fun e he => by simpa using hall e he
    rw [hl0, List.map_nil, List.append_nil] at hperm
    refine .inl ⟨ho8.at (i := 1) rfl, ?_⟩
    have ho9 := ho8.upd (o' := E0) 1 rfl
    have hbu9 := hbu.frame (upd_fr' (lt_of_blk (ho8.at (i := 1) rfl)) E0) (fun b hb hm => by simp only [List.mem_singleton] at hm; subst hm; exact (hBo _ hb).2 (by simp))
    refine Own.ld (c := .slice) ho9 3 rfl so rfl ?_
    refine Own.undefer ho9.rebase 2 rfl fun w10 hd => ?_
    exact hk so Bo xs w10 (hbu9.frame hd.fr (fun b hb => (hBo b hb).2)) hperm (ho9.back (L' := []) hd.fr) (fun b hb => (hBo b hb).1)
  · have ho9 := (ho8.frame0 (.of_same hsame)).upd (o' := .mapIter (some mb) c (seen.push e.born) c) 0 rfl
    have hbu9 : BufU (Pt.upd w9 it (.mapIter (some mb) c (seen.push e.born) c)) so xs Bo := (hbu.frame0 (.of_same hsame)).frame (upd_fr' (lt_of_blk ((ho8.frame0 (.of_same hsame)).at (i := 0) rfl)) _) (fun b hb hm => by simp only [List.mem_singleton] at hm; subst hm; exact (hBo _ hb).2 (by simp))
    generalize hw10 : Pt.upd w9 it (.mapIter (some mb) c (seen.push e.born) c) = w10 at ho9 hbu9
    refine ent_of (hbW ho9.fr) (ho9.at (i := 0) rfl) hem hs ?_
    rw [hkey e hem]
    refine hy (keyI e) w10 _ (ho9.at (i := 1) rfl) ?_
    dsimp only
    refine ⟨ho9.at (i := 1) rfl, ?_⟩
    have hoA := ho9.upd (o' := Bz) 1 rfl
    have hbuA := hbu9.frame (upd_fr' (lt_of_blk (ho9.at (i := 1) rfl)) Bz) (fun b hb hm => by simp only [List.mem_singleton] at hm; subst hm; exact (hBo _ hb).2 (by simp))
    refine Own.ld (c := .slice) hoA 3 rfl so rfl ?_
    refine pushU hbuA (by omega) fun s11 B11 w11 b11 f11 n11 => ?_
    have hLlt : ∀ p ∈ [it, l, Dm, r1], p < (Pt.upd w10 l Bz).heap.size := fun p hp => by
      have hlt := fun (k : Nat) (q : Nat × Obj) (hq : _[k]? = some q) => lt_of_blk (hoA.at (i := k) hq)
      simp only [List.mem_cons, List.not_mem_nil, or_false] at hp
      rcases hp with rfl | rfl | rfl | rfl
      · exact hlt 0 _ rfl
      · exact hlt 1 _ rfl
      · exact hlt 2 _ rfl
      · exact hlt 3 _ rfl
    have hB11 : ∀ b ∈ B11, w.heap.size ≤ b ∧ b ∉ [it, l, Dm, r1] := fun b hb => by
      rcases n11 b hb with h | h
      · exact hBo b h
      · refine ⟨Nat.le_trans hoA.fr.size h, fun hm => ?_⟩
        exact Nat.lt_irrefl _ (Nat.lt_of_lt_of_le (hLlt b hm) h)
    have hoB := hoA.frame f11 (fun b hb => .inr (hBo b hb).1) (fun p hp hb => (hBo _ hb).2 (List.mem_map_of_mem (f := (·.1)) hp))
    refine Own.st' hoB 3 rfl _ rfl rfl (Nat.le_of_ble_eq_true rfl) fun w12 hoC f12 => ?_
    refine ⟨hoC.at (i := 1) rfl, ?_⟩
    have hoD := hoC.upd (o' := R) 1 rfl
    have b12 := (b11.frame f12 (fun b hb hm => by simp only [List.mem_singleton] at hm; subst hm; exact (hB11 _ hb).2 (by simp))).frame (upd_fr' (lt_of_blk (hoC.at (i := 1) rfl)) R) (fun b hb hm => by simp only [List.mem_singleton] at hm; subst hm; exact (hB11 _ hb).2 (by simp))
    refine cond_false rfl ?_
    have hpk := left_push hs hem hne
    refine hX _ _ ⟨seen.push e.born, s11, xs ++ [keyI e], B11, hoD, ?_, by simp [hxl], b12, hB11⟩ ?_
    · refine List.Perm.trans ?_ hperm
      rw [List.append_assoc]
      exact (hpk.symm.map keyI).append_left xs
    · have h1 := seenAt_of (ho8.at (i := 0) rfl)
      have h2 : seenAt (Pt.upd w12 l R) it = (seen.push e.born).size := seenAt_of (hoD.at (i := 0) rfl)
      have h3 := hpk.length_eq
      rw [List.length_cons] at h3
      show f.length - seenAt (Pt.upd w12 l R) it < f.length - seenAt w8 it
      rw [h1, h2, Array.size_push]
      omega

end Go.Proofs.YtmbcedengdoamaaGreatDoor
end

section
/- Sorting a buffer; the pager: Fresh. Conditions: those that stand in each line. -/
set_option linter.unusedVariables false
set_option linter.unusedSimpArgs false
namespace Go.Proofs.YtmbcedengdoamaaGreatDoor
open Go Go.Pt Go.Sort
attribute [local irreducible] ld ldA ldV fld fldA newZ st new idx idxS idxA slc slcS slcP mkS chk nn call callV inv run runQ runU join loop held ext rng undefer s2a nxt ent IntKind.wrap

theorem flatMap_encU (l : List Int) : l.flatMap encU = l.map (Value.int .u32) := by
  induction l with
  | nil => rfl
  | cons a l ih => rw [List.flatMap_cons, ih]; rfl

theorem SortU_ok {w : World} {s : Sl} {l : List Int} {B : List Nat} {K : Unit → World → Prop} (h : BufU w s l B) (hl : l.length ≤ 1000000)
    (hk : ∀ l' w', BufU w' s l' B → l'.Perm l → l'.Pairwise (· ≤ ·) → Fr B w w' → K () w') :
    call Tryz.prog 91 [.slice s.a s.len s.cap] [] w K := by
  rcases h with ⟨rfl, rfl, rfl⟩ | ⟨b, o, cs, T, rfl, rfl, ha, hb, h1, h2, h3, h4⟩
  · exact Sort_nil (hk [] w (.nil _ _ _) (.refl _) .nil (.refl _ _))
  · obtain ⟨a, len, cap⟩ := s
    simp only at ha h1 h2 h3 h4
    subst ha h1
    rw [List.drop_zero, Nat.mul_one, flatMap_encU] at h4
    rw [Nat.zero_add, Nat.mul_one] at h3
    have hcs : cs = u32s l.toArray ++ (cs.toList.drop l.length).toArray := by
      apply Array.ext'
      rw [Array.toList_append, u32s, Array.toList_map, ← h4, List.take_append_drop]
    have harr : Arr b ⟨T, some (cs.toList.drop l.length).toArray⟩ w w l.toArray := ⟨.refl _ _, by rw [hb]; show _ = some (Obj.cells (u32s l.toArray ++ (cs.toList.drop l.length).toArray) T (0, 0)); rw [← hcs]⟩
    refine Sort_ok (len := l.length) harr ⟨by simp, by omega⟩ fun d' w' s1 s2 s3 => ?_
    have hsz : d'.size = l.length := by have := s1.1; simpa using this
    have hp : d'.toList.Perm l := by
      have := permIn_take s1
      rw [List.take_of_length_le (by rw [Array.length_toList]; omega)] at this
      simpa using this
    have hdl : d'.toList.length = l.length := by rw [← hsz]; rfl
    have hcl : cs.toList.length = cs.size := rfl
    refine hk d'.toList w' (.inr ⟨b, 0, _, T, rfl, rfl, rfl, s3.blk, ?_, ?_, ?_, ?_⟩) hp ?_ s3.fr
    · show l.length = d'.toList.length
      exact hdl.symm
    · exact h2
    · show 0 + cap * 1 ≤ (u32s d' ++ (cs.toList.drop l.length).toArray).size
      have e : (cs.toList.drop l.length).toArray.size = cs.size - l.length := by simp
      rw [Array.size_append, u32s_size, e, hsz]
      omega
    · show ((u32s d' ++ (cs.toList.drop l.length).toArray).toList.drop 0).take _ = _
      rw [List.drop_zero, Nat.mul_one, Array.toList_append, u32s, Array.toList_map, List.take_append_of_le_length (by rw [List.length_map]; exact Nat.le_refl _), List.take_of_length_le (by rw [List.length_map]; exact Nat.le_refl _), flatMap_encU]
    · rw [List.pairwise_iff_getElem]
      intro i j hi hj hij
      have hi : i < d'.size := hi
      have hj : j < d'.size := hj
      have := s2 i j (Nat.zero_le _) hij (by omega)
      rw [getElem!_pos d' i hi, getElem!_pos d' j hj] at this
      simp [ltInt] at this
      simpa using this

theorem FreshKeys_ok {w : World} {mb : Nat} {f : List (Int × Value)} {K : Sl → World → Prop} (hm : MapS u32V w mb f) (hf : f.length ≤ 100000)
    (hk : ∀ s' B l' w', BufU w' s' l' B → l'.Perm (f.map (·.1)) → l'.Pairwise (· ≤ ·) → Fr [] w w' → (∀ b ∈ B, w.heap.size ≤ b) → K s' w') :
    call Tryz.prog 84 [.map (some mb)] [.one .any] w fun v w' =>
      call Tryz.prog 83 [v] [.one .slice] w' fun s w' => K s w' := by
  refine maps_Keys_of (m := some mb) ?_
  unfold maps_KeysF
  refine Own.new' (Own.start [] w) fun rk w1 e1 f1 ho => ?_
  refine slices_Sorted_of ?_
  unfold slices_SortedF
  refine slices_Collect_of ?_
  unfold slices_CollectF
  refine AppendKeys_ok (hm.frame f1 (by simp)) (ho.at (i := 0) rfl) hf fun s' B l' w2 b2 p2 f2 n2 => ?_
  have hl : l'.length = f.length := by have := p2.length_eq; simpa using this
  refine SortU_ok b2 (by omega) fun l2 w3 b3 p3 s3 f3 => ?_
  have hs := f1.size
  exact hk s' B l2 w3 b3 (p3.trans p2) s3 ((f1.trans f2).trans' f3 fun b hb => .inr (Nat.le_trans hs (n2 b hb))) fun b hb => Nat.le_trans hs (n2 b hb)

section
variable {w : World} {X : List Nat} {pb : Nat} {db : Option Addr} {F : List Nat} {M : PgM}

theorem PFresh_ok {K : Sl → World → Prop} (h : PagerAt w X pb db F M) (hl : M.fresh.length ≤ 100000) (hk : ∀ s B l w', BufU w' s l B → l.Perm (M.fresh.map (·.1)) → l.Pairwise (· ≤ ·) → Fr [] w w' → (∀ b ∈ B, w.heap.size ≤ b) → K s w') :
    call Tryz.prog 34 [.pointer (some ⟨pb, 0, none⟩)] [.one .slice] w K := by
  obtain ⟨fb, defb, mb, sl, sn, F1, F2, fs, rfl, hx⟩ := h
  refine pager_Pager_Fresh_of (p := some ⟨pb, 0, none⟩) ?_
  unfold pager_Pager_FreshF
  refine nn_some ?_
  simp only [Addr.add_mk]
  refine ld_blk (c := .map) hx.cell (some mb) (pg_map hx.suplen) ?_
  have hlf : fs.length ≤ 100000 := by rw [hx.fresh] at hl; simpa using hl
  refine FreshKeys_ok hx.map (by simpa using hlf) fun s B l w' b p o f n => ?_
  refine hk s B l w' b ?_ o f n
  rw [hx.fresh]
  simpa [Function.comp_def] using p
end

end Go.Proofs.YtmbcedengdoamaaGreatDoor
end

section
/- The pager: begin. Conditions: those that stand in each line. -/
set_option linter.unusedVariables false
set_option linter.unusedSimpArgs false
namespace Go.Proofs.YtmbcedengdoamaaGreatDoor
open Go Go.Pt
attribute [local irreducible] ld ldA ldV fld fldA newZ st new idx idxS idxA slc slcS slcP mkS chk nn call callV inv run runQ runU join loop held ext rng undefer s2a nxt ent IntKind.wrap

theorem splice_mid {A X Y Z : List Value} (h : X.length = Y.length) : splice (A ++ X ++ Z).toArray A.length Y = (A ++ Y ++ Z).toArray := by
  apply Array.ext'
  rw [splice_toList _ _ _ (by rw [List.size_toArray]; simp only [List.length_append]; omega)]
  exact splice_parts A X Y Z h

/-! ### Structs built of some of their fields -/
theorem fill_step {offs : Array (Nat × Nat)} {cells : Array Value} {i o s : Nat} {v : Value} {rest : List (Nat × Value)} (h : offs[i]? = some (o, s)) (hv : v.cells.size = s) (hb : o + s ≤ cells.size) :
    Instr.fill (offs[·]?) cells ((i, v) :: rest) = Instr.fill (offs[·]?) (splice cells o v.cells.toList) rest := by
  have h1 := fill_put o v.cells cells
  simp only [Instr.fill, h]
  rw [if_neg (by simp [hv]; omega), h1]
theorem run_build {P : Program} {t : TypeId} {z : Value} {parts : List (Nat × Value)} {offs : Array (Nat × Nat)} {cs : Array Value} (hz : (P.info? t).bind (·.zero) = some z) (hu : P.underlying t = some (.struct (fieldsOf P t))) (hpl : ∀ w, ((fieldsOf P t).mapM fun f => do pure (f.offset, ← sizeOf f.type) : Sem (Array (Nat × Nat))).run P w = .ok offs w)
    (hf : Instr.fill (offs[·]?) z.cells parts = some cs) (w : World) : (Instr.build t parts.toArray).run P w = .ok (.agg cs) w := by
  simp only [Instr.build, Sem.run_bind, run_zeroValue' hz, Result.andThen_ok, run_underlying hu, hpl, hf, Sem.run_pure]

abbrev WKT : TypeId := 98
/-- A transaction's work, as cells. -/
def workV (x y : Option Addr) (m : Option Nat) (roots : List Int) : List Value := [.pointer x, .pointer y, .map m] ++ roots.map (Value.int .u32)
theorem workV_len {x y : Option Addr} {m : Option Nat} {roots : List Int} (h : roots.length = 24) : (workV x y m roots).length = 27 := by simp [workV, h]
theorem workZ : (Tryz.prog.info? WKT).bind (·.zero) = some (.agg (workV none none none (zs 24)).toArray) := by kernel_rfl
theorem build_work {x y : Option Addr} {m : Option Nat} {roots : List Int} (h : roots.length = 24) (w : World) :
    (Instr.build WKT #[(0, .pointer x), (1, .pointer y), (2, .map m), (3, .agg (roots.map (Value.int .u32)).toArray)]).run Tryz.prog w = .ok (.agg (workV x y m roots).toArray) w := by
  refine run_build (parts := [(0, .pointer x), (1, .pointer y), (2, .map m), (3, .agg (roots.map (Value.int .u32)).toArray)]) (offs := #[(0, 1), (1, 1), (2, 1), (3, 24)]) workZ (by kernel_rfl) (fun w => by kernel_rfl) ?_ w
  have hs : (Value.agg (roots.map (Value.int .u32)).toArray).cells.size = 24 := by show (roots.map (Value.int .u32)).toArray.size = 24; simp [h]
  rw [fill_step (o := 0) (s := 1) rfl rfl (Nat.le_of_ble_eq_true rfl), fill_step (o := 1) (s := 1) rfl rfl (Nat.le_of_ble_eq_true rfl), fill_step (o := 2) (s := 1) rfl rfl (Nat.le_of_ble_eq_true rfl), fill_step (o := 3) (s := 24) rfl hs (Nat.le_of_ble_eq_true rfl)]
  show some _ = _
  congr 1
  exact splice_mid (A := [.pointer x, .pointer y, .map m]) (X := (zs 24).map (Value.int .u32)) (Z := []) (Y := roots.map (Value.int .u32)) (by simp [h, zs_len]) |>.trans (by rw [List.append_nil]; rfl)

/-! ### The pager's cells, whatever its work -/
def pgRaw (db : Option Addr) (sup : Sup) (sl sn : Sl) (turn : Int) (over : Bool) (wk : List Value) : Array Value :=
  ((Value.pointer db :: supV sup.1 sup.2) ++ ([.slice sl.a sl.len sl.cap, .slice sn.a sn.len sn.cap, .int .i64 turn, .bool over] : List Value) ++ wk).toArray
theorem pgRaw_cells {db : Option Addr} {sup : Sup} {sl sn : Sl} {turn : Int} {over : Bool} {fb defb mb : Nat} {roots : List Int} :
    pgRaw db sup sl sn turn over (workV (some ⟨fb, 0, none⟩) (some ⟨defb, 0, none⟩) (some mb) roots) = pgCells db sup sl sn turn over fb defb mb roots := by
  simp [pgRaw, pgCells, pgRest, workV]
section
variable {db : Option Addr} {sup : Sup} {sl sn : Sl} {turn : Int} {over : Bool} {wk : List Value}
theorem raw_size (hl : sup.2.length = 27) : (pgRaw db sup sl sn turn over wk).size = 33 + wk.length := by
  rw [pgRaw, List.size_toArray, List.length_append, List.length_append, pg_head hl]; rfl
theorem raw_at (hl : sup.2.length = 27) (j : Nat) (h : j < 4) : (pgRaw db sup sl sn turn over wk)[29 + j]? = ([.slice sl.a sl.len sl.cap, .slice sn.a sn.len sn.cap, .int .i64 turn, .bool over] : List Value)[j]? := by
  rw [pgRaw, List.getElem?_toArray, List.append_assoc, List.getElem?_append_right (by rw [pg_head hl]; omega), pg_head hl, Nat.add_sub_cancel_left, List.getElem?_append_left (by exact h)]
theorem raw_d : (pgRaw db sup sl sn turn over wk)[0]? = some (.pointer db) := rfl
theorem raw_sup (hl : sup.2.length = 27) (n : Nat) (h : n < 27) : (pgRaw db sup sl sn turn over wk)[n + 2]? = some (.int .u32 (sup.2.getD n 0)) := by
  rw [pgRaw, List.getElem?_toArray, List.append_assoc, List.getElem?_append_left (by rw [pg_head hl]; omega), List.getElem?_cons_succ]
  have := supV_at (q := sup.1) (t := sup.2) n (by omega)
  rw [List.getElem?_toArray] at this
  exact this
theorem raw_roots (hl : sup.2.length = 27) : ((pgRaw db sup sl sn turn over wk).toList.drop 5).take 24 = (sup.2.drop 3).map (Value.int .u32) := by
  have hm : ((sup.2.drop 3).map (Value.int .u32)).length = 24 := by rw [List.length_map, List.length_drop, hl]
  have e : (pgRaw db sup sl sn turn over wk).toList.drop 5 = (sup.2.drop 3).map (Value.int .u32) ++ ([.slice sl.a sl.len sl.cap, .slice sn.a sn.len sn.cap, .int .i64 turn, .bool over] ++ wk) := by
    show List.drop 3 ((sup.2.map (Value.int .u32)) ++ [_, _, _, _] ++ wk) = _
    rw [List.append_assoc, List.drop_append_of_le_length (by rw [List.length_map, hl]; decide), List.map_drop]
  rw [e, List.take_append_of_le_length (Nat.le_of_eq hm.symm), List.take_of_length_le (Nat.le_of_eq hm)]
theorem raw_turn (hl : sup.2.length = 27) {turn' : Int} : splice (pgRaw db sup sl sn turn over wk) 31 [.int .i64 turn'] = pgRaw db sup sl sn turn' over wk := by
  have h : ((Value.pointer db :: supV sup.1 sup.2) ++ ([.slice sl.a sl.len sl.cap, .slice sn.a sn.len sn.cap] : List Value)).length = 31 := by rw [List.length_append, pg_head hl]; rfl
  have := splice_mid (A := (Value.pointer db :: supV sup.1 sup.2) ++ ([.slice sl.a sl.len sl.cap, .slice sn.a sn.len sn.cap] : List Value)) (X := [.int .i64 turn]) (Y := [.int .i64 turn']) (Z := .bool over :: wk) rfl
  rw [h] at this
  simpa [pgRaw] using this
theorem raw_work (hl : sup.2.length = 27) {wk' : List Value} (hw : wk.length = wk'.length) : splice (pgRaw db sup sl sn turn over wk) 33 wk' = pgRaw db sup sl sn turn over wk' := by
  have h : ((Value.pointer db :: supV sup.1 sup.2) ++ ([.slice sl.a sl.len sl.cap, .slice sn.a sn.len sn.cap, .int .i64 turn, .bool over] : List Value)).length = 33 := by rw [List.length_append, pg_head hl]; rfl
  have := splice_mid (A := (Value.pointer db :: supV sup.1 sup.2) ++ ([.slice sl.a sl.len sl.cap, .slice sn.a sn.len sn.cap, .int .i64 turn, .bool over] : List Value)) (X := wk) (Y := wk') (Z := []) hw
  rw [h, List.append_nil, List.append_nil] at this
  exact this
end

end Go.Proofs.YtmbcedengdoamaaGreatDoor
end

section
/- The readable forms of functions of the program, each shown to be what the evaluator gives: printed by a program of this claim (wip/tools). No condition. -/
set_option linter.unusedVariables false
set_option maxRecDepth 100000
namespace Go.Proofs.YtmbcedengdoamaaGreatDoor
open Go Go.Pt
@[reducible] def dcs1 : List Cell := [Cell.slice, Cell.slice, Cell.int IntKind.i64, Cell.bool, Cell.int IntKind.i64]

/-- cashbook.disk.New -/
def disk_NewF (blocks : Int) (K : ((Option Addr) × Int) → World → Prop) (w : World) : Prop :=
  join (Bool) (fun (X_1 : Bool → World → Prop) =>
    cond (decide (blocks < 8))
      (X_1 true w)
      (X_1 (decide (blocks > 4096)) w)) <|
  fun (b_2 : Bool) (w_3 : World) =>
  cond b_2
    (K ((none, 1)) w_3)
    (mkS 128 ([Value.int IntKind.u8 0, Value.int IntKind.u8 0, Value.int IntKind.u8 0, Value.int IntKind.u8 0, Value.int IntKind.u8 0, Value.int IntKind.u8 0, Value.int IntKind.u8 0, Value.int IntKind.u8 0, Value.int IntKind.u8 0, Value.int IntKind.u8 0, Value.int IntKind.u8 0, Value.int IntKind.u8 0, Value.int IntKind.u8 0, Value.int IntKind.u8 0, Value.int IntKind.u8 0, Value.int IntKind.u8 0, Value.int IntKind.u8 0, Value.int IntKind.u8 0, Value.int IntKind.u8 0, Value.int IntKind.u8 0, Value.int IntKind.u8 0, Value.int IntKind.u8 0, Value.int IntKind.u8 0, Value.int IntKind.u8 0, Value.int IntKind.u8 0, Value.int IntKind.u8 0, Value.int IntKind.u8 0, Value.int IntKind.u8 0, Value.int IntKind.u8 0, Value.int IntKind.u8 0, Value.int IntKind.u8 0, Value.int IntKind.u8 0, Value.int IntKind.u8 0, Value.int IntKind.u8 0, Value.int IntKind.u8 0, Value.int IntKind.u8 0, Value.int IntKind.u8 0, Value.int IntKind.u8 0, Value.int IntKind.u8 0, Value.int IntKind.u8 0, Value.int IntKind.u8 0, Value.int IntKind.u8 0, Value.int IntKind.u8 0, Value.int IntKind.u8 0, Value.int IntKind.u8 0, Value.int IntKind.u8 0, Value.int IntKind.u8 0, Value.int IntKind.u8 0, Value.int IntKind.u8 0, Value.int IntKind.u8 0, Value.int IntKind.u8 0, Value.int IntKind.u8 0, Value.int IntKind.u8 0, Value.int IntKind.u8 0, Value.int IntKind.u8 0, Value.int IntKind.u8 0, Value.int IntKind.u8 0, Value.int IntKind.u8 0, Value.int IntKind.u8 0, Value.int IntKind.u8 0, Value.int IntKind.u8 0, Value.int IntKind.u8 0, Value.int IntKind.u8 0, Value.int IntKind.u8 0, Value.int IntKind.u8 0, Value.int IntKind.u8 0, Value.int IntKind.u8 0, Value.int IntKind.u8 0, Value.int IntKind.u8 0, Value.int IntKind.u8 0, Value.int IntKind.u8 0, Value.int IntKind.u8 0, Value.int IntKind.u8 0, Value.int IntKind.u8 0, Value.int IntKind.u8 0, Value.int IntKind.u8 0, Value.int IntKind.u8 0, Value.int IntKind.u8 0, Value.int IntKind.u8 0, Value.int IntKind.u8 0, Value.int IntKind.u8 0, Value.int IntKind.u8 0, Value.int IntKind.u8 0, Value.int IntKind.u8 0, Value.int IntKind.u8 0, Value.int IntKind.u8 0, Value.int IntKind.u8 0, Value.int IntKind.u8 0, Value.int IntKind.u8 0, Value.int IntKind.u8 0, Value.int IntKind.u8 0, Value.int IntKind.u8 0, Value.int IntKind.u8 0, Value.int IntKind.u8 0, Value.int IntKind.u8 0, Value.int IntKind.u8 0, Value.int IntKind.u8 0, Value.int IntKind.u8 0, Value.int IntKind.u8 0, Value.int IntKind.u8 0, Value.int IntKind.u8 0, Value.int IntKind.u8 0, Value.int IntKind.u8 0, Value.int IntKind.u8 0, Value.int IntKind.u8 0, Value.int IntKind.u8 0, Value.int IntKind.u8 0, Value.int IntKind.u8 0, Value.int IntKind.u8 0, Value.int IntKind.u8 0, Value.int IntKind.u8 0, Value.int IntKind.u8 0, Value.int IntKind.u8 0, Value.int IntKind.u8 0, Value.int IntKind.u8 0, Value.int IntKind.u8 0, Value.int IntKind.u8 0, Value.int IntKind.u8 0, Value.int IntKind.u8 0, Value.int IntKind.u8 0, Value.int IntKind.u8 0, Value.int IntKind.u8 0, Value.int IntKind.u8 0, Value.int IntKind.u8 0, Value.int IntKind.u8 0, Value.int IntKind.u8 0, Value.int IntKind.u8 0, Value.int IntKind.u8 0, Value.int IntKind.u8 0, Value.int IntKind.u8 0, Value.int IntKind.u8 0, Value.int IntKind.u8 0, Value.int IntKind.u8 0, Value.int IntKind.u8 0, Value.int IntKind.u8 0, Value.int IntKind.u8 0, Value.int IntKind.u8 0, Value.int IntKind.u8 0, Value.int IntKind.u8 0, Value.int IntKind.u8 0, Value.int IntKind.u8 0, Value.int IntKind.u8 0, Value.int IntKind.u8 0, Value.int IntKind.u8 0, Value.int IntKind.u8 0, Value.int IntKind.u8 0, Value.int IntKind.u8 0, Value.int IntKind.u8 0, Value.int IntKind.u8 0, Value.int IntKind.u8 0, Value.int IntKind.u8 0, Value.int IntKind.u8 0, Value.int IntKind.u8 0, Value.int IntKind.u8 0, Value.int IntKind.u8 0, Value.int IntKind.u8 0, Value.int IntKind.u8 0, Value.int IntKind.u8 0, Value.int IntKind.u8 0, Value.int IntKind.u8 0, Value.int IntKind.u8 0, Value.int IntKind.u8 0, Value.int IntKind.u8 0, Value.int IntKind.u8 0, Value.int IntKind.u8 0, Value.int IntKind.u8 0, Value.int IntKind.u8 0, Value.int IntKind.u8 0, Value.int IntKind.u8 0, Value.int IntKind.u8 0, Value.int IntKind.u8 0, Value.int IntKind.u8 0, Value.int IntKind.u8 0, Value.int IntKind.u8 0, Value.int IntKind.u8 0, Value.int IntKind.u8 0, Value.int IntKind.u8 0, Value.int IntKind.u8 0, Value.int IntKind.u8 0, Value.int IntKind.u8 0, Value.int IntKind.u8 0, Value.int IntKind.u8 0, Value.int IntKind.u8 0, Value.int IntKind.u8 0, Value.int IntKind.u8 0, Value.int IntKind.u8 0, Value.int IntKind.u8 0, Value.int IntKind.u8 0, Value.int IntKind.u8 0, Value.int IntKind.u8 0, Value.int IntKind.u8 0, Value.int IntKind.u8 0, Value.int IntKind.u8 0, Value.int IntKind.u8 0, Value.int IntKind.u8 0, Value.int IntKind.u8 0, Value.int IntKind.u8 0, Value.int IntKind.u8 0, Value.int IntKind.u8 0, Value.int IntKind.u8 0, Value.int IntKind.u8 0, Value.int IntKind.u8 0, Value.int IntKind.u8 0, Value.int IntKind.u8 0, Value.int IntKind.u8 0, Value.int IntKind.u8 0, Value.int IntKind.u8 0, Value.int IntKind.u8 0, Value.int IntKind.u8 0, Value.int IntKind.u8 0, Value.int IntKind.u8 0, Value.int IntKind.u8 0, Value.int IntKind.u8 0, Value.int IntKind.u8 0, Value.int IntKind.u8 0, Value.int IntKind.u8 0, Value.int IntKind.u8 0, Value.int IntKind.u8 0, Value.int IntKind.u8 0, Value.int IntKind.u8 0, Value.int IntKind.u8 0, Value.int IntKind.u8 0, Value.int IntKind.u8 0, Value.int IntKind.u8 0, Value.int IntKind.u8 0, Value.int IntKind.u8 0, Value.int IntKind.u8 0, Value.int IntKind.u8 0, Value.int IntKind.u8 0, Value.int IntKind.u8 0, Value.int IntKind.u8 0, Value.int IntKind.u8 0, Value.int IntKind.u8 0, Value.int IntKind.u8 0, Value.int IntKind.u8 0, Value.int IntKind.u8 0, Value.int IntKind.u8 0, Value.int IntKind.u8 0, Value.int IntKind.u8 0, Value.int IntKind.u8 0, Value.int IntKind.u8 0, Value.int IntKind.u8 0, Value.int IntKind.u8 0, Value.int IntKind.u8 0, Value.int IntKind.u8 0, Value.int IntKind.u8 0, Value.int IntKind.u8 0, Value.int IntKind.u8 0, Value.int IntKind.u8 0, Value.int IntKind.u8 0, Value.int IntKind.u8 0, Value.int IntKind.u8 0, Value.int IntKind.u8 0, Value.int IntKind.u8 0, Value.int IntKind.u8 0, Value.int IntKind.u8 0, Value.int IntKind.u8 0, Value.int IntKind.u8 0, Value.int IntKind.u8 0, Value.int IntKind.u8 0, Value.int IntKind.u8 0, Value.int IntKind.u8 0, Value.int IntKind.u8 0, Value.int IntKind.u8 0, Value.int IntKind.u8 0, Value.int IntKind.u8 0, Value.int IntKind.u8 0, Value.int IntKind.u8 0, Value.int IntKind.u8 0, Value.int IntKind.u8 0, Value.int IntKind.u8 0, Value.int IntKind.u8 0, Value.int IntKind.u8 0, Value.int IntKind.u8 0, Value.int IntKind.u8 0, Value.int IntKind.u8 0, Value.int IntKind.u8 0, Value.int IntKind.u8 0, Value.int IntKind.u8 0, Value.int IntKind.u8 0, Value.int IntKind.u8 0, Value.int IntKind.u8 0, Value.int IntKind.u8 0, Value.int IntKind.u8 0, Value.int IntKind.u8 0, Value.int IntKind.u8 0, Value.int IntKind.u8 0, Value.int IntKind.u8 0, Value.int IntKind.u8 0, Value.int IntKind.u8 0, Value.int IntKind.u8 0, Value.int IntKind.u8 0, Value.int IntKind.u8 0, Value.int IntKind.u8 0, Value.int IntKind.u8 0, Value.int IntKind.u8 0, Value.int IntKind.u8 0, Value.int IntKind.u8 0, Value.int IntKind.u8 0, Value.int IntKind.u8 0, Value.int IntKind.u8 0, Value.int IntKind.u8 0, Value.int IntKind.u8 0, Value.int IntKind.u8 0, Value.int IntKind.u8 0, Value.int IntKind.u8 0, Value.int IntKind.u8 0, Value.int IntKind.u8 0, Value.int IntKind.u8 0, Value.int IntKind.u8 0, Value.int IntKind.u8 0, Value.int IntKind.u8 0, Value.int IntKind.u8 0, Value.int IntKind.u8 0, Value.int IntKind.u8 0, Value.int IntKind.u8 0, Value.int IntKind.u8 0, Value.int IntKind.u8 0, Value.int IntKind.u8 0, Value.int IntKind.u8 0, Value.int IntKind.u8 0, Value.int IntKind.u8 0, Value.int IntKind.u8 0, Value.int IntKind.u8 0, Value.int IntKind.u8 0, Value.int IntKind.u8 0, Value.int IntKind.u8 0, Value.int IntKind.u8 0, Value.int IntKind.u8 0, Value.int IntKind.u8 0, Value.int IntKind.u8 0, Value.int IntKind.u8 0, Value.int IntKind.u8 0, Value.int IntKind.u8 0, Value.int IntKind.u8 0, Value.int IntKind.u8 0, Value.int IntKind.u8 0, Value.int IntKind.u8 0, Value.int IntKind.u8 0, Value.int IntKind.u8 0, Value.int IntKind.u8 0, Value.int IntKind.u8 0, Value.int IntKind.u8 0, Value.int IntKind.u8 0, Value.int IntKind.u8 0, Value.int IntKind.u8 0, Value.int IntKind.u8 0, Value.int IntKind.u8 0, Value.int IntKind.u8 0, Value.int IntKind.u8 0, Value.int IntKind.u8 0, Value.int IntKind.u8 0, Value.int IntKind.u8 0, Value.int IntKind.u8 0, Value.int IntKind.u8 0, Value.int IntKind.u8 0, Value.int IntKind.u8 0, Value.int IntKind.u8 0, Value.int IntKind.u8 0, Value.int IntKind.u8 0, Value.int IntKind.u8 0, Value.int IntKind.u8 0, Value.int IntKind.u8 0, Value.int IntKind.u8 0, Value.int IntKind.u8 0, Value.int IntKind.u8 0, Value.int IntKind.u8 0, Value.int IntKind.u8 0, Value.int IntKind.u8 0, Value.int IntKind.u8 0, Value.int IntKind.u8 0, Value.int IntKind.u8 0, Value.int IntKind.u8 0, Value.int IntKind.u8 0, Value.int IntKind.u8 0, Value.int IntKind.u8 0, Value.int IntKind.u8 0, Value.int IntKind.u8 0, Value.int IntKind.u8 0, Value.int IntKind.u8 0, Value.int IntKind.u8 0, Value.int IntKind.u8 0, Value.int IntKind.u8 0, Value.int IntKind.u8 0, Value.int IntKind.u8 0, Value.int IntKind.u8 0, Value.int IntKind.u8 0, Value.int IntKind.u8 0, Value.int IntKind.u8 0, Value.int IntKind.u8 0, Value.int IntKind.u8 0, Value.int IntKind.u8 0, Value.int IntKind.u8 0, Value.int IntKind.u8 0, Value.int IntKind.u8 0, Value.int IntKind.u8 0, Value.int IntKind.u8 0, Value.int IntKind.u8 0, Value.int IntKind.u8 0, Value.int IntKind.u8 0, Value.int IntKind.u8 0, Value.int IntKind.u8 0, Value.int IntKind.u8 0, Value.int IntKind.u8 0, Value.int IntKind.u8 0, Value.int IntKind.u8 0, Value.int IntKind.u8 0, Value.int IntKind.u8 0, Value.int IntKind.u8 0, Value.int IntKind.u8 0, Value.int IntKind.u8 0, Value.int IntKind.u8 0, Value.int IntKind.u8 0, Value.int IntKind.u8 0, Value.int IntKind.u8 0, Value.int IntKind.u8 0, Value.int IntKind.u8 0, Value.int IntKind.u8 0, Value.int IntKind.u8 0, Value.int IntKind.u8 0, Value.int IntKind.u8 0, Value.int IntKind.u8 0, Value.int IntKind.u8 0, Value.int IntKind.u8 0, Value.int IntKind.u8 0, Value.int IntKind.u8 0, Value.int IntKind.u8 0, Value.int IntKind.u8 0, Value.int IntKind.u8 0, Value.int IntKind.u8 0, Value.int IntKind.u8 0, Value.int IntKind.u8 0, Value.int IntKind.u8 0, Value.int IntKind.u8 0, Value.int IntKind.u8 0, Value.int IntKind.u8 0, Value.int IntKind.u8 0, Value.int IntKind.u8 0, Value.int IntKind.u8 0, Value.int IntKind.u8 0, Value.int IntKind.u8 0, Value.int IntKind.u8 0, Value.int IntKind.u8 0, Value.int IntKind.u8 0, Value.int IntKind.u8 0, Value.int IntKind.u8 0, Value.int IntKind.u8 0, Value.int IntKind.u8 0, Value.int IntKind.u8 0, Value.int IntKind.u8 0, Value.int IntKind.u8 0, Value.int IntKind.u8 0, Value.int IntKind.u8 0, Value.int IntKind.u8 0, Value.int IntKind.u8 0, Value.int IntKind.u8 0, Value.int IntKind.u8 0, Value.int IntKind.u8 0, Value.int IntKind.u8 0, Value.int IntKind.u8 0, Value.int IntKind.u8 0, Value.int IntKind.u8 0, Value.int IntKind.u8 0, Value.int IntKind.u8 0, Value.int IntKind.u8 0, Value.int IntKind.u8 0, Value.int IntKind.u8 0, Value.int IntKind.u8 0, Value.int IntKind.u8 0, Value.int IntKind.u8 0, Value.int IntKind.u8 0, Value.int IntKind.u8 0, Value.int IntKind.u8 0, Value.int IntKind.u8 0, Value.int IntKind.u8 0, Value.int IntKind.u8 0, Value.int IntKind.u8 0, Value.int IntKind.u8 0, Value.int IntKind.u8 0, Value.int IntKind.u8 0, Value.int IntKind.u8 0, Value.int IntKind.u8 0, Value.int IntKind.u8 0, Value.int IntKind.u8 0, Value.int IntKind.u8 0, Value.int IntKind.u8 0, Value.int IntKind.u8 0, Value.int IntKind.u8 0, Value.int IntKind.u8 0, Value.int IntKind.u8 0, Value.int IntKind.u8 0, Value.int IntKind.u8 0, Value.int IntKind.u8 0, Value.int IntKind.u8 0, Value.int IntKind.u8 0, Value.int IntKind.u8 0, Value.int IntKind.u8 0, Value.int IntKind.u8 0, Value.int IntKind.u8 0, Value.int IntKind.u8 0, Value.int IntKind.u8 0, Value.int IntKind.u8 0, Value.int IntKind.u8 0, Value.int IntKind.u8 0, Value.int IntKind.u8 0, Value.int IntKind.u8 0, Value.int IntKind.u8 0, Value.int IntKind.u8 0, Value.int IntKind.u8 0, Value.int IntKind.u8 0, Value.int IntKind.u8 0, Value.int IntKind.u8 0]) 512 512 blocks blocks w_3 <|
    fun (s_4 : Sl) (w_5 : World) =>
    new (Obj.cells #[Value.slice s_4.a s_4.len s_4.cap, Value.slice none 0 0, Value.int IntKind.i64 (-1), Value.bool false, Value.int IntKind.i64 0] 112) w_5 <|
    fun (r_6 : Nat) (w_7 : World) =>
    K ((some { block := r_6, off := 0 }, 0)) w_7)
def disk_NewA : List Ann := [.n, .n, .j [(9, .one .bool)], .n, .n]
theorem disk_New_of {blocks : Int} {w : World} {K : ((Option Addr) × Int) → World → Prop} (hF : disk_NewF blocks K w) : call Tryz.prog 38 [.int .i64 blocks] [.one .ptr, .one (.int .i64)] w K :=
  calls_of_fnPt (an := disk_NewA) (ts := [.one .ptr, .one (.int .i64)]) (args := [.int .i64 blocks]) Tryz.func38 (by kernel_rfl) ((show fnPt (std Tryz.prog) Tryz.prog Tryz.f38 disk_NewA [.one .ptr, .one (.int .i64)] [.int .i64 blocks] K w = disk_NewF blocks K w by kernel_rfl).mpr hF)

/-- cashbook.disk.Disk.Blocks -/
def disk_Disk_BlocksF (d : Option Addr) (K : Int → World → Prop) (w : World) : Prop :=
  nn d <|
  fun (a_1 : Addr) =>
  ld Cell.slice a_1 w <|
  fun (s_2 : Sl) =>
  K (↑s_2.len : Int) w
def disk_Disk_BlocksA : List Ann := [.n, .n]
theorem disk_Disk_Blocks_of {d : Option Addr} {w : World} {K : Int → World → Prop} (hF : disk_Disk_BlocksF d K w) : call Tryz.prog 63 [.pointer d] [.one (.int .i64)] w K :=
  calls_of_fnPt (an := disk_Disk_BlocksA) (ts := [.one (.int .i64)]) (args := [.pointer d]) Tryz.func63 (by kernel_rfl) ((show fnPt (std Tryz.prog) Tryz.prog Tryz.f63 disk_Disk_BlocksA [.one (.int .i64)] [.pointer d] K w = disk_Disk_BlocksF d K w by kernel_rfl).mpr hF)

/-- cashbook.disk.Disk.Read -/
def disk_Disk_ReadF (d : Option Addr) (n : Int) (K : (Sl × Int) → World → Prop) (w : World) : Prop :=
  new (Obj.cells #[Value.int IntKind.i64 n] 3) w <|
  fun (r_1 : Nat) (w_2 : World) =>
  new (Obj.cells #[Value.slice none 0 0] 22) w_2 <|
  fun (r_3 : Nat) (w_4 : World) =>
  new (Obj.cells #[Value.int IntKind.i64 0] 30) w_4 <|
  fun (r_5 : Nat) (w_6 : World) =>
  nn d <|
  fun (a_7 : Addr) =>
  ld Cell.bool ({ block := a_7.block, off := a_7.off + 3 }) w_6 <|
  fun (b_8 : Bool) =>
  cond b_8
    (st ({ block := r_3, off := 0 }) ([Value.slice none 0 0]) w_6 <|
    fun (w_9 : World) =>
    st ({ block := r_5, off := 0 }) ([Value.int IntKind.i64 7]) w_9 <|
    fun (w_10 : World) =>
    ld Cell.slice ({ block := r_3, off := 0 }) w_10 <|
    fun (s_11 : Sl) =>
    ld (Cell.int IntKind.i64) ({ block := r_5, off := 0 }) w_10 <|
    fun (x_12 : Int) =>
    K ((s_11, x_12)) w_10)
    (join (Bool) (fun (X_13 : Bool → World → Prop) =>
      ld (Cell.int IntKind.i64) ({ block := r_1, off := 0 }) (World.drew w_6) <|
      fun (x_14 : Int) =>
      cond (decide (x_14 < 0))
        (X_13 true (World.drew w_6))
        (ld (Cell.int IntKind.i64) ({ block := r_1, off := 0 }) (World.drew w_6) <|
        fun (x_15 : Int) =>
        nn d <|
        fun (a_16 : Addr) =>
        ld Cell.slice a_16 (World.drew w_6) <|
        fun (s_17 : Sl) =>
        X_13 (decide (x_15 ≥ (↑s_17.len : Int))) (World.drew w_6))) <|
    fun (b_18 : Bool) (w_19 : World) =>
    cond b_18
      (st ({ block := r_3, off := 0 }) ([Value.slice none 0 0]) w_19 <|
      fun (w_20 : World) =>
      st ({ block := r_5, off := 0 }) ([Value.int IntKind.i64 4]) w_20 <|
      fun (w_21 : World) =>
      ld Cell.slice ({ block := r_3, off := 0 }) w_21 <|
      fun (s_22 : Sl) =>
      ld (Cell.int IntKind.i64) ({ block := r_5, off := 0 }) w_21 <|
      fun (x_23 : Int) =>
      K ((s_22, x_23)) w_21)
      (nn d <|
      fun (a_24 : Addr) =>
      ld Cell.slice ({ block := a_24.block, off := a_24.off + 1 }) w_19 <|
      fun (s_25 : Sl) =>
      call Tryz.prog 55 ([Value.slice s_25.a s_25.len s_25.cap]) ([Ty1.one Cell.any]) w_19 <|
      fun (v_26 : Value) (w_27 : World) =>
      rng Tryz.prog v_26 [Ty1.one (Cell.int IntKind.i64), Ty1.raw] (fun (t_28 : Int × List Value) (X_29 : World → (World → Prop) → Prop) (X_30 : World → Prop) (X_31 : Nat → World → Prop) (w_32 : World) =>
        newZ Tryz.prog 130 w_32 <|
        fun (r_33 : Nat) (w_34 : World) =>
        chk (List.length t_28.snd = 513) <|
        st ({ block := r_33, off := 0 }) t_28.snd w_34 <|
        fun (w_35 : World) =>
        X_29 w_35 <|
        fun (w_36 : World) =>
        ld (Cell.int IntKind.i64) ({ block := r_33, off := 0 }) w_36 <|
        fun (x_37 : Int) =>
        ld (Cell.int IntKind.i64) ({ block := r_1, off := 0 }) w_36 <|
        fun (x_38 : Int) =>
        cond (x_37 == x_38)
          (slcP ({ block := r_33, off := 1 }) 512 none none none 1 <|
          fun (s_39 : Sl) =>
          call Tryz.prog 42 ([Value.slice s_39.a s_39.len s_39.cap]) ([Ty1.one Cell.slice]) w_36 <|
          fun (s_40 : Sl) (w_41 : World) =>
          st ({ block := r_3, off := 0 }) ([Value.slice s_40.a s_40.len s_40.cap]) w_41 <|
          fun (w_42 : World) =>
          st ({ block := r_5, off := 0 }) ([Value.int IntKind.i64 0]) w_42 <|
          fun (w_43 : World) =>
          X_31 0 w_43)
          (X_30 w_36))
      (fun (r_44 : Nat) (w_45 : World) =>
        nn d <|
        fun (a_46 : Addr) =>
        ld Cell.slice a_46 (World.drew w_45) <|
        fun (s_47 : Sl) =>
        ld (Cell.int IntKind.i64) ({ block := r_1, off := 0 }) (World.drew w_45) <|
        fun (x_48 : Int) =>
        idx s_47 x_48 512 <|
        fun (a_49 : Addr) =>
        slcP a_49 512 none none none 1 <|
        fun (s_50 : Sl) =>
        call Tryz.prog 42 ([Value.slice s_50.a s_50.len s_50.cap]) ([Ty1.one Cell.slice]) (World.drew w_45) <|
        fun (s_51 : Sl) (w_52 : World) =>
        st ({ block := r_3, off := 0 }) ([Value.slice s_51.a s_51.len s_51.cap]) w_52 <|
        fun (w_53 : World) =>
        st ({ block := r_5, off := 0 }) ([Value.int IntKind.i64 0]) w_53 <|
        fun (w_54 : World) =>
        undefer r_44 w_54 <|
        fun (w_55 : World) =>
        ld Cell.slice ({ block := r_3, off := 0 }) w_55 <|
        fun (s_56 : Sl) =>
        ld (Cell.int IntKind.i64) ({ block := r_5, off := 0 }) w_55 <|
        fun (x_57 : Int) =>
        K ((s_56, x_57)) w_55)
      [fun (r_58 : Nat) (w_59 : World) =>
        undefer r_58 w_59 <|
        fun (w_60 : World) =>
        ld Cell.slice ({ block := r_3, off := 0 }) w_60 <|
        fun (s_61 : Sl) =>
        ld (Cell.int IntKind.i64) ({ block := r_5, off := 0 }) w_60 <|
        fun (x_62 : Int) =>
        K ((s_61, x_62)) w_60] w_27))
def disk_Disk_ReadA : List Ann := [.n, .n, .n, .n, .j [(13, .one .bool)], .o [[0, 1, 2, 3, 4, 5, 6, 7, 8, 9, 10, 11]], .n, .n, .n, .r [.one (.int .i64), .raw], .n, .n, .n, .o [[0, 1, 2, 3, 4, 5, 6, 7, 8, 9]]]
theorem disk_Disk_Read_of {d : Option Addr} {n : Int} {w : World} {K : (Sl × Int) → World → Prop} (hF : disk_Disk_ReadF d n K w) : call Tryz.prog 19 [.pointer d, .int .i64 n] [.one .slice, .one (.int .i64)] w K :=
  calls_of_fnPtS (an := disk_Disk_ReadA) (ts := [.one .slice, .one (.int .i64)]) (args := [.pointer d, .int .i64 n]) Tryz.func19 (by kernel_rfl) ((show fnPtS (std Tryz.prog) Tryz.prog Tryz.f19 disk_Disk_ReadA [.one .slice, .one (.int .i64)] [.pointer d, .int .i64 n] K w = disk_Disk_ReadF d n K w by kernel_rfl).mpr hF)

/-- cashbook.disk.Disk.act -/
def disk_Disk_actF (d : Option Addr) (K : Bool → World → Prop) (w : World) : Prop :=
  nn d <|
  fun (a_1 : Addr) =>
  ld (Cell.int IntKind.i64) ({ block := a_1.block, off := a_1.off + 2 }) w <|
  fun (x_2 : Int) =>
  cond (x_2 == 0)
    (nn d <|
    fun (a_3 : Addr) =>
    st ({ block := a_3.block, off := a_3.off + 3 }) ([Value.bool true]) w <|
    fun (w_4 : World) =>
    K true w_4)
    (join (PUnit) (fun (X_5 : PUnit → World → Prop) =>
      nn d <|
      fun (a_6 : Addr) =>
      ld (Cell.int IntKind.i64) ({ block := a_6.block, off := a_6.off + 2 }) w <|
      fun (x_7 : Int) =>
      cond (decide (x_7 > 0))
        (nn d <|
        fun (a_8 : Addr) =>
        ld (Cell.int IntKind.i64) ({ block := a_8.block, off := a_8.off + 2 }) w <|
        fun (x_9 : Int) =>
        nn d <|
        fun (a_10 : Addr) =>
        st ({ block := a_10.block, off := a_10.off + 2 }) ([Value.int IntKind.i64 (IntKind.wrap IntKind.i64 (x_9 - 1))]) w <|
        fun (w_11 : World) =>
        X_5 () w_11)
        (X_5 () w)) <|
    fun (x_12 : PUnit) (w_13 : World) =>
    K false w_13)
def disk_Disk_actA : List Ann := [.n, .n, .n, .n, .n, .j [], .n, .n]
theorem disk_Disk_act_of {d : Option Addr} {w : World} {K : Bool → World → Prop} (hF : disk_Disk_actF d K w) : call Tryz.prog 75 [.pointer d] [.one .bool] w K :=
  calls_of_fnPt (an := disk_Disk_actA) (ts := [.one .bool]) (args := [.pointer d]) Tryz.func75 (by kernel_rfl) ((show fnPt (std Tryz.prog) Tryz.prog Tryz.f75 disk_Disk_actA [.one .bool] [.pointer d] K w = disk_Disk_actF d K w by kernel_rfl).mpr hF)

/-- cashbook.disk.Disk.Write -/
def disk_Disk_WriteF (d : Option Addr) (n : Int) (b : Sl) (K : Int → World → Prop) (w : World) : Prop :=
  nn d <|
  fun (a_1 : Addr) =>
  ld Cell.bool ({ block := a_1.block, off := a_1.off + 3 }) w <|
  fun (b_2 : Bool) =>
  cond b_2
    (K 7 w)
    (join (Bool) (fun (X_3 : Bool → World → Prop) =>
      cond (decide (n < 0))
        (X_3 true w)
        (nn d <|
        fun (a_4 : Addr) =>
        ld Cell.slice a_4 w <|
        fun (s_5 : Sl) =>
        X_3 (decide (n ≥ (↑s_5.len : Int))) w)) <|
    fun (b_6 : Bool) (w_7 : World) =>
    cond b_6
      (K 4 w_7)
      (cond (!(↑b.len : Int) == 512)
        (K 1 w_7)
        (nn d <|
        fun (a_8 : Addr) =>
        ld Cell.slice ({ block := a_8.block, off := a_8.off + 1 }) (World.drew w_7) <|
        fun (s_9 : Sl) =>
        s2a b 512 <|
        fun (a_10 : Addr) =>
        ldV 512 a_10 (World.drew w_7) <|
        fun (vs_11 : List Value) =>
        runQ [Ty1.raw] (fun (w_12 : Go.World) => (Instr.build 130 (#[(0, Value.int IntKind.i64 n), (1, Value.agg (List.toArray vs_11))])).run Tryz.prog w_12) (World.drew w_7) <|
        fun (vs_13 : List Value) =>
        chk (List.length vs_13 = 513) <|
        new (Obj.cells (List.toArray vs_13) 130) (World.drew w_7) <|
        fun (r_14 : Nat) (w_15 : World) =>
        held [fun (w_16 : Go.World) => World.cell? w_16 ({ block := a_8.block, off := a_8.off + 1 }) = some (Value.slice s_9.a s_9.len s_9.cap)] w_15 <|
        run [Ty1.one Cell.slice] ((Builtin.append_ (#[110, 110]) 110 (#[Value.slice s_9.a s_9.len s_9.cap, Value.slice (some { block := r_14, off := 0 }) 1 1])).run Tryz.prog w_15) <|
        fun (s_17 : Sl) (w_18 : World) =>
        nn d <|
        fun (a_19 : Addr) =>
        st ({ block := a_19.block, off := a_19.off + 1 }) ([Value.slice s_17.a s_17.len s_17.cap]) w_18 <|
        fun (w_20 : World) =>
        nn d <|
        fun (a_21 : Addr) =>
        ld (Cell.int IntKind.i64) ({ block := a_21.block, off := a_21.off + 4 }) w_20 <|
        fun (x_22 : Int) =>
        nn d <|
        fun (a_23 : Addr) =>
        st ({ block := a_23.block, off := a_23.off + 4 }) ([Value.int IntKind.i64 (IntKind.wrap IntKind.i64 (x_22 + 1))]) w_20 <|
        fun (w_24 : World) =>
        call Tryz.prog 75 ([Value.pointer d]) ([Ty1.one Cell.bool]) w_24 <|
        fun (b_25 : Bool) (w_26 : World) =>
        cond b_25
          (K 7 w_26)
          (K 0 w_26))))
def disk_Disk_WriteA : List Ann := [.n, .n, .n, .n, .j [(12, .one .bool)], .n, .n, .n, .n, .o [[0, 1, 2, 3, 4, 5, 6, 7, 8, 9, 10, 11, 12, 13, 14]], .n, .n, .n, .n, .n]
theorem disk_Disk_Write_of {d : Option Addr} {n : Int} {b : Sl} {w : World} {K : Int → World → Prop} (hF : disk_Disk_WriteF d n b K w) : call Tryz.prog 28 [.pointer d, .int .i64 n, .slice b.a b.len b.cap] [.one (.int .i64)] w K :=
  calls_of_fnPt (an := disk_Disk_WriteA) (ts := [.one (.int .i64)]) (args := [.pointer d, .int .i64 n, .slice b.a b.len b.cap]) Tryz.func28 (by kernel_rfl) ((show fnPt (std Tryz.prog) Tryz.prog Tryz.f28 disk_Disk_WriteA [.one (.int .i64)] [.pointer d, .int .i64 n, .slice b.a b.len b.cap] K w = disk_Disk_WriteF d n b K w by kernel_rfl).mpr hF)

/-- cashbook.disk.Disk.Sync -/
def disk_Disk_SyncF (d : Option Addr) (K : Int → World → Prop) (w : World) : Prop :=
  join (Bool) (fun (X_1 : Bool → World → Prop) =>
    nn d <|
    fun (a_2 : Addr) =>
    ld Cell.bool ({ block := a_2.block, off := a_2.off + 3 }) w <|
    fun (b_3 : Bool) =>
    cond b_3
      (X_1 true w)
      (call Tryz.prog 75 ([Value.pointer d]) ([Ty1.one Cell.bool]) w <|
      fun (b_4 : Bool) (w_5 : World) =>
      X_1 b_4 w_5)) <|
  fun (b_6 : Bool) (w_7 : World) =>
  cond b_6
    (K 7 w_7)
    (nn d <|
    fun (a_8 : Addr) =>
    ld Cell.slice ({ block := a_8.block, off := a_8.off + 1 }) w_7 <|
    fun (s_9 : Sl) =>
    loop (Int) (fun (X_10 : Int → World → Prop) (x_11 : Int) (w_12 : World) =>
      cond (decide (x_11 < (↑s_9.len : Int)))
        (idx s_9 x_11 513 <|
        fun (a_13 : Addr) =>
        ldV 513 a_13 w_12 <|
        fun (vs_14 : List Value) =>
        newZ Tryz.prog 130 w_12 <|
        fun (r_15 : Nat) (w_16 : World) =>
        chk (List.length vs_14 = 513) <|
        st ({ block := r_15, off := 0 }) vs_14 w_16 <|
        fun (w_17 : World) =>
        nn d <|
        fun (a_18 : Addr) =>
        ld Cell.slice a_18 (World.drew w_17) <|
        fun (s_19 : Sl) =>
        ld (Cell.int IntKind.i64) ({ block := r_15, off := 0 }) (World.drew w_17) <|
        fun (x_20 : Int) =>
        ldV 512 ({ block := r_15, off := 1 }) (World.drew w_17) <|
        fun (vs_21 : List Value) =>
        idx s_19 x_20 512 <|
        fun (a_22 : Addr) =>
        chk (List.length vs_21 = 512) <|
        st a_22 vs_21 (World.drew w_17) <|
        fun (w_23 : World) =>
        X_10 (IntKind.wrap IntKind.i64 (x_11 + 1)) w_23)
        (nn d <|
        fun (a_24 : Addr) =>
        st ({ block := a_24.block, off := a_24.off + 1 }) ([Value.slice none 0 0]) w_12 <|
        fun (w_25 : World) =>
        K 0 w_25)) 0 w_7)
def disk_Disk_SyncA : List Ann := [.n, .n, .j [(12, .one .bool)], .n, .n, .n, .l [(18, .one (.int .i64))], .n, .n, .n, .n, .o [[0, 1, 2, 3, 4, 5, 6, 7, 8, 9]], .n, .n]
theorem disk_Disk_Sync_of {d : Option Addr} {w : World} {K : Int → World → Prop} (hF : disk_Disk_SyncF d K w) : call Tryz.prog 87 [.pointer d] [.one (.int .i64)] w K :=
  calls_of_fnPt (an := disk_Disk_SyncA) (ts := [.one (.int .i64)]) (args := [.pointer d]) Tryz.func87 (by kernel_rfl) ((show fnPt (std Tryz.prog) Tryz.prog Tryz.f87 disk_Disk_SyncA [.one (.int .i64)] [.pointer d] K w = disk_Disk_SyncF d K w by kernel_rfl).mpr hF)

/-- cashbook.disk.Disk.Fuse -/
def disk_Disk_FuseF (d : Option Addr) (acts : Int) (K : Unit → World → Prop) (w : World) : Prop :=
  nn d <|
  fun (a_1 : Addr) =>
  ld Cell.bool ({ block := a_1.block, off := a_1.off + 3 }) w <|
  fun (b_2 : Bool) =>
  cond (!b_2)
    (nn d <|
    fun (a_3 : Addr) =>
    st ({ block := a_3.block, off := a_3.off + 2 }) ([Value.int IntKind.i64 (if -1 > acts then -1 else acts)]) w <|
    fun (w_4 : World) =>
    K () w_4)
    (K () w)
def disk_Disk_FuseA : List Ann := [.n]
theorem disk_Disk_Fuse_of {d : Option Addr} {acts : Int} {w : World} {K : Unit → World → Prop} (hF : disk_Disk_FuseF d acts K w) : call Tryz.prog 17 [.pointer d, .int .i64 acts] [] w K :=
  calls_of_fnPt (an := disk_Disk_FuseA) (ts := []) (args := [.pointer d, .int .i64 acts]) Tryz.func17 (by kernel_rfl) ((show fnPt (std Tryz.prog) Tryz.prog Tryz.f17 disk_Disk_FuseA [] [.pointer d, .int .i64 acts] K w = disk_Disk_FuseF d acts K w by kernel_rfl).mpr hF)

/-- cashbook.disk.Disk.Crash -/
def disk_Disk_CrashF (d : Option Addr) (l : Sl) (K : Unit → World → Prop) (w : World) : Prop :=
  join (PUnit) (fun (X_1 : PUnit → World → Prop) =>
    nn d <|
    fun (a_2 : Addr) =>
    ld Cell.slice ({ block := a_2.block, off := a_2.off + 1 }) w <|
    fun (s_3 : Sl) =>
    loop (Int) (fun (X_4 : Int → World → Prop) (x_5 : Int) (w_6 : World) =>
      cond (decide (x_5 < (↑s_3.len : Int)))
        (join (PUnit) (fun (X_7 : PUnit → World → Prop) =>
          idx s_3 x_5 513 <|
          fun (a_8 : Addr) =>
          ldV 513 a_8 w_6 <|
          fun (vs_9 : List Value) =>
          newZ Tryz.prog 130 w_6 <|
          fun (r_10 : Nat) (w_11 : World) =>
          chk (List.length vs_9 = 513) <|
          st ({ block := r_10, off := 0 }) vs_9 w_11 <|
          fun (w_12 : World) =>
          cond (decide (x_5 ≥ (↑l.len : Int)))
            (X_1 () w_12)
            (idx l x_5 2 <|
            fun (a_13 : Addr) =>
            ld (Cell.int IntKind.i64) a_13 w_12 <|
            fun (x_14 : Int) =>
            idx l x_5 2 <|
            fun (a_15 : Addr) =>
            ld (Cell.int IntKind.i64) ({ block := a_15.block, off := a_15.off + 1 }) w_12 <|
            fun (x_16 : Int) =>
            cond (decide ((if 512 < if 0 > x_14 then 0 else x_14 then 512 else if 0 > x_14 then 0 else x_14) < if 512 < if 0 > x_16 then 0 else x_16 then 512 else if 0 > x_16 then 0 else x_16))
              (nn d <|
              fun (a_17 : Addr) =>
              ld Cell.slice a_17 (World.drew w_12) <|
              fun (s_18 : Sl) =>
              ld (Cell.int IntKind.i64) ({ block := r_10, off := 0 }) (World.drew w_12) <|
              fun (x_19 : Int) =>
              idx s_18 x_19 512 <|
              fun (a_20 : Addr) =>
              slcP a_20 512 (some (if 512 < if 0 > x_14 then 0 else x_14 then 512 else if 0 > x_14 then 0 else x_14)) (some (if 512 < if 0 > x_16 then 0 else x_16 then 512 else if 0 > x_16 then 0 else x_16)) none 1 <|
              fun (s_21 : Sl) =>
              slcP ({ block := r_10, off := 1 }) 512 (some (if 512 < if 0 > x_14 then 0 else x_14 then 512 else if 0 > x_14 then 0 else x_14)) (some (if 512 < if 0 > x_16 then 0 else x_16 then 512 else if 0 > x_16 then 0 else x_16)) none 1 <|
              fun (s_22 : Sl) =>
              run [Ty1.one (Cell.int IntKind.i64)] ((Builtin.copy_ (#[22, 22]) 3 (#[Value.slice s_21.a s_21.len s_21.cap, Value.slice s_22.a s_22.len s_22.cap])).run Tryz.prog (World.drew w_12)) <|
              fun (x_23 : Int) (w_24 : World) =>
              X_7 () w_24)
              (X_7 () w_12))) <|
        fun (x_25 : PUnit) (w_26 : World) =>
        X_4 (IntKind.wrap IntKind.i64 (x_5 + 1)) w_26)
        (X_1 () w_6)) 0 w) <|
  fun (x_27 : PUnit) (w_28 : World) =>
  nn d <|
  fun (a_29 : Addr) =>
  st ({ block := a_29.block, off := a_29.off + 1 }) ([Value.slice none 0 0]) w_28 <|
  fun (w_30 : World) =>
  nn d <|
  fun (a_31 : Addr) =>
  st ({ block := a_31.block, off := a_31.off + 3 }) ([Value.bool false]) w_30 <|
  fun (w_32 : World) =>
  nn d <|
  fun (a_33 : Addr) =>
  st ({ block := a_33.block, off := a_33.off + 2 }) ([Value.int IntKind.i64 (-1)]) w_32 <|
  fun (w_34 : World) =>
  K () w_34
def disk_Disk_CrashA : List Ann := [.j [], .n, .l [(13, .one (.int .i64))], .n, .n, .j [], .n, .n, .n, .n, .n, .n, .o [[0, 1, 2, 3, 4, 5, 6, 7, 8, 9, 10, 11, 12, 13, 14]]]
theorem disk_Disk_Crash_of {d : Option Addr} {l : Sl} {w : World} {K : Unit → World → Prop} (hF : disk_Disk_CrashF d l K w) : call Tryz.prog 22 [.pointer d, .slice l.a l.len l.cap] [] w K :=
  calls_of_fnPt (an := disk_Disk_CrashA) (ts := []) (args := [.pointer d, .slice l.a l.len l.cap]) Tryz.func22 (by kernel_rfl) ((show fnPt (std Tryz.prog) Tryz.prog Tryz.f22 disk_Disk_CrashA [] [.pointer d, .slice l.a l.len l.cap] K w = disk_Disk_CrashF d l K w by kernel_rfl).mpr hF)

/-- cashbook.disk.Disk.Waits -/
def disk_Disk_WaitsF (d : Option Addr) (K : Int → World → Prop) (w : World) : Prop :=
  nn d <|
  fun (a_1 : Addr) =>
  ld Cell.slice ({ block := a_1.block, off := a_1.off + 1 }) w <|
  fun (s_2 : Sl) =>
  K (↑s_2.len : Int) w
def disk_Disk_WaitsA : List Ann := [.n, .n]
theorem disk_Disk_Waits_of {d : Option Addr} {w : World} {K : Int → World → Prop} (hF : disk_Disk_WaitsF d K w) : call Tryz.prog 60 [.pointer d] [.one (.int .i64)] w K :=
  calls_of_fnPt (an := disk_Disk_WaitsA) (ts := [.one (.int .i64)]) (args := [.pointer d]) Tryz.func60 (by kernel_rfl) ((show fnPt (std Tryz.prog) Tryz.prog Tryz.f60 disk_Disk_WaitsA [.one (.int .i64)] [.pointer d] K w = disk_Disk_WaitsF d K w by kernel_rfl).mpr hF)

/-- cashbook.disk.Disk.Copy -/
def disk_Disk_CopyF (d : Option Addr) (K : ((Option Addr)) → World → Prop) (w : World) : Prop :=
  nn d <|
  fun (a_1 : Addr) =>
  ldA (dcs1) a_1 w <|
  fun (t_2 : Sl × Sl × Int × Bool × Int) =>
  new (Obj.cells #[Value.slice none 0 0, Value.slice none 0 0, Value.int IntKind.i64 0, Value.bool false, Value.int IntKind.i64 0] 112) w <|
  fun (r_3 : Nat) (w_4 : World) =>
  st ({ block := r_3, off := 0 }) (HL.mk dcs1 t_2) w_4 <|
  fun (w_5 : World) =>
  nn d <|
  fun (a_6 : Addr) =>
  ld Cell.slice a_6 (World.drew w_5) <|
  fun (s_7 : Sl) =>
  nn d <|
  fun (a_8 : Addr) =>
  ld Cell.slice ({ block := a_8.block, off := a_8.off + 1 }) (World.drew w_5) <|
  fun (s_9 : Sl) =>
  call Tryz.prog 101 ([Value.slice s_7.a s_7.len s_7.cap]) ([Ty1.one Cell.slice]) (World.drew w_5) <|
  fun (s_10 : Sl) (w_11 : World) =>
  held [fun (w_12 : Go.World) => World.cell? w_12 ({ block := a_8.block, off := a_8.off + 1 }) = some (Value.slice s_9.a s_9.len s_9.cap)] w_11 <|
  call Tryz.prog 102 ([Value.slice s_9.a s_9.len s_9.cap]) ([Ty1.one Cell.slice]) w_11 <|
  fun (s_13 : Sl) (w_14 : World) =>
  st ({ block := r_3, off := 0 }) ([Value.slice s_10.a s_10.len s_10.cap]) w_14 <|
  fun (w_15 : World) =>
  st ({ block := r_3, off := 1 }) ([Value.slice s_13.a s_13.len s_13.cap]) w_15 <|
  fun (w_16 : World) =>
  K (some { block := r_3, off := 0 }) w_16
def disk_Disk_CopyA : List Ann := [.n, .n, .n, .o [[0, 1, 2, 3, 5, 6, 7, 8, 4, 9, 10, 11, 12, 13]], .n]
theorem disk_Disk_Copy_of {d : Option Addr} {w : World} {K : ((Option Addr)) → World → Prop} (hF : disk_Disk_CopyF d K w) : call Tryz.prog 59 [.pointer d] [.one .ptr] w K :=
  calls_of_fnPt (an := disk_Disk_CopyA) (ts := [.one .ptr]) (args := [.pointer d]) Tryz.func59 (by kernel_rfl) ((show fnPt (std Tryz.prog) Tryz.prog Tryz.f59 disk_Disk_CopyA [.one .ptr] [.pointer d] K w = disk_Disk_CopyF d K w by kernel_rfl).mpr hF)

/-- slices.Backward   cashbook.disk.write,cashbook.disk.write  -/
def slices_BackwardF (s : Sl) (K : Value → World → Prop) (w : World) : Prop :=
  new (Obj.cells #[Value.slice s.a s.len s.cap] 110) w <|
  fun (r_1 : Nat) (w_2 : World) =>
  K (Value.func (Fn.func 98) #[] #[Value.pointer (some { block := r_1, off := 0 })]) w_2
def slices_BackwardA : List Ann := [.n, .n]
theorem slices_Backward_of {s : Sl} {w : World} {K : Value → World → Prop} (hF : slices_BackwardF s K w) : call Tryz.prog 55 [.slice s.a s.len s.cap] [.one .any] w K :=
  calls_of_fnPt (an := slices_BackwardA) (ts := [.one .any]) (args := [.slice s.a s.len s.cap]) Tryz.func55 (by kernel_rfl) ((show fnPt (std Tryz.prog) Tryz.prog Tryz.f55 slices_BackwardA [.one .any] [.slice s.a s.len s.cap] K w = slices_BackwardF s K w by kernel_rfl).mpr hF)

/-- slices.Backward   cashbook.disk.write,cashbook.disk.write $1 -/
def slices_Backward_c1F (yield : Value) (cap0 : Addr) (K : Unit → World → Prop) (w : World) : Prop :=
  ld Cell.slice cap0 w <|
  fun (s_1 : Sl) =>
  loop (Int) (fun (X_2 : Int → World → Prop) (x_3 : Int) (w_4 : World) =>
    cond (decide (x_3 ≥ 0))
      (ld Cell.slice cap0 w_4 <|
      fun (s_5 : Sl) =>
      idx s_5 x_3 513 <|
      fun (a_6 : Addr) =>
      ldV 513 a_6 w_4 <|
      fun (vs_7 : List Value) =>
      callV Tryz.prog yield ([Value.int IntKind.i64 x_3, Value.agg (List.toArray vs_7)]) ([Ty1.one Cell.bool]) w_4 <|
      fun (b_8 : Bool) (w_9 : World) =>
      cond (!b_8)
        (K () w_9)
        (X_2 (IntKind.wrap IntKind.i64 (x_3 - 1)) w_9))
      (K () w_4)) (IntKind.wrap IntKind.i64 ((↑s_1.len : Int) - 1)) w
def slices_Backward_c1A : List Ann := [.n, .l [(3, .one (.int .i64))], .n, .n, .n, .n]
theorem slices_Backward_c1_of {yield : Value} {cap0 : Addr} {w : World} {K : Unit → World → Prop} (hF : slices_Backward_c1F yield cap0 K w) : call Tryz.prog 98 [yield, .pointer (some cap0)] [] w K :=
  calls_of_fnPt (an := slices_Backward_c1A) (ts := []) (args := [yield, .pointer (some cap0)]) Tryz.func98 (by kernel_rfl) ((show fnPt (std Tryz.prog) Tryz.prog Tryz.f98 slices_Backward_c1A [] [yield, .pointer (some cap0)] K w = slices_Backward_c1F yield cap0 K w by kernel_rfl).mpr hF)

/-- slices.Clone   cashbook.disk.block,cashbook.disk.block  -/
def slices_CloneKF (s : Sl) (K : Sl → World → Prop) (w : World) : Prop :=
  cond (Option.isNone s.a)
    (K ({ a := none, len := 0, cap := 0 }) w)
    (new (Obj.cells #[] 128) w <|
    fun (r_1 : Nat) (w_2 : World) =>
    run [Ty1.one Cell.slice] ((Builtin.append_ (#[109, 109]) 109 (#[Value.slice (some { block := r_1, off := 0 }) 0 0, Value.slice s.a s.len s.cap])).run Tryz.prog w_2) <|
    fun (s_3 : Sl) (w_4 : World) =>
    K s_3 w_4)
def slices_CloneKA : List Ann := [.n, .n, .n, .n, .n]
theorem slices_CloneK_of {s : Sl} {w : World} {K : Sl → World → Prop} (hF : slices_CloneKF s K w) : call Tryz.prog 101 [.slice s.a s.len s.cap] [.one .slice] w K :=
  calls_of_fnPt (an := slices_CloneKA) (ts := [.one .slice]) (args := [.slice s.a s.len s.cap]) Tryz.func101 (by kernel_rfl) ((show fnPt (std Tryz.prog) Tryz.prog Tryz.f101 slices_CloneKA [.one .slice] [.slice s.a s.len s.cap] K w = slices_CloneKF s K w by kernel_rfl).mpr hF)

/-- slices.Clone   cashbook.disk.write,cashbook.disk.write  -/
def slices_CloneWF (s : Sl) (K : Sl → World → Prop) (w : World) : Prop :=
  cond (Option.isNone s.a)
    (K ({ a := none, len := 0, cap := 0 }) w)
    (new (Obj.cells #[] 130) w <|
    fun (r_1 : Nat) (w_2 : World) =>
    run [Ty1.one Cell.slice] ((Builtin.append_ (#[110, 110]) 110 (#[Value.slice (some { block := r_1, off := 0 }) 0 0, Value.slice s.a s.len s.cap])).run Tryz.prog w_2) <|
    fun (s_3 : Sl) (w_4 : World) =>
    K s_3 w_4)
def slices_CloneWA : List Ann := [.n, .n, .n, .n, .n]
theorem slices_CloneW_of {s : Sl} {w : World} {K : Sl → World → Prop} (hF : slices_CloneWF s K w) : call Tryz.prog 102 [.slice s.a s.len s.cap] [.one .slice] w K :=
  calls_of_fnPt (an := slices_CloneWA) (ts := [.one .slice]) (args := [.slice s.a s.len s.cap]) Tryz.func102 (by kernel_rfl) ((show fnPt (std Tryz.prog) Tryz.prog Tryz.f102 slices_CloneWA [.one .slice] [.slice s.a s.len s.cap] K w = slices_CloneWF s K w by kernel_rfl).mpr hF)

end Go.Proofs.YtmbcedengdoamaaGreatDoor
end

section
/- The disk: what it is in memory; New, Blocks, act. Conditions: those that stand in each line. -/
set_option linter.unusedVariables false
set_option linter.unusedSimpArgs false
namespace Go.Proofs.YtmbcedengdoamaaGreatDoor
open Go Go.Pt
attribute [local irreducible] ld ldA ldV fld fldA newZ st new idx idxS idxA slc slcS slcP mkS chk nn call callV inv run runQ runU join loop held ext rng undefer s2a IntKind.wrap

/-- A block's bytes. -/
abbrev Blk := {l : List Int // l.length = 512}
def encK (b : Blk) : List Value := b.1.map (Value.int .u8)
theorem encK_len (b : Blk) : (encK b).length = 512 := by rw [encK, List.length_map, b.2]
def encW (x : Int × Blk) : List Value := Value.int .i64 x.1 :: encK x.2
theorem encW_len (x : Int × Blk) : (encW x).length = 513 := by rw [encW, List.length_cons, encK_len]
def Blk.zero : Blk := ⟨zs 512, zs_len 512⟩

/-- A disk: blocks that are safe, writes that wait, the fuse. -/
structure DiskM where
  safe : List Blk
  waits : List (Int × Blk)
  fuse : Int
  down : Bool
  writes : Int

structure DiskM.Ok (D : DiskM) : Prop where
  at_ : ∀ x ∈ D.waits, 0 ≤ x.1 ∧ x.1 < D.safe.length
  fuse : -1 ≤ D.fuse ∧ D.fuse ≤ 1000000000
  safe : D.safe.length ≤ 4096
  waits : D.waits.length ≤ 1000000
  writes : 0 ≤ D.writes ∧ D.writes ≤ 1000000000
  bytesS : ∀ b ∈ D.safe, IsB b.1
  bytesW : ∀ x ∈ D.waits, IsB x.2.1

abbrev DT : TypeId := 112
def dCells (D : DiskM) (sb : Nat) (wsl : Sl) : Array Value := #[.slice (some ⟨sb, 0, none⟩) D.safe.length D.safe.length, .slice wsl.a wsl.len wsl.cap, .int .i64 D.fuse, .bool D.down, .int .i64 D.writes]

/-- The disk D lies at block db; F: the blocks that are its own. -/
def DiskAt (w : World) (db : Nat) (F : List Nat) (D : DiskM) : Prop :=
  ∃ (sb : Nat) (T : TypeId) (wsl : Sl) (B : List Nat), F = db :: sb :: B ∧ (db :: sb :: B).Nodup ∧ w.heap[db]? = some (.cells (dCells D sb wsl) DT (0, 0)) ∧ w.heap[sb]? = some (.cells (D.safe.flatMap encK).toArray T (0, 0)) ∧ Buf encW 513 w wsl D.waits B

theorem DiskAt.frame {w w' : World} {db : Nat} {F S : List Nat} {D : DiskM} (h : DiskAt w db F D) (f : Fr S w w') (hd : ∀ b ∈ F, b ∉ S) : DiskAt w' db F D := by
  obtain ⟨sb, T, wsl, B, rfl, hn, h1, h2, h3⟩ := h
  exact ⟨sb, T, wsl, B, rfl, hn, by rw [f.block db (lt_of_blk h1) (hd _ (by simp))]; exact h1, by rw [f.block sb (lt_of_blk h2) (hd _ (by simp))]; exact h2, h3.frame f (fun b hb => hd b (by simp [hb]))⟩
theorem DiskAt.frame0 {w w' : World} {db : Nat} {F : List Nat} {D : DiskM} (h : DiskAt w db F D) (f : Fr [] w w') : DiskAt w' db F D := h.frame f (fun _ _ h => by cases h)
theorem DiskAt.lt {w : World} {db : Nat} {F : List Nat} {D : DiskM} (h : DiskAt w db F D) : ∀ b ∈ F, b < w.heap.size := by
  obtain ⟨sb, T, wsl, B, rfl, hn, h1, h2, h3⟩ := h
  intro b hb
  simp only [List.mem_cons] at hb
  rcases hb with rfl | rfl | hb
  · exact lt_of_blk h1
  · exact lt_of_blk h2
  · exact h3.lt b hb
theorem DiskAt.cell {w : World} {db : Nat} {F : List Nat} {D : DiskM} (h : DiskAt w db F D) : ∃ sb wsl, w.heap[db]? = some (.cells (dCells D sb wsl) DT (0, 0)) := by
  obtain ⟨sb, T, wsl, B, rfl, hn, h1, h2, h3⟩ := h
  exact ⟨sb, wsl, h1⟩
theorem DiskAt.mem {w : World} {db : Nat} {F : List Nat} {D : DiskM} (h : DiskAt w db F D) : db ∈ F := by
  obtain ⟨sb, T, wsl, B, rfl, _⟩ := h
  simp

/-- Only the disk's own cells turn. -/
theorem DiskAt.turn {w w' : World} {db : Nat} {F : List Nat} {D D' : DiskM} {sb : Nat} {wsl : Sl} (h : DiskAt w db F D) (hc : w.heap[db]? = some (.cells (dCells D sb wsl) DT (0, 0))) (f : Fr [db] w w') (hs : D'.safe = D.safe) (hw : D'.waits = D.waits) (hc' : w'.heap[db]? = some (.cells (dCells D' sb wsl) DT (0, 0))) : DiskAt w' db F D' := by
  obtain ⟨sb', T, wsl', B, rfl, hn, h1, h2, h3⟩ := h
  have he : sb' = sb ∧ wsl' = wsl := by
    have q := h1.symm.trans hc
    have q0 := congrArg (fun o => match o with | some (Obj.cells cs _ _) => (match cs[0]? with | some (Value.slice (some a) _ _) => a.block | _ => 0) | _ => 0) q
    have q1 := congrArg (fun o => match o with | some (Obj.cells cs _ _) => cs[1]? | _ => none) q
    refine ⟨q0, ?_⟩
    have q2 : Value.slice wsl'.a wsl'.len wsl'.cap = Value.slice wsl.a wsl.len wsl.cap := Option.some.inj q1
    cases wsl
    cases wsl'
    simp only [Value.slice.injEq] at q2
    obtain ⟨rfl, rfl, rfl⟩ := q2
    rfl
  obtain ⟨rfl, rfl⟩ := he
  have hsb : sb' ≠ db := fun e => by rw [e] at hn; simp at hn
  have hB : ∀ b ∈ B, b ∉ [db] := fun b hb he => by simp at he; subst he; simp at hn; exact hn.1.2 hb
  exact ⟨sb', T, wsl', B, rfl, hn, hc', by rw [hs, f.block sb' (lt_of_blk h2) (by simpa using hsb)]; exact h2, by rw [hw]; exact h3.frame f hB⟩

theorem Blocks_ok {w : World} {db : Nat} {F : List Nat} {D : DiskM} {K : Int → World → Prop} (h : DiskAt w db F D) (hk : K D.safe.length w) : call Tryz.prog 63 [.pointer (some ⟨db, 0, none⟩)] [.one (.int .i64)] w K := by
  refine disk_Disk_Blocks_of (d := some ⟨db, 0, none⟩) ?_
  unfold disk_Disk_BlocksF
  obtain ⟨sb, wsl, hc⟩ := h.cell
  refine nn_some (ld_blk (c := .slice) hc ⟨some ⟨sb, 0, none⟩, D.safe.length, D.safe.length⟩ rfl ?_)
  exact hk

def newM (blocks : Nat) : DiskM := ⟨List.replicate blocks .zero, [], -1, false, 0⟩

theorem zeroLit : (zs 512).map (Value.int .u8) = List.replicate 512 (Value.int .u8 0) := by unfold zs; rw [List.map_replicate]

theorem newM_ok {n : Nat} (h : n ≤ 4096) : (newM n).Ok :=
  ⟨fun _ h => (by cases h), ⟨by show (-1 : Int) ≤ -1; decide, by show (-1 : Int) ≤ 1000000000; decide⟩, by rw [newM]; simpa using h, by simp [newM], by simp [newM], fun b hb => by rw [List.eq_of_mem_replicate hb]; exact IsB.zs 512, fun _ h => (by cases h)⟩

theorem flatten_rep (n : Nat) (b : Blk) : (List.replicate n (encK b)).flatten = (List.replicate n b).flatMap encK := by
  rw [List.flatMap_def, List.map_replicate]

set_option maxRecDepth 100000 in
theorem DNew_ok {w : World} {blocks : Int} {K : Option Addr × Int → World → Prop} (hbad : (blocks < 8 ∨ blocks > 4096) → K (none, 1) w)
    (hk : 8 ≤ blocks → blocks ≤ 4096 → ∀ db F w', DiskAt w' db F (newM blocks.toNat) → Fr [] w w' → (∀ b ∈ F, w.heap.size ≤ b) → K (some ⟨db, 0, none⟩, 0) w') :
    call Tryz.prog 38 [.int .i64 blocks] [.one .ptr, .one (.int .i64)] w K := by
  refine disk_New_of ?_
  unfold disk_NewF
  refine join_mid (fun b w' => b = decide (blocks < 8 ∨ blocks > 4096) ∧ w' = w) ?_ ?_
  · refine cond_of (fun hc => ?_) (fun hc => ?_)
    · exact ⟨by rw [decide_eq_true (Or.inl (of_decide_eq_true hc))], rfl⟩
    · have := of_decide_eq_false hc
      exact ⟨by simp [this], rfl⟩
  rintro b w1 ⟨rfl, rfl⟩
  refine cond_of (fun hc => hbad (of_decide_eq_true hc)) (fun hc => ?_)
  have hr := of_decide_eq_false hc
  have h8 : 8 ≤ blocks := by omega
  have h4 : blocks ≤ 4096 := by omega
  obtain ⟨n, rfl⟩ : ∃ n : Nat, blocks = n := ⟨blocks.toNat, by omega⟩
  refine Own.mkN (zero := encK Blk.zero) (Own.start [] w1) (encK_len _) (by omega) (by omega) (by omega) (by omega) fun sb w2 e2 ho => ?_
  refine Own.new ho fun db w3 e3 s3 ho => ?_
  have hlit : (List.replicate (n : Int).toNat (encK Blk.zero)).flatten = ((newM n).safe).flatMap encK := by rw [Int.toNat_natCast]; exact flatten_rep n _
  refine hk h8 h4 db [db, sb] w3 ⟨sb, 128, ⟨none, 0, 0⟩, [], rfl, ?_, ?_, ?_, .nil _ _ _⟩ ho.fr (fun b hb => ?_)
  · have := ho.nodup; simpa using this
  · have := ho.at (i := 0) rfl
    rw [this]
    simp [dCells, newM]
  · have := ho.at (i := 1) rfl
    rw [this, Int.toNat_natCast, ← hlit, Int.toNat_natCast]
  · simp at hb
    have := ho.own
    rcases hb with rfl | rfl
    · have := ho.own (b, _) (List.mem_of_getElem? (i := 0) rfl)
      simpa using this
    · have := ho.own (b, _) (List.mem_of_getElem? (i := 1) rfl)
      simpa using this

def actM (D : DiskM) : DiskM × Bool := if D.fuse = 0 then ({ D with down := true }, true) else if D.fuse > 0 then ({ D with fuse := D.fuse - 1 }, false) else (D, false)

theorem act_ok {w : World} {db : Nat} {F : List Nat} {D : DiskM} {K : Bool → World → Prop} (h : DiskAt w db F D) (hD : D.fuse ≤ 1000000000) (hk : ∀ w', DiskAt w' db F (actM D).1 → Fr [db] w w' → K (actM D).2 w') :
    call Tryz.prog 75 [.pointer (some ⟨db, 0, none⟩)] [.one .bool] w K := by
  refine disk_Disk_act_of (d := some ⟨db, 0, none⟩) ?_
  unfold disk_Disk_actF
  obtain ⟨sb, wsl, hc⟩ := h.cell
  have ho : Own [db] w w [(db, .cells (dCells D sb wsl) DT (0, 0))] := ⟨by simpa using hc, by simp, .refl _ _, by simp⟩
  refine nn_some (Own.ld (c := .int .i64) ho 0 rfl D.fuse rfl ?_)
  refine cond_of (fun hz => ?_) (fun hz => ?_)
  · have hz' : D.fuse = 0 := by simpa using hz
    refine nn_some ?_
    refine Own.st ho 0 rfl _ rfl rfl rfl fun w1 ho _ => ?_
    have := hk w1 (by rw [actM, if_pos hz']; exact h.turn hc ho.fr rfl rfl (ho.at (i := 0) rfl)) ho.fr
    rw [actM, if_pos hz'] at this
    exact this
  · have hz' : ¬ D.fuse = 0 := by simpa using hz
    refine join_mid (fun _ w' => DiskAt w' db F (actM D).1 ∧ Fr [db] w w') ?_ ?_
    · refine nn_some (Own.ld (c := .int .i64) ho 0 rfl D.fuse rfl ?_)
      refine cond_of (fun hp => ?_) (fun hp => ?_)
      · have hp' : D.fuse > 0 := of_decide_eq_true hp
        refine nn_some (Own.ld (c := .int .i64) ho 0 rfl D.fuse rfl ?_)
        refine nn_some ?_
        rw [wi' _ (by omega)]
        refine Own.st ho 0 rfl _ rfl rfl rfl fun w1 ho _ => ?_
        refine ⟨?_, ho.fr⟩
        rw [actM, if_neg hz', if_pos hp']
        exact h.turn hc ho.fr rfl rfl (ho.at (i := 0) rfl)
      · have hp' : ¬ D.fuse > 0 := of_decide_eq_false hp
        refine ⟨?_, .refl _ _⟩
        rw [actM, if_neg hz', if_neg hp']
        exact h
    · rintro _ w1 ⟨h1, h2⟩
      have := hk w1 h1 h2
      have e : (actM D).2 = false := by rw [actM, if_neg hz']; split <;> rfl
      rw [e] at this
      exact this

end Go.Proofs.YtmbcedengdoamaaGreatDoor
end

section
/- The disk: Write, Sync. Conditions: those that stand in each line. -/
set_option linter.unusedVariables false
set_option linter.unusedSimpArgs false
namespace Go.Proofs.YtmbcedengdoamaaGreatDoor
open Go Go.Pt
attribute [local irreducible] ld ldA ldV fld fldA newZ st new idx idxS idxA slc slcS slcP mkS chk nn call callV inv run runQ runU join loop held ext rng undefer s2a IntKind.wrap

theorem infoW : ∃ i, Tryz.prog.info? 130 = some i ∧ (∃ z, i.zero = some z ∧ z.cells.size = 513) ∧ i.size = 513 ∧ i.bytes = 520 := by
  have h : (Tryz.prog.info? 130).map (fun i => (i.zero.map (fun z => z.cells.size), i.size, i.bytes)) = some (some 513, 513, 520) := by kernel_rfl
  obtain ⟨i, hi, he⟩ := Option.map_eq_some_iff.1 h
  simp only [Prod.mk.injEq] at he
  obtain ⟨z, hz, hzs⟩ := Option.map_eq_some_iff.1 he.1
  exact ⟨i, hi, ⟨z, hz, hzs⟩, he.2.1, he.2.2⟩

def addW (D : DiskM) (n : Int) (b : Blk) : DiskM := { D with waits := D.waits ++ [(n, b)], writes := D.writes + 1 }
def writeM (D : DiskM) (n : Int) (l : List Int) : DiskM × Int :=
  if D.down then (D, 7) else if n < 0 ∨ n ≥ D.safe.length then (D, 4) else
  if h : l.length = 512 then ((actM (addW D n ⟨l, h⟩)).1, if (actM (addW D n ⟨l, h⟩)).2 then 7 else 0) else (D, 1)

theorem build_write (n : Int) (b : Blk) (w : World) : (Instr.build 130 #[(0, .int .i64 n), (1, .agg (encK b).toArray)]).run Tryz.prog w = .ok (.agg (encW (n, b)).toArray) w := by
  obtain ⟨z, hz, hzs⟩ : ∃ z, (Tryz.prog.info? 130).bind (·.zero) = some z ∧ z.cells.size = 513 := by
    obtain ⟨i, hi, ⟨z, hz, hzs⟩, _⟩ := infoW
    exact ⟨z, by rw [hi]; exact hz, hzs⟩
  have := run_build2 (P := Tryz.prog) (a := .int .i64 n) (b := .agg (encK b).toArray) (o1 := 1) (s0 := 1) (s1 := 512) hz (by kernel_rfl) (fun w => by kernel_rfl) rfl (by show (encK b).toArray.size = 512; rw [List.size_toArray, encK_len]) rfl hzs w
  exact this

theorem all_oneCell_bytes (l : List Int) : ((l.map (Value.int .u8)).all Value.oneCell') = true := by
  rw [List.all_eq_true]
  intro v hv
  obtain ⟨x, _, rfl⟩ := List.mem_map.1 hv
  rfl
theorem encK_one (b : Blk) : ((encK b).all Value.oneCell') = true := all_oneCell_bytes _
theorem encW_one (x : Int × Blk) : ((encW x).all Value.oneCell') = true := by
  rw [encW, List.all_cons, encK_one]; rfl

theorem rdB_cells {S : List Nat} {w : World} {s : Sl} {l : List Int} (h : RdB S w s l) (hl : l ≠ []) : ∃ b o cs T fr, s.a = some ⟨b, o, none⟩ ∧ w.heap[b]? = some (.cells cs T fr) ∧ b ∉ S ∧ (cs.toList.drop o).take l.length = l.map (Value.int .u8) := by
  rcases h.2.2 with h3 | ⟨b, o, cs, T, fr, ha, hb, hS, hc⟩
  · exact absurd h3 hl
  · refine ⟨b, o, cs, T, fr, ha, hb, hS, ?_⟩
    apply List.ext_getElem?
    intro i
    rw [List.getElem?_take, List.getElem?_map]
    by_cases hi : i < l.length
    · rw [if_pos hi, List.getElem?_drop, List.getElem?_eq_getElem hi]
      have := hc i l[i] (List.getElem?_eq_getElem hi)
      rw [Nat.mul_one] at this
      have := congrArg (·[0]?) this
      simpa using this
    · rw [if_neg hi, List.getElem?_eq_none (by omega)]
      rfl

theorem DWrite_ok {S : List Nat} {w : World} {db : Nat} {F : List Nat} {D : DiskM} {n : Int} {s : Sl} {l : List Int} {K : Int → World → Prop} (h : DiskAt w db F D) (hD : D.Ok) (hs : RdB S w s l)
    (hk : ∀ F' w', DiskAt w' db F' (writeM D n l).1 → Fr F w w' → (∀ b ∈ F', b ∈ F ∨ w.heap.size ≤ b) → K (writeM D n l).2 w') :
    call Tryz.prog 28 [.pointer (some ⟨db, 0, none⟩), .int .i64 n, .slice s.a s.len s.cap] [.one (.int .i64)] w K := by
  refine disk_Disk_Write_of (d := some ⟨db, 0, none⟩) (b := s) ?_
  unfold disk_Disk_WriteF
  have hlen := hs.1
  have hdb := h.mem
  obtain ⟨sb, T, wsl, B, hF, hn, hc, hsb, hbuf⟩ := h
  have h : DiskAt w db F D := ⟨sb, T, wsl, B, hF, hn, hc, hsb, hbuf⟩
  have ho : Own F w w [(db, .cells (dCells D sb wsl) DT (0, 0))] := ⟨by simpa using hc, by simp, .refl _ _, by simp [hdb]⟩
  refine nn_some (Own.ld (c := .bool) ho 0 rfl D.down rfl ?_)
  have same : ∀ {e : Int}, writeM D n l = (D, e) → ∀ {w'}, w' = w → K e w' := by
    rintro e he w' rfl
    have := hk F w' (by rw [he]; exact h) (.refl _ _) (fun b hb => .inl hb)
    rw [he] at this
    exact this
  refine cond_of (fun hd => same (by rw [writeM, if_pos hd]) rfl) (fun hd => ?_)
  refine join_mid (fun b w' => b = decide (n < 0 ∨ n ≥ D.safe.length) ∧ w' = w) ?_ ?_
  · refine cond_of (fun hc => ?_) (fun hc => ?_)
    · exact ⟨by rw [decide_eq_true (Or.inl (of_decide_eq_true hc))], rfl⟩
    · refine nn_some (Own.ld (c := .slice) ho 0 rfl ⟨some ⟨sb, 0, none⟩, D.safe.length, D.safe.length⟩ rfl ⟨?_, rfl⟩)
      have := of_decide_eq_false hc
      by_cases h2 : n ≥ D.safe.length <;> simp [this, h2]
  rintro b w1 ⟨rfl, rfl⟩
  refine cond_of (fun hr => same (by rw [writeM, if_neg (by simpa using hd), if_pos (of_decide_eq_true hr)]) rfl) (fun hr => ?_)
  have hr' := of_decide_eq_false hr
  refine cond_of (fun hq => same ?_ rfl) (fun hq => ?_)
  · have : ¬ l.length = 512 := by simp at hq; omega
    rw [writeM, if_neg (by simpa using hd), if_neg hr', dif_neg this]
  have h512 : l.length = 512 := by simp at hq; omega
  obtain ⟨blk, hblk⟩ : ∃ blk : Blk, blk.1 = l := ⟨⟨l, h512⟩, rfl⟩
  have hw : writeM D n l = ((actM (addW D n blk)).1, if (actM (addW D n blk)).2 then 7 else 0) := by
    rw [writeM, if_neg (by simpa using hd), if_neg hr', dif_pos h512]
    have : blk = ⟨l, h512⟩ := Subtype.ext hblk
    rw [this]
  rw [hw] at hk
  have hd1 := ho.drew
  refine nn_some (Own.ld (c := .slice) hd1 0 rfl wsl rfl ?_)
  obtain ⟨sbk, so, scs, sT, sfr, hsa, hsbk, hsS, hscs⟩ := rdB_cells hs (by rw [← List.length_pos_iff]; omega)
  obtain ⟨sa, slen, scap⟩ := s
  simp only at hsa hlen
  subst hsa
  refine s2a_of (by omega) ?_
  refine ldV_blk (n := 512) (w := w1.drew) hsbk (encK blk) (encK_len _) (by rw [← h512, hscs, encK, hblk]) ?_
  refine runQ_of (ts := [.raw]) (encW (n, blk)) (build_write n blk _) ?_
  refine chk_of (encW_len _) ?_
  refine Own.new' hd1 fun r w2 er fr2 ho2 => ?_
  refine held_one (ho2.cell (off := 1) 1 rfl rfl) ?_
  obtain ⟨iW, hi, ⟨z, hz, hzs⟩, hsz, hby⟩ := infoW
  have hwl := hD.waits
  have hwr := hD.writes
  have hfz := hD.fuse
  have fr2' : Fr [] w1 w2 := (Fr.refl [] w1).drew.trans fr2
  have hbuf2 : Buf encW 513 w2 wsl D.waits B := hbuf.frame0 fr2'
  have hsb2 : w2.heap[sb]? = some (.cells (D.safe.flatMap encK).toArray T (0, 0)) := by rw [fr2'.block sb (lt_of_blk hsb) (by simp)]; exact hsb
  have hBF : ∀ b ∈ B, b ∈ F := fun b hb => by rw [hF]; simp [hb]
  have hdbB : ∀ b ∈ B, b ≠ db := fun b hb e => by subst e; simp at hn; exact hn.1.2 hb
  have hsbB : ∀ b ∈ B, b ≠ sb := fun b hb e => by subst e; simp at hn; exact hn.2.1 hb
  have hrB : ∀ b ∈ B, b ≠ r := fun b hb e => by have := hbuf.lt b hb; have e1 : w1.drew.heap.size = w1.heap.size := rfl; omega
  refine Buf.appSrc (ys := [(n, blk)]) (e := 130) hbuf2 encW_len (by kernel_rfl) hi hz hsz hzs (.ofSlice _ (e' := 130) (by kernel_rfl) _ 1 1 _ ?_ ?_ ?_) rfl (by rw [hby]; omega) (by omega) fun s' B' w3 g1 g2 g3 _ => ?_
  · simp [encW_len]
  · intro j u hj
    rw [Addr.add_mk, cell_of_blk (ho2.at (i := 0) rfl), Nat.zero_add]
    have : (encW (n, blk))[j]? = some u := by simpa using hj
    simpa using this
  · intro u hu
    have : u ∈ encW (n, blk) := by simpa using hu
    exact List.all_eq_true.1 (encW_one (n, blk)) u this
  have ho3 : Own F w1 w3 [(r, .cells (encW (n, blk)).toArray 130 (0, 0)), (db, .cells (dCells D sb wsl) DT (0, 0))] :=
    ho2.frame g2 (fun b hb => .inl (hBF b hb)) (fun p hp => by simp at hp; rcases hp with rfl | rfl; exact fun hb => hrB _ hb rfl; exact fun hb => hdbB _ hb rfl)
  have hsb3 : w3.heap[sb]? = some (.cells (D.safe.flatMap encK).toArray T (0, 0)) := by rw [g2.block sb (lt_of_blk hsb2) (fun hb => hsbB _ hb rfl)]; exact hsb2
  have hc3 := ho3.at (i := 1) rfl
  refine nn_some ?_
  refine st_fr hc3 (dCells { D with waits := D.waits ++ [(n, blk)] } sb s') rfl rfl (Nat.le_of_ble_eq_true rfl) fun w4 hc4 f4 => ?_
  refine nn_some (ld_blk (c := .int .i64) hc4 D.writes rfl ?_)
  refine nn_some ?_
  rw [wi' (D.writes + 1) (by omega)]
  refine st_fr hc4 (dCells (addW D n blk) sb s') rfl rfl (Nat.le_of_ble_eq_true rfl) fun w5 hc5 f5 => ?_
  have hs2 := fr2'.size
  have hs3 := g2.size
  have hne : sb ≠ db := fun e => by rw [e] at hn; simp at hn
  have f35 : Fr [db] w3 w5 := f4.trans f5
  have hB'db : ∀ b ∈ B', b ≠ db := fun b hb e => by
    rcases g3 b hb with h' | h'
    · exact hdbB b h' e
    · have := lt_of_blk hc; omega
  have hB'sb : ∀ b ∈ B', b ≠ sb := fun b hb e => by
    rcases g3 b hb with h' | h'
    · exact hsbB b h' e
    · have := lt_of_blk hsb; omega
  have hB'n : B'.Nodup := by
    rcases g1 with ⟨_, _, rfl⟩ | ⟨b', o', cs', T', rfl, _⟩
    · simp
    · simp
  have h5 : DiskAt w5 db (db :: sb :: B') (addW D n blk) := by
    refine ⟨sb, T, s', B', rfl, ?_, hc5, ?_, ?_⟩
    · simp only [List.nodup_cons, List.mem_cons, not_or]
      exact ⟨⟨fun e => hne e.symm, fun hb => hB'db _ hb rfl⟩, fun hb => hB'sb _ hb rfl, hB'n⟩
    · rw [f35.block sb (lt_of_blk hsb3) (by simpa using hne)]
      exact hsb3
    · exact g1.frame f35 (fun b hb => by simpa using hB'db b hb)
  have hF' : ∀ b ∈ db :: sb :: B', b ∈ F ∨ w1.heap.size ≤ b := fun b hb => by
    simp only [List.mem_cons] at hb
    rcases hb with rfl | rfl | hb
    · exact .inl hdb
    · exact .inl (by rw [hF]; simp)
    · rcases g3 b hb with h' | h'
      · exact .inl (hBF b h')
      · exact .inr (by omega)
  have f15 : Fr F w1 w5 := ((fr2'.mono (fun i hi _ => by cases hi)).trans' g2 (fun b hb => .inl (hBF b hb))).trans' f35 (fun b hb => by simp at hb; subst hb; exact .inl hdb)
  refine act_ok h5 (by show D.fuse ≤ _; omega) fun w6 h6 f6 => ?_
  have := hk (db :: sb :: B') w6 h6 (f15.trans' f6 (fun b hb => by simp at hb; subst hb; exact .inl hdb)) hF'
  refine cond_of (fun ha => ?_) (fun ha => ?_)
  · rw [ha] at this; exact this
  · rw [ha] at this; exact this

end Go.Proofs.YtmbcedengdoamaaGreatDoor
end

section
/- The disk: Sync, Read. Conditions: those that stand in each line. -/
set_option linter.unusedVariables false
set_option linter.unusedSimpArgs false
namespace Go.Proofs.YtmbcedengdoamaaGreatDoor
open Go Go.Pt
attribute [local irreducible] ld ldA ldV fld fldA newZ st new idx idxS idxA slc slcS slcP mkS chk nn call callV inv run runQ runU join loop held ext rng undefer s2a IntKind.wrap

def laySafe (s : List Blk) (x : Int × Blk) : List Blk := s.set x.1.toNat x.2
theorem laySafe_len (l : List (Int × Blk)) : ∀ s : List Blk, (l.foldl laySafe s).length = s.length := by
  induction l with
  | nil => intro s; rfl
  | cons x l ih => intro s; rw [List.foldl_cons, ih, laySafe, List.length_set]

def syncM (D : DiskM) : DiskM × Int :=
  if D.down then (D, 7) else if (actM D).2 then ((actM D).1, 7) else ({ (actM D).1 with safe := D.waits.foldl laySafe D.safe, waits := [] }, 0)

theorem actM_safe (D : DiskM) : (actM D).1.safe = D.safe ∧ (actM D).1.waits = D.waits := by
  unfold actM
  split
  · exact ⟨rfl, rfl⟩
  · split <;> exact ⟨rfl, rfl⟩

theorem DSync_ok {w : World} {db : Nat} {F : List Nat} {D : DiskM} {K : Int → World → Prop} (h : DiskAt w db F D) (hD : D.Ok)
    (hk : ∀ F' w', DiskAt w' db F' (syncM D).1 → Fr F w w' → (∀ b ∈ F', b ∈ F) → K (syncM D).2 w') :
    call Tryz.prog 87 [.pointer (some ⟨db, 0, none⟩)] [.one (.int .i64)] w K := by
  refine disk_Disk_Sync_of (d := some ⟨db, 0, none⟩) ?_
  unfold disk_Disk_SyncF
  have hdb := h.mem
  have hfz := hD.fuse
  refine join_mid (fun b w' => (D.down = true ∧ b = true ∧ w' = w) ∨ (D.down = false ∧ b = (actM D).2 ∧ DiskAt w' db F (actM D).1 ∧ Fr [db] w w')) ?_ ?_
  · obtain ⟨sb, wsl, hc⟩ := h.cell
    refine nn_some (ld_blk (c := .bool) hc D.down rfl ?_)
    refine cond_of (fun hd => .inl ⟨hd, rfl, rfl⟩) (fun hd => ?_)
    exact act_ok h (by omega) fun w1 h1 f1 => .inr ⟨hd, rfl, h1, f1⟩
  rintro b w1 (⟨hd, rfl, rfl⟩ | ⟨hd, rfl, h1, f1⟩)
  · refine cond_true rfl ?_
    have := hk F w1 (by rw [syncM, if_pos hd]; exact h) (.refl _ _) (fun b hb => hb)
    rw [syncM, if_pos hd] at this
    exact this
  have fF : Fr F w w1 := f1.mono (fun i hi _ => by simp at hi; subst hi; exact hdb)
  refine cond_of (fun ha => ?_) (fun ha => ?_)
  · have := hk F w1 (by rw [syncM, if_neg (by simp [hd]), if_pos ha]; exact h1) fF (fun b hb => hb)
    rw [syncM, if_neg (by simp [hd]), if_pos ha] at this
    exact this
  have hsm : syncM D = ({ (actM D).1 with safe := D.waits.foldl laySafe D.safe, waits := [] }, 0) := by rw [syncM, if_neg (by simp [hd]), if_neg (by simp [ha])]
  rw [hsm] at hk
  obtain ⟨hss, hww⟩ := actM_safe D
  generalize (actM D).1 = D1 at h1 hss hww hk
  obtain ⟨sb, T, wsl, B, hF, hn, hc, hsb, hbuf⟩ := h1
  rw [hss] at hsb
  rw [hww] at hbuf
  have hne : sb ≠ db := fun e => by rw [e] at hn; simp at hn
  have hB : ∀ b ∈ B, b ∉ [sb] := fun b hb he => by simp at he; subst he; simp at hn; exact hn.2.1 hb
  have hwl := hbuf.len
  have hwmax := hD.waits
  have hsmax := hD.safe
  refine nn_some (ld_blk (c := .slice) hc wsl rfl ?_)
  refine loop_ind (fun x w' => ∃ i : Nat, x = i ∧ i ≤ D.waits.length ∧ w'.heap[sb]? = some (.cells (((D.waits.take i).foldl laySafe D.safe).flatMap encK).toArray T (0, 0)) ∧ Fr [sb] w1 w') (fun x _ => ((D.waits.length : Int) - x).toNat)
    ⟨0, rfl, by omega, hsb, .refl _ _⟩ ?_
  rintro x w2 ⟨i, rfl, hi, hs2, f2⟩ X hX
  have hc2 : w2.heap[db]? = some (.cells (dCells D1 sb wsl) DT (0, 0)) := by rw [f2.block db (lt_of_blk hc) (by simpa using fun e => hne e.symm)]; exact hc
  refine cond_of (fun hcnd => ?_) (fun hcnd => ?_)
  · have hil : i < D.waits.length := by have := of_decide_eq_true hcnd; omega
    have hr2 : Rds encW 513 [] w2 wsl D.waits := (hbuf.frame f2 hB).rds encW_len (by simp)
    have hget := List.getElem?_eq_getElem hil
    have hat := hD.at_ D.waits[i] (List.getElem_mem hil)
    refine hr2.getV encW_len i rfl hget ?_
    refine Own.newFill (Own.start [] w2) (by kernel_rfl) (encW_len _) (encW_one _) fun r w3 er ho => ?_
    have hs3 : w3.heap[sb]? = some (.cells (((D.waits.take i).foldl laySafe D.safe).flatMap encK).toArray T (0, 0)) := by rw [ho.fr.block sb (lt_of_blk hs2) (by simp)]; exact hs2
    have hc3 : w3.heap[db]? = some (.cells (dCells D1 sb wsl) DT (0, 0)) := by rw [ho.fr.block db (lt_of_blk hc2) (by simp)]; exact hc2
    refine nn_some (ld_blk (c := .slice) (w := w3.drew) hc3 ⟨some ⟨sb, 0, none⟩, D1.safe.length, D1.safe.length⟩ rfl ?_)
    have hr3 := ho.at (i := 0) rfl
    refine ld_blk (c := .int .i64) (w := w3.drew) hr3 D.waits[i].1 rfl ?_
    refine ldV_blk (n := 512) (w := w3.drew) hr3 (encK D.waits[i].2) (encK_len _) (by rw [show (encW D.waits[i]).toArray.toList.drop 1 = encK D.waits[i].2 from rfl, List.take_of_length_le (by rw [encK_len]; exact Nat.le_refl _)]) ?_
    have hlenF := laySafe_len (D.waits.take i) D.safe
    refine idx_lit (by omega) (by rw [hss]; omega) ?_
    refine chk_of (encK_len _) ?_
    have hbound : 0 + Int.toNat D.waits[i].1 * 512 + (encK D.waits[i].2).length ≤ (((D.waits.take i).foldl laySafe D.safe).flatMap encK).toArray.size := by
      rw [List.size_toArray, flatMap_len encK_len, encK_len, hlenF]
      omega
    refine st_fr (w := w3.drew) hs3 (((((D.waits.take i).foldl laySafe D.safe).set D.waits[i].1.toNat D.waits[i].2).flatMap encK).toArray) (by rw [Nat.zero_add]; exact splice_elem encK_len ((D.waits.take i).foldl laySafe D.safe) D.waits[i].1.toNat D.waits[i].2 (by rw [hlenF]; omega)) (encK_one _) hbound fun w4 hs4 f4 => ?_
    rw [wi' _ (by omega)]
    refine hX _ _ ⟨i + 1, by simp, by omega, ?_, ?_⟩ (by omega)
    · rw [List.take_succ_eq_append_getElem hil, List.foldl_append]
      exact hs4
    · have f23 : Fr [sb] w2 w3.drew := ho.fr.drew.mono (fun i hi _ => by cases hi)
      exact f2.trans (f23.trans f4)
  · have hil : i = D.waits.length := by have := of_decide_eq_false hcnd; omega
    subst hil
    rw [List.take_length] at hs2
    refine nn_some ?_
    have hlenF := laySafe_len D.waits D.safe
    refine st_fr hc2 (dCells { D1 with safe := D.waits.foldl laySafe D.safe, waits := [] } sb ⟨none, 0, 0⟩) (by simp [splice, dCells, hlenF, hss]) rfl (Nat.le_of_ble_eq_true rfl) fun w3 hc3 f3 => ?_
    have f13 : Fr F w w3 := (fF.trans (f2.mono (fun i hi _ => by simp at hi; subst hi; rw [hF]; simp))).trans (f3.mono (fun i hi _ => by simp at hi; subst hi; exact hdb))
    refine hk [db, sb] w3 ⟨sb, T, ⟨none, 0, 0⟩, [], rfl, by simpa using fun e => hne e.symm, hc3, ?_, .nil _ _ _⟩ f13 (fun b hb => by rw [hF]; simp at hb; rcases hb with rfl | rfl <;> simp)
    rw [f3.block sb (lt_of_blk hs2) (by simpa using hne)]
    exact hs2

end Go.Proofs.YtmbcedengdoamaaGreatDoor
end

section
/- The disk: Read. Conditions: those that stand in each line. -/
set_option linter.unusedVariables false
set_option linter.unusedSimpArgs false
namespace Go.Proofs.YtmbcedengdoamaaGreatDoor
open Go Go.Pt
attribute [local irreducible] ld ldA ldV fld fldA newZ st new idx idxS idxA slc slcS slcP mkS chk nn call callV inv run runQ runU join loop held ext rng undefer s2a IntKind.wrap

/-- The last write that waits for a place. -/
def lastW (n : Int) : List (Int × Blk) → Option Blk
  | [] => none
  | x :: r => match lastW n r with | some b => some b | none => if x.1 = n then some x.2 else none

theorem lastW_hit {n : Int} : ∀ (l : List (Int × Blk)) (i : Nat) (h : i < l.length), lastW n (l.drop (i + 1)) = none → l[i].1 = n → lastW n l = some l[i].2
  | x :: l, 0, h, hn, he => by
    simp only [Nat.zero_add, List.drop_succ_cons, List.drop_zero] at hn
    simp only [List.getElem_cons_zero] at he ⊢
    simp [lastW, hn, he]
  | x :: l, i + 1, h, hn, he => by
    have := lastW_hit l i (by simpa using h) (by simpa using hn) (by simpa using he)
    simp only [lastW, this, List.getElem_cons_succ]

theorem lastW_none {n : Int} : ∀ (l : List (Int × Blk)) (i : Nat) (h : i < l.length), lastW n (l.drop (i + 1)) = none → l[i].1 ≠ n → lastW n (l.drop i) = none := by
  intro l i h hn hne
  rw [List.drop_eq_getElem_cons h, lastW, hn]
  simp [hne]

def readV (D : DiskM) (n : Int) : List Int × Int :=
  if D.down then ([], 7) else if n < 0 ∨ n ≥ D.safe.length then ([], 4) else
  match lastW n D.waits with | some b => (b.1, 0) | none => ((D.safe.getD n.toNat .zero).1, 0)

theorem slcP_all {b o n : Nat} {size : Nat} {K : Sl → Prop} (hn : 0 < n) (k : K ⟨some ⟨b, o, none⟩, n, n⟩) : slcP ⟨b, o, none⟩ n none none none size K := by
  unfold slcP
  refine ⟨by simp, ?_⟩
  simp only [Option.getD_none, Int.toNat_natCast, Int.toNat_zero, Nat.sub_zero, Nat.zero_mul]
  rw [if_neg (by omega), add_zero']
  exact k

theorem encK_rdB {S : List Nat} {w : World} {b o : Nat} {cs : Array Value} {T : TypeId} {fr : Nat × Nat} {x : Blk} (hb : w.heap[b]? = some (.cells cs T fr)) (hc : (cs.toList.drop o).take 512 = encK x) (hS : b ∉ S) : RdB S w ⟨some ⟨b, o, none⟩, 512, 512⟩ x.1 := by
  refine ⟨x.2.symm, Nat.le_refl _, .inr ⟨b, o, cs, T, fr, rfl, hb, hS, fun i v hv => ?_⟩⟩
  have hi := (List.getElem?_eq_some_iff.1 hv).1
  rw [x.2] at hi
  rw [Nat.mul_one]
  have h1 : (encK x)[i]? = some (.int .u8 v) := by rw [encK, List.getElem?_map, hv]; rfl
  rw [← hc, List.getElem?_take, if_pos hi, List.getElem?_drop] at h1
  apply List.ext_getElem?
  intro j
  rw [List.getElem?_take, List.getElem?_drop]
  match j with
  | 0 => simpa using h1
  | j + 1 => simp

theorem Backward_ok {w : World} {s : Sl} {K : Value → World → Prop} (hk : ∀ rb w', (∀ S w0 L, Own S w0 w L → Own S w0 w' ((rb, .cells #[.slice s.a s.len s.cap] 110 (0, 0)) :: L)) → K (.func (.func 98) #[] #[.pointer (some ⟨rb, 0, none⟩)]) w') :
    call Tryz.prog 55 [.slice s.a s.len s.cap] [.one .any] w K := by
  refine slices_Backward_of (s := s) ?_
  unfold slices_BackwardF
  exact Pt.new_of (hk _ _ fun S w0 L h => h.alloc _)

theorem DRead_ok {w : World} {db : Nat} {F : List Nat} {D : DiskM} {n : Int} {K : Sl × Int → World → Prop} (h : DiskAt w db F D) (hD : D.Ok)
    (hk : ∀ s' B w', BufB w' s' (readV D n).1 B → Fr [] w w' → (∀ b ∈ B, w.heap.size ≤ b) → K (s', (readV D n).2) w') :
    call Tryz.prog 19 [.pointer (some ⟨db, 0, none⟩), .int .i64 n] [.one .slice, .one (.int .i64)] w K := by
  refine disk_Disk_Read_of (d := some ⟨db, 0, none⟩) ?_
  unfold disk_Disk_ReadF
  refine Own.new' (Own.start [] w) fun r1 w1 e1 f1 ho => ?_
  refine Own.new' ho fun r3 w2 e2 f2 ho => ?_
  refine Own.new' ho fun r5 w3 e3 f3 ho => ?_
  obtain ⟨sb, T, wsl, B, hF, hn, hc, hsb, hbuf⟩ := h
  have hcW : ∀ {w' : World}, Fr [] w w' → w'.heap[db]? = some (.cells (dCells D sb wsl) DT (0, 0)) := fun f => by rw [f.block db (lt_of_blk hc) (by simp)]; exact hc
  have hsbW : ∀ {w' : World}, Fr [] w w' → w'.heap[sb]? = some (.cells (D.safe.flatMap encK).toArray T (0, 0)) := fun f => by rw [f.block sb (lt_of_blk hsb) (by simp)]; exact hsb
  have bad : ∀ {e : Int} {w' : World} {L'}, readV D n = ([], e) → Own [] w w' L' → L'[1]? = some (r3, .cells #[.slice none 0 0] 22 (0, 0)) → L'[0]? = some (r5, .cells #[.int .i64 e] 30 (0, 0)) → ld Cell.slice ⟨r3, 0, none⟩ w' fun s => ld (.int .i64) ⟨r5, 0, none⟩ w' fun x => K (s, x) w' := by
    intro e w' L' he ho h1 h0
    refine Own.ld (c := .slice) ho 1 h1 ⟨none, 0, 0⟩ rfl ?_
    refine Own.ld (c := .int .i64) ho 0 h0 e rfl ?_
    have := hk ⟨none, 0, 0⟩ [] w' (by rw [he]; exact .nil _ _ _) ho.fr (by simp)
    rw [he] at this
    exact this
  refine nn_some (ld_blk (c := .bool) (hcW ho.fr) D.down rfl ?_)
  refine cond_of (fun hd => ?_) (fun hd => ?_)
  · refine Own.st ho 1 rfl _ rfl rfl rfl fun w4 ho _ => ?_
    refine Own.st ho 0 rfl _ rfl rfl rfl fun w5 ho _ => ?_
    exact bad (by rw [readV, if_pos hd]) ho rfl rfl
  refine join_mid (fun b w' => b = decide (n < 0 ∨ n ≥ D.safe.length) ∧ w' = w3.drew) ?_ ?_
  · refine Own.ld (c := .int .i64) ho.drew 2 rfl n rfl ?_
    refine cond_of (fun hc => ?_) (fun hc' => ?_)
    · exact ⟨by rw [decide_eq_true (Or.inl (of_decide_eq_true hc))], rfl⟩
    · refine Own.ld (c := .int .i64) ho.drew 2 rfl n rfl ?_
      refine nn_some (ld_blk (c := .slice) (hcW ho.drew.fr) ⟨some ⟨sb, 0, none⟩, D.safe.length, D.safe.length⟩ rfl ⟨?_, rfl⟩)
      have := of_decide_eq_false hc'
      by_cases h2 : n ≥ D.safe.length <;> simp [this, h2]
  rintro b w4 ⟨rfl, rfl⟩
  refine cond_of (fun hr => ?_) (fun hr => ?_)
  · refine Own.st ho.drew 1 rfl _ rfl rfl rfl fun w4 ho _ => ?_
    refine Own.st ho 0 rfl _ rfl rfl rfl fun w5 ho _ => ?_
    exact bad (by rw [readV, if_neg (by simpa using hd), if_pos (of_decide_eq_true hr)]) ho rfl rfl
  have hr' := of_decide_eq_false hr
  have hn0 : 0 ≤ n := by omega
  have hnl : n < D.safe.length := by omega
  have hwmax := hD.waits
  have hsmax := hD.safe
  have hwl := hbuf.len
  have hrv : readV D n = match lastW n D.waits with | some b => (b.1, 0) | none => ((D.safe.getD n.toNat .zero).1, 0) := by
    rw [readV, if_neg (by simpa using hd), if_neg hr']
  refine nn_some (ld_blk (c := .slice) (hcW ho.drew.fr) wsl rfl ?_)
  refine Backward_ok fun rb w5 hrb => ?_
  have ho5 := hrb _ _ _ ho.drew
  refine Own.rng (lb := [.pointer (some ⟨rb, 0, none⟩)]) ho5 rfl (by kernel_rfl) fun Dm l R Bz J E E0 w6 el eD f56 ho6 hy => ?_
  refine slices_Backward_c1_of ?_
  unfold slices_Backward_c1F
  refine Own.ld (c := .slice) ho6 2 rfl wsl rfl ?_
  rw [wi' _ (by omega)]
  -- the end, the bytes having been found and laid into the results' cells
  have fin : ∀ {bl : Blk} {s7 : Sl} {Bf : List Nat} {w10 wz : World} {L10 : List (Nat × Obj)}, readV D n = (bl.1, 0) → Own [] w w10 L10 → BufB w10 s7 bl.1 Bf → (∀ b ∈ Bf, w.heap.size ≤ b) → (∀ b ∈ Bf, b ∉ L10.map (·.1)) → Fr (L10.map (·.1)) w10 wz → K (s7, 0) wz := by
    intro bl s7 Bf w10 wz L10 he h10 hb7 hnew hdis fz
    have := hk s7 Bf wz (by rw [he]; exact hb7.frame fz hdis) (h10.back (L' := []) fz) hnew
    rw [he] at this
    exact this
  refine loop_ind (fun x w' => ∃ i : Nat, x = (i : Int) - 1 ∧ i ≤ D.waits.length ∧ lastW n (D.waits.drop i) = none ∧ Own [] w w' [(l, R), (Dm, .deferred (some [])), (rb, .cells #[.slice wsl.a wsl.len wsl.cap] 110 (0, 0)), (r5, .cells #[.int .i64 0] 30 (0, 0)), (r3, .cells #[.slice none 0 0] 22 (0, 0)), (r1, .cells #[.int .i64 n] 3 (0, 0))]) (fun x _ => (x + 1).toNat)
    ⟨D.waits.length, by rw [hwl], Nat.le_refl _, by rw [List.drop_length]; rfl, ho6⟩ ?_
  rintro x w7 ⟨i, rfl, hi, hno, ho7⟩ X hX
  refine cond_of (fun hc1 => ?_) (fun hc1 => ?_)
  · have hge := of_decide_eq_true hc1
    obtain ⟨i, rfl⟩ : ∃ k, i = k + 1 := ⟨i - 1, by omega⟩
    have hil : i < D.waits.length := by omega
    refine Own.ld (c := .slice) ho7 2 rfl wsl rfl ?_
    have hr7 : Rds encW 513 [] w7 wsl D.waits := (hbuf.frame0 ho7.fr).rds encW_len (by simp)
    refine hr7.getV encW_len i (by omega) (List.getElem?_eq_getElem hil) ?_
    refine hy ((((i + 1 : Nat) : Int) - 1), encW D.waits[i]) w7 _ (ho7.at (i := 0) rfl) ?_
    dsimp only
    refine Own.newFill ho7 (by kernel_rfl) (encW_len _) (encW_one _) fun r w8 er ho8 => ?_
    refine ⟨ho8.at (i := 1) rfl, ?_⟩
    have ho9 := ho8.upd (o' := Bz) 1 rfl
    refine Own.ld (c := .int .i64) ho9 0 rfl D.waits[i].1 rfl ?_
    refine Own.ld (c := .int .i64) ho9 6 rfl n rfl ?_
    refine cond_of (fun hm => ?_) (fun hm => ?_)
    · have hm' : D.waits[i].1 = n := by simpa using hm
      have hlast := lastW_hit D.waits i hil hno hm'
      have hrv2 : readV D n = (D.waits[i].2.1, 0) := by rw [hrv, hlast]
      refine slcP_all (by decide) ?_
      have hrd : RdB [] (Pt.upd w8 l Bz) ⟨some ⟨r, 1, none⟩, 512, 512⟩ D.waits[i].2.1 :=
        encK_rdB (x := D.waits[i].2) (ho9.at (i := 0) rfl) (by rw [show (encW D.waits[i]).toArray.toList.drop 1 = encK D.waits[i].2 from rfl, List.take_of_length_le (by rw [encK_len]; exact Nat.le_refl _)]) (by simp)
      refine slices_CloneB_ok (s := ⟨some ⟨r, 1, none⟩, 512, 512⟩) hrd (by rw [D.waits[i].2.2]; decide) fun s7 Bf w10 hb7 f10 n10 _ _ => ?_
      have ho10 := ho9.frame0 f10
      have hbk := ho10.rebase
      have hnew : ∀ b ∈ Bf, w.heap.size ≤ b := fun b hb => by have h1 : (Pt.upd w8 l Bz).heap.size ≤ b := n10 b hb; have := ho9.fr.size; omega
      have hdis : ∀ b ∈ Bf, b ∉ [r, l, Dm, rb, r5, r3, r1] := fun b hb hm => by
        have h1 : (Pt.upd w8 l Bz).heap.size ≤ b := n10 b hb
        have h2 : ∀ p ∈ [r, l, Dm, rb, r5, r3, r1], p < (Pt.upd w8 l Bz).heap.size := fun p hp => by
          have hlt := fun (k : Nat) (q : Nat × Obj) (hq : _[k]? = some q) => lt_of_blk (ho9.at (i := k) hq)
          simp only [List.mem_cons, List.not_mem_nil, or_false] at hp
          rcases hp with rfl | rfl | rfl | rfl | rfl | rfl | rfl
          · exact hlt 0 _ rfl
          · exact hlt 1 _ rfl
          · exact hlt 2 _ rfl
          · exact hlt 3 _ rfl
          · exact hlt 4 _ rfl
          · exact hlt 5 _ rfl
          · exact hlt 6 _ rfl
        have := h2 b hm
        omega
      refine Own.st hbk 5 rfl _ rfl rfl rfl fun w11 hbk _ => ?_
      refine Own.st hbk 4 rfl _ rfl rfl rfl fun w12 hbk _ => ?_
      refine ⟨hbk.at (i := 1) rfl, ?_⟩
      have hbk := hbk.upd (o' := J 0) 1 rfl
      refine cond_true rfl ?_
      refine .inr ⟨0, _, rfl, hbk.at (i := 1) rfl, ?_⟩
      have hbk := hbk.upd (o' := E 0) 1 rfl
      refine Own.undefer hbk 2 rfl fun w13 hbk => ?_
      refine Own.ld (c := .slice) hbk 5 rfl s7 rfl ?_
      refine Own.ld (c := .int .i64) hbk 4 rfl 0 rfl ?_
      exact fin hrv2 ho10 hb7 hnew hdis hbk.fr
    · have hm' : D.waits[i].1 ≠ n := by simpa using hm
      refine ⟨ho9.at (i := 1) rfl, ?_⟩
      have hoA := ho9.upd (o' := R) 1 rfl
      refine cond_false rfl ?_
      rw [wi' _ (by omega)]
      refine hX _ _ ⟨i, by omega, by omega, lastW_none D.waits i hil hno hm', hoA.sub (List.sublist_cons_self _ _)⟩ (by omega)
  · have hlt := of_decide_eq_false hc1
    obtain rfl : i = 0 := by omega
    rw [List.drop_zero] at hno
    refine .inl ⟨ho7.at (i := 0) rfl, ?_⟩
    have ho8 := (ho7.upd (o' := E0) 0 rfl).drew
    have hrv2 : readV D n = ((D.safe.getD n.toNat .zero).1, 0) := by rw [hrv, hno]
    have hnl' : n.toNat < D.safe.length := by omega
    have hgd : D.safe[n.toNat]? = some (D.safe.getD n.toNat .zero) := by rw [List.getD_eq_getElem?_getD, List.getElem?_eq_getElem hnl']; rfl
    refine nn_some (ld_blk (c := .slice) (hcW ho8.fr) ⟨some ⟨sb, 0, none⟩, D.safe.length, D.safe.length⟩ rfl ?_)
    refine Own.ld (c := .int .i64) ho8 5 rfl n rfl ?_
    refine idx_lit hn0 hnl ?_
    refine slcP_all (by decide) ?_
    have hrd : RdB [] (Pt.upd w7 l E0).drew ⟨some ⟨sb, 0 + n.toNat * 512, none⟩, 512, 512⟩ (D.safe.getD n.toNat .zero).1 :=
      encK_rdB (hsbW ho8.fr) (by rw [Nat.zero_add]; exact flatMap_at encK_len D.safe n.toNat _ hgd) (by simp)
    refine slices_CloneB_ok (s := ⟨some ⟨sb, 0 + n.toNat * 512, none⟩, 512, 512⟩) hrd (by rw [(D.safe.getD n.toNat .zero).2]; decide) fun s7 Bf w10 hb7 f10 n10 _ _ => ?_
    have ho10 := ho8.frame0 f10
    have hbk := ho10.rebase
    have hnew : ∀ b ∈ Bf, w.heap.size ≤ b := fun b hb => by have h1 : (Pt.upd w7 l E0).drew.heap.size ≤ b := n10 b hb; have := ho8.fr.size; omega
    have hdis : ∀ b ∈ Bf, b ∉ [l, Dm, rb, r5, r3, r1] := fun b hb hm => by
      have h1 : (Pt.upd w7 l E0).drew.heap.size ≤ b := n10 b hb
      have h2 : ∀ p ∈ [l, Dm, rb, r5, r3, r1], p < (Pt.upd w7 l E0).drew.heap.size := fun p hp => by
        have hlt := fun (k : Nat) (q : Nat × Obj) (hq : _[k]? = some q) => lt_of_blk (ho8.at (i := k) hq)
        simp only [List.mem_cons, List.not_mem_nil, or_false] at hp
        rcases hp with rfl | rfl | rfl | rfl | rfl | rfl
        · exact hlt 0 _ rfl
        · exact hlt 1 _ rfl
        · exact hlt 2 _ rfl
        · exact hlt 3 _ rfl
        · exact hlt 4 _ rfl
        · exact hlt 5 _ rfl
      have := h2 b hm
      omega
    refine Own.st hbk 4 rfl _ rfl rfl rfl fun w11 hbk _ => ?_
    refine Own.st hbk 3 rfl _ rfl rfl rfl fun w12 hbk _ => ?_
    refine Own.undefer hbk 1 rfl fun w13 hbk => ?_
    refine Own.ld (c := .slice) hbk 4 rfl s7 rfl ?_
    refine Own.ld (c := .int .i64) hbk 3 rfl 0 rfl ?_
    exact fin hrv2 ho10 hb7 hnew hdis hbk.fr

end Go.Proofs.YtmbcedengdoamaaGreatDoor
end

section
/- The pager over a disk: what its steps do, as plain Lean. No condition. -/
set_option linter.unusedVariables false
set_option linter.unusedSimpArgs false
namespace Go.Proofs.YtmbcedengdoamaaGreatDoor
open Go Go.Pt
attribute [local irreducible] ld ldA ldV fld fldA newZ st new idx idxS idxA slc slcS slcP mkS chk nn call callV inv run runQ runU join loop held ext rng undefer s2a nxt ent IntKind.wrap

def insAll (l : List Int) : List Int := l.foldl (fun a n => ins n a) []
theorem ins_len (n : Int) : ∀ l : List Int, (ins n l).length ≤ l.length + 1
  | [] => by simp [ins]
  | a :: l => by
    have := ins_len n l
    simp only [ins]
    split
    · simp
    · split
      · simp
      · simp only [List.length_cons]; omega
theorem insAll_take {l : List Int} {i : Nat} (h : i < l.length) : insAll (l.take (i + 1)) = ins l[i] (insAll (l.take i)) := by
  rw [insAll, List.take_succ_eq_append_getElem h, List.foldl_append]
  rfl
theorem insAll_len (l : List Int) : (insAll l).length ≤ l.length := by
  unfold insAll
  have : ∀ (l a : List Int), (l.foldl (fun a n => ins n a) a).length ≤ a.length + l.length := by
    intro l
    induction l with
    | nil => intro a; simp
    | cons x l ih =>
      intro a
      have h1 := ih (ins x a)
      have h2 := ins_len x a
      rw [List.foldl_cons, List.length_cons]
      omega
  simpa using this l []

theorem foldIns_sorted (l : List Int) : ∀ a : List Int, a.Pairwise (· < ·) → (l.foldl (fun a n => ins n a) a).Pairwise (· < ·) := by
  induction l with
  | nil => intro a h; exact h
  | cons x l ih => intro a h; exact ih _ (ins_sorted h)
theorem foldIns_perm (l : List Int) : ∀ a : List Int, (a ++ l).Nodup → (l.foldl (fun a n => ins n a) a).Perm (a ++ l) := by
  induction l with
  | nil => intro a h; rw [List.append_nil]; exact .refl _
  | cons x l ih =>
    intro a h
    have hx : x ∉ a := fun hm => by
      rw [List.nodup_append] at h
      exact h.2.2 x hm x (by simp) rfl
    have hp := ins_perm hx
    have hp2 : (ins x a ++ l).Perm (a ++ x :: l) := (hp.append_right l).trans (List.perm_middle.symm)
    exact (ih (ins x a) (hp2.nodup_iff.2 h)).trans hp2
theorem insAll_sorted (l : List Int) : (insAll l).Pairwise (· < ·) := foldIns_sorted l [] .nil
theorem insAll_perm {l : List Int} (h : l.Nodup) : (insAll l).Perm l := by
  have := foldIns_perm l [] (by simpa using h)
  simpa [insAll] using this
theorem lt_le {l : List Int} (h : l.Pairwise (· < ·)) : l.Pairwise (· ≤ ·) := h.imp Int.le_of_lt
theorem lt_nodup {l : List Int} (h : l.Pairwise (· < ·)) : l.Nodup := h.imp (fun h => Int.ne_of_lt h)
theorem insAll_of_perm {l l' : List Int} (h : l'.Perm l) (hs : l'.Pairwise (· ≤ ·)) (hn : l.Nodup) : l' = insAll l :=
  perm_sorted_eq (h.trans (insAll_perm hn).symm) hs (lt_le (insAll_sorted l))
theorem insAll_id {l : List Int} (h : l.Pairwise (· < ·)) : insAll l = l := (insAll_of_perm (.refl _) (lt_le h) (lt_nodup h)).symm
theorem mem_ins {x y : Int} : ∀ {l : List Int}, y ∈ ins x l ↔ y = x ∨ y ∈ l
  | [] => by simp [ins]
  | a :: l => by
    have := mem_ins (x := x) (y := y) (l := l)
    simp only [ins]
    split
    · simp
    · split
      · rename_i h; subst h; simp
      · simp only [List.mem_cons, this]
        constructor
        · rintro (h | h | h)
          · exact .inr (.inl h)
          · exact .inl h
          · exact .inr (.inr h)
        · rintro (h | h | h)
          · exact .inr (.inl h)
          · exact .inl h
          · exact .inr (.inr h)
theorem mem_insAll {y : Int} {l : List Int} : y ∈ insAll l ↔ y ∈ l := by
  have : ∀ (l a : List Int), y ∈ l.foldl (fun a n => ins n a) a ↔ y ∈ a ∨ y ∈ l := by
    intro l
    induction l with
    | nil => intro a; simp
    | cons x l ih =>
      intro a
      rw [List.foldl_cons, ih, mem_ins, List.mem_cons]
      constructor
      · rintro ((h | h) | h)
        · exact .inr (.inl h)
        · exact .inl h
        · exact .inr (.inr h)
      · rintro (h | h | h)
        · exact .inl (.inr h)
        · exact .inl (.inl h)
        · exact .inr h
  rw [insAll, this]; simp

/-! ### Writing -/
def andThen (r : DiskM × Int) (f : DiskM → DiskM × Int) : DiskM × Int := if r.2 = 0 then f r.1 else r
def writesM : List (Int × List Int) → DiskM → DiskM × Int
  | [], D => (D, 0)
  | x :: r, D => andThen (writeM D x.1 x.2) (writesM r)
def spreadM (D : DiskM) (numbers pages : List Int) : DiskM × Int :=
  if (bodiesV numbers pages).2 ≠ 0 then (D, (bodiesV numbers pages).2)
  else andThen (writesM ((pages.zip (bodiesV numbers pages).1).map fun x => (x.1, sealV x.1 2 x.2)) D) syncM
def superP (s : Sup) : Int × List Int := (Int.tmod s.1 2, sealV (IntKind.wrap .u32 (Int.tmod s.1 2)) 1 (superB s.1 s.2))
def sealM (D : DiskM) (s : Sup) : DiskM × Int := andThen (writeM D (superP s).1 (superP s).2) syncM
def allV (n : Nat) : List Int := (List.range (n - 2)).map fun (i : Nat) => (i : Int) + 2
def fmtSup (n : Nat) : Sup := (1, [IntKind.wrap .u32 n, 2, IntKind.wrap .u32 ((allV n).length - needP (allV n).length : Int)] ++ zs 24)
def formatM (D : DiskM) : DiskM × Int :=
  andThen (writeM D 0 (zs 512)) fun D => andThen (writeM D 1 (zs 512)) fun D => andThen (syncM D) fun D =>
  andThen (spreadM D ((allV D.safe.length).drop (needP (allV D.safe.length).length)) ((allV D.safe.length).take (needP (allV D.safe.length).length))) fun D => sealM D (fmtSup D.safe.length)

/-! ### Opening -/
def walkM (D : DiskM) (blocks : Int) : Nat → Int → List Int → List Int → Option (List Int × List Int)
  | 0, _, _, _ => none
  | f + 1, a, lists, named =>
    if a = 0 then some (lists, named) else
    if a < 2 ∨ a ≥ blocks ∨ a ∈ lists then none else
    if (readV D a).2 ≠ 0 then none else
    if (openV a (readV D a).1).2.2 ≠ 0 ∨ (openV a (readV D a).1).1 ≠ 2 then none else
    if (parseV (openV a (readV D a).1).2.1).2.2 ≠ 0 then none else
    walkM D blocks f (parseV (openV a (readV D a).1).2.1).1 (lists ++ [a]) (named ++ (parseV (openV a (readV D a).1).2.1).2.1)
def namedB (blocks : Int) (lists : List Int) : Int → List Int → Bool
  | _, [] => true
  | last, n :: r => !(decide (n ≤ last) || decide (n ≥ blocks) || decide (n ∈ lists)) && namedB blocks lists n r
def loadM (D : DiskM) (s : Sup) : Option (List Int × List Int) :=
  match walkM D (s.2.getD 0 0) ((s.2.getD 0 0).toNat + 1) (s.2.getD 1 0) [] [] with
  | none => none
  | some x => if namedB (s.2.getD 0 0) x.1 0 x.2 = true ∧ (x.2.length : Int) = s.2.getD 2 0 then some x else none
def begunM (sup : Sup) (lists named : List Int) (turn : Int) (over : Bool) (free : List Int) : PgM := ⟨sup, lists, named, turn, over, free, [], [], sup.2.drop 3⟩
def openM (D : DiskM) : Option PgM × Int :=
  if (readV D 0).2 ≠ 0 then (none, (readV D 0).2) else
  if (readV D 1).2 ≠ 0 then (none, (readV D 1).2) else
  if (newestV (readV D 0).1 (readV D 1).1).2 ≠ 0 then (none, (newestV (readV D 0).1 (readV D 1).1).2) else
  if (newestV (readV D 0).1 (readV D 1).1).1.2.getD 0 0 ≠ D.safe.length then (none, 2) else
  match loadM D (newestV (readV D 0).1 (readV D 1).1).1 with
  | none => (none, 2)
  | some x => (some (begunM (newestV (readV D 0).1 (readV D 1).1).1 x.1 x.2 1 false x.2), 0)

/-! ### Committing -/
def planM (M : PgM) : Option (List Int × List Int) :=
  if needP (M.free.length + (M.deferred ++ M.lists).length) > M.free.length then none
  else some (M.free.take (needP (M.free.length + (M.deferred ++ M.lists).length)), insAll ((M.deferred ++ M.lists) ++ M.free.drop (needP (M.free.length + (M.deferred ++ M.lists).length))))
def leafOf (fresh : List (Int × Int × List Int)) (n : Int) : Int × List Int := match look n fresh with | some q => q.2 | none => (0, [])
def freshW (fresh : List (Int × Int × List Int)) : List (Int × List Int) := (insAll (fresh.map (·.1))).map fun n => (n, sealV n (leafOf fresh n).1 (leafOf fresh n).2)
def flushM (D : DiskM) (fresh : List (Int × Int × List Int)) (pages named : List Int) (next : Sup) : DiskM × Int :=
  andThen (writesM (freshW fresh) D) fun D => andThen (spreadM D named pages) fun D => sealM D next
def nextS (M : PgM) (pages named : List Int) : Sup := (IntKind.wrap .u64 (M.sup.1 + 1), [M.sup.2.getD 0 0, pages.headD 0, IntKind.wrap .u32 named.length] ++ M.roots)
def overM : PgM := begunM supZero [] [] 1 true []
def commitM (D : DiskM) (M : PgM) : (DiskM × PgM) × Int :=
  if M.over then ((D, M), 7) else
  if M.fresh = [] ∧ M.deferred = [] ∧ M.roots = M.sup.2.drop 3 then ((D, M), 0) else
  match planM M with
  | none => ((D, M), 6)
  | some x =>
    if (flushM D M.fresh x.1 x.2 (nextS M x.1 x.2)).2 ≠ 0 then (((flushM D M.fresh x.1 x.2 (nextS M x.1 x.2)).1, overM), (flushM D M.fresh x.1 x.2 (nextS M x.1 x.2)).2)
    else (((flushM D M.fresh x.1 x.2 (nextS M x.1 x.2)).1, begunM (nextS M x.1 x.2) x.1 x.2 (M.turn + 1) false x.2), 0)

end Go.Proofs.YtmbcedengdoamaaGreatDoor
end

section
/- The pager: begin. Conditions: those that stand in each line. -/
set_option linter.unusedVariables false
set_option linter.unusedSimpArgs false
namespace Go.Proofs.YtmbcedengdoamaaGreatDoor
open Go Go.Pt
attribute [local irreducible] ld ldA ldV fld fldA newZ st new idx idxS idxA slc slcS slcP mkS chk nn call callV inv run runQ runU join loop held ext rng undefer s2a nxt ent IntKind.wrap

/-- The round's end: the work is laid, and what is named is put. -/
def beginTail (pb : Nat) (x y : Option Addr) (mb : Nat) (vs : List Value) (K : Unit → World → Prop) (w : World) : Prop :=
  runQ [Ty1.raw] (fun (w' : Go.World) => (Instr.build WKT (#[(0, Value.pointer x), (1, Value.pointer y), (2, Value.map (some mb)), (3, Value.agg (List.toArray vs))])).run Tryz.prog w') w <|
  fun (vs_17 : List Value) =>
  nn (some ⟨pb, 0, none⟩) <|
  fun (a_18 : Addr) =>
  chk (List.length vs_17 = 27) <|
  st ({ block := a_18.block, off := a_18.off + 33 }) vs_17 w <|
  fun (w_19 : World) =>
  nn (some ⟨pb, 0, none⟩) <|
  fun (a_20 : Addr) =>
  ld Cell.slice ({ block := a_20.block, off := a_20.off + 30 }) w_19 <|
  fun (s_21 : Sl) =>
  loop (Int) (fun (X_22 : Int → World → Prop) (x_23 : Int) (w_24 : World) =>
    cond (decide (x_23 < (↑s_21.len : Int)))
      (idx s_21 x_23 1 <|
      fun (a_25 : Addr) =>
      ld (Cell.int IntKind.u32) a_25 w_24 <|
      fun (x_26 : Int) =>
      nn (some ⟨pb, 0, none⟩) <|
      fun (a_27 : Addr) =>
      ld Cell.ptr ({ block := a_27.block, off := a_27.off + 33 }) w_24 <|
      fun (p_28 : Option Addr) =>
      call Tryz.prog 44 ([Value.pointer p_28, Value.int IntKind.u32 x_26]) ([Ty1.one Cell.bool]) w_24 <|
      fun (b_29 : Bool) (w_30 : World) =>
      X_22 (IntKind.wrap IntKind.i64 (x_23 + 1)) w_30)
      (K () w_24)) 0 w_19

theorem begin_tail {w w3 : World} {X : List Nat} {pb fb defb mb : Nat} {db : Option Addr} {sup : Sup} {sl sn : Sl} {turn : Int} {over : Bool} {wk : List Value} {lists named : List Int} {F1 F2 : List Nat} {K : Unit → World → Prop}
    (hs : sup.2.length = 27) (hw : wk.length = 27) (hX : ∀ b ∈ X, b < w.heap.size ∧ b ≠ pb) (hlists : Rd (X ++ [pb]) w sl lists) (hnamed : Rd (X ++ [pb]) w sn named) (hn : named.length ≤ 100000)
    (ho : Own [pb] w w3 [(pb, .cells (pgRaw db sup sl sn turn over wk) PGT (0, 0))]) (h1 : PoolAt w3 fb F1 []) (h2 : PoolAt w3 defb F2 []) (h3 : MapS u32V w3 mb [])
    (n1 : ∀ b ∈ F1, w.heap.size ≤ b) (n2 : ∀ b ∈ F2, w.heap.size ≤ b) (n3 : w.heap.size ≤ mb) (hpb : pb < w.heap.size) (sp1 : mb ∉ F1) (sp2 : mb ∉ F2) (sp3 : ∀ b ∈ F1, b ∉ F2)
    (hk : ∀ F' w', PagerAt w' X pb db F' (begunM sup lists named turn over (insAll named)) → Fr [pb] w w' → (∀ b ∈ F', b = pb ∨ w.heap.size ≤ b) → K () w') :
    beginTail pb (some ⟨fb, 0, none⟩) (some ⟨defb, 0, none⟩) mb ((sup.2.drop 3).map (Value.int .u32)) K w3 := by
  have hr24 : (sup.2.drop 3).length = 24 := by rw [List.length_drop, hs]
  unfold beginTail
  refine runQ_of (ts := [Ty1.raw]) (workV (some ⟨fb, 0, none⟩) (some ⟨defb, 0, none⟩) (some mb) (sup.2.drop 3)) (build_work hr24 w3) ?_
  refine nn_some ?_
  refine chk_of (workV_len hr24) ?_
  have hone : (workV (some ⟨fb, 0, none⟩) (some ⟨defb, 0, none⟩) (some mb) (sup.2.drop 3)).all Value.oneCell' = true := by
    rw [List.all_eq_true]
    intro v hv
    simp only [workV, List.mem_append, List.mem_cons, List.mem_map, List.not_mem_nil, or_false] at hv
    rcases hv with (rfl | rfl | rfl) | ⟨x, _, rfl⟩ <;> rfl
  refine Own.st' ho 0 rfl (pgCells db sup sl sn turn over fb defb mb (sup.2.drop 3)) (by rw [← pgRaw_cells]; exact raw_work hs (by rw [hw, workV_len hr24])) hone (by rw [raw_size hs, workV_len hr24, hw]; exact Nat.le_of_ble_eq_true rfl) fun w4 ho4 f4 => ?_
  have hpF1 : ∀ b ∈ F1, b ≠ pb := fun b hb e => by have := n1 b hb; omega
  have hpF2 : ∀ b ∈ F2, b ≠ pb := fun b hb e => by have := n2 b hb; omega
  have hS : ∀ b ∈ pb :: mb :: (F1 ++ F2), b ∈ [pb] ∨ w.heap.size ≤ b := fun b hb => by
    simp only [List.mem_cons, List.mem_append] at hb
    rcases hb with rfl | rfl | hb | hb
    · exact .inl (by simp)
    · exact .inr n3
    · exact .inr (n1 b hb)
    · exact .inr (n2 b hb)
  have hx : PgX w4 X pb db (begunM sup lists named turn over []) fb defb mb sl sn F1 F2 [] := {
    cell := ho4.at (i := 0) rfl
    free := h1.frame f4 fun b hb => by simpa using hpF1 b hb
    deferred := h2.frame f4 fun b hb => by simpa using hpF2 b hb
    map := h3.frame f4 (by simp; omega)
    fresh := rfl
    rows := by
      have hf : Fr (X ++ [pb]) w w4 := ho4.fr.mono fun b hb _ => List.mem_append_right _ hb
      exact ⟨hlists.frame hf (newX hS), hnamed.frame hf (newX hS), fun e he => by cases he⟩
    xlt := fun b hb => Nat.lt_of_lt_of_le (hX b hb).1 ho4.fr.size
    xsep := sepX (fun b hb => (hX b hb).1) (fun b hb => by simpa using (hX b hb).2) hS
    sep := ⟨by omega, fun b hb => ⟨hpF1 b hb, fun e => sp1 (e ▸ hb), sp3 b hb⟩, fun b hb => ⟨hpF2 b hb, fun e => sp2 (e ▸ hb)⟩⟩
    suplen := hs
    rootlen := hr24 }
  refine nn_some (ld_blk (c := .slice) hx.cell sn (pg_named hs) ?_)
  have hnl := hnamed.1
  refine loop_ind (fun x w' => ∃ (i : Nat) (F1' : List Nat), x = i ∧ i ≤ named.length ∧ PgX w' X pb db (begunM sup lists named turn over (insAll (named.take i))) fb defb mb sl sn F1' F2 [] ∧ Fr [pb] w w' ∧ ∀ b ∈ F1', w.heap.size ≤ b) (fun x _ => ((named.length : Int) - x).toNat)
    ⟨0, F1, rfl, by omega, hx, ho4.fr, n1⟩ ?_
  rintro x w5 ⟨i, F1', rfl, hi, hx5, f5, n5⟩ Z hZ
  refine cond_of (fun hc => ?_) (fun hc => ?_)
  · have hil : i < named.length := by have := of_decide_eq_true hc; omega
    refine Rd.at hx5.rows.named i rfl (List.getElem?_eq_getElem hil) ?_
    refine nn_some (ld_blk (c := .ptr) hx5.cell (some ⟨fb, 0, none⟩) (pg_free hs) ?_)
    have hl5 := insAll_len (named.take i)
    rw [List.length_take] at hl5
    refine Put_ok hx5.free (by show (insAll (named.take i)).length ≤ _; omega) fun F1'' w6 hp6 f6 n6 => ?_
    have hx6 := hx5.setFree f6 hp6 n6
    rw [wi' _ (by omega)]
    refine hZ _ _ ⟨i + 1, F1'', by simp, by omega, ?_, f5.trans' f6 (fun b hb => .inr (n5 b hb)), fun b hb => ?_⟩ (by omega)
    · rw [insAll_take hil]; exact hx6
    · rcases n6 b hb with h | h
      · exact n5 b h
      · exact Nat.le_trans f5.size h
  · have : i = named.length := by have := of_decide_eq_false hc; omega
    subst this
    rw [List.take_length] at hx5
    refine hk _ w5 ⟨fb, defb, mb, sl, sn, F1', F2, [], rfl, hx5⟩ f5 fun b hb => ?_
    simp only [List.mem_cons, List.mem_append] at hb
    rcases hb with rfl | rfl | hb | hb
    · exact .inl rfl
    · exact .inr n3
    · exact .inr (n5 b hb)
    · exact .inr (n2 b hb)

theorem PBegin_ok {w : World} {X : List Nat} {pb : Nat} {db : Option Addr} {sup : Sup} {sl sn : Sl} {turn : Int} {over : Bool} {wk : List Value} {lists named : List Int} {K : Unit → World → Prop}
    (hc : w.heap[pb]? = some (.cells (pgRaw db sup sl sn turn over wk) PGT (0, 0))) (hs : sup.2.length = 27) (hw : wk.length = 27) (ht : 0 ≤ turn ∧ turn ≤ 1000000000) (hX : ∀ b ∈ X, b < w.heap.size ∧ b ≠ pb) (hlists : Rd (X ++ [pb]) w sl lists) (hnamed : Rd (X ++ [pb]) w sn named) (hn : named.length ≤ 100000)
    (hk : ∀ F' w', PagerAt w' X pb db F' (begunM sup lists named (turn + 1) over (insAll named)) → Fr [pb] w w' → (∀ b ∈ F', b = pb ∨ w.heap.size ≤ b) → K () w') :
    call Tryz.prog 58 [.pointer (some ⟨pb, 0, none⟩)] [] w K := by
  have hpb := lt_of_blk hc
  have ho : Own [pb] w w [(pb, .cells (pgRaw db sup sl sn turn over wk) PGT (0, 0))] := ⟨by simpa using hc, by simp, .refl _ _, by simp⟩
  refine pager_Pager_begin_of (p := some ⟨pb, 0, none⟩) ?_
  unfold pager_Pager_beginF
  refine nn_some (Own.ld (c := .int .i64) ho 0 rfl turn (raw_at hs 2 (by decide)) ?_)
  rw [wi' _ (by omega)]
  refine nn_some (Own.st' ho 0 rfl (pgRaw db sup sl sn (turn + 1) over wk) (raw_turn hs) rfl (by rw [raw_size hs, hw]; exact Nat.le_of_ble_eq_true rfl) fun w1 ho f1 => ?_)
  have hrl : ((sup.2.drop 3).map (Value.int .u32)).length = 24 := by rw [List.length_map, List.length_drop, hs]
  have hcA : ∀ {w' : World}, w'.heap[pb]? = some (.cells (pgRaw db sup sl sn (turn + 1) over wk) PGT (0, 0)) → cellsAt w' ⟨pb, 5, none⟩ 0 ((sup.2.drop 3).map (Value.int .u32)) := fun h => cellsAt_blk h _ 5 0 (by rw [hrl]; exact raw_roots hs)
  have tail := fun {w3 : World} {fb defb mb : Nat} {F1 F2 : List Nat} => begin_tail (w := w) (w3 := w3) (X := X) (pb := pb) (fb := fb) (defb := defb) (mb := mb) (F1 := F1) (F2 := F2) hs hw hX hlists hnamed hn (K := K) (turn := turn + 1) (over := over) (wk := wk) (db := db)
  have hs1 := f1.size
  have ho' := ho.drew
  generalize w1.drew = wd at ho'
  have hld : ∀ {K' : List Value → Prop}, K' ((sup.2.drop 3).map (Value.int .u32)) → ldV 24 ⟨pb, 5, none⟩ wd K' := fun k => ldV_blk (ho'.at (i := 0) rfl) _ hrl (raw_roots hs) k
  have hsd : w.heap.size ≤ wd.heap.size := ho'.fr.size
  have fin : ∀ {w3 : World} {fb defb mb : Nat} {F1 F2 : List Nat}, Fr [] wd w3 → PoolAt w3 fb F1 [] → PoolAt w3 defb F2 [] → MapS u32V w3 mb [] → (∀ b ∈ F1, wd.heap.size ≤ b) → (∀ b ∈ F2, wd.heap.size ≤ b) → wd.heap.size ≤ mb → mb ∉ F1 → mb ∉ F2 → (∀ b ∈ F1, b ∉ F2) →
      beginTail pb (some ⟨fb, 0, none⟩) (some ⟨defb, 0, none⟩) mb ((sup.2.drop 3).map (Value.int .u32)) K w3 := fun f p1 p2 p3 n1 n2 n3 s1 s2 s3 =>
    tail (ho'.frame0 f) p1 p2 p3 (fun b hb => Nat.le_trans hsd (n1 b hb)) (fun b hb => Nat.le_trans hsd (n2 b hb)) (Nat.le_trans hsd n3) hpb s1 s2 s3 hk
  refine ⟨?_, ?_, ?_⟩
  · refine nn_some ?_
    simp only [Addr.add_mk]
    refine hld ?_
    refine New_ok fun fb F1 w2 p1 f2 n1 => ?_
    refine held_one (hcA ((ho'.frame0 f2).at (i := 0) rfl)) ?_
    refine New_ok fun defb F2 w3 p2 f3 n2 => ?_
    refine held_one (hcA ((ho'.frame0 (f2.trans f3)).at (i := 0) rfl)) ?_
    refine Own.new' (ho'.frame0 (f2.trans f3)) fun mb w4 e4 f4 ho4 => ?_
    refine held_one (hcA (ho4.at (i := 1) rfl)) ?_
    refine fin ((f2.trans f3).trans f4) (p1.frame (f3.trans f4) (by simp)) (p2.frame f4 (by simp)) (.empty (ho4.at (i := 0) rfl)) n1 (fun b hb => Nat.le_trans f2.size (n2 b hb)) (by rw [e4]; exact (f2.trans f3).size) (fun hm => ?_) (fun hm => ?_) (fun b hb hb2 => ?_)
    · have := (p1.frame f3 (by simp)).lt mb hm; omega
    · have := p2.lt mb hm; omega
    · have := p1.lt b hb; have := n2 b hb2; omega
  · refine nn_some ?_
    simp only [Addr.add_mk]
    refine hld ?_
    refine New_ok fun fb F1 w2 p1 f2 n1 => ?_
    refine held_one (hcA ((ho'.frame0 f2).at (i := 0) rfl)) ?_
    refine Own.new' (ho'.frame0 f2) fun mb w3 e3 f3 ho3 => ?_
    refine held_one (hcA (ho3.at (i := 1) rfl)) ?_
    refine New_ok fun defb F2 w4 p2 f4 n2 => ?_
    have ho4 := ho3.frame0 f4
    refine held_one (hcA (ho4.at (i := 1) rfl)) ?_
    have hmb := lt_of_blk (ho3.at (i := 0) rfl)
    refine fin ((f2.trans f3).trans f4) (p1.frame (f3.trans f4) (by simp)) p2 (.empty (ho4.at (i := 0) rfl)) n1 (fun b hb => Nat.le_trans (f2.trans f3).size (n2 b hb)) (by rw [e3]; exact f2.size) (fun hm => ?_) (fun hm => ?_) (fun b hb hb2 => ?_)
    · have := p1.lt mb hm; omega
    · have := n2 mb hm; omega
    · have := (p1.frame f3 (by simp)).lt b hb; have := n2 b hb2; omega
  · refine nn_some ?_
    simp only [Addr.add_mk]
    refine hld ?_
    refine Own.new' ho' fun mb w2 e2 f2 ho2 => ?_
    refine held_one (hcA (ho2.at (i := 1) rfl)) ?_
    have hmb := lt_of_blk (ho2.at (i := 0) rfl)
    refine New_ok fun fb F1 w3 p1 f3 n1 => ?_
    have ho3 := ho2.frame0 f3
    refine held_one (hcA (ho3.at (i := 1) rfl)) ?_
    refine New_ok fun defb F2 w4 p2 f4 n2 => ?_
    have ho4 := ho3.frame0 f4
    refine held_one (hcA (ho4.at (i := 1) rfl)) ?_
    refine fin ((f2.trans f3).trans f4) (p1.frame f4 (by simp)) p2 (.empty (ho4.at (i := 0) rfl)) (fun b hb => Nat.le_trans f2.size (n1 b hb)) (fun b hb => Nat.le_trans (f2.trans f3).size (n2 b hb)) (by rw [e2]; exact Nat.le_refl _) (fun hm => ?_) (fun hm => ?_) (fun b hb hb2 => ?_)
    · have := n1 mb hm; omega
    · have := n2 mb hm; have := f3.size; omega
    · have := p1.lt b hb; have := n2 b hb2; omega

end Go.Proofs.YtmbcedengdoamaaGreatDoor
end

section
/- A list's page, written and read; a super, written and read. Plain Lean. Conditions: those that stand in each line. -/
set_option linter.unusedVariables false
set_option linter.unusedSimpArgs false
namespace Go.Proofs.YtmbcedengdoamaaGreatDoor
open Go Go.Pt
attribute [local irreducible] ld ldA ldV fld fldA newZ st new idx idxS idxA slc slcS slcP mkS chk nn call callV inv run runQ runU join loop held ext rng undefer s2a nxt ent IntKind.wrap

abbrev U32 (n : Int) : Prop := 0 ≤ n ∧ n < 4294967296
theorem first4_be {n : Int} (h : U32 n) (r : List Int) : first4 (be n 4 ++ r) = n := by
  rw [be4 h.1]
  exact be4_get4 h
theorem flat_drop : ∀ (c : List Int) (i : Nat), (c.flatMap (be · 4)).drop (4 * i) = (c.drop i).flatMap (be · 4)
  | [], i => by simp
  | a :: c, 0 => by simp
  | a :: c, i + 1 => by
    rw [List.flatMap_cons, List.drop_succ_cons, ← flat_drop c i, List.drop_append, be_len, List.drop_eq_nil_of_le (by rw [be_len]; omega), List.nil_append]
    congr 1
theorem flat_len (c : List Int) : (c.flatMap (be · 4)).length = 4 * c.length := by
  induction c with
  | nil => rfl
  | cons a c ih => rw [List.flatMap_cons, List.length_append, be_len, ih, List.length_cons]; omega
theorem first4_flat {c : List Int} {i : Nat} (h : i < c.length) (hr : ∀ x ∈ c, U32 x) : first4 ((c.flatMap (be · 4)).drop (4 * i)) = c[i] := by
  rw [flat_drop, List.drop_eq_getElem_cons h, List.flatMap_cons]
  exact first4_be (hr _ (List.getElem_mem h)) _
theorem bodyV_len (next : Int) (c : List Int) : (bodyV next c).length = 6 + 4 * c.length := by
  rw [bodyV, List.length_append, List.length_append, be_len, flat_len]
  rfl
theorem flat_IsB (c : List Int) : IsB (c.flatMap (be · 4)) := by
  induction c with
  | nil => exact fun x h => by cases h
  | cons a c ih => rw [List.flatMap_cons]; exact (be_IsB _ _).append ih
theorem wu8_IsB (x : Int) : 0 ≤ IntKind.wrap .u8 x ∧ IntKind.wrap .u8 x < 256 := by rw [wu8]; omega
theorem bodyV_IsB (next : Int) (c : List Int) : IsB (bodyV next c) := by
  refine ((be_IsB _ _).append fun x hx => ?_).append (flat_IsB c)
  simp only [List.mem_cons, List.not_mem_nil, or_false] at hx
  rcases hx with rfl | rfl <;> exact wu8_IsB _
theorem parseV_bodyV {next : Int} {c : List Int} (hn : U32 next) (h1 : next ≠ 1) (hc : ∀ x ∈ c, U32 x) (hr : risesB 1 c = true) (hl : c.length ≤ 123) : parseV (bodyV next c) = (next, c, 0) := by
  have hlen := bodyV_len next c
  have e : bodyV next c = be next 4 ++ ([IntKind.wrap .u8 (Int.fdiv c.length (2 ^ 8)), IntKind.wrap .u8 c.length] ++ c.flatMap (be · 4)) := by rw [bodyV, List.append_assoc]
  have hf : first4 (bodyV next c) = next := by rw [e]; exact first4_be hn _
  have hcnt : cntV (bodyV next c) = c.length := by
    have h4 : (bodyV next c).getD 4 0 = IntKind.wrap .u8 (Int.fdiv c.length (2 ^ 8)) := by rw [e, be4 hn.1]; rfl
    have h5 : (bodyV next c).getD 5 0 = IntKind.wrap .u8 c.length := by rw [e, be4 hn.1]; rfl
    have hd : Int.fdiv (c.length : Int) (2 ^ 8) = 0 := by rw [Int.fdiv_eq_ediv_of_nonneg _ (by decide)]; omega
    rw [cntV, h4, h5, wu8, wu8, hd]
    omega
  have hnums : numsV (bodyV next c) c.length = c := by
    apply List.ext_getElem
    · simp [numsV]
    intro i h1 h2
    have : (bodyV next c).drop (6 + 4 * i) = (c.flatMap (be · 4)).drop (4 * i) := by
      have h6 : (bodyV next c).drop 6 = c.flatMap (be · 4) := by rw [e, be4 hn.1]; rfl
      rw [← h6, List.drop_drop]
    simp only [numsV, List.getElem_map, List.getElem_range, this]
    exact first4_flat h2 hc
  rw [parseV, if_neg (by omega), if_neg (by rw [hf, hcnt]; omega), hcnt, Int.toNat_natCast, hnums, if_pos hr, hf]

theorem wu64 (x : Int) (h : 0 ≤ x ∧ x < 18446744073709551616) : IntKind.wrap .u64 x = x := by
  unfold IntKind.wrap
  have : (IntKind.u64.signed) = false := rfl
  simp only [this, Bool.false_and, Bool.false_eq_true, if_false]
  exact Int.emod_eq_of_lt h.1 h.2
theorem or_addU64 {A B : Int} (k : Nat) (hA : 0 ≤ A) (hm : A % 2 ^ k = 0) (hB : 0 ≤ B) (hBk : B < 2 ^ k) (hs : A + B < 18446744073709551616) : bits .or .u64 A B = A + B := by
  obtain ⟨a, rfl⟩ : ∃ a : Nat, A = a := ⟨A.toNat, by omega⟩
  obtain ⟨b, rfl⟩ : ∃ b : Nat, B = b := ⟨B.toNat, by omega⟩
  have hm' : a % 2 ^ k = 0 := by
    have : ((a : Int) % ((2 ^ k : Nat) : Int)) = 0 := by rw [Int.natCast_pow]; exact hm
    omega
  have hb' : b < 2 ^ k := by
    have : (b : Int) < ((2 ^ k : Nat) : Int) := by rw [Int.natCast_pow]; exact hBk
    omega
  obtain ⟨q, rfl⟩ : ∃ q, a = 2 ^ k * q := ⟨a / 2 ^ k, by have := Nat.div_add_mod a (2 ^ k); omega⟩
  show IntKind.wrap .u64 ((BitVec.ofInt 64 ((2 ^ k * q : Nat) : Int) ||| BitVec.ofInt 64 (b : Int)).toNat : Nat) = _
  rw [BitVec.toNat_or, BitVec.ofInt_natCast, BitVec.ofInt_natCast, BitVec.toNat_ofNat, BitVec.toNat_ofNat, Nat.mod_eq_of_lt (show 2 ^ k * q < 2 ^ 64 by omega), Nat.mod_eq_of_lt (show b < 2 ^ 64 by omega), ← Nat.two_pow_add_eq_or_of_lt hb']
  rw [wu64 _ (by omega)]
  omega

abbrev U64 (n : Int) : Prop := 0 ≤ n ∧ n < 18446744073709551616
theorem superB_split {q : Int} {t : List Int} : superB q t = be (IntKind.wrap .u32 (Int.fdiv q (2 ^ 32))) 4 ++ (be (IntKind.wrap .u32 q) 4 ++ t.flatMap (be · 4)) := by rw [superB, List.append_assoc]
theorem parseQ_superB {q : Int} {t : List Int} (hq : U64 q) : parseQ (superB q t) = q := by
  have hd : Int.fdiv q (2 ^ 32) = q / 4294967296 := by rw [Int.fdiv_eq_ediv_of_nonneg _ (by decide)]; rfl
  have h0 : first4 (superB q t) = q / 4294967296 := by
    rw [superB_split, hd, wu32 _ (by omega)]
    exact first4_be (by constructor <;> omega) _
  have h4 : (superB q t).drop 4 = be (IntKind.wrap .u32 q) 4 ++ t.flatMap (be · 4) := by
    rw [superB_split, List.drop_append, be_len, List.drop_eq_nil_of_le (by rw [be_len]; exact Nat.le_refl _)]; rfl
  have hw : IntKind.wrap .u32 q = q % 4294967296 := by
    unfold IntKind.wrap
    have : (IntKind.u32.signed) = false := rfl
    simp only [this, Bool.false_and, Bool.false_eq_true, if_false]
    rfl
  have h1 : first4 ((superB q t).drop 4) = q % 4294967296 := by
    rw [h4, hw]
    exact first4_be (by constructor <;> omega) _
  rw [parseQ, h0, h1, wu64 (q / 4294967296) (by omega), wu64 (q % 4294967296) (by omega), wu64 (q / 4294967296 * 2 ^ 32) (by omega)]
  rw [or_addU64 32 (by omega) (by omega) (by omega) (by omega) (by omega)]
  omega
theorem superB_IsB (q : Int) (t : List Int) : IsB (superB q t) := by
  rw [superB_split]
  exact (be_IsB _ _).append ((be_IsB _ _).append (flat_IsB t))
theorem parseT_superB {q : Int} {t : List Int} (ht : t.length = 27) (hr : ∀ x ∈ t, U32 x) : parseT (superB q t) = t := by
  apply List.ext_getElem
  · rw [parseT_len, ht]
  intro i h1 h2
  have h8 : (superB q t).drop 8 = t.flatMap (be · 4) := by
    rw [superB_split, ← List.append_assoc, List.drop_append, List.length_append, be_len, be_len, List.drop_eq_nil_of_le (by rw [List.length_append, be_len, be_len]; exact Nat.le_refl _)]; rfl
  have : (superB q t).drop (8 + 4 * i) = (t.flatMap (be · 4)).drop (4 * i) := by rw [← h8, List.drop_drop]
  simp only [parseT, List.getElem_map, List.getElem_range, this]
  exact first4_flat h2 hr
/-- A super, read where it was written. -/
theorem readSV_seal {q place : Int} {t : List Int} (hq : U64 q) (ht : t.length = 27) (hr : ∀ x ∈ t, U32 x) (hp : Int.tmod q 2 = place) : readSV place (sealV place 1 (superB q t)) = ((q, t), 0) := by
  have hpl : U32 place := by rw [← hp, Int.tmod_eq_emod_of_nonneg hq.1]; constructor <;> omega
  have ho := openV_sealV (kind := 1) (body := superB q t) hpl (by rw [superB_len ht]; decide)
  rw [readSV, ho, if_neg (by simp), if_neg (by simp [superB_len ht]), if_neg (by rw [parseQ_superB hq, hp]; simp), parseQ_superB hq, parseT_superB ht hr]

end Go.Proofs.YtmbcedengdoamaaGreatDoor
end

section
/- What a disk reads like behind writes and a sync; a list and a super, written and opened again. Plain Lean. Conditions: those that stand in each line. -/
set_option linter.unusedVariables false
set_option linter.unusedSimpArgs false
namespace Go.Proofs.YtmbcedengdoamaaGreatDoor
open Go Go.Pt
attribute [local irreducible] ld ldA ldV fld fldA newZ st new idx idxS idxA slc slcS slcP mkS chk nn call callV inv run runQ runU join loop held ext rng undefer s2a nxt ent IntKind.wrap

/-- What is read at a place. -/
def view (D : DiskM) (n : Int) : List Int := match lastW n D.waits with | some b => b.1 | none => (D.safe.getD n.toNat .zero).1
def DiskM.size (D : DiskM) : Int := D.safe.length
theorem readV_view {D : DiskM} {n : Int} (hd : D.down = false) (hn : 0 ≤ n ∧ n < D.size) : readV D n = (view D n, 0) := by
  have h2 : n < (D.safe.length : Int) := hn.2
  rw [readV, if_neg (by rw [hd]; decide), if_neg (by omega), view]
  cases lastW n D.waits <;> rfl
theorem lastW_append (n : Int) : ∀ (l : List (Int × Blk)) (x : Int × Blk), lastW n (l ++ [x]) = if x.1 = n then some x.2 else lastW n l
  | [], x => rfl
  | y :: l, x => by
    simp only [List.cons_append, lastW]
    rw [lastW_append n l x]
    by_cases h : x.1 = n
    · simp [h]
    · simp [h]
theorem lay_getD (n : Nat) : ∀ (l : List (Int × Blk)) (s : List Blk), (∀ x ∈ l, 0 ≤ x.1 ∧ x.1 < s.length) → (l.foldl laySafe s).getD n .zero = match lastW n l with | some b => b | none => s.getD n .zero
  | [], s, _ => rfl
  | x :: l, s, h => by
    have hx := h x (by simp)
    rw [List.foldl_cons, lay_getD n l (laySafe s x) (fun y hy => by rw [laySafe, List.length_set]; exact h y (List.mem_cons_of_mem _ hy)), lastW]
    cases lastW (n : Int) l with
    | some b => rfl
    | none =>
      dsimp only
      by_cases he : x.1 = n
      · rw [if_pos he, laySafe, List.getD_eq_getElem?_getD]
        have : x.1.toNat = n := by omega
        rw [this, List.getElem?_set_self (by omega)]
        rfl
      · rw [if_neg he, laySafe, List.getD_eq_getElem?_getD, List.getElem?_set_ne (by omega), List.getD_eq_getElem?_getD]

/-- A disk that is not down, and has no fuse. -/
structure Quiet (D : DiskM) : Prop where
  down : D.down = false
  fuse : D.fuse = -1
  at_ : ∀ x ∈ D.waits, 0 ≤ x.1 ∧ x.1 < D.safe.length
theorem Quiet.act {D : DiskM} (h : Quiet D) : actM D = (D, false) := by rw [actM, if_neg (by rw [h.fuse]; decide), if_neg (by rw [h.fuse]; decide)]
theorem Quiet.write {D : DiskM} (h : Quiet D) {n : Int} {l : List Int} (hn : 0 ≤ n ∧ n < D.size) (hl : l.length = 512) :
    ∃ D', writeM D n l = (D', 0) ∧ Quiet D' ∧ D'.size = D.size ∧ ∀ m, view D' m = if m = n then l else view D m := by
  have h2 : n < (D.safe.length : Int) := hn.2
  have hq : Quiet (addW D n ⟨l, hl⟩) := ⟨h.down, h.fuse, fun x hx => by
    rcases List.mem_append.1 hx with hx | hx
    · exact h.at_ x hx
    · simp at hx; subst hx; exact ⟨hn.1, h2⟩⟩
  refine ⟨addW D n ⟨l, hl⟩, ?_, hq, rfl, fun m => ?_⟩
  · rw [writeM, if_neg (by rw [h.down]; decide), if_neg (by omega), dif_pos hl, hq.act]
    rfl
  · rw [view, addW]
    dsimp only
    rw [lastW_append]
    by_cases hm : m = n
    · rw [if_pos hm, if_pos hm.symm]
    · rw [if_neg hm, if_neg (fun e => hm e.symm), view]
theorem Quiet.sync {D : DiskM} (h : Quiet D) : ∃ D', syncM D = (D', 0) ∧ Quiet D' ∧ D'.size = D.size ∧ D'.waits = [] ∧ ∀ m, 0 ≤ m → view D' m = view D m := by
  refine ⟨{ D with safe := D.waits.foldl laySafe D.safe, waits := [] }, ?_, ⟨h.down, h.fuse, fun x hx => by cases hx⟩, ?_, rfl, fun m hm => ?_⟩
  · rw [syncM, if_neg (by rw [h.down]; decide), h.act]
    rfl
  · show ((D.waits.foldl laySafe D.safe).length : Int) = _
    rw [laySafe_len]; rfl
  · obtain ⟨k, rfl⟩ : ∃ k : Nat, m = k := ⟨m.toNat, by omega⟩
    show ((D.waits.foldl laySafe D.safe).getD (k : Int).toNat .zero).1 = _
    rw [Int.toNat_natCast, lay_getD k _ _ h.at_, view, Int.toNat_natCast]
    cases lastW (k : Int) D.waits <;> rfl
theorem Quiet.writes : ∀ {l : List (Int × List Int)} {D : DiskM}, Quiet D → (∀ x ∈ l, (0 ≤ x.1 ∧ x.1 < D.size) ∧ x.2.length = 512) → (l.map (·.1)).Nodup →
    ∃ D', writesM l D = (D', 0) ∧ Quiet D' ∧ D'.size = D.size ∧ (∀ x ∈ l, view D' x.1 = x.2) ∧ ∀ m, m ∉ l.map (·.1) → view D' m = view D m
  | [], D, h, _, _ => ⟨D, rfl, h, rfl, (fun x hx => by cases hx), fun m _ => rfl⟩
  | y :: l, D, h, hl, hn => by
    obtain ⟨hy, hy2⟩ := hl y (by simp)
    obtain ⟨D1, e1, q1, s1, v1⟩ := h.write hy hy2
    rw [List.map_cons, List.nodup_cons] at hn
    obtain ⟨D2, e2, q2, s2, v2, u2⟩ := Quiet.writes (l := l) q1 (fun x hx => by rw [s1]; exact hl x (List.mem_cons_of_mem _ hx)) hn.2
    refine ⟨D2, ?_, q2, s2.trans s1, fun x hx => ?_, fun m hm => ?_⟩
    · rw [writesM, e1]; exact e2
    · rcases List.mem_cons.1 hx with rfl | hx
      · rw [u2 _ hn.1, v1, if_pos rfl]
      · exact v2 x hx
    · rw [List.map_cons, List.mem_cons, not_or] at hm
      rw [u2 m hm.2, v1, if_neg hm.1]

/-! ### A list -/
def chunk (numbers : List Int) (i : Nat) : List Int := (numbers.drop (123 * i)).take 123
/-- The list's pages lie as they are to. -/
def Listed (D : DiskM) (numbers pages : List Int) : Prop := ∀ (i : Nat) p, pages[i]? = some p → view D p = sealV p 2 (bodyV (pages.getD (i + 1) 0) (chunk numbers i))
theorem bodiesL_at (numbers pages : List Int) (k i : Nat) : (bodiesL numbers pages k)[i]? = if i < k then some (bodyV (pages.getD (i + 1) 0) (chunk numbers i)) else none := by
  rw [bodiesL, List.getElem?_map]
  by_cases h : i < k
  · rw [if_pos h, List.getElem?_range h]; rfl
  · rw [if_neg h, List.getElem?_eq_none (by simpa using h)]; rfl
theorem bodiesL_len (numbers pages : List Int) (k : Nat) : (bodiesL numbers pages k).length = k := by simp [bodiesL]
theorem chunk_len (numbers : List Int) (i : Nat) : (chunk numbers i).length ≤ 123 := by rw [chunk, List.length_take]; omega

structure ListOk (n : Int) (numbers pages : List Int) : Prop where
  rises : numbers.Pairwise (· < ·)
  nums : ∀ x ∈ numbers, 2 ≤ x ∧ x < n
  pgs : ∀ x ∈ pages, 2 ≤ x ∧ x < n
  nodup : pages.Nodup
  apart : ∀ x ∈ pages, x ∉ numbers
  room : numbers.length ≤ 123 * pages.length

theorem risesB_iff : ∀ (l : List Int) (a : Int), risesB a l = true ↔ (∀ x ∈ l, a < x) ∧ l.Pairwise (· < ·)
  | [], a => by simp [risesB]
  | x :: l, a => by
    rw [risesB, Bool.and_eq_true, decide_eq_true_iff, risesB_iff l x, List.pairwise_cons]
    constructor
    · rintro ⟨h1, h2, h3⟩
      refine ⟨fun y hy => ?_, h2, h3⟩
      rcases List.mem_cons.1 hy with rfl | hy
      · exact h1
      · exact Int.lt_trans h1 (h2 y hy)
    · rintro ⟨h1, h2, h3⟩
      exact ⟨h1 x (by simp), h2, h3⟩
theorem ListOk.bodies {n : Int} {numbers pages : List Int} (h : ListOk n numbers pages) : bodiesV numbers pages = (bodiesL numbers pages pages.length, 0) := by
  have hr : risesB 1 numbers = true := (risesB_iff _ _).2 ⟨fun x hx => by have := h.nums x hx; omega, h.rises⟩
  rw [bodiesV, if_neg (by rw [hr]; have := h.room; simp; omega), if_neg]
  rintro ⟨p, hp, h2⟩
  have := h.pgs p hp
  omega
theorem mem_zip_idx {α β : Type} {x : α × β} : ∀ {l : List α} {r : List β}, x ∈ l.zip r → ∃ i : Nat, l[i]? = some x.1 ∧ r[i]? = some x.2
  | [], _, h => by simp at h
  | _ :: _, [], h => by simp at h
  | a :: l, b :: r, h => by
    rw [List.zip_cons_cons, List.mem_cons] at h
    rcases h with rfl | h
    · exact ⟨0, rfl, rfl⟩
    · obtain ⟨i, h1, h2⟩ := mem_zip_idx h
      exact ⟨i + 1, by simpa using h1, by simpa using h2⟩
theorem zip_fst {α β : Type} : ∀ {l : List α} {r : List β}, l.length = r.length → (l.zip r).map (·.1) = l
  | [], [], _ => rfl
  | a :: l, b :: r, h => by rw [List.zip_cons_cons, List.map_cons, zip_fst (by simpa using h)]

theorem Quiet.spread {D : DiskM} {numbers pages : List Int} (h : Quiet D) (hk : ListOk D.size numbers pages) :
    ∃ D', spreadM D numbers pages = (D', 0) ∧ Quiet D' ∧ D'.size = D.size ∧ D'.waits = [] ∧ Listed D' numbers pages ∧ ∀ m, 0 ≤ m → m ∉ pages → view D' m = view D m := by
  have hz : ((pages.zip (bodiesL numbers pages pages.length)).map fun x => (x.1, sealV x.1 2 x.2)).map (·.1) = pages := by
    rw [List.map_map]
    exact zip_fst (by rw [bodiesL_len])
  obtain ⟨D1, e1, q1, s1, v1, u1⟩ := h.writes (l := (pages.zip (bodiesL numbers pages pages.length)).map fun x => (x.1, sealV x.1 2 x.2)) (fun x hx => by
    obtain ⟨y, hy, rfl⟩ := List.mem_map.1 hx
    obtain ⟨i, h1, h2⟩ := mem_zip_idx hy
    rw [bodiesL_at] at h2
    have hp := hk.pgs _ (List.mem_of_getElem? h1)
    refine ⟨⟨by show 0 ≤ y.1; omega, hp.2⟩, sealV_len ?_⟩
    by_cases hi : i < pages.length
    · rw [if_pos hi] at h2
      have h2 := Option.some.inj h2
      rw [← h2, bodyV_len]
      have := chunk_len numbers i
      omega
    · rw [if_neg hi] at h2; cases h2) (by rw [hz]; exact hk.nodup)
  rw [hz] at u1
  obtain ⟨D2, e2, q2, s2, w2, v2⟩ := q1.sync
  refine ⟨D2, ?_, q2, s2.trans s1, w2, fun i p hp => ?_, fun m hm hm2 => by rw [v2 m hm, u1 m hm2]⟩
  · rw [spreadM, hk.bodies, if_neg (by simp)]
    show andThen _ _ = _
    rw [e1]
    exact e2
  · have hi := (List.getElem?_eq_some_iff.1 hp).1
    have hmem : (p, sealV p 2 (bodyV (pages.getD (i + 1) 0) (chunk numbers i))) ∈ (pages.zip (bodiesL numbers pages pages.length)).map fun x => (x.1, sealV x.1 2 x.2) := by
      refine List.mem_map.2 ⟨(p, bodyV (pages.getD (i + 1) 0) (chunk numbers i)), ?_, rfl⟩
      refine List.mem_of_getElem? (i := i) ?_
      rw [List.getElem?_zip_eq_some]
      exact ⟨hp, by rw [bodiesL_at, if_pos hi]⟩
    have hp2 := hk.pgs _ (List.mem_of_getElem? hp)
    rw [v2 p (by omega)]
    exact v1 _ hmem

/-! ### Opened again -/
theorem flat_chunks (numbers : List Int) : ∀ k, (List.range k).flatMap (chunk numbers) = numbers.take (123 * k)
  | 0 => by simp
  | k + 1 => by
    rw [List.range_succ, List.flatMap_append, flat_chunks numbers k, List.flatMap_singleton, chunk, Nat.mul_succ, ← List.take_append_drop (123 * k) (numbers.take (123 * k + 123))]
    congr 1
    · rw [List.take_take, Nat.min_eq_left (by omega)]
    · rw [List.drop_take, Nat.add_sub_cancel_left]

theorem walk_ok {D : DiskM} {numbers pages : List Int} {n : Int} (hd : D.down = false) (hs : D.size = n) (hn : n ≤ 4096) (hk : ListOk n numbers pages) (hl : Listed D numbers pages) :
    ∀ (k i f : Nat), i + k = pages.length → k < f → walkM D n f (pages.getD i 0) (pages.take i) ((List.range i).flatMap (chunk numbers)) = some (pages, numbers)
  | 0, i, f + 1, hi, hf => by
    have : pages.getD i 0 = 0 := by rw [List.getD_eq_getElem?_getD, List.getElem?_eq_none (by omega)]; rfl
    have hr := hk.room
    have hi' : i = pages.length := by omega
    subst hi'
    rw [this, walkM, if_pos rfl, flat_chunks, List.take_length, List.take_of_length_le hr]
  | k + 1, i, f + 1, hi, hf => by
    have hil : i < pages.length := by omega
    have hp : pages.getD i 0 = pages[i] := by rw [List.getD_eq_getElem?_getD, List.getElem?_eq_getElem hil]; rfl
    have hr := hk.pgs _ (List.getElem_mem hil)
    have hnot : pages[i] ∉ pages.take i := fun hm => by
      obtain ⟨j, hj, he⟩ := List.getElem_of_mem hm
      rw [List.getElem_take] at he
      rw [List.length_take] at hj
      have := List.pairwise_iff_getElem.1 hk.nodup j i (by omega) hil (by omega)
      exact this he
    have hv := hl i _ (List.getElem?_eq_getElem hil)
    have hread := readV_view hd (n := pages[i]) (by rw [hs]; omega)
    rw [hv] at hread
    have hcl := chunk_len numbers i
    have hopen := openV_sealV (number := pages[i]) (kind := 2) (body := bodyV (pages.getD (i + 1) 0) (chunk numbers i)) (by omega) (by rw [bodyV_len]; omega)
    have hcm : ∀ x ∈ chunk numbers i, x ∈ numbers := fun x hx => List.mem_of_mem_drop (List.mem_of_mem_take hx)
    have hnext : U32 (pages.getD (i + 1) 0) ∧ pages.getD (i + 1) 0 ≠ 1 := by
      rw [List.getD_eq_getElem?_getD]
      cases h : pages[i + 1]? with
      | none => exact ⟨⟨by decide, by decide⟩, by decide⟩
      | some p =>
        have := hk.pgs p (List.mem_of_getElem? h)
        constructor
        · constructor <;> (simp; omega)
        · simp; omega
    have hparse := parseV_bodyV hnext.1 hnext.2 (c := chunk numbers i) (fun x hx => by have := hk.nums x (hcm x hx); constructor <;> omega)
      ((risesB_iff _ _).2 ⟨fun x hx => by have := hk.nums x (hcm x hx); omega, hk.rises.sublist ((List.take_sublist _ _).trans (List.drop_sublist _ _))⟩) hcl
    rw [hp, walkM, if_neg (by omega), if_neg (by intro h; rcases h with h | h | h; omega; omega; exact hnot h), hread, hopen, if_neg (by simp), if_neg (by simp), hparse, if_neg (by simp)]
    have := walk_ok hd hs hn hk hl k (i + 1) f (by omega) (by omega)
    rw [List.take_succ_eq_append_getElem hil, List.range_succ, List.flatMap_append, List.flatMap_singleton] at this
    exact this

theorem namedB_iff (n : Int) (lists : List Int) : ∀ (l : List Int) (a : Int), namedB n lists a l = true ↔ (∀ x ∈ l, a < x ∧ x < n ∧ x ∉ lists) ∧ l.Pairwise (· < ·)
  | [], a => by simp [namedB]
  | x :: l, a => by
    rw [namedB, Bool.and_eq_true, namedB_iff n lists l x, List.pairwise_cons]
    simp only [Bool.not_eq_true', Bool.or_eq_false_iff, decide_eq_false_iff_not, Int.not_le, Int.not_lt, ge_iff_le]
    constructor
    · rintro ⟨⟨⟨h1, h2⟩, h3⟩, h4, h5⟩
      refine ⟨fun y hy => ?_, fun y hy => (h4 y hy).1, h5⟩
      rcases List.mem_cons.1 hy with rfl | hy
      · exact ⟨h1, h2, h3⟩
      · have := h4 y hy; exact ⟨by omega, this.2⟩
    · rintro ⟨h1, h2, h3⟩
      have := h1 x (by simp)
      exact ⟨⟨⟨this.1, this.2.1⟩, this.2.2⟩, fun y hy => ⟨h2 y hy, (h1 y (List.mem_cons_of_mem _ hy)).2⟩, h3⟩

theorem nodup_len : ∀ (n : Nat) (l : List Nat), l.Nodup → (∀ x ∈ l, x < n) → l.length ≤ n
  | 0, l, _, h => by cases l with
    | nil => simp
    | cons a l => exact absurd (h a (by simp)) (by omega)
  | n + 1, l, hn, h => by
    by_cases hm : n ∈ l
    · have h1 := nodup_len n (l.erase n) (hn.erase n) (fun x hx => by
        have h2 := (hn.mem_erase_iff).1 hx
        have := h x h2.2
        have := h2.1
        omega)
      have := List.length_erase_of_mem hm
      have := List.length_pos_of_mem hm
      omega
    · have := nodup_len n l hn (fun x hx => by
        have := h x hx
        have : x ≠ n := fun e => hm (e ▸ hx)
        omega)
      omega
theorem nodup_lenI {l : List Int} {n : Int} (hn : l.Nodup) (h : ∀ x ∈ l, 2 ≤ x ∧ x < n) : (l.length : Int) ≤ n - 2 ∨ l = [] := by
  by_cases h0 : l = []
  · exact .inr h0
  · left
    obtain ⟨a, ha⟩ := List.exists_mem_of_ne_nil l h0
    have h1 := h a ha
    have := nodup_len (n - 2).toNat (l.map fun x => (x - 2).toNat) (by
      refine List.pairwise_map.2 (hn.imp_of_mem fun {x y} hx hy hne => ?_)
      have := h x hx
      have := h y hy
      omega) (fun x hx => by
      obtain ⟨y, hy, rfl⟩ := List.mem_map.1 hx
      have := h y hy
      omega)
    rw [List.length_map] at this
    omega

/-- A disk whose newest super is s, and whose list lies as it is to. -/
structure Opens (D : DiskM) (s : Sup) (pages numbers : List Int) : Prop where
  down : D.down = false
  size : 8 ≤ D.size ∧ D.size ≤ 4096
  newest : newestV (view D 0) (view D 1) = (s, 0)
  blocks : s.2.getD 0 0 = D.size
  list : s.2.getD 1 0 = pages.headD 0
  free : s.2.getD 2 0 = numbers.length
  ok : ListOk D.size numbers pages
  listed : Listed D numbers pages
theorem Opens.load {D : DiskM} {s : Sup} {pages numbers : List Int} (h : Opens D s pages numbers) : loadM D s = some (pages, numbers) := by
  have hw : walkM D D.size (D.size.toNat + 1) (pages.headD 0) [] [] = some (pages, numbers) := by
    have := walk_ok h.down rfl h.size.2 h.ok h.listed pages.length 0 (D.size.toNat + 1) (by omega) (by
      have := nodup_lenI h.ok.nodup h.ok.pgs
      have h2 := h.size
      rcases this with h1 | h1
      · omega
      · rw [h1]; simp)
    have e : pages.headD 0 = pages.getD 0 0 := by cases pages <;> rfl
    rw [e]
    exact this
  rw [loadM, h.blocks, h.list, hw]
  dsimp only
  rw [if_pos]
  exact ⟨(namedB_iff _ _ _ _).2 ⟨fun x hx => ⟨by have := h.ok.nums x hx; omega, (h.ok.nums x hx).2, fun hm => h.ok.apart x hm hx⟩, h.ok.rises⟩, h.free.symm⟩
theorem Opens.open {D : DiskM} {s : Sup} {pages numbers : List Int} (h : Opens D s pages numbers) : openM D = (some (begunM s pages numbers 1 false numbers), 0) := by
  have r0 := readV_view h.down (n := 0) ⟨by decide, by have := h.size; omega⟩
  have r1 := readV_view h.down (n := 1) ⟨by decide, by have := h.size; omega⟩
  have hb : s.2.getD 0 0 = (D.safe.length : Int) := h.blocks
  rw [openM, r0, r1, h.newest, if_neg (by simp), if_neg (by simp), if_neg (by simp), if_neg (by rw [hb]; simp), h.load]

end Go.Proofs.YtmbcedengdoamaaGreatDoor
end

section
/- The pager: load. Conditions: those that stand in each line. -/
set_option linter.unusedVariables false
set_option linter.unusedSimpArgs false
namespace Go.Proofs.YtmbcedengdoamaaGreatDoor
open Go Go.Pt
attribute [local irreducible] ld ldA ldV fld fldA newZ st new idx idxS idxA slc slcS slcP mkS chk nn call callV inv run runQ runU join loop held ext rng undefer s2a nxt ent IntKind.wrap

theorem rds_src {α : Type} {enc : α → List Value} {k : Nat} {P : Program} {S : List Nat} {w : World} {s : Sl} {l : List α} {tx e' : TypeId} (h : Rds enc k S w s l) (henc : ∀ x, (enc x).length = k) (hone : ∀ x, ∀ u ∈ enc x, u.oneCell' = true) (hk : P.underlying tx = some (.slice e')) :
    Src P k tx (.slice s.a s.len s.cap) s.len (l.flatMap enc) w := by
  obtain ⟨a, len, cap⟩ := s
  have hl := h.1
  simp only at hl
  cases a with
  | none =>
    have : l = [] := by
      rcases h.2.2 with h | ⟨b, o, cs, T, fr, ha, _⟩
      · exact h
      · cases ha
    subst this
    simp at hl
    subst hl
    exact .ofNil w hk cap
  | some a =>
    refine .ofSlice w hk a len cap _ (by rw [flatMap_len henc, hl]) (h.cells henc rfl) fun u hu => ?_
    obtain ⟨x, _, hx⟩ := List.mem_flatMap.1 hu
    exact hone x u hx

theorem appU {S : List Nat} {w : World} {s src : Sl} {l ys : List Int} {B : List Nat} {K : Sl → World → Prop} (h : BufU w s l B) (hr : Rd S w src ys) (hl : l.length + ys.length ≤ 1000000)
    (kk : ∀ s' B' w', BufU w' s' (l ++ ys) B' → Fr B w w' → (∀ b ∈ B', b ∈ B ∨ w.heap.size ≤ b) → K s' w') :
    Pt.run [Ty1.one Cell.slice] ((Builtin.append_ #[27, 27] 27 #[.slice s.a s.len s.cap, .slice src.a src.len src.cap]).run Tryz.prog w) K := by
  obtain ⟨i, hi, hz, hsz, hby⟩ := info31
  have hlen := hr.1
  refine Buf.appSrc (e := 29) h encU_len (by kernel_rfl) hi hz hsz rfl (rds_src (e' := 29) hr encU_len (fun x u hu => by simp at hu; subst hu; rfl) (by kernel_rfl)) hlen (by rw [hby]; omega) (by omega) fun s' B' w' b' f' n' _ => kk s' B' w' b' f' n'

theorem readV_IsB {D : DiskM} (h : D.Ok) (n : Int) : IsB (readV D n).1 ∧ (readV D n).1.length ≤ 512 := by
  have hz : IsB (zs 512) := IsB.zs 512
  unfold readV
  split
  · exact ⟨(fun x hx => by cases hx), by simp⟩
  split
  · exact ⟨(fun x hx => by cases hx), by simp⟩
  split
  · rename_i b hb
    refine ⟨?_, Nat.le_of_eq b.2⟩
    have : ∀ l : List (Int × Blk), (∀ x ∈ l, IsB x.2.1) → lastW n l = some b → IsB b.1 := by
      intro l
      induction l with
      | nil => intro _ h; cases h
      | cons x l ih =>
        intro h1 h2
        rw [lastW] at h2
        cases h3 : lastW n l with
        | some c => rw [h3] at h2; exact ih (fun y hy => h1 y (List.mem_cons_of_mem _ hy)) (by rw [h3]; exact h2)
        | none =>
          rw [h3] at h2
          dsimp only at h2
          split at h2
          · cases h2; exact h1 x (by simp)
          · cases h2
    exact this _ h.bytesW hb
  · refine ⟨?_, Nat.le_of_eq (D.safe.getD n.toNat .zero).2⟩
    rw [List.getD_eq_getElem?_getD]
    cases he : D.safe[n.toNat]? with
    | none => exact hz
    | some b => exact h.bytesS b (List.mem_of_getElem? he)

theorem openV_IsB {l : List Int} (h : IsB l) (n : Int) : IsB (openV n l).2.1 ∧ (openV n l).2.1.length ≤ l.length := by
  have hz : IsB ([] : List Int) := fun x hx => by cases hx
  unfold openV
  split
  · exact ⟨hz, by simp⟩
  split
  · exact ⟨hz, by simp⟩
  split
  · exact ⟨hz, by simp⟩
  split
  · exact ⟨hz, by simp⟩
  split
  · exact ⟨hz, by simp⟩
  · refine ⟨(h.take _).drop _, ?_⟩
    rw [List.length_drop, List.length_take]
    omega

abbrev MIT : TypeId := 170
theorem mitU : Tryz.prog.underlying MIT = some (.map 29 3) := by kernel_rfl
theorem mitZ : ∀ w, (zeroValue 3).run Tryz.prog w = .ok (.int .i64 0) w := fun w => by kernel_rfl
def onesM (l : List Int) : List (Int × Value) := l.map fun n => (n, .int .i64 1)
theorem onesM_look (n : Int) : ∀ l : List Int, (n ∈ l → ∃ i, look n (onesM l) = some (i, .int .i64 1)) ∧ (n ∉ l → look n (onesM l) = none)
  | [] => ⟨(fun h => by cases h), fun _ => rfl⟩
  | a :: l => by
    obtain ⟨h1, h2⟩ := onesM_look n l
    simp only [onesM, List.map_cons, look]
    by_cases h : n = a
    · rw [if_pos h]
      exact ⟨fun _ => ⟨0, rfl⟩, fun hn => absurd (by rw [h]; simp) hn⟩
    · rw [if_neg h]
      refine ⟨fun hm => ?_, fun hm => ?_⟩
      · rcases List.mem_cons.1 hm with e | hm
        · exact absurd e h
        · obtain ⟨i, hi⟩ := h1 hm
          unfold onesM at hi
          exact ⟨i + 1, by rw [hi]; rfl⟩
      · have := h2 (fun hm' => hm (List.mem_cons_of_mem _ hm'))
        unfold onesM at this
        rw [this]; rfl
theorem inMap_ok {w : World} {r : Nat} {lists : List Int} {n : Int} {K : Int → Prop} (h : MapS u32V w r (onesM lists)) (k : ∀ x : Int, decide (x > 0) = decide (n ∈ lists) → K x) :
    runQ [Ty1.one (Cell.int .i64)] (fun w' => (Instr.lookup MIT (.map (some r)) (.int .u32 n) false).run Tryz.prog w') w K := by
  have := run_lookup (P := Tryz.prog) mitU mitZ keyOk31 h.at n
  rw [posOf_look] at this
  obtain ⟨h1, h2⟩ := onesM_look n lists
  by_cases hn : n ∈ lists
  · obtain ⟨i, hi⟩ := h1 hn
    rw [hi] at this
    exact runQ_of (ts := [Ty1.one (Cell.int .i64)]) (1 : Int) this (k 1 (by simp [hn]))
  · rw [h2 hn] at this
    exact runQ_of (ts := [Ty1.one (Cell.int .i64)]) (0 : Int) this (k 0 (by simp [hn]))

theorem raw_lists {db : Option Addr} {sup : Sup} {sl sl' sn : Sl} {turn : Int} {over : Bool} {wk : List Value} (hl : sup.2.length = 27) : splice (pgRaw db sup sl sn turn over wk) 29 [.slice sl'.a sl'.len sl'.cap] = pgRaw db sup sl' sn turn over wk := by
  have h := pg_head (db := db) hl
  have := splice_mid (A := (Value.pointer db :: supV sup.1 sup.2)) (X := [.slice sl.a sl.len sl.cap]) (Y := [.slice sl'.a sl'.len sl'.cap]) (Z := .slice sn.a sn.len sn.cap :: .int .i64 turn :: .bool over :: wk) rfl
  rw [h] at this
  simpa [pgRaw] using this
theorem raw_named {db : Option Addr} {sup : Sup} {sl sn sn' : Sl} {turn : Int} {over : Bool} {wk : List Value} (hl : sup.2.length = 27) : splice (pgRaw db sup sl sn turn over wk) 30 [.slice sn'.a sn'.len sn'.cap] = pgRaw db sup sl sn' turn over wk := by
  have h : ((Value.pointer db :: supV sup.1 sup.2) ++ ([.slice sl.a sl.len sl.cap] : List Value)).length = 30 := by rw [List.length_append, pg_head hl]; rfl
  have := splice_mid (A := (Value.pointer db :: supV sup.1 sup.2) ++ ([.slice sl.a sl.len sl.cap] : List Value)) (X := [.slice sn.a sn.len sn.cap]) (Y := [.slice sn'.a sn'.len sn'.cap]) (Z := .int .i64 turn :: .bool over :: wk) rfl
  rw [h] at this
  simpa [pgRaw] using this

theorem first4_range {l : List Int} : U32 (first4 l) := by unfold first4 get4V; exact bits_u32_range _ _ _
theorem parseV_U32 (l : List Int) : U32 (parseV l).1 := by
  unfold parseV
  split
  · constructor <;> decide
  split
  · constructor <;> decide
  split
  · exact first4_range
  · constructor <;> decide
theorem parseV_len (l : List Int) : (parseV l).2.1.length ≤ 123 := by
  unfold parseV
  split
  · simp
  split
  · simp
  rename_i h
  split
  · simp only [numsV, List.length_map, List.length_range]; omega
  · simp

/-- What the walk knows at its head. -/
structure Walk (w : World) (FD : List Nat) (pb r : Nat) (db : Option Addr) (sup : Sup) (turn : Int) (over : Bool) (wk : List Value) (a : Int) (lists named : List Int) (w' : World) (sl sn : Sl) (B1 B2 : List Nat) : Prop where
  own : Own [pb] w w' [(pb, .cells (pgRaw db sup sl sn turn over wk) PGT (0, 0))]
  b1 : BufU w' sl lists B1
  b2 : BufU w' sn named B2
  map : MapS u32V w' r (onesM lists)
  n1 : ∀ b ∈ B1, w.heap.size ≤ b ∧ b ≠ r ∧ b ∉ B2
  n2 : ∀ b ∈ B2, w.heap.size ≤ b ∧ b ≠ r
  nr : w.heap.size ≤ r
  at_ : U32 a
  nodup : lists.Nodup
  range : ∀ x ∈ lists, 2 ≤ x ∧ x < sup.2.getD 0 0
  len : named.length ≤ 123 * lists.length

theorem PLoad_ok {w : World} {pb dbk : Nat} {FD : List Nat} {D : DiskM} {sup : Sup} {turn : Int} {over : Bool} {wk : List Value} {K : Bool → World → Prop}
    (hc : w.heap[pb]? = some (.cells (pgRaw (some ⟨dbk, 0, none⟩) sup ⟨none, 0, 0⟩ ⟨none, 0, 0⟩ turn over wk) PGT (0, 0))) (hs : sup.2.length = 27) (hw : wk.length = 27) (hd : DiskAt w dbk FD D) (hD : D.Ok) (hv : Hv w) (hpb : pb ∉ FD) (hpv : pb ≠ HG)
    (hb4 : sup.2.getD 0 0 ≤ 4096) (hat : U32 (sup.2.getD 1 0)) (hfr : U32 (sup.2.getD 2 0))
    (hno : loadM D sup = none → ∀ w', Fr [pb] w w' → K false w')
    (hk : ∀ sl sn lists named w', loadM D sup = some (lists, named) → Own [pb] w w' [(pb, .cells (pgRaw (some ⟨dbk, 0, none⟩) sup sl sn turn over wk) PGT (0, 0))] → Rd (FD ++ [pb]) w' sl lists → Rd (FD ++ [pb]) w' sn named → K true w') :
    call Tryz.prog 64 [.pointer (some ⟨pb, 0, none⟩)] [.one .bool] w K := by
  have hpb' := lt_of_blk hc
  have ho : Own [pb] w w [(pb, .cells (pgRaw (some ⟨dbk, 0, none⟩) sup ⟨none, 0, 0⟩ ⟨none, 0, 0⟩ turn over wk) PGT (0, 0))] := ⟨by simpa using hc, by simp, .refl _ _, by simp⟩
  refine pager_Pager_load_of (p := some ⟨pb, 0, none⟩) ?_
  unfold pager_Pager_loadF
  refine Own.new' ho fun r w1 e1 f1 ho1 => ?_
  have hmap1 : MapS u32V w1 r (onesM []) := .empty (ho1.at (i := 0) rfl)
  have ho1 := ho1.sub (L' := [(pb, _)]) (List.Sublist.cons _ (List.Sublist.refl _))
  refine nn_some (Own.ld (c := .int .u32) ho1 0 rfl (sup.2.getD 1 0) (raw_sup hs 1 (by decide)) ?_)
  have disk : ∀ {w' : World}, Fr [pb] w w' → DiskAt w' dbk FD D := fun f => hd.frame f fun b hb => by simp only [List.mem_singleton]; rintro rfl; exact hpb hb
  have half : ∀ {w' : World}, Fr [pb] w w' → Hv w' := fun f => hv.frame f (by simpa using fun e => hpv e.symm)
  generalize hF0 : (sup.2.getD 0 0).toNat + 1 = F0
  have hload : loadM D sup = match walkM D (sup.2.getD 0 0) F0 (sup.2.getD 1 0) [] [] with | none => none | some x => if namedB (sup.2.getD 0 0) x.1 0 x.2 = true ∧ (x.2.length : Int) = sup.2.getD 2 0 then some x else none := by rw [← hF0]; rfl
  refine loop_ind (fun a w' => ∃ lists named sl sn B1 B2 f, Walk w FD pb r (some ⟨dbk, 0, none⟩) sup turn over wk a lists named w' sl sn B1 B2 ∧ f + lists.length = F0 ∧ walkM D (sup.2.getD 0 0) f a lists named = walkM D (sup.2.getD 0 0) F0 (sup.2.getD 1 0) [] [])
    (fun a w' => match w'.heap[r]? with | some (.map es _) => F0 - es.size | _ => 0) ⟨[], [], ⟨none, 0, 0⟩, ⟨none, 0, 0⟩, [], [], F0, ⟨ho1, .nil _ _ _, .nil _ _ _, hmap1, by simp, by simp, by rw [e1]; exact Nat.le_refl _, hat, .nil, by simp, by simp⟩, rfl, rfl⟩ ?_
  rintro a w2 ⟨lists, named, sl, sn, B1, B2, f, H, hf, hwalk⟩ X hX
  have hpos : lists.length < F0 := by
    rcases nodup_lenI H.nodup H.range with h | h
    · omega
    · rw [h]; simp; omega
  obtain ⟨f, rfl⟩ : ∃ g, f = g + 1 := ⟨f - 1, by omega⟩
  have fr2 := H.own.fr
  refine cond_of (fun hc1 => ?_) (fun hc1 => ?_)
  · have ha0 : a ≠ 0 := by simpa using hc1
    rw [walkM, if_neg ha0] at hwalk
    refine join_mid (fun b w' => b = decide (a < 2 ∨ a ≥ sup.2.getD 0 0 ∨ a ∈ lists) ∧ w' = w2) ?_ ?_
    · refine cond_of (fun h => ⟨by rw [decide_eq_true (Or.inl (of_decide_eq_true h))], rfl⟩) (fun h => ?_)
      have h1 := of_decide_eq_false h
      refine nn_some (Own.ld (c := .int .u32) H.own 0 rfl (sup.2.getD 0 0) (raw_sup hs 0 (by decide)) ?_)
      refine cond_of (fun h => ⟨by rw [decide_eq_true (Or.inr (Or.inl (of_decide_eq_true h)))], rfl⟩) (fun h => ?_)
      have h2 := of_decide_eq_false h
      refine inMap_ok H.map fun x hx => ⟨?_, rfl⟩
      rw [hx]
      refine decide_eq_decide.2 ⟨fun h => .inr (.inr h), fun h => ?_⟩
      rcases h with h | h | h
      · exact absurd h h1
      · exact absurd h h2
      · exact h
    rintro b w3 ⟨rfl, rfl⟩
    refine cond_of (fun h => ?_) (fun h => ?_)
    · have h := of_decide_eq_true h
      rw [if_pos h] at hwalk
      exact hno (by rw [hload, ← hwalk]) w3 fr2
    have hbad := of_decide_eq_false h
    rw [if_neg hbad] at hwalk
    have ha2 : 2 ≤ a := by omega
    have hab : a < sup.2.getD 0 0 := by omega
    have hal : a ∉ lists := fun h => hbad (.inr (.inr h))
    obtain ⟨o, hr, hm⟩ := run_mapSet (v := .int .i64 1) mitU H.map a
    refine runU_of _ hr ?_
    have hsetL : setL a (.int .i64 1) (onesM lists) = onesM (lists ++ [a]) := by
      rw [setL, (onesM_look a lists).2 hal]
      simp [onesM]
    rw [hsetL] at hm
    have hrlt := H.map.lt
    have fm : Fr [r] w3 (upd w3 r o) := upd_fr hrlt o
    have hrpb : r ≠ pb := by have := H.nr; omega
    have ho4 := H.own.frame fm (fun b hb => by simp only [List.mem_singleton] at hb; subst hb; exact .inr H.nr) (fun p hp => by simp at hp; subst hp; simpa using fun e => hrpb e.symm)
    have b14 := H.b1.frame fm (fun b hb => by simpa using (H.n1 b hb).2.1)
    have b24 := H.b2.frame fm (fun b hb => by simpa using (H.n2 b hb).2)
    generalize upd w3 r o = w4 at hm fm ho4 b14 b24
    refine nn_some (Own.ld (c := .ptr) ho4 0 rfl (some ⟨dbk, 0, none⟩) raw_d ?_)
    rw [wi' a (by omega)]
    refine DRead_ok (disk ho4.fr) hD fun s5 B5 w5 b5 f5 n5 => ?_
    have ho5 := ho4.frame0 f5
    refine cond_of (fun h => ?_) (fun h => ?_)
    · have h : (readV D a).2 ≠ 0 := by simpa using h
      rw [if_pos h] at hwalk
      exact hno (by rw [hload, ← hwalk]) w5 ho5.fr
    have h : ¬ (readV D a).2 ≠ 0 := by simpa using h
    rw [if_neg h] at hwalk
    refine open_ok (b5.rds encB_len (S := []) (by simp)) (half ho5.fr) (readV_IsB hD a).1 (by have := (readV_IsB hD a).2; omega) fun s6 B6 w6 b6 f6 n6 => ?_
    have ho6 := ho5.frame0 f6
    refine join_mid (fun b w' => b = decide ((openV a (readV D a).1).2.2 ≠ 0 ∨ (openV a (readV D a).1).1 ≠ 2) ∧ w' = w6) ?_ ?_
    · refine cond_of (fun h => ?_) (fun h => ?_)
      · have h : (openV a (readV D a).1).2.2 ≠ 0 := by simpa using h
        exact ⟨by rw [decide_eq_true (Or.inl h)], rfl⟩
      · have h : (openV a (readV D a).1).2.2 = 0 := by simpa using h
        refine ⟨?_, rfl⟩
        by_cases h2 : (openV a (readV D a).1).1 = 2 <;> simp [h, h2]
    rintro b w6' ⟨rfl, rfl⟩
    refine cond_of (fun h => ?_) (fun h => ?_)
    · have h := of_decide_eq_true h
      rw [if_pos h] at hwalk
      exact hno (by rw [hload, ← hwalk]) w6' ho6.fr
    have h := of_decide_eq_false h
    rw [if_neg h] at hwalk
    have hoB := openV_IsB (readV_IsB hD a).1 a
    refine FParse_ok (b6.rds encB_len (S := []) (by simp)) hoB.1 (by have := hoB.2; have := (readV_IsB hD a).2; omega) fun s7 B7 w7 b7 f7 n7 => ?_
    have ho7 := ho6.frame0 f7
    refine cond_of (fun h => ?_) (fun h => ?_)
    · have h : (parseV (openV a (readV D a).1).2.1).2.2 ≠ 0 := by simpa using h
      rw [if_pos h] at hwalk
      exact hno (by rw [hload, ← hwalk]) w7 ho7.fr
    have h : ¬ (parseV (openV a (readV D a).1).2.1).2.2 ≠ 0 := by simpa using h
    rw [if_neg h] at hwalk
    have hpl := parseV_len (openV a (readV D a).1).2.1
    have hpu := parseV_U32 (openV a (readV D a).1).2.1
    generalize parseV (openV a (readV D a).1).2.1 = pv at hwalk b7 hpl hpu
    have f47 := (f5.trans f6).trans f7
    have hml := H.len
    have hl4 : lists.length ≤ 4096 := by omega
    have hoD := ho7.drew
    have hd7 : Fr [] w4 w7.drew := f47.drew
    have b1d := b14.frame0 hd7
    have b2d := b24.frame0 hd7
    have hmd := hm.frame hd7 (by simp)
    have b7d := b7.frame0 ((Fr.refl [] w7).drew)
    have l7 : ∀ b ∈ B7, w4.heap.size ≤ b := fun b hb => Nat.le_trans (f5.trans f6).size (n7 b hb)
    have hr4 : r < w4.heap.size := hm.lt
    generalize w7.drew = wd at hoD hd7 b1d b2d hmd b7d
    refine nn_some (Own.ld (c := .slice) hoD 0 rfl sl (raw_at hs 0 (by decide)) ?_)
    refine nn_some (Own.ld (c := .slice) hoD 0 rfl sn (raw_at hs 1 (by decide)) ?_)
    refine Own.new' hoD fun rn w8 e8 f8 ho8 => ?_
    refine held_two (ho8.cell 1 rfl (raw_at hs 1 (by decide))) (ho8.cell 1 rfl (raw_at hs 0 (by decide))) ?_
    have hone : Rd [] w8 ⟨some ⟨rn, 0, none⟩, 1, 1⟩ [a] := by
      refine ⟨rfl, Nat.le_refl _, .inr ⟨rn, 0, _, _, _, rfl, ho8.at (i := 0) rfl, by simp, fun i x hx => ?_⟩⟩
      match i with
      | 0 => simp at hx; subst hx; rfl
      | i + 1 => simp at hx
    refine appU (s := sl) (src := ⟨some ⟨rn, 0, none⟩, 1, 1⟩) (b1d.frame0 f8) hone (by simp; omega) fun s9 B9 w9 b9 f9 n9 => ?_
    have hB1 : ∀ b ∈ B1, b < wd.heap.size := fun b hb => b1d.lt b hb
    have hB2 : ∀ b ∈ B2, b < wd.heap.size := fun b hb => b2d.lt b hb
    have h78 : wd.heap.size ≤ w8.heap.size := f8.size
    have h4d : w4.heap.size ≤ wd.heap.size := hd7.size
    have hw0 : w.heap.size ≤ w4.heap.size := ho4.fr.size
    have ho9 := (ho8.sub (L' := [(pb, _)]) (List.Sublist.cons _ (List.Sublist.refl _))).frame f9 (fun b hb => .inr (H.n1 b hb).1) (fun p hp hb => by simp at hp; subst hp; have := (H.n1 _ hb).1; dsimp only at this; omega)
    refine held_one (ho9.cell 0 rfl (raw_at hs 1 (by decide))) ?_
    have b29 := (b2d.frame0 f8).frame f9 (fun b hb hb1 => (H.n1 b hb1).2.2 hb)
    have r79 : Rd [] w9 s7 pv.2.1 := ((b7d.frame0 f8).frame f9 (fun b hb hb1 => by have := l7 b hb; have := b14.lt b hb1; omega)).rds encU_len (by simp)
    refine appU b29 r79 (by omega) fun s10 B10 w10 b10 f10 n10 => ?_
    have hlt9 : wd.heap.size ≤ w9.heap.size := Nat.le_trans h78 f9.size
    have ho10 := ho9.frame f10 (fun b hb => .inr (H.n2 b hb).1) (fun p hp hb => by simp at hp; subst hp; have := (H.n2 _ hb).1; dsimp only at this; omega)
    have nB9 : ∀ b ∈ B9, w.heap.size ≤ b ∧ b ≠ r ∧ b ∉ B2 ∧ b < w9.heap.size := fun b hb => by
      refine ⟨?_, ?_, ?_, b9.lt b hb⟩
      · rcases n9 b hb with h | h
        · exact (H.n1 b h).1
        · omega
      · rcases n9 b hb with h | h
        · exact (H.n1 b h).2.1
        · omega
      · rcases n9 b hb with h | h
        · exact (H.n1 b h).2.2
        · intro h2; have := hB2 b h2; omega
    have nB10 : ∀ b ∈ B10, w.heap.size ≤ b ∧ b ≠ r := fun b hb => by
      rcases n10 b hb with h | h
      · exact H.n2 b h
      · constructor <;> omega
    have b910 := b9.frame f10 (fun b hb h2 => (nB9 b hb).2.2.1 h2)
    have sep : ∀ b ∈ B9, b ∉ B10 := fun b hb hb2 => by
      rcases n10 b hb2 with h | h
      · exact (nB9 b hb).2.2.1 h
      · have := (nB9 b hb).2.2.2; omega
    refine nn_some (Own.st' ho10 0 rfl (pgRaw (some ⟨dbk, 0, none⟩) sup s9 sn turn over wk) (raw_lists hs) rfl (by rw [raw_size hs, hw]; exact Nat.le_of_ble_eq_true rfl) fun w11 ho11 f11 => ?_)
    refine nn_some (Own.st' ho11 0 rfl (pgRaw (some ⟨dbk, 0, none⟩) sup s9 s10 turn over wk) (raw_named hs) rfl (by rw [raw_size hs, hw]; exact Nat.le_of_ble_eq_true rfl) fun w12 ho12 f12 => ?_)
    have f1112 := f11.trans f12
    have npb : ∀ b, w.heap.size ≤ b → b ∉ [pb] := fun b hb => by simp; omega
    have hm12 := (((hmd.frame f8 (by simp)).frame f9 (fun h => (H.n1 r h).2.1 rfl)).frame f10 (fun h => (H.n2 r h).2 rfl)).frame f1112 (npb r H.nr)
    refine hX _ _ ⟨lists ++ [a], named ++ pv.2.1, s9, s10, B9, B10, f, ⟨ho12, b910.frame f1112 (fun b hb => npb b (nB9 b hb).1), b10.frame f1112 (fun b hb => npb b (nB10 b hb).1), hm12, fun b hb => ⟨(nB9 b hb).1, (nB9 b hb).2.1, sep b hb⟩, nB10, H.nr, hpu, ?_, ?_, ?_⟩, ?_, hwalk⟩ ?_
    · rw [List.nodup_append]
      exact ⟨H.nodup, by simp, fun x hx y hy => by simp at hy; subst hy; exact fun e => hal (e ▸ hx)⟩
    · intro x hx
      rcases List.mem_append.1 hx with h | h
      · exact H.range x h
      · simp at h; subst h; exact ⟨ha2, hab⟩
    · rw [List.length_append, List.length_append]
      have : [a].length = 1 := rfl
      omega
    · rw [List.length_append]
      have : [a].length = 1 := rfl
      omega
    · have key : ∀ {w' : World} {l : List Int}, MapS u32V w' r (onesM l) → (match w'.heap[r]? with | some (.map es _) => F0 - es.size | _ => 0) = F0 - l.length := by
        rintro w' l ⟨es, c, h1, h2, _⟩
        rw [h1]
        have := congrArg List.length h2
        simp [onesM] at this
        simp [this]
      rw [key hm12, key H.map, List.length_append]
      have : [a].length = 1 := rfl
      omega
  · have ha0 : a = 0 := by simpa using hc1
    subst ha0
    rw [walkM, if_pos rfl] at hwalk
    rw [← hwalk] at hload
    dsimp only at hload
    refine nn_some (Own.ld (c := .slice) H.own 0 rfl sn (raw_at hs 1 (by decide)) ?_)
    have rn : Rd [] w2 sn named := H.b2.rds encU_len (by simp)
    have hnl := rn.1
    have hml := H.len
    have hl4 : lists.length ≤ 4096 := by omega
    refine loop_ind (fun x w' => w' = w2 ∧ ∃ i : Nat, x.2 = i ∧ i ≤ named.length ∧ namedB (sup.2.getD 0 0) lists x.1 (named.drop i) = namedB (sup.2.getD 0 0) lists 0 named) (fun x _ => ((named.length : Int) - x.2).toNat) ⟨rfl, 0, rfl, by omega, rfl⟩ ?_
    rintro ⟨last, ii⟩ w' ⟨rfl, i, hi0, hi, hn⟩ Z hZ
    simp only at hi0 hn
    subst hi0
    refine cond_of (fun hc => ?_) (fun hc => ?_)
    · have hil : i < named.length := by have := of_decide_eq_true hc; dsimp only at this; omega
      refine Rd.at rn i rfl (List.getElem?_eq_getElem hil) ?_
      rw [List.drop_eq_getElem_cons hil, namedB] at hn
      refine join_mid (fun b w3 => b = (decide (named[i] ≤ last) || decide (named[i] ≥ sup.2.getD 0 0) || decide (named[i] ∈ lists)) ∧ w3 = w') ?_ ?_
      · refine cond_of (fun h => ⟨by rw [h]; rfl, rfl⟩) (fun h => ?_)
        refine nn_some (Own.ld (c := .int .u32) H.own 0 rfl (sup.2.getD 0 0) (raw_sup hs 0 (by decide)) ?_)
        refine cond_of (fun h2 => ⟨by rw [h, h2]; rfl, rfl⟩) (fun h2 => ?_)
        refine inMap_ok H.map fun x hx => ⟨?_, rfl⟩
        rw [hx, h, h2]; rfl
      rintro b w3 ⟨rfl, rfl⟩
      refine cond_of (fun h => ?_) (fun h => ?_)
      · rw [h] at hn
        refine hno ?_ w3 fr2
        rw [hload, if_neg]
        rw [← hn]
        simp
      · rw [h] at hn
        rw [wi' _ (by dsimp only; omega)]
        exact hZ _ _ ⟨rfl, i + 1, by simp, by omega, by simpa using hn⟩ (by dsimp only; omega)
    · have : i = named.length := by have := of_decide_eq_false hc; dsimp only at this; omega
      subst this
      rw [List.drop_length] at hn
      have hn' : namedB (sup.2.getD 0 0) lists 0 named = true := hn.symm
      have hoD := H.own.drew
      refine nn_some (Own.ld (c := .slice) hoD 0 rfl sn (raw_at hs 1 (by decide)) ?_)
      refine nn_some (Own.ld (c := .int .u32) hoD 0 rfl (sup.2.getD 2 0) (raw_sup hs 2 (by decide)) ?_)
      rw [wi' _ (by omega)]
      by_cases hfree : (named.length : Int) = sup.2.getD 2 0
      · rw [if_pos ⟨hn', hfree⟩] at hload
        have e : ((sn.len : Int) == sup.2.getD 2 0) = true := by rw [beq_iff_eq]; omega
        rw [e]
        have hav : ∀ b ∈ FD ++ [pb], b < w.heap.size := fun b hb => by
          rcases List.mem_append.1 hb with h | h
          · exact hd.lt b h
          · simp at h; subst h; exact hpb'
        have away : ∀ b, w.heap.size ≤ b → b ∉ FD ++ [pb] := fun b hb h => by have := hav b h; omega
        refine hk sl sn lists named _ hload hoD ?_ ?_
        · exact (H.b1.frame0 ((Fr.refl [] w').drew)).rds encU_len fun b hb => away b (H.n1 b hb).1
        · exact (H.b2.frame0 ((Fr.refl [] w').drew)).rds encU_len fun b hb => away b (H.n2 b hb).1
      · have e : ((sn.len : Int) == sup.2.getD 2 0) = false := by rw [beq_eq_false_iff_ne]; omega
        rw [e]
        exact hno (by rw [hload, if_neg (fun h => hfree h.2)]) _ hoD.fr

end Go.Proofs.YtmbcedengdoamaaGreatDoor
end

section
/- A disk, formatted, or committed to, and opened again. Plain Lean. Conditions: those that stand in each line. -/
set_option linter.unusedVariables false
set_option linter.unusedSimpArgs false
namespace Go.Proofs.YtmbcedengdoamaaGreatDoor
open Go Go.Pt
attribute [local irreducible] ld ldA ldV fld fldA newZ st new idx idxS idxA slc slcS slcP mkS chk nn call callV inv run runQ runU join loop held ext rng undefer s2a nxt ent IntKind.wrap

theorem andThen_ok {D : DiskM} {f : DiskM → DiskM × Int} : andThen (D, 0) f = f D := if_pos rfl

structure SupOk (s : Sup) : Prop where
  seq : 0 ≤ s.1 ∧ s.1 < 4611686018427387904
  len : s.2.length = 27
  u32 : ∀ x ∈ s.2, U32 x

theorem SupOk.place {s : Sup} (h : SupOk s) : Int.tmod s.1 2 = s.1 % 2 := Int.tmod_eq_emod_of_nonneg h.seq.1
theorem SupOk.superP {s : Sup} (h : SupOk s) : superP s = (s.1 % 2, sealV (s.1 % 2) 1 (superB s.1 s.2)) := by
  rw [Go.Proofs.YtmbcedengdoamaaGreatDoor.superP, h.place, wu32 _ (by omega)]
theorem SupOk.read {s : Sup} (h : SupOk s) : readSV (s.1 % 2) (sealV (s.1 % 2) 1 (superB s.1 s.2)) = (s, 0) := by
  have := h.seq
  exact readSV_seal (by constructor <;> omega) h.len h.u32 h.place
theorem SupOk.sealLen {s : Sup} (h : SupOk s) (p : Int) : (sealV p 1 (superB s.1 s.2)).length = 512 := sealV_len (by rw [superB_len h.len]; decide)

/-- A super is laid, and made safe. -/
theorem Quiet.seal {D : DiskM} {s : Sup} (h : Quiet D) (hs : SupOk s) (hz : 8 ≤ D.size) :
    ∃ D', sealM D s = (D', 0) ∧ Quiet D' ∧ D'.size = D.size ∧ D'.waits = [] ∧ view D' (s.1 % 2) = sealV (s.1 % 2) 1 (superB s.1 s.2) ∧ ∀ m, 0 ≤ m → m ≠ s.1 % 2 → view D' m = view D m := by
  obtain ⟨D1, e1, q1, s1, v1⟩ := h.write (n := s.1 % 2) (l := sealV (s.1 % 2) 1 (superB s.1 s.2)) (by omega) (hs.sealLen _)
  obtain ⟨D2, e2, q2, s2, w2, v2⟩ := q1.sync
  refine ⟨D2, ?_, q2, s2.trans s1, w2, by rw [v2 _ (by omega), v1, if_pos rfl], fun m hm hne => by rw [v2 m hm, v1, if_neg hne]⟩
  rw [sealM, hs.superP]
  show andThen (writeM D (s.1 % 2) _) syncM = _
  rw [e1]
  exact e2

theorem readSV_zero : (readSV 0 (zs 512)).2 ≠ 0 := by
  have hk : (openV 0 (zs 512)).1 = 0 := by
    unfold openV
    split <;> (try rfl)
    split <;> (try rfl)
    split <;> (try rfl)
    split <;> (try rfl)
    split <;> rfl
  unfold readSV
  generalize openV 0 (zs 512) = o at hk ⊢
  by_cases h : o.2.2 ≠ 0
  · rw [if_pos h]; exact h
  · have hc : o.1 ≠ 1 ∨ o.2.1.length ≠ 116 := .inl (by rw [hk]; decide)
    rw [if_neg h, if_pos hc]
    exact (by decide : (2 : Int) ≠ 0)

theorem allV_at {n i : Nat} (h : i < n - 2) : (allV n)[i]? = some ((i : Int) + 2) := by rw [allV, List.getElem?_map, List.getElem?_range h]; rfl
theorem allV_len (n : Nat) : (allV n).length = n - 2 := by simp [allV]
theorem allV_mem {n : Nat} {x : Int} : x ∈ allV n ↔ 2 ≤ x ∧ x < n := by
  rw [allV, List.mem_map]
  constructor
  · rintro ⟨i, hi, rfl⟩
    rw [List.mem_range] at hi
    omega
  · rintro ⟨h1, h2⟩
    exact ⟨(x - 2).toNat, by rw [List.mem_range]; omega, by omega⟩
theorem allV_rises (n : Nat) : (allV n).Pairwise (· < ·) := by
  rw [allV, List.pairwise_map]
  exact List.pairwise_lt_range.imp (fun h => by omega)
theorem needP_room {n : Nat} : n ≤ 124 * needP n := by
  unfold needP
  split
  · omega
  · have := Nat.div_add_mod (n - 1) 124
    have := Nat.mod_lt (n - 1) (show 0 < 124 by decide)
    omega
theorem needP_le {n : Nat} : needP n ≤ n := by
  unfold needP
  split
  · omega
  · have := Nat.div_le_self (n - 1) 124
    omega
theorem fmt_listOk {n : Nat} : ListOk n ((allV n).drop (needP (allV n).length)) ((allV n).take (needP (allV n).length)) where
  rises := (allV_rises n).sublist (List.drop_sublist _ _)
  nums := fun x hx => allV_mem.1 (List.mem_of_mem_drop hx)
  pgs := fun x hx => allV_mem.1 (List.mem_of_mem_take hx)
  nodup := (lt_nodup (allV_rises n)).sublist (List.take_sublist _ _)
  apart := fun x hx hm => by
    have h := lt_nodup (allV_rises n)
    rw [← List.take_append_drop (needP (allV n).length) (allV n), List.nodup_append] at h
    exact h.2.2 x hx x hm rfl
  room := by
    have h1 := needP_room (n := (allV n).length)
    have h2 := needP_le (n := (allV n).length)
    rw [List.length_drop, List.length_take, Nat.min_eq_left h2]
    omega
theorem fmtSup_ok {n : Nat} (h8 : 8 ≤ n) (h4 : n ≤ 4096) : SupOk (fmtSup n) where
  seq := ⟨(by decide : (0 : Int) ≤ 1), (by decide : (1 : Int) < 4611686018427387904)⟩
  len := rfl
  u32 := fun x hx => by
    simp only [fmtSup, List.mem_append, List.mem_cons, List.not_mem_nil, or_false] at hx
    rcases hx with (rfl | rfl | rfl) | hx
    · exact wrap_u32_range _
    · exact ⟨by decide, by decide⟩
    · exact wrap_u32_range _
    · have := List.eq_of_mem_replicate hx
      subst this
      exact ⟨by decide, by decide⟩

theorem format_opens {D : DiskM} {n : Nat} (h : Quiet D) (hn : D.size = n) (h8 : 8 ≤ n) (h4 : n ≤ 4096) :
    ∃ D', formatM D = (D', 0) ∧ Quiet D' ∧ D'.size = n ∧ D'.waits = [] ∧ Opens D' (fmtSup n) ((allV n).take (needP (allV n).length)) ((allV n).drop (needP (allV n).length)) := by
  have hsn : D.safe.length = n := by have : (D.safe.length : Int) = n := hn; omega
  obtain ⟨D1, e1, q1, s1, v1⟩ := h.write (n := 0) (l := zs 512) (by omega) (zs_len _)
  obtain ⟨D2, e2, q2, s2, v2⟩ := q1.write (n := 1) (l := zs 512) (by omega) (zs_len _)
  obtain ⟨D3, e3, q3, s3, w3, v3⟩ := q2.sync
  have hs3 : D3.size = n := by omega
  have hl3 : D3.safe.length = n := by have : (D3.safe.length : Int) = n := hs3; omega
  have hlk := fmt_listOk (n := n)
  rw [← hs3] at hlk
  obtain ⟨D4, e4, q4, s4, w4, l4, v4⟩ := q3.spread hlk
  have hs4 : D4.size = n := by omega
  have hl4 : D4.safe.length = n := by have : (D4.safe.length : Int) = n := hs4; omega
  obtain ⟨D5, e5, q5, s5, w5, p5, v5⟩ := q4.seal (fmtSup_ok h8 h4) (by omega)
  have hf1 : (fmtSup n).1 % 2 = 1 := rfl
  rw [hf1] at p5 v5
  have hpg := hlk.pgs
  refine ⟨D5, ?_, q5, by omega, w5, ?_⟩
  · rw [formatM, e1, andThen_ok, e2, andThen_ok, e3, andThen_ok, hl3, e4, andThen_ok, hl4, e5]
  · have hk1 : 1 ≤ needP (allV n).length := by
      have := needP_room (n := (allV n).length)
      rw [allV_len] at this ⊢
      omega
    have z0 : view D5 0 = zs 512 := by
      rw [v5 0 (by decide) (by decide), v4 0 (by decide) (fun hm => by have := hpg 0 hm; omega), v3 0 (by decide), v2, if_neg (by decide), v1, if_pos rfl]
    refine { down := q5.down, size := by omega, newest := ?_, blocks := ?_, list := ?_, free := ?_, ok := by rw [show D5.size = D3.size by omega]; exact hlk, listed := fun i p hp => ?_ }
    · have hr := (fmtSup_ok h8 h4).read
      rw [hf1] at hr
      rw [z0, p5, newestV, hr, if_neg (by simp), if_pos (.inl readSV_zero)]
    · show IntKind.wrap .u32 (n : Int) = _
      rw [wu32 _ (by omega)]; omega
    · have : (allV n).take (needP (allV n).length) = 2 :: ((allV n).take (needP (allV n).length)).drop 1 := by
        have h0 : (allV n)[0]? = some 2 := by rw [allV_at (by omega)]; rfl
        obtain ⟨k, hk⟩ : ∃ k, needP (allV n).length = k + 1 := ⟨needP (allV n).length - 1, by omega⟩
        rw [hk]
        cases hA : allV n with
        | nil => rw [hA] at h0; cases h0
        | cons a r => rw [hA] at h0; simp at h0; subst h0; rfl
      rw [this]
      rfl
    · show IntKind.wrap .u32 _ = _
      have := needP_le (n := (allV n).length)
      rw [List.length_drop, wu32 _ (by rw [allV_len] at *; omega)]
      omega
    · have := hpg p (List.mem_of_getElem? hp)
      rw [v5 p (by omega) (by omega)]
      exact l4 i p hp

theorem newM_quiet (n : Nat) : Quiet (newM n) := ⟨rfl, rfl, fun x hx => by cases hx⟩
theorem newM_size (n : Nat) : (newM n).size = n := by show ((List.replicate n Blk.zero).length : Int) = n; simp

/-! ### Committing -/
/-- Which of both supers the newest one is. -/
theorem newest_place {a b : List Int} {s : Sup} (h : newestV a b = (s, 0)) : (readSV 0 a = (s, 0) ∧ Int.tmod s.1 2 = 0 ∧ ((readSV 1 b).2 = 0 → (readSV 1 b).1.1 ≤ s.1)) ∨ (readSV 1 b = (s, 0) ∧ Int.tmod s.1 2 = 1 ∧ ((readSV 0 a).2 = 0 → (readSV 0 a).1.1 < s.1)) := by
  have par : ∀ (p : Int) (l : List Int), (readSV p l).2 = 0 → Int.tmod (readSV p l).1.1 2 = p := by
    intro p l hl
    unfold readSV at hl ⊢
    split
    · rename_i h; rw [if_pos h] at hl; exact absurd hl h
    · rename_i h; rw [if_neg h] at hl
      split
      · rename_i h; rw [if_pos h] at hl; cases hl
      · rename_i h; rw [if_neg h] at hl
        split
        · rename_i h; rw [if_pos h] at hl; cases hl
        · rename_i h; exact Classical.byContradiction h
  unfold newestV at h
  split at h
  · cases h
  rename_i h1
  split at h
  · rename_i h2
    right
    have he : (readSV 1 b).2 = 0 := by
      rcases h2 with h2 | h2
      · exact Classical.byContradiction fun h3 => h1 ⟨h2, h3⟩
      · exact h2.1
    have hs : (readSV 1 b).1 = s := congrArg Prod.fst h
    have hp := par 1 b he
    rw [hs] at hp
    refine ⟨Prod.ext hs he, hp, fun h0 => ?_⟩
    rcases h2 with h2 | h2
    · exact absurd h0 h2
    · rw [← hs]; exact h2.2
  · rename_i h2
    left
    have he : (readSV 0 a).2 = 0 := Classical.byContradiction fun h3 => h2 (.inl h3)
    have hs : (readSV 0 a).1 = s := congrArg Prod.fst h
    have hp := par 0 a he
    rw [hs] at hp
    refine ⟨Prod.ext hs he, hp, fun h0 => ?_⟩
    have : ¬ (readSV 1 b).1.1 > (readSV 0 a).1.1 := fun h3 => h2 (.inr ⟨h0, h3⟩)
    rw [hs] at this
    omega

end Go.Proofs.YtmbcedengdoamaaGreatDoor
end

section
/- The pager: newest, Open. Conditions: those that stand in each line. -/
set_option linter.unusedVariables false
set_option linter.unusedSimpArgs false
namespace Go.Proofs.YtmbcedengdoamaaGreatDoor
open Go Go.Pt
attribute [local irreducible] ld ldA ldV fld fldA newZ st new idx idxS idxA slc slcS slcP mkS chk nn call callV inv run runQ runU join loop held ext rng undefer s2a nxt ent IntKind.wrap

theorem told_buf {w w' : World} {s : Sl} {l : List Int} (h : Told w w' s l) : ∃ B, BufU w' s l B ∧ ∀ b ∈ B, w.heap.size ≤ b := by
  rcases h with ⟨rfl, rfl⟩ | ⟨b, d, T, cap, rfl, hb, hd, hc, ht, hbw, hcap⟩
  · exact ⟨[], .nil _ _ _, by simp⟩
  · refine ⟨[b], .inr ⟨b, 0, u32s d, T, rfl, rfl, rfl, hb, rfl, hc, by rw [u32s_size]; dsimp only; omega, ?_⟩, by simpa using hbw⟩
    rw [List.drop_zero, Nat.mul_one, u32s, Array.toList_map, ← List.map_take, ht, flatMap_encU]

def newestM (D : DiskM) : Sup × Int :=
  if (readV D 0).2 ≠ 0 then (supZero, (readV D 0).2) else if (readV D 1).2 ≠ 0 then (supZero, (readV D 1).2) else newestV (readV D 0).1 (readV D 1).1
theorem newestM_len (D : DiskM) : (newestM D).1.2.length = 27 := by
  unfold newestM
  split
  · rfl
  split
  · rfl
  · exact newestV_len _ _

theorem PNewest_ok {w : World} {dbk : Nat} {FD : List Nat} {D : DiskM} {K : List Value × Int → World → Prop} (h : DiskAt w dbk FD D) (hD : D.Ok) (hv : Hv w)
    (hk : ∀ w', Fr [] w w' → K (supV (newestM D).1.1 (newestM D).1.2, (newestM D).2) w') :
    call Tryz.prog 62 [.pointer (some ⟨dbk, 0, none⟩)] [.raw, .one (.int .i64)] w K := by
  refine pager_newest_of (d := some ⟨dbk, 0, none⟩) ?_
  unfold pager_newestF
  refine Own.newZ (Own.start [] w) supZ fun r w1 e1 ho => ?_
  refine DRead_ok (h.frame0 ho.fr) hD fun s2 B2 w2 b2 f2 n2 => ?_
  have ho := ho.frame0 f2
  refine cond_of (fun hc => ?_) (fun hc => ?_)
  · have hc : (readV D 0).2 ≠ 0 := by simpa using hc
    refine zeroSup ?_
    refine retSup ho 0 rfl rfl rfl fun w3 f3 => ?_
    have := hk w3 f3
    rw [newestM, if_pos hc] at this
    exact this
  have hc0 : ¬ (readV D 0).2 ≠ 0 := by simpa using hc
  refine DRead_ok (h.frame0 ho.fr) hD fun s3 B3 w3 b3 f3 n3 => ?_
  have ho := ho.frame0 f3
  refine cond_of (fun hc => ?_) (fun hc => ?_)
  · have hc : (readV D 1).2 ≠ 0 := by simpa using hc
    refine zeroSup ?_
    refine retSup ho 0 rfl rfl rfl fun w3 f3 => ?_
    have := hk w3 f3
    rw [newestM, if_neg hc0, if_pos hc] at this
    exact this
  have hc1 : ¬ (readV D 1).2 ≠ 0 := by simpa using hc
  have i0 := readV_IsB hD 0
  have i1 := readV_IsB hD 1
  refine SNewest_ok ((b2.frame0 f3).rds encB_len (S := []) (by simp)) (b3.rds encB_len (S := []) (by simp)) (hv.frame0 ho.fr) i0.1 i1.1 (by omega) (by omega) fun w4 f4 => ?_
  refine retSup (ho.frame0 f4) 0 rfl rfl (newestV_len _ _) fun w5 f5 => ?_
  have := hk w5 f5
  rw [newestM, if_neg hc0, if_neg hc1] at this
  exact this

theorem openM_newest (D : DiskM) : openM D = if (newestM D).2 ≠ 0 then (none, (newestM D).2) else if (newestM D).1.2.getD 0 0 ≠ D.safe.length then (none, 2) else
    match loadM D (newestM D).1 with | none => (none, 2) | some x => (some (begunM (newestM D).1 x.1 x.2 1 false x.2), 0) := by
  unfold openM newestM
  by_cases h0 : (readV D 0).2 ≠ 0
  · rw [if_pos h0, if_pos h0]; exact (if_pos h0).symm
  · rw [if_neg h0, if_neg h0]
    by_cases h1 : (readV D 1).2 ≠ 0
    · rw [if_pos h1, if_pos h1]; exact (if_pos h1).symm
    · rw [if_neg h1, if_neg h1] <;> rfl

theorem pgZ : (Tryz.prog.info? PGT).bind (·.zero) = some (.agg (pgRaw none supZero ⟨none, 0, 0⟩ ⟨none, 0, 0⟩ 0 false (workV none none none (zs 24)))) := by kernel_rfl
theorem build_pg {d : Option Addr} {q : Int} {t : List Int} (ht : t.length = 27) (w : World) :
    (Instr.build PGT #[(0, .pointer d), (1, .agg (supV q t).toArray)]).run Tryz.prog w = .ok (.agg (pgRaw d (q, t) ⟨none, 0, 0⟩ ⟨none, 0, 0⟩ 0 false (workV none none none (zs 24)))) w := by
  refine run_build (parts := [(0, .pointer d), (1, .agg (supV q t).toArray)]) (offs := #[(0, 1), (1, 28), (29, 1), (30, 1), (31, 1), (32, 1), (33, 27)]) pgZ (by kernel_rfl) (fun w => by kernel_rfl) ?_ w
  have hs : (Value.agg (supV q t).toArray).cells.size = 28 := supV_size ht
  rw [fill_step (o := 0) (s := 1) rfl rfl (Nat.le_of_ble_eq_true rfl), fill_step (o := 1) (s := 28) rfl hs (Nat.le_of_ble_eq_true rfl)]
  show some _ = _
  congr 1
  have h1 : splice (Value.agg (pgRaw none supZero ⟨none, 0, 0⟩ ⟨none, 0, 0⟩ 0 false (workV none none none (zs 24)))).cells 0 (Value.pointer d).cells.toList = pgRaw d supZero ⟨none, 0, 0⟩ ⟨none, 0, 0⟩ 0 false (workV none none none (zs 24)) := rfl
  rw [h1]
  have := splice_mid (A := [Value.pointer d]) (X := supV 0 (zs 27)) (Y := supV q t) (Z := [.slice none 0 0, .slice none 0 0, .int .i64 0, .bool false] ++ workV none none none (zs 24)) (by rw [supV_len ht]; rfl)
  refine Eq.trans ?_ (this.trans ?_)
  · show splice (pgRaw d supZero ⟨none, 0, 0⟩ ⟨none, 0, 0⟩ 0 false (workV none none none (zs 24))) 1 (supV q t) = _
    congr 1
  · simp [pgRaw]

theorem first4_u32 (l : List Int) : U32 (first4 l) := first4_range
theorem readSV_u32 (place : Int) (l : List Int) : ∀ x ∈ (readSV place l).1.2, U32 x := by
  have hz : ∀ x ∈ supZero.2, U32 x := fun x hx => by
    have := List.eq_of_mem_replicate (show x ∈ List.replicate 27 (0 : Int) from hx)
    subst this
    exact ⟨by decide, by decide⟩
  unfold readSV
  split
  · exact hz
  split
  · exact hz
  split
  · exact hz
  · intro x hx
    obtain ⟨i, _, rfl⟩ := List.mem_map.1 hx
    exact first4_range
theorem newestM_u32 (D : DiskM) : ∀ x ∈ (newestM D).1.2, U32 x := by
  have hz : ∀ x ∈ supZero.2, U32 x := fun x hx => by
    have := List.eq_of_mem_replicate (show x ∈ List.replicate 27 (0 : Int) from hx)
    subst this
    exact ⟨by decide, by decide⟩
  unfold newestM
  split
  · exact hz
  split
  · exact hz
  unfold newestV
  split
  · exact hz
  split
  · exact readSV_u32 _ _
  · exact readSV_u32 _ _
theorem getD_u32 {l : List Int} (h : ∀ x ∈ l, U32 x) (n : Nat) : U32 (l.getD n 0) := by
  rw [List.getD_eq_getElem?_getD]
  cases he : l[n]? with
  | none => exact ⟨by decide, by decide⟩
  | some x => exact h x (List.mem_of_getElem? he)

theorem POpen_ok {w : World} {dbk : Nat} {FD : List Nat} {D : DiskM} {K : Option Addr × Int → World → Prop} (h : DiskAt w dbk FD D) (hD : D.Ok) (hv : Hv w)
    (hno : (openM D).1 = none → ∀ w', Fr [] w w' → K (none, (openM D).2) w')
    (hk : ∀ pb F M w', openM D = (some M, 0) → PagerAt w' FD pb (some ⟨dbk, 0, none⟩) F M → Fr [] w w' → (∀ b ∈ F, w.heap.size ≤ b) → K (some ⟨pb, 0, none⟩, 0) w') :
    call Tryz.prog 24 [.pointer (some ⟨dbk, 0, none⟩)] [.one .ptr, .one (.int .i64)] w K := by
  refine pager_Open_of (d := some ⟨dbk, 0, none⟩) ?_
  unfold pager_OpenF
  refine PNewest_ok h hD hv fun w1 f1 => ?_
  have hsl := newestM_len D
  have hu := getD_u32 (newestM_u32 D)
  have hopen := openM_newest D
  generalize hs : newestM D = sm at hsl hu hopen
  obtain ⟨sup, e⟩ := sm
  simp only at hsl hu hopen
  refine Own.newZ ((Own.start [] w).frame0 f1) supZ fun r w2 e2 ho => ?_
  refine putSup ho 0 rfl rfl hsl fun w3 ho => ?_
  refine cond_of (fun hc => ?_) (fun hc => ?_)
  · have hc : e ≠ 0 := by simpa using hc
    rw [if_pos hc] at hopen
    have := hno (by rw [hopen]) w3 ho.fr
    rw [hopen] at this
    exact this
  have he0 : ¬ e ≠ 0 := by simpa using hc
  rw [if_neg he0] at hopen
  refine ldSup (ho.at (i := 0) rfl) hsl ?_
  refine runQ_of (ts := [Ty1.raw]) (pgRaw (some ⟨dbk, 0, none⟩) (sup.1, sup.2) ⟨none, 0, 0⟩ ⟨none, 0, 0⟩ 0 false (workV none none none (zs 24))).toList (build_pg hsl w3) ?_
  refine Own.new' ho fun pb w4 e4 f4 ho4 => ?_
  have f04 := ho4.fr
  have hd4 := h.frame0 f04
  have hpFD : ∀ b ∈ FD, b < w4.heap.size ∧ b ≠ pb := fun b hb => by
    have h1 := h.lt b hb
    have := f04.size
    have := ho.fr.size
    constructor <;> omega
  have hsafe := hD.safe
  have hcell : w4.heap[pb]? = some (.cells (pgRaw (some ⟨dbk, 0, none⟩) sup ⟨none, 0, 0⟩ ⟨none, 0, 0⟩ 0 false (workV none none none (zs 24))) PGT (0, 0)) := ho4.at (i := 0) rfl
  have hsup : w4.heap[r]? = some (.cells (supV sup.1 sup.2).toArray 58 (0, 0)) := ho4.at (i := 1) rfl
  have hpw : w.heap.size ≤ pb := by have := ho.fr.size; omega
  have hpv : pb ≠ HG := by have := hv.lt; omega
  refine join_mid (fun b w' => (b = true ∧ (openM D).1 = none ∧ (openM D).2 = 2 ∧ Fr [] w w') ∨ (b = false ∧ ∃ sl sn lists named, openM D = (some (begunM sup lists named 1 false named), 0) ∧ Own [pb] w4 w' [(pb, .cells (pgRaw (some ⟨dbk, 0, none⟩) sup sl sn 0 false (workV none none none (zs 24))) PGT (0, 0))] ∧ Rd (FD ++ [pb]) w' sl lists ∧ Rd (FD ++ [pb]) w' sn named ∧ named.Pairwise (· < ·) ∧ named.length ≤ 100000)) ?_ ?_
  · refine ld_blk (w := w4.drew) (c := .int .u32) hsup (sup.2.getD 0 0) (supV_at 0 (by omega)) ?_
    refine Blocks_ok (hd4.frame0 (Fr.refl [] w4).drew) ?_
    refine held_one (by rw [cell_of_blk (w := w4.drew) hsup]; exact supV_at 0 (by omega)) ?_
    rw [wu32 (D.safe.length : Int) (by omega)]
    refine cond_of (fun hc => ?_) (fun hc => ?_)
    · have hc : sup.2.getD 0 0 ≠ (D.safe.length : Int) := by
        intro h; rw [h] at hc; simp at hc
      rw [if_pos hc] at hopen
      exact .inl ⟨rfl, by rw [hopen], by rw [hopen], f04.drew⟩
    have hc : sup.2.getD 0 0 = (D.safe.length : Int) := by
      by_cases h : sup.2.getD 0 0 = (D.safe.length : Int)
      · exact h
      · rw [show ((sup.2.getD 0 0 == (D.safe.length : Int)) = false) by rw [beq_eq_false_iff_ne]; exact h] at hc; cases hc
    rw [if_neg (by rw [hc]; simp)] at hopen
    have f4d : Fr [] w4 w4.drew := (Fr.refl [] w4).drew
    refine PLoad_ok (pb := pb) (D := D) (sup := sup) (FD := FD) (w := w4.drew) hcell hsl (workV_len (by rfl)) (hd4.frame0 f4d) hD ((hv.frame0 f04).frame0 f4d) (fun hb => (hpFD pb hb).2 rfl) hpv (by omega) (hu 1) (hu 2) (fun hl w5 f5 => ?_) (fun sl sn lists named w5 hl ho5 r1 r2 => ?_)
    · rw [hl] at hopen
      refine .inl ⟨rfl, by rw [hopen], by rw [hopen], (f04.trans f4d).trans' f5 fun b hb => by simp at hb; subst hb; exact .inr hpw⟩
    · rw [hl] at hopen
      have hnb : namedB (sup.2.getD 0 0) lists 0 named = true := by
        unfold loadM at hl
        split at hl
        · cases hl
        · rename_i x hx
          split at hl
          · rename_i hh
            cases hl
            exact hh.1
          · cases hl
      have hnb := (namedB_iff _ _ _ _).1 hnb
      have hlen : named.length ≤ 100000 := by
        have := nodup_lenI (n := sup.2.getD 0 0 + 1) (l := named.map (· + 1)) (by
          rw [List.Nodup, List.pairwise_map]
          exact hnb.2.imp (fun h => by omega)) (fun x hx => by
          obtain ⟨y, hy, rfl⟩ := List.mem_map.1 hx
          have := hnb.1 y hy
          omega)
        rcases this with h | h
        · rw [List.length_map] at h; omega
        · have := congrArg List.length h; simp at this; simp [this]
      refine .inr ⟨rfl, sl, sn, lists, named, hopen, ⟨ho5.blk, ho5.nodup, (f4d.mono (fun b hb => by cases hb)).trans ho5.fr, ho5.own⟩, r1, r2, hnb.2, hlen⟩
  rintro b w5 (⟨rfl, h1, h2, f5⟩ | ⟨rfl, sl, sn, lists, named, hop, ho5, r1, r2, hp, hlen⟩)
  · refine cond_true rfl ?_
    have := hno h1 w5 f5
    rw [h2] at this
    exact this
  · refine cond_false rfl ?_
    have hX : ∀ b ∈ FD, b < w5.heap.size ∧ b ≠ pb := fun b hb => ⟨Nat.lt_of_lt_of_le (hpFD b hb).1 ho5.fr.size, (hpFD b hb).2⟩
    refine PBegin_ok (X := FD) (ho5.at (i := 0) rfl) hsl (workV_len (by rfl)) (by decide) hX r1 r2 hlen fun F w6 hp6 f6 n6 => ?_
    rw [insAll_id hp] at hp6
    refine hk pb F _ w6 hop hp6 ((f04.trans' ho5.fr fun b hb => by simp at hb; subst hb; exact .inr hpw).trans' f6 fun b hb => by simp at hb; subst hb; exact .inr hpw) fun b hb => ?_
    rcases n6 b hb with h | h
    · rw [h]; exact hpw
    · exact Nat.le_trans (Nat.le_trans f04.size ho5.fr.size) h

end Go.Proofs.YtmbcedengdoamaaGreatDoor
end

section
/- The pager: spread, seal, Format. Conditions: those that stand in each line. -/
set_option linter.unusedVariables false
set_option linter.unusedSimpArgs false
namespace Go.Proofs.YtmbcedengdoamaaGreatDoor
open Go Go.Pt
attribute [local irreducible] ld ldA ldV fld fldA newZ st new idx idxS idxA slc slcS slcP mkS chk nn call callV inv run runQ runU join loop held ext rng undefer s2a nxt ent IntKind.wrap

/-- A disk that is right, and how much it has been used. -/
structure Lim (D : DiskM) (k : Nat) : Prop where
  ok : D.Ok
  waits : D.waits.length ≤ k
  writes : D.writes ≤ k
theorem actM_ok {D : DiskM} (h : D.Ok) : (actM D).1.Ok ∧ (actM D).1.writes = D.writes := by
  have hf := h.fuse
  unfold actM
  split
  · exact ⟨⟨h.at_, hf, h.safe, h.waits, h.writes, h.bytesS, h.bytesW⟩, rfl⟩
  · split
    · exact ⟨⟨h.at_, ⟨by show -1 ≤ D.fuse - 1; omega, by show D.fuse - 1 ≤ _; omega⟩, h.safe, h.waits, h.writes, h.bytesS, h.bytesW⟩, rfl⟩
    · exact ⟨h, rfl⟩
theorem Lim.mono {D : DiskM} {k k' : Nat} (h : Lim D k) (hk : k ≤ k') : Lim D k' := ⟨h.ok, Nat.le_trans h.waits hk, by have := h.writes; omega⟩
theorem Lim.write {D : DiskM} {k : Nat} {n : Int} {l : List Int} (h : Lim D k) (hk : k < 1000000) (hl : IsB l) : Lim (writeM D n l).1 (k + 1) := by
  unfold writeM
  split
  · exact h.mono (by omega)
  split
  · exact h.mono (by omega)
  split
  · rename_i h1 h2 h3
    have ha : (addW D n ⟨l, h3⟩).Ok := {
      at_ := fun x hx => by
        rcases List.mem_append.1 hx with hx | hx
        · exact h.ok.at_ x hx
        · simp at hx; subst hx; show 0 ≤ n ∧ n < (D.safe.length : Int); omega
      fuse := h.ok.fuse
      safe := h.ok.safe
      waits := by show (D.waits ++ [_]).length ≤ _; have := h.waits; simp; omega
      writes := ⟨by show 0 ≤ D.writes + 1; have := h.ok.writes; omega, by show D.writes + 1 ≤ _; have := h.writes; omega⟩
      bytesS := h.ok.bytesS
      bytesW := fun x hx => by
        rcases List.mem_append.1 hx with hx | hx
        · exact h.ok.bytesW x hx
        · simp at hx; subst hx; exact hl }
    obtain ⟨h4, h5⟩ := actM_ok ha
    refine ⟨h4, ?_, ?_⟩
    · show (actM (addW D n ⟨l, h3⟩)).1.waits.length ≤ k + 1
      rw [(actM_safe _).2]
      show (D.waits ++ [_]).length ≤ _
      have := h.waits
      simp; omega
    · show (actM (addW D n ⟨l, h3⟩)).1.writes ≤ ((k + 1 : Nat) : Int)
      rw [h5]
      show D.writes + 1 ≤ _
      have := h.writes
      omega
  · exact h.mono (by omega)
theorem lay_IsB : ∀ (l : List (Int × Blk)) (s : List Blk), (∀ x ∈ l, IsB x.2.1) → (∀ b ∈ s, IsB b.1) → ∀ b ∈ l.foldl laySafe s, IsB b.1
  | [], s, _, h => h
  | x :: l, s, hl, h => lay_IsB l (laySafe s x) (fun y hy => hl y (List.mem_cons_of_mem _ hy)) fun b hb => by
    rcases List.mem_or_eq_of_mem_set hb with hb | rfl
    · exact h b hb
    · exact hl x (by simp)
theorem Lim.sync {D : DiskM} {k : Nat} (h : Lim D k) : Lim (syncM D).1 k := by
  obtain ⟨h4, h5⟩ := actM_ok h.ok
  unfold syncM
  split
  · exact h
  split
  · exact ⟨h4, by show (actM D).1.waits.length ≤ k; rw [(actM_safe D).2]; exact h.waits, by show (actM D).1.writes ≤ _; rw [h5]; exact h.writes⟩
  · refine ⟨⟨(fun x hx => by cases hx), h4.fuse, ?_, by simp, h4.writes, ?_, (fun x hx => by cases hx)⟩, by simp, by show (actM D).1.writes ≤ _; rw [h5]; exact h.writes⟩
    · show (D.waits.foldl laySafe D.safe).length ≤ 4096
      rw [laySafe_len]; exact h.ok.safe
    · exact lay_IsB _ _ h.ok.bytesW h.ok.bytesS
theorem Lim.then {r : DiskM × Int} {f : DiskM → DiskM × Int} {k k' : Nat} (h : Lim r.1 k) (hk : k ≤ k') (hf : ∀ D, Lim D k → Lim (f D).1 k') : Lim (andThen r f).1 k' := by
  unfold andThen
  split
  · exact hf _ h
  · exact h.mono hk
theorem Lim.writes' : ∀ {l : List (Int × List Int)} {D : DiskM} {k : Nat}, Lim D k → k + l.length ≤ 1000000 → (∀ x ∈ l, IsB x.2) → Lim (writesM l D).1 (k + l.length)
  | [], D, k, h, _, _ => h
  | x :: l, D, k, h, hk, hl => by
    rw [List.length_cons] at hk ⊢
    refine Lim.then (k := k + 1) (h.write (by omega) (hl x (by simp))) (by omega) fun D' h' => ?_
    have := Lim.writes' (l := l) h' (by omega) (fun y hy => hl y (List.mem_cons_of_mem _ hy))
    rw [Nat.add_right_comm] at this
    exact this
theorem size_write {D : DiskM} {n : Int} {l : List Int} : (writeM D n l).1.safe.length = D.safe.length := by
  unfold writeM
  split
  · rfl
  split
  · rfl
  split
  · show (actM _).1.safe.length = _; rw [(actM_safe _).1]; rfl
  · rfl
theorem size_sync {D : DiskM} : (syncM D).1.safe.length = D.safe.length := by
  unfold syncM
  split
  · rfl
  split
  · show (actM _).1.safe.length = _; rw [(actM_safe _).1]
  · show (D.waits.foldl laySafe D.safe).length = _; rw [laySafe_len]
theorem size_then {r : DiskM × Int} {f : DiskM → DiskM × Int} {n : Nat} (h : r.1.safe.length = n) (hf : ∀ D : DiskM, D.safe.length = n → (f D).1.safe.length = n) : (andThen r f).1.safe.length = n := by
  unfold andThen
  split
  · exact hf _ h
  · exact h
theorem size_writes : ∀ {l : List (Int × List Int)} {D : DiskM}, (writesM l D).1.safe.length = D.safe.length
  | [], D => rfl
  | x :: l, D => size_then size_write fun D' h => by rw [size_writes, h]
theorem size_spread {D : DiskM} {a b : List Int} : (spreadM D a b).1.safe.length = D.safe.length := by
  unfold spreadM
  split
  · rfl
  · exact size_then size_writes fun D' h => by rw [size_sync, h]
theorem size_seal {D : DiskM} {s : Sup} : (sealM D s).1.safe.length = D.safe.length := size_then size_write fun D' h => by rw [size_sync, h]

theorem spreadW_IsB {numbers pages : List Int} : ∀ x ∈ (pages.zip (bodiesV numbers pages).1).map fun x => (x.1, sealV x.1 2 x.2), IsB x.2 := by
  intro x hx
  obtain ⟨y, hy, rfl⟩ := List.mem_map.1 hx
  refine sealV_IsB (by decide) ?_
  have hy := (List.of_mem_zip hy).2
  unfold bodiesV at hy
  split at hy
  · cases hy
  split at hy
  · cases hy
  · obtain ⟨i, _, he⟩ := List.mem_map.1 hy
    rw [← he]
    exact bodyV_IsB _ _
theorem zip_len_le {α β : Type} (a : List α) (b : List β) : (a.zip b).length ≤ a.length := by rw [List.length_zip]; exact Nat.min_le_left _ _
theorem Lim.spread {D : DiskM} {k : Nat} {numbers pages : List Int} (h : Lim D k) (hk : k + pages.length ≤ 1000000) : Lim (spreadM D numbers pages).1 (k + pages.length) := by
  unfold spreadM
  split
  · exact h.mono (by omega)
  · have hle := zip_len_le pages (bodiesV numbers pages).1
    refine Lim.then (k := k + pages.length) ?_ (Nat.le_refl _) fun D' h' => h'.sync
    refine (Lim.writes' h (by rw [List.length_map]; omega) spreadW_IsB).mono ?_
    rw [List.length_map]
    omega
theorem superP_IsB (s : Sup) : IsB (superP s).2 := sealV_IsB (by decide) (superB_IsB _ _)
theorem Lim.seal {D : DiskM} {k : Nat} {s : Sup} (h : Lim D k) (hk : k < 1000000) : Lim (sealM D s).1 (k + 1) :=
  Lim.then (h.write hk (superP_IsB s)) (Nat.le_refl _) fun D' h' => h'.sync

/-! ### spread -/
theorem zip_take_succ {numbers pages : List Int} {i : Nat} {bs : List (List Int)} (hp : i < pages.length) (hb : i < bs.length) : (pages.zip bs).drop i = (pages[i], bs[i]) :: (pages.zip bs).drop (i + 1) := by
  rw [List.drop_eq_getElem_cons (by rw [List.length_zip]; omega)]
  simp

theorem PSpread_ok {w : World} {dbk k : Nat} {FD : List Nat} {D : DiskM} {sn sp : Sl} {numbers pages : List Int} {K : Int → World → Prop} (h : DiskAt w dbk FD D) (hD : Lim D k) (hk6 : k + pages.length ≤ 1000000) (hv : Hv w) (hg : HG ∉ FD)
    (hn : Rd FD w sn numbers) (hp : Rd FD w sp pages) (hnl : numbers.length ≤ 100000) (hpl : pages.length ≤ 100000) (hpu : ∀ x ∈ pages, U32 x)
    (hk : ∀ F' w', DiskAt w' dbk F' (spreadM D numbers pages).1 → Fr FD w w' → (∀ b ∈ F', b ∈ FD ∨ w.heap.size ≤ b) → K (spreadM D numbers pages).2 w') :
    call Tryz.prog 89 [.pointer (some ⟨dbk, 0, none⟩), .slice sn.a sn.len sn.cap, .slice sp.a sp.len sp.cap] [.one (.int .i64)] w K := by
  refine pager_spread_of (d := some ⟨dbk, 0, none⟩) (numbers := sn) (pages := sp) ?_
  unfold pager_spreadF
  refine FBodies_ok (G := FD) hn hp hnl hpl h.lt fun s1 B1 w1 b1 f1 n1 => ?_
  refine cond_of (fun hc => ?_) (fun hc => ?_)
  · have hc : (bodiesV numbers pages).2 ≠ 0 := by simpa using hc
    have := hk FD w1 (by rw [spreadM, if_pos hc]; exact h.frame0 f1) (f1.mono fun b hb => by cases hb) (fun b hb => .inl hb)
    rw [spreadM, if_pos hc] at this
    exact this
  have hc0 : ¬ (bodiesV numbers pages).2 ≠ 0 := by simpa using hc
  rw [spreadM, if_neg hc0] at hk
  have hbl : (bodiesV numbers pages).1.length = pages.length ∧ ∀ b ∈ (bodiesV numbers pages).1, b.length ≤ 500 ∧ IsB b := by
    unfold bodiesV at hc0 ⊢
    split
    · rename_i h1; rw [if_pos h1] at hc0; exact absurd (by decide) hc0
    rename_i h1; rw [if_neg h1] at hc0
    split
    · rename_i h1; rw [if_pos h1] at hc0; exact absurd (by decide) hc0
    · refine ⟨bodiesL_len _ _ _, fun b hb => ?_⟩
      obtain ⟨i, _, rfl⟩ := List.mem_map.1 hb
      rw [bodyV_len]
      have := chunk_len numbers i
      unfold chunk at this
      exact ⟨by omega, bodyV_IsB _ _⟩
  generalize (bodiesV numbers pages).1 = bs at hk hbl b1
  obtain ⟨sls, q1, q2, q3⟩ := b1
  have hsl := q1.len
  have hbl1 := hbl.1
  have hlp := hp.1
  refine loop_ind (fun x w' => ∃ (i j : Nat) (F' : List Nat) (D' : DiskM), x = i ∧ i ≤ pages.length ∧ DiskAt w' dbk F' D' ∧ Lim D' (k + i) ∧ Fr FD w w' ∧ Fr FD w1 w' ∧ (∀ b ∈ F', b ∈ FD ∨ w1.heap.size ≤ b) ∧
      andThen (writesM ((pages.zip bs).map fun x => (x.1, sealV x.1 2 x.2)) D) syncM = andThen (writesM (((pages.zip bs).drop i).map fun x => (x.1, sealV x.1 2 x.2)) D') syncM) (fun x _ => ((pages.length : Int) - x).toNat)
    ⟨0, 0, FD, D, rfl, by omega, h.frame0 f1, hD, f1.mono (fun b hb => by cases hb), .refl _ _, fun b hb => .inl hb, rfl⟩ ?_
  rintro x w2 ⟨i, j, F', D', rfl, hi, hd2, hD2, f2, f12, n2, he⟩ X hX
  have hv2 := hv.frame f2 hg
  have hsz := f1.size
  refine cond_of (fun hc => ?_) (fun hc => ?_)
  · have hil : i < pages.length := by have := of_decide_eq_true hc; dsimp only at this; omega
    have hib : i < bs.length := by omega
    have his : i < sls.length := by omega
    have hrs : Rds encS 1 FD w1 s1 sls := q1.rds encS_len (fun b hb hm => by have := h.lt b hm; have := n1 b hb; omega)
    have hrs2 : Rds encS 1 FD w2 s1 sls := hrs.frame f12 (fun b hb => .inl hb)
    have hp2 : Rd FD w2 sp pages := hp.frame f2 (fun b hb => .inl hb)
    refine Rds.get (c := .slice) (y := sls[i]) hrs2 i rfl (List.getElem?_eq_getElem his) rfl ?_
    refine Rd.at hp2 i rfl (List.getElem?_eq_getElem hil) ?_
    have hrow : RdB FD w1 sls[i] bs[i] := (q3 i _ _ (List.getElem?_eq_getElem his) (List.getElem?_eq_getElem hib)).weak fun b hb => .inl (List.mem_append_left _ hb)
    have hrow2 : RdB FD w2 sls[i] bs[i] := hrow.frame f12 (fun b hb => .inl hb)
    have hb5 := (hbl.2 _ (List.getElem_mem hib)).1
    have hpx := hpu _ (List.getElem_mem hil)
    refine seal_ok hrow2 hv2 (by omega) (fun h => by omega) fun _ b3 T3 w3 c3 f3 n3 => ?_
    refine Rd.at (hp2.frame0 f3) i rfl (List.getElem?_eq_getElem hil) ?_
    rw [wi' pages[i] (by omega)]
    have hsl3 := sealV_len (number := pages[i]) (kind := 2) hb5
    refine DWrite_ok (S := []) (hd2.frame0 f3) hD2.ok (rdB_blk (o := 0) (n := 512) c3 (by rw [hsl3]; exact Nat.le_refl _) (Nat.le_refl _) (by simp)) fun F4 w4 d4 f4 n4 => ?_
    rw [List.drop_zero, List.take_of_length_le (by rw [hsl3]; exact Nat.le_refl _)] at d4 ⊢
    have hmem : ∀ b ∈ F', b ∈ FD ∨ w.heap.size ≤ b := fun b hb => by
      rcases n2 b hb with h | h
      · exact .inl h
      · exact .inr (by omega)
    have hs3 : w2.heap.size ≤ w3.heap.size := f3.size
    have hs2 := f12.size
    have f04 : Fr FD w w4 := (f2.trans' f3 (by simp)).trans' f4 hmem
    have f14 : Fr FD w1 w4 := (f12.trans' f3 (by simp)).trans' f4 n2
    have nn4 : ∀ b ∈ F4, b ∈ FD ∨ w1.heap.size ≤ b := fun b hb => by
      rcases n4 b hb with h | h
      · exact n2 b h
      · exact .inr (by omega)
    rw [zip_take_succ hil hib (numbers := numbers), List.map_cons, writesM] at he
    refine cond_of (fun hc => ?_) (fun hc => ?_)
    · have hc : (writeM D' pages[i] (sealV pages[i] 2 bs[i])).2 ≠ 0 := by simpa using hc
      have he2 : andThen (writesM ((pages.zip bs).map fun x => (x.1, sealV x.1 2 x.2)) D) syncM = writeM D' pages[i] (sealV pages[i] 2 bs[i]) := by
        rw [he]
        show andThen (andThen (writeM D' pages[i] (sealV pages[i] 2 bs[i])) _) syncM = _
        rw [show ∀ f, andThen (writeM D' pages[i] (sealV pages[i] 2 bs[i])) f = writeM D' pages[i] (sealV pages[i] 2 bs[i]) from fun f => if_neg hc]
        exact if_neg hc
      rw [he2] at hk
      exact hk F4 w4 d4 f04 (fun b hb => by
        rcases nn4 b hb with h | h
        · exact .inl h
        · exact .inr (by omega))
    · have hc : (writeM D' pages[i] (sealV pages[i] 2 bs[i])).2 = 0 := by simpa using hc
      rw [wi' _ (by omega)]
      refine hX _ _ ⟨i + 1, 0, F4, (writeM D' pages[i] (sealV pages[i] 2 bs[i])).1, by simp, by omega, d4, ?_, f04, f14, nn4, ?_⟩ (by omega)
      · have := hD2.write (n := pages[i]) (l := sealV pages[i] 2 bs[i]) (by omega) (sealV_IsB (by decide) (hbl.2 _ (List.getElem_mem hib)).2)
        rw [Nat.add_assoc] at this
        exact this
      · rw [he]
        show andThen (andThen (writeM D' pages[i] (sealV pages[i] 2 bs[i])) _) syncM = _
        rw [show ∀ f, andThen (writeM D' pages[i] (sealV pages[i] 2 bs[i])) f = f (writeM D' pages[i] (sealV pages[i] 2 bs[i])).1 from fun f => if_pos hc]
  · have : i = pages.length := by have := of_decide_eq_false hc; dsimp only at this; omega
    subst this
    have hd0 : (pages.zip bs).drop pages.length = [] := List.drop_eq_nil_of_le (zip_len_le _ _)
    rw [hd0] at he
    have he' : andThen (writesM ((pages.zip bs).map fun x => (x.1, sealV x.1 2 x.2)) D) syncM = syncM D' := he
    rw [he'] at hk
    refine DSync_ok hd2 hD2.ok fun F3 w3 d3 f3 n3 => ?_
    have hmem : ∀ b ∈ F', b ∈ FD ∨ w.heap.size ≤ b := fun b hb => by
      rcases n2 b hb with h | h
      · exact .inl h
      · exact .inr (by omega)
    exact hk F3 w3 d3 (f2.trans' f3 hmem) fun b hb => hmem b (n3 b hb)

end Go.Proofs.YtmbcedengdoamaaGreatDoor
end

section
/- The pager: seal, Format. Conditions: those that stand in each line. -/
set_option linter.unusedVariables false
set_option linter.unusedSimpArgs false
namespace Go.Proofs.YtmbcedengdoamaaGreatDoor
open Go Go.Pt
attribute [local irreducible] ld ldA ldV fld fldA newZ st new idx idxS idxA slc slcS slcP mkS chk nn call callV inv run runQ runU join loop held ext rng undefer s2a nxt ent IntKind.wrap

/-- The disk has turned from one world to another, and nothing else. -/
structure DS (dbk : Nat) (w : World) (FD : List Nat) (w' : World) (F' : List Nat) (D' : DiskM) (k : Nat) : Prop where
  at_ : DiskAt w' dbk F' D'
  lim : Lim D' k
  fr : Fr FD w w'
  nw : ∀ b ∈ F', b ∈ FD ∨ w.heap.size ≤ b
variable {dbk : Nat}
theorem DS.refl {w : World} {FD : List Nat} {D : DiskM} {k : Nat} (h : DiskAt w dbk FD D) (hl : Lim D k) : DS dbk w FD w FD D k := ⟨h, hl, .refl _ _, fun b hb => .inl hb⟩
theorem DS.trans {w w1 w2 : World} {FD F1 F2 : List Nat} {D1 D2 : DiskM} {k1 k2 : Nat} (h : DS dbk w FD w1 F1 D1 k1) (g : DS dbk w1 F1 w2 F2 D2 k2) : DS dbk w FD w2 F2 D2 k2 :=
  ⟨g.at_, g.lim, h.fr.trans' g.fr h.nw, fun b hb => by
    rcases g.nw b hb with h1 | h1
    · exact h.nw b h1
    · exact .inr (Nat.le_trans h.fr.size h1)⟩
theorem DS.frame0 {w w1 w2 : World} {FD F1 : List Nat} {D1 : DiskM} {k1 : Nat} (h : DS dbk w FD w1 F1 D1 k1) (f : Fr [] w1 w2) : DS dbk w FD w2 F1 D1 k1 :=
  ⟨h.at_.frame0 f, h.lim, h.fr.trans' f (by simp), h.nw⟩
theorem DS.hv {w w1 : World} {FD F1 : List Nat} {D1 : DiskM} {k1 : Nat} (h : DS dbk w FD w1 F1 D1 k1) (hv : Hv w) (hg : HG ∉ FD) : Hv w1 ∧ HG ∉ F1 :=
  ⟨hv.frame h.fr hg, fun hm => by
    rcases h.nw _ hm with h1 | h1
    · exact hg h1
    · have := hv.lt; omega⟩
theorem DS.rd {w w1 : World} {FD F1 : List Nat} {D1 : DiskM} {k1 : Nat} {s : Sl} {l : List Int} (h : DS dbk w FD w1 F1 D1 k1) (hr : Rd FD w s l) : Rd F1 w1 s l := hr.frame h.fr h.nw
theorem DS.lims {w w1 : World} {FD F1 : List Nat} {D1 : DiskM} {k1 k2 : Nat} (h : DS dbk w FD w1 F1 D1 k1) (hk : k1 ≤ k2) : DS dbk w FD w1 F1 D1 k2 := ⟨h.at_, h.lim.mono hk, h.fr, h.nw⟩

theorem DWrite_ds {w w1 : World} {FD F1 : List Nat} {D : DiskM} {k : Nat} {n : Int} {s : Sl} {l : List Int} {S : List Nat} {K : Int → World → Prop} (h : DS dbk w FD w1 F1 D k) (hk : k < 1000000) (hs : RdB S w1 s l) (hB : IsB l)
    (kk : ∀ w2 F2, DS dbk w FD w2 F2 (writeM D n l).1 (k + 1) → Fr F1 w1 w2 → (∀ b ∈ F2, b ∈ F1 ∨ w1.heap.size ≤ b) → K (writeM D n l).2 w2) :
    call Tryz.prog 28 [.pointer (some ⟨dbk, 0, none⟩), .int .i64 n, .slice s.a s.len s.cap] [.one (.int .i64)] w1 K := by
  refine DWrite_ok h.at_ h.lim.ok hs fun F2 w2 d2 f2 n2 => ?_
  exact kk w2 F2 (h.trans ⟨d2, h.lim.write hk hB, f2, n2⟩) f2 n2
theorem DSync_ds {w w1 : World} {FD F1 : List Nat} {D : DiskM} {k : Nat} {K : Int → World → Prop} (h : DS dbk w FD w1 F1 D k)
    (kk : ∀ w2 F2, DS dbk w FD w2 F2 (syncM D).1 k → Fr F1 w1 w2 → (∀ b ∈ F2, b ∈ F1 ∨ w1.heap.size ≤ b) → K (syncM D).2 w2) :
    call Tryz.prog 87 [.pointer (some ⟨dbk, 0, none⟩)] [.one (.int .i64)] w1 K := by
  refine DSync_ok h.at_ h.lim.ok fun F2 w2 d2 f2 n2 => ?_
  exact kk w2 F2 (h.trans ⟨d2, h.lim.sync, f2, fun b hb => .inl (n2 b hb)⟩) f2 (fun b hb => .inl (n2 b hb))

theorem PSeal_ds {w w1 : World} {FD F1 : List Nat} {D : DiskM} {k : Nat} {s : Sup} {K : Int → World → Prop} (h : DS dbk w FD w1 F1 D k) (hk : k < 1000000) (hv : Hv w1) (hs : s.2.length = 27) (hq : 0 ≤ s.1)
    (kk : ∀ w2 F2, DS dbk w FD w2 F2 (sealM D s).1 (k + 1) → Fr F1 w1 w2 → (∀ b ∈ F2, b ∈ F1 ∨ w1.heap.size ≤ b) → K (sealM D s).2 w2) :
    call Tryz.prog 90 [.pointer (some ⟨dbk, 0, none⟩), .agg (supV s.1 s.2).toArray] [.one (.int .i64)] w1 K := by
  refine pager_seal_of (d := some ⟨dbk, 0, none⟩) (s := supV s.1 s.2) ?_
  unfold pager_sealF
  refine Own.new' (Own.start [] w1) fun r w2 e2 f2 ho => ?_
  have c0 : (supV s.1 s.2).toArray[0]? = some (.int .u64 s.1) := rfl
  refine Own.ld (c := .int .u64) ho.drew 0 rfl s.1 c0 ?_
  refine ldSup (ho.drew.at (i := 0) rfl) hs ?_
  refine SWrite_ok (hv.frame0 ho.drew.fr) hs fun b T w3 c3 f3 n3 => ?_
  have ho3 := ho.drew.frame0 f3
  refine held_one (ho3.cell 0 rfl c0) ?_
  have ht := Int.tmod_eq_emod_of_nonneg (b := 2) hq
  rw [wi' (Int.tmod s.1 2) (by omega)]
  have hlen : (sealV (IntKind.wrap .u32 (Int.tmod s.1 2)) 1 (superB s.1 s.2)).length = 512 := sealV_len (by rw [superB_len hs]; decide)
  have hrd : RdB [] w3 ⟨some ⟨b, 0, none⟩, 512, 512⟩ (superP s).2 := by
    have := rdB_blk (S := []) (o := 0) (n := 512) (cap := 512) c3 (by rw [hlen]; exact Nat.le_refl _) (Nat.le_refl _) (by simp)
    rw [List.drop_zero, List.take_of_length_le (Nat.le_of_eq hlen)] at this
    exact this
  show call Tryz.prog 28 [.pointer (some ⟨dbk, 0, none⟩), .int .i64 (superP s).1, _] _ _ _
  refine DWrite_ds (h.frame0 ho3.fr) hk hrd (superP_IsB s) fun w4 F4 d4 f4 n4 => ?_
  have hsz := ho3.fr.size
  refine cond_of (fun hc => ?_) (fun hc => ?_)
  · have hc : (writeM D (superP s).1 (superP s).2).2 ≠ 0 := by simpa using hc
    have e : sealM D s = writeM D (superP s).1 (superP s).2 := if_neg hc
    rw [e] at kk
    exact kk w4 F4 d4 ((ho3.fr.mono fun b hb => by cases hb).trans f4) fun b hb => by
      rcases n4 b hb with h | h
      · exact .inl h
      · exact .inr (by omega)
  · have hc : (writeM D (superP s).1 (superP s).2).2 = 0 := by simpa using hc
    have e : sealM D s = syncM (writeM D (superP s).1 (superP s).2).1 := if_pos hc
    rw [e] at kk
    refine DSync_ds d4 fun w5 F5 d5 f5 n5 => ?_
    have g4 : DS dbk w1 F1 w4 F4 (writeM D (superP s).1 (superP s).2).1 (k + 1) := ⟨d4.at_, d4.lim, (ho3.fr.mono (T := F1) fun b hb => by cases hb).trans f4, fun b hb => by
      rcases n4 b hb with h | h
      · exact .inl h
      · exact .inr (by omega)⟩
    have g5 := g4.trans ⟨d5.at_, d5.lim, f5, n5⟩
    exact kk w5 F5 d5 g5.fr g5.nw

theorem PSpread_ds {w w1 : World} {FD F1 : List Nat} {D : DiskM} {k : Nat} {sn sp : Sl} {numbers pages : List Int} {K : Int → World → Prop} (h : DS dbk w FD w1 F1 D k) (hk6 : k + pages.length ≤ 1000000) (hv : Hv w1) (hg : HG ∉ F1)
    (hn : Rd F1 w1 sn numbers) (hp : Rd F1 w1 sp pages) (hnl : numbers.length ≤ 100000) (hpl : pages.length ≤ 100000) (hpu : ∀ x ∈ pages, U32 x)
    (kk : ∀ w2 F2, DS dbk w FD w2 F2 (spreadM D numbers pages).1 (k + pages.length) → Fr F1 w1 w2 → (∀ b ∈ F2, b ∈ F1 ∨ w1.heap.size ≤ b) → K (spreadM D numbers pages).2 w2) :
    call Tryz.prog 89 [.pointer (some ⟨dbk, 0, none⟩), .slice sn.a sn.len sn.cap, .slice sp.a sp.len sp.cap] [.one (.int .i64)] w1 K := by
  refine PSpread_ok h.at_ h.lim hk6 hv hg hn hp hnl hpl hpu fun F2 w2 d2 f2 n2 => ?_
  exact kk w2 F2 (h.trans ⟨d2, h.lim.spread hk6, f2, n2⟩) f2 n2

theorem andThen_assoc (a : DiskM × Int) (f g : DiskM → DiskM × Int) : andThen (andThen a f) g = andThen a fun D => andThen (f D) g := by
  unfold andThen
  by_cases h : a.2 = 0
  · rw [if_pos h, if_pos h]
  · rw [if_neg h, if_neg h, if_neg h]
theorem andThen_bad {a : DiskM × Int} {f : DiskM → DiskM × Int} (h : a.2 ≠ 0) : andThen a f = a := if_neg h
theorem andThen_go {a : DiskM × Int} {f : DiskM → DiskM × Int} (h : a.2 = 0) : andThen a f = f a.1 := if_pos h

theorem build_sup4 {a b c : Int} (w : World) : (Instr.build 58 #[(0, .int .u64 1), (1, .int .u32 a), (2, .int .u32 b), (3, .int .u32 c)]).run Tryz.prog w = .ok (.agg (supV 1 ([a, b, c] ++ zs 24)).toArray) w := by
  obtain ⟨z, hz, hzs⟩ := Option.map_eq_some_iff.1 supZ
  have hzc : z.cells = (supV 0 (zs 27)).toArray := by rw [← hzs]
  refine run_build (parts := [(0, .int .u64 1), (1, .int .u32 a), (2, .int .u32 b), (3, .int .u32 c)]) (offs := #[(0, 1), (1, 1), (2, 1), (3, 1), (4, 24)]) hz (by kernel_rfl) (fun w => by kernel_rfl) ?_ w
  rw [hzc, fill_step (o := 0) (s := 1) rfl rfl (Nat.le_of_ble_eq_true rfl), fill_step (o := 1) (s := 1) rfl rfl (Nat.le_of_ble_eq_true rfl), fill_step (o := 2) (s := 1) rfl rfl (Nat.le_of_ble_eq_true rfl), fill_step (o := 3) (s := 1) rfl rfl (Nat.le_of_ble_eq_true rfl)]
  rfl

def fmtTail (D : DiskM) : DiskM × Int :=
  andThen (spreadM D ((allV D.safe.length).drop (needP (allV D.safe.length).length)) ((allV D.safe.length).take (needP (allV D.safe.length).length))) fun D => sealM D (fmtSup D.safe.length)

theorem PFormat_ok {w : World} {FD : List Nat} {D : DiskM} {k : Nat} {K : Int → World → Prop} (h : DiskAt w dbk FD D) (hl : Lim D k) (hk : k ≤ 900000) (h8 : 2 ≤ D.safe.length) (hv : Hv w) (hg : HG ∉ FD)
    (kk : ∀ w' F', DS dbk w FD w' F' (formatM D).1 (k + 5000) → K (formatM D).2 w') :
    call Tryz.prog 39 [.pointer (some ⟨dbk, 0, none⟩)] [.one (.int .i64)] w K := by
  refine pager_Format_of (d := some ⟨dbk, 0, none⟩) ?_
  unfold pager_FormatF
  have hsafe := hl.ok.safe
  have h0 := DS.refl h hl
  have zlen : (zs 512).length = 512 := zs_len _
  have zrd : ∀ {S0 : List Nat} {w0 w' : World} {L : List (Nat × Obj)} {b : Nat} {T : TypeId}, Own S0 w0 w' ((b, .cells (List.replicate (512 : Int).toNat (Value.int .u8 0)).toArray T (0, 0)) :: L) → RdB [] w' ⟨some ⟨b, 0, none⟩, (512 : Int).toNat, (512 : Int).toNat⟩ (zs 512) := fun ho => by
    have hb := ho.at (i := 0) rfl
    rw [zs_bytes] at hb
    have := rdB_blk (S := []) (o := 0) (n := 512) (cap := 512) hb (by rw [show (512 : Int).toNat = 512 from rfl, zlen]; exact Nat.le_refl _) (Nat.le_refl _) (by simp)
    rw [List.drop_zero, List.take_of_length_le (by rw [show (512 : Int).toNat = 512 from rfl, zlen]; exact Nat.le_refl _)] at this
    exact this
  -- the first block
  refine loop_step fun X hX => ?_
  refine cond_true rfl ?_
  refine Own.mk1 (Own.start [] w) (by decide) (by decide) (by decide) (by decide) fun b1 w1 e1 ho1 => ?_
  refine DWrite_ds (h0.frame0 ho1.fr) (by omega) (zrd ho1) (IsB.zs 512) fun w2 F2 d2 f2 n2 => ?_
  refine cond_of (fun hc => ?_) (fun hc => ?_)
  · have hc : (writeM D 0 (zs 512)).2 ≠ 0 := by simpa using hc
    have e : formatM D = writeM D 0 (zs 512) := andThen_bad hc
    rw [e] at kk
    exact kk w2 F2 (d2.lims (by omega))
  have hc1 : (writeM D 0 (zs 512)).2 = 0 := by simpa using hc
  rw [formatM, andThen_go hc1] at kk
  have hD2 := size_write (D := D) (n := 0) (l := zs 512)
  generalize (writeM D 0 (zs 512)).1 = D2 at d2 kk hD2
  rw [wi' (0 + 1) (by decide)]
  refine hX _ _ (loop_norm 1 rfl fun X hX => ?_)
  -- the second one
  refine cond_true rfl ?_
  refine Own.mk1 (Own.start [] w2) (by decide) (by decide) (by decide) (by decide) fun b3 w3 e3 ho3 => ?_
  refine DWrite_ds (d2.frame0 ho3.fr) (by omega) (zrd ho3) (IsB.zs 512) fun w4 F4 d4 f4 n4 => ?_
  refine cond_of (fun hc => ?_) (fun hc => ?_)
  · have hc : (writeM D2 1 (zs 512)).2 ≠ 0 := by simpa using hc
    rw [andThen_bad hc] at kk
    exact kk w4 F4 (d4.lims (by omega))
  have hc2 : (writeM D2 1 (zs 512)).2 = 0 := by simpa using hc
  rw [andThen_go hc2] at kk
  have hD4 := size_write (D := D2) (n := 1) (l := zs 512)
  generalize (writeM D2 1 (zs 512)).1 = D4 at d4 kk hD4
  rw [wi' (1 + 1) (by decide)]
  refine hX _ _ (loop_norm 2 rfl fun X hX => ?_)
  refine cond_false rfl ?_
  refine DSync_ds d4 fun w5 F5 d5 f5 n5 => ?_
  refine cond_of (fun hc => ?_) (fun hc => ?_)
  · have hc : (syncM D4).2 ≠ 0 := by simpa using hc
    rw [andThen_bad hc] at kk
    exact kk w5 F5 (d5.lims (by omega))
  have hc3 : (syncM D4).2 = 0 := by simpa using hc
  rw [andThen_go hc3] at kk
  have hD5 := size_sync (D := D4)
  generalize (syncM D4).1 = D5 at d5 kk hD5
  have hn5 : D5.safe.length = D.safe.length := by omega
  have al := allV_len D.safe.length
  obtain ⟨hv5, hg5⟩ := d5.hv hv hg
  -- all pages' numbers
  refine loop_ind (fun x w' => ∃ (i : Nat) (B : List Nat), x.2 = ((i + 2 : Nat) : Int) ∧ i ≤ D.safe.length - 2 ∧ BufU w' x.1 ((allV D.safe.length).take i) B ∧ Fr [] w5 w' ∧ ∀ b ∈ B, w5.heap.size ≤ b) (fun x _ => ((D.safe.length : Int) - x.2).toNat)
    ⟨0, [], rfl, by omega, .nil _ _ _, .refl _ _, by simp⟩ ?_
  rintro ⟨s, x⟩ w6 ⟨i, B, hx, hi, hb, f6, n6⟩ Y hY
  simp only at hx hb
  subst hx
  have d6 := d5.frame0 f6
  refine Blocks_ok d6.at_ ?_
  dsimp only
  refine cond_of (fun hc => ?_) (fun hc => ?_)
  · have hil : i < D.safe.length - 2 := by have := of_decide_eq_true hc; omega
    rw [wu32 ((i + 2 : Nat) : Int) (by omega)]
    refine pushU hb (by rw [List.length_take]; omega) fun s7 B7 w7 b7 f7 n7 => ?_
    rw [wi' _ (by omega)]
    refine hY _ _ ⟨i + 1, B7, by simp; omega, by omega, ?_, f6.trans' f7 (fun b hb => .inr (n6 b hb)), fun b hb => ?_⟩ (by dsimp only; omega)
    · have e : (allV D.safe.length).take (i + 1) = (allV D.safe.length).take i ++ [((i + 2 : Nat) : Int)] := by
        rw [List.take_succ_eq_append_getElem (by omega)]
        congr 2
        have h1 := allV_at hil
        have h2 := List.getElem?_eq_getElem (l := allV D.safe.length) (i := i) (by omega)
        rw [h2] at h1
        rw [Option.some.inj h1]
        simp
      rw [e]; exact b7
    · rcases n7 b hb with h | h
      · exact n6 b h
      · exact Nat.le_trans f6.size h
  · have hie : i = D.safe.length - 2 := by have := of_decide_eq_false hc; omega
    subst hie
    rw [List.take_of_length_le (by omega)] at hb
    have hsl := hb.len
    rw [hsl]
    refine FNeed_ok (by omega) ?_
    have hnp := needP_le (n := (allV D.safe.length).length)
    have away : ∀ b ∈ B, b ∉ F5 := fun b hb hm => by have := n6 b hb; have := d5.at_.lt b hm; omega
    have rall : Rd F5 w6.drew s (allV D.safe.length) := (hb.frame0 (Fr.refl [] w6).drew).rds encU_len away
    refine Rds.part (k := 1) rall (needP (allV D.safe.length).length) (allV D.safe.length).length rfl (by show (s.len : Int) = _; omega) hnp (Nat.le_refl _) fun sn hsn rn _ => ?_
    refine Rds.part (k := 1) rall 0 (needP (allV D.safe.length).length) rfl rfl (by omega) hnp fun sp hsp rp _ => ?_
    rw [List.take_length] at rn
    rw [List.drop_zero] at rp
    have d6d := d6.frame0 (Fr.refl [] w6).drew
    have hv6 := (hv5.frame0 f6).frame0 (Fr.refl [] w6).drew
    rw [hn5] at kk
    refine PSpread_ds d6d (by rw [List.length_take]; omega) hv6 hg5 rn rp (by rw [List.length_drop]; omega) (by rw [List.length_take]; omega) (fun x hx => by
      have := allV_mem.1 (List.mem_of_mem_take hx)
      constructor <;> omega) fun w7 F7 d7 f7 n7 => ?_
    have d7 := d7.lims (k2 := k + 2 + 4096) (by rw [List.length_take]; omega)
    refine cond_of (fun hc => ?_) (fun hc => ?_)
    · have hc : (spreadM D5 ((allV D.safe.length).drop (needP (allV D.safe.length).length)) ((allV D.safe.length).take (needP (allV D.safe.length).length))).2 ≠ 0 := by simpa using hc
      rw [andThen_bad hc] at kk
      exact kk w7 F7 (d7.lims (by omega))
    have hc4 : (spreadM D5 ((allV D.safe.length).drop (needP (allV D.safe.length).length)) ((allV D.safe.length).take (needP (allV D.safe.length).length))).2 = 0 := by simpa using hc
    rw [andThen_go hc4] at kk
    have hD7 := size_spread (D := D5) (a := (allV D.safe.length).drop (needP (allV D.safe.length).length)) (b := (allV D.safe.length).take (needP (allV D.safe.length).length))
    generalize (spreadM D5 ((allV D.safe.length).drop (needP (allV D.safe.length).length)) ((allV D.safe.length).take (needP (allV D.safe.length).length))).1 = D7 at d7 kk hD7
    have hn7 : D7.safe.length = D.safe.length := by omega
    refine Blocks_ok d7.at_ ?_
    rw [hn7] at kk ⊢
    have hfree : IntKind.wrap .i64 (((allV D.safe.length).length : Int) - (needP (allV D.safe.length).length : Int)) = ((allV D.safe.length).length : Int) - (needP (allV D.safe.length).length : Int) := wi' _ (by omega)
    rw [hfree]
    refine runQ_of (ts := [Ty1.raw]) (supV (fmtSup D.safe.length).1 (fmtSup D.safe.length).2) (build_sup4 w7) ?_
    refine PSeal_ds (s := fmtSup D.safe.length) d7 (by omega) (d7.hv hv hg).1 rfl (by show (0 : Int) ≤ 1; decide) fun w8 F8 d8 f8 n8 => ?_
    exact kk w8 F8 (d8.lims (by omega))

end Go.Proofs.YtmbcedengdoamaaGreatDoor
end
