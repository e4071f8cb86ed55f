/- Rules for maps whose keys are integers or strings: a map is the row of its pairs. Conditions: those that stand in each line. -/
import Derived.Test.YtmmldfipakcmaaaPtI
import Derived.MapKept
set_option linter.unusedVariables false
namespace Go.Pt
open Go

/-- How keys are told apart, at a key type. -/
structure KeyOk {α : Type} [DecidableEq α] (P : Program) (kt : TypeId) (kv : α → Value) : Prop where
  desc : ∃ d, P.underlying kt = some d ∧ ∀ a b, Instr.sameNow d (kv a) (kv b) = some (decide (a = b))
  check : ∀ e a w, (Instr.checkKey e 10000 kt (kv a)).run P w = .ok () w
  stays : ∀ a w, (Instr.keyThatStays (kv a) (kv a)).run P w = .ok (kv a) w

theorem keyOk_int {P : Program} {kt : TypeId} {k : IntKind} (h : P.underlying kt = some (.int k)) : KeyOk P kt (fun n : Int => Value.int k n) where
  desc := ⟨_, h, fun a b => by simp [Instr.sameNow]; rfl⟩
  check := fun e a w => Go.MapKept.run_checkKey h (by simp [Go.MapKept.IsKey]) e 9999
  stays := fun a w => by simp [Instr.keyThatStays, Instr.sameBits]

section
variable {α : Type} [DecidableEq α]

theorem map_erase {β γ : Type} (g : β → γ) : ∀ (l : List β) (i : Nat), (l.eraseIdx i).map g = (l.map g).eraseIdx i
  | [], _ => rfl
  | _ :: _, 0 => rfl
  | a :: l, i + 1 => by simp only [List.eraseIdx_cons_succ, List.map_cons, map_erase g l i]

/-- The map's pairs, in the order of its entries. -/
def Ents (kv : α → Value) (es : List MapEntry) (f : List (α × Value)) : Prop := es.map (fun e => (e.key, e.val)) = f.map (fun p => (kv p.1, p.2))

def posOf (x : α) : List (α × Value) → Option (Nat × Value)
  | [] => none
  | p :: r => if x = p.1 then some (0, p.2) else (posOf x r).map fun q => (q.1 + 1, q.2)

theorem findNow_pos {kv : α → Value} {d : TypeDesc} (hd : ∀ a b, Instr.sameNow d (kv a) (kv b) = some (decide (a = b))) (x : α) : ∀ (es : List MapEntry) (f : List (α × Value)) (i : Nat), Ents kv es f →
    Instr.findNow d (kv x) es i = some ((posOf x f).map fun q => (i + q.1, q.2))
  | [], [], i, _ => rfl
  | [], _ :: _, _, h => by simp [Ents] at h
  | _ :: _, [], _, h => by simp [Ents] at h
  | e :: es, p :: f, i, h => by
    simp only [Ents, List.map_cons, List.cons.injEq, Prod.mk.injEq] at h
    obtain ⟨⟨h1, h2⟩, h3⟩ := h
    simp only [Instr.findNow, h1, hd, posOf]
    by_cases hx : x = p.1
    · simp [hx, h2]
    · simp only [hx, decide_false, if_false]
      rw [findNow_pos hd x es f (i + 1) h3]
      cases posOf x f with
      | none => rfl
      | some q => simp; omega

variable {P : Program} {w : World} {kt : TypeId} {kv : α → Value}

theorem run_findKey (K : KeyOk P kt kv) {es : List MapEntry} {f : List (α × Value)} (h : Ents kv es f) (x : α) : (Instr.findKey kt (kv x) es).run P w = .ok (posOf x f) w := by
  obtain ⟨d, hd, hs⟩ := K.desc
  unfold Instr.findKey
  simp only [Sem.run_bind, run_underlying hd, Result.andThen_ok, findNow_pos hs x es f 0 h, Sem.run_pure]
  congr 1
  cases posOf x f with
  | none => rfl
  | some q => simp

/-- Block b is a map with the pairs f. -/
def MapAt (kv : α → Value) (w : World) (b : Nat) (f : List (α × Value)) : Prop := ∃ es c, w.heap[b]? = some (.map es c) ∧ Ents kv es.toList f

theorem run_lookup {t et : TypeId} {z : Value} (ht : P.underlying t = some (.map kt et)) (hz : ∀ w, (zeroValue et).run P w = .ok z w) (K : KeyOk P kt kv) {b : Nat} {f : List (α × Value)} (h : MapAt kv w b f) (x : α) :
    (Instr.lookup t (.map (some b)) (kv x) false).run P w = .ok (match posOf x f with | some q => q.2 | none => z) w := by
  obtain ⟨es, c, hb, he⟩ := h
  cases hp : posOf x f with
  | none => simp [Instr.lookup, run_underlying ht, Go.MapKept.run_getObj_map hb, K.check, run_findKey K he, hp, hz]
  | some q => simp [Instr.lookup, run_underlying ht, Go.MapKept.run_getObj_map hb, K.check, run_findKey K he, hp]

theorem run_lookupOk {t et : TypeId} {z : Value} (ht : P.underlying t = some (.map kt et)) (hz : ∀ w, (zeroValue et).run P w = .ok z w) (K : KeyOk P kt kv) {b : Nat} {f : List (α × Value)} (h : MapAt kv w b f) (x : α) :
    (Instr.lookup t (.map (some b)) (kv x) true).run P w = .ok (match posOf x f with | some q => .tuple #[q.2, .bool true] | none => .tuple #[z, .bool false]) w := by
  obtain ⟨es, c, hb, he⟩ := h
  cases hp : posOf x f with
  | none => simp [Instr.lookup, run_underlying ht, Go.MapKept.run_getObj_map hb, K.check, run_findKey K he, hp, hz]
  | some q => simp [Instr.lookup, run_underlying ht, Go.MapKept.run_getObj_map hb, K.check, run_findKey K he, hp]

/-- A new key. -/
theorem run_mapNew {t et : TypeId} {v : Value} (ht : P.underlying t = some (.map kt et)) (K : KeyOk P kt kv) {b : Nat} {f : List (α × Value)} (h : MapAt kv w b f) (x : α) (hx : posOf x f = none) :
    ∃ o, (Instr.mapUpdate t (.map (some b)) (kv x) v).run P w = .ok () (upd w b o) ∧ MapAt kv (upd w b o) b (f ++ [(x, v)]) := by
  obtain ⟨es, c, hb, he⟩ := h
  refine ⟨.map (es.push ⟨kv x, v, c⟩) (c + 1), ?_, es.push ⟨kv x, v, c⟩, c + 1, ?_, ?_⟩
  · simp [Instr.mapUpdate, run_underlying ht, Go.MapKept.run_getObj_map hb, K.check, run_findKey K he, hx, Go.MapKept.run_setObj_map _ hb]
    rfl
  · rw [heap_upd _ _ _ _ (lt_of_blk hb), if_pos rfl]
  · simp only [Ents] at he ⊢
    simp [he]

/-- A key that goes. -/
theorem run_mapDel {t et ty : TypeId} (ht : P.underlying t = some (.map kt et)) (K : KeyOk P kt kv) {b : Nat} {f : List (α × Value)} (h : MapAt kv w b f) (x : α) :
    ∃ o, (Builtin.delete_ #[t, kt] ty #[.map (some b), kv x]).run P w = .ok (.tuple #[]) (upd w b o) ∧ MapAt kv (upd w b o) b (match posOf x f with | some q => f.eraseIdx q.1 | none => f) := by
  obtain ⟨es, c, hb, he⟩ := h
  cases hp : posOf x f with
  | none =>
    refine ⟨.map es c, ?_, es, c, ?_, he⟩
    · simp [Builtin.delete_, run_underlying ht, Go.MapKept.run_getObj_map hb, K.check, run_findKey K he, hp, Go.MapKept.run_setObj_map _ hb]
      rfl
    · rw [heap_upd _ _ _ _ (lt_of_blk hb), if_pos rfl]
  | some q =>
    refine ⟨.map (es.eraseIdxIfInBounds q.1) c, ?_, es.eraseIdxIfInBounds q.1, c, ?_, ?_⟩
    · simp [Builtin.delete_, run_underlying ht, Go.MapKept.run_getObj_map hb, K.check, run_findKey K he, hp, Go.MapKept.run_setObj_map _ hb]
      rfl
    · rw [heap_upd _ _ _ _ (lt_of_blk hb), if_pos rfl]
    · have h1 : (es.eraseIdxIfInBounds q.1).toList = es.toList.eraseIdx q.1 := by simp
      rw [h1]
      simp only [Ents] at he ⊢
      rw [map_erase, he, ← map_erase]
end

end Go.Pt
