/- The evaluator's combinators as they are meant, and that one operation's evaluation is sound against the model. No condition. -/
import Derived.Test.YtmmldfipakcmaaaPtA
set_option linter.unusedVariables false
namespace Go.Pt
open Go

/-! ### The combinators as they are meant -/
def ld (c : Cell) (a : Addr) (w : World) (K : c.El → Prop) : Prop := ∃ x : c.El, w.cell? a = some (c.mk x) ∧ K x
def ldA (cs : List Cell) (a : Addr) (w : World) (K : HL cs → Prop) : Prop := ∃ x : HL cs, cellsAt w a 0 (HL.mk cs x) ∧ K x
def stC (a : Addr) : Nat → List Value → World → (World → Prop) → Prop
  | _, [], w, K => K w
  | i, v :: vs, w, K => (v.oneCell' = true ∧ (∃ u, w.cell? (a.add i) = some u) ∧ w.frozen? (a.add i) = false) ∧ stC a (i + 1) vs (w.setCell (a.add i) v) K
def st (a : Addr) (vs : List Value) (w : World) (K : World → Prop) : Prop := stC a 0 vs w K
def new (o : Obj) (w : World) (K : Nat → World → Prop) : Prop := K w.heap.size (w.alloc o)
def idx (s : Sl) (i : Int) (size : Nat) (K : Addr → Prop) : Prop := ∃ a, s.a = some a ∧ (0 ≤ i ∧ i < (s.len : Int)) ∧ K (a.add (i.toNat * size))
def idxS (s : ByteArray) (i : Int) (K : Int → Prop) : Prop := ∃ b : UInt8, (0 ≤ i ∧ s[i.toNat]? = some b) ∧ K (b.toNat : Int)
def idxA (c : Cell) (n : Nat) (cs : List Value) (i : Int) (K : c.El → Prop) : Prop := ∃ x : c.El, (0 ≤ i ∧ i < (n : Int) ∧ cs[i.toNat]? = some (c.mk x)) ∧ K x
def slc (s : Sl) (lo hi mx : Option Int) (size : Nat) (K : Sl → Prop) : Prop :=
  (0 ≤ lo.getD 0 ∧ lo.getD 0 ≤ hi.getD s.len ∧ hi.getD s.len ≤ mx.getD s.cap ∧ mx.getD s.cap ≤ s.cap) ∧
  K ⟨if (mx.getD s.cap).toNat = (lo.getD 0).toNat then s.a else s.a.map (·.add ((lo.getD 0).toNat * size)), (hi.getD s.len).toNat - (lo.getD 0).toNat, (mx.getD s.cap).toNat - (lo.getD 0).toNat⟩
def slcS (s : ByteArray) (lo hi : Option Int) (K : ByteArray → Prop) : Prop :=
  (0 ≤ lo.getD 0 ∧ lo.getD 0 ≤ hi.getD s.size ∧ hi.getD s.size ≤ s.size) ∧ K (s.extract (lo.getD 0).toNat (hi.getD s.size).toNat)
def slcP (a : Addr) (n : Nat) (lo hi mx : Option Int) (size : Nat) (K : Sl → Prop) : Prop :=
  (0 ≤ lo.getD 0 ∧ lo.getD 0 ≤ hi.getD n ∧ hi.getD n ≤ mx.getD n ∧ mx.getD n ≤ n) ∧
  K ⟨some (if (mx.getD n).toNat = (lo.getD 0).toNat then a else a.add ((lo.getD 0).toNat * size)), (hi.getD n).toNat - (lo.getD 0).toNat, (mx.getD n).toNat - (lo.getD 0).toNat⟩
def mkCells (zero : List Value) (c : Nat) : Array Value := (Array.range c).map fun i => zero.toArray[i % zero.toArray.size]!
def mkS (el : TypeId) (zero : List Value) (size bytes : Nat) (l c : Int) (w : World) (K : Sl → World → Prop) : Prop :=
  (0 ≤ l ∧ l ≤ c ∧ (bytes : Int) * c ≤ 2 ^ 48 ∧ c ≤ 2 ^ 48) ∧ K ⟨some ⟨w.heap.size, 0, none⟩, l.toNat, c.toNat⟩ (w.alloc (.cells (mkCells (if c.toNat * size = 0 then [] else zero) (c.toNat * size)) el))
def chk (p K : Prop) : Prop := p ∧ K
def nn (p : Option Addr) (K : Addr → Prop) : Prop := match p with | some a => K a | none => False
def call (P : Program) (f : FuncId) (args : List Value) (ts : List Ty1) (w : World) (K : ElR ts → World → Prop) : Prop :=
  Calls P f args.toArray w fun e w' => ∃ x : ElR ts, e = .returned (resVal ts x) ∧ K x w'
def callV (P : Program) (v : Value) (args : List Value) (ts : List Ty1) (w : World) (K : ElR ts → World → Prop) : Prop :=
  ∃ (f : FuncId) (vs : List Value), (do let d ← Deferred.ofValue v args.toArray; invoke d.target d.args : Sem Next).run P w = .ok (.enter f vs.toArray) w ∧ call P f vs ts w K
def inv (P : Program) (v : Value) (name : String) (args : List Value) (ts : List Ty1) (w : World) (K : ElR ts → World → Prop) : Prop :=
  ∃ (f : FuncId) (vs : List Value), (callMethod v name args.toArray).run P w = .ok (.enter f vs.toArray) w ∧ call P f vs ts w K
def run (ts : List Ty1) (r : Result Value) (K : ElR ts → World → Prop) : Prop := ∃ x w', r = .ok (resVal ts x) w' ∧ K x w'
def runQ (ts : List Ty1) (r : World → Result Value) (w : World) (K : ElR ts → Prop) : Prop := ∃ x, r w = .ok (resVal ts x) w ∧ K x
def runU (r : Result Unit) (K : World → Prop) : Prop := ∃ w', r = .ok () w' ∧ K w'
def join (S : Type) (X : (S → World → Prop) → Prop) (Y : S → World → Prop) : Prop := ∃ Mid : S → World → Prop, X Mid ∧ ∀ s w, Mid s w → Y s w
def loop (S : Type) (B : (S → World → Prop) → S → World → Prop) (s : S) (w : World) : Prop := ∀ I : S → World → Prop, (∀ s w, B I s w → I s w) → I s w
def heldAll : List (World → Prop) → World → Prop
  | [], _ => True
  | [h], w => h w
  | h :: t, w => h w ∧ heldAll t w
def held (l : List (World → Prop)) (w : World) (K : Prop) : Prop := heldAll l w ∧ K

def std (P : Program) : Comb where
  ld := ld
  ldA := ldA
  st := st
  new := new
  idx := idx
  idxS := idxS
  idxA := idxA
  slc := slc
  slcS := slcS
  slcP := slcP
  mkS := mkS
  chk := chk
  call := call P
  callV := callV P
  inv := inv P
  run := run
  runQ := runQ
  runU := runU
  join := join
  loop := loop
  held := held

theorem heldAll_mem : ∀ {l : List (World → Prop)} {w : World}, heldAll l w → ∀ h ∈ l, h w
  | [], _, _, _, hm => by cases hm
  | [x], _, hh, h, hm => by
    simp at hm; subst hm; exact hh
  | x :: y :: t, w, hh, h, hm => by
    rcases List.mem_cons.1 hm with rfl | hm
    · exact hh.1
    · exact heldAll_mem (l := y :: t) hh.2 h hm

/-! ### Environments against frames -/
structure Rel (n : Nat) (e : Env) (a : Act) : Prop where
  size : a.tmps.size = n
  defers : a.defers = []
  get : ∀ t v, e.get t = some v → a.tmps.getD t undef = v

theorem Rel.ev {n : Nat} {e : Env} {a : Act} (h : Rel n e a) {x : Operand} {v : Value} (hx : e.ev x = some v) : a.eval x = v := by
  cases x with
  | tmp t => exact h.get t v hx
  | const u => simpa [Env.ev, Act.eval] using hx
  | global g => simpa [Env.ev, Act.eval] using hx
  | func f => simpa [Env.ev, Act.eval] using hx

theorem Rel.evs {n : Nat} {e : Env} {a : Act} (h : Rel n e a) : ∀ {xs : List Operand} {vs : List Value}, e.evs xs = some vs → xs.map a.eval = vs
  | [], vs, hx => by simp [Env.evs] at hx; subst hx; rfl
  | x :: xs, vs, hx => by
    simp only [Env.evs] at hx
    split at hx
    · rename_i v us h1 h2
      cases hx
      simp [h.ev h1, h.evs h2]
    · cases hx

theorem Rel.evArr {n : Nat} {e : Env} {a : Act} (h : Rel n e a) {xs : Array Operand} {vs : List Value} (hx : e.evs xs.toList = some vs) : xs.map a.eval = vs.toArray := by
  have := h.evs hx
  apply Array.ext'
  simpa using this

theorem Env.get_put (e : Env) (d t : Nat) (v : Value) : Env.get ((d, v) :: e) t = if d = t then some v else e.get t := by
  simp only [Env.get]
  by_cases h : d = t
  · subst h; simp
  · have : Nat.beq d t = false := by
      cases hb : Nat.beq d t
      · rfl
      · exact absurd (Nat.eq_of_beq_eq_true hb) h
    simp [this, h]

theorem Rel.put {n : Nat} {e : Env} {a : Act} (h : Rel n e a) {dst : Option Tmp} (hd : ∀ d, dst = some d → d < n) (v : Value) : Rel n (e.put dst v) (a.put dst v) := by
  cases dst with
  | none => exact h
  | some d =>
    refine ⟨by simp [Act.put, h.size], by simp [Act.put, h.defers], fun t u hu => ?_⟩
    simp only [Env.put, Env.get_put] at hu
    by_cases hdt : d = t
    · subst hdt
      simp at hu
      subst hu
      have := hd d rfl
      have hs := h.size
      simp [Act.put, hs, this]
    · simp [hdt] at hu
      have := h.get t u hu
      simpa [Act.put, Array.getElem?_setIfInBounds_ne hdt] using this

theorem oneInt_ev {n : Nat} {e : Env} {a : Act} (h : Rel n e a) {x : Option Operand} {r : Option Int} (hx : oneInt e x = some r) :
    (x = none ∧ r = none) ∨ ∃ y k i, x = some y ∧ r = some i ∧ a.eval y = .int k i := by
  cases x with
  | none => simp [oneInt] at hx; exact .inl ⟨rfl, hx.symm⟩
  | some y =>
    simp only [oneInt] at hx
    split at hx
    · rename_i k i he
      cases hx
      exact .inr ⟨y, k, i, rfl, rfl, h.ev he⟩
    · cases hx

/-! ### Programs that ask nothing of the world -/
def Quiet {α : Type} : Sem α → Prop
  | .pure _ => True
  | .program k => ∀ p, Quiet (k p)
  | .mark _ k => Quiet k
  | .halt _ => True
  | _ => False

theorem Quiet.run {α : Type} {P : Program} {s : Sem α} (h : Quiet s) (w w' w1 : World) (v : α) (hr : s.run P w = .ok v w1) : w1 = w ∧ s.run P w' = .ok v w' := by
  induction s with
  | pure a => simp [Sem.run] at hr ⊢; exact ⟨hr.2.symm, hr.1⟩
  | program k ih => exact ih P (h P) hr
  | mark m k ih => exact ih h hr
  | halt x => simp [Sem.run] at hr
  | _ => exact h.elim

theorem Quiet.bind {α β : Type} {s : Sem α} {f : α → Sem β} (h : Quiet s) (hf : ∀ a, Quiet (f a)) : Quiet (s >>= f) := by
  show Quiet (Sem.bind s f)
  induction s with
  | pure a => exact hf a
  | program k ih => exact fun p => ih p (h p)
  | mark m k ih => exact ih h
  | halt x => trivial
  | _ => exact h.elim

theorem Quiet.pure {α : Type} (a : α) : Quiet (Pure.pure a : Sem α) := trivial
theorem Quiet.stuck {α : Type} (s : String) : Quiet (Go.stuck s : Sem α) := trivial
theorem Quiet.unsup {α : Type} (s : Unsupported) : Quiet (Go.unsupported s : Sem α) := trivial
theorem Quiet.program' : Quiet Go.program := fun _ => trivial

theorem Quiet.underlying (t : TypeId) : Quiet (Go.underlying t) := by
  unfold Go.underlying
  exact .bind .program' fun p => by split <;> first | exact .pure _ | exact .stuck _
theorem Quiet.typeInfo (t : TypeId) : Quiet (Go.typeInfo t) := by
  unfold Go.typeInfo
  exact .bind .program' fun p => by split <;> first | exact .pure _ | exact .stuck _
theorem Quiet.zeroValue (t : TypeId) : Quiet (Go.zeroValue t) := by
  unfold Go.zeroValue
  exact .bind (.typeInfo t) fun p => by split <;> first | exact .pure _ | exact .unsup _
theorem Quiet.sizeOf (t : TypeId) : Quiet (Go.sizeOf t) := .bind (.typeInfo t) fun _ => .pure _

theorem Quiet.mapM {α β : Type} {f : α → Sem β} (hf : ∀ a, Quiet (f a)) (xs : Array α) : Quiet (xs.mapM f) := by
  rw [Array.mapM_eq_mapM_toList]
  have : ∀ l : List α, Quiet (l.mapM f) := by
    intro l
    induction l with
    | nil => simp only [List.mapM_nil]; exact .pure _
    | cons a l ih => simp only [List.mapM_cons]; exact .bind (hf a) fun b => .bind ih fun bs => .pure _
  exact Quiet.bind (this _) fun _ => .pure _

theorem Quiet.build (t : TypeId) (ps : Array (Nat × Value)) : Quiet (Instr.build t ps) := by
  unfold Instr.build
  refine .bind (.zeroValue t) fun z => .bind (.underlying t) fun d => ?_
  split
  · refine .bind (.mapM (fun f => .bind (.sizeOf _) fun _ => .pure _) _) fun pl => ?_
    split <;> first | exact .pure _ | exact .stuck _
  · refine .bind (.sizeOf _) fun s => ?_
    split <;> first | exact .pure _ | exact .stuck _
  · exact .stuck _

end Go.Pt
