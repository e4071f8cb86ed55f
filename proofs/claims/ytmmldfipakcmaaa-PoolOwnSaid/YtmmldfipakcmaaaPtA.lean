/- A weakest-precondition evaluator over the model's code, part A: typed views, environments, the evaluator itself. Conditions: none; nothing of a program stands here. -/
import Derived.WalkKit
set_option linter.unusedVariables false
namespace Go.Pt
open Go

/-! ### Typed views of values -/
inductive Cell where
  | int (k : IntKind) | bool | str | ptr | slice | map | any
  deriving DecidableEq

structure Sl where
  a : Option Addr
  len : Nat
  cap : Nat

@[reducible] def Cell.El : Cell → Type
  | .int _ => Int
  | .bool => Bool
  | .str => ByteArray
  | .ptr => Option Addr
  | .slice => Sl
  | .map => Option Nat
  | .any => Value

def Cell.mk : (c : Cell) → c.El → Value
  | .int k, n => .int k n
  | .bool, b => .bool b
  | .str, s => .string s
  | .ptr, p => .pointer p
  | .slice, s => .slice s.a s.len s.cap
  | .map, m => .map m
  | .any, v => v

def Cell.un : (c : Cell) → Value → Option c.El
  | .int k, .int j n => if k = j then some n else none
  | .bool, .bool b => some b
  | .str, .string s => some s
  | .ptr, .pointer p => some p
  | .slice, .slice a l c => some ⟨a, l, c⟩
  | .map, .map m => some m
  | .any, v => some v
  | _, _ => none

theorem Cell.mk_un {c : Cell} {v : Value} {x : c.El} (h : c.un v = some x) : c.mk x = v := by
  cases c <;> cases v <;> simp [Cell.un] at h <;> first
    | (obtain ⟨rfl, rfl⟩ := h; rfl)
    | (subst h; rfl)

@[reducible] def HL : List Cell → Type
  | [] => Unit
  | [c] => c.El
  | c :: d :: cs => c.El × HL (d :: cs)

def HL.mk : (cs : List Cell) → HL cs → List Value
  | [], _ => []
  | [c], x => [c.mk x]
  | c :: d :: cs, x => c.mk x.1 :: HL.mk (d :: cs) x.2

theorem HL.mk_length : ∀ (cs : List Cell) (x : HL cs), (HL.mk cs x).length = cs.length
  | [], _ => rfl
  | [_], _ => rfl
  | _ :: d :: cs, x => by simp only [HL.mk, List.length_cons, HL.mk_length (d :: cs) x.2]

def HL.un : (cs : List Cell) → List Value → Option (HL cs)
  | [], [] => some ()
  | [c], [v] => c.un v
  | c :: d :: cs, v :: vs =>
    match c.un v, HL.un (d :: cs) vs with
    | some x, some y => some (x, y)
    | _, _ => none
  | _, _ => none

theorem HL.mk_un : ∀ {cs : List Cell} {vs : List Value} {x : HL cs}, HL.un cs vs = some x → HL.mk cs x = vs
  | [], [], _, _ => rfl
  | [], _ :: _, _, h => by simp [HL.un] at h
  | [c], [v], x, h => by simp only [HL.un] at h; simp only [HL.mk, Cell.mk_un h]
  | [c], [], x, h => by simp [HL.un] at h
  | [c], _ :: _ :: _, x, h => by simp [HL.un] at h
  | c :: d :: cs, [], x, h => by simp [HL.un] at h
  | c :: d :: cs, v :: vs, x, h => by
    simp only [HL.un] at h
    split at h
    · rename_i a b ha hb
      cases h
      simp only [HL.mk, Cell.mk_un ha, HL.mk_un hb]
    · cases h

inductive Ty1 where
  | one (c : Cell)
  | agg (cs : List Cell)

@[reducible] def Ty1.El : Ty1 → Type
  | .one c => c.El
  | .agg cs => HL cs

def Ty1.mk : (t : Ty1) → t.El → Value
  | .one c, x => c.mk x
  | .agg cs, x => .agg (HL.mk cs x).toArray

def Ty1.un : (t : Ty1) → Value → Option t.El
  | .one c, v => c.un v
  | .agg cs, .agg vs => HL.un cs vs.toList
  | .agg _, _ => none

theorem Ty1.mk_un {t : Ty1} {v : Value} {x : t.El} (h : t.un v = some x) : t.mk x = v := by
  cases t with
  | one c => exact Cell.mk_un h
  | agg cs =>
    cases v <;> simp only [Ty1.un] at h <;> first
      | cases h
      | (simp only [Ty1.mk, HL.mk_un h])

/-- Several results. -/
@[reducible] def ElR : List Ty1 → Type
  | [] => Unit
  | [t] => t.El
  | t :: u :: ts => t.El × ElR (u :: ts)

def ElR.vals : (ts : List Ty1) → ElR ts → List Value
  | [], _ => []
  | [t], x => [t.mk x]
  | t :: u :: ts, x => t.mk x.1 :: ElR.vals (u :: ts) x.2

def resVal : (ts : List Ty1) → ElR ts → Value
  | [], _ => .tuple #[]
  | [t], x => t.mk x
  | t :: u :: ts, x => .tuple (ElR.vals (t :: u :: ts) x).toArray

/-! ### Environments: what is known of temporaries -/
abbrev Env := List (Nat × Value)

def Env.get : Env → Nat → Option Value
  | [], _ => none
  | (k, v) :: r, t => bif Nat.beq k t then some v else Env.get r t

def Env.ev (e : Env) : Operand → Option Value
  | .tmp t => e.get t
  | .const v => some v
  | .global g => some (.pointer (some ⟨g, 0, none⟩))
  | .func f => some (.func (.func f) #[] #[])

def Env.rho (e : Env) (x : Operand) : Value := (e.ev x).getD undef

def Env.put (e : Env) (dst : Option Tmp) (v : Value) : Env :=
  match dst with
  | some d => (d, v) :: e
  | none => e

def Env.evs (e : Env) : List Operand → Option (List Value)
  | [] => some []
  | x :: xs => match e.ev x, e.evs xs with
    | some v, some vs => some (v :: vs)
    | _, _ => none

/-- Live temporaries with their types: the state of a loop or of a join. -/
abbrev Live := List (Nat × Ty1)

@[reducible] def StOf (l : Live) : Type := ElR (l.map (·.2))

def bldR : (l : Live) → StOf l → Env
  | [], _ => []
  | [(t, y)], x => [(t, y.mk x)]
  | (t, y) :: p :: r, x => (t, y.mk x.1) :: bldR (p :: r) x.2

def projR : (l : Live) → Env → Option (StOf l)
  | [], _ => some ()
  | [(t, y)], e => match e.get t with | some v => y.un v | none => none
  | (t, y) :: p :: r, e =>
    match e.get t with
    | some v => match y.un v with
      | some x => match projR (p :: r) e with
        | some z => some (x, z)
        | none => none
      | none => none
    | none => none

/-- The cells from an address on. -/
def cellsAt (w : World) (a : Addr) : Nat → List Value → Prop
  | _, [] => True
  | i, [v] => w.cell? (a.add i) = some v
  | i, v :: vs => w.cell? (a.add i) = some v ∧ cellsAt w a (i + 1) vs

/-! ### The combinators: what a world is asked. They are the fields of a structure, so that a form can be read off with the structure left open. -/
structure Comb where
  ld : (c : Cell) → Addr → World → (c.El → Prop) → Prop
  ldA : (cs : List Cell) → Addr → World → (HL cs → Prop) → Prop
  st : Addr → List Value → World → (World → Prop) → Prop
  new : Obj → World → (Nat → World → Prop) → Prop
  idx : Sl → Int → Nat → (Addr → Prop) → Prop
  idxS : ByteArray → Int → (Int → Prop) → Prop
  idxA : (c : Cell) → Nat → List Value → Int → (c.El → Prop) → Prop
  slc : Sl → Option Int → Option Int → Option Int → Nat → (Sl → Prop) → Prop
  slcS : ByteArray → Option Int → Option Int → (ByteArray → Prop) → Prop
  slcP : Addr → Nat → Option Int → Option Int → Option Int → Nat → (Sl → Prop) → Prop
  mkS : TypeId → List Value → Nat → Nat → Int → Int → World → (Sl → World → Prop) → Prop
  chk : Prop → Prop → Prop
  call : FuncId → List Value → (ts : List Ty1) → World → (ElR ts → World → Prop) → Prop
  callV : Value → List Value → (ts : List Ty1) → World → (ElR ts → World → Prop) → Prop
  inv : Value → String → List Value → (ts : List Ty1) → World → (ElR ts → World → Prop) → Prop
  run : (ts : List Ty1) → Result Value → (ElR ts → World → Prop) → Prop
  runQ : (ts : List Ty1) → (World → Result Value) → World → (ElR ts → Prop) → Prop
  runU : Result Unit → (World → Prop) → Prop
  join : (S : Type) → ((S → World → Prop) → Prop) → (S → World → Prop) → Prop
  loop : (S : Type) → ((S → World → Prop) → S → World → Prop) → S → World → Prop
  held : List (World → Prop) → World → Prop → Prop

/-! ### Types off the program's table -/
def cellOf : Value → Cell
  | .int k _ => .int k
  | .bool _ => .bool
  | .string _ => .str
  | .pointer _ => .ptr
  | .slice _ _ _ => .slice
  | .map _ => .map
  | _ => .any

def tyOf (P : Program) (t : TypeId) : Ty1 :=
  match (P.info? t).bind (·.zero) with
  | some (.agg cs) => .agg (cs.toList.map cellOf)
  | some v => .one (cellOf v)
  | none => .one .any

/-- The results of a call, or of an operation that yields a pair: by the type's own row. -/
def tysOf (P : Program) (t : TypeId) : List Ty1 :=
  match P.underlying t with
  | some (.tuple ts) => ts.toList.map (tyOf P)
  | _ => [tyOf P t]

def isAggT (P : Program) (t : TypeId) : Bool :=
  match P.underlying t with
  | some (.struct _) | some (.array _ _) => true
  | _ => false

/-- How many cells, from the table. -/
def sizeT (P : Program) (t : TypeId) : Nat := ((P.info? t).map (·.size)).getD 0

def oneInt (e : Env) : Option Operand → Option (Option Int)
  | none => some none
  | some x => match e.ev x with
    | some (.int _ n) => some (some n)
    | _ => none

def constNZ : Operand → Bool
  | .const (.int _ n) => n != 0
  | _ => false

def constNN : Operand → Bool
  | .const (.int _ n) => decide (0 ≤ n)
  | _ => false

def constIn (n : Nat) : Operand → Option Nat
  | .const (.int _ i) => if 0 ≤ i ∧ i < (n : Int) then some i.toNat else none
  | _ => none

def fillL (size : Nat) (len : Nat) (zero : List Value) (parts : List (Nat × Value)) : Option (Array Value) :=
  Instr.fill (fun i => some (i * size, size)) ((Array.range (len * size)).map (zero.toArray[· % zero.toArray.size]!)) parts

def evParts (e : Env) : List (Nat × Operand) → Option (List (Nat × Value))
  | [] => some []
  | (i, x) :: r => match e.ev x, evParts e r with
    | some v, some vs => some ((i, v) :: vs)
    | _, _ => none

/-! ### One operation that asks nothing of the world, or reads it: value, and what must still hold where it is read later -/
inductive Cls where
  | pure | read | eff
  deriving DecidableEq

def bodyless (P : Program) (f : FuncId) : Bool := match P.funcs[f]? with | some fn => fn.body.isNone || (fn.name == "runtime.NumGoroutine") | none => true

def okT (P : Program) (t : TypeId) : Bool := (P.info? t).isSome && (P.underlying t).isSome

def scalarT (P : Program) (t : TypeId) : Bool :=
  match P.underlying t with
  | some (.int _) | some .bool | some .string => true
  | _ => false

def isMapT (P : Program) (t : TypeId) : Bool := match P.underlying t with | some (.map _ _) => true | _ => false
def isSliceT (P : Program) (t : TypeId) : Bool := match P.underlying t with | some (.slice _) => true | _ => false
def isStrT (P : Program) (t : TypeId) : Bool := match P.underlying t with | some .string => true | _ => false
def isIntT (P : Program) (t : TypeId) : Bool := match P.underlying t with | some (.int _) => true | _ => false
def isPtrT (P : Program) (t : TypeId) : Bool := match P.underlying t with | some (.pointer _) => true | _ => false
def isArrT (P : Program) (t : TypeId) : Bool := match P.underlying t with | some (.array _ _) => true | _ => false

def isNilConst : Operand → Bool
  | .const (.pointer none) => true
  | .const (.slice none _ _) => true
  | .const (.map none) => true
  | .const .nilIface => true
  | .const .nilFunc => true
  | _ => false

def cls (P : Program) : Op → Cls
  | .move _ | .assign _ | .pick .. | .nilCheck _ | .unOp .. | .extract .. | .field .. | .fieldAddr .. | .makeInterface .. | .makeFunc .. | .build ..
  | .indexAddr .. | .index .. | .slice .. => .pure
  | .binOp op t x y _ =>
    match op with
    | .eql | .neq => if scalarT P t || isNilConst x || isNilConst y then .pure else .read
    | _ => .pure
  | .convert s d _ => if isIntT P s && isIntT P d then .pure else if isSliceT P s && isStrT P d then .read else .eff
  | .load .. | .typeAssert .. => .read
  | .lookup .. => .read
  | .call { callee := .builtin .len, argTypes, .. } => if isMapT P (argTypes.getD 0 0) then .read else .pure
  | .call { callee := .builtin .cap, .. } | .call { callee := .builtin .min, .. } | .call { callee := .builtin .max, .. } => .pure
  | _ => .eff

/-- Two integers of one kind. -/
def intBin (op : BinOp) (k : IntKind) (a b : Int) : Option Value :=
  match op with
  | .add => some (.int k (k.wrap (a + b)))
  | .sub => some (.int k (k.wrap (a - b)))
  | .mul => some (.int k (k.wrap (a * b)))
  | .and => some (.int k (bits .and k a b))
  | .or => some (.int k (bits .or k a b))
  | .xor => some (.int k (bits .xor k a b))
  | .andNot => some (.int k (bits .andNot k a b))
  | .eql => some (.bool (a == b))
  | .neq => some (.bool (a != b))
  | .lss => some (.bool (decide (a < b)))
  | .leq => some (.bool (decide (a ≤ b)))
  | .gtr => some (.bool (decide (a > b)))
  | .geq => some (.bool (decide (a ≥ b)))
  | _ => none

def strBin (op : BinOp) (a b : ByteArray) : Option Value :=
  match op with
  | .lss => some (.bool (Op.bytesLess a.toList b.toList))
  | .leq => some (.bool (Op.bytesLess a.toList b.toList || a.toList == b.toList))
  | .gtr => some (.bool (!(Op.bytesLess a.toList b.toList || a.toList == b.toList)))
  | .geq => some (.bool (!Op.bytesLess a.toList b.toList))
  | _ => none

def isIface : Value → Bool
  | .nilIface => true
  | .iface _ _ => true
  | _ => false

def isNilI : Value → Bool
  | .nilIface => true
  | _ => false

def isFn : Value → Bool
  | .nilFunc => true
  | .func _ _ _ => true
  | _ => false

def isNilF : Value → Bool
  | .nilFunc => true
  | _ => false

/-- '==' against nil. -/
def nilEq (C : Comb) (P : Program) (t : TypeId) (v u : Value) (K : Bool → Prop) : Prop :=
  match P.underlying t with
  | some (.pointer _) => match v, u with | .pointer p, .pointer none => K p.isNone | _, _ => False
  | some (.slice _) => match v, u with | .slice a _ _, .slice none _ _ => K a.isNone | _, _ => False
  | some (.map _ _) => match v, u with | .map r, .map none => K r.isNone | _, _ => False
  | some (.interface _) => match u with | .nilIface => C.chk (isIface v = true) (K (isNilI v)) | _ => False
  | some (.func _ _ _) => match u with | .nilFunc => C.chk (isFn v = true) (K (isNilF v)) | _ => False
  | _ => False

def eqOp (C : Comb) (P : Program) (t : TypeId) (x y : Operand) (e : Env) (K : Bool → Prop) : Prop :=
  match e.ev x, e.ev y with
  | some a, some b =>
    bif isNilConst y then nilEq C P t a b K else bif isNilConst x then nilEq C P t b a K else
    match a, b with
    | .int k a, .int j b => bif k == j then K (a == b) else False
    | .bool a, .bool b => match P.underlying t with | some .bool => K (a == b) | _ => False
    | .string a, .string b => K (a.toList == b.toList)
    | _, _ => False
  | _, _ => False

/-- An operation that asks nothing of the world. -/
def pureOp (C : Comb) (P : Program) (o : Oper) (e : Env) (w : World) (K : Value → Prop) : Prop :=
  match o.op with
  | .move x => match e.ev x with | some v => K v | none => False
  | .assign x => match e.ev x with | some v => K v | none => False
  | .nilCheck x =>
    match e.ev x with
    | some (.pointer p) => match p with
      | some a => K (.pointer (some a))
      | none => False
    | _ => False
  | .pick c a b =>
    match e.ev c, e.ev a, e.ev b with
    | some (.bool t), some x, some y => match t with | true => K x | false => K y
    | _, _, _ => False
  | .binOp .quo t x y yt =>
      match e.ev x, e.ev y with
      | some (.int k a), some (.int j b) => bif k == j then (bif constNZ y then K (.int k (k.wrap (a.tdiv b))) else C.chk (b ≠ 0) (K (.int k (k.wrap (a.tdiv b))))) else False
      | _, _ => False
  | .binOp .rem t x y yt =>
      match e.ev x, e.ev y with
      | some (.int k a), some (.int j b) => bif k == j then (bif constNZ y then K (.int k (a.tmod b)) else C.chk (b ≠ 0) (K (.int k (a.tmod b)))) else False
      | _, _ => False
  | .binOp .shl t x y yt =>
      match e.ev x, e.ev y with
      | some (.int k a), some (.int _ b) => bif constNN y then K (.int k (k.wrap (a * 2 ^ min b.toNat k.bits))) else C.chk (0 ≤ b) (K (.int k (k.wrap (a * 2 ^ min b.toNat k.bits))))
      | _, _ => False
  | .binOp .shr t x y yt =>
      match e.ev x, e.ev y with
      | some (.int k a), some (.int _ b) => bif constNN y then K (.int k (a.fdiv (2 ^ min b.toNat k.bits))) else C.chk (0 ≤ b) (K (.int k (a.fdiv (2 ^ min b.toNat k.bits))))
      | _, _ => False
  | .binOp .eql t x y _ => eqOp C P t x y e (fun r => K (.bool r))
  | .binOp .neq t x y _ => eqOp C P t x y e (fun r => K (.bool (!r)))
  | .binOp op t x y _ =>
    match e.ev x, e.ev y with
    | some (.int k a), some (.int j b) => bif k == j then (match intBin op k a b with | some v => K v | none => False) else False
    | some (.string a), some (.string b) => match op with
      | .add => C.chk (((a.size + b.size : Nat) : Int) ≤ IntKind.i64.max) (K (.string (a ++ b)))
      | op => match strBin op a b with | some v => K v | none => False
    | _, _ => False
  | .unOp op _ x =>
    match e.ev x with
    | some (.int k n) => match op with
      | .neg => K (.int k (k.wrap (0 - n)))
      | .xor => K (.int k (bits .xor k (if k.signed then -1 else k.max) n))
      | _ => False
    | some (.bool b) => match op with
      | .not => K (.bool (!b))
      | _ => False
    | _ => False
  | .convert s d x =>
    match P.underlying s, e.ev x with
    | some _, some (.int _ n) => match P.underlying d with
      | some (.int k) => K (.int k (k.wrap n))
      | _ => False
    | _, _ => False
  | .extract x i =>
    match e.ev x with
    | some (.tuple vs) => match vs.toList[i]? with | some v => K v | none => False
    | _ => False
  | .field t x f =>
    match P.underlying t, e.ev x with
    | some (.struct fs), some (.agg cs) => match fs[f]? with
      | some fd => bif !okT P fd.type then False else bif isAggT P fd.type then K (.agg (cs.toList.extract fd.offset (fd.offset + sizeT P fd.type)).toArray) else match cs.toList[fd.offset]? with
        | some v => K v
        | none => False
      | none => False
    | _, _ => False
  | .fieldAddr t x f =>
    match P.underlying t, e.ev x with
    | some (.struct fs), some (.pointer (some a)) => match fs[f]? with
      | some fd => bif Nat.beq (sizeT P fd.type) 0 then False else K (.pointer (some (a.add fd.offset)))
      | none => False
    | _, _ => False
  | .makeInterface t x =>
    match P.underlying t, e.ev x with
    | some (.interface _), _ => False
    | some _, some v => K (.iface t v)
    | _, _ => False
  | .makeFunc fn first cap =>
    match e.evs first.toList, e.evs cap.toList with
    | some f, some c => K (.func fn f.toArray c.toArray)
    | _, _ => False
  | .build t parts =>
    match evParts e parts.toList with
    | some vs => match (Instr.build t vs.toArray).run P w with
      | .ok v _ => K v
      | .halt _ _ => False
    | none => False
  | .indexAddr t x ix =>
    match P.underlying t with
    | some (.slice el) => bif !okT P el then False else match e.ev x, e.ev ix with
      | some (.slice a l c), some (.int _ i) => C.idx ⟨a, l, c⟩ i (sizeT P el) (fun ad => K (.pointer (some ad)))
      | _, _ => False
    | some (.array n el) => bif !okT P el then False else match e.ev x with
      | some (.pointer (some a)) => match constIn n ix with
        | some i => K (.pointer (some (a.add (i * sizeT P el))))
        | none => match e.ev ix with
          | some (.int _ i) => C.chk (0 ≤ i ∧ i < (n : Int)) (K (.pointer (some (a.add (i.toNat * sizeT P el)))))
          | _ => False
      | _ => False
    | _ => False
  | .index t x ix =>
    match P.underlying t with
    | some .string => match e.ev x, e.ev ix with
      | some (.string s), some (.int _ i) => C.idxS s i (fun b => K (.int .u8 b))
      | _, _ => False
    | some (.array n el) => match e.ev x, e.ev ix with
      | some (.agg cs), some (.int _ i) =>
        match tyOf P el with
        | .one c => bif isAggT P el || !(Nat.beq (sizeT P el) 1) || !okT P el then False else C.idxA c n cs.toList i (fun y => K (c.mk y))
        | _ => False
      | _, _ => False
    | _ => False
  | .slice t x lo hi mx =>
    bif mx.isSome && hi.isNone then False else
    match oneInt e lo, oneInt e hi, oneInt e mx with
    | some l, some h, some m =>
      match P.underlying t with
      | some (.slice el) => bif !okT P el then False else match e.ev x with
        | some (.slice a n c) => C.slc ⟨a, n, c⟩ l h m (sizeT P el) (fun s => K (.slice s.a s.len s.cap))
        | _ => False
      | some .string => match e.ev x, m with
        | some (.string s), none => C.slcS s l h (fun r => K (.string r))
        | _, _ => False
      | some (.array n el) => bif !okT P el then False else match e.ev x with
        | some (.pointer (some a)) => C.slcP a n l h m (sizeT P el) (fun s => K (.slice s.a s.len s.cap))
        | _ => False
      | _ => False
    | _, _, _ => False
  | .call { callee := .builtin b, argTypes, args } =>
    match b with
    | .len => match (argTypes[0]?).bind P.underlying, e.evs args.toList with
      | some (.slice _), some [.slice _ n _] => K (.int .i64 n)
      | some .string, some [.string s] => K (.int .i64 s.size)
      | some (.array n _), some [_] => K (.int .i64 n)
      | _, _ => False
    | .cap => match (argTypes[0]?).bind P.underlying, e.evs args.toList with
      | some (.slice _), some [.slice _ _ c] => K (.int .i64 c)
      | _, _ => False
    | .min => match e.evs args.toList with
      | some [.int k x, .int _ y] => K (.int k (if y < x then y else x))
      | _ => False
    | .max => match e.evs args.toList with
      | some [.int k x, .int _ y] => K (.int k (if y > x then y else x))
      | _ => False
    | _ => False
  | _ => False

/-- An operation that reads: its value; and what must hold of a world in which it is read later. -/
def readOp (C : Comb) (P : Program) (o : Oper) (e : Env) (w : World) (K : Value → (World → Prop) → Prop) : Prop :=
  match o.op with
  | .load t x =>
    match e.ev x with
    | some (.pointer (some a)) =>
      match tyOf P t with
      | .one c => bif !okT P t then False else bif isAggT P t then False else C.ld c a w (fun y => K (c.mk y) (fun w' => w'.cell? a = some (c.mk y)))
      | .agg cs => bif isAggT P t && Nat.beq (sizeT P t) cs.length then C.ldA cs a w (fun y => K (.agg (HL.mk cs y).toArray) (fun w' => cellsAt w' a 0 (HL.mk cs y))) else False
    | _ => False
  | .lookup t m k ok =>
    match e.ev m, e.ev k with
    | some vm, some vk => C.runQ (tysOf P o.type) (fun w' => (Instr.lookup t vm vk ok).run P w') w (fun y => K (resVal _ y) (fun w' => (Instr.lookup t vm vk ok).run P w' = .ok (resVal _ y) w'))
    | _, _ => False
  | .typeAssert x xt as ok =>
    match e.ev x with
    | some v => C.runQ (tysOf P o.type) (fun w' => (Instr.typeAssert v xt as ok).run P w') w (fun y => K (resVal _ y) (fun w' => (Instr.typeAssert v xt as ok).run P w' = .ok (resVal _ y) w'))
    | none => False
  | .binOp op t x y _ =>
    match e.ev x, e.ev y with
    | some a, some b => C.runQ [.one .bool] (fun w' => (do eqGuard op t x y a b; binOp op t a b : Sem Value).run P w') w (fun r => K (.bool r) (fun w' => (do eqGuard op t x y a b; binOp op t a b : Sem Value).run P w' = .ok (.bool r) w'))
    | _, _ => False
  | .convert s d x =>
    match e.ev x with
    | some v => C.runQ [.one .str] (fun w' => (convert s d v).run P w') w (fun r => K (.string r) (fun w' => (convert s d v).run P w' = .ok (.string r) w'))
    | none => False
  | .call { callee := .builtin .len, argTypes, args } =>
    match e.evs args.toList with
    | some vs => C.runQ [.one (.int .i64)] (fun w' => (Builtin.len_ argTypes o.type vs.toArray).run P w') w (fun r => K (.int .i64 r) (fun w' => (Builtin.len_ argTypes o.type vs.toArray).run P w' = .ok (.int .i64 r) w'))
    | none => False
  | _ => False

/-- An operation that turns the world. -/
def effOp (C : Comb) (P : Program) (o : Oper) (e : Env) (w : World) (K : Value → World → Prop) : Prop :=
  match o.op with
  | .store t x y =>
    match e.ev x, e.ev y with
    | some (.pointer (some a)), some v => bif okT P t && Nat.beq (sizeT P t) v.cells.size then C.st a v.cells.toList w (fun w' => K undef w') else False
    | _, _ => False
  | .alloc t =>
    match (P.info? t).bind (·.zero) with
    | some z => C.new (.cells z.cells t) w (fun b w' => K (.pointer (some ⟨b, 0, none⟩)) w')
    | none => False
  | .box t x =>
    match e.ev x with
    | some v => C.new (.cells v.cells t) w (fun b w' => K (.pointer (some ⟨b, 0, none⟩)) w')
    | none => False
  | .buildSlice t len parts =>
    match P.underlying t with
    | some (.slice el) =>
      match (P.info? el).bind (·.zero), evParts e parts.toList with
      | some z, some vs => bif Nat.blt (2 ^ 24) (len * sizeT P el) then False else
        match fillL (sizeT P el) len (bif Nat.beq (len * sizeT P el) 0 then [] else z.cells.toList) vs with
        | some cells => C.new (.cells cells el) w (fun b w' => K (.slice (some ⟨b, 0, none⟩) len len) w')
        | none => False
      | _, _ => False
    | _ => False
  | .makeSlice t l c =>
    match P.underlying t with
    | some (.slice el) =>
      match P.info? el, e.ev l, e.ev c with
      | some i, some (.int _ n), some (.int _ m) =>
        match i.zero with
        | some z => C.mkS el z.cells.toList i.size i.bytes n m w (fun s w' => K (.slice s.a s.len s.cap) w')
        | none => False
      | _, _, _ => False
    | _ => False
  | .makeMap t r =>
    match P.underlying t with
    | some (.map _ _) => match oneInt e r with
      | some _ => C.new (.map #[] 0) w (fun b w' => K (.map (some b)) w')
      | none => False
    | _ => False
  | .mapUpdate t m k x =>
    match e.ev m, e.ev k, e.ev x with
    | some a, some b, some c => C.runU ((Instr.mapUpdate t a b c).run P w) (fun w' => K undef w')
    | _, _, _ => False
  | .insert t m k x =>
    match e.ev m, e.ev k, e.ev x with
    | some a, some b, some c => C.runU ((Instr.mapUpdate t a b c).run P w) (fun w' => K undef w')
    | _, _, _ => False
  | .range t x =>
    match e.ev x with
    | some v => C.run [.one .any] ((Instr.range t v).run P w) (fun y w' => K y w')
    | none => False
  | .next it s =>
    match e.ev it with
    | some v => C.run (tysOf P o.type) ((Instr.next v s o.type).run P w) (fun y w' => K (resVal _ y) w')
    | none => False
  | .entry it =>
    match e.ev it with
    | some v => C.run (tysOf P o.type) ((Instr.entry v).run P w) (fun y w' => K (resVal _ y) w')
    | none => False
  | .convert s d x =>
    match e.ev x with
    | some v => C.run (tysOf P o.type) ((convert s d v).run P w) (fun y w' => K (resVal _ y) w')
    | none => False
  | .call { callee := .builtin b, argTypes, args } =>
    match e.evs args.toList with
    | some vs =>
      match b with
      | .append => C.run [.one .slice] ((Builtin.append_ argTypes o.type vs.toArray).run P w) (fun y w' => K (.slice y.a y.len y.cap) w')
      | .copy => C.run [.one (.int .i64)] ((Builtin.copy_ argTypes o.type vs.toArray).run P w) (fun y w' => K (.int .i64 y) w')
      | .delete => C.run [] ((Builtin.delete_ argTypes o.type vs.toArray).run P w) (fun _ w' => K (.tuple #[]) w')
      | .clear => C.run [] ((Builtin.clear_ argTypes o.type vs.toArray).run P w) (fun _ w' => K (.tuple #[]) w')
      | _ => False
    | none => False
  | .call { callee := .value (.func f), args, .. } =>
    bif bodyless P f then False else
    match e.evs args.toList with
    | some vs => C.call f vs (tysOf P o.type) w (fun y w' => K (resVal _ y) w')
    | none => False
  | .call { callee := .value x, args, .. } =>
    match e.ev x, e.evs args.toList with
    | some v, some vs => C.callV v vs (tysOf P o.type) w (fun y w' => K (resVal _ y) w')
    | _, _ => False
  | .call { callee := .invoke x name, args, .. } =>
    match e.ev x, e.evs args.toList with
    | some v, some vs => C.inv v name vs (tysOf P o.type) w (fun y w' => K (resVal _ y) w')
    | _, _ => False
  | _ => False

def opPt (C : Comb) (P : Program) (o : Oper) (e : Env) (w : World) (K : Value → World → Prop) : Prop :=
  match cls P o.op with
  | .pure => pureOp C P o e w (fun v => K v w)
  | .read => readOp C P o e w (fun v _ => K v w)
  | .eff => effOp C P o e w K

/-- A guard: whether the operation is wanted; the guard's own temporary is then known. -/
def guarded (ops : List Oper) (o : Oper) (e : Env) (yes no : Env → Prop) : Prop :=
  match o.guard with
  | none => yes e
  | some (j, want) =>
    match (ops[j]?).bind (·.dst) with
    | none => False
    | some d =>
      match e.get d with
      | some (.bool b) =>
        match b with
        | true => match want with
          | true => yes ((d, .bool true) :: e)
          | false => no ((d, .bool true) :: e)
        | false => match want with
          | true => no ((d, .bool false) :: e)
          | false => yes ((d, .bool false) :: e)
      | some (.tuple _) => no e
      | _ => False

/-- A region in the order of its text. -/
def runOps (C : Comb) (P : Program) (ops : List Oper) (K : Env → World → Prop) : List Oper → Env → World → Prop
  | [], e, w => K e w
  | o :: rest, e, w =>
    guarded ops o e
      (fun e' => opPt C P o e' w (fun v w' => runOps C P ops K rest (e'.put o.dst v) w'))
      (fun e' => runOps C P ops K rest (e'.put o.dst undef) w)

/-! ### Regions that draw their order -/
abbrev Holds := List (Nat × (World → Prop))

/-- Which operations come, by the edges, ahead of each: as bits. -/
def preds (ops : List Oper) : Array Nat := Region.before ops.toArray

def laterHeld (b : Array Nat) (x : Nat) (H : Holds) : List (World → Prop) := (H.filter fun p => !(b.getD x 0).testBit p.1).map (·.2)

/-- One order of a region's operations, all that is read held to what it was read as. -/
def runCan (C : Comb) (P : Program) (ops : List Oper) (b : Array Nat) (K : Env → World → Prop) : List Nat → Holds → Env → World → Prop
  | [], _, e, w => K e w
  | i :: rest, H, e, w =>
    match ops[i]? with
    | none => False
    | some o =>
      guarded ops o e
        (fun e' =>
          match cls P o.op with
          | .pure => pureOp C P o e' w (fun v => runCan C P ops b K rest H (e'.put o.dst v) w)
          | .read => readOp C P o e' w (fun v h => runCan C P ops b K rest ((i, h) :: H) (e'.put o.dst v) w)
          | .eff => effOp C P o e' w (fun v w' =>
              match laterHeld b i H with
              | [] => runCan C P ops b K rest H (e'.put o.dst v) w'
              | l => C.held l w' (runCan C P ops b K rest H (e'.put o.dst v) w')))
        (fun e' => runCan C P ops b K rest H (e'.put o.dst undef) w)

def runCans (C : Comb) (P : Program) (ops : List Oper) (b : Array Nat) (K : Env → World → Prop) : List (List Nat) → Env → World → Prop
  | [], _, _ => True
  | [ord], e, w => runCan C P ops b K ord [] e w
  | ord :: more, e, w => runCan C P ops b K ord [] e w ∧ runCans C P ops b K more e w

/-! ### Code with marks: the state at loops and joins; the orders of regions that draw -/
inductive PC where
  | skip
  | region (id : Nat) (ops : List Oper)
  | draw (id : Nat) (ops : List Oper) (orders : List (List Nat))
  | seq (a b : PC)
  | join (live : Live) (a b : PC)
  | cond (c : Operand) (t e : PC)
  | block (id : Nat) (body : PC)
  | loop (live : Live) (body : PC)
  | exit (id : Nat)
  | ret
  | other (c : Code)

def PC.erase : PC → Code
  | .skip => .skip
  | .region id ops => .region id ops.toArray false
  | .draw id ops _ => .region id ops.toArray true
  | .seq a b => .seq a.erase b.erase
  | .join _ a b => .seq a.erase b.erase
  | .cond c t e => .cond c t.erase e.erase
  | .block id b => .block id b.erase
  | .loop _ b => .loop b.erase
  | .exit id => .exit id
  | .ret => .ret
  | .other c => c

/-- The marks: at each 'seq' whether its two parts meet in a state; at each loop its state; at each region that draws its orders. -/
inductive Ann where
  | n
  | j (live : Live)
  | l (live : Live)
  | o (orders : List (List Nat))

def toPC : Code → List Ann → PC × List Ann
  | .skip, as => (.skip, as)
  | .region id ops draw, as =>
    match draw with
    | false => (.region id ops.toList, as)
    | true => match as with
      | .o ords :: r => (.draw id ops.toList ords, r)
      | _ => (.other (.region id ops true), as)
  | .seq a b, as =>
    match as with
    | .j live :: r =>
      let x := toPC a r
      let y := toPC b x.2
      (.join live x.1 y.1, y.2)
    | .n :: r =>
      let x := toPC a r
      let y := toPC b x.2
      (.seq x.1 y.1, y.2)
    | _ => (.other (.seq a b), as)
  | .cond c t f, as =>
    let x := toPC t as
    let y := toPC f x.2
    (.cond c x.1 y.1, y.2)
  | .block id b, as =>
    let x := toPC b as
    (.block id x.1, x.2)
  | .loop b, as =>
    match as with
    | .l live :: r =>
      let x := toPC b r
      (.loop live x.1, x.2)
    | _ => (.other (.loop b), as)
  | .exit id, as => (.exit id, as)
  | .ret, as => (.ret, as)
  | c, as => (.other c, as)

def opsWr (ops : List Oper) (t : Nat) : Bool := ops.any fun o => match o.dst with | some d => Nat.beq d t | none => false

/-- The temporaries that a code may write. -/
def PC.wr : PC → Nat → Bool
  | .skip, _ => false
  | .region _ ops, t => opsWr ops t
  | .draw _ ops _, t => opsWr ops t
  | .seq a b, t => a.wr t || b.wr t
  | .join _ a b, t => a.wr t || b.wr t
  | .cond _ a b, t => a.wr t || b.wr t
  | .block _ b, t => b.wr t
  | .loop _ b, t => b.wr t
  | .exit _, _ => false
  | .ret, _ => false
  | .other _, _ => true

def Env.keep (e : Env) (wr : Nat → Bool) : Env :=
  match e with
  | [] => []
  | (t, v) :: r => bif wr t then Env.keep r wr else (t, v) :: Env.keep r wr

inductive PExit where
  | normal | exit (id : Nat) | ret

abbrev PPost := PExit → Env → World → Prop

def PPost.withNormal (Q : PPost) (K : Env → World → Prop) : PPost := fun x e w =>
  match x with
  | .normal => K e w
  | x => Q x e w

def PC.pt (C : Comb) (P : Program) : PC → PPost → Env → World → Prop
  | .skip, Q, e, w => Q .normal e w
  | .region _ ops, Q, e, w => runOps C P ops (Q .normal) ops e w
  | .draw _ ops orders, Q, e, w => runCans C P ops (preds ops) (Q .normal) orders e w.drew
  | .seq a b, Q, e, w => a.pt C P (Q.withNormal fun e' w' => b.pt C P Q e' w') e w
  | .join live a b, Q, e, w =>
    C.join (StOf live)
      (fun X => a.pt C P (Q.withNormal fun e' w' => match projR live e' with | some s => X s w' | none => False) e w)
      (fun s w' => b.pt C P Q (bldR live s ++ e.keep (fun t => a.wr t)) w')
  | .cond c t f, Q, e, w =>
    match e.ev c with
    | some (.bool b) => match b with
      | true => t.pt C P Q e w
      | false => f.pt C P Q e w
    | _ => False
  | .block id body, Q, e, w =>
    body.pt C P (fun x e' w' => match x with
      | .exit j => bif Nat.beq j id then Q .normal e' w' else Q (.exit j) e' w'
      | x => Q x e' w') e w
  | .loop live body, Q, e, w =>
    match projR live e with
    | some s0 =>
      C.loop (StOf live)
        (fun X s w' => body.pt C P (Q.withNormal fun e' w'' => match projR live e' with | some s' => X s' w'' | none => False) (bldR live s ++ e.keep (fun t => body.wr t)) w')
        s0 w
    | none => False
  | .exit id, Q, e, w => Q (.exit id) e w
  | .ret, Q, e, w => Q .ret e w
  | .other _, _, _, _ => False

/-! ### A function -/
def resPt (C : Comb) (P : Program) : List ResultVar → Env → World → (List Value → Prop) → Prop
  | [], _, _, K => K []
  | .tmp t :: r, e, w, K =>
    match e.get t with
    | some v => resPt C P r e w (fun vs => K (v :: vs))
    | none => False
  | .cell a t :: r, e, w, K =>
    match e.get a with
    | some (.pointer (some ad)) =>
      match tyOf P t with
      | .one c => bif !okT P t then False else bif isAggT P t then False else C.ld c ad w (fun y => resPt C P r e w (fun vs => K (c.mk y :: vs)))
      | .agg cs => bif isAggT P t && Nat.beq (sizeT P t) cs.length then C.ldA cs ad w (fun y => resPt C P r e w (fun vs => K (.agg (HL.mk cs y).toArray :: vs))) else False
    | _ => False

def oneOf : List Value → Value
  | [v] => v
  | vs => .tuple vs.toArray

def argEnv : Nat → List Value → Env
  | _, [] => []
  | i, v :: r => (i, v) :: argEnv (i + 1) r

def bodyPt (C : Comb) (P : Program) (rvs : List ResultVar) (c : PC) (args : List Value) (Q : Value → World → Prop) (w : World) : Prop :=
  c.pt C P (fun x e w' => match x with
    | .normal => resPt C P rvs e w' (fun vs => Q (oneOf vs) w')
    | .ret => resPt C P rvs e w' (fun vs => Q (oneOf vs) w')
    | .exit _ => False) (argEnv 0 args) w

def unRes : (ts : List Ty1) → Value → Option (ElR ts)
  | [], .tuple _ => some ()
  | [], _ => none
  | [t], v => t.un v
  | t :: u :: ts, .tuple vs => unVals (t :: u :: ts) vs.toList
  | _ :: _ :: _, _ => none
where
  unVals : (ts : List Ty1) → List Value → Option (ElR ts)
  | [], [] => some ()
  | [t], [v] => t.un v
  | t :: u :: ts, v :: vs =>
    match t.un v with
    | some x => match unVals (u :: ts) vs with
      | some y => some (x, y)
      | none => none
    | none => none
  | _, _ => none

def resTys (P : Program) (fn : Func) : List Ty1 := fn.resultTypes.toList.map (tyOf P)

/-- A function's form, under marks. -/
def fnPt (C : Comb) (P : Program) (fn : Func) (as : List Ann) (ts : List Ty1) (args : List Value) (K : ElR ts → World → Prop) (w : World) : Prop :=
  match fn.body with
  | some c => bodyPt C P fn.results.toList (toPC c as).1 args (fun v w' => match unRes ts v with | some x => K x w' | none => False) w
  | none => False

end Go.Pt
