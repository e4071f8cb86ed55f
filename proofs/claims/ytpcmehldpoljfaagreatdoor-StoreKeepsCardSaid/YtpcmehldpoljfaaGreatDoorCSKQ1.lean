/- Conditions: those that stand in each line. -/
import Derived.WalkKit
import Derived.RangeFuncLeaves
import Derived.RangeFuncRecord
import Derived.RangeFuncIn
import Derived.ChangeKeysEq
import Derived.Carry
import Derived.ProofKit
import Derived.OpenShut
import Derived.ArgAppend
import Derived.Deep.AppendSrc
import Derived.Deep.Slices
import Derived.MapKept
import Derived.Laws.CopyRow
import Derived.Laws.IdiomCopy
import Derived.Laws.Externs
import Derived.Laws.IdiomRangeMap
import Derived.Lib.SliceRun
import Derived.Lib.Overlaps
import Derived.Lib.AppendZerosOnto
set_option linter.unusedVariables false
set_option linter.unusedSimpArgs false
set_option linter.defProp false
namespace Go.Pt
abbrev co:Array Go.Value:=#[.bool false,.slice none 0 0,.slice none 0 0,.slice none 0 0]
abbrev cq:Array Go.Value:=#[.slice none 0 0,.slice none 0 0,.slice none 0 0,.slice none 0 0,.slice none 0 0,.slice none 0 0,.slice none 0 0,.int .u64 0,.bool false,.slice none 0 0]
abbrev cv:Array Go.Value:=#[.int .u64 0,.int .u64 0,.int .u64 0,.int .u64 0,.int .u64 0,.int .u64 0,.int .u64 0,.int .u64 0,.int .u64 0,.int .u64 0,.int .u64 0,.int .u32 0,.int .u16 0,.int .u16 0,.int .u64 0]
abbrev cw:Array Go.Value:=#[.int .u64 0,.int .u64 0,.int .u64 0,.int .u64 0,.int .u64 0,.int .u64 0,.int .u64 0,.int .u64 0,.int .u64 0,.int .u64 0,.int .u64 0,.int .u32 0,.int .u32 0,.int .u16 0,.int .u16 0,.int .u64 0]
abbrev cX:Array Go.Value:=#[.int .u64 0,.int .u64 0]
abbrev cY:Array Go.Value:=#[.int .u32 0,.bool false,.slice none 0 0,.int .u32 0]
abbrev cZ:Array Go.Value:=#[.bool false,.slice none 0 0,.slice none 0 0,.slice none 0 0,.int .i64 0]
abbrev c6:Array Go.Value:=#[.int .u64 0,.int .u64 0,.int .u64 0,.int .u64 0]
abbrev dc:Array Go.Value:=#[.slice none 0 0,.slice none 0 0]
abbrev dd:Array Go.Value:=#[.int .u32 0,.int .u32 0,.int .u32 0,.int .u32 0,.int .u32 0,.int .u32 0,.int .u32 0,.int .u32 0]
abbrev de(a b:Int):Go.Value:=.agg #[.int .u64 a,.int .u64 b]
abbrev dg(b:Nat)(o:Nat:=0):Go.Addr:=⟨b,o,none⟩
abbrev dF(b:Nat):Go.Value:=.pointer (some ⟨b,0,none⟩)
section
open Go
variable {K:Bool->Prop} {ds:List Deferred} {t:TypeId} {y:Operand}
theorem oJ{p:Prop}(h:p:=by omega):p:=h
theorem oK{p:Prop}(h:p:=by kernel_rfl):p:=h
theorem oL{p:Prop}(h:p:=by simp):p:=h
theorem oM{p:Prop}(h:p:=by decide):p:=h
theorem oN{p:Prop}(h:p:=by dsimp only;omega):p:=h
theorem oO{p:Prop}(h:p:=by simp;omega):p:=h
theorem oP{p q:Prop}(x:q)(h:q->p:=by intro h;simpa using h):p:=h x
inductive Cell where
  | int (k:IntKind) | bool | str | ptr | slice | map | any
  deriving DecidableEq
abbrev df:List Cell:=[.int .u64,.int .u64]
structure Sl where
  a:Option Addr
  len:Nat
  cap:Nat
abbrev Sl.v (s:Sl):Value:=.slice s.a s.len s.cap
abbrev WP:=World->Prop
abbrev pW (r:Nat):Option Addr:=some (dg r)
abbrev _root_.Go.Value.i (n:Int):Value:=.int .i64 n
abbrev Cell.i:Cell:=.int .i64
abbrev _root_.Go.Value.b (n:Int):Value:=.int .u8 n
abbrev Cell.b:Cell:=.int .u8
abbrev _root_.Go.Value.u (n:Int):Value:=.int .u32 n
abbrev Cell.u:Cell:=.int .u32
def zA:type_of% @List.getElem?_eq_getElem:=@List.getElem?_eq_getElem
def zB:type_of% @of_decide_eq_false:=@of_decide_eq_false
def zC:type_of% @of_decide_eq_true:=@of_decide_eq_true
def zD:type_of% @List.mem_append:=@List.mem_append
def zE:type_of% @List.mem_singleton:=@List.mem_singleton
def zF:type_of% @List.length_append:=@List.length_append
def zG:type_of% @List.mem_cons:=@List.mem_cons
def zH:type_of% @List.mem_append_left:=@List.mem_append_left
def zI:type_of% @List.mem_append_right:=@List.mem_append_right
def zJ:type_of% @Int.toNat_natCast:=@Int.toNat_natCast
def zK:type_of% @List.length_map:=@List.length_map
def zL:type_of% @Nat.le_trans:=@Nat.le_trans
def zM:type_of% @Nat.le_refl:=@Nat.le_refl
def zN:type_of% @List.mem_cons_of_mem:=@List.mem_cons_of_mem
def zO:type_of% @Nat.le_of_ble_eq_true:=@Nat.le_of_ble_eq_true
def zP:type_of% @List.getElem?_eq_some_iff:=@List.getElem?_eq_some_iff
def zQ:type_of% @List.getElem?_map:=@List.getElem?_map
def zR:type_of% @beq_eq_false_iff_ne:=@beq_eq_false_iff_ne
def zS:type_of% @List.take_of_length_le:=@List.take_of_length_le
def zT:type_of% @Bool.not_eq_true':=@Bool.not_eq_true'
def zU:type_of% @decide_eq_false:=@decide_eq_false
def zV:type_of% @List.append_assoc:=@List.append_assoc
def zX:type_of% @List.getElem_mem:=@List.getElem_mem
def zY:type_of% @List.drop_eq_getElem_cons:=@List.drop_eq_getElem_cons
def zZ:type_of% @List.mem_map_of_mem:=@List.mem_map_of_mem
def yA:type_of% @decide_eq_true:=@decide_eq_true
def yB:type_of% @Bool.and_eq_true:=@Bool.and_eq_true
def yC:type_of% @List.length_drop:=@List.length_drop
def yD:type_of% @Nat.lt_of_lt_of_le:=@Nat.lt_of_lt_of_le
def yE:type_of% @Bool.not_eq_false':=@Bool.not_eq_false'
def yF:type_of% @List.mem_of_getElem?:=@List.mem_of_getElem?
def yG:type_of% @List.take_succ_eq_append_getElem:=@List.take_succ_eq_append_getElem
def yH:type_of% @List.flatMap_cons:=@List.flatMap_cons
def yI:type_of% @List.length_cons:=@List.length_cons
def yJ:type_of% @List.pairwise_cons:=@List.pairwise_cons
def yK:type_of% @List.mem_flatMap:=@List.mem_flatMap
def yL:type_of% @List.length_take:=@List.length_take
def yM:type_of% @List.nodup_append:=@List.nodup_append
def yN:type_of% @decide_eq_true_iff:=@decide_eq_true_iff
def yO:type_of% @Option.some.inj:=@Option.some.inj
def yP:type_of% @beq_iff_eq:=@beq_iff_eq
def yQ:type_of% @List.flatMap_append:=@List.flatMap_append
def yR:type_of% @List.getD_eq_getElem?_getD:=@List.getD_eq_getElem?_getD
def yS:type_of% @List.getElem?_eq_none:=@List.getElem?_eq_none
def yT:type_of% @Option.map_eq_some_iff:=@Option.map_eq_some_iff
def yU:type_of% @List.mem_of_mem_drop:=@List.mem_of_mem_drop
def yV:type_of% @List.mem_of_mem_take:=@List.mem_of_mem_take
def yW:type_of% @Nat.eq_of_beq_eq_true:=@Nat.eq_of_beq_eq_true
def yX:type_of% @Nat.zero_le:=@Nat.zero_le
def yY:type_of% @List.getElem?_append_right:=@List.getElem?_append_right
def yZ:type_of% @List.getElem?_append_left:=@List.getElem?_append_left
def xA:type_of% @List.getElem?_drop:=@List.getElem?_drop
def xB:type_of% @List.getElem?_take:=@List.getElem?_take
def xC:type_of% @List.filter_append:=@List.filter_append
def xD:type_of% @List.drop_drop:=@List.drop_drop
def xE:type_of% @List.take_append_drop:=@List.take_append_drop
def xF:type_of% @List.drop_zero:=@List.drop_zero
def xG:type_of% @List.length_set:=@List.length_set
def xH:type_of% @List.append_nil:=@List.append_nil
def xI:type_of% @List.nil_append:=@List.nil_append
def xJ:type_of% @List.cons_append:=@List.cons_append
def xK:type_of% @List.length_nil:=@List.length_nil
def xL:type_of% @Array.getElem?_toList:=@Array.getElem?_toList
def xM:type_of% @List.length_singleton:=@List.length_singleton
def xN:type_of% @List.map_append:=@List.map_append
def xO:type_of% @List.map_cons:=@List.map_cons
def xP:type_of% @List.map_take:=@List.map_take
def xQ:type_of% @List.map_drop:=@List.map_drop
def xR:type_of% @Nat.min_eq_left:=@Nat.min_eq_left
def xS:type_of% @Nat.zero_add:=@Nat.zero_add
def xT:type_of% @Nat.mul_one:=@Nat.mul_one
def xU:type_of% @Nat.add_mul:=@Nat.add_mul
def xV:type_of% @Option.getD_some:=@Option.getD_some
def xW:type_of% @Option.getD_none:=@Option.getD_none
def xX:type_of% @List.not_mem_nil:=@List.not_mem_nil
def xY:type_of% @Nat.not_lt_zero:=@Nat.not_lt_zero
def xZ:type_of% @List.take_length:=@List.take_length
def vA:type_of% @List.dropLast_concat_getLast:=@List.dropLast_concat_getLast
def vB:type_of% @Prod.mk.inj:=@Prod.mk.inj
def vC:type_of% @List.cons.inj:=@List.cons.inj
def vD:type_of% @Nat.add_sub_cancel_left:=@Nat.add_sub_cancel_left
def vE:type_of% @List.drop_eq_nil_of_le:=@List.drop_eq_nil_of_le
def iN{c:Prop}[Decidable c]{α:Type _}{t e:α}(h:¬c:=by omega):ite c t e=e:=if_neg h
def iP{c:Prop}[Decidable c]{α:Type _}{t e:α}(h:c:=by omega):ite c t e=t:=if_pos h
@[reducible] def Cell.El:Cell->Type
  | .int _=>Int
  | .bool=>Bool
  | .str=>ByteArray
  | .ptr=>Option Addr
  | .slice=>Sl
  | .map=>Option Nat
  | .any=>Value
def Cell.mk:(c:Cell)->c.El->Value
  | .int k,n=>.int k n
  | .bool,b=>.bool b
  | .str,s=>.string s
  | .ptr,p=>.pointer p
  | .slice,s=>.slice s.a s.len s.cap
  | .map,m=>.map m
  | .any,v=>v
def Cell.un:(c:Cell)->Value->Option c.El
  | .int k,.int j n=>if k=j then some n else none
  | .bool,.bool b=>some b
  | .str,.string s=>some s
  | .ptr,.pointer p=>some p
  | .slice,.slice a l c=>some ⟨a,l,c⟩
  | .map,.map m=>some m
  | .any,v=>some v
  | _,_=>none
def Cell.lI{c:Cell}{v:Value}{x:c.El}(h:c.un v=some x):c.mk x=v:=by
  cases c<;>cases v<;>simp[Cell.un] at h<;>first
    | (obtain⟨rfl,rfl⟩:=h;rfl)
    | (subst h;rfl)
@[reducible] def HL:List Cell->Type
  | []=>Unit
  | [c]=>c.El
  | c::d::cs=>c.El×HL (d::cs)
def HL.mk:(cs:List Cell)->HL cs->List Value
  | [],_=>[]
  | [c],x=>[c.mk x]
  | c::d::cs,x=>c.mk x.1::HL.mk (d::cs) x.2
def HL.j3:∀(cs:List Cell) (x:HL cs),(HL.mk cs x).length=cs.length
  | [],_=>rfl
  | [_],_=>rfl
  | _::d::cs,x=>by simp only[HL.mk,yI,HL.j3 (d::cs) x.2]
def HL.un:(cs:List Cell)->List Value->Option (HL cs)
  | [],[]=>some ()
  | [c],[v]=>c.un v
  | c::d::cs,v::vs=>
    match c.un v,HL.un (d::cs) vs with
    | some x,some y=>some (x,y)
    | _,_=>none
  | _,_=>none
def HL.lI:∀ {cs:List Cell} {vs:List Value} {x:HL cs},HL.un cs vs=some x->HL.mk cs x=vs
  | [],[],_,_=>rfl
  | [],_::_,_,h=>by simp[HL.un] at h
  | [c],[v],x,h=>by simp only[HL.un] at h;simp only[HL.mk,Cell.lI h]
  | [c],[],x,h=>by simp[HL.un] at h
  | [c],_::_::_,x,h=>by simp[HL.un] at h
  | c::d::cs,[],x,h=>by simp[HL.un] at h
  | c::d::cs,v::vs,x,h=>by simp only[HL.un] at h;split at h;rename_i a b ha hb;cases h;simp only[HL.mk,Cell.lI ha,HL.lI hb];cases h
inductive gN where
  | one (c:Cell)
  | agg (cs:List Cell)
  | kF
abbrev dh:List gN:=[.one .slice]
abbrev di:List gN:=[.one .i]
abbrev dj:List gN:=[.one .bool]
abbrev dk:List gN:=[.one .slice,.one .i]
abbrev dl:List gN:=[.one (.int .u64)]
abbrev dm:List gN:=[.one .i,.one .i]
abbrev dp:List gN:=[.one .b,.one .slice,.one .i]
abbrev dq:List gN:=[.one .slice,.one .slice]
abbrev dr:List gN:=[.one .u,.one .i]
abbrev dt:List gN:=[.one .u]
abbrev du:List gN:=[.one .i,.one .bool]
abbrev dv:List gN:=[.one .any]
abbrev dw:List gN:=[.kF,.one .bool]
abbrev dx:List gN:=[.one (.int .u64),.one (.int .u64),.one .bool]
abbrev dy:List gN:=[.one .ptr]
abbrev dz:List gN:=[.one .ptr,.one .ptr]
abbrev dA:List gN:=[.one .u,.one .bool]
abbrev dB:List gN:=[.kF,.one .i]
abbrev dC:List gN:=[.one .ptr,.one .i]
abbrev dD:List gN:=[.one .slice,.one .slice,.one .bool]
abbrev dE:List gN:=[.one .u,.one .slice,.one .i]
abbrev dG:Sl:=⟨none,0,0⟩
@[reducible] def gN.El:gN->Type
  | .one c=>c.El
  | .agg cs=>HL cs
  | .kF=>List Value
def gN.mk:(t:gN)->t.El->Value
  | .one c,x=>c.mk x
  | .agg cs,x=>.agg (HL.mk cs x).toArray
  | .kF,x=>.agg x.toArray
def gN.un:(t:gN)->Value->Option t.El
  | .one c,v=>c.un v
  | .agg cs,.agg vs=>HL.un cs vs.toList
  | .kF,.agg vs=>some vs.toList
  | .agg _,_=>none
  | .kF,_=>none
def gN.lI{t:gN}{v:Value}{x:t.El}(h:t.un v=some x):t.mk x=v:=by
  cases t with
  | one c=>exact Cell.lI h
  | agg cs=>
    cases v<;>simp only[gN.un] at h<;>first
      | cases h
      | (simp only[gN.mk,HL.lI h])
  | kF=>
    cases v<;>simp only[gN.un] at h<;>first
      | (cases h;done)
      | (cases h;simp only[gN.mk])
@[reducible] def iY:List gN->Type
  | []=>Unit
  | [t]=>t.El
  | t::u::ts=>t.El×iY (u::ts)
def iY.vals:(ts:List gN)->iY ts->List Value
  | [],_=>[]
  | [t],x=>[t.mk x]
  | t::u::ts,x=>t.mk x.1::iY.vals (u::ts) x.2
def fT:(ts:List gN)->iY ts->Value
  | [],_=>.tuple #[]
  | [t],x=>t.mk x
  | t::u::ts,x=>.tuple (iY.vals (t::u::ts) x).toArray
abbrev Env:=List (Nat×Value)
def Env.get:Env->Nat->Option Value
  | [],_=>none
  | (k,v)::r,t=>bif Nat.beq k t then some v else Env.get r t
def Env.ev (e:Env):Operand->Option Value
  | .tmp t=>e.get t
  | .const v=>some v
  | .global g=>some (.pointer (some (dg g)))
  | .func f=>some (.func (.func f) #[] #[])
def Env.put (e:Env) (dst:Option Tmp) (v:Value):Env:=
  match dst with
  | some d=>(d,v)::e
  | none=>e
def Env.pI (e:Env):List Operand->Option (List Value)
  | []=>some []
  | x::xs=>match e.ev x,e.pI xs with
    | some v,some vs=>some (v::vs)
    | _,_=>none
abbrev Live:=List (Nat×gN)
@[reducible] def sF (l:Live):Type:=iY (l.map (·.2))
def qa:(l:Live)->sF l->Env
  | [],_=>[]
  | [(t,y)],x=>[(t,y.mk x)]
  | (t,y)::p::r,x=>(t,y.mk x.1)::qa (p::r) x.2
def nR:(l:Live)->Env->Option (sF l)
  | [],_=>some ()
  | [(t,y)],e=>match e.get t with|some v=>y.un v|none=>none
  | (t,y)::p::r,e=>
    match e.get t with
    | some v=>match y.un v with
      | some x=>match nR (p::r) e with
        | some z=>some (x,z)
        | none=>none
      | none=>none
    | none=>none
def jd (w:World) (a:Addr):Nat->List Value->Prop
  | _,[]=>True
  | i,[v]=>w.cell? (a.add i)=some v
  | i,v::vs=>w.cell? (a.add i)=some v/\jd w a (i+1) vs
structure lK where
  ld:(c:Cell)->Addr->World->(c.El->Prop)->Prop
  dK:(cs:List Cell)->Addr->World->(HL cs->Prop)->Prop
  ij:Nat->Addr->World->(List Value->Prop)->Prop
  nM:(c:Cell)->List Value->Nat->(c.El->Prop)->Prop
  jv:(cs:List Cell)->List Value->Nat->(HL cs->Prop)->Prop
  fg:TypeId->World->(Nat->World->Prop)->Prop
  st:Addr->List Value->World->(World->Prop)->Prop
  new:Obj->World->(Nat->World->Prop)->Prop
  idx:Sl->Int->Nat->(Addr->Prop)->Prop
  jw:ByteArray->Int->(Int->Prop)->Prop
  jL:(c:Cell)->Nat->List Value->Int->(c.El->Prop)->Prop
  fD:Sl->Option Int->Option Int->Option Int->Nat->(Sl->Prop)->Prop
  jO:ByteArray->Option Int->Option Int->(ByteArray->Prop)->Prop
  jl:Addr->Nat->Option Int->Option Int->Option Int->Nat->(Sl->Prop)->Prop
  mF:TypeId->List Value->Nat->Nat->Int->Int->World->(Sl->World->Prop)->Prop
  gF:Prop->Prop->Prop
  call:FuncId->List Value->(ts:List gN)->World->(iY ts->World->Prop)->Prop
  ed:Value->List Value->(ts:List gN)->World->(iY ts->World->Prop)->Prop
  inv:Value->String->List Value->(ts:List gN)->World->(iY ts->World->Prop)->Prop
  run:(ts:List gN)->Result Value->(iY ts->World->Prop)->Prop
  eW:(ts:List gN)->(World->Result Value)->World->(iY ts->Prop)->Prop
  i9:Result Unit->(World->Prop)->Prop
  join:(S:Type)->((S->World->Prop)->Prop)->(S->World->Prop)->Prop
  loop:(S:Type)->((S->World->Prop)->S->World->Prop)->S->World->Prop
  held:List (World->Prop)->World->Prop->Prop
  ext:FuncId->List Value->(ts:List gN)->World->(iY ts->World->Prop)->Prop
  kH:Value->(pts:List gN)->(iY pts->(World->(World->Prop)->Prop)->(World->Prop)->(Nat->World->Prop)->World->Prop)->(Nat->World->Prop)->List (Nat->World->Prop)->World->Prop
  eS:Nat->World->(World->Prop)->Prop
  nf:Sl->Nat->(Addr->Prop)->Prop
  mY:Result Value->(World->Prop)->(Value->Value->World->Prop)->Prop
  ng:Result Value->(Value->Value->World->Prop)->Prop
def cellOf:Value->Cell
  | .int k _=>.int k
  | .bool _=>.bool
  | .string _=>.str
  | .pointer _=>.ptr
  | .slice _ _ _=>.slice
  | .map _=>.map
  | _=>.any
def oe (P:Program) (t:TypeId):gN:=
  match (P.info? t).bind (·.zero) with
  | some (.agg cs)=>bif Nat.ble cs.size 16 then .agg (cs.toList.map cellOf) else .kF
  | some v=>.one (cellOf v)
  | none=>.one .any
def nK (P:Program) (t:TypeId):List gN:=
  match P.underlying t with
  | some (.tuple ts)=>ts.toList.map (oe P)
  | _=>[oe P t]
def eX (P:Program) (t:TypeId):Bool:=
  match P.underlying t with
  | some (.struct _)|some (.array _ _)=>true
  | _=>false
def eK (P:Program) (t:TypeId):Nat:=((P.info? t).map (·.size)).getD 0
def md (e:Env):Option Operand->Option (Option Int)
  | none=>some none
  | some x=>match e.ev x with
    | some (.int _ n)=>some (some n)
    | _=>none
def mi:Operand->Bool
  | .const (.int _ n)=>n != 0
  | _=>false
def mf:Operand->Bool
  | .const (.int _ n)=>decide (0<=n)
  | _=>false
def rM (n:Nat):Operand->Option Nat
  | .const (.int _ i)=>if 0<=i/\i<(n:Int) then some i.toNat else none
  | _=>none
def qz (size:Nat) (len:Nat) (zero:List Value) (parts:List (Nat×Value)):Option (Array Value):=
  Instr.fill (fun i=>some (i*size,size)) ((Array.range (len*size)).map (zero.toArray[·%zero.toArray.size]!)) parts
def lC (e:Env):List (Nat×Operand)->Option (List (Nat×Value))
  | []=>some []
  | (i,x)::r=>match e.ev x,lC e r with
    | some v,some vs=>some ((i,v)::vs)
    | _,_=>none
inductive Cls where
  | pure | read | xa
  deriving DecidableEq
def iy (P:Program) (f:FuncId):Bool:=match P.funcs[f]? with|some fn=>fn.body.isNone||(fn.name== "runtime.NumGoroutine")|none=>true
def mS (P:Program) (t:TypeId):Bool:=(P.info? t).isSome&&(P.underlying t).isSome
def uP (P:Program) (t:TypeId):Bool:=
  match P.underlying t with
  | some (.int _)|some .bool|some .string=>true
  | _=>false
def wS (P:Program) (t:TypeId):Bool:=match P.underlying t with|some (.map _ _)=>true|_=>false
def tM (P:Program) (t:TypeId):Bool:=match P.underlying t with|some (.slice _)=>true|_=>false
def wj (P:Program) (t:TypeId):Bool:=match P.underlying t with|some .string=>true|_=>false
def th (P:Program) (t:TypeId):Bool:=match P.underlying t with|some (.int _)=>true|_=>false
def FA (P:Program) (t:TypeId):Bool:=match P.underlying t with|some (.array _ _)=>true|_=>false
def iM:Operand->Bool
  | .const (.pointer none)=>true
  | .const (.slice none _ _)=>true
  | .const (.map none)=>true
  | .const .nilIface=>true
  | .const .nilFunc=>true
  | _=>false
def zq (P:Program):Op->Cls
  | .move _ | .assign _ | .pick .. | .nilCheck _ | .unOp .. | .extract .. | .field .. | .fieldAddr .. | .makeInterface .. | .makeFunc .. | .build ..
  | .indexAddr .. | .index .. | .slice .. | .sliceToArrayPointer ..=>.pure
  | .binOp op t x y _=>
    match op with
    | .eql | .neq=>if uP P t||iM x||iM y then .pure else .read
    | _=>.pure
  | .convert s d _=>if th P s&&th P d then .pure else if tM P s&&wj P d then .read else .xa
  | .load .. | .typeAssert ..=>.read
  | .lookup ..=>.read
  | .call { callee:=.builtin .len,argTypes,.. }=>if wS P (argTypes.getD 0 0) then .read else .pure
  | .call { callee:=.builtin .cap,.. } | .call { callee:=.builtin .min,.. } | .call { callee:=.builtin .max,.. }=>.pure
  | _=>.xa
def ru (op:BinOp) (k:IntKind) (a b:Int):Option Value:=
  match op with
  | .add=>some (.int k (k.wrap (a+b)))
  | .sub=>some (.int k (k.wrap (a-b)))
  | .mul=>some (.int k (k.wrap (a*b)))
  | .and=>some (.int k (bits .and k a b))
  | .or=>some (.int k (bits .or k a b))
  | .xor=>some (.int k (bits .xor k a b))
  | .andNot=>some (.int k (bits .andNot k a b))
  | .eql=>some (.bool (a==b))
  | .neq=>some (.bool (a != b))
  | .lss=>some (.bool (decide (a<b)))
  | .leq=>some (.bool (decide (a<=b)))
  | .gtr=>some (.bool (decide (a>b)))
  | .geq=>some (.bool (decide (a>=b)))
  | _=>none
def rj (op:BinOp) (a b:ByteArray):Option Value:=
  match op with
  | .lss=>some (.bool (Op.bytesLess a.toList b.toList))
  | .leq=>some (.bool (Op.bytesLess a.toList b.toList||a.toList==b.toList))
  | .gtr=>some (.bool (!(Op.bytesLess a.toList b.toList||a.toList==b.toList)))
  | .geq=>some (.bool (!Op.bytesLess a.toList b.toList))
  | _=>none
def isIface:Value->Bool
  | .nilIface=>true
  | .iface _ _=>true
  | _=>false
def pS:Value->Bool
  | .nilIface=>true
  | _=>false
def uI:Value->Bool
  | .nilFunc=>true
  | .func _ _ _=>true
  | _=>false
def p4:Value->Bool
  | .nilFunc=>true
  | _=>false
def rN (C:lK) (P:Program) (t:TypeId) (v u:Value) (K:Bool->Prop):Prop:=
  match P.underlying t with
  | some (.pointer _)=>match v,u with | .pointer p,.pointer none=>K p.isNone|_,_=>False
  | some (.slice _)=>match v,u with | .slice a _ _,.slice none _ _=>K a.isNone|_,_=>False
  | some (.map _ _)=>match v,u with | .map r,.map none=>K r.isNone|_,_=>False
  | some (.interface _)=>match u with | .nilIface=>C.gF (isIface v=true) (K (pS v))|_=>False
  | some (.func _ _ _)=>match u with | .nilFunc=>C.gF (uI v=true) (K (p4 v))|_=>False
  | _=>False
def uY (C:lK) (P:Program) (t:TypeId) (x y:Operand) (e:Env) (K:Bool->Prop):Prop:=
  match e.ev x,e.ev y with
  | some a,some b=>
    bif iM y then rN C P t a b K else bif iM x then rN C P t b a K else
    match a,b with
    | .int k a,.int j b=>bif k==j then K (a==b) else False
    | .bool a,.bool b=>match P.underlying t with|some .bool=>K (a==b)|_=>False
    | .string a,.string b=>K (a.toList==b.toList)
    | _,_=>False
  | _,_=>False
def gy (C:lK) (P:Program) (o:Oper) (e:Env) (w:World) (K:Value->Prop):Prop:=
  match o.op with
  | .move x=>match e.ev x with|some v=>K v|none=>False
  | .assign x=>match e.ev x with|some v=>K v|none=>False
  | .nilCheck x=>
    match e.ev x with
    | some (.pointer p)=>match p with
      | some a=>K (.pointer (some a))
      | none=>False
    | _=>False
  | .pick c a b=>
    match e.ev c,e.ev a,e.ev b with
    | some (.bool t),some x,some y=>match t with|true=>K x|false=>K y
    | _,_,_=>False
  | .binOp .quo t x y yt=>
      match e.ev x,e.ev y with
      | some (.int k a),some (.int j b)=>bif k==j then (bif mi y then K (.int k (k.wrap (a.tdiv b))) else C.gF (b≠0) (K (.int k (k.wrap (a.tdiv b))))) else False
      | _,_=>False
  | .binOp .rem t x y yt=>
      match e.ev x,e.ev y with
      | some (.int k a),some (.int j b)=>bif k==j then (bif mi y then K (.int k (a.tmod b)) else C.gF (b≠0) (K (.int k (a.tmod b)))) else False
      | _,_=>False
  | .binOp .shl t x y yt=>
      match e.ev x,e.ev y with
      | some (.int k a),some (.int _ b)=>bif mf y then K (.int k (k.wrap (a*2^min b.toNat k.bits))) else C.gF (0<=b) (K (.int k (k.wrap (a*2^min b.toNat k.bits))))
      | _,_=>False
  | .binOp .shr t x y yt=>
      match e.ev x,e.ev y with
      | some (.int k a),some (.int _ b)=>bif mf y then K (.int k (a.fdiv (2^min b.toNat k.bits))) else C.gF (0<=b) (K (.int k (a.fdiv (2^min b.toNat k.bits))))
      | _,_=>False
  | .binOp .eql t x y _=>uY C P t x y e (fun r=>K (.bool r))
  | .binOp .neq t x y _=>uY C P t x y e (fun r=>K (.bool (!r)))
  | .binOp op t x y _=>
    match e.ev x,e.ev y with
    | some (.int k a),some (.int j b)=>bif k==j then (match ru op k a b with|some v=>K v|none=>False) else False
    | some (.string a),some (.string b)=>match op with
      | .add=>C.gF (((a.size+b.size:Nat):Int)<=IntKind.i64.max) (K (.string (a++b)))
      | op=>match rj op a b with|some v=>K v|none=>False
    | _,_=>False
  | .unOp op _ x=>
    match e.ev x with
    | some (.int k n)=>match op with
      | .neg=>K (.int k (k.wrap (0-n)))
      | .xor=>K (.int k (bits .xor k (if k.signed then -1 else k.max) n))
      | _=>False
    | some (.bool b)=>match op with
      | .not=>K (.bool (!b))
      | _=>False
    | _=>False
  | .convert s d x=>
    match P.underlying s,e.ev x with
    | some _,some (.int _ n)=>match P.underlying d with
      | some (.int k)=>K (.int k (k.wrap n))
      | _=>False
    | _,_=>False
  | .extract x i=>
    match e.ev x with
    | some (.tuple vs)=>match vs.toList[i]? with|some v=>K v|none=>False
    | _=>False
  | .field t x f=>
    match P.underlying t,e.ev x with
    | some (.struct fs),some (.agg cs)=>match fs[f]? with
      | some fd=>bif !mS P fd.type then False else match oe P t with
       | .kF=>match oe P fd.type with
         | .one c=>bif eX P fd.type then False else C.nM c cs.toList fd.offset (fun y=>K (c.mk y))
         | .agg cl=>bif eX P fd.type&&Nat.beq (eK P fd.type) cl.length then C.jv cl cs.toList fd.offset (fun y=>K (.agg (HL.mk cl y).toArray)) else False
         | .kF=>bif eX P fd.type then K (.agg (cs.toList.extract fd.offset (fd.offset+eK P fd.type)).toArray) else False
       | _=>bif eX P fd.type then K (.agg (cs.toList.extract fd.offset (fd.offset+eK P fd.type)).toArray) else match cs.toList[fd.offset]? with
        | some v=>K v
        | none=>False
      | none=>False
    | _,_=>False
  | .fieldAddr t x f=>
    match P.underlying t with
    | some (.struct fs)=>match fs[f]? with
      | some fd=>bif Nat.beq (eK P fd.type) 0 then False else match e.ev x with
        | some (.pointer p)=>match p with
          | some a=>K (.pointer (some (a.add fd.offset)))
          | none=>False
        | _=>False
      | none=>False
    | _=>False
  | .makeInterface t x=>
    match P.underlying t,e.ev x with
    | some (.interface _),_=>False
    | some _,some v=>K (.iface t v)
    | _,_=>False
  | .makeFunc fn first cap=>
    match e.pI first.toList,e.pI cap.toList with
    | some f,some c=>K (.func fn f.toArray c.toArray)
    | _,_=>False
  | .build t parts=>
    match lC e parts.toList with
    | some vs=>match oe P t with
      | .kF=>C.eW [.kF] (fun w'=>(Instr.build t vs.toArray).run P w') w (fun y=>K (.agg y.toArray))
      | _=>match (Instr.build t vs.toArray).run P w with
        | .ok v _=>K v
        | .halt _ _=>False
    | none=>False
  | .indexAddr t x ix=>
    match P.underlying t with
    | some (.slice el)=>bif !mS P el then False else match e.ev x,e.ev ix with
      | some (.slice a l c),some (.int _ i)=>C.idx ⟨a,l,c⟩ i (eK P el) (fun ad=>K (.pointer (some ad)))
      | _,_=>False
    | some (.array n el)=>bif !mS P el then False else match e.ev x with
      | some (.pointer (some a))=>match rM n ix with
        | some i=>K (.pointer (some (a.add (i*eK P el))))
        | none=>match e.ev ix with
          | some (.int _ i)=>C.gF (0<=i/\i<(n:Int)) (K (.pointer (some (a.add (i.toNat*eK P el)))))
          | _=>False
      | _=>False
    | _=>False
  | .sliceToArrayPointer t x=>
    match P.underlying t with
    | some (.array n _)=>match e.ev x with
      | some (.slice a l c)=>C.nf ⟨a,l,c⟩ n (fun ad=>K (.pointer (some ad)))
      | _=>False
    | _=>False
  | .index t x ix=>
    match P.underlying t with
    | some .string=>match e.ev x,e.ev ix with
      | some (.string s),some (.int _ i)=>C.jw s i (fun b=>K (.int .u8 b))
      | _,_=>False
    | some (.array n el)=>match e.ev x,e.ev ix with
      | some (.agg cs),some (.int _ i)=>
        match oe P el with
        | .one c=>bif eX P el||!(Nat.beq (eK P el) 1)||!mS P el then False else C.jL c n cs.toList i (fun y=>K (c.mk y))
        | .agg cl=>bif !(eX P el)||!(Nat.beq (eK P el) cl.length)||!mS P el then False else C.gF (0<=i/\i<(n:Int)) (C.jv cl cs.toList (i.toNat*cl.length) (fun y=>K (.agg (HL.mk cl y).toArray)))
        | .kF=>False
      | _,_=>False
    | _=>False
  | .slice t x lo hi mx=>
    bif mx.isSome&&hi.isNone then False else
    match md e lo,md e hi,md e mx with
    | some l,some h,some m=>
      match P.underlying t with
      | some (.slice el)=>bif !mS P el then False else match e.ev x with
        | some (.slice a n c)=>C.fD ⟨a,n,c⟩ l h m (eK P el) (fun s=>K (.slice s.a s.len s.cap))
        | _=>False
      | some .string=>match e.ev x,m with
        | some (.string s),none=>C.jO s l h (fun r=>K (.string r))
        | _,_=>False
      | some (.array n el)=>bif !mS P el then False else match e.ev x with
        | some (.pointer (some a))=>C.jl a n l h m (eK P el) (fun s=>K (.slice s.a s.len s.cap))
        | _=>False
      | _=>False
    | _,_,_=>False
  | .call { callee:=.builtin b,argTypes,args }=>
    match b with
    | .len=>match (argTypes[0]?).bind P.underlying,e.pI args.toList with
      | some (.slice _),some [.slice _ n _]=>K (.int .i64 n)
      | some .string,some [.string s]=>K (.int .i64 s.size)
      | some (.array n _),some [_]=>K (.int .i64 n)
      | _,_=>False
    | .cap=>match (argTypes[0]?).bind P.underlying,e.pI args.toList with
      | some (.slice _),some [.slice _ _ c]=>K (.int .i64 c)
      | _,_=>False
    | .min=>match e.pI args.toList with
      | some [.int k x,.int _ y]=>K (.int k (if y<x then y else x))
      | _=>False
    | .max=>match e.pI args.toList with
      | some [.int k x,.int _ y]=>K (.int k (if y>x then y else x))
      | _=>False
    | _=>False
  | _=>False
def lY (C:lK) (P:Program) (o:Oper) (e:Env) (w:World) (K:Value->(World->Prop)->Prop):Prop:=
  match o.op with
  | .load t x=>
    match e.ev x with
    | some (.pointer p)=>match p with
      | some a=>
        match oe P t with
        | .one c=>bif !mS P t then False else bif eX P t then False else C.ld c a w (fun y=>K (c.mk y) (fun w'=>w'.cell? a=some (c.mk y)))
        | .agg cs=>bif eX P t&&Nat.beq (eK P t) cs.length then C.dK cs a w (fun y=>K (.agg (HL.mk cs y).toArray) (fun w'=>jd w' a 0 (HL.mk cs y))) else False
        | .kF=>bif eX P t then C.ij (eK P t) a w (fun y=>K (.agg y.toArray) (fun w'=>jd w' a 0 y)) else False
      | none=>False
    | _=>False
  | .lookup t m k ok=>
    match e.ev m,e.ev k with
    | some vm,some vk=>C.eW (nK P o.type) (fun w'=>(Instr.lookup t vm vk ok).run P w') w (fun y=>K (fT _ y) (fun w'=>(Instr.lookup t vm vk ok).run P w'=.ok (fT _ y) w'))
    | _,_=>False
  | .typeAssert x xt as0 ok=>
    match e.ev x with
    | some v=>C.eW (nK P o.type) (fun w'=>(Instr.typeAssert v xt as0 ok).run P w') w (fun y=>K (fT _ y) (fun w'=>(Instr.typeAssert v xt as0 ok).run P w'=.ok (fT _ y) w'))
    | none=>False
  | .binOp op t x y _=>
    match e.ev x,e.ev y with
    | some a,some b=>C.eW dj (fun w'=>(do eqGuard op t x y a b;binOp op t a b:Sem Value).run P w') w (fun r=>K (.bool r) (fun w'=>(do eqGuard op t x y a b;binOp op t a b:Sem Value).run P w'=.ok (.bool r) w'))
    | _,_=>False
  | .convert s d x=>
    match e.ev x with
    | some v=>C.eW [.one .str] (fun w'=>(convert s d v).run P w') w (fun r=>K (.string r) (fun w'=>(convert s d v).run P w'=.ok (.string r) w'))
    | none=>False
  | .call { callee:=.builtin .len,argTypes,args }=>
    match e.pI args.toList with
    | some vs=>C.eW [.one (.int .i64)] (fun w'=>(Builtin.len_ argTypes o.type vs.toArray).run P w') w (fun r=>K (.int .i64 r) (fun w'=>(Builtin.len_ argTypes o.type vs.toArray).run P w'=.ok (.int .i64 r) w'))
    | none=>False
  | _=>False
def i3 (C:lK) (P:Program) (o:Oper) (e:Env) (w:World) (K:Value->World->Prop):Prop:=
  match o.op with
  | .store t x y=>
    match e.ev y with
    | some v=>match e.ev x with
      | some (.pointer p)=>match p with
        | some a=>match oe P t with
          | .kF=>bif mS P t then C.gF (v.cells.toList.length=eK P t) (C.st a v.cells.toList w (fun w'=>K undef w')) else False
          | _=>bif mS P t&&Nat.beq (eK P t) v.cells.size then C.st a v.cells.toList w (fun w'=>K undef w') else False
        | none=>False
      | _=>False
    | none=>False
  | .alloc t=>
    match oe P t with
    | .kF=>C.fg t w (fun b w'=>K (.pointer (some (dg b))) w')
    | _=>match (P.info? t).bind (·.zero) with
      | some z=>C.new (.cells z.cells t) w (fun b w'=>K (.pointer (some (dg b))) w')
      | none=>False
  | .box t x=>
    match e.ev x with
    | some v=>C.new (.cells v.cells t) w (fun b w'=>K (.pointer (some (dg b))) w')
    | none=>False
  | .buildSlice t len parts=>
    match P.underlying t with
    | some (.slice el)=>
      match (P.info? el).bind (·.zero),lC e parts.toList with
      | some z,some vs=>bif Nat.blt (2^24) (len*eK P el) then False else match oe P el with
       | .kF=>match len,vs with
         | 1,[(0,v)]=>C.gF (v.cells.toList.length=eK P el) (C.new (.cells v.cells el) w (fun b w'=>K (.slice (some (dg b)) 1 1) w'))
         | 0,[]=>C.new (.cells #[] el) w (fun b w'=>K (.slice (some (dg b)) 0 0) w')
         | _,_=>False
       | _=>match qz (eK P el) len (bif Nat.beq (len*eK P el) 0 then [] else z.cells.toList) vs with
        | some cells=>C.new (.cells cells el) w (fun b w'=>K (.slice (some (dg b)) len len) w')
        | none=>False
      | _,_=>False
    | _=>False
  | .makeSlice t l c=>
    match P.underlying t with
    | some (.slice el)=>
      match P.info? el,e.ev l,e.ev c with
      | some i,some (.int _ n),some (.int _ m)=>
        match i.zero with
        | some z=>C.mF el z.cells.toList i.size i.bytes n m w (fun s w'=>K (.slice s.a s.len s.cap) w')
        | none=>False
      | _,_,_=>False
    | _=>False
  | .makeMap t r=>
    match P.underlying t with
    | some (.map _ _)=>match md e r with
      | some _=>C.new (.map #[] 0) w (fun b w'=>K (.map (some b)) w')
      | none=>False
    | _=>False
  | .mapUpdate t m k x=>
    match e.ev m,e.ev k,e.ev x with
    | some a,some b,some c=>C.i9 ((Instr.mapUpdate t a b c).run P w) (fun w'=>K undef w')
    | _,_,_=>False
  | .insert t m k x=>
    match e.ev m,e.ev k,e.ev x with
    | some a,some b,some c=>C.i9 ((Instr.mapUpdate t a b c).run P w) (fun w'=>K undef w')
    | _,_,_=>False
  | .range t x=>
    match e.ev x with
    | some v=>C.run dv ((Instr.range t v).run P w) (fun y w'=>K y w')
    | none=>False
  | .next it s=>
    match e.ev it with
    | some v=>C.mY ((Instr.next v s o.type).run P w) (fun w'=>K (.tuple #[.bool false]) w') (fun x y w'=>K (.tuple #[.bool true,x,y]) w')
    | none=>False
  | .entry it=>
    match e.ev it with
    | some v=>C.ng ((Instr.entry v).run P w) (fun x y w'=>K (.tuple #[x,y]) w')
    | none=>False
  | .convert s d x=>
    match e.ev x with
    | some v=>C.run (nK P o.type) ((convert s d v).run P w) (fun y w'=>K (fT _ y) w')
    | none=>False
  | .call { callee:=.builtin b,argTypes,args }=>
    match e.pI args.toList with
    | some vs=>
      match b with
      | .append=>C.run dh ((Builtin.append_ argTypes o.type vs.toArray).run P w) (fun y w'=>K (.slice y.a y.len y.cap) w')
      | .copy=>C.run [.one (.int .i64)] ((Builtin.copy_ argTypes o.type vs.toArray).run P w) (fun y w'=>K (.int .i64 y) w')
      | .delete=>C.run [] ((Builtin.delete_ argTypes o.type vs.toArray).run P w) (fun _ w'=>K (.tuple #[]) w')
      | .clear=>C.run [] ((Builtin.clear_ argTypes o.type vs.toArray).run P w) (fun _ w'=>K (.tuple #[]) w')
      | _=>False
    | none=>False
  | .call { callee:=.value (.func f),args,.. }=>
    match e.pI args.toList with
    | some vs=>bif iy P f then C.ext f vs (nK P o.type) w (fun y w'=>K (fT _ y) w') else C.call f vs (nK P o.type) w (fun y w'=>K (fT _ y) w')
    | none=>False
  | .call { callee:=.value x,args,.. }=>
    match e.ev x,e.pI args.toList with
    | some v,some vs=>C.ed v vs (nK P o.type) w (fun y w'=>K (fT _ y) w')
    | _,_=>False
  | .call { callee:=.invoke x name,args,.. }=>
    match e.ev x,e.pI args.toList with
    | some v,some vs=>C.inv v name vs (nK P o.type) w (fun y w'=>K (fT _ y) w')
    | _,_=>False
  | _=>False
def wE (C:lK) (P:Program) (o:Oper) (e:Env) (w:World) (K:Value->World->Prop):Prop:=
  match zq P o.op with
  | .pure=>gy C P o e w (fun v=>K v w)
  | .read=>lY C P o e w (fun v _=>K v w)
  | .xa=>i3 C P o e w K
def guarded (ops:List Oper) (o:Oper) (e:Env) (yes no:Env->Prop):Prop:=
  match o.guard with
  | none=>yes e
  | some (j,want)=>
    match (ops[j]?).bind (·.dst) with
    | none=>False
    | some d=>
      match e.get d with
      | some (.bool b)=>
        match b with
        | true=>match want with
          | true=>yes ((d,.bool true)::e)
          | false=>no ((d,.bool true)::e)
        | false=>match want with
          | true=>no ((d,.bool false)::e)
          | false=>yes ((d,.bool false)::e)
      | some (.tuple _)=>no e
      | _=>False
def qd (C:lK) (P:Program) (ops:List Oper) (K:Env->World->Prop):List Oper->Env->World->Prop
  | [],e,w=>K e w
  | o::rest,e,w=>
    guarded ops o e
      (fun e'=>wE C P o e' w (fun v w'=>qd C P ops K rest (e'.put o.dst v) w'))
      (fun e'=>qd C P ops K rest (e'.put o.dst undef) w)
abbrev Holds:=List (Nat×(World->Prop))
def oz (ops:List Oper):Array Nat:=Region.before ops.toArray
def fq (b:Array Nat) (x:Nat) (H:Holds):List (World->Prop):=(H.filter fun p=>!(b.getD x 0).testBit p.1).map (·.2)
def kA (C:lK) (P:Program) (ops:List Oper) (b:Array Nat) (K:Env->World->Prop):List Nat->Holds->Env->World->Prop
  | [],_,e,w=>K e w
  | i::rest,H,e,w=>
    match ops[i]? with
    | none=>False
    | some o=>
      guarded ops o e
        (fun e'=>
          match zq P o.op with
          | .pure=>gy C P o e' w (fun v=>kA C P ops b K rest H (e'.put o.dst v) w)
          | .read=>lY C P o e' w (fun v h=>kA C P ops b K rest ((i,h)::H) (e'.put o.dst v) w)
          | .xa=>i3 C P o e' w (fun v w'=>
              match fq b i H with
              | []=>kA C P ops b K rest H (e'.put o.dst v) w'
              | l=>C.held l w' (kA C P ops b K rest H (e'.put o.dst v) w')))
        (fun e'=>kA C P ops b K rest H (e'.put o.dst undef) w)
def ow (C:lK) (P:Program) (ops:List Oper) (b:Array Nat) (K:Env->World->Prop):List (List Nat)->Env->World->Prop
  | [],_,_=>True
  | [ord],e,w=>kA C P ops b K ord [] e w
  | ord::more,e,w=>kA C P ops b K ord [] e w/\ow C P ops b K more e w
inductive PC where
  | skip
  | region (id:Nat) (ops:List Oper)
  | draw (id:Nat) (ops:List Oper) (orders:List (List Nat))
  | seq (a b:PC)
  | join (live:Live) (a b:PC)
  | cond (c:Operand) (t e:PC)
  | block (id:Nat) (body:PC)
  | loop (live:Live) (body:PC)
  | exit (id:Nat)
  | ret
  | kH (g:Operand) (ps:List Tmp) (pts:List gN) (assign body:PC)
  | other (c:Code)
def PC.erase:PC->Code
  | .skip=>.skip
  | .region id ops=>.region id ops.toArray false
  | .draw id ops _=>.region id ops.toArray true
  | .seq a b=>.seq a.erase b.erase
  | .join _ a b=>.seq a.erase b.erase
  | .cond c t e=>.cond c t.erase e.erase
  | .block id b=>.block id b.erase
  | .loop _ b=>.loop b.erase
  | .exit id=>.exit id
  | .ret=>.ret
  | .kH g ps _ x y=>.rangeFunc g ps.toArray x.erase y.erase
  | .other c=>c
inductive uF where
  | n
  | j (live:Live)
  | l (live:Live)
  | o (orders:List (List Nat))
  | r (pts:List gN)
def aS:List (Nat×uF)->List uF
  | []=>[]
  | (k,a)::r=>.replicate k .n++a::aS r
def nN (k:Nat):List uF:=.replicate k .n
def jm:Code->List uF->PC×List uF
  | .skip,as0=>(.skip,as0)
  | .region id ops draw,as0=>
    match draw with
    | false=>(.region id ops.toList,as0)
    | true=>match as0 with
      | .o ords::r=>(.draw id ops.toList ords,r)
      | .n::r=>(.draw id ops.toList [List.range ops.size],r)
      | []=>(.draw id ops.toList [List.range ops.size],[])
      | _=>(.other (.region id ops true),as0)
  | .seq a b,as0=>
    match as0 with
    | .j live::r=>
      let x:=jm a r
      let y:=jm b x.2
      (.join live x.1 y.1,y.2)
    | .n::r=>
      let x:=jm a r
      let y:=jm b x.2
      (.seq x.1 y.1,y.2)
    | []=>
      let x:=jm a []
      let y:=jm b x.2
      (.seq x.1 y.1,y.2)
    | _=>(.other (.seq a b),as0)
  | .cond c t f,as0=>
    let x:=jm t as0
    let y:=jm f x.2
    (.cond c x.1 y.1,y.2)
  | .block id b,as0=>
    let x:=jm b as0
    (.block id x.1,x.2)
  | .loop b,as0=>
    match as0 with
    | .l live::r=>
      let x:=jm b r
      (.loop live x.1,x.2)
    | _=>(.other (.loop b),as0)
  | .exit id,as0=>(.exit id,as0)
  | .ret,as0=>(.ret,as0)
  | .rangeFunc g ps x y,as0=>
    match as0 with
    | .r pts::r=>
      let u:=jm x r
      let v:=jm y u.2
      (.kH g ps.toList pts u.1 v.1,v.2)
    | _=>(.other (.rangeFunc g ps x y),as0)
  | c,as0=>(.other c,as0)
def pK (ops:List Oper) (t:Nat):Bool:=ops.any fun o=>match o.dst with|some d=>Nat.beq d t|none=>false
def PC.wr:PC->Nat->Bool
  | .skip,_=>false
  | .region _ ops,t=>pK ops t
  | .draw _ ops _,t=>pK ops t
  | .seq a b,t=>a.wr t||b.wr t
  | .join _ a b,t=>a.wr t||b.wr t
  | .cond _ a b,t=>a.wr t||b.wr t
  | .block _ b,t=>b.wr t
  | .loop _ b,t=>b.wr t
  | .exit _,_=>false
  | .ret,_=>false
  | .kH ..,_=>true
  | .other _,_=>true
def Env.jP (e:Env) (wr:Nat->Bool):Env:=
  match e with
  | []=>[]
  | (t,v)::r=>bif wr t then Env.jP r wr else (t,v)::Env.jP r wr
inductive iJ where
  | normal | exit (id:Nat) | ret
abbrev mW:=iJ->Env->World->Prop
def mW.j4 (Q:mW) (K:Env->World->Prop):mW:=fun x e w=>
  match x with
  | .normal=>K e w
  | x=>Q x e w
def PC.pt (C:lK) (P:Program):PC->mW->Env->World->Prop
  | .skip,Q,e,w=>Q .normal e w
  | .region _ ops,Q,e,w=>qd C P ops (Q .normal) ops e w
  | .draw _ ops orders,Q,e,w=>ow C P ops (oz ops) (Q .normal) orders e w.drew
  | .seq a b,Q,e,w=>a.pt C P (Q.j4 fun e' w'=>b.pt C P Q e' w') e w
  | .join live a b,Q,e,w=>
    C.join (sF live)
      (fun X=>a.pt C P (Q.j4 fun e' w'=>match nR live e' with|some s=>X s w'|none=>False) e w)
      (fun s w'=>b.pt C P Q (qa live s++e.jP (fun t=>a.wr t)) w')
  | .cond c t f,Q,e,w=>
    match e.ev c with
    | some (.bool b)=>match b with
      | true=>t.pt C P Q e w
      | false=>f.pt C P Q e w
    | _=>False
  | .block id body,Q,e,w=>
    body.pt C P (fun x e' w'=>match x with
      | .exit j=>bif Nat.beq j id then Q .normal e' w' else Q (.exit j) e' w'
      | x=>Q x e' w') e w
  | .loop live body,Q,e,w=>
    match nR live e with
    | some s0=>
      C.loop (sF live)
        (fun X s w'=>body.pt C P (Q.j4 fun e' w''=>match nR live e' with|some s'=>X s' w''|none=>False) (qa live s++e.jP (fun t=>body.wr t)) w')
        s0 w
    | none=>False
  | .exit id,Q,e,w=>Q (.exit id) e w
  | .ret,Q,e,w=>Q .ret e w
  | .kH ..,_,_,_=>False
  | .other _,_,_,_=>False
def PC.outs:PC->List iJ
  | .skip | .region .. | .draw .. | .other _ | .kH ..=>[]
  | .seq a b | .join _ a b | .cond _ a b=>a.outs++b.outs
  | .block id b=>b.outs.filter fun x=>match x with | .exit j=>!(Nat.beq j id)|_=>true
  | .loop _ b=>b.outs
  | .exit id=>[.exit id]
  | .ret=>[.ret]
def iJ.same:iJ->iJ->Bool
  | .normal,.normal=>true
  | .ret,.ret=>true
  | .exit i,.exit j=>Nat.beq i j
  | _,_=>false
def qK (x:iJ):List iJ->Nat->Option Nat
  | [],_=>none
  | y::r,i=>bif x.same y then some i else qK x r (i+1)
def pX:Env->List Tmp->List Value->Env
  | e,t::ts,v::vs=>pX ((t,v)::e) ts vs
  | e,_,_=>e
def m9 (C:lK) (P:Program) (x y:PC) (ps:List Tmp) (pts:List gN) (e:Env):iY pts->(World->(World->Prop)->Prop)->(World->Prop)->(Nat->World->Prop)->World->Prop:=
  fun u beg N J w'=>x.pt C P (fun z e' w1=>match z with
    | .normal=>beg w1 (fun w2=>y.pt C P (fun z e'' w3=>match z with
        | .normal=>N w3
        | z=>match qK z y.outs 0 with|some i=>J i w3|none=>False) e' w2)
    | _=>False) (pX e ps (iY.vals pts u)) w'
def PC.zu (C:lK) (P:Program):PC->(Option Nat->mW)->Option Nat->Env->World->Prop
  | .seq a b,Q,m,e,w=>a.zu C P (fun m' x e' w'=>match x with | .normal=>b.zu C P Q m' e' w'|x=>Q m' x e' w') m e w
  | .block id body,Q,m,e,w=>body.zu C P (fun m' x e' w'=>match x with
      | .exit j=>bif Nat.beq j id then Q m' .normal e' w' else Q m' (.exit j) e' w'
      | x=>Q m' x e' w') m e w
  | .kH g ps pts x y,Q,m,e,w=>
    match m with
    | some _=>False
    | none=>match e.ev g with
      | none=>False
      | some v=>
        C.kH v pts (m9 C P x y ps pts e)
          (fun D w'=>Q (some D) .normal e w') (y.outs.map fun z=>fun D w'=>Q (some D) z e w') w
  | c,Q,m,e,w=>c.pt C P (Q m) e w
def lf (C:lK) (P:Program):List ResultVar->Env->World->(List Value->Prop)->Prop
  | [],_,_,K=>K []
  | .tmp t::r,e,w,K=>
    match e.get t with
    | some v=>lf C P r e w (fun vs=>K (v::vs))
    | none=>False
  | .cell a t::r,e,w,K=>
    match e.get a with
    | some (.pointer (some ad))=>
      match oe P t with
      | .one c=>bif !mS P t then False else bif eX P t then False else C.ld c ad w (fun y=>lf C P r e w (fun vs=>K (c.mk y::vs)))
      | .agg cs=>bif eX P t&&Nat.beq (eK P t) cs.length then C.dK cs ad w (fun y=>lf C P r e w (fun vs=>K (.agg (HL.mk cs y).toArray::vs))) else False
      | .kF=>bif eX P t then C.ij (eK P t) ad w (fun y=>lf C P r e w (fun vs=>K (.agg y.toArray::vs))) else False
    | _=>False
def oneOf:List Value->Value
  | [v]=>v
  | vs=>.tuple vs.toArray
def lS:Nat->List Value->Env
  | _,[]=>[]
  | i,v::r=>(i,v)::lS (i+1) r
def v8 (C:lK) (P:Program) (rvs:List ResultVar) (c:PC) (args:List Value) (Q:Value->World->Prop) (w:World):Prop:=
  c.pt C P (fun x e w'=>match x with
    | .normal=>lf C P rvs e w' (fun vs=>Q (oneOf vs) w')
    | .ret=>lf C P rvs e w' (fun vs=>Q (oneOf vs) w')
    | .exit _=>False) (lS 0 args) w
def kO:(ts:List gN)->Value->Option (iY ts)
  | [],.tuple _=>some ()
  | [],_=>none
  | [t],v=>t.un v
  | t::u::ts,.tuple vs=>unVals (t::u::ts) vs.toList
  | _::_::_,_=>none
where
  unVals:(ts:List gN)->List Value->Option (iY ts)
  | [],[]=>some ()
  | [t],[v]=>t.un v
  | t::u::ts,v::vs=>
    match t.un v with
    | some x=>match unVals (u::ts) vs with
      | some y=>some (x,y)
      | none=>none
    | none=>none
  | _,_=>none
def vz (C:lK) (m:Option Nat) (w:World) (K:World->Prop):Prop:=match m with|none=>K w|some D=>C.eS D w K
def tL (C:lK) (P:Program) (fn:Func) (as0:List uF) (ts:List gN) (args:List Value) (K:iY ts->World->Prop) (w:World):Prop:=
  match fn.body with
  | some c=>(jm c as0).1.zu C P (fun m x e w'=>match x with
      | .exit _=>False
      | _=>vz C m w' (fun w2=>lf C P fn.results.toList e w2 (fun vs=>match kO ts (oneOf vs) with|some x=>K x w2|none=>False))) none (lS 0 args) w
  | none=>False
def vV (C:lK) (P:Program) (fn:Func) (as0:List uF) (ts:List gN) (args:List Value) (K:iY ts->World->Prop) (w:World):Prop:=
  match fn.body with
  | some c=>v8 C P fn.results.toList (jm c as0).1 args (fun v w'=>match kO ts v with|some x=>K x w'|none=>False) w
  | none=>False
def ld (c:Cell) (a:Addr) (w:World) (K:c.El->Prop):Prop:=∃x:c.El,w.cell? a=some (c.mk x)/\K x
def dK (cs:List Cell) (a:Addr) (w:World) (K:HL cs->Prop):Prop:=∃x:HL cs,jd w a 0 (HL.mk cs x)/\K x
def ij (n:Nat) (a:Addr) (w:World) (K:List Value->Prop):Prop:=∃x:List Value,(x.length=n/\jd w a 0 x)/\K x
def nM (c:Cell) (vs:List Value) (off:Nat) (K:c.El->Prop):Prop:=∃x:c.El,vs[off]?=some (c.mk x)/\K x
def jv (cs:List Cell) (vs:List Value) (off:Nat) (K:HL cs->Prop):Prop:=∃x:HL cs,vs.extract off (off+cs.length)=HL.mk cs x/\K x
def DE (a:Addr):Nat->List Value->World->(WP)->Prop
 | _,[],w,K=>K w
 | i,v::vs,w,K=>(v.oneCell'=true/\(∃u,w.cell? (a.add i)=some u)/\w.frozen? (a.add i)=false)/\DE a (i+1) vs (w.setCell (a.add i) v) K
def st (a:Addr) (vs:List Value) (w:World) (K:WP):Prop:=DE a 0 vs w K
def new (o:Obj) (w:World) (K:Nat->WP):Prop:=K w.heap.size (w.alloc o)
def fg (P:Program) (t:TypeId) (w:World) (K:Nat->WP):Prop:=∃z,(P.info? t).bind (·.zero)=some z/\K w.heap.size (w.alloc (.cells z.cells t))
def idx (s:Sl) (i:Int) (size:Nat) (K:Addr->Prop):Prop:=∃a,s.a=some a/\(0<=i/\i<(s.len:Int))/\K (a.add (i.toNat*size))
def nf (s:Sl) (n:Nat) (K:Addr->Prop):Prop:=∃a,s.a=some a/\n<=s.len/\K a
def jw (s:ByteArray) (i:Int) (K:Int->Prop):Prop:=∃b:UInt8,(0<=i/\s[i.toNat]?=some b)/\K (b.toNat:Int)
def jL (c:Cell) (n:Nat) (cs:List Value) (i:Int) (K:c.El->Prop):Prop:=∃x:c.El,(0<=i/\i<(n:Int)/\cs[i.toNat]?=some (c.mk x))/\K x
def fD (s:Sl) (lo hi mx:Option Int) (size:Nat) (K:Sl->Prop):Prop:=
 (0<=lo.getD 0/\lo.getD 0<=hi.getD s.len/\hi.getD s.len<=mx.getD s.cap/\mx.getD s.cap<=s.cap)/\
 K ⟨if (mx.getD s.cap).toNat=(lo.getD 0).toNat then s.a else s.a.map (·.add ((lo.getD 0).toNat*size)),(hi.getD s.len).toNat-(lo.getD 0).toNat,(mx.getD s.cap).toNat-(lo.getD 0).toNat⟩
def jO (s:ByteArray) (lo hi:Option Int) (K:ByteArray->Prop):Prop:=
 (0<=lo.getD 0/\lo.getD 0<=hi.getD s.size/\hi.getD s.size<=s.size)/\K (s.extract (lo.getD 0).toNat (hi.getD s.size).toNat)
def jl (a:Addr) (n:Nat) (lo hi mx:Option Int) (size:Nat) (K:Sl->Prop):Prop:=
 (0<=lo.getD 0/\lo.getD 0<=hi.getD n/\hi.getD n<=mx.getD n/\mx.getD n<=n)/\
 K ⟨some (if (mx.getD n).toNat=(lo.getD 0).toNat then a else a.add ((lo.getD 0).toNat*size)),(hi.getD n).toNat-(lo.getD 0).toNat,(mx.getD n).toNat-(lo.getD 0).toNat⟩
def gZ (zero:List Value) (c:Nat):Array Value:=(Array.range c).map fun i=>zero.toArray[i%zero.toArray.size]!
def mF (el:TypeId) (zero:List Value) (size bytes:Nat) (l c:Int) (w:World) (K:Sl->WP):Prop:=
 (0<=l/\l<=c/\(bytes:Int)*c<=2^48/\c<=2^48)/\K ⟨some ⟨w.heap.size,0,none⟩,l.toNat,c.toNat⟩ (w.alloc (.cells (gZ (if c.toNat*size=0 then [] else zero) (c.toNat*size)) el))
def gF (p K:Prop):Prop:=p/\K
def nn (p:Option Addr) (K:Addr->Prop):Prop:=match p with|some a=>K a|none=>False
def call (P:Program) (f:FuncId) (args:List Value) (ts:List gN) (w:World) (K:iY ts->WP):Prop:=
 Calls P f args.toArray w fun e w'=>∃x:iY ts,e=.returned (fT ts x)/\K x w'
def Wd (r:Option Nat):Fence:={ Fence.wide with round:=r }
def ed (P:Program) (v:Value) (args:List Value) (ts:List gN) (w:World) (K:iY ts->WP):Prop:=
 (∃(f:FuncId) (vs:List Value),(do let d <- Deferred.ofValue v args.toArray;invoke d.target d.args:Sem Next).run P w=.ok (.enter f vs.toArray) w/\call P f vs ts w K)\/
 (∃(l f:Nat) (tmps:Array Value) (assign body:Code),(do let d <- Deferred.ofValue v args.toArray;invoke d.target d.args:Sem Next).run P w=.ok (.round l f tmps assign body) w/\
  RoundIn (Wd none) 0 P l f tmps assign body w fun e w'=>∃x:iY ts,e=.returned (fT ts x)/\K x w')
def ext (P:Program) (f:FuncId) (args:List Value) (ts:List gN) (w:World) (K:iY ts->WP):Prop:=
 ∃(x:iY ts) (w':World),(callFunc f args.toArray).run P w=.ok (.value (fT ts x)) w'/\K x w'
def eS (D:Nat) (w:World) (K:WP):Prop:=w.heap[D]?=some (.deferred (some []))/\K (w.putObj D (.deferred none))
def oW (P:Program) (pts:List gN) (body:iY pts->(World->(WP)->Prop)->(WP)->(Nat->WP)->WP) (l:Nat) (R B:Obj) (J:Nat->Obj):Prop:=
 ∀(x:iY pts) (W:World) (K:Bool->WP),W.heap[l]?=some R->
  body x (fun W1 k=>W1.heap[l]?=some R/\k (W1.putObj l B)) (fun W'=>W'.heap[l]?=some B/\K true (W'.putObj l R)) (fun i W'=>W'.heap[l]?=some B/\K false (W'.putObj l (J i))) W->
  ed P (.func (.yield l) #[] #[]) (iY.vals pts x) dj W K
def kH (P:Program) (v:Value) (pts:List gN) (body:iY pts->(World->(WP)->Prop)->(WP)->(Nat->WP)->WP) (done:Nat->WP) (jumps:List (Nat->WP)) (w:World):Prop:=
 ∃(f:FuncId) (lb:List Value),v=.func (.func f) #[] lb.toArray/\iy P f=false/\
 ∀(R B:Obj) (J E:Nat->Obj) (E0:Obj),oW P pts body (w.heap.size+1) R B J->
  call P f (.func (.yield (w.heap.size+1)) #[] #[]::lb) [] ((w.alloc (.deferred (some []))).alloc R) (fun _ W=>
   (W.heap[w.heap.size+1]?=some R/\done w.heap.size (W.putObj (w.heap.size+1) E0))\/
   ∃i k,jumps[i]?=some k/\W.heap[w.heap.size+1]?=some (J i)/\k w.heap.size (W.putObj (w.heap.size+1) (E i)))
def inv (P:Program) (v:Value) (name:String) (args:List Value) (ts:List gN) (w:World) (K:iY ts->WP):Prop:=
 ∃(f:FuncId) (vs:List Value),(callMethod v name args.toArray).run P w=.ok (.enter f vs.toArray) w/\call P f vs ts w K
def run (ts:List gN) (r:Result Value) (K:iY ts->WP):Prop:=∃x w',r=.ok (fT ts x) w'/\K x w'
def eW (ts:List gN) (r:World->Result Value) (w:World) (K:iY ts->Prop):Prop:=∃x,r w=.ok (fT ts x) w/\K x
def i9 (r:Result Unit) (K:WP):Prop:=∃w',r=.ok () w'/\K w'
def join (S:Type) (X:(S->WP)->Prop) (Y:S->WP):Prop:=∃Mid:S->WP,X Mid/\∀s w,Mid s w->Y s w
def loop (S:Type) (B:(S->WP)->S->WP) (s:S) (w:World):Prop:=∀I:S->WP,(∀s w,B I s w->I s w)->I s w
def qb:List (WP)->WP
 | [],_=>True
 | [h],w=>h w
 | h::t,w=>h w/\qb t w
def held (l:List (WP)) (w:World) (K:Prop):Prop:=qb l w/\K
def mY (r:Result Value) (Ke:WP) (Ks:Value->Value->WP):Prop:=
 (∃w',r=.ok (.tuple #[.bool false]) w'/\Ke w')\/∃k v w',r=.ok (.tuple #[.bool true,k,v]) w'/\Ks k v w'
def ng (r:Result Value) (K:Value->Value->WP):Prop:=∃k v w',r=.ok (.tuple #[k,v]) w'/\K k v w'
def my (P:Program):lK where
 ld:=ld
 dK:=dK
 ij:=ij
 nM:=nM
 jv:=jv
 fg:=fg P
 st:=st
 new:=new
 idx:=idx
 jw:=jw
 jL:=jL
 fD:=fD
 jO:=jO
 jl:=jl
 mF:=mF
 gF:=gF
 call:=call P
 ed:=ed P
 inv:=inv P
 run:=run
 eW:=eW
 i9:=i9
 join:=join
 loop:=loop
 held:=held
 ext:=ext P
 kH:=kH P
 eS:=eS
 nf:=nf
 mY:=mY
 ng:=ng
def ql9:∀ {l:List (WP)} {w:World},qb l w->∀h∈l,h w
 | [],_,_,_,hm=>by cases hm
 | [x],_,hh,h,hm=>by simp at hm;subst hm;exact hh
 | x::y::t,w,hh,h,hm=>by rcases zG.1 hm with rfl|hm;exact hh.1;exact ql9 (l:=y::t) hh.2 h hm
structure Rel (n:Nat) (ds:List Deferred) (e:Env) (a:Act):Prop where
 size:a.tmps.size=n
 defers:a.defers=ds
 get:∀ t v,e.get t=some v->a.tmps.getD t undef=v
def Rel.ev{n:Nat}{ds:List Deferred}{e:Env}{a:Act}(h:Rel n ds e a){x:Operand}{v:Value}(hx:e.ev x=some v):a.eval x=v:=by
 cases x with
 | tmp t=>exact h.get t v hx
 | const u=>simpa[Env.ev,Act.eval] using hx
 | global g=>simpa[Env.ev,Act.eval] using hx
 | func f=>simpa[Env.ev,Act.eval] using hx
def Rel.pI{n:Nat}{ds:List Deferred}{e:Env}{a:Act}(h:Rel n ds e a):∀ {xs:List Operand} {vs:List Value},e.pI xs=some vs->xs.map a.eval=vs
 | [],vs,hx=>by simp[Env.pI] at hx;subst hx;rfl
 | x::xs,vs,hx=>by simp only[Env.pI] at hx;split at hx;rename_i v us h1 h2;cases hx;simp[h.ev h1,h.pI h2];cases hx
def Rel.j5{n:Nat}{e:Env}{a:Act}(h:Rel n ds e a){xs:Array Operand}{vs:List Value}(hx:e.pI xs.toList=some vs):xs.map a.eval=vs.toArray:=by
 have:=h.pI hx
 apply Array.ext';simpa using this
def Env.jK(e:Env)(d t:Nat)(v:Value):Env.get ((d,v)::e) t=if d=t then some v else e.get t:=by
 simp only[Env.get];by_cases h:d=t;subst h;simp;have:Nat.beq d t=false:=by cases hb:Nat.beq d t;rfl;exact absurd (yW hb) h
 simp[this,h]
def Rel.put{n:Nat}{ds:List Deferred}{e:Env}{a:Act}(h:Rel n ds e a){dst:Option Tmp}(hd:∀d,dst=some d->d<n)(v:Value):Rel n ds (e.put dst v) (a.put dst v):=by
 cases dst with
 | none=>exact h
 | some d=>
  refine⟨by simp[Act.put,h.size],by simp[Act.put,h.defers],fun t u hu=>?_⟩;simp only[Env.put,Env.jK] at hu;by_cases hdt:d=t;subst hdt;simp at hu;subst hu
  have:=hd d rfl
  have hs:=h.size;simp[Act.put,hs,this];simp[hdt] at hu
  have:=h.get t u hu
  simpa[Act.put,Array.getElem?_setIfInBounds_ne hdt] using this
def G7{n:Nat}{e:Env}{a:Act}(h:Rel n ds e a){x:Option Operand}{r:Option Int}(hx:md e x=some r): (x=none/\r=none)\/∃y k i,x=some y/\r=some i/\a.eval y=.int k i:=by
 cases x with
 | none=>simp[md] at hx;exact .inl ⟨rfl,hx.symm⟩
 | some y=>
  simp only[md] at hx;split at hx;rename_i k i he;cases hx;exact .inr ⟨y,k,i,rfl,rfl,h.ev he⟩;cases hx
def eN {α:Type}:Sem α->Prop
 | .pure _=>True
 | .program k=>∀p,eN (k p)
 | .mark _ k=>eN k
 | .halt _=>True
 | _=>False
def eN.run{α:Type}{P:Program}{s:Sem α}(h:eN s)(w w' w1:World)(v:α)(hr:s.run P w=.ok v w1):w1=w/\s.run P w'=.ok v w':=by
 induction s with
 | pure a=>simp[Sem.run] at hr⊢;exact⟨hr.2.symm,hr.1⟩
 | program k ih=>exact ih P (h P) hr
 | mark m k ih=>exact ih h hr
 | halt x=>simp[Sem.run] at hr
 | _=>exact h.elim
def eN.bind{α β:Type}{s:Sem α}{f:α->Sem β}(h:eN s)(hf:∀a,eN (f a)):eN (s >>=f):=by
 show eN (Sem.bind s f);induction s with
 | pure a=>exact hf a
 | program k ih=>exact fun p=>ih p (h p)
 | mark m k ih=>exact ih h
 | halt x=>trivial
 | _=>exact h.elim
def eN.pure{α:Type}(a:α):eN (Pure.pure a:Sem α):=trivial
def eN.stuck{α:Type}(s:String):eN (Go.stuck s:Sem α):=trivial
def eN.AP{α:Type}(s:Unsupported):eN (Go.unsupported s:Sem α):=trivial
def eN.qF:eN Go.program:=fun _=>trivial
def eN.underlying(t:TypeId):eN (Go.underlying t):=by unfold Go.underlying;exact .bind .qF fun p=>by split<;>first|exact .pure _|exact .stuck _
def eN.typeInfo(t:TypeId):eN (Go.typeInfo t):=by unfold Go.typeInfo;exact .bind .qF fun p=>by split<;>first|exact .pure _|exact .stuck _
def eN.zeroValue(t:TypeId):eN (Go.zeroValue t):=by unfold Go.zeroValue;exact .bind (.typeInfo t) fun p=>by split<;>first|exact .pure _|exact .AP _
def eN.sizeOf(t:TypeId):eN (Go.sizeOf t):=.bind (.typeInfo t) fun _=>.pure _
def eN.mapM{α β:Type}{f:α->Sem β}(hf:∀a,eN (f a))(xs:Array α):eN (xs.mapM f):=by
 rw[Array.mapM_eq_mapM_toList];have:∀l:List α,eN (l.mapM f):=by
  intro l;induction l with
  | nil=>simp only[List.mapM_nil];exact .pure _
  | cons a l ih=>simp only[List.mapM_cons];exact .bind (hf a) fun b=>.bind ih fun bs=>.pure _
 exact eN.bind (this _) fun _=>.pure _
def eN.build(t:TypeId)(ps:Array (Nat×Value)):eN (Instr.build t ps):=by
 unfold Instr.build;refine .bind (.zeroValue t) fun z=>.bind (.underlying t) fun d=>?_;split
 ·refine .bind (.mapM (fun f=>.bind (.sizeOf _) fun _=>.pure _) _) fun pl=>?_;split<;>first|exact .pure _|exact .stuck _
 ·refine .bind (.sizeOf _) fun s=>?_;split<;>first|exact .pure _|exact .stuck _
 exact .stuck _
section
variable {P:Program} {n:Nat} {ds:List Deferred} {e:Env} {a:Act} {o:Oper} {w:World}
def Fs{i:TypeInfo}(h:P.info? t=some i)(w:World):(typeInfo t).run P w=.ok i w:=by simp[typeInfo,h]
def qp(h:(P.info? t).isSome=true)(w:World):(sizeOf t).run P w=.ok (eK P t) w:=by
 cases hi:P.info? t with
 | none=>simp[hi] at h
 | some i=>simp[sizeOf,eK,Fs hi,hi]
def uG{z:Value}(h:(P.info? t).bind (·.zero)=some z)(w:World):(zeroValue t).run P w=.ok z w:=by
 cases hi:P.info? t with
 | none=>simp[hi] at h
 | some i=>
  simp[hi] at h;simp[zeroValue,Fs hi,h]
def Dk{j k:IntKind}(h:(j==k)=true):j=k:=by simpa using h
def vq(h:(P.underlying t).isSome=true)(w:World):(isAgg t).run P w=.ok (eX P t) w:=by
 cases hd:P.underlying t with
 | none=>simp[hd] at h
 | some d=>cases d<;>simp[isAgg,eX,run_underlying hd,hd]
def vn(h:eX P t=true):(P.underlying t).isSome=true:=by unfold eX at h;split at h<;>simp_all
def tV (neg:Bool):BinOp:=if neg then .neq else .eql
def qf7(h:iM y=true):∃u,y=.const u:=by unfold iM at h;split at h<;>first|exact⟨_,rfl⟩|cases h
def sZ{v u:Value}{r:Bool}(neg:Bool)(hr:(Op.equalIn 10000 t v u).run P w=.ok r w)(h1:∀k i,v≠.int k i)(h2:∀s,v≠.string s)(h3:∀k i,v≠.float k i)(h4:∀k i j,v≠.complex k i j): (binOp (tV neg) t v u).run P w=.ok (.bool (if neg then !r else r)) w:=by
 have he:(Op.equal t v u).run P w=.ok r w:=hr;cases neg<;>cases v<;>simp only[tV,if_true,if_false,Bool.false_eq_true]<;>
  first
   | exact absurd rfl (h1 _ _)
   | exact absurd rfl (h2 _)
   | exact absurd rfl (h3 _ _)
   | exact absurd rfl (h4 _ _ _)
   | (simp only[binOp];simp[he])
def qjP{x:Operand}{c u v:Value}{op:BinOp}(hv:∀cs,v≠.agg cs):eqGuard op t x (.const c) u v=pure ():=by
 cases op<;>cases u<;>cases v<;>first
  | rfl
  | exact absurd rfl (hv _)
  | (cases x<;>rfl)
def qkm{c u v:Value}{op:BinOp}(hv:∀cs,v≠.agg cs):eqGuard op t (.const c) y u v=pure ():=by
 cases op<;>cases u<;>cases v<;>first
  | rfl
  | exact absurd rfl (hv _)
def qrR{t d:Nat}(D:Nat)(hd:P.underlying t=some (.pointer d))(p:Option Addr)(w:World): (Op.equalIn (D+1) t (.pointer p) (.pointer none)).run P w=.ok p.isNone w/\(Op.equalIn (D+1) t (.pointer none) (.pointer p)).run P w=.ok p.isNone w:=by cases p<;>constructor<;>simp[Op.equalIn,run_underlying hd]
def qnM{t d:Nat}(D:Nat)(hd:P.underlying t=some (.slice d))(p:Option Addr)(i j k l:Nat)(w:World): (Op.equalIn (D+1) t (.slice p i j) (.slice none k l)).run P w=.ok p.isNone w/\(Op.equalIn (D+1) t (.slice none k l) (.slice p i j)).run P w=.ok p.isNone w:=by cases p<;>constructor<;>simp[Op.equalIn,run_underlying hd]
def qrQ{t d1 d2:Nat}(D:Nat)(hd:P.underlying t=some (.map d1 d2))(p:Option Nat)(w:World): (Op.equalIn (D+1) t (.map p) (.map none)).run P w=.ok p.isNone w/\(Op.equalIn (D+1) t (.map none) (.map p)).run P w=.ok p.isNone w:=by cases p<;>constructor<;>simp[Op.equalIn,run_underlying hd]
def qnL{t:Nat}{ms}(D:Nat)(hd:P.underlying t=some (.interface ms))(v:Value)(hv:isIface v=true)(w:World): (Op.equalIn (D+1) t v .nilIface).run P w=.ok (pS v) w/\(Op.equalIn (D+1) t .nilIface v).run P w=.ok (pS v) w:=by cases v<;>simp[isIface] at hv<;>constructor<;>simp[Op.equalIn,run_underlying hd,pS]
def qt4{t:Nat}{d1 d2 d3}(D:Nat)(hd:P.underlying t=some (.func d1 d2 d3))(v:Value)(hv:uI v=true)(w:World): (Op.equalIn (D+1) t v .nilFunc).run P w=.ok (p4 v) w/\(Op.equalIn (D+1) t .nilFunc v).run P w=.ok (p4 v) w:=by cases v<;>simp[uI] at hv<;>constructor<;>simp[Op.equalIn,run_underlying hd,p4]
def qqn{v u:Value}(h:rN (my P) P t v u K): ∃r,K r/\(∀cs,v≠.agg cs)/\(∀cs,u≠.agg cs)/\∀(w:World) (neg:Bool),(binOp (tV neg) t v u).run P w=.ok (.bool (if neg then !r else r)) w/\(binOp (tV neg) t u v).run P w=.ok (.bool (if neg then !r else r)) w:=by
 unfold rN at h;split at h;rename_i d hd;split at h;rename_i p;exact⟨_,h,oL,oL,fun w neg=>⟨sZ neg (qrR 9999 hd p w).1 oL oL oL oL,sZ neg (qrR 9999 hd p w).2 oL oL oL oL⟩⟩;exact h.elim;rename_i d hd;split at h;rename_i p i j k l;exact⟨_,h,oL,oL,fun w neg=>⟨sZ neg (qnM 9999 hd p i j k l w).1 oL oL oL oL,sZ neg (qnM 9999 hd p i j k l w).2 oL oL oL oL⟩⟩;exact h.elim;rename_i d1 d2 hd;split at h;rename_i p;exact⟨_,h,oL,oL,fun w neg=>⟨sZ neg (qrQ 9999 hd p w).1 oL oL oL oL,sZ neg (qrQ 9999 hd p w).2 oL oL oL oL⟩⟩;exact h.elim;rename_i ms hd;split at h;obtain⟨hi,hk⟩:=h;refine⟨_,hk,?_,oL,fun w neg=>⟨sZ neg (qnL 9999 hd v hi w).1 ?_ ?_ ?_ ?_,sZ neg (qnL 9999 hd v hi w).2 oL oL oL oL⟩⟩<;>
  (intros;intro hv;subst hv;simp[isIface] at hi)
 exact h.elim;rename_i d1 d2 d3 hd;split at h;obtain⟨hi,hk⟩:=h;refine⟨_,hk,?_,oL,fun w neg=>⟨sZ neg (qt4 9999 hd v hi w).1 ?_ ?_ ?_ ?_,sZ neg (qt4 9999 hd v hi w).2 oL oL oL oL⟩⟩<;>
  (intros;intro hv;subst hv;simp[uI] at hi)
 exact h.elim;exact h.elim
def qrT{x:Operand}(h:uY (my P) P t x y e K)(hr:Rel n ds e a): ∃r,K r/\∀(w:World) (neg:Bool),(do eqGuard (tV neg) t x y (a.eval x) (a.eval y);binOp (tV neg) t (a.eval x) (a.eval y):Sem Value).run P w=.ok (.bool (if neg then !r else r)) w:=by
 unfold uY at h;split at h;rename_i va vb hx hy;rw[hr.ev hx,hr.ev hy];cases hny:iM y with
 | true=>
  simp only[hny,cond_true] at h;obtain⟨r,hk,n1,n2,hrun⟩:=qqn h;obtain⟨c,rfl⟩:=qf7 hny;exact⟨r,hk,fun w neg=>by rw[qjP n2];exact (hrun w neg).1⟩
 | false=>
  simp only[hny,cond_false] at h;cases hnx:iM x with
  | true=>
   simp only[hnx,cond_true] at h;obtain⟨r,hk,n1,n2,hrun⟩:=qqn h;obtain⟨c,rfl⟩:=qf7 hnx;exact⟨r,hk,fun w neg=>by rw[qkm n1];exact (hrun w neg).2⟩
  | false=>
   simp only[hnx,cond_false] at h;split at h;rename_i k p j q;cases hkj:k==j with
   | true=>
    simp only[hkj,cond_true] at h;obtain rfl:=Dk hkj;refine⟨_,h,fun w neg=>?_⟩;cases neg<;>simp[tV,eqGuard_at_int,binOp_eql,binOp_neq,bne]
   | false=>simp only[hkj,cond_false] at h
   rename_i p q;split at h;rename_i hd;refine⟨_,h,fun w neg=>?_⟩;cases neg<;>simp[tV,eqGuard_at_bool,run_eql_bool w t p q hd,run_neq_bool w t p q hd];exact h.elim;rename_i p q;refine⟨_,h,fun w neg=>?_⟩;cases neg<;>simp[tV,eqGuard_at_string,binOp,Op.stringOp];exact h.elim
 exact h.elim
end
end
section
open Go List
variable {K:Value->WP} {N:Act->WP} {Q:Exit->Act->WP} {R:Ending->WP} {S:List Nat} {T t:TypeId} {an:List uF} {args vs:List Value} {cs tmps:Array Value} {f:FuncId} {fn:Func} {fr:Nat×Nat} {guard:Option (Nat×Bool)} {k:IntKind} {listed:Array Bool} {ops:List Oper} {parts ps:Array (Nat×Operand)} {s:Sem Value} {ts:List gN} {w':World} {z:Value}
variable {P:Program} {n:Nat} {ds:List Deferred} {e:Env} {a:Act} {o:Oper} {w:World}
def kX{w:World}{v:Value}(h:s.run P w=.ok v w'):(do pure (Next.value (<- s)):Sem Next).run P w=.ok (.value v) w':=by simp[h]
def ql5(hr:Rel n ds e a):∀ {ps:List (Nat×Operand)} {vs:List (Nat×Value)},lC e ps=some vs->ps.map (fun (i,x)=>(i,a.eval x))=vs
  | [],vs,h=>by simp[lC] at h;subst h;rfl
  | (i,x)::ps,vs,h=>by simp only[lC] at h;split at h;rename_i v us h1 h2;cases h;simp[hr.ev h1,ql5 hr h2];cases h
def AI(hr:Rel n ds e a){vs:List (Nat×Value)}(h:lC e ps.toList=some vs): (ps.map fun (i,x)=>(i,a.eval x))=vs.toArray:=by apply Array.ext';simpa using ql5 hr h
def Bd (x:Option Value) (r:Option Int):Prop:=(x=none/\r=none)\/∃k i,x=some (.int k i)/\r=some i
def Bd.of(hr:Rel n ds e a){x:Option Operand}{r:Option Int}(h:md e x=some r):Bd (x.map a.eval) r:=by rcases G7 hr h with ⟨rfl,rfl⟩|⟨y,k,i,rfl,rfl,hy⟩;exact .inl ⟨rfl,rfl⟩;exact .inr ⟨k,i,by simp[hy],rfl⟩
def Gk{nn cc:Nat}{l h m:Option Int}{lo hi mx:Option Value}(s:Bool)(hl:Bd lo l)(hh:Bd hi h)(hm:Bd mx m)(hmh:(mx.isSome&&hi.isNone)=false)(hb:0<=l.getD 0/\l.getD 0<=h.getD nn/\h.getD nn<=m.getD cc/\m.getD cc<=cc)(w:World): (Instr.sliceBounds s nn cc lo hi mx).run P w=.ok ((l.getD 0).toNat,(h.getD nn).toNat,(m.getD cc).toNat) w:=by obtain⟨b0,b1,b2,b3⟩:=hb;rcases hm with ⟨rfl,rfl⟩|⟨km,im,rfl,rfl⟩;rcases hh with ⟨rfl,rfl⟩|⟨kh,ih,rfl,rfl⟩;rcases hl with ⟨rfl,rfl⟩|⟨kl,il,rfl,rfl⟩;simp[Instr.sliceBounds];simp at b0 b1 b2 b3;simp[Instr.sliceBounds,Instr.sliceBound,asIntOf,b0,b1];rcases hl with ⟨rfl,rfl⟩|⟨kl,il,rfl,rfl⟩;simp at b0 b1 b2 b3;simp[Instr.sliceBounds,Instr.sliceBound,asIntOf,b1,b2];simp at b0 b1 b2 b3;have:0<=ih:=oJ;have:(ih.toNat:Int)=ih:=oJ;simp[Instr.sliceBounds,Instr.sliceBound,asIntOf, *];rcases hh with ⟨rfl,rfl⟩|⟨kh,ih,rfl,rfl⟩;simp at hmh;rcases hl with ⟨rfl,rfl⟩|⟨kl,il,rfl,rfl⟩;simp at b0 b1 b2 b3;have:0<=im:=oJ;have:(im.toNat:Int)=im:=oJ;simp[Instr.sliceBounds,Instr.sliceBound,asIntOf, *];simp at b0 b1 b2 b3;have:0<=ih:=oJ;have:0<=im:=oJ;have:(ih.toNat:Int)=ih:=oJ;have:(im.toNat:Int)=im:=oJ;simp[Instr.sliceBounds,Instr.sliceBound,asIntOf, *]
def qvo{op:BinOp}{x y:Int}{u v:Operand}{r:Value}(h:ru op k x y=some r)(w:World): (do eqGuard op t u v (.int k x) (.int k y);binOp op t (.int k x) (.int k y):Sem Value).run P w=.ok r w:=by cases op<;>simp[ru] at h<;>subst h<;>simp[eqGuard_at_int,binOp_add,binOp_sub,binOp_mul,binOp_and,binOp_or,binOp_xor,binOp_andNot,binOp_eql,binOp_neq,binOp_lss,binOp_leq,binOp_gtr,binOp_geq,Op.intArith,intBits_and,intBits_or,intBits_xor,intBits_andNot]
def qvW{op:BinOp}{x y:ByteArray}{u v:Operand}{r:Value}(h:rj op x y=some r)(w:World): (do eqGuard op t u v (.string x) (.string y);binOp op t (.string x) (.string y):Sem Value).run P w=.ok r w:=by cases op<;>simp[rj] at h<;>subst h<;>simp[eqGuard_at_string,binOp,Op.stringOp]
def qnB{y:Operand}(h:mi y=true){b:Int}(hy:e.ev y=some (.int k b)):b≠0:=by unfold mi at h;split at h;simp[Env.ev] at hy;obtain⟨rfl,rfl⟩:=hy;simpa using h;cases h
def qnA{y:Operand}(h:mf y=true){b:Int}(hy:e.ev y=some (.int k b)):0<=b:=by unfold mf at h;split at h;simp[Env.ev] at hy;obtain⟨rfl,rfl⟩:=hy;simpa using h;cases h
def tc(h:(!mS P t)=false):(P.info? t).isSome=true/\(P.underlying t).isSome=true:=by simpa[mS] using h
def AY(h:(!mS P t)=false)(cs:Array Value)(off:Nat)(w:World): (part t cs off).run P w=if eX P t then .ok (.agg (cs.extract off (off+eK P t))) w else match cs[off]? with|some v=>.ok v w|none=>.halt (.stuck "part: no such cell") w:=by
  obtain⟨h1,h2⟩:=tc h;unfold part;simp only[Sem.run_bind,vq h2,Result.andThen_ok];cases eX P t with
  | true=>simp[qp h1]
  | false=>cases cs[off]?<;>simp
set_option maxHeartbeats 1000000 in
def qoq{K:Value->Prop}(h:gy (my P) P o e w K)(hr:Rel n ds e a): ∃v,(∀w',(execOp a.eval o).run P w'=.ok (.value v) w')/\K v:=by
  obtain⟨dst,op,type,pos,after,guard⟩:=o;cases op;case move x=>
    simp only[gy] at h;split at h;rename_i v hv;exact⟨v,fun w'=>by simp[execOp,hr.ev hv],h⟩;exact h.elim
  case assign x=>
    simp only[gy] at h;split at h;rename_i v hv;exact⟨v,fun w'=>by simp[execOp,hr.ev hv],h⟩;exact h.elim
  case pick c x y=>
    simp only[gy] at h;split at h;rename_i t vx vy hc hx hy;cases t with
    | true=>exact⟨_,fun w'=>by simp[execOp,hr.ev hc,hr.ev hx,asBool],h⟩
    | false=>exact⟨_,fun w'=>by simp[execOp,hr.ev hc,hr.ev hy,asBool],h⟩
    exact h.elim
  case nilCheck x=>
    simp only[gy] at h;split at h;rename_i p hp;split at h;rename_i ad;exact⟨_,fun w'=>by simp[execOp,hr.ev hp],h⟩;exact h.elim;exact h.elim
  case binOp op t x y yt=>
    cases op;case eql=>
      obtain⟨r,hk,hrun⟩:=qrT h hr;exact⟨_,fun w'=>kX (by have:=hrun w' false;simpa[tV] using this),hk⟩
    case neq=>
      obtain⟨r,hk,hrun⟩:=qrT h hr;exact⟨_,fun w'=>kX (by have:=hrun w' true;simpa[tV] using this),hk⟩
    case quo=>
      simp only[gy] at h;split at h;rename_i k p j q hx hy;cases hkj:k==j with
      | true=>
        obtain rfl:=Dk hkj;simp only[hkj,cond_true] at h;have hq:q≠0/\K (.int k (k.wrap (p.tdiv q))):=by
          cases hc:mi y with
          | true=>simp only[hc,cond_true] at h;exact⟨qnB hc hy,h⟩
          | false=>simp only[hc,cond_false] at h;exact h
        exact⟨_,fun w'=>kX (by rw[hr.ev hx,hr.ev hy];simp[eqGuard_at_int,binOp_quo,Op.intDiv,hq.1]),hq.2⟩
      | false=>simp only[hkj,cond_false] at h
      exact h.elim
    case rem=>
      simp only[gy] at h;split at h;rename_i k p j q hx hy;cases hkj:k==j with
      | true=>
        obtain rfl:=Dk hkj;simp only[hkj,cond_true] at h;have hq:q≠0/\K (.int k (p.tmod q)):=by
          cases hc:mi y with
          | true=>simp only[hc,cond_true] at h;exact⟨qnB hc hy,h⟩
          | false=>simp only[hc,cond_false] at h;exact h
        exact⟨_,fun w'=>kX (by rw[hr.ev hx,hr.ev hy];simp[eqGuard_at_int,binOp_rem,Op.intDiv,hq.1]),hq.2⟩
      | false=>simp only[hkj,cond_false] at h
      exact h.elim
    case shl=>
      simp only[gy] at h;split at h;rename_i k p j q hx hy;have hq:0<=q/\K (.int k (k.wrap (p*2^min q.toNat k.bits))):=by
        cases hc:mf y with
        | true=>simp only[hc,cond_true] at h;exact⟨qnA hc hy,h⟩
        | false=>simp only[hc,cond_false] at h;exact h
      exact⟨_,fun w'=>kX (by rw[hr.ev hx,hr.ev hy];simp[eqGuard_at_int,binOp_shl,Op.shift,Int.not_lt.2 hq.1]),hq.2⟩;exact h.elim
    case shr=>
      simp only[gy] at h;split at h;rename_i k p j q hx hy;have hq:0<=q/\K (.int k (p.fdiv (2^min q.toNat k.bits))):=by
        cases hc:mf y with
        | true=>simp only[hc,cond_true] at h;exact⟨qnA hc hy,h⟩
        | false=>simp only[hc,cond_false] at h;exact h
      exact⟨_,fun w'=>kX (by rw[hr.ev hx,hr.ev hy];simp[eqGuard_at_int,binOp_shr,Op.shift,Int.not_lt.2 hq.1]),hq.2⟩;exact h.elim
    all_goals
      simp only[gy] at h;split at h;rename_i k p j q hx hy;cases hkj:k==j with
      | true=>
        obtain rfl:=Dk hkj;simp only[hkj,cond_true] at h;split at h;rename_i v hv;exact⟨v,fun w'=>kX (by rw[hr.ev hx,hr.ev hy];exact qvo hv w'),h⟩;exact h.elim
      | false=>simp only[hkj,cond_false] at h
      · rename_i p q hx hy;first
          | (split at h
             rename_i v hv;exact⟨v,fun w'=>kX (by rw[hr.ev hx,hr.ev hy];exact qvW hv w'),h⟩;exact h.elim)
          | (obtain⟨hc,hk⟩:=h
             exact⟨_,fun w'=>kX (by rw[hr.ev hx,hr.ev hy];simp only[eqGuard_at_string,binOp,Op.stringOp];rw[iN];rfl),hk⟩)
      exact h.elim
  case unOp op t x=>
    simp only[gy] at h;split at h;rename_i k i hx;split at h;exact⟨_,fun w'=>kX (by rw[hr.ev hx];simp[Op.unary,Op.intArith]),h⟩;exact⟨_,fun w'=>kX (by rw[hr.ev hx];simp[Op.unary,intBits_xor]),h⟩;exact h.elim;rename_i b hx;split at h;exact⟨_,fun w'=>kX (by rw[hr.ev hx];simp[Op.unary]),h⟩;exact h.elim;exact h.elim
  case convert s d x=>
    simp only[gy] at h;split at h;rename_i ds k i hs hx;split at h;rename_i kd hd;exact⟨_,fun w'=>kX (by rw[hr.ev hx];simp[convert,run_underlying hs,run_underlying hd,Conv.intToInt]),h⟩;exact h.elim;exact h.elim
  case extract x i=>
    simp only[gy] at h;split at h;rename_i vs hx;split at h;rename_i v hv;exact⟨v,fun w'=>kX (by rw[hr.ev hx];simp[Instr.extract,show vs[i]?=some v by simpa using hv]),h⟩;exact h.elim;exact h.elim
  case field t x f=>
    simp only[gy] at h;split at h;rename_i fs cs ht hx;split at h;rename_i fd hf;cases hok:!mS P fd.type with
    | true=>simp only[hok,cond_true] at h
    | false=>
      simp only[hok,cond_false] at h;have whole:eX P fd.type=true->∀vs',cs.toList.extract fd.offset (fd.offset+eK P fd.type)=vs'->∀w',(execOp a.eval ⟨dst,.field t x f,type,pos,after,guard⟩).run P w'=.ok (.value (.agg vs'.toArray)) w':=by intro hag vs' hvs w';refine kX ?_;rw[hr.ev hx];simp[Instr.field,run_underlying ht,hf,asAgg,AY hok,hag];apply Array.ext';simpa using hvs
      have part:eX P fd.type=false->∀v,cs.toList[fd.offset]?=some v->∀w',(execOp a.eval ⟨dst,.field t x f,type,pos,after,guard⟩).run P w'=.ok (.value v) w':=(by intro hag v hv w';refine kX ?_;rw[hr.ev hx];simp[Instr.field,run_underlying ht,hf,asAgg,AY hok,hag,show cs[fd.offset]?=some v by simpa using hv]);have pC:(bif eX P fd.type then K (.agg (cs.toList.extract fd.offset (fd.offset+eK P fd.type)).toArray) else match cs.toList[fd.offset]? with
          | some v=>K v
          | none=>False)->∃v,(∀w',(execOp a.eval ⟨dst,.field t x f,type,pos,after,guard⟩).run P w'=.ok (.value v) w')/\K v:=by
        intro h;cases hag:eX P fd.type with
        | true=>
          simp only[hag,cond_true] at h;exact⟨_,whole hag _ rfl,h⟩
        | false=>
          simp only[hag,cond_false] at h;split at h;rename_i v hv;exact⟨v,part hag v hv,h⟩;exact h.elim
      split at h;split at h;rename_i c _;cases hag:eX P fd.type with
      | true=>simp only[hag,cond_true] at h
      | false=>
        simp only[hag,cond_false] at h;obtain⟨y,hy,hk⟩:=h;exact⟨_,part hag _ hy,hk⟩
      rename_i cl _;cases hg:eX P fd.type&&Nat.beq (eK P fd.type) cl.length with
      | false=>simp only[hg,cond_false] at h
      | true=>
        simp only[hg,cond_true] at h;simp only[yB] at hg;obtain⟨y,hy,hk⟩:=h;have hsz:=yW hg.2;exact⟨_,whole hg.1 _ (by rw[hsz];exact hy),hk⟩
      cases hag:eX P fd.type with
      | true=>
        simp only[hag,cond_true] at h;exact⟨_,whole hag _ rfl,h⟩
      | false=>simp only[hag,cond_false] at h
      exact pC h
    exact h.elim;exact h.elim
  case fieldAddr t x f=>
    simp only[gy] at h;split at h;rename_i fs ht;split at h;rename_i fd hf;cases hz:Nat.beq (eK P fd.type) 0 with
    | true=>simp only[hz,cond_true] at h
    | false=>
      simp only[hz,cond_false] at h;split at h;rename_i p hx;split at h;rename_i ad;have hs:(P.info? fd.type).isSome=true:=by
        cases hi:P.info? fd.type with
        | none=>simp[eK,hi] at hz
        | some i=>rfl
      have hn:eK P fd.type≠0:=fun h0=>by simp[h0] at hz
      refine⟨_,fun w'=>kX ?_,h⟩;rw[hr.ev hx];simp[Instr.fieldAt,run_underlying ht,hf,Instr.sureAddr,fieldPlace,qp hs,hn];exact h.elim;exact h.elim
    exact h.elim;exact h.elim
  case makeInterface t x=>
    simp only[gy] at h;split at h;exact h.elim
    · rename_i d v hni hd hx;refine⟨_,fun w'=>kX ?_,h⟩;rw[hr.ev hx];simp only[Instr.makeInterface,Sem.run_bind,run_underlying hd,Result.andThen_ok];first
        | rfl
        | (split
           rename_i ms;exact (hni ms rfl).elim;rfl)
    exact h.elim
  case makeFunc fn first cap=>
    simp only[gy] at h;split at h;rename_i f c hf hc;exact⟨_,fun w'=>kX (by rw[hr.j5 hf,hr.j5 hc];simp[Instr.makeFunc]),h⟩;exact h.elim
  case build t parts=>
    simp only[gy] at h;split at h;rename_i vs hv;split at h;obtain⟨y,hy,hk⟩:=h;exact⟨_,fun w'=>kX (by rw[AI hr hv];exact ((eN.build t _).run w w' w _ hy).2),hk⟩;split at h;rename_i v w1 hrun;exact⟨v,fun w'=>kX (by rw[AI hr hv];exact ((eN.build t _).run w w' w1 v hrun).2),h⟩;exact h.elim;exact h.elim
  case sliceToArrayPointer t x=>
    simp only[gy] at h;split at h;rename_i len el ht;split at h;rename_i sa l c hx;obtain⟨ad,hsa,hb,hk⟩:=h;simp only at hsa hb;subst hsa;refine⟨_,fun w'=>kX ?_,hk⟩;rw[hr.ev hx];simp[Instr.arrayAt,run_underlying ht,Nat.not_lt.2 hb];exact h.elim;exact h.elim
  case indexAddr t x ix=>
    simp only[gy] at h;split at h;rename_i el ht;cases hok:!mS P el with
    | true=>simp only[hok,cond_true] at h
    | false=>
      simp only[hok,cond_false] at h;obtain⟨hi1,hi2⟩:=tc hok;split at h;rename_i sa l c k i hx hi;obtain⟨ad,hsa,hb,hk⟩:=h;simp only at hsa hb;subst hsa;refine⟨_,fun w'=>kX ?_,hk⟩;rw[hr.ev hx,hr.ev hi];simp[Instr.indexAt,asIntOf,run_underlying ht,hb,qp hi1];exact h.elim
    rename_i len el ht;cases hok:!mS P el with
    | true=>simp only[hok,cond_true] at h
    | false=>
      simp only[hok,cond_false] at h;obtain⟨hi1,hi2⟩:=tc hok;split at h;rename_i ad hx;split at h;rename_i i hc;refine⟨_,fun w'=>kX ?_,h⟩;unfold rM at hc;split at hc;rename_i k j;split at hc;rename_i hb;cases hc;rw[hr.ev hx];simp[Act.eval,Instr.indexAt,asIntOf,run_underlying ht,Instr.sureAddr,hb,qp hi1];cases hc;cases hc;split at h;rename_i k j hi;obtain⟨hb,hk⟩:=h;refine⟨_,fun w'=>kX ?_,hk⟩;rw[hr.ev hx,hr.ev hi];simp[Instr.indexAt,asIntOf,run_underlying ht,Instr.sureAddr,hb,qp hi1];exact h.elim;exact h.elim
    exact h.elim
  case index t x ix=>
    simp only[gy] at h;split at h;rename_i ht;split at h;rename_i s k i hx hi;obtain⟨b,⟨h0,hb⟩,hk⟩:=h;refine⟨_,fun w'=>kX ?_,hk⟩;rw[hr.ev hx,hr.ev hi];simp[Instr.index,asIntOf,run_underlying ht,h0,hb];exact h.elim;rename_i len el ht;split at h;rename_i cs k i hx hi;split at h;rename_i c hc;cases hg:eX P el||!(Nat.beq (eK P el) 1)||!mS P el with
    | true=>simp only[hg,cond_true] at h
    | false=>
      simp only[hg,cond_false] at h;simp only[Bool.or_eq_false_iff] at hg;obtain⟨⟨g1,g2⟩,g3⟩:=hg;have g2':eK P el=1:=yW (oP g2);obtain⟨y,⟨h0,h1,hy⟩,hk⟩:=h;obtain⟨hi1,hi2⟩:=tc g3;refine⟨_,fun w'=>kX ?_,hk⟩;rw[hr.ev hx,hr.ev hi];have hy':cs[i.toNat]?=some (c.mk y):=(oP hy);simp[Instr.index,asIntOf,run_underlying ht,h0,h1,qp hi1,g2',AY g3,g1,hy']
    rename_i cl hc;cases hg:!(eX P el)||!(Nat.beq (eK P el) cl.length)||!mS P el with
    | true=>simp only[hg,cond_true] at h
    | false=>
      simp only[hg,cond_false] at h;simp only[Bool.or_eq_false_iff] at hg;obtain⟨⟨g1,g2⟩,g3⟩:=hg;have g1':eX P el=true:=(oP g1);have g2':eK P el=cl.length:=yW (oP g2);obtain⟨⟨h0,h1⟩,y,hy,hk⟩:=h;obtain⟨hi1,hi2⟩:=tc g3;refine⟨_,fun w'=>kX ?_,hk⟩;rw[hr.ev hx,hr.ev hi];have hy':cs.extract (i.toNat*cl.length) (i.toNat*cl.length+cl.length)=(HL.mk cl y).toArray:=by apply Array.ext';simpa using hy
      simp[Instr.index,asIntOf,run_underlying ht,h0,h1,qp hi1,g2',AY g3,g1',hy']
    exact h.elim;exact h.elim;exact h.elim
  case slice t x lo hi mx=>
    simp only[gy] at h;cases hmh:mx.isSome&&hi.isNone with
    | true=>simp only[hmh,cond_true] at h
    | false=>
      simp only[hmh,cond_false] at h;split at h;rename_i l hh m hl hhi hm;have bl:=Bd.of hr hl;have bh:=Bd.of hr hhi;have bm:=Bd.of hr hm;have hmh':((mx.map a.eval).isSome&&(hi.map a.eval).isNone)=false:=(oP hmh);split at h;rename_i el ht;cases hok:!mS P el with
      | true=>simp only[hok,cond_true] at h
      | false=>
        simp only[hok,cond_false] at h;obtain⟨hi1,hi2⟩:=tc hok;split at h;rename_i sa nn cc hx;obtain⟨hb,hk⟩:=h;refine⟨_,fun w'=>kX ?_,hk⟩;rw[hr.ev hx];simp only[Instr.sliceAt,Sem.run_bind,run_underlying ht,Result.andThen_ok,Instr.slice,Gk true bl bh bm hmh' hb,qp hi1];rfl;exact h.elim
      rename_i ht;split at h;rename_i s hx;obtain⟨hb,hk⟩:=h;have hmn:mx=none:=by rcases G7 hr hm with ⟨e1,_⟩|⟨_,_,_,_,e2,_⟩;exact e1;cases e2
      subst hmn;refine⟨_,fun w'=>kX ?_,hk⟩;rw[hr.ev hx];have hb':0<=l.getD 0/\l.getD 0<=hh.getD s.size/\hh.getD s.size<=(none:Option Int).getD (s.size:Int)/\(none:Option Int).getD (s.size:Int)<=(s.size:Int):=⟨hb.1,hb.2.1,hb.2.2,Int.le_refl _⟩
      have:=Gk (P:=P) (nn:=s.size) (cc:=s.size) false bl bh (m:=none) (mx:=none) (.inl ⟨rfl,rfl⟩) oL hb' w'
      simp only[Option.map_none,Instr.sliceAt,Sem.run_bind,run_underlying ht,Result.andThen_ok,Instr.slice,Option.isSome_none,Bool.false_eq_true,if_false,this];rfl;exact h.elim;rename_i len el ht;cases hok:!mS P el with
      | true=>simp only[hok,cond_true] at h
      | false=>
        simp only[hok,cond_false] at h;obtain⟨hi1,hi2⟩:=tc hok;split at h;rename_i ad hx;obtain⟨hb,hk⟩:=h;refine⟨_,fun w'=>kX ?_,hk⟩;rw[hr.ev hx];simp only[Instr.sliceAt,Sem.run_bind,run_underlying ht,Result.andThen_ok,Instr.sureAddr,Sem.run_pure,Gk false bl bh bm hmh' hb,qp hi1];exact h.elim
      exact h.elim;exact h.elim
  case call c=>
    obtain⟨callee,args,argTypes⟩:=c;cases callee with
    | builtin b=>
      cases b<;>simp only[gy] at h<;>try exact h.elim
      case cap=>
        split at h;rename_i el _ _ c ht hv;obtain⟨t0,h0,h1⟩:=Option.bind_eq_some_iff.1 ht;exact⟨_,fun w'=>by simp[execOp,resolve,hr.j5 hv,invoke,builtin,Builtin.cap_,h0,run_underlying h1,goInt],h⟩;exact h.elim
      case len=>
        split at h;rename_i el _ k _ ht hv;obtain⟨t0,h0,h1⟩:=Option.bind_eq_some_iff.1 ht;exact⟨_,fun w'=>by simp[execOp,resolve,hr.j5 hv,invoke,builtin,Builtin.len_,h0,run_underlying h1,goInt],h⟩;rename_i s ht hv;obtain⟨t0,h0,h1⟩:=Option.bind_eq_some_iff.1 ht;exact⟨_,fun w'=>by simp[execOp,resolve,hr.j5 hv,invoke,builtin,Builtin.len_,h0,run_underlying h1,goInt],h⟩;rename_i k el u ht hv;obtain⟨t0,h0,h1⟩:=Option.bind_eq_some_iff.1 ht;exact⟨_,fun w'=>by simp[execOp,resolve,hr.j5 hv,invoke,builtin,Builtin.len_,h0,run_underlying h1,goInt],h⟩;exact h.elim
      case max=>
        split at h;rename_i k x j y hv;exact⟨_,fun w'=>by simp[execOp,resolve,hr.j5 hv,invoke,builtin,run_max_int2],h⟩;exact h.elim
      case min=>
        split at h;rename_i k x j y hv;exact⟨_,fun w'=>by simp[execOp,resolve,hr.j5 hv,invoke,builtin,run_min_int2],h⟩;exact h.elim
    | value f=>exact h.elim
    | invoke r m=>exact h.elim
  all_goals exact h.elim
def AE{ad:Addr}:∀(vs:List Value) (i:Nat) (acc:Array Value) (w:World),jd w ad i vs-> (loadCellsFrom ad i vs.length acc).run P w=.ok (acc++vs.toArray) w
  | [],i,acc,w,_=>by simp[loadCellsFrom]
  | [v],i,acc,w,h=>by have h':w.cell? (ad.add i)=some v:=h;simp[loadCellsFrom,h']
  | v::u::vs,i,acc,w,h=>by
    obtain⟨h1,h2⟩:=h
    have:=AE (u::vs) (i+1) (acc.push v) w h2
    simp only[yI] at this⊢;rw[loadCellsFrom];simp only[Sem.run_bind,run_load,h1,Result.andThen_ok,this];simp
def qot{K:Value->(WP)->Prop}(h:lY (my P) P o e w K)(hc:zq P o.op=.read)(hr:Rel n ds e a): ∃v hold,(execOp a.eval o).run P w=.ok (.value v) w/\(∀w',hold w'->(execOp a.eval o).run P w'=.ok (.value v) w')/\K v hold:=by
  obtain⟨dst,op,type,pos,after,guard⟩:=o;cases op;case load t x=>
    simp only[lY] at h;split at h;rename_i p hx;obtain⟨ad,rfl⟩:∃ad,p=some ad:=by
      cases p with
      | none=>exact h.elim
      | some ad=>exact⟨ad,rfl⟩
    dsimp only at h;split at h;rename_i c hcell;cases hok:!mS P t with
    | true=>simp only[hok,cond_true] at h
    | false=>
      simp only[hok,cond_false] at h;obtain⟨hi1,hi2⟩:=tc hok;cases hag:eX P t with
      | true=>simp only[hag,cond_true] at h
      | false=>
        simp only[hag,cond_false] at h;obtain⟨y,hy,hk⟩:=h;have key:∀w',w'.cell? ad=some (c.mk y)->(execOp a.eval ⟨dst,.load t x,type,pos,after,guard⟩).run P w'=.ok (.value (c.mk y)) w':=fun w' hw'=>
          kX (by rw[hr.ev hx];simp[Instr.loadAt,Instr.sureAddr,loadVar,vq hi2,hag,hw'])
        exact⟨_,_,key w hy,fun w' hw'=>key w' hw',hk⟩
    rename_i cs hcells;cases hg:eX P t&&Nat.beq (eK P t) cs.length with
    | false=>simp only[hg,cond_false] at h
    | true=>
      simp only[hg,cond_true] at h;simp only[yB] at hg;obtain⟨hag,hsz⟩:=hg;have hsz':=yW hsz;obtain⟨y,hy,hk⟩:=h;have hlen:(HL.mk cs y).length=cs.length:=HL.j3 cs y;have hsome:(P.info? t).isSome=true:=by
        cases hi:P.info? t with
        | none=>
          have:(P.underlying t).isSome=true:=vn hag;simp[Program.underlying,hi] at this
        | some i=>rfl
      have key:∀w',jd w' ad 0 (HL.mk cs y)->(execOp a.eval ⟨dst,.load t x,type,pos,after,guard⟩).run P w'=.ok (.value (.agg (HL.mk cs y).toArray)) w':=fun w' hw'=>
        kX (by
          rw[hr.ev hx]
          have:=AE (P:=P) (HL.mk cs y) 0 #[] w' hw'
          rw[hlen,<- hsz'] at this;simp[Instr.loadAt,Instr.sureAddr,loadVar,vq (vn hag),hag,qp hsome,loadCells,this])
      exact⟨_,_,key w hy,fun w' hw'=>key w' hw',hk⟩
    cases hag:eX P t with
    | false=>simp only[hag,cond_false] at h
    | true=>
      simp only[hag,cond_true] at h;obtain⟨y,hy,hk⟩:=h;have hsome:(P.info? t).isSome=true:=by
        cases hi:P.info? t with
        | none=>
          have:(P.underlying t).isSome=true:=vn hag;simp[Program.underlying,hi] at this
        | some i=>rfl
      have key:∀w',jd w' ad 0 y->(execOp a.eval ⟨dst,.load t x,type,pos,after,guard⟩).run P w'=.ok (.value (.agg y.toArray)) w':=fun w' hw'=>
        kX (by
          rw[hr.ev hx]
          have:=AE (P:=P) y 0 #[] w' hw'
          rw[hy.1] at this;simp[Instr.loadAt,Instr.sureAddr,loadVar,vq (vn hag),hag,qp hsome,loadCells,this])
      exact⟨_,_,key w hy.2,fun w' hw'=>key w' hw',hk⟩
    exact h.elim
  case lookup t m k ok=>
    simp only[lY] at h;split at h;rename_i vm vk hm hk;obtain⟨y,hy,hK⟩:=h;exact⟨_,_,kX (by rw[hr.ev hm,hr.ev hk];exact hy),fun w' hw'=>kX (by rw[hr.ev hm,hr.ev hk];exact hw'),hK⟩;exact h.elim
  case typeAssert x xt as_ ok=>
    simp only[lY] at h;split at h;rename_i v hx;obtain⟨y,hy,hK⟩:=h;exact⟨_,_,kX (by rw[hr.ev hx];exact hy),fun w' hw'=>kX (by rw[hr.ev hx];exact hw'),hK⟩;exact h.elim
  case binOp op t x y yt=>
    have h':(match e.ev x,e.ev y with
      | some p,some q=>(my P).eW dj (fun w'=>(do eqGuard op t x y p q;binOp op t p q:Sem Value).run P w') w (fun r=>K (.bool r) (fun w'=>(do eqGuard op t x y p q;binOp op t p q:Sem Value).run P w'=.ok (.bool r) w'))
      | _,_=>False):=by cases op<;>exact h
    split at h';rename_i p q hx hy;obtain⟨r,hr1,hK⟩:=h';exact⟨_,_,kX (by rw[hr.ev hx,hr.ev hy];exact hr1),fun w' hw'=>kX (by rw[hr.ev hx,hr.ev hy];exact hw'),hK⟩;exact h'.elim
  case convert s d x=>
    simp only[lY] at h;split at h;rename_i v hx;obtain⟨r,hr1,hK⟩:=h;exact⟨_,_,kX (by rw[hr.ev hx];exact hr1),fun w' hw'=>kX (by rw[hr.ev hx];exact hw'),hK⟩;exact h.elim
  case call c=>
    obtain⟨callee,args,argTypes⟩:=c;cases callee with
    | builtin b=>
      cases b<;>simp only[lY] at h<;>try exact h.elim
      split at h;rename_i vs hv;obtain⟨r,hr1,hK⟩:=h;have key:∀w',(Builtin.len_ argTypes type vs.toArray).run P w'=.ok (.int .i64 r) w'->(execOp a.eval ⟨dst,.call ⟨.builtin .len,args,argTypes⟩,type,pos,after,guard⟩).run P w'=.ok (.value (.int .i64 r)) w':=fun w' hw'=>by simp[execOp,resolve,hr.j5 hv,invoke,builtin,hw']
      exact⟨_,_,key w hr1,fun w' hw'=>key w' hw',hK⟩;exact h.elim
    | value f=>exact h.elim
    | invoke r m=>exact h.elim
  all_goals exact h.elim
section
variable {P:Program} {n:Nat} {ds:List Deferred} {e:Env} {a:Act} {o:Oper} {w:World} {r:Option Nat} {m:Nat}
def dR (cs:Array Value):Nat->List Value->Array Value
 | _,[]=>cs
 | off,v::vs=>dR (cs.setIfInBounds off v) (off+1) vs
def mR:∀(vs:List Value) (cs:Array Value) (off:Nat),(dR cs off vs).size=cs.size
 | [],_,_=>rfl
 | v::vs,cs,off=>by simp[dR,mR vs]
def pN:∀(vs:List Value) (cs:Array Value) (off:Nat),off+vs.length<=cs.size->(dR cs off vs).toList=cs.toList.take off++vs++cs.toList.drop (off+vs.length)
 | [],cs,off,h=>by simp[dR]
 | v::vs,cs,off,h=>by
  simp only[yI] at h;rw[dR,pN vs _ _ oO,Array.toList_setIfInBounds];have h1:(cs.toList.set off v).take (off+1)=cs.toList.take off++[v]:=by have:off<cs.toList.length:=oO;rw[set_eq_take_append_cons_drop,if_pos this,take_append,yL,xR oJ,zS oO];simp[show off+1-off=1 by omega]
  have h2:(cs.toList.set off v).drop (off+1+vs.length)=cs.toList.drop (off+1+vs.length):=(by rw[drop_set,iP]);rw[h1,h2];simp[Nat.add_assoc,Nat.add_comm 1]
def qrY(off:Nat):∀(l:List Value) (j:Nat) (cells:Array Value),(l.zipIdx j).foldl (fun cs (x:Value×Nat)=>cs.setIfInBounds (off+x.2) x.1) cells=dR cells (off+j) l
 | [],j,cells=>rfl
 | v::l,j,cells=>by rw[zipIdx_cons,foldl_cons,qrY off l (j+1)];rfl
def DB(off:Nat)(vs cells:Array Value):(vs.zipIdx.foldl (fun cs (x:Value×Nat)=>cs.setIfInBounds (off+x.2) x.1) cells)=dR cells off vs.toList:=by rw[<- Array.foldl_toList,Array.toList_zipIdx,qrY off vs.toList 0,Nat.add_zero]
def kj{cells:Array Value}(h:vs.length=cells.size):dR cells 0 vs=vs.toArray:=by apply Array.ext';rw[pN _ _ _ oJ];simp[h]
def qii{ad:Addr}:∀(vs:List Value) (i:Nat) (w:World) (K:WP),DE ad i vs w K-> ∃w',(storeCells ad vs i).run P w=.ok () w'/\K w'
 | [],i,w,K,h=>⟨w,by simp[storeCells],h⟩
 | v::vs,i,w,K,h=>by obtain⟨⟨h1,⟨u,hu⟩,h3⟩,h4⟩:=h;obtain⟨w',hr,hk⟩:=qii vs (i+1) _ K h4;refine⟨w',?_,hk⟩;unfold storeCells;simp only[Sem.run_bind,run_store P w (ad.add i) v .plain h1,hu,h3,Bool.false_eq_true,if_false,Result.andThen_ok,hr]
def _root_.Go.Oper.wx (r:Option Nat) (m:Nat) (P:Program) (o:Oper) (a:Act) (w:World) (N:Act->WP) (Q:Exit->Act->WP):Prop:=o.uponIn (Wd r) m P a N Q ((execOp a.eval o).run P w)
def Gg(hnd:∀c,o.op≠.defer c)(h:o.wx r m P a w N Q):o.wpIn (Wd r) m P a w N Q:=
 ⟨fun _ _=>trivial,by rw[Oper.semAt_eq _ _ _ hnd];exact h⟩
def ss{v:Value}{w:World}(hs:(execOp a.eval o)=(do pure (Next.value (<- s))))(hr:s.run P w=.ok v w')(hk:K v w'): o.wx r m P a w (fun a' w'=>∃v,a'=a.put o.dst v/\K v w') Q:=by unfold Oper.wx;rw[hs,kX hr];exact⟨v,rfl,hk⟩
def D0{s:Sem Unit}{w:World}(hs:(execOp a.eval o)=(do s;pure Next.skip))(hr:s.run P w=.ok () w')(hk:K undef w'): o.wx r m P a w (fun a' w'=>∃v,a'=a.put o.dst v/\K v w') Q:=by unfold Oper.wx;rw[hs];simp only[Sem.run_bind,hr,Result.andThen_ok,Sem.run_pure];exact⟨undef,rfl,hk⟩
def A1{v:Value}{w:World}(hr:(execOp a.eval o).run P w=.ok (.value v) w')(hk:K v w'): o.wx r m P a w (fun a' w'=>∃v,a'=a.put o.dst v/\K v w') Q:=by unfold Oper.wx;rw[hr];exact⟨v,rfl,hk⟩
def qf2{args:Array Value}(h:Calls P f args w R):CallsIn (Wd r) m P f args w R:=(callsIn_wide (n:=m)).2 h
def qtD{l f:Nat}{assign body:Code}(h:RoundIn (Wd none) 0 P l f tmps assign body w R):RoundIn (Wd r) m P l f tmps assign body w R:=
 ⟨trivial,fun c cs _=>h.2 c cs (room_wide _)⟩
def GX(r:Option Nat):(Wd r).depth.isSome=true->1<=m:=fun h=>by cases h
def Fj{w:World}(hr:(execOp a.eval o).run P w=.ok (.enter f vs.toArray) w)(hk:call P f vs ts w (fun y w'=>K (fT ts y) w')): o.wx r m P a w (fun a' w'=>∃v,a'=a.put o.dst v/\K v w') Q:=by unfold Oper.wx;rw[hr];refine⟨GX r,qf2 (Calls.mono hk ?_)⟩;rintro e w' ⟨x,rfl,hx⟩;exact⟨_,rfl,hx⟩
def qrb{l f:Nat}{assign body:Code}{w:World}(hr:(execOp a.eval o).run P w=.ok (.round l f tmps assign body) w)(hk:RoundIn (Wd none) 0 P l f tmps assign body w fun e w'=>∃x:iY ts,e=.returned (fT ts x)/\K (fT ts x) w'): o.wx r m P a w (fun a' w'=>∃v,a'=a.put o.dst v/\K v w') Q:=by unfold Oper.wx;rw[hr];refine⟨GX r,qtD (RoundIn.mono hk ?_)⟩;rintro e w' ⟨x,rfl,hx⟩;exact⟨_,rfl,hx⟩
def Ac(h:iy P f=false)(args:Array Value)(w:World):(callFunc f args).run P w=.ok (.enter f args) w:=by
 unfold iy at h;unfold callFunc;cases hf:P.funcs[f]? with
 | none=>simp[hf] at h
 | some fn=>
  simp only[hf,Bool.or_eq_false_iff] at h;simp only[Sem.run_bind,run_program,Result.andThen_ok,hf];rw[if_neg (by simp[h.2]),if_neg (by simp[h.1])];rfl
def Dc(h:(P.info? t).bind (·.zero)=some z):(P.info? t).isSome=true:=by
 cases hi:P.info? t with
 | none=>simp[hi] at h
 | some i=>rfl
def qsI{el:TypeId}{v:Value}(ht:P.underlying t=some (.slice el))(hz:(P.info? el).bind (·.zero)=some z)(hsz:v.cells.size=eK P el)(hlt:¬1*eK P el>2^24): (Instr.buildSlice t 1 [(0,v)].toArray).run P w=.ok (.slice (some ⟨w.heap.size,0,none⟩) 1 1) (w.alloc (.cells v.cells el)):=by
 simp only[Instr.buildSlice,Sem.run_bind,run_underlying ht,Result.andThen_ok,qp (Dc hz)];rw[if_neg hlt];have key:∀zs:Array Value,Instr.fill (fun i=>some (i*eK P el,eK P el)) ((Array.range (1*eK P el)).map (zs[·%zs.size]!)) [(0,v)]=some v.cells:=by intro zs;have h1:((Array.range (1*eK P el)).map (zs[·%zs.size]!)).size=v.cells.size:=(by simp[hsz]);generalize (Array.range (1*eK P el)).map (zs[·%zs.size]!)=base at h1;have h2:=DB 0 v.cells base;rw[kj (by rw[Array.length_toList];exact h1.symm)] at h2;simp only[Instr.fill,Nat.zero_mul,xS] at h2⊢;rw[if_neg (by rw[hsz,h1,hsz];simp)];simp only[h2,Array.toArray_toList]
 by_cases h0:1*eK P el=0;rw[if_pos h0];simp only[pure_bind];rw[key];simp[newRow];rw[if_neg h0];simp only[Sem.run_bind,uG hz,Result.andThen_ok,Sem.run_pure];rw[key];simp[newRow]
def qq7{el:TypeId}(ht:P.underlying t=some (.slice el))(hz:(P.info? el).bind (·.zero)=some z): (Instr.buildSlice t 0 ([]:List (Nat×Value)).toArray).run P w=.ok (.slice (some ⟨w.heap.size,0,none⟩) 0 0) (w.alloc (.cells #[] el)):=by simp only[Instr.buildSlice,Sem.run_bind,run_underlying ht,Result.andThen_ok,qp (Dc hz),Nat.zero_mul];rw[iN,if_pos trivial];simp only[pure_bind,Instr.fill];have:∀f:Nat->Value,(Array.range 0).map f = #[]:=fun f=>Array.eq_empty_of_size_eq_zero oL;rw[this];simp[newRow]
def qmM(Q:Exit->Act->WP){dst:Option Tmp}{type:TypeId}{len:Nat}{pos:String}{after:Array Edge}(h:i3 (my P) P ⟨dst,.buildSlice t len parts,type,pos,after,guard⟩ e w K)(hr:Rel n ds e a): (⟨dst,.buildSlice t len parts,type,pos,after,guard⟩:Oper).wx r m P a w (fun a' w'=>∃v,a'=a.put dst v/\K v w') Q:=by
  have hex:∀len,execOp a.eval ⟨dst,.buildSlice t len parts,type,pos,after,guard⟩=(do pure (Next.value (<- Instr.buildSlice t len (parts.map fun (i,x)=>(i,a.eval x))))):=fun len=>rfl;simp only[i3] at h;split at h;rename_i el ht;split at h;rename_i z vs hz hv;cases hb:Nat.blt (2^24) (len*eK P el) with
  | true=>simp only[hb,cond_true] at h
  | false=>
   simp only[hb,cond_false] at h;have hlt:¬len*eK P el>2^24:=by intro hgt;have:Nat.blt (2^24) (len*eK P el)=true:=Nat.ble_eq_true_of_le hgt;rw[this] at hb;cases hb
   have pC:∀cells,qz (eK P el) len (bif Nat.beq (len*eK P el) 0 then [] else z.cells.toList) vs=some cells->(my P).new (.cells cells el) w (fun b w'=>K (.slice (some (dg b)) len len) w')->
     (⟨dst,.buildSlice t len parts,type,pos,after,guard⟩:Oper).wx r m P a w (fun a' w'=>∃v,a'=a.put dst v/\K v w') Q:=by
    intro cells hc h;refine ss (o:=⟨dst,.buildSlice t len parts,type,pos,after,guard⟩) (s:=Instr.buildSlice t len (parts.map fun (i,x)=>(i,a.eval x))) ?_ ?_ h;exact hex _;rw[AI hr hv];simp only[Instr.buildSlice,Sem.run_bind,run_underlying ht,Result.andThen_ok,qp (Dc hz)];rw[if_neg hlt];unfold qz at hc;cases h0:Nat.beq (len*eK P el) 0 with
    | true=>
     rw[if_pos (yW h0)];simp only[h0,cond_true] at hc;simp only[pure_bind];rw[show (#[]:Array Value)=([]:List Value).toArray from rfl,hc];simp[newRow]
    | false=>
     have:len*eK P el≠0:=fun hq=>by rw[hq] at h0;cases h0
     rw[if_neg this];simp only[h0,cond_false] at hc;simp only[Sem.run_bind,uG hz,Result.andThen_ok,Sem.run_pure];have hc':Instr.fill (fun i=>some (i*eK P el,eK P el)) (Array.map (fun x=>z.cells[x%z.cells.size]!) (Array.range (len*eK P el))) vs=some cells:=(oP hc);rw[hc'];simp[newRow]
   have old':(match qz (eK P el) len (bif Nat.beq (len*eK P el) 0 then [] else z.cells.toList) vs with
     | some cells=>(my P).new (.cells cells el) w (fun b w'=>K (.slice (some (dg b)) len len) w')
     | none=>False)->(⟨dst,.buildSlice t len parts,type,pos,after,guard⟩:Oper).wx r m P a w (fun a' w'=>∃v,a'=a.put dst v/\K v w') Q:=by
    intro h;cases hc:qz (eK P el) len (bif Nat.beq (len*eK P el) 0 then [] else z.cells.toList) vs with
    | none=>rw[hc] at h;exact h.elim
    | some cells=>rw[hc] at h;exact pC cells hc h
   cases hty:oe P el with
   | one c=>simp only[hty] at h;exact old' h
   | agg cs=>simp only[hty] at h;exact old' h
   | kF=>
    simp only[hty] at h;match len,vs,h,hv,hlt with
    | 1,[(0,v)],h,hv,hlt=>
     obtain⟨hsz,hk⟩:=h;refine ss (s:=Instr.buildSlice t 1 (parts.map fun (i,x)=>(i,a.eval x))) ?_ ?_ hk;exact hex _;rw[AI hr hv];exact qsI ht hz (by rw[<- hsz,Array.length_toList]) hlt
    | 0,[],h,hv,hlt=>
     refine ss (s:=Instr.buildSlice t 0 (parts.map fun (i,x)=>(i,a.eval x))) ?_ ?_ h;exact hex _;rw[AI hr hv];exact qq7 ht hz
  exact h.elim;exact h.elim
set_option maxHeartbeats 1000000 in
def qpX(Q:Exit->Act->WP)(h:i3 (my P) P o e w K)(hr:Rel n ds e a): o.wx r m P a w (fun a' w'=>∃v,a'=a.put o.dst v/\K v w') Q:=by
 obtain⟨dst,op,type,pos,after,guard⟩:=o;cases op;case store t x y=>
  simp only[i3] at h;obtain⟨v,hy⟩:∃v,e.ev y=some v:=by
   cases hy:e.ev y with
   | none=>rw[hy] at h;exact h.elim
   | some v=>exact⟨v,rfl⟩
  rw[hy] at h;dsimp only at h;split at h;rename_i p hx;obtain⟨ad,rfl⟩:∃ad,p=some ad:=by
   cases p with
   | none=>exact h.elim
   | some ad=>exact⟨ad,rfl⟩
  dsimp only at h;have fin:(P.info? t).isSome=true->v.cells.size=eK P t->(my P).st ad v.cells.toList w (fun w'=>K undef w')->(⟨dst,.store t x y,type,pos,after,guard⟩:Oper).wx r m P a w (fun a' w'=>∃v,a'=a.put dst v/\K v w') Q:=by intro hi hs' h;obtain⟨w',hrun,hk⟩:=qii (P:=P) _ 0 w _ h;refine D0 (o:=⟨dst,.store t x y,type,pos,after,guard⟩) (s:=Instr.storeAt t (a.eval x) (a.eval y)) rfl ?_ hk;rw[hr.ev hx,hr.ev hy];have:(sizeOf t).run P w=.ok (eK P t) w:=qp hi w;simp[Instr.storeAt,Instr.sureAddr,storeVar,this,hs',hrun]
  split at h;cases hok:mS P t with
  | false=>simp only[hok,cond_false] at h
  | true=>
   simp only[hok,cond_true] at h;exact fin (tc (by simp[hok])).1 (oP h.1) h.2
  cases hs:mS P t&&Nat.beq (eK P t) v.cells.size with
  | false=>simp only[hs,cond_false] at h
  | true=>
   simp only[hs,cond_true] at h;simp only[yB] at hs;have hs':=yW hs.2;exact fin (tc (by simp[hs.1])).1 hs'.symm h
  exact h.elim
 case alloc t=>
  simp only[i3] at h;split at h;obtain⟨z,hz,hk⟩:=h;refine ss (s:=Instr.alloc t true (.tuple #[])) rfl ?_ hk;simp[Instr.alloc,uG hz,newVar,newRow];split at h;rename_i z hz;refine ss (s:=Instr.alloc t true (.tuple #[])) rfl ?_ h;simp[Instr.alloc,uG hz,newVar,newRow];exact h.elim
 case box t x=>
  simp only[i3] at h;split at h;rename_i v hx;refine ss (s:=Instr.box t (a.eval x)) rfl ?_ h;rw[hr.ev hx];simp[Instr.box,newVar,newRow];exact h.elim
 case buildSlice t len parts=>exact qmM Q h hr
 case makeSlice t l c=>
  simp only[i3] at h;split at h;rename_i el ht;split at h;rename_i i k1 nn k2 mm hi hl hc;split at h;rename_i z hz;obtain⟨⟨b0,b1,b2,b3⟩,hk⟩:=h;refine ss (s:=Instr.makeSlice t (a.eval l) (a.eval c)) rfl ?_ hk;rw[hr.ev hl,hr.ev hc];have e1:IntKind.i64.wrap nn=nn:=(by rw[IntWalk.i64_in];omega);have e2:IntKind.i64.wrap mm=mm:=(by rw[IntWalk.i64_in];omega);have hz':(P.info? el).bind (·.zero)=some z:=(by simp[hi,hz]);have g1:¬(mm<0):=oJ;have g2:¬((i.bytes:Int)*mm>2^48):=oJ;have g3:¬(nn<0):=oJ;have g4:¬(nn>mm):=oJ;simp only[Instr.makeSlice,Sem.run_bind,run_underlying ht,Result.andThen_ok,asInt,asIntOf,Sem.run_pure,Fs hi,e1,e2];rw[if_neg (by simp only[Bool.or_eq_true,decide_eq_true_eq,g1,g2,g3,g4,or_self,not_false_eq_true])];simp only[Sem.run_bind,run_askRoom,Result.andThen_ok,qp (Dc hz')];have hsz:eK P el=i.size:=(by simp[eK,hi]);rw[hsz];by_cases h0:mm.toNat*i.size=0;rw[if_pos h0,if_pos h0];simp[newRow,gZ,h0];rw[if_neg h0,if_neg h0];simp[uG hz',newRow,gZ];exact h.elim;exact h.elim;exact h.elim
 case makeMap t r=>
  simp only[i3] at h;split at h;rename_i k el ht;split at h;rename_i v hv;refine ss (s:=Instr.makeMap t (r.map a.eval)) rfl ?_ h;rcases G7 hr hv with ⟨rfl,_⟩|⟨y,k,i,rfl,rfl,hy⟩;simp[Instr.makeMap];simp[Instr.makeMap,hy,run_underlying ht,asInt,asIntOf];exact h.elim;exact h.elim
 case mapUpdate t m k x=>
  simp only[i3] at h;split at h;rename_i vm vk vx hm hk hx;obtain⟨w',hrun,hK⟩:=h;exact D0 (s:=Instr.mapUpdate t (a.eval m) (a.eval k) (a.eval x)) rfl (by rw[hr.ev hm,hr.ev hk,hr.ev hx];exact hrun) hK;exact h.elim
 case insert t m k x=>
  simp only[i3] at h;split at h;rename_i vm vk vx hm hk hx;obtain⟨w',hrun,hK⟩:=h;exact D0 (s:=Instr.mapUpdate t (a.eval m) (a.eval k) (a.eval x)) rfl (by rw[hr.ev hm,hr.ev hk,hr.ev hx];exact hrun) hK;exact h.elim
 case range t x=>
  simp only[i3] at h;split at h;rename_i v hx;obtain⟨y,w',hrun,hK⟩:=h;exact ss (s:=Instr.range t (a.eval x)) rfl (by rw[hr.ev hx];exact hrun) hK;exact h.elim
 case next it s=>
  simp only[i3] at h;split at h;rename_i v hx;rcases h with ⟨w',hrun,hK⟩|⟨x,y,w',hrun,hK⟩;exact ss (s:=Instr.next (a.eval it) s type) rfl (by rw[hr.ev hx];exact hrun) hK;exact ss (s:=Instr.next (a.eval it) s type) rfl (by rw[hr.ev hx];exact hrun) hK;exact h.elim
 case entry it=>
  simp only[i3] at h;split at h;rename_i v hx;obtain⟨x,y,w',hrun,hK⟩:=h;exact ss (s:=Instr.entry (a.eval it)) rfl (by rw[hr.ev hx];exact hrun) hK;exact h.elim
 case convert s d x=>
  simp only[i3] at h;split at h;rename_i v hx;obtain⟨y,w',hrun,hK⟩:=h;exact ss (s:=convert s d (a.eval x)) rfl (by rw[hr.ev hx];exact hrun) hK;exact h.elim
 case call c=>
  obtain⟨callee,args,argTypes⟩:=c;cases callee with
  | builtin b=>
   simp only[i3] at h;split at h
   ·rename_i vs hv;have hres:∀w,(resolve a.eval ⟨.builtin b,args,argTypes⟩ type).run P w=.ok { target:=.builtin b argTypes type (args.map fun | .const _=>true|_=>false),args:=vs.toArray } w:=fun w=>by simp[resolve,hr.j5 hv];intro x _;cases x<;>rfl
    cases b<;>simp only at h<;>try exact h.elim
    case append=>
     obtain⟨y,w',hrun,hK⟩:=h;have hrun':(Builtin.append_ argTypes type vs.toArray).run P w=.ok (.slice y.a y.len y.cap) w':=hrun;have:(execOp a.eval ⟨dst,.call ⟨.builtin .append,args,argTypes⟩,type,pos,after,guard⟩).run P w=.ok (.value (.slice y.a y.len y.cap)) w':=by simp[execOp,hres,invoke,builtin,hrun']
     exact A1 this hK
    case clear=>
     obtain⟨y,w',hrun,hK⟩:=h;have hrun':(Builtin.clear_ argTypes type vs.toArray).run P w=.ok (.tuple #[]) w':=hrun;have:(execOp a.eval ⟨dst,.call ⟨.builtin .clear,args,argTypes⟩,type,pos,after,guard⟩).run P w=.ok (.value (.tuple #[])) w':=by simp[execOp,hres,invoke,builtin,hrun']
     exact A1 this hK
    case copy=>
     obtain⟨y,w',hrun,hK⟩:=h;have hrun':(Builtin.copy_ argTypes type vs.toArray).run P w=.ok (.int .i64 y) w':=hrun;have:(execOp a.eval ⟨dst,.call ⟨.builtin .copy,args,argTypes⟩,type,pos,after,guard⟩).run P w=.ok (.value (.int .i64 y)) w':=by simp[execOp,hres,invoke,builtin,hrun']
     exact A1 this hK
    case delete=>
     obtain⟨y,w',hrun,hK⟩:=h;have hrun':(Builtin.delete_ argTypes type vs.toArray).run P w=.ok (.tuple #[]) w':=hrun;have:(execOp a.eval ⟨dst,.call ⟨.builtin .delete,args,argTypes⟩,type,pos,after,guard⟩).run P w=.ok (.value (.tuple #[])) w':=by simp[execOp,hres,invoke,builtin,hrun']
     exact A1 this hK
   exact h.elim
  | value f=>
   have key:(∀g,f≠.func g)->∀v vs,e.ev f=some v->e.pI args.toList=some vs->(my P).ed v vs (nK P type) w (fun y w'=>K (fT _ y) w')->
     Oper.wx r m P ⟨dst,.call ⟨.value f,args,argTypes⟩,type,pos,after,guard⟩ a w (fun a' w'=>∃v,a'=a.put dst v/\K v w') Q:=by
    intro hf v vs hv hvs hcall;rcases hcall with ⟨g,us,hrun,hk⟩|⟨l,g,tmps,assign,body,hrun,hk⟩;refine Fj (o:=⟨dst,.call ⟨.value f,args,argTypes⟩,type,pos,after,guard⟩) ?_ hk;simp only[execOp,resolve,hr.j5 hvs,hr.ev hv];exact hrun;refine qrb (o:=⟨dst,.call ⟨.value f,args,argTypes⟩,type,pos,after,guard⟩) ?_ hk;simp only[execOp,resolve,hr.j5 hvs,hr.ev hv];exact hrun
   cases f with
   | func g=>
    simp only[i3] at h;split at h;rename_i vs hv;cases hb:iy P g with
    | true=>
     simp only[hb,cond_true] at h;obtain⟨x,w',hrun,hk⟩:=h;refine A1 ?_ hk;simp only[execOp,resolve,hr.j5 hv,Act.eval,Deferred.ofValue];simpa[invoke] using hrun
    | false=>
     simp only[hb,cond_false] at h;refine Fj ?_ h;simp only[execOp,resolve,hr.j5 hv,Act.eval,Deferred.ofValue];simp[invoke,Ac hb]
    exact h.elim
   | tmp t=>
    simp only[i3] at h;split at h;rename_i v vs hv hvs;exact key oL v vs hv hvs h;exact h.elim
   | const t=>
    simp only[i3] at h;split at h;rename_i v vs hv hvs;exact key oL v vs hv hvs h;exact h.elim
   | global t=>
    simp only[i3] at h;split at h;rename_i v vs hv hvs;exact key oL v vs hv hvs h;exact h.elim
  | invoke x name=>
   simp only[i3] at h;split at h;rename_i v vs hv hvs;obtain⟨g,us,hrun,hk⟩:=h;refine Fj ?_ hk;simp only[execOp,resolve,hr.j5 hvs,hr.ev hv];simp[invoke];simpa using hrun;exact h.elim
 all_goals exact h.elim
end
section
variable {P:Program} {n:Nat} {ds:List Deferred} {e:Env} {a:Act} {w:World} {r:Option Nat} {m:Nat}
def gK (wr:Nat->Bool) (a a':Act):Prop:=∀t,wr t=false->a'.tmps.getD t undef=a.tmps.getD t undef
def gK.refl(wr:Nat->Bool)(a:Act):gK wr a a:=fun _ _=>rfl
def gK.trans{wr1 wr2 wr:Nat->Bool}{a b c:Act}(h1:gK wr1 a b)(h2:gK wr2 b c)(h:∀t,wr t=false->wr1 t=false/\wr2 t=false):gK wr a c:=
  fun t ht=>(h2 t (h t ht).2).trans (h1 t (h t ht).1)
def gK.mono{wr1 wr:Nat->Bool}{a b:Act}(h1:gK wr1 a b)(h:∀t,wr t=false->wr1 t=false):gK wr a b:=fun t ht=>h1 t (h t ht)
def gK.put(a:Act)(dst:Option Tmp)(v:Value){wr:Nat->Bool}(h:∀d,dst=some d->wr d=true):gK wr a (a.put dst v):=by
  intro t ht;cases dst with
  | none=>rfl
  | some d=>
    have hne:d≠t:=fun hd=>by subst hd;rw[h d rfl] at ht;cases ht
    simp[Act.put,Array.getElem?_setIfInBounds_ne hne]
def qqq{o:Oper}{d:Nat}(ho:o∈ops)(hd:o.dst=some d):pK ops d=true:=by unfold pK;rw[any_eq_true];exact⟨o,ho,by simp[hd]⟩
def lQ (n:Nat) (ops:List Oper):Bool:=ops.all fun o=>match o.dst with|some d=>Nat.blt d n|none=>true
def qnH(h:lQ n ops=true){o:Oper}(ho:o∈ops):∀d,o.dst=some d->d<n:=by
  intro d hd
  have:=all_eq_true.1 h o ho
  simp only[hd] at this;exact zO this
def Rel.refine(h:Rel n ds e a){d:Nat}{v:Value}(hv:e.get d=some v):Rel n ds ((d,v)::e) a:=by refine⟨h.size,h.defers,fun t u hu=>?_⟩;rw[Env.jK] at hu;by_cases hdt:d=t;subst hdt;simp at hu;subst hu;exact h.get _ _ hv;simp[hdt] at hu;exact h.get _ _ hu
def qjv{o:Oper}{yes no:Env->Prop}(h:guarded ops o e yes no)(hr:Rel n ds e a): (∃e',Rel n ds e' a/\Region.wanted o (yielded ops.toArray a.tmps)=true/\yes e')\/ (∃e',Rel n ds e' a/\Region.wanted o (yielded ops.toArray a.tmps)=false/\no e'):=by
  unfold guarded at h;split at h;rename_i hg;exact .inl ⟨e,hr,by simp[Region.wanted,hg],h⟩;rename_i j want hg;split at h;exact h.elim;rename_i d hd;have hy:∀v,e.get d=some v->yielded ops.toArray a.tmps j=match v with | .bool b=>some b|_=>none:=by
    intro v hv;have h1:=hr.get d v hv;unfold yielded;have hd':((ops.toArray[j]?).bind (·.dst))=some d:=(oP hd);rw[hd'];simp only[Option.bind_some];cases ht:a.tmps[d]? with
    | none=>
      have:v=undef:=(by simpa[ht] using h1.symm);subst this;rfl
    | some u=>
      have:u=v:=(by simpa[ht] using h1);subst this;cases u<;>rfl
  split at h;rename_i b hb;have hyb:=hy _ hb;simp only at hyb;have hre:=hr.refine hb;cases b<;>cases want<;>simp only at h;exact .inl ⟨_,hre,by simp[Region.wanted,hg,hyb],h⟩;exact .inr ⟨_,hre,by simp[Region.wanted,hg,hyb],h⟩;exact .inr ⟨_,hre,by simp[Region.wanted,hg,hyb],h⟩;exact .inl ⟨_,hre,by simp[Region.wanted,hg,hyb],h⟩;rename_i ts hb;have hyb:=hy _ hb;simp only at hyb;exact .inr ⟨e,hr,by simp[Region.wanted,hg,hyb],h⟩;exact h.elim
def ki (ops:List Oper):Bool:=ops.all fun o=>match o.op with | .defer _=>false|_=>true
def Gj(h:ki ops=true){o:Oper}(ho:o∈ops):∀c,o.op≠.defer c:=by
  intro c hc;unfold ki at h;rw[all_eq_true] at h
  have:=h o ho
  rw[hc] at this;cases this
def CO{o:Oper}{K K':Act->WP}(hk:∀a w,K a w->K' a w)(h:o.wx r m P a w K Q):o.wx r m P a w K' Q:=by
  unfold Oper.wx at h⊢;generalize (execOp a.eval o).run P w=x at h⊢;cases x with
  | ok x w'=>
    cases x<;>simp only[Oper.uponIn] at h⊢<;>first
      | exact h
      | exact hk _ _ h
      | (refine⟨h.1,CallsIn.mono h.2 ?_⟩
         intro e w'' he;cases e<;>first|exact hk _ _ he|exact he)
      | (refine⟨h.1,RowsIn.mono h.2 ?_⟩
         intro e w'' he;exact hk _ _ he)
      | (refine⟨h.1,RoundIn.mono h.2 ?_⟩
         intro e w'' he;cases e<;>first|exact hk _ _ he|exact he)
  | halt x w'=>cases x<;>simp only[Oper.uponIn] at h⊢<;>first|exact h|exact h.elim
def FC{o:Oper}{next:Act->WP}{v:Value}(hr:(execOp a.eval o).run P w=.ok (.value v) w')(hn:next (a.put o.dst v) w'):o.wx r m P a w next Q:=by unfold Oper.wx;rw[hr];exact hn
def qyG{o:Oper}(Q:Exit->Act->WP)(h:wE (my P) P o e w K)(hr:Rel n ds e a): o.wx r m P a w (fun a' w'=>∃v,a'=a.put o.dst v/\K v w') Q:=by unfold wE at h;split at h;obtain⟨v,hv,hk⟩:=qoq h hr;exact FC (hv w) ⟨v,rfl,hk⟩;rename_i hc;obtain⟨v,hold,hv,_,hk⟩:=qot h hc hr;exact FC hv ⟨v,rfl,hk⟩;exact qpX Q h hr
def GJ{ops:List Oper}{K:Env->WP}{Q:Exit->Act->WP}{a0:Act}{wr:Nat->Bool}: ∀(l:List Oper) (e:Env) (a:Act) (w:World),qd (my P) P ops K l e w->Rel n ds e a->lQ n l=true->(∀o∈l,∀d,o.dst=some d->wr d=true)->gK wr a0 a-> (∀e' a' w',K e' w'->Rel n ds e' a'->gK wr a0 a'->Q .normal a' w')->ki l=true->wpListIn (Wd r) m P ops.toArray Q l a w
  | [],e,a,w,h,hr,_,_,hk,hQ,_=>hQ e a w h hr hk
  | o::rest,e,a,w,h,hr,hd,hw,hk,hQ,hn=>by have hn2:ki rest=true:=(by simp only[ki,all_cons,yB] at hn⊢;exact hn.2);have hd1:=qnH hd (o:=o) oL;have hd2:lQ n rest=true:=(by simp only[lQ,all_cons,yB] at hd⊢;exact hd.2);have hw1:=hw o oL;have hw2:∀o∈rest,∀d,o.dst=some d->wr d=true:=fun p hp=>hw p (by simp[hp]);unfold wpListIn;rcases qjv h hr with ⟨e',hr',hwant,hy⟩|⟨e',hr',hwant,hno⟩;rw[if_pos hwant];refine Gg (Gj hn oL) (CO ?_ (qyG Q hy hr'));rintro a' w' ⟨v,rfl,hv⟩;exact GJ rest _ _ _ hv (hr'.put hd1 v) hd2 hw2 (hk.trans (gK.put a o.dst v hw1) (fun t ht=>⟨ht,ht⟩)) hQ hn2;rw[if_neg (by simp[hwant])];refine⟨fun _ _=>trivial,?_⟩;exact GJ rest _ _ _ hno (hr'.put hd1 undef) hd2 hw2 (hk.trans (gK.put a o.dst undef hw1) (fun t ht=>⟨ht,ht⟩)) hQ hn2
def iH (P:Program) (ops:List Oper) (i:Nat):Bool:=match ops[i]? with|some o=>(match zq P o.op with | .xa=>true|_=>false)|none=>false
def lO (ops:List Oper) (y x:Nat):Bool:=
  match ops[y]?,ops[x]? with
  | some oy,some ox=>oy.apart ops.toArray ox
  | _,_=>false
def gf (b:Array Nat) (y x:Nat):Bool:=(b.getD x 0).testBit y
def rq (P:Program) (ops:List Oper) (b:Array Nat) (y x:Nat):Bool:=gf b y x||(lO ops y x&&(!iH P ops y||iH P ops x))
def rH (P:Program) (ops:List Oper) (b:Array Nat) (y x:Nat) (r:List Nat):Bool:=!iH P ops x&&r.any fun z=>!(Nat.beq z x)&&(iH P ops z&&gf b z x)
def jH (P:Program) (ops:List Oper) (b:Array Nat):List Nat->Bool
  | []=>true
  | y::r=>r.all (fun x=>rq P ops b y x||(iH P ops y&&rH P ops b y x r))&&jH P ops b r
def rR (x:Nat) (seqs:List (List Nat)):List (List Nat):=seqs.filterMap fun s=>match s with|y::t=>bif Nat.beq y x then some t else none | []=>none
def cover (b:Array Nat):Nat->List Nat->List (List Nat)->Bool
  | 0,rem,seqs=>rem.isEmpty&&seqs.contains []
  | k+1,rem,seqs=>(rem.isEmpty&&seqs.contains [])||(!rem.isEmpty&&rem.all fun x=>rem.any (fun y=>!(Nat.beq y x)&&gf b y x)||cover b k (rem.filter fun y=>!(Nat.beq y x)) (rR x seqs))
def qg:List Nat->Bool
  | []=>true
  | x::r=>!(r.any fun y=>Nat.beq x y)&&qg r
def mc (ops:List Oper):Bool:=ops.zipIdx.all fun (o,i)=>o.after.all fun e=>!Region.binds .any e||Nat.blt e.on i
def fw (P:Program) (ops:List Oper) (l:List Nat):List Nat:=l.filter (iH P ops)
def ot (ops:List Oper) (b:Array Nat):Bool:=
  ops.zipIdx.all fun (o,x)=>(List.range ops.length).all fun y=>!(gf b y x)||o.after.any fun e=>Region.binds .any e&&(Nat.beq e.on y||gf b y e.on)
def rf (P:Program) (ops:List Oper) (orders:List (List Nat)):Bool:=
  mc ops&&ot ops (oz ops)&&Region.noSelect ops.toArray&&
  (orders.all fun C=>(List.range ops.length).all (fun i=>C.any (Nat.beq i))&&C.all (Nat.blt · ops.length)&&qg C&&jH P ops (oz ops) C)&&
  cover (oz ops) ops.length (fw P ops (List.range ops.length)) (orders.map (fw P ops))
def qmo:∀ {l:List Nat},qg l=true->l.Nodup
  | [],_=>nodup_nil
  | x::r,h=>by
    simp only[qg,yB,zT,any_eq_false] at h;refine nodup_cons.2 ⟨fun hm=>?_,qmo h.2⟩
    have:=h.1 x hm
    simp at this
def jt (P:Program) (ops:List Oper) (o:Oper) (a:Act) (w:World) (v:Value):Prop:=
  (Region.wanted o (yielded ops.toArray a.tmps)=true/\(execOp a.eval o).run P w=.ok (.value v) w)\/(Region.wanted o (yielded ops.toArray a.tmps)=false/\v=undef)
def wO:Exit->Act->WP:=fun _ _ _=>False
def qxJ{o:Oper}{a b:Act}{M:Act->WP}{x:Result Next}(h:o.uponIn (Wd r) m P b (fun a' w'=>∃u,a'=b.put o.dst u/\N a' w') wO x)(hNM:∀u w',N (b.put o.dst u) w'->M (a.put o.dst u) w'): o.uponIn (Wd r) m P a (fun a' w'=>∃u,a'=a.put o.dst u/\M a' w') wO x:=by
  have key:∀v w',(∃u,b.put o.dst v=b.put o.dst u/\N (b.put o.dst v) w')->∃u,a.put o.dst v=a.put o.dst u/\M (a.put o.dst v) w':=fun v w' ⟨u,hu,hn⟩=>⟨v,rfl,hNM _ _ hn⟩;cases x with
  | ok x w'=>
    cases x<;>simp only[Oper.uponIn] at h⊢;case value v=>exact key _ _ h
    case skip=>exact key _ _ h
    case enter f args=>
      refine⟨h.1,CallsIn.mono h.2 ?_⟩;intro e w'' he;cases e<;>first|exact key _ _ he|exact he
    case defer d=>
      obtain⟨u,hu,_⟩:=h;exfalso;have:(Act.put { b with defers:=d::b.defers } o.dst undef).defers=(b.put o.dst u).defers:=(by rw[hu]);have h1:∀(c:Act) (x:Value),(c.put o.dst x).defers=c.defers:=fun c x=>by cases o.dst<;>rfl
      rw[h1,h1] at this
      have:=congrArg List.length this
      simp at this
    case row rw_ args=>exact⟨h.1,RowsIn.mono h.2 (fun v w'' hv=>key _ _ hv)⟩
    case round l f tmps assign body=>
      refine⟨h.1,RoundIn.mono h.2 ?_⟩;intro e w'' he;cases e<;>first|exact key _ _ he|exact he
  | halt x w'=>cases x<;>simp only[Oper.uponIn] at h⊢<;>exact h
def mq (r:Option Nat) (m:Nat) (P:Program) (ops:List Oper) (b:Array Nat) (K:Act->WP):List Nat->Holds->Act->WP
  | [],_,a,w=>K a w
  | i::rest,H,a,w=>
    ∃o,ops[i]?=some o/\
      if iH P ops i=true then
        (if Region.wanted o (yielded ops.toArray a.tmps)=true then
          o.wx r m P a w (fun a' w'=>∃v,a'=a.put o.dst v/\(∀h∈fq b i H,h w')/\mq r m P ops b K rest H a' w') wO
        else mq r m P ops b K rest H (a.put o.dst undef) w)
      else ∃v hold,jt P ops o a w v/\(∀w',hold w'->jt P ops o a w' v)/\mq r m P ops b K rest ((i,hold)::H) (a.put o.dst v) w
def CZ{ops:List Oper}{b:Array Nat}{K:Act->WP}: ∀(l:List Nat) (H H':Holds) (a:Act) (w:World),(∀p∈H',p∈H)->mq r m P ops b K l H a w->mq r m P ops b K l H' a w
  | [],_,_,_,_,_,h=>h
  | i::rest,H,H',a,w,hs,⟨o,ho,h⟩=>by refine⟨o,ho,?_⟩;by_cases he:iH P ops i=true;rw[if_pos he] at h⊢;by_cases hw:Region.wanted o (yielded ops.toArray a.tmps)=true;rw[if_pos hw] at h⊢;refine CO ?_ h;rintro a' w' ⟨v,rfl,hh,hc⟩;refine⟨v,rfl,fun x hx=>hh x ?_,CZ rest H H' _ _ hs hc⟩;simp only[fq,mem_map,mem_filter] at hx⊢;obtain⟨p,⟨hp,hq⟩,rfl⟩:=hx;exact⟨p,⟨hs p hp,hq⟩,rfl⟩;rw[if_neg hw] at h⊢;exact CZ rest H H' _ _ hs h;rw[if_neg he] at h⊢;obtain⟨v,hold,h1,h2,h3⟩:=h;refine⟨v,hold,h1,h2,CZ rest _ _ _ _ ?_ h3⟩;intro p hp;rcases zG.1 hp with rfl|hp;simp;exact zN _ (hs p hp)
def xc{ops:List Oper}{b:Array Nat}{K:Env->WP}{Q:Exit->Act->WP}{a0:Act}{wr:Nat->Bool}(hd:lQ n ops=true)(hw:∀o∈ops,∀d,o.dst=some d->wr d=true)(hQ:∀e' a' w',K e' w'->Rel n ds e' a'->gK wr a0 a'->Q .normal a' w'): ∀(l:List Nat) (H HA:Holds) (e:Env) (a:Act) (w:World),(∀x w',(∀h∈fq b x H,h w')->∀h∈fq b x HA,h w')-> kA (my P) P ops b K l H e w->Rel n ds e a->gK wr a0 a->mq r m P ops b (Q .normal) l HA a w
  | [],H,HA,e,a,w,_,h,hr,hk=>hQ e a w h hr hk
  | i::rest,H,HA,e,a,w,hH,h,hr,hk=>by
    simp only[kA] at h;cases ho:ops[i]? with
    | none=>simp[ho] at h
    | some o=>
      simp only[ho] at h;have hmem:o∈ops:=yF ho;have hd1:=qnH hd hmem;have hw1:=hw o hmem;have hput:∀v,gK wr a0 (a.put o.dst v):=fun v=>hk.trans (gK.put a o.dst v hw1) (fun t ht=>⟨ht,ht⟩);refine⟨o,ho,?_⟩;have hE:iH P ops i=match zq P o.op with | .xa=>true|_=>false:=by simp[iH,ho]
      have hHa:∀x w',(∀h∈fq b x H,h w')->∀h∈fq b x ((i,fun _=>True)::HA),h w':=by intro x w' hh g hg;simp only[fq,mem_map,mem_filter,zG] at hg;obtain⟨p,⟨hp,hq⟩,rfl⟩:=hg;rcases hp with rfl|hp;trivial;exact hH x w' hh _ (by simp only[fq,mem_map,mem_filter];exact⟨p,⟨hp,hq⟩,rfl⟩)
      rcases qjv h hr with ⟨e',hr',hwant,hy⟩|⟨e',hr',hwant,hno⟩;cases hc:zq P o.op with
      | pure=>
        simp only[hc] at hy hE;rw[if_neg (by simp[hE])];obtain⟨v,hv,hk'⟩:=qoq hy hr';exact⟨v,fun _=>True,.inl ⟨hwant,hv w⟩,fun w' _=>.inl ⟨hwant,hv w'⟩,xc hd hw hQ rest H _ _ _ _ hHa hk' (hr'.put hd1 v) (hput v)⟩
      | read=>
        simp only[hc] at hy hE;rw[if_neg (by simp[hE])];obtain⟨v,hold,hv,hh,hk'⟩:=qot hy hc hr';refine⟨v,hold,.inl ⟨hwant,hv⟩,fun w' hw'=>.inl ⟨hwant,hh w' hw'⟩,xc hd hw hQ rest ((i,hold)::H) _ _ _ _ ?_ hk' (hr'.put hd1 v) (hput v)⟩;intro x w' hh' g hg;simp only[fq,mem_map,mem_filter,zG] at hg;obtain⟨p,⟨hp,hq⟩,rfl⟩:=hg;rcases hp with rfl|hp;exact hh' _ (by simp only[fq,mem_map,mem_filter,zG];exact⟨(i,hold),⟨.inl rfl,hq⟩,rfl⟩);refine hH x w' (fun g hg=>hh' g ?_) _ (by simp only[fq,mem_map,mem_filter];exact⟨p,⟨hp,hq⟩,rfl⟩);simp only[fq,mem_map,mem_filter,zG] at hg⊢;obtain⟨p,⟨hp,hq⟩,rfl⟩:=hg;exact⟨p,⟨.inr hp,hq⟩,rfl⟩
      | xa=>
        simp only[hc] at hy hE;rw[if_pos (by simp[hE]),if_pos hwant];refine CO ?_ (qpX wO hy hr');rintro a' w' ⟨v,rfl,hv⟩;have hv':(∀g∈fq b i H,g w')/\kA (my P) P ops b K rest H (e'.put o.dst v) w':=by split at hv;rename_i hl;exact⟨by simp[hl],hv⟩;rename_i l hl;exact⟨fun g hg=>ql9 hv.1 g hg,hv.2⟩
        exact⟨v,rfl,hH i w' hv'.1,xc hd hw hQ rest H HA _ _ _ hH hv'.2 (hr'.put hd1 v) (hput v)⟩
      by_cases he:iH P ops i=true;rw[if_pos he,if_neg (by simp[hwant])];exact xc hd hw hQ rest H HA _ _ _ hH hno (hr'.put hd1 undef) (hput undef);rw[if_neg he];exact⟨undef,fun _=>True,.inr ⟨hwant,rfl⟩,fun _ _=>.inr ⟨hwant,rfl⟩,xc hd hw hQ rest H _ _ _ _ hHa hno (hr'.put hd1 undef) (hput undef)⟩
def jt.put{ops:List Oper}{o p:Oper}{a:Act}{w:World}{v u:Value}(hs:Region.noSelect ops.toArray=true)(ho:o∈ops)(hap:∀d,p.dst=some d->d∉o.looksAt ops.toArray): jt P ops o (a.put p.dst u) w v↔jt P ops o a w v:=by
  have hsel:∀cs b,o.op≠.select cs b:=fun cs b=>by obtain⟨j,hj,hjo⟩:=getElem_of_mem ho;exact Region.noSelect_spec hs j o cs b (by simp[<- hjo])
  unfold jt;rw[wanted_put o a p.dst u hap,execOp_put o hsel a p.dst u hap]
def qjr{ops:List Oper}{b:Array Nat}{K:Act->WP}(hs:Region.noSelect ops.toArray=true){x:Nat}{ox:Oper}(hx:ops[x]?=some ox)(hxe:iH P ops x=false): ∀(pre post:List Nat) (H:Holds) (a:Act) (w:World),(∀y∈pre,iH P ops y=false/\lO ops y x=true)->mq r m P ops b K (pre++x::post) H a w-> ∃v,jt P ops ox a w v/\mq r m P ops b K (pre++post) H (a.put ox.dst v) w
  | [],post,H,a,w,_,⟨o,ho,h⟩=>by
    obtain rfl:ox=o:=by rw[hx] at ho;exact yO ho
    rw[if_neg (by simp[hxe])] at h;obtain⟨v,hold,h1,_,h3⟩:=h;exact⟨v,h1,CZ _ _ _ _ _ (fun p hp=>zN _ hp) h3⟩
  | y::pre,post,H,a,w,hp,⟨oy,hoy,h⟩=>by obtain⟨hye,hyx⟩:=hp y oL;rw[if_neg (by simp[hye])] at h;obtain⟨v,hold,h1,h2,h3⟩:=h;obtain⟨u,hu,hc⟩:=qjr hs hx hxe pre post _ _ w (fun z hz=>hp z (by simp[hz])) h3;simp only[lO,hoy,hx] at hyx;obtain⟨a1,a2,a3⟩:=Oper.apart_spec hyx;refine⟨u,(jt.put hs (yF hx) a1).1 hu,oy,hoy,?_⟩;rw[if_neg (by simp[hye])];refine⟨v,hold,(jt.put hs (yF hoy) a3).2 h1,fun w' hw'=>(jt.put hs (yF hoy) a3).2 (h2 w' hw'),?_⟩;rw[<- Act.put_comm a v u a2];exact hc
def qhH{ops:List Oper}{b:Array Nat}{K:Act->WP}(hs:Region.noSelect ops.toArray=true){x:Nat}{ox:Oper}(hx:ops[x]?=some ox)(hxe:iH P ops x=true): ∀(pre post:List Nat) (H:Holds) (a:Act) (w:World),(∀y∈pre,iH P ops y=false/\lO ops y x=true/\gf b y x=false)->mq r m P ops b K (pre++x::post) H a w-> if Region.wanted ox (yielded ops.toArray a.tmps)=true then ox.wx r m P a w (fun a' w'=>∃v,a'=a.put ox.dst v/\(∀h∈fq b x H,h w')/\mq r m P ops b K (pre++post) H a' w') wO else mq r m P ops b K (pre++post) H (a.put ox.dst undef) w
  | [],post,H,a,w,_,⟨o,ho,h⟩=>by
    obtain rfl:ox=o:=by rw[hx] at ho;exact yO ho
    rw[if_pos hxe] at h;exact h
  | y::pre,post,H,a,w,hp,⟨oy,hoy,h⟩=>by
    obtain⟨hye,hyx,hyb⟩:=hp y oL;rw[if_neg (by simp[hye])] at h;obtain⟨v,hold,h1,h2,h3⟩:=h;have ih:=qhH hs hx hxe pre post _ _ w (fun z hz=>hp z (by simp[hz])) h3;simp only[lO,hoy,hx] at hyx;obtain⟨a1,a2,a3⟩:=Oper.apart_spec hyx;have hmx:ox∈ops:=yF hx;have hsel:∀cs c,ox.op≠.select cs c:=fun cs c=>by obtain⟨j,hj,hjo⟩:=getElem_of_mem hmx;exact Region.noSelect_spec hs j ox cs c (by simp[<- hjo])
    rw[wanted_put ox a oy.dst v a1] at ih;by_cases hwt:Region.wanted ox (yielded ops.toArray a.tmps)=true;rw[if_pos hwt] at ih⊢;unfold Oper.wx at ih⊢;rw[execOp_put ox hsel a oy.dst v a1] at ih;have key:∀(u:Value) (w':World),(∀h∈fq b x ((y,hold)::H),h w')->mq r m P ops b K (pre++post) ((y,hold)::H) ((a.put oy.dst v).put ox.dst u) w'->
        (∀h∈fq b x H,h w')/\mq r m P ops b K (y::pre++post) H (a.put ox.dst u) w':=by
      intro u w' hh hc;have hy:hold w':=hh hold (by simp only[fq,mem_map,mem_filter,zG];exact⟨(y,hold),⟨.inl rfl,by simpa[gf] using hyb⟩,rfl⟩);refine⟨fun g hg=>hh g ?_,oy,hoy,?_⟩;simp only[fq,mem_map,mem_filter,zG] at hg⊢;obtain⟨p,⟨hp1,hp2⟩,rfl⟩:=hg;exact⟨p,⟨.inr hp1,hp2⟩,rfl⟩;rw[if_neg (by simp[hye])];refine⟨v,hold,(jt.put hs (yF hoy) a3).2 (h2 w' hy),fun w2 hw2=>(jt.put hs (yF hoy) a3).2 (h2 w2 hw2),?_⟩;rw[<- Act.put_comm a v u a2];exact hc
    exact qxJ (N:=fun a' w'=>(∀h∈fq b x ((y,hold)::H),h w')/\mq r m P ops b K (pre++post) ((y,hold)::H) a' w')
      (M:=fun a' w'=>(∀h∈fq b x H,h w')/\mq r m P ops b K (y::pre++post) H a' w') ih (fun u w' hh=>key u w' hh.1 hh.2)
    rw[if_neg hwt] at ih⊢;refine⟨oy,hoy,?_⟩;rw[if_neg (by simp[hye])];refine⟨v,hold,(jt.put hs (yF hoy) a3).2 h1,fun w' hw'=>(jt.put hs (yF hoy) a3).2 (h2 w' hw'),?_⟩;rw[<- Act.put_comm a v undef a2];exact ih
def qAY{o:Oper}{a:Act}{w:World}(h:o.wx r m P a w N wO):o.wx r m P a w N Q:=by
  unfold Oper.wx at h⊢;generalize (execOp a.eval o).run P w=x at h⊢;cases x with
  | ok x w'=>
    cases x<;>simp only[Oper.uponIn] at h⊢<;>first
      | exact h
      | (refine⟨h.1,CallsIn.mono h.2 ?_⟩
         intro e w'' he;cases e with
         | returned v=>exact he
         | panicked c=>exact he.elim
         | outgrown=>obtain⟨_,_,hh⟩:=he;exact hh.elim)
      | (refine⟨h.1,RoundIn.mono h.2 ?_⟩
         intro e w'' he;cases e with
         | returned v=>exact he
         | panicked c=>exact he.elim
         | outgrown=>obtain⟨_,_,hh⟩:=he;exact hh.elim)
  | halt x w'=>
    cases x<;>simp only[Oper.uponIn] at h⊢<;>first|exact h|exact h.elim
def qqk{x:Nat}{l:List Nat}(h:x∈l):∃pre post,l=pre++x::post/\x∉pre:=by
  induction l with
  | nil=>cases h
  | cons y l ih=>
    by_cases hy:y=x;subst hy;exact⟨[],l,rfl,oL⟩;have hx:x∈l:=by rcases zG.1 h with rfl|h;exact absurd rfl hy;exact h
    obtain⟨pre,post,e,hn⟩:=ih hx;exact⟨y::pre,post,by simp[e],by simp[hn];exact fun h=>hy h.symm⟩
def qkJ{ops:List Oper}{b:Array Nat}{x:Nat}:∀ {pre post:List Nat},jH P ops b (pre++x::post)=true->∀y∈pre,rq P ops b y x=true\/∃z,z∈pre++x::post/\z≠x/\gf b z x=true
  | [],post,h,y,hy=>by cases hy
  | z::pre,post,h,y,hy=>by
    simp only[xJ,jH,yB,all_eq_true] at h;obtain⟨h1,h2⟩:=h;rcases zG.1 hy with rfl|hy
    have:=h1 x oL
    rw[Bool.or_eq_true] at this;rcases this with h|h;exact .inl h;simp only[rH,yB,any_eq_true] at h;obtain⟨_,_,q,hq,hqx,_,hb⟩:=h;refine .inr ⟨q,zN _ hq,fun e=>?_,hb⟩;subst e;simp at hqx;rcases qkJ h2 y hy with h|⟨q,hq,h3⟩;exact .inl h;exact .inr ⟨q,zN _ hq,h3⟩
def Ei{ops:List Oper}{b:Array Nat}{x:Nat}:∀ {pre post:List Nat},jH P ops b (pre++x::post)=true->(iH P ops x=true->∀y∈pre,iH P ops y=false)->jH P ops b (pre++post)=true
  | [],post,h,_=>by simp only[xI,jH,yB] at h;exact h.2
  | z::pre,post,h,he=>by
    simp only[xJ,jH,yB,all_eq_true] at h;obtain⟨h1,h2⟩:=h;simp only[xJ,jH,yB,all_eq_true];refine⟨fun y hy=>?_,Ei h2 (fun hx q hq=>he hx q (zN _ hq))⟩;have hy':y∈pre++x::post:=by rcases zD.1 hy with hy|hy;exact zH _ hy;exact zI _ (zN _ hy)
    have:=h1 y hy'
    rw[Bool.or_eq_true] at this⊢;rcases this with h|h;exact .inl h;right;simp only[rH,yB,any_eq_true] at h⊢;obtain⟨hz,hy2,q,hq,hqy,hqe,hqb⟩:=h;refine⟨hz,hy2,q,?_,hqy,hqe,hqb⟩;rcases zD.1 hq with hq|hq;exact zH _ hq;rcases zG.1 hq with rfl|hq
    have:=he hqe z oL
    rw[this] at hz;cases hz;exact zI _ hq
def BM{ops:List Oper}{b:Array Nat}{Q:Exit->Act->WP}(hs:Region.noSelect ops.toArray=true)(hnd:ki ops=true): ∀(L C:List Nat) (a:Act) (w:World),L.Nodup->C.Nodup->(∀i,i∈L↔i∈C)->jH P ops b C=true->fw P ops L=fw P ops C-> (∀pre x post,L=pre++x::post->∀y∈post,gf b y x=false)-> mq r m P ops b (Q .normal) C [] a w->wpOpsIn (Wd r) m P ops.toArray Q L a w
  | [],C,a,w,_,_,hm,_,_,_,h=>by
    have:C=[]:=eq_nil_iff_forall_not_mem.2 fun i hi=>by have:=(hm i).2 hi;cases this
    subst this;exact h
  | x::L,C,a,w,hL,hC,hm,ho,he,hb,h=>by
    obtain⟨pre,post,rfl,hxp⟩:=qqk ((hm x).1 oL);have hpre:=qkJ ho;have hLn:=nodup_cons.1 hL;have hCn:(pre++post).Nodup:=by rw[yM] at hC⊢;obtain⟨c1,c2,c3⟩:=hC;exact⟨c1,(nodup_cons.1 c2).2,fun p hp q hq=>c3 p hp q (zN _ hq)⟩
    have hxpost:x∉post:=(by rw[yM] at hC;exact (nodup_cons.1 hC.2.1).1);have hm':∀i,i∈L↔i∈pre++post:=by
      intro i
      have:=hm i
      simp only[zG,zD] at this⊢;constructor;intro hi;have hix:i≠x:=fun e=>hLn.1 (e▸hi);rcases this.1 (.inr hi) with h|h|h;exact .inl h;exact absurd h hix;exact .inr h;intro hi;have hix:i≠x:=fun e=>by subst e;rcases hi with h|h;exact hxp h;exact hxpost h
      rcases this.2 (by rcases hi with h|h;exact .inl h;exact .inr (.inr h)) with h|h;exact absurd h hix;exact h
    have hnb:∀y∈pre,gf b y x=false:=fun y hy=>hb [] x L rfl y ((hm' y).2 (zH _ hy));have hb':∀p z q,L=p++z::q->∀y∈q,gf b y z=false:=fun p z q hq=>hb (x::p) z q (by simp[hq]);have hap:∀y∈pre,lO ops y x=true/\(iH P ops y=false\/iH P ops x=true):=by
      intro y hy;rcases hpre y hy with this|⟨z,hz,hzx,hzb⟩;simp only[rq,hnb y hy,Bool.false_or,yB,Bool.or_eq_true,zT] at this;exact this;exfalso;have hzL:z∈L:=by rcases zG.1 ((hm z).2 hz) with h|h;exact absurd h hzx;exact h
      have:=hb [] x L rfl z hzL
      rw[this] at hzb;cases hzb
    cases hox:ops[x]? with
    | none=>
      exfalso;cases pre with
      | nil=>obtain⟨o,ho2,_⟩:=h;rw[hox] at ho2;cases ho2
      | cons y pre=>
        have:=(hap y oL).1
        simp only[lO,hox] at this;split at this<;>simp_all
    | some ox=>
      have hox':ops.toArray[x]?=some ox:=(oP hox);simp only[wpOpsIn,hox'];cases hxe:iH P ops x with
      | false=>
        have ho':=Ei ho (fun h=>by rw[hxe] at h;cases h);have hpn:∀y∈pre,iH P ops y=false/\lO ops y x=true:=fun y hy=>by refine⟨?_,(hap y hy).1⟩;rcases (hap y hy).2 with h|h;exact h;rw[hxe] at h;cases h
        obtain⟨v,hv,hc⟩:=qjr hs hox hxe pre post [] a w hpn h;have he':fw P ops L=fw P ops (pre++post):=by simp only[fw,filter_cons,hxe,xC] at he⊢;simpa using he
        rcases hv with ⟨hw,hrun⟩|⟨hw,rfl⟩;rw[if_pos hw];exact Gg (Gj hnd (yF hox)) (FC hrun (BM hs hnd L _ _ _ hLn.2 hCn hm' ho' he' hb' hc));rw[if_neg (by simp[hw])];refine⟨fun _ _=>trivial,?_⟩;exact BM hs hnd L _ _ _ hLn.2 hCn hm' ho' he' hb' hc
      | true=>
        have hpe:∀y∈pre,iH P ops y=false:=by
          have h1:fw P ops (x::L)=x::fw P ops L:=(by simp[fw,hxe]);have h2:fw P ops (pre++x::post)=fw P ops pre++x::fw P ops post:=(by simp[fw,hxe]);rw[h1,h2] at he;have:fw P ops pre=[]:=by
            cases hq:fw P ops pre with
            | nil=>rfl
            | cons z zs=>
              rw[hq] at he;simp at he;have hz:z∈fw P ops pre:=by rw[hq];simp
              have:=(mem_filter.1 hz).1
              exact absurd (he.1▸this) hxp
          intro y hy;cases hye:iH P ops y with
          | false=>rfl
          | true=>
            have:y∈fw P ops pre:=mem_filter.2 ⟨hy,hye⟩;rw[‹fw P ops pre=[]›] at this;cases this
        have ho':=Ei ho (fun _=>hpe);have he':fw P ops L=fw P ops (pre++post):=by
          have h0:fw P ops pre=[]:=filter_eq_nil_iff.2 fun y hy=>by simp[hpe y hy]
          have h1:fw P ops (x::L)=x::fw P ops L:=(by simp[fw,hxe]);have h2:fw P ops (pre++x::post)=fw P ops pre++x::fw P ops post:=(by simp[fw,hxe]);have h3:fw P ops (pre++post)=fw P ops pre++fw P ops post:=(by simp[fw]);rw[h1,h2,h0] at he;rw[h3,h0];simpa using he
        have hc:=qhH hs hox hxe pre post [] a w (fun y hy=>⟨hpe y hy,(hap y hy).1,hnb y hy⟩) h;by_cases hw:Region.wanted ox (yielded ops.toArray a.tmps)=true;rw[if_pos hw] at hc⊢;refine Gg (Gj hnd (yF hox)) ?_;have:ox.wx r m P a w (wpOpsIn (Wd r) m P ops.toArray Q L) wO:=by refine CO ?_ hc;rintro a' w' ⟨v,rfl,_,hc'⟩;exact BM hs hnd L _ _ _ hLn.2 hCn hm' ho' he' hb' hc'
        exact qAY this;rw[if_neg hw] at hc⊢;refine⟨fun _ _=>trivial,?_⟩;exact BM hs hnd L _ _ _ hLn.2 hCn hm' ho' he' hb' hc
end
section
variable {P:Program} {n:Nat} {ds:List Deferred} {e:Env} {a:Act} {w:World} {r:Option Nat} {m:Nat}
def qjq(h:mc ops=true){i:Nat}{o:Oper}(ho:ops[i]?=some o){x:Edge}(hx:x∈o.after)(hb:Region.binds .any x=true):x.on<i:=by
 unfold mc at h;rw[all_eq_true] at h;have hm:(o,i)∈ops.zipIdx:=by rw[mem_zipIdx_iff_getElem?];simpa using ho
 have:=h (o,i) hm
 simp only[Array.all_eq_true'] at this
 have:=this x hx
 simp only[hb,Bool.not_true,Bool.false_or] at this;exact zO this
def qsw{b:Array Nat}(h:ot ops b=true){x y:Nat}{o:Oper}(ho:ops[x]?=some o)(hy:y<ops.length)(hb:gf b y x=true): ∃e∈o.after,Region.binds .any e=true/\(e.on=y\/gf b y e.on=true):=by
 unfold ot at h;rw[all_eq_true] at h;have hm:(o,x)∈ops.zipIdx:=by rw[mem_zipIdx_iff_getElem?];simpa using ho
 have:=h (o,x) hm
 rw[all_eq_true] at this
 have:=this y (oP hy)
 simp only[hb,Bool.not_true,Bool.false_or,Array.any_eq_true',yB,Bool.or_eq_true] at this;obtain⟨e,he,h1,h2⟩:=this;exact⟨e,he,h1,h2.imp yW id⟩
def wG (ops:List Oper) (listed:Nat->Prop) (L:List Nat):Prop:=
 ∀pre x post,L=pre++x::post->∀o,ops[x]?=some o->∀e∈o.after,Region.binds .any e=true->listed e.on\/e.on∈pre
def qmy{ops:List Oper}{b:Array Nat}{L:List Nat}(hB:mc ops=true)(hp:ot ops b=true)(hT:wG ops (fun _=>False) L)(hL:∀i∈L,i<ops.length)(y:Nat)(hy:y<ops.length): ∀(k x:Nat),x<k->∀pre post,L=pre++x::post->gf b y x=true->y∈pre
 | 0,x,hx,_,_,_,_=>by omega
 | k+1,x,hx,pre,post,hL',hb=>by
  have hxl:x<ops.length:=hL x (by simp[hL']);obtain⟨o,ho⟩:∃o,ops[x]?=some o:=⟨ops[x],by simp[hxl]⟩;obtain⟨e,he,hbi,h⟩:=qsw hp ho hy hb;have hin:=(hT pre x post hL' o ho e he hbi).resolve_left (fun h=>h);rcases h with rfl|h;exact hin;obtain⟨p1,p2,rfl,_⟩:=qqk hin;have hlt:=qjq hB ho he hbi
  have:=qmy hB hp hT hL y hy k e.on oJ p1 (p2++x::post) (by simp[hL']) h
  exact zH _ this
def qqE{ops:Array Oper}{i:Nat}:i∈Region.ready .any ops listed↔listed.getD i true=false/\∃o,ops[i]?=some o/\∀e∈o.after,Region.binds .any e=true->listed.getD e.on false=true:=by
 simp only[Region.ready,mem_filter,mem_range,yB,zT];constructor;rintro⟨hi,h1,h2⟩;refine⟨h1,ops[i],by simp[hi],?_⟩;simp only[Array.getElem?_eq_getElem hi,Option.map_some,xV,Array.all_eq_true',Bool.or_eq_true,zT] at h2;intro e he hb;rcases h2 e he with h|h;rw[hb] at h;cases h;exact h;rintro⟨h1,o,ho,h2⟩;have hi:i<ops.size:=by rcases Nat.lt_or_ge i ops.size with h|h;exact h;simp[Array.getElem?_eq_none h] at ho
 refine⟨hi,h1,?_⟩;simp only[ho,Option.map_some,xV,Array.all_eq_true',Bool.or_eq_true,zT];intro e he;cases hb:Region.binds .any e with
 | false=>exact .inl rfl
 | true=>exact .inr (h2 e he hb)
def rA (listed:Array Bool) (k:Nat):Nat:=((List.range k).filter fun i=>!listed.getD i true).length
def qAj{i:Nat}(hi:listed.getD i true=false):∀k,i<k->rA (listed.setIfInBounds i true) k+1=rA listed k:=by
 intro k;have hlt:i<listed.size:=by rcases Nat.lt_or_ge i listed.size with h|h;exact h;simp[Array.getElem?_eq_none h] at hi
 have heq:∀j,(listed.setIfInBounds i true).getD j true=if j=i then true else listed.getD j true:=by intro j;by_cases hj:j=i;subst hj;simp[hlt];rw[if_neg hj,getD_set_ne true (fun h=>hj h.symm)]
 induction k with
 | zero=>intro h;omega
 | succ k ih=>
  intro hk;unfold rA at ih⊢;rw[range_succ,xC,xC,zF,zF];by_cases hki:k=i;subst hki;have h1:∀j∈List.range k,(!(listed.setIfInBounds k true).getD j true) = !listed.getD j true:=fun j hj=>by rw[heq j,if_neg (by have:=mem_range.1 hj;omega)]
  rw[filter_congr h1];simp only[filter_cons,filter_nil,heq k,if_true,hi];simp
  have:=ih oJ
  simp only[filter_cons,filter_nil,heq k,if_neg hki];omega
def qAi{k:Nat}(h:0<rA listed k):∃i,i<k/\listed.getD i true=false/\∀j,j<i->listed.getD j true=true:=by
 induction k with
 | zero=>simp[rA] at h
 | succ k ih=>
  by_cases hk:0<rA listed k;obtain⟨i,h1,h2⟩:=ih hk;exact⟨i,oJ,h2⟩;have h0:rA listed k=0:=oJ;have hall:∀j,j<k->listed.getD j true=true:=by
   intro j hj;unfold rA at h0;have:(List.range k).filter (fun i=>!listed.getD i true)=[]:=eq_nil_of_length_eq_zero h0
   have:=filter_eq_nil_iff.1 this j (mem_range.2 hj)
   simpa using this
  refine⟨k,oJ,?_,hall⟩;unfold rA at h h0;rw[range_succ,xC,zF] at h;rw[h0] at h;simp only[filter_cons,filter_nil,xS] at h;cases hk:listed.getD k true with
  | false=>rfl
  | true=>rw[hk] at h;simp at h
def qyz(hB:mc ops=true):∀(fuel t:Nat) (listed:Array Bool),listed.size=ops.length->rA listed ops.length<=fuel-> ∃L,Region.linearise.go .any ops.toArray fuel t listed []=L/\L.Nodup/\(∀i,i∈L↔i<ops.length/\listed.getD i true=false)/\wG ops (fun j=>listed.getD j false=true) L:=by
 intro fuel;induction fuel with
 | zero=>
  intro t listed hs hu;refine⟨[],by simp[Region.linearise.go],nodup_nil,fun i=>⟨fun h=>(by cases h),fun⟨h1,h2⟩=>?_⟩,?_⟩;exfalso;have:i∈(List.range ops.length).filter fun i=>!listed.getD i true:=mem_filter.2 ⟨mem_range.2 h1,by simp[h2]⟩;have h0:((List.range ops.length).filter fun i=>!listed.getD i true)=[]:=eq_nil_of_length_eq_zero (by unfold rA at hu;omega);rw[h0] at this;cases this;intro pre x post h;simp at h
 | succ fuel ih=>
  intro t listed hs hu;simp only[Region.linearise.go];have hrs:((List.range ops.toArray.size).filter fun i=>!listed.getD i true&&((ops.toArray[i]?).map (·.after.all fun e=>!Region.binds .any e||listed.getD e.on false)).getD false)=Region.ready .any ops.toArray listed:=rfl;rw[hrs];by_cases hr:Region.ready .any ops.toArray listed=[];have hnone:∀i,i<ops.length->listed.getD i true=true:=by
   intro i hi;cases hli:listed.getD i true with
   | true=>rfl
   | false=>
    exfalso;have hpos:0<rA listed ops.length:=by unfold rA;exact length_pos_of_mem (mem_filter.2 ⟨mem_range.2 hi,by simp[hli]⟩)
    obtain⟨j,hj,hj0,hjall⟩:=qAi hpos;have:j∈Region.ready .any ops.toArray listed:=by
     rw[qqE];refine⟨hj0,ops[j],by simp[hj],fun e he hb=>?_⟩;have hlt:=qjq hB (show ops[j]?=some ops[j] by simp[hj]) he hb
     have:=hjall e.on hlt
     have hlt2:e.on<listed.size:=oJ;simp only[Array.getD_eq_getD_getElem?,Array.getElem?_eq_getElem hlt2,xV] at this⊢;exact this
    rw[hr] at this;cases this
  refine⟨[],by simp[hr],nodup_nil,fun i=>⟨fun h=>(by cases h),fun⟨h1,h2⟩=>?_⟩,?_⟩;rw[hnone i h1] at h2;cases h2;intro pre x post h;simp at h;have hlen:0<(Region.ready .any ops.toArray listed).length:=length_pos_iff.2 hr;have hmod:t%(Region.ready .any ops.toArray listed).length<(Region.ready .any ops.toArray listed).length:=Nat.mod_lt _ hlen;rw[zA hmod];simp only;generalize hi:(Region.ready .any ops.toArray listed)[t%(Region.ready .any ops.toArray listed).length]=i;have hmem:i∈Region.ready .any ops.toArray listed:=(by rw[<- hi];exact zX _);obtain⟨h1,o,ho,h2⟩:=qqE.1 hmem;have hilt:i<ops.length:=by rcases Nat.lt_or_ge i ops.length with h|h;exact h;simp[yS h] at ho
  rw[linearise_go_acc];have hu':=qAj h1 ops.length hilt;obtain⟨L,hL,hnd,hm,hT⟩:=ih (t / (Region.ready .any ops.toArray listed).length) (listed.setIfInBounds i true) (oP hs) oJ;have heq:∀j,(listed.setIfInBounds i true).getD j true=if j=i then true else listed.getD j true:=by intro j;by_cases hj:j=i;subst hj;have:j<listed.size:=oJ;simp[this];rw[if_neg hj,getD_set_ne true (fun h=>hj h.symm)]
  refine⟨i::L,by rw[hL];simp,nodup_cons.2 ⟨fun hin=>?_,hnd⟩,fun j=>?_,?_⟩
  have:=((hm i).1 hin).2
  rw[heq i,if_pos rfl] at this;cases this;rw[zG,hm j,heq j];constructor;rintro (rfl|⟨hj1,hj2⟩);exact⟨hilt,h1⟩;by_cases hji:j=i;rw[if_pos hji] at hj2;cases hj2;rw[if_neg hji] at hj2;exact⟨hj1,hj2⟩;rintro⟨hj1,hj2⟩;by_cases hji:j=i;exact .inl hji;exact .inr ⟨hj1,by rw[if_neg hji];exact hj2⟩;intro pre x post hsplit ox hox e he hb;cases pre with
  | nil=>
   simp only[xI,List.cons.injEq] at hsplit;obtain⟨rfl,rfl⟩:=hsplit;have:o=ox:=by have ho':ops[i]?=some o:=(oP ho);rw[ho'] at hox;exact yO hox
   subst this;exact .inl (h2 e he hb)
  | cons z pre=>
   simp only[xJ,List.cons.injEq] at hsplit;obtain⟨rfl,rfl⟩:=hsplit;rcases hT pre x post rfl ox hox e he hb with h|h;by_cases hei:e.on=i;exact .inr (by simp[hei]);rw[getD_set_ne false (fun h=>hei h.symm)] at h;exact .inl h;exact .inr (zN _ h)
def qnD{b:Array Nat}:∀(k:Nat) (rem:List Nat) (seqs:List (List Nat)) (σ:List Nat),cover b k rem seqs=true->σ.Nodup->(∀i,i∈σ↔i∈rem)-> (∀pre x post,σ=pre++x::post->∀y∈post,gf b y x=false)->σ∈seqs
 | 0,rem,seqs,σ,h,_,hm,_=>by
  simp only[cover,yB,isEmpty_iff] at h;obtain⟨rfl,h2⟩:=h;have:σ=[]:=eq_nil_iff_forall_not_mem.2 fun i hi=>by have:=(hm i).1 hi;cases this
  subst this;simpa using h2
 | k+1,rem,seqs,σ,h,hn,hm,hb=>by
  simp only[cover,Bool.or_eq_true,yB,isEmpty_iff,zT] at h;rcases h with ⟨rfl,h2⟩|⟨h1,h2⟩;have:σ=[]:=eq_nil_iff_forall_not_mem.2 fun i hi=>by have:=(hm i).1 hi;cases this
  subst this;simpa using h2;cases σ with
  | nil=>
   exfalso;cases rem with
   | nil=>simp at h1
   | cons r rs=>have:=(hm r).2 oL;cases this
  | cons x σ=>
   have hx:x∈rem:=(hm x).1 oL;rw[all_eq_true] at h2;have h3:=h2 x hx;have hno:(rem.any fun y=>!(Nat.beq y x)&&gf b y x)=false:=by
    rw[any_eq_false];intro y hy;simp only[yB,zT,not_and];intro hyx;have hyne:y≠x:=fun e=>by subst e;simp at hyx
    have hyσ:y∈σ:=by rcases zG.1 ((hm y).2 hy) with h|h;exact absurd h hyne;exact h
    simp[hb [] x σ rfl y hyσ]
   rw[hno,Bool.false_or] at h3;have hxn:=nodup_cons.1 hn;have hm':∀i,i∈σ↔i∈rem.filter fun y=>!(Nat.beq y x):=by
    intro i;rw[mem_filter];constructor;intro hi;refine⟨(hm i).1 (by simp[hi]),?_⟩;have:i≠x:=fun e=>hxn.1 (e▸hi);cases hq:Nat.beq i x with
    | false=>rfl
    | true=>exact absurd (yW hq) this
    rintro⟨h5,h6⟩;rcases zG.1 ((hm i).2 h5) with rfl|h;simp at h6;exact h
   have:=qnD k _ _ σ h3 hxn.2 hm' (fun pre z post hs=>hb (x::pre) z post (by simp[hs]))
   unfold rR at this;rw[mem_filterMap] at this;obtain⟨s,hs,hsσ⟩:=this;cases s with
   | nil=>cases hsσ
   | cons y t=>
    simp only at hsσ;cases hyx:Nat.beq y x with
    | true=>
     rw[hyx] at hsσ;simp only[cond_true,Option.some.injEq] at hsσ
     have:=yW hyx
     subst this;subst hsσ;exact hs
    | false=>rw[hyx] at hsσ;simp at hsσ
def qmt{ops:List Oper}{b:Array Nat}{K:Env->WP}:∀ {orders:List (List Nat)} {e:Env} {w:World},ow (my P) P ops b K orders e w->∀C∈orders,kA (my P) P ops b K C [] e w
 | [],_,_,_,_,h=>by cases h
 | [o],_,_,h,C,hC=>by simp at hC;subst hC;exact h
 | o::p::r,_,_,h,C,hC=>by rcases zG.1 hC with rfl|hC;exact h.1;exact qmt (orders:=p::r) h.2 C hC
def qvd{id:Nat}{orders:List (List Nat)}{K:Env->WP}{wr:Nat->Bool}(hm:P.follows .mixedOrders=true)(hok:rf P ops orders=true)(hnd:ki ops=true)(hd:lQ n ops=true)(hw:∀o∈ops,∀d,o.dst=some d->wr d=true)(h:ow (my P) P ops (oz ops) K orders e w.drew)(hr:Rel n ds e a)(hQ:∀e' a' w',K e' w'->Rel n ds e' a'->gK wr a a'->Q .normal a' w'): (Code.region id ops.toArray true).wpIn (Wd r) m P Q a w:=by
 refine wpIn_region_draw fun t=>?_;simp only[Region.schedule,hm,Bool.true_or,if_true,Region.linearise];simp only[rf,yB,all_eq_true] at hok;obtain⟨⟨⟨⟨hB,hp⟩,hns⟩,hall⟩,hcov⟩:=hok;have hun:rA (Array.replicate ops.toArray.size false) ops.length<=ops.toArray.size:=by unfold rA;refine zL (length_filter_le _ _) ?_;simp
 obtain⟨L,hL,hnd',hmem,hT⟩:=qyz hB ops.toArray.size t (Array.replicate ops.toArray.size false) oL hun;rw[hL];have hmem':∀i,i∈L↔i<ops.length:=by intro i;rw[hmem i];constructor;exact fun h=>h.1;intro hi;exact⟨hi,by simp[hi]⟩
 have hT':wG ops (fun _=>False) L:=fun pre x post hs o ho e he hb=>by rcases hT pre x post hs o ho e he hb with h|h;exfalso;simp only[Array.getD_eq_getD_getElem?,Array.getElem?_replicate] at h;split at h<;>simp at h;exact .inr h
 have hbef:∀pre x post,L=pre++x::post->∀y∈post,gf (oz ops) y x=false:=by
  intro pre x post hs y hy;cases hb:gf (oz ops) y x with
  | false=>rfl
  | true=>
   exfalso;have hyl:y<ops.length:=(hmem' y).1 (by simp[hs,hy])
   have:=qmy hB hp hT' (fun i hi=>(hmem' i).1 hi) y hyl (x+1) x oJ pre post hs hb
   rw[hs] at hnd';rw[yM] at hnd';exact hnd'.2.2 y this y (zN _ hy) rfl
 have hσ:fw P ops L∈orders.map (fw P ops):=by
  refine qnD _ _ _ _ hcov (hnd'.filter _) (fun i=>?_) ?_;simp only[fw,mem_filter,mem_range,hmem'];intro pre x post hs y hy;have hlift:∀(l:List Nat) (f:Nat->Bool) (pre:List Nat) (x:Nat) (post:List Nat),l.filter f=pre++x::post->∃p q,l=p++x::q/\∀y∈post,y∈q:=by
   intro l f;induction l with
   | nil=>intro pre x post h;simp at h
   | cons z l ih=>
    intro pre x post h;by_cases hz:f z=true;rw[filter_cons_of_pos hz] at h;cases pre with
    | nil=>
     simp only[xI,List.cons.injEq] at h;obtain⟨rfl,h⟩:=h;exact⟨[],l,rfl,fun y hy=>(mem_filter.1 (h▸hy)).1⟩
    | cons p pre=>
     simp only[xJ,List.cons.injEq] at h;obtain⟨rfl,h⟩:=h;obtain⟨p',q,hq,hh⟩:=ih pre x post h;exact⟨z::p',q,by simp[hq],hh⟩
    rw[filter_cons_of_neg hz] at h;obtain⟨p',q,hq,hh⟩:=ih pre x post h;exact⟨z::p',q,by simp[hq],hh⟩
  obtain⟨p,q,hpq,hh⟩:=hlift L _ pre x post hs;exact hbef p x q hpq y (hh y hy)
 obtain⟨C,hC,hCe⟩:=mem_map.1 hσ;have hCa:=hall C hC;obtain⟨⟨⟨c1,c2⟩,c3⟩,c4⟩:=hCa;have c3':=qmo c3;have hCm:∀i,i∈C↔i<ops.length:=by intro i;constructor;intro hi;exact zO (c2 i hi);intro hi;obtain⟨j,hj,hij⟩:=any_eq_true.1 (c1 i (mem_range.2 hi));exact (yW hij)▸hj
 have hrun:=qmt h C hC;have hcan:=xc (r:=r) (m:=m) (Q:=Q) (a0:=a) hd hw hQ C [] [] e a w.drew (fun x w' h=>h) hrun hr (gK.refl _ _);exact BM hns hnd L C a w.drew hnd' c3' (fun i=>by rw[hmem' i,hCm i]) c4 hCe.symm hbef hcan
def lW (r:Option Nat) (m:Nat) (P:Program) (c:Code) (Q:Exit->Act->WP) (a:Act) (w:World):Prop:=
 ∀(b:Frame) (k:List Item) (cs:List Frame),b.roundOf=r->∃e a' w',Q e a' w'/\ArrivesIn (Machine.fenced P (Wd r)) P (lone (b.atR a (.code c::.inLoop c::k)) cs w) b k cs e a' w'
def lW.loop{c:Code}{Q:Exit->Act->WP}{a:Act}{w:World}(h:lW r m P c Q a w):(Code.loop c).wpIn (Wd r) m P Q a w:=
 fun b k cs hro hb hr=>let ⟨e,a',w',q,x⟩:=h b k cs hro;⟨e,a',w',q,.of_steps (.one (fenced_calm hb hr rfl) stepR_loop) x⟩
def lW.wm{c:Code}{a:Act}{w:World}(h:c.wpIn (Wd r) m P (Exit.then (fun a w=>lW r m P c Q a w) Q) a w):lW r m P c Q a w:=by
 intro b k cs hro;have hroom:(Wd r).room (cs.length+1+m):=fun _ hd=>by cases hd
 obtain⟨e,a₁,w₁,hq,harr⟩:=h b (.inLoop c::k) cs hro trivial hroom;cases e with
 | normal=>
  obtain⟨e₂,a₂,w₂,hq₂,harr₂⟩:=hq b k cs hro;exact⟨e₂,a₂,w₂,hq₂,.of_steps (StepsIn.trans harr (.one (fenced_calm (n:=m) trivial hroom rfl) stepR_inLoop)) harr₂⟩
 | exit id=>exact⟨_,a₁,w₁,hq,.pass (x:=.inLoop c) rfl (fun _ _=>.inl oL) harr⟩
 | goto l=>exact⟨_,a₁,w₁,hq,.pass (x:=.inLoop c) rfl (fun _ _=>.inl oL) harr⟩
 | ret=>exact⟨_,a₁,w₁,hq,.pass (x:=.inLoop c) rfl (fun _ _=>.inl oL) harr⟩
 | panic ch=>exact⟨_,a₁,w₁,hq,.pass (x:=.inLoop c) rfl (fun _ _=>.inl oL) harr⟩
 | outgrown=>exact⟨_,a₁,w₁,hq,.pass (x:=.inLoop c) rfl (fun _ _=>.inl oL) harr⟩
def PC.fits (P:Program) (n:Nat):PC->Bool
 | .skip=>true
 | .region _ ops=>lQ n ops&&ki ops
 | .draw _ ops orders=>lQ n ops&&rf P ops orders&&P.follows .mixedOrders&&ki ops
 | .seq a b=>a.fits P n&&b.fits P n
 | .join _ a b=>a.fits P n&&b.fits P n
 | .cond _ a b=>a.fits P n&&b.fits P n
 | .block _ b=>b.fits P n
 | .loop _ b=>b.fits P n
 | .exit _=>true
 | .ret=>true
 | .kH _ ps pts x y=>Nat.beq ps.length pts.length&&ps.all (Nat.blt · n)&&x.fits P n&&y.fits P n
 | .other _=>true
def iJ.to:iJ->Exit
 | .normal=>.normal
 | .exit id=>.exit id
 | .ret=>.ret
def qnU:∀(e1 e2:Env) (t:Nat),(e1++e2:Env).get t=match e1.get t with|some v=>some v|none=>e2.get t
 | [],e2,t=>rfl
 | (k,v)::r,e2,t=>by show Env.get ((k,v)::(r++e2)) t=_;rw[Env.jK,Env.jK];by_cases h:k=t;simp[h];simp[h,qnU r e2 t]
def FS:∀(e:Env) (wr:Nat->Bool) (t:Nat),(e.jP wr).get t=if wr t=true then none else e.get t
 | [],wr,t=>by simp[Env.jP,Env.get]
 | (k,v)::r,wr,t=>by
  simp only[Env.jP];cases hk:wr k with
  | true=>
   simp only[cond_true];rw[FS r wr t,Env.jK];by_cases h:k=t;subst h;simp[hk];simp[h]
  | false=>
   simp only[cond_false];rw[Env.jK,Env.jK,FS r wr t];by_cases h:k=t;subst h;simp[hk];simp[h]
def qrD:∀ {live:Live} {e:Env} {s:sF live},nR live e=some s->∀t v,(qa live s).get t=some v->e.get t=some v
 | [],_,_,_,t,v,h=>by simp[qa,Env.get] at h
 | [(k,y)],e,s,hp,t,v,h=>by simp only[nR] at hp;split at hp;rename_i u hu;simp only[qa] at h;rw[Env.jK] at h;by_cases hk:k=t;subst hk;simp only[if_true,Option.some.injEq] at h;rw[<- h,hu,gN.lI hp];simp[hk,Env.get] at h;cases hp
 | (k,y)::p::r,e,s,hp,t,v,h=>by simp only[nR] at hp;split at hp;rename_i u hu;split at hp;rename_i x hx;split at hp;rename_i z hz;cases hp;simp only[qa] at h;rw[Env.jK] at h;by_cases hk:k=t;subst hk;simp only[if_true,Option.some.injEq] at h;rw[<- h,hu,gN.lI hx];simp only[hk,if_false] at h;exact qrD (live:=p::r) hz t v h;cases hp;cases hp;cases hp
def D8{live:Live}{e0 e':Env}{a0 a':Act}{wr:Nat->Bool}{s:sF live}(h0:Rel n ds e0 a0)(h':Rel n ds e' a')(hk:gK wr a0 a')(hp:nR live e'=some s): Rel n ds (qa live s++e0.jP wr) a':=by refine⟨h'.size,h'.defers,fun t v hv=>?_⟩;rw[qnU] at hv;split at hv;rename_i u hu;cases hv;exact h'.get t v (qrD hp t v hu);rw[FS] at hv;by_cases hw:wr t=true;simp[hw] at hv;rw[if_neg hw] at hv;rw[hk t (oP hw)];exact h0.get t v hv
def qf:∀(c:PC) (Q:mW) (e:Env) (a:Act) (w:World) (Q':Exit->Act->WP),c.fits P n=true->c.pt (my P) P Q e w->Rel n ds e a-> (∀x e' a' w',Q x e' w'->Rel n ds e' a'->gK c.wr a a'->Q' x.to a' w')->c.erase.wpIn (Wd r) m P Q' a w
 | .skip,Q,e,a,w,Q',_,h,hr,hQ=>wpIn_skip (hQ .normal e a w h hr (gK.refl _ _))
 | .region id ops,Q,e,a,w,Q',hf,h,hr,hQ=>by simp only[PC.fits,yB] at hf;exact wpIn_region_list<|GJ (wr:=pK ops) ops e a w h hr hf.1 (fun o ho d hd=>qqq ho hd) (gK.refl _ _) (fun e' a' w' hk hr' hkeep=>hQ .normal e' a' w' hk hr' hkeep) hf.2
 | .draw id ops orders,Q,e,a,w,Q',hf,h,hr,hQ=>by simp only[PC.fits,yB] at hf;exact qvd (wr:=pK ops) hf.1.2 hf.1.1.2 hf.2 hf.1.1.1 (fun o ho d hd=>qqq ho hd) h hr (fun e' a' w' hk hr' hkeep=>hQ .normal e' a' w' hk hr' hkeep)
 | .seq x y,Q,e,a,w,Q',hf,h,hr,hQ=>by
  simp only[PC.fits,yB] at hf;refine wpIn_seq (qf x _ e a w _ hf.1 h hr ?_);intro z e1 a1 w1 hz hr1 hk1;cases z with
  | normal=>
   refine qf y Q e1 a1 w1 Q' hf.2 hz hr1 (fun z e2 a2 w2 hz2 hr2 hk2=>hQ z e2 a2 w2 hz2 hr2 ?_);exact hk1.trans hk2 (fun t ht=>by simpa[PC.wr] using ht)
  | exit id=>exact hQ (.exit id) e1 a1 w1 hz hr1 (hk1.mono (fun t ht=>by simp[PC.wr] at ht;exact ht.1))
  | ret=>exact hQ .ret e1 a1 w1 hz hr1 (hk1.mono (fun t ht=>by simp[PC.wr] at ht;exact ht.1))
 | .join live x y,Q,e,a,w,Q',hf,h,hr,hQ=>by
  simp only[PC.fits,yB] at hf;obtain⟨Mid,hX,hY⟩:=h;refine wpIn_seq (qf x _ e a w _ hf.1 hX hr ?_);intro z e1 a1 w1 hz hr1 hk1;cases z with
  | normal=>
   simp only[mW.j4] at hz;split at hz;rename_i s hs;refine qf y Q _ a1 w1 Q' hf.2 (hY s w1 hz) (D8 hr hr1 hk1 hs) (fun z e2 a2 w2 hz2 hr2 hk2=>hQ z e2 a2 w2 hz2 hr2 ?_);exact hk1.trans hk2 (fun t ht=>by simpa[PC.wr] using ht);exact hz.elim
  | exit id=>exact hQ (.exit id) e1 a1 w1 hz hr1 (hk1.mono (fun t ht=>by simp[PC.wr] at ht;exact ht.1))
  | ret=>exact hQ .ret e1 a1 w1 hz hr1 (hk1.mono (fun t ht=>by simp[PC.wr] at ht;exact ht.1))
 | .cond c x y,Q,e,a,w,Q',hf,h,hr,hQ=>by
  simp only[PC.fits,yB] at hf;simp only[PC.pt] at h;split at h;rename_i b hb;cases b with
  | true=>exact wpIn_cond_true (hr.ev hb) (qf x Q e a w Q' hf.1 h hr (fun z e1 a1 w1 hz hr1 hk1=>hQ z e1 a1 w1 hz hr1 (hk1.mono (fun t ht=>by simp[PC.wr] at ht;exact ht.1))))
  | false=>exact wpIn_cond_false (hr.ev hb) (qf y Q e a w Q' hf.2 h hr (fun z e1 a1 w1 hz hr1 hk1=>hQ z e1 a1 w1 hz hr1 (hk1.mono (fun t ht=>by simp[PC.wr] at ht;exact ht.2))))
  exact h.elim
 | .block id body,Q,e,a,w,Q',hf,h,hr,hQ=>by
  refine wpIn_block (qf body _ e a w _ hf h hr ?_);intro z e1 a1 w1 hz hr1 hk1;cases z with
  | normal=>exact hQ .normal e1 a1 w1 hz hr1 hk1
  | exit j=>
   simp only at hz;simp only[iJ.to,Exit.inBlock];cases hj:Nat.beq j id with
   | true=>
    rw[hj] at hz;rw[if_pos (yW hj)];exact hQ .normal e1 a1 w1 hz hr1 hk1
   | false=>
    rw[hj] at hz;rw[if_neg (fun hq=>by subst hq;simp at hj)];exact hQ (.exit j) e1 a1 w1 hz hr1 hk1
  | ret=>exact hQ .ret e1 a1 w1 hz hr1 hk1
 | .loop live body,Q,e,a,w,Q',hf,h,hr,hQ=>by
  simp only[PC.pt] at h;split at h;rename_i s0 hs0;have key:=h (fun s w1=>∀a1,Rel n ds (qa live s++e.jP (fun t=>body.wr t)) a1->gK body.wr a a1->lW r m P body.erase Q' a1 w1) ?_;exact lW.loop (key a (D8 hr hr (gK.refl _ _) hs0) (gK.refl _ _));intro s w1 hB a1 hr1 hk1;refine lW.wm (qf body _ _ a1 w1 _ hf hB hr1 ?_);intro z e2 a2 w2 hz hr2 hk2;have hk:gK body.wr a a2:=hk1.trans hk2 (fun t ht=>⟨ht,ht⟩);cases z with
  | normal=>
   simp only[mW.j4] at hz;split at hz;rename_i s' hs';exact hz a2 (D8 hr hr2 hk hs') hk;exact hz.elim
  | exit id=>exact hQ (.exit id) e2 a2 w2 hz hr2 hk
  | ret=>exact hQ .ret e2 a2 w2 hz hr2 hk
  exact h.elim
 | .exit id,Q,e,a,w,Q',_,h,hr,hQ=>wpIn_exit (hQ (.exit id) e a w h hr (gK.refl _ _))
 | .ret,Q,e,a,w,Q',_,h,hr,hQ=>wpIn_ret (hQ .ret e a w h hr (gK.refl _ _))
 | .kH ..,Q,e,a,w,Q',_,h,_,_=>h.elim
 | .other c,Q,e,a,w,Q',_,h,_,_=>h.elim
def rU:∀(c:Code) (as0:List uF),(jm c as0).1.erase=c
 | .skip,as0=>rfl
 | .region id ops draw,as0=>by
  cases draw with
  | false=>simp[jm,PC.erase]
  | true=>
   simp only[jm];split<;>simp[PC.erase]
 | .seq a b,as0=>by simp only[jm];split;simp only[PC.erase,rU a,rU b];simp only[PC.erase,rU a,rU b];simp only[PC.erase,rU a,rU b];rfl
 | .cond c a b,as0=>by simp only[jm,PC.erase,rU a,rU b]
 | .block id b,as0=>by simp only[jm,PC.erase,rU b]
 | .loop b,as0=>by simp only[jm];split;simp only[PC.erase,rU b];rfl
 | .rangeFunc f ps x y,as0=>by simp only[jm];split;simp only[PC.erase,rU x,rU y];rfl
 | .exit id,as0=>rfl
 | .scope b,as0=>rfl
 | .label l,as0=>rfl
 | .goto l,as0=>rfl
 | .ret,as0=>rfl
 | .refuse s,as0=>rfl
def qmC:∀ {ts:List gN} {vs:List Value} {x:iY ts},kO.unVals ts vs=some x->iY.vals ts x=vs
 | [],[],_,_=>rfl
 | [],_::_,_,h=>by simp[kO.unVals] at h
 | [t],[v],x,h=>by simp only[kO.unVals] at h;simp only[iY.vals,gN.lI h]
 | [t],[],x,h=>by simp[kO.unVals] at h
 | [t],_::_::_,x,h=>by simp[kO.unVals] at h
 | t::u::ts,[],x,h=>by simp[kO.unVals] at h
 | t::u::ts,v::vs,x,h=>by simp only[kO.unVals] at h;split at h;rename_i y hy;split at h;rename_i z hz;cases h;simp only[iY.vals,gN.lI hy,qmC hz];cases h;cases h
def qoL{v:Value}{x:iY ts}(h:kO ts v=some x)(hv:ts=[]->v=.tuple #[]):fT ts x=v:=by
 match ts,x,h with
 | [],x,h=>simp[fT,hv rfl]
 | [t],x,h=>exact gN.lI h
 | t::u::ts,x,h=>
  cases v<;>simp only[kO] at h<;>try (cases h;done)
  rename_i vs;simp only[fT,qmC h]
def kS (tmps:Array Value):ResultVar->Sem Value
 | .tmp t=>pure (tmps.getD t undef)
 | .cell a t=>do loadVar t (<- asAddr (tmps.getD a undef))
def zw{R:List Value->Prop}:∀(rvs:List ResultVar) (e:Env) (a:Act) (w:World) (K:List Value->Prop),lf (my P) P rvs e w K->Rel n ds e a-> ∃vs,(rvs.mapM (kS a.tmps)).run P w=.ok vs w/\vs.length=rvs.length/\K vs
 | [],e,a,w,K,h,hr=>⟨[],oL,rfl,h⟩
 | .tmp t::r,e,a,w,K,h,hr=>by simp only[lf] at h;split at h;rename_i v hv;obtain⟨vs,h1,h2,h3⟩:=zw (R:=R) r e a w _ h hr;exact⟨v::vs,by simp[mapM_cons,kS,h1,<- hr.get t v hv],by simp[h2],h3⟩;exact h.elim
 | .cell ad t::r,e,a,w,K,h,hr=>by
  simp only[lf] at h;split at h;rename_i p hp;have hp':=hr.get _ _ hp;split at h;rename_i c hcell;cases hok:!mS P t with
  | true=>simp only[hok,cond_true] at h
  | false=>
   simp only[hok,cond_false] at h;obtain⟨hi1,hi2⟩:=tc hok;cases hag:eX P t with
   | true=>simp only[hag,cond_true] at h
   | false=>
    simp only[hag,cond_false] at h;obtain⟨y,hy,hk⟩:=h;obtain⟨vs,h1,h2,h3⟩:=zw (R:=R) r e a w _ hk hr;exact⟨_::vs,by simp[mapM_cons,kS,hp',asAddr,loadVar,vq hi2,hag,hy,h1],by simp[h2],h3⟩
  rename_i cs hcells;cases hg:eX P t&&Nat.beq (eK P t) cs.length with
  | false=>simp only[hg,cond_false] at h
  | true=>
   simp only[hg,cond_true] at h;simp only[yB] at hg;obtain⟨hag,hsz⟩:=hg;have hsz':=yW hsz;obtain⟨y,hy,hk⟩:=h;have hlen:(HL.mk cs y).length=cs.length:=HL.j3 cs y;have hsome:(P.info? t).isSome=true:=by
    cases hi:P.info? t with
    | none=>
     have:(P.underlying t).isSome=true:=vn hag;simp[Program.underlying,hi] at this
    | some i=>rfl
   obtain⟨vs,h1,h2,h3⟩:=zw (R:=R) r e a w _ hk hr;have hl:=AE (P:=P) (HL.mk cs y) 0 #[] w hy;rw[hlen,<- hsz'] at hl;exact⟨_::vs,by simp[mapM_cons,kS,hp',asAddr,loadVar,vq (vn hag),hag,qp hsome,loadCells,hl,h1],by simp[h2],h3⟩
  cases hag:eX P t with
  | false=>simp only[hag,cond_false] at h
  | true=>
   simp only[hag,cond_true] at h;obtain⟨y,hy,hk⟩:=h;have hsome:(P.info? t).isSome=true:=by
    cases hi:P.info? t with
    | none=>
     have:(P.underlying t).isSome=true:=vn hag;simp[Program.underlying,hi] at this
    | some i=>rfl
   obtain⟨vs,h1,h2,h3⟩:=zw (R:=R) r e a w _ hk hr;have hl:=AE (P:=P) y 0 #[] w hy.2;rw[hy.1] at hl;exact⟨_::vs,by simp[mapM_cons,kS,hp',asAddr,loadVar,vq (vn hag),hag,qp hsome,loadCells,hl,h1],by simp[h2],h3⟩
  exact h.elim
def qox(fn:Func)(tmps:Array Value):results fn tmps=(do let vs <- fn.results.mapM (kS tmps);Pure.pure (if h:vs.size=1 then vs[0] else .tuple vs)):=by unfold results;congr 1
def EL:∀(args:List Value) (i t:Nat) (v:Value),(lS i args).get t=some v->∃j,t=i+j/\args[j]?=some v
 | [],i,t,v,h=>by simp[lS,Env.get] at h
 | u::r,i,t,v,h=>by simp only[lS] at h;rw[Env.jK] at h;by_cases hi:i=t;subst hi;simp at h;exact⟨0,oL,by simp[h]⟩;simp[hi] at h;obtain⟨j,hj,hv⟩:=EL r (i+1) t v h;exact⟨j+1,oJ,by simpa using hv⟩
def mark (m:Option Nat):List Deferred:=match m with|none=>[] | some D=>[{ target:=.collected D,args:=#[] }]
def qov:∀ {ts:List Tmp} {vs:List Value} {e:Env} {tm:Array Value},(ts.all (Nat.blt · n))=true->Rel n [] e { tmps:=tm,defers:=[] }->ts.length=vs.length-> Rel n [] (pX e ts vs) { tmps:=(ts.zip vs).foldl (fun t (x:Tmp×Value)=>t.setIfInBounds x.1 x.2) tm,defers:=[] }
 | [],[],e,tm,_,h,_=>h
 | t::ts,v::vs,e,tm,hl,h,hlen=>by simp only[all_cons,yB] at hl;have hp:=h.put (dst:=some t) (fun d hd=>by cases hd;exact zO hl.1) v;exact qov (ts:=ts) (vs:=vs) hl.2 hp (oP hlen)
def qof{x:iJ}:∀ {l:List iJ} {k i:Nat},qK x l k=some i->∃j,i=k+j/\l[j]?=some x
 | [],k,i,h=>by cases h
 | y::r,k,i,h=>by
  simp only[qK] at h;cases hs:x.same y with
  | true=>
   rw[hs] at h;simp only[cond_true,Option.some.injEq] at h;refine⟨0,oJ,?_⟩;cases x<;>cases y<;>simp only[iJ.same,Bool.false_eq_true] at hs<;>try rfl
   simp[yW hs]
  | false=>
   rw[hs] at h;simp only[cond_false] at h;obtain⟨j,hj,hl⟩:=qof h;exact⟨j+1,oJ,by simpa using hl⟩
def iJ.code:iJ->Code
 | .normal=>.skip
 | .ret=>.ret
 | .exit id=>.exit id
def Es:∀(ts:List gN) (x:iY ts),(iY.vals ts x).length=ts.length
 | [],_=>rfl
 | [_],_=>rfl
 | _::u::ts,x=>by simp only[iY.vals,yI,Es (u::ts) x.2]
def qxw{g:Operand}{ps:List Tmp}{pts:List gN}{x y:PC}{done:Nat->WP}{Qj:iJ->Nat->WP}{v:Value}(hg:e.ev g=some v)(hps:ps.length=pts.length)(hlt:(ps.all (Nat.blt · n))=true)(hfx:x.fits P n=true)(hfy:y.fits P n=true)(hr:Rel n [] e a)(h:kH P v pts (m9 (my P) P x y ps pts e) done (y.outs.map fun z=>fun D w'=>Qj z D w') w){Q':Exit->Act->WP}(hdone:∀D w',done D w'->Q' .normal { a with defers:=mark (some D) } w')(hjump:∀z D w',Qj z D w'->z≠.normal->Q' z.to { a with defers:=mark (some D) } w')(hno:∀z∈y.outs,z≠.normal): (Code.rangeFunc g ps.toArray x.erase y.erase).wpIn (Wd none) m P Q' a w:=by
 obtain⟨f,lb,rfl,hb,h⟩:=h;refine wpIn_rangeFunc ?_;intro fn _;have hro:(Wd none).round=none:=rfl;rw[hro];obtain⟨rec,hrec⟩:∃rec:LoopState->Option Code->Loop,rec=fun st pe=>{ state:=st,pending:=pe,fn,tmps:=a.tmps,params:=ps.toArray,assign:=x.erase,body:=y.erase,defers:=w.heap.size }:=⟨_,rfl⟩;let l:=w.heap.size+1;let J:Nat->Obj:=fun i=>.loop (rec .done ((y.outs[i]?).map iJ.code));let E:Nat->Obj:=fun i=>.loop (rec .exhausted ((y.outs[i]?).map iJ.code));have hy:oW P pts (m9 (my P) P x y ps pts e) l (.loop (rec .ready none)) (.loop (rec .busy none)) J:=by
  intro u W K hl hbody;unfold m9 at hbody;refine .inr ⟨l,fn,(ps.zip (iY.vals pts u)).foldl (fun t (x:Tmp×Value)=>t.setIfInBounds x.1 x.2) a.tmps,x.erase,y.erase,?_,?_⟩
  ·have hyl:=run_yield (P:=P) (args:=(iY.vals pts u).toArray) hl (by rw[hrec];simp[Es,hps]);rw[hrec] at hyl;simp only[Deferred.ofValue,pure_bind];simp only[invoke];have hz:∀(ps:List Tmp) (vs:List Value) (t0:Array Value),(ps.toArray.zip vs.toArray).foldl (fun (tmps:Array Value) (x:Tmp×Value)=>match x with|(t,a)=>tmps.setIfInBounds t a) t0=(ps.zip vs).foldl (fun t (x:Tmp×Value)=>t.setIfInBounds x.1 x.2) t0:=by intro ps vs t0;rw[<- Array.foldl_toList];simp
   rw[hz] at hyl;first
    | exact hyl
    | simpa using hyl
  refine roundIn_of_wpIn (F:=Wd none) (n:=0) trivial ?_;have hrel:Rel n [] (pX e ps (iY.vals pts u)) { tmps:=(ps.zip (iY.vals pts u)).foldl (fun t (x:Tmp×Value)=>t.setIfInBounds x.1 x.2) a.tmps,defers:=[] }:=
   qov hlt ⟨hr.size,rfl,hr.get⟩ (by rw[Es,hps])
  refine qf (r:=some l) (m:=0) x _ _ _ W _ hfx hbody hrel ?_;intro z e' a' w' hz hr' _;cases z with
  | exit id=>exact hz.elim
  | ret=>exact hz.elim
  | normal=>
   obtain⟨hl1,hz⟩:=hz;refine⟨_,run_beginRound hl1 (by rw[hrec]),?_⟩;have hbz:({ rec .ready none with state:=.busy }:Loop)=rec .busy none:=(by rw[hrec]);rw[hbz];refine qf (r:=some l) (m:=0) y _ _ _ _ _ hfy hz hr' ?_;intro z e'' a'' w3 hz hr'' _;have fin:∀(jump:Option Code),w3.heap[l]?=some (.loop (rec .busy none))->(Instr.endRound l jump).run P w3=.ok (.bool jump.isNone) (w3.putObj l (.loop (rec (if jump.isNone then .ready else .done) jump))):=by
    intro jump hl3
    have:=run_endRound (P:=P) jump hl3
    rw[hrec] at this⊢;exact this
   have out:∀z:iJ,(match qK z y.outs 0 with|some i=>w3.heap[l]?=some (.loop (rec .busy none))/\K false (w3.putObj l (J i))|none=>False)->
     ∃v w',(Instr.endRound l (some z.code)).run P w3=.ok v w'/\∃x:iY [gN.one Cell.bool],Ending.returned v=.returned (fT dj x)/\K x w':=by
    intro z hz;split at hz;rename_i i hi;obtain⟨j,hj,hjl⟩:=qof hi;have:i=j:=oJ;subst this;refine⟨_,_,fin (some z.code) hz.1,false,rfl,?_⟩;have hJ:J i=.loop (rec (if (some z.code).isNone then .ready else .done) (some z.code)):=by show Obj.loop (rec .done ((y.outs[i]?).map iJ.code))=_;rw[hjl];rfl
    rw[<- hJ];exact hz.2;exact hz.elim
   cases z with
   | normal=>exact⟨_,_,fin none hz.1,true,rfl,hz.2⟩
   | ret=>exact out .ret hz
   | exit id=>exact out (.exit id) hz
 have hcall:=h (.loop (rec .ready none)) (.loop (rec .busy none)) J E (.loop (rec .exhausted none)) hy;refine⟨l,[{ target:=.collected w.heap.size,args:=#[] }],(w.alloc (.deferred (some []))).alloc (.loop (rec .ready none)),{ target:=.fn (.func f) lb.toArray,args:=#[.func (.yield l) #[] #[]] },(w.alloc (.deferred (some []))).alloc (.loop (rec .ready none)),f,
  (.func (.yield l) #[] #[]::lb).toArray,(w.alloc (.deferred (some []))).alloc (.loop (rec .ready none)),?_,?_,fun _ _=>trivial,?_,GX none,?_⟩
 rw[hrec];exact run_enterLoop_outer _ _ _ _ _;simp only[resolve,hr.ev hg];simp[Deferred.ofValue];rfl;simp[invoke,Ac hb];refine qf2 (Calls.mono hcall ?_);rintro e2 W2 ⟨u,rfl,hh⟩;rcases hh with ⟨hl,hd⟩|⟨i,k,hk,hl,hd⟩;refine⟨none,_,?_,by rw[hr.defers];exact hdone _ _ hd⟩
 have:=run_endLoop (P:=P) hl (by rw[hrec];simp)
 rw[hrec] at this⊢;exact this;have hk':=hk;rw[zQ] at hk;cases hz:y.outs[i]? with
 | none=>rw[hz] at hk;cases hk
 | some z=>
  rw[hz] at hk;cases hk;have hJ:J i=.loop (rec .done (some z.code)):=by show Obj.loop (rec .done ((y.outs[i]?).map iJ.code))=_;rw[hz];rfl
  have hE:E i=.loop (rec .exhausted (some z.code)):=(by show Obj.loop (rec .exhausted ((y.outs[i]?).map iJ.code))=_;rw[hz];rfl);rw[hJ] at hl;rw[hE] at hd;have hzn:=hno z (yF hz);have hq:=hjump z _ _ hd hzn;refine⟨some z.code,W2.putObj (w.heap.size+1) (.loop (rec .exhausted (some z.code))),?_,?_⟩
  have:=run_endLoop (P:=P) hl (by rw[hrec];simp)
  rw[hrec] at this⊢;exact this;rw[hr.defers];cases z with
  | normal=>exact absurd rfl hzn
  | ret=>exact wpIn_ret hq
  | exit id=>exact wpIn_exit hq
def PC.qM (c:PC):Bool:=c.outs.all fun z=>match z with | .normal=>false|_=>true
def PC.nT:PC->Bool
 | .seq a b=>a.nT&&b.nT
 | .block _ b=>b.nT
 | .kH _ _ _ _ y=>y.qM
 | _=>true
def CH:∀(c:PC) (Q:Option Nat->mW) (k:Option Nat) (e:Env) (a:Act) (w:World) (Q':Exit->Act->WP),c.fits P n=true->c.nT=true->c.zu (my P) P Q k e w->Rel n (mark k) e a-> (∀k' x e' a' w',Q k' x e' w'->Rel n (mark k') e' a'->Q' x.to a' w')->c.erase.wpIn (Wd none) m P Q' a w
 | .seq x y,Q,k,e,a,w,Q',hf,hs,h,hr,hQ=>by
  simp only[PC.fits,yB] at hf;simp only[PC.nT,yB] at hs;refine wpIn_seq (CH x _ k e a w _ hf.1 hs.1 h hr ?_);intro k' z e1 a1 w1 hz hr1;cases z with
  | normal=>exact CH y Q k' e1 a1 w1 Q' hf.2 hs.2 hz hr1 hQ
  | exit id=>exact hQ k' (.exit id) e1 a1 w1 hz hr1
  | ret=>exact hQ k' .ret e1 a1 w1 hz hr1
 | .block id body,Q,k,e,a,w,Q',hf,hs,h,hr,hQ=>by
  refine wpIn_block (CH body _ k e a w _ hf hs h hr ?_);intro k' z e1 a1 w1 hz hr1;cases z with
  | normal=>exact hQ k' .normal e1 a1 w1 hz hr1
  | exit j=>
   simp only at hz;simp only[iJ.to,Exit.inBlock];cases hj:Nat.beq j id with
   | true=>
    rw[hj] at hz;rw[if_pos (yW hj)];exact hQ k' .normal e1 a1 w1 hz hr1
   | false=>
    rw[hj] at hz;rw[if_neg (fun hq=>by subst hq;simp at hj)];exact hQ k' (.exit j) e1 a1 w1 hz hr1
  | ret=>exact hQ k' .ret e1 a1 w1 hz hr1
 | .kH g ps pts x y,Q,k,e,a,w,Q',hf,hs,h,hr,hQ=>by
  simp only[PC.fits,yB] at hf;simp only[PC.zu] at h;cases k with
  | some D=>exact h.elim
  | none=>
   simp only at h;split at h;exact h.elim;rename_i v hg;have h':kH P v pts (m9 (my P) P x y ps pts e) (fun D w'=>Q (some D) .normal e w') (y.outs.map fun z=>fun D w'=>Q (some D) z e w') w:=h;refine qxw (done:=fun D w'=>Q (some D) .normal e w') (Qj:=fun z D w'=>Q (some D) z e w') hg (yW hf.1.1.1) hf.1.1.2 hf.1.2 hf.2 hr h' ?_ ?_ ?_;intro D w' hq;exact hQ (some D) .normal e _ w' hq ⟨hr.size,rfl,hr.get⟩;intro z D w' hq _;exact hQ (some D) z e _ w' hq ⟨hr.size,rfl,hr.get⟩;intro z hz hzn;subst hzn;simp only[PC.nT,PC.qM,all_eq_true] at hs
   have:=hs _ hz
   cases this
 | .skip,Q,k,e,a,w,Q',hf,_,h,hr,hQ=>qf .skip (Q k) e a w Q' hf h hr (fun z e' a' w' hx hr' _=>hQ k z e' a' w' hx hr')
 | .region id ops,Q,k,e,a,w,Q',hf,_,h,hr,hQ=>qf (.region id ops) (Q k) e a w Q' hf h hr (fun z e' a' w' hx hr' _=>hQ k z e' a' w' hx hr')
 | .draw id ops os,Q,k,e,a,w,Q',hf,_,h,hr,hQ=>qf (.draw id ops os) (Q k) e a w Q' hf h hr (fun z e' a' w' hx hr' _=>hQ k z e' a' w' hx hr')
 | .join l x y,Q,k,e,a,w,Q',hf,_,h,hr,hQ=>qf (.join l x y) (Q k) e a w Q' hf h hr (fun z e' a' w' hx hr' _=>hQ k z e' a' w' hx hr')
 | .cond c x y,Q,k,e,a,w,Q',hf,_,h,hr,hQ=>qf (.cond c x y) (Q k) e a w Q' hf h hr (fun z e' a' w' hx hr' _=>hQ k z e' a' w' hx hr')
 | .loop l x,Q,k,e,a,w,Q',hf,_,h,hr,hQ=>qf (.loop l x) (Q k) e a w Q' hf h hr (fun z e' a' w' hx hr' _=>hQ k z e' a' w' hx hr')
 | .exit id,Q,k,e,a,w,Q',hf,_,h,hr,hQ=>qf (.exit id) (Q k) e a w Q' hf h hr (fun z e' a' w' hx hr' _=>hQ k z e' a' w' hx hr')
 | .ret,Q,k,e,a,w,Q',hf,_,h,hr,hQ=>qf .ret (Q k) e a w Q' hf h hr (fun z e' a' w' hx hr' _=>hQ k z e' a' w' hx hr')
 | .other c,Q,k,e,a,w,Q',hf,_,h,hr,hQ=>h.elim
def qur{K:iY ts->WP}{e':Env}{a':Act}(hts:(!ts.isEmpty||fn.results.isEmpty)=true)(hr':Rel n ds e' a')(hres:lf (my P) P fn.results.toList e' w' (fun vs=>match kO ts (oneOf vs) with|some x=>K x w'|none=>False)): ∃v,(results fn a'.tmps).run P w'=.ok v w'/\∃x:iY ts,Ending.returned v=.returned (fT ts x)/\K x w':=by
 obtain⟨vs,h1,h2,h3⟩:=zw (R:=fun _=>True) fn.results.toList e' a' w' _ hres hr';split at h3;rename_i y hy;refine⟨oneOf vs,?_,y,?_,h3⟩;rw[qox];have hmm:(fn.results.mapM (kS a'.tmps)).run P w'=.ok vs.toArray w':=by rw[Array.mapM_eq_mapM_toList];simp[h1]
 simp only[Sem.run_bind,hmm,Result.andThen_ok];match vs with
 | []=>simp[oneOf]
 | [v]=>simp[oneOf]
 | v::u::vs=>simp[oneOf]
 rw[qoL hy];intro h0;subst h0;simp at hts;have:vs=[]:=by have:vs.length=0:=(by rw[h2];simp[hts]);exact eq_nil_of_length_eq_zero this
 subst this;rfl;exact h3.elim
def qyP(hlen:args.length<=n):Rel n [] (lS 0 args) { tmps:=args.toArray++Array.replicate (n-args.toArray.size) undef,defers:=[] }:=by
 refine⟨by simp;omega,rfl,fun t v hv=>?_⟩;obtain⟨j,hj,hv'⟩:=EL args 0 t v hv;have hjl:j<args.length:=by rcases Nat.lt_or_ge j args.length with h|h;exact h;simp[yS h] at hv'
 have:t=j:=oJ;subst this;rw[zA hjl] at hv';simp[Array.getElem?_append,hjl];exact yO hv'
def qoX{w:World}{K:iY ts->WP}(hf:P.funcs[f]?=some fn)(hfit:(match fn.body with|some c=>(jm c an).1.fits P fn.ntmps&&(jm c an).1.nT&&Nat.ble args.length fn.ntmps&&(!ts.isEmpty||fn.results.isEmpty)|none=>false)=true)(h:tL (my P) P fn an ts args K w):call P f args ts w K:=by
 unfold tL at h;split at h;rename_i c hb;simp only[hb,yB] at hfit;obtain⟨⟨⟨hfit,hfs⟩,hlen⟩,hts⟩:=hfit;have hlen':args.length<=fn.ntmps:=zO hlen;unfold call;refine callsIn_wide.1 (callsIn_of_wp_marks (F:=Wd none) (n:=0) hf hb trivial ?_);have hsp:=CH (m:=0) (n:=fn.ntmps) (jm c an).1 _ none _ _ w (bodyPostM (Wd none) 0 P fn fun e w'=>∃x:iY ts,e=.returned (fT ts x)/\K x w') hfit hfs h (qyP hlen') ?_;rw[rU] at hsp;exact hsp;intro k x e' a' w' hx hr';have fin:(vz (my P) k w' fun w2=>lf (my P) P fn.results.toList e' w2 (fun vs=>match kO ts (oneOf vs) with|some x=>K x w2|none=>False))->
   LeavesInM (Wd none) 0 P fn a'.tmps (fun e w'=>∃x:iY ts,e=.returned (fT ts x)/\K x w') a'.defers .returning w':=by
  intro hu;rw[hr'.defers];cases k with
  | none=>
   obtain⟨v,h1,h2⟩:=qur hts hr' hu;exact⟨v,h1,h2⟩
  | some D=>
   obtain⟨hD,hu⟩:=hu;obtain⟨v,h1,h2⟩:=qur hts hr' hu;exact⟨oL,.inl ⟨D,_,rfl,run_takeDeferred hD,v,h1,h2⟩⟩
 cases x with
 | normal=>exact fin hx
 | ret=>exact fin hx
 | exit id=>exact hx.elim
 exact h.elim
def qqV{w:World}{K:iY ts->WP}(hf:P.funcs[f]?=some fn)(hfit:(match fn.body with|some c=>(jm c an).1.fits P fn.ntmps&&Nat.ble args.length fn.ntmps&&(!ts.isEmpty||fn.results.isEmpty)|none=>false)=true)(h:vV (my P) P fn an ts args K w):call P f args ts w K:=by
 unfold vV at h;split at h;rename_i c hb;simp only[hb,yB] at hfit;obtain⟨⟨hfit,hlen⟩,hts⟩:=hfit;have hlen':args.length<=fn.ntmps:=zO hlen;unfold call;refine callsIn_wide.1 (callsIn_of_wp (F:=Wd none) (n:=0) hf hb trivial ?_);have hrel:Rel fn.ntmps [] (lS 0 args) { tmps:=args.toArray++Array.replicate (fn.ntmps-args.toArray.size) undef,defers:=[] }:=by
  refine⟨by simp;omega,rfl,fun t v hv=>?_⟩;obtain⟨j,hj,hv'⟩:=EL args 0 t v hv;have hjl:j<args.length:=by rcases Nat.lt_or_ge j args.length with h|h;exact h;simp[yS h] at hv'
  have:t=j:=oJ;subst this;rw[zA hjl] at hv';simp[Array.getElem?_append,hjl];exact yO hv'
 have hs:=qf (r:=none) (m:=0) (n:=fn.ntmps) (jm c an).1 _ _ _ w (bodyPost P fn fun e w'=>∃x:iY ts,e=.returned (fT ts x)/\K x w') hfit h hrel ?_;rw[rU] at hs;exact hs;intro x e' a' w' hx hr' _;have fin:∀(hres:lf (my P) P fn.results.toList e' w' (fun vs=>match kO ts (oneOf vs) with|some x=>K x w'|none=>False)),
   a'.defers=[]/\∃v,(results fn a'.tmps).run P w'=.ok v w'/\∃x:iY ts,Ending.returned v=.returned (fT ts x)/\K x w':=by
  intro hres;obtain⟨vs,h1,h2,h3⟩:=zw (R:=fun _=>True) fn.results.toList e' a' w' _ hres hr';split at h3;rename_i y hy;refine⟨hr'.defers,oneOf vs,?_,y,?_,h3⟩;rw[qox];have hmm:(fn.results.mapM (kS a'.tmps)).run P w'=.ok vs.toArray w':=by rw[Array.mapM_eq_mapM_toList];simp[h1]
  simp only[Sem.run_bind,hmm,Result.andThen_ok];match vs with
  | []=>simp[oneOf]
  | [v]=>simp[oneOf]
  | v::u::vs=>simp[oneOf]
  rw[qoL hy];intro h0;subst h0;simp at hts;have:vs=[]:=by have:vs.length=0:=(by rw[h2];simp[hts]);exact eq_nil_of_length_eq_zero this
  subst this;rfl;exact h3.elim
 cases x with
 | normal=>exact fin hx
 | ret=>exact fin hx
 | exit id=>exact hx.elim
 exact h.elim
def eA{w:World}{K:iY ts->WP}{F:Prop}(hf:P.funcs[f]?=some fn)(hF:F)(hfit:(match fn.body with|some c=>(jm c an).1.fits P fn.ntmps&&Nat.ble args.length fn.ntmps&&(!ts.isEmpty||fn.results.isEmpty)|none=>false)=true:=by kernel_rfl)(e:vV (my P) P fn an ts args K w=F:=by kernel_rfl):call P f args ts w K:=qqV hf hfit (e.mpr hF)
def Fm{w:World}{K:iY ts->WP}{F:Prop}(hf:P.funcs[f]?=some fn)(hF:F)(hfit:(match fn.body with|some c=>(jm c an).1.fits P fn.ntmps&&(jm c an).1.nT&&Nat.ble args.length fn.ntmps&&(!ts.isEmpty||fn.results.isEmpty)|none=>false)=true:=by kernel_rfl)(e:tL (my P) P fn an ts args K w=F:=by kernel_rfl):call P f args ts w K:=qoX hf hfit (e.mpr hF)
end
section
def ui{S:Type}{X:(S->WP)->Prop}{Y:S->WP}(s:S)(w:World)(hX:∀M:S->WP,M s w->X M)(hY:Y s w):join S X Y:=
 ⟨fun s' w'=>s'=s/\w'=w,hX _ ⟨rfl,rfl⟩,by rintro _ _ ⟨rfl,rfl⟩;exact hY⟩
def gW{S:Type}{X:(S->WP)->Prop}{Y:S->WP}(Mid:S->WP)(hX:X Mid)(hY:∀s w,Mid s w->Y s w):join S X Y:=⟨Mid,hX,hY⟩
@[simp] theorem qBe{S:Type}{s:S}{w:World}{Y:S->WP}:join S (fun X=>X s w) Y↔Y s w:=
 ⟨fun⟨_,h1,h2⟩=>h2 _ _ h1,fun h=>ui s w (fun _ h=>h) h⟩
def iU{S:Type}{B:(S->WP)->S->WP}{s:S}{w:World}(I:S->WP)(m:S->World->Nat)(h0:I s w)(step:∀s w,I s w->∀X:S->WP,(∀s' w',I s' w'->m s' w'<m s w->X s' w')->B X s w):loop S B s w:=by
 intro J hJ;have key:∀k s w,m s w=k->I s w->J s w:=by
  intro k;induction k using Nat.strongRecOn with
  | _ k ih=>
   intro s w hk hI;exact hJ s w (step s w hI J fun s' w' hI' hlt=>ih (m s' w') (hk▸hlt) s' w' rfl hI')
 exact key _ s w rfl h0
def dW{b:Bool}{A B:Prop}(h1:b=true->A)(h2:b=false->B):cond b A B:=by
 cases b with
 | true=>exact h1 rfl
 | false=>exact h2 rfl
def cD{p:Prop}[Decidable p]{X Y:Prop}(h:p->X)(g:¬p->Y):cond (decide p) X Y:=dW (fun e=>h (zC e)) (fun e=>g (zB e))
def mP{p K:Prop}(h:p)(k:K):gF p K:=⟨h,k⟩
def fv{a:Addr}{K:Addr->Prop}(h:K a):nn (some a) K:=h
def pr{c:Cell}{a:Addr}{w:World}{K:c.El->Prop}(x:c.El)(h:w.cell? a=some (c.mk x))(k:K x):ld c a w K:=⟨x,h,k⟩
def DD{o:Obj}{w:World}{K:Nat->WP}(k:K w.heap.size (w.alloc o)):new o w K:=k
structure m7 (w w':World):Prop where
 heap:w'.heap=w.heap
 os:w'.os=w.os
 tape:w'.tape=w.tape
 output:w'.output=w.output
def m7.refl(w:World):m7 w w:=⟨rfl,rfl,rfl,rfl⟩
def m7.drew{w w':World}(h:m7 w w'):m7 w w'.drew:=⟨h.heap,h.os,h.tape,h.output⟩
structure Fr (S:List Nat) (w w':World):Prop where
 os:w'.os=w.os
 tape:w'.tape=w.tape
 output:w'.output=w.output
 size:w.heap.size<=w'.heap.size
 block:∀ i,i<w.heap.size->i∉S->w'.heap[i]?=w.heap[i]?
def Fr.refl(S:List Nat)(w:World):Fr S w w:=⟨rfl,rfl,rfl,zM _,fun _ _ _=>rfl⟩
def Fr.of_same{w:World}(h:m7 w w'):Fr S w w':=⟨h.os,h.tape,h.output,by rw[h.heap];exact zM _,fun _ _ _=>by rw[h.heap]⟩
def Fr.trans{S:List Nat}{a b c:World}(h:Fr S a b)(k:Fr S b c):Fr S a c:=
 ⟨k.os.trans h.os,k.tape.trans h.tape,k.output.trans h.output,zL h.size k.size,fun i hi hs=>(k.block i (yD hi h.size) hs).trans (h.block i hi hs)⟩
def Fr.mono{T:List Nat}{a b:World}(h:Fr S a b)(hs:∀i,i∈S->i<a.heap.size->i∈T):Fr T a b:=
 ⟨h.os,h.tape,h.output,h.size,fun i hi ht=>h.block i hi fun hS=>ht (hs i hS hi)⟩
def Fr.j8{T:List Nat}{a b c:World}(h:Fr S a b)(k:Fr T b c)(ht:∀i,i∈T->i∈S\/a.heap.size<=i):Fr S a c:=
 ⟨k.os.trans h.os,k.tape.trans h.tape,k.output.trans h.output,zL h.size k.size,fun i hi hs=>(k.block i (yD hi h.size) fun hT=>by rcases ht i hT with h'|h';exact hs h';omega).trans (h.block i hi hs)⟩
def Fr.drew{S:List Nat}{a b:World}(h:Fr S a b):Fr S a b.drew:=⟨h.os,h.tape,h.output,h.size,h.block⟩
def Fr.alloc{S:List Nat}{a b:World}(h:Fr S a b)(o:Obj):Fr S a (b.alloc o):=
 ⟨h.os,h.tape,h.output,by have:=h.size;simp;omega,fun i hi hs=>by rw[<- h.block i hi hs];show (b.heap.push o)[i]?=_;rw[Array.getElem?_push,if_neg (by have:=h.size;omega)]⟩
def wH(w:World)(o:Obj)(i:Nat):(w.alloc o).heap[i]?=if i=w.heap.size then some o else w.heap[i]?:=by show (w.heap.push o)[i]?=_;rw[Array.getElem?_push]
def gR (w:World) (b:Nat) (o:Obj):World:={ w with heap:=w.heap.setIfInBounds b o }
def tE(w:World)(b:Nat)(o:Obj):(gR w b o).heap.size=w.heap.size:=by simp[gR]
def om(w:World)(b:Nat)(o:Obj)(i:Nat)(h:b<w.heap.size):(gR w b o).heap[i]?=if i=b then some o else w.heap[i]?:=by show (w.heap.setIfInBounds b o)[i]?=_;rw[Array.getElem?_setIfInBounds];by_cases hi:b=i;subst hi;simp[h];rw[if_neg hi,if_neg (fun e=>hi e.symm)]
def eZ{w:World}{b:Nat}{o:Obj}(h:w.heap[b]?=some o):b<w.heap.size:=by rcases Nat.lt_or_ge b w.heap.size with hl|hl;exact hl;rw[Array.getElem?_eq_none hl] at h;cases h
def ji{w:World}{b off:Nat}(h:w.heap[b]?=some (.cells cs T fr)):w.cell? (dg b off)=cs[off]?:=by simp[World.cell?,h]
def qmu{w:World}{b off:Nat}(h:w.heap[b]?=some (.cells cs T fr))(v:Value): w.setCell (dg b off) v=gR w b (.cells (cs.setIfInBounds off v) T fr):=by have hb:=eZ h;unfold World.setCell gR;congr 1;apply Array.ext_getElem?;intro i;rw[Array.getElem?_modify,Array.getElem?_setIfInBounds];by_cases hi:b=i;subst hi;rw[if_pos rfl,if_pos rfl,if_pos hb,h];rfl;simp[hi]
def qux(w:World)(b:Nat)(o o':Obj):gR (gR w b o) b o'=gR w b o':=by unfold gR;congr 1;apply Array.ext_getElem?;intro i;simp only[Array.getElem?_setIfInBounds,Array.size_setIfInBounds];by_cases hi:b=i<;>simp[hi]
def Addr.q9(b o n:Nat):Addr.add (dg b o) n=⟨b,o+n,none⟩:=Go.Addr.add_lit b o n
def zv{w:World}{b:Nat}{T:TypeId}:∀(vs:List Value) (off k:Nat) (cs:Array Value) (w:World) (K:WP),w.heap[b]?=some (.cells cs T (0,0))->(vs.all Value.oneCell')=true->off+k+vs.length<=cs.size-> K (gR w b (.cells (dR cs (off+k) vs) T (0,0)))->DE (dg b off) k vs w K
 | [],off,k,cs,w,K,hb,_,_,hk=>by
  have:gR w b (.cells (dR cs (off+k) []) T (0,0))=w:=by
   unfold gR dR;have:w.heap.setIfInBounds b (.cells cs T (0,0))=w.heap:=by apply Array.ext_getElem?;intro i;rw[Array.getElem?_setIfInBounds];by_cases hi:b=i;subst hi;rw[if_pos rfl,if_pos (eZ hb),hb];simp[hi]
   rw[this]
  rw[this] at hk;exact hk
 | v::vs,off,k,cs,w,K,hb,h1,hl,hk=>by
  simp only[all_cons,yB] at h1;simp only[yI] at hl;have hlt:off+k<cs.size:=oJ;refine⟨⟨h1.1,⟨cs[off+k],?_⟩,?_⟩,?_⟩;rw[Addr.q9,ji hb];simp[hlt];rw[Addr.q9];simp[World.frozen?,hb];rw[Addr.q9,qmu hb];have hb':(gR w b (.cells (cs.setIfInBounds (off+k) v) T (0,0))).heap[b]?=some (.cells (cs.setIfInBounds (off+k) v) T (0,0)):=by rw[om _ _ _ _ (eZ hb),if_pos rfl]
  refine zv (w:=w) vs off (k+1) _ _ K hb' h1.2 oO ?_;rw[qux];exact hk
def vH{w:World}{b:Nat}{T:TypeId}{fr:Nat×Nat}{cs:Array Value}(hb:w.heap[b]?=some (.cells cs T fr)):∀(vs:List Value) (off k:Nat),(cs.toList.drop (off+k)).take vs.length=vs->jd w (dg b off) k vs
 | [],_,_,_=>trivial
 | [v],off,k,h=>by
  show w.cell? _=_;rw[Addr.q9,ji hb];have:(cs.toList.drop (off+k))[0]?=some v:=by
   have:=congrArg (·[0]?) h
   simpa using this
  simpa using this
 | v::u::vs,off,k,h=>by
  have hv:(cs.toList.drop (off+k))[0]?=some v:=by
   have:=congrArg (·[0]?) h
   simpa using this
  refine⟨?_,vH hb (u::vs) off (k+1) ?_⟩;rw[Addr.q9,ji hb];simpa using hv
  have:=congrArg (List.drop 1) h
  simp only[drop_succ_cons,xF,yI] at this;rw[drop_take,xD] at this;exact this
structure dQ (S:List Nat) (w0 w:World) (L:List (Nat×Obj)):Prop where
 eH:∀ p∈L,w.heap[p.1]?=some p.2
 nodup:(L.map (·.1)).Nodup
 fr:Fr S w0 w
 own:∀ p∈L,p.1∈S\/w0.heap.size<=p.1
variable {S:List Nat} {w0 w:World} {L:List (Nat×Obj)}
def dQ.start(S:List Nat)(w:World):dQ S w w []:=⟨oL,oL,.refl _ _,oL⟩
def dQ.at(h:dQ S w0 w L){i:Nat}{p:Nat×Obj}(hi:L[i]?=some p):w.heap[p.1]?=some p.2:=h.eH p (yF hi)
def dQ.drew(h:dQ S w0 w L):dQ S w0 w.drew L:=⟨h.eH,h.nodup,h.fr.drew,h.own⟩
def dQ.q8{T:List Nat}(h:dQ S w0 w L)(k:Fr T w w')(ht:∀i∈T,i∈S\/w0.heap.size<=i)(hd:∀p∈L,p.1∉T):dQ S w0 w' L:=
 ⟨fun p hp=>by rw[k.block p.1 (eZ (h.eH p hp)) (hd p hp)];exact h.eH p hp,h.nodup,h.fr.j8 k ht,h.own⟩
def dQ.q7(h:dQ S w0 w L)(k:Fr [] w w'):dQ S w0 w' L:=h.q8 k oL oL
def dQ.alloc(h:dQ S w0 w L)(o:Obj):dQ S w0 (w.alloc o) ((w.heap.size,o)::L):=by
 refine⟨fun p hp=>?_,?_,h.fr.alloc o,fun p hp=>?_⟩;rcases zG.1 hp with rfl|hp;rw[wH,if_pos rfl]
 have:=eZ (h.eH p hp)
 rw[wH,iN];exact h.eH p hp;simp only[xO];refine nodup_cons.2 ⟨fun hm=>?_,h.nodup⟩;obtain⟨p,hp,he⟩:=mem_map.1 hm
 have:=eZ (h.eH p hp)
 omega;rcases zG.1 hp with rfl|hp;exact .inr h.fr.size;exact h.own p hp
def dQ.new{o:Obj}{K:Nat->WP}(h:dQ S w0 w L)(k:∀b w',b=w.heap.size->w'.heap.size=w.heap.size+1->dQ S w0 w' ((b,o)::L)->K b w'):Pt.new o w K:=
 k _ _ rfl oL (h.alloc o)
def dQ.ld{c:Cell}{b off:Nat}{cs:Array Value}{T:TypeId}{fr:Nat×Nat}{K:c.El->Prop}(h:dQ S w0 w L)(i:Nat)(hi:L[i]?=some (b,.cells cs T fr))(x:c.El)(hx:cs[off]?=some (c.mk x))(k:K x):Pt.ld c (dg b off) w K:=
 ⟨x,by rw[ji (h.at hi)];exact hx,k⟩
def dQ.dK{cl:List Cell}{b off:Nat}{cs:Array Value}{T:TypeId}{fr:Nat×Nat}{K:HL cl->Prop}(h:dQ S w0 w L)(i:Nat)(hi:L[i]?=some (b,.cells cs T fr))(x:HL cl)(hx:(cs.toList.drop off).take cl.length=HL.mk cl x)(k:K x):Pt.dK cl (dg b off) w K:=
 ⟨x,vH (h.at hi) _ off 0 (by rw[HL.j3];exact hx),k⟩
def dQ.gR{b:Nat}{o o':Obj}(h:dQ S w0 w L)(i:Nat)(hi:L[i]?=some (b,o)):dQ S w0 (Pt.gR w b o') (L.set i (b,o')):=by
 have hb:=h.at hi;have hlt:=eZ hb;have hil:i<L.length:=by rcases Nat.lt_or_ge i L.length with hl|hl;exact hl;rw[yS hl] at hi;cases hi
 have hmap:(L.set i (b,o')).map (·.1)=L.map (·.1):=(by rw[map_set];apply ext_getElem?;intro j;rw[List.getElem?_set];by_cases hj:i=j;subst hj;rw[if_pos rfl,zQ,hi];simp[hil];simp[hj]);refine⟨fun p hp=>?_,by rw[hmap];exact h.nodup,?_,fun p hp=>?_⟩;obtain⟨j,hj,hpj⟩:=getElem_of_mem hp;have hpj':(L.set i (b,o'))[j]?=some p:=(by rw[zA hj,hpj]);rw[List.getElem?_set] at hpj';by_cases hij:i=j;subst hij;simp[hil] at hpj';subst hpj';rw[om _ _ _ _ hlt,if_pos rfl];rw[if_neg hij] at hpj';have hne:p.1≠b:=by
  intro he;have h1:(L.map (·.1))[j]?=some b:=(by simp[hpj',he]);have h2:(L.map (·.1))[i]?=some b:=(by simp[hi]);have hj':j<(L.map (·.1)).length:=by rcases Nat.lt_or_ge j (L.map (·.1)).length with hl|hl;exact hl;rw[yS hl] at h1;cases h1
  have hi':i<(L.map (·.1)).length:=(oP hil);rw[zA hj'] at h1;rw[zA hi'] at h2;have hne:=pairwise_iff_getElem.1 h.nodup;rcases Nat.lt_or_gt_of_ne hij with hl|hl;exact hne i j hi' hj' hl ((yO h2).trans (yO h1).symm);exact hne j i hj' hi' hl ((yO h1).trans (yO h2).symm)
 rw[om _ _ _ _ hlt,if_neg hne];exact h.eH p (yF hpj');have hbo:=h.own (b,o) (yF hi);refine⟨h.fr.os,h.fr.tape,h.fr.output,by rw[tE];exact h.fr.size,fun j hj hS=>?_⟩;rw[om _ _ _ _ hlt,if_neg (fun e=>by subst e;rcases hbo with h1|h1;exact hS h1;omega)];exact h.fr.block j hj hS;rcases mem_or_eq_of_mem_set hp with hp|rfl;exact h.own p hp;exact h.own (b,o) (yF hi)
def dQ.st{b off:Nat}{cs:Array Value}{T:TypeId}{vs:List Value}{K:WP}(h:dQ S w0 w L)(i:Nat)(hi:L[i]?=some (b,.cells cs T (0,0)))(cs':Array Value)(hcs:dR cs off vs=cs')(h1:(vs.all Value.oneCell')=true)(hl:Nat.ble (off+vs.length) cs.size=true)(k:∀w',dQ S w0 w' (L.set i (b,.cells cs' T (0,0)))->w'.heap.size=w.heap.size->K w'):Pt.st (dg b off) vs w K:=
 zv (w:=w) vs off 0 cs w K (h.at hi) h1 (zO hl) (k _ (by rw[Nat.add_zero,hcs];exact h.gR i hi) (tE _ _ _))
def dQ.pC{b:Nat}{o:Obj}(h:dQ S w0 w L)(hb:w0.heap[b]?=some o)(hS:b∉S):w.heap[b]?=some o:=by rw[h.fr.block b (eZ hb) hS];exact hb
def iA{c:Cell}{b off:Nat}{K:c.El->Prop}(hb:w.heap[b]?=some (.cells cs T fr))(x:c.El)(hx:cs[off]?=some (c.mk x))(k:K x):Pt.ld c (dg b off) w K:=
 ⟨x,by rw[ji hb];exact hx,k⟩
def dQ.sub{L':List (Nat×Obj)}(h:dQ S w0 w L)(hs:L'.Sublist L):dQ S w0 w L':=
 ⟨fun p hp=>h.eH p (hs.subset hp),(hs.map _).nodup h.nodup,h.fr,fun p hp=>h.own p (hs.subset hp)⟩
def qj{s:Sl}{i:Int}{size:Nat}{K:Addr->Prop}{b o:Nat}(hs:s.a=some (dg b o))(hi:0<=i/\i<(s.len:Int))(k:K ⟨b,o+i.toNat*size,none⟩):idx s i size K:=
 ⟨_,hs,hi,by rw[Addr.q9];exact k⟩
end
end
section
open Go
variable {K:Prop} {cs:Array Value} {w:World}
def Al{S:Type}{B:(S->WP)->S->WP}{s:S}(h:∀X:S->WP,(∀s w,loop S B s w->X s w)->B X s w):loop S B s w:=by intro J hJ;exact hJ s w (h J fun s' w' hl=>hl J hJ)
def qqi{S:Type}{B:(S->WP)->S->WP}{s:S}(s':S)(hs:s=s')(h:∀X:S->WP,(∀s w,loop S B s w->X s w)->B X s' w):loop S B s w:=by subst hs;exact Al h
def cond_true{b:Bool}{A B:Prop}(h:b=true)(k:A):cond b A B:=by rw[h];exact k
def cond_false{b:Bool}{A B:Prop}(h:b=false)(k:B):cond b A B:=by rw[h];exact k
def uj{b o len cap:Nat}{i:Int}{size:Nat}{K:Addr->Prop}(h0:0<=i)(h1:i<(len:Int))(k:K ⟨b,o+i.toNat*size,none⟩):idx ⟨some (dg b o),len,cap⟩ i size K:=
 qj rfl ⟨h0,h1⟩ k
def sQ{α β:Type}{a a':α}{b b':β}(h:a=a')(k:b=b'):(a,b)=(a',b'):=by rw[h,k]
def ig{H:WP}(h:H w)(k:K):held [H] w K:=⟨h,k⟩
def ko{H H':WP}(h:H w)(h':H' w)(k:K):held [H,H'] w K:=⟨⟨h,h'⟩,k⟩
def mK{H H' H'':WP}(h:H w)(h':H' w)(h'':H'' w)(k:K):held [H,H',H''] w K:=⟨⟨h,h',h''⟩,k⟩
section
variable {S:List Nat} {w0 w:World} {L:List (Nat×Obj)}
def dQ.cell{b off:Nat}{cs:Array Value}{T:TypeId}{fr:Nat×Nat}{v:Value}(h:dQ S w0 w L)(i:Nat)(hi:L[i]?=some (b,.cells cs T fr))(hx:cs[off]?=some v):w.cell? (dg b off)=some v:=by rw[ji (h.at hi)];exact hx
def dQ.cells{b off:Nat}{cs:Array Value}{T:TypeId}{fr:Nat×Nat}{vs:List Value}(h:dQ S w0 w L)(i:Nat)(hi:L[i]?=some (b,.cells cs T fr))(hx:(cs.toList.drop off).take vs.length=vs):jd w (dg b off) 0 vs:=
 vH (h.at hi) _ off 0 hx
end
def zi (P:Program) (t:TypeId) (cs:Array Value) (off:Nat):Option Value:=
 bif mS P t then bif eX P t then some (.agg (cs.extract off (off+eK P t))) else cs[off]? else none
def Dq{P:Program}{t:TypeId}{off:Nat}{v:Value}(h:zi P t cs off=some v)(w:World):(part t cs off).run P w=.ok v w:=by
 unfold zi at h;cases ho:mS P t with
 | false=>rw[ho] at h;cases h
 | true=>
  rw[ho] at h;rw[AY (by simp[ho])];cases ha:eX P t with
  | true=>rw[ha] at h;simp at h;simp[h]
  | false=>rw[ha] at h;simp at h;simp[h]
def pT (P:Program) (f:TypeId->Value->Value->Option Bool) (xs ys:Array Value):List Field->Option Bool
 | []=>some true
 | x::fs=>
  if x.name≠ "_" then
   match zi P x.type xs x.offset,zi P x.type ys x.offset with
   | some a,some b=>match f x.type a b,pT P f xs ys fs with
    | some r,some q=>some (bif r then q else false)
    | _,_=>none
   | _,_=>none
  else pT P f xs ys fs
def qL (P:Program) (f:TypeId->Value->Value->Option Bool) (e:TypeId) (n:Nat) (xs ys:Array Value):List Nat->Option Bool
 | []=>some true
 | i::is=>
  match zi P e xs (i*n),zi P e ys (i*n) with
  | some a,some b=>match f e a b,qL P f e n xs ys is with
   | some r,some q=>some (bif r then q else false)
   | _,_=>none
  | _,_=>none
def sV (P:Program):Nat->TypeId->Value->Value->Option Bool
 | 0,_,_,_=>none
 | d+1,t,x,y=>
  match P.underlying t,x,y with
  | some .bool,.bool a,.bool b=>some (a==b)
  | some (.int _),.int k a,.int k' b=>bif k==k' then some (a==b) else none
  | some .string,.string a,.string b=>some (a.toList==b.toList)
  | some (.struct _),.agg xs,.agg ys=>bif P.stoodInHeld t then none else pT P (sV P d) xs ys (P.fieldsOf t).toList
  | some (.array n e),.agg xs,.agg ys=>bif mS P e then qL P (sV P d) e (P.cellsOf e) xs ys (List.range n) else none
  | _,_,_=>none
def GQ{P:Program}{d:Nat}{f:TypeId->Value->Value->Option Bool}(hf:∀t x y r,f t x y=some r->∀w,(Op.equalIn d t x y).run P w=.ok r w){xs ys:Array Value}: ∀ {fs:List Field} {r:Bool},pT P f xs ys fs=some r->∀w,(Op.eqFields d xs ys fs).run P w=.ok r w
 | [],r,h,w=>by simp[pT] at h;subst h;rfl
 | x::fs,r,h,w=>by
  simp only[pT] at h;simp only[Op.eqFields];split at h;rename_i hn;rw[if_pos hn];split at h;rename_i a b ha hb;split at h;rename_i r1 q h1 h2;cases h;simp only[Sem.run_bind,Dq ha,Dq hb,Result.andThen_ok,hf _ _ _ _ h1];cases r1 with
  | false=>simp
  | true=>simpa using GQ hf h2 w
  cases h;cases h;rename_i hn;rw[if_neg hn];exact GQ hf h w
def qrS{P:Program}{d:Nat}{f:TypeId->Value->Value->Option Bool}(hf:∀t x y r,f t x y=some r->∀w,(Op.equalIn d t x y).run P w=.ok r w){e n:Nat}{xs ys:Array Value}: ∀ {is:List Nat} {r:Bool},qL P f e n xs ys is=some r->∀w,(Op.eqItems d e n xs ys is).run P w=.ok r w
 | [],r,h,w=>by simp[qL] at h;subst h;rfl
 | i::is,r,h,w=>by
  simp only[qL] at h;simp only[Op.eqItems];split at h;rename_i a b ha hb;split at h;rename_i r1 q h1 h2;cases h;simp only[Sem.run_bind,Dq ha,Dq hb,Result.andThen_ok,hf _ _ _ _ h1];cases r1 with
  | false=>simp
  | true=>simpa using qrS hf h2 w
  cases h;cases h
def DA{P:Program}:∀(d:Nat) (t:TypeId) (x y:Value) (r:Bool),sV P d t x y=some r->∀k w,(Op.equalIn (d+k) t x y).run P w=.ok r w
 | 0,_,_,_,_,h,_,_=>by cases h
 | d+1,t,x,y,r,h,k,w=>by
  rw[show d+1+k=(d+k)+1 by omega];simp only[sV] at h;split at h;rename_i hu;cases h;exact run_equalIn_bool' w _ _ _ _ hu;rename_i q k1 a k2 b hu;cases hkk:k1==k2 with
  | false=>rw[hkk] at h;cases h
  | true=>
   rw[hkk] at h;cases h
   have:=eq_of_beq hkk
   subst this;exact run_equalIn_int w _ _ _ _ _ _ hu
  rename_i hu;cases h;exact run_equalIn_string w _ _ _ _ hu;rename_i hu;cases hs:P.stoodInHeld t with
  | true=>rw[hs] at h;cases h
  | false=>
   rw[hs] at h;rw[run_equalIn_struct w (d+k) t _ _ (by rw[hu];unfold Program.fieldsOf;rw[hu]) hs];exact GQ (fun t x y r h w=>DA d t x y r h k w) h w
  rename_i n e xs ys hu;cases ho:mS P e with
  | false=>rw[ho] at h;cases h
  | true=>
   rw[ho] at h;obtain⟨i,hi⟩:=Option.isSome_iff_exists.1 (tc (P:=P) (t:=e) (by simp[ho])).1;rw[run_equalIn_array w (d+k) xs ys hu hi];exact qrS (fun t x y r h w=>DA d t x y r h k w) h w
  cases h
def FJ{P:Program}{t:TypeId}{x y:Operand}{ds:Array Value}{K:Bool->Prop}(d:Nat)(hd:d<=10000)(r:Bool)(h:sV P d t (.agg cs) (.agg ds)=some r)(hg:P.eqGuardType P.depth t=false)(k:K r): eW [gN.one Cell.bool] (fun w'=>(do eqGuard .eql t x y (.agg cs) (.agg ds);binOp .eql t (.agg cs) (.agg ds):Sem Value).run P w') w K:=by have hr:=DA d t _ _ r h (10000-d) w;rw[show d+(10000-d)=10000 by omega] at hr;have hb:(binOp .eql t (.agg cs) (.agg ds)).run P w=.ok (.bool r) w:=sZ (P:=P) false hr oL oL oL oL;refine⟨r,?_,k⟩;show ((do eqGuard .eql t x y (.agg cs) (.agg ds);binOp .eql t (.agg cs) (.agg ds):Sem Value).run P w)=Result.ok (Value.bool r) w;simp[eqGuard,hg,hb]
end
section
open Go Go.RowKit Go.ChangeShapes List
variable {P:Program} {base:Nat} {r:Reach} {w:World}
def qR (P:Program) (u:TypeId):Cell:=
 match P.underlying u with
 | some (.int k)=>.int k
 | some .bool=>.bool
 | some .string=>.str
 | some (.pointer _)=>.ptr
 | some (.slice _)=>.slice
 | some (.map _ _)=>.map
 | _=>.any
@[reducible] def tt:(c:Cell)->c.El->Prop
 | .int k,n=>k.has n
 | .str,s=>(s.size:Int)<=IntKind.i64.max
 | .slice,s=>s.len<=s.cap/\(s.cap:Int)<=IntKind.i64.max/\(s.a=none->s.cap=0)
 | _,_=>True
def Ee{u:TypeId}{v:Value}{c:Cell}(hc:qR P u=c)(h:Cell.okWide P w r base u v):∃x:c.El,v=c.mk x/\tt c x:=by
 unfold qR at hc;split at hc<;>subst hc;rename_i k hu;simp only[Cell.okWide,hu] at h;cases v<;>simp only[Cell.ok,hu] at h;rename_i q n;obtain⟨rfl,h⟩:=h;exact⟨n,rfl,h⟩;rename_i hu;simp only[Cell.okWide,hu] at h;cases v<;>simp only[Cell.ok,hu] at h;rename_i b;exact⟨b,rfl,trivial⟩;rename_i hu;simp only[Cell.okWide,hu] at h;cases v<;>simp only[Cell.ok,hu] at h;rename_i s;exact⟨s,rfl,h⟩;rename_i e hu;simp only[Cell.okWide,hu] at h;cases v<;>simp only[Cell.ok,hu] at h;rename_i p;exact⟨p,rfl,trivial⟩;rename_i e hu;simp only[Cell.okWide,hu] at h;cases v<;>simp only[Cell.ok,hu] at h;rename_i a l c;cases a with
 | none=>
  cases l with
  | succ l=>simp at h
  | zero=>cases c with
   | succ c=>simp at h
   | zero=>exact⟨dG,rfl,zM _,oM,fun _=>rfl⟩
 | some a=>exact⟨⟨some a,l,c⟩,rfl,h.1,h.2.1,fun e=>by cases e⟩
 rename_i k e hu;simp only[Cell.okWide,hu] at h;cases v<;>simp only[Cell.ok,hu] at h;rename_i m;exact⟨m,rfl,trivial⟩;exact⟨v,rfl,trivial⟩
def jE:(cs:List Cell)->HL cs->Prop
 | [],_=>True
 | [c],x=>tt c x
 | c::d::cs,x=>tt c x.1/\jE (d::cs) x.2
def qny{P:Program}{w:World}{r:Reach}{base:Nat}:∀ {ts:List TypeId} {vs:List Value} {cs:List Cell},ts.map (qR P)=cs->vs.length=ts.length->(∀(i:Nat) v,vs[i]?=some v->∃u,ts[i]?=some u/\Cell.okWide P w r base u v)->∃x:HL cs,vs=HL.mk cs x/\jE cs x
 | [],vs,cs,hc,hl,h=>by simp at hc hl;subst hc hl;exact⟨(),rfl,trivial⟩
 | [t],vs,cs,hc,hl,h=>by
  simp at hc hl;subst hc;match vs,hl with
  | [v],_=>
   obtain⟨u,hu,ho⟩:=h 0 v rfl;simp at hu;subst hu;obtain⟨x,hx,hf⟩:=Ee rfl ho;exact⟨x,by rw[hx];rfl,hf⟩
 | t::t'::ts,vs,cs,hc,hl,h=>by
  match vs,hl with
  | v::vs,hl=>
   simp only[xO] at hc;subst hc;obtain⟨u,hu,ho⟩:=h 0 v rfl;simp at hu;subst hu;obtain⟨x,hx,hf⟩:=Ee rfl ho;obtain⟨y,hy,hg⟩:=qny (P:=P) (w:=w) (r:=r) (base:=base) (ts:=t'::ts) (vs:=vs) rfl (oP hl) (fun i v hv=>by simpa using h (i+1) v (oP hv));exact⟨(x,y),by rw[hx,hy];rfl,hf,hg⟩
def qx5{t:TypeId}{v:Value}{cs:List Cell}(ht:eX P t=true)(hts:(P.cellTypes P.depth t).map (List.map (qR P))=some cs)(hn:P.cellsOf t=cs.length)(h:Value.okWide P w r base t v):∃x:HL cs,v=.agg (HL.mk cs x).toArray/\jE cs x:=by
 obtain⟨ts,hts,hc⟩:=yT.1 hts;replace hn:P.cellsOf t=ts.length:=(by rw[hn,<- hc];simp);have h':∃cs,v=.agg cs/\cs.size=P.cellsOf t/\Row.okWide P w r base t cs:=by
  unfold Value.okWide at h;unfold eX at ht;split at h;exact h;exact h
  ·exfalso;split at ht<;>simp_all
 obtain⟨vs,rfl,hsz,ts',hts',_,hall⟩:=h';rw[hts] at hts';cases hts';obtain⟨x,hx,hf⟩:=qny (vs:=vs.toList) hc (by simpa[hn] using hsz) (fun i v hv=>by
  have hv':vs[i]?=some v:=(oP hv);have hi:i<ts.length:=by rw[<- hn,<- hsz];rcases Nat.lt_or_ge i vs.size with hl|hl;exact hl;rw[Array.getElem?_eq_none hl] at hv';cases hv'
  have:=hall i v hv'
  rw[Nat.mod_eq_of_lt hi] at this;exact this)
 exact⟨x,by rw[<- hx],hf⟩
def qyF{t:TypeId}{v:Value}{c:Cell}(ht:eX P t=false)(hc:qR P t=c)(h:Value.okWide P w r base t v):∃x:c.El,v=c.mk x/\tt c x:=by
 refine Ee hc (w:=w) (r:=r) (base:=base) ?_;unfold Value.okWide at h;unfold eX at ht;split at h
 ·simp_all
 ·simp_all
 exact h
def Fr.below{w':World}(h:Fr [] w w'):Below w.heap.size w w':=⟨h.os,h.tape,h.output,h.size,fun i hi=>h.block i hi oL⟩
section
variable {H:Type} {enc:TypeId×Value->H} {P:Program}
def qjM(hl:laidOutB P=true){W W':World}(hb:Below W.heap.size W W'):∀ {ts:List TypeId} {vs:List Value} {ds:List (DataW H)} {ps:List MemPlace}, (ts.all fun t=>P.readableRec t&&decide (t<P.types.size))=true->DataW.TrodAll enc P W 0 (fun _=>true) true ts vs ds ps->(∀x∈ps,x.block<W.heap.size)-> DataW.TrodAll enc P W' 0 (fun b=>decide (b<W.heap.size)) true ts vs ds ps
 | [],vs,ds,ps,_,h,_=>by obtain⟨rfl,rfl,rfl⟩:=trodAll_nil h;exact trodAll_mk0
 | t::ts,vs,ds,ps,hr,h,hlt=>by
  simp only[all_cons,yB,decide_eq_true_eq] at hr;obtain⟨v,vs',d,ds',p,p',rfl,rfl,rfl,h1,h2⟩:=trodAll_cons h;exact trodAll_cons_mk (Below.trod hl hr.1.1 hr.1.2 h1 hb fun x hx=>hlt x (zH _ hx))
   (qjM hl hb (oP hr.2) h2 fun x hx=>hlt x (zI _ hx))
def qyy{fn:Func}{s:ChangeSpec}{W W':World}{args:Array Value}{ds gs:List (DataW H)}{before:List MemPlace}{tb:TypeId}(hv:s.vars=[])(hW:DataW.Whole enc P fn.params.toList s.vars false W args.toList ds gs before)(hs:(s.fn H ds).results=[.lit (.bool true)]/\(s.fn H ds).args=ds/\(s.fn H ds).vars=[])(hl:laidOutB P=true)(hr:(fn.params.toList.all fun t=>P.readableRec t&&decide (t<P.types.size))=true)(hres:fn.resultTypes = #[tb])(htb:P.underlying tb=some .bool)(hb:Below W.heap.size W W'):ChangeSpec.post enc P fn s false true false false W args (.bool true) W':=by have hW':=hW;obtain⟨p,q,hA,hV,hbe,_,_⟩:=hW;rw[hv] at hV;obtain⟨rfl,rfl⟩:=trodVars_none hV;obtain⟨h1,h2,h3⟩:=hs;rw[<- xH ds] at h1 h2 h3;refine⟨ds,[],before,[],p,[],hW',?_,?_,?_,hb.frame _,fun h=>by cases h⟩;rw[h1,hres];exact trodAll_cons_mk (shut_bool htb _) trodAll_mk0;rw[h2,xH];exact qjM hl hb hr hA fun x hx=>hW'.lt x (by rw[hbe];exact zH _ hx);rw[h3,hv];exact (rfl:DataW.TrodVars enc P W' (fun b=>decide (b<W.heap.size)) [] [] [])
end
end
section
open Go List
variable {B S:List Nat} {K:Sl->WP} {a:Addr} {cs:Array Value} {r:Result Value} {s:Sl} {t ty:TypeId} {ts:List gN} {w':World} {z:Value}
variable {P:Program} {w:World}
def wt{b:Nat}{T:TypeId}{fr:Nat×Nat}:∀ {vs:List Value} {off:Nat} {w:World} {cs:Array Value},w.heap[b]?=some (.cells cs T fr)->w.setCells b off vs=gR w b (.cells (dR cs off vs) T fr)
 | [],off,w,cs,h=>by
  show w=_;unfold gR dR;have:w.heap.setIfInBounds b (.cells cs T fr)=w.heap:=by apply Array.ext_getElem?;intro i;rw[Array.getElem?_setIfInBounds];by_cases hi:b=i;subst hi;rw[if_pos rfl,if_pos (eZ h),h];simp[hi]
  rw[this]
 | v::vs,off,w,cs,h=>by have h1:w.setCells b off (v::vs)=(w.setCell (dg b off) v).setCells b (off+1) vs:=rfl;rw[h1,qmu h];have h2:(gR w b (.cells (cs.setIfInBounds off v) T fr)).heap[b]?=some (.cells (cs.setIfInBounds off v) T fr):=(by rw[om _ _ _ _ (eZ h),if_pos rfl]);rw[wt h2,qux];rfl
def sK{s b:Nat}(h:(P.info? t).map (fun i=>(i.zero,i.size,i.bytes))=some (some z,s,b)):∃i,P.info? t=some i/\i.zero=some z/\i.size=s/\i.bytes=b:=by obtain⟨i,hi,he⟩:=yT.1 h;simp only[Prod.mk.injEq] at he;exact⟨i,hi,he.1,he.2.1,he.2.2⟩
def qm{r:World->Result Value}{K:iY ts->Prop}(x:iY ts)(h:r w=.ok (fT ts x) w)(k:K x):eW ts r w K:=⟨x,h,k⟩
def Fv{K:iY ts->WP}(x:iY ts)(w':World)(h:r=.ok (fT ts x) w')(k:K x w'):Pt.run ts r K:=⟨x,w',h,k⟩
def B0{r:Result Unit}{K:WP}(w':World)(h:r=.ok () w')(k:K w'):i9 r K:=⟨w',h,k⟩
def FF(a:Addr):a.add 0=a:=by
 cases a with
 | mk b o k=>cases k<;>simp[Addr.add]
def zj{hi:Int}{size:Nat}{K:Sl->Prop}(h:0<=hi/\hi<=s.cap)(k:K ⟨s.a,hi.toNat,s.cap⟩):fD s none (some hi) none size K:=by
 unfold fD;refine⟨⟨oL,by simpa using h.1,by simpa using h.2,oL⟩,?_⟩;have e:(s.a.map (·.add ((none:Option Int).getD 0).toNat))=s.a:=by
  cases s.a with
  | none=>rfl
  | some a=>simp[FF]
 simp only[xW,xV,Int.toNat_zero,Nat.zero_mul,Nat.sub_zero,zJ] at e⊢;rw[e,ite_self];exact k
def qAT{b o len cap:Nat}{lo:Int}{size:Nat}{K:Sl->Prop}(h:0<=lo/\lo<=len)(hc:len<=cap)(k:∀o',(lo<cap->o'=o+lo.toNat*size)->K ⟨some ⟨b,o',none⟩,len-lo.toNat,cap-lo.toNat⟩): fD ⟨some (dg b o),len,cap⟩ (some lo) none none size K:=by unfold fD;refine⟨⟨by simpa using h.1,by simpa using h.2,by simpa using hc,oL⟩,?_⟩;simp only[xW,xV,zJ];by_cases e:cap=lo.toNat;rw[if_pos e];exact k o (fun h=>oJ);rw[if_neg e];simp only[Option.map_some,Addr.q9];exact k _ (fun _=>rfl)
def t6(s:Sl)(w':World)(h:r=.ok (.slice s.a s.len s.cap) w')(k:K s w'):Pt.run dh r K:=⟨s,w',h,k⟩
def qtT{e:TypeId}{i:TypeInfo}{b off n cap m c:Nat}{T:TypeId}(ht:P.underlying t=some (.slice e))(hi:P.info? e=some i)(news:List Value)(hb:w.heap[b]?=some (.cells cs T (0,0)))(hl:news.length=m*i.size)(hnews:∀(j:Nat) u,news[j]?=some u->w.cell? (a.add j)=some u)(h1:∀u∈news,u.oneCell'=true)(hroom:n+m<=cap)(hsz:off+n*i.size+news.length<=cs.size)(k:K ⟨some (dg b off),n+m,cap⟩ (gR w b (.cells (dR cs (off+n*i.size) news) T (0,0)))): Pt.run dh ((Builtin.append_ #[t,t] ty #[.slice (some (dg b off)) n cap,.slice (some a) m c]).run P w) K:=by refine t6 ⟨_,_,_⟩ _ (run_append_room_cells w t ty e i ht hi b off n cap a m c news hl hnews h1 hroom (fun j hj=>?_) (fun j hj=>?_)) ?_;rw[ji hb];have:off+n*i.size+j<cs.size:=oJ;simp[this];simp[World.frozen?,hb];rw[wt hb];exact k
def qrB{e:TypeId}{i:TypeInfo}{b:Addr}{n cap m c:Nat}(ht:P.underlying t=some (.slice e))(hi:P.info? e=some i)(hz:i.zero=some z)(olds news:List Value)(hlo:olds.length=n*i.size)(holds:∀(j:Nat) u,olds[j]?=some u->w.cell? (b.add j)=some u)(hl:news.length=m*i.size)(hnews:∀(j:Nat) u,news[j]?=some u->w.cell? (a.add j)=some u)(hg:cap<n+m)(hbytes:(n+m)*i.bytes<=140737488355328)(h63:n+m<=9223372036854775807)(k:∀q,n+m<=q->q<=maxLen->K ⟨some ⟨w.heap.size,0,none⟩,n+m,q⟩ (w.drew.alloc (.cells (olds.toArray++news.toArray++Builtin.zeroCells z.cells (q-(n+m))) e))): Pt.run dh ((Builtin.append_ #[t,t] ty #[.slice (some b) n cap,.slice (some a) m c]).run P w) K:=by exact t6 ⟨_,_,_⟩ _ (run_append_grow w t ty e i z ht hi hz b n cap olds hlo holds a m c news hl hnews hg oJ (growslice_fits hg hbytes))<|k _ (grownCap_ge w (n+m) cap e) (grownCap_le_maxLen w (n+m) cap e (by unfold maxLen;omega))
def qzx{e:TypeId}{i:TypeInfo}{m c:Nat}(ht:P.underlying t=some (.slice e))(hi:P.info? e=some i)(hz:i.zero=some z)(news:List Value)(hl:news.length=m*i.size)(hnews:∀(j:Nat) u,news[j]?=some u->w.cell? (a.add j)=some u)(hm:0<m)(hbytes:m*i.bytes<=140737488355328)(h63:m<=9223372036854775807)(k:∀q,m<=q->q<=maxLen->K ⟨some ⟨w.heap.size,0,none⟩,m,q⟩ (w.drew.alloc (.cells (news.toArray++Builtin.zeroCells z.cells (q-m)) e))): Pt.run dh ((Builtin.append_ #[t,t] ty #[.slice none 0 0,.slice (some a) m c]).run P w) K:=by exact t6 ⟨_,_,_⟩ _ (run_append_nil w t ty e i z ht hi hz a m c news hl hnews hm oJ oJ)<|k _ (grownCap_ge w m 0 e) (grownCap_le_maxLen w m 0 e (by unfold maxLen;omega))
section
section
variable {α:Type} {enc:α->List Value} {k:Nat}
def dZ (enc:α->List Value) (k:Nat) (S:List Nat) (w:World) (s:Sl) (l:List α):Prop:=
 s.len=l.length/\s.len<=s.cap/\(l=[]\/∃b o cs T fr,s.a=some (dg b o)/\w.heap[b]?=some (.cells cs T fr)/\b∉S/\∀(i:Nat) x,l[i]?=some x->(cs.toList.drop (o+i*k)).take k=enc x)
def dZ.q8{S':List Nat}{w:World}{l:List α}(h:dZ enc k S w s l)(f:Fr S w w')(hS:∀b∈S',b∈S\/w.heap.size<=b):dZ enc k S' w' s l:=by
 obtain⟨h1,h2,h3⟩:=h;refine⟨h1,h2,?_⟩;rcases h3 with h3|⟨b,o,cs,T,fr,ha,hb,hn,hc⟩;exact .inl h3;refine .inr ⟨b,o,cs,T,fr,ha,by rw[f.block b (eZ hb) hn];exact hb,fun hs=>?_,hc⟩
 have:=eZ hb
 rcases hS b hs with h'|h';exact hn h';omega
def dZ.q7{w:World}{l:List α}(h:dZ enc k S w s l)(f:Fr [] w w'):dZ enc k S w' s l:=
 h.q8 (f.mono (fun i hi _=>by cases hi)) (fun b hb=>.inl hb)
def dZ.drew{S:List Nat}{w:World}{s:Sl}{l:List α}(h:dZ enc k S w s l):dZ enc k S w.drew s l:=h
def dZ.same{w:World}{l:List α}(h:dZ enc k S w s l)(f:m7 w w'):dZ enc k S w' s l:=h.q8 (.of_same f) (fun b hb=>.inl hb)
def dZ.j6{S':List Nat}{w:World}{l:List α}(h:dZ enc k S w s l)(hS:∀b∈S',b∈S\/w.heap.size<=b):dZ enc k S' w s l:=h.q8 (.refl _ _) hS
def dZ.nil(enc:α->List Value)(k:Nat)(S:List Nat)(w:World):dZ enc k S w dG []:=⟨rfl,zM _,.inl rfl⟩
def dZ.at{S:List Nat}{w:World}{s:Sl}{l:List α}(h:dZ enc k S w s l)(n:Nat){x:α}(hx:l[n]?=some x): n<s.len/\∃b o,s.a=some (dg b o)/\b∉S/\∃cs T fr,w.heap[b]?=some (.cells cs T fr)/\(cs.toList.drop (o+n*k)).take k=enc x:=by obtain⟨h1,h2,h3⟩:=h;have hn:n<l.length:=(zP.1 hx).1;rcases h3 with h3|⟨b,o,cs,T,fr,ha,hb,hnS,hc⟩;rw[h3] at hx;simp at hx;exact⟨oJ,b,o,ha,hnS,cs,T,fr,hb,hc n x hx⟩
def dZ.get{w:World}{l:List α}{c:Cell}(h:dZ enc 1 S w s l)(n:Nat){i:Int}{x:α}{y:c.El}{K:c.El->Prop}(hi:i=n)(hx:l[n]?=some x)(hy:enc x=[c.mk y])(kk:K y):idx s i 1 fun a=>ld c a w K:=by
 subst hi;obtain⟨hn,b,o,ha,_,cs,T,fr,hb,hc⟩:=h.at n hx;refine qj ha ⟨oJ,oJ⟩ ?_;rw[zJ];refine iA hb y ?_ kk;rw[hy] at hc
 have:=congrArg (·[0]?) hc
 simpa using this
def dZ.qT{w:World}{l:List α}{cl:List Cell}(h:dZ enc k S w s l)(n:Nat){i:Int}{x:α}{y:HL cl}{K:HL cl->Prop}(hi:i=n)(hx:l[n]?=some x)(hk:cl.length=k)(hy:enc x=HL.mk cl y)(kk:K y):idx s i k fun a=>dK cl a w K:=by subst hi hk;obtain⟨hn,b,o,ha,_,cs,T,fr,hb,hc⟩:=h.at n hx;refine qj ha ⟨oJ,oJ⟩ ?_;rw[zJ];refine⟨y,vH hb _ _ 0 ?_,kk⟩;rw[HL.j3,Nat.add_zero,hc,hy]
def dZ.drop{S:List Nat}{w:World}{s:Sl}{l:List α}(h:dZ enc k S w s l)(n:Nat){lo:Int}{K:Sl->Prop}(hlo:lo=n)(hn:n<=l.length)(hl:0<l.length)(kk:∀s',dZ enc k S w s' (l.drop n)->K s'):fD s (some lo) none none k K:=by
 subst hlo;obtain⟨h1,h2,h3⟩:=h;rcases h3 with h3|⟨b,o,cs,T,fr,ha,hb,hnS,hc⟩;rw[h3] at hl;simp at hl;obtain⟨a,len,cap⟩:=s;simp only at ha h1 h2;subst ha;refine qAT ⟨oJ,oJ⟩ h2 fun o' ho'=>?_;rw[zJ] at ho'⊢;refine kk _ ⟨by simp only[yC];omega,by dsimp only;omega,?_⟩;by_cases he:l.drop n=[];exact .inl he;have hlt:n<l.length:=by rcases Nat.lt_or_ge n l.length with h|h;exact h;exact absurd (vE h) he
 refine .inr ⟨b,o',cs,T,fr,rfl,hb,hnS,fun i x hx=>?_⟩;rw[ho' oJ,Nat.add_assoc,<- xU];refine hc (n+i) x ?_;rw[xA] at hx;exact hx
def dZ.cells{w:World}{l:List α}(h:dZ enc k S w s l)(henc:∀x,(enc x).length=k)(ha:s.a=some a):∀(j:Nat) u,(l.flatMap enc)[j]?=some u->w.cell? (a.add j)=some u:=by
 obtain⟨h1,h2,h3⟩:=h;rcases h3 with h3|⟨b,o,cs,T,fr,ha',hb,hnS,hc⟩;rw[h3];intro j u hj;simp at hj;rw[ha'] at ha;cases ha;have key:∀(l:List α) (o:Nat),(∀(i:Nat) x,l[i]?=some x->(cs.toList.drop (o+i*k)).take k=enc x)->∀(j:Nat) u,(l.flatMap enc)[j]?=some u->cs[o+j]?=some u:=by
  intro l;induction l with
  | nil=>intro o _ j u hj;simp at hj
  | cons x l ih=>
   intro o hc j u hj;rw[yH] at hj;by_cases hjk:j<k;rw[yZ (by rw[henc];exact hjk)] at hj;have h0:=hc 0 x rfl;rw[<- h0,xB,if_pos hjk,xA] at hj;simpa using hj;rw[yY (by rw[henc];omega),henc] at hj
   have:=ih (o+k) (fun i x hx=>by
    have:=hc (i+1) x (oP hx)
    rw[<- this];congr 2;rw[xU];omega) (j-k) u hj
   rw[<- this];congr 1;omega
 intro j u hj;rw[Addr.q9,ji hb];exact key l o hc j u hj
def eQ (enc:α->List Value) (k:Nat) (w:World) (s:Sl) (l:List α) (B:List Nat):Prop:=
 (s=dG/\l=[]/\B=[])\/∃b o cs T,B=[b]/\o=0/\s.a=some (dg b o)/\w.heap[b]?=some (.cells cs T (0,0))/\s.len=l.length/\s.len<=s.cap/\o+s.cap*k<=cs.size/\(cs.toList.drop o).take (l.length*k)=l.flatMap enc
def pQ(henc:∀x,(enc x).length=k):∀l:List α,(l.flatMap enc).length=l.length*k
 | []=>by simp
 | x::l=>by rw[yH,zF,henc,pQ henc l,yI,xU];omega
def FL(henc:∀x,(enc x).length=k):∀(l:List α) (i:Nat) (x:α),l[i]?=some x->((l.flatMap enc).drop (i*k)).take k=enc x
 | [],i,x,h=>by simp at h
 | y::l,0,x,h=>by simp at h;subst h;rw[yH,Nat.zero_mul,xF,take_append_of_le_length (by rw[henc];exact zM _),zS (by rw[henc];exact zM _)]
 | y::l,i+1,x,h=>by rw[yH,xU,Nat.one_mul,Nat.add_comm,drop_append,henc,vD,vE (by rw[henc];omega),xI];exact FL henc l i x (oP h)
def eQ.nil(enc:α->List Value)(k:Nat)(w:World):eQ enc k w dG [] []:=.inl ⟨rfl,rfl,rfl⟩
def eQ.len{w:World}{s:Sl}{l:List α}{B:List Nat}(h:eQ enc k w s l B):s.len=l.length:=by rcases h with ⟨rfl,rfl,_⟩|⟨b,o,cs,T,_,_,_,_,h,_⟩;rfl;exact h
def eQ.jo{w:World}{l:List α}(henc:∀x,(enc x).length=k)(h:eQ enc k w s l B)(hS:∀b∈B,b∉S):dZ enc k S w s l:=by
 rcases h with ⟨rfl,rfl,rfl⟩|⟨b,o,cs,T,rfl,ho0,ha,hb,h1,h2,h3,h4⟩;exact .nil _ _ _ _;refine⟨h1,h2,.inr ⟨b,o,cs,T,_,ha,hb,hS b oL,fun i x hx=>?_⟩⟩;have hi:=(zP.1 hx).1
 have:=FL henc l i x hx
 rw[<- h4] at this;rw[<- this,drop_take,xD,take_take,xR];have:(i+1)*k<=l.length*k:=Nat.mul_le_mul_right k hi;rw[xU] at this;omega
def eQ.q8{w:World}{l:List α}(h:eQ enc k w s l B)(f:Fr S w w')(hS:∀b∈B,b∉S):eQ enc k w' s l B:=by rcases h with h|⟨b,o,cs,T,rfl,ho0,ha,hb,h1⟩;exact .inl h;exact .inr ⟨b,o,cs,T,rfl,ho0,ha,by rw[f.block b (eZ hb) (hS b oL)];exact hb,h1⟩
def eQ.q7{w:World}{l:List α}(h:eQ enc k w s l B)(f:Fr [] w w'):eQ enc k w' s l B:=h.q8 f (fun _ _ h=>by cases h)
def eQ.lt{w:World}{l:List α}(h:eQ enc k w s l B):∀b∈B,b<w.heap.size:=by rcases h with ⟨_,_,rfl⟩|⟨b,o,cs,T,rfl,ho0,ha,hb,h1⟩;intro b hb;cases hb;intro c hc;simp at hc;subst hc;exact eZ hb
def eQ.fresh(henc:∀x,(enc x).length=k){w:World}{b:Nat}{T:TypeId}{l:List α}{n cap:Nat}(hb:w.heap[b]?=some (.cells cs T (0,0)))(hn:n=l.length)(hc:n<=cap)(hcs:cap*k<=cs.size)(hl:cs.toList.take (l.length*k)=l.flatMap enc):eQ enc k w ⟨some (dg b),n,cap⟩ l [b]:=
 .inr ⟨b,0,cs,T,rfl,rfl,rfl,hb,hn,hc,by rw[xS];exact hcs,by rw[xF];exact hl⟩
def sh{w:World}{b:Nat}(hb:b<w.heap.size)(o:Obj):Fr [b] w (gR w b o):=
 ⟨rfl,rfl,rfl,by rw[tE];exact zM _,fun j hj hS=>by rw[om _ _ _ _ hb,if_neg (oP hS)]⟩
def qyB(L Y R:List Value)(o n:Nat)(h:o+n<=L.length):((L.take (o+n)++Y++R).drop o).take (n+Y.length)=(L.drop o).take n++Y:=by have e1:(L.take (o+n)).length=o+n:=oO;have e2:((L.drop o).take n).length=n:=oO;rw[zV,drop_append_of_le_length oJ,drop_take,vD,take_append,e2,zS oJ,vD,take_append_of_le_length (zM _),zS (zM _)]
variable {P:Program}
def Ca(z:Array Value)(n:Nat):(Builtin.zeroCells z n).size=n*z.size:=by simp[Builtin.zeroCells]
def eQ.j1{w:World}{tx e:TypeId}{i:TypeInfo}{l ys:List α}{x:Value}{m:Nat}(h:eQ enc k w s l B)(henc:∀x,(enc x).length=k)(ht:P.underlying t=some (.slice e))(hi:P.info? e=some i)(hz:i.zero=some z)(hsz:i.size=k)(hzs:z.cells.size=k)(hs:Src P k tx x m (ys.flatMap enc) w)(hm:m=ys.length)(hbytes:(l.length+m)*i.bytes<=140737488355328)(h63:l.length+m<=9223372036854775807)(kk:∀s' B' w',eQ enc k w' s' (l++ys) B'->Fr B w w'->(∀b∈B',b∈B\/w.heap.size<=b)->(s'.a.isNone=false\/(s=dG/\s'=dG))->K s' w'): Pt.run dh ((Builtin.append_ #[t,tx] ty #[.slice s.a s.len s.cap,x]).run P w) K:=by
 subst hsz hm;have hfl:=pQ henc;have hgrow:∀(olds:List Value),olds=l.flatMap enc->s.len=l.length->(Builtin.firstCells i.size s.len (.slice s.a s.len s.cap)).run P w.drew=.ok olds.toArray w.drew->s.cap<s.len+ys.length->
   Pt.run dh ((Builtin.append_ #[t,tx] ty #[.slice s.a s.len s.cap,x]).run P w) K:=by
  intro olds ho hl hold hg;refine t6 ⟨_,_,_⟩ _ (run_append_grow_src w t tx ty e i z ht hi hz s.a s.len s.cap olds hold x ys.length _ hs hg oJ (growslice_fits hg (by rw[hl];exact hbytes))) ?_;have hge:=grownCap_ge w (s.len+ys.length) s.cap e;refine kk _ [w.heap.size] _ (eQ.fresh henc (b:=w.heap.size) (T:=e) (cs:=(olds++ys.flatMap enc).toArray++Builtin.zeroCells z.cells (grownCap w (s.len+ys.length) s.cap e-(s.len+ys.length))) ?_ (by rw[zF,hl]) hge ?_ ?_) ?_ ?_ ?_;rw[wH];exact if_pos rfl;rw[Array.size_append,Ca,hzs,size_toArray,zF,ho,hfl,hfl,<- xU,<- xU,hl];have:l.length+ys.length+(grownCap w (l.length+ys.length) s.cap e-(l.length+ys.length))=grownCap w (l.length+ys.length) s.cap e:=(by rw[hl] at hge;omega);rw[this];exact zM _;rw[Array.toList_append,take_append_of_le_length (by simp[ho,hfl,xU]),zS (by simp[ho,hfl,xU]),ho,yQ];exact (Fr.refl B w).drew.alloc _;intro b hb;simp at hb;subst hb;exact .inr (zM _);exact .inl rfl
 rcases h with ⟨rfl,rfl,rfl⟩|⟨b,o,cs,T,rfl,ho0,ha,hb,h1,h2,h3,h4⟩;by_cases hy:ys=[];subst hy;refine t6 dG w ?_ (kk _ _ _ (.nil _ _ _) (.refl _ _) (fun b hb=>.inl hb) (.inr ⟨rfl,rfl⟩));have hc:=hs.cells;simp at hc;rcases hs.kind with ⟨e',hk⟩|hk<;>simp[Builtin.append_,run_underlying ht,run_underlying hk,sizeOf,typeInfo,hi,hs.len,hc];have:0<ys.length:=length_pos_iff.2 hy;exact hgrow [] rfl rfl (run_firstCells_none _ _ _ _ _) oN;obtain⟨a,len,cap⟩:=s;simp only at ha h1 h2 h3;subst ha;subst h1;by_cases hroom:l.length+ys.length<=cap;have hsz':o+(l.length+ys.length)*i.size<=cs.size:=zL (Nat.add_le_add_left (Nat.mul_le_mul_right _ hroom) _) h3;rw[xU] at hsz';refine t6 ⟨_,_,_⟩ _ (run_append_room_src w t tx ty e i ht hi b o l.length cap x ys.length _ hs hroom (fun j hj=>?_) (fun j hj=>?_)) ?_;rw[hfl] at hj;rw[ji hb];simp[show o+l.length*i.size+j<cs.size by omega];simp[World.frozen?,hb];rw[wt hb];refine kk _ [b] _ (.inr ⟨b,o,_,T,rfl,ho0,rfl,by rw[om _ _ _ _ (eZ hb),if_pos rfl],oL,by dsimp only;omega,by rw[mR];exact h3,?_⟩) (sh (eZ hb) _) (fun c hc=>.inl hc) (.inl rfl);rw[pN _ _ _ (by rw[hfl];omega),zF,xU,yQ,<- h4]
 have:=qyB cs.toList (ys.flatMap enc) (cs.toList.drop (o+l.length*i.size+(ys.flatMap enc).length)) o (l.length*i.size) oO
 rw[hfl] at this⊢;exact this;refine hgrow (l.flatMap enc) rfl rfl (run_firstCells_some _ _ _ _ _ _ _ (hfl l) (fun j u hj=>?_)) oN;rw[Addr.q9];show w.cell? _=_;rw[ji hb];have hjl:j<l.length*i.size:=by
  have:=(zP.1 hj).1
  rw[hfl] at this;exact this
 rw[<- h4,xB,if_pos hjl,xA] at hj;simpa using hj
def eQ.push{w:World}{e T':TypeId}{i:TypeInfo}{l:List α}{x:α}{cs':Array Value}(h:eQ enc k w s l B)(henc:∀x,(enc x).length=k)(hone:∀u∈enc x,u.oneCell'=true)(ht:P.underlying t=some (.slice e))(hi:P.info? e=some i)(hz:i.zero=some z)(hsz:i.size=k)(hzs:z.cells.size=k)(hcs:cs'.toList=enc x)(hbytes:(l.length+1)*i.bytes<=140737488355328)(h63:l.length+1<=9223372036854775807)(kk:∀s' B' w',eQ enc k w' s' (l++[x]) B'->Fr B w w'->(∀b∈B',b∈B\/w.heap.size<=b)->K s' w'): Pt.new (.cells cs' T') w fun r w1=>Pt.run dh ((Builtin.append_ #[t,t] ty #[.slice s.a s.len s.cap,.slice (some (dg r)) 1 1]).run P w1) K:=by have ho:=(dQ.start [] w).alloc (.cells cs' T');have hf:=ho.fr;refine dQ.new (dQ.start [] w) fun b w1 eb sb ho=>eQ.j1 (ys:=[x]) (h.q7 ho.fr) henc ht hi hz hsz hzs (.ofSlice _ ht _ 1 1 _ ?_ ?_ ?_) rfl (oP hbytes) (oP h63) fun s' B' w' h1 h2 h3 _=>kk s' B' w' h1 ((ho.fr.mono (fun i hi _=>by cases hi)).j8 h2 (fun i hi=>.inl hi)) (fun b hb=>?_);simp[henc];intro j u hj;rw[Addr.q9,ji (ho.at (i:=0) rfl),xS];have hj':(enc x)[j]?=some u:=(oP hj);rw[<- hcs] at hj';simpa using hj';intro u hu;exact hone u (oP hu);rcases h3 b hb with h|h;exact .inl h;exact .inr oJ
end
end
end
section
open Go Go.RowKit Go.ChangeShapes List
section
variable {H:Type} {enc:TypeId×Value->H} {P:Program} {w:World} {base:Nat} {spare:Nat->Bool} {held:Bool}
def qAX{k:IntKind}{n:Int}(h:(Lit.int k n).wf=true):k.has n:=by have h':k.min<=n/\n<=k.max:=(by simpa[Lit.wf] using h);exact h'
def qqv{β:Type}{R:Nat->β->Prop}:∀n,(∀i,i<n->∃x,R i x)->∃l:List β,l.length=n/\∀(i:Nat) x,l[i]?=some x->R i x
 | 0,_=>⟨[],rfl,fun i x h=>by simp at h⟩
 | n+1,h=>by obtain⟨l,hl,hr⟩:=qqv n (fun i hi=>h i oJ);obtain⟨x,hx⟩:=h n oJ;refine⟨l++[x],by simp[hl],fun i y hy=>?_⟩;by_cases hi:i<n;rw[yZ oJ] at hy;exact hr i y hy;have:i<n+1:=(by have:=(zP.1 hy).1;simp at this;omega);have e:i=n:=oJ;subst e;rw[yY oJ] at hy;simp[hl] at hy;subst hy;exact hx
def qxI{t e:TypeId}{n:Nat}{s:Sl}{y:DataW H×List MemPlace}{β:Type}{encB:β->List Value}{k:Nat}{Q:β->Prop}(ht:P.underlying t=some (.slice e))(hce:P.cellsOf e=k)(hpos:0<k)(elem:∀n cells y,DataW.trod enc P w base spare held n e cells=some y->∃x:β,cells=encB x/\Q x)(h:DataW.trod enc P w base spare held n t [.slice s.a s.len s.cap]=some y): ∃l:List β,dZ encB k [] w s l/\∀x∈l,Q x:=by
 rcases Go.Deep.open_slice ht h with ⟨hm,_⟩|⟨a,len,cap,m,n',D,Pl,hm,_,hl,hc,hmm,_,hx⟩;simp only[List.cons.injEq,Value.slice.injEq,and_true] at hm;obtain⟨h1,h2,h3⟩:=hm;exact⟨[],⟨by rw[h2];rfl,oJ,.inl rfl⟩,fun x hx=>by cases hx⟩;simp only[List.cons.injEq,Value.slice.injEq,and_true] at hm;obtain⟨h1,h2,h3⟩:=hm;have hlm:len<=m:=(by rw[hmm];split<;>omega);have hcells:∀i,i<len->∃x:β,w.cells? base (a.add (i*k)) k=some (encB x)/\Q x:=fun i hi=>by obtain⟨cs',g1,g2⟩:=hx i oJ;obtain⟨x,rfl,hq⟩:=elem _ _ _ g2;rw[hce] at g1;exact⟨x,g1,hq⟩
 obtain⟨l,hll,hlr⟩:=qqv len hcells;refine⟨l,⟨by rw[h2,hll],oJ,?_⟩,fun x hx=>?_⟩;by_cases h0:l=[];exact .inl h0;right;have hl0:0<l.length:=length_pos_iff.2 h0;obtain⟨_,hlen0,hcell0⟩:=World.cells?_some (hlr 0 l[0] (zA hl0)).1;have hc0:=hcell0 0 hpos;rw[zA oJ] at hc0;obtain⟨b,o,spot⟩:=a;have hspot:spot=none:=(by simpa[Addr.add] using World.cell?_spot hc0);subst hspot;have hblk:∃cs T fr,w.heap[b]?=some (.cells cs T fr):=by simp only[Nat.zero_mul,Addr.q9] at hc0;unfold World.cell? at hc0;split at hc0;rename_i c T fr hb;exact⟨c,T,fr,hb⟩;cases hc0
 obtain⟨cs,T,fr,hb⟩:=hblk;refine⟨b,o,cs,T,fr,h1,hb,oL,fun i x hx=>?_⟩;obtain⟨_,hlen',hcell'⟩:=World.cells?_some (hlr i x hx).1;apply ext_getElem?;intro j;rw[xB,xA];by_cases hj:j<k;rw[if_pos hj]
 have:=hcell' j hj
 rw[Addr.q9,Addr.q9,ji hb] at this;rw[<- this];simp;rw[if_neg hj,yS oJ];obtain⟨i,hi,rfl⟩:=getElem_of_mem hx;exact (hlr i _ (zA hi)).2
end
end
section
open Go List
variable {K:List Value->Prop} {L':List (Nat×Obj)} {T et t:TypeId} {a:Addr} {args vs zero:List Value} {cs:Array Value} {e:Array Value->Sem Value} {f:FuncId} {name:String} {off:Nat} {ts:List gN} {w':World} {z:Value}
variable {P:Program} {w:World}
def methodOf (P:Program) (t:TypeId) (name:String):Option (FuncId×Bool):=
 match (P.info? t).bind fun i=>i.methods.find? (·.name==name) with
 | some m=>bif m.path.isEmpty then m.func else none
 | none=>none
def qoz{v:Value}{p:Bool}(h:methodOf P t name=some (f,p))(fuel:Nat): ∃wr,(Go.method (fuel+1) t v name).run P w=(do let r <- receiverAt t (.val v) p (some wr);pure (f,r):Sem (FuncId×Value)).run P w:=by
 unfold methodOf at h;cases hi:P.info? t with
 | none=>rw[hi] at h;cases h
 | some i=>
  rw[hi] at h;simp only[Option.bind_some] at h;cases hm:i.methods.find? (·.name==name) with
  | none=>rw[hm] at h;cases h
  | some m=>
   rw[hm] at h;dsimp only at h;cases hp:m.path.isEmpty with
   | false=>rw[hp] at h;cases h
   | true=>
    rw[hp] at h;change m.func=some (f,p) at h;have hpe:=Array.isEmpty_iff.1 hp;refine⟨(name.splitOn ".").getLastD name,?_⟩;simp[Go.method,typeInfo,run_program,hi,hm,hpe,h,follow]
def qwF{e:TypeId}{q:Value}{args:Array Value}(h:methodOf P t name=some (f,true))(hu:P.underlying t=some (.pointer e))(hb:iy P f=false): (callMethod (.iface t q) name args).run P w=.ok (.enter f (#[q]++args)) w:=by
 obtain⟨wr,hr⟩:=qoz (w:=w) (v:=q) h (P.types.size+Made.depth-1);have hm0:0<Made.depth:=oM;have hd:P.types.size+Made.depth-1+1=P.types.size+Made.depth:=oJ;rw[hd] at hr;have h2:(do let r <- receiverAt t (.val q) true (some wr);pure (f,r):Sem (FuncId×Value)).run P w=.ok (f,q) w:=by simp[receiverAt,run_underlying hu,Place.get]
 rw[h2] at hr;simp[callMethod,run_program,hr,Ac hb]
def qwG{e:TypeId}{v:Value}{args:Array Value}(h:methodOf P t name=some (f,false))(hu:P.underlying t=some (.pointer e))(hb:iy P f=false)(he:(P.underlying e).isSome=true)(hag:eX P e=false)(hc:w.cell? a=some v): (callMethod (.iface t (.pointer (some a))) name args).run P w=.ok (.enter f (#[v]++args)) w:=by
 obtain⟨wr,hr⟩:=qoz (w:=w) (v:=.pointer (some a)) h (P.types.size+Made.depth-1);have hm0:0<Made.depth:=(by decide);have hd:P.types.size+Made.depth-1+1=P.types.size+Made.depth:=(by omega);rw[hd] at hr;have h2:(do let r <- receiverAt t (.val (.pointer (some a))) false (some wr);pure (f,r):Sem (FuncId×Value)).run P w=.ok (f,v) w:=by have hs:Builtin.ssaWrapNilChk_ #[t] t #[.pointer (some a),strVal "",strVal wr]=pure (.pointer (some a)):=rfl;simp[receiverAt,run_underlying hu,Place.get,hs,asAddr,loadVar,vq he,hag,hc]
 rw[h2] at hr;simp[callMethod,run_program,hr,Ac hb]
def qud{e:TypeId}{q:Value}{K:iY ts->WP}(h:methodOf P t name=some (f,true))(hu:P.underlying t=some (.pointer e))(hb:iy P f=false)(k:call P f (q::args) ts w K):inv P (.iface t q) name args ts w K:=
 ⟨f,q::args,by rw[qwF h hu hb];simp,k⟩
def GC{e:TypeId}{v:Value}{K:iY ts->WP}(h:methodOf P t name=some (f,false))(hu:P.underlying t=some (.pointer e))(hb:iy P f=false)(he:(P.underlying e).isSome=true)(hag:eX P e=false)(hc:w.cell? a=some v)(k:call P f (v::args) ts w K):inv P (.iface t (.pointer (some a))) name args ts w K:=
 ⟨f,v::args,by rw[qwG h hu hb he hag hc];simp,k⟩
section
structure nc {α:Type} [DecidableEq α] (P:Program) (kt:TypeId) (kv:α->Value):Prop where
 desc:∃ d,P.underlying kt=some d/\∀ a b,Instr.sameNow d (kv a) (kv b)=some (decide (a=b))
 check:∀ e a w,(Instr.checkKey e 10000 kt (kv a)).run P w=.ok () w
 stays:∀ a w,(Instr.keyThatStays (kv a) (kv a)).run P w=.ok (kv a) w
def qwW{P:Program}{kt:TypeId}{k:IntKind}(h:P.underlying kt=some (.int k)):nc P kt (fun n:Int=>Value.int k n) where
 desc:=⟨_,h,fun a b=>by simp[Instr.sameNow];rfl⟩
 check:=fun e a w=>Go.MapKept.run_checkKey h (by simp[Go.MapKept.IsKey]) e 9999
 stays:=fun a w=>by simp[Instr.keyThatStays,Instr.sameBits]
section
variable {α:Type} [DecidableEq α]
def uN{β γ:Type}(g:β->γ):∀(l:List β) (i:Nat),(l.eraseIdx i).map g=(l.map g).eraseIdx i
 | [],_=>rfl
 | _::_,0=>rfl
 | a::l,i+1=>by simp only[eraseIdx_cons_succ,xO,uN g l i]
def mw (kv:α->Value) (es:List MapEntry) (f:List (α×Value)):Prop:=es.map (fun e=>(e.key,e.val))=f.map (fun p=>(kv p.1,p.2))
def posOf (x:α):List (α×Value)->Option (Nat×Value)
 | []=>none
 | p::r=>if x=p.1 then some (0,p.2) else (posOf x r).map fun q=>(q.1+1,q.2)
def ql6{kv:α->Value}{d:TypeDesc}(hd:∀a b,Instr.sameNow d (kv a) (kv b)=some (decide (a=b)))(x:α):∀(es:List MapEntry) (f:List (α×Value)) (i:Nat),mw kv es f-> Instr.findNow d (kv x) es i=some ((posOf x f).map fun q=>(i+q.1,q.2))
 | [],[],i,_=>rfl
 | [],_::_,_,h=>by simp[mw] at h
 | _::_,[],_,h=>by simp[mw] at h
 | e::es,p::f,i,h=>by
  simp only[mw,xO,List.cons.injEq,Prod.mk.injEq] at h;obtain⟨⟨h1,h2⟩,h3⟩:=h;simp only[Instr.findNow,h1,hd,posOf];by_cases hx:x=p.1;simp[hx,h2];simp only[hx,decide_false,if_false];rw[ql6 hd x es f (i+1) h3];cases posOf x f with
  | none=>rfl
  | some q=>simp;omega
variable {P:Program} {w:World} {kt:TypeId} {kv:α->Value}
def tH(K:nc P kt kv){es:List MapEntry}{f:List (α×Value)}(h:mw kv es f)(x:α):(Instr.findKey kt (kv x) es).run P w=.ok (posOf x f) w:=by
 obtain⟨d,hd,hs⟩:=K.desc;unfold Instr.findKey;simp only[Sem.run_bind,run_underlying hd,Result.andThen_ok,ql6 hs x es f 0 h,Sem.run_pure];congr 1;cases posOf x f with
 | none=>rfl
 | some q=>simp
def kL (kv:α->Value) (w:World) (b:Nat) (f:List (α×Value)):Prop:=∃es c,w.heap[b]?=some (.map es c)/\mw kv es.toList f
def Cp(ht:P.underlying t=some (.map kt et))(hz:∀w,(zeroValue et).run P w=.ok z w)(K:nc P kt kv){b:Nat}{f:List (α×Value)}(h:kL kv w b f)(x:α): (Instr.lookup t (.map (some b)) (kv x) false).run P w=.ok (match posOf x f with|some q=>q.2|none=>z) w:=by
 obtain⟨es,c,hb,he⟩:=h;cases hp:posOf x f with
 | none=>simp[Instr.lookup,run_underlying ht,Go.MapKept.run_getObj_map hb,K.check,tH K he,hp,hz]
 | some q=>simp[Instr.lookup,run_underlying ht,Go.MapKept.run_getObj_map hb,K.check,tH K he,hp]
def qsJ(ht:P.underlying t=some (.map kt et))(hz:∀w,(zeroValue et).run P w=.ok z w)(K:nc P kt kv){b:Nat}{f:List (α×Value)}(h:kL kv w b f)(x:α): (Instr.lookup t (.map (some b)) (kv x) true).run P w=.ok (match posOf x f with|some q=>.tuple #[q.2,.bool true] | none=>.tuple #[z,.bool false]) w:=by
 obtain⟨es,c,hb,he⟩:=h;cases hp:posOf x f with
 | none=>simp[Instr.lookup,run_underlying ht,Go.MapKept.run_getObj_map hb,K.check,tH K he,hp,hz]
 | some q=>simp[Instr.lookup,run_underlying ht,Go.MapKept.run_getObj_map hb,K.check,tH K he,hp]
def qvS{v:Value}(ht:P.underlying t=some (.map kt et))(K:nc P kt kv){b:Nat}{f:List (α×Value)}(h:kL kv w b f)(x:α)(hx:posOf x f=none): ∃o,(Instr.mapUpdate t (.map (some b)) (kv x) v).run P w=.ok () (gR w b o)/\kL kv (gR w b o) b (f++[(x,v)]):=by obtain⟨es,c,hb,he⟩:=h;refine⟨.map (es.push ⟨kv x,v,c⟩) (c+1),?_,es.push ⟨kv x,v,c⟩,c+1,?_,?_⟩;simp[Instr.mapUpdate,run_underlying ht,Go.MapKept.run_getObj_map hb,K.check,tH K he,hx,Go.MapKept.run_setObj_map _ hb];rfl;rw[om _ _ _ _ (eZ hb),if_pos rfl];simp only[mw] at he⊢;simp[he]
def qvR{ty:TypeId}(ht:P.underlying t=some (.map kt et))(K:nc P kt kv){b:Nat}{f:List (α×Value)}(h:kL kv w b f)(x:α): ∃o,(Builtin.delete_ #[t,kt] ty #[.map (some b),kv x]).run P w=.ok (.tuple #[]) (gR w b o)/\kL kv (gR w b o) b (match posOf x f with|some q=>f.eraseIdx q.1|none=>f):=by
 obtain⟨es,c,hb,he⟩:=h;cases hp:posOf x f with
 | none=>
  refine⟨.map es c,?_,es,c,?_,he⟩;simp[Builtin.delete_,run_underlying ht,Go.MapKept.run_getObj_map hb,K.check,tH K he,hp,Go.MapKept.run_setObj_map _ hb];rfl;rw[om _ _ _ _ (eZ hb),if_pos rfl]
 | some q=>
  refine⟨.map (es.eraseIdxIfInBounds q.1) c,?_,es.eraseIdxIfInBounds q.1,c,?_,?_⟩;simp[Builtin.delete_,run_underlying ht,Go.MapKept.run_getObj_map hb,K.check,tH K he,hp,Go.MapKept.run_setObj_map _ hb];rfl;rw[om _ _ _ _ (eZ hb),if_pos rfl];have h1:(es.eraseIdxIfInBounds q.1).toList=es.toList.eraseIdx q.1:=oL;rw[h1];simp only[mw] at he⊢;rw[uN,he,<- uN]
end
end
section
variable {S:List Nat} {w0 w:World} {L:List (Nat×Obj)} {P:Program}
def qtt(z:Value)(c:Nat):gZ [z] c=(List.replicate c z).toArray:=by apply Array.ext;simp[gZ];intro i h1 h2;simp[gZ,Nat.mod_one]
def dQ.Gf{el:TypeId}{bytes:Nat}{l c:Int}{K:Sl->WP}(h:dQ S w0 w L)(h0:0<=l)(h1:l<=c)(h2:(bytes:Int)*c<=2^48)(h3:c<=2^48)(k:∀b w',b=w.heap.size->dQ S w0 w' ((b,.cells (List.replicate c.toNat z).toArray el (0,0))::L)->K ⟨some (dg b),l.toNat,c.toNat⟩ w'):mF el [z] 1 bytes l c w K:=by
 refine⟨⟨h0,h1,h2,h3⟩,?_⟩;have e:gZ (if c.toNat*1=0 then [] else [z]) (c.toNat*1)=(List.replicate c.toNat z).toArray:=by rw[xT];split;rename_i hc;rw[hc];apply Array.ext' ;simp[gZ];exact qtt z _
 rw[e];exact k _ _ rfl (h.alloc _)
def dQ.vd{t t' ty el b:Nat}{o dLen dCap:Nat}{src:Sl}{K:Int->WP}(h:dQ S w0 w L)(i:Nat)(hi:L[i]?=some (b,.cells cs T (0,0)))(hu:P.underlying t=some (.slice el))(hs:(P.info? el).map (·.size)=some 1)(hlen:vs.length=Nat.min src.len dLen)(hvs:vs≠[]->∃a,src.a=some a/\∀(j:Nat) v,vs[j]?=some v->w.cell? (a.add j)=some v)(h1:∀v∈vs,v.oneCell'=true)(hfit:o+vs.length<=cs.size)(k:∀w',dQ S w0 w' (L.set i (b,.cells (dR cs o vs) T (0,0)))->K vs.length w'): Pt.run [gN.one (Cell.int .i64)] ((Builtin.copy_ #[t,t'] ty #[.slice (some (dg b o)) dLen dCap,.slice src.a src.len src.cap]).run P w) K:=by
 by_cases h0:vs=[];subst h0;refine⟨((0:Nat):Int),w,run_copy_none w t t' ty el _ _ _ _ _ _ hu hs (oP hlen.symm),?_⟩;have e:L.set i (b,.cells (dR cs o []) T (0,0))=L:=by
  apply ext_getElem?;intro j;rw[List.getElem?_set];by_cases hij:i=j;subst hij
  have:=(zP.1 hi).1
  rw[if_pos rfl,hi];simp[this,dR];rw[if_neg hij]
 have:=k w (by rw[e];exact h)
 simpa using this;obtain⟨a,ha,hc⟩:=hvs h0;have hb:=h.at hi;have hrun:=run_copy_cells (P:=P) w t t' ty el b o dLen dCap a src.len src.cap vs hu hs hlen hc (fun j hj=>by rw[ji hb];simp[show o+j<cs.size by omega]) (fun j hj=>by simp[World.frozen?,hb]) h1;rw[wt hb] at hrun;refine⟨(vs.length:Int),_,?_,k _ (h.gR i hi)⟩;rw[ha];exact hrun
def CR{P:Program}{fn:Func}{w:World}{K:iY ts->WP}(hf:P.funcs[f]?=some fn)(hname:(fn.name== "runtime.NumGoroutine")=false)(hb:fn.body.isNone=true)(hn:Extern.findNext fn=none)(he:Extern.find fn=some e)(x:iY ts)(w':World)(hrun:(e args.toArray).run P w=.ok (fT ts x) w')(k:K x w'):Pt.ext P f args ts w K:=by refine⟨x,w',?_,k⟩;rw[run_callFunc_extern hf hname hb hn he];simp[hrun]
end
section
variable {S:List Nat} {w0 w:World} {L:List (Nat×Obj)} {P:Program}
def dQ.kH{v:Value}{pts:List gN}{body:iY pts->(World->(WP)->Prop)->(WP)->(Nat->WP)->WP}{done:Nat->WP}{jumps:List (Nat->WP)}{f:FuncId}{lb:List Value}(h:dQ S w0 w L)(hv:v=.func (.func f) #[] lb.toArray)(hb:iy P f=false)(k:∀(D l:Nat) (R B:Obj) (J E:Nat->Obj) (E0:Obj) (w1:World),l=w.heap.size+1->D=w.heap.size->Fr [] w w1->dQ S w0 w1 ((l,R)::(D,.deferred (some []))::L)->oW P pts body l R B J-> call P f (.func (.yield l) #[] #[]::lb) [] w1 (fun _ W=>(W.heap[l]?=some R/\done D (Pt.gR W l E0))\/∃i k,jumps[i]?=some k/\W.heap[l]?=some (J i)/\k D (Pt.gR W l (E i)))):Pt.kH P v pts body done jumps w:=by refine⟨f,lb,hv,hb,fun R B J E E0 hy=>?_⟩;have h1:=h.alloc (.deferred (some []));have h2:=h1.alloc R;rw[World.size_alloc] at h2;exact k _ _ R B J E E0 _ rfl rfl (((Fr.refl [] w).alloc _).alloc _) h2 hy
def dQ.eS{D:Nat}{K:WP}(h:dQ S w0 w L)(i:Nat)(hi:L[i]?=some (D,.deferred (some [])))(k:∀w',dQ S w0 w' (L.set i (D,.deferred none))->K w'):Pt.eS D w K:=
 ⟨h.at hi,k _ (dQ.gR h i hi)⟩
def rS{v:Value}{lb:List Value}{K:iY ts->WP}(hv:v=.func (.func f) #[] lb.toArray)(hb:iy P f=false)(k:call P f (args++lb) ts w K):ed P v args ts w K:=by subst hv;refine .inl ⟨f,args++lb,?_,k⟩;simp[Deferred.ofValue,invoke,Ac hb]
def nJ{n b:Nat}{fr:Nat×Nat}(hb:w.heap[b]?=some (.cells cs T fr))(x:List Value)(h1:x.length=n)(hx:(cs.toList.drop off).take n=x)(k:K x):Pt.ij n (dg b off) w K:=
 ⟨x,⟨h1,vH hb _ off 0 (by rw[h1];exact hx)⟩,k⟩
def qzE{cs:List Cell}{K:HL cs->Prop}(x:HL cs)(h:vs.extract off (off+cs.length)=HL.mk cs x)(k:K x):Pt.jv cs vs off K:=⟨x,h,k⟩
def qAS{len cap n:Nat}{K:Addr->Prop}(h:n<=len)(k:K a):nf ⟨some a,len,cap⟩ n K:=⟨a,rfl,h,k⟩
def dQ.rO{n:Nat}{K:Nat->WP}(h:dQ S w0 w L)(hz:((P.info? t).bind (·.zero)).map (fun z=>z.cells.size)=some n)(hn:vs.length=n)(h1:(vs.all Value.oneCell')=true)(k:∀b w',b=w.heap.size->dQ S w0 w' ((b,.cells vs.toArray t (0,0))::L)->K b w'):Pt.fg P t w fun r w1=>gF (vs.length=n) (Pt.st (dg r) vs w1 fun w2=>K r w2):=by obtain⟨z,hz,hzs⟩:=yT.1 hz;refine⟨z,hz,hn,?_⟩;have h2:=h.alloc (.cells z.cells t);exact dQ.st h2 0 rfl vs.toArray (kj oJ) h1 (Nat.ble_eq_true_of_le oJ) fun w' h3 _=>k _ w' rfl h3
def dQ.fg{t:TypeId}{zs:List Value}{K:Nat->WP}(h:dQ S w0 w L)(hz:((P.info? t).bind (·.zero)).map (fun z=>z.cells.toList)=some zs)(k:∀b w',b=w.heap.size->dQ S w0 w' ((b,.cells zs.toArray t (0,0))::L)->K b w'):Pt.fg P t w K:=by obtain⟨z,hz,hzs⟩:=yT.1 hz;refine⟨z,hz,?_⟩;have h2:=h.alloc (.cells z.cells t);have e:zs.toArray=z.cells:=(by rw[<- hzs]);rw[<- e] at h2⊢;exact k _ _ rfl h2
def qtu{k:Nat}(hk:zero.length=k)(n:Nat):(gZ (if n*k=0 then [] else zero) (n*k)).toList=(List.replicate n zero).flatten:=by
 by_cases h0:n*k=0;rw[if_pos h0,h0];rcases Nat.mul_eq_zero.1 h0 with h|h;subst h;simp[gZ];have:zero=[]:=eq_nil_of_length_eq_zero oJ;subst this;simp[gZ];rw[if_neg h0];have hpos:0<k:=Nat.pos_of_ne_zero fun e=>h0 (by rw[e];simp);apply ext_getElem?;intro i;have hlen:∀n,((List.replicate n zero).flatten).length=n*k:=(by intro n;simp[hk]);have key:∀n i,i<n*k->((List.replicate n zero).flatten)[i]?=zero[i%k]?:=by
  intro n;induction n with
  | zero=>intro i hi;simp at hi
  | succ n ih=>
   intro i hi;rw[Nat.succ_mul] at hi;rw[replicate_succ,flatten_cons];by_cases hik:i<k;rw[yZ oJ,Nat.mod_eq_of_lt hik];rw[yY oJ,hk,ih (i-k) oJ];congr 1;exact (Nat.mod_eq_sub_mod oJ).symm
 have hl2:=hlen n;have hsz:(gZ zero (n*k)).toList.length=n*k:=(by simp[gZ]);by_cases hi:i<n*k;rw[key n i hi];have hlt:i%k<zero.length:=(by rw[hk];exact Nat.mod_lt _ hpos);have h1:(gZ zero (n*k)).toList[i]?=some (zero.toArray[i%zero.toArray.size]!):=by simp[gZ,hi]
 rw[h1,zA hlt];simp[hk,zA hlt];rw[yS (by rw[hsz];omega),yS (by rw[hl2];omega)]
def dQ.mkN{el:TypeId}{size bytes:Nat}{l c:Int}{K:Sl->WP}(h:dQ S w0 w L)(hk:zero.length=size)(h0:0<=l)(h1:l<=c)(h2:(bytes:Int)*c<=2^48)(h3:c<=2^48)(k:∀b w',b=w.heap.size->dQ S w0 w' ((b,.cells ((List.replicate c.toNat zero).flatten).toArray el (0,0))::L)->K ⟨some (dg b),l.toNat,c.toNat⟩ w'):mF el zero size bytes l c w K:=by
 refine⟨⟨h0,h1,h2,h3⟩,?_⟩;have e:=qtu hk c.toNat;have e':gZ (if c.toNat*size=0 then [] else zero) (c.toNat*size)=((List.replicate c.toNat zero).flatten).toArray:=by apply Array.ext';rw[e]
 rw[e'];exact k _ _ rfl (h.alloc _)
def dQ.BK{o:Obj}{K:Nat->WP}(h:dQ S w0 w L)(k:∀b w',b=w.heap.size->Fr [] w w'->dQ S w0 w' ((b,o)::L)->K b w'):Pt.new o w K:=
 k _ _ rfl ((Fr.refl [] w).alloc o) (h.alloc o)
def dQ.st'{b:Nat}{K:WP}(h:dQ S w0 w L)(i:Nat)(hi:L[i]?=some (b,.cells cs T (0,0)))(cs':Array Value)(hcs:dR cs off vs=cs')(h1:(vs.all Value.oneCell')=true)(hl:off+vs.length<=cs.size)(k:∀w',dQ S w0 w' (L.set i (b,.cells cs' T (0,0)))->Fr [b] w w'->K w'):Pt.st (dg b off) vs w K:=
 zv (w:=w) vs off 0 cs w K (h.at hi) h1 hl (k _ (by rw[Nat.add_zero,hcs];exact dQ.gR h i hi) (sh (eZ (h.at hi)) _))
def dQ.sz{b:Nat}{K:WP}(h:dQ S w0 w L)(i:Nat)(hi:L[i]?=some (b,.cells cs T (0,0)))(cs':Array Value)(k:∀w',dQ S w0 w' (L.set i (b,.cells cs' T (0,0)))->Fr [b] w w'->K w')(hcs:dR cs off vs=cs':=by rfl)(h1:(vs.all Value.oneCell')=true:=by rfl)(hl:off+vs.length<=cs.size:=by exact zO rfl):Pt.st (dg b off) vs w K:=h.st' i hi cs' hcs h1 hl k
def qP{b:Nat}{K:WP}(hb:w.heap[b]?=some (.cells cs T (0,0)))(cs':Array Value)(hcs:dR cs off vs=cs')(h1:(vs.all Value.oneCell')=true)(hl:off+vs.length<=cs.size)(k:∀w',w'.heap[b]?=some (.cells cs' T (0,0))->Fr [b] w w'->K w'):Pt.st (dg b off) vs w K:=
 zv (w:=w) vs off 0 cs w K hb h1 hl (k _ (by rw[Nat.add_zero,hcs,om _ _ _ _ (eZ hb),if_pos rfl]) (sh (eZ hb) _))
def dQ.ln(h:dQ S w0 w L):dQ (L.map (·.1)) w w L:=⟨h.eH,h.nodup,.refl _ _,fun p hp=>.inl (zZ hp)⟩
def dQ.uZ(h:dQ S w0 w L)(T:List Nat):dQ (L.map (·.1)++T) w w L:=⟨h.eH,h.nodup,.refl _ _,fun p hp=>.inl (zH _ (zZ hp))⟩
def dQ.vQ{T:List Nat}(h:dQ S w0 w L)(hT:∀b∈T,b∈S\/w0.heap.size<=b)(f:Fr (L.map (·.1)++T) w w'):Fr S w0 w':=
 h.fr.j8 f fun b hb=>by rcases zD.1 hb with hb|hb;obtain⟨p,hp,rfl⟩:=mem_map.1 hb;exact h.own p hp;exact hT b hb
def dQ.vY{T:List Nat}(h:dQ S w0 w L)(hT:∀b∈T,b∈S\/w0.heap.size<=b)(k:dQ (L.map (·.1)++T) w w' L'):dQ S w0 w' L':=
 ⟨k.eH,k.nodup,h.vQ hT k.fr,fun p hp=>by rcases k.own p hp with hb|hb;rcases zD.1 hb with hb|hb;obtain⟨q,hq,hqe⟩:=mem_map.1 hb;rw[<- hqe];exact h.own q hq;exact hT _ hb;exact .inr (zL h.fr.size hb)⟩
def dQ.back(h:dQ S w0 w L)(f:Fr (L.map (·.1)) w w'):Fr S w0 w':=
 h.fr.j8 f fun b hb=>by obtain⟨p,hp,rfl⟩:=mem_map.1 hb;exact h.own p hp
def fieldsOf (P:Program) (t:TypeId):Array Field:=match P.underlying t with|some (.struct fs)=>fs|_=>#[]
def qoy{a b:Value}{o1 s0 s1:Nat}(hz:(P.info? t).bind (·.zero)=some z)(hu:P.underlying t=some (.struct (fieldsOf P t)))(hpl:∀w,((fieldsOf P t).mapM fun f=>do pure (f.offset,<- sizeOf f.type):Sem (Array (Nat×Nat))).run P w=.ok #[(0,s0),(o1,s1)] w)(ha:a.cells.size=s0)(hb:b.cells.size=s1)(ho:o1=s0)(hs:z.cells.size=s0+s1)(w:World):(Instr.build t #[(0,a),(1,b)]).run P w=.ok (.agg (a.cells.toList++b.cells.toList).toArray) w:=by
 have h1:=DB 0 a.cells z.cells;have h2:=DB o1 b.cells (dR z.cells 0 a.cells.toList);have key:Instr.fill ((#[(0,s0),(o1,s1)]:Array (Nat×Nat))[·]?) z.cells [(0,a),(1,b)]=some (a.cells.toList++b.cells.toList).toArray:=by have e0:(#[(0,s0),(o1,s1)]:Array (Nat×Nat))[0]?=some (0,s0):=rfl;have e1:(#[(0,s0),(o1,s1)]:Array (Nat×Nat))[1]?=some (o1,s1):=rfl;simp only[Instr.fill,e0,e1];have c1:¬(decide (a.cells.size≠s0)||decide (0+a.cells.size>z.cells.size))=true:=(by simp[ha];omega);have c2:¬(decide (b.cells.size≠s1)||decide (o1+b.cells.size>(dR z.cells 0 a.cells.toList).size))=true:=(by simp[hb,mR];omega);rw[if_neg c1,h1,if_neg c2,h2];congr 1;apply Array.ext';rw[pN _ _ _ (by rw[mR,Array.length_toList];omega),pN _ _ _ (by rw[Array.length_toList];omega)];have hal:a.cells.toList.length=o1:=(by rw[Array.length_toList];omega);simp only[take_zero,xI,xS];rw[take_append_of_le_length oJ,zS oJ,drop_of_length_le oO,xH]
 simp only[Instr.build,Sem.run_bind,uG hz,Result.andThen_ok,run_underlying hu,hpl,key,Sem.run_pure]
def dZ.gO{α:Type}{enc:α->List Value}{k:Nat}{S:List Nat}{w:World}{s:Sl}{l:List α}(h:dZ enc k S w s l)(henc:∀x,(enc x).length=k)(n:Nat){i:Int}{x:α}(hi:i=n)(hx:l[n]?=some x)(kk:K (enc x)):idx s i k fun a=>Pt.ij k a w K:=by subst hi;obtain⟨hn,b,o,ha,_,cs,T,fr,hb,hc⟩:=h.at n hx;refine qj ha ⟨oJ,oJ⟩ ?_;rw[zJ];exact nJ hb _ (henc x) hc kk
def qtF{α:Type}{enc:α->List Value}{k:Nat}(henc:∀x,(enc x).length=k):∀(l:List α) (i:Nat) (x:α),i<l.length->dR (l.flatMap enc).toArray (i*k) (enc x)=((l.set i x).flatMap enc).toArray:=by
 intro l i x hi;have hsplit:l=l.take i++l[i]::l.drop (i+1):=(by rw[<- zY hi,xE]);have hset:l.set i x=l.take i++x::l.drop (i+1):=(by rw[set_eq_take_append_cons_drop,if_pos hi]);have hlen:((l.take i).flatMap enc).length=i*k:=(by rw[pQ henc,yL,xR oJ]);have e1:l.flatMap enc=(l.take i).flatMap enc++enc l[i]++(l.drop (i+1)).flatMap enc:=by
  conv=>lhs;rw[hsplit]
  rw[yQ,yH,zV]
 have e2:(l.set i x).flatMap enc=(l.take i).flatMap enc++enc x++(l.drop (i+1)).flatMap enc:=(by rw[hset,yQ,yH,zV]);rw[e1,e2];generalize (l.take i).flatMap enc=A at hlen;generalize hX:enc l[i]=X;have hXl:X.length=(enc x).length:=(by rw[<- hX,henc,henc]);generalize (l.drop (i+1)).flatMap enc=Z;apply Array.ext';rw[pN _ _ _ oO];rw[<- hlen];have h1:(A++X++Z).take A.length=A:=(by rw[zV,take_append_of_le_length (zM _),zS (zM _)]);have h2:(A++X++Z).drop (A.length+(enc x).length)=Z:=(by rw[<- hXl,<- zF,drop_append_of_le_length (zM _),drop_of_length_le (zM _),xI]);rw[h1,h2]
end
end
section
set_option linter.unusedSectionVars false
open Go List
variable {es:Array MapEntry} {seen:Array Nat}
section
variable {α:Type} [DecidableEq α] {P:Program} {w:World} {kt:TypeId} {kv:α->Value}
def i4 (kv:α->Value) (w:World) (b:Nat) (f:List (α×Value)):Prop:=
 ∃es c,w.heap[b]?=some (.map es c)/\mw kv es.toList f/\(es.toList.map (·.born)).Pairwise (· < ·)/\∀e∈es.toList,e.born<c
def i4.at{b:Nat}{f:List (α×Value)}(h:i4 kv w b f):kL kv w b f:=by obtain⟨es,c,hb,he,_⟩:=h;exact⟨es,c,hb,he⟩
def i4.q8{w':World}{b:Nat}{S:List Nat}{f:List (α×Value)}(h:i4 kv w b f)(k:Fr S w w')(h1:b∉S):i4 kv w' b f:=by obtain⟨es,c,hb,he⟩:=h;exact⟨es,c,by rw[k.block b (eZ hb) h1];exact hb,he⟩
def i4.lt{b:Nat}{f:List (α×Value)}(h:i4 kv w b f):b<w.heap.size:=by obtain⟨es,c,hb,_⟩:=h;exact eZ hb
def i4.empty{b:Nat}(hb:w.heap[b]?=some (.map #[] 0)):i4 kv w b []:=⟨#[],0,hb,rfl,oL,oL⟩
def i4.new{t et:TypeId}{v:Value}(ht:P.underlying t=some (.map kt et))(K:nc P kt kv){b:Nat}{f:List (α×Value)}(h:i4 kv w b f)(x:α)(hx:posOf x f=none): ∃o,(Instr.mapUpdate t (.map (some b)) (kv x) v).run P w=.ok () (gR w b o)/\i4 kv (gR w b o) b (f++[(x,v)]):=by obtain⟨es,c,hb,he,hs,hc⟩:=h;refine⟨.map (es.push ⟨kv x,v,c⟩) (c+1),?_,es.push ⟨kv x,v,c⟩,c+1,?_,?_,?_,?_⟩;simp[Instr.mapUpdate,run_underlying ht,Go.MapKept.run_getObj_map hb,K.check,tH K he,hx,Go.MapKept.run_setObj_map _ hb];rfl;rw[om _ _ _ _ (eZ hb),if_pos rfl];simp only[mw] at he⊢;simp[he];rw[Array.toList_push,xN,pairwise_append];refine⟨hs,oL,fun a ha b hb'=>?_⟩;obtain⟨e,he',rfl⟩:=mem_map.1 ha;simp at hb';subst hb';exact hc e he';intro e he';rw[Array.toList_push] at he';rcases zD.1 he' with h1|h1;exact Nat.lt_succ_of_lt (hc e h1);simp at h1;subst h1;exact Nat.lt_succ_self _
def i4.del{t et ty:TypeId}(ht:P.underlying t=some (.map kt et))(K:nc P kt kv){b:Nat}{f:List (α×Value)}(h:i4 kv w b f)(x:α): ∃o,(Builtin.delete_ #[t,kt] ty #[.map (some b),kv x]).run P w=.ok (.tuple #[]) (gR w b o)/\i4 kv (gR w b o) b (match posOf x f with|some q=>f.eraseIdx q.1|none=>f):=by
 obtain⟨es,c,hb,he,hs,hc⟩:=h;cases hp:posOf x f with
 | none=>
  refine⟨.map es c,?_,es,c,?_,he,hs,hc⟩;simp[Builtin.delete_,run_underlying ht,Go.MapKept.run_getObj_map hb,K.check,tH K he,hp,Go.MapKept.run_setObj_map _ hb];rfl;rw[om _ _ _ _ (eZ hb),if_pos rfl]
 | some q=>
  have h1:(es.eraseIdxIfInBounds q.1).toList=es.toList.eraseIdx q.1:=oL;refine⟨.map (es.eraseIdxIfInBounds q.1) c,?_,es.eraseIdxIfInBounds q.1,c,?_,?_,?_,?_⟩;simp[Builtin.delete_,run_underlying ht,Go.MapKept.run_getObj_map hb,K.check,tH K he,hp,Go.MapKept.run_setObj_map _ hb];rfl;rw[om _ _ _ _ (eZ hb),if_pos rfl];rw[h1];simp only[mw] at he⊢;rw[uN,he,<- uN];rw[h1,uN];exact hs.sublist (eraseIdx_sublist _ _);rw[h1];exact fun e he'=>hc e (mem_of_mem_eraseIdx he')
def qxy{t et:TypeId}(ht:P.underlying t=some (.map kt et)){b:Nat}{c:Nat}(hb:w.heap[b]?=some (.map es c)): (Instr.range t (.map (some b))).run P w=.ok (.pointer (some ⟨w.heap.size,0,none⟩)) (w.alloc (.mapIter (some b) c #[] c)):=
 run_range_map w t kt et b es c ht hb
def qAN{b it c:Nat}{ty:TypeId}{Ke:WP}{Ks:Value->Value->WP}(hb:w.heap[b]?=some (.map es c))(hi:w.heap[it]?=some (.mapIter (some b) c seen c))(hc:∀e∈es.toList,e.born<c)(ke:(∀e∈es.toList,e.born∈seen.toList)->Ke w)(ks:∀e∈es.toList,e.born∉seen.toList->∀w',m7 w w'->Ks e.key e.val (gR w' it (.mapIter (some b) c (seen.push e.born) c))): mY ((Instr.next (.pointer (some (dg it))) false ty).run P w) Ke Ks:=by
 have htest:(!seen.isEmpty&&!es.isEmpty&&es.all (fun x=>decide (x.born>=c)))=false:=next_test_false seen es c c hc (zM _);have hlt:=eZ hi;let L:=leftOf es seen;have hmem:∀x∈L.toList,x∈es.toList/\x.born∉seen.toList:=(by intro x hx;have:x∈es.toList.filter (fun e=>!seen.contains e.born):=(by simpa[L,leftOf] using hx);have h2:=mem_filter.1 this;exact⟨h2.1,by simpa using h2.2⟩);have e1:L.filter (fun x=>decide (x.born<c))=L:=(by apply Array.toList_inj.1;rw[Array.toList_filter];exact filter_eq_self.2 fun x hx=>yA (hc x (hmem x hx).1));have e2:L.filter (fun x=>decide (x.born>=c)) = #[]:=by apply Array.toList_inj.1;rw[Array.toList_filter];exact filter_eq_nil_iff.2 fun x hx=>by have:=hc x (hmem x hx).1;simp;omega
 have hL:es.filter (fun e=>!seen.contains e.born)=L:=rfl;have hsz:∀x∈es.toList,x.born∉seen.toList->x∈L.toList:=fun x hx hn=>by have:x∈es.toList.filter (fun e=>!seen.contains e.born):=mem_filter.2 ⟨hx,by simpa using hn⟩;simpa[L,leftOf] using this
 clear_value L;unfold mY;by_cases h0:L.size=0;left;have hE:L = #[]:=Array.eq_empty_of_size_eq_zero h0;refine⟨w,?_,ke fun e he=>Classical.byContradiction fun hn=>?_⟩;simp only[Instr.next,getObj,Sem.run_bind,Sem.run,hi,hb,Result.andThen,htest,Bool.false_eq_true,if_false,hL,e1,e2,Array.append_empty];subst hE;simp[choose,Sem.run,Question.forced]
 have:=hsz e he hn
 rw[hE] at this;simp at this;right;have hne:L.isEmpty=false:=(by simp[Array.isEmpty,h0]);have hch:∃(j:Nat) (w1:World),j<L.size/\m7 w w1/\(choose (Question.mapNext L.size)).run P w=.ok j w1:=by by_cases hf:L.size<=1;exact⟨0,w,oJ,.refl _,by simp[choose,Sem.run,Question.forced,hf]⟩;exact⟨_,w.drew,Nat.mod_lt _ oJ,(m7.refl w).drew,by simp only[choose,Sem.run,Question.forced,decide_eq_true_eq,hf,if_false,Question.cut];rfl⟩
 obtain⟨j,w1,hj,hal,hrun⟩:=hch;have hmj:=hmem L[j] oL;have hi1:w1.heap[it]?=some (.mapIter (some b) c seen c):=(by rw[hal.heap];exact hi);refine⟨_,_,_,?_,ks L[j] hmj.1 hmj.2 w1 hal⟩;simp only[Instr.next,getObj,Sem.run_bind,Sem.run,hi,hb,Result.andThen,htest,Bool.false_eq_true,if_false,hL,e1,e2,Array.append_empty,hne,Array.empty_append,Array.size_map,hrun,Array.getElem?_map,Array.getElem?_eq_getElem hj,Option.map_some,setObj,hi1];rfl
def qAt{b it c s:Nat}{e:MapEntry}{K:Value->Value->WP}(hb:w.heap[b]?=some (.map es c))(hi:w.heap[it]?=some (.mapIter (some b) s (seen.push e.born) c))(he:e∈es.toList)(hs:(es.toList.map (·.born)).Pairwise (· < ·))(k:K e.key e.val w):ng ((Instr.entry (.pointer (some (dg it)))).run P w) K:=by have hn:(es.toList.map (·.born)).Nodup:=hs.imp (fun h=>Nat.ne_of_lt h);refine⟨e.key,e.val,w,?_,k⟩;have hf:es.find? (·.born==e.born)=some e:=(by rw[<- Array.find?_toList];exact find_born e es.toList hn he);simp[Instr.entry,getObj,Sem.run,hi,hb,hf,Result.andThen]
end
end
section
open Go List
variable {B:List Nat} {K:Sl->WP} {M news olds:List Value} {T:TypeId} {cs:Array Value} {n:Nat} {z:Value}
variable {w:World} {P:Program}
def D6{b:Nat}{o:Obj}(hb:w.heap[b]?=some o):dQ [b] w w [(b,o)]:=⟨fun p hp=>by rw[zE.1 hp];exact hb,oL,.refl _ _,fun p hp=>.inl (by rw[zE.1 hp];simp)⟩
def qtQ{t tx ty e:TypeId}{i:TypeInfo}{a:Addr}{cap m:Nat}{x:Value}(ht:P.underlying t=some (.slice e))(hi:P.info? e=some i)(hz:i.zero=some z)(hsz:i.size=1)(hzs:z.cells.size=1)(hl:olds.length=n)(hc:∀(j:Nat) u,olds[j]?=some u->w.cell? (a.add j)=some u)(hs:Src P 1 tx x m news w)(hg:cap<n+m)(hbytes:(n+m)*i.bytes<=140737488355328)(h63:n+m<=9223372036854775807)(kk:∀b cs c w',b=w.heap.size->w'.heap[b]?=some (.cells cs e (0,0))->Fr [] w w'->n+m<=c->c<=cs.size->cs.toList.take (n+m)=olds++news->K ⟨some (dg b),n+m,c⟩ w'): Pt.run dh ((Builtin.append_ #[t,tx] ty #[.slice (some a) n cap,x]).run P w) K:=by subst hl;have hnl:=hs.newsLen;rw[xT] at hnl;refine t6 ⟨_,_,_⟩ _ (run_append_grow_src w t tx ty e i z ht hi hz (some a) olds.length cap olds (by rw[hsz];exact run_firstCells_some _ _ _ _ _ _ _ (by rw[xT]) (oP hc)) x m _ (by rw[hsz];exact hs) hg oJ (growslice_fits hg hbytes)) ?_;have hge:olds.length+m<=grownCap w (olds.length+m) cap e:=grownCap_ge w (olds.length+m) cap e;refine kk w.heap.size _ (grownCap w (olds.length+m) cap e) _ rfl (by rw[wH];exact if_pos rfl) ((Fr.refl [] w).drew.alloc _) hge ?_ ?_;rw[Array.size_append,Ca,hzs,size_toArray,zF,hnl];generalize grownCap w (olds.length+m) cap e=G at hge⊢;omega;rw[Array.toList_append,take_append_of_le_length (by simp[hnl]),zS (by simp[hnl])]
def FB{t tn ty e:TypeId}{i:TypeInfo}{kn kq:IntKind}{base:Option Addr}{cap k:Nat}(ht:P.underlying t=some (.slice e))(htn:P.underlying tn=some (.int kn))(hi:P.info? e=some i)(hz:i.zero=some z)(hsz:i.size=1)(hzs:z.cells.size=1)(hl:olds.length=n)(hb:base=none->olds=[])(hc:∀a,base=some a->∀(j:Nat) u,olds[j]?=some u->w.cell? (a.add j)=some u)(hk:0<k)(hg:cap<n+k)(hbytes:(n+k)*i.bytes<=140737488355328)(h63:n+k<=9223372036854775807)(kk:∀b cs c w',b=w.heap.size->w'.heap[b]?=some (.cells cs e (0,0))->Fr [] w w'->n+k<=c->c<=cs.size->cs.toList.take n=olds->K ⟨some (dg b),n+k,c⟩ w'): Pt.run dh ((Builtin.append_ #[t,tn] ty #[.slice base n cap,.int kq k]).run P w) K:=by
 subst hl;have hold:(Builtin.firstCells i.size olds.length (.slice base olds.length cap)).run P w.drew=.ok olds.toArray w.drew:=by
  rw[hsz];cases base with
  | none=>rw[hb rfl];exact run_firstCells_none _ _ _ _ _
  | some a=>exact run_firstCells_some _ _ _ _ _ _ _ (by rw[xT]) (by simpa using hc a rfl)
 have hge:olds.length+k<=grownCap w (olds.length+k) cap e:=grownCap_ge w (olds.length+k) cap e;have hbk:k*i.bytes<=(olds.length+k)*i.bytes:=Nat.mul_le_mul_right _ oJ;refine t6 ⟨_,_,_⟩ _ (Lib.run_append_grow_zeros w t tn ty e i z kq kn ht htn hi hz base olds.length cap olds hold k hk oJ hg oJ oJ (growslice_fits hg hbytes))<|kk w.heap.size _ (grownCap w (olds.length+k) cap e) _ rfl (by rw[wH];exact if_pos rfl) ((Fr.refl [] w).drew.alloc _) hge ?_ ?_;rw[Array.size_append,Array.size_append,Ca,Ca,hzs,size_toArray];generalize grownCap w (olds.length+k) cap e=G at hge⊢;omega;rw[Array.toList_append,Array.toList_append,zV];exact take_left' oL
def qtR{t tx ty e:TypeId}{i:TypeInfo}{b cap m:Nat}{x:Value}(hb:w.heap[b]?=some (.cells cs T (0,0)))(ht:P.underlying t=some (.slice e))(hi:P.info? e=some i)(hsz:i.size=1)(hs:Src P 1 tx x m news w)(hroom:n+m<=cap)(hcs:cap<=cs.size)(kk:∀w',w'.heap[b]?=some (.cells (dR cs n news) T (0,0))->Fr [b] w w'->K ⟨some (dg b),n+m,cap⟩ w'): Pt.run dh ((Builtin.append_ #[t,tx] ty #[.slice (some (dg b)) n cap,x]).run P w) K:=by have hnl:=hs.newsLen;rw[xT] at hnl;refine t6 ⟨_,_,_⟩ _ (run_append_room_src w t tx ty e i ht hi b 0 n cap x m _ (by rw[hsz];exact hs) hroom (fun j hj=>?_) (fun j hj=>?_)) ?_;rw[hnl] at hj;rw[hsz,ji hb];have:n+j<cs.size:=oJ;simp[this];simp[World.frozen?,hb];rw[wt hb,hsz,xT,xS];exact kk _ (by rw[om _ _ _ _ (eZ hb),if_pos rfl]) (sh (eZ hb) _)
def vR{t t' ty el b:Nat}{o dLen dCap:Nat}{src:Sl}{vs:List Value}{K:Int->WP}(hb:w.heap[b]?=some (.cells cs T (0,0)))(hu:P.underlying t=some (.slice el))(hs:(P.info? el).map (·.size)=some 1)(hlen:vs.length=Nat.min src.len dLen)(hvs:vs≠[]->∃a,src.a=some a/\∀(j:Nat) v,vs[j]?=some v->w.cell? (a.add j)=some v)(h1:∀v∈vs,v.oneCell'=true)(hfit:o+vs.length<=cs.size)(k:∀w',w'.heap[b]?=some (.cells (dR cs o vs) T (0,0))->Fr [b] w w'->K vs.length w'): Pt.run [gN.one (Cell.int .i64)] ((Builtin.copy_ #[t,t'] ty #[.slice (some (dg b o)) dLen dCap,.slice src.a src.len src.cap]).run P w) K:=
 (D6 hb).vd 0 rfl hu hs hlen hvs h1 hfit fun w' h'=>k w' (h'.at (i:=0) rfl) h'.fr
def qtX{t e ty b o c:Nat}{K:Unit->WP}(hb:w.heap[b]?=some (.cells cs T (0,0)))(ht:P.underlying t=some (.slice e))(hz:(P.info? e).bind (·.zero)=some z)(hzc:z.cells = #[z])(h1:z.oneCell'=true)(hn:0<n)(hfit:o+n<=cs.size)(k:∀w',w'.heap[b]?=some (.cells (dR cs o (List.replicate n z)) T (0,0))->Fr [b] w w'->K () w'): Pt.run [] ((Builtin.clear_ #[t] ty #[.slice (some (dg b o)) n c]).run P w) K:=by refine⟨(),_,Lib.run_clear_slice w t e ty z ht (uG hz) hzc h1 b o n c hn (fun j hj=>?_) (fun j hj=>?_),?_⟩;rw[ji hb];simp[show o+j<cs.size by omega];simp[World.frozen?,hb];rw[wt hb];exact k _ (by rw[om _ _ _ _ (eZ hb),if_pos rfl]) (sh (eZ hb) _)
def qwU{i:Nat}{v:Value}(hi:i<=M.length)(hL:M.length+1<=cs.size)(hM:cs.toList.take i=M.take i):(dR (dR cs (i+1) (M.drop i)) i [v]).toList.take (M.length+1)=M.take i++[v]++M.drop i:=by have hl:cs.toList.length=cs.size:=Array.length_toList;rw[pN _ _ _ (by rw[mR];simp;omega),pN _ _ _ oO];have e0:(cs.toList.take (i+1)++(M.drop i++cs.toList.drop (i+1+(M.drop i).length))).take i=M.take i:=(by rw[take_append_of_le_length oO,take_take,xR oJ,hM]);rw[zV (cs.toList.take (i+1)),e0];rw[drop_append,drop_of_length_le (l:=cs.toList.take (i+1)) (by rw[yL];exact Nat.min_le_left _ _),xI];have e:(List.take (i+1) cs.toList).length=i+1:=oO;rw[e,xM,Nat.sub_self,xF,<- zV];exact take_left' oO
def qwS{i:Nat}{v:Value}(hi:i<=M.length)(hL:M.length+1<=cs.size)(hM:cs.toList.take i=M.take i):(dR (dR cs i [v]) (i+1) (M.drop i)).toList.take (M.length+1)=M.take i++[v]++M.drop i:=by have hl:cs.toList.length=cs.size:=Array.length_toList;rw[pN _ _ _ (by rw[mR];simp;omega),pN _ _ _ oO,hM];have e:(M.take i++[v]).length=i+1:=oO;rw[take_append_of_le_length (l₁:=M.take i++[v]) (by rw[e];exact zM _),zS (l:=M.take i++[v]) (by rw[e];exact zM _)];exact take_left' oO
def qwx{i:Nat}(hi:i+1<=M.length)(hM:cs.toList.take M.length=M):(dR (dR cs i (M.drop (i+1))) (M.length-1) [z]).toList.take (M.length-1)=M.take i++M.drop (i+1):=by
 have hl:cs.toList.length=cs.size:=Array.length_toList;have hle:M.length<=cs.size:=by
  have:=congrArg List.length hM
  rw[yL,hl] at this;omega
 have hi':cs.toList.take i=M.take i:=by
  conv=>rhs;rw[<- hM]
  rw[take_take,xR oJ]
 rw[pN _ _ _ (by rw[mR];simp;omega),pN _ _ _ oO,hi'];have e:(M.take i++M.drop (i+1)).length=M.length-1:=oO;rw[take_append_of_le_length (l₁:=M.take i++M.drop (i+1)) (by rw[e];exact zM _),zS (l:=M.take i++M.drop (i+1)) (by rw[e];exact zM _),zV];exact take_left' e
def qog{tS tR e:TypeId}{i:TypeInfo}{a b oa ob la ca lb cb:Nat}{ca' cb':Array Value}{Ta Tb:TypeId}{fb:Nat×Nat}(ht:P.underlying tS=some (.slice e))(hi:P.info? e=some i)(ha:w.heap[a]?=some (.cells ca' Ta (0,0)))(hb:w.heap[b]?=some (.cells cb' Tb fb))(hne:a≠b)(hpos:cb'.size≠0): (Extern.SlicesOverlaps.overlaps #[tS,tS] #[tR] #[.slice (some (dg a oa)) la ca,.slice (some (dg b ob)) lb cb]).run P w=.ok (.bool false) w:=
 Lib.run_overlaps_apart w tS tR e ht i.size (fun w=>by simp[sizeOf,typeInfo,hi]) (dg a oa) (dg b ob) la ca lb cb hne Ta Tb ca'.size cb'.size (by simp[World.shape?,ha]) (by simp[World.shape?,hb]) hpos (by simp[World.frozen?,ha]) (by simp[World.frozen?,ha])
section
variable {α:Type} {enc:α->List Value} {e:α->Value} {k:Nat}
def zk(he:∀x,enc x=[e x])(l:List α):l.flatMap enc=l.map e:=by
 induction l with
 | nil=>rfl
 | cons a l ih=>rw[yH,ih,he];rfl
def eQ.ptr{s:Sl}{l:List α}(h:eQ enc 1 w s l B)(hl:l≠[]):∃b cs T,B=[b]/\s.a=some (dg b)/\w.heap[b]?=some (.cells cs T (0,0))/\s.len=l.length/\s.len<=s.cap/\s.cap<=cs.size/\cs.toList.take l.length=l.flatMap enc:=by rcases h with ⟨_,h,_⟩|⟨b,o,cs,T,h1,rfl,h3,h4,h5,h6,h7,h8⟩;exact absurd h hl;exact⟨b,cs,T,h1,h3,h4,h5,h6,oJ,by simpa using h8⟩
def qqI{i:Nat}{v:Value}(hi:i<M.length)(hM:cs.toList.take M.length=M):(dR cs i [v]).toList.take M.length=M.set i v:=by
 have hl:cs.toList.length=cs.size:=Array.length_toList;have hle:M.length<=cs.size:=by
  have:=congrArg List.length hM
  rw[yL,hl] at this;omega
 have hi':cs.toList.take i=M.take i:=by
  conv=>rhs;rw[<- hM]
  rw[take_take,xR oJ]
 have hd:(cs.toList.drop (i+1)).take (M.length-(i+1))=M.drop (i+1):=by
  conv=>rhs;rw[<- hM]
  rw[drop_take]
 rw[pN _ _ _ oO,hi',set_eq_take_append_cons_drop,if_pos hi,zV,take_append,zS (by rw[yL];omega)];have e1:M.length-(M.take i).length=(M.length-(i+1))+1:=oO;rw[e1,singleton_append,take_succ_cons];simp only[xM];rw[hd]
def eQ.A5(he:∀x,enc x=[e x]){s:Sl}{l:List α}{b:Nat}{i:Nat}{x:α}{v:Value}{K:WP}(h:eQ enc 1 w s l [b])(hi:i<l.length)(hv:v=e x)(h1:v.oneCell'=true)(kk:∀w',eQ enc 1 w' s (l.set i x) [b]->Fr [b] w w'->K w'):Pt.st (dg b i) [v] w K:=by
 subst hv;obtain⟨b',cs,T,hB,h2,h3,h4,h5,h6,h7⟩:=h.ptr (fun e=>by rw[e] at hi;exact absurd hi (xY _));cases hB;refine qP h3 _ rfl (by simp[h1]) oO fun w' hb f=>kk w' (.inr ⟨b,0,_,T,rfl,rfl,h2,hb,by rw[xG];exact h4,h5,by rw[mR];omega,?_⟩) f;have hm:=zk he l
 have:=qqI (cs:=cs) (M:=l.flatMap enc) (i:=i) (v:=e x) (by rw[hm,zK];exact hi) (by rw[hm,zK,<- hm];exact h7)
 rw[xF,xT,xG,zk he,map_set,<- hm];rw[hm,zK] at this;rw[hm];exact this
def eQ.ve{s:Sl}{l:List α}{i:Int}{K:Addr->Prop}(h:eQ enc 1 w s l B)(hi:i=n)(hn:n<l.length)(kk:∀b,B=[b]->K (dg b n)):idx s i 1 K:=by
 obtain⟨b,cs,T,hB,h2,h3,h4,h5,h6,h7⟩:=h.ptr (fun e=>by rw[e] at hn;exact absurd hn (xY _));subst hi;refine qj h2 ⟨oJ,oJ⟩ ?_
 have:=kk b hB
 simpa using this
def eQ.one(he:∀x,enc x=[e x]){b c:Nat}{l:List α}(hb:w.heap[b]?=some (.cells cs T (0,0)))(hn:n=l.length)(hc:n<=c)(hcs:c<=cs.size)(hl:cs.toList.take l.length=l.map e):eQ enc 1 w ⟨some (dg b),n,c⟩ l [b]:=
 .inr ⟨b,0,cs,T,rfl,rfl,rfl,hb,hn,hc,by simpa using hcs,by rw[xF,xT,zk he];exact hl⟩
end
end
section
open Go
section
variable {P:Program} {n m:Nat} {e:Env} {a:Act} {w:World}
end
def oA:type_of% @dQ.ld:=@dQ.ld
def oB:type_of% @dQ.BK:=@dQ.BK
def oC:type_of% @dQ.dK:=@dQ.dK
def oD:type_of% @dQ.sz:=@dQ.sz
def oE:type_of% @dQ.start:=@dQ.start
def oF:type_of% @dQ.drew:=@dQ.drew
def oG:type_of% @dQ.st':=@dQ.st'
def oH:type_of% @dQ.st:=@dQ.st
def oI:type_of% @dQ.fg:=@dQ.fg
end
end Go.Pt
