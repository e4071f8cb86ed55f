/- Conditions: those that stand in each line. -/
import Derived.WalkKit
import Derived.RangeFuncLeaves
import Derived.RangeFuncRecord
import Derived.RangeFuncIn
import Derived.ChangeKeysEq
import Derived.Carry
import Derived.ProofKit
import Derived.OpenShut
import Derived.ArgAppend
import Derived.Deep.AppendSrc
import Derived.Deep.Slices
import Derived.MapKept
import Derived.Laws.CopyRow
import Derived.Laws.IdiomCopy
import Derived.Laws.Externs
import Derived.Laws.IdiomRangeMap
import Derived.Lib.SliceRun
import Derived.Lib.Overlaps
import Derived.Lib.AppendZerosOnto
set_option linter.unusedVariables false
set_option linter.unusedSimpArgs false
set_option linter.defProp false
namespace Go.Pt
abbrev co:Array Go.Value:=#[.bool false,.slice none 0 0,.slice none 0 0,.slice none 0 0]
abbrev cq:Array Go.Value:=#[.slice none 0 0,.slice none 0 0,.slice none 0 0,.slice none 0 0,.slice none 0 0,.slice none 0 0,.slice none 0 0,.int .u64 0,.bool false,.slice none 0 0]
abbrev cv:Array Go.Value:=#[.int .u32 0,.bool false,.slice none 0 0,.int .u32 0]
abbrev cw:Array Go.Value:=#[.bool false,.slice none 0 0,.slice none 0 0,.slice none 0 0,.int .i64 0]
abbrev cX:Array Go.Value:=#[.int .u64 0,.int .u64 0]
abbrev cY:Array Go.Value:=#[.int .u64 0,.int .u64 0,.int .u64 0,.int .u64 0]
abbrev cZ:Array Go.Value:=#[.slice none 0 0,.slice none 0 0]
abbrev c6(a b:Int):Go.Value:=.agg #[.int .u64 a,.int .u64 b]
abbrev dd(b:Nat)(o:Nat:=0):Go.Addr:=⟨b,o,none⟩
abbrev dB(b:Nat):Go.Value:=.pointer (some ⟨b,0,none⟩)
section
open Go
variable {K:Bool->Prop} {ds:List Deferred} {t:TypeId} {y:Operand}
theorem oJ{p:Prop}(h:p:=by omega):p:=h
theorem oK{p:Prop}(h:p:=by kernel_rfl):p:=h
theorem oL{p:Prop}(h:p:=by simp):p:=h
theorem oM{p:Prop}(h:p:=by decide):p:=h
theorem oN{p:Prop}(h:p:=by dsimp only;omega):p:=h
theorem oO{p:Prop}(h:p:=by simp;omega):p:=h
theorem oP{p q:Prop}(x:q)(h:q->p:=by intro h;simpa using h):p:=h x
inductive Cell where
  | int (k:IntKind) | bool | str | ptr | slice | map | any
  deriving DecidableEq
abbrev dc:List Cell:=[.int .u64,.int .u64]
structure Sl where
  a:Option Addr
  len:Nat
  cap:Nat
abbrev Sl.v (s:Sl):Value:=.slice s.a s.len s.cap
abbrev WP:=World->Prop
abbrev pW (r:Nat):Option Addr:=some (dd r)
abbrev _root_.Go.Value.i (n:Int):Value:=.int .i64 n
abbrev Cell.i:Cell:=.int .i64
abbrev _root_.Go.Value.b (n:Int):Value:=.int .u8 n
abbrev Cell.b:Cell:=.int .u8
abbrev _root_.Go.Value.u (n:Int):Value:=.int .u32 n
abbrev Cell.u:Cell:=.int .u32
def zA:type_of% @List.getElem?_eq_getElem:=@List.getElem?_eq_getElem
def zB:type_of% @of_decide_eq_false:=@of_decide_eq_false
def zC:type_of% @of_decide_eq_true:=@of_decide_eq_true
def zD:type_of% @List.mem_append:=@List.mem_append
def zE:type_of% @List.mem_singleton:=@List.mem_singleton
def zF:type_of% @List.length_append:=@List.length_append
def zG:type_of% @List.mem_cons:=@List.mem_cons
def zH:type_of% @List.mem_append_left:=@List.mem_append_left
def zI:type_of% @List.mem_append_right:=@List.mem_append_right
def zJ:type_of% @Int.toNat_natCast:=@Int.toNat_natCast
def zK:type_of% @List.length_map:=@List.length_map
def zL:type_of% @Nat.le_trans:=@Nat.le_trans
def zM:type_of% @Nat.le_refl:=@Nat.le_refl
def zN:type_of% @List.mem_cons_of_mem:=@List.mem_cons_of_mem
def zO:type_of% @Nat.le_of_ble_eq_true:=@Nat.le_of_ble_eq_true
def zP:type_of% @List.getElem?_eq_some_iff:=@List.getElem?_eq_some_iff
def zQ:type_of% @List.getElem?_map:=@List.getElem?_map
def zR:type_of% @beq_eq_false_iff_ne:=@beq_eq_false_iff_ne
def zS:type_of% @List.take_of_length_le:=@List.take_of_length_le
def zT:type_of% @Bool.not_eq_true':=@Bool.not_eq_true'
def zU:type_of% @decide_eq_false:=@decide_eq_false
def zV:type_of% @List.append_assoc:=@List.append_assoc
def zW:type_of% @List.getElem_mem:=@List.getElem_mem
def zX:type_of% @List.drop_eq_getElem_cons:=@List.drop_eq_getElem_cons
def zY:type_of% @List.mem_map_of_mem:=@List.mem_map_of_mem
def zZ:type_of% @decide_eq_true:=@decide_eq_true
def yA:type_of% @Bool.and_eq_true:=@Bool.and_eq_true
def yB:type_of% @List.length_drop:=@List.length_drop
def yC:type_of% @Nat.lt_of_lt_of_le:=@Nat.lt_of_lt_of_le
def yD:type_of% @Bool.not_eq_false':=@Bool.not_eq_false'
def yE:type_of% @List.mem_of_getElem?:=@List.mem_of_getElem?
def yF:type_of% @List.take_succ_eq_append_getElem:=@List.take_succ_eq_append_getElem
def yG:type_of% @List.flatMap_cons:=@List.flatMap_cons
def yH:type_of% @List.length_cons:=@List.length_cons
def yI:type_of% @List.pairwise_cons:=@List.pairwise_cons
def yJ:type_of% @List.mem_flatMap:=@List.mem_flatMap
def yK:type_of% @List.length_take:=@List.length_take
def yL:type_of% @List.nodup_append:=@List.nodup_append
def yM:type_of% @decide_eq_true_iff:=@decide_eq_true_iff
def yN:type_of% @Option.some.inj:=@Option.some.inj
def yO:type_of% @beq_iff_eq:=@beq_iff_eq
def yP:type_of% @List.flatMap_append:=@List.flatMap_append
def yQ:type_of% @List.getD_eq_getElem?_getD:=@List.getD_eq_getElem?_getD
def yR:type_of% @List.getElem?_eq_none:=@List.getElem?_eq_none
def yS:type_of% @Option.map_eq_some_iff:=@Option.map_eq_some_iff
def yT:type_of% @List.mem_of_mem_drop:=@List.mem_of_mem_drop
def yU:type_of% @List.mem_of_mem_take:=@List.mem_of_mem_take
def yV:type_of% @Nat.eq_of_beq_eq_true:=@Nat.eq_of_beq_eq_true
def yW:type_of% @Nat.zero_le:=@Nat.zero_le
def yX:type_of% @List.getElem?_append_right:=@List.getElem?_append_right
def yY:type_of% @List.getElem?_append_left:=@List.getElem?_append_left
def yZ:type_of% @List.getElem?_drop:=@List.getElem?_drop
def xA:type_of% @List.getElem?_take:=@List.getElem?_take
def xB:type_of% @List.filter_append:=@List.filter_append
def xC:type_of% @List.drop_drop:=@List.drop_drop
def xD:type_of% @List.take_append_drop:=@List.take_append_drop
def xE:type_of% @List.drop_zero:=@List.drop_zero
def xF:type_of% @List.length_set:=@List.length_set
def xG:type_of% @List.append_nil:=@List.append_nil
def xH:type_of% @List.nil_append:=@List.nil_append
def xI:type_of% @List.cons_append:=@List.cons_append
def xJ:type_of% @List.length_nil:=@List.length_nil
def xK:type_of% @Array.getElem?_toList:=@Array.getElem?_toList
def xL:type_of% @List.length_singleton:=@List.length_singleton
def xM:type_of% @List.map_append:=@List.map_append
def xN:type_of% @List.map_cons:=@List.map_cons
def xO:type_of% @List.map_take:=@List.map_take
def xP:type_of% @List.map_drop:=@List.map_drop
def xQ:type_of% @Nat.min_eq_left:=@Nat.min_eq_left
def xR:type_of% @Nat.zero_add:=@Nat.zero_add
def xS:type_of% @Nat.mul_one:=@Nat.mul_one
def xT:type_of% @Nat.add_mul:=@Nat.add_mul
def xU:type_of% @Option.getD_some:=@Option.getD_some
def xV:type_of% @Option.getD_none:=@Option.getD_none
def xW:type_of% @List.not_mem_nil:=@List.not_mem_nil
def xX:type_of% @Nat.not_lt_zero:=@Nat.not_lt_zero
def xY:type_of% @List.take_length:=@List.take_length
def xZ:type_of% @List.dropLast_concat_getLast:=@List.dropLast_concat_getLast
def vA:type_of% @Prod.mk.inj:=@Prod.mk.inj
def vB:type_of% @List.cons.inj:=@List.cons.inj
def vC:type_of% @Nat.add_sub_cancel_left:=@Nat.add_sub_cancel_left
def vD:type_of% @List.drop_eq_nil_of_le:=@List.drop_eq_nil_of_le
def iN{c:Prop}[Decidable c]{α:Type _}{t e:α}(h:¬c:=by omega):ite c t e=e:=if_neg h
def iP{c:Prop}[Decidable c]{α:Type _}{t e:α}(h:c:=by omega):ite c t e=t:=if_pos h
@[reducible] def Cell.El:Cell->Type
  | .int _=>Int
  | .bool=>Bool
  | .str=>ByteArray
  | .ptr=>Option Addr
  | .slice=>Sl
  | .map=>Option Nat
  | .any=>Value
def Cell.mk:(c:Cell)->c.El->Value
  | .int k,n=>.int k n
  | .bool,b=>.bool b
  | .str,s=>.string s
  | .ptr,p=>.pointer p
  | .slice,s=>.slice s.a s.len s.cap
  | .map,m=>.map m
  | .any,v=>v
def Cell.un:(c:Cell)->Value->Option c.El
  | .int k,.int j n=>if k=j then some n else none
  | .bool,.bool b=>some b
  | .str,.string s=>some s
  | .ptr,.pointer p=>some p
  | .slice,.slice a l c=>some ⟨a,l,c⟩
  | .map,.map m=>some m
  | .any,v=>some v
  | _,_=>none
def Cell.lw{c:Cell}{v:Value}{x:c.El}(h:c.un v=some x):c.mk x=v:=by
  cases c<;>cases v<;>simp[Cell.un] at h<;>first
    | (obtain⟨rfl,rfl⟩:=h;rfl)
    | (subst h;rfl)
@[reducible] def HL:List Cell->Type
  | []=>Unit
  | [c]=>c.El
  | c::d::cs=>c.El×HL (d::cs)
def HL.mk:(cs:List Cell)->HL cs->List Value
  | [],_=>[]
  | [c],x=>[c.mk x]
  | c::d::cs,x=>c.mk x.1::HL.mk (d::cs) x.2
def HL.j3:∀(cs:List Cell) (x:HL cs),(HL.mk cs x).length=cs.length
  | [],_=>rfl
  | [_],_=>rfl
  | _::d::cs,x=>by simp only[HL.mk,yH,HL.j3 (d::cs) x.2]
def HL.un:(cs:List Cell)->List Value->Option (HL cs)
  | [],[]=>some ()
  | [c],[v]=>c.un v
  | c::d::cs,v::vs=>
    match c.un v,HL.un (d::cs) vs with
    | some x,some y=>some (x,y)
    | _,_=>none
  | _,_=>none
def HL.lw:∀ {cs:List Cell} {vs:List Value} {x:HL cs},HL.un cs vs=some x->HL.mk cs x=vs
  | [],[],_,_=>rfl
  | [],_::_,_,h=>by simp[HL.un] at h
  | [c],[v],x,h=>by simp only[HL.un] at h;simp only[HL.mk,Cell.lw h]
  | [c],[],x,h=>by simp[HL.un] at h
  | [c],_::_::_,x,h=>by simp[HL.un] at h
  | c::d::cs,[],x,h=>by simp[HL.un] at h
  | c::d::cs,v::vs,x,h=>by simp only[HL.un] at h;split at h;rename_i a b ha hb;cases h;simp only[HL.mk,Cell.lw ha,HL.lw hb];cases h
inductive gO where
  | one (c:Cell)
  | agg (cs:List Cell)
  | kN
abbrev de:List gO:=[.one .slice]
abbrev df:List gO:=[.one .i]
abbrev dg:List gO:=[.one .bool]
abbrev dh:List gO:=[.one .slice,.one .i]
abbrev di:List gO:=[.one .i,.one .i]
abbrev dj:List gO:=[.one .b,.one .slice,.one .i]
abbrev dk:List gO:=[.one .slice,.one .slice]
abbrev dl:List gO:=[.one .u,.one .i]
abbrev dm:List gO:=[.one .u]
abbrev dp:List gO:=[.one .i,.one .bool]
abbrev dq:List gO:=[.one .any]
abbrev dr:List gO:=[.one (.int .u64)]
abbrev dt:List gO:=[.one .ptr]
abbrev du:List gO:=[.one .ptr,.one .ptr]
abbrev dv:List gO:=[.one .u,.one .bool]
abbrev dw:List gO:=[.kN,.one .i]
abbrev dx:List gO:=[.one (.int .u64),.one (.int .u64),.one .bool]
abbrev dy:List gO:=[.one .ptr,.one .i]
abbrev dz:List gO:=[.one .slice,.one .slice,.one .bool]
abbrev dA:List gO:=[.one .u,.one .slice,.one .i]
abbrev dC:Sl:=⟨none,0,0⟩
@[reducible] def gO.El:gO->Type
  | .one c=>c.El
  | .agg cs=>HL cs
  | .kN=>List Value
def gO.mk:(t:gO)->t.El->Value
  | .one c,x=>c.mk x
  | .agg cs,x=>.agg (HL.mk cs x).toArray
  | .kN,x=>.agg x.toArray
def gO.un:(t:gO)->Value->Option t.El
  | .one c,v=>c.un v
  | .agg cs,.agg vs=>HL.un cs vs.toList
  | .kN,.agg vs=>some vs.toList
  | .agg _,_=>none
  | .kN,_=>none
def gO.lw{t:gO}{v:Value}{x:t.El}(h:t.un v=some x):t.mk x=v:=by
  cases t with
  | one c=>exact Cell.lw h
  | agg cs=>
    cases v<;>simp only[gO.un] at h<;>first
      | cases h
      | (simp only[gO.mk,HL.lw h])
  | kN=>
    cases v<;>simp only[gO.un] at h<;>first
      | (cases h;done)
      | (cases h;simp only[gO.mk])
@[reducible] def iO:List gO->Type
  | []=>Unit
  | [t]=>t.El
  | t::u::ts=>t.El×iO (u::ts)
def iO.vals:(ts:List gO)->iO ts->List Value
  | [],_=>[]
  | [t],x=>[t.mk x]
  | t::u::ts,x=>t.mk x.1::iO.vals (u::ts) x.2
def fP:(ts:List gO)->iO ts->Value
  | [],_=>.tuple #[]
  | [t],x=>t.mk x
  | t::u::ts,x=>.tuple (iO.vals (t::u::ts) x).toArray
abbrev Env:=List (Nat×Value)
def Env.get:Env->Nat->Option Value
  | [],_=>none
  | (k,v)::r,t=>bif Nat.beq k t then some v else Env.get r t
def Env.ev (e:Env):Operand->Option Value
  | .tmp t=>e.get t
  | .const v=>some v
  | .global g=>some (.pointer (some (dd g)))
  | .func f=>some (.func (.func f) #[] #[])
def Env.put (e:Env) (dst:Option Tmp) (v:Value):Env:=
  match dst with
  | some d=>(d,v)::e
  | none=>e
def Env.pp (e:Env):List Operand->Option (List Value)
  | []=>some []
  | x::xs=>match e.ev x,e.pp xs with
    | some v,some vs=>some (v::vs)
    | _,_=>none
abbrev Live:=List (Nat×gO)
@[reducible] def rP (l:Live):Type:=iO (l.map (·.2))
def pH:(l:Live)->rP l->Env
  | [],_=>[]
  | [(t,y)],x=>[(t,y.mk x)]
  | (t,y)::p::r,x=>(t,y.mk x.1)::pH (p::r) x.2
def nA:(l:Live)->Env->Option (rP l)
  | [],_=>some ()
  | [(t,y)],e=>match e.get t with|some v=>y.un v|none=>none
  | (t,y)::p::r,e=>
    match e.get t with
    | some v=>match y.un v with
      | some x=>match nA (p::r) e with
        | some z=>some (x,z)
        | none=>none
      | none=>none
    | none=>none
def iZ (w:World) (a:Addr):Nat->List Value->Prop
  | _,[]=>True
  | i,[v]=>w.cell? (a.add i)=some v
  | i,v::vs=>w.cell? (a.add i)=some v/\iZ w a (i+1) vs
structure lA where
  ld:(c:Cell)->Addr->World->(c.El->Prop)->Prop
  dJ:(cs:List Cell)->Addr->World->(HL cs->Prop)->Prop
  iH:Nat->Addr->World->(List Value->Prop)->Prop
  mZ:(c:Cell)->List Value->Nat->(c.El->Prop)->Prop
  i7:(cs:List Cell)->List Value->Nat->(HL cs->Prop)->Prop
  fi:TypeId->World->(Nat->World->Prop)->Prop
  st:Addr->List Value->World->(World->Prop)->Prop
  new:Obj->World->(Nat->World->Prop)->Prop
  idx:Sl->Int->Nat->(Addr->Prop)->Prop
  i8:ByteArray->Int->(Int->Prop)->Prop
  jr:(c:Cell)->Nat->List Value->Int->(c.El->Prop)->Prop
  fB:Sl->Option Int->Option Int->Option Int->Nat->(Sl->Prop)->Prop
  js:ByteArray->Option Int->Option Int->(ByteArray->Prop)->Prop
  iY:Addr->Nat->Option Int->Option Int->Option Int->Nat->(Sl->Prop)->Prop
  lV:TypeId->List Value->Nat->Nat->Int->Int->World->(Sl->World->Prop)->Prop
  gT:Prop->Prop->Prop
  call:FuncId->List Value->(ts:List gO)->World->(iO ts->World->Prop)->Prop
  dV:Value->List Value->(ts:List gO)->World->(iO ts->World->Prop)->Prop
  inv:Value->String->List Value->(ts:List gO)->World->(iO ts->World->Prop)->Prop
  run:(ts:List gO)->Result Value->(iO ts->World->Prop)->Prop
  fc:(ts:List gO)->(World->Result Value)->World->(iO ts->Prop)->Prop
  iM:Result Unit->(World->Prop)->Prop
  join:(S:Type)->((S->World->Prop)->Prop)->(S->World->Prop)->Prop
  loop:(S:Type)->((S->World->Prop)->S->World->Prop)->S->World->Prop
  held:List (World->Prop)->World->Prop->Prop
  ext:FuncId->List Value->(ts:List gO)->World->(iO ts->World->Prop)->Prop
  jR:Value->(pts:List gO)->(iO pts->(World->(World->Prop)->Prop)->(World->Prop)->(Nat->World->Prop)->World->Prop)->(Nat->World->Prop)->List (Nat->World->Prop)->World->Prop
  eI:Nat->World->(World->Prop)->Prop
  mH:Sl->Nat->(Addr->Prop)->Prop
  mz:Result Value->(World->Prop)->(Value->Value->World->Prop)->Prop
  mI:Result Value->(Value->Value->World->Prop)->Prop
def cellOf:Value->Cell
  | .int k _=>.int k
  | .bool _=>.bool
  | .string _=>.str
  | .pointer _=>.ptr
  | .slice _ _ _=>.slice
  | .map _=>.map
  | _=>.any
def nP (P:Program) (t:TypeId):gO:=
  match (P.info? t).bind (·.zero) with
  | some (.agg cs)=>bif Nat.ble cs.size 16 then .agg (cs.toList.map cellOf) else .kN
  | some v=>.one (cellOf v)
  | none=>.one .any
def nt (P:Program) (t:TypeId):List gO:=
  match P.underlying t with
  | some (.tuple ts)=>ts.toList.map (nP P)
  | _=>[nP P t]
def eW (P:Program) (t:TypeId):Bool:=
  match P.underlying t with
  | some (.struct _)|some (.array _ _)=>true
  | _=>false
def eG (P:Program) (t:TypeId):Nat:=((P.info? t).map (·.size)).getD 0
def lR (e:Env):Option Operand->Option (Option Int)
  | none=>some none
  | some x=>match e.ev x with
    | some (.int _ n)=>some (some n)
    | _=>none
def lU:Operand->Bool
  | .const (.int _ n)=>n != 0
  | _=>false
def lS:Operand->Bool
  | .const (.int _ n)=>decide (0<=n)
  | _=>false
def rr (n:Nat):Operand->Option Nat
  | .const (.int _ i)=>if 0<=i/\i<(n:Int) then some i.toNat else none
  | _=>none
def qh (size:Nat) (len:Nat) (zero:List Value) (parts:List (Nat×Value)):Option (Array Value):=
  Instr.fill (fun i=>some (i*size,size)) ((Array.range (len*size)).map (zero.toArray[·%zero.toArray.size]!)) parts
def ln (e:Env):List (Nat×Operand)->Option (List (Nat×Value))
  | []=>some []
  | (i,x)::r=>match e.ev x,ln e r with
    | some v,some vs=>some ((i,v)::vs)
    | _,_=>none
inductive Cls where
  | pure | read | wt
  deriving DecidableEq
def iq (P:Program) (f:FuncId):Bool:=match P.funcs[f]? with|some fn=>fn.body.isNone||(fn.name== "runtime.NumGoroutine")|none=>true
def mJ (P:Program) (t:TypeId):Bool:=(P.info? t).isSome&&(P.underlying t).isSome
def ul (P:Program) (t:TypeId):Bool:=
  match P.underlying t with
  | some (.int _)|some .bool|some .string=>true
  | _=>false
def wj (P:Program) (t:TypeId):Bool:=match P.underlying t with|some (.map _ _)=>true|_=>false
def tf (P:Program) (t:TypeId):Bool:=match P.underlying t with|some (.slice _)=>true|_=>false
def vz (P:Program) (t:TypeId):Bool:=match P.underlying t with|some .string=>true|_=>false
def sF (P:Program) (t:TypeId):Bool:=match P.underlying t with|some (.int _)=>true|_=>false
def ET (P:Program) (t:TypeId):Bool:=match P.underlying t with|some (.array _ _)=>true|_=>false
def iE:Operand->Bool
  | .const (.pointer none)=>true
  | .const (.slice none _ _)=>true
  | .const (.map none)=>true
  | .const .nilIface=>true
  | .const .nilFunc=>true
  | _=>false
def xv (P:Program):Op->Cls
  | .move _ | .assign _ | .pick .. | .nilCheck _ | .unOp .. | .extract .. | .field .. | .fieldAddr .. | .makeInterface .. | .makeFunc .. | .build ..
  | .indexAddr .. | .index .. | .slice .. | .sliceToArrayPointer ..=>.pure
  | .binOp op t x y _=>
    match op with
    | .eql | .neq=>if ul P t||iE x||iE y then .pure else .read
    | _=>.pure
  | .convert s d _=>if sF P s&&sF P d then .pure else if tf P s&&vz P d then .read else .wt
  | .load .. | .typeAssert ..=>.read
  | .lookup ..=>.read
  | .call { callee:=.builtin .len,argTypes,.. }=>if wj P (argTypes.getD 0 0) then .read else .pure
  | .call { callee:=.builtin .cap,.. } | .call { callee:=.builtin .min,.. } | .call { callee:=.builtin .max,.. }=>.pure
  | _=>.wt
def qX (op:BinOp) (k:IntKind) (a b:Int):Option Value:=
  match op with
  | .add=>some (.int k (k.wrap (a+b)))
  | .sub=>some (.int k (k.wrap (a-b)))
  | .mul=>some (.int k (k.wrap (a*b)))
  | .and=>some (.int k (bits .and k a b))
  | .or=>some (.int k (bits .or k a b))
  | .xor=>some (.int k (bits .xor k a b))
  | .andNot=>some (.int k (bits .andNot k a b))
  | .eql=>some (.bool (a==b))
  | .neq=>some (.bool (a != b))
  | .lss=>some (.bool (decide (a<b)))
  | .leq=>some (.bool (decide (a<=b)))
  | .gtr=>some (.bool (decide (a>b)))
  | .geq=>some (.bool (decide (a>=b)))
  | _=>none
def qR (op:BinOp) (a b:ByteArray):Option Value:=
  match op with
  | .lss=>some (.bool (Op.bytesLess a.toList b.toList))
  | .leq=>some (.bool (Op.bytesLess a.toList b.toList||a.toList==b.toList))
  | .gtr=>some (.bool (!(Op.bytesLess a.toList b.toList||a.toList==b.toList)))
  | .geq=>some (.bool (!Op.bytesLess a.toList b.toList))
  | _=>none
def isIface:Value->Bool
  | .nilIface=>true
  | .iface _ _=>true
  | _=>false
def pA:Value->Bool
  | .nilIface=>true
  | _=>false
def ue:Value->Bool
  | .nilFunc=>true
  | .func _ _ _=>true
  | _=>false
def pG:Value->Bool
  | .nilFunc=>true
  | _=>false
def ru (C:lA) (P:Program) (t:TypeId) (v u:Value) (K:Bool->Prop):Prop:=
  match P.underlying t with
  | some (.pointer _)=>match v,u with | .pointer p,.pointer none=>K p.isNone|_,_=>False
  | some (.slice _)=>match v,u with | .slice a _ _,.slice none _ _=>K a.isNone|_,_=>False
  | some (.map _ _)=>match v,u with | .map r,.map none=>K r.isNone|_,_=>False
  | some (.interface _)=>match u with | .nilIface=>C.gT (isIface v=true) (K (pA v))|_=>False
  | some (.func _ _ _)=>match u with | .nilFunc=>C.gT (ue v=true) (K (pG v))|_=>False
  | _=>False
def uy (C:lA) (P:Program) (t:TypeId) (x y:Operand) (e:Env) (K:Bool->Prop):Prop:=
  match e.ev x,e.ev y with
  | some a,some b=>
    bif iE y then ru C P t a b K else bif iE x then ru C P t b a K else
    match a,b with
    | .int k a,.int j b=>bif k==j then K (a==b) else False
    | .bool a,.bool b=>match P.underlying t with|some .bool=>K (a==b)|_=>False
    | .string a,.string b=>K (a.toList==b.toList)
    | _,_=>False
  | _,_=>False
def gr (C:lA) (P:Program) (o:Oper) (e:Env) (w:World) (K:Value->Prop):Prop:=
  match o.op with
  | .move x=>match e.ev x with|some v=>K v|none=>False
  | .assign x=>match e.ev x with|some v=>K v|none=>False
  | .nilCheck x=>
    match e.ev x with
    | some (.pointer p)=>match p with
      | some a=>K (.pointer (some a))
      | none=>False
    | _=>False
  | .pick c a b=>
    match e.ev c,e.ev a,e.ev b with
    | some (.bool t),some x,some y=>match t with|true=>K x|false=>K y
    | _,_,_=>False
  | .binOp .quo t x y yt=>
      match e.ev x,e.ev y with
      | some (.int k a),some (.int j b)=>bif k==j then (bif lU y then K (.int k (k.wrap (a.tdiv b))) else C.gT (b≠0) (K (.int k (k.wrap (a.tdiv b))))) else False
      | _,_=>False
  | .binOp .rem t x y yt=>
      match e.ev x,e.ev y with
      | some (.int k a),some (.int j b)=>bif k==j then (bif lU y then K (.int k (a.tmod b)) else C.gT (b≠0) (K (.int k (a.tmod b)))) else False
      | _,_=>False
  | .binOp .shl t x y yt=>
      match e.ev x,e.ev y with
      | some (.int k a),some (.int _ b)=>bif lS y then K (.int k (k.wrap (a*2^min b.toNat k.bits))) else C.gT (0<=b) (K (.int k (k.wrap (a*2^min b.toNat k.bits))))
      | _,_=>False
  | .binOp .shr t x y yt=>
      match e.ev x,e.ev y with
      | some (.int k a),some (.int _ b)=>bif lS y then K (.int k (a.fdiv (2^min b.toNat k.bits))) else C.gT (0<=b) (K (.int k (a.fdiv (2^min b.toNat k.bits))))
      | _,_=>False
  | .binOp .eql t x y _=>uy C P t x y e (fun r=>K (.bool r))
  | .binOp .neq t x y _=>uy C P t x y e (fun r=>K (.bool (!r)))
  | .binOp op t x y _=>
    match e.ev x,e.ev y with
    | some (.int k a),some (.int j b)=>bif k==j then (match qX op k a b with|some v=>K v|none=>False) else False
    | some (.string a),some (.string b)=>match op with
      | .add=>C.gT (((a.size+b.size:Nat):Int)<=IntKind.i64.max) (K (.string (a++b)))
      | op=>match qR op a b with|some v=>K v|none=>False
    | _,_=>False
  | .unOp op _ x=>
    match e.ev x with
    | some (.int k n)=>match op with
      | .neg=>K (.int k (k.wrap (0-n)))
      | .xor=>K (.int k (bits .xor k (if k.signed then -1 else k.max) n))
      | _=>False
    | some (.bool b)=>match op with
      | .not=>K (.bool (!b))
      | _=>False
    | _=>False
  | .convert s d x=>
    match P.underlying s,e.ev x with
    | some _,some (.int _ n)=>match P.underlying d with
      | some (.int k)=>K (.int k (k.wrap n))
      | _=>False
    | _,_=>False
  | .extract x i=>
    match e.ev x with
    | some (.tuple vs)=>match vs.toList[i]? with|some v=>K v|none=>False
    | _=>False
  | .field t x f=>
    match P.underlying t,e.ev x with
    | some (.struct fs),some (.agg cs)=>match fs[f]? with
      | some fd=>bif !mJ P fd.type then False else match nP P t with
       | .kN=>match nP P fd.type with
         | .one c=>bif eW P fd.type then False else C.mZ c cs.toList fd.offset (fun y=>K (c.mk y))
         | .agg cl=>bif eW P fd.type&&Nat.beq (eG P fd.type) cl.length then C.i7 cl cs.toList fd.offset (fun y=>K (.agg (HL.mk cl y).toArray)) else False
         | .kN=>bif eW P fd.type then K (.agg (cs.toList.extract fd.offset (fd.offset+eG P fd.type)).toArray) else False
       | _=>bif eW P fd.type then K (.agg (cs.toList.extract fd.offset (fd.offset+eG P fd.type)).toArray) else match cs.toList[fd.offset]? with
        | some v=>K v
        | none=>False
      | none=>False
    | _,_=>False
  | .fieldAddr t x f=>
    match P.underlying t with
    | some (.struct fs)=>match fs[f]? with
      | some fd=>bif Nat.beq (eG P fd.type) 0 then False else match e.ev x with
        | some (.pointer p)=>match p with
          | some a=>K (.pointer (some (a.add fd.offset)))
          | none=>False
        | _=>False
      | none=>False
    | _=>False
  | .makeInterface t x=>
    match P.underlying t,e.ev x with
    | some (.interface _),_=>False
    | some _,some v=>K (.iface t v)
    | _,_=>False
  | .makeFunc fn first cap=>
    match e.pp first.toList,e.pp cap.toList with
    | some f,some c=>K (.func fn f.toArray c.toArray)
    | _,_=>False
  | .build t parts=>
    match ln e parts.toList with
    | some vs=>match nP P t with
      | .kN=>C.fc [.kN] (fun w'=>(Instr.build t vs.toArray).run P w') w (fun y=>K (.agg y.toArray))
      | _=>match (Instr.build t vs.toArray).run P w with
        | .ok v _=>K v
        | .halt _ _=>False
    | none=>False
  | .indexAddr t x ix=>
    match P.underlying t with
    | some (.slice el)=>bif !mJ P el then False else match e.ev x,e.ev ix with
      | some (.slice a l c),some (.int _ i)=>C.idx ⟨a,l,c⟩ i (eG P el) (fun ad=>K (.pointer (some ad)))
      | _,_=>False
    | some (.array n el)=>bif !mJ P el then False else match e.ev x with
      | some (.pointer (some a))=>match rr n ix with
        | some i=>K (.pointer (some (a.add (i*eG P el))))
        | none=>match e.ev ix with
          | some (.int _ i)=>C.gT (0<=i/\i<(n:Int)) (K (.pointer (some (a.add (i.toNat*eG P el)))))
          | _=>False
      | _=>False
    | _=>False
  | .sliceToArrayPointer t x=>
    match P.underlying t with
    | some (.array n _)=>match e.ev x with
      | some (.slice a l c)=>C.mH ⟨a,l,c⟩ n (fun ad=>K (.pointer (some ad)))
      | _=>False
    | _=>False
  | .index t x ix=>
    match P.underlying t with
    | some .string=>match e.ev x,e.ev ix with
      | some (.string s),some (.int _ i)=>C.i8 s i (fun b=>K (.int .u8 b))
      | _,_=>False
    | some (.array n el)=>match e.ev x,e.ev ix with
      | some (.agg cs),some (.int _ i)=>
        match nP P el with
        | .one c=>bif eW P el||!(Nat.beq (eG P el) 1)||!mJ P el then False else C.jr c n cs.toList i (fun y=>K (c.mk y))
        | .agg cl=>bif !(eW P el)||!(Nat.beq (eG P el) cl.length)||!mJ P el then False else C.gT (0<=i/\i<(n:Int)) (C.i7 cl cs.toList (i.toNat*cl.length) (fun y=>K (.agg (HL.mk cl y).toArray)))
        | .kN=>False
      | _,_=>False
    | _=>False
  | .slice t x lo hi mx=>
    bif mx.isSome&&hi.isNone then False else
    match lR e lo,lR e hi,lR e mx with
    | some l,some h,some m=>
      match P.underlying t with
      | some (.slice el)=>bif !mJ P el then False else match e.ev x with
        | some (.slice a n c)=>C.fB ⟨a,n,c⟩ l h m (eG P el) (fun s=>K (.slice s.a s.len s.cap))
        | _=>False
      | some .string=>match e.ev x,m with
        | some (.string s),none=>C.js s l h (fun r=>K (.string r))
        | _,_=>False
      | some (.array n el)=>bif !mJ P el then False else match e.ev x with
        | some (.pointer (some a))=>C.iY a n l h m (eG P el) (fun s=>K (.slice s.a s.len s.cap))
        | _=>False
      | _=>False
    | _,_,_=>False
  | .call { callee:=.builtin b,argTypes,args }=>
    match b with
    | .len=>match (argTypes[0]?).bind P.underlying,e.pp args.toList with
      | some (.slice _),some [.slice _ n _]=>K (.int .i64 n)
      | some .string,some [.string s]=>K (.int .i64 s.size)
      | some (.array n _),some [_]=>K (.int .i64 n)
      | _,_=>False
    | .cap=>match (argTypes[0]?).bind P.underlying,e.pp args.toList with
      | some (.slice _),some [.slice _ _ c]=>K (.int .i64 c)
      | _,_=>False
    | .min=>match e.pp args.toList with
      | some [.int k x,.int _ y]=>K (.int k (if y<x then y else x))
      | _=>False
    | .max=>match e.pp args.toList with
      | some [.int k x,.int _ y]=>K (.int k (if y>x then y else x))
      | _=>False
    | _=>False
  | _=>False
def lM (C:lA) (P:Program) (o:Oper) (e:Env) (w:World) (K:Value->(World->Prop)->Prop):Prop:=
  match o.op with
  | .load t x=>
    match e.ev x with
    | some (.pointer p)=>match p with
      | some a=>
        match nP P t with
        | .one c=>bif !mJ P t then False else bif eW P t then False else C.ld c a w (fun y=>K (c.mk y) (fun w'=>w'.cell? a=some (c.mk y)))
        | .agg cs=>bif eW P t&&Nat.beq (eG P t) cs.length then C.dJ cs a w (fun y=>K (.agg (HL.mk cs y).toArray) (fun w'=>iZ w' a 0 (HL.mk cs y))) else False
        | .kN=>bif eW P t then C.iH (eG P t) a w (fun y=>K (.agg y.toArray) (fun w'=>iZ w' a 0 y)) else False
      | none=>False
    | _=>False
  | .lookup t m k ok=>
    match e.ev m,e.ev k with
    | some vm,some vk=>C.fc (nt P o.type) (fun w'=>(Instr.lookup t vm vk ok).run P w') w (fun y=>K (fP _ y) (fun w'=>(Instr.lookup t vm vk ok).run P w'=.ok (fP _ y) w'))
    | _,_=>False
  | .typeAssert x xt as0 ok=>
    match e.ev x with
    | some v=>C.fc (nt P o.type) (fun w'=>(Instr.typeAssert v xt as0 ok).run P w') w (fun y=>K (fP _ y) (fun w'=>(Instr.typeAssert v xt as0 ok).run P w'=.ok (fP _ y) w'))
    | none=>False
  | .binOp op t x y _=>
    match e.ev x,e.ev y with
    | some a,some b=>C.fc dg (fun w'=>(do eqGuard op t x y a b;binOp op t a b:Sem Value).run P w') w (fun r=>K (.bool r) (fun w'=>(do eqGuard op t x y a b;binOp op t a b:Sem Value).run P w'=.ok (.bool r) w'))
    | _,_=>False
  | .convert s d x=>
    match e.ev x with
    | some v=>C.fc [.one .str] (fun w'=>(convert s d v).run P w') w (fun r=>K (.string r) (fun w'=>(convert s d v).run P w'=.ok (.string r) w'))
    | none=>False
  | .call { callee:=.builtin .len,argTypes,args }=>
    match e.pp args.toList with
    | some vs=>C.fc [.one (.int .i64)] (fun w'=>(Builtin.len_ argTypes o.type vs.toArray).run P w') w (fun r=>K (.int .i64 r) (fun w'=>(Builtin.len_ argTypes o.type vs.toArray).run P w'=.ok (.int .i64 r) w'))
    | none=>False
  | _=>False
def iQ (C:lA) (P:Program) (o:Oper) (e:Env) (w:World) (K:Value->World->Prop):Prop:=
  match o.op with
  | .store t x y=>
    match e.ev y with
    | some v=>match e.ev x with
      | some (.pointer p)=>match p with
        | some a=>match nP P t with
          | .kN=>bif mJ P t then C.gT (v.cells.toList.length=eG P t) (C.st a v.cells.toList w (fun w'=>K undef w')) else False
          | _=>bif mJ P t&&Nat.beq (eG P t) v.cells.size then C.st a v.cells.toList w (fun w'=>K undef w') else False
        | none=>False
      | _=>False
    | none=>False
  | .alloc t=>
    match nP P t with
    | .kN=>C.fi t w (fun b w'=>K (.pointer (some (dd b))) w')
    | _=>match (P.info? t).bind (·.zero) with
      | some z=>C.new (.cells z.cells t) w (fun b w'=>K (.pointer (some (dd b))) w')
      | none=>False
  | .box t x=>
    match e.ev x with
    | some v=>C.new (.cells v.cells t) w (fun b w'=>K (.pointer (some (dd b))) w')
    | none=>False
  | .buildSlice t len parts=>
    match P.underlying t with
    | some (.slice el)=>
      match (P.info? el).bind (·.zero),ln e parts.toList with
      | some z,some vs=>bif Nat.blt (2^24) (len*eG P el) then False else match nP P el with
       | .kN=>match len,vs with
         | 1,[(0,v)]=>C.gT (v.cells.toList.length=eG P el) (C.new (.cells v.cells el) w (fun b w'=>K (.slice (some (dd b)) 1 1) w'))
         | 0,[]=>C.new (.cells #[] el) w (fun b w'=>K (.slice (some (dd b)) 0 0) w')
         | _,_=>False
       | _=>match qh (eG P el) len (bif Nat.beq (len*eG P el) 0 then [] else z.cells.toList) vs with
        | some cells=>C.new (.cells cells el) w (fun b w'=>K (.slice (some (dd b)) len len) w')
        | none=>False
      | _,_=>False
    | _=>False
  | .makeSlice t l c=>
    match P.underlying t with
    | some (.slice el)=>
      match P.info? el,e.ev l,e.ev c with
      | some i,some (.int _ n),some (.int _ m)=>
        match i.zero with
        | some z=>C.lV el z.cells.toList i.size i.bytes n m w (fun s w'=>K (.slice s.a s.len s.cap) w')
        | none=>False
      | _,_,_=>False
    | _=>False
  | .makeMap t r=>
    match P.underlying t with
    | some (.map _ _)=>match lR e r with
      | some _=>C.new (.map #[] 0) w (fun b w'=>K (.map (some b)) w')
      | none=>False
    | _=>False
  | .mapUpdate t m k x=>
    match e.ev m,e.ev k,e.ev x with
    | some a,some b,some c=>C.iM ((Instr.mapUpdate t a b c).run P w) (fun w'=>K undef w')
    | _,_,_=>False
  | .insert t m k x=>
    match e.ev m,e.ev k,e.ev x with
    | some a,some b,some c=>C.iM ((Instr.mapUpdate t a b c).run P w) (fun w'=>K undef w')
    | _,_,_=>False
  | .range t x=>
    match e.ev x with
    | some v=>C.run dq ((Instr.range t v).run P w) (fun y w'=>K y w')
    | none=>False
  | .next it s=>
    match e.ev it with
    | some v=>C.mz ((Instr.next v s o.type).run P w) (fun w'=>K (.tuple #[.bool false]) w') (fun x y w'=>K (.tuple #[.bool true,x,y]) w')
    | none=>False
  | .entry it=>
    match e.ev it with
    | some v=>C.mI ((Instr.entry v).run P w) (fun x y w'=>K (.tuple #[x,y]) w')
    | none=>False
  | .convert s d x=>
    match e.ev x with
    | some v=>C.run (nt P o.type) ((convert s d v).run P w) (fun y w'=>K (fP _ y) w')
    | none=>False
  | .call { callee:=.builtin b,argTypes,args }=>
    match e.pp args.toList with
    | some vs=>
      match b with
      | .append=>C.run de ((Builtin.append_ argTypes o.type vs.toArray).run P w) (fun y w'=>K (.slice y.a y.len y.cap) w')
      | .copy=>C.run [.one (.int .i64)] ((Builtin.copy_ argTypes o.type vs.toArray).run P w) (fun y w'=>K (.int .i64 y) w')
      | .delete=>C.run [] ((Builtin.delete_ argTypes o.type vs.toArray).run P w) (fun _ w'=>K (.tuple #[]) w')
      | .clear=>C.run [] ((Builtin.clear_ argTypes o.type vs.toArray).run P w) (fun _ w'=>K (.tuple #[]) w')
      | _=>False
    | none=>False
  | .call { callee:=.value (.func f),args,.. }=>
    match e.pp args.toList with
    | some vs=>bif iq P f then C.ext f vs (nt P o.type) w (fun y w'=>K (fP _ y) w') else C.call f vs (nt P o.type) w (fun y w'=>K (fP _ y) w')
    | none=>False
  | .call { callee:=.value x,args,.. }=>
    match e.ev x,e.pp args.toList with
    | some v,some vs=>C.dV v vs (nt P o.type) w (fun y w'=>K (fP _ y) w')
    | _,_=>False
  | .call { callee:=.invoke x name,args,.. }=>
    match e.ev x,e.pp args.toList with
    | some v,some vs=>C.inv v name vs (nt P o.type) w (fun y w'=>K (fP _ y) w')
    | _,_=>False
  | _=>False
def vN (C:lA) (P:Program) (o:Oper) (e:Env) (w:World) (K:Value->World->Prop):Prop:=
  match xv P o.op with
  | .pure=>gr C P o e w (fun v=>K v w)
  | .read=>lM C P o e w (fun v _=>K v w)
  | .wt=>iQ C P o e w K
def guarded (ops:List Oper) (o:Oper) (e:Env) (yes no:Env->Prop):Prop:=
  match o.guard with
  | none=>yes e
  | some (j,want)=>
    match (ops[j]?).bind (·.dst) with
    | none=>False
    | some d=>
      match e.get d with
      | some (.bool b)=>
        match b with
        | true=>match want with
          | true=>yes ((d,.bool true)::e)
          | false=>no ((d,.bool true)::e)
        | false=>match want with
          | true=>no ((d,.bool false)::e)
          | false=>yes ((d,.bool false)::e)
      | some (.tuple _)=>no e
      | _=>False
def pL (C:lA) (P:Program) (ops:List Oper) (K:Env->World->Prop):List Oper->Env->World->Prop
  | [],e,w=>K e w
  | o::rest,e,w=>
    guarded ops o e
      (fun e'=>vN C P o e' w (fun v w'=>pL C P ops K rest (e'.put o.dst v) w'))
      (fun e'=>pL C P ops K rest (e'.put o.dst undef) w)
abbrev Holds:=List (Nat×(World->Prop))
def od (ops:List Oper):Array Nat:=Region.before ops.toArray
def fh (b:Array Nat) (x:Nat) (H:Holds):List (World->Prop):=(H.filter fun p=>!(b.getD x 0).testBit p.1).map (·.2)
def jY (C:lA) (P:Program) (ops:List Oper) (b:Array Nat) (K:Env->World->Prop):List Nat->Holds->Env->World->Prop
  | [],_,e,w=>K e w
  | i::rest,H,e,w=>
    match ops[i]? with
    | none=>False
    | some o=>
      guarded ops o e
        (fun e'=>
          match xv P o.op with
          | .pure=>gr C P o e' w (fun v=>jY C P ops b K rest H (e'.put o.dst v) w)
          | .read=>lM C P o e' w (fun v h=>jY C P ops b K rest ((i,h)::H) (e'.put o.dst v) w)
          | .wt=>iQ C P o e' w (fun v w'=>
              match fh b i H with
              | []=>jY C P ops b K rest H (e'.put o.dst v) w'
              | l=>C.held l w' (jY C P ops b K rest H (e'.put o.dst v) w')))
        (fun e'=>jY C P ops b K rest H (e'.put o.dst undef) w)
def nY (C:lA) (P:Program) (ops:List Oper) (b:Array Nat) (K:Env->World->Prop):List (List Nat)->Env->World->Prop
  | [],_,_=>True
  | [ord],e,w=>jY C P ops b K ord [] e w
  | ord::more,e,w=>jY C P ops b K ord [] e w/\nY C P ops b K more e w
inductive PC where
  | skip
  | region (id:Nat) (ops:List Oper)
  | draw (id:Nat) (ops:List Oper) (orders:List (List Nat))
  | seq (a b:PC)
  | join (live:Live) (a b:PC)
  | cond (c:Operand) (t e:PC)
  | block (id:Nat) (body:PC)
  | loop (live:Live) (body:PC)
  | exit (id:Nat)
  | ret
  | jR (g:Operand) (ps:List Tmp) (pts:List gO) (assign body:PC)
  | other (c:Code)
def PC.erase:PC->Code
  | .skip=>.skip
  | .region id ops=>.region id ops.toArray false
  | .draw id ops _=>.region id ops.toArray true
  | .seq a b=>.seq a.erase b.erase
  | .join _ a b=>.seq a.erase b.erase
  | .cond c t e=>.cond c t.erase e.erase
  | .block id b=>.block id b.erase
  | .loop _ b=>.loop b.erase
  | .exit id=>.exit id
  | .ret=>.ret
  | .jR g ps _ x y=>.rangeFunc g ps.toArray x.erase y.erase
  | .other c=>c
inductive t7 where
  | n
  | j (live:Live)
  | l (live:Live)
  | o (orders:List (List Nat))
  | r (pts:List gO)
def aS:List (Nat×t7)->List t7
  | []=>[]
  | (k,a)::r=>.replicate k .n++a::aS r
def nN (k:Nat):List t7:=.replicate k .n
def jg:Code->List t7->PC×List t7
  | .skip,as0=>(.skip,as0)
  | .region id ops draw,as0=>
    match draw with
    | false=>(.region id ops.toList,as0)
    | true=>match as0 with
      | .o ords::r=>(.draw id ops.toList ords,r)
      | .n::r=>(.draw id ops.toList [List.range ops.size],r)
      | []=>(.draw id ops.toList [List.range ops.size],[])
      | _=>(.other (.region id ops true),as0)
  | .seq a b,as0=>
    match as0 with
    | .j live::r=>
      let x:=jg a r
      let y:=jg b x.2
      (.join live x.1 y.1,y.2)
    | .n::r=>
      let x:=jg a r
      let y:=jg b x.2
      (.seq x.1 y.1,y.2)
    | []=>
      let x:=jg a []
      let y:=jg b x.2
      (.seq x.1 y.1,y.2)
    | _=>(.other (.seq a b),as0)
  | .cond c t f,as0=>
    let x:=jg t as0
    let y:=jg f x.2
    (.cond c x.1 y.1,y.2)
  | .block id b,as0=>
    let x:=jg b as0
    (.block id x.1,x.2)
  | .loop b,as0=>
    match as0 with
    | .l live::r=>
      let x:=jg b r
      (.loop live x.1,x.2)
    | _=>(.other (.loop b),as0)
  | .exit id,as0=>(.exit id,as0)
  | .ret,as0=>(.ret,as0)
  | .rangeFunc g ps x y,as0=>
    match as0 with
    | .r pts::r=>
      let u:=jg x r
      let v:=jg y u.2
      (.jR g ps.toList pts u.1 v.1,v.2)
    | _=>(.other (.rangeFunc g ps x y),as0)
  | c,as0=>(.other c,as0)
def pr (ops:List Oper) (t:Nat):Bool:=ops.any fun o=>match o.dst with|some d=>Nat.beq d t|none=>false
def PC.wr:PC->Nat->Bool
  | .skip,_=>false
  | .region _ ops,t=>pr ops t
  | .draw _ ops _,t=>pr ops t
  | .seq a b,t=>a.wr t||b.wr t
  | .join _ a b,t=>a.wr t||b.wr t
  | .cond _ a b,t=>a.wr t||b.wr t
  | .block _ b,t=>b.wr t
  | .loop _ b,t=>b.wr t
  | .exit _,_=>false
  | .ret,_=>false
  | .jR ..,_=>true
  | .other _,_=>true
def Env.jG (e:Env) (wr:Nat->Bool):Env:=
  match e with
  | []=>[]
  | (t,v)::r=>bif wr t then Env.jG r wr else (t,v)::Env.jG r wr
inductive iB where
  | normal | exit (id:Nat) | ret
abbrev mO:=iB->Env->World->Prop
def mO.j4 (Q:mO) (K:Env->World->Prop):mO:=fun x e w=>
  match x with
  | .normal=>K e w
  | x=>Q x e w
def PC.pt (C:lA) (P:Program):PC->mO->Env->World->Prop
  | .skip,Q,e,w=>Q .normal e w
  | .region _ ops,Q,e,w=>pL C P ops (Q .normal) ops e w
  | .draw _ ops orders,Q,e,w=>nY C P ops (od ops) (Q .normal) orders e w.drew
  | .seq a b,Q,e,w=>a.pt C P (Q.j4 fun e' w'=>b.pt C P Q e' w') e w
  | .join live a b,Q,e,w=>
    C.join (rP live)
      (fun X=>a.pt C P (Q.j4 fun e' w'=>match nA live e' with|some s=>X s w'|none=>False) e w)
      (fun s w'=>b.pt C P Q (pH live s++e.jG (fun t=>a.wr t)) w')
  | .cond c t f,Q,e,w=>
    match e.ev c with
    | some (.bool b)=>match b with
      | true=>t.pt C P Q e w
      | false=>f.pt C P Q e w
    | _=>False
  | .block id body,Q,e,w=>
    body.pt C P (fun x e' w'=>match x with
      | .exit j=>bif Nat.beq j id then Q .normal e' w' else Q (.exit j) e' w'
      | x=>Q x e' w') e w
  | .loop live body,Q,e,w=>
    match nA live e with
    | some s0=>
      C.loop (rP live)
        (fun X s w'=>body.pt C P (Q.j4 fun e' w''=>match nA live e' with|some s'=>X s' w''|none=>False) (pH live s++e.jG (fun t=>body.wr t)) w')
        s0 w
    | none=>False
  | .exit id,Q,e,w=>Q (.exit id) e w
  | .ret,Q,e,w=>Q .ret e w
  | .jR ..,_,_,_=>False
  | .other _,_,_,_=>False
def PC.outs:PC->List iB
  | .skip | .region .. | .draw .. | .other _ | .jR ..=>[]
  | .seq a b | .join _ a b | .cond _ a b=>a.outs++b.outs
  | .block id b=>b.outs.filter fun x=>match x with | .exit j=>!(Nat.beq j id)|_=>true
  | .loop _ b=>b.outs
  | .exit id=>[.exit id]
  | .ret=>[.ret]
def iB.same:iB->iB->Bool
  | .normal,.normal=>true
  | .ret,.ret=>true
  | .exit i,.exit j=>Nat.beq i j
  | _,_=>false
def qt (x:iB):List iB->Nat->Option Nat
  | [],_=>none
  | y::r,i=>bif x.same y then some i else qt x r (i+1)
def pD:Env->List Tmp->List Value->Env
  | e,t::ts,v::vs=>pD ((t,v)::e) ts vs
  | e,_,_=>e
def mU (C:lA) (P:Program) (x y:PC) (ps:List Tmp) (pts:List gO) (e:Env):iO pts->(World->(World->Prop)->Prop)->(World->Prop)->(Nat->World->Prop)->World->Prop:=
  fun u beg N J w'=>x.pt C P (fun z e' w1=>match z with
    | .normal=>beg w1 (fun w2=>y.pt C P (fun z e'' w3=>match z with
        | .normal=>N w3
        | z=>match qt z y.outs 0 with|some i=>J i w3|none=>False) e' w2)
    | _=>False) (pD e ps (iO.vals pts u)) w'
def PC.ye (C:lA) (P:Program):PC->(Option Nat->mO)->Option Nat->Env->World->Prop
  | .seq a b,Q,m,e,w=>a.ye C P (fun m' x e' w'=>match x with | .normal=>b.ye C P Q m' e' w'|x=>Q m' x e' w') m e w
  | .block id body,Q,m,e,w=>body.ye C P (fun m' x e' w'=>match x with
      | .exit j=>bif Nat.beq j id then Q m' .normal e' w' else Q m' (.exit j) e' w'
      | x=>Q m' x e' w') m e w
  | .jR g ps pts x y,Q,m,e,w=>
    match m with
    | some _=>False
    | none=>match e.ev g with
      | none=>False
      | some v=>
        C.jR v pts (mU C P x y ps pts e)
          (fun D w'=>Q (some D) .normal e w') (y.outs.map fun z=>fun D w'=>Q (some D) z e w') w
  | c,Q,m,e,w=>c.pt C P (Q m) e w
def kS (C:lA) (P:Program):List ResultVar->Env->World->(List Value->Prop)->Prop
  | [],_,_,K=>K []
  | .tmp t::r,e,w,K=>
    match e.get t with
    | some v=>kS C P r e w (fun vs=>K (v::vs))
    | none=>False
  | .cell a t::r,e,w,K=>
    match e.get a with
    | some (.pointer (some ad))=>
      match nP P t with
      | .one c=>bif !mJ P t then False else bif eW P t then False else C.ld c ad w (fun y=>kS C P r e w (fun vs=>K (c.mk y::vs)))
      | .agg cs=>bif eW P t&&Nat.beq (eG P t) cs.length then C.dJ cs ad w (fun y=>kS C P r e w (fun vs=>K (.agg (HL.mk cs y).toArray::vs))) else False
      | .kN=>bif eW P t then C.iH (eG P t) ad w (fun y=>kS C P r e w (fun vs=>K (.agg y.toArray::vs))) else False
    | _=>False
def oneOf:List Value->Value
  | [v]=>v
  | vs=>.tuple vs.toArray
def lH:Nat->List Value->Env
  | _,[]=>[]
  | i,v::r=>(i,v)::lH (i+1) r
def vu (C:lA) (P:Program) (rvs:List ResultVar) (c:PC) (args:List Value) (Q:Value->World->Prop) (w:World):Prop:=
  c.pt C P (fun x e w'=>match x with
    | .normal=>kS C P rvs e w' (fun vs=>Q (oneOf vs) w')
    | .ret=>kS C P rvs e w' (fun vs=>Q (oneOf vs) w')
    | .exit _=>False) (lH 0 args) w
def kz:(ts:List gO)->Value->Option (iO ts)
  | [],.tuple _=>some ()
  | [],_=>none
  | [t],v=>t.un v
  | t::u::ts,.tuple vs=>unVals (t::u::ts) vs.toList
  | _::_::_,_=>none
where
  unVals:(ts:List gO)->List Value->Option (iO ts)
  | [],[]=>some ()
  | [t],[v]=>t.un v
  | t::u::ts,v::vs=>
    match t.un v with
    | some x=>match unVals (u::ts) vs with
      | some y=>some (x,y)
      | none=>none
    | none=>none
  | _,_=>none
def uU (C:lA) (m:Option Nat) (w:World) (K:World->Prop):Prop:=match m with|none=>K w|some D=>C.eI D w K
def te (C:lA) (P:Program) (fn:Func) (as0:List t7) (ts:List gO) (args:List Value) (K:iO ts->World->Prop) (w:World):Prop:=
  match fn.body with
  | some c=>(jg c as0).1.ye C P (fun m x e w'=>match x with
      | .exit _=>False
      | _=>uU C m w' (fun w2=>kS C P fn.results.toList e w2 (fun vs=>match kz ts (oneOf vs) with|some x=>K x w2|none=>False))) none (lH 0 args) w
  | none=>False
def vn (C:lA) (P:Program) (fn:Func) (as0:List t7) (ts:List gO) (args:List Value) (K:iO ts->World->Prop) (w:World):Prop:=
  match fn.body with
  | some c=>vu C P fn.results.toList (jg c as0).1 args (fun v w'=>match kz ts v with|some x=>K x w'|none=>False) w
  | none=>False
def ld (c:Cell) (a:Addr) (w:World) (K:c.El->Prop):Prop:=∃x:c.El,w.cell? a=some (c.mk x)/\K x
def dJ (cs:List Cell) (a:Addr) (w:World) (K:HL cs->Prop):Prop:=∃x:HL cs,iZ w a 0 (HL.mk cs x)/\K x
def iH (n:Nat) (a:Addr) (w:World) (K:List Value->Prop):Prop:=∃x:List Value,(x.length=n/\iZ w a 0 x)/\K x
def mZ (c:Cell) (vs:List Value) (off:Nat) (K:c.El->Prop):Prop:=∃x:c.El,vs[off]?=some (c.mk x)/\K x
def i7 (cs:List Cell) (vs:List Value) (off:Nat) (K:HL cs->Prop):Prop:=∃x:HL cs,vs.extract off (off+cs.length)=HL.mk cs x/\K x
def C2 (a:Addr):Nat->List Value->World->(WP)->Prop
 | _,[],w,K=>K w
 | i,v::vs,w,K=>(v.oneCell'=true/\(∃u,w.cell? (a.add i)=some u)/\w.frozen? (a.add i)=false)/\C2 a (i+1) vs (w.setCell (a.add i) v) K
def st (a:Addr) (vs:List Value) (w:World) (K:WP):Prop:=C2 a 0 vs w K
def new (o:Obj) (w:World) (K:Nat->WP):Prop:=K w.heap.size (w.alloc o)
def fi (P:Program) (t:TypeId) (w:World) (K:Nat->WP):Prop:=∃z,(P.info? t).bind (·.zero)=some z/\K w.heap.size (w.alloc (.cells z.cells t))
def idx (s:Sl) (i:Int) (size:Nat) (K:Addr->Prop):Prop:=∃a,s.a=some a/\(0<=i/\i<(s.len:Int))/\K (a.add (i.toNat*size))
def mH (s:Sl) (n:Nat) (K:Addr->Prop):Prop:=∃a,s.a=some a/\n<=s.len/\K a
def i8 (s:ByteArray) (i:Int) (K:Int->Prop):Prop:=∃b:UInt8,(0<=i/\s[i.toNat]?=some b)/\K (b.toNat:Int)
def jr (c:Cell) (n:Nat) (cs:List Value) (i:Int) (K:c.El->Prop):Prop:=∃x:c.El,(0<=i/\i<(n:Int)/\cs[i.toNat]?=some (c.mk x))/\K x
def fB (s:Sl) (lo hi mx:Option Int) (size:Nat) (K:Sl->Prop):Prop:=
 (0<=lo.getD 0/\lo.getD 0<=hi.getD s.len/\hi.getD s.len<=mx.getD s.cap/\mx.getD s.cap<=s.cap)/\
 K ⟨if (mx.getD s.cap).toNat=(lo.getD 0).toNat then s.a else s.a.map (·.add ((lo.getD 0).toNat*size)),(hi.getD s.len).toNat-(lo.getD 0).toNat,(mx.getD s.cap).toNat-(lo.getD 0).toNat⟩
def js (s:ByteArray) (lo hi:Option Int) (K:ByteArray->Prop):Prop:=
 (0<=lo.getD 0/\lo.getD 0<=hi.getD s.size/\hi.getD s.size<=s.size)/\K (s.extract (lo.getD 0).toNat (hi.getD s.size).toNat)
def iY (a:Addr) (n:Nat) (lo hi mx:Option Int) (size:Nat) (K:Sl->Prop):Prop:=
 (0<=lo.getD 0/\lo.getD 0<=hi.getD n/\hi.getD n<=mx.getD n/\mx.getD n<=n)/\
 K ⟨some (if (mx.getD n).toNat=(lo.getD 0).toNat then a else a.add ((lo.getD 0).toNat*size)),(hi.getD n).toNat-(lo.getD 0).toNat,(mx.getD n).toNat-(lo.getD 0).toNat⟩
def gV (zero:List Value) (c:Nat):Array Value:=(Array.range c).map fun i=>zero.toArray[i%zero.toArray.size]!
def lV (el:TypeId) (zero:List Value) (size bytes:Nat) (l c:Int) (w:World) (K:Sl->WP):Prop:=
 (0<=l/\l<=c/\(bytes:Int)*c<=2^48/\c<=2^48)/\K ⟨some ⟨w.heap.size,0,none⟩,l.toNat,c.toNat⟩ (w.alloc (.cells (gV (if c.toNat*size=0 then [] else zero) (c.toNat*size)) el))
def gT (p K:Prop):Prop:=p/\K
def nn (p:Option Addr) (K:Addr->Prop):Prop:=match p with|some a=>K a|none=>False
def call (P:Program) (f:FuncId) (args:List Value) (ts:List gO) (w:World) (K:iO ts->WP):Prop:=
 Calls P f args.toArray w fun e w'=>∃x:iO ts,e=.returned (fP ts x)/\K x w'
def Wd (r:Option Nat):Fence:={ Fence.wide with round:=r }
def dV (P:Program) (v:Value) (args:List Value) (ts:List gO) (w:World) (K:iO ts->WP):Prop:=
 (∃(f:FuncId) (vs:List Value),(do let d <- Deferred.ofValue v args.toArray;invoke d.target d.args:Sem Next).run P w=.ok (.enter f vs.toArray) w/\call P f vs ts w K)\/
 (∃(l f:Nat) (tmps:Array Value) (assign body:Code),(do let d <- Deferred.ofValue v args.toArray;invoke d.target d.args:Sem Next).run P w=.ok (.round l f tmps assign body) w/\
  RoundIn (Wd none) 0 P l f tmps assign body w fun e w'=>∃x:iO ts,e=.returned (fP ts x)/\K x w')
def ext (P:Program) (f:FuncId) (args:List Value) (ts:List gO) (w:World) (K:iO ts->WP):Prop:=
 ∃(x:iO ts) (w':World),(callFunc f args.toArray).run P w=.ok (.value (fP ts x)) w'/\K x w'
def eI (D:Nat) (w:World) (K:WP):Prop:=w.heap[D]?=some (.deferred (some []))/\K (w.putObj D (.deferred none))
def ol (P:Program) (pts:List gO) (body:iO pts->(World->(WP)->Prop)->(WP)->(Nat->WP)->WP) (l:Nat) (R B:Obj) (J:Nat->Obj):Prop:=
 ∀(x:iO pts) (W:World) (K:Bool->WP),W.heap[l]?=some R->
  body x (fun W1 k=>W1.heap[l]?=some R/\k (W1.putObj l B)) (fun W'=>W'.heap[l]?=some B/\K true (W'.putObj l R)) (fun i W'=>W'.heap[l]?=some B/\K false (W'.putObj l (J i))) W->
  dV P (.func (.yield l) #[] #[]) (iO.vals pts x) dg W K
def jR (P:Program) (v:Value) (pts:List gO) (body:iO pts->(World->(WP)->Prop)->(WP)->(Nat->WP)->WP) (done:Nat->WP) (jumps:List (Nat->WP)) (w:World):Prop:=
 ∃(f:FuncId) (lb:List Value),v=.func (.func f) #[] lb.toArray/\iq P f=false/\
 ∀(R B:Obj) (J E:Nat->Obj) (E0:Obj),ol P pts body (w.heap.size+1) R B J->
  call P f (.func (.yield (w.heap.size+1)) #[] #[]::lb) [] ((w.alloc (.deferred (some []))).alloc R) (fun _ W=>
   (W.heap[w.heap.size+1]?=some R/\done w.heap.size (W.putObj (w.heap.size+1) E0))\/
   ∃i k,jumps[i]?=some k/\W.heap[w.heap.size+1]?=some (J i)/\k w.heap.size (W.putObj (w.heap.size+1) (E i)))
def inv (P:Program) (v:Value) (name:String) (args:List Value) (ts:List gO) (w:World) (K:iO ts->WP):Prop:=
 ∃(f:FuncId) (vs:List Value),(callMethod v name args.toArray).run P w=.ok (.enter f vs.toArray) w/\call P f vs ts w K
def run (ts:List gO) (r:Result Value) (K:iO ts->WP):Prop:=∃x w',r=.ok (fP ts x) w'/\K x w'
def fc (ts:List gO) (r:World->Result Value) (w:World) (K:iO ts->Prop):Prop:=∃x,r w=.ok (fP ts x) w/\K x
def iM (r:Result Unit) (K:WP):Prop:=∃w',r=.ok () w'/\K w'
def join (S:Type) (X:(S->WP)->Prop) (Y:S->WP):Prop:=∃Mid:S->WP,X Mid/\∀s w,Mid s w->Y s w
def loop (S:Type) (B:(S->WP)->S->WP) (s:S) (w:World):Prop:=∀I:S->WP,(∀s w,B I s w->I s w)->I s w
def pI:List (WP)->WP
 | [],_=>True
 | [h],w=>h w
 | h::t,w=>h w/\pI t w
def held (l:List (WP)) (w:World) (K:Prop):Prop:=pI l w/\K
def mz (r:Result Value) (Ke:WP) (Ks:Value->Value->WP):Prop:=
 (∃w',r=.ok (.tuple #[.bool false]) w'/\Ke w')\/∃k v w',r=.ok (.tuple #[.bool true,k,v]) w'/\Ks k v w'
def mI (r:Result Value) (K:Value->Value->WP):Prop:=∃k v w',r=.ok (.tuple #[k,v]) w'/\K k v w'
def mi (P:Program):lA where
 ld:=ld
 dJ:=dJ
 iH:=iH
 mZ:=mZ
 i7:=i7
 fi:=fi P
 st:=st
 new:=new
 idx:=idx
 i8:=i8
 jr:=jr
 fB:=fB
 js:=js
 iY:=iY
 lV:=lV
 gT:=gT
 call:=call P
 dV:=dV P
 inv:=inv P
 run:=run
 fc:=fc
 iM:=iM
 join:=join
 loop:=loop
 held:=held
 ext:=ext P
 jR:=jR P
 eI:=eI
 mH:=mH
 mz:=mz
 mI:=mI
def qlt:∀ {l:List (WP)} {w:World},pI l w->∀h∈l,h w
 | [],_,_,_,hm=>by cases hm
 | [x],_,hh,h,hm=>by simp at hm;subst hm;exact hh
 | x::y::t,w,hh,h,hm=>by rcases zG.1 hm with rfl|hm;exact hh.1;exact qlt (l:=y::t) hh.2 h hm
structure Rel (n:Nat) (ds:List Deferred) (e:Env) (a:Act):Prop where
 size:a.tmps.size=n
 defers:a.defers=ds
 get:∀ t v,e.get t=some v->a.tmps.getD t undef=v
def Rel.ev{n:Nat}{ds:List Deferred}{e:Env}{a:Act}(h:Rel n ds e a){x:Operand}{v:Value}(hx:e.ev x=some v):a.eval x=v:=by
 cases x with
 | tmp t=>exact h.get t v hx
 | const u=>simpa[Env.ev,Act.eval] using hx
 | global g=>simpa[Env.ev,Act.eval] using hx
 | func f=>simpa[Env.ev,Act.eval] using hx
def Rel.pp{n:Nat}{ds:List Deferred}{e:Env}{a:Act}(h:Rel n ds e a):∀ {xs:List Operand} {vs:List Value},e.pp xs=some vs->xs.map a.eval=vs
 | [],vs,hx=>by simp[Env.pp] at hx;subst hx;rfl
 | x::xs,vs,hx=>by simp only[Env.pp] at hx;split at hx;rename_i v us h1 h2;cases hx;simp[h.ev h1,h.pp h2];cases hx
def Rel.j5{n:Nat}{e:Env}{a:Act}(h:Rel n ds e a){xs:Array Operand}{vs:List Value}(hx:e.pp xs.toList=some vs):xs.map a.eval=vs.toArray:=by
 have:=h.pp hx
 apply Array.ext';simpa using this
def Env.jD(e:Env)(d t:Nat)(v:Value):Env.get ((d,v)::e) t=if d=t then some v else e.get t:=by
 simp only[Env.get];by_cases h:d=t;subst h;simp;have:Nat.beq d t=false:=by cases hb:Nat.beq d t;rfl;exact absurd (yV hb) h
 simp[this,h]
def Rel.put{n:Nat}{ds:List Deferred}{e:Env}{a:Act}(h:Rel n ds e a){dst:Option Tmp}(hd:∀d,dst=some d->d<n)(v:Value):Rel n ds (e.put dst v) (a.put dst v):=by
 cases dst with
 | none=>exact h
 | some d=>
  refine⟨by simp[Act.put,h.size],by simp[Act.put,h.defers],fun t u hu=>?_⟩;simp only[Env.put,Env.jD] at hu;by_cases hdt:d=t;subst hdt;simp at hu;subst hu
  have:=hd d rfl
  have hs:=h.size;simp[Act.put,hs,this];simp[hdt] at hu
  have:=h.get t u hu
  simpa[Act.put,Array.getElem?_setIfInBounds_ne hdt] using this
def Fj{n:Nat}{e:Env}{a:Act}(h:Rel n ds e a){x:Option Operand}{r:Option Int}(hx:lR e x=some r): (x=none/\r=none)\/∃y k i,x=some y/\r=some i/\a.eval y=.int k i:=by
 cases x with
 | none=>simp[lR] at hx;exact .inl ⟨rfl,hx.symm⟩
 | some y=>
  simp only[lR] at hx;split at hx;rename_i k i he;cases hx;exact .inr ⟨y,k,i,rfl,rfl,h.ev he⟩;cases hx
def eJ {α:Type}:Sem α->Prop
 | .pure _=>True
 | .program k=>∀p,eJ (k p)
 | .mark _ k=>eJ k
 | .halt _=>True
 | _=>False
def eJ.run{α:Type}{P:Program}{s:Sem α}(h:eJ s)(w w' w1:World)(v:α)(hr:s.run P w=.ok v w1):w1=w/\s.run P w'=.ok v w':=by
 induction s with
 | pure a=>simp[Sem.run] at hr⊢;exact⟨hr.2.symm,hr.1⟩
 | program k ih=>exact ih P (h P) hr
 | mark m k ih=>exact ih h hr
 | halt x=>simp[Sem.run] at hr
 | _=>exact h.elim
def eJ.bind{α β:Type}{s:Sem α}{f:α->Sem β}(h:eJ s)(hf:∀a,eJ (f a)):eJ (s >>=f):=by
 show eJ (Sem.bind s f);induction s with
 | pure a=>exact hf a
 | program k ih=>exact fun p=>ih p (h p)
 | mark m k ih=>exact ih h
 | halt x=>trivial
 | _=>exact h.elim
def eJ.pure{α:Type}(a:α):eJ (Pure.pure a:Sem α):=trivial
def eJ.stuck{α:Type}(s:String):eJ (Go.stuck s:Sem α):=trivial
def eJ.Aj{α:Type}(s:Unsupported):eJ (Go.unsupported s:Sem α):=trivial
def eJ.qn:eJ Go.program:=fun _=>trivial
def eJ.underlying(t:TypeId):eJ (Go.underlying t):=by unfold Go.underlying;exact .bind .qn fun p=>by split<;>first|exact .pure _|exact .stuck _
def eJ.typeInfo(t:TypeId):eJ (Go.typeInfo t):=by unfold Go.typeInfo;exact .bind .qn fun p=>by split<;>first|exact .pure _|exact .stuck _
def eJ.zeroValue(t:TypeId):eJ (Go.zeroValue t):=by unfold Go.zeroValue;exact .bind (.typeInfo t) fun p=>by split<;>first|exact .pure _|exact .Aj _
def eJ.sizeOf(t:TypeId):eJ (Go.sizeOf t):=.bind (.typeInfo t) fun _=>.pure _
def eJ.mapM{α β:Type}{f:α->Sem β}(hf:∀a,eJ (f a))(xs:Array α):eJ (xs.mapM f):=by
 rw[Array.mapM_eq_mapM_toList];have:∀l:List α,eJ (l.mapM f):=by
  intro l;induction l with
  | nil=>simp only[List.mapM_nil];exact .pure _
  | cons a l ih=>simp only[List.mapM_cons];exact .bind (hf a) fun b=>.bind ih fun bs=>.pure _
 exact eJ.bind (this _) fun _=>.pure _
def eJ.build(t:TypeId)(ps:Array (Nat×Value)):eJ (Instr.build t ps):=by
 unfold Instr.build;refine .bind (.zeroValue t) fun z=>.bind (.underlying t) fun d=>?_;split
 ·refine .bind (.mapM (fun f=>.bind (.sizeOf _) fun _=>.pure _) _) fun pl=>?_;split<;>first|exact .pure _|exact .stuck _
 ·refine .bind (.sizeOf _) fun s=>?_;split<;>first|exact .pure _|exact .stuck _
 exact .stuck _
section
variable {P:Program} {n:Nat} {ds:List Deferred} {e:Env} {a:Act} {o:Oper} {w:World}
def Ft{i:TypeInfo}(h:P.info? t=some i)(w:World):(typeInfo t).run P w=.ok i w:=by simp[typeInfo,h]
def qa(h:(P.info? t).isSome=true)(w:World):(sizeOf t).run P w=.ok (eG P t) w:=by
 cases hi:P.info? t with
 | none=>simp[hi] at h
 | some i=>simp[sizeOf,eG,Ft hi,hi]
def ui{z:Value}(h:(P.info? t).bind (·.zero)=some z)(w:World):(zeroValue t).run P w=.ok z w:=by
 cases hi:P.info? t with
 | none=>simp[hi] at h
 | some i=>
  simp[hi] at h;simp[zeroValue,Ft hi,h]
def C0{j k:IntKind}(h:(j==k)=true):j=k:=by simpa using h
def uX(h:(P.underlying t).isSome=true)(w:World):(isAgg t).run P w=.ok (eW P t) w:=by
 cases hd:P.underlying t with
 | none=>simp[hd] at h
 | some d=>cases d<;>simp[isAgg,eW,run_underlying hd,hd]
def uV(h:eW P t=true):(P.underlying t).isSome=true:=by unfold eW at h;split at h<;>simp_all
def tl (neg:Bool):BinOp:=if neg then .neq else .eql
def qfI(h:iE y=true):∃u,y=.const u:=by unfold iE at h;split at h<;>first|exact⟨_,rfl⟩|cases h
def sE{v u:Value}{r:Bool}(neg:Bool)(hr:(Op.equalIn 10000 t v u).run P w=.ok r w)(h1:∀k i,v≠.int k i)(h2:∀s,v≠.string s)(h3:∀k i,v≠.float k i)(h4:∀k i j,v≠.complex k i j): (binOp (tl neg) t v u).run P w=.ok (.bool (if neg then !r else r)) w:=by
 have he:(Op.equal t v u).run P w=.ok r w:=hr;cases neg<;>cases v<;>simp only[tl,if_true,if_false,Bool.false_eq_true]<;>
  first
   | exact absurd rfl (h1 _ _)
   | exact absurd rfl (h2 _)
   | exact absurd rfl (h3 _ _)
   | exact absurd rfl (h4 _ _ _)
   | (simp only[binOp];simp[he])
def qjc{x:Operand}{c u v:Value}{op:BinOp}(hv:∀cs,v≠.agg cs):eqGuard op t x (.const c) u v=pure ():=by
 cases op<;>cases u<;>cases v<;>first
  | rfl
  | exact absurd rfl (hv _)
  | (cases x<;>rfl)
def qjH{c u v:Value}{op:BinOp}(hv:∀cs,v≠.agg cs):eqGuard op t (.const c) y u v=pure ():=by
 cases op<;>cases u<;>cases v<;>first
  | rfl
  | exact absurd rfl (hv _)
def qqY{t d:Nat}(D:Nat)(hd:P.underlying t=some (.pointer d))(p:Option Addr)(w:World): (Op.equalIn (D+1) t (.pointer p) (.pointer none)).run P w=.ok p.isNone w/\(Op.equalIn (D+1) t (.pointer none) (.pointer p)).run P w=.ok p.isNone w:=by cases p<;>constructor<;>simp[Op.equalIn,run_underlying hd]
def qm4{t d:Nat}(D:Nat)(hd:P.underlying t=some (.slice d))(p:Option Addr)(i j k l:Nat)(w:World): (Op.equalIn (D+1) t (.slice p i j) (.slice none k l)).run P w=.ok p.isNone w/\(Op.equalIn (D+1) t (.slice none k l) (.slice p i j)).run P w=.ok p.isNone w:=by cases p<;>constructor<;>simp[Op.equalIn,run_underlying hd]
def qqX{t d1 d2:Nat}(D:Nat)(hd:P.underlying t=some (.map d1 d2))(p:Option Nat)(w:World): (Op.equalIn (D+1) t (.map p) (.map none)).run P w=.ok p.isNone w/\(Op.equalIn (D+1) t (.map none) (.map p)).run P w=.ok p.isNone w:=by cases p<;>constructor<;>simp[Op.equalIn,run_underlying hd]
def qm3{t:Nat}{ms}(D:Nat)(hd:P.underlying t=some (.interface ms))(v:Value)(hv:isIface v=true)(w:World): (Op.equalIn (D+1) t v .nilIface).run P w=.ok (pA v) w/\(Op.equalIn (D+1) t .nilIface v).run P w=.ok (pA v) w:=by cases v<;>simp[isIface] at hv<;>constructor<;>simp[Op.equalIn,run_underlying hd,pA]
def qte{t:Nat}{d1 d2 d3}(D:Nat)(hd:P.underlying t=some (.func d1 d2 d3))(v:Value)(hv:ue v=true)(w:World): (Op.equalIn (D+1) t v .nilFunc).run P w=.ok (pG v) w/\(Op.equalIn (D+1) t .nilFunc v).run P w=.ok (pG v) w:=by cases v<;>simp[ue] at hv<;>constructor<;>simp[Op.equalIn,run_underlying hd,pG]
def qpw{v u:Value}(h:ru (mi P) P t v u K): ∃r,K r/\(∀cs,v≠.agg cs)/\(∀cs,u≠.agg cs)/\∀(w:World) (neg:Bool),(binOp (tl neg) t v u).run P w=.ok (.bool (if neg then !r else r)) w/\(binOp (tl neg) t u v).run P w=.ok (.bool (if neg then !r else r)) w:=by
 unfold ru at h;split at h;rename_i d hd;split at h;rename_i p;exact⟨_,h,oL,oL,fun w neg=>⟨sE neg (qqY 9999 hd p w).1 oL oL oL oL,sE neg (qqY 9999 hd p w).2 oL oL oL oL⟩⟩;exact h.elim;rename_i d hd;split at h;rename_i p i j k l;exact⟨_,h,oL,oL,fun w neg=>⟨sE neg (qm4 9999 hd p i j k l w).1 oL oL oL oL,sE neg (qm4 9999 hd p i j k l w).2 oL oL oL oL⟩⟩;exact h.elim;rename_i d1 d2 hd;split at h;rename_i p;exact⟨_,h,oL,oL,fun w neg=>⟨sE neg (qqX 9999 hd p w).1 oL oL oL oL,sE neg (qqX 9999 hd p w).2 oL oL oL oL⟩⟩;exact h.elim;rename_i ms hd;split at h;obtain⟨hi,hk⟩:=h;refine⟨_,hk,?_,oL,fun w neg=>⟨sE neg (qm3 9999 hd v hi w).1 ?_ ?_ ?_ ?_,sE neg (qm3 9999 hd v hi w).2 oL oL oL oL⟩⟩<;>
  (intros;intro hv;subst hv;simp[isIface] at hi)
 exact h.elim;rename_i d1 d2 d3 hd;split at h;obtain⟨hi,hk⟩:=h;refine⟨_,hk,?_,oL,fun w neg=>⟨sE neg (qte 9999 hd v hi w).1 ?_ ?_ ?_ ?_,sE neg (qte 9999 hd v hi w).2 oL oL oL oL⟩⟩<;>
  (intros;intro hv;subst hv;simp[ue] at hi)
 exact h.elim;exact h.elim
def qq0{x:Operand}(h:uy (mi P) P t x y e K)(hr:Rel n ds e a): ∃r,K r/\∀(w:World) (neg:Bool),(do eqGuard (tl neg) t x y (a.eval x) (a.eval y);binOp (tl neg) t (a.eval x) (a.eval y):Sem Value).run P w=.ok (.bool (if neg then !r else r)) w:=by
 unfold uy at h;split at h;rename_i va vb hx hy;rw[hr.ev hx,hr.ev hy];cases hny:iE y with
 | true=>
  simp only[hny,cond_true] at h;obtain⟨r,hk,n1,n2,hrun⟩:=qpw h;obtain⟨c,rfl⟩:=qfI hny;exact⟨r,hk,fun w neg=>by rw[qjc n2];exact (hrun w neg).1⟩
 | false=>
  simp only[hny,cond_false] at h;cases hnx:iE x with
  | true=>
   simp only[hnx,cond_true] at h;obtain⟨r,hk,n1,n2,hrun⟩:=qpw h;obtain⟨c,rfl⟩:=qfI hnx;exact⟨r,hk,fun w neg=>by rw[qjH n1];exact (hrun w neg).2⟩
  | false=>
   simp only[hnx,cond_false] at h;split at h;rename_i k p j q;cases hkj:k==j with
   | true=>
    simp only[hkj,cond_true] at h;obtain rfl:=C0 hkj;refine⟨_,h,fun w neg=>?_⟩;cases neg<;>simp[tl,eqGuard_at_int,binOp_eql,binOp_neq,bne]
   | false=>simp only[hkj,cond_false] at h
   rename_i p q;split at h;rename_i hd;refine⟨_,h,fun w neg=>?_⟩;cases neg<;>simp[tl,eqGuard_at_bool,run_eql_bool w t p q hd,run_neq_bool w t p q hd];exact h.elim;rename_i p q;refine⟨_,h,fun w neg=>?_⟩;cases neg<;>simp[tl,eqGuard_at_string,binOp,Op.stringOp];exact h.elim
 exact h.elim
end
end
section
open Go List
variable {K:Value->WP} {N:Act->WP} {Q:Exit->Act->WP} {R:Ending->WP} {S:List Nat} {T t:TypeId} {an:List t7} {args vs:List Value} {cs tmps:Array Value} {f:FuncId} {fn:Func} {fr:Nat×Nat} {guard:Option (Nat×Bool)} {k:IntKind} {listed:Array Bool} {ops:List Oper} {parts ps:Array (Nat×Operand)} {s:Sem Value} {ts:List gO} {w':World} {z:Value}
variable {P:Program} {n:Nat} {ds:List Deferred} {e:Env} {a:Act} {o:Oper} {w:World}
def kJ{w:World}{v:Value}(h:s.run P w=.ok v w'):(do pure (Next.value (<- s)):Sem Next).run P w=.ok (.value v) w':=by simp[h]
def qlp(hr:Rel n ds e a):∀ {ps:List (Nat×Operand)} {vs:List (Nat×Value)},ln e ps=some vs->ps.map (fun (i,x)=>(i,a.eval x))=vs
  | [],vs,h=>by simp[ln] at h;subst h;rfl
  | (i,x)::ps,vs,h=>by simp only[ln] at h;split at h;rename_i v us h1 h2;cases h;simp[hr.ev h1,qlp hr h2];cases h
def zz(hr:Rel n ds e a){vs:List (Nat×Value)}(h:ln e ps.toList=some vs): (ps.map fun (i,x)=>(i,a.eval x))=vs.toArray:=by apply Array.ext';simpa using qlp hr h
def Bd (x:Option Value) (r:Option Int):Prop:=(x=none/\r=none)\/∃k i,x=some (.int k i)/\r=some i
def Bd.of(hr:Rel n ds e a){x:Option Operand}{r:Option Int}(h:lR e x=some r):Bd (x.map a.eval) r:=by rcases Fj hr h with ⟨rfl,rfl⟩|⟨y,k,i,rfl,rfl,hy⟩;exact .inl ⟨rfl,rfl⟩;exact .inr ⟨k,i,by simp[hy],rfl⟩
def Gl{nn cc:Nat}{l h m:Option Int}{lo hi mx:Option Value}(s:Bool)(hl:Bd lo l)(hh:Bd hi h)(hm:Bd mx m)(hmh:(mx.isSome&&hi.isNone)=false)(hb:0<=l.getD 0/\l.getD 0<=h.getD nn/\h.getD nn<=m.getD cc/\m.getD cc<=cc)(w:World): (Instr.sliceBounds s nn cc lo hi mx).run P w=.ok ((l.getD 0).toNat,(h.getD nn).toNat,(m.getD cc).toNat) w:=by obtain⟨b0,b1,b2,b3⟩:=hb;rcases hm with ⟨rfl,rfl⟩|⟨km,im,rfl,rfl⟩;rcases hh with ⟨rfl,rfl⟩|⟨kh,ih,rfl,rfl⟩;rcases hl with ⟨rfl,rfl⟩|⟨kl,il,rfl,rfl⟩;simp[Instr.sliceBounds];simp at b0 b1 b2 b3;simp[Instr.sliceBounds,Instr.sliceBound,asIntOf,b0,b1];rcases hl with ⟨rfl,rfl⟩|⟨kl,il,rfl,rfl⟩;simp at b0 b1 b2 b3;simp[Instr.sliceBounds,Instr.sliceBound,asIntOf,b1,b2];simp at b0 b1 b2 b3;have:0<=ih:=oJ;have:(ih.toNat:Int)=ih:=oJ;simp[Instr.sliceBounds,Instr.sliceBound,asIntOf, *];rcases hh with ⟨rfl,rfl⟩|⟨kh,ih,rfl,rfl⟩;simp at hmh;rcases hl with ⟨rfl,rfl⟩|⟨kl,il,rfl,rfl⟩;simp at b0 b1 b2 b3;have:0<=im:=oJ;have:(im.toNat:Int)=im:=oJ;simp[Instr.sliceBounds,Instr.sliceBound,asIntOf, *];simp at b0 b1 b2 b3;have:0<=ih:=oJ;have:0<=im:=oJ;have:(ih.toNat:Int)=ih:=oJ;have:(im.toNat:Int)=im:=oJ;simp[Instr.sliceBounds,Instr.sliceBound,asIntOf, *]
def qux{op:BinOp}{x y:Int}{u v:Operand}{r:Value}(h:qX op k x y=some r)(w:World): (do eqGuard op t u v (.int k x) (.int k y);binOp op t (.int k x) (.int k y):Sem Value).run P w=.ok r w:=by cases op<;>simp[qX] at h<;>subst h<;>simp[eqGuard_at_int,binOp_add,binOp_sub,binOp_mul,binOp_and,binOp_or,binOp_xor,binOp_andNot,binOp_eql,binOp_neq,binOp_lss,binOp_leq,binOp_gtr,binOp_geq,Op.intArith,intBits_and,intBits_or,intBits_xor,intBits_andNot]
def qu6{op:BinOp}{x y:ByteArray}{u v:Operand}{r:Value}(h:qR op x y=some r)(w:World): (do eqGuard op t u v (.string x) (.string y);binOp op t (.string x) (.string y):Sem Value).run P w=.ok r w:=by cases op<;>simp[qR] at h<;>subst h<;>simp[eqGuard_at_string,binOp,Op.stringOp]
def qmS{y:Operand}(h:lU y=true){b:Int}(hy:e.ev y=some (.int k b)):b≠0:=by unfold lU at h;split at h;simp[Env.ev] at hy;obtain⟨rfl,rfl⟩:=hy;simpa using h;cases h
def qmR{y:Operand}(h:lS y=true){b:Int}(hy:e.ev y=some (.int k b)):0<=b:=by unfold lS at h;split at h;simp[Env.ev] at hy;obtain⟨rfl,rfl⟩:=hy;simpa using h;cases h
def sD(h:(!mJ P t)=false):(P.info? t).isSome=true/\(P.underlying t).isSome=true:=by simpa[mJ] using h
def AG(h:(!mJ P t)=false)(cs:Array Value)(off:Nat)(w:World): (part t cs off).run P w=if eW P t then .ok (.agg (cs.extract off (off+eG P t))) w else match cs[off]? with|some v=>.ok v w|none=>.halt (.stuck "part: no such cell") w:=by
  obtain⟨h1,h2⟩:=sD h;unfold part;simp only[Sem.run_bind,uX h2,Result.andThen_ok];cases eW P t with
  | true=>simp[qa h1]
  | false=>cases cs[off]?<;>simp
set_option maxHeartbeats 1000000 in
def qnH{K:Value->Prop}(h:gr (mi P) P o e w K)(hr:Rel n ds e a): ∃v,(∀w',(execOp a.eval o).run P w'=.ok (.value v) w')/\K v:=by
  obtain⟨dst,op,type,pos,after,guard⟩:=o;cases op;case move x=>
    simp only[gr] at h;split at h;rename_i v hv;exact⟨v,fun w'=>by simp[execOp,hr.ev hv],h⟩;exact h.elim
  case assign x=>
    simp only[gr] at h;split at h;rename_i v hv;exact⟨v,fun w'=>by simp[execOp,hr.ev hv],h⟩;exact h.elim
  case pick c x y=>
    simp only[gr] at h;split at h;rename_i t vx vy hc hx hy;cases t with
    | true=>exact⟨_,fun w'=>by simp[execOp,hr.ev hc,hr.ev hx,asBool],h⟩
    | false=>exact⟨_,fun w'=>by simp[execOp,hr.ev hc,hr.ev hy,asBool],h⟩
    exact h.elim
  case nilCheck x=>
    simp only[gr] at h;split at h;rename_i p hp;split at h;rename_i ad;exact⟨_,fun w'=>by simp[execOp,hr.ev hp],h⟩;exact h.elim;exact h.elim
  case binOp op t x y yt=>
    cases op;case eql=>
      obtain⟨r,hk,hrun⟩:=qq0 h hr;exact⟨_,fun w'=>kJ (by have:=hrun w' false;simpa[tl] using this),hk⟩
    case neq=>
      obtain⟨r,hk,hrun⟩:=qq0 h hr;exact⟨_,fun w'=>kJ (by have:=hrun w' true;simpa[tl] using this),hk⟩
    case quo=>
      simp only[gr] at h;split at h;rename_i k p j q hx hy;cases hkj:k==j with
      | true=>
        obtain rfl:=C0 hkj;simp only[hkj,cond_true] at h;have hq:q≠0/\K (.int k (k.wrap (p.tdiv q))):=by
          cases hc:lU y with
          | true=>simp only[hc,cond_true] at h;exact⟨qmS hc hy,h⟩
          | false=>simp only[hc,cond_false] at h;exact h
        exact⟨_,fun w'=>kJ (by rw[hr.ev hx,hr.ev hy];simp[eqGuard_at_int,binOp_quo,Op.intDiv,hq.1]),hq.2⟩
      | false=>simp only[hkj,cond_false] at h
      exact h.elim
    case rem=>
      simp only[gr] at h;split at h;rename_i k p j q hx hy;cases hkj:k==j with
      | true=>
        obtain rfl:=C0 hkj;simp only[hkj,cond_true] at h;have hq:q≠0/\K (.int k (p.tmod q)):=by
          cases hc:lU y with
          | true=>simp only[hc,cond_true] at h;exact⟨qmS hc hy,h⟩
          | false=>simp only[hc,cond_false] at h;exact h
        exact⟨_,fun w'=>kJ (by rw[hr.ev hx,hr.ev hy];simp[eqGuard_at_int,binOp_rem,Op.intDiv,hq.1]),hq.2⟩
      | false=>simp only[hkj,cond_false] at h
      exact h.elim
    case shl=>
      simp only[gr] at h;split at h;rename_i k p j q hx hy;have hq:0<=q/\K (.int k (k.wrap (p*2^min q.toNat k.bits))):=by
        cases hc:lS y with
        | true=>simp only[hc,cond_true] at h;exact⟨qmR hc hy,h⟩
        | false=>simp only[hc,cond_false] at h;exact h
      exact⟨_,fun w'=>kJ (by rw[hr.ev hx,hr.ev hy];simp[eqGuard_at_int,binOp_shl,Op.shift,Int.not_lt.2 hq.1]),hq.2⟩;exact h.elim
    case shr=>
      simp only[gr] at h;split at h;rename_i k p j q hx hy;have hq:0<=q/\K (.int k (p.fdiv (2^min q.toNat k.bits))):=by
        cases hc:lS y with
        | true=>simp only[hc,cond_true] at h;exact⟨qmR hc hy,h⟩
        | false=>simp only[hc,cond_false] at h;exact h
      exact⟨_,fun w'=>kJ (by rw[hr.ev hx,hr.ev hy];simp[eqGuard_at_int,binOp_shr,Op.shift,Int.not_lt.2 hq.1]),hq.2⟩;exact h.elim
    all_goals
      simp only[gr] at h;split at h;rename_i k p j q hx hy;cases hkj:k==j with
      | true=>
        obtain rfl:=C0 hkj;simp only[hkj,cond_true] at h;split at h;rename_i v hv;exact⟨v,fun w'=>kJ (by rw[hr.ev hx,hr.ev hy];exact qux hv w'),h⟩;exact h.elim
      | false=>simp only[hkj,cond_false] at h
      · rename_i p q hx hy;first
          | (split at h
             rename_i v hv;exact⟨v,fun w'=>kJ (by rw[hr.ev hx,hr.ev hy];exact qu6 hv w'),h⟩;exact h.elim)
          | (obtain⟨hc,hk⟩:=h
             exact⟨_,fun w'=>kJ (by rw[hr.ev hx,hr.ev hy];simp only[eqGuard_at_string,binOp,Op.stringOp];rw[iN];rfl),hk⟩)
      exact h.elim
  case unOp op t x=>
    simp only[gr] at h;split at h;rename_i k i hx;split at h;exact⟨_,fun w'=>kJ (by rw[hr.ev hx];simp[Op.unary,Op.intArith]),h⟩;exact⟨_,fun w'=>kJ (by rw[hr.ev hx];simp[Op.unary,intBits_xor]),h⟩;exact h.elim;rename_i b hx;split at h;exact⟨_,fun w'=>kJ (by rw[hr.ev hx];simp[Op.unary]),h⟩;exact h.elim;exact h.elim
  case convert s d x=>
    simp only[gr] at h;split at h;rename_i ds k i hs hx;split at h;rename_i kd hd;exact⟨_,fun w'=>kJ (by rw[hr.ev hx];simp[convert,run_underlying hs,run_underlying hd,Conv.intToInt]),h⟩;exact h.elim;exact h.elim
  case extract x i=>
    simp only[gr] at h;split at h;rename_i vs hx;split at h;rename_i v hv;exact⟨v,fun w'=>kJ (by rw[hr.ev hx];simp[Instr.extract,show vs[i]?=some v by simpa using hv]),h⟩;exact h.elim;exact h.elim
  case field t x f=>
    simp only[gr] at h;split at h;rename_i fs cs ht hx;split at h;rename_i fd hf;cases hok:!mJ P fd.type with
    | true=>simp only[hok,cond_true] at h
    | false=>
      simp only[hok,cond_false] at h;have whole:eW P fd.type=true->∀vs',cs.toList.extract fd.offset (fd.offset+eG P fd.type)=vs'->∀w',(execOp a.eval ⟨dst,.field t x f,type,pos,after,guard⟩).run P w'=.ok (.value (.agg vs'.toArray)) w':=by intro hag vs' hvs w';refine kJ ?_;rw[hr.ev hx];simp[Instr.field,run_underlying ht,hf,asAgg,AG hok,hag];apply Array.ext';simpa using hvs
      have part:eW P fd.type=false->∀v,cs.toList[fd.offset]?=some v->∀w',(execOp a.eval ⟨dst,.field t x f,type,pos,after,guard⟩).run P w'=.ok (.value v) w':=(by intro hag v hv w';refine kJ ?_;rw[hr.ev hx];simp[Instr.field,run_underlying ht,hf,asAgg,AG hok,hag,show cs[fd.offset]?=some v by simpa using hv]);have pd:(bif eW P fd.type then K (.agg (cs.toList.extract fd.offset (fd.offset+eG P fd.type)).toArray) else match cs.toList[fd.offset]? with
          | some v=>K v
          | none=>False)->∃v,(∀w',(execOp a.eval ⟨dst,.field t x f,type,pos,after,guard⟩).run P w'=.ok (.value v) w')/\K v:=by
        intro h;cases hag:eW P fd.type with
        | true=>
          simp only[hag,cond_true] at h;exact⟨_,whole hag _ rfl,h⟩
        | false=>
          simp only[hag,cond_false] at h;split at h;rename_i v hv;exact⟨v,part hag v hv,h⟩;exact h.elim
      split at h;split at h;rename_i c _;cases hag:eW P fd.type with
      | true=>simp only[hag,cond_true] at h
      | false=>
        simp only[hag,cond_false] at h;obtain⟨y,hy,hk⟩:=h;exact⟨_,part hag _ hy,hk⟩
      rename_i cl _;cases hg:eW P fd.type&&Nat.beq (eG P fd.type) cl.length with
      | false=>simp only[hg,cond_false] at h
      | true=>
        simp only[hg,cond_true] at h;simp only[yA] at hg;obtain⟨y,hy,hk⟩:=h;have hsz:=yV hg.2;exact⟨_,whole hg.1 _ (by rw[hsz];exact hy),hk⟩
      cases hag:eW P fd.type with
      | true=>
        simp only[hag,cond_true] at h;exact⟨_,whole hag _ rfl,h⟩
      | false=>simp only[hag,cond_false] at h
      exact pd h
    exact h.elim;exact h.elim
  case fieldAddr t x f=>
    simp only[gr] at h;split at h;rename_i fs ht;split at h;rename_i fd hf;cases hz:Nat.beq (eG P fd.type) 0 with
    | true=>simp only[hz,cond_true] at h
    | false=>
      simp only[hz,cond_false] at h;split at h;rename_i p hx;split at h;rename_i ad;have hs:(P.info? fd.type).isSome=true:=by
        cases hi:P.info? fd.type with
        | none=>simp[eG,hi] at hz
        | some i=>rfl
      have hn:eG P fd.type≠0:=fun h0=>by simp[h0] at hz
      refine⟨_,fun w'=>kJ ?_,h⟩;rw[hr.ev hx];simp[Instr.fieldAt,run_underlying ht,hf,Instr.sureAddr,fieldPlace,qa hs,hn];exact h.elim;exact h.elim
    exact h.elim;exact h.elim
  case makeInterface t x=>
    simp only[gr] at h;split at h;exact h.elim
    · rename_i d v hni hd hx;refine⟨_,fun w'=>kJ ?_,h⟩;rw[hr.ev hx];simp only[Instr.makeInterface,Sem.run_bind,run_underlying hd,Result.andThen_ok];first
        | rfl
        | (split
           rename_i ms;exact (hni ms rfl).elim;rfl)
    exact h.elim
  case makeFunc fn first cap=>
    simp only[gr] at h;split at h;rename_i f c hf hc;exact⟨_,fun w'=>kJ (by rw[hr.j5 hf,hr.j5 hc];simp[Instr.makeFunc]),h⟩;exact h.elim
  case build t parts=>
    simp only[gr] at h;split at h;rename_i vs hv;split at h;obtain⟨y,hy,hk⟩:=h;exact⟨_,fun w'=>kJ (by rw[zz hr hv];exact ((eJ.build t _).run w w' w _ hy).2),hk⟩;split at h;rename_i v w1 hrun;exact⟨v,fun w'=>kJ (by rw[zz hr hv];exact ((eJ.build t _).run w w' w1 v hrun).2),h⟩;exact h.elim;exact h.elim
  case sliceToArrayPointer t x=>
    simp only[gr] at h;split at h;rename_i len el ht;split at h;rename_i sa l c hx;obtain⟨ad,hsa,hb,hk⟩:=h;simp only at hsa hb;subst hsa;refine⟨_,fun w'=>kJ ?_,hk⟩;rw[hr.ev hx];simp[Instr.arrayAt,run_underlying ht,Nat.not_lt.2 hb];exact h.elim;exact h.elim
  case indexAddr t x ix=>
    simp only[gr] at h;split at h;rename_i el ht;cases hok:!mJ P el with
    | true=>simp only[hok,cond_true] at h
    | false=>
      simp only[hok,cond_false] at h;obtain⟨hi1,hi2⟩:=sD hok;split at h;rename_i sa l c k i hx hi;obtain⟨ad,hsa,hb,hk⟩:=h;simp only at hsa hb;subst hsa;refine⟨_,fun w'=>kJ ?_,hk⟩;rw[hr.ev hx,hr.ev hi];simp[Instr.indexAt,asIntOf,run_underlying ht,hb,qa hi1];exact h.elim
    rename_i len el ht;cases hok:!mJ P el with
    | true=>simp only[hok,cond_true] at h
    | false=>
      simp only[hok,cond_false] at h;obtain⟨hi1,hi2⟩:=sD hok;split at h;rename_i ad hx;split at h;rename_i i hc;refine⟨_,fun w'=>kJ ?_,h⟩;unfold rr at hc;split at hc;rename_i k j;split at hc;rename_i hb;cases hc;rw[hr.ev hx];simp[Act.eval,Instr.indexAt,asIntOf,run_underlying ht,Instr.sureAddr,hb,qa hi1];cases hc;cases hc;split at h;rename_i k j hi;obtain⟨hb,hk⟩:=h;refine⟨_,fun w'=>kJ ?_,hk⟩;rw[hr.ev hx,hr.ev hi];simp[Instr.indexAt,asIntOf,run_underlying ht,Instr.sureAddr,hb,qa hi1];exact h.elim;exact h.elim
    exact h.elim
  case index t x ix=>
    simp only[gr] at h;split at h;rename_i ht;split at h;rename_i s k i hx hi;obtain⟨b,⟨h0,hb⟩,hk⟩:=h;refine⟨_,fun w'=>kJ ?_,hk⟩;rw[hr.ev hx,hr.ev hi];simp[Instr.index,asIntOf,run_underlying ht,h0,hb];exact h.elim;rename_i len el ht;split at h;rename_i cs k i hx hi;split at h;rename_i c hc;cases hg:eW P el||!(Nat.beq (eG P el) 1)||!mJ P el with
    | true=>simp only[hg,cond_true] at h
    | false=>
      simp only[hg,cond_false] at h;simp only[Bool.or_eq_false_iff] at hg;obtain⟨⟨g1,g2⟩,g3⟩:=hg;have g2':eG P el=1:=yV (oP g2);obtain⟨y,⟨h0,h1,hy⟩,hk⟩:=h;obtain⟨hi1,hi2⟩:=sD g3;refine⟨_,fun w'=>kJ ?_,hk⟩;rw[hr.ev hx,hr.ev hi];have hy':cs[i.toNat]?=some (c.mk y):=(oP hy);simp[Instr.index,asIntOf,run_underlying ht,h0,h1,qa hi1,g2',AG g3,g1,hy']
    rename_i cl hc;cases hg:!(eW P el)||!(Nat.beq (eG P el) cl.length)||!mJ P el with
    | true=>simp only[hg,cond_true] at h
    | false=>
      simp only[hg,cond_false] at h;simp only[Bool.or_eq_false_iff] at hg;obtain⟨⟨g1,g2⟩,g3⟩:=hg;have g1':eW P el=true:=(oP g1);have g2':eG P el=cl.length:=yV (oP g2);obtain⟨⟨h0,h1⟩,y,hy,hk⟩:=h;obtain⟨hi1,hi2⟩:=sD g3;refine⟨_,fun w'=>kJ ?_,hk⟩;rw[hr.ev hx,hr.ev hi];have hy':cs.extract (i.toNat*cl.length) (i.toNat*cl.length+cl.length)=(HL.mk cl y).toArray:=by apply Array.ext';simpa using hy
      simp[Instr.index,asIntOf,run_underlying ht,h0,h1,qa hi1,g2',AG g3,g1',hy']
    exact h.elim;exact h.elim;exact h.elim
  case slice t x lo hi mx=>
    simp only[gr] at h;cases hmh:mx.isSome&&hi.isNone with
    | true=>simp only[hmh,cond_true] at h
    | false=>
      simp only[hmh,cond_false] at h;split at h;rename_i l hh m hl hhi hm;have bl:=Bd.of hr hl;have bh:=Bd.of hr hhi;have bm:=Bd.of hr hm;have hmh':((mx.map a.eval).isSome&&(hi.map a.eval).isNone)=false:=(oP hmh);split at h;rename_i el ht;cases hok:!mJ P el with
      | true=>simp only[hok,cond_true] at h
      | false=>
        simp only[hok,cond_false] at h;obtain⟨hi1,hi2⟩:=sD hok;split at h;rename_i sa nn cc hx;obtain⟨hb,hk⟩:=h;refine⟨_,fun w'=>kJ ?_,hk⟩;rw[hr.ev hx];simp only[Instr.sliceAt,Sem.run_bind,run_underlying ht,Result.andThen_ok,Instr.slice,Gl true bl bh bm hmh' hb,qa hi1];rfl;exact h.elim
      rename_i ht;split at h;rename_i s hx;obtain⟨hb,hk⟩:=h;have hmn:mx=none:=by rcases Fj hr hm with ⟨e1,_⟩|⟨_,_,_,_,e2,_⟩;exact e1;cases e2
      subst hmn;refine⟨_,fun w'=>kJ ?_,hk⟩;rw[hr.ev hx];have hb':0<=l.getD 0/\l.getD 0<=hh.getD s.size/\hh.getD s.size<=(none:Option Int).getD (s.size:Int)/\(none:Option Int).getD (s.size:Int)<=(s.size:Int):=⟨hb.1,hb.2.1,hb.2.2,Int.le_refl _⟩
      have:=Gl (P:=P) (nn:=s.size) (cc:=s.size) false bl bh (m:=none) (mx:=none) (.inl ⟨rfl,rfl⟩) oL hb' w'
      simp only[Option.map_none,Instr.sliceAt,Sem.run_bind,run_underlying ht,Result.andThen_ok,Instr.slice,Option.isSome_none,Bool.false_eq_true,if_false,this];rfl;exact h.elim;rename_i len el ht;cases hok:!mJ P el with
      | true=>simp only[hok,cond_true] at h
      | false=>
        simp only[hok,cond_false] at h;obtain⟨hi1,hi2⟩:=sD hok;split at h;rename_i ad hx;obtain⟨hb,hk⟩:=h;refine⟨_,fun w'=>kJ ?_,hk⟩;rw[hr.ev hx];simp only[Instr.sliceAt,Sem.run_bind,run_underlying ht,Result.andThen_ok,Instr.sureAddr,Sem.run_pure,Gl false bl bh bm hmh' hb,qa hi1];exact h.elim
      exact h.elim;exact h.elim
  case call c=>
    obtain⟨callee,args,argTypes⟩:=c;cases callee with
    | builtin b=>
      cases b<;>simp only[gr] at h<;>try exact h.elim
      case cap=>
        split at h;rename_i el _ _ c ht hv;obtain⟨t0,h0,h1⟩:=Option.bind_eq_some_iff.1 ht;exact⟨_,fun w'=>by simp[execOp,resolve,hr.j5 hv,invoke,builtin,Builtin.cap_,h0,run_underlying h1,goInt],h⟩;exact h.elim
      case len=>
        split at h;rename_i el _ k _ ht hv;obtain⟨t0,h0,h1⟩:=Option.bind_eq_some_iff.1 ht;exact⟨_,fun w'=>by simp[execOp,resolve,hr.j5 hv,invoke,builtin,Builtin.len_,h0,run_underlying h1,goInt],h⟩;rename_i s ht hv;obtain⟨t0,h0,h1⟩:=Option.bind_eq_some_iff.1 ht;exact⟨_,fun w'=>by simp[execOp,resolve,hr.j5 hv,invoke,builtin,Builtin.len_,h0,run_underlying h1,goInt],h⟩;rename_i k el u ht hv;obtain⟨t0,h0,h1⟩:=Option.bind_eq_some_iff.1 ht;exact⟨_,fun w'=>by simp[execOp,resolve,hr.j5 hv,invoke,builtin,Builtin.len_,h0,run_underlying h1,goInt],h⟩;exact h.elim
      case max=>
        split at h;rename_i k x j y hv;exact⟨_,fun w'=>by simp[execOp,resolve,hr.j5 hv,invoke,builtin,run_max_int2],h⟩;exact h.elim
      case min=>
        split at h;rename_i k x j y hv;exact⟨_,fun w'=>by simp[execOp,resolve,hr.j5 hv,invoke,builtin,run_min_int2],h⟩;exact h.elim
    | value f=>exact h.elim
    | invoke r m=>exact h.elim
  all_goals exact h.elim
def AO{ad:Addr}:∀(vs:List Value) (i:Nat) (acc:Array Value) (w:World),iZ w ad i vs-> (loadCellsFrom ad i vs.length acc).run P w=.ok (acc++vs.toArray) w
  | [],i,acc,w,_=>by simp[loadCellsFrom]
  | [v],i,acc,w,h=>by have h':w.cell? (ad.add i)=some v:=h;simp[loadCellsFrom,h']
  | v::u::vs,i,acc,w,h=>by
    obtain⟨h1,h2⟩:=h
    have:=AO (u::vs) (i+1) (acc.push v) w h2
    simp only[yH] at this⊢;rw[loadCellsFrom];simp only[Sem.run_bind,run_load,h1,Result.andThen_ok,this];simp
def qnK{K:Value->(WP)->Prop}(h:lM (mi P) P o e w K)(hc:xv P o.op=.read)(hr:Rel n ds e a): ∃v hold,(execOp a.eval o).run P w=.ok (.value v) w/\(∀w',hold w'->(execOp a.eval o).run P w'=.ok (.value v) w')/\K v hold:=by
  obtain⟨dst,op,type,pos,after,guard⟩:=o;cases op;case load t x=>
    simp only[lM] at h;split at h;rename_i p hx;obtain⟨ad,rfl⟩:∃ad,p=some ad:=by
      cases p with
      | none=>exact h.elim
      | some ad=>exact⟨ad,rfl⟩
    dsimp only at h;split at h;rename_i c hcell;cases hok:!mJ P t with
    | true=>simp only[hok,cond_true] at h
    | false=>
      simp only[hok,cond_false] at h;obtain⟨hi1,hi2⟩:=sD hok;cases hag:eW P t with
      | true=>simp only[hag,cond_true] at h
      | false=>
        simp only[hag,cond_false] at h;obtain⟨y,hy,hk⟩:=h;have key:∀w',w'.cell? ad=some (c.mk y)->(execOp a.eval ⟨dst,.load t x,type,pos,after,guard⟩).run P w'=.ok (.value (c.mk y)) w':=fun w' hw'=>
          kJ (by rw[hr.ev hx];simp[Instr.loadAt,Instr.sureAddr,loadVar,uX hi2,hag,hw'])
        exact⟨_,_,key w hy,fun w' hw'=>key w' hw',hk⟩
    rename_i cs hcells;cases hg:eW P t&&Nat.beq (eG P t) cs.length with
    | false=>simp only[hg,cond_false] at h
    | true=>
      simp only[hg,cond_true] at h;simp only[yA] at hg;obtain⟨hag,hsz⟩:=hg;have hsz':=yV hsz;obtain⟨y,hy,hk⟩:=h;have hlen:(HL.mk cs y).length=cs.length:=HL.j3 cs y;have hsome:(P.info? t).isSome=true:=by
        cases hi:P.info? t with
        | none=>
          have:(P.underlying t).isSome=true:=uV hag;simp[Program.underlying,hi] at this
        | some i=>rfl
      have key:∀w',iZ w' ad 0 (HL.mk cs y)->(execOp a.eval ⟨dst,.load t x,type,pos,after,guard⟩).run P w'=.ok (.value (.agg (HL.mk cs y).toArray)) w':=fun w' hw'=>
        kJ (by
          rw[hr.ev hx]
          have:=AO (P:=P) (HL.mk cs y) 0 #[] w' hw'
          rw[hlen,<- hsz'] at this;simp[Instr.loadAt,Instr.sureAddr,loadVar,uX (uV hag),hag,qa hsome,loadCells,this])
      exact⟨_,_,key w hy,fun w' hw'=>key w' hw',hk⟩
    cases hag:eW P t with
    | false=>simp only[hag,cond_false] at h
    | true=>
      simp only[hag,cond_true] at h;obtain⟨y,hy,hk⟩:=h;have hsome:(P.info? t).isSome=true:=by
        cases hi:P.info? t with
        | none=>
          have:(P.underlying t).isSome=true:=uV hag;simp[Program.underlying,hi] at this
        | some i=>rfl
      have key:∀w',iZ w' ad 0 y->(execOp a.eval ⟨dst,.load t x,type,pos,after,guard⟩).run P w'=.ok (.value (.agg y.toArray)) w':=fun w' hw'=>
        kJ (by
          rw[hr.ev hx]
          have:=AO (P:=P) y 0 #[] w' hw'
          rw[hy.1] at this;simp[Instr.loadAt,Instr.sureAddr,loadVar,uX (uV hag),hag,qa hsome,loadCells,this])
      exact⟨_,_,key w hy.2,fun w' hw'=>key w' hw',hk⟩
    exact h.elim
  case lookup t m k ok=>
    simp only[lM] at h;split at h;rename_i vm vk hm hk;obtain⟨y,hy,hK⟩:=h;exact⟨_,_,kJ (by rw[hr.ev hm,hr.ev hk];exact hy),fun w' hw'=>kJ (by rw[hr.ev hm,hr.ev hk];exact hw'),hK⟩;exact h.elim
  case typeAssert x xt as_ ok=>
    simp only[lM] at h;split at h;rename_i v hx;obtain⟨y,hy,hK⟩:=h;exact⟨_,_,kJ (by rw[hr.ev hx];exact hy),fun w' hw'=>kJ (by rw[hr.ev hx];exact hw'),hK⟩;exact h.elim
  case binOp op t x y yt=>
    have h':(match e.ev x,e.ev y with
      | some p,some q=>(mi P).fc dg (fun w'=>(do eqGuard op t x y p q;binOp op t p q:Sem Value).run P w') w (fun r=>K (.bool r) (fun w'=>(do eqGuard op t x y p q;binOp op t p q:Sem Value).run P w'=.ok (.bool r) w'))
      | _,_=>False):=by cases op<;>exact h
    split at h';rename_i p q hx hy;obtain⟨r,hr1,hK⟩:=h';exact⟨_,_,kJ (by rw[hr.ev hx,hr.ev hy];exact hr1),fun w' hw'=>kJ (by rw[hr.ev hx,hr.ev hy];exact hw'),hK⟩;exact h'.elim
  case convert s d x=>
    simp only[lM] at h;split at h;rename_i v hx;obtain⟨r,hr1,hK⟩:=h;exact⟨_,_,kJ (by rw[hr.ev hx];exact hr1),fun w' hw'=>kJ (by rw[hr.ev hx];exact hw'),hK⟩;exact h.elim
  case call c=>
    obtain⟨callee,args,argTypes⟩:=c;cases callee with
    | builtin b=>
      cases b<;>simp only[lM] at h<;>try exact h.elim
      split at h;rename_i vs hv;obtain⟨r,hr1,hK⟩:=h;have key:∀w',(Builtin.len_ argTypes type vs.toArray).run P w'=.ok (.int .i64 r) w'->(execOp a.eval ⟨dst,.call ⟨.builtin .len,args,argTypes⟩,type,pos,after,guard⟩).run P w'=.ok (.value (.int .i64 r)) w':=fun w' hw'=>by simp[execOp,resolve,hr.j5 hv,invoke,builtin,hw']
      exact⟨_,_,key w hr1,fun w' hw'=>key w' hw',hK⟩;exact h.elim
    | value f=>exact h.elim
    | invoke r m=>exact h.elim
  all_goals exact h.elim
section
variable {P:Program} {n:Nat} {ds:List Deferred} {e:Env} {a:Act} {o:Oper} {w:World} {r:Option Nat} {m:Nat}
def dN (cs:Array Value):Nat->List Value->Array Value
 | _,[]=>cs
 | off,v::vs=>dN (cs.setIfInBounds off v) (off+1) vs
def mG:∀(vs:List Value) (cs:Array Value) (off:Nat),(dN cs off vs).size=cs.size
 | [],_,_=>rfl
 | v::vs,cs,off=>by simp[dN,mG vs]
def px:∀(vs:List Value) (cs:Array Value) (off:Nat),off+vs.length<=cs.size->(dN cs off vs).toList=cs.toList.take off++vs++cs.toList.drop (off+vs.length)
 | [],cs,off,h=>by simp[dN]
 | v::vs,cs,off,h=>by
  simp only[yH] at h;rw[dN,px vs _ _ oO,Array.toList_setIfInBounds];have h1:(cs.toList.set off v).take (off+1)=cs.toList.take off++[v]:=by have:off<cs.toList.length:=oO;rw[set_eq_take_append_cons_drop,if_pos this,take_append,yK,xQ oJ,zS oO];simp[show off+1-off=1 by omega]
  have h2:(cs.toList.set off v).drop (off+1+vs.length)=cs.toList.drop (off+1+vs.length):=(by rw[drop_set,iP]);rw[h1,h2];simp[Nat.add_assoc,Nat.add_comm 1]
def qq5(off:Nat):∀(l:List Value) (j:Nat) (cells:Array Value),(l.zipIdx j).foldl (fun cs (x:Value×Nat)=>cs.setIfInBounds (off+x.2) x.1) cells=dN cells (off+j) l
 | [],j,cells=>rfl
 | v::l,j,cells=>by rw[zipIdx_cons,foldl_cons,qq5 off l (j+1)];rfl
def CC(off:Nat)(vs cells:Array Value):(vs.zipIdx.foldl (fun cs (x:Value×Nat)=>cs.setIfInBounds (off+x.2) x.1) cells)=dN cells off vs.toList:=by rw[<- Array.foldl_toList,Array.toList_zipIdx,qq5 off vs.toList 0,Nat.add_zero]
def oc{cells:Array Value}(h:vs.length=cells.size):dN cells 0 vs=vs.toArray:=by apply Array.ext';rw[px _ _ _ oJ];simp[h]
def qhK{ad:Addr}:∀(vs:List Value) (i:Nat) (w:World) (K:WP),C2 ad i vs w K-> ∃w',(storeCells ad vs i).run P w=.ok () w'/\K w'
 | [],i,w,K,h=>⟨w,by simp[storeCells],h⟩
 | v::vs,i,w,K,h=>by obtain⟨⟨h1,⟨u,hu⟩,h3⟩,h4⟩:=h;obtain⟨w',hr,hk⟩:=qhK vs (i+1) _ K h4;refine⟨w',?_,hk⟩;unfold storeCells;simp only[Sem.run_bind,run_store P w (ad.add i) v .plain h1,hu,h3,Bool.false_eq_true,if_false,Result.andThen_ok,hr]
def _root_.Go.Oper.wx (r:Option Nat) (m:Nat) (P:Program) (o:Oper) (a:Act) (w:World) (N:Act->WP) (Q:Exit->Act->WP):Prop:=o.uponIn (Wd r) m P a N Q ((execOp a.eval o).run P w)
def Ff(hnd:∀c,o.op≠.defer c)(h:o.wx r m P a w N Q):o.wpIn (Wd r) m P a w N Q:=
 ⟨fun _ _=>trivial,by rw[Oper.semAt_eq _ _ _ hnd];exact h⟩
def rU{v:Value}{w:World}(hs:(execOp a.eval o)=(do pure (Next.value (<- s))))(hr:s.run P w=.ok v w')(hk:K v w'): o.wx r m P a w (fun a' w'=>∃v,a'=a.put o.dst v/\K v w') Q:=by unfold Oper.wx;rw[hs,kJ hr];exact⟨v,rfl,hk⟩
def D3{s:Sem Unit}{w:World}(hs:(execOp a.eval o)=(do s;pure Next.skip))(hr:s.run P w=.ok () w')(hk:K undef w'): o.wx r m P a w (fun a' w'=>∃v,a'=a.put o.dst v/\K v w') Q:=by unfold Oper.wx;rw[hs];simp only[Sem.run_bind,hr,Result.andThen_ok,Sem.run_pure];exact⟨undef,rfl,hk⟩
def AX{v:Value}{w:World}(hr:(execOp a.eval o).run P w=.ok (.value v) w')(hk:K v w'): o.wx r m P a w (fun a' w'=>∃v,a'=a.put o.dst v/\K v w') Q:=by unfold Oper.wx;rw[hr];exact⟨v,rfl,hk⟩
def qfD{args:Array Value}(h:Calls P f args w R):CallsIn (Wd r) m P f args w R:=(callsIn_wide (n:=m)).2 h
def qsL{l f:Nat}{assign body:Code}(h:RoundIn (Wd none) 0 P l f tmps assign body w R):RoundIn (Wd r) m P l f tmps assign body w R:=
 ⟨trivial,fun c cs _=>h.2 c cs (room_wide _)⟩
def Gn(r:Option Nat):(Wd r).depth.isSome=true->1<=m:=fun h=>by cases h
def EV{w:World}(hr:(execOp a.eval o).run P w=.ok (.enter f vs.toArray) w)(hk:call P f vs ts w (fun y w'=>K (fP ts y) w')): o.wx r m P a w (fun a' w'=>∃v,a'=a.put o.dst v/\K v w') Q:=by unfold Oper.wx;rw[hr];refine⟨Gn r,qfD (Calls.mono hk ?_)⟩;rintro e w' ⟨x,rfl,hx⟩;exact⟨_,rfl,hx⟩
def qqj{l f:Nat}{assign body:Code}{w:World}(hr:(execOp a.eval o).run P w=.ok (.round l f tmps assign body) w)(hk:RoundIn (Wd none) 0 P l f tmps assign body w fun e w'=>∃x:iO ts,e=.returned (fP ts x)/\K (fP ts x) w'): o.wx r m P a w (fun a' w'=>∃v,a'=a.put o.dst v/\K v w') Q:=by unfold Oper.wx;rw[hr];refine⟨Gn r,qsL (RoundIn.mono hk ?_)⟩;rintro e w' ⟨x,rfl,hx⟩;exact⟨_,rfl,hx⟩
def xq(h:iq P f=false)(args:Array Value)(w:World):(callFunc f args).run P w=.ok (.enter f args) w:=by
 unfold iq at h;unfold callFunc;cases hf:P.funcs[f]? with
 | none=>simp[hf] at h
 | some fn=>
  simp only[hf,Bool.or_eq_false_iff] at h;simp only[Sem.run_bind,run_program,Result.andThen_ok,hf];rw[if_neg (by simp[h.2]),if_neg (by simp[h.1])];rfl
def BO(h:(P.info? t).bind (·.zero)=some z):(P.info? t).isSome=true:=by
 cases hi:P.info? t with
 | none=>simp[hi] at h
 | some i=>rfl
def qrQ{el:TypeId}{v:Value}(ht:P.underlying t=some (.slice el))(hz:(P.info? el).bind (·.zero)=some z)(hsz:v.cells.size=eG P el)(hlt:¬1*eG P el>2^24): (Instr.buildSlice t 1 [(0,v)].toArray).run P w=.ok (.slice (some ⟨w.heap.size,0,none⟩) 1 1) (w.alloc (.cells v.cells el)):=by
 simp only[Instr.buildSlice,Sem.run_bind,run_underlying ht,Result.andThen_ok,qa (BO hz)];rw[if_neg hlt];have key:∀zs:Array Value,Instr.fill (fun i=>some (i*eG P el,eG P el)) ((Array.range (1*eG P el)).map (zs[·%zs.size]!)) [(0,v)]=some v.cells:=by intro zs;have h1:((Array.range (1*eG P el)).map (zs[·%zs.size]!)).size=v.cells.size:=(by simp[hsz]);generalize (Array.range (1*eG P el)).map (zs[·%zs.size]!)=base at h1;have h2:=CC 0 v.cells base;rw[oc (by rw[Array.length_toList];exact h1.symm)] at h2;simp only[Instr.fill,Nat.zero_mul,xR] at h2⊢;rw[if_neg (by rw[hsz,h1,hsz];simp)];simp only[h2,Array.toArray_toList]
 by_cases h0:1*eG P el=0;rw[if_pos h0];simp only[pure_bind];rw[key];simp[newRow];rw[if_neg h0];simp only[Sem.run_bind,ui hz,Result.andThen_ok,Sem.run_pure];rw[key];simp[newRow]
def qqf{el:TypeId}(ht:P.underlying t=some (.slice el))(hz:(P.info? el).bind (·.zero)=some z): (Instr.buildSlice t 0 ([]:List (Nat×Value)).toArray).run P w=.ok (.slice (some ⟨w.heap.size,0,none⟩) 0 0) (w.alloc (.cells #[] el)):=by simp only[Instr.buildSlice,Sem.run_bind,run_underlying ht,Result.andThen_ok,qa (BO hz),Nat.zero_mul];rw[iN,if_pos trivial];simp only[pure_bind,Instr.fill];have:∀f:Nat->Value,(Array.range 0).map f = #[]:=fun f=>Array.eq_empty_of_size_eq_zero oL;rw[this];simp[newRow]
def ql5(Q:Exit->Act->WP){dst:Option Tmp}{type:TypeId}{len:Nat}{pos:String}{after:Array Edge}(h:iQ (mi P) P ⟨dst,.buildSlice t len parts,type,pos,after,guard⟩ e w K)(hr:Rel n ds e a): (⟨dst,.buildSlice t len parts,type,pos,after,guard⟩:Oper).wx r m P a w (fun a' w'=>∃v,a'=a.put dst v/\K v w') Q:=by
  have hex:∀len,execOp a.eval ⟨dst,.buildSlice t len parts,type,pos,after,guard⟩=(do pure (Next.value (<- Instr.buildSlice t len (parts.map fun (i,x)=>(i,a.eval x))))):=fun len=>rfl;simp only[iQ] at h;split at h;rename_i el ht;split at h;rename_i z vs hz hv;cases hb:Nat.blt (2^24) (len*eG P el) with
  | true=>simp only[hb,cond_true] at h
  | false=>
   simp only[hb,cond_false] at h;have hlt:¬len*eG P el>2^24:=by intro hgt;have:Nat.blt (2^24) (len*eG P el)=true:=Nat.ble_eq_true_of_le hgt;rw[this] at hb;cases hb
   have pd:∀cells,qh (eG P el) len (bif Nat.beq (len*eG P el) 0 then [] else z.cells.toList) vs=some cells->(mi P).new (.cells cells el) w (fun b w'=>K (.slice (some (dd b)) len len) w')->
     (⟨dst,.buildSlice t len parts,type,pos,after,guard⟩:Oper).wx r m P a w (fun a' w'=>∃v,a'=a.put dst v/\K v w') Q:=by
    intro cells hc h;refine rU (o:=⟨dst,.buildSlice t len parts,type,pos,after,guard⟩) (s:=Instr.buildSlice t len (parts.map fun (i,x)=>(i,a.eval x))) ?_ ?_ h;exact hex _;rw[zz hr hv];simp only[Instr.buildSlice,Sem.run_bind,run_underlying ht,Result.andThen_ok,qa (BO hz)];rw[if_neg hlt];unfold qh at hc;cases h0:Nat.beq (len*eG P el) 0 with
    | true=>
     rw[if_pos (yV h0)];simp only[h0,cond_true] at hc;simp only[pure_bind];rw[show (#[]:Array Value)=([]:List Value).toArray from rfl,hc];simp[newRow]
    | false=>
     have:len*eG P el≠0:=fun hq=>by rw[hq] at h0;cases h0
     rw[if_neg this];simp only[h0,cond_false] at hc;simp only[Sem.run_bind,ui hz,Result.andThen_ok,Sem.run_pure];have hc':Instr.fill (fun i=>some (i*eG P el,eG P el)) (Array.map (fun x=>z.cells[x%z.cells.size]!) (Array.range (len*eG P el))) vs=some cells:=(oP hc);rw[hc'];simp[newRow]
   have old':(match qh (eG P el) len (bif Nat.beq (len*eG P el) 0 then [] else z.cells.toList) vs with
     | some cells=>(mi P).new (.cells cells el) w (fun b w'=>K (.slice (some (dd b)) len len) w')
     | none=>False)->(⟨dst,.buildSlice t len parts,type,pos,after,guard⟩:Oper).wx r m P a w (fun a' w'=>∃v,a'=a.put dst v/\K v w') Q:=by
    intro h;cases hc:qh (eG P el) len (bif Nat.beq (len*eG P el) 0 then [] else z.cells.toList) vs with
    | none=>rw[hc] at h;exact h.elim
    | some cells=>rw[hc] at h;exact pd cells hc h
   cases hty:nP P el with
   | one c=>simp only[hty] at h;exact old' h
   | agg cs=>simp only[hty] at h;exact old' h
   | kN=>
    simp only[hty] at h;match len,vs,h,hv,hlt with
    | 1,[(0,v)],h,hv,hlt=>
     obtain⟨hsz,hk⟩:=h;refine rU (s:=Instr.buildSlice t 1 (parts.map fun (i,x)=>(i,a.eval x))) ?_ ?_ hk;exact hex _;rw[zz hr hv];exact qrQ ht hz (by rw[<- hsz,Array.length_toList]) hlt
    | 0,[],h,hv,hlt=>
     refine rU (s:=Instr.buildSlice t 0 (parts.map fun (i,x)=>(i,a.eval x))) ?_ ?_ h;exact hex _;rw[zz hr hv];exact qqf ht hz
  exact h.elim;exact h.elim
set_option maxHeartbeats 1000000 in
def qo7(Q:Exit->Act->WP)(h:iQ (mi P) P o e w K)(hr:Rel n ds e a): o.wx r m P a w (fun a' w'=>∃v,a'=a.put o.dst v/\K v w') Q:=by
 obtain⟨dst,op,type,pos,after,guard⟩:=o;cases op;case store t x y=>
  simp only[iQ] at h;obtain⟨v,hy⟩:∃v,e.ev y=some v:=by
   cases hy:e.ev y with
   | none=>rw[hy] at h;exact h.elim
   | some v=>exact⟨v,rfl⟩
  rw[hy] at h;dsimp only at h;split at h;rename_i p hx;obtain⟨ad,rfl⟩:∃ad,p=some ad:=by
   cases p with
   | none=>exact h.elim
   | some ad=>exact⟨ad,rfl⟩
  dsimp only at h;have fin:(P.info? t).isSome=true->v.cells.size=eG P t->(mi P).st ad v.cells.toList w (fun w'=>K undef w')->(⟨dst,.store t x y,type,pos,after,guard⟩:Oper).wx r m P a w (fun a' w'=>∃v,a'=a.put dst v/\K v w') Q:=by intro hi hs' h;obtain⟨w',hrun,hk⟩:=qhK (P:=P) _ 0 w _ h;refine D3 (o:=⟨dst,.store t x y,type,pos,after,guard⟩) (s:=Instr.storeAt t (a.eval x) (a.eval y)) rfl ?_ hk;rw[hr.ev hx,hr.ev hy];have:(sizeOf t).run P w=.ok (eG P t) w:=qa hi w;simp[Instr.storeAt,Instr.sureAddr,storeVar,this,hs',hrun]
  split at h;cases hok:mJ P t with
  | false=>simp only[hok,cond_false] at h
  | true=>
   simp only[hok,cond_true] at h;exact fin (sD (by simp[hok])).1 (oP h.1) h.2
  cases hs:mJ P t&&Nat.beq (eG P t) v.cells.size with
  | false=>simp only[hs,cond_false] at h
  | true=>
   simp only[hs,cond_true] at h;simp only[yA] at hs;have hs':=yV hs.2;exact fin (sD (by simp[hs.1])).1 hs'.symm h
  exact h.elim
 case alloc t=>
  simp only[iQ] at h;split at h;obtain⟨z,hz,hk⟩:=h;refine rU (s:=Instr.alloc t true (.tuple #[])) rfl ?_ hk;simp[Instr.alloc,ui hz,newVar,newRow];split at h;rename_i z hz;refine rU (s:=Instr.alloc t true (.tuple #[])) rfl ?_ h;simp[Instr.alloc,ui hz,newVar,newRow];exact h.elim
 case box t x=>
  simp only[iQ] at h;split at h;rename_i v hx;refine rU (s:=Instr.box t (a.eval x)) rfl ?_ h;rw[hr.ev hx];simp[Instr.box,newVar,newRow];exact h.elim
 case buildSlice t len parts=>exact ql5 Q h hr
 case makeSlice t l c=>
  simp only[iQ] at h;split at h;rename_i el ht;split at h;rename_i i k1 nn k2 mm hi hl hc;split at h;rename_i z hz;obtain⟨⟨b0,b1,b2,b3⟩,hk⟩:=h;refine rU (s:=Instr.makeSlice t (a.eval l) (a.eval c)) rfl ?_ hk;rw[hr.ev hl,hr.ev hc];have e1:IntKind.i64.wrap nn=nn:=(by rw[IntWalk.i64_in];omega);have e2:IntKind.i64.wrap mm=mm:=(by rw[IntWalk.i64_in];omega);have hz':(P.info? el).bind (·.zero)=some z:=(by simp[hi,hz]);have g1:¬(mm<0):=oJ;have g2:¬((i.bytes:Int)*mm>2^48):=oJ;have g3:¬(nn<0):=oJ;have g4:¬(nn>mm):=oJ;simp only[Instr.makeSlice,Sem.run_bind,run_underlying ht,Result.andThen_ok,asInt,asIntOf,Sem.run_pure,Ft hi,e1,e2];rw[if_neg (by simp only[Bool.or_eq_true,decide_eq_true_eq,g1,g2,g3,g4,or_self,not_false_eq_true])];simp only[Sem.run_bind,run_askRoom,Result.andThen_ok,qa (BO hz')];have hsz:eG P el=i.size:=(by simp[eG,hi]);rw[hsz];by_cases h0:mm.toNat*i.size=0;rw[if_pos h0,if_pos h0];simp[newRow,gV,h0];rw[if_neg h0,if_neg h0];simp[ui hz',newRow,gV];exact h.elim;exact h.elim;exact h.elim
 case makeMap t r=>
  simp only[iQ] at h;split at h;rename_i k el ht;split at h;rename_i v hv;refine rU (s:=Instr.makeMap t (r.map a.eval)) rfl ?_ h;rcases Fj hr hv with ⟨rfl,_⟩|⟨y,k,i,rfl,rfl,hy⟩;simp[Instr.makeMap];simp[Instr.makeMap,hy,run_underlying ht,asInt,asIntOf];exact h.elim;exact h.elim
 case mapUpdate t m k x=>
  simp only[iQ] at h;split at h;rename_i vm vk vx hm hk hx;obtain⟨w',hrun,hK⟩:=h;exact D3 (s:=Instr.mapUpdate t (a.eval m) (a.eval k) (a.eval x)) rfl (by rw[hr.ev hm,hr.ev hk,hr.ev hx];exact hrun) hK;exact h.elim
 case insert t m k x=>
  simp only[iQ] at h;split at h;rename_i vm vk vx hm hk hx;obtain⟨w',hrun,hK⟩:=h;exact D3 (s:=Instr.mapUpdate t (a.eval m) (a.eval k) (a.eval x)) rfl (by rw[hr.ev hm,hr.ev hk,hr.ev hx];exact hrun) hK;exact h.elim
 case range t x=>
  simp only[iQ] at h;split at h;rename_i v hx;obtain⟨y,w',hrun,hK⟩:=h;exact rU (s:=Instr.range t (a.eval x)) rfl (by rw[hr.ev hx];exact hrun) hK;exact h.elim
 case next it s=>
  simp only[iQ] at h;split at h;rename_i v hx;rcases h with ⟨w',hrun,hK⟩|⟨x,y,w',hrun,hK⟩;exact rU (s:=Instr.next (a.eval it) s type) rfl (by rw[hr.ev hx];exact hrun) hK;exact rU (s:=Instr.next (a.eval it) s type) rfl (by rw[hr.ev hx];exact hrun) hK;exact h.elim
 case entry it=>
  simp only[iQ] at h;split at h;rename_i v hx;obtain⟨x,y,w',hrun,hK⟩:=h;exact rU (s:=Instr.entry (a.eval it)) rfl (by rw[hr.ev hx];exact hrun) hK;exact h.elim
 case convert s d x=>
  simp only[iQ] at h;split at h;rename_i v hx;obtain⟨y,w',hrun,hK⟩:=h;exact rU (s:=convert s d (a.eval x)) rfl (by rw[hr.ev hx];exact hrun) hK;exact h.elim
 case call c=>
  obtain⟨callee,args,argTypes⟩:=c;cases callee with
  | builtin b=>
   simp only[iQ] at h;split at h
   ·rename_i vs hv;have hres:∀w,(resolve a.eval ⟨.builtin b,args,argTypes⟩ type).run P w=.ok { target:=.builtin b argTypes type (args.map fun | .const _=>true|_=>false),args:=vs.toArray } w:=fun w=>by simp[resolve,hr.j5 hv];intro x _;cases x<;>rfl
    cases b<;>simp only at h<;>try exact h.elim
    case append=>
     obtain⟨y,w',hrun,hK⟩:=h;have hrun':(Builtin.append_ argTypes type vs.toArray).run P w=.ok (.slice y.a y.len y.cap) w':=hrun;have:(execOp a.eval ⟨dst,.call ⟨.builtin .append,args,argTypes⟩,type,pos,after,guard⟩).run P w=.ok (.value (.slice y.a y.len y.cap)) w':=by simp[execOp,hres,invoke,builtin,hrun']
     exact AX this hK
    case clear=>
     obtain⟨y,w',hrun,hK⟩:=h;have hrun':(Builtin.clear_ argTypes type vs.toArray).run P w=.ok (.tuple #[]) w':=hrun;have:(execOp a.eval ⟨dst,.call ⟨.builtin .clear,args,argTypes⟩,type,pos,after,guard⟩).run P w=.ok (.value (.tuple #[])) w':=by simp[execOp,hres,invoke,builtin,hrun']
     exact AX this hK
    case copy=>
     obtain⟨y,w',hrun,hK⟩:=h;have hrun':(Builtin.copy_ argTypes type vs.toArray).run P w=.ok (.int .i64 y) w':=hrun;have:(execOp a.eval ⟨dst,.call ⟨.builtin .copy,args,argTypes⟩,type,pos,after,guard⟩).run P w=.ok (.value (.int .i64 y)) w':=by simp[execOp,hres,invoke,builtin,hrun']
     exact AX this hK
    case delete=>
     obtain⟨y,w',hrun,hK⟩:=h;have hrun':(Builtin.delete_ argTypes type vs.toArray).run P w=.ok (.tuple #[]) w':=hrun;have:(execOp a.eval ⟨dst,.call ⟨.builtin .delete,args,argTypes⟩,type,pos,after,guard⟩).run P w=.ok (.value (.tuple #[])) w':=by simp[execOp,hres,invoke,builtin,hrun']
     exact AX this hK
   exact h.elim
  | value f=>
   have key:(∀g,f≠.func g)->∀v vs,e.ev f=some v->e.pp args.toList=some vs->(mi P).dV v vs (nt P type) w (fun y w'=>K (fP _ y) w')->
     Oper.wx r m P ⟨dst,.call ⟨.value f,args,argTypes⟩,type,pos,after,guard⟩ a w (fun a' w'=>∃v,a'=a.put dst v/\K v w') Q:=by
    intro hf v vs hv hvs hcall;rcases hcall with ⟨g,us,hrun,hk⟩|⟨l,g,tmps,assign,body,hrun,hk⟩;refine EV (o:=⟨dst,.call ⟨.value f,args,argTypes⟩,type,pos,after,guard⟩) ?_ hk;simp only[execOp,resolve,hr.j5 hvs,hr.ev hv];exact hrun;refine qqj (o:=⟨dst,.call ⟨.value f,args,argTypes⟩,type,pos,after,guard⟩) ?_ hk;simp only[execOp,resolve,hr.j5 hvs,hr.ev hv];exact hrun
   cases f with
   | func g=>
    simp only[iQ] at h;split at h;rename_i vs hv;cases hb:iq P g with
    | true=>
     simp only[hb,cond_true] at h;obtain⟨x,w',hrun,hk⟩:=h;refine AX ?_ hk;simp only[execOp,resolve,hr.j5 hv,Act.eval,Deferred.ofValue];simpa[invoke] using hrun
    | false=>
     simp only[hb,cond_false] at h;refine EV ?_ h;simp only[execOp,resolve,hr.j5 hv,Act.eval,Deferred.ofValue];simp[invoke,xq hb]
    exact h.elim
   | tmp t=>
    simp only[iQ] at h;split at h;rename_i v vs hv hvs;exact key oL v vs hv hvs h;exact h.elim
   | const t=>
    simp only[iQ] at h;split at h;rename_i v vs hv hvs;exact key oL v vs hv hvs h;exact h.elim
   | global t=>
    simp only[iQ] at h;split at h;rename_i v vs hv hvs;exact key oL v vs hv hvs h;exact h.elim
  | invoke x name=>
   simp only[iQ] at h;split at h;rename_i v vs hv hvs;obtain⟨g,us,hrun,hk⟩:=h;refine EV ?_ hk;simp only[execOp,resolve,hr.j5 hvs,hr.ev hv];simp[invoke];simpa using hrun;exact h.elim
 all_goals exact h.elim
end
section
variable {P:Program} {n:Nat} {ds:List Deferred} {e:Env} {a:Act} {w:World} {r:Option Nat} {m:Nat}
def gF (wr:Nat->Bool) (a a':Act):Prop:=∀t,wr t=false->a'.tmps.getD t undef=a.tmps.getD t undef
def gF.refl(wr:Nat->Bool)(a:Act):gF wr a a:=fun _ _=>rfl
def gF.trans{wr1 wr2 wr:Nat->Bool}{a b c:Act}(h1:gF wr1 a b)(h2:gF wr2 b c)(h:∀t,wr t=false->wr1 t=false/\wr2 t=false):gF wr a c:=
  fun t ht=>(h2 t (h t ht).2).trans (h1 t (h t ht).1)
def gF.mono{wr1 wr:Nat->Bool}{a b:Act}(h1:gF wr1 a b)(h:∀t,wr t=false->wr1 t=false):gF wr a b:=fun t ht=>h1 t (h t ht)
def gF.put(a:Act)(dst:Option Tmp)(v:Value){wr:Nat->Bool}(h:∀d,dst=some d->wr d=true):gF wr a (a.put dst v):=by
  intro t ht;cases dst with
  | none=>rfl
  | some d=>
    have hne:d≠t:=fun hd=>by subst hd;rw[h d rfl] at ht;cases ht
    simp[Act.put,Array.getElem?_setIfInBounds_ne hne]
def qpz{o:Oper}{d:Nat}(ho:o∈ops)(hd:o.dst=some d):pr ops d=true:=by unfold pr;rw[any_eq_true];exact⟨o,ho,by simp[hd]⟩
def lF (n:Nat) (ops:List Oper):Bool:=ops.all fun o=>match o.dst with|some d=>Nat.blt d n|none=>true
def qmY(h:lF n ops=true){o:Oper}(ho:o∈ops):∀d,o.dst=some d->d<n:=by
  intro d hd
  have:=all_eq_true.1 h o ho
  simp only[hd] at this;exact zO this
def Rel.refine(h:Rel n ds e a){d:Nat}{v:Value}(hv:e.get d=some v):Rel n ds ((d,v)::e) a:=by refine⟨h.size,h.defers,fun t u hu=>?_⟩;rw[Env.jD] at hu;by_cases hdt:d=t;subst hdt;simp at hu;subst hu;exact h.get _ _ hv;simp[hdt] at hu;exact h.get _ _ hu
def qiU{o:Oper}{yes no:Env->Prop}(h:guarded ops o e yes no)(hr:Rel n ds e a): (∃e',Rel n ds e' a/\Region.wanted o (yielded ops.toArray a.tmps)=true/\yes e')\/ (∃e',Rel n ds e' a/\Region.wanted o (yielded ops.toArray a.tmps)=false/\no e'):=by
  unfold guarded at h;split at h;rename_i hg;exact .inl ⟨e,hr,by simp[Region.wanted,hg],h⟩;rename_i j want hg;split at h;exact h.elim;rename_i d hd;have hy:∀v,e.get d=some v->yielded ops.toArray a.tmps j=match v with | .bool b=>some b|_=>none:=by
    intro v hv;have h1:=hr.get d v hv;unfold yielded;have hd':((ops.toArray[j]?).bind (·.dst))=some d:=(oP hd);rw[hd'];simp only[Option.bind_some];cases ht:a.tmps[d]? with
    | none=>
      have:v=undef:=(by simpa[ht] using h1.symm);subst this;rfl
    | some u=>
      have:u=v:=(by simpa[ht] using h1);subst this;cases u<;>rfl
  split at h;rename_i b hb;have hyb:=hy _ hb;simp only at hyb;have hre:=hr.refine hb;cases b<;>cases want<;>simp only at h;exact .inl ⟨_,hre,by simp[Region.wanted,hg,hyb],h⟩;exact .inr ⟨_,hre,by simp[Region.wanted,hg,hyb],h⟩;exact .inr ⟨_,hre,by simp[Region.wanted,hg,hyb],h⟩;exact .inl ⟨_,hre,by simp[Region.wanted,hg,hyb],h⟩;rename_i ts hb;have hyb:=hy _ hb;simp only at hyb;exact .inr ⟨e,hr,by simp[Region.wanted,hg,hyb],h⟩;exact h.elim
def jT (ops:List Oper):Bool:=ops.all fun o=>match o.op with | .defer _=>false|_=>true
def C7(h:jT ops=true){o:Oper}(ho:o∈ops):∀c,o.op≠.defer c:=by
  intro c hc;unfold jT at h;rw[all_eq_true] at h
  have:=h o ho
  rw[hc] at this;cases this
def CG{o:Oper}{K K':Act->WP}(hk:∀a w,K a w->K' a w)(h:o.wx r m P a w K Q):o.wx r m P a w K' Q:=by
  unfold Oper.wx at h⊢;generalize (execOp a.eval o).run P w=x at h⊢;cases x with
  | ok x w'=>
    cases x<;>simp only[Oper.uponIn] at h⊢<;>first
      | exact h
      | exact hk _ _ h
      | (refine⟨h.1,CallsIn.mono h.2 ?_⟩
         intro e w'' he;cases e<;>first|exact hk _ _ he|exact he)
      | (refine⟨h.1,RowsIn.mono h.2 ?_⟩
         intro e w'' he;exact hk _ _ he)
      | (refine⟨h.1,RoundIn.mono h.2 ?_⟩
         intro e w'' he;cases e<;>first|exact hk _ _ he|exact he)
  | halt x w'=>cases x<;>simp only[Oper.uponIn] at h⊢<;>first|exact h|exact h.elim
def Gk{o:Oper}{next:Act->WP}{v:Value}(hr:(execOp a.eval o).run P w=.ok (.value v) w')(hn:next (a.put o.dst v) w'):o.wx r m P a w next Q:=by unfold Oper.wx;rw[hr];exact hn
def qxJ{o:Oper}(Q:Exit->Act->WP)(h:vN (mi P) P o e w K)(hr:Rel n ds e a): o.wx r m P a w (fun a' w'=>∃v,a'=a.put o.dst v/\K v w') Q:=by unfold vN at h;split at h;obtain⟨v,hv,hk⟩:=qnH h hr;exact Gk (hv w) ⟨v,rfl,hk⟩;rename_i hc;obtain⟨v,hold,hv,_,hk⟩:=qnK h hc hr;exact Gk hv ⟨v,rfl,hk⟩;exact qo7 Q h hr
def D8{ops:List Oper}{K:Env->WP}{Q:Exit->Act->WP}{a0:Act}{wr:Nat->Bool}: ∀(l:List Oper) (e:Env) (a:Act) (w:World),pL (mi P) P ops K l e w->Rel n ds e a->lF n l=true->(∀o∈l,∀d,o.dst=some d->wr d=true)->gF wr a0 a-> (∀e' a' w',K e' w'->Rel n ds e' a'->gF wr a0 a'->Q .normal a' w')->jT l=true->wpListIn (Wd r) m P ops.toArray Q l a w
  | [],e,a,w,h,hr,_,_,hk,hQ,_=>hQ e a w h hr hk
  | o::rest,e,a,w,h,hr,hd,hw,hk,hQ,hn=>by have hn2:jT rest=true:=(by simp only[jT,all_cons,yA] at hn⊢;exact hn.2);have hd1:=qmY hd (o:=o) oL;have hd2:lF n rest=true:=(by simp only[lF,all_cons,yA] at hd⊢;exact hd.2);have hw1:=hw o oL;have hw2:∀o∈rest,∀d,o.dst=some d->wr d=true:=fun p hp=>hw p (by simp[hp]);unfold wpListIn;rcases qiU h hr with ⟨e',hr',hwant,hy⟩|⟨e',hr',hwant,hno⟩;rw[if_pos hwant];refine Ff (C7 hn oL) (CG ?_ (qxJ Q hy hr'));rintro a' w' ⟨v,rfl,hv⟩;exact D8 rest _ _ _ hv (hr'.put hd1 v) hd2 hw2 (hk.trans (gF.put a o.dst v hw1) (fun t ht=>⟨ht,ht⟩)) hQ hn2;rw[if_neg (by simp[hwant])];refine⟨fun _ _=>trivial,?_⟩;exact D8 rest _ _ _ hno (hr'.put hd1 undef) hd2 hw2 (hk.trans (gF.put a o.dst undef hw1) (fun t ht=>⟨ht,ht⟩)) hQ hn2
def iz (P:Program) (ops:List Oper) (i:Nat):Bool:=match ops[i]? with|some o=>(match xv P o.op with | .wt=>true|_=>false)|none=>false
def lD (ops:List Oper) (y x:Nat):Bool:=
  match ops[y]?,ops[x]? with
  | some oy,some ox=>oy.apart ops.toArray ox
  | _,_=>false
def ga (b:Array Nat) (y x:Nat):Bool:=(b.getD x 0).testBit y
def qU (P:Program) (ops:List Oper) (b:Array Nat) (y x:Nat):Bool:=ga b y x||(lD ops y x&&(!iz P ops y||iz P ops x))
def rh (P:Program) (ops:List Oper) (b:Array Nat) (y x:Nat) (r:List Nat):Bool:=!iz P ops x&&r.any fun z=>!(Nat.beq z x)&&(iz P ops z&&ga b z x)
def jB (P:Program) (ops:List Oper) (b:Array Nat):List Nat->Bool
  | []=>true
  | y::r=>r.all (fun x=>qU P ops b y x||(iz P ops y&&rh P ops b y x r))&&jB P ops b r
def rA (x:Nat) (seqs:List (List Nat)):List (List Nat):=seqs.filterMap fun s=>match s with|y::t=>bif Nat.beq y x then some t else none | []=>none
def cover (b:Array Nat):Nat->List Nat->List (List Nat)->Bool
  | 0,rem,seqs=>rem.isEmpty&&seqs.contains []
  | k+1,rem,seqs=>(rem.isEmpty&&seqs.contains [])||(!rem.isEmpty&&rem.all fun x=>rem.any (fun y=>!(Nat.beq y x)&&ga b y x)||cover b k (rem.filter fun y=>!(Nat.beq y x)) (rA x seqs))
def pR:List Nat->Bool
  | []=>true
  | x::r=>!(r.any fun y=>Nat.beq x y)&&pR r
def lQ (ops:List Oper):Bool:=ops.zipIdx.all fun (o,i)=>o.after.all fun e=>!Region.binds .any e||Nat.blt e.on i
def fk (P:Program) (ops:List Oper) (l:List Nat):List Nat:=l.filter (iz P ops)
def nU (ops:List Oper) (b:Array Nat):Bool:=
  ops.zipIdx.all fun (o,x)=>(List.range ops.length).all fun y=>!(ga b y x)||o.after.any fun e=>Region.binds .any e&&(Nat.beq e.on y||ga b y e.on)
def qM (P:Program) (ops:List Oper) (orders:List (List Nat)):Bool:=
  lQ ops&&nU ops (od ops)&&Region.noSelect ops.toArray&&
  (orders.all fun C=>(List.range ops.length).all (fun i=>C.any (Nat.beq i))&&C.all (Nat.blt · ops.length)&&pR C&&jB P ops (od ops) C)&&
  cover (od ops) ops.length (fk P ops (List.range ops.length)) (orders.map (fk P ops))
def qlI:∀ {l:List Nat},pR l=true->l.Nodup
  | [],_=>nodup_nil
  | x::r,h=>by
    simp only[pR,yA,zT,any_eq_false] at h;refine nodup_cons.2 ⟨fun hm=>?_,qlI h.2⟩
    have:=h.1 x hm
    simp at this
def jn (P:Program) (ops:List Oper) (o:Oper) (a:Act) (w:World) (v:Value):Prop:=
  (Region.wanted o (yielded ops.toArray a.tmps)=true/\(execOp a.eval o).run P w=.ok (.value v) w)\/(Region.wanted o (yielded ops.toArray a.tmps)=false/\v=undef)
def vZ:Exit->Act->WP:=fun _ _ _=>False
def qwO{o:Oper}{a b:Act}{M:Act->WP}{x:Result Next}(h:o.uponIn (Wd r) m P b (fun a' w'=>∃u,a'=b.put o.dst u/\N a' w') vZ x)(hNM:∀u w',N (b.put o.dst u) w'->M (a.put o.dst u) w'): o.uponIn (Wd r) m P a (fun a' w'=>∃u,a'=a.put o.dst u/\M a' w') vZ x:=by
  have key:∀v w',(∃u,b.put o.dst v=b.put o.dst u/\N (b.put o.dst v) w')->∃u,a.put o.dst v=a.put o.dst u/\M (a.put o.dst v) w':=fun v w' ⟨u,hu,hn⟩=>⟨v,rfl,hNM _ _ hn⟩;cases x with
  | ok x w'=>
    cases x<;>simp only[Oper.uponIn] at h⊢;case value v=>exact key _ _ h
    case skip=>exact key _ _ h
    case enter f args=>
      refine⟨h.1,CallsIn.mono h.2 ?_⟩;intro e w'' he;cases e<;>first|exact key _ _ he|exact he
    case defer d=>
      obtain⟨u,hu,_⟩:=h;exfalso;have:(Act.put { b with defers:=d::b.defers } o.dst undef).defers=(b.put o.dst u).defers:=(by rw[hu]);have h1:∀(c:Act) (x:Value),(c.put o.dst x).defers=c.defers:=fun c x=>by cases o.dst<;>rfl
      rw[h1,h1] at this
      have:=congrArg List.length this
      simp at this
    case row rw_ args=>exact⟨h.1,RowsIn.mono h.2 (fun v w'' hv=>key _ _ hv)⟩
    case round l f tmps assign body=>
      refine⟨h.1,RoundIn.mono h.2 ?_⟩;intro e w'' he;cases e<;>first|exact key _ _ he|exact he
  | halt x w'=>cases x<;>simp only[Oper.uponIn] at h⊢<;>exact h
def mc (r:Option Nat) (m:Nat) (P:Program) (ops:List Oper) (b:Array Nat) (K:Act->WP):List Nat->Holds->Act->WP
  | [],_,a,w=>K a w
  | i::rest,H,a,w=>
    ∃o,ops[i]?=some o/\
      if iz P ops i=true then
        (if Region.wanted o (yielded ops.toArray a.tmps)=true then
          o.wx r m P a w (fun a' w'=>∃v,a'=a.put o.dst v/\(∀h∈fh b i H,h w')/\mc r m P ops b K rest H a' w') vZ
        else mc r m P ops b K rest H (a.put o.dst undef) w)
      else ∃v hold,jn P ops o a w v/\(∀w',hold w'->jn P ops o a w' v)/\mc r m P ops b K rest ((i,hold)::H) (a.put o.dst v) w
def CT{ops:List Oper}{b:Array Nat}{K:Act->WP}: ∀(l:List Nat) (H H':Holds) (a:Act) (w:World),(∀p∈H',p∈H)->mc r m P ops b K l H a w->mc r m P ops b K l H' a w
  | [],_,_,_,_,_,h=>h
  | i::rest,H,H',a,w,hs,⟨o,ho,h⟩=>by refine⟨o,ho,?_⟩;by_cases he:iz P ops i=true;rw[if_pos he] at h⊢;by_cases hw:Region.wanted o (yielded ops.toArray a.tmps)=true;rw[if_pos hw] at h⊢;refine CG ?_ h;rintro a' w' ⟨v,rfl,hh,hc⟩;refine⟨v,rfl,fun x hx=>hh x ?_,CT rest H H' _ _ hs hc⟩;simp only[fh,mem_map,mem_filter] at hx⊢;obtain⟨p,⟨hp,hq⟩,rfl⟩:=hx;exact⟨p,⟨hs p hp,hq⟩,rfl⟩;rw[if_neg hw] at h⊢;exact CT rest H H' _ _ hs h;rw[if_neg he] at h⊢;obtain⟨v,hold,h1,h2,h3⟩:=h;refine⟨v,hold,h1,h2,CT rest _ _ _ _ ?_ h3⟩;intro p hp;rcases zG.1 hp with rfl|hp;simp;exact zN _ (hs p hp)
def wJ{ops:List Oper}{b:Array Nat}{K:Env->WP}{Q:Exit->Act->WP}{a0:Act}{wr:Nat->Bool}(hd:lF n ops=true)(hw:∀o∈ops,∀d,o.dst=some d->wr d=true)(hQ:∀e' a' w',K e' w'->Rel n ds e' a'->gF wr a0 a'->Q .normal a' w'): ∀(l:List Nat) (H HA:Holds) (e:Env) (a:Act) (w:World),(∀x w',(∀h∈fh b x H,h w')->∀h∈fh b x HA,h w')-> jY (mi P) P ops b K l H e w->Rel n ds e a->gF wr a0 a->mc r m P ops b (Q .normal) l HA a w
  | [],H,HA,e,a,w,_,h,hr,hk=>hQ e a w h hr hk
  | i::rest,H,HA,e,a,w,hH,h,hr,hk=>by
    simp only[jY] at h;cases ho:ops[i]? with
    | none=>simp[ho] at h
    | some o=>
      simp only[ho] at h;have hmem:o∈ops:=yE ho;have hd1:=qmY hd hmem;have hw1:=hw o hmem;have hput:∀v,gF wr a0 (a.put o.dst v):=fun v=>hk.trans (gF.put a o.dst v hw1) (fun t ht=>⟨ht,ht⟩);refine⟨o,ho,?_⟩;have hE:iz P ops i=match xv P o.op with | .wt=>true|_=>false:=by simp[iz,ho]
      have hHa:∀x w',(∀h∈fh b x H,h w')->∀h∈fh b x ((i,fun _=>True)::HA),h w':=by intro x w' hh g hg;simp only[fh,mem_map,mem_filter,zG] at hg;obtain⟨p,⟨hp,hq⟩,rfl⟩:=hg;rcases hp with rfl|hp;trivial;exact hH x w' hh _ (by simp only[fh,mem_map,mem_filter];exact⟨p,⟨hp,hq⟩,rfl⟩)
      rcases qiU h hr with ⟨e',hr',hwant,hy⟩|⟨e',hr',hwant,hno⟩;cases hc:xv P o.op with
      | pure=>
        simp only[hc] at hy hE;rw[if_neg (by simp[hE])];obtain⟨v,hv,hk'⟩:=qnH hy hr';exact⟨v,fun _=>True,.inl ⟨hwant,hv w⟩,fun w' _=>.inl ⟨hwant,hv w'⟩,wJ hd hw hQ rest H _ _ _ _ hHa hk' (hr'.put hd1 v) (hput v)⟩
      | read=>
        simp only[hc] at hy hE;rw[if_neg (by simp[hE])];obtain⟨v,hold,hv,hh,hk'⟩:=qnK hy hc hr';refine⟨v,hold,.inl ⟨hwant,hv⟩,fun w' hw'=>.inl ⟨hwant,hh w' hw'⟩,wJ hd hw hQ rest ((i,hold)::H) _ _ _ _ ?_ hk' (hr'.put hd1 v) (hput v)⟩;intro x w' hh' g hg;simp only[fh,mem_map,mem_filter,zG] at hg;obtain⟨p,⟨hp,hq⟩,rfl⟩:=hg;rcases hp with rfl|hp;exact hh' _ (by simp only[fh,mem_map,mem_filter,zG];exact⟨(i,hold),⟨.inl rfl,hq⟩,rfl⟩);refine hH x w' (fun g hg=>hh' g ?_) _ (by simp only[fh,mem_map,mem_filter];exact⟨p,⟨hp,hq⟩,rfl⟩);simp only[fh,mem_map,mem_filter,zG] at hg⊢;obtain⟨p,⟨hp,hq⟩,rfl⟩:=hg;exact⟨p,⟨.inr hp,hq⟩,rfl⟩
      | wt=>
        simp only[hc] at hy hE;rw[if_pos (by simp[hE]),if_pos hwant];refine CG ?_ (qo7 vZ hy hr');rintro a' w' ⟨v,rfl,hv⟩;have hv':(∀g∈fh b i H,g w')/\jY (mi P) P ops b K rest H (e'.put o.dst v) w':=by split at hv;rename_i hl;exact⟨by simp[hl],hv⟩;rename_i l hl;exact⟨fun g hg=>qlt hv.1 g hg,hv.2⟩
        exact⟨v,rfl,hH i w' hv'.1,wJ hd hw hQ rest H HA _ _ _ hH hv'.2 (hr'.put hd1 v) (hput v)⟩
      by_cases he:iz P ops i=true;rw[if_pos he,if_neg (by simp[hwant])];exact wJ hd hw hQ rest H HA _ _ _ hH hno (hr'.put hd1 undef) (hput undef);rw[if_neg he];exact⟨undef,fun _=>True,.inr ⟨hwant,rfl⟩,fun _ _=>.inr ⟨hwant,rfl⟩,wJ hd hw hQ rest H _ _ _ _ hHa hno (hr'.put hd1 undef) (hput undef)⟩
def jn.put{ops:List Oper}{o p:Oper}{a:Act}{w:World}{v u:Value}(hs:Region.noSelect ops.toArray=true)(ho:o∈ops)(hap:∀d,p.dst=some d->d∉o.looksAt ops.toArray): jn P ops o (a.put p.dst u) w v↔jn P ops o a w v:=by
  have hsel:∀cs b,o.op≠.select cs b:=fun cs b=>by obtain⟨j,hj,hjo⟩:=getElem_of_mem ho;exact Region.noSelect_spec hs j o cs b (by simp[<- hjo])
  unfold jn;rw[wanted_put o a p.dst u hap,execOp_put o hsel a p.dst u hap]
def qiQ{ops:List Oper}{b:Array Nat}{K:Act->WP}(hs:Region.noSelect ops.toArray=true){x:Nat}{ox:Oper}(hx:ops[x]?=some ox)(hxe:iz P ops x=false): ∀(pre post:List Nat) (H:Holds) (a:Act) (w:World),(∀y∈pre,iz P ops y=false/\lD ops y x=true)->mc r m P ops b K (pre++x::post) H a w-> ∃v,jn P ops ox a w v/\mc r m P ops b K (pre++post) H (a.put ox.dst v) w
  | [],post,H,a,w,_,⟨o,ho,h⟩=>by
    obtain rfl:ox=o:=by rw[hx] at ho;exact yN ho
    rw[if_neg (by simp[hxe])] at h;obtain⟨v,hold,h1,_,h3⟩:=h;exact⟨v,h1,CT _ _ _ _ _ (fun p hp=>zN _ hp) h3⟩
  | y::pre,post,H,a,w,hp,⟨oy,hoy,h⟩=>by obtain⟨hye,hyx⟩:=hp y oL;rw[if_neg (by simp[hye])] at h;obtain⟨v,hold,h1,h2,h3⟩:=h;obtain⟨u,hu,hc⟩:=qiQ hs hx hxe pre post _ _ w (fun z hz=>hp z (by simp[hz])) h3;simp only[lD,hoy,hx] at hyx;obtain⟨a1,a2,a3⟩:=Oper.apart_spec hyx;refine⟨u,(jn.put hs (yE hx) a1).1 hu,oy,hoy,?_⟩;rw[if_neg (by simp[hye])];refine⟨v,hold,(jn.put hs (yE hoy) a3).2 h1,fun w' hw'=>(jn.put hs (yE hoy) a3).2 (h2 w' hw'),?_⟩;rw[<- Act.put_comm a v u a2];exact hc
def qhc{ops:List Oper}{b:Array Nat}{K:Act->WP}(hs:Region.noSelect ops.toArray=true){x:Nat}{ox:Oper}(hx:ops[x]?=some ox)(hxe:iz P ops x=true): ∀(pre post:List Nat) (H:Holds) (a:Act) (w:World),(∀y∈pre,iz P ops y=false/\lD ops y x=true/\ga b y x=false)->mc r m P ops b K (pre++x::post) H a w-> if Region.wanted ox (yielded ops.toArray a.tmps)=true then ox.wx r m P a w (fun a' w'=>∃v,a'=a.put ox.dst v/\(∀h∈fh b x H,h w')/\mc r m P ops b K (pre++post) H a' w') vZ else mc r m P ops b K (pre++post) H (a.put ox.dst undef) w
  | [],post,H,a,w,_,⟨o,ho,h⟩=>by
    obtain rfl:ox=o:=by rw[hx] at ho;exact yN ho
    rw[if_pos hxe] at h;exact h
  | y::pre,post,H,a,w,hp,⟨oy,hoy,h⟩=>by
    obtain⟨hye,hyx,hyb⟩:=hp y oL;rw[if_neg (by simp[hye])] at h;obtain⟨v,hold,h1,h2,h3⟩:=h;have ih:=qhc hs hx hxe pre post _ _ w (fun z hz=>hp z (by simp[hz])) h3;simp only[lD,hoy,hx] at hyx;obtain⟨a1,a2,a3⟩:=Oper.apart_spec hyx;have hmx:ox∈ops:=yE hx;have hsel:∀cs c,ox.op≠.select cs c:=fun cs c=>by obtain⟨j,hj,hjo⟩:=getElem_of_mem hmx;exact Region.noSelect_spec hs j ox cs c (by simp[<- hjo])
    rw[wanted_put ox a oy.dst v a1] at ih;by_cases hwt:Region.wanted ox (yielded ops.toArray a.tmps)=true;rw[if_pos hwt] at ih⊢;unfold Oper.wx at ih⊢;rw[execOp_put ox hsel a oy.dst v a1] at ih;have key:∀(u:Value) (w':World),(∀h∈fh b x ((y,hold)::H),h w')->mc r m P ops b K (pre++post) ((y,hold)::H) ((a.put oy.dst v).put ox.dst u) w'->
        (∀h∈fh b x H,h w')/\mc r m P ops b K (y::pre++post) H (a.put ox.dst u) w':=by
      intro u w' hh hc;have hy:hold w':=hh hold (by simp only[fh,mem_map,mem_filter,zG];exact⟨(y,hold),⟨.inl rfl,by simpa[ga] using hyb⟩,rfl⟩);refine⟨fun g hg=>hh g ?_,oy,hoy,?_⟩;simp only[fh,mem_map,mem_filter,zG] at hg⊢;obtain⟨p,⟨hp1,hp2⟩,rfl⟩:=hg;exact⟨p,⟨.inr hp1,hp2⟩,rfl⟩;rw[if_neg (by simp[hye])];refine⟨v,hold,(jn.put hs (yE hoy) a3).2 (h2 w' hy),fun w2 hw2=>(jn.put hs (yE hoy) a3).2 (h2 w2 hw2),?_⟩;rw[<- Act.put_comm a v u a2];exact hc
    exact qwO (N:=fun a' w'=>(∀h∈fh b x ((y,hold)::H),h w')/\mc r m P ops b K (pre++post) ((y,hold)::H) a' w')
      (M:=fun a' w'=>(∀h∈fh b x H,h w')/\mc r m P ops b K (y::pre++post) H a' w') ih (fun u w' hh=>key u w' hh.1 hh.2)
    rw[if_neg hwt] at ih⊢;refine⟨oy,hoy,?_⟩;rw[if_neg (by simp[hye])];refine⟨v,hold,(jn.put hs (yE hoy) a3).2 h1,fun w' hw'=>(jn.put hs (yE hoy) a3).2 (h2 w' hw'),?_⟩;rw[<- Act.put_comm a v undef a2];exact ih
def qzU{o:Oper}{a:Act}{w:World}(h:o.wx r m P a w N vZ):o.wx r m P a w N Q:=by
  unfold Oper.wx at h⊢;generalize (execOp a.eval o).run P w=x at h⊢;cases x with
  | ok x w'=>
    cases x<;>simp only[Oper.uponIn] at h⊢<;>first
      | exact h
      | (refine⟨h.1,CallsIn.mono h.2 ?_⟩
         intro e w'' he;cases e with
         | returned v=>exact he
         | panicked c=>exact he.elim
         | outgrown=>obtain⟨_,_,hh⟩:=he;exact hh.elim)
      | (refine⟨h.1,RoundIn.mono h.2 ?_⟩
         intro e w'' he;cases e with
         | returned v=>exact he
         | panicked c=>exact he.elim
         | outgrown=>obtain⟨_,_,hh⟩:=he;exact hh.elim)
  | halt x w'=>
    cases x<;>simp only[Oper.uponIn] at h⊢<;>first|exact h|exact h.elim
def qpt{x:Nat}{l:List Nat}(h:x∈l):∃pre post,l=pre++x::post/\x∉pre:=by
  induction l with
  | nil=>cases h
  | cons y l ih=>
    by_cases hy:y=x;subst hy;exact⟨[],l,rfl,oL⟩;have hx:x∈l:=by rcases zG.1 h with rfl|h;exact absurd rfl hy;exact h
    obtain⟨pre,post,e,hn⟩:=ih hx;exact⟨y::pre,post,by simp[e],by simp[hn];exact fun h=>hy h.symm⟩
def qj4{ops:List Oper}{b:Array Nat}{x:Nat}:∀ {pre post:List Nat},jB P ops b (pre++x::post)=true->∀y∈pre,qU P ops b y x=true\/∃z,z∈pre++x::post/\z≠x/\ga b z x=true
  | [],post,h,y,hy=>by cases hy
  | z::pre,post,h,y,hy=>by
    simp only[xI,jB,yA,all_eq_true] at h;obtain⟨h1,h2⟩:=h;rcases zG.1 hy with rfl|hy
    have:=h1 x oL
    rw[Bool.or_eq_true] at this;rcases this with h|h;exact .inl h;simp only[rh,yA,any_eq_true] at h;obtain⟨_,_,q,hq,hqx,_,hb⟩:=h;refine .inr ⟨q,zN _ hq,fun e=>?_,hb⟩;subst e;simp at hqx;rcases qj4 h2 y hy with h|⟨q,hq,h3⟩;exact .inl h;exact .inr ⟨q,zN _ hq,h3⟩
def Ey{ops:List Oper}{b:Array Nat}{x:Nat}:∀ {pre post:List Nat},jB P ops b (pre++x::post)=true->(iz P ops x=true->∀y∈pre,iz P ops y=false)->jB P ops b (pre++post)=true
  | [],post,h,_=>by simp only[xH,jB,yA] at h;exact h.2
  | z::pre,post,h,he=>by
    simp only[xI,jB,yA,all_eq_true] at h;obtain⟨h1,h2⟩:=h;simp only[xI,jB,yA,all_eq_true];refine⟨fun y hy=>?_,Ey h2 (fun hx q hq=>he hx q (zN _ hq))⟩;have hy':y∈pre++x::post:=by rcases zD.1 hy with hy|hy;exact zH _ hy;exact zI _ (zN _ hy)
    have:=h1 y hy'
    rw[Bool.or_eq_true] at this⊢;rcases this with h|h;exact .inl h;right;simp only[rh,yA,any_eq_true] at h⊢;obtain⟨hz,hy2,q,hq,hqy,hqe,hqb⟩:=h;refine⟨hz,hy2,q,?_,hqy,hqe,hqb⟩;rcases zD.1 hq with hq|hq;exact zH _ hq;rcases zG.1 hq with rfl|hq
    have:=he hqe z oL
    rw[this] at hz;cases hz;exact zI _ hq
def AR{ops:List Oper}{b:Array Nat}{Q:Exit->Act->WP}(hs:Region.noSelect ops.toArray=true)(hnd:jT ops=true): ∀(L C:List Nat) (a:Act) (w:World),L.Nodup->C.Nodup->(∀i,i∈L↔i∈C)->jB P ops b C=true->fk P ops L=fk P ops C-> (∀pre x post,L=pre++x::post->∀y∈post,ga b y x=false)-> mc r m P ops b (Q .normal) C [] a w->wpOpsIn (Wd r) m P ops.toArray Q L a w
  | [],C,a,w,_,_,hm,_,_,_,h=>by
    have:C=[]:=eq_nil_iff_forall_not_mem.2 fun i hi=>by have:=(hm i).2 hi;cases this
    subst this;exact h
  | x::L,C,a,w,hL,hC,hm,ho,he,hb,h=>by
    obtain⟨pre,post,rfl,hxp⟩:=qpt ((hm x).1 oL);have hpre:=qj4 ho;have hLn:=nodup_cons.1 hL;have hCn:(pre++post).Nodup:=by rw[yL] at hC⊢;obtain⟨c1,c2,c3⟩:=hC;exact⟨c1,(nodup_cons.1 c2).2,fun p hp q hq=>c3 p hp q (zN _ hq)⟩
    have hxpost:x∉post:=(by rw[yL] at hC;exact (nodup_cons.1 hC.2.1).1);have hm':∀i,i∈L↔i∈pre++post:=by
      intro i
      have:=hm i
      simp only[zG,zD] at this⊢;constructor;intro hi;have hix:i≠x:=fun e=>hLn.1 (e▸hi);rcases this.1 (.inr hi) with h|h|h;exact .inl h;exact absurd h hix;exact .inr h;intro hi;have hix:i≠x:=fun e=>by subst e;rcases hi with h|h;exact hxp h;exact hxpost h
      rcases this.2 (by rcases hi with h|h;exact .inl h;exact .inr (.inr h)) with h|h;exact absurd h hix;exact h
    have hnb:∀y∈pre,ga b y x=false:=fun y hy=>hb [] x L rfl y ((hm' y).2 (zH _ hy));have hb':∀p z q,L=p++z::q->∀y∈q,ga b y z=false:=fun p z q hq=>hb (x::p) z q (by simp[hq]);have hap:∀y∈pre,lD ops y x=true/\(iz P ops y=false\/iz P ops x=true):=by
      intro y hy;rcases hpre y hy with this|⟨z,hz,hzx,hzb⟩;simp only[qU,hnb y hy,Bool.false_or,yA,Bool.or_eq_true,zT] at this;exact this;exfalso;have hzL:z∈L:=by rcases zG.1 ((hm z).2 hz) with h|h;exact absurd h hzx;exact h
      have:=hb [] x L rfl z hzL
      rw[this] at hzb;cases hzb
    cases hox:ops[x]? with
    | none=>
      exfalso;cases pre with
      | nil=>obtain⟨o,ho2,_⟩:=h;rw[hox] at ho2;cases ho2
      | cons y pre=>
        have:=(hap y oL).1
        simp only[lD,hox] at this;split at this<;>simp_all
    | some ox=>
      have hox':ops.toArray[x]?=some ox:=(oP hox);simp only[wpOpsIn,hox'];cases hxe:iz P ops x with
      | false=>
        have ho':=Ey ho (fun h=>by rw[hxe] at h;cases h);have hpn:∀y∈pre,iz P ops y=false/\lD ops y x=true:=fun y hy=>by refine⟨?_,(hap y hy).1⟩;rcases (hap y hy).2 with h|h;exact h;rw[hxe] at h;cases h
        obtain⟨v,hv,hc⟩:=qiQ hs hox hxe pre post [] a w hpn h;have he':fk P ops L=fk P ops (pre++post):=by simp only[fk,filter_cons,hxe,xB] at he⊢;simpa using he
        rcases hv with ⟨hw,hrun⟩|⟨hw,rfl⟩;rw[if_pos hw];exact Ff (C7 hnd (yE hox)) (Gk hrun (AR hs hnd L _ _ _ hLn.2 hCn hm' ho' he' hb' hc));rw[if_neg (by simp[hw])];refine⟨fun _ _=>trivial,?_⟩;exact AR hs hnd L _ _ _ hLn.2 hCn hm' ho' he' hb' hc
      | true=>
        have hpe:∀y∈pre,iz P ops y=false:=by
          have h1:fk P ops (x::L)=x::fk P ops L:=(by simp[fk,hxe]);have h2:fk P ops (pre++x::post)=fk P ops pre++x::fk P ops post:=(by simp[fk,hxe]);rw[h1,h2] at he;have:fk P ops pre=[]:=by
            cases hq:fk P ops pre with
            | nil=>rfl
            | cons z zs=>
              rw[hq] at he;simp at he;have hz:z∈fk P ops pre:=by rw[hq];simp
              have:=(mem_filter.1 hz).1
              exact absurd (he.1▸this) hxp
          intro y hy;cases hye:iz P ops y with
          | false=>rfl
          | true=>
            have:y∈fk P ops pre:=mem_filter.2 ⟨hy,hye⟩;rw[‹fk P ops pre=[]›] at this;cases this
        have ho':=Ey ho (fun _=>hpe);have he':fk P ops L=fk P ops (pre++post):=by
          have h0:fk P ops pre=[]:=filter_eq_nil_iff.2 fun y hy=>by simp[hpe y hy]
          have h1:fk P ops (x::L)=x::fk P ops L:=(by simp[fk,hxe]);have h2:fk P ops (pre++x::post)=fk P ops pre++x::fk P ops post:=(by simp[fk,hxe]);have h3:fk P ops (pre++post)=fk P ops pre++fk P ops post:=(by simp[fk]);rw[h1,h2,h0] at he;rw[h3,h0];simpa using he
        have hc:=qhc hs hox hxe pre post [] a w (fun y hy=>⟨hpe y hy,(hap y hy).1,hnb y hy⟩) h;by_cases hw:Region.wanted ox (yielded ops.toArray a.tmps)=true;rw[if_pos hw] at hc⊢;refine Ff (C7 hnd (yE hox)) ?_;have:ox.wx r m P a w (wpOpsIn (Wd r) m P ops.toArray Q L) vZ:=by refine CG ?_ hc;rintro a' w' ⟨v,rfl,_,hc'⟩;exact AR hs hnd L _ _ _ hLn.2 hCn hm' ho' he' hb' hc'
        exact qzU this;rw[if_neg hw] at hc⊢;refine⟨fun _ _=>trivial,?_⟩;exact AR hs hnd L _ _ _ hLn.2 hCn hm' ho' he' hb' hc
end
section
variable {P:Program} {n:Nat} {ds:List Deferred} {e:Env} {a:Act} {w:World} {r:Option Nat} {m:Nat}
def qiP(h:lQ ops=true){i:Nat}{o:Oper}(ho:ops[i]?=some o){x:Edge}(hx:x∈o.after)(hb:Region.binds .any x=true):x.on<i:=by
 unfold lQ at h;rw[all_eq_true] at h;have hm:(o,i)∈ops.zipIdx:=by rw[mem_zipIdx_iff_getElem?];simpa using ho
 have:=h (o,i) hm
 simp only[Array.all_eq_true'] at this
 have:=this x hx
 simp only[hb,Bool.not_true,Bool.false_or] at this;exact zO this
def qrE{b:Array Nat}(h:nU ops b=true){x y:Nat}{o:Oper}(ho:ops[x]?=some o)(hy:y<ops.length)(hb:ga b y x=true): ∃e∈o.after,Region.binds .any e=true/\(e.on=y\/ga b y e.on=true):=by
 unfold nU at h;rw[all_eq_true] at h;have hm:(o,x)∈ops.zipIdx:=by rw[mem_zipIdx_iff_getElem?];simpa using ho
 have:=h (o,x) hm
 rw[all_eq_true] at this
 have:=this y (oP hy)
 simp only[hb,Bool.not_true,Bool.false_or,Array.any_eq_true',yA,Bool.or_eq_true] at this;obtain⟨e,he,h1,h2⟩:=this;exact⟨e,he,h1,h2.imp yV id⟩
def vQ (ops:List Oper) (listed:Nat->Prop) (L:List Nat):Prop:=
 ∀pre x post,L=pre++x::post->∀o,ops[x]?=some o->∀e∈o.after,Region.binds .any e=true->listed e.on\/e.on∈pre
def qlS{ops:List Oper}{b:Array Nat}{L:List Nat}(hB:lQ ops=true)(hp:nU ops b=true)(hT:vQ ops (fun _=>False) L)(hL:∀i∈L,i<ops.length)(y:Nat)(hy:y<ops.length): ∀(k x:Nat),x<k->∀pre post,L=pre++x::post->ga b y x=true->y∈pre
 | 0,x,hx,_,_,_,_=>by omega
 | k+1,x,hx,pre,post,hL',hb=>by
  have hxl:x<ops.length:=hL x (by simp[hL']);obtain⟨o,ho⟩:∃o,ops[x]?=some o:=⟨ops[x],by simp[hxl]⟩;obtain⟨e,he,hbi,h⟩:=qrE hp ho hy hb;have hin:=(hT pre x post hL' o ho e he hbi).resolve_left (fun h=>h);rcases h with rfl|h;exact hin;obtain⟨p1,p2,rfl,_⟩:=qpt hin;have hlt:=qiP hB ho he hbi
  have:=qlS hB hp hT hL y hy k e.on oJ p1 (p2++x::post) (by simp[hL']) h
  exact zH _ this
def qpN{ops:Array Oper}{i:Nat}:i∈Region.ready .any ops listed↔listed.getD i true=false/\∃o,ops[i]?=some o/\∀e∈o.after,Region.binds .any e=true->listed.getD e.on false=true:=by
 simp only[Region.ready,mem_filter,mem_range,yA,zT];constructor;rintro⟨hi,h1,h2⟩;refine⟨h1,ops[i],by simp[hi],?_⟩;simp only[Array.getElem?_eq_getElem hi,Option.map_some,xU,Array.all_eq_true',Bool.or_eq_true,zT] at h2;intro e he hb;rcases h2 e he with h|h;rw[hb] at h;cases h;exact h;rintro⟨h1,o,ho,h2⟩;have hi:i<ops.size:=by rcases Nat.lt_or_ge i ops.size with h|h;exact h;simp[Array.getElem?_eq_none h] at ho
 refine⟨hi,h1,?_⟩;simp only[ho,Option.map_some,xU,Array.all_eq_true',Bool.or_eq_true,zT];intro e he;cases hb:Region.binds .any e with
 | false=>exact .inl rfl
 | true=>exact .inr (h2 e he hb)
def rc (listed:Array Bool) (k:Nat):Nat:=((List.range k).filter fun i=>!listed.getD i true).length
def qzi{i:Nat}(hi:listed.getD i true=false):∀k,i<k->rc (listed.setIfInBounds i true) k+1=rc listed k:=by
 intro k;have hlt:i<listed.size:=by rcases Nat.lt_or_ge i listed.size with h|h;exact h;simp[Array.getElem?_eq_none h] at hi
 have heq:∀j,(listed.setIfInBounds i true).getD j true=if j=i then true else listed.getD j true:=by intro j;by_cases hj:j=i;subst hj;simp[hlt];rw[if_neg hj,getD_set_ne true (fun h=>hj h.symm)]
 induction k with
 | zero=>intro h;omega
 | succ k ih=>
  intro hk;unfold rc at ih⊢;rw[range_succ,xB,xB,zF,zF];by_cases hki:k=i;subst hki;have h1:∀j∈List.range k,(!(listed.setIfInBounds k true).getD j true) = !listed.getD j true:=fun j hj=>by rw[heq j,if_neg (by have:=mem_range.1 hj;omega)]
  rw[filter_congr h1];simp only[filter_cons,filter_nil,heq k,if_true,hi];simp
  have:=ih oJ
  simp only[filter_cons,filter_nil,heq k,if_neg hki];omega
def qzh{k:Nat}(h:0<rc listed k):∃i,i<k/\listed.getD i true=false/\∀j,j<i->listed.getD j true=true:=by
 induction k with
 | zero=>simp[rc] at h
 | succ k ih=>
  by_cases hk:0<rc listed k;obtain⟨i,h1,h2⟩:=ih hk;exact⟨i,oJ,h2⟩;have h0:rc listed k=0:=oJ;have hall:∀j,j<k->listed.getD j true=true:=by
   intro j hj;unfold rc at h0;have:(List.range k).filter (fun i=>!listed.getD i true)=[]:=eq_nil_of_length_eq_zero h0
   have:=filter_eq_nil_iff.1 this j (mem_range.2 hj)
   simpa using this
  refine⟨k,oJ,?_,hall⟩;unfold rc at h h0;rw[range_succ,xB,zF] at h;rw[h0] at h;simp only[filter_cons,filter_nil,xR] at h;cases hk:listed.getD k true with
  | false=>rfl
  | true=>rw[hk] at h;simp at h
def qxE(hB:lQ ops=true):∀(fuel t:Nat) (listed:Array Bool),listed.size=ops.length->rc listed ops.length<=fuel-> ∃L,Region.linearise.go .any ops.toArray fuel t listed []=L/\L.Nodup/\(∀i,i∈L↔i<ops.length/\listed.getD i true=false)/\vQ ops (fun j=>listed.getD j false=true) L:=by
 intro fuel;induction fuel with
 | zero=>
  intro t listed hs hu;refine⟨[],by simp[Region.linearise.go],nodup_nil,fun i=>⟨fun h=>(by cases h),fun⟨h1,h2⟩=>?_⟩,?_⟩;exfalso;have:i∈(List.range ops.length).filter fun i=>!listed.getD i true:=mem_filter.2 ⟨mem_range.2 h1,by simp[h2]⟩;have h0:((List.range ops.length).filter fun i=>!listed.getD i true)=[]:=eq_nil_of_length_eq_zero (by unfold rc at hu;omega);rw[h0] at this;cases this;intro pre x post h;simp at h
 | succ fuel ih=>
  intro t listed hs hu;simp only[Region.linearise.go];have hrs:((List.range ops.toArray.size).filter fun i=>!listed.getD i true&&((ops.toArray[i]?).map (·.after.all fun e=>!Region.binds .any e||listed.getD e.on false)).getD false)=Region.ready .any ops.toArray listed:=rfl;rw[hrs];by_cases hr:Region.ready .any ops.toArray listed=[];have hnone:∀i,i<ops.length->listed.getD i true=true:=by
   intro i hi;cases hli:listed.getD i true with
   | true=>rfl
   | false=>
    exfalso;have hpos:0<rc listed ops.length:=by unfold rc;exact length_pos_of_mem (mem_filter.2 ⟨mem_range.2 hi,by simp[hli]⟩)
    obtain⟨j,hj,hj0,hjall⟩:=qzh hpos;have:j∈Region.ready .any ops.toArray listed:=by
     rw[qpN];refine⟨hj0,ops[j],by simp[hj],fun e he hb=>?_⟩;have hlt:=qiP hB (show ops[j]?=some ops[j] by simp[hj]) he hb
     have:=hjall e.on hlt
     have hlt2:e.on<listed.size:=oJ;simp only[Array.getD_eq_getD_getElem?,Array.getElem?_eq_getElem hlt2,xU] at this⊢;exact this
    rw[hr] at this;cases this
  refine⟨[],by simp[hr],nodup_nil,fun i=>⟨fun h=>(by cases h),fun⟨h1,h2⟩=>?_⟩,?_⟩;rw[hnone i h1] at h2;cases h2;intro pre x post h;simp at h;have hlen:0<(Region.ready .any ops.toArray listed).length:=length_pos_iff.2 hr;have hmod:t%(Region.ready .any ops.toArray listed).length<(Region.ready .any ops.toArray listed).length:=Nat.mod_lt _ hlen;rw[zA hmod];simp only;generalize hi:(Region.ready .any ops.toArray listed)[t%(Region.ready .any ops.toArray listed).length]=i;have hmem:i∈Region.ready .any ops.toArray listed:=(by rw[<- hi];exact zW _);obtain⟨h1,o,ho,h2⟩:=qpN.1 hmem;have hilt:i<ops.length:=by rcases Nat.lt_or_ge i ops.length with h|h;exact h;simp[yR h] at ho
  rw[linearise_go_acc];have hu':=qzi h1 ops.length hilt;obtain⟨L,hL,hnd,hm,hT⟩:=ih (t / (Region.ready .any ops.toArray listed).length) (listed.setIfInBounds i true) (oP hs) oJ;have heq:∀j,(listed.setIfInBounds i true).getD j true=if j=i then true else listed.getD j true:=by intro j;by_cases hj:j=i;subst hj;have:j<listed.size:=oJ;simp[this];rw[if_neg hj,getD_set_ne true (fun h=>hj h.symm)]
  refine⟨i::L,by rw[hL];simp,nodup_cons.2 ⟨fun hin=>?_,hnd⟩,fun j=>?_,?_⟩
  have:=((hm i).1 hin).2
  rw[heq i,if_pos rfl] at this;cases this;rw[zG,hm j,heq j];constructor;rintro (rfl|⟨hj1,hj2⟩);exact⟨hilt,h1⟩;by_cases hji:j=i;rw[if_pos hji] at hj2;cases hj2;rw[if_neg hji] at hj2;exact⟨hj1,hj2⟩;rintro⟨hj1,hj2⟩;by_cases hji:j=i;exact .inl hji;exact .inr ⟨hj1,by rw[if_neg hji];exact hj2⟩;intro pre x post hsplit ox hox e he hb;cases pre with
  | nil=>
   simp only[xH,List.cons.injEq] at hsplit;obtain⟨rfl,rfl⟩:=hsplit;have:o=ox:=by have ho':ops[i]?=some o:=(oP ho);rw[ho'] at hox;exact yN hox
   subst this;exact .inl (h2 e he hb)
  | cons z pre=>
   simp only[xI,List.cons.injEq] at hsplit;obtain⟨rfl,rfl⟩:=hsplit;rcases hT pre x post rfl ox hox e he hb with h|h;by_cases hei:e.on=i;exact .inr (by simp[hei]);rw[getD_set_ne false (fun h=>hei h.symm)] at h;exact .inl h;exact .inr (zN _ h)
def qmU{b:Array Nat}:∀(k:Nat) (rem:List Nat) (seqs:List (List Nat)) (σ:List Nat),cover b k rem seqs=true->σ.Nodup->(∀i,i∈σ↔i∈rem)-> (∀pre x post,σ=pre++x::post->∀y∈post,ga b y x=false)->σ∈seqs
 | 0,rem,seqs,σ,h,_,hm,_=>by
  simp only[cover,yA,isEmpty_iff] at h;obtain⟨rfl,h2⟩:=h;have:σ=[]:=eq_nil_iff_forall_not_mem.2 fun i hi=>by have:=(hm i).1 hi;cases this
  subst this;simpa using h2
 | k+1,rem,seqs,σ,h,hn,hm,hb=>by
  simp only[cover,Bool.or_eq_true,yA,isEmpty_iff,zT] at h;rcases h with ⟨rfl,h2⟩|⟨h1,h2⟩;have:σ=[]:=eq_nil_iff_forall_not_mem.2 fun i hi=>by have:=(hm i).1 hi;cases this
  subst this;simpa using h2;cases σ with
  | nil=>
   exfalso;cases rem with
   | nil=>simp at h1
   | cons r rs=>have:=(hm r).2 oL;cases this
  | cons x σ=>
   have hx:x∈rem:=(hm x).1 oL;rw[all_eq_true] at h2;have h3:=h2 x hx;have hno:(rem.any fun y=>!(Nat.beq y x)&&ga b y x)=false:=by
    rw[any_eq_false];intro y hy;simp only[yA,zT,not_and];intro hyx;have hyne:y≠x:=fun e=>by subst e;simp at hyx
    have hyσ:y∈σ:=by rcases zG.1 ((hm y).2 hy) with h|h;exact absurd h hyne;exact h
    simp[hb [] x σ rfl y hyσ]
   rw[hno,Bool.false_or] at h3;have hxn:=nodup_cons.1 hn;have hm':∀i,i∈σ↔i∈rem.filter fun y=>!(Nat.beq y x):=by
    intro i;rw[mem_filter];constructor;intro hi;refine⟨(hm i).1 (by simp[hi]),?_⟩;have:i≠x:=fun e=>hxn.1 (e▸hi);cases hq:Nat.beq i x with
    | false=>rfl
    | true=>exact absurd (yV hq) this
    rintro⟨h5,h6⟩;rcases zG.1 ((hm i).2 h5) with rfl|h;simp at h6;exact h
   have:=qmU k _ _ σ h3 hxn.2 hm' (fun pre z post hs=>hb (x::pre) z post (by simp[hs]))
   unfold rA at this;rw[mem_filterMap] at this;obtain⟨s,hs,hsσ⟩:=this;cases s with
   | nil=>cases hsσ
   | cons y t=>
    simp only at hsσ;cases hyx:Nat.beq y x with
    | true=>
     rw[hyx] at hsσ;simp only[cond_true,Option.some.injEq] at hsσ
     have:=yV hyx
     subst this;subst hsσ;exact hs
    | false=>rw[hyx] at hsσ;simp at hsσ
def qlN{ops:List Oper}{b:Array Nat}{K:Env->WP}:∀ {orders:List (List Nat)} {e:Env} {w:World},nY (mi P) P ops b K orders e w->∀C∈orders,jY (mi P) P ops b K C [] e w
 | [],_,_,_,_,h=>by cases h
 | [o],_,_,h,C,hC=>by simp at hC;subst hC;exact h
 | o::p::r,_,_,h,C,hC=>by rcases zG.1 hC with rfl|hC;exact h.1;exact qlN (orders:=p::r) h.2 C hC
def qum{id:Nat}{orders:List (List Nat)}{K:Env->WP}{wr:Nat->Bool}(hm:P.follows .mixedOrders=true)(hok:qM P ops orders=true)(hnd:jT ops=true)(hd:lF n ops=true)(hw:∀o∈ops,∀d,o.dst=some d->wr d=true)(h:nY (mi P) P ops (od ops) K orders e w.drew)(hr:Rel n ds e a)(hQ:∀e' a' w',K e' w'->Rel n ds e' a'->gF wr a a'->Q .normal a' w'): (Code.region id ops.toArray true).wpIn (Wd r) m P Q a w:=by
 refine wpIn_region_draw fun t=>?_;simp only[Region.schedule,hm,Bool.true_or,if_true,Region.linearise];simp only[qM,yA,all_eq_true] at hok;obtain⟨⟨⟨⟨hB,hp⟩,hns⟩,hall⟩,hcov⟩:=hok;have hun:rc (Array.replicate ops.toArray.size false) ops.length<=ops.toArray.size:=by unfold rc;refine zL (length_filter_le _ _) ?_;simp
 obtain⟨L,hL,hnd',hmem,hT⟩:=qxE hB ops.toArray.size t (Array.replicate ops.toArray.size false) oL hun;rw[hL];have hmem':∀i,i∈L↔i<ops.length:=by intro i;rw[hmem i];constructor;exact fun h=>h.1;intro hi;exact⟨hi,by simp[hi]⟩
 have hT':vQ ops (fun _=>False) L:=fun pre x post hs o ho e he hb=>by rcases hT pre x post hs o ho e he hb with h|h;exfalso;simp only[Array.getD_eq_getD_getElem?,Array.getElem?_replicate] at h;split at h<;>simp at h;exact .inr h
 have hbef:∀pre x post,L=pre++x::post->∀y∈post,ga (od ops) y x=false:=by
  intro pre x post hs y hy;cases hb:ga (od ops) y x with
  | false=>rfl
  | true=>
   exfalso;have hyl:y<ops.length:=(hmem' y).1 (by simp[hs,hy])
   have:=qlS hB hp hT' (fun i hi=>(hmem' i).1 hi) y hyl (x+1) x oJ pre post hs hb
   rw[hs] at hnd';rw[yL] at hnd';exact hnd'.2.2 y this y (zN _ hy) rfl
 have hσ:fk P ops L∈orders.map (fk P ops):=by
  refine qmU _ _ _ _ hcov (hnd'.filter _) (fun i=>?_) ?_;simp only[fk,mem_filter,mem_range,hmem'];intro pre x post hs y hy;have hlift:∀(l:List Nat) (f:Nat->Bool) (pre:List Nat) (x:Nat) (post:List Nat),l.filter f=pre++x::post->∃p q,l=p++x::q/\∀y∈post,y∈q:=by
   intro l f;induction l with
   | nil=>intro pre x post h;simp at h
   | cons z l ih=>
    intro pre x post h;by_cases hz:f z=true;rw[filter_cons_of_pos hz] at h;cases pre with
    | nil=>
     simp only[xH,List.cons.injEq] at h;obtain⟨rfl,h⟩:=h;exact⟨[],l,rfl,fun y hy=>(mem_filter.1 (h▸hy)).1⟩
    | cons p pre=>
     simp only[xI,List.cons.injEq] at h;obtain⟨rfl,h⟩:=h;obtain⟨p',q,hq,hh⟩:=ih pre x post h;exact⟨z::p',q,by simp[hq],hh⟩
    rw[filter_cons_of_neg hz] at h;obtain⟨p',q,hq,hh⟩:=ih pre x post h;exact⟨z::p',q,by simp[hq],hh⟩
  obtain⟨p,q,hpq,hh⟩:=hlift L _ pre x post hs;exact hbef p x q hpq y (hh y hy)
 obtain⟨C,hC,hCe⟩:=mem_map.1 hσ;have hCa:=hall C hC;obtain⟨⟨⟨c1,c2⟩,c3⟩,c4⟩:=hCa;have c3':=qlI c3;have hCm:∀i,i∈C↔i<ops.length:=by intro i;constructor;intro hi;exact zO (c2 i hi);intro hi;obtain⟨j,hj,hij⟩:=any_eq_true.1 (c1 i (mem_range.2 hi));exact (yV hij)▸hj
 have hrun:=qlN h C hC;have hcan:=wJ (r:=r) (m:=m) (Q:=Q) (a0:=a) hd hw hQ C [] [] e a w.drew (fun x w' h=>h) hrun hr (gF.refl _ _);exact AR hns hnd L C a w.drew hnd' c3' (fun i=>by rw[hmem' i,hCm i]) c4 hCe.symm hbef hcan
def lK (r:Option Nat) (m:Nat) (P:Program) (c:Code) (Q:Exit->Act->WP) (a:Act) (w:World):Prop:=
 ∀(b:Frame) (k:List Item) (cs:List Frame),b.roundOf=r->∃e a' w',Q e a' w'/\ArrivesIn (Machine.fenced P (Wd r)) P (lone (b.atR a (.code c::.inLoop c::k)) cs w) b k cs e a' w'
def lK.loop{c:Code}{Q:Exit->Act->WP}{a:Act}{w:World}(h:lK r m P c Q a w):(Code.loop c).wpIn (Wd r) m P Q a w:=
 fun b k cs hro hb hr=>let ⟨e,a',w',q,x⟩:=h b k cs hro;⟨e,a',w',q,.of_steps (.one (fenced_calm hb hr rfl) stepR_loop) x⟩
def lK.vF{c:Code}{a:Act}{w:World}(h:c.wpIn (Wd r) m P (Exit.then (fun a w=>lK r m P c Q a w) Q) a w):lK r m P c Q a w:=by
 intro b k cs hro;have hroom:(Wd r).room (cs.length+1+m):=fun _ hd=>by cases hd
 obtain⟨e,a₁,w₁,hq,harr⟩:=h b (.inLoop c::k) cs hro trivial hroom;cases e with
 | normal=>
  obtain⟨e₂,a₂,w₂,hq₂,harr₂⟩:=hq b k cs hro;exact⟨e₂,a₂,w₂,hq₂,.of_steps (StepsIn.trans harr (.one (fenced_calm (n:=m) trivial hroom rfl) stepR_inLoop)) harr₂⟩
 | exit id=>exact⟨_,a₁,w₁,hq,.pass (x:=.inLoop c) rfl (fun _ _=>.inl oL) harr⟩
 | goto l=>exact⟨_,a₁,w₁,hq,.pass (x:=.inLoop c) rfl (fun _ _=>.inl oL) harr⟩
 | ret=>exact⟨_,a₁,w₁,hq,.pass (x:=.inLoop c) rfl (fun _ _=>.inl oL) harr⟩
 | panic ch=>exact⟨_,a₁,w₁,hq,.pass (x:=.inLoop c) rfl (fun _ _=>.inl oL) harr⟩
 | outgrown=>exact⟨_,a₁,w₁,hq,.pass (x:=.inLoop c) rfl (fun _ _=>.inl oL) harr⟩
def PC.fits (P:Program) (n:Nat):PC->Bool
 | .skip=>true
 | .region _ ops=>lF n ops&&jT ops
 | .draw _ ops orders=>lF n ops&&qM P ops orders&&P.follows .mixedOrders&&jT ops
 | .seq a b=>a.fits P n&&b.fits P n
 | .join _ a b=>a.fits P n&&b.fits P n
 | .cond _ a b=>a.fits P n&&b.fits P n
 | .block _ b=>b.fits P n
 | .loop _ b=>b.fits P n
 | .exit _=>true
 | .ret=>true
 | .jR _ ps pts x y=>Nat.beq ps.length pts.length&&ps.all (Nat.blt · n)&&x.fits P n&&y.fits P n
 | .other _=>true
def iB.to:iB->Exit
 | .normal=>.normal
 | .exit id=>.exit id
 | .ret=>.ret
def qnc:∀(e1 e2:Env) (t:Nat),(e1++e2:Env).get t=match e1.get t with|some v=>some v|none=>e2.get t
 | [],e2,t=>rfl
 | (k,v)::r,e2,t=>by show Env.get ((k,v)::(r++e2)) t=_;rw[Env.jD,Env.jD];by_cases h:k=t;simp[h];simp[h,qnc r e2 t]
def FE:∀(e:Env) (wr:Nat->Bool) (t:Nat),(e.jG wr).get t=if wr t=true then none else e.get t
 | [],wr,t=>by simp[Env.jG,Env.get]
 | (k,v)::r,wr,t=>by
  simp only[Env.jG];cases hk:wr k with
  | true=>
   simp only[cond_true];rw[FE r wr t,Env.jD];by_cases h:k=t;subst h;simp[hk];simp[h]
  | false=>
   simp only[cond_false];rw[Env.jD,Env.jD,FE r wr t];by_cases h:k=t;subst h;simp[hk];simp[h]
def qqK:∀ {live:Live} {e:Env} {s:rP live},nA live e=some s->∀t v,(pH live s).get t=some v->e.get t=some v
 | [],_,_,_,t,v,h=>by simp[pH,Env.get] at h
 | [(k,y)],e,s,hp,t,v,h=>by simp only[nA] at hp;split at hp;rename_i u hu;simp only[pH] at h;rw[Env.jD] at h;by_cases hk:k=t;subst hk;simp only[if_true,Option.some.injEq] at h;rw[<- h,hu,gO.lw hp];simp[hk,Env.get] at h;cases hp
 | (k,y)::p::r,e,s,hp,t,v,h=>by simp only[nA] at hp;split at hp;rename_i u hu;split at hp;rename_i x hx;split at hp;rename_i z hz;cases hp;simp only[pH] at h;rw[Env.jD] at h;by_cases hk:k=t;subst hk;simp only[if_true,Option.some.injEq] at h;rw[<- h,hu,gO.lw hx];simp only[hk,if_false] at h;exact qqK (live:=p::r) hz t v h;cases hp;cases hp;cases hp
def Eh{live:Live}{e0 e':Env}{a0 a':Act}{wr:Nat->Bool}{s:rP live}(h0:Rel n ds e0 a0)(h':Rel n ds e' a')(hk:gF wr a0 a')(hp:nA live e'=some s): Rel n ds (pH live s++e0.jG wr) a':=by refine⟨h'.size,h'.defers,fun t v hv=>?_⟩;rw[qnc] at hv;split at hv;rename_i u hu;cases hv;exact h'.get t v (qqK hp t v hu);rw[FE] at hv;by_cases hw:wr t=true;simp[hw] at hv;rw[if_neg hw] at hv;rw[hk t (oP hw)];exact h0.get t v hv
def pN:∀(c:PC) (Q:mO) (e:Env) (a:Act) (w:World) (Q':Exit->Act->WP),c.fits P n=true->c.pt (mi P) P Q e w->Rel n ds e a-> (∀x e' a' w',Q x e' w'->Rel n ds e' a'->gF c.wr a a'->Q' x.to a' w')->c.erase.wpIn (Wd r) m P Q' a w
 | .skip,Q,e,a,w,Q',_,h,hr,hQ=>wpIn_skip (hQ .normal e a w h hr (gF.refl _ _))
 | .region id ops,Q,e,a,w,Q',hf,h,hr,hQ=>by simp only[PC.fits,yA] at hf;exact wpIn_region_list<|D8 (wr:=pr ops) ops e a w h hr hf.1 (fun o ho d hd=>qpz ho hd) (gF.refl _ _) (fun e' a' w' hk hr' hkeep=>hQ .normal e' a' w' hk hr' hkeep) hf.2
 | .draw id ops orders,Q,e,a,w,Q',hf,h,hr,hQ=>by simp only[PC.fits,yA] at hf;exact qum (wr:=pr ops) hf.1.2 hf.1.1.2 hf.2 hf.1.1.1 (fun o ho d hd=>qpz ho hd) h hr (fun e' a' w' hk hr' hkeep=>hQ .normal e' a' w' hk hr' hkeep)
 | .seq x y,Q,e,a,w,Q',hf,h,hr,hQ=>by
  simp only[PC.fits,yA] at hf;refine wpIn_seq (pN x _ e a w _ hf.1 h hr ?_);intro z e1 a1 w1 hz hr1 hk1;cases z with
  | normal=>
   refine pN y Q e1 a1 w1 Q' hf.2 hz hr1 (fun z e2 a2 w2 hz2 hr2 hk2=>hQ z e2 a2 w2 hz2 hr2 ?_);exact hk1.trans hk2 (fun t ht=>by simpa[PC.wr] using ht)
  | exit id=>exact hQ (.exit id) e1 a1 w1 hz hr1 (hk1.mono (fun t ht=>by simp[PC.wr] at ht;exact ht.1))
  | ret=>exact hQ .ret e1 a1 w1 hz hr1 (hk1.mono (fun t ht=>by simp[PC.wr] at ht;exact ht.1))
 | .join live x y,Q,e,a,w,Q',hf,h,hr,hQ=>by
  simp only[PC.fits,yA] at hf;obtain⟨Mid,hX,hY⟩:=h;refine wpIn_seq (pN x _ e a w _ hf.1 hX hr ?_);intro z e1 a1 w1 hz hr1 hk1;cases z with
  | normal=>
   simp only[mO.j4] at hz;split at hz;rename_i s hs;refine pN y Q _ a1 w1 Q' hf.2 (hY s w1 hz) (Eh hr hr1 hk1 hs) (fun z e2 a2 w2 hz2 hr2 hk2=>hQ z e2 a2 w2 hz2 hr2 ?_);exact hk1.trans hk2 (fun t ht=>by simpa[PC.wr] using ht);exact hz.elim
  | exit id=>exact hQ (.exit id) e1 a1 w1 hz hr1 (hk1.mono (fun t ht=>by simp[PC.wr] at ht;exact ht.1))
  | ret=>exact hQ .ret e1 a1 w1 hz hr1 (hk1.mono (fun t ht=>by simp[PC.wr] at ht;exact ht.1))
 | .cond c x y,Q,e,a,w,Q',hf,h,hr,hQ=>by
  simp only[PC.fits,yA] at hf;simp only[PC.pt] at h;split at h;rename_i b hb;cases b with
  | true=>exact wpIn_cond_true (hr.ev hb) (pN x Q e a w Q' hf.1 h hr (fun z e1 a1 w1 hz hr1 hk1=>hQ z e1 a1 w1 hz hr1 (hk1.mono (fun t ht=>by simp[PC.wr] at ht;exact ht.1))))
  | false=>exact wpIn_cond_false (hr.ev hb) (pN y Q e a w Q' hf.2 h hr (fun z e1 a1 w1 hz hr1 hk1=>hQ z e1 a1 w1 hz hr1 (hk1.mono (fun t ht=>by simp[PC.wr] at ht;exact ht.2))))
  exact h.elim
 | .block id body,Q,e,a,w,Q',hf,h,hr,hQ=>by
  refine wpIn_block (pN body _ e a w _ hf h hr ?_);intro z e1 a1 w1 hz hr1 hk1;cases z with
  | normal=>exact hQ .normal e1 a1 w1 hz hr1 hk1
  | exit j=>
   simp only at hz;simp only[iB.to,Exit.inBlock];cases hj:Nat.beq j id with
   | true=>
    rw[hj] at hz;rw[if_pos (yV hj)];exact hQ .normal e1 a1 w1 hz hr1 hk1
   | false=>
    rw[hj] at hz;rw[if_neg (fun hq=>by subst hq;simp at hj)];exact hQ (.exit j) e1 a1 w1 hz hr1 hk1
  | ret=>exact hQ .ret e1 a1 w1 hz hr1 hk1
 | .loop live body,Q,e,a,w,Q',hf,h,hr,hQ=>by
  simp only[PC.pt] at h;split at h;rename_i s0 hs0;have key:=h (fun s w1=>∀a1,Rel n ds (pH live s++e.jG (fun t=>body.wr t)) a1->gF body.wr a a1->lK r m P body.erase Q' a1 w1) ?_;exact lK.loop (key a (Eh hr hr (gF.refl _ _) hs0) (gF.refl _ _));intro s w1 hB a1 hr1 hk1;refine lK.vF (pN body _ _ a1 w1 _ hf hB hr1 ?_);intro z e2 a2 w2 hz hr2 hk2;have hk:gF body.wr a a2:=hk1.trans hk2 (fun t ht=>⟨ht,ht⟩);cases z with
  | normal=>
   simp only[mO.j4] at hz;split at hz;rename_i s' hs';exact hz a2 (Eh hr hr2 hk hs') hk;exact hz.elim
  | exit id=>exact hQ (.exit id) e2 a2 w2 hz hr2 hk
  | ret=>exact hQ .ret e2 a2 w2 hz hr2 hk
  exact h.elim
 | .exit id,Q,e,a,w,Q',_,h,hr,hQ=>wpIn_exit (hQ (.exit id) e a w h hr (gF.refl _ _))
 | .ret,Q,e,a,w,Q',_,h,hr,hQ=>wpIn_ret (hQ .ret e a w h hr (gF.refl _ _))
 | .jR ..,Q,e,a,w,Q',_,h,_,_=>h.elim
 | .other c,Q,e,a,w,Q',_,h,_,_=>h.elim
def rx:∀(c:Code) (as0:List t7),(jg c as0).1.erase=c
 | .skip,as0=>rfl
 | .region id ops draw,as0=>by
  cases draw with
  | false=>simp[jg,PC.erase]
  | true=>
   simp only[jg];split<;>simp[PC.erase]
 | .seq a b,as0=>by simp only[jg];split;simp only[PC.erase,rx a,rx b];simp only[PC.erase,rx a,rx b];simp only[PC.erase,rx a,rx b];rfl
 | .cond c a b,as0=>by simp only[jg,PC.erase,rx a,rx b]
 | .block id b,as0=>by simp only[jg,PC.erase,rx b]
 | .loop b,as0=>by simp only[jg];split;simp only[PC.erase,rx b];rfl
 | .rangeFunc f ps x y,as0=>by simp only[jg];split;simp only[PC.erase,rx x,rx y];rfl
 | .exit id,as0=>rfl
 | .scope b,as0=>rfl
 | .label l,as0=>rfl
 | .goto l,as0=>rfl
 | .ret,as0=>rfl
 | .refuse s,as0=>rfl
def qlW:∀ {ts:List gO} {vs:List Value} {x:iO ts},kz.unVals ts vs=some x->iO.vals ts x=vs
 | [],[],_,_=>rfl
 | [],_::_,_,h=>by simp[kz.unVals] at h
 | [t],[v],x,h=>by simp only[kz.unVals] at h;simp only[iO.vals,gO.lw h]
 | [t],[],x,h=>by simp[kz.unVals] at h
 | [t],_::_::_,x,h=>by simp[kz.unVals] at h
 | t::u::ts,[],x,h=>by simp[kz.unVals] at h
 | t::u::ts,v::vs,x,h=>by simp only[kz.unVals] at h;split at h;rename_i y hy;split at h;rename_i z hz;cases h;simp only[iO.vals,gO.lw hy,qlW hz];cases h;cases h
def qn0{v:Value}{x:iO ts}(h:kz ts v=some x)(hv:ts=[]->v=.tuple #[]):fP ts x=v:=by
 match ts,x,h with
 | [],x,h=>simp[fP,hv rfl]
 | [t],x,h=>exact gO.lw h
 | t::u::ts,x,h=>
  cases v<;>simp only[kz] at h<;>try (cases h;done)
  rename_i vs;simp only[fP,qlW h]
def kE (tmps:Array Value):ResultVar->Sem Value
 | .tmp t=>pure (tmps.getD t undef)
 | .cell a t=>do loadVar t (<- asAddr (tmps.getD a undef))
def yu{R:List Value->Prop}:∀(rvs:List ResultVar) (e:Env) (a:Act) (w:World) (K:List Value->Prop),kS (mi P) P rvs e w K->Rel n ds e a-> ∃vs,(rvs.mapM (kE a.tmps)).run P w=.ok vs w/\vs.length=rvs.length/\K vs
 | [],e,a,w,K,h,hr=>⟨[],oL,rfl,h⟩
 | .tmp t::r,e,a,w,K,h,hr=>by simp only[kS] at h;split at h;rename_i v hv;obtain⟨vs,h1,h2,h3⟩:=yu (R:=R) r e a w _ h hr;exact⟨v::vs,by simp[mapM_cons,kE,h1,<- hr.get t v hv],by simp[h2],h3⟩;exact h.elim
 | .cell ad t::r,e,a,w,K,h,hr=>by
  simp only[kS] at h;split at h;rename_i p hp;have hp':=hr.get _ _ hp;split at h;rename_i c hcell;cases hok:!mJ P t with
  | true=>simp only[hok,cond_true] at h
  | false=>
   simp only[hok,cond_false] at h;obtain⟨hi1,hi2⟩:=sD hok;cases hag:eW P t with
   | true=>simp only[hag,cond_true] at h
   | false=>
    simp only[hag,cond_false] at h;obtain⟨y,hy,hk⟩:=h;obtain⟨vs,h1,h2,h3⟩:=yu (R:=R) r e a w _ hk hr;exact⟨_::vs,by simp[mapM_cons,kE,hp',asAddr,loadVar,uX hi2,hag,hy,h1],by simp[h2],h3⟩
  rename_i cs hcells;cases hg:eW P t&&Nat.beq (eG P t) cs.length with
  | false=>simp only[hg,cond_false] at h
  | true=>
   simp only[hg,cond_true] at h;simp only[yA] at hg;obtain⟨hag,hsz⟩:=hg;have hsz':=yV hsz;obtain⟨y,hy,hk⟩:=h;have hlen:(HL.mk cs y).length=cs.length:=HL.j3 cs y;have hsome:(P.info? t).isSome=true:=by
    cases hi:P.info? t with
    | none=>
     have:(P.underlying t).isSome=true:=uV hag;simp[Program.underlying,hi] at this
    | some i=>rfl
   obtain⟨vs,h1,h2,h3⟩:=yu (R:=R) r e a w _ hk hr;have hl:=AO (P:=P) (HL.mk cs y) 0 #[] w hy;rw[hlen,<- hsz'] at hl;exact⟨_::vs,by simp[mapM_cons,kE,hp',asAddr,loadVar,uX (uV hag),hag,qa hsome,loadCells,hl,h1],by simp[h2],h3⟩
  cases hag:eW P t with
  | false=>simp only[hag,cond_false] at h
  | true=>
   simp only[hag,cond_true] at h;obtain⟨y,hy,hk⟩:=h;have hsome:(P.info? t).isSome=true:=by
    cases hi:P.info? t with
    | none=>
     have:(P.underlying t).isSome=true:=uV hag;simp[Program.underlying,hi] at this
    | some i=>rfl
   obtain⟨vs,h1,h2,h3⟩:=yu (R:=R) r e a w _ hk hr;have hl:=AO (P:=P) y 0 #[] w hy.2;rw[hy.1] at hl;exact⟨_::vs,by simp[mapM_cons,kE,hp',asAddr,loadVar,uX (uV hag),hag,qa hsome,loadCells,hl,h1],by simp[h2],h3⟩
  exact h.elim
def qnO(fn:Func)(tmps:Array Value):results fn tmps=(do let vs <- fn.results.mapM (kE tmps);Pure.pure (if h:vs.size=1 then vs[0] else .tuple vs)):=by unfold results;congr 1
def DY:∀(args:List Value) (i t:Nat) (v:Value),(lH i args).get t=some v->∃j,t=i+j/\args[j]?=some v
 | [],i,t,v,h=>by simp[lH,Env.get] at h
 | u::r,i,t,v,h=>by simp only[lH] at h;rw[Env.jD] at h;by_cases hi:i=t;subst hi;simp at h;exact⟨0,oL,by simp[h]⟩;simp[hi] at h;obtain⟨j,hj,hv⟩:=DY r (i+1) t v h;exact⟨j+1,oJ,by simpa using hv⟩
def mark (m:Option Nat):List Deferred:=match m with|none=>[] | some D=>[{ target:=.collected D,args:=#[] }]
def qnM:∀ {ts:List Tmp} {vs:List Value} {e:Env} {tm:Array Value},(ts.all (Nat.blt · n))=true->Rel n [] e { tmps:=tm,defers:=[] }->ts.length=vs.length-> Rel n [] (pD e ts vs) { tmps:=(ts.zip vs).foldl (fun t (x:Tmp×Value)=>t.setIfInBounds x.1 x.2) tm,defers:=[] }
 | [],[],e,tm,_,h,_=>h
 | t::ts,v::vs,e,tm,hl,h,hlen=>by simp only[all_cons,yA] at hl;have hp:=h.put (dst:=some t) (fun d hd=>by cases hd;exact zO hl.1) v;exact qnM (ts:=ts) (vs:=vs) hl.2 hp (oP hlen)
def qnw{x:iB}:∀ {l:List iB} {k i:Nat},qt x l k=some i->∃j,i=k+j/\l[j]?=some x
 | [],k,i,h=>by cases h
 | y::r,k,i,h=>by
  simp only[qt] at h;cases hs:x.same y with
  | true=>
   rw[hs] at h;simp only[cond_true,Option.some.injEq] at h;refine⟨0,oJ,?_⟩;cases x<;>cases y<;>simp only[iB.same,Bool.false_eq_true] at hs<;>try rfl
   simp[yV hs]
  | false=>
   rw[hs] at h;simp only[cond_false] at h;obtain⟨j,hj,hl⟩:=qnw h;exact⟨j+1,oJ,by simpa using hl⟩
def iB.code:iB->Code
 | .normal=>.skip
 | .ret=>.ret
 | .exit id=>.exit id
def Dd:∀(ts:List gO) (x:iO ts),(iO.vals ts x).length=ts.length
 | [],_=>rfl
 | [_],_=>rfl
 | _::u::ts,x=>by simp only[iO.vals,yH,Dd (u::ts) x.2]
def qwB{g:Operand}{ps:List Tmp}{pts:List gO}{x y:PC}{done:Nat->WP}{Qj:iB->Nat->WP}{v:Value}(hg:e.ev g=some v)(hps:ps.length=pts.length)(hlt:(ps.all (Nat.blt · n))=true)(hfx:x.fits P n=true)(hfy:y.fits P n=true)(hr:Rel n [] e a)(h:jR P v pts (mU (mi P) P x y ps pts e) done (y.outs.map fun z=>fun D w'=>Qj z D w') w){Q':Exit->Act->WP}(hdone:∀D w',done D w'->Q' .normal { a with defers:=mark (some D) } w')(hjump:∀z D w',Qj z D w'->z≠.normal->Q' z.to { a with defers:=mark (some D) } w')(hno:∀z∈y.outs,z≠.normal): (Code.rangeFunc g ps.toArray x.erase y.erase).wpIn (Wd none) m P Q' a w:=by
 obtain⟨f,lb,rfl,hb,h⟩:=h;refine wpIn_rangeFunc ?_;intro fn _;have hro:(Wd none).round=none:=rfl;rw[hro];obtain⟨rec,hrec⟩:∃rec:LoopState->Option Code->Loop,rec=fun st pe=>{ state:=st,pending:=pe,fn,tmps:=a.tmps,params:=ps.toArray,assign:=x.erase,body:=y.erase,defers:=w.heap.size }:=⟨_,rfl⟩;let l:=w.heap.size+1;let J:Nat->Obj:=fun i=>.loop (rec .done ((y.outs[i]?).map iB.code));let E:Nat->Obj:=fun i=>.loop (rec .exhausted ((y.outs[i]?).map iB.code));have hy:ol P pts (mU (mi P) P x y ps pts e) l (.loop (rec .ready none)) (.loop (rec .busy none)) J:=by
  intro u W K hl hbody;unfold mU at hbody;refine .inr ⟨l,fn,(ps.zip (iO.vals pts u)).foldl (fun t (x:Tmp×Value)=>t.setIfInBounds x.1 x.2) a.tmps,x.erase,y.erase,?_,?_⟩
  ·have hyl:=run_yield (P:=P) (args:=(iO.vals pts u).toArray) hl (by rw[hrec];simp[Dd,hps]);rw[hrec] at hyl;simp only[Deferred.ofValue,pure_bind];simp only[invoke];have hz:∀(ps:List Tmp) (vs:List Value) (t0:Array Value),(ps.toArray.zip vs.toArray).foldl (fun (tmps:Array Value) (x:Tmp×Value)=>match x with|(t,a)=>tmps.setIfInBounds t a) t0=(ps.zip vs).foldl (fun t (x:Tmp×Value)=>t.setIfInBounds x.1 x.2) t0:=by intro ps vs t0;rw[<- Array.foldl_toList];simp
   rw[hz] at hyl;first
    | exact hyl
    | simpa using hyl
  refine roundIn_of_wpIn (F:=Wd none) (n:=0) trivial ?_;have hrel:Rel n [] (pD e ps (iO.vals pts u)) { tmps:=(ps.zip (iO.vals pts u)).foldl (fun t (x:Tmp×Value)=>t.setIfInBounds x.1 x.2) a.tmps,defers:=[] }:=
   qnM hlt ⟨hr.size,rfl,hr.get⟩ (by rw[Dd,hps])
  refine pN (r:=some l) (m:=0) x _ _ _ W _ hfx hbody hrel ?_;intro z e' a' w' hz hr' _;cases z with
  | exit id=>exact hz.elim
  | ret=>exact hz.elim
  | normal=>
   obtain⟨hl1,hz⟩:=hz;refine⟨_,run_beginRound hl1 (by rw[hrec]),?_⟩;have hbz:({ rec .ready none with state:=.busy }:Loop)=rec .busy none:=(by rw[hrec]);rw[hbz];refine pN (r:=some l) (m:=0) y _ _ _ _ _ hfy hz hr' ?_;intro z e'' a'' w3 hz hr'' _;have fin:∀(jump:Option Code),w3.heap[l]?=some (.loop (rec .busy none))->(Instr.endRound l jump).run P w3=.ok (.bool jump.isNone) (w3.putObj l (.loop (rec (if jump.isNone then .ready else .done) jump))):=by
    intro jump hl3
    have:=run_endRound (P:=P) jump hl3
    rw[hrec] at this⊢;exact this
   have out:∀z:iB,(match qt z y.outs 0 with|some i=>w3.heap[l]?=some (.loop (rec .busy none))/\K false (w3.putObj l (J i))|none=>False)->
     ∃v w',(Instr.endRound l (some z.code)).run P w3=.ok v w'/\∃x:iO [gO.one Cell.bool],Ending.returned v=.returned (fP dg x)/\K x w':=by
    intro z hz;split at hz;rename_i i hi;obtain⟨j,hj,hjl⟩:=qnw hi;have:i=j:=oJ;subst this;refine⟨_,_,fin (some z.code) hz.1,false,rfl,?_⟩;have hJ:J i=.loop (rec (if (some z.code).isNone then .ready else .done) (some z.code)):=by show Obj.loop (rec .done ((y.outs[i]?).map iB.code))=_;rw[hjl];rfl
    rw[<- hJ];exact hz.2;exact hz.elim
   cases z with
   | normal=>exact⟨_,_,fin none hz.1,true,rfl,hz.2⟩
   | ret=>exact out .ret hz
   | exit id=>exact out (.exit id) hz
 have hcall:=h (.loop (rec .ready none)) (.loop (rec .busy none)) J E (.loop (rec .exhausted none)) hy;refine⟨l,[{ target:=.collected w.heap.size,args:=#[] }],(w.alloc (.deferred (some []))).alloc (.loop (rec .ready none)),{ target:=.fn (.func f) lb.toArray,args:=#[.func (.yield l) #[] #[]] },(w.alloc (.deferred (some []))).alloc (.loop (rec .ready none)),f,
  (.func (.yield l) #[] #[]::lb).toArray,(w.alloc (.deferred (some []))).alloc (.loop (rec .ready none)),?_,?_,fun _ _=>trivial,?_,Gn none,?_⟩
 rw[hrec];exact run_enterLoop_outer _ _ _ _ _;simp only[resolve,hr.ev hg];simp[Deferred.ofValue];rfl;simp[invoke,xq hb];refine qfD (Calls.mono hcall ?_);rintro e2 W2 ⟨u,rfl,hh⟩;rcases hh with ⟨hl,hd⟩|⟨i,k,hk,hl,hd⟩;refine⟨none,_,?_,by rw[hr.defers];exact hdone _ _ hd⟩
 have:=run_endLoop (P:=P) hl (by rw[hrec];simp)
 rw[hrec] at this⊢;exact this;have hk':=hk;rw[zQ] at hk;cases hz:y.outs[i]? with
 | none=>rw[hz] at hk;cases hk
 | some z=>
  rw[hz] at hk;cases hk;have hJ:J i=.loop (rec .done (some z.code)):=by show Obj.loop (rec .done ((y.outs[i]?).map iB.code))=_;rw[hz];rfl
  have hE:E i=.loop (rec .exhausted (some z.code)):=(by show Obj.loop (rec .exhausted ((y.outs[i]?).map iB.code))=_;rw[hz];rfl);rw[hJ] at hl;rw[hE] at hd;have hzn:=hno z (yE hz);have hq:=hjump z _ _ hd hzn;refine⟨some z.code,W2.putObj (w.heap.size+1) (.loop (rec .exhausted (some z.code))),?_,?_⟩
  have:=run_endLoop (P:=P) hl (by rw[hrec];simp)
  rw[hrec] at this⊢;exact this;rw[hr.defers];cases z with
  | normal=>exact absurd rfl hzn
  | ret=>exact wpIn_ret hq
  | exit id=>exact wpIn_exit hq
def PC.qv (c:PC):Bool:=c.outs.all fun z=>match z with | .normal=>false|_=>true
def PC.nE:PC->Bool
 | .seq a b=>a.nE&&b.nE
 | .block _ b=>b.nE
 | .jR _ _ _ _ y=>y.qv
 | _=>true
def BZ:∀(c:PC) (Q:Option Nat->mO) (k:Option Nat) (e:Env) (a:Act) (w:World) (Q':Exit->Act->WP),c.fits P n=true->c.nE=true->c.ye (mi P) P Q k e w->Rel n (mark k) e a-> (∀k' x e' a' w',Q k' x e' w'->Rel n (mark k') e' a'->Q' x.to a' w')->c.erase.wpIn (Wd none) m P Q' a w
 | .seq x y,Q,k,e,a,w,Q',hf,hs,h,hr,hQ=>by
  simp only[PC.fits,yA] at hf;simp only[PC.nE,yA] at hs;refine wpIn_seq (BZ x _ k e a w _ hf.1 hs.1 h hr ?_);intro k' z e1 a1 w1 hz hr1;cases z with
  | normal=>exact BZ y Q k' e1 a1 w1 Q' hf.2 hs.2 hz hr1 hQ
  | exit id=>exact hQ k' (.exit id) e1 a1 w1 hz hr1
  | ret=>exact hQ k' .ret e1 a1 w1 hz hr1
 | .block id body,Q,k,e,a,w,Q',hf,hs,h,hr,hQ=>by
  refine wpIn_block (BZ body _ k e a w _ hf hs h hr ?_);intro k' z e1 a1 w1 hz hr1;cases z with
  | normal=>exact hQ k' .normal e1 a1 w1 hz hr1
  | exit j=>
   simp only at hz;simp only[iB.to,Exit.inBlock];cases hj:Nat.beq j id with
   | true=>
    rw[hj] at hz;rw[if_pos (yV hj)];exact hQ k' .normal e1 a1 w1 hz hr1
   | false=>
    rw[hj] at hz;rw[if_neg (fun hq=>by subst hq;simp at hj)];exact hQ k' (.exit j) e1 a1 w1 hz hr1
  | ret=>exact hQ k' .ret e1 a1 w1 hz hr1
 | .jR g ps pts x y,Q,k,e,a,w,Q',hf,hs,h,hr,hQ=>by
  simp only[PC.fits,yA] at hf;simp only[PC.ye] at h;cases k with
  | some D=>exact h.elim
  | none=>
   simp only at h;split at h;exact h.elim;rename_i v hg;have h':jR P v pts (mU (mi P) P x y ps pts e) (fun D w'=>Q (some D) .normal e w') (y.outs.map fun z=>fun D w'=>Q (some D) z e w') w:=h;refine qwB (done:=fun D w'=>Q (some D) .normal e w') (Qj:=fun z D w'=>Q (some D) z e w') hg (yV hf.1.1.1) hf.1.1.2 hf.1.2 hf.2 hr h' ?_ ?_ ?_;intro D w' hq;exact hQ (some D) .normal e _ w' hq ⟨hr.size,rfl,hr.get⟩;intro z D w' hq _;exact hQ (some D) z e _ w' hq ⟨hr.size,rfl,hr.get⟩;intro z hz hzn;subst hzn;simp only[PC.nE,PC.qv,all_eq_true] at hs
   have:=hs _ hz
   cases this
 | .skip,Q,k,e,a,w,Q',hf,_,h,hr,hQ=>pN .skip (Q k) e a w Q' hf h hr (fun z e' a' w' hx hr' _=>hQ k z e' a' w' hx hr')
 | .region id ops,Q,k,e,a,w,Q',hf,_,h,hr,hQ=>pN (.region id ops) (Q k) e a w Q' hf h hr (fun z e' a' w' hx hr' _=>hQ k z e' a' w' hx hr')
 | .draw id ops os,Q,k,e,a,w,Q',hf,_,h,hr,hQ=>pN (.draw id ops os) (Q k) e a w Q' hf h hr (fun z e' a' w' hx hr' _=>hQ k z e' a' w' hx hr')
 | .join l x y,Q,k,e,a,w,Q',hf,_,h,hr,hQ=>pN (.join l x y) (Q k) e a w Q' hf h hr (fun z e' a' w' hx hr' _=>hQ k z e' a' w' hx hr')
 | .cond c x y,Q,k,e,a,w,Q',hf,_,h,hr,hQ=>pN (.cond c x y) (Q k) e a w Q' hf h hr (fun z e' a' w' hx hr' _=>hQ k z e' a' w' hx hr')
 | .loop l x,Q,k,e,a,w,Q',hf,_,h,hr,hQ=>pN (.loop l x) (Q k) e a w Q' hf h hr (fun z e' a' w' hx hr' _=>hQ k z e' a' w' hx hr')
 | .exit id,Q,k,e,a,w,Q',hf,_,h,hr,hQ=>pN (.exit id) (Q k) e a w Q' hf h hr (fun z e' a' w' hx hr' _=>hQ k z e' a' w' hx hr')
 | .ret,Q,k,e,a,w,Q',hf,_,h,hr,hQ=>pN .ret (Q k) e a w Q' hf h hr (fun z e' a' w' hx hr' _=>hQ k z e' a' w' hx hr')
 | .other c,Q,k,e,a,w,Q',hf,_,h,hr,hQ=>h.elim
def qtD{K:iO ts->WP}{e':Env}{a':Act}(hts:(!ts.isEmpty||fn.results.isEmpty)=true)(hr':Rel n ds e' a')(hres:kS (mi P) P fn.results.toList e' w' (fun vs=>match kz ts (oneOf vs) with|some x=>K x w'|none=>False)): ∃v,(results fn a'.tmps).run P w'=.ok v w'/\∃x:iO ts,Ending.returned v=.returned (fP ts x)/\K x w':=by
 obtain⟨vs,h1,h2,h3⟩:=yu (R:=fun _=>True) fn.results.toList e' a' w' _ hres hr';split at h3;rename_i y hy;refine⟨oneOf vs,?_,y,?_,h3⟩;rw[qnO];have hmm:(fn.results.mapM (kE a'.tmps)).run P w'=.ok vs.toArray w':=by rw[Array.mapM_eq_mapM_toList];simp[h1]
 simp only[Sem.run_bind,hmm,Result.andThen_ok];match vs with
 | []=>simp[oneOf]
 | [v]=>simp[oneOf]
 | v::u::vs=>simp[oneOf]
 rw[qn0 hy];intro h0;subst h0;simp at hts;have:vs=[]:=by have:vs.length=0:=(by rw[h2];simp[hts]);exact eq_nil_of_length_eq_zero this
 subst this;rfl;exact h3.elim
def qxS(hlen:args.length<=n):Rel n [] (lH 0 args) { tmps:=args.toArray++Array.replicate (n-args.toArray.size) undef,defers:=[] }:=by
 refine⟨by simp;omega,rfl,fun t v hv=>?_⟩;obtain⟨j,hj,hv'⟩:=DY args 0 t v hv;have hjl:j<args.length:=by rcases Nat.lt_or_ge j args.length with h|h;exact h;simp[yR h] at hv'
 have:t=j:=oJ;subst this;rw[zA hjl] at hv';simp[Array.getElem?_append,hjl];exact yN hv'
def qoa{w:World}{K:iO ts->WP}(hf:P.funcs[f]?=some fn)(hfit:(match fn.body with|some c=>(jg c an).1.fits P fn.ntmps&&(jg c an).1.nE&&Nat.ble args.length fn.ntmps&&(!ts.isEmpty||fn.results.isEmpty)|none=>false)=true)(h:te (mi P) P fn an ts args K w):call P f args ts w K:=by
 unfold te at h;split at h;rename_i c hb;simp only[hb,yA] at hfit;obtain⟨⟨⟨hfit,hfs⟩,hlen⟩,hts⟩:=hfit;have hlen':args.length<=fn.ntmps:=zO hlen;unfold call;refine callsIn_wide.1 (callsIn_of_wp_marks (F:=Wd none) (n:=0) hf hb trivial ?_);have hsp:=BZ (m:=0) (n:=fn.ntmps) (jg c an).1 _ none _ _ w (bodyPostM (Wd none) 0 P fn fun e w'=>∃x:iO ts,e=.returned (fP ts x)/\K x w') hfit hfs h (qxS hlen') ?_;rw[rx] at hsp;exact hsp;intro k x e' a' w' hx hr';have fin:(uU (mi P) k w' fun w2=>kS (mi P) P fn.results.toList e' w2 (fun vs=>match kz ts (oneOf vs) with|some x=>K x w2|none=>False))->
   LeavesInM (Wd none) 0 P fn a'.tmps (fun e w'=>∃x:iO ts,e=.returned (fP ts x)/\K x w') a'.defers .returning w':=by
  intro hu;rw[hr'.defers];cases k with
  | none=>
   obtain⟨v,h1,h2⟩:=qtD hts hr' hu;exact⟨v,h1,h2⟩
  | some D=>
   obtain⟨hD,hu⟩:=hu;obtain⟨v,h1,h2⟩:=qtD hts hr' hu;exact⟨oL,.inl ⟨D,_,rfl,run_takeDeferred hD,v,h1,h2⟩⟩
 cases x with
 | normal=>exact fin hx
 | ret=>exact fin hx
 | exit id=>exact hx.elim
 exact h.elim
def qp3{w:World}{K:iO ts->WP}(hf:P.funcs[f]?=some fn)(hfit:(match fn.body with|some c=>(jg c an).1.fits P fn.ntmps&&Nat.ble args.length fn.ntmps&&(!ts.isEmpty||fn.results.isEmpty)|none=>false)=true)(h:vn (mi P) P fn an ts args K w):call P f args ts w K:=by
 unfold vn at h;split at h;rename_i c hb;simp only[hb,yA] at hfit;obtain⟨⟨hfit,hlen⟩,hts⟩:=hfit;have hlen':args.length<=fn.ntmps:=zO hlen;unfold call;refine callsIn_wide.1 (callsIn_of_wp (F:=Wd none) (n:=0) hf hb trivial ?_);have hrel:Rel fn.ntmps [] (lH 0 args) { tmps:=args.toArray++Array.replicate (fn.ntmps-args.toArray.size) undef,defers:=[] }:=by
  refine⟨by simp;omega,rfl,fun t v hv=>?_⟩;obtain⟨j,hj,hv'⟩:=DY args 0 t v hv;have hjl:j<args.length:=by rcases Nat.lt_or_ge j args.length with h|h;exact h;simp[yR h] at hv'
  have:t=j:=oJ;subst this;rw[zA hjl] at hv';simp[Array.getElem?_append,hjl];exact yN hv'
 have hs:=pN (r:=none) (m:=0) (n:=fn.ntmps) (jg c an).1 _ _ _ w (bodyPost P fn fun e w'=>∃x:iO ts,e=.returned (fP ts x)/\K x w') hfit h hrel ?_;rw[rx] at hs;exact hs;intro x e' a' w' hx hr' _;have fin:∀(hres:kS (mi P) P fn.results.toList e' w' (fun vs=>match kz ts (oneOf vs) with|some x=>K x w'|none=>False)),
   a'.defers=[]/\∃v,(results fn a'.tmps).run P w'=.ok v w'/\∃x:iO ts,Ending.returned v=.returned (fP ts x)/\K x w':=by
  intro hres;obtain⟨vs,h1,h2,h3⟩:=yu (R:=fun _=>True) fn.results.toList e' a' w' _ hres hr';split at h3;rename_i y hy;refine⟨hr'.defers,oneOf vs,?_,y,?_,h3⟩;rw[qnO];have hmm:(fn.results.mapM (kE a'.tmps)).run P w'=.ok vs.toArray w':=by rw[Array.mapM_eq_mapM_toList];simp[h1]
  simp only[Sem.run_bind,hmm,Result.andThen_ok];match vs with
  | []=>simp[oneOf]
  | [v]=>simp[oneOf]
  | v::u::vs=>simp[oneOf]
  rw[qn0 hy];intro h0;subst h0;simp at hts;have:vs=[]:=by have:vs.length=0:=(by rw[h2];simp[hts]);exact eq_nil_of_length_eq_zero this
  subst this;rfl;exact h3.elim
 cases x with
 | normal=>exact fin hx
 | ret=>exact fin hx
 | exit id=>exact hx.elim
 exact h.elim
def eu{w:World}{K:iO ts->WP}{F:Prop}(hf:P.funcs[f]?=some fn)(hF:F)(hfit:(match fn.body with|some c=>(jg c an).1.fits P fn.ntmps&&Nat.ble args.length fn.ntmps&&(!ts.isEmpty||fn.results.isEmpty)|none=>false)=true:=by kernel_rfl)(e:vn (mi P) P fn an ts args K w=F:=by kernel_rfl):call P f args ts w K:=qp3 hf hfit (e.mpr hF)
def Dx{w:World}{K:iO ts->WP}{F:Prop}(hf:P.funcs[f]?=some fn)(hF:F)(hfit:(match fn.body with|some c=>(jg c an).1.fits P fn.ntmps&&(jg c an).1.nE&&Nat.ble args.length fn.ntmps&&(!ts.isEmpty||fn.results.isEmpty)|none=>false)=true:=by kernel_rfl)(e:te (mi P) P fn an ts args K w=F:=by kernel_rfl):call P f args ts w K:=qoa hf hfit (e.mpr hF)
end
section
def tN{S:Type}{X:(S->WP)->Prop}{Y:S->WP}(s:S)(w:World)(hX:∀M:S->WP,M s w->X M)(hY:Y s w):join S X Y:=
 ⟨fun s' w'=>s'=s/\w'=w,hX _ ⟨rfl,rfl⟩,by rintro _ _ ⟨rfl,rfl⟩;exact hY⟩
def gQ{S:Type}{X:(S->WP)->Prop}{Y:S->WP}(Mid:S->WP)(hX:X Mid)(hY:∀s w,Mid s w->Y s w):join S X Y:=⟨Mid,hX,hY⟩
@[simp] theorem qz9{S:Type}{s:S}{w:World}{Y:S->WP}:join S (fun X=>X s w) Y↔Y s w:=
 ⟨fun⟨_,h1,h2⟩=>h2 _ _ h1,fun h=>tN s w (fun _ h=>h) h⟩
def iV{S:Type}{B:(S->WP)->S->WP}{s:S}{w:World}(I:S->WP)(m:S->World->Nat)(h0:I s w)(step:∀s w,I s w->∀X:S->WP,(∀s' w',I s' w'->m s' w'<m s w->X s' w')->B X s w):loop S B s w:=by
 intro J hJ;have key:∀k s w,m s w=k->I s w->J s w:=by
  intro k;induction k using Nat.strongRecOn with
  | _ k ih=>
   intro s w hk hI;exact hJ s w (step s w hI J fun s' w' hI' hlt=>ih (m s' w') (hk▸hlt) s' w' rfl hI')
 exact key _ s w rfl h0
def dR{b:Bool}{A B:Prop}(h1:b=true->A)(h2:b=false->B):cond b A B:=by
 cases b with
 | true=>exact h1 rfl
 | false=>exact h2 rfl
def cD{p:Prop}[Decidable p]{X Y:Prop}(h:p->X)(g:¬p->Y):cond (decide p) X Y:=dR (fun e=>h (zC e)) (fun e=>g (zB e))
def pc{p K:Prop}(h:p)(k:K):gT p K:=⟨h,k⟩
def fq{a:Addr}{K:Addr->Prop}(h:K a):nn (some a) K:=h
def oV{c:Cell}{a:Addr}{w:World}{K:c.El->Prop}(x:c.El)(h:w.cell? a=some (c.mk x))(k:K x):ld c a w K:=⟨x,h,k⟩
def CO{o:Obj}{w:World}{K:Nat->WP}(k:K w.heap.size (w.alloc o)):new o w K:=k
structure mS (w w':World):Prop where
 heap:w'.heap=w.heap
 os:w'.os=w.os
 tape:w'.tape=w.tape
 output:w'.output=w.output
def mS.refl(w:World):mS w w:=⟨rfl,rfl,rfl,rfl⟩
def mS.drew{w w':World}(h:mS w w'):mS w w'.drew:=⟨h.heap,h.os,h.tape,h.output⟩
structure Fr (S:List Nat) (w w':World):Prop where
 os:w'.os=w.os
 tape:w'.tape=w.tape
 output:w'.output=w.output
 size:w.heap.size<=w'.heap.size
 block:∀ i,i<w.heap.size->i∉S->w'.heap[i]?=w.heap[i]?
def Fr.refl(S:List Nat)(w:World):Fr S w w:=⟨rfl,rfl,rfl,zM _,fun _ _ _=>rfl⟩
def Fr.of_same{w:World}(h:mS w w'):Fr S w w':=⟨h.os,h.tape,h.output,by rw[h.heap];exact zM _,fun _ _ _=>by rw[h.heap]⟩
def Fr.trans{S:List Nat}{a b c:World}(h:Fr S a b)(k:Fr S b c):Fr S a c:=
 ⟨k.os.trans h.os,k.tape.trans h.tape,k.output.trans h.output,zL h.size k.size,fun i hi hs=>(k.block i (yC hi h.size) hs).trans (h.block i hi hs)⟩
def Fr.mono{T:List Nat}{a b:World}(h:Fr S a b)(hs:∀i,i∈S->i<a.heap.size->i∈T):Fr T a b:=
 ⟨h.os,h.tape,h.output,h.size,fun i hi ht=>h.block i hi fun hS=>ht (hs i hS hi)⟩
def Fr.j8{T:List Nat}{a b c:World}(h:Fr S a b)(k:Fr T b c)(ht:∀i,i∈T->i∈S\/a.heap.size<=i):Fr S a c:=
 ⟨k.os.trans h.os,k.tape.trans h.tape,k.output.trans h.output,zL h.size k.size,fun i hi hs=>(k.block i (yC hi h.size) fun hT=>by rcases ht i hT with h'|h';exact hs h';omega).trans (h.block i hi hs)⟩
def Fr.drew{S:List Nat}{a b:World}(h:Fr S a b):Fr S a b.drew:=⟨h.os,h.tape,h.output,h.size,h.block⟩
def Fr.alloc{S:List Nat}{a b:World}(h:Fr S a b)(o:Obj):Fr S a (b.alloc o):=
 ⟨h.os,h.tape,h.output,by have:=h.size;simp;omega,fun i hi hs=>by rw[<- h.block i hi hs];show (b.heap.push o)[i]?=_;rw[Array.getElem?_push,if_neg (by have:=h.size;omega)]⟩
def we(w:World)(o:Obj)(i:Nat):(w.alloc o).heap[i]?=if i=w.heap.size then some o else w.heap[i]?:=by show (w.heap.push o)[i]?=_;rw[Array.getElem?_push]
def gL (w:World) (b:Nat) (o:Obj):World:={ w with heap:=w.heap.setIfInBounds b o }
def ug(w:World)(b:Nat)(o:Obj):(gL w b o).heap.size=w.heap.size:=by simp[gL]
def nW(w:World)(b:Nat)(o:Obj)(i:Nat)(h:b<w.heap.size):(gL w b o).heap[i]?=if i=b then some o else w.heap[i]?:=by show (w.heap.setIfInBounds b o)[i]?=_;rw[Array.getElem?_setIfInBounds];by_cases hi:b=i;subst hi;simp[h];rw[if_neg hi,if_neg (fun e=>hi e.symm)]
def eT{w:World}{b:Nat}{o:Obj}(h:w.heap[b]?=some o):b<w.heap.size:=by rcases Nat.lt_or_ge b w.heap.size with hl|hl;exact hl;rw[Array.getElem?_eq_none hl] at h;cases h
def je{w:World}{b off:Nat}(h:w.heap[b]?=some (.cells cs T fr)):w.cell? (dd b off)=cs[off]?:=by simp[World.cell?,h]
def qlO{w:World}{b off:Nat}(h:w.heap[b]?=some (.cells cs T fr))(v:Value): w.setCell (dd b off) v=gL w b (.cells (cs.setIfInBounds off v) T fr):=by have hb:=eT h;unfold World.setCell gL;congr 1;apply Array.ext_getElem?;intro i;rw[Array.getElem?_modify,Array.getElem?_setIfInBounds];by_cases hi:b=i;subst hi;rw[if_pos rfl,if_pos rfl,if_pos hb,h];rfl;simp[hi]
def qtJ(w:World)(b:Nat)(o o':Obj):gL (gL w b o) b o'=gL w b o':=by unfold gL;congr 1;apply Array.ext_getElem?;intro i;simp only[Array.getElem?_setIfInBounds,Array.size_setIfInBounds];by_cases hi:b=i<;>simp[hi]
def Addr.q9(b o n:Nat):Addr.add (dd b o) n=⟨b,o+n,none⟩:=Go.Addr.add_lit b o n
def xf{w:World}{b:Nat}{T:TypeId}:∀(vs:List Value) (off k:Nat) (cs:Array Value) (w:World) (K:WP),w.heap[b]?=some (.cells cs T (0,0))->(vs.all Value.oneCell')=true->off+k+vs.length<=cs.size-> K (gL w b (.cells (dN cs (off+k) vs) T (0,0)))->C2 (dd b off) k vs w K
 | [],off,k,cs,w,K,hb,_,_,hk=>by
  have:gL w b (.cells (dN cs (off+k) []) T (0,0))=w:=by
   unfold gL dN;have:w.heap.setIfInBounds b (.cells cs T (0,0))=w.heap:=by apply Array.ext_getElem?;intro i;rw[Array.getElem?_setIfInBounds];by_cases hi:b=i;subst hi;rw[if_pos rfl,if_pos (eT hb),hb];simp[hi]
   rw[this]
  rw[this] at hk;exact hk
 | v::vs,off,k,cs,w,K,hb,h1,hl,hk=>by
  simp only[all_cons,yA] at h1;simp only[yH] at hl;have hlt:off+k<cs.size:=oJ;refine⟨⟨h1.1,⟨cs[off+k],?_⟩,?_⟩,?_⟩;rw[Addr.q9,je hb];simp[hlt];rw[Addr.q9];simp[World.frozen?,hb];rw[Addr.q9,qlO hb];have hb':(gL w b (.cells (cs.setIfInBounds (off+k) v) T (0,0))).heap[b]?=some (.cells (cs.setIfInBounds (off+k) v) T (0,0)):=by rw[nW _ _ _ _ (eT hb),if_pos rfl]
  refine xf (w:=w) vs off (k+1) _ _ K hb' h1.2 oO ?_;rw[qtJ];exact hk
def uN{w:World}{b:Nat}{T:TypeId}{fr:Nat×Nat}{cs:Array Value}(hb:w.heap[b]?=some (.cells cs T fr)):∀(vs:List Value) (off k:Nat),(cs.toList.drop (off+k)).take vs.length=vs->iZ w (dd b off) k vs
 | [],_,_,_=>trivial
 | [v],off,k,h=>by
  show w.cell? _=_;rw[Addr.q9,je hb];have:(cs.toList.drop (off+k))[0]?=some v:=by
   have:=congrArg (·[0]?) h
   simpa using this
  simpa using this
 | v::u::vs,off,k,h=>by
  have hv:(cs.toList.drop (off+k))[0]?=some v:=by
   have:=congrArg (·[0]?) h
   simpa using this
  refine⟨?_,uN hb (u::vs) off (k+1) ?_⟩;rw[Addr.q9,je hb];simpa using hv
  have:=congrArg (List.drop 1) h
  simp only[drop_succ_cons,xE,yH] at this;rw[drop_take,xC] at this;exact this
structure dM (S:List Nat) (w0 w:World) (L:List (Nat×Obj)):Prop where
 eA:∀ p∈L,w.heap[p.1]?=some p.2
 nodup:(L.map (·.1)).Nodup
 fr:Fr S w0 w
 own:∀ p∈L,p.1∈S\/w0.heap.size<=p.1
variable {S:List Nat} {w0 w:World} {L:List (Nat×Obj)}
def dM.start(S:List Nat)(w:World):dM S w w []:=⟨oL,oL,.refl _ _,oL⟩
def dM.at(h:dM S w0 w L){i:Nat}{p:Nat×Obj}(hi:L[i]?=some p):w.heap[p.1]?=some p.2:=h.eA p (yE hi)
def dM.drew(h:dM S w0 w L):dM S w0 w.drew L:=⟨h.eA,h.nodup,h.fr.drew,h.own⟩
def dM.q8{T:List Nat}(h:dM S w0 w L)(k:Fr T w w')(ht:∀i∈T,i∈S\/w0.heap.size<=i)(hd:∀p∈L,p.1∉T):dM S w0 w' L:=
 ⟨fun p hp=>by rw[k.block p.1 (eT (h.eA p hp)) (hd p hp)];exact h.eA p hp,h.nodup,h.fr.j8 k ht,h.own⟩
def dM.q7(h:dM S w0 w L)(k:Fr [] w w'):dM S w0 w' L:=h.q8 k oL oL
def dM.alloc(h:dM S w0 w L)(o:Obj):dM S w0 (w.alloc o) ((w.heap.size,o)::L):=by
 refine⟨fun p hp=>?_,?_,h.fr.alloc o,fun p hp=>?_⟩;rcases zG.1 hp with rfl|hp;rw[we,if_pos rfl]
 have:=eT (h.eA p hp)
 rw[we,iN];exact h.eA p hp;simp only[xN];refine nodup_cons.2 ⟨fun hm=>?_,h.nodup⟩;obtain⟨p,hp,he⟩:=mem_map.1 hm
 have:=eT (h.eA p hp)
 omega;rcases zG.1 hp with rfl|hp;exact .inr h.fr.size;exact h.own p hp
def dM.new{o:Obj}{K:Nat->WP}(h:dM S w0 w L)(k:∀b w',b=w.heap.size->w'.heap.size=w.heap.size+1->dM S w0 w' ((b,o)::L)->K b w'):Pt.new o w K:=
 k _ _ rfl oL (h.alloc o)
def dM.ld{c:Cell}{b off:Nat}{cs:Array Value}{T:TypeId}{fr:Nat×Nat}{K:c.El->Prop}(h:dM S w0 w L)(i:Nat)(hi:L[i]?=some (b,.cells cs T fr))(x:c.El)(hx:cs[off]?=some (c.mk x))(k:K x):Pt.ld c (dd b off) w K:=
 ⟨x,by rw[je (h.at hi)];exact hx,k⟩
def dM.dJ{cl:List Cell}{b off:Nat}{cs:Array Value}{T:TypeId}{fr:Nat×Nat}{K:HL cl->Prop}(h:dM S w0 w L)(i:Nat)(hi:L[i]?=some (b,.cells cs T fr))(x:HL cl)(hx:(cs.toList.drop off).take cl.length=HL.mk cl x)(k:K x):Pt.dJ cl (dd b off) w K:=
 ⟨x,uN (h.at hi) _ off 0 (by rw[HL.j3];exact hx),k⟩
def dM.gL{b:Nat}{o o':Obj}(h:dM S w0 w L)(i:Nat)(hi:L[i]?=some (b,o)):dM S w0 (Pt.gL w b o') (L.set i (b,o')):=by
 have hb:=h.at hi;have hlt:=eT hb;have hil:i<L.length:=by rcases Nat.lt_or_ge i L.length with hl|hl;exact hl;rw[yR hl] at hi;cases hi
 have hmap:(L.set i (b,o')).map (·.1)=L.map (·.1):=(by rw[map_set];apply ext_getElem?;intro j;rw[List.getElem?_set];by_cases hj:i=j;subst hj;rw[if_pos rfl,zQ,hi];simp[hil];simp[hj]);refine⟨fun p hp=>?_,by rw[hmap];exact h.nodup,?_,fun p hp=>?_⟩;obtain⟨j,hj,hpj⟩:=getElem_of_mem hp;have hpj':(L.set i (b,o'))[j]?=some p:=(by rw[zA hj,hpj]);rw[List.getElem?_set] at hpj';by_cases hij:i=j;subst hij;simp[hil] at hpj';subst hpj';rw[nW _ _ _ _ hlt,if_pos rfl];rw[if_neg hij] at hpj';have hne:p.1≠b:=by
  intro he;have h1:(L.map (·.1))[j]?=some b:=(by simp[hpj',he]);have h2:(L.map (·.1))[i]?=some b:=(by simp[hi]);have hj':j<(L.map (·.1)).length:=by rcases Nat.lt_or_ge j (L.map (·.1)).length with hl|hl;exact hl;rw[yR hl] at h1;cases h1
  have hi':i<(L.map (·.1)).length:=(oP hil);rw[zA hj'] at h1;rw[zA hi'] at h2;have hne:=pairwise_iff_getElem.1 h.nodup;rcases Nat.lt_or_gt_of_ne hij with hl|hl;exact hne i j hi' hj' hl ((yN h2).trans (yN h1).symm);exact hne j i hj' hi' hl ((yN h1).trans (yN h2).symm)
 rw[nW _ _ _ _ hlt,if_neg hne];exact h.eA p (yE hpj');have hbo:=h.own (b,o) (yE hi);refine⟨h.fr.os,h.fr.tape,h.fr.output,by rw[ug];exact h.fr.size,fun j hj hS=>?_⟩;rw[nW _ _ _ _ hlt,if_neg (fun e=>by subst e;rcases hbo with h1|h1;exact hS h1;omega)];exact h.fr.block j hj hS;rcases mem_or_eq_of_mem_set hp with hp|rfl;exact h.own p hp;exact h.own (b,o) (yE hi)
def dM.st{b off:Nat}{cs:Array Value}{T:TypeId}{vs:List Value}{K:WP}(h:dM S w0 w L)(i:Nat)(hi:L[i]?=some (b,.cells cs T (0,0)))(cs':Array Value)(hcs:dN cs off vs=cs')(h1:(vs.all Value.oneCell')=true)(hl:Nat.ble (off+vs.length) cs.size=true)(k:∀w',dM S w0 w' (L.set i (b,.cells cs' T (0,0)))->w'.heap.size=w.heap.size->K w'):Pt.st (dd b off) vs w K:=
 xf (w:=w) vs off 0 cs w K (h.at hi) h1 (zO hl) (k _ (by rw[Nat.add_zero,hcs];exact h.gL i hi) (ug _ _ _))
def dM.pd{b:Nat}{o:Obj}(h:dM S w0 w L)(hb:w0.heap[b]?=some o)(hS:b∉S):w.heap[b]?=some o:=by rw[h.fr.block b (eT hb) hS];exact hb
def iG{c:Cell}{b off:Nat}{K:c.El->Prop}(hb:w.heap[b]?=some (.cells cs T fr))(x:c.El)(hx:cs[off]?=some (c.mk x))(k:K x):Pt.ld c (dd b off) w K:=
 ⟨x,by rw[je hb];exact hx,k⟩
def dM.sub{L':List (Nat×Obj)}(h:dM S w0 w L)(hs:L'.Sublist L):dM S w0 w L':=
 ⟨fun p hp=>h.eA p (hs.subset hp),(hs.map _).nodup h.nodup,h.fr,fun p hp=>h.own p (hs.subset hp)⟩
def pY{s:Sl}{i:Int}{size:Nat}{K:Addr->Prop}{b o:Nat}(hs:s.a=some (dd b o))(hi:0<=i/\i<(s.len:Int))(k:K ⟨b,o+i.toNat*size,none⟩):idx s i size K:=
 ⟨_,hs,hi,by rw[Addr.q9];exact k⟩
end
end
section
open Go
variable {K:Prop} {cs:Array Value} {w:World}
def AE{S:Type}{B:(S->WP)->S->WP}{s:S}(h:∀X:S->WP,(∀s w,loop S B s w->X s w)->B X s w):loop S B s w:=by intro J hJ;exact hJ s w (h J fun s' w' hl=>hl J hJ)
def qpr{S:Type}{B:(S->WP)->S->WP}{s:S}(s':S)(hs:s=s')(h:∀X:S->WP,(∀s w,loop S B s w->X s w)->B X s' w):loop S B s w:=by subst hs;exact AE h
def cond_true{b:Bool}{A B:Prop}(h:b=true)(k:A):cond b A B:=by rw[h];exact k
def cond_false{b:Bool}{A B:Prop}(h:b=false)(k:B):cond b A B:=by rw[h];exact k
def tY{b o len cap:Nat}{i:Int}{size:Nat}{K:Addr->Prop}(h0:0<=i)(h1:i<(len:Int))(k:K ⟨b,o+i.toNat*size,none⟩):idx ⟨some (dd b o),len,cap⟩ i size K:=
 pY rfl ⟨h0,h1⟩ k
def sh{α β:Type}{a a':α}{b b':β}(h:a=a')(k:b=b'):(a,b)=(a',b'):=by rw[h,k]
def ia{H:WP}(h:H w)(k:K):held [H] w K:=⟨h,k⟩
def jX{H H':WP}(h:H w)(h':H' w)(k:K):held [H,H'] w K:=⟨⟨h,h'⟩,k⟩
def mB{H H' H'':WP}(h:H w)(h':H' w)(h'':H'' w)(k:K):held [H,H',H''] w K:=⟨⟨h,h',h''⟩,k⟩
section
variable {S:List Nat} {w0 w:World} {L:List (Nat×Obj)}
def dM.cell{b off:Nat}{cs:Array Value}{T:TypeId}{fr:Nat×Nat}{v:Value}(h:dM S w0 w L)(i:Nat)(hi:L[i]?=some (b,.cells cs T fr))(hx:cs[off]?=some v):w.cell? (dd b off)=some v:=by rw[je (h.at hi)];exact hx
def dM.cells{b off:Nat}{cs:Array Value}{T:TypeId}{fr:Nat×Nat}{vs:List Value}(h:dM S w0 w L)(i:Nat)(hi:L[i]?=some (b,.cells cs T fr))(hx:(cs.toList.drop off).take vs.length=vs):iZ w (dd b off) 0 vs:=
 uN (h.at hi) _ off 0 hx
end
def xm (P:Program) (t:TypeId) (cs:Array Value) (off:Nat):Option Value:=
 bif mJ P t then bif eW P t then some (.agg (cs.extract off (off+eG P t))) else cs[off]? else none
def CN{P:Program}{t:TypeId}{off:Nat}{v:Value}(h:xm P t cs off=some v)(w:World):(part t cs off).run P w=.ok v w:=by
 unfold xm at h;cases ho:mJ P t with
 | false=>rw[ho] at h;cases h
 | true=>
  rw[ho] at h;rw[AG (by simp[ho])];cases ha:eW P t with
  | true=>rw[ha] at h;simp at h;simp[h]
  | false=>rw[ha] at h;simp at h;simp[h]
def pB (P:Program) (f:TypeId->Value->Value->Option Bool) (xs ys:Array Value):List Field->Option Bool
 | []=>some true
 | x::fs=>
  if x.name≠ "_" then
   match xm P x.type xs x.offset,xm P x.type ys x.offset with
   | some a,some b=>match f x.type a b,pB P f xs ys fs with
    | some r,some q=>some (bif r then q else false)
    | _,_=>none
   | _,_=>none
  else pB P f xs ys fs
def qu (P:Program) (f:TypeId->Value->Value->Option Bool) (e:TypeId) (n:Nat) (xs ys:Array Value):List Nat->Option Bool
 | []=>some true
 | i::is=>
  match xm P e xs (i*n),xm P e ys (i*n) with
  | some a,some b=>match f e a b,qu P f e n xs ys is with
   | some r,some q=>some (bif r then q else false)
   | _,_=>none
  | _,_=>none
def sd (P:Program):Nat->TypeId->Value->Value->Option Bool
 | 0,_,_,_=>none
 | d+1,t,x,y=>
  match P.underlying t,x,y with
  | some .bool,.bool a,.bool b=>some (a==b)
  | some (.int _),.int k a,.int k' b=>bif k==k' then some (a==b) else none
  | some .string,.string a,.string b=>some (a.toList==b.toList)
  | some (.struct _),.agg xs,.agg ys=>bif P.stoodInHeld t then none else pB P (sd P d) xs ys (P.fieldsOf t).toList
  | some (.array n e),.agg xs,.agg ys=>bif mJ P e then qu P (sd P d) e (P.cellsOf e) xs ys (List.range n) else none
  | _,_,_=>none
def DI{P:Program}{d:Nat}{f:TypeId->Value->Value->Option Bool}(hf:∀t x y r,f t x y=some r->∀w,(Op.equalIn d t x y).run P w=.ok r w){xs ys:Array Value}: ∀ {fs:List Field} {r:Bool},pB P f xs ys fs=some r->∀w,(Op.eqFields d xs ys fs).run P w=.ok r w
 | [],r,h,w=>by simp[pB] at h;subst h;rfl
 | x::fs,r,h,w=>by
  simp only[pB] at h;simp only[Op.eqFields];split at h;rename_i hn;rw[if_pos hn];split at h;rename_i a b ha hb;split at h;rename_i r1 q h1 h2;cases h;simp only[Sem.run_bind,CN ha,CN hb,Result.andThen_ok,hf _ _ _ _ h1];cases r1 with
  | false=>simp
  | true=>simpa using DI hf h2 w
  cases h;cases h;rename_i hn;rw[if_neg hn];exact DI hf h w
def qqZ{P:Program}{d:Nat}{f:TypeId->Value->Value->Option Bool}(hf:∀t x y r,f t x y=some r->∀w,(Op.equalIn d t x y).run P w=.ok r w){e n:Nat}{xs ys:Array Value}: ∀ {is:List Nat} {r:Bool},qu P f e n xs ys is=some r->∀w,(Op.eqItems d e n xs ys is).run P w=.ok r w
 | [],r,h,w=>by simp[qu] at h;subst h;rfl
 | i::is,r,h,w=>by
  simp only[qu] at h;simp only[Op.eqItems];split at h;rename_i a b ha hb;split at h;rename_i r1 q h1 h2;cases h;simp only[Sem.run_bind,CN ha,CN hb,Result.andThen_ok,hf _ _ _ _ h1];cases r1 with
  | false=>simp
  | true=>simpa using qqZ hf h2 w
  cases h;cases h
def CM{P:Program}:∀(d:Nat) (t:TypeId) (x y:Value) (r:Bool),sd P d t x y=some r->∀k w,(Op.equalIn (d+k) t x y).run P w=.ok r w
 | 0,_,_,_,_,h,_,_=>by cases h
 | d+1,t,x,y,r,h,k,w=>by
  rw[show d+1+k=(d+k)+1 by omega];simp only[sd] at h;split at h;rename_i hu;cases h;exact run_equalIn_bool' w _ _ _ _ hu;rename_i q k1 a k2 b hu;cases hkk:k1==k2 with
  | false=>rw[hkk] at h;cases h
  | true=>
   rw[hkk] at h;cases h
   have:=eq_of_beq hkk
   subst this;exact run_equalIn_int w _ _ _ _ _ _ hu
  rename_i hu;cases h;exact run_equalIn_string w _ _ _ _ hu;rename_i hu;cases hs:P.stoodInHeld t with
  | true=>rw[hs] at h;cases h
  | false=>
   rw[hs] at h;rw[run_equalIn_struct w (d+k) t _ _ (by rw[hu];unfold Program.fieldsOf;rw[hu]) hs];exact DI (fun t x y r h w=>CM d t x y r h k w) h w
  rename_i n e xs ys hu;cases ho:mJ P e with
  | false=>rw[ho] at h;cases h
  | true=>
   rw[ho] at h;obtain⟨i,hi⟩:=Option.isSome_iff_exists.1 (sD (P:=P) (t:=e) (by simp[ho])).1;rw[run_equalIn_array w (d+k) xs ys hu hi];exact qqZ (fun t x y r h w=>CM d t x y r h k w) h w
  cases h
def FO{P:Program}{t:TypeId}{x y:Operand}{ds:Array Value}{K:Bool->Prop}(d:Nat)(hd:d<=10000)(r:Bool)(h:sd P d t (.agg cs) (.agg ds)=some r)(hg:P.eqGuardType P.depth t=false)(k:K r): fc [gO.one Cell.bool] (fun w'=>(do eqGuard .eql t x y (.agg cs) (.agg ds);binOp .eql t (.agg cs) (.agg ds):Sem Value).run P w') w K:=by have hr:=CM d t _ _ r h (10000-d) w;rw[show d+(10000-d)=10000 by omega] at hr;have hb:(binOp .eql t (.agg cs) (.agg ds)).run P w=.ok (.bool r) w:=sE (P:=P) false hr oL oL oL oL;refine⟨r,?_,k⟩;show ((do eqGuard .eql t x y (.agg cs) (.agg ds);binOp .eql t (.agg cs) (.agg ds):Sem Value).run P w)=Result.ok (Value.bool r) w;simp[eqGuard,hg,hb]
end
section
open Go Go.RowKit Go.ChangeShapes List
variable {w:World}
def sY (P:Program) (u:TypeId):Cell:=
 match P.underlying u with
 | some (.int k)=>.int k
 | some .bool=>.bool
 | some .string=>.str
 | some (.pointer _)=>.ptr
 | some (.slice _)=>.slice
 | some (.map _ _)=>.map
 | _=>.any
@[reducible] def sK:(c:Cell)->c.El->Prop
 | .int k,n=>k.has n
 | .str,s=>(s.size:Int)<=IntKind.i64.max
 | .slice,s=>s.len<=s.cap/\(s.cap:Int)<=IntKind.i64.max/\(s.a=none->s.cap=0)
 | _,_=>True
def qvt{P:Program}{r:Reach}{base:Nat}{u:TypeId}{v:Value}{c:Cell}(hc:sY P u=c)(h:Cell.okWide P w r base u v):∃x:c.El,v=c.mk x/\sK c x:=by
 unfold sY at hc;split at hc<;>subst hc;rename_i k hu;simp only[Cell.okWide,hu] at h;cases v<;>simp only[Cell.ok,hu] at h;rename_i q n;obtain⟨rfl,h⟩:=h;exact⟨n,rfl,h⟩;rename_i hu;simp only[Cell.okWide,hu] at h;cases v<;>simp only[Cell.ok,hu] at h;rename_i b;exact⟨b,rfl,trivial⟩;rename_i hu;simp only[Cell.okWide,hu] at h;cases v<;>simp only[Cell.ok,hu] at h;rename_i s;exact⟨s,rfl,h⟩;rename_i e hu;simp only[Cell.okWide,hu] at h;cases v<;>simp only[Cell.ok,hu] at h;rename_i p;exact⟨p,rfl,trivial⟩;rename_i e hu;simp only[Cell.okWide,hu] at h;cases v<;>simp only[Cell.ok,hu] at h;rename_i a l c;cases a with
 | none=>
  cases l with
  | succ l=>simp at h
  | zero=>cases c with
   | succ c=>simp at h
   | zero=>exact⟨dC,rfl,zM _,oM,fun _=>rfl⟩
 | some a=>exact⟨⟨some a,l,c⟩,rfl,h.1,h.2.1,fun e=>by cases e⟩
 rename_i k e hu;simp only[Cell.okWide,hu] at h;cases v<;>simp only[Cell.ok,hu] at h;rename_i m;exact⟨m,rfl,trivial⟩;exact⟨v,rfl,trivial⟩
def kx:(cs:List Cell)->HL cs->Prop
 | [],_=>True
 | [c],x=>sK c x
 | c::d::cs,x=>sK c x.1/\kx (d::cs) x.2
def Dr{P:Program}{r:Reach}{base:Nat}{t:TypeId}{v:Value}{c:Cell}(ht:eW P t=false)(hc:sY P t=c)(h:Value.okWide P w r base t v):∃x:c.El,v=c.mk x/\sK c x:=by
 refine qvt hc (w:=w) (r:=r) (base:=base) ?_;unfold Value.okWide at h;unfold eW at ht;split at h
 ·simp_all
 ·simp_all
 exact h
def Fr.below{w':World}(h:Fr [] w w'):Below w.heap.size w w':=⟨h.os,h.tape,h.output,h.size,fun i hi=>h.block i hi oL⟩
section
variable {H:Type} {enc:TypeId×Value->H} {P:Program}
def qi9(hl:laidOutB P=true){W W':World}(hb:Below W.heap.size W W'):∀ {ts:List TypeId} {vs:List Value} {ds:List (DataW H)} {ps:List MemPlace}, (ts.all fun t=>P.readableRec t&&decide (t<P.types.size))=true->DataW.TrodAll enc P W 0 (fun _=>true) true ts vs ds ps->(∀x∈ps,x.block<W.heap.size)-> DataW.TrodAll enc P W' 0 (fun b=>decide (b<W.heap.size)) true ts vs ds ps
 | [],vs,ds,ps,_,h,_=>by obtain⟨rfl,rfl,rfl⟩:=trodAll_nil h;exact trodAll_mk0
 | t::ts,vs,ds,ps,hr,h,hlt=>by
  simp only[all_cons,yA,decide_eq_true_eq] at hr;obtain⟨v,vs',d,ds',p,p',rfl,rfl,rfl,h1,h2⟩:=trodAll_cons h;exact trodAll_cons_mk (Below.trod hl hr.1.1 hr.1.2 h1 hb fun x hx=>hlt x (zH _ hx))
   (qi9 hl hb (oP hr.2) h2 fun x hx=>hlt x (zI _ hx))
def qxD{fn:Func}{s:ChangeSpec}{W W':World}{args:Array Value}{ds gs:List (DataW H)}{before:List MemPlace}{tb:TypeId}(hv:s.vars=[])(hW:DataW.Whole enc P fn.params.toList s.vars false W args.toList ds gs before)(hs:(s.fn H ds).results=[.lit (.bool true)]/\(s.fn H ds).args=ds/\(s.fn H ds).vars=[])(hl:laidOutB P=true)(hr:(fn.params.toList.all fun t=>P.readableRec t&&decide (t<P.types.size))=true)(hres:fn.resultTypes = #[tb])(htb:P.underlying tb=some .bool)(hb:Below W.heap.size W W'):ChangeSpec.post enc P fn s false true false false W args (.bool true) W':=by have hW':=hW;obtain⟨p,q,hA,hV,hbe,_,_⟩:=hW;rw[hv] at hV;obtain⟨rfl,rfl⟩:=trodVars_none hV;obtain⟨h1,h2,h3⟩:=hs;rw[<- xG ds] at h1 h2 h3;refine⟨ds,[],before,[],p,[],hW',?_,?_,?_,hb.frame _,fun h=>by cases h⟩;rw[h1,hres];exact trodAll_cons_mk (shut_bool htb _) trodAll_mk0;rw[h2,xG];exact qi9 hl hb hr hA fun x hx=>hW'.lt x (by rw[hbe];exact zH _ hx);rw[h3,hv];exact (rfl:DataW.TrodVars enc P W' (fun b=>decide (b<W.heap.size)) [] [] [])
end
end
section
open Go List
variable {B S:List Nat} {K:Sl->WP} {a:Addr} {cs:Array Value} {r:Result Value} {s:Sl} {t ty:TypeId} {ts:List gO} {w':World} {z:Value}
variable {P:Program} {w:World}
def vp{b:Nat}{T:TypeId}{fr:Nat×Nat}:∀ {vs:List Value} {off:Nat} {w:World} {cs:Array Value},w.heap[b]?=some (.cells cs T fr)->w.setCells b off vs=gL w b (.cells (dN cs off vs) T fr)
 | [],off,w,cs,h=>by
  show w=_;unfold gL dN;have:w.heap.setIfInBounds b (.cells cs T fr)=w.heap:=by apply Array.ext_getElem?;intro i;rw[Array.getElem?_setIfInBounds];by_cases hi:b=i;subst hi;rw[if_pos rfl,if_pos (eT h),h];simp[hi]
  rw[this]
 | v::vs,off,w,cs,h=>by have h1:w.setCells b off (v::vs)=(w.setCell (dd b off) v).setCells b (off+1) vs:=rfl;rw[h1,qlO h];have h2:(gL w b (.cells (cs.setIfInBounds off v) T fr)).heap[b]?=some (.cells (cs.setIfInBounds off v) T fr):=(by rw[nW _ _ _ _ (eT h),if_pos rfl]);rw[vp h2,qtJ];rfl
def se{s b:Nat}(h:(P.info? t).map (fun i=>(i.zero,i.size,i.bytes))=some (some z,s,b)):∃i,P.info? t=some i/\i.zero=some z/\i.size=s/\i.bytes=b:=by obtain⟨i,hi,he⟩:=yS.1 h;simp only[Prod.mk.injEq] at he;exact⟨i,hi,he.1,he.2.1,he.2.2⟩
def qJ{r:World->Result Value}{K:iO ts->Prop}(x:iO ts)(h:r w=.ok (fP ts x) w)(k:K x):fc ts r w K:=⟨x,h,k⟩
def Gf{K:iO ts->WP}(x:iO ts)(w':World)(h:r=.ok (fP ts x) w')(k:K x w'):Pt.run ts r K:=⟨x,w',h,k⟩
def Be{r:Result Unit}{K:WP}(w':World)(h:r=.ok () w')(k:K w'):iM r K:=⟨w',h,k⟩
def DK(a:Addr):a.add 0=a:=by
 cases a with
 | mk b o k=>cases k<;>simp[Addr.add]
def wD{hi:Int}{size:Nat}{K:Sl->Prop}(h:0<=hi/\hi<=s.cap)(k:K ⟨s.a,hi.toNat,s.cap⟩):fB s none (some hi) none size K:=by
 unfold fB;refine⟨⟨oL,by simpa using h.1,by simpa using h.2,oL⟩,?_⟩;have e:(s.a.map (·.add ((none:Option Int).getD 0).toNat))=s.a:=by
  cases s.a with
  | none=>rfl
  | some a=>simp[DK]
 simp only[xV,xU,Int.toNat_zero,Nat.zero_mul,Nat.sub_zero,zJ] at e⊢;rw[e,ite_self];exact k
def qzP{b o len cap:Nat}{lo:Int}{size:Nat}{K:Sl->Prop}(h:0<=lo/\lo<=len)(hc:len<=cap)(k:∀o',(lo<cap->o'=o+lo.toNat*size)->K ⟨some ⟨b,o',none⟩,len-lo.toNat,cap-lo.toNat⟩): fB ⟨some (dd b o),len,cap⟩ (some lo) none none size K:=by unfold fB;refine⟨⟨by simpa using h.1,by simpa using h.2,by simpa using hc,oL⟩,?_⟩;simp only[xV,xU,zJ];by_cases e:cap=lo.toNat;rw[if_pos e];exact k o (fun h=>oJ);rw[if_neg e];simp only[Option.map_some,Addr.q9];exact k _ (fun _=>rfl)
def tF(s:Sl)(w':World)(h:r=.ok (.slice s.a s.len s.cap) w')(k:K s w'):Pt.run de r K:=⟨s,w',h,k⟩
def qs3{e:TypeId}{i:TypeInfo}{b off n cap m c:Nat}{T:TypeId}(ht:P.underlying t=some (.slice e))(hi:P.info? e=some i)(news:List Value)(hb:w.heap[b]?=some (.cells cs T (0,0)))(hl:news.length=m*i.size)(hnews:∀(j:Nat) u,news[j]?=some u->w.cell? (a.add j)=some u)(h1:∀u∈news,u.oneCell'=true)(hroom:n+m<=cap)(hsz:off+n*i.size+news.length<=cs.size)(k:K ⟨some (dd b off),n+m,cap⟩ (gL w b (.cells (dN cs (off+n*i.size) news) T (0,0)))): Pt.run de ((Builtin.append_ #[t,t] ty #[.slice (some (dd b off)) n cap,.slice (some a) m c]).run P w) K:=by refine tF ⟨_,_,_⟩ _ (run_append_room_cells w t ty e i ht hi b off n cap a m c news hl hnews h1 hroom (fun j hj=>?_) (fun j hj=>?_)) ?_;rw[je hb];have:off+n*i.size+j<cs.size:=oJ;simp[this];simp[World.frozen?,hb];rw[vp hb];exact k
def qqI{e:TypeId}{i:TypeInfo}{b:Addr}{n cap m c:Nat}(ht:P.underlying t=some (.slice e))(hi:P.info? e=some i)(hz:i.zero=some z)(olds news:List Value)(hlo:olds.length=n*i.size)(holds:∀(j:Nat) u,olds[j]?=some u->w.cell? (b.add j)=some u)(hl:news.length=m*i.size)(hnews:∀(j:Nat) u,news[j]?=some u->w.cell? (a.add j)=some u)(hg:cap<n+m)(hbytes:(n+m)*i.bytes<=140737488355328)(h63:n+m<=9223372036854775807)(k:∀q,n+m<=q->q<=maxLen->K ⟨some ⟨w.heap.size,0,none⟩,n+m,q⟩ (w.drew.alloc (.cells (olds.toArray++news.toArray++Builtin.zeroCells z.cells (q-(n+m))) e))): Pt.run de ((Builtin.append_ #[t,t] ty #[.slice (some b) n cap,.slice (some a) m c]).run P w) K:=by exact tF ⟨_,_,_⟩ _ (run_append_grow w t ty e i z ht hi hz b n cap olds hlo holds a m c news hl hnews hg oJ (growslice_fits hg hbytes))<|k _ (grownCap_ge w (n+m) cap e) (grownCap_le_maxLen w (n+m) cap e (by unfold maxLen;omega))
def qyv{e:TypeId}{i:TypeInfo}{m c:Nat}(ht:P.underlying t=some (.slice e))(hi:P.info? e=some i)(hz:i.zero=some z)(news:List Value)(hl:news.length=m*i.size)(hnews:∀(j:Nat) u,news[j]?=some u->w.cell? (a.add j)=some u)(hm:0<m)(hbytes:m*i.bytes<=140737488355328)(h63:m<=9223372036854775807)(k:∀q,m<=q->q<=maxLen->K ⟨some ⟨w.heap.size,0,none⟩,m,q⟩ (w.drew.alloc (.cells (news.toArray++Builtin.zeroCells z.cells (q-m)) e))): Pt.run de ((Builtin.append_ #[t,t] ty #[.slice none 0 0,.slice (some a) m c]).run P w) K:=by exact tF ⟨_,_,_⟩ _ (run_append_nil w t ty e i z ht hi hz a m c news hl hnews hm oJ oJ)<|k _ (grownCap_ge w m 0 e) (grownCap_le_maxLen w m 0 e (by unfold maxLen;omega))
section
section
variable {α:Type} {enc:α->List Value} {k:Nat}
def dW (enc:α->List Value) (k:Nat) (S:List Nat) (w:World) (s:Sl) (l:List α):Prop:=
 s.len=l.length/\s.len<=s.cap/\(l=[]\/∃b o cs T fr,s.a=some (dd b o)/\w.heap[b]?=some (.cells cs T fr)/\b∉S/\∀(i:Nat) x,l[i]?=some x->(cs.toList.drop (o+i*k)).take k=enc x)
def dW.q8{S':List Nat}{w:World}{l:List α}(h:dW enc k S w s l)(f:Fr S w w')(hS:∀b∈S',b∈S\/w.heap.size<=b):dW enc k S' w' s l:=by
 obtain⟨h1,h2,h3⟩:=h;refine⟨h1,h2,?_⟩;rcases h3 with h3|⟨b,o,cs,T,fr,ha,hb,hn,hc⟩;exact .inl h3;refine .inr ⟨b,o,cs,T,fr,ha,by rw[f.block b (eT hb) hn];exact hb,fun hs=>?_,hc⟩
 have:=eT hb
 rcases hS b hs with h'|h';exact hn h';omega
def dW.q7{w:World}{l:List α}(h:dW enc k S w s l)(f:Fr [] w w'):dW enc k S w' s l:=
 h.q8 (f.mono (fun i hi _=>by cases hi)) (fun b hb=>.inl hb)
def dW.drew{S:List Nat}{w:World}{s:Sl}{l:List α}(h:dW enc k S w s l):dW enc k S w.drew s l:=h
def dW.same{w:World}{l:List α}(h:dW enc k S w s l)(f:mS w w'):dW enc k S w' s l:=h.q8 (.of_same f) (fun b hb=>.inl hb)
def dW.j6{S':List Nat}{w:World}{l:List α}(h:dW enc k S w s l)(hS:∀b∈S',b∈S\/w.heap.size<=b):dW enc k S' w s l:=h.q8 (.refl _ _) hS
def dW.nil(enc:α->List Value)(k:Nat)(S:List Nat)(w:World):dW enc k S w dC []:=⟨rfl,zM _,.inl rfl⟩
def dW.at{S:List Nat}{w:World}{s:Sl}{l:List α}(h:dW enc k S w s l)(n:Nat){x:α}(hx:l[n]?=some x): n<s.len/\∃b o,s.a=some (dd b o)/\b∉S/\∃cs T fr,w.heap[b]?=some (.cells cs T fr)/\(cs.toList.drop (o+n*k)).take k=enc x:=by obtain⟨h1,h2,h3⟩:=h;have hn:n<l.length:=(zP.1 hx).1;rcases h3 with h3|⟨b,o,cs,T,fr,ha,hb,hnS,hc⟩;rw[h3] at hx;simp at hx;exact⟨oJ,b,o,ha,hnS,cs,T,fr,hb,hc n x hx⟩
def dW.get{w:World}{l:List α}{c:Cell}(h:dW enc 1 S w s l)(n:Nat){i:Int}{x:α}{y:c.El}{K:c.El->Prop}(hi:i=n)(hx:l[n]?=some x)(hy:enc x=[c.mk y])(kk:K y):idx s i 1 fun a=>ld c a w K:=by
 subst hi;obtain⟨hn,b,o,ha,_,cs,T,fr,hb,hc⟩:=h.at n hx;refine pY ha ⟨oJ,oJ⟩ ?_;rw[zJ];refine iG hb y ?_ kk;rw[hy] at hc
 have:=congrArg (·[0]?) hc
 simpa using this
def dW.pO{w:World}{l:List α}{cl:List Cell}(h:dW enc k S w s l)(n:Nat){i:Int}{x:α}{y:HL cl}{K:HL cl->Prop}(hi:i=n)(hx:l[n]?=some x)(hk:cl.length=k)(hy:enc x=HL.mk cl y)(kk:K y):idx s i k fun a=>dJ cl a w K:=by subst hi hk;obtain⟨hn,b,o,ha,_,cs,T,fr,hb,hc⟩:=h.at n hx;refine pY ha ⟨oJ,oJ⟩ ?_;rw[zJ];refine⟨y,uN hb _ _ 0 ?_,kk⟩;rw[HL.j3,Nat.add_zero,hc,hy]
def dW.drop{S:List Nat}{w:World}{s:Sl}{l:List α}(h:dW enc k S w s l)(n:Nat){lo:Int}{K:Sl->Prop}(hlo:lo=n)(hn:n<=l.length)(hl:0<l.length)(kk:∀s',dW enc k S w s' (l.drop n)->K s'):fB s (some lo) none none k K:=by
 subst hlo;obtain⟨h1,h2,h3⟩:=h;rcases h3 with h3|⟨b,o,cs,T,fr,ha,hb,hnS,hc⟩;rw[h3] at hl;simp at hl;obtain⟨a,len,cap⟩:=s;simp only at ha h1 h2;subst ha;refine qzP ⟨oJ,oJ⟩ h2 fun o' ho'=>?_;rw[zJ] at ho'⊢;refine kk _ ⟨by simp only[yB];omega,by dsimp only;omega,?_⟩;by_cases he:l.drop n=[];exact .inl he;have hlt:n<l.length:=by rcases Nat.lt_or_ge n l.length with h|h;exact h;exact absurd (vD h) he
 refine .inr ⟨b,o',cs,T,fr,rfl,hb,hnS,fun i x hx=>?_⟩;rw[ho' oJ,Nat.add_assoc,<- xT];refine hc (n+i) x ?_;rw[yZ] at hx;exact hx
def dW.cells{w:World}{l:List α}(h:dW enc k S w s l)(henc:∀x,(enc x).length=k)(ha:s.a=some a):∀(j:Nat) u,(l.flatMap enc)[j]?=some u->w.cell? (a.add j)=some u:=by
 obtain⟨h1,h2,h3⟩:=h;rcases h3 with h3|⟨b,o,cs,T,fr,ha',hb,hnS,hc⟩;rw[h3];intro j u hj;simp at hj;rw[ha'] at ha;cases ha;have key:∀(l:List α) (o:Nat),(∀(i:Nat) x,l[i]?=some x->(cs.toList.drop (o+i*k)).take k=enc x)->∀(j:Nat) u,(l.flatMap enc)[j]?=some u->cs[o+j]?=some u:=by
  intro l;induction l with
  | nil=>intro o _ j u hj;simp at hj
  | cons x l ih=>
   intro o hc j u hj;rw[yG] at hj;by_cases hjk:j<k;rw[yY (by rw[henc];exact hjk)] at hj;have h0:=hc 0 x rfl;rw[<- h0,xA,if_pos hjk,yZ] at hj;simpa using hj;rw[yX (by rw[henc];omega),henc] at hj
   have:=ih (o+k) (fun i x hx=>by
    have:=hc (i+1) x (oP hx)
    rw[<- this];congr 2;rw[xT];omega) (j-k) u hj
   rw[<- this];congr 1;omega
 intro j u hj;rw[Addr.q9,je hb];exact key l o hc j u hj
def eO (enc:α->List Value) (k:Nat) (w:World) (s:Sl) (l:List α) (B:List Nat):Prop:=
 (s=dC/\l=[]/\B=[])\/∃b o cs T,B=[b]/\o=0/\s.a=some (dd b o)/\w.heap[b]?=some (.cells cs T (0,0))/\s.len=l.length/\s.len<=s.cap/\o+s.cap*k<=cs.size/\(cs.toList.drop o).take (l.length*k)=l.flatMap enc
def qi(henc:∀x,(enc x).length=k):∀l:List α,(l.flatMap enc).length=l.length*k
 | []=>by simp
 | x::l=>by rw[yG,zF,henc,qi henc l,yH,xT];omega
def EM(henc:∀x,(enc x).length=k):∀(l:List α) (i:Nat) (x:α),l[i]?=some x->((l.flatMap enc).drop (i*k)).take k=enc x
 | [],i,x,h=>by simp at h
 | y::l,0,x,h=>by simp at h;subst h;rw[yG,Nat.zero_mul,xE,take_append_of_le_length (by rw[henc];exact zM _),zS (by rw[henc];exact zM _)]
 | y::l,i+1,x,h=>by rw[yG,xT,Nat.one_mul,Nat.add_comm,drop_append,henc,vC,vD (by rw[henc];omega),xH];exact EM henc l i x (oP h)
def eO.nil(enc:α->List Value)(k:Nat)(w:World):eO enc k w dC [] []:=.inl ⟨rfl,rfl,rfl⟩
def eO.len{w:World}{s:Sl}{l:List α}{B:List Nat}(h:eO enc k w s l B):s.len=l.length:=by rcases h with ⟨rfl,rfl,_⟩|⟨b,o,cs,T,_,_,_,_,h,_⟩;rfl;exact h
def eO.jq{w:World}{l:List α}(henc:∀x,(enc x).length=k)(h:eO enc k w s l B)(hS:∀b∈B,b∉S):dW enc k S w s l:=by
 rcases h with ⟨rfl,rfl,rfl⟩|⟨b,o,cs,T,rfl,ho0,ha,hb,h1,h2,h3,h4⟩;exact .nil _ _ _ _;refine⟨h1,h2,.inr ⟨b,o,cs,T,_,ha,hb,hS b oL,fun i x hx=>?_⟩⟩;have hi:=(zP.1 hx).1
 have:=EM henc l i x hx
 rw[<- h4] at this;rw[<- this,drop_take,xC,take_take,xQ];have:(i+1)*k<=l.length*k:=Nat.mul_le_mul_right k hi;rw[xT] at this;omega
def eO.q8{w:World}{l:List α}(h:eO enc k w s l B)(f:Fr S w w')(hS:∀b∈B,b∉S):eO enc k w' s l B:=by rcases h with h|⟨b,o,cs,T,rfl,ho0,ha,hb,h1⟩;exact .inl h;exact .inr ⟨b,o,cs,T,rfl,ho0,ha,by rw[f.block b (eT hb) (hS b oL)];exact hb,h1⟩
def eO.q7{w:World}{l:List α}(h:eO enc k w s l B)(f:Fr [] w w'):eO enc k w' s l B:=h.q8 f (fun _ _ h=>by cases h)
def eO.lt{w:World}{l:List α}(h:eO enc k w s l B):∀b∈B,b<w.heap.size:=by rcases h with ⟨_,_,rfl⟩|⟨b,o,cs,T,rfl,ho0,ha,hb,h1⟩;intro b hb;cases hb;intro c hc;simp at hc;subst hc;exact eT hb
def eO.fresh(henc:∀x,(enc x).length=k){w:World}{b:Nat}{T:TypeId}{l:List α}{n cap:Nat}(hb:w.heap[b]?=some (.cells cs T (0,0)))(hn:n=l.length)(hc:n<=cap)(hcs:cap*k<=cs.size)(hl:cs.toList.take (l.length*k)=l.flatMap enc):eO enc k w ⟨some (dd b),n,cap⟩ l [b]:=
 .inr ⟨b,0,cs,T,rfl,rfl,rfl,hb,hn,hc,by rw[xR];exact hcs,by rw[xE];exact hl⟩
def rR{w:World}{b:Nat}(hb:b<w.heap.size)(o:Obj):Fr [b] w (gL w b o):=
 ⟨rfl,rfl,rfl,by rw[ug];exact zM _,fun j hj hS=>by rw[nW _ _ _ _ hb,if_neg (oP hS)]⟩
def qxG(L Y R:List Value)(o n:Nat)(h:o+n<=L.length):((L.take (o+n)++Y++R).drop o).take (n+Y.length)=(L.drop o).take n++Y:=by have e1:(L.take (o+n)).length=o+n:=oO;have e2:((L.drop o).take n).length=n:=oO;rw[zV,drop_append_of_le_length oJ,drop_take,vC,take_append,e2,zS oJ,vC,take_append_of_le_length (zM _),zS (zM _)]
variable {P:Program}
def C5(z:Array Value)(n:Nat):(Builtin.zeroCells z n).size=n*z.size:=by simp[Builtin.zeroCells]
def eO.j1{w:World}{tx e:TypeId}{i:TypeInfo}{l ys:List α}{x:Value}{m:Nat}(h:eO enc k w s l B)(henc:∀x,(enc x).length=k)(ht:P.underlying t=some (.slice e))(hi:P.info? e=some i)(hz:i.zero=some z)(hsz:i.size=k)(hzs:z.cells.size=k)(hs:Src P k tx x m (ys.flatMap enc) w)(hm:m=ys.length)(hbytes:(l.length+m)*i.bytes<=140737488355328)(h63:l.length+m<=9223372036854775807)(kk:∀s' B' w',eO enc k w' s' (l++ys) B'->Fr B w w'->(∀b∈B',b∈B\/w.heap.size<=b)->(s'.a.isNone=false\/(s=dC/\s'=dC))->K s' w'): Pt.run de ((Builtin.append_ #[t,tx] ty #[.slice s.a s.len s.cap,x]).run P w) K:=by
 subst hsz hm;have hfl:=qi henc;have hgrow:∀(olds:List Value),olds=l.flatMap enc->s.len=l.length->(Builtin.firstCells i.size s.len (.slice s.a s.len s.cap)).run P w.drew=.ok olds.toArray w.drew->s.cap<s.len+ys.length->
   Pt.run de ((Builtin.append_ #[t,tx] ty #[.slice s.a s.len s.cap,x]).run P w) K:=by
  intro olds ho hl hold hg;refine tF ⟨_,_,_⟩ _ (run_append_grow_src w t tx ty e i z ht hi hz s.a s.len s.cap olds hold x ys.length _ hs hg oJ (growslice_fits hg (by rw[hl];exact hbytes))) ?_;have hge:=grownCap_ge w (s.len+ys.length) s.cap e;refine kk _ [w.heap.size] _ (eO.fresh henc (b:=w.heap.size) (T:=e) (cs:=(olds++ys.flatMap enc).toArray++Builtin.zeroCells z.cells (grownCap w (s.len+ys.length) s.cap e-(s.len+ys.length))) ?_ (by rw[zF,hl]) hge ?_ ?_) ?_ ?_ ?_;rw[we];exact if_pos rfl;rw[Array.size_append,C5,hzs,size_toArray,zF,ho,hfl,hfl,<- xT,<- xT,hl];have:l.length+ys.length+(grownCap w (l.length+ys.length) s.cap e-(l.length+ys.length))=grownCap w (l.length+ys.length) s.cap e:=(by rw[hl] at hge;omega);rw[this];exact zM _;rw[Array.toList_append,take_append_of_le_length (by simp[ho,hfl,xT]),zS (by simp[ho,hfl,xT]),ho,yP];exact (Fr.refl B w).drew.alloc _;intro b hb;simp at hb;subst hb;exact .inr (zM _);exact .inl rfl
 rcases h with ⟨rfl,rfl,rfl⟩|⟨b,o,cs,T,rfl,ho0,ha,hb,h1,h2,h3,h4⟩;by_cases hy:ys=[];subst hy;refine tF dC w ?_ (kk _ _ _ (.nil _ _ _) (.refl _ _) (fun b hb=>.inl hb) (.inr ⟨rfl,rfl⟩));have hc:=hs.cells;simp at hc;rcases hs.kind with ⟨e',hk⟩|hk<;>simp[Builtin.append_,run_underlying ht,run_underlying hk,sizeOf,typeInfo,hi,hs.len,hc];have:0<ys.length:=length_pos_iff.2 hy;exact hgrow [] rfl rfl (run_firstCells_none _ _ _ _ _) oN;obtain⟨a,len,cap⟩:=s;simp only at ha h1 h2 h3;subst ha;subst h1;by_cases hroom:l.length+ys.length<=cap;have hsz':o+(l.length+ys.length)*i.size<=cs.size:=zL (Nat.add_le_add_left (Nat.mul_le_mul_right _ hroom) _) h3;rw[xT] at hsz';refine tF ⟨_,_,_⟩ _ (run_append_room_src w t tx ty e i ht hi b o l.length cap x ys.length _ hs hroom (fun j hj=>?_) (fun j hj=>?_)) ?_;rw[hfl] at hj;rw[je hb];simp[show o+l.length*i.size+j<cs.size by omega];simp[World.frozen?,hb];rw[vp hb];refine kk _ [b] _ (.inr ⟨b,o,_,T,rfl,ho0,rfl,by rw[nW _ _ _ _ (eT hb),if_pos rfl],oL,by dsimp only;omega,by rw[mG];exact h3,?_⟩) (rR (eT hb) _) (fun c hc=>.inl hc) (.inl rfl);rw[px _ _ _ (by rw[hfl];omega),zF,xT,yP,<- h4]
 have:=qxG cs.toList (ys.flatMap enc) (cs.toList.drop (o+l.length*i.size+(ys.flatMap enc).length)) o (l.length*i.size) oO
 rw[hfl] at this⊢;exact this;refine hgrow (l.flatMap enc) rfl rfl (run_firstCells_some _ _ _ _ _ _ _ (hfl l) (fun j u hj=>?_)) oN;rw[Addr.q9];show w.cell? _=_;rw[je hb];have hjl:j<l.length*i.size:=by
  have:=(zP.1 hj).1
  rw[hfl] at this;exact this
 rw[<- h4,xA,if_pos hjl,yZ] at hj;simpa using hj
def eO.push{w:World}{e T':TypeId}{i:TypeInfo}{l:List α}{x:α}{cs':Array Value}(h:eO enc k w s l B)(henc:∀x,(enc x).length=k)(hone:∀u∈enc x,u.oneCell'=true)(ht:P.underlying t=some (.slice e))(hi:P.info? e=some i)(hz:i.zero=some z)(hsz:i.size=k)(hzs:z.cells.size=k)(hcs:cs'.toList=enc x)(hbytes:(l.length+1)*i.bytes<=140737488355328)(h63:l.length+1<=9223372036854775807)(kk:∀s' B' w',eO enc k w' s' (l++[x]) B'->Fr B w w'->(∀b∈B',b∈B\/w.heap.size<=b)->K s' w'): Pt.new (.cells cs' T') w fun r w1=>Pt.run de ((Builtin.append_ #[t,t] ty #[.slice s.a s.len s.cap,.slice (some (dd r)) 1 1]).run P w1) K:=by have ho:=(dM.start [] w).alloc (.cells cs' T');have hf:=ho.fr;refine dM.new (dM.start [] w) fun b w1 eb sb ho=>eO.j1 (ys:=[x]) (h.q7 ho.fr) henc ht hi hz hsz hzs (.ofSlice _ ht _ 1 1 _ ?_ ?_ ?_) rfl (oP hbytes) (oP h63) fun s' B' w' h1 h2 h3 _=>kk s' B' w' h1 ((ho.fr.mono (fun i hi _=>by cases hi)).j8 h2 (fun i hi=>.inl hi)) (fun b hb=>?_);simp[henc];intro j u hj;rw[Addr.q9,je (ho.at (i:=0) rfl),xR];have hj':(enc x)[j]?=some u:=(oP hj);rw[<- hcs] at hj';simpa using hj';intro u hu;exact hone u (oP hu);rcases h3 b hb with h|h;exact .inl h;exact .inr oJ
end
end
end
section
open Go Go.RowKit Go.ChangeShapes List
section
variable {H:Type} {enc:TypeId×Value->H} {P:Program} {w:World} {base:Nat} {spare:Nat->Bool} {held:Bool}
def qzT{k:IntKind}{n:Int}(h:(Lit.int k n).wf=true):k.has n:=by have h':k.min<=n/\n<=k.max:=(by simpa[Lit.wf] using h);exact h'
def qpE{β:Type}{R:Nat->β->Prop}:∀n,(∀i,i<n->∃x,R i x)->∃l:List β,l.length=n/\∀(i:Nat) x,l[i]?=some x->R i x
 | 0,_=>⟨[],rfl,fun i x h=>by simp at h⟩
 | n+1,h=>by obtain⟨l,hl,hr⟩:=qpE n (fun i hi=>h i oJ);obtain⟨x,hx⟩:=h n oJ;refine⟨l++[x],by simp[hl],fun i y hy=>?_⟩;by_cases hi:i<n;rw[yY oJ] at hy;exact hr i y hy;have:i<n+1:=(by have:=(zP.1 hy).1;simp at this;omega);have e:i=n:=oJ;subst e;rw[yX oJ] at hy;simp[hl] at hy;subst hy;exact hx
def qwN{t e:TypeId}{n:Nat}{s:Sl}{y:DataW H×List MemPlace}{β:Type}{encB:β->List Value}{k:Nat}{Q:β->Prop}(ht:P.underlying t=some (.slice e))(hce:P.cellsOf e=k)(hpos:0<k)(elem:∀n cells y,DataW.trod enc P w base spare held n e cells=some y->∃x:β,cells=encB x/\Q x)(h:DataW.trod enc P w base spare held n t [.slice s.a s.len s.cap]=some y): ∃l:List β,dW encB k [] w s l/\∀x∈l,Q x:=by
 rcases Go.Deep.open_slice ht h with ⟨hm,_⟩|⟨a,len,cap,m,n',D,Pl,hm,_,hl,hc,hmm,_,hx⟩;simp only[List.cons.injEq,Value.slice.injEq,and_true] at hm;obtain⟨h1,h2,h3⟩:=hm;exact⟨[],⟨by rw[h2];rfl,oJ,.inl rfl⟩,fun x hx=>by cases hx⟩;simp only[List.cons.injEq,Value.slice.injEq,and_true] at hm;obtain⟨h1,h2,h3⟩:=hm;have hlm:len<=m:=(by rw[hmm];split<;>omega);have hcells:∀i,i<len->∃x:β,w.cells? base (a.add (i*k)) k=some (encB x)/\Q x:=fun i hi=>by obtain⟨cs',g1,g2⟩:=hx i oJ;obtain⟨x,rfl,hq⟩:=elem _ _ _ g2;rw[hce] at g1;exact⟨x,g1,hq⟩
 obtain⟨l,hll,hlr⟩:=qpE len hcells;refine⟨l,⟨by rw[h2,hll],oJ,?_⟩,fun x hx=>?_⟩;by_cases h0:l=[];exact .inl h0;right;have hl0:0<l.length:=length_pos_iff.2 h0;obtain⟨_,hlen0,hcell0⟩:=World.cells?_some (hlr 0 l[0] (zA hl0)).1;have hc0:=hcell0 0 hpos;rw[zA oJ] at hc0;obtain⟨b,o,spot⟩:=a;have hspot:spot=none:=(by simpa[Addr.add] using World.cell?_spot hc0);subst hspot;have hblk:∃cs T fr,w.heap[b]?=some (.cells cs T fr):=by simp only[Nat.zero_mul,Addr.q9] at hc0;unfold World.cell? at hc0;split at hc0;rename_i c T fr hb;exact⟨c,T,fr,hb⟩;cases hc0
 obtain⟨cs,T,fr,hb⟩:=hblk;refine⟨b,o,cs,T,fr,h1,hb,oL,fun i x hx=>?_⟩;obtain⟨_,hlen',hcell'⟩:=World.cells?_some (hlr i x hx).1;apply ext_getElem?;intro j;rw[xA,yZ];by_cases hj:j<k;rw[if_pos hj]
 have:=hcell' j hj
 rw[Addr.q9,Addr.q9,je hb] at this;rw[<- this];simp;rw[if_neg hj,yR oJ];obtain⟨i,hi,rfl⟩:=getElem_of_mem hx;exact (hlr i _ (zA hi)).2
end
end
section
open Go List
variable {K:List Value->Prop} {L':List (Nat×Obj)} {T et t:TypeId} {a:Addr} {args vs zero:List Value} {cs:Array Value} {e:Array Value->Sem Value} {f:FuncId} {name:String} {off:Nat} {ts:List gO} {w':World} {z:Value}
variable {P:Program} {w:World}
def methodOf (P:Program) (t:TypeId) (name:String):Option (FuncId×Bool):=
 match (P.info? t).bind fun i=>i.methods.find? (·.name==name) with
 | some m=>bif m.path.isEmpty then m.func else none
 | none=>none
def qnP{v:Value}{p:Bool}(h:methodOf P t name=some (f,p))(fuel:Nat): ∃wr,(Go.method (fuel+1) t v name).run P w=(do let r <- receiverAt t (.val v) p (some wr);pure (f,r):Sem (FuncId×Value)).run P w:=by
 unfold methodOf at h;cases hi:P.info? t with
 | none=>rw[hi] at h;cases h
 | some i=>
  rw[hi] at h;simp only[Option.bind_some] at h;cases hm:i.methods.find? (·.name==name) with
  | none=>rw[hm] at h;cases h
  | some m=>
   rw[hm] at h;dsimp only at h;cases hp:m.path.isEmpty with
   | false=>rw[hp] at h;cases h
   | true=>
    rw[hp] at h;change m.func=some (f,p) at h;have hpe:=Array.isEmpty_iff.1 hp;refine⟨(name.splitOn ".").getLastD name,?_⟩;simp[Go.method,typeInfo,run_program,hi,hm,hpe,h,follow]
def qvM{e:TypeId}{q:Value}{args:Array Value}(h:methodOf P t name=some (f,true))(hu:P.underlying t=some (.pointer e))(hb:iq P f=false): (callMethod (.iface t q) name args).run P w=.ok (.enter f (#[q]++args)) w:=by
 obtain⟨wr,hr⟩:=qnP (w:=w) (v:=q) h (P.types.size+Made.depth-1);have hm0:0<Made.depth:=oM;have hd:P.types.size+Made.depth-1+1=P.types.size+Made.depth:=oJ;rw[hd] at hr;have h2:(do let r <- receiverAt t (.val q) true (some wr);pure (f,r):Sem (FuncId×Value)).run P w=.ok (f,q) w:=by simp[receiverAt,run_underlying hu,Place.get]
 rw[h2] at hr;simp[callMethod,run_program,hr,xq hb]
def qvN{e:TypeId}{v:Value}{args:Array Value}(h:methodOf P t name=some (f,false))(hu:P.underlying t=some (.pointer e))(hb:iq P f=false)(he:(P.underlying e).isSome=true)(hag:eW P e=false)(hc:w.cell? a=some v): (callMethod (.iface t (.pointer (some a))) name args).run P w=.ok (.enter f (#[v]++args)) w:=by
 obtain⟨wr,hr⟩:=qnP (w:=w) (v:=.pointer (some a)) h (P.types.size+Made.depth-1);have hm0:0<Made.depth:=(by decide);have hd:P.types.size+Made.depth-1+1=P.types.size+Made.depth:=(by omega);rw[hd] at hr;have h2:(do let r <- receiverAt t (.val (.pointer (some a))) false (some wr);pure (f,r):Sem (FuncId×Value)).run P w=.ok (f,v) w:=by have hs:Builtin.ssaWrapNilChk_ #[t] t #[.pointer (some a),strVal "",strVal wr]=pure (.pointer (some a)):=rfl;simp[receiverAt,run_underlying hu,Place.get,hs,asAddr,loadVar,uX he,hag,hc]
 rw[h2] at hr;simp[callMethod,run_program,hr,xq hb]
def qtn{e:TypeId}{q:Value}{K:iO ts->WP}(h:methodOf P t name=some (f,true))(hu:P.underlying t=some (.pointer e))(hb:iq P f=false)(k:call P f (q::args) ts w K):inv P (.iface t q) name args ts w K:=
 ⟨f,q::args,by rw[qvM h hu hb];simp,k⟩
def DR{e:TypeId}{v:Value}{K:iO ts->WP}(h:methodOf P t name=some (f,false))(hu:P.underlying t=some (.pointer e))(hb:iq P f=false)(he:(P.underlying e).isSome=true)(hag:eW P e=false)(hc:w.cell? a=some v)(k:call P f (v::args) ts w K):inv P (.iface t (.pointer (some a))) name args ts w K:=
 ⟨f,v::args,by rw[qvN h hu hb he hag hc];simp,k⟩
section
structure mW {α:Type} [DecidableEq α] (P:Program) (kt:TypeId) (kv:α->Value):Prop where
 desc:∃ d,P.underlying kt=some d/\∀ a b,Instr.sameNow d (kv a) (kv b)=some (decide (a=b))
 check:∀ e a w,(Instr.checkKey e 10000 kt (kv a)).run P w=.ok () w
 stays:∀ a w,(Instr.keyThatStays (kv a) (kv a)).run P w=.ok (kv a) w
def qv4{P:Program}{kt:TypeId}{k:IntKind}(h:P.underlying kt=some (.int k)):mW P kt (fun n:Int=>Value.int k n) where
 desc:=⟨_,h,fun a b=>by simp[Instr.sameNow];rfl⟩
 check:=fun e a w=>Go.MapKept.run_checkKey h (by simp[Go.MapKept.IsKey]) e 9999
 stays:=fun a w=>by simp[Instr.keyThatStays,Instr.sameBits]
section
variable {α:Type} [DecidableEq α]
def tU{β γ:Type}(g:β->γ):∀(l:List β) (i:Nat),(l.eraseIdx i).map g=(l.map g).eraseIdx i
 | [],_=>rfl
 | _::_,0=>rfl
 | a::l,i+1=>by simp only[eraseIdx_cons_succ,xN,tU g l i]
def mg (kv:α->Value) (es:List MapEntry) (f:List (α×Value)):Prop:=es.map (fun e=>(e.key,e.val))=f.map (fun p=>(kv p.1,p.2))
def posOf (x:α):List (α×Value)->Option (Nat×Value)
 | []=>none
 | p::r=>if x=p.1 then some (0,p.2) else (posOf x r).map fun q=>(q.1+1,q.2)
def qlq{kv:α->Value}{d:TypeDesc}(hd:∀a b,Instr.sameNow d (kv a) (kv b)=some (decide (a=b)))(x:α):∀(es:List MapEntry) (f:List (α×Value)) (i:Nat),mg kv es f-> Instr.findNow d (kv x) es i=some ((posOf x f).map fun q=>(i+q.1,q.2))
 | [],[],i,_=>rfl
 | [],_::_,_,h=>by simp[mg] at h
 | _::_,[],_,h=>by simp[mg] at h
 | e::es,p::f,i,h=>by
  simp only[mg,xN,List.cons.injEq,Prod.mk.injEq] at h;obtain⟨⟨h1,h2⟩,h3⟩:=h;simp only[Instr.findNow,h1,hd,posOf];by_cases hx:x=p.1;simp[hx,h2];simp only[hx,decide_false,if_false];rw[qlq hd x es f (i+1) h3];cases posOf x f with
  | none=>rfl
  | some q=>simp;omega
variable {P:Program} {w:World} {kt:TypeId} {kv:α->Value}
def sZ(K:mW P kt kv){es:List MapEntry}{f:List (α×Value)}(h:mg kv es f)(x:α):(Instr.findKey kt (kv x) es).run P w=.ok (posOf x f) w:=by
 obtain⟨d,hd,hs⟩:=K.desc;unfold Instr.findKey;simp only[Sem.run_bind,run_underlying hd,Result.andThen_ok,qlq hs x es f 0 h,Sem.run_pure];congr 1;cases posOf x f with
 | none=>rfl
 | some q=>simp
def ko (kv:α->Value) (w:World) (b:Nat) (f:List (α×Value)):Prop:=∃es c,w.heap[b]?=some (.map es c)/\mg kv es.toList f
def Ch(ht:P.underlying t=some (.map kt et))(hz:∀w,(zeroValue et).run P w=.ok z w)(K:mW P kt kv){b:Nat}{f:List (α×Value)}(h:ko kv w b f)(x:α): (Instr.lookup t (.map (some b)) (kv x) false).run P w=.ok (match posOf x f with|some q=>q.2|none=>z) w:=by
 obtain⟨es,c,hb,he⟩:=h;cases hp:posOf x f with
 | none=>simp[Instr.lookup,run_underlying ht,Go.MapKept.run_getObj_map hb,K.check,sZ K he,hp,hz]
 | some q=>simp[Instr.lookup,run_underlying ht,Go.MapKept.run_getObj_map hb,K.check,sZ K he,hp]
def qrR(ht:P.underlying t=some (.map kt et))(hz:∀w,(zeroValue et).run P w=.ok z w)(K:mW P kt kv){b:Nat}{f:List (α×Value)}(h:ko kv w b f)(x:α): (Instr.lookup t (.map (some b)) (kv x) true).run P w=.ok (match posOf x f with|some q=>.tuple #[q.2,.bool true] | none=>.tuple #[z,.bool false]) w:=by
 obtain⟨es,c,hb,he⟩:=h;cases hp:posOf x f with
 | none=>simp[Instr.lookup,run_underlying ht,Go.MapKept.run_getObj_map hb,K.check,sZ K he,hp,hz]
 | some q=>simp[Instr.lookup,run_underlying ht,Go.MapKept.run_getObj_map hb,K.check,sZ K he,hp]
def qu2{v:Value}(ht:P.underlying t=some (.map kt et))(K:mW P kt kv){b:Nat}{f:List (α×Value)}(h:ko kv w b f)(x:α)(hx:posOf x f=none): ∃o,(Instr.mapUpdate t (.map (some b)) (kv x) v).run P w=.ok () (gL w b o)/\ko kv (gL w b o) b (f++[(x,v)]):=by obtain⟨es,c,hb,he⟩:=h;refine⟨.map (es.push ⟨kv x,v,c⟩) (c+1),?_,es.push ⟨kv x,v,c⟩,c+1,?_,?_⟩;simp[Instr.mapUpdate,run_underlying ht,Go.MapKept.run_getObj_map hb,K.check,sZ K he,hx,Go.MapKept.run_setObj_map _ hb];rfl;rw[nW _ _ _ _ (eT hb),if_pos rfl];simp only[mg] at he⊢;simp[he]
def qu1{ty:TypeId}(ht:P.underlying t=some (.map kt et))(K:mW P kt kv){b:Nat}{f:List (α×Value)}(h:ko kv w b f)(x:α): ∃o,(Builtin.delete_ #[t,kt] ty #[.map (some b),kv x]).run P w=.ok (.tuple #[]) (gL w b o)/\ko kv (gL w b o) b (match posOf x f with|some q=>f.eraseIdx q.1|none=>f):=by
 obtain⟨es,c,hb,he⟩:=h;cases hp:posOf x f with
 | none=>
  refine⟨.map es c,?_,es,c,?_,he⟩;simp[Builtin.delete_,run_underlying ht,Go.MapKept.run_getObj_map hb,K.check,sZ K he,hp,Go.MapKept.run_setObj_map _ hb];rfl;rw[nW _ _ _ _ (eT hb),if_pos rfl]
 | some q=>
  refine⟨.map (es.eraseIdxIfInBounds q.1) c,?_,es.eraseIdxIfInBounds q.1,c,?_,?_⟩;simp[Builtin.delete_,run_underlying ht,Go.MapKept.run_getObj_map hb,K.check,sZ K he,hp,Go.MapKept.run_setObj_map _ hb];rfl;rw[nW _ _ _ _ (eT hb),if_pos rfl];have h1:(es.eraseIdxIfInBounds q.1).toList=es.toList.eraseIdx q.1:=oL;rw[h1];simp only[mg] at he⊢;rw[tU,he,<- tU]
end
end
section
variable {S:List Nat} {w0 w:World} {L:List (Nat×Obj)} {P:Program}
def qsB(z:Value)(c:Nat):gV [z] c=(List.replicate c z).toArray:=by apply Array.ext;simp[gV];intro i h1 h2;simp[gV,Nat.mod_one]
def dM.Fi{el:TypeId}{bytes:Nat}{l c:Int}{K:Sl->WP}(h:dM S w0 w L)(h0:0<=l)(h1:l<=c)(h2:(bytes:Int)*c<=2^48)(h3:c<=2^48)(k:∀b w',b=w.heap.size->dM S w0 w' ((b,.cells (List.replicate c.toNat z).toArray el (0,0))::L)->K ⟨some (dd b),l.toNat,c.toNat⟩ w'):lV el [z] 1 bytes l c w K:=by
 refine⟨⟨h0,h1,h2,h3⟩,?_⟩;have e:gV (if c.toNat*1=0 then [] else [z]) (c.toNat*1)=(List.replicate c.toNat z).toArray:=by rw[xS];split;rename_i hc;rw[hc];apply Array.ext' ;simp[gV];exact qsB z _
 rw[e];exact k _ _ rfl (h.alloc _)
def dM.uE{t t' ty el b:Nat}{o dLen dCap:Nat}{src:Sl}{K:Int->WP}(h:dM S w0 w L)(i:Nat)(hi:L[i]?=some (b,.cells cs T (0,0)))(hu:P.underlying t=some (.slice el))(hs:(P.info? el).map (·.size)=some 1)(hlen:vs.length=Nat.min src.len dLen)(hvs:vs≠[]->∃a,src.a=some a/\∀(j:Nat) v,vs[j]?=some v->w.cell? (a.add j)=some v)(h1:∀v∈vs,v.oneCell'=true)(hfit:o+vs.length<=cs.size)(k:∀w',dM S w0 w' (L.set i (b,.cells (dN cs o vs) T (0,0)))->K vs.length w'): Pt.run [gO.one (Cell.int .i64)] ((Builtin.copy_ #[t,t'] ty #[.slice (some (dd b o)) dLen dCap,.slice src.a src.len src.cap]).run P w) K:=by
 by_cases h0:vs=[];subst h0;refine⟨((0:Nat):Int),w,run_copy_none w t t' ty el _ _ _ _ _ _ hu hs (oP hlen.symm),?_⟩;have e:L.set i (b,.cells (dN cs o []) T (0,0))=L:=by
  apply ext_getElem?;intro j;rw[List.getElem?_set];by_cases hij:i=j;subst hij
  have:=(zP.1 hi).1
  rw[if_pos rfl,hi];simp[this,dN];rw[if_neg hij]
 have:=k w (by rw[e];exact h)
 simpa using this;obtain⟨a,ha,hc⟩:=hvs h0;have hb:=h.at hi;have hrun:=run_copy_cells (P:=P) w t t' ty el b o dLen dCap a src.len src.cap vs hu hs hlen hc (fun j hj=>by rw[je hb];simp[show o+j<cs.size by omega]) (fun j hj=>by simp[World.frozen?,hb]) h1;rw[vp hb] at hrun;refine⟨(vs.length:Int),_,?_,k _ (h.gL i hi)⟩;rw[ha];exact hrun
def Cv{P:Program}{fn:Func}{w:World}{K:iO ts->WP}(hf:P.funcs[f]?=some fn)(hname:(fn.name== "runtime.NumGoroutine")=false)(hb:fn.body.isNone=true)(hn:Extern.findNext fn=none)(he:Extern.find fn=some e)(x:iO ts)(w':World)(hrun:(e args.toArray).run P w=.ok (fP ts x) w')(k:K x w'):Pt.ext P f args ts w K:=by refine⟨x,w',?_,k⟩;rw[run_callFunc_extern hf hname hb hn he];simp[hrun]
end
section
variable {S:List Nat} {w0 w:World} {L:List (Nat×Obj)} {P:Program}
def dM.jR{v:Value}{pts:List gO}{body:iO pts->(World->(WP)->Prop)->(WP)->(Nat->WP)->WP}{done:Nat->WP}{jumps:List (Nat->WP)}{f:FuncId}{lb:List Value}(h:dM S w0 w L)(hv:v=.func (.func f) #[] lb.toArray)(hb:iq P f=false)(k:∀(D l:Nat) (R B:Obj) (J E:Nat->Obj) (E0:Obj) (w1:World),l=w.heap.size+1->D=w.heap.size->Fr [] w w1->dM S w0 w1 ((l,R)::(D,.deferred (some []))::L)->ol P pts body l R B J-> call P f (.func (.yield l) #[] #[]::lb) [] w1 (fun _ W=>(W.heap[l]?=some R/\done D (Pt.gL W l E0))\/∃i k,jumps[i]?=some k/\W.heap[l]?=some (J i)/\k D (Pt.gL W l (E i)))):Pt.jR P v pts body done jumps w:=by refine⟨f,lb,hv,hb,fun R B J E E0 hy=>?_⟩;have h1:=h.alloc (.deferred (some []));have h2:=h1.alloc R;rw[World.size_alloc] at h2;exact k _ _ R B J E E0 _ rfl rfl (((Fr.refl [] w).alloc _).alloc _) h2 hy
def dM.eI{D:Nat}{K:WP}(h:dM S w0 w L)(i:Nat)(hi:L[i]?=some (D,.deferred (some [])))(k:∀w',dM S w0 w' (L.set i (D,.deferred none))->K w'):Pt.eI D w K:=
 ⟨h.at hi,k _ (dM.gL h i hi)⟩
def sA{v:Value}{lb:List Value}{K:iO ts->WP}(hv:v=.func (.func f) #[] lb.toArray)(hb:iq P f=false)(k:call P f (args++lb) ts w K):dV P v args ts w K:=by subst hv;refine .inl ⟨f,args++lb,?_,k⟩;simp[Deferred.ofValue,invoke,xq hb]
def qA{n b:Nat}{fr:Nat×Nat}(hb:w.heap[b]?=some (.cells cs T fr))(x:List Value)(h1:x.length=n)(hx:(cs.toList.drop off).take n=x)(k:K x):Pt.iH n (dd b off) w K:=
 ⟨x,⟨h1,uN hb _ off 0 (by rw[h1];exact hx)⟩,k⟩
def qyC{cs:List Cell}{K:HL cs->Prop}(x:HL cs)(h:vs.extract off (off+cs.length)=HL.mk cs x)(k:K x):Pt.i7 cs vs off K:=⟨x,h,k⟩
def qzO{len cap n:Nat}{K:Addr->Prop}(h:n<=len)(k:K a):mH ⟨some a,len,cap⟩ n K:=⟨a,rfl,h,k⟩
def dM.ry{n:Nat}{K:Nat->WP}(h:dM S w0 w L)(hz:((P.info? t).bind (·.zero)).map (fun z=>z.cells.size)=some n)(hn:vs.length=n)(h1:(vs.all Value.oneCell')=true)(k:∀b w',b=w.heap.size->dM S w0 w' ((b,.cells vs.toArray t (0,0))::L)->K b w'):Pt.fi P t w fun r w1=>gT (vs.length=n) (Pt.st (dd r) vs w1 fun w2=>K r w2):=by obtain⟨z,hz,hzs⟩:=yS.1 hz;refine⟨z,hz,hn,?_⟩;have h2:=h.alloc (.cells z.cells t);exact dM.st h2 0 rfl vs.toArray (oc oJ) h1 (Nat.ble_eq_true_of_le oJ) fun w' h3 _=>k _ w' rfl h3
def dM.fi{t:TypeId}{zs:List Value}{K:Nat->WP}(h:dM S w0 w L)(hz:((P.info? t).bind (·.zero)).map (fun z=>z.cells.toList)=some zs)(k:∀b w',b=w.heap.size->dM S w0 w' ((b,.cells zs.toArray t (0,0))::L)->K b w'):Pt.fi P t w K:=by obtain⟨z,hz,hzs⟩:=yS.1 hz;refine⟨z,hz,?_⟩;have h2:=h.alloc (.cells z.cells t);have e:zs.toArray=z.cells:=(by rw[<- hzs]);rw[<- e] at h2⊢;exact k _ _ rfl h2
def qsC{k:Nat}(hk:zero.length=k)(n:Nat):(gV (if n*k=0 then [] else zero) (n*k)).toList=(List.replicate n zero).flatten:=by
 by_cases h0:n*k=0;rw[if_pos h0,h0];rcases Nat.mul_eq_zero.1 h0 with h|h;subst h;simp[gV];have:zero=[]:=eq_nil_of_length_eq_zero oJ;subst this;simp[gV];rw[if_neg h0];have hpos:0<k:=Nat.pos_of_ne_zero fun e=>h0 (by rw[e];simp);apply ext_getElem?;intro i;have hlen:∀n,((List.replicate n zero).flatten).length=n*k:=(by intro n;simp[hk]);have key:∀n i,i<n*k->((List.replicate n zero).flatten)[i]?=zero[i%k]?:=by
  intro n;induction n with
  | zero=>intro i hi;simp at hi
  | succ n ih=>
   intro i hi;rw[Nat.succ_mul] at hi;rw[replicate_succ,flatten_cons];by_cases hik:i<k;rw[yY oJ,Nat.mod_eq_of_lt hik];rw[yX oJ,hk,ih (i-k) oJ];congr 1;exact (Nat.mod_eq_sub_mod oJ).symm
 have hl2:=hlen n;have hsz:(gV zero (n*k)).toList.length=n*k:=(by simp[gV]);by_cases hi:i<n*k;rw[key n i hi];have hlt:i%k<zero.length:=(by rw[hk];exact Nat.mod_lt _ hpos);have h1:(gV zero (n*k)).toList[i]?=some (zero.toArray[i%zero.toArray.size]!):=by simp[gV,hi]
 rw[h1,zA hlt];simp[hk,zA hlt];rw[yR (by rw[hsz];omega),yR (by rw[hl2];omega)]
def dM.mkN{el:TypeId}{size bytes:Nat}{l c:Int}{K:Sl->WP}(h:dM S w0 w L)(hk:zero.length=size)(h0:0<=l)(h1:l<=c)(h2:(bytes:Int)*c<=2^48)(h3:c<=2^48)(k:∀b w',b=w.heap.size->dM S w0 w' ((b,.cells ((List.replicate c.toNat zero).flatten).toArray el (0,0))::L)->K ⟨some (dd b),l.toNat,c.toNat⟩ w'):lV el zero size bytes l c w K:=by
 refine⟨⟨h0,h1,h2,h3⟩,?_⟩;have e:=qsC hk c.toNat;have e':gV (if c.toNat*size=0 then [] else zero) (c.toNat*size)=((List.replicate c.toNat zero).flatten).toArray:=by apply Array.ext';rw[e]
 rw[e'];exact k _ _ rfl (h.alloc _)
def dM.A1{o:Obj}{K:Nat->WP}(h:dM S w0 w L)(k:∀b w',b=w.heap.size->Fr [] w w'->dM S w0 w' ((b,o)::L)->K b w'):Pt.new o w K:=
 k _ _ rfl ((Fr.refl [] w).alloc o) (h.alloc o)
def dM.st'{b:Nat}{K:WP}(h:dM S w0 w L)(i:Nat)(hi:L[i]?=some (b,.cells cs T (0,0)))(cs':Array Value)(hcs:dN cs off vs=cs')(h1:(vs.all Value.oneCell')=true)(hl:off+vs.length<=cs.size)(k:∀w',dM S w0 w' (L.set i (b,.cells cs' T (0,0)))->Fr [b] w w'->K w'):Pt.st (dd b off) vs w K:=
 xf (w:=w) vs off 0 cs w K (h.at hi) h1 hl (k _ (by rw[Nat.add_zero,hcs];exact dM.gL h i hi) (rR (eT (h.at hi)) _))
def dM.sz{b:Nat}{K:WP}(h:dM S w0 w L)(i:Nat)(hi:L[i]?=some (b,.cells cs T (0,0)))(cs':Array Value)(k:∀w',dM S w0 w' (L.set i (b,.cells cs' T (0,0)))->Fr [b] w w'->K w')(hcs:dN cs off vs=cs':=by rfl)(h1:(vs.all Value.oneCell')=true:=by rfl)(hl:off+vs.length<=cs.size:=by exact zO rfl):Pt.st (dd b off) vs w K:=h.st' i hi cs' hcs h1 hl k
def qD{b:Nat}{K:WP}(hb:w.heap[b]?=some (.cells cs T (0,0)))(cs':Array Value)(hcs:dN cs off vs=cs')(h1:(vs.all Value.oneCell')=true)(hl:off+vs.length<=cs.size)(k:∀w',w'.heap[b]?=some (.cells cs' T (0,0))->Fr [b] w w'->K w'):Pt.st (dd b off) vs w K:=
 xf (w:=w) vs off 0 cs w K hb h1 hl (k _ (by rw[Nat.add_zero,hcs,nW _ _ _ _ (eT hb),if_pos rfl]) (rR (eT hb) _))
def dM.kZ(h:dM S w0 w L):dM (L.map (·.1)) w w L:=⟨h.eA,h.nodup,.refl _ _,fun p hp=>.inl (zY hp)⟩
def dM.uA(h:dM S w0 w L)(T:List Nat):dM (L.map (·.1)++T) w w L:=⟨h.eA,h.nodup,.refl _ _,fun p hp=>.inl (zH _ (zY hp))⟩
def dM.vg{T:List Nat}(h:dM S w0 w L)(hT:∀b∈T,b∈S\/w0.heap.size<=b)(f:Fr (L.map (·.1)++T) w w'):Fr S w0 w':=
 h.fr.j8 f fun b hb=>by rcases zD.1 hb with hb|hb;obtain⟨p,hp,rfl⟩:=mem_map.1 hb;exact h.own p hp;exact hT b hb
def dM.vq{T:List Nat}(h:dM S w0 w L)(hT:∀b∈T,b∈S\/w0.heap.size<=b)(k:dM (L.map (·.1)++T) w w' L'):dM S w0 w' L':=
 ⟨k.eA,k.nodup,h.vg hT k.fr,fun p hp=>by rcases k.own p hp with hb|hb;rcases zD.1 hb with hb|hb;obtain⟨q,hq,hqe⟩:=mem_map.1 hb;rw[<- hqe];exact h.own q hq;exact hT _ hb;exact .inr (zL h.fr.size hb)⟩
def dM.back(h:dM S w0 w L)(f:Fr (L.map (·.1)) w w'):Fr S w0 w':=
 h.fr.j8 f fun b hb=>by obtain⟨p,hp,rfl⟩:=mem_map.1 hb;exact h.own p hp
def fieldsOf (P:Program) (t:TypeId):Array Field:=match P.underlying t with|some (.struct fs)=>fs|_=>#[]
def qu0{a b:Value}{o1 s0 s1:Nat}(hz:(P.info? t).bind (·.zero)=some z)(hu:P.underlying t=some (.struct (fieldsOf P t)))(hpl:∀w,((fieldsOf P t).mapM fun f=>do pure (f.offset,<- sizeOf f.type):Sem (Array (Nat×Nat))).run P w=.ok #[(0,s0),(o1,s1)] w)(ha:a.cells.size=s0)(hb:b.cells.size=s1)(ho:o1=s0)(hs:z.cells.size=s0+s1)(w:World):(Instr.build t #[(0,a),(1,b)]).run P w=.ok (.agg (a.cells.toList++b.cells.toList).toArray) w:=by
 have h1:=CC 0 a.cells z.cells;have h2:=CC o1 b.cells (dN z.cells 0 a.cells.toList);have key:Instr.fill ((#[(0,s0),(o1,s1)]:Array (Nat×Nat))[·]?) z.cells [(0,a),(1,b)]=some (a.cells.toList++b.cells.toList).toArray:=by have e0:(#[(0,s0),(o1,s1)]:Array (Nat×Nat))[0]?=some (0,s0):=rfl;have e1:(#[(0,s0),(o1,s1)]:Array (Nat×Nat))[1]?=some (o1,s1):=rfl;simp only[Instr.fill,e0,e1];have c1:¬(decide (a.cells.size≠s0)||decide (0+a.cells.size>z.cells.size))=true:=(by simp[ha];omega);have c2:¬(decide (b.cells.size≠s1)||decide (o1+b.cells.size>(dN z.cells 0 a.cells.toList).size))=true:=(by simp[hb,mG];omega);rw[if_neg c1,h1,if_neg c2,h2];congr 1;apply Array.ext';rw[px _ _ _ (by rw[mG,Array.length_toList];omega),px _ _ _ (by rw[Array.length_toList];omega)];have hal:a.cells.toList.length=o1:=(by rw[Array.length_toList];omega);simp only[take_zero,xH,xR];rw[take_append_of_le_length oJ,zS oJ,drop_of_length_le oO,xG]
 simp only[Instr.build,Sem.run_bind,ui hz,Result.andThen_ok,run_underlying hu,hpl,key,Sem.run_pure]
def dW.gR{α:Type}{enc:α->List Value}{k:Nat}{S:List Nat}{w:World}{s:Sl}{l:List α}(h:dW enc k S w s l)(henc:∀x,(enc x).length=k)(n:Nat){i:Int}{x:α}(hi:i=n)(hx:l[n]?=some x)(kk:K (enc x)):idx s i k fun a=>Pt.iH k a w K:=by subst hi;obtain⟨hn,b,o,ha,_,cs,T,fr,hb,hc⟩:=h.at n hx;refine pY ha ⟨oJ,oJ⟩ ?_;rw[zJ];exact qA hb _ (henc x) hc kk
def qsN{α:Type}{enc:α->List Value}{k:Nat}(henc:∀x,(enc x).length=k):∀(l:List α) (i:Nat) (x:α),i<l.length->dN (l.flatMap enc).toArray (i*k) (enc x)=((l.set i x).flatMap enc).toArray:=by
 intro l i x hi;have hsplit:l=l.take i++l[i]::l.drop (i+1):=(by rw[<- zX hi,xD]);have hset:l.set i x=l.take i++x::l.drop (i+1):=(by rw[set_eq_take_append_cons_drop,if_pos hi]);have hlen:((l.take i).flatMap enc).length=i*k:=(by rw[qi henc,yK,xQ oJ]);have e1:l.flatMap enc=(l.take i).flatMap enc++enc l[i]++(l.drop (i+1)).flatMap enc:=by
  conv=>lhs;rw[hsplit]
  rw[yP,yG,zV]
 have e2:(l.set i x).flatMap enc=(l.take i).flatMap enc++enc x++(l.drop (i+1)).flatMap enc:=(by rw[hset,yP,yG,zV]);rw[e1,e2];generalize (l.take i).flatMap enc=A at hlen;generalize hX:enc l[i]=X;have hXl:X.length=(enc x).length:=(by rw[<- hX,henc,henc]);generalize (l.drop (i+1)).flatMap enc=Z;apply Array.ext';rw[px _ _ _ oO];rw[<- hlen];have h1:(A++X++Z).take A.length=A:=(by rw[zV,take_append_of_le_length (zM _),zS (zM _)]);have h2:(A++X++Z).drop (A.length+(enc x).length)=Z:=(by rw[<- hXl,<- zF,drop_append_of_le_length (zM _),drop_of_length_le (zM _),xH]);rw[h1,h2]
end
end
section
set_option linter.unusedSectionVars false
open Go List
variable {es:Array MapEntry} {seen:Array Nat}
section
variable {α:Type} [DecidableEq α] {P:Program} {w:World} {kt:TypeId} {kv:α->Value}
def iR (kv:α->Value) (w:World) (b:Nat) (f:List (α×Value)):Prop:=
 ∃es c,w.heap[b]?=some (.map es c)/\mg kv es.toList f/\(es.toList.map (·.born)).Pairwise (· < ·)/\∀e∈es.toList,e.born<c
def iR.at{b:Nat}{f:List (α×Value)}(h:iR kv w b f):ko kv w b f:=by obtain⟨es,c,hb,he,_⟩:=h;exact⟨es,c,hb,he⟩
def iR.q8{w':World}{b:Nat}{S:List Nat}{f:List (α×Value)}(h:iR kv w b f)(k:Fr S w w')(h1:b∉S):iR kv w' b f:=by obtain⟨es,c,hb,he⟩:=h;exact⟨es,c,by rw[k.block b (eT hb) h1];exact hb,he⟩
def iR.lt{b:Nat}{f:List (α×Value)}(h:iR kv w b f):b<w.heap.size:=by obtain⟨es,c,hb,_⟩:=h;exact eT hb
def iR.empty{b:Nat}(hb:w.heap[b]?=some (.map #[] 0)):iR kv w b []:=⟨#[],0,hb,rfl,oL,oL⟩
def iR.new{t et:TypeId}{v:Value}(ht:P.underlying t=some (.map kt et))(K:mW P kt kv){b:Nat}{f:List (α×Value)}(h:iR kv w b f)(x:α)(hx:posOf x f=none): ∃o,(Instr.mapUpdate t (.map (some b)) (kv x) v).run P w=.ok () (gL w b o)/\iR kv (gL w b o) b (f++[(x,v)]):=by obtain⟨es,c,hb,he,hs,hc⟩:=h;refine⟨.map (es.push ⟨kv x,v,c⟩) (c+1),?_,es.push ⟨kv x,v,c⟩,c+1,?_,?_,?_,?_⟩;simp[Instr.mapUpdate,run_underlying ht,Go.MapKept.run_getObj_map hb,K.check,sZ K he,hx,Go.MapKept.run_setObj_map _ hb];rfl;rw[nW _ _ _ _ (eT hb),if_pos rfl];simp only[mg] at he⊢;simp[he];rw[Array.toList_push,xM,pairwise_append];refine⟨hs,oL,fun a ha b hb'=>?_⟩;obtain⟨e,he',rfl⟩:=mem_map.1 ha;simp at hb';subst hb';exact hc e he';intro e he';rw[Array.toList_push] at he';rcases zD.1 he' with h1|h1;exact Nat.lt_succ_of_lt (hc e h1);simp at h1;subst h1;exact Nat.lt_succ_self _
def iR.del{t et ty:TypeId}(ht:P.underlying t=some (.map kt et))(K:mW P kt kv){b:Nat}{f:List (α×Value)}(h:iR kv w b f)(x:α): ∃o,(Builtin.delete_ #[t,kt] ty #[.map (some b),kv x]).run P w=.ok (.tuple #[]) (gL w b o)/\iR kv (gL w b o) b (match posOf x f with|some q=>f.eraseIdx q.1|none=>f):=by
 obtain⟨es,c,hb,he,hs,hc⟩:=h;cases hp:posOf x f with
 | none=>
  refine⟨.map es c,?_,es,c,?_,he,hs,hc⟩;simp[Builtin.delete_,run_underlying ht,Go.MapKept.run_getObj_map hb,K.check,sZ K he,hp,Go.MapKept.run_setObj_map _ hb];rfl;rw[nW _ _ _ _ (eT hb),if_pos rfl]
 | some q=>
  have h1:(es.eraseIdxIfInBounds q.1).toList=es.toList.eraseIdx q.1:=oL;refine⟨.map (es.eraseIdxIfInBounds q.1) c,?_,es.eraseIdxIfInBounds q.1,c,?_,?_,?_,?_⟩;simp[Builtin.delete_,run_underlying ht,Go.MapKept.run_getObj_map hb,K.check,sZ K he,hp,Go.MapKept.run_setObj_map _ hb];rfl;rw[nW _ _ _ _ (eT hb),if_pos rfl];rw[h1];simp only[mg] at he⊢;rw[tU,he,<- tU];rw[h1,tU];exact hs.sublist (eraseIdx_sublist _ _);rw[h1];exact fun e he'=>hc e (mem_of_mem_eraseIdx he')
def qwD{t et:TypeId}(ht:P.underlying t=some (.map kt et)){b:Nat}{c:Nat}(hb:w.heap[b]?=some (.map es c)): (Instr.range t (.map (some b))).run P w=.ok (.pointer (some ⟨w.heap.size,0,none⟩)) (w.alloc (.mapIter (some b) c #[] c)):=
 run_range_map w t kt et b es c ht hb
def qzI{b it c:Nat}{ty:TypeId}{Ke:WP}{Ks:Value->Value->WP}(hb:w.heap[b]?=some (.map es c))(hi:w.heap[it]?=some (.mapIter (some b) c seen c))(hc:∀e∈es.toList,e.born<c)(ke:(∀e∈es.toList,e.born∈seen.toList)->Ke w)(ks:∀e∈es.toList,e.born∉seen.toList->∀w',mS w w'->Ks e.key e.val (gL w' it (.mapIter (some b) c (seen.push e.born) c))): mz ((Instr.next (.pointer (some (dd it))) false ty).run P w) Ke Ks:=by
 have htest:(!seen.isEmpty&&!es.isEmpty&&es.all (fun x=>decide (x.born>=c)))=false:=next_test_false seen es c c hc (zM _);have hlt:=eT hi;let L:=leftOf es seen;have hmem:∀x∈L.toList,x∈es.toList/\x.born∉seen.toList:=(by intro x hx;have:x∈es.toList.filter (fun e=>!seen.contains e.born):=(by simpa[L,leftOf] using hx);have h2:=mem_filter.1 this;exact⟨h2.1,by simpa using h2.2⟩);have e1:L.filter (fun x=>decide (x.born<c))=L:=(by apply Array.toList_inj.1;rw[Array.toList_filter];exact filter_eq_self.2 fun x hx=>zZ (hc x (hmem x hx).1));have e2:L.filter (fun x=>decide (x.born>=c)) = #[]:=by apply Array.toList_inj.1;rw[Array.toList_filter];exact filter_eq_nil_iff.2 fun x hx=>by have:=hc x (hmem x hx).1;simp;omega
 have hL:es.filter (fun e=>!seen.contains e.born)=L:=rfl;have hsz:∀x∈es.toList,x.born∉seen.toList->x∈L.toList:=fun x hx hn=>by have:x∈es.toList.filter (fun e=>!seen.contains e.born):=mem_filter.2 ⟨hx,by simpa using hn⟩;simpa[L,leftOf] using this
 clear_value L;unfold mz;by_cases h0:L.size=0;left;have hE:L = #[]:=Array.eq_empty_of_size_eq_zero h0;refine⟨w,?_,ke fun e he=>Classical.byContradiction fun hn=>?_⟩;simp only[Instr.next,getObj,Sem.run_bind,Sem.run,hi,hb,Result.andThen,htest,Bool.false_eq_true,if_false,hL,e1,e2,Array.append_empty];subst hE;simp[choose,Sem.run,Question.forced]
 have:=hsz e he hn
 rw[hE] at this;simp at this;right;have hne:L.isEmpty=false:=(by simp[Array.isEmpty,h0]);have hch:∃(j:Nat) (w1:World),j<L.size/\mS w w1/\(choose (Question.mapNext L.size)).run P w=.ok j w1:=by by_cases hf:L.size<=1;exact⟨0,w,oJ,.refl _,by simp[choose,Sem.run,Question.forced,hf]⟩;exact⟨_,w.drew,Nat.mod_lt _ oJ,(mS.refl w).drew,by simp only[choose,Sem.run,Question.forced,decide_eq_true_eq,hf,if_false,Question.cut];rfl⟩
 obtain⟨j,w1,hj,hal,hrun⟩:=hch;have hmj:=hmem L[j] oL;have hi1:w1.heap[it]?=some (.mapIter (some b) c seen c):=(by rw[hal.heap];exact hi);refine⟨_,_,_,?_,ks L[j] hmj.1 hmj.2 w1 hal⟩;simp only[Instr.next,getObj,Sem.run_bind,Sem.run,hi,hb,Result.andThen,htest,Bool.false_eq_true,if_false,hL,e1,e2,Array.append_empty,hne,Array.empty_append,Array.size_map,hrun,Array.getElem?_map,Array.getElem?_eq_getElem hj,Option.map_some,setObj,hi1];rfl
def qzr{b it c s:Nat}{e:MapEntry}{K:Value->Value->WP}(hb:w.heap[b]?=some (.map es c))(hi:w.heap[it]?=some (.mapIter (some b) s (seen.push e.born) c))(he:e∈es.toList)(hs:(es.toList.map (·.born)).Pairwise (· < ·))(k:K e.key e.val w):mI ((Instr.entry (.pointer (some (dd it)))).run P w) K:=by have hn:(es.toList.map (·.born)).Nodup:=hs.imp (fun h=>Nat.ne_of_lt h);refine⟨e.key,e.val,w,?_,k⟩;have hf:es.find? (·.born==e.born)=some e:=(by rw[<- Array.find?_toList];exact find_born e es.toList hn he);simp[Instr.entry,getObj,Sem.run,hi,hb,hf,Result.andThen]
end
end
section
open Go List
variable {B:List Nat} {K:Sl->WP} {M news olds:List Value} {T:TypeId} {cs:Array Value} {n:Nat} {z:Value}
variable {w:World} {P:Program}
def qtA{b:Nat}{o:Obj}(hb:w.heap[b]?=some o):dM [b] w w [(b,o)]:=⟨fun p hp=>by rw[zE.1 hp];exact hb,oL,.refl _ _,fun p hp=>.inl (by rw[zE.1 hp];simp)⟩
def qs0{t tx ty e:TypeId}{i:TypeInfo}{a:Addr}{cap m:Nat}{x:Value}(ht:P.underlying t=some (.slice e))(hi:P.info? e=some i)(hz:i.zero=some z)(hsz:i.size=1)(hzs:z.cells.size=1)(hl:olds.length=n)(hc:∀(j:Nat) u,olds[j]?=some u->w.cell? (a.add j)=some u)(hs:Src P 1 tx x m news w)(hg:cap<n+m)(hbytes:(n+m)*i.bytes<=140737488355328)(h63:n+m<=9223372036854775807)(kk:∀b cs c w',b=w.heap.size->w'.heap[b]?=some (.cells cs e (0,0))->Fr [] w w'->n+m<=c->c<=cs.size->cs.toList.take (n+m)=olds++news->K ⟨some (dd b),n+m,c⟩ w'): Pt.run de ((Builtin.append_ #[t,tx] ty #[.slice (some a) n cap,x]).run P w) K:=by subst hl;have hnl:=hs.newsLen;rw[xS] at hnl;refine tF ⟨_,_,_⟩ _ (run_append_grow_src w t tx ty e i z ht hi hz (some a) olds.length cap olds (by rw[hsz];exact run_firstCells_some _ _ _ _ _ _ _ (by rw[xS]) (oP hc)) x m _ (by rw[hsz];exact hs) hg oJ (growslice_fits hg hbytes)) ?_;have hge:olds.length+m<=grownCap w (olds.length+m) cap e:=grownCap_ge w (olds.length+m) cap e;refine kk w.heap.size _ (grownCap w (olds.length+m) cap e) _ rfl (by rw[we];exact if_pos rfl) ((Fr.refl [] w).drew.alloc _) hge ?_ ?_;rw[Array.size_append,C5,hzs,size_toArray,zF,hnl];generalize grownCap w (olds.length+m) cap e=G at hge⊢;omega;rw[Array.toList_append,take_append_of_le_length (by simp[hnl]),zS (by simp[hnl])]
def Gt{t tn ty e:TypeId}{i:TypeInfo}{kn kq:IntKind}{base:Option Addr}{cap k:Nat}(ht:P.underlying t=some (.slice e))(htn:P.underlying tn=some (.int kn))(hi:P.info? e=some i)(hz:i.zero=some z)(hsz:i.size=1)(hzs:z.cells.size=1)(hl:olds.length=n)(hb:base=none->olds=[])(hc:∀a,base=some a->∀(j:Nat) u,olds[j]?=some u->w.cell? (a.add j)=some u)(hk:0<k)(hg:cap<n+k)(hbytes:(n+k)*i.bytes<=140737488355328)(h63:n+k<=9223372036854775807)(kk:∀b cs c w',b=w.heap.size->w'.heap[b]?=some (.cells cs e (0,0))->Fr [] w w'->n+k<=c->c<=cs.size->cs.toList.take n=olds->K ⟨some (dd b),n+k,c⟩ w'): Pt.run de ((Builtin.append_ #[t,tn] ty #[.slice base n cap,.int kq k]).run P w) K:=by
 subst hl;have hold:(Builtin.firstCells i.size olds.length (.slice base olds.length cap)).run P w.drew=.ok olds.toArray w.drew:=by
  rw[hsz];cases base with
  | none=>rw[hb rfl];exact run_firstCells_none _ _ _ _ _
  | some a=>exact run_firstCells_some _ _ _ _ _ _ _ (by rw[xS]) (by simpa using hc a rfl)
 have hge:olds.length+k<=grownCap w (olds.length+k) cap e:=grownCap_ge w (olds.length+k) cap e;have hbk:k*i.bytes<=(olds.length+k)*i.bytes:=Nat.mul_le_mul_right _ oJ;refine tF ⟨_,_,_⟩ _ (Lib.run_append_grow_zeros w t tn ty e i z kq kn ht htn hi hz base olds.length cap olds hold k hk oJ hg oJ oJ (growslice_fits hg hbytes))<|kk w.heap.size _ (grownCap w (olds.length+k) cap e) _ rfl (by rw[we];exact if_pos rfl) ((Fr.refl [] w).drew.alloc _) hge ?_ ?_;rw[Array.size_append,Array.size_append,C5,C5,hzs,size_toArray];generalize grownCap w (olds.length+k) cap e=G at hge⊢;omega;rw[Array.toList_append,Array.toList_append,zV];exact take_left' oL
def qs1{t tx ty e:TypeId}{i:TypeInfo}{b cap m:Nat}{x:Value}(hb:w.heap[b]?=some (.cells cs T (0,0)))(ht:P.underlying t=some (.slice e))(hi:P.info? e=some i)(hsz:i.size=1)(hs:Src P 1 tx x m news w)(hroom:n+m<=cap)(hcs:cap<=cs.size)(kk:∀w',w'.heap[b]?=some (.cells (dN cs n news) T (0,0))->Fr [b] w w'->K ⟨some (dd b),n+m,cap⟩ w'): Pt.run de ((Builtin.append_ #[t,tx] ty #[.slice (some (dd b)) n cap,x]).run P w) K:=by have hnl:=hs.newsLen;rw[xS] at hnl;refine tF ⟨_,_,_⟩ _ (run_append_room_src w t tx ty e i ht hi b 0 n cap x m _ (by rw[hsz];exact hs) hroom (fun j hj=>?_) (fun j hj=>?_)) ?_;rw[hnl] at hj;rw[hsz,je hb];have:n+j<cs.size:=oJ;simp[this];simp[World.frozen?,hb];rw[vp hb,hsz,xS,xR];exact kk _ (by rw[nW _ _ _ _ (eT hb),if_pos rfl]) (rR (eT hb) _)
def ve{t t' ty el b:Nat}{o dLen dCap:Nat}{src:Sl}{vs:List Value}{K:Int->WP}(hb:w.heap[b]?=some (.cells cs T (0,0)))(hu:P.underlying t=some (.slice el))(hs:(P.info? el).map (·.size)=some 1)(hlen:vs.length=Nat.min src.len dLen)(hvs:vs≠[]->∃a,src.a=some a/\∀(j:Nat) v,vs[j]?=some v->w.cell? (a.add j)=some v)(h1:∀v∈vs,v.oneCell'=true)(hfit:o+vs.length<=cs.size)(k:∀w',w'.heap[b]?=some (.cells (dN cs o vs) T (0,0))->Fr [b] w w'->K vs.length w'): Pt.run [gO.one (Cell.int .i64)] ((Builtin.copy_ #[t,t'] ty #[.slice (some (dd b o)) dLen dCap,.slice src.a src.len src.cap]).run P w) K:=
 (qtA hb).uE 0 rfl hu hs hlen hvs h1 hfit fun w' h'=>k w' (h'.at (i:=0) rfl) h'.fr
def qs7{t e ty b o c:Nat}{K:Unit->WP}(hb:w.heap[b]?=some (.cells cs T (0,0)))(ht:P.underlying t=some (.slice e))(hz:(P.info? e).bind (·.zero)=some z)(hzc:z.cells = #[z])(h1:z.oneCell'=true)(hn:0<n)(hfit:o+n<=cs.size)(k:∀w',w'.heap[b]?=some (.cells (dN cs o (List.replicate n z)) T (0,0))->Fr [b] w w'->K () w'): Pt.run [] ((Builtin.clear_ #[t] ty #[.slice (some (dd b o)) n c]).run P w) K:=by refine⟨(),_,Lib.run_clear_slice w t e ty z ht (ui hz) hzc h1 b o n c hn (fun j hj=>?_) (fun j hj=>?_),?_⟩;rw[je hb];simp[show o+j<cs.size by omega];simp[World.frozen?,hb];rw[vp hb];exact k _ (by rw[nW _ _ _ _ (eT hb),if_pos rfl]) (rR (eT hb) _)
def qv2{i:Nat}{v:Value}(hi:i<=M.length)(hL:M.length+1<=cs.size)(hM:cs.toList.take i=M.take i):(dN (dN cs (i+1) (M.drop i)) i [v]).toList.take (M.length+1)=M.take i++[v]++M.drop i:=by have hl:cs.toList.length=cs.size:=Array.length_toList;rw[px _ _ _ (by rw[mG];simp;omega),px _ _ _ oO];have e0:(cs.toList.take (i+1)++(M.drop i++cs.toList.drop (i+1+(M.drop i).length))).take i=M.take i:=(by rw[take_append_of_le_length oO,take_take,xQ oJ,hM]);rw[zV (cs.toList.take (i+1)),e0];rw[drop_append,drop_of_length_le (l:=cs.toList.take (i+1)) (by rw[yK];exact Nat.min_le_left _ _),xH];have e:(List.take (i+1) cs.toList).length=i+1:=oO;rw[e,xL,Nat.sub_self,xE,<- zV];exact take_left' oO
def qv0{i:Nat}{v:Value}(hi:i<=M.length)(hL:M.length+1<=cs.size)(hM:cs.toList.take i=M.take i):(dN (dN cs i [v]) (i+1) (M.drop i)).toList.take (M.length+1)=M.take i++[v]++M.drop i:=by have hl:cs.toList.length=cs.size:=Array.length_toList;rw[px _ _ _ (by rw[mG];simp;omega),px _ _ _ oO,hM];have e:(M.take i++[v]).length=i+1:=oO;rw[take_append_of_le_length (l₁:=M.take i++[v]) (by rw[e];exact zM _),zS (l:=M.take i++[v]) (by rw[e];exact zM _)];exact take_left' oO
def qvF{i:Nat}(hi:i+1<=M.length)(hM:cs.toList.take M.length=M):(dN (dN cs i (M.drop (i+1))) (M.length-1) [z]).toList.take (M.length-1)=M.take i++M.drop (i+1):=by
 have hl:cs.toList.length=cs.size:=Array.length_toList;have hle:M.length<=cs.size:=by
  have:=congrArg List.length hM
  rw[yK,hl] at this;omega
 have hi':cs.toList.take i=M.take i:=by
  conv=>rhs;rw[<- hM]
  rw[take_take,xQ oJ]
 rw[px _ _ _ (by rw[mG];simp;omega),px _ _ _ oO,hi'];have e:(M.take i++M.drop (i+1)).length=M.length-1:=oO;rw[take_append_of_le_length (l₁:=M.take i++M.drop (i+1)) (by rw[e];exact zM _),zS (l:=M.take i++M.drop (i+1)) (by rw[e];exact zM _),zV];exact take_left' e
def qnx{tS tR e:TypeId}{i:TypeInfo}{a b oa ob la ca lb cb:Nat}{ca' cb':Array Value}{Ta Tb:TypeId}{fb:Nat×Nat}(ht:P.underlying tS=some (.slice e))(hi:P.info? e=some i)(ha:w.heap[a]?=some (.cells ca' Ta (0,0)))(hb:w.heap[b]?=some (.cells cb' Tb fb))(hne:a≠b)(hpos:cb'.size≠0): (Extern.SlicesOverlaps.overlaps #[tS,tS] #[tR] #[.slice (some (dd a oa)) la ca,.slice (some (dd b ob)) lb cb]).run P w=.ok (.bool false) w:=
 Lib.run_overlaps_apart w tS tR e ht i.size (fun w=>by simp[sizeOf,typeInfo,hi]) (dd a oa) (dd b ob) la ca lb cb hne Ta Tb ca'.size cb'.size (by simp[World.shape?,ha]) (by simp[World.shape?,hb]) hpos (by simp[World.frozen?,ha]) (by simp[World.frozen?,ha])
section
variable {α:Type} {enc:α->List Value} {e:α->Value} {k:Nat}
def yc(he:∀x,enc x=[e x])(l:List α):l.flatMap enc=l.map e:=by
 induction l with
 | nil=>rfl
 | cons a l ih=>rw[yG,ih,he];rfl
def eO.ptr{s:Sl}{l:List α}(h:eO enc 1 w s l B)(hl:l≠[]):∃b cs T,B=[b]/\s.a=some (dd b)/\w.heap[b]?=some (.cells cs T (0,0))/\s.len=l.length/\s.len<=s.cap/\s.cap<=cs.size/\cs.toList.take l.length=l.flatMap enc:=by rcases h with ⟨_,h,_⟩|⟨b,o,cs,T,h1,rfl,h3,h4,h5,h6,h7,h8⟩;exact absurd h hl;exact⟨b,cs,T,h1,h3,h4,h5,h6,oJ,by simpa using h8⟩
def qpR{i:Nat}{v:Value}(hi:i<M.length)(hM:cs.toList.take M.length=M):(dN cs i [v]).toList.take M.length=M.set i v:=by
 have hl:cs.toList.length=cs.size:=Array.length_toList;have hle:M.length<=cs.size:=by
  have:=congrArg List.length hM
  rw[yK,hl] at this;omega
 have hi':cs.toList.take i=M.take i:=by
  conv=>rhs;rw[<- hM]
  rw[take_take,xQ oJ]
 have hd:(cs.toList.drop (i+1)).take (M.length-(i+1))=M.drop (i+1):=by
  conv=>rhs;rw[<- hM]
  rw[drop_take]
 rw[px _ _ _ oO,hi',set_eq_take_append_cons_drop,if_pos hi,zV,take_append,zS (by rw[yK];omega)];have e1:M.length-(M.take i).length=(M.length-(i+1))+1:=oO;rw[e1,singleton_append,take_succ_cons];simp only[xL];rw[hd]
def eO.AA(he:∀x,enc x=[e x]){s:Sl}{l:List α}{b:Nat}{i:Nat}{x:α}{v:Value}{K:WP}(h:eO enc 1 w s l [b])(hi:i<l.length)(hv:v=e x)(h1:v.oneCell'=true)(kk:∀w',eO enc 1 w' s (l.set i x) [b]->Fr [b] w w'->K w'):Pt.st (dd b i) [v] w K:=by
 subst hv;obtain⟨b',cs,T,hB,h2,h3,h4,h5,h6,h7⟩:=h.ptr (fun e=>by rw[e] at hi;exact absurd hi (xX _));cases hB;refine qD h3 _ rfl (by simp[h1]) oO fun w' hb f=>kk w' (.inr ⟨b,0,_,T,rfl,rfl,h2,hb,by rw[xF];exact h4,h5,by rw[mG];omega,?_⟩) f;have hm:=yc he l
 have:=qpR (cs:=cs) (M:=l.flatMap enc) (i:=i) (v:=e x) (by rw[hm,zK];exact hi) (by rw[hm,zK,<- hm];exact h7)
 rw[xE,xS,xF,yc he,map_set,<- hm];rw[hm,zK] at this;rw[hm];exact this
def eO.uF{s:Sl}{l:List α}{i:Int}{K:Addr->Prop}(h:eO enc 1 w s l B)(hi:i=n)(hn:n<l.length)(kk:∀b,B=[b]->K (dd b n)):idx s i 1 K:=by
 obtain⟨b,cs,T,hB,h2,h3,h4,h5,h6,h7⟩:=h.ptr (fun e=>by rw[e] at hn;exact absurd hn (xX _));subst hi;refine pY h2 ⟨oJ,oJ⟩ ?_
 have:=kk b hB
 simpa using this
def eO.one(he:∀x,enc x=[e x]){b c:Nat}{l:List α}(hb:w.heap[b]?=some (.cells cs T (0,0)))(hn:n=l.length)(hc:n<=c)(hcs:c<=cs.size)(hl:cs.toList.take l.length=l.map e):eO enc 1 w ⟨some (dd b),n,c⟩ l [b]:=
 .inr ⟨b,0,cs,T,rfl,rfl,rfl,hb,hn,hc,by simpa using hcs,by rw[xE,xS,yc he];exact hl⟩
end
end
section
open Go
section
variable {P:Program} {n m:Nat} {e:Env} {a:Act} {w:World}
end
def oA:type_of% @dM.ld:=@dM.ld
def oB:type_of% @dM.A1:=@dM.A1
def oC:type_of% @dM.dJ:=@dM.dJ
def oD:type_of% @dM.sz:=@dM.sz
def oE:type_of% @dM.start:=@dM.start
def oF:type_of% @dM.drew:=@dM.drew
def oG:type_of% @dM.st':=@dM.st'
def oH:type_of% @dM.st:=@dM.st
def oI:type_of% @dM.fi:=@dM.fi
end
end Go.Pt
