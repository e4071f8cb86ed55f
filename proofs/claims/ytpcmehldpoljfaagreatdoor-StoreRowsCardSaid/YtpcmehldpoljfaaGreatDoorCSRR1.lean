/- Conditions: those that stand in each line. -/
import Derived.WalkKit
import Derived.RangeFuncLeaves
import Derived.RangeFuncRecord
import Derived.RangeFuncIn
import Derived.ChangeKeysEq
import Derived.Carry
import Derived.ProofKit
import Derived.OpenShut
import Derived.ArgAppend
import Derived.Deep.AppendSrc
import Derived.Deep.Slices
import Derived.MapKept
import Derived.Laws.CopyRow
import Derived.Laws.IdiomCopy
import Derived.Laws.Externs
import Derived.Laws.IdiomRangeMap
import Derived.Lib.SliceRun
import Derived.Lib.Overlaps
import Derived.Lib.AppendZerosOnto
set_option linter.unusedVariables false
set_option linter.unusedSimpArgs false
set_option linter.defProp false
namespace Go.Pt
abbrev IS:Type:=List Nat
abbrev IT:Type:=List Int
abbrev IV:Type:=Int×Int
abbrev IW:Type:=List (Nat×Go.Obj)
abbrev IX:Type:=Int×Int×Int×Int×Option Go.Addr×Int
abbrev IZ:Type:=Int×Int×Int×Int×Int×Int×Int×Int×Int
abbrev I1:Type:=Nat×Nat
abbrev I3:Type:=Int×Int×Int
abbrev I5:Type:=Int×Int×Int×Int×Int×Int×Int×Int×Int×Int
abbrev I6:Type:=Int×Bool
abbrev I7:Type:=Int×List Int
abbrev I8:Type:=Int×Int×List Int
abbrev I9:Type:=Int×Int×Int×Int
abbrev Ja:Type:=Option Go.Addr×Option Go.Addr
abbrev Ih(a:Go.Addr)(n:Nat):Go.Addr:=⟨a.block,a.off+n,none⟩
abbrev Ij(p:Prop)[Decidable p](X Y:Prop):Prop:=cond (decide p) X Y
theorem Iq:type_of% @List.perm_append_singleton:=@List.perm_append_singleton
theorem Ir:type_of% @List.take_append_of_le_length:=@List.take_append_of_le_length
theorem Is:type_of% @List.mem_cons_self:=@List.mem_cons_self
theorem It:type_of% @Bool.eq_iff_iff:=@Bool.eq_iff_iff
theorem Iu:type_of% @Sem.run_bind:=@Sem.run_bind
theorem Iv:type_of% @Result.andThen_ok:=@Result.andThen_ok
theorem Iw:type_of% @List.drop_of_length_le:=@List.drop_of_length_le
theorem Ix:type_of% @List.drop_append_of_le_length:=@List.drop_append_of_le_length
theorem Iy:type_of% @List.eq_nil_of_length_eq_zero:=@List.eq_nil_of_length_eq_zero
theorem Iz:type_of% @List.all_eq_true:=@List.all_eq_true
theorem IA:type_of% @Int.tdiv_eq_ediv_of_nonneg:=@Int.tdiv_eq_ediv_of_nonneg
theorem IB:type_of% @Nat.mul_le_mul_right:=@Nat.mul_le_mul_right
theorem IC:type_of% @List.sublist_cons_self:=@List.sublist_cons_self
theorem ID:type_of% @Bool.or_eq_false_iff:=@Bool.or_eq_false_iff
theorem IE:type_of% @decide_eq_false_iff_not:=@decide_eq_false_iff_not
theorem IF:type_of% @Go.MapKept.run_getObj_map:=@Go.MapKept.run_getObj_map
theorem IG:type_of% @List.mem_filter:=@List.mem_filter
theorem IH:type_of% @congrArg:=@congrArg
theorem II:type_of% @Array.getElem?_setIfInBounds:=@Array.getElem?_setIfInBounds
theorem IJ:type_of% @Array.length_toList:=@Array.length_toList
abbrev IK:Type:=Go.World
abbrev IL:Type:=Go.Value
abbrev IM:Type:=Go.TypeId
abbrev IN:Type:=Go.Program
abbrev _root_.Go.Value.p(a:Option Go.Addr):Go.Value:=.pointer a
abbrev _root_.Go.Obj.c(a:Array Go.Value)(t:Go.TypeId):Go.Obj:=.cells a t (0,0)
abbrev cw:Array Go.Value:=#[.bool false,.slice none 0 0,.slice none 0 0,.slice none 0 0]
abbrev cx:Array Go.Value:=#[.slice none 0 0,.slice none 0 0,.slice none 0 0,.slice none 0 0,.slice none 0 0,.slice none 0 0,.slice none 0 0,.int .u64 0,.bool false,.slice none 0 0]
abbrev c6:Array Go.Value:=#[.int .u64 0,.int .u64 0,.int .u64 0,.int .u64 0,.int .u64 0,.int .u64 0,.int .u64 0,.int .u64 0,.int .u64 0]
abbrev dc:Array Go.Value:=#[.int .u64 0,.int .u64 0,.int .u64 0,.int .u64 0,.int .u64 0,.int .u64 0,.int .u64 0,.int .u64 0,.int .u64 0,.int .u8 0]
abbrev dd:Array Go.Value:=#[.int .u64 0,.int .u64 0]
abbrev de:Array Go.Value:=#[.int .u32 0,.bool false,.slice none 0 0,.int .u32 0]
abbrev df:Array Go.Value:=#[.slice none 0 0,.slice none 0 0]
abbrev dg:Array Go.Value:=#[.bool false,.slice none 0 0,.slice none 0 0,.slice none 0 0,.int .i64 0]
abbrev dh:Array Go.Value:=#[.int .u64 0,.int .u64 0,.int .u64 0,.int .u64 0]
abbrev di(a b:Int):Go.Value:=.agg #[.int .u64 a,.int .u64 b]
abbrev dk(b:Nat)(o:Nat:=0):Go.Addr:=⟨b,o,none⟩
abbrev dS(b:Nat):Go.Value:=.pointer (some ⟨b,0,none⟩)
section
open Go
variable {K:Bool->Prop} {ds:List Deferred} {t:IM} {y:Operand}
theorem oJ{p:Prop}(h:p:=by omega):p:=h
theorem oK{p:Prop}(h:p:=by kernel_rfl):p:=h
theorem oL{p:Prop}(h:p:=by simp):p:=h
theorem oM{p:Prop}(h:p:=by decide):p:=h
theorem oN{p:Prop}(h:p:=by dsimp only;omega):p:=h
theorem oO{p:Prop}(h:p:=by simp;omega):p:=h
theorem oP{p q:Prop}(x:q)(h:q->p:=by intro h;simpa using h):p:=h x
inductive Cell where
  | int (k:IntKind) | bool | str | ptr | slice | map | any
  deriving DecidableEq
abbrev dj:List Cell:=[.int .u64,.int .u64]
structure Sl where
  a:Option Addr
  len:Nat
  cap:Nat
abbrev Sl.v (s:Sl):IL:=.slice s.a s.len s.cap
abbrev WP:=IK->Prop
abbrev IU:Type:=Bool×Sl×Sl×Sl
abbrev IY:Type:=Sl×Sl×Sl×Sl×Sl×Sl×Sl×Int×Bool×Sl
abbrev I0:Type:=Sl×Int
abbrev I2:Type:=Int×Bool×Sl×Int
abbrev I4:Type:=Int×Sl×Int
abbrev pW (r:Nat):Option Addr:=some (dk r)
abbrev _root_.Go.Value.i (n:Int):Value:=.int .i64 n
abbrev Cell.i:Cell:=.int .i64
abbrev _root_.Go.Value.b (n:Int):Value:=.int .u8 n
abbrev Cell.b:Cell:=.int .u8
abbrev _root_.Go.Value.u (n:Int):Value:=.int .u32 n
abbrev Cell.u:Cell:=.int .u32
abbrev Cell.s:Cell:=.slice
abbrev _root_.Go.Value.w (n:Int):Value:=.int .u64 n
abbrev Cell.w:Cell:=.int .u64
def zA:type_of% @List.getElem?_eq_getElem:=@List.getElem?_eq_getElem
def zB:type_of% @of_decide_eq_false:=@of_decide_eq_false
def zC:type_of% @of_decide_eq_true:=@of_decide_eq_true
def zD:type_of% @List.mem_append:=@List.mem_append
def zE:type_of% @List.mem_singleton:=@List.mem_singleton
def zF:type_of% @List.length_append:=@List.length_append
def zG:type_of% @List.mem_cons:=@List.mem_cons
def zH:type_of% @List.mem_append_left:=@List.mem_append_left
def zI:type_of% @List.mem_append_right:=@List.mem_append_right
def zJ:type_of% @Int.toNat_natCast:=@Int.toNat_natCast
def zK:type_of% @List.length_map:=@List.length_map
def zL:type_of% @Nat.le_trans:=@Nat.le_trans
def zM:type_of% @Nat.le_refl:=@Nat.le_refl
def zN:type_of% @List.mem_cons_of_mem:=@List.mem_cons_of_mem
def zO:type_of% @Nat.le_of_ble_eq_true:=@Nat.le_of_ble_eq_true
def zP:type_of% @List.getElem?_eq_some_iff:=@List.getElem?_eq_some_iff
def zQ:type_of% @List.getElem?_map:=@List.getElem?_map
def zR:type_of% @beq_eq_false_iff_ne:=@beq_eq_false_iff_ne
def zS:type_of% @List.take_of_length_le:=@List.take_of_length_le
def zT:type_of% @Bool.not_eq_true':=@Bool.not_eq_true'
def zU:type_of% @decide_eq_false:=@decide_eq_false
def zV:type_of% @List.append_assoc:=@List.append_assoc
def zW:type_of% @List.getElem_mem:=@List.getElem_mem
def zX:type_of% @List.drop_eq_getElem_cons:=@List.drop_eq_getElem_cons
def zY:type_of% @List.mem_map_of_mem:=@List.mem_map_of_mem
def zZ:type_of% @decide_eq_true:=@decide_eq_true
def yA:type_of% @Bool.and_eq_true:=@Bool.and_eq_true
def yB:type_of% @List.length_drop:=@List.length_drop
def yC:type_of% @Nat.lt_of_lt_of_le:=@Nat.lt_of_lt_of_le
def yE:type_of% @Bool.not_eq_false':=@Bool.not_eq_false'
def yF:type_of% @List.mem_of_getElem?:=@List.mem_of_getElem?
def yG:type_of% @List.take_succ_eq_append_getElem:=@List.take_succ_eq_append_getElem
def yH:type_of% @List.flatMap_cons:=@List.flatMap_cons
def yI:type_of% @List.length_cons:=@List.length_cons
def yJ:type_of% @List.pairwise_cons:=@List.pairwise_cons
def yK:type_of% @List.mem_flatMap:=@List.mem_flatMap
def yL:type_of% @List.length_take:=@List.length_take
def yM:type_of% @List.nodup_append:=@List.nodup_append
def yN:type_of% @decide_eq_true_iff:=@decide_eq_true_iff
def yO:type_of% @Option.some.inj:=@Option.some.inj
def yP:type_of% @beq_iff_eq:=@beq_iff_eq
def yQ:type_of% @List.flatMap_append:=@List.flatMap_append
def yR:type_of% @List.getD_eq_getElem?_getD:=@List.getD_eq_getElem?_getD
def yS:type_of% @List.getElem?_eq_none:=@List.getElem?_eq_none
def yT:type_of% @Option.map_eq_some_iff:=@Option.map_eq_some_iff
def yU:type_of% @List.mem_of_mem_drop:=@List.mem_of_mem_drop
def yV:type_of% @List.mem_of_mem_take:=@List.mem_of_mem_take
def yW:type_of% @Nat.eq_of_beq_eq_true:=@Nat.eq_of_beq_eq_true
def yX:type_of% @Nat.zero_le:=@Nat.zero_le
def yY:type_of% @List.getElem?_append_right:=@List.getElem?_append_right
def yZ:type_of% @List.getElem?_append_left:=@List.getElem?_append_left
def xA:type_of% @List.getElem?_drop:=@List.getElem?_drop
def xB:type_of% @List.getElem?_take:=@List.getElem?_take
def xC:type_of% @List.filter_append:=@List.filter_append
def xE:type_of% @List.drop_drop:=@List.drop_drop
def xF:type_of% @List.take_append_drop:=@List.take_append_drop
def xG:type_of% @List.drop_zero:=@List.drop_zero
def xH:type_of% @List.length_set:=@List.length_set
def xI:type_of% @List.append_nil:=@List.append_nil
def xJ:type_of% @List.nil_append:=@List.nil_append
def xK:type_of% @List.cons_append:=@List.cons_append
def xL:type_of% @List.length_nil:=@List.length_nil
def xM:type_of% @Array.getElem?_toList:=@Array.getElem?_toList
def xN:type_of% @List.length_singleton:=@List.length_singleton
def xO:type_of% @List.map_append:=@List.map_append
def xP:type_of% @List.map_cons:=@List.map_cons
def xQ:type_of% @List.map_take:=@List.map_take
def xR:type_of% @List.map_drop:=@List.map_drop
def xS:type_of% @Nat.min_eq_left:=@Nat.min_eq_left
def xT:type_of% @Nat.zero_add:=@Nat.zero_add
def xU:type_of% @Nat.mul_one:=@Nat.mul_one
def xV:type_of% @Nat.add_mul:=@Nat.add_mul
def xW:type_of% @Option.getD_some:=@Option.getD_some
def xX:type_of% @Option.getD_none:=@Option.getD_none
def xY:type_of% @List.not_mem_nil:=@List.not_mem_nil
def xZ:type_of% @Nat.not_lt_zero:=@Nat.not_lt_zero
def vA:type_of% @List.take_length:=@List.take_length
def vB:type_of% @List.dropLast_concat_getLast:=@List.dropLast_concat_getLast
def vC:type_of% @Prod.mk.inj:=@Prod.mk.inj
def vD:type_of% @List.cons.inj:=@List.cons.inj
def vE:type_of% @Nat.add_sub_cancel_left:=@Nat.add_sub_cancel_left
def vF:type_of% @List.drop_eq_nil_of_le:=@List.drop_eq_nil_of_le
def iN{c:Prop}[Decidable c]{α:Type _}{t e:α}(h:¬c:=by omega):ite c t e=e:=if_neg h
def iP{c:Prop}[Decidable c]{α:Type _}{t e:α}(h:c:=by omega):ite c t e=t:=if_pos h
@[reducible] def Cell.El:Cell->Type
  | .int _=>Int
  | .bool=>Bool
  | .str=>ByteArray
  | .ptr=>Option Addr
  | .slice=>Sl
  | .map=>Option Nat
  | .any=>IL
def Cell.mk:(c:Cell)->c.El->IL
  | .int k,n=>.int k n
  | .bool,b=>.bool b
  | .str,s=>.string s
  | .ptr,p=>.pointer p
  | .slice,s=>.slice s.a s.len s.cap
  | .map,m=>.map m
  | .any,v=>v
def Cell.un:(c:Cell)->IL->Option c.El
  | .int k,.int j n=>if k=j then some n else none
  | .bool,.bool b=>some b
  | .str,.string s=>some s
  | .ptr,.pointer p=>some p
  | .slice,.slice a l c=>some ⟨a,l,c⟩
  | .map,.map m=>some m
  | .any,v=>some v
  | _,_=>none
def Cell.mq{c:Cell}{v:IL}{x:c.El}(h:c.un v=some x):c.mk x=v:=by
  cases c<;>cases v<;>simp[Cell.un] at h<;>first
    | (obtain⟨rfl,rfl⟩:=h;rfl)
    | (subst h;rfl)
@[reducible] def HL:List Cell->Type
  | []=>Unit
  | [c]=>c.El
  | c::d::cs=>c.El×HL (d::cs)
def HL.mk:(cs:List Cell)->HL cs->List IL
  | [],_=>[]
  | [c],x=>[c.mk x]
  | c::d::cs,x=>c.mk x.1::HL.mk (d::cs) x.2
abbrev Ik(c:List Cell)(x:HL c)(t:Go.TypeId):Go.Obj:=.c (HL.mk c x).toArray t
abbrev Il(c:List Cell)(x:HL c):Go.Value:=.agg (HL.mk c x).toArray
def HL.j5:∀(cs:List Cell) (x:HL cs),(HL.mk cs x).length=cs.length
  | [],_=>rfl
  | [_],_=>rfl
  | _::d::cs,x=>by simp only[HL.mk,yI,HL.j5 (d::cs) x.2]
def HL.un:(cs:List Cell)->List IL->Option (HL cs)
  | [],[]=>some ()
  | [c],[v]=>c.un v
  | c::d::cs,v::vs=>
    match c.un v,HL.un (d::cs) vs with
    | some x,some y=>some (x,y)
    | _,_=>none
  | _,_=>none
def HL.mq:∀ {cs:List Cell} {vs:List IL} {x:HL cs},HL.un cs vs=some x->HL.mk cs x=vs
  | [],[],_,_=>rfl
  | [],_::_,_,h=>by simp[HL.un] at h
  | [c],[v],x,h=>by simp only[HL.un] at h;simp only[HL.mk,Cell.mq h]
  | [c],[],x,h=>by simp[HL.un] at h
  | [c],_::_::_,x,h=>by simp[HL.un] at h
  | c::d::cs,[],x,h=>by simp[HL.un] at h
  | c::d::cs,v::vs,x,h=>by simp only[HL.un] at h;split at h;rename_i a b ha hb;cases h;simp only[HL.mk,Cell.mq ha,HL.mq hb];cases h
inductive iF where
  | one (c:Cell)
  | agg (cs:List Cell)
  | lK
abbrev dl:List iF:=[.one .slice]
abbrev dm:List iF:=[.one .i]
abbrev dp:List iF:=[.one .bool]
abbrev dq:List iF:=[.one .slice,.one .i]
abbrev dr:List iF:=[.one .i,.one .i]
abbrev dt:List iF:=[.one .b,.one .slice,.one .i]
abbrev du:List iF:=[.one .slice,.one .slice]
abbrev dv:List iF:=[.one (.w)]
abbrev dw:List iF:=[.one .any]
abbrev dx:List iF:=[.one .u,.one .i]
abbrev dy:List iF:=[.one .u]
abbrev dz:List iF:=[.one .i,.one .bool]
abbrev dK:List iF:=[.one .ptr]
abbrev dL:List iF:=[.one .ptr,.one .ptr]
abbrev dM:List iF:=[.one .u,.one .bool]
abbrev dN:List iF:=[.lK,.one .i]
abbrev dO:List iF:=[.one (.w),.one (.w),.one .bool]
abbrev dP:List iF:=[.one .ptr,.one .i]
abbrev dQ:List iF:=[.one .slice,.one .slice,.one .bool]
abbrev dR:List iF:=[.one .u,.one .slice,.one .i]
abbrev dT:Sl:=⟨none,0,0⟩
@[reducible] def iF.El:iF->Type
  | .one c=>c.El
  | .agg cs=>HL cs
  | .lK=>List IL
def iF.mk:(t:iF)->t.El->IL
  | .one c,x=>c.mk x
  | .agg cs,x=>.agg (HL.mk cs x).toArray
  | .lK,x=>.agg x.toArray
def iF.un:(t:iF)->IL->Option t.El
  | .one c,v=>c.un v
  | .agg cs,.agg vs=>HL.un cs vs.toList
  | .lK,.agg vs=>some vs.toList
  | .agg _,_=>none
  | .lK,_=>none
def iF.mq{t:iF}{v:IL}{x:t.El}(h:t.un v=some x):t.mk x=v:=by
  cases t with
  | one c=>exact Cell.mq h
  | agg cs=>
    cases v<;>simp only[iF.un] at h<;>first
      | cases h
      | (simp only[iF.mk,HL.mq h])
  | lK=>
    cases v<;>simp only[iF.un] at h<;>first
      | (cases h;done)
      | (cases h;simp only[iF.mk])
@[reducible] def jw:List iF->Type
  | []=>Unit
  | [t]=>t.El
  | t::u::ts=>t.El×jw (u::ts)
def jw.vals:(ts:List iF)->jw ts->List IL
  | [],_=>[]
  | [t],x=>[t.mk x]
  | t::u::ts,x=>t.mk x.1::jw.vals (u::ts) x.2
def gz:(ts:List iF)->jw ts->IL
  | [],_=>.tuple #[]
  | [t],x=>t.mk x
  | t::u::ts,x=>.tuple (jw.vals (t::u::ts) x).toArray
abbrev Env:=List (Nat×IL)
def Env.get:Env->Nat->Option IL
  | [],_=>none
  | (k,v)::r,t=>bif Nat.beq k t then some v else Env.get r t
def Env.ev (e:Env):Operand->Option IL
  | .tmp t=>e.get t
  | .const v=>some v
  | .global g=>some (.pointer (some (dk g)))
  | .func f=>some (.func (.func f) #[] #[])
def Env.put (e:Env) (dst:Option Tmp) (v:IL):Env:=
  match dst with
  | some d=>(d,v)::e
  | none=>e
def Env.qA (e:Env):List Operand->Option (List IL)
  | []=>some []
  | x::xs=>match e.ev x,e.qA xs with
    | some v,some vs=>some (v::vs)
    | _,_=>none
abbrev Live:=List (Nat×iF)
@[reducible] def tF (l:Live):Type:=jw (l.map (·.2))
def qX:(l:Live)->tF l->Env
  | [],_=>[]
  | [(t,y)],x=>[(t,y.mk x)]
  | (t,y)::p::r,x=>(t,y.mk x.1)::qX (p::r) x.2
def pp:(l:Live)->Env->Option (tF l)
  | [],_=>some ()
  | [(t,y)],e=>match e.get t with|some v=>y.un v|none=>none
  | (t,y)::p::r,e=>
    match e.get t with
    | some v=>match y.un v with
      | some x=>match pp (p::r) e with
        | some z=>some (x,z)
        | none=>none
      | none=>none
    | none=>none
def jH (w:IK) (a:Addr):Nat->List IL->Prop
  | _,[]=>True
  | i,[v]=>w.cell? (a.add i)=some v
  | i,v::vs=>w.cell? (a.add i)=some v/\jH w a (i+1) vs
structure mu where
  ld:(c:Cell)->Addr->IK->(c.El->Prop)->Prop
  dX:(cs:List Cell)->Addr->IK->(HL cs->Prop)->Prop
  jg:Nat->Addr->IK->(List IL->Prop)->Prop
  oe:(c:Cell)->List IL->Nat->(c.El->Prop)->Prop
  jF:(cs:List Cell)->List IL->Nat->(HL cs->Prop)->Prop
  fP:IM->IK->(Nat->IK->Prop)->Prop
  st:Addr->List IL->IK->(IK->Prop)->Prop
  new:Obj->IK->(Nat->IK->Prop)->Prop
  idx:Sl->Int->Nat->(Addr->Prop)->Prop
  jG:ByteArray->Int->(Int->Prop)->Prop
  jR:(c:Cell)->Nat->List IL->Int->(c.El->Prop)->Prop
  fM:Sl->Option Int->Option Int->Option Int->Nat->(Sl->Prop)->Prop
  jY:ByteArray->Option Int->Option Int->(ByteArray->Prop)->Prop
  jz:Addr->Nat->Option Int->Option Int->Option Int->Nat->(Sl->Prop)->Prop
  mM:IM->List IL->Nat->Nat->Int->Int->IK->(Sl->IK->Prop)->Prop
  iH:Prop->Prop->Prop
  call:FuncId->List IL->(ts:List iF)->IK->(jw ts->IK->Prop)->Prop
  eJ:IL->List IL->(ts:List iF)->IK->(jw ts->IK->Prop)->Prop
  inv:IL->String->List IL->(ts:List iF)->IK->(jw ts->IK->Prop)->Prop
  run:(ts:List iF)->Result IL->(jw ts->IK->Prop)->Prop
  fG:(ts:List iF)->(IK->Result IL)->IK->(jw ts->Prop)->Prop
  js:Result Unit->(IK->Prop)->Prop
  join:(S:Type)->((S->IK->Prop)->Prop)->(S->IK->Prop)->Prop
  loop:(S:Type)->((S->IK->Prop)->S->IK->Prop)->S->IK->Prop
  held:List (IK->Prop)->IK->Prop->Prop
  ext:FuncId->List IL->(ts:List iF)->IK->(jw ts->IK->Prop)->Prop
  kz:IL->(pts:List iF)->(jw pts->(IK->(IK->Prop)->Prop)->(IK->Prop)->(Nat->IK->Prop)->IK->Prop)->(Nat->IK->Prop)->List (Nat->IK->Prop)->IK->Prop
  eC:Nat->IK->(IK->Prop)->Prop
  nK:Sl->Nat->(Addr->Prop)->Prop
  nE:Result IL->(IK->Prop)->(IL->IL->IK->Prop)->Prop
  nQ:Result IL->(IL->IL->IK->Prop)->Prop
def cellOf:IL->Cell
  | .int k _=>.int k
  | .bool _=>.bool
  | .string _=>.str
  | .pointer _=>.ptr
  | .slice _ _ _=>.slice
  | .map _=>.map
  | _=>.any
def pD (P:IN) (t:IM):iF:=
  match (P.info? t).bind (·.zero) with
  | some (.agg cs)=>bif Nat.ble cs.size 16 then .agg (cs.toList.map cellOf) else .lK
  | some v=>.one (cellOf v)
  | none=>.one .any
def ph (P:IN) (t:IM):List iF:=
  match P.underlying t with
  | some (.tuple ts)=>ts.toList.map (pD P)
  | _=>[pD P t]
def fB (P:IN) (t:IM):Bool:=
  match P.underlying t with
  | some (.struct _)|some (.array _ _)=>true
  | _=>false
def fh (P:IN) (t:IM):Nat:=((P.info? t).map (·.size)).getD 0
def mP (e:Env):Option Operand->Option (Option Int)
  | none=>some none
  | some x=>match e.ev x with
    | some (.int _ n)=>some (some n)
    | _=>none
def mU:Operand->Bool
  | .const (.int _ n)=>n != 0
  | _=>false
def mQ:Operand->Bool
  | .const (.int _ n)=>decide (0<=n)
  | _=>false
def tc (n:Nat):Operand->Option Nat
  | .const (.int _ i)=>if 0<=i/\i<(n:Int) then some i.toNat else none
  | _=>none
def rG (size:Nat) (len:Nat) (zero:List IL) (parts:List (Nat×IL)):Option (Array IL):=
  Instr.fill (λi=>some (i*size,size)) ((Array.range (len*size)).map (zero.toArray[·%zero.toArray.size]!)) parts
def mh (e:Env):List (Nat×Operand)->Option (List (Nat×IL))
  | []=>some []
  | (i,x)::r=>match e.ev x,mh e r with
    | some v,some vs=>some ((i,v)::vs)
    | _,_=>none
inductive Cls where
  | pure | read | zz
  deriving DecidableEq
def i6 (P:IN) (f:FuncId):Bool:=match P.funcs[f]? with|some fn=>fn.body.isNone||(fn.name== "runtime.NumGoroutine")|none=>true
def nV (P:IN) (t:IM):Bool:=(P.info? t).isSome&&(P.underlying t).isSome
def vP (P:IN) (t:IM):Bool:=
  match P.underlying t with
  | some (.int _)|some .bool|some .string=>true
  | _=>false
def zp (P:IN) (t:IM):Bool:=match P.underlying t with|some (.map _ _)=>true|_=>false
def uC (P:IN) (t:IM):Bool:=match P.underlying t with|some (.slice _)=>true|_=>false
def xv (P:IN) (t:IM):Bool:=match P.underlying t with|some .string=>true|_=>false
def t7 (P:IN) (t:IM):Bool:=match P.underlying t with|some (.int _)=>true|_=>false
def Gv (P:IN) (t:IM):Bool:=match P.underlying t with|some (.array _ _)=>true|_=>false
def jp:Operand->Bool
  | .const (.pointer none)=>true
  | .const (.slice none _ _)=>true
  | .const (.map none)=>true
  | .const .nilIface=>true
  | .const .nilFunc=>true
  | _=>false
def AV (P:IN):Op->Cls
  | .move _ | .assign _ | .pick .. | .nilCheck _ | .unOp .. | .extract .. | .field .. | .fieldAddr .. | .makeInterface .. | .makeFunc .. | .build ..
  | .indexAddr .. | .index .. | .slice .. | .sliceToArrayPointer ..=>.pure
  | .binOp op t x y _=>
    match op with
    | .eql | .neq=>if vP P t||jp x||jp y then .pure else .read
    | _=>.pure
  | .convert s d _=>if t7 P s&&t7 P d then .pure else if uC P s&&xv P d then .read else .zz
  | .load .. | .typeAssert ..=>.read
  | .lookup ..=>.read
  | .call { callee:=.builtin .len,argTypes,.. }=>if zp P (argTypes.getD 0 0) then .read else .pure
  | .call { callee:=.builtin .cap,.. } | .call { callee:=.builtin .min,.. } | .call { callee:=.builtin .max,.. }=>.pure
  | _=>.zz
def sL (op:BinOp) (k:IntKind) (a b:Int):Option IL:=
  match op with
  | .add=>some (.int k (k.wrap (a+b)))
  | .sub=>some (.int k (k.wrap (a-b)))
  | .mul=>some (.int k (k.wrap (a*b)))
  | .and=>some (.int k (bits .and k a b))
  | .or=>some (.int k (bits .or k a b))
  | .xor=>some (.int k (bits .xor k a b))
  | .andNot=>some (.int k (bits .andNot k a b))
  | .eql=>some (.bool (a==b))
  | .neq=>some (.bool (a != b))
  | .lss=>some (.bool (decide (a<b)))
  | .leq=>some (.bool (decide (a<=b)))
  | .gtr=>some (.bool (decide (a>b)))
  | .geq=>some (.bool (decide (a>=b)))
  | _=>none
def sI (op:BinOp) (a b:ByteArray):Option IL:=
  match op with
  | .lss=>some (.bool (Op.bytesLess a.toList b.toList))
  | .leq=>some (.bool (Op.bytesLess a.toList b.toList||a.toList==b.toList))
  | .gtr=>some (.bool (!(Op.bytesLess a.toList b.toList||a.toList==b.toList)))
  | .geq=>some (.bool (!Op.bytesLess a.toList b.toList))
  | _=>none
def isIface:IL->Bool
  | .nilIface=>true
  | .iface _ _=>true
  | _=>false
def qO:IL->Bool
  | .nilIface=>true
  | _=>false
def vK:IL->Bool
  | .nilFunc=>true
  | .func _ _ _=>true
  | _=>false
def qW:IL->Bool
  | .nilFunc=>true
  | _=>false
def td (C:mu) (P:IN) (t:IM) (v u:IL) (K:Bool->Prop):Prop:=
  match P.underlying t with
  | some (.pointer _)=>match v,u with | .pointer p,.pointer none=>K p.isNone|_,_=>False
  | some (.slice _)=>match v,u with | .slice a _ _,.slice none _ _=>K a.isNone|_,_=>False
  | some (.map _ _)=>match v,u with | .map r,.map none=>K r.isNone|_,_=>False
  | some (.interface _)=>match u with | .nilIface=>C.iH (isIface v=true) (K (qO v))|_=>False
  | some (.func _ _ _)=>match u with | .nilFunc=>C.iH (vK v=true) (K (qW v))|_=>False
  | _=>False
def wh (C:mu) (P:IN) (t:IM) (x y:Operand) (e:Env) (K:Bool->Prop):Prop:=
  match e.ev x,e.ev y with
  | some a,some b=>
    bif jp y then td C P t a b K else bif jp x then td C P t b a K else
    match a,b with
    | .int k a,.int j b=>bif k==j then K (a==b) else False
    | .bool a,.bool b=>match P.underlying t with|some .bool=>K (a==b)|_=>False
    | .string a,.string b=>K (a.toList==b.toList)
    | _,_=>False
  | _,_=>False
def gV (C:mu) (P:IN) (o:Oper) (e:Env) (w:IK) (K:IL->Prop):Prop:=
  match o.op with
  | .move x=>match e.ev x with|some v=>K v|none=>False
  | .assign x=>match e.ev x with|some v=>K v|none=>False
  | .nilCheck x=>
    match e.ev x with
    | some (.pointer p)=>match p with
      | some a=>K (.pointer (some a))
      | none=>False
    | _=>False
  | .pick c a b=>
    match e.ev c,e.ev a,e.ev b with
    | some (.bool t),some x,some y=>match t with|true=>K x|false=>K y
    | _,_,_=>False
  | .binOp .quo t x y yt=>
      match e.ev x,e.ev y with
      | some (.int k a),some (.int j b)=>bif k==j then (bif mU y then K (.int k (k.wrap (a.tdiv b))) else C.iH (b≠0) (K (.int k (k.wrap (a.tdiv b))))) else False
      | _,_=>False
  | .binOp .rem t x y yt=>
      match e.ev x,e.ev y with
      | some (.int k a),some (.int j b)=>bif k==j then (bif mU y then K (.int k (a.tmod b)) else C.iH (b≠0) (K (.int k (a.tmod b)))) else False
      | _,_=>False
  | .binOp .shl t x y yt=>
      match e.ev x,e.ev y with
      | some (.int k a),some (.int _ b)=>bif mQ y then K (.int k (k.wrap (a*2^min b.toNat k.bits))) else C.iH (0<=b) (K (.int k (k.wrap (a*2^min b.toNat k.bits))))
      | _,_=>False
  | .binOp .shr t x y yt=>
      match e.ev x,e.ev y with
      | some (.int k a),some (.int _ b)=>bif mQ y then K (.int k (a.fdiv (2^min b.toNat k.bits))) else C.iH (0<=b) (K (.int k (a.fdiv (2^min b.toNat k.bits))))
      | _,_=>False
  | .binOp .eql t x y _=>wh C P t x y e (λr=>K (.bool r))
  | .binOp .neq t x y _=>wh C P t x y e (λr=>K (.bool (!r)))
  | .binOp op t x y _=>
    match e.ev x,e.ev y with
    | some (.int k a),some (.int j b)=>bif k==j then (match sL op k a b with|some v=>K v|none=>False) else False
    | some (.string a),some (.string b)=>match op with
      | .add=>C.iH (((a.size+b.size:Nat):Int)<=IntKind.i64.max) (K (.string (a++b)))
      | op=>match sI op a b with|some v=>K v|none=>False
    | _,_=>False
  | .unOp op _ x=>
    match e.ev x with
    | some (.int k n)=>match op with
      | .neg=>K (.int k (k.wrap (0-n)))
      | .xor=>K (.int k (bits .xor k (if k.signed then -1 else k.max) n))
      | _=>False
    | some (.bool b)=>match op with
      | .not=>K (.bool (!b))
      | _=>False
    | _=>False
  | .convert s d x=>
    match P.underlying s,e.ev x with
    | some _,some (.int _ n)=>match P.underlying d with
      | some (.int k)=>K (.int k (k.wrap n))
      | _=>False
    | _,_=>False
  | .extract x i=>
    match e.ev x with
    | some (.tuple vs)=>match vs.toList[i]? with|some v=>K v|none=>False
    | _=>False
  | .field t x f=>
    match P.underlying t,e.ev x with
    | some (.struct fs),some (.agg cs)=>match fs[f]? with
      | some fd=>bif !nV P fd.type then False else match pD P t with
       | .lK=>match pD P fd.type with
         | .one c=>bif fB P fd.type then False else C.oe c cs.toList fd.offset (λy=>K (c.mk y))
         | .agg cl=>bif fB P fd.type&&Nat.beq (fh P fd.type) cl.length then C.jF cl cs.toList fd.offset (λy=>K (.agg (HL.mk cl y).toArray)) else False
         | .lK=>bif fB P fd.type then K (.agg (cs.toList.extract fd.offset (fd.offset+fh P fd.type)).toArray) else False
       | _=>bif fB P fd.type then K (.agg (cs.toList.extract fd.offset (fd.offset+fh P fd.type)).toArray) else match cs.toList[fd.offset]? with
        | some v=>K v
        | none=>False
      | none=>False
    | _,_=>False
  | .fieldAddr t x f=>
    match P.underlying t with
    | some (.struct fs)=>match fs[f]? with
      | some fd=>bif Nat.beq (fh P fd.type) 0 then False else match e.ev x with
        | some (.pointer p)=>match p with
          | some a=>K (.pointer (some (a.add fd.offset)))
          | none=>False
        | _=>False
      | none=>False
    | _=>False
  | .makeInterface t x=>
    match P.underlying t,e.ev x with
    | some (.interface _),_=>False
    | some _,some v=>K (.iface t v)
    | _,_=>False
  | .makeFunc fn first cap=>
    match e.qA first.toList,e.qA cap.toList with
    | some f,some c=>K (.func fn f.toArray c.toArray)
    | _,_=>False
  | .build t parts=>
    match mh e parts.toList with
    | some vs=>match pD P t with
      | .lK=>C.fG [.lK] (λw'=>(Instr.build t vs.toArray).run P w') w (λy=>K (.agg y.toArray))
      | _=>match (Instr.build t vs.toArray).run P w with
        | .ok v _=>K v
        | .halt _ _=>False
    | none=>False
  | .indexAddr t x ix=>
    match P.underlying t with
    | some (.slice el)=>bif !nV P el then False else match e.ev x,e.ev ix with
      | some (.slice a l c),some (.int _ i)=>C.idx ⟨a,l,c⟩ i (fh P el) (λad=>K (.pointer (some ad)))
      | _,_=>False
    | some (.array n el)=>bif !nV P el then False else match e.ev x with
      | some (.pointer (some a))=>match tc n ix with
        | some i=>K (.pointer (some (a.add (i*fh P el))))
        | none=>match e.ev ix with
          | some (.int _ i)=>C.iH (0<=i/\i<(n:Int)) (K (.pointer (some (a.add (i.toNat*fh P el)))))
          | _=>False
      | _=>False
    | _=>False
  | .sliceToArrayPointer t x=>
    match P.underlying t with
    | some (.array n _)=>match e.ev x with
      | some (.slice a l c)=>C.nK ⟨a,l,c⟩ n (λad=>K (.pointer (some ad)))
      | _=>False
    | _=>False
  | .index t x ix=>
    match P.underlying t with
    | some .string=>match e.ev x,e.ev ix with
      | some (.string s),some (.int _ i)=>C.jG s i (λb=>K (.int .u8 b))
      | _,_=>False
    | some (.array n el)=>match e.ev x,e.ev ix with
      | some (.agg cs),some (.int _ i)=>
        match pD P el with
        | .one c=>bif fB P el||!(Nat.beq (fh P el) 1)||!nV P el then False else C.jR c n cs.toList i (λy=>K (c.mk y))
        | .agg cl=>bif !(fB P el)||!(Nat.beq (fh P el) cl.length)||!nV P el then False else C.iH (0<=i/\i<(n:Int)) (C.jF cl cs.toList (i.toNat*cl.length) λy=>K (.agg (HL.mk cl y).toArray))
        | .lK=>False
      | _,_=>False
    | _=>False
  | .slice t x lo hi mx=>
    bif mx.isSome&&hi.isNone then False else
    match mP e lo,mP e hi,mP e mx with
    | some l,some h,some m=>
      match P.underlying t with
      | some (.slice el)=>bif !nV P el then False else match e.ev x with
        | some (.slice a n c)=>C.fM ⟨a,n,c⟩ l h m (fh P el) (λs=>K (.slice s.a s.len s.cap))
        | _=>False
      | some .string=>match e.ev x,m with
        | some (.string s),none=>C.jY s l h (λr=>K (.string r))
        | _,_=>False
      | some (.array n el)=>bif !nV P el then False else match e.ev x with
        | some (.pointer (some a))=>C.jz a n l h m (fh P el) (λs=>K (.slice s.a s.len s.cap))
        | _=>False
      | _=>False
    | _,_,_=>False
  | .call { callee:=.builtin b,argTypes,args }=>
    match b with
    | .len=>match (argTypes[0]?).bind P.underlying,e.qA args.toList with
      | some (.slice _),some [.slice _ n _]=>K (.int .i64 n)
      | some .string,some [.string s]=>K (.int .i64 s.size)
      | some (.array n _),some [_]=>K (.int .i64 n)
      | _,_=>False
    | .cap=>match (argTypes[0]?).bind P.underlying,e.qA args.toList with
      | some (.slice _),some [.slice _ _ c]=>K (.int .i64 c)
      | _,_=>False
    | .min=>match e.qA args.toList with
      | some [.int k x,.int _ y]=>K (.int k (if y<x then y else x))
      | _=>False
    | .max=>match e.qA args.toList with
      | some [.int k x,.int _ y]=>K (.int k (if y>x then y else x))
      | _=>False
    | _=>False
  | _=>False
def mJ (C:mu) (P:IN) (o:Oper) (e:Env) (w:IK) (K:IL->(IK->Prop)->Prop):Prop:=
  match o.op with
  | .load t x=>
    match e.ev x with
    | some (.pointer p)=>match p with
      | some a=>
        match pD P t with
        | .one c=>bif !nV P t then False else bif fB P t then False else C.ld c a w (λy=>K (c.mk y) λw'=>w'.cell? a=some (c.mk y))
        | .agg cs=>bif fB P t&&Nat.beq (fh P t) cs.length then C.dX cs a w (λy=>K (.agg (HL.mk cs y).toArray) λw'=>jH w' a 0 (HL.mk cs y)) else False
        | .lK=>bif fB P t then C.jg (fh P t) a w (λy=>K (.agg y.toArray) λw'=>jH w' a 0 y) else False
      | none=>False
    | _=>False
  | .lookup t m k ok=>
    match e.ev m,e.ev k with
    | some vm,some vk=>C.fG (ph P o.type) (λw'=>(Instr.lookup t vm vk ok).run P w') w (λy=>K (gz _ y) λw'=>(Instr.lookup t vm vk ok).run P w'=.ok (gz _ y) w')
    | _,_=>False
  | .typeAssert x xt as0 ok=>
    match e.ev x with
    | some v=>C.fG (ph P o.type) (λw'=>(Instr.typeAssert v xt as0 ok).run P w') w (λy=>K (gz _ y) λw'=>(Instr.typeAssert v xt as0 ok).run P w'=.ok (gz _ y) w')
    | none=>False
  | .binOp op t x y _=>
    match e.ev x,e.ev y with
    | some a,some b=>C.fG dp (λw'=>(do eqGuard op t x y a b;binOp op t a b:Sem IL).run P w') w (λr=>K (.bool r) λw'=>(do eqGuard op t x y a b;binOp op t a b:Sem IL).run P w'=.ok (.bool r) w')
    | _,_=>False
  | .convert s d x=>
    match e.ev x with
    | some v=>C.fG [.one .str] (λw'=>(convert s d v).run P w') w (λr=>K (.string r) λw'=>(convert s d v).run P w'=.ok (.string r) w')
    | none=>False
  | .call { callee:=.builtin .len,argTypes,args }=>
    match e.qA args.toList with
    | some vs=>C.fG [.one (.int .i64)] (λw'=>(Builtin.len_ argTypes o.type vs.toArray).run P w') w (λr=>K (.int .i64 r) λw'=>(Builtin.len_ argTypes o.type vs.toArray).run P w'=.ok (.int .i64 r) w')
    | none=>False
  | _=>False
def jx (C:mu) (P:IN) (o:Oper) (e:Env) (w:IK) (K:IL->IK->Prop):Prop:=
  match o.op with
  | .store t x y=>
    match e.ev y with
    | some v=>match e.ev x with
      | some (.pointer p)=>match p with
        | some a=>match pD P t with
          | .lK=>bif nV P t then C.iH (v.cells.toList.length=fh P t) (C.st a v.cells.toList w λw'=>K undef w') else False
          | _=>bif nV P t&&Nat.beq (fh P t) v.cells.size then C.st a v.cells.toList w (λw'=>K undef w') else False
        | none=>False
      | _=>False
    | none=>False
  | .alloc t=>
    match pD P t with
    | .lK=>C.fP t w (λb w'=>K (.pointer (some (dk b))) w')
    | _=>match (P.info? t).bind (·.zero) with
      | some z=>C.new (.cells z.cells t) w (λb w'=>K (.pointer (some (dk b))) w')
      | none=>False
  | .box t x=>
    match e.ev x with
    | some v=>C.new (.cells v.cells t) w (λb w'=>K (.pointer (some (dk b))) w')
    | none=>False
  | .buildSlice t len parts=>
    match P.underlying t with
    | some (.slice el)=>
      match (P.info? el).bind (·.zero),mh e parts.toList with
      | some z,some vs=>bif Nat.blt (2^24) (len*fh P el) then False else match pD P el with
       | .lK=>match len,vs with
         | 1,[(0,v)]=>C.iH (v.cells.toList.length=fh P el) (C.new (.cells v.cells el) w λb w'=>K (.slice (some (dk b)) 1 1) w')
         | 0,[]=>C.new (.cells #[] el) w (λb w'=>K (.slice (some (dk b)) 0 0) w')
         | _,_=>False
       | _=>match rG (fh P el) len (bif Nat.beq (len*fh P el) 0 then [] else z.cells.toList) vs with
        | some cells=>C.new (.cells cells el) w (λb w'=>K (.slice (some (dk b)) len len) w')
        | none=>False
      | _,_=>False
    | _=>False
  | .makeSlice t l c=>
    match P.underlying t with
    | some (.slice el)=>
      match P.info? el,e.ev l,e.ev c with
      | some i,some (.int _ n),some (.int _ m)=>
        match i.zero with
        | some z=>C.mM el z.cells.toList i.size i.bytes n m w (λs w'=>K (.slice s.a s.len s.cap) w')
        | none=>False
      | _,_,_=>False
    | _=>False
  | .makeMap t r=>
    match P.underlying t with
    | some (.map _ _)=>match mP e r with
      | some _=>C.new (.map #[] 0) w (λb w'=>K (.map (some b)) w')
      | none=>False
    | _=>False
  | .mapUpdate t m k x=>
    match e.ev m,e.ev k,e.ev x with
    | some a,some b,some c=>C.js ((Instr.mapUpdate t a b c).run P w) (λw'=>K undef w')
    | _,_,_=>False
  | .insert t m k x=>
    match e.ev m,e.ev k,e.ev x with
    | some a,some b,some c=>C.js ((Instr.mapUpdate t a b c).run P w) (λw'=>K undef w')
    | _,_,_=>False
  | .range t x=>
    match e.ev x with
    | some v=>C.run dw ((Instr.range t v).run P w) (λy w'=>K y w')
    | none=>False
  | .next it s=>
    match e.ev it with
    | some v=>C.nE ((Instr.next v s o.type).run P w) (λw'=>K (.tuple #[.bool false]) w') (λx y w'=>K (.tuple #[.bool true,x,y]) w')
    | none=>False
  | .entry it=>
    match e.ev it with
    | some v=>C.nQ ((Instr.entry v).run P w) (λx y w'=>K (.tuple #[x,y]) w')
    | none=>False
  | .convert s d x=>
    match e.ev x with
    | some v=>C.run (ph P o.type) ((convert s d v).run P w) (λy w'=>K (gz _ y) w')
    | none=>False
  | .call { callee:=.builtin b,argTypes,args }=>
    match e.qA args.toList with
    | some vs=>
      match b with
      | .append=>C.run dl ((Builtin.append_ argTypes o.type vs.toArray).run P w) (λy w'=>K (.slice y.a y.len y.cap) w')
      | .copy=>C.run [.one (.int .i64)] ((Builtin.copy_ argTypes o.type vs.toArray).run P w) (λy w'=>K (.int .i64 y) w')
      | .delete=>C.run [] ((Builtin.delete_ argTypes o.type vs.toArray).run P w) (λ_ w'=>K (.tuple #[]) w')
      | .clear=>C.run [] ((Builtin.clear_ argTypes o.type vs.toArray).run P w) (λ_ w'=>K (.tuple #[]) w')
      | _=>False
    | none=>False
  | .call { callee:=.value (.func f),args,.. }=>
    match e.qA args.toList with
    | some vs=>bif i6 P f then C.ext f vs (ph P o.type) w (λy w'=>K (gz _ y) w') else C.call f vs (ph P o.type) w (λy w'=>K (gz _ y) w')
    | none=>False
  | .call { callee:=.value x,args,.. }=>
    match e.ev x,e.qA args.toList with
    | some v,some vs=>C.eJ v vs (ph P o.type) w (λy w'=>K (gz _ y) w')
    | _,_=>False
  | .call { callee:=.invoke x name,args,.. }=>
    match e.ev x,e.qA args.toList with
    | some v,some vs=>C.inv v name vs (ph P o.type) w (λy w'=>K (gz _ y) w')
    | _,_=>False
  | _=>False
def ym (C:mu) (P:IN) (o:Oper) (e:Env) (w:IK) (K:IL->IK->Prop):Prop:=
  match AV P o.op with
  | .pure=>gV C P o e w (λv=>K v w)
  | .read=>mJ C P o e w (λv _=>K v w)
  | .zz=>jx C P o e w K
def guarded (ops:List Oper) (o:Oper) (e:Env) (yes no:Env->Prop):Prop:=
  match o.guard with
  | none=>yes e
  | some (j,want)=>
    match (ops[j]?).bind (·.dst) with
    | none=>False
    | some d=>
      match e.get d with
      | some (.bool b)=>
        match b with
        | true=>match want with
          | true=>yes ((d,.bool true)::e)
          | false=>no ((d,.bool true)::e)
        | false=>match want with
          | true=>no ((d,.bool false)::e)
          | false=>yes ((d,.bool false)::e)
      | some (.tuple _)=>no e
      | _=>False
def rf (C:mu) (P:IN) (ops:List Oper) (K:Env->IK->Prop):List Oper->Env->IK->Prop
  | [],e,w=>K e w
  | o::rest,e,w=>
    guarded ops o e
      (λe'=>ym C P o e' w λv w'=>rf C P ops K rest (e'.put o.dst v) w')
      (λe'=>rf C P ops K rest (e'.put o.dst undef) w)
abbrev Holds:=List (Nat×(IK->Prop))
def pN (ops:List Oper):Array Nat:=Region.before ops.toArray
def fN (b:Array Nat) (x:Nat) (H:Holds):List (IK->Prop):=(H.filter λp=>!(b.getD x 0).testBit p.1).map (·.2)
def k6 (C:mu) (P:IN) (ops:List Oper) (b:Array Nat) (K:Env->IK->Prop):IS->Holds->Env->IK->Prop
  | [],_,e,w=>K e w
  | i::rest,H,e,w=>
    match ops[i]? with
    | none=>False
    | some o=>
      guarded ops o e
        (λe'=>
          match AV P o.op with
          | .pure=>gV C P o e' w (λv=>k6 C P ops b K rest H (e'.put o.dst v) w)
          | .read=>mJ C P o e' w (λv h=>k6 C P ops b K rest ((i,h)::H) (e'.put o.dst v) w)
          | .zz=>jx C P o e' w (λv w'=>
              match fN b i H with
              | []=>k6 C P ops b K rest H (e'.put o.dst v) w'
              | l=>C.held l w' (k6 C P ops b K rest H (e'.put o.dst v) w')))
        (λe'=>k6 C P ops b K rest H (e'.put o.dst undef) w)
def pM (C:mu) (P:IN) (ops:List Oper) (b:Array Nat) (K:Env->IK->Prop):List (IS)->Env->IK->Prop
  | [],_,_=>True
  | [ord],e,w=>k6 C P ops b K ord [] e w
  | ord::more,e,w=>k6 C P ops b K ord [] e w/\pM C P ops b K more e w
inductive PC where
  | skip
  | region (id:Nat) (ops:List Oper)
  | draw (id:Nat) (ops:List Oper) (orders:List (IS))
  | seq (a b:PC)
  | join (live:Live) (a b:PC)
  | cond (c:Operand) (t e:PC)
  | block (id:Nat) (body:PC)
  | loop (live:Live) (body:PC)
  | exit (id:Nat)
  | ret
  | kz (g:Operand) (ps:List Tmp) (pts:List iF) (assign body:PC)
  | other (c:Code)
def PC.erase:PC->Code
  | .skip=>.skip
  | .region id ops=>.region id ops.toArray false
  | .draw id ops _=>.region id ops.toArray true
  | .seq a b=>.seq a.erase b.erase
  | .join _ a b=>.seq a.erase b.erase
  | .cond c t e=>.cond c t.erase e.erase
  | .block id b=>.block id b.erase
  | .loop _ b=>.loop b.erase
  | .exit id=>.exit id
  | .ret=>.ret
  | .kz g ps _ x y=>.rangeFunc g ps.toArray x.erase y.erase
  | .other c=>c
inductive vH where
  | n
  | j (live:Live)
  | l (live:Live)
  | o (orders:List (IS))
  | r (pts:List iF)
def aS:List (Nat×vH)->List vH
  | []=>[]
  | (k,a)::r=>.replicate k .n++a::aS r
def nN (k:Nat):List vH:=.replicate k .n
def jO:Code->List vH->PC×List vH
  | .skip,as0=>(.skip,as0)
  | .region id ops draw,as0=>
    match draw with
    | false=>(.region id ops.toList,as0)
    | true=>match as0 with
      | .o ords::r=>(.draw id ops.toList ords,r)
      | .n::r=>(.draw id ops.toList [List.range ops.size],r)
      | []=>(.draw id ops.toList [List.range ops.size],[])
      | _=>(.other (.region id ops true),as0)
  | .seq a b,as0=>
    match as0 with
    | .j live::r=>
      let x:=jO a r
      let y:=jO b x.2
      (.join live x.1 y.1,y.2)
    | .n::r=>
      let x:=jO a r
      let y:=jO b x.2
      (.seq x.1 y.1,y.2)
    | []=>
      let x:=jO a []
      let y:=jO b x.2
      (.seq x.1 y.1,y.2)
    | _=>(.other (.seq a b),as0)
  | .cond c t f,as0=>
    let x:=jO t as0
    let y:=jO f x.2
    (.cond c x.1 y.1,y.2)
  | .block id b,as0=>
    let x:=jO b as0
    (.block id x.1,x.2)
  | .loop b,as0=>
    match as0 with
    | .l live::r=>
      let x:=jO b r
      (.loop live x.1,x.2)
    | _=>(.other (.loop b),as0)
  | .exit id,as0=>(.exit id,as0)
  | .ret,as0=>(.ret,as0)
  | .rangeFunc g ps x y,as0=>
    match as0 with
    | .r pts::r=>
      let u:=jO x r
      let v:=jO y u.2
      (.kz g ps.toList pts u.1 v.1,v.2)
    | _=>(.other (.rangeFunc g ps x y),as0)
  | c,as0=>(.other c,as0)
def qE (ops:List Oper) (t:Nat):Bool:=ops.any λo=>match o.dst with|some d=>Nat.beq d t|none=>false
def PC.wr:PC->Nat->Bool
  | .skip,_=>false
  | .region _ ops,t=>qE ops t
  | .draw _ ops _,t=>qE ops t
  | .seq a b,t=>a.wr t||b.wr t
  | .join _ a b,t=>a.wr t||b.wr t
  | .cond _ a b,t=>a.wr t||b.wr t
  | .block _ b,t=>b.wr t
  | .loop _ b,t=>b.wr t
  | .exit _,_=>false
  | .ret,_=>false
  | .kz ..,_=>true
  | .other _,_=>true
def Env.kH (e:Env) (wr:Nat->Bool):Env:=
  match e with
  | []=>[]
  | (t,v)::r=>bif wr t then Env.kH r wr else (t,v)::Env.kH r wr
inductive jm where
  | normal | exit (id:Nat) | ret
abbrev og:=jm->Env->IK->Prop
def og.j6 (Q:og) (K:Env->IK->Prop):og:=λx e w=>
  match x with
  | .normal=>K e w
  | x=>Q x e w
def PC.pt (C:mu) (P:IN):PC->og->Env->IK->Prop
  | .skip,Q,e,w=>Q .normal e w
  | .region _ ops,Q,e,w=>rf C P ops (Q .normal) ops e w
  | .draw _ ops orders,Q,e,w=>pM C P ops (pN ops) (Q .normal) orders e w.drew
  | .seq a b,Q,e,w=>a.pt C P (Q.j6 λe' w'=>b.pt C P Q e' w') e w
  | .join live a b,Q,e,w=>
    C.join (tF live)
      (λX=>a.pt C P (Q.j6 λe' w'=>match pp live e' with|some s=>X s w'|none=>False) e w)
      (λs w'=>b.pt C P Q (qX live s++e.kH λt=>a.wr t) w')
  | .cond c t f,Q,e,w=>
    match e.ev c with
    | some (.bool b)=>match b with
      | true=>t.pt C P Q e w
      | false=>f.pt C P Q e w
    | _=>False
  | .block id body,Q,e,w=>
    body.pt C P (λx e' w'=>match x with
      | .exit j=>bif Nat.beq j id then Q .normal e' w' else Q (.exit j) e' w'
      | x=>Q x e' w') e w
  | .loop live body,Q,e,w=>
    match pp live e with
    | some s0=>
      C.loop (tF live)
        (λX s w'=>body.pt C P (Q.j6 λe' w''=>match pp live e' with|some s'=>X s' w''|none=>False) (qX live s++e.kH λt=>body.wr t) w')
        s0 w
    | none=>False
  | .exit id,Q,e,w=>Q (.exit id) e w
  | .ret,Q,e,w=>Q .ret e w
  | .kz ..,_,_,_=>False
  | .other _,_,_,_=>False
def PC.outs:PC->List jm
  | .skip | .region .. | .draw .. | .other _ | .kz ..=>[]
  | .seq a b | .join _ a b | .cond _ a b=>a.outs++b.outs
  | .block id b=>b.outs.filter λx=>match x with | .exit j=>!(Nat.beq j id)|_=>true
  | .loop _ b=>b.outs
  | .exit id=>[.exit id]
  | .ret=>[.ret]
def jm.same:jm->jm->Bool
  | .normal,.normal=>true
  | .ret,.ret=>true
  | .exit i,.exit j=>Nat.beq i j
  | _,_=>false
def rS (x:jm):List jm->Nat->Option Nat
  | [],_=>none
  | y::r,i=>bif x.same y then some i else rS x r (i+1)
def qT:Env->List Tmp->List IL->Env
  | e,t::ts,v::vs=>qT ((t,v)::e) ts vs
  | e,_,_=>e
def oo (C:mu) (P:IN) (x y:PC) (ps:List Tmp) (pts:List iF) (e:Env):jw pts->(IK->(IK->Prop)->Prop)->(IK->Prop)->(Nat->IK->Prop)->IK->Prop:=
  λu beg N J w'=>x.pt C P (λz e' w1=>match z with
    | .normal=>beg w1 (λw2=>y.pt C P (λz e'' w3=>match z with
        | .normal=>N w3
        | z=>match rS z y.outs 0 with|some i=>J i w3|none=>False) e' w2)
    | _=>False) (qT e ps (jw.vals pts u)) w'
def PC.AY (C:mu) (P:IN):PC->(Option Nat->og)->Option Nat->Env->IK->Prop
  | .seq a b,Q,m,e,w=>a.AY C P (λm' x e' w'=>match x with | .normal=>b.AY C P Q m' e' w'|x=>Q m' x e' w') m e w
  | .block id body,Q,m,e,w=>body.AY C P (λm' x e' w'=>match x with
      | .exit j=>bif Nat.beq j id then Q m' .normal e' w' else Q m' (.exit j) e' w'
      | x=>Q m' x e' w') m e w
  | .kz g ps pts x y,Q,m,e,w=>
    match m with
    | some _=>False
    | none=>match e.ev g with
      | none=>False
      | some v=>
        C.kz v pts (oo C P x y ps pts e)
          (λD w'=>Q (some D) .normal e w') (y.outs.map λz=>λD w'=>Q (some D) z e w') w
  | c,Q,m,e,w=>c.pt C P (Q m) e w
def lR (C:mu) (P:IN):List ResultVar->Env->IK->(List IL->Prop)->Prop
  | [],_,_,K=>K []
  | .tmp t::r,e,w,K=>
    match e.get t with
    | some v=>lR C P r e w (λvs=>K (v::vs))
    | none=>False
  | .cell a t::r,e,w,K=>
    match e.get a with
    | some (.pointer (some ad))=>
      match pD P t with
      | .one c=>bif !nV P t then False else bif fB P t then False else C.ld c ad w (λy=>lR C P r e w λvs=>K (c.mk y::vs))
      | .agg cs=>bif fB P t&&Nat.beq (fh P t) cs.length then C.dX cs ad w (λy=>lR C P r e w λvs=>K (.agg (HL.mk cs y).toArray::vs)) else False
      | .lK=>bif fB P t then C.jg (fh P t) ad w (λy=>lR C P r e w λvs=>K (.agg y.toArray::vs)) else False
    | _=>False
def oneOf:List IL->IL
  | [v]=>v
  | vs=>.tuple vs.toArray
def mC:Nat->List IL->Env
  | _,[]=>[]
  | i,v::r=>(i,v)::mC (i+1) r
def xq (C:mu) (P:IN) (rvs:List ResultVar) (c:PC) (args:List IL) (Q:IL->IK->Prop) (w:IK):Prop:=
  c.pt C P (λx e w'=>match x with
    | .normal=>lR C P rvs e w' (λvs=>Q (oneOf vs) w')
    | .ret=>lR C P rvs e w' (λvs=>Q (oneOf vs) w')
    | .exit _=>False) (mC 0 args) w
def lq:(ts:List iF)->IL->Option (jw ts)
  | [],.tuple _=>some ()
  | [],_=>none
  | [t],v=>t.un v
  | t::u::ts,.tuple vs=>unVals (t::u::ts) vs.toList
  | _::_::_,_=>none
where
  unVals:(ts:List iF)->List IL->Option (jw ts)
  | [],[]=>some ()
  | [t],[v]=>t.un v
  | t::u::ts,v::vs=>
    match t.un v with
    | some x=>match unVals (u::ts) vs with
      | some y=>some (x,y)
      | none=>none
    | none=>none
  | _,_=>none
def wP (C:mu) (m:Option Nat) (w:IK) (K:IK->Prop):Prop:=match m with|none=>K w|some D=>C.eC D w K
def uB (C:mu) (P:IN) (fn:Func) (as0:List vH) (ts:List iF) (args:List IL) (K:jw ts->IK->Prop) (w:IK):Prop:=
  match fn.body with
  | some c=>(jO c as0).1.AY C P (λm x e w'=>match x with
      | .exit _=>False
      | _=>wP C m w' λw2=>lR C P fn.results.toList e w2 λvs=>match lq ts (oneOf vs) with|some x=>K x w2|none=>False) none (mC 0 args) w
  | none=>False
def xi (C:mu) (P:IN) (fn:Func) (as0:List vH) (ts:List iF) (args:List IL) (K:jw ts->IK->Prop) (w:IK):Prop:=
  match fn.body with
  | some c=>xq C P fn.results.toList (jO c as0).1 args (λv w'=>match lq ts v with|some x=>K x w'|none=>False) w
  | none=>False
def ld (c:Cell) (a:Addr) (w:IK) (K:c.El->Prop):Prop:=∃x:c.El,w.cell? a=some (c.mk x)/\K x
def dX (cs:List Cell) (a:Addr) (w:IK) (K:HL cs->Prop):Prop:=∃x:HL cs,jH w a 0 (HL.mk cs x)/\K x
def jg (n:Nat) (a:Addr) (w:IK) (K:List IL->Prop):Prop:=∃x:List IL,(x.length=n/\jH w a 0 x)/\K x
def oe (c:Cell) (vs:List IL) (off:Nat) (K:c.El->Prop):Prop:=∃x:c.El,vs[off]?=some (c.mk x)/\K x
def jF (cs:List Cell) (vs:List IL) (off:Nat) (K:HL cs->Prop):Prop:=∃x:HL cs,vs.extract off (off+cs.length)=HL.mk cs x/\K x
def EE (a:Addr):Nat->List IL->IK->(WP)->Prop
 | _,[],w,K=>K w
 | i,v::vs,w,K=>(v.oneCell'=true/\(∃u,w.cell? (a.add i)=some u)/\w.frozen? (a.add i)=false)/\EE a (i+1) vs (w.setCell (a.add i) v) K
def st (a:Addr) (vs:List IL) (w:IK) (K:WP):Prop:=EE a 0 vs w K
def new (o:Obj) (w:IK) (K:Nat->WP):Prop:=K w.heap.size (w.alloc o)
abbrev Ii(a:Array Go.Value)(t:Go.TypeId)(w:Go.World)(k:Nat->Go.World->Prop):Prop:=new (.cells a t) w k
def fP (P:IN) (t:IM) (w:IK) (K:Nat->WP):Prop:=∃z,(P.info? t).bind (·.zero)=some z/\K w.heap.size (w.alloc (.cells z.cells t))
def idx (s:Sl) (i:Int) (size:Nat) (K:Addr->Prop):Prop:=∃a,s.a=some a/\(0<=i/\i<(s.len:Int))/\K (a.add (i.toNat*size))
def nK (s:Sl) (n:Nat) (K:Addr->Prop):Prop:=∃a,s.a=some a/\n<=s.len/\K a
def jG (s:ByteArray) (i:Int) (K:Int->Prop):Prop:=∃b:UInt8,(0<=i/\s[i.toNat]?=some b)/\K (b.toNat:Int)
def jR (c:Cell) (n:Nat) (cs:List IL) (i:Int) (K:c.El->Prop):Prop:=∃x:c.El,(0<=i/\i<(n:Int)/\cs[i.toNat]?=some (c.mk x))/\K x
def fM (s:Sl) (lo hi mx:Option Int) (size:Nat) (K:Sl->Prop):Prop:=
 (0<=lo.getD 0/\lo.getD 0<=hi.getD s.len/\hi.getD s.len<=mx.getD s.cap/\mx.getD s.cap<=s.cap)/\
 K ⟨if (mx.getD s.cap).toNat=(lo.getD 0).toNat then s.a else s.a.map (·.add ((lo.getD 0).toNat*size)),(hi.getD s.len).toNat-(lo.getD 0).toNat,(mx.getD s.cap).toNat-(lo.getD 0).toNat⟩
def jY (s:ByteArray) (lo hi:Option Int) (K:ByteArray->Prop):Prop:=
 (0<=lo.getD 0/\lo.getD 0<=hi.getD s.size/\hi.getD s.size<=s.size)/\K (s.extract (lo.getD 0).toNat (hi.getD s.size).toNat)
def jz (a:Addr) (n:Nat) (lo hi mx:Option Int) (size:Nat) (K:Sl->Prop):Prop:=
 (0<=lo.getD 0/\lo.getD 0<=hi.getD n/\hi.getD n<=mx.getD n/\mx.getD n<=n)/\
 K ⟨some (if (mx.getD n).toNat=(lo.getD 0).toNat then a else a.add ((lo.getD 0).toNat*size)),(hi.getD n).toNat-(lo.getD 0).toNat,(mx.getD n).toNat-(lo.getD 0).toNat⟩
def iL (zero:List IL) (c:Nat):Array IL:=(Array.range c).map λi=>zero.toArray[i%zero.toArray.size]!
def mM (el:IM) (zero:List IL) (size bytes:Nat) (l c:Int) (w:IK) (K:Sl->WP):Prop:=
 (0<=l/\l<=c/\(bytes:Int)*c<=2^48/\c<=2^48)/\K ⟨some ⟨w.heap.size,0,none⟩,l.toNat,c.toNat⟩ (w.alloc (.cells (iL (if c.toNat*size=0 then [] else zero) (c.toNat*size)) el))
def iH (p K:Prop):Prop:=p/\K
def nn (p:Option Addr) (K:Addr->Prop):Prop:=match p with|some a=>K a|none=>False
def call (P:IN) (f:FuncId) (args:List IL) (ts:List iF) (w:IK) (K:jw ts->WP):Prop:=
 Calls P f args.toArray w λe w'=>∃x:jw ts,e=.returned (gz ts x)/\K x w'
def Wd (r:Option Nat):Fence:={ Fence.wide with round:=r }
def eJ (P:IN) (v:IL) (args:List IL) (ts:List iF) (w:IK) (K:jw ts->WP):Prop:=
 (∃(f:FuncId) (vs:List IL),(do let d <- Deferred.ofValue v args.toArray;invoke d.target d.args:Sem Next).run P w=.ok (.enter f vs.toArray) w/\call P f vs ts w K)\/
 (∃(l f:Nat) (tmps:Array IL) (assign body:Code),(do let d <- Deferred.ofValue v args.toArray;invoke d.target d.args:Sem Next).run P w=.ok (.round l f tmps assign body) w/\
  RoundIn (Wd none) 0 P l f tmps assign body w λe w'=>∃x:jw ts,e=.returned (gz ts x)/\K x w')
def ext (P:IN) (f:FuncId) (args:List IL) (ts:List iF) (w:IK) (K:jw ts->WP):Prop:=
 ∃(x:jw ts) (w':IK),(callFunc f args.toArray).run P w=.ok (.value (gz ts x)) w'/\K x w'
def eC (D:Nat) (w:IK) (K:WP):Prop:=w.heap[D]?=some (.deferred (some []))/\K (w.putObj D (.deferred none))
def pY (P:IN) (pts:List iF) (body:jw pts->(IK->(WP)->Prop)->(WP)->(Nat->WP)->WP) (l:Nat) (R B:Obj) (J:Nat->Obj):Prop:=
 ∀(x:jw pts) (W:IK) (K:Bool->WP),W.heap[l]?=some R->
  body x (λW1 k=>W1.heap[l]?=some R/\k (W1.putObj l B)) (λW'=>W'.heap[l]?=some B/\K true (W'.putObj l R)) (λi W'=>W'.heap[l]?=some B/\K false (W'.putObj l (J i))) W->
  eJ P (.func (.yield l) #[] #[]) (jw.vals pts x) dp W K
def kz (P:IN) (v:IL) (pts:List iF) (body:jw pts->(IK->(WP)->Prop)->(WP)->(Nat->WP)->WP) (done:Nat->WP) (jumps:List (Nat->WP)) (w:IK):Prop:=
 ∃(f:FuncId) (lb:List IL),v=.func (.func f) #[] lb.toArray/\i6 P f=false/\
 ∀(R B:Obj) (J E:Nat->Obj) (E0:Obj),pY P pts body (w.heap.size+1) R B J->
  call P f (.func (.yield (w.heap.size+1)) #[] #[]::lb) [] ((w.alloc (.deferred (some []))).alloc R) (λ_ W=>
   (W.heap[w.heap.size+1]?=some R/\done w.heap.size (W.putObj (w.heap.size+1) E0))\/
   ∃i k,jumps[i]?=some k/\W.heap[w.heap.size+1]?=some (J i)/\k w.heap.size (W.putObj (w.heap.size+1) (E i)))
def inv (P:IN) (v:IL) (name:String) (args:List IL) (ts:List iF) (w:IK) (K:jw ts->WP):Prop:=
 ∃(f:FuncId) (vs:List IL),(callMethod v name args.toArray).run P w=.ok (.enter f vs.toArray) w/\call P f vs ts w K
def run (ts:List iF) (r:Result IL) (K:jw ts->WP):Prop:=∃x w',r=.ok (gz ts x) w'/\K x w'
def fG (ts:List iF) (r:IK->Result IL) (w:IK) (K:jw ts->Prop):Prop:=∃x,r w=.ok (gz ts x) w/\K x
def js (r:Result Unit) (K:WP):Prop:=∃w',r=.ok () w'/\K w'
def join (S:Type) (X:(S->WP)->Prop) (Y:S->WP):Prop:=∃Mid:S->WP,X Mid/\∀s w,Mid s w->Y s w
def loop (S:Type) (B:(S->WP)->S->WP) (s:S) (w:IK):Prop:=∀I:S->WP,(∀s w,B I s w->I s w)->I s w
def qY:List (WP)->WP
 | [],_=>True
 | [h],w=>h w
 | h::t,w=>h w/\qY t w
def held (l:List (WP)) (w:IK) (K:Prop):Prop:=qY l w/\K
def nE (r:Result IL) (Ke:WP) (Ks:IL->IL->WP):Prop:=
 (∃w',r=.ok (.tuple #[.bool false]) w'/\Ke w')\/∃k v w',r=.ok (.tuple #[.bool true,k,v]) w'/\Ks k v w'
def nQ (r:Result IL) (K:IL->IL->WP):Prop:=∃k v w',r=.ok (.tuple #[k,v]) w'/\K k v w'
def nm (P:IN):mu where
 ld:=ld
 dX:=dX
 jg:=jg
 oe:=oe
 jF:=jF
 fP:=fP P
 st:=st
 new:=new
 idx:=idx
 jG:=jG
 jR:=jR
 fM:=fM
 jY:=jY
 jz:=jz
 mM:=mM
 iH:=iH
 call:=call P
 eJ:=eJ P
 inv:=inv P
 run:=run
 fG:=fG
 js:=js
 join:=join
 loop:=loop
 held:=held
 ext:=ext P
 kz:=kz P
 eC:=eC
 nK:=nK
 nE:=nE
 nQ:=nQ
def qlU:∀ {l:List (WP)} {w:IK},qY l w->∀h∈l,h w
 | [],_,_,_,hm=>by cases hm
 | [x],_,hh,h,hm=>by simp at hm;subst hm;exact hh
 | x::y::t,w,hh,h,hm=>by rcases zG.1 hm with rfl|hm;exact hh.1;exact qlU (l:=y::t) hh.2 h hm
structure Rel (n:Nat) (ds:List Deferred) (e:Env) (a:Act):Prop where
 size:a.tmps.size=n
 defers:a.defers=ds
 get:∀ t v,e.get t=some v->a.tmps.getD t undef=v
def Rel.ev{n:Nat}{ds:List Deferred}{e:Env}{a:Act}(h:Rel n ds e a){x:Operand}{v:IL}(hx:e.ev x=some v):a.eval x=v:=by
 cases x with
 | tmp t=>exact h.get t v hx
 | const u=>simpa[Env.ev,Act.eval] using hx
 | global g=>simpa[Env.ev,Act.eval] using hx
 | func f=>simpa[Env.ev,Act.eval] using hx
def Rel.qA{n:Nat}{ds:List Deferred}{e:Env}{a:Act}(h:Rel n ds e a):∀ {xs:List Operand} {vs:List IL},e.qA xs=some vs->xs.map a.eval=vs
 | [],vs,hx=>by simp[Env.qA] at hx;subst hx;rfl
 | x::xs,vs,hx=>by simp only[Env.qA] at hx;split at hx;rename_i v us h1 h2;cases hx;simp[h.ev h1,h.qA h2];cases hx
def Rel.j7{n:Nat}{e:Env}{a:Act}(h:Rel n ds e a){xs:Array Operand}{vs:List IL}(hx:e.qA xs.toList=some vs):xs.map a.eval=vs.toArray:=by
 have:=h.qA hx;apply Array.ext';simpa using this
def Env.kC(e:Env)(d t:Nat)(v:IL):Env.get ((d,v)::e) t=if d=t then some v else e.get t:=by
 simp only[Env.get];by_cases h:d=t;subst h;simp;have:Nat.beq d t=false:=by cases hb:Nat.beq d t;rfl;exact absurd (yW hb) h
 simp[this,h]
def Rel.put{n:Nat}{ds:List Deferred}{e:Env}{a:Act}(h:Rel n ds e a){dst:Option Tmp}(hd:∀d,dst=some d->d<n)(v:IL):Rel n ds (e.put dst v) (a.put dst v):=by
 cases dst with
 | none=>exact h
 | some d=>
  refine⟨by simp[Act.put,h.size],by simp[Act.put,h.defers],λt u hu=>?_⟩;simp only[Env.put,Env.kC] at hu;by_cases hdt:d=t;subst hdt;simp at hu;subst hu;have:=hd d rfl;have hs:=h.size;simp[Act.put,hs,this];simp[hdt] at hu;have:=h.get t u hu;simpa[Act.put,Array.getElem?_setIfInBounds_ne hdt] using this
def EQ{n:Nat}{e:Env}{a:Act}(h:Rel n ds e a){x:Option Operand}{r:Option Int}(hx:mP e x=some r): (x=none/\r=none)\/∃y k i,x=some y/\r=some i/\a.eval y=.int k i:=by
 cases x with
 | none=>simp[mP] at hx;exact .inl ⟨rfl,hx.symm⟩
 | some y=>
  simp only[mP] at hx;split at hx;rename_i k i he;cases hx;exact .inr ⟨y,k,i,rfl,rfl,h.ev he⟩;cases hx
def fk {α:Type}:Sem α->Prop
 | .pure _=>True
 | .program k=>∀p,fk (k p)
 | .mark _ k=>fk k
 | .halt _=>True
 | _=>False
def fk.run{α:Type}{P:IN}{s:Sem α}(h:fk s)(w w' w1:IK)(v:α)(hr:s.run P w=.ok v w1):w1=w/\s.run P w'=.ok v w':=by
 induction s with
 | pure a=>simp[Sem.run] at hr⊢;exact⟨hr.2.symm,hr.1⟩
 | program k ih=>exact ih P (h P) hr
 | mark m k ih=>exact ih h hr
 | halt x=>simp[Sem.run] at hr
 | _=>exact h.elim
def fk.bind{α β:Type}{s:Sem α}{f:α->Sem β}(h:fk s)(hf:∀a,fk (f a)):fk (s >>=f):=by
 show fk (Sem.bind s f);induction s with
 | pure a=>exact hf a
 | program k ih=>exact λp=>ih p (h p)
 | mark m k ih=>exact ih h
 | halt x=>trivial
 | _=>exact h.elim
def fk.pure{α:Type}(a:α):fk (Pure.pure a:Sem α):=trivial
def fk.stuck{α:Type}(s:String):fk (Go.stuck s:Sem α):=trivial
def fk.BR{α:Type}(s:Unsupported):fk (Go.unsupported s:Sem α):=trivial
def fk.rK:fk Go.program:=λ_=>trivial
def fk.underlying(t:IM):fk (Go.underlying t):=by unfold Go.underlying;exact .bind .rK λp=>by split<;>first|exact .pure _|exact .stuck _
def fk.typeInfo(t:IM):fk (Go.typeInfo t):=by unfold Go.typeInfo;exact .bind .rK λp=>by split<;>first|exact .pure _|exact .stuck _
def fk.zeroValue(t:IM):fk (Go.zeroValue t):=by unfold Go.zeroValue;exact .bind (.typeInfo t) λp=>by split<;>first|exact .pure _|exact .BR _
def fk.sizeOf(t:IM):fk (Go.sizeOf t):=.bind (.typeInfo t) λ_=>.pure _
def fk.mapM{α β:Type}{f:α->Sem β}(hf:∀a,fk (f a))(xs:Array α):fk (xs.mapM f):=by
 rw[Array.mapM_eq_mapM_toList];have:∀l:List α,fk (l.mapM f):=by
  intro l;induction l with
  | nil=>simp only[List.mapM_nil];exact .pure _
  | cons a l ih=>simp only[List.mapM_cons];exact .bind (hf a) λb=>.bind ih λbs=>.pure _
 exact fk.bind (this _) λ_=>.pure _
def fk.build(t:IM)(ps:Array (Nat×IL)):fk (Instr.build t ps):=by
 unfold Instr.build;refine .bind (.zeroValue t) λz=>.bind (.underlying t) λd=>?_;split
 ·refine .bind (.mapM (λf=>.bind (.sizeOf _) λ_=>.pure _) _) λpl=>?_;split<;>first|exact .pure _|exact .stuck _
 ·refine .bind (.sizeOf _) λs=>?_;split<;>first|exact .pure _|exact .stuck _
 exact .stuck _
section
variable {P:IN} {n:Nat} {ds:List Deferred} {e:Env} {a:Act} {o:Oper} {w:IK}
def Gi{i:TypeInfo}(h:P.info? t=some i)(w:IK):(typeInfo t).run P w=.ok i w:=by simp[typeInfo,h]
def rr(h:(P.info? t).isSome=true)(w:IK):(sizeOf t).run P w=.ok (fh P t) w:=by
 cases hi:P.info? t with
 | none=>simp[hi] at h
 | some i=>simp[sizeOf,fh,Gi hi,hi]
def v9{z:IL}(h:(P.info? t).bind (·.zero)=some z)(w:IK):(zeroValue t).run P w=.ok z w:=by
 cases hi:P.info? t with
 | none=>simp[hi] at h
 | some i=>
  simp[hi] at h;simp[zeroValue,Gi hi,h]
def Do{j k:IntKind}(h:(j==k)=true):j=k:=by simpa using h
def wG(h:(P.underlying t).isSome=true)(w:IK):(isAgg t).run P w=.ok (fB P t) w:=by
 cases hd:P.underlying t with
 | none=>simp[hd] at h
 | some d=>cases d<;>simp[isAgg,fB,run_underlying hd,hd]
def ws(h:fB P t=true):(P.underlying t).isSome=true:=by unfold fB at h;split at h<;>simp_all
def uJ (neg:Bool):BinOp:=if neg then .neq else .eql
def qfY(h:jp y=true):∃u,y=.const u:=by unfold jp at h;split at h<;>first|exact⟨_,rfl⟩|cases h
def t6{v u:IL}{r:Bool}(neg:Bool)(hr:(Op.equalIn 10000 t v u).run P w=.ok r w)(h1:∀k i,v≠.int k i)(h2:∀s,v≠.string s)(h3:∀k i,v≠.float k i)(h4:∀k i j,v≠.complex k i j): (binOp (uJ neg) t v u).run P w=.ok (.bool (if neg then !r else r)) w:=by
 have he:(Op.equal t v u).run P w=.ok r w:=hr;cases neg<;>cases v<;>simp only[uJ,if_true,if_false,Bool.false_eq_true]<;>
  first
   | exact absurd rfl (h1 _ _)
   | exact absurd rfl (h2 _)
   | exact absurd rfl (h3 _ _)
   | exact absurd rfl (h4 _ _ _)
   | (simp only[binOp];simp[he])
def qjB{x:Operand}{c u v:IL}{op:BinOp}(hv:∀cs,v≠.agg cs):eqGuard op t x (.const c) u v=pure ():=by
 cases op<;>cases u<;>cases v<;>first
  | rfl
  | exact absurd rfl (hv _)
  | (cases x<;>rfl)
def qj9{c u v:IL}{op:BinOp}(hv:∀cs,v≠.agg cs):eqGuard op t (.const c) y u v=pure ():=by
 cases op<;>cases u<;>cases v<;>first
  | rfl
  | exact absurd rfl (hv _)
def qrB{t d:Nat}(D:Nat)(hd:P.underlying t=some (.pointer d))(p:Option Addr)(w:IK): (Op.equalIn (D+1) t (.pointer p) (.pointer none)).run P w=.ok p.isNone w/\(Op.equalIn (D+1) t (.pointer none) (.pointer p)).run P w=.ok p.isNone w:=by cases p<;>constructor<;>simp[Op.equalIn,run_underlying hd]
def qnu{t d:Nat}(D:Nat)(hd:P.underlying t=some (.slice d))(p:Option Addr)(i j k l:Nat)(w:IK): (Op.equalIn (D+1) t (.slice p i j) (.slice none k l)).run P w=.ok p.isNone w/\(Op.equalIn (D+1) t (.slice none k l) (.slice p i j)).run P w=.ok p.isNone w:=by cases p<;>constructor<;>simp[Op.equalIn,run_underlying hd]
def qrA{t d1 d2:Nat}(D:Nat)(hd:P.underlying t=some (.map d1 d2))(p:Option Nat)(w:IK): (Op.equalIn (D+1) t (.map p) (.map none)).run P w=.ok p.isNone w/\(Op.equalIn (D+1) t (.map none) (.map p)).run P w=.ok p.isNone w:=by cases p<;>constructor<;>simp[Op.equalIn,run_underlying hd]
def qnt{t:Nat}{ms}(D:Nat)(hd:P.underlying t=some (.interface ms))(v:IL)(hv:isIface v=true)(w:IK): (Op.equalIn (D+1) t v .nilIface).run P w=.ok (qO v) w/\(Op.equalIn (D+1) t .nilIface v).run P w=.ok (qO v) w:=by cases v<;>simp[isIface] at hv<;>constructor<;>simp[Op.equalIn,run_underlying hd,qO]
def qtQ{t:Nat}{d1 d2 d3}(D:Nat)(hd:P.underlying t=some (.func d1 d2 d3))(v:IL)(hv:vK v=true)(w:IK): (Op.equalIn (D+1) t v .nilFunc).run P w=.ok (qW v) w/\(Op.equalIn (D+1) t .nilFunc v).run P w=.ok (qW v) w:=by cases v<;>simp[vK] at hv<;>constructor<;>simp[Op.equalIn,run_underlying hd,qW]
def qp5{v u:IL}(h:td (nm P) P t v u K): ∃r,K r/\(∀cs,v≠.agg cs)/\(∀cs,u≠.agg cs)/\∀(w:IK) (neg:Bool),(binOp (uJ neg) t v u).run P w=.ok (.bool (if neg then !r else r)) w/\(binOp (uJ neg) t u v).run P w=.ok (.bool (if neg then !r else r)) w:=by
 unfold td at h;split at h;rename_i d hd;split at h;rename_i p;exact⟨_,h,oL,oL,λw neg=>⟨t6 neg (qrB 9999 hd p w).1 oL oL oL oL,t6 neg (qrB 9999 hd p w).2 oL oL oL oL⟩⟩;exact h.elim;rename_i d hd;split at h;rename_i p i j k l;exact⟨_,h,oL,oL,λw neg=>⟨t6 neg (qnu 9999 hd p i j k l w).1 oL oL oL oL,t6 neg (qnu 9999 hd p i j k l w).2 oL oL oL oL⟩⟩;exact h.elim;rename_i d1 d2 hd;split at h;rename_i p;exact⟨_,h,oL,oL,λw neg=>⟨t6 neg (qrA 9999 hd p w).1 oL oL oL oL,t6 neg (qrA 9999 hd p w).2 oL oL oL oL⟩⟩;exact h.elim;rename_i ms hd;split at h;obtain⟨hi,hk⟩:=h;refine⟨_,hk,?_,oL,λw neg=>⟨t6 neg (qnt 9999 hd v hi w).1 ?_ ?_ ?_ ?_,t6 neg (qnt 9999 hd v hi w).2 oL oL oL oL⟩⟩<;>
  (intros;intro hv;subst hv;simp[isIface] at hi)
 exact h.elim;rename_i d1 d2 d3 hd;split at h;obtain⟨hi,hk⟩:=h;refine⟨_,hk,?_,oL,λw neg=>⟨t6 neg (qtQ 9999 hd v hi w).1 ?_ ?_ ?_ ?_,t6 neg (qtQ 9999 hd v hi w).2 oL oL oL oL⟩⟩<;>
  (intros;intro hv;subst hv;simp[vK] at hi)
 exact h.elim;exact h.elim
def qrD{x:Operand}(h:wh (nm P) P t x y e K)(hr:Rel n ds e a): ∃r,K r/\∀(w:IK) (neg:Bool),(do eqGuard (uJ neg) t x y (a.eval x) (a.eval y);binOp (uJ neg) t (a.eval x) (a.eval y):Sem IL).run P w=.ok (.bool (if neg then !r else r)) w:=by
 unfold wh at h;split at h;rename_i va vb hx hy;rw[hr.ev hx,hr.ev hy];cases hny:jp y with
 | true=>
  simp only[hny,cond_true] at h;obtain⟨r,hk,n1,n2,hrun⟩:=qp5 h;obtain⟨c,rfl⟩:=qfY hny;exact⟨r,hk,λw neg=>by rw[qjB n2];exact (hrun w neg).1⟩
 | false=>
  simp only[hny,cond_false] at h;cases hnx:jp x with
  | true=>
   simp only[hnx,cond_true] at h;obtain⟨r,hk,n1,n2,hrun⟩:=qp5 h;obtain⟨c,rfl⟩:=qfY hnx;exact⟨r,hk,λw neg=>by rw[qj9 n1];exact (hrun w neg).2⟩
  | false=>
   simp only[hnx,cond_false] at h;split at h;rename_i k p j q;cases hkj:k==j with
   | true=>
    simp only[hkj,cond_true] at h;obtain rfl:=Do hkj;refine⟨_,h,λw neg=>?_⟩;cases neg<;>simp[uJ,eqGuard_at_int,binOp_eql,binOp_neq,bne]
   | false=>simp only[hkj,cond_false] at h
   rename_i p q;split at h;rename_i hd;refine⟨_,h,λw neg=>?_⟩;cases neg<;>simp[uJ,eqGuard_at_bool,run_eql_bool w t p q hd,run_neq_bool w t p q hd];exact h.elim;rename_i p q;refine⟨_,h,λw neg=>?_⟩;cases neg<;>simp[uJ,eqGuard_at_string,binOp,Op.stringOp];exact h.elim
 exact h.elim
end
end
section
open Go List
variable {K:IL->WP} {N:Act->WP} {Q:Exit->Act->WP} {R:Ending->WP} {S:IS} {T t:IM} {an:List vH} {args vs:List IL} {cs tmps:Array IL} {f:FuncId} {fn:Func} {fr:I1} {guard:Option (Nat×Bool)} {k:IntKind} {listed:Array Bool} {ops:List Oper} {parts ps:Array (Nat×Operand)} {s:Sem IL} {ts:List iF} {w':IK} {z:IL}
variable {P:IN} {n:Nat} {ds:List Deferred} {e:Env} {a:Act} {o:Oper} {w:IK}
def lE{w:IK}{v:IL}(h:s.run P w=.ok v w'):(do pure (Next.value (<- s)):Sem Next).run P w=.ok (.value v) w':=by simp[h]
def qlQ(hr:Rel n ds e a):∀ {ps:List (Nat×Operand)} {vs:List (Nat×IL)},mh e ps=some vs->ps.map (λ(i,x)=>(i,a.eval x))=vs
  | [],vs,h=>by simp[mh] at h;subst h;rfl
  | (i,x)::ps,vs,h=>by simp only[mh] at h;split at h;rename_i v us h1 h2;cases h;simp[hr.ev h1,qlQ hr h2];cases h
def Ca(hr:Rel n ds e a){vs:List (Nat×IL)}(h:mh e ps.toList=some vs): (ps.map λ(i,x)=>(i,a.eval x))=vs.toArray:=by apply Array.ext';simpa using qlQ hr h
def Bd (x:Option IL) (r:Option Int):Prop:=(x=none/\r=none)\/∃k i,x=some (.int k i)/\r=some i
def Bd.of(hr:Rel n ds e a){x:Option Operand}{r:Option Int}(h:mP e x=some r):Bd (x.map a.eval) r:=by rcases EQ hr h with ⟨rfl,rfl⟩|⟨y,k,i,rfl,rfl,hy⟩;exact .inl ⟨rfl,rfl⟩;exact .inr ⟨k,i,by simp[hy],rfl⟩
def Fd{nn cc:Nat}{l h m:Option Int}{lo hi mx:Option IL}(s:Bool)(hl:Bd lo l)(hh:Bd hi h)(hm:Bd mx m)(hmh:(mx.isSome&&hi.isNone)=false)(hb:0<=l.getD 0/\l.getD 0<=h.getD nn/\h.getD nn<=m.getD cc/\m.getD cc<=cc)(w:IK): (Instr.sliceBounds s nn cc lo hi mx).run P w=.ok ((l.getD 0).toNat,(h.getD nn).toNat,(m.getD cc).toNat) w:=by obtain⟨b0,b1,b2,b3⟩:=hb;rcases hm with ⟨rfl,rfl⟩|⟨km,im,rfl,rfl⟩;rcases hh with ⟨rfl,rfl⟩|⟨kh,ih,rfl,rfl⟩;rcases hl with ⟨rfl,rfl⟩|⟨kl,il,rfl,rfl⟩;simp[Instr.sliceBounds];simp at b0 b1 b2 b3;simp[Instr.sliceBounds,Instr.sliceBound,asIntOf,b0,b1];rcases hl with ⟨rfl,rfl⟩|⟨kl,il,rfl,rfl⟩;simp at b0 b1 b2 b3;simp[Instr.sliceBounds,Instr.sliceBound,asIntOf,b1,b2];simp at b0 b1 b2 b3;have:0<=ih:=oJ;have:(ih.toNat:Int)=ih:=oJ;simp[Instr.sliceBounds,Instr.sliceBound,asIntOf, *];rcases hh with ⟨rfl,rfl⟩|⟨kh,ih,rfl,rfl⟩;simp at hmh;rcases hl with ⟨rfl,rfl⟩|⟨kl,il,rfl,rfl⟩;simp at b0 b1 b2 b3;have:0<=im:=oJ;have:(im.toNat:Int)=im:=oJ;simp[Instr.sliceBounds,Instr.sliceBound,asIntOf, *];simp at b0 b1 b2 b3;have:0<=ih:=oJ;have:0<=im:=oJ;have:(ih.toNat:Int)=ih:=oJ;have:(im.toNat:Int)=im:=oJ;simp[Instr.sliceBounds,Instr.sliceBound,asIntOf, *]
def qvc{op:BinOp}{x y:Int}{u v:Operand}{r:IL}(h:sL op k x y=some r)(w:IK): (do eqGuard op t u v (.int k x) (.int k y);binOp op t (.int k x) (.int k y):Sem IL).run P w=.ok r w:=by cases op<;>simp[sL] at h<;>subst h<;>simp[eqGuard_at_int,binOp_add,binOp_sub,binOp_mul,binOp_and,binOp_or,binOp_xor,binOp_andNot,binOp_eql,binOp_neq,binOp_lss,binOp_leq,binOp_gtr,binOp_geq,Op.intArith,intBits_and,intBits_or,intBits_xor,intBits_andNot]
def qvM{op:BinOp}{x y:ByteArray}{u v:Operand}{r:IL}(h:sI op x y=some r)(w:IK): (do eqGuard op t u v (.string x) (.string y);binOp op t (.string x) (.string y):Sem IL).run P w=.ok r w:=by cases op<;>simp[sI] at h<;>subst h<;>simp[eqGuard_at_string,binOp,Op.stringOp]
def qnl{y:Operand}(h:mU y=true){b:Int}(hy:e.ev y=some (.int k b)):b≠0:=by unfold mU at h;split at h;simp[Env.ev] at hy;obtain⟨rfl,rfl⟩:=hy;simpa using h;cases h
def qnk{y:Operand}(h:mQ y=true){b:Int}(hy:e.ev y=some (.int k b)):0<=b:=by unfold mQ at h;split at h;simp[Env.ev] at hy;obtain⟨rfl,rfl⟩:=hy;simpa using h;cases h
def tV(h:(!nV P t)=false):(P.info? t).isSome=true/\(P.underlying t).isSome=true:=by simpa[nV] using h
def BH(h:(!nV P t)=false)(cs:Array IL)(off:Nat)(w:IK): (part t cs off).run P w=if fB P t then .ok (.agg (cs.extract off (off+fh P t))) w else match cs[off]? with|some v=>.ok v w|none=>.halt (.stuck "part: no such cell") w:=by
  obtain⟨h1,h2⟩:=tV h;unfold part;simp only[Iu,wG h2,Iv];cases fB P t with
  | true=>simp[rr h1]
  | false=>cases cs[off]?<;>simp
set_option maxHeartbeats 1000000 in
def qn9{K:IL->Prop}(h:gV (nm P) P o e w K)(hr:Rel n ds e a): ∃v,(∀w',(execOp a.eval o).run P w'=.ok (.value v) w')/\K v:=by
  obtain⟨dst,op,type,pos,after,guard⟩:=o;cases op;case move x=>
    simp only[gV] at h;split at h;rename_i v hv;exact⟨v,λw'=>by simp[execOp,hr.ev hv],h⟩;exact h.elim
  case assign x=>
    simp only[gV] at h;split at h;rename_i v hv;exact⟨v,λw'=>by simp[execOp,hr.ev hv],h⟩;exact h.elim
  case pick c x y=>
    simp only[gV] at h;split at h;rename_i t vx vy hc hx hy;cases t with
    | true=>exact⟨_,λw'=>by simp[execOp,hr.ev hc,hr.ev hx,asBool],h⟩
    | false=>exact⟨_,λw'=>by simp[execOp,hr.ev hc,hr.ev hy,asBool],h⟩
    exact h.elim
  case nilCheck x=>
    simp only[gV] at h;split at h;rename_i p hp;split at h;rename_i ad;exact⟨_,λw'=>by simp[execOp,hr.ev hp],h⟩;exact h.elim;exact h.elim
  case binOp op t x y yt=>
    cases op;case eql=>
      obtain⟨r,hk,hrun⟩:=qrD h hr;exact⟨_,λw'=>lE (by have:=hrun w' false;simpa[uJ] using this),hk⟩
    case neq=>
      obtain⟨r,hk,hrun⟩:=qrD h hr;exact⟨_,λw'=>lE (by have:=hrun w' true;simpa[uJ] using this),hk⟩
    case quo=>
      simp only[gV] at h;split at h;rename_i k p j q hx hy;cases hkj:k==j with
      | true=>
        obtain rfl:=Do hkj;simp only[hkj,cond_true] at h;have hq:q≠0/\K (.int k (k.wrap (p.tdiv q))):=by
          cases hc:mU y with
          | true=>simp only[hc,cond_true] at h;exact⟨qnl hc hy,h⟩
          | false=>simp only[hc,cond_false] at h;exact h
        exact⟨_,λw'=>lE (by rw[hr.ev hx,hr.ev hy];simp[eqGuard_at_int,binOp_quo,Op.intDiv,hq.1]),hq.2⟩
      | false=>simp only[hkj,cond_false] at h
      exact h.elim
    case rem=>
      simp only[gV] at h;split at h;rename_i k p j q hx hy;cases hkj:k==j with
      | true=>
        obtain rfl:=Do hkj;simp only[hkj,cond_true] at h;have hq:q≠0/\K (.int k (p.tmod q)):=by
          cases hc:mU y with
          | true=>simp only[hc,cond_true] at h;exact⟨qnl hc hy,h⟩
          | false=>simp only[hc,cond_false] at h;exact h
        exact⟨_,λw'=>lE (by rw[hr.ev hx,hr.ev hy];simp[eqGuard_at_int,binOp_rem,Op.intDiv,hq.1]),hq.2⟩
      | false=>simp only[hkj,cond_false] at h
      exact h.elim
    case shl=>
      simp only[gV] at h;split at h;rename_i k p j q hx hy;have hq:0<=q/\K (.int k (k.wrap (p*2^min q.toNat k.bits))):=by
        cases hc:mQ y with
        | true=>simp only[hc,cond_true] at h;exact⟨qnk hc hy,h⟩
        | false=>simp only[hc,cond_false] at h;exact h
      exact⟨_,λw'=>lE (by rw[hr.ev hx,hr.ev hy];simp[eqGuard_at_int,binOp_shl,Op.shift,Int.not_lt.2 hq.1]),hq.2⟩;exact h.elim
    case shr=>
      simp only[gV] at h;split at h;rename_i k p j q hx hy;have hq:0<=q/\K (.int k (p.fdiv (2^min q.toNat k.bits))):=by
        cases hc:mQ y with
        | true=>simp only[hc,cond_true] at h;exact⟨qnk hc hy,h⟩
        | false=>simp only[hc,cond_false] at h;exact h
      exact⟨_,λw'=>lE (by rw[hr.ev hx,hr.ev hy];simp[eqGuard_at_int,binOp_shr,Op.shift,Int.not_lt.2 hq.1]),hq.2⟩;exact h.elim
    all_goals
      simp only[gV] at h;split at h;rename_i k p j q hx hy;cases hkj:k==j with
      | true=>
        obtain rfl:=Do hkj;simp only[hkj,cond_true] at h;split at h;rename_i v hv;exact⟨v,λw'=>lE (by rw[hr.ev hx,hr.ev hy];exact qvc hv w'),h⟩;exact h.elim
      | false=>simp only[hkj,cond_false] at h
      · rename_i p q hx hy;first
          | (split at h
             rename_i v hv;exact⟨v,λw'=>lE (by rw[hr.ev hx,hr.ev hy];exact qvM hv w'),h⟩;exact h.elim)
          | (obtain⟨hc,hk⟩:=h
             exact⟨_,λw'=>lE (by rw[hr.ev hx,hr.ev hy];simp only[eqGuard_at_string,binOp,Op.stringOp];rw[iN];rfl),hk⟩)
      exact h.elim
  case unOp op t x=>
    simp only[gV] at h;split at h;rename_i k i hx;split at h;exact⟨_,λw'=>lE (by rw[hr.ev hx];simp[Op.unary,Op.intArith]),h⟩;exact⟨_,λw'=>lE (by rw[hr.ev hx];simp[Op.unary,intBits_xor]),h⟩;exact h.elim;rename_i b hx;split at h;exact⟨_,λw'=>lE (by rw[hr.ev hx];simp[Op.unary]),h⟩;exact h.elim;exact h.elim
  case convert s d x=>
    simp only[gV] at h;split at h;rename_i ds k i hs hx;split at h;rename_i kd hd;exact⟨_,λw'=>lE (by rw[hr.ev hx];simp[convert,run_underlying hs,run_underlying hd,Conv.intToInt]),h⟩;exact h.elim;exact h.elim
  case extract x i=>
    simp only[gV] at h;split at h;rename_i vs hx;split at h;rename_i v hv;exact⟨v,λw'=>lE (by rw[hr.ev hx];simp[Instr.extract,show vs[i]?=some v by simpa using hv]),h⟩;exact h.elim;exact h.elim
  case field t x f=>
    simp only[gV] at h;split at h;rename_i fs cs ht hx;split at h;rename_i fd hf;cases hok:!nV P fd.type with
    | true=>simp only[hok,cond_true] at h
    | false=>
      simp only[hok,cond_false] at h;have whole:fB P fd.type=true->∀vs',cs.toList.extract fd.offset (fd.offset+fh P fd.type)=vs'->∀w',(execOp a.eval ⟨dst,.field t x f,type,pos,after,guard⟩).run P w'=.ok (.value (.agg vs'.toArray)) w':=by intro hag vs' hvs w';refine lE ?_;rw[hr.ev hx];simp[Instr.field,run_underlying ht,hf,asAgg,BH hok,hag];apply Array.ext';simpa using hvs
      have part:fB P fd.type=false->∀v,cs.toList[fd.offset]?=some v->∀w',(execOp a.eval ⟨dst,.field t x f,type,pos,after,guard⟩).run P w'=.ok (.value v) w':=(by intro hag v hv w';refine lE ?_;rw[hr.ev hx];simp[Instr.field,run_underlying ht,hf,asAgg,BH hok,hag,show cs[fd.offset]?=some v by simpa using hv]);have mT:(bif fB P fd.type then K (.agg (cs.toList.extract fd.offset (fd.offset+fh P fd.type)).toArray) else match cs.toList[fd.offset]? with
          | some v=>K v
          | none=>False)->∃v,(∀w',(execOp a.eval ⟨dst,.field t x f,type,pos,after,guard⟩).run P w'=.ok (.value v) w')/\K v:=by
        intro h;cases hag:fB P fd.type with
        | true=>
          simp only[hag,cond_true] at h;exact⟨_,whole hag _ rfl,h⟩
        | false=>
          simp only[hag,cond_false] at h;split at h;rename_i v hv;exact⟨v,part hag v hv,h⟩;exact h.elim
      split at h;split at h;rename_i c _;cases hag:fB P fd.type with
      | true=>simp only[hag,cond_true] at h
      | false=>
        simp only[hag,cond_false] at h;obtain⟨y,hy,hk⟩:=h;exact⟨_,part hag _ hy,hk⟩
      rename_i cl _;cases hg:fB P fd.type&&Nat.beq (fh P fd.type) cl.length with
      | false=>simp only[hg,cond_false] at h
      | true=>
        simp only[hg,cond_true] at h;simp only[yA] at hg;obtain⟨y,hy,hk⟩:=h;have hsz:=yW hg.2;exact⟨_,whole hg.1 _ (by rw[hsz];exact hy),hk⟩
      cases hag:fB P fd.type with
      | true=>
        simp only[hag,cond_true] at h;exact⟨_,whole hag _ rfl,h⟩
      | false=>simp only[hag,cond_false] at h
      exact mT h
    exact h.elim;exact h.elim
  case fieldAddr t x f=>
    simp only[gV] at h;split at h;rename_i fs ht;split at h;rename_i fd hf;cases hz:Nat.beq (fh P fd.type) 0 with
    | true=>simp only[hz,cond_true] at h
    | false=>
      simp only[hz,cond_false] at h;split at h;rename_i p hx;split at h;rename_i ad;have hs:(P.info? fd.type).isSome=true:=by
        cases hi:P.info? fd.type with
        | none=>simp[fh,hi] at hz
        | some i=>rfl
      have hn:fh P fd.type≠0:=λh0=>by simp[h0] at hz
      refine⟨_,λw'=>lE ?_,h⟩;rw[hr.ev hx];simp[Instr.fieldAt,run_underlying ht,hf,Instr.sureAddr,fieldPlace,rr hs,hn];exact h.elim;exact h.elim
    exact h.elim;exact h.elim
  case makeInterface t x=>
    simp only[gV] at h;split at h;exact h.elim
    · rename_i d v hni hd hx;refine⟨_,λw'=>lE ?_,h⟩;rw[hr.ev hx];simp only[Instr.makeInterface,Iu,run_underlying hd,Iv];first
        | rfl
        | (split
           rename_i ms;exact (hni ms rfl).elim;rfl)
    exact h.elim
  case makeFunc fn first cap=>
    simp only[gV] at h;split at h;rename_i f c hf hc;exact⟨_,λw'=>lE (by rw[hr.j7 hf,hr.j7 hc];simp[Instr.makeFunc]),h⟩;exact h.elim
  case build t parts=>
    simp only[gV] at h;split at h;rename_i vs hv;split at h;obtain⟨y,hy,hk⟩:=h;exact⟨_,λw'=>lE (by rw[Ca hr hv];exact ((fk.build t _).run w w' w _ hy).2),hk⟩;split at h;rename_i v w1 hrun;exact⟨v,λw'=>lE (by rw[Ca hr hv];exact ((fk.build t _).run w w' w1 v hrun).2),h⟩;exact h.elim;exact h.elim
  case sliceToArrayPointer t x=>
    simp only[gV] at h;split at h;rename_i len el ht;split at h;rename_i sa l c hx;obtain⟨ad,hsa,hb,hk⟩:=h;simp only at hsa hb;subst hsa;refine⟨_,λw'=>lE ?_,hk⟩;rw[hr.ev hx];simp[Instr.arrayAt,run_underlying ht,Nat.not_lt.2 hb];exact h.elim;exact h.elim
  case indexAddr t x ix=>
    simp only[gV] at h;split at h;rename_i el ht;cases hok:!nV P el with
    | true=>simp only[hok,cond_true] at h
    | false=>
      simp only[hok,cond_false] at h;obtain⟨hi1,hi2⟩:=tV hok;split at h;rename_i sa l c k i hx hi;obtain⟨ad,hsa,hb,hk⟩:=h;simp only at hsa hb;subst hsa;refine⟨_,λw'=>lE ?_,hk⟩;rw[hr.ev hx,hr.ev hi];simp[Instr.indexAt,asIntOf,run_underlying ht,hb,rr hi1];exact h.elim
    rename_i len el ht;cases hok:!nV P el with
    | true=>simp only[hok,cond_true] at h
    | false=>
      simp only[hok,cond_false] at h;obtain⟨hi1,hi2⟩:=tV hok;split at h;rename_i ad hx;split at h;rename_i i hc;refine⟨_,λw'=>lE ?_,h⟩;unfold tc at hc;split at hc;rename_i k j;split at hc;rename_i hb;cases hc;rw[hr.ev hx];simp[Act.eval,Instr.indexAt,asIntOf,run_underlying ht,Instr.sureAddr,hb,rr hi1];cases hc;cases hc;split at h;rename_i k j hi;obtain⟨hb,hk⟩:=h;refine⟨_,λw'=>lE ?_,hk⟩;rw[hr.ev hx,hr.ev hi];simp[Instr.indexAt,asIntOf,run_underlying ht,Instr.sureAddr,hb,rr hi1];exact h.elim;exact h.elim
    exact h.elim
  case index t x ix=>
    simp only[gV] at h;split at h;rename_i ht;split at h;rename_i s k i hx hi;obtain⟨b,⟨h0,hb⟩,hk⟩:=h;refine⟨_,λw'=>lE ?_,hk⟩;rw[hr.ev hx,hr.ev hi];simp[Instr.index,asIntOf,run_underlying ht,h0,hb];exact h.elim;rename_i len el ht;split at h;rename_i cs k i hx hi;split at h;rename_i c hc;cases hg:fB P el||!(Nat.beq (fh P el) 1)||!nV P el with
    | true=>simp only[hg,cond_true] at h
    | false=>
      simp only[hg,cond_false] at h;simp only[ID] at hg;obtain⟨⟨g1,g2⟩,g3⟩:=hg;have g2':fh P el=1:=yW (oP g2);obtain⟨y,⟨h0,h1,hy⟩,hk⟩:=h;obtain⟨hi1,hi2⟩:=tV g3;refine⟨_,λw'=>lE ?_,hk⟩;rw[hr.ev hx,hr.ev hi];have hy':cs[i.toNat]?=some (c.mk y):=(oP hy);simp[Instr.index,asIntOf,run_underlying ht,h0,h1,rr hi1,g2',BH g3,g1,hy']
    rename_i cl hc;cases hg:!(fB P el)||!(Nat.beq (fh P el) cl.length)||!nV P el with
    | true=>simp only[hg,cond_true] at h
    | false=>
      simp only[hg,cond_false] at h;simp only[ID] at hg;obtain⟨⟨g1,g2⟩,g3⟩:=hg;have g1':fB P el=true:=(oP g1);have g2':fh P el=cl.length:=yW (oP g2);obtain⟨⟨h0,h1⟩,y,hy,hk⟩:=h;obtain⟨hi1,hi2⟩:=tV g3;refine⟨_,λw'=>lE ?_,hk⟩;rw[hr.ev hx,hr.ev hi];have hy':cs.extract (i.toNat*cl.length) (i.toNat*cl.length+cl.length)=(HL.mk cl y).toArray:=by apply Array.ext';simpa using hy
      simp[Instr.index,asIntOf,run_underlying ht,h0,h1,rr hi1,g2',BH g3,g1',hy']
    exact h.elim;exact h.elim;exact h.elim
  case slice t x lo hi mx=>
    simp only[gV] at h;cases hmh:mx.isSome&&hi.isNone with
    | true=>simp only[hmh,cond_true] at h
    | false=>
      simp only[hmh,cond_false] at h;split at h;rename_i l hh m hl hhi hm;have bl:=Bd.of hr hl;have bh:=Bd.of hr hhi;have bm:=Bd.of hr hm;have hmh':((mx.map a.eval).isSome&&(hi.map a.eval).isNone)=false:=(oP hmh);split at h;rename_i el ht;cases hok:!nV P el with
      | true=>simp only[hok,cond_true] at h
      | false=>
        simp only[hok,cond_false] at h;obtain⟨hi1,hi2⟩:=tV hok;split at h;rename_i sa nn cc hx;obtain⟨hb,hk⟩:=h;refine⟨_,λw'=>lE ?_,hk⟩;rw[hr.ev hx];simp only[Instr.sliceAt,Iu,run_underlying ht,Iv,Instr.slice,Fd true bl bh bm hmh' hb,rr hi1];rfl;exact h.elim
      rename_i ht;split at h;rename_i s hx;obtain⟨hb,hk⟩:=h;have hmn:mx=none:=by rcases EQ hr hm with ⟨e1,_⟩|⟨_,_,_,_,e2,_⟩;exact e1;cases e2
      subst hmn;refine⟨_,λw'=>lE ?_,hk⟩;rw[hr.ev hx];have hb':0<=l.getD 0/\l.getD 0<=hh.getD s.size/\hh.getD s.size<=(none:Option Int).getD (s.size:Int)/\(none:Option Int).getD (s.size:Int)<=(s.size:Int):=⟨hb.1,hb.2.1,hb.2.2,Int.le_refl _⟩
      have:=Fd (P:=P) (nn:=s.size) (cc:=s.size) false bl bh (m:=none) (mx:=none) (.inl ⟨rfl,rfl⟩) oL hb' w';simp only[Option.map_none,Instr.sliceAt,Iu,run_underlying ht,Iv,Instr.slice,Option.isSome_none,Bool.false_eq_true,if_false,this];rfl;exact h.elim;rename_i len el ht;cases hok:!nV P el with
      | true=>simp only[hok,cond_true] at h
      | false=>
        simp only[hok,cond_false] at h;obtain⟨hi1,hi2⟩:=tV hok;split at h;rename_i ad hx;obtain⟨hb,hk⟩:=h;refine⟨_,λw'=>lE ?_,hk⟩;rw[hr.ev hx];simp only[Instr.sliceAt,Iu,run_underlying ht,Iv,Instr.sureAddr,Sem.run_pure,Fd false bl bh bm hmh' hb,rr hi1];exact h.elim
      exact h.elim;exact h.elim
  case call c=>
    obtain⟨callee,args,argTypes⟩:=c;cases callee with
    | builtin b=>
      cases b<;>simp only[gV] at h<;>try exact h.elim
      case cap=>
        split at h;rename_i el _ _ c ht hv;obtain⟨t0,h0,h1⟩:=Option.bind_eq_some_iff.1 ht;exact⟨_,λw'=>by simp[execOp,resolve,hr.j7 hv,invoke,builtin,Builtin.cap_,h0,run_underlying h1,goInt],h⟩;exact h.elim
      case len=>
        split at h;rename_i el _ k _ ht hv;obtain⟨t0,h0,h1⟩:=Option.bind_eq_some_iff.1 ht;exact⟨_,λw'=>by simp[execOp,resolve,hr.j7 hv,invoke,builtin,Builtin.len_,h0,run_underlying h1,goInt],h⟩;rename_i s ht hv;obtain⟨t0,h0,h1⟩:=Option.bind_eq_some_iff.1 ht;exact⟨_,λw'=>by simp[execOp,resolve,hr.j7 hv,invoke,builtin,Builtin.len_,h0,run_underlying h1,goInt],h⟩;rename_i k el u ht hv;obtain⟨t0,h0,h1⟩:=Option.bind_eq_some_iff.1 ht;exact⟨_,λw'=>by simp[execOp,resolve,hr.j7 hv,invoke,builtin,Builtin.len_,h0,run_underlying h1,goInt],h⟩;exact h.elim
      case max=>
        split at h;rename_i k x j y hv;exact⟨_,λw'=>by simp[execOp,resolve,hr.j7 hv,invoke,builtin,run_max_int2],h⟩;exact h.elim
      case min=>
        split at h;rename_i k x j y hv;exact⟨_,λw'=>by simp[execOp,resolve,hr.j7 hv,invoke,builtin,run_min_int2],h⟩;exact h.elim
    | value f=>exact h.elim
    | invoke r m=>exact h.elim
  all_goals exact h.elim
def BG{ad:Addr}:∀(vs:List IL) (i:Nat) (acc:Array IL) (w:IK),jH w ad i vs-> (loadCellsFrom ad i vs.length acc).run P w=.ok (acc++vs.toArray) w
  | [],i,acc,w,_=>by simp[loadCellsFrom]
  | [v],i,acc,w,h=>by have h':w.cell? (ad.add i)=some v:=h;simp[loadCellsFrom,h']
  | v::u::vs,i,acc,w,h=>by
    obtain⟨h1,h2⟩:=h;have:=BG (u::vs) (i+1) (acc.push v) w h2;simp only[yI] at this⊢;rw[loadCellsFrom];simp only[Iu,run_load,h1,Iv,this];simp
def qoc{K:IL->(WP)->Prop}(h:mJ (nm P) P o e w K)(hc:AV P o.op=.read)(hr:Rel n ds e a): ∃v hold,(execOp a.eval o).run P w=.ok (.value v) w/\(∀w',hold w'->(execOp a.eval o).run P w'=.ok (.value v) w')/\K v hold:=by
  obtain⟨dst,op,type,pos,after,guard⟩:=o;cases op;case load t x=>
    simp only[mJ] at h;split at h;rename_i p hx;obtain⟨ad,rfl⟩:∃ad,p=some ad:=by
      cases p with
      | none=>exact h.elim
      | some ad=>exact⟨ad,rfl⟩
    dsimp only at h;split at h;rename_i c hcell;cases hok:!nV P t with
    | true=>simp only[hok,cond_true] at h
    | false=>
      simp only[hok,cond_false] at h;obtain⟨hi1,hi2⟩:=tV hok;cases hag:fB P t with
      | true=>simp only[hag,cond_true] at h
      | false=>
        simp only[hag,cond_false] at h;obtain⟨y,hy,hk⟩:=h;have key:∀w',w'.cell? ad=some (c.mk y)->(execOp a.eval ⟨dst,.load t x,type,pos,after,guard⟩).run P w'=.ok (.value (c.mk y)) w':=λw' hw'=>
          lE (by rw[hr.ev hx];simp[Instr.loadAt,Instr.sureAddr,loadVar,wG hi2,hag,hw'])
        exact⟨_,_,key w hy,λw' hw'=>key w' hw',hk⟩
    rename_i cs hcells;cases hg:fB P t&&Nat.beq (fh P t) cs.length with
    | false=>simp only[hg,cond_false] at h
    | true=>
      simp only[hg,cond_true] at h;simp only[yA] at hg;obtain⟨hag,hsz⟩:=hg;have hsz':=yW hsz;obtain⟨y,hy,hk⟩:=h;have hlen:(HL.mk cs y).length=cs.length:=HL.j5 cs y;have hsome:(P.info? t).isSome=true:=by
        cases hi:P.info? t with
        | none=>
          have:(P.underlying t).isSome=true:=ws hag;simp[Program.underlying,hi] at this
        | some i=>rfl
      have key:∀w',jH w' ad 0 (HL.mk cs y)->(execOp a.eval ⟨dst,.load t x,type,pos,after,guard⟩).run P w'=.ok (.value (.agg (HL.mk cs y).toArray)) w':=λw' hw'=>
        lE (by
          rw[hr.ev hx];have:=BG (P:=P) (HL.mk cs y) 0 #[] w' hw';rw[hlen,<- hsz'] at this;simp[Instr.loadAt,Instr.sureAddr,loadVar,wG (ws hag),hag,rr hsome,loadCells,this])
      exact⟨_,_,key w hy,λw' hw'=>key w' hw',hk⟩
    cases hag:fB P t with
    | false=>simp only[hag,cond_false] at h
    | true=>
      simp only[hag,cond_true] at h;obtain⟨y,hy,hk⟩:=h;have hsome:(P.info? t).isSome=true:=by
        cases hi:P.info? t with
        | none=>
          have:(P.underlying t).isSome=true:=ws hag;simp[Program.underlying,hi] at this
        | some i=>rfl
      have key:∀w',jH w' ad 0 y->(execOp a.eval ⟨dst,.load t x,type,pos,after,guard⟩).run P w'=.ok (.value (.agg y.toArray)) w':=λw' hw'=>
        lE (by
          rw[hr.ev hx];have:=BG (P:=P) y 0 #[] w' hw';rw[hy.1] at this;simp[Instr.loadAt,Instr.sureAddr,loadVar,wG (ws hag),hag,rr hsome,loadCells,this])
      exact⟨_,_,key w hy.2,λw' hw'=>key w' hw',hk⟩
    exact h.elim
  case lookup t m k ok=>
    simp only[mJ] at h;split at h;rename_i vm vk hm hk;obtain⟨y,hy,hK⟩:=h;exact⟨_,_,lE (by rw[hr.ev hm,hr.ev hk];exact hy),λw' hw'=>lE (by rw[hr.ev hm,hr.ev hk];exact hw'),hK⟩;exact h.elim
  case typeAssert x xt as_ ok=>
    simp only[mJ] at h;split at h;rename_i v hx;obtain⟨y,hy,hK⟩:=h;exact⟨_,_,lE (by rw[hr.ev hx];exact hy),λw' hw'=>lE (by rw[hr.ev hx];exact hw'),hK⟩;exact h.elim
  case binOp op t x y yt=>
    have h':(match e.ev x,e.ev y with
      | some p,some q=>(nm P).fG dp (λw'=>(do eqGuard op t x y p q;binOp op t p q:Sem IL).run P w') w (λr=>K (.bool r) λw'=>(do eqGuard op t x y p q;binOp op t p q:Sem IL).run P w'=.ok (.bool r) w')
      | _,_=>False):=by cases op<;>exact h
    split at h';rename_i p q hx hy;obtain⟨r,hr1,hK⟩:=h';exact⟨_,_,lE (by rw[hr.ev hx,hr.ev hy];exact hr1),λw' hw'=>lE (by rw[hr.ev hx,hr.ev hy];exact hw'),hK⟩;exact h'.elim
  case convert s d x=>
    simp only[mJ] at h;split at h;rename_i v hx;obtain⟨r,hr1,hK⟩:=h;exact⟨_,_,lE (by rw[hr.ev hx];exact hr1),λw' hw'=>lE (by rw[hr.ev hx];exact hw'),hK⟩;exact h.elim
  case call c=>
    obtain⟨callee,args,argTypes⟩:=c;cases callee with
    | builtin b=>
      cases b<;>simp only[mJ] at h<;>try exact h.elim
      split at h;rename_i vs hv;obtain⟨r,hr1,hK⟩:=h;have key:∀w',(Builtin.len_ argTypes type vs.toArray).run P w'=.ok (.int .i64 r) w'->(execOp a.eval ⟨dst,.call ⟨.builtin .len,args,argTypes⟩,type,pos,after,guard⟩).run P w'=.ok (.value (.int .i64 r)) w':=λw' hw'=>by simp[execOp,resolve,hr.j7 hv,invoke,builtin,hw']
      exact⟨_,_,key w hr1,λw' hw'=>key w' hw',hK⟩;exact h.elim
    | value f=>exact h.elim
    | invoke r m=>exact h.elim
  all_goals exact h.elim
section
variable {P:IN} {n:Nat} {ds:List Deferred} {e:Env} {a:Act} {o:Oper} {w:IK} {r:Option Nat} {m:Nat}
def en (cs:Array IL):Nat->List IL->Array IL
 | _,[]=>cs
 | off,v::vs=>en (cs.setIfInBounds off v) (off+1) vs
def nT:∀(vs:List IL) (cs:Array IL) (off:Nat),(en cs off vs).size=cs.size
 | [],_,_=>rfl
 | v::vs,cs,off=>by simp[en,nT vs]
def qJ:∀(vs:List IL) (cs:Array IL) (off:Nat),off+vs.length<=cs.size->(en cs off vs).toList=cs.toList.take off++vs++cs.toList.drop (off+vs.length)
 | [],cs,off,h=>by simp[en]
 | v::vs,cs,off,h=>by
  simp only[yI] at h;rw[en,qJ vs _ _ oO,Array.toList_setIfInBounds];have h1:(cs.toList.set off v).take (off+1)=cs.toList.take off++[v]:=by have:off<cs.toList.length:=oO;rw[set_eq_take_append_cons_drop,iP this,take_append,yL,xS oJ,zS oO];simp[show off+1-off=1 by omega]
  have h2:(cs.toList.set off v).drop (off+1+vs.length)=cs.toList.drop (off+1+vs.length):=(by rw[drop_set,iP]);rw[h1,h2];simp[Nat.add_assoc,Nat.add_comm 1]
def qrI(off:Nat):∀(l:List IL) (j:Nat) (cells:Array IL),(l.zipIdx j).foldl (λcs (x:IL×Nat)=>cs.setIfInBounds (off+x.2) x.1) cells=en cells (off+j) l
 | [],j,cells=>rfl
 | v::l,j,cells=>by rw[zipIdx_cons,foldl_cons,qrI off l (j+1)];rfl
def EF(off:Nat)(vs cells:Array IL):(vs.zipIdx.foldl (λcs (x:IL×Nat)=>cs.setIfInBounds (off+x.2) x.1) cells)=en cells off vs.toList:=by rw[<- Array.foldl_toList,Array.toList_zipIdx,qrI off vs.toList 0,Nat.add_zero]
def mR{cells:Array IL}(h:vs.length=cells.size):en cells 0 vs=vs.toArray:=by apply Array.ext';rw[qJ _ _ _ oJ];simp[h]
def qh9{ad:Addr}:∀(vs:List IL) (i:Nat) (w:IK) (K:WP),EE ad i vs w K-> ∃w',(storeCells ad vs i).run P w=.ok () w'/\K w'
 | [],i,w,K,h=>⟨w,by simp[storeCells],h⟩
 | v::vs,i,w,K,h=>by obtain⟨⟨h1,⟨u,hu⟩,h3⟩,h4⟩:=h;obtain⟨w',hr,hk⟩:=qh9 vs (i+1) _ K h4;refine⟨w',?_,hk⟩;unfold storeCells;simp only[Iu,run_store P w (ad.add i) v .plain h1,hu,h3,Bool.false_eq_true,if_false,Iv,hr]
def _root_.Go.Oper.wx (r:Option Nat) (m:Nat) (P:IN) (o:Oper) (a:Act) (w:IK) (N:Act->WP) (Q:Exit->Act->WP):Prop:=o.uponIn (Wd r) m P a N Q ((execOp a.eval o).run P w)
def GS(hnd:∀c,o.op≠.defer c)(h:o.wx r m P a w N Q):o.wpIn (Wd r) m P a w N Q:=
 ⟨λ_ _=>trivial,by rw[Oper.semAt_eq _ _ _ hnd];exact h⟩
def tH{v:IL}{w:IK}(hs:(execOp a.eval o)=(do pure (Next.value (<- s))))(hr:s.run P w=.ok v w')(hk:K v w'): o.wx r m P a w (λa' w'=>∃v,a'=a.put o.dst v/\K v w') Q:=by unfold Oper.wx;rw[hs,lE hr];exact⟨v,rfl,hk⟩
def GI{s:Sem Unit}{w:IK}(hs:(execOp a.eval o)=(do s;pure Next.skip))(hr:s.run P w=.ok () w')(hk:K undef w'): o.wx r m P a w (λa' w'=>∃v,a'=a.put o.dst v/\K v w') Q:=by unfold Oper.wx;rw[hs];simp only[Iu,hr,Iv,Sem.run_pure];exact⟨undef,rfl,hk⟩
def BL{v:IL}{w:IK}(hr:(execOp a.eval o).run P w=.ok (.value v) w')(hk:K v w'): o.wx r m P a w (λa' w'=>∃v,a'=a.put o.dst v/\K v w') Q:=by unfold Oper.wx;rw[hr];exact⟨v,rfl,hk⟩
def qfT{args:Array IL}(h:Calls P f args w R):CallsIn (Wd r) m P f args w R:=(callsIn_wide (n:=m)).2 h
def qto{l f:Nat}{assign body:Code}(h:RoundIn (Wd none) 0 P l f tmps assign body w R):RoundIn (Wd r) m P l f tmps assign body w R:=
 ⟨trivial,λc cs _=>h.2 c cs (room_wide _)⟩
def E6(r:Option Nat):(Wd r).depth.isSome=true->1<=m:=λh=>by cases h
def Gq{w:IK}(hr:(execOp a.eval o).run P w=.ok (.enter f vs.toArray) w)(hk:call P f vs ts w λy w'=>K (gz ts y) w'): o.wx r m P a w (λa' w'=>∃v,a'=a.put o.dst v/\K v w') Q:=by unfold Oper.wx;rw[hr];refine⟨E6 r,qfT (Calls.mono hk ?_)⟩;rintro e w' ⟨x,rfl,hx⟩;exact⟨_,rfl,hx⟩
def qqS{l f:Nat}{assign body:Code}{w:IK}(hr:(execOp a.eval o).run P w=.ok (.round l f tmps assign body) w)(hk:RoundIn (Wd none) 0 P l f tmps assign body w λe w'=>∃x:jw ts,e=.returned (gz ts x)/\K (gz ts x) w'): o.wx r m P a w (λa' w'=>∃v,a'=a.put o.dst v/\K v w') Q:=by unfold Oper.wx;rw[hr];refine⟨E6 r,qto (RoundIn.mono hk ?_)⟩;rintro e w' ⟨x,rfl,hx⟩;exact⟨_,rfl,hx⟩
def Av(h:i6 P f=false)(args:Array IL)(w:IK):(callFunc f args).run P w=.ok (.enter f args) w:=by
 unfold i6 at h;unfold callFunc;cases hf:P.funcs[f]? with
 | none=>simp[hf] at h
 | some fn=>
  simp only[hf,ID] at h;simp only[Iu,run_program,Iv,hf];rw[iN (by simp[h.2]),iN (by simp[h.1])];rfl
def Di(h:(P.info? t).bind (·.zero)=some z):(P.info? t).isSome=true:=by
 cases hi:P.info? t with
 | none=>simp[hi] at h
 | some i=>rfl
def qsu{el:IM}{v:IL}(ht:P.underlying t=some (.slice el))(hz:(P.info? el).bind (·.zero)=some z)(hsz:v.cells.size=fh P el)(hlt:¬1*fh P el>2^24): (Instr.buildSlice t 1 [(0,v)].toArray).run P w=.ok (.slice (some ⟨w.heap.size,0,none⟩) 1 1) (w.alloc (.cells v.cells el)):=by
 simp only[Instr.buildSlice,Iu,run_underlying ht,Iv,rr (Di hz)];rw[iN hlt];have key:∀zs:Array IL,Instr.fill (λi=>some (i*fh P el,fh P el)) ((Array.range (1*fh P el)).map (zs[·%zs.size]!)) [(0,v)]=some v.cells:=by intro zs;have h1:((Array.range (1*fh P el)).map (zs[·%zs.size]!)).size=v.cells.size:=(by simp[hsz]);generalize (Array.range (1*fh P el)).map (zs[·%zs.size]!)=base at h1;have h2:=EF 0 v.cells base;rw[mR (by rw[IJ];exact h1.symm)] at h2;simp only[Instr.fill,Nat.zero_mul,xT] at h2⊢;rw[iN (by rw[hsz,h1,hsz];simp)];simp only[h2,Array.toArray_toList]
 by_cases h0:1*fh P el=0;rw[iP h0];simp only[pure_bind];rw[key];simp[newRow];rw[iN h0];simp only[Iu,v9 hz,Iv,Sem.run_pure];rw[key];simp[newRow]
def qqO{el:IM}(ht:P.underlying t=some (.slice el))(hz:(P.info? el).bind (·.zero)=some z): (Instr.buildSlice t 0 ([]:List (Nat×IL)).toArray).run P w=.ok (.slice (some ⟨w.heap.size,0,none⟩) 0 0) (w.alloc (.cells #[] el)):=by simp only[Instr.buildSlice,Iu,run_underlying ht,Iv,rr (Di hz),Nat.zero_mul];rw[iN,iP trivial];simp only[pure_bind,Instr.fill];have:∀f:Nat->IL,(Array.range 0).map f = #[]:=λf=>Array.eq_empty_of_size_eq_zero oL;rw[this];simp[newRow]
def qmx(Q:Exit->Act->WP){dst:Option Tmp}{type:IM}{len:Nat}{pos:String}{after:Array Edge}(h:jx (nm P) P ⟨dst,.buildSlice t len parts,type,pos,after,guard⟩ e w K)(hr:Rel n ds e a): (⟨dst,.buildSlice t len parts,type,pos,after,guard⟩:Oper).wx r m P a w (λa' w'=>∃v,a'=a.put dst v/\K v w') Q:=by
  have hex:∀len,execOp a.eval ⟨dst,.buildSlice t len parts,type,pos,after,guard⟩=(do pure (Next.value (<- Instr.buildSlice t len (parts.map λ(i,x)=>(i,a.eval x))))):=λlen=>rfl;simp only[jx] at h;split at h;rename_i el ht;split at h;rename_i z vs hz hv;cases hb:Nat.blt (2^24) (len*fh P el) with
  | true=>simp only[hb,cond_true] at h
  | false=>
   simp only[hb,cond_false] at h;have hlt:¬len*fh P el>2^24:=by intro hgt;have:Nat.blt (2^24) (len*fh P el)=true:=Nat.ble_eq_true_of_le hgt;rw[this] at hb;cases hb
   have mT:∀cells,rG (fh P el) len (bif Nat.beq (len*fh P el) 0 then [] else z.cells.toList) vs=some cells->(nm P).new (.cells cells el) w (λb w'=>K (.slice (some (dk b)) len len) w')->
     (⟨dst,.buildSlice t len parts,type,pos,after,guard⟩:Oper).wx r m P a w (λa' w'=>∃v,a'=a.put dst v/\K v w') Q:=by
    intro cells hc h;refine tH (o:=⟨dst,.buildSlice t len parts,type,pos,after,guard⟩) (s:=Instr.buildSlice t len (parts.map λ(i,x)=>(i,a.eval x))) ?_ ?_ h;exact hex _;rw[Ca hr hv];simp only[Instr.buildSlice,Iu,run_underlying ht,Iv,rr (Di hz)];rw[iN hlt];unfold rG at hc;cases h0:Nat.beq (len*fh P el) 0 with
    | true=>
     rw[iP (yW h0)];simp only[h0,cond_true] at hc;simp only[pure_bind];rw[show (#[]:Array IL)=([]:List IL).toArray from rfl,hc];simp[newRow]
    | false=>
     have:len*fh P el≠0:=λhq=>by rw[hq] at h0;cases h0
     rw[iN this];simp only[h0,cond_false] at hc;simp only[Iu,v9 hz,Iv,Sem.run_pure];have hc':Instr.fill (λi=>some (i*fh P el,fh P el)) (Array.map (λx=>z.cells[x%z.cells.size]!) (Array.range (len*fh P el))) vs=some cells:=(oP hc);rw[hc'];simp[newRow]
   have old':(match rG (fh P el) len (bif Nat.beq (len*fh P el) 0 then [] else z.cells.toList) vs with
     | some cells=>(nm P).new (.cells cells el) w (λb w'=>K (.slice (some (dk b)) len len) w')
     | none=>False)->(⟨dst,.buildSlice t len parts,type,pos,after,guard⟩:Oper).wx r m P a w (λa' w'=>∃v,a'=a.put dst v/\K v w') Q:=by
    intro h;cases hc:rG (fh P el) len (bif Nat.beq (len*fh P el) 0 then [] else z.cells.toList) vs with
    | none=>rw[hc] at h;exact h.elim
    | some cells=>rw[hc] at h;exact mT cells hc h
   cases hty:pD P el with
   | one c=>simp only[hty] at h;exact old' h
   | agg cs=>simp only[hty] at h;exact old' h
   | lK=>
    simp only[hty] at h;match len,vs,h,hv,hlt with
    | 1,[(0,v)],h,hv,hlt=>
     obtain⟨hsz,hk⟩:=h;refine tH (s:=Instr.buildSlice t 1 (parts.map λ(i,x)=>(i,a.eval x))) ?_ ?_ hk;exact hex _;rw[Ca hr hv];exact qsu ht hz (by rw[<- hsz,IJ]) hlt
    | 0,[],h,hv,hlt=>
     refine tH (s:=Instr.buildSlice t 0 (parts.map λ(i,x)=>(i,a.eval x))) ?_ ?_ h;exact hex _;rw[Ca hr hv];exact qqO ht hz
  exact h.elim;exact h.elim
set_option maxHeartbeats 1000000 in
def qpG(Q:Exit->Act->WP)(h:jx (nm P) P o e w K)(hr:Rel n ds e a): o.wx r m P a w (λa' w'=>∃v,a'=a.put o.dst v/\K v w') Q:=by
 obtain⟨dst,op,type,pos,after,guard⟩:=o;cases op;case store t x y=>
  simp only[jx] at h;obtain⟨v,hy⟩:∃v,e.ev y=some v:=by
   cases hy:e.ev y with
   | none=>rw[hy] at h;exact h.elim
   | some v=>exact⟨v,rfl⟩
  rw[hy] at h;dsimp only at h;split at h;rename_i p hx;obtain⟨ad,rfl⟩:∃ad,p=some ad:=by
   cases p with
   | none=>exact h.elim
   | some ad=>exact⟨ad,rfl⟩
  dsimp only at h;have fin:(P.info? t).isSome=true->v.cells.size=fh P t->(nm P).st ad v.cells.toList w (λw'=>K undef w')->(⟨dst,.store t x y,type,pos,after,guard⟩:Oper).wx r m P a w (λa' w'=>∃v,a'=a.put dst v/\K v w') Q:=by intro hi hs' h;obtain⟨w',hrun,hk⟩:=qh9 (P:=P) _ 0 w _ h;refine GI (o:=⟨dst,.store t x y,type,pos,after,guard⟩) (s:=Instr.storeAt t (a.eval x) (a.eval y)) rfl ?_ hk;rw[hr.ev hx,hr.ev hy];have:(sizeOf t).run P w=.ok (fh P t) w:=rr hi w;simp[Instr.storeAt,Instr.sureAddr,storeVar,this,hs',hrun]
  split at h;cases hok:nV P t with
  | false=>simp only[hok,cond_false] at h
  | true=>
   simp only[hok,cond_true] at h;exact fin (tV (by simp[hok])).1 (oP h.1) h.2
  cases hs:nV P t&&Nat.beq (fh P t) v.cells.size with
  | false=>simp only[hs,cond_false] at h
  | true=>
   simp only[hs,cond_true] at h;simp only[yA] at hs;have hs':=yW hs.2;exact fin (tV (by simp[hs.1])).1 hs'.symm h
  exact h.elim
 case alloc t=>
  simp only[jx] at h;split at h;obtain⟨z,hz,hk⟩:=h;refine tH (s:=Instr.alloc t true (.tuple #[])) rfl ?_ hk;simp[Instr.alloc,v9 hz,newVar,newRow];split at h;rename_i z hz;refine tH (s:=Instr.alloc t true (.tuple #[])) rfl ?_ h;simp[Instr.alloc,v9 hz,newVar,newRow];exact h.elim
 case box t x=>
  simp only[jx] at h;split at h;rename_i v hx;refine tH (s:=Instr.box t (a.eval x)) rfl ?_ h;rw[hr.ev hx];simp[Instr.box,newVar,newRow];exact h.elim
 case buildSlice t len parts=>exact qmx Q h hr
 case makeSlice t l c=>
  simp only[jx] at h;split at h;rename_i el ht;split at h;rename_i i k1 nn k2 mm hi hl hc;split at h;rename_i z hz;obtain⟨⟨b0,b1,b2,b3⟩,hk⟩:=h;refine tH (s:=Instr.makeSlice t (a.eval l) (a.eval c)) rfl ?_ hk;rw[hr.ev hl,hr.ev hc];have e1:IntKind.i64.wrap nn=nn:=(by rw[IntWalk.i64_in];omega);have e2:IntKind.i64.wrap mm=mm:=(by rw[IntWalk.i64_in];omega);have hz':(P.info? el).bind (·.zero)=some z:=(by simp[hi,hz]);have g1:¬(mm<0):=oJ;have g2:¬((i.bytes:Int)*mm>2^48):=oJ;have g3:¬(nn<0):=oJ;have g4:¬(nn>mm):=oJ;simp only[Instr.makeSlice,Iu,run_underlying ht,Iv,asInt,asIntOf,Sem.run_pure,Gi hi,e1,e2];rw[iN (by simp only[Bool.or_eq_true,decide_eq_true_eq,g1,g2,g3,g4,or_self,not_false_eq_true])];simp only[Iu,run_askRoom,Iv,rr (Di hz')];have hsz:fh P el=i.size:=(by simp[fh,hi]);rw[hsz];by_cases h0:mm.toNat*i.size=0;rw[iP h0,iP h0];simp[newRow,iL,h0];rw[iN h0,iN h0];simp[v9 hz',newRow,iL];exact h.elim;exact h.elim;exact h.elim
 case makeMap t r=>
  simp only[jx] at h;split at h;rename_i k el ht;split at h;rename_i v hv;refine tH (s:=Instr.makeMap t (r.map a.eval)) rfl ?_ h;rcases EQ hr hv with ⟨rfl,_⟩|⟨y,k,i,rfl,rfl,hy⟩;simp[Instr.makeMap];simp[Instr.makeMap,hy,run_underlying ht,asInt,asIntOf];exact h.elim;exact h.elim
 case mapUpdate t m k x=>
  simp only[jx] at h;split at h;rename_i vm vk vx hm hk hx;obtain⟨w',hrun,hK⟩:=h;exact GI (s:=Instr.mapUpdate t (a.eval m) (a.eval k) (a.eval x)) rfl (by rw[hr.ev hm,hr.ev hk,hr.ev hx];exact hrun) hK;exact h.elim
 case insert t m k x=>
  simp only[jx] at h;split at h;rename_i vm vk vx hm hk hx;obtain⟨w',hrun,hK⟩:=h;exact GI (s:=Instr.mapUpdate t (a.eval m) (a.eval k) (a.eval x)) rfl (by rw[hr.ev hm,hr.ev hk,hr.ev hx];exact hrun) hK;exact h.elim
 case range t x=>
  simp only[jx] at h;split at h;rename_i v hx;obtain⟨y,w',hrun,hK⟩:=h;exact tH (s:=Instr.range t (a.eval x)) rfl (by rw[hr.ev hx];exact hrun) hK;exact h.elim
 case next it s=>
  simp only[jx] at h;split at h;rename_i v hx;rcases h with ⟨w',hrun,hK⟩|⟨x,y,w',hrun,hK⟩;exact tH (s:=Instr.next (a.eval it) s type) rfl (by rw[hr.ev hx];exact hrun) hK;exact tH (s:=Instr.next (a.eval it) s type) rfl (by rw[hr.ev hx];exact hrun) hK;exact h.elim
 case entry it=>
  simp only[jx] at h;split at h;rename_i v hx;obtain⟨x,y,w',hrun,hK⟩:=h;exact tH (s:=Instr.entry (a.eval it)) rfl (by rw[hr.ev hx];exact hrun) hK;exact h.elim
 case convert s d x=>
  simp only[jx] at h;split at h;rename_i v hx;obtain⟨y,w',hrun,hK⟩:=h;exact tH (s:=convert s d (a.eval x)) rfl (by rw[hr.ev hx];exact hrun) hK;exact h.elim
 case call c=>
  obtain⟨callee,args,argTypes⟩:=c;cases callee with
  | builtin b=>
   simp only[jx] at h;split at h
   ·rename_i vs hv;have hres:∀w,(resolve a.eval ⟨.builtin b,args,argTypes⟩ type).run P w=.ok { target:=.builtin b argTypes type (args.map λ| .const _=>true|_=>false),args:=vs.toArray } w:=λw=>by simp[resolve,hr.j7 hv];intro x _;cases x<;>rfl
    cases b<;>simp only at h<;>try exact h.elim
    case append=>
     obtain⟨y,w',hrun,hK⟩:=h;have hrun':(Builtin.append_ argTypes type vs.toArray).run P w=.ok (.slice y.a y.len y.cap) w':=hrun;have:(execOp a.eval ⟨dst,.call ⟨.builtin .append,args,argTypes⟩,type,pos,after,guard⟩).run P w=.ok (.value (.slice y.a y.len y.cap)) w':=by simp[execOp,hres,invoke,builtin,hrun']
     exact BL this hK
    case clear=>
     obtain⟨y,w',hrun,hK⟩:=h;have hrun':(Builtin.clear_ argTypes type vs.toArray).run P w=.ok (.tuple #[]) w':=hrun;have:(execOp a.eval ⟨dst,.call ⟨.builtin .clear,args,argTypes⟩,type,pos,after,guard⟩).run P w=.ok (.value (.tuple #[])) w':=by simp[execOp,hres,invoke,builtin,hrun']
     exact BL this hK
    case copy=>
     obtain⟨y,w',hrun,hK⟩:=h;have hrun':(Builtin.copy_ argTypes type vs.toArray).run P w=.ok (.int .i64 y) w':=hrun;have:(execOp a.eval ⟨dst,.call ⟨.builtin .copy,args,argTypes⟩,type,pos,after,guard⟩).run P w=.ok (.value (.int .i64 y)) w':=by simp[execOp,hres,invoke,builtin,hrun']
     exact BL this hK
    case delete=>
     obtain⟨y,w',hrun,hK⟩:=h;have hrun':(Builtin.delete_ argTypes type vs.toArray).run P w=.ok (.tuple #[]) w':=hrun;have:(execOp a.eval ⟨dst,.call ⟨.builtin .delete,args,argTypes⟩,type,pos,after,guard⟩).run P w=.ok (.value (.tuple #[])) w':=by simp[execOp,hres,invoke,builtin,hrun']
     exact BL this hK
   exact h.elim
  | value f=>
   have key:(∀g,f≠.func g)->∀v vs,e.ev f=some v->e.qA args.toList=some vs->(nm P).eJ v vs (ph P type) w (λy w'=>K (gz _ y) w')->
     Oper.wx r m P ⟨dst,.call ⟨.value f,args,argTypes⟩,type,pos,after,guard⟩ a w (λa' w'=>∃v,a'=a.put dst v/\K v w') Q:=by
    intro hf v vs hv hvs hcall;rcases hcall with ⟨g,us,hrun,hk⟩|⟨l,g,tmps,assign,body,hrun,hk⟩;refine Gq (o:=⟨dst,.call ⟨.value f,args,argTypes⟩,type,pos,after,guard⟩) ?_ hk;simp only[execOp,resolve,hr.j7 hvs,hr.ev hv];exact hrun;refine qqS (o:=⟨dst,.call ⟨.value f,args,argTypes⟩,type,pos,after,guard⟩) ?_ hk;simp only[execOp,resolve,hr.j7 hvs,hr.ev hv];exact hrun
   cases f with
   | func g=>
    simp only[jx] at h;split at h;rename_i vs hv;cases hb:i6 P g with
    | true=>
     simp only[hb,cond_true] at h;obtain⟨x,w',hrun,hk⟩:=h;refine BL ?_ hk;simp only[execOp,resolve,hr.j7 hv,Act.eval,Deferred.ofValue];simpa[invoke] using hrun
    | false=>
     simp only[hb,cond_false] at h;refine Gq ?_ h;simp only[execOp,resolve,hr.j7 hv,Act.eval,Deferred.ofValue];simp[invoke,Av hb]
    exact h.elim
   | tmp t=>
    simp only[jx] at h;split at h;rename_i v vs hv hvs;exact key oL v vs hv hvs h;exact h.elim
   | const t=>
    simp only[jx] at h;split at h;rename_i v vs hv hvs;exact key oL v vs hv hvs h;exact h.elim
   | global t=>
    simp only[jx] at h;split at h;rename_i v vs hv hvs;exact key oL v vs hv hvs h;exact h.elim
  | invoke x name=>
   simp only[jx] at h;split at h;rename_i v vs hv hvs;obtain⟨g,us,hrun,hk⟩:=h;refine Gq ?_ hk;simp only[execOp,resolve,hr.j7 hvs,hr.ev hv];simp[invoke];simpa using hrun;exact h.elim
 all_goals exact h.elim
end
section
variable {P:IN} {n:Nat} {ds:List Deferred} {e:Env} {a:Act} {w:IK} {r:Option Nat} {m:Nat}
def ip (wr:Nat->Bool) (a a':Act):Prop:=∀t,wr t=false->a'.tmps.getD t undef=a.tmps.getD t undef
def ip.refl(wr:Nat->Bool)(a:Act):ip wr a a:=λ_ _=>rfl
def ip.trans{wr1 wr2 wr:Nat->Bool}{a b c:Act}(h1:ip wr1 a b)(h2:ip wr2 b c)(h:∀t,wr t=false->wr1 t=false/\wr2 t=false):ip wr a c:=
  λt ht=>(h2 t (h t ht).2).trans (h1 t (h t ht).1)
def ip.mono{wr1 wr:Nat->Bool}{a b:Act}(h1:ip wr1 a b)(h:∀t,wr t=false->wr1 t=false):ip wr a b:=λt ht=>h1 t (h t ht)
def ip.put(a:Act)(dst:Option Tmp)(v:IL){wr:Nat->Bool}(h:∀d,dst=some d->wr d=true):ip wr a (a.put dst v):=by
  intro t ht;cases dst with
  | none=>rfl
  | some d=>
    have hne:d≠t:=λhd=>by subst hd;rw[h d rfl] at ht;cases ht
    simp[Act.put,Array.getElem?_setIfInBounds_ne hne]
def qp8{o:Oper}{d:Nat}(ho:o∈ops)(hd:o.dst=some d):qE ops d=true:=by unfold qE;rw[any_eq_true];exact⟨o,ho,by simp[hd]⟩
def mA (n:Nat) (ops:List Oper):Bool:=ops.all λo=>match o.dst with|some d=>Nat.blt d n|none=>true
def qnq(h:mA n ops=true){o:Oper}(ho:o∈ops):∀d,o.dst=some d->d<n:=by
  intro d hd;have:=all_eq_true.1 h o ho;simp only[hd] at this;exact zO this
def Rel.refine(h:Rel n ds e a){d:Nat}{v:IL}(hv:e.get d=some v):Rel n ds ((d,v)::e) a:=by refine⟨h.size,h.defers,λt u hu=>?_⟩;rw[Env.kC] at hu;by_cases hdt:d=t;subst hdt;simp at hu;subst hu;exact h.get _ _ hv;simp[hdt] at hu;exact h.get _ _ hu
def qjj{o:Oper}{yes no:Env->Prop}(h:guarded ops o e yes no)(hr:Rel n ds e a): (∃e',Rel n ds e' a/\Region.wanted o (yielded ops.toArray a.tmps)=true/\yes e')\/ (∃e',Rel n ds e' a/\Region.wanted o (yielded ops.toArray a.tmps)=false/\no e'):=by
  unfold guarded at h;split at h;rename_i hg;exact .inl ⟨e,hr,by simp[Region.wanted,hg],h⟩;rename_i j want hg;split at h;exact h.elim;rename_i d hd;have hy:∀v,e.get d=some v->yielded ops.toArray a.tmps j=match v with | .bool b=>some b|_=>none:=by
    intro v hv;have h1:=hr.get d v hv;unfold yielded;have hd':((ops.toArray[j]?).bind (·.dst))=some d:=(oP hd);rw[hd'];simp only[Option.bind_some];cases ht:a.tmps[d]? with
    | none=>
      have:v=undef:=(by simpa[ht] using h1.symm);subst this;rfl
    | some u=>
      have:u=v:=(by simpa[ht] using h1);subst this;cases u<;>rfl
  split at h;rename_i b hb;have hyb:=hy _ hb;simp only at hyb;have hre:=hr.refine hb;cases b<;>cases want<;>simp only at h;exact .inl ⟨_,hre,by simp[Region.wanted,hg,hyb],h⟩;exact .inr ⟨_,hre,by simp[Region.wanted,hg,hyb],h⟩;exact .inr ⟨_,hre,by simp[Region.wanted,hg,hyb],h⟩;exact .inl ⟨_,hre,by simp[Region.wanted,hg,hyb],h⟩;rename_i ts hb;have hyb:=hy _ hb;simp only at hyb;exact .inr ⟨e,hr,by simp[Region.wanted,hg,hyb],h⟩;exact h.elim
def kU (ops:List Oper):Bool:=ops.all λo=>match o.op with | .defer _=>false|_=>true
def ER(h:kU ops=true){o:Oper}(ho:o∈ops):∀c,o.op≠.defer c:=by
  intro c hc;unfold kU at h;rw[Iz] at h;have:=h o ho;rw[hc] at this;cases this
def EC{o:Oper}{K K':Act->WP}(hk:∀a w,K a w->K' a w)(h:o.wx r m P a w K Q):o.wx r m P a w K' Q:=by
  unfold Oper.wx at h⊢;generalize (execOp a.eval o).run P w=x at h⊢;cases x with
  | ok x w'=>
    cases x<;>simp only[Oper.uponIn] at h⊢<;>first
      | exact h
      | exact hk _ _ h
      | (refine⟨h.1,CallsIn.mono h.2 ?_⟩
         intro e w'' he;cases e<;>first|exact hk _ _ he|exact he)
      | (refine⟨h.1,RowsIn.mono h.2 ?_⟩
         intro e w'' he;exact hk _ _ he)
      | (refine⟨h.1,RoundIn.mono h.2 ?_⟩
         intro e w'' he;cases e<;>first|exact hk _ _ he|exact he)
  | halt x w'=>cases x<;>simp only[Oper.uponIn] at h⊢<;>first|exact h|exact h.elim
def Gz{o:Oper}{next:Act->WP}{v:IL}(hr:(execOp a.eval o).run P w=.ok (.value v) w')(hn:next (a.put o.dst v) w'):o.wx r m P a w next Q:=by unfold Oper.wx;rw[hr];exact hn
def qyu{o:Oper}(Q:Exit->Act->WP)(h:ym (nm P) P o e w K)(hr:Rel n ds e a): o.wx r m P a w (λa' w'=>∃v,a'=a.put o.dst v/\K v w') Q:=by unfold ym at h;split at h;obtain⟨v,hv,hk⟩:=qn9 h hr;exact Gz (hv w) ⟨v,rfl,hk⟩;rename_i hc;obtain⟨v,hold,hv,_,hk⟩:=qoc h hc hr;exact Gz hv ⟨v,rfl,hk⟩;exact qpG Q h hr
def Gr{ops:List Oper}{K:Env->WP}{Q:Exit->Act->WP}{a0:Act}{wr:Nat->Bool}: ∀(l:List Oper) (e:Env) (a:Act) (w:IK),rf (nm P) P ops K l e w->Rel n ds e a->mA n l=true->(∀o∈l,∀d,o.dst=some d->wr d=true)->ip wr a0 a-> (∀e' a' w',K e' w'->Rel n ds e' a'->ip wr a0 a'->Q .normal a' w')->kU l=true->wpListIn (Wd r) m P ops.toArray Q l a w
  | [],e,a,w,h,hr,_,_,hk,hQ,_=>hQ e a w h hr hk
  | o::rest,e,a,w,h,hr,hd,hw,hk,hQ,hn=>by have hn2:kU rest=true:=(by simp only[kU,all_cons,yA] at hn⊢;exact hn.2);have hd1:=qnq hd (o:=o) oL;have hd2:mA n rest=true:=(by simp only[mA,all_cons,yA] at hd⊢;exact hd.2);have hw1:=hw o oL;have hw2:∀o∈rest,∀d,o.dst=some d->wr d=true:=λp hp=>hw p (by simp[hp]);unfold wpListIn;rcases qjj h hr with ⟨e',hr',hwant,hy⟩|⟨e',hr',hwant,hno⟩;rw[iP hwant];refine GS (ER hn oL) (EC ?_ (qyu Q hy hr'));rintro a' w' ⟨v,rfl,hv⟩;exact Gr rest _ _ _ hv (hr'.put hd1 v) hd2 hw2 (hk.trans (ip.put a o.dst v hw1) λt ht=>⟨ht,ht⟩) hQ hn2;rw[iN (by simp[hwant])];refine⟨λ_ _=>trivial,?_⟩;exact Gr rest _ _ _ hno (hr'.put hd1 undef) hd2 hw2 (hk.trans (ip.put a o.dst undef hw1) λt ht=>⟨ht,ht⟩) hQ hn2
def jk (P:IN) (ops:List Oper) (i:Nat):Bool:=match ops[i]? with|some o=>(match AV P o.op with | .zz=>true|_=>false)|none=>false
def my (ops:List Oper) (y x:Nat):Bool:=
  match ops[y]?,ops[x]? with
  | some oy,some ox=>oy.apart ops.toArray ox
  | _,_=>false
def gK (b:Array Nat) (y x:Nat):Bool:=(b.getD x 0).testBit y
def sJ (P:IN) (ops:List Oper) (b:Array Nat) (y x:Nat):Bool:=gK b y x||(my ops y x&&(!jk P ops y||jk P ops x))
def sW (P:IN) (ops:List Oper) (b:Array Nat) (y x:Nat) (r:IS):Bool:=!jk P ops x&&r.any λz=>!(Nat.beq z x)&&(jk P ops z&&gK b z x)
def ky (P:IN) (ops:List Oper) (b:Array Nat):IS->Bool
  | []=>true
  | y::r=>r.all (λx=>sJ P ops b y x||(jk P ops y&&sW P ops b y x r))&&ky P ops b r
def ti (x:Nat) (seqs:List (IS)):List (IS):=seqs.filterMap λs=>match s with|y::t=>bif Nat.beq y x then some t else none | []=>none
def cover (b:Array Nat):Nat->IS->List (IS)->Bool
  | 0,rem,seqs=>rem.isEmpty&&seqs.contains []
  | k+1,rem,seqs=>(rem.isEmpty&&seqs.contains [])||(!rem.isEmpty&&rem.all λx=>rem.any (λy=>!(Nat.beq y x)&&gK b y x)||cover b k (rem.filter λy=>!(Nat.beq y x)) (ti x seqs))
def rq:IS->Bool
  | []=>true
  | x::r=>!(r.any λy=>Nat.beq x y)&&rq r
def mO (ops:List Oper):Bool:=ops.zipIdx.all λ(o,i)=>o.after.all λe=>!Region.binds .any e||Nat.blt e.on i
def fR (P:IN) (ops:List Oper) (l:IS):IS:=l.filter (jk P ops)
def pK (ops:List Oper) (b:Array Nat):Bool:=
  ops.zipIdx.all λ(o,x)=>(List.range ops.length).all λy=>!(gK b y x)||o.after.any λe=>Region.binds .any e&&(Nat.beq e.on y||gK b y e.on)
def sF (P:IN) (ops:List Oper) (orders:List (IS)):Bool:=
  mO ops&&pK ops (pN ops)&&Region.noSelect ops.toArray&&
  (orders.all λC=>(List.range ops.length).all (λi=>C.any (Nat.beq i))&&C.all (Nat.blt · ops.length)&&rq C&&ky P ops (pN ops) C)&&
  cover (pN ops) ops.length (fR P ops (List.range ops.length)) (orders.map (fR P ops))
def ql9:∀ {l:IS},rq l=true->l.Nodup
  | [],_=>nodup_nil
  | x::r,h=>by
    simp only[rq,yA,zT,any_eq_false] at h;refine nodup_cons.2 ⟨λhm=>?_,ql9 h.2⟩;have:=h.1 x hm;simp at this
def jW (P:IN) (ops:List Oper) (o:Oper) (a:Act) (w:IK) (v:IL):Prop:=
  (Region.wanted o (yielded ops.toArray a.tmps)=true/\(execOp a.eval o).run P w=.ok (.value v) w)\/(Region.wanted o (yielded ops.toArray a.tmps)=false/\v=undef)
def zi:Exit->Act->WP:=λ_ _ _=>False
def qxx{o:Oper}{a b:Act}{M:Act->WP}{x:Result Next}(h:o.uponIn (Wd r) m P b (λa' w'=>∃u,a'=b.put o.dst u/\N a' w') zi x)(hNM:∀u w',N (b.put o.dst u) w'->M (a.put o.dst u) w'): o.uponIn (Wd r) m P a (λa' w'=>∃u,a'=a.put o.dst u/\M a' w') zi x:=by
  have key:∀v w',(∃u,b.put o.dst v=b.put o.dst u/\N (b.put o.dst v) w')->∃u,a.put o.dst v=a.put o.dst u/\M (a.put o.dst v) w':=λv w' ⟨u,hu,hn⟩=>⟨v,rfl,hNM _ _ hn⟩;cases x with
  | ok x w'=>
    cases x<;>simp only[Oper.uponIn] at h⊢;case value v=>exact key _ _ h
    case skip=>exact key _ _ h
    case enter f args=>
      refine⟨h.1,CallsIn.mono h.2 ?_⟩;intro e w'' he;cases e<;>first|exact key _ _ he|exact he
    case defer d=>
      obtain⟨u,hu,_⟩:=h;exfalso;have:(Act.put { b with defers:=d::b.defers } o.dst undef).defers=(b.put o.dst u).defers:=(by rw[hu]);have h1:∀(c:Act) (x:IL),(c.put o.dst x).defers=c.defers:=λc x=>by cases o.dst<;>rfl
      rw[h1,h1] at this;have:=IH List.length this;simp at this
    case row rw_ args=>exact⟨h.1,RowsIn.mono h.2 λv w'' hv=>key _ _ hv⟩
    case round l f tmps assign body=>
      refine⟨h.1,RoundIn.mono h.2 ?_⟩;intro e w'' he;cases e<;>first|exact key _ _ he|exact he
  | halt x w'=>cases x<;>simp only[Oper.uponIn] at h⊢<;>exact h
def m9 (r:Option Nat) (m:Nat) (P:IN) (ops:List Oper) (b:Array Nat) (K:Act->WP):IS->Holds->Act->WP
  | [],_,a,w=>K a w
  | i::rest,H,a,w=>
    ∃o,ops[i]?=some o/\
      if jk P ops i=true then
        (if Region.wanted o (yielded ops.toArray a.tmps)=true then
          o.wx r m P a w (λa' w'=>∃v,a'=a.put o.dst v/\(∀h∈fN b i H,h w')/\m9 r m P ops b K rest H a' w') zi
        else m9 r m P ops b K rest H (a.put o.dst undef) w)
      else ∃v hold,jW P ops o a w v/\(∀w',hold w'->jW P ops o a w' v)/\m9 r m P ops b K rest ((i,hold)::H) (a.put o.dst v) w
def DR{ops:List Oper}{b:Array Nat}{K:Act->WP}: ∀(l:IS) (H H':Holds) (a:Act) (w:IK),(∀p∈H',p∈H)->m9 r m P ops b K l H a w->m9 r m P ops b K l H' a w
  | [],_,_,_,_,_,h=>h
  | i::rest,H,H',a,w,hs,⟨o,ho,h⟩=>by refine⟨o,ho,?_⟩;by_cases he:jk P ops i=true;rw[iP he] at h⊢;by_cases hw:Region.wanted o (yielded ops.toArray a.tmps)=true;rw[iP hw] at h⊢;refine EC ?_ h;rintro a' w' ⟨v,rfl,hh,hc⟩;refine⟨v,rfl,λx hx=>hh x ?_,DR rest H H' _ _ hs hc⟩;simp only[fN,mem_map,IG] at hx⊢;obtain⟨p,⟨hp,hq⟩,rfl⟩:=hx;exact⟨p,⟨hs p hp,hq⟩,rfl⟩;rw[iN hw] at h⊢;exact DR rest H H' _ _ hs h;rw[iN he] at h⊢;obtain⟨v,hold,h1,h2,h3⟩:=h;refine⟨v,hold,h1,h2,DR rest _ _ _ _ ?_ h3⟩;intro p hp;rcases zG.1 hp with rfl|hp;simp;exact zN _ (hs p hp)
def Ac{ops:List Oper}{b:Array Nat}{K:Env->WP}{Q:Exit->Act->WP}{a0:Act}{wr:Nat->Bool}(hd:mA n ops=true)(hw:∀o∈ops,∀d,o.dst=some d->wr d=true)(hQ:∀e' a' w',K e' w'->Rel n ds e' a'->ip wr a0 a'->Q .normal a' w'): ∀(l:IS) (H HA:Holds) (e:Env) (a:Act) (w:IK),(∀x w',(∀h∈fN b x H,h w')->∀h∈fN b x HA,h w')-> k6 (nm P) P ops b K l H e w->Rel n ds e a->ip wr a0 a->m9 r m P ops b (Q .normal) l HA a w
  | [],H,HA,e,a,w,_,h,hr,hk=>hQ e a w h hr hk
  | i::rest,H,HA,e,a,w,hH,h,hr,hk=>by
    simp only[k6] at h;cases ho:ops[i]? with
    | none=>simp[ho] at h
    | some o=>
      simp only[ho] at h;have hmem:o∈ops:=yF ho;have hd1:=qnq hd hmem;have hw1:=hw o hmem;have hput:∀v,ip wr a0 (a.put o.dst v):=λv=>hk.trans (ip.put a o.dst v hw1) λt ht=>⟨ht,ht⟩;refine⟨o,ho,?_⟩;have hE:jk P ops i=match AV P o.op with | .zz=>true|_=>false:=by simp[jk,ho]
      have hHa:∀x w',(∀h∈fN b x H,h w')->∀h∈fN b x ((i,λ_=>True)::HA),h w':=by intro x w' hh g hg;simp only[fN,mem_map,IG,zG] at hg;obtain⟨p,⟨hp,hq⟩,rfl⟩:=hg;rcases hp with rfl|hp;trivial;exact hH x w' hh _ (by simp only[fN,mem_map,IG];exact⟨p,⟨hp,hq⟩,rfl⟩)
      rcases qjj h hr with ⟨e',hr',hwant,hy⟩|⟨e',hr',hwant,hno⟩;cases hc:AV P o.op with
      | pure=>
        simp only[hc] at hy hE;rw[iN (by simp[hE])];obtain⟨v,hv,hk'⟩:=qn9 hy hr';exact⟨v,λ_=>True,.inl ⟨hwant,hv w⟩,λw' _=>.inl ⟨hwant,hv w'⟩,Ac hd hw hQ rest H _ _ _ _ hHa hk' (hr'.put hd1 v) (hput v)⟩
      | read=>
        simp only[hc] at hy hE;rw[iN (by simp[hE])];obtain⟨v,hold,hv,hh,hk'⟩:=qoc hy hc hr';refine⟨v,hold,.inl ⟨hwant,hv⟩,λw' hw'=>.inl ⟨hwant,hh w' hw'⟩,Ac hd hw hQ rest ((i,hold)::H) _ _ _ _ ?_ hk' (hr'.put hd1 v) (hput v)⟩;intro x w' hh' g hg;simp only[fN,mem_map,IG,zG] at hg;obtain⟨p,⟨hp,hq⟩,rfl⟩:=hg;rcases hp with rfl|hp;exact hh' _ (by simp only[fN,mem_map,IG,zG];exact⟨(i,hold),⟨.inl rfl,hq⟩,rfl⟩);refine hH x w' (λg hg=>hh' g ?_) _ (by simp only[fN,mem_map,IG];exact⟨p,⟨hp,hq⟩,rfl⟩);simp only[fN,mem_map,IG,zG] at hg⊢;obtain⟨p,⟨hp,hq⟩,rfl⟩:=hg;exact⟨p,⟨.inr hp,hq⟩,rfl⟩
      | zz=>
        simp only[hc] at hy hE;rw[iP (by simp[hE]),iP hwant];refine EC ?_ (qpG zi hy hr');rintro a' w' ⟨v,rfl,hv⟩;have hv':(∀g∈fN b i H,g w')/\k6 (nm P) P ops b K rest H (e'.put o.dst v) w':=by split at hv;rename_i hl;exact⟨by simp[hl],hv⟩;rename_i l hl;exact⟨λg hg=>qlU hv.1 g hg,hv.2⟩
        exact⟨v,rfl,hH i w' hv'.1,Ac hd hw hQ rest H HA _ _ _ hH hv'.2 (hr'.put hd1 v) (hput v)⟩
      by_cases he:jk P ops i=true;rw[iP he,iN (by simp[hwant])];exact Ac hd hw hQ rest H HA _ _ _ hH hno (hr'.put hd1 undef) (hput undef);rw[iN he];exact⟨undef,λ_=>True,.inr ⟨hwant,rfl⟩,λ_ _=>.inr ⟨hwant,rfl⟩,Ac hd hw hQ rest H _ _ _ _ hHa hno (hr'.put hd1 undef) (hput undef)⟩
def jW.put{ops:List Oper}{o p:Oper}{a:Act}{w:IK}{v u:IL}(hs:Region.noSelect ops.toArray=true)(ho:o∈ops)(hap:∀d,p.dst=some d->d∉o.looksAt ops.toArray): jW P ops o (a.put p.dst u) w v↔jW P ops o a w v:=by
  have hsel:∀cs b,o.op≠.select cs b:=λcs b=>by obtain⟨j,hj,hjo⟩:=getElem_of_mem ho;exact Region.noSelect_spec hs j o cs b (by simp[<- hjo])
  unfold jW;rw[wanted_put o a p.dst u hap,execOp_put o hsel a p.dst u hap]
def qjf{ops:List Oper}{b:Array Nat}{K:Act->WP}(hs:Region.noSelect ops.toArray=true){x:Nat}{ox:Oper}(hx:ops[x]?=some ox)(hxe:jk P ops x=false): ∀(pre post:IS) (H:Holds) (a:Act) (w:IK),(∀y∈pre,jk P ops y=false/\my ops y x=true)->m9 r m P ops b K (pre++x::post) H a w-> ∃v,jW P ops ox a w v/\m9 r m P ops b K (pre++post) H (a.put ox.dst v) w
  | [],post,H,a,w,_,⟨o,ho,h⟩=>by
    obtain rfl:ox=o:=by rw[hx] at ho;exact yO ho
    rw[iN (by simp[hxe])] at h;obtain⟨v,hold,h1,_,h3⟩:=h;exact⟨v,h1,DR _ _ _ _ _ (λp hp=>zN _ hp) h3⟩
  | y::pre,post,H,a,w,hp,⟨oy,hoy,h⟩=>by obtain⟨hye,hyx⟩:=hp y oL;rw[iN (by simp[hye])] at h;obtain⟨v,hold,h1,h2,h3⟩:=h;obtain⟨u,hu,hc⟩:=qjf hs hx hxe pre post _ _ w (λz hz=>hp z (by simp[hz])) h3;simp only[my,hoy,hx] at hyx;obtain⟨a1,a2,a3⟩:=Oper.apart_spec hyx;refine⟨u,(jW.put hs (yF hx) a1).1 hu,oy,hoy,?_⟩;rw[iN (by simp[hye])];refine⟨v,hold,(jW.put hs (yF hoy) a3).2 h1,λw' hw'=>(jW.put hs (yF hoy) a3).2 (h2 w' hw'),?_⟩;rw[<- Act.put_comm a v u a2];exact hc
def qhB{ops:List Oper}{b:Array Nat}{K:Act->WP}(hs:Region.noSelect ops.toArray=true){x:Nat}{ox:Oper}(hx:ops[x]?=some ox)(hxe:jk P ops x=true): ∀(pre post:IS) (H:Holds) (a:Act) (w:IK),(∀y∈pre,jk P ops y=false/\my ops y x=true/\gK b y x=false)->m9 r m P ops b K (pre++x::post) H a w-> if Region.wanted ox (yielded ops.toArray a.tmps)=true then ox.wx r m P a w (λa' w'=>∃v,a'=a.put ox.dst v/\(∀h∈fN b x H,h w')/\m9 r m P ops b K (pre++post) H a' w') zi else m9 r m P ops b K (pre++post) H (a.put ox.dst undef) w
  | [],post,H,a,w,_,⟨o,ho,h⟩=>by
    obtain rfl:ox=o:=by rw[hx] at ho;exact yO ho
    rw[iP hxe] at h;exact h
  | y::pre,post,H,a,w,hp,⟨oy,hoy,h⟩=>by
    obtain⟨hye,hyx,hyb⟩:=hp y oL;rw[iN (by simp[hye])] at h;obtain⟨v,hold,h1,h2,h3⟩:=h;have ih:=qhB hs hx hxe pre post _ _ w (λz hz=>hp z (by simp[hz])) h3;simp only[my,hoy,hx] at hyx;obtain⟨a1,a2,a3⟩:=Oper.apart_spec hyx;have hmx:ox∈ops:=yF hx;have hsel:∀cs c,ox.op≠.select cs c:=λcs c=>by obtain⟨j,hj,hjo⟩:=getElem_of_mem hmx;exact Region.noSelect_spec hs j ox cs c (by simp[<- hjo])
    rw[wanted_put ox a oy.dst v a1] at ih;by_cases hwt:Region.wanted ox (yielded ops.toArray a.tmps)=true;rw[iP hwt] at ih⊢;unfold Oper.wx at ih⊢;rw[execOp_put ox hsel a oy.dst v a1] at ih;have key:∀(u:IL) (w':IK),(∀h∈fN b x ((y,hold)::H),h w')->m9 r m P ops b K (pre++post) ((y,hold)::H) ((a.put oy.dst v).put ox.dst u) w'->
        (∀h∈fN b x H,h w')/\m9 r m P ops b K (y::pre++post) H (a.put ox.dst u) w':=by
      intro u w' hh hc;have hy:hold w':=hh hold (by simp only[fN,mem_map,IG,zG];exact⟨(y,hold),⟨.inl rfl,by simpa[gK] using hyb⟩,rfl⟩);refine⟨λg hg=>hh g ?_,oy,hoy,?_⟩;simp only[fN,mem_map,IG,zG] at hg⊢;obtain⟨p,⟨hp1,hp2⟩,rfl⟩:=hg;exact⟨p,⟨.inr hp1,hp2⟩,rfl⟩;rw[iN (by simp[hye])];refine⟨v,hold,(jW.put hs (yF hoy) a3).2 (h2 w' hy),λw2 hw2=>(jW.put hs (yF hoy) a3).2 (h2 w2 hw2),?_⟩;rw[<- Act.put_comm a v u a2];exact hc
    exact qxx (N:=λa' w'=>(∀h∈fN b x ((y,hold)::H),h w')/\m9 r m P ops b K (pre++post) ((y,hold)::H) a' w')
      (M:=λa' w'=>(∀h∈fN b x H,h w')/\m9 r m P ops b K (y::pre++post) H a' w') ih (λu w' hh=>key u w' hh.1 hh.2)
    rw[iN hwt] at ih⊢;refine⟨oy,hoy,?_⟩;rw[iN (by simp[hye])];refine⟨v,hold,(jW.put hs (yF hoy) a3).2 h1,λw' hw'=>(jW.put hs (yF hoy) a3).2 (h2 w' hw'),?_⟩;rw[<- Act.put_comm a v undef a2];exact ih
def qAL{o:Oper}{a:Act}{w:IK}(h:o.wx r m P a w N zi):o.wx r m P a w N Q:=by
  unfold Oper.wx at h⊢;generalize (execOp a.eval o).run P w=x at h⊢;cases x with
  | ok x w'=>
    cases x<;>simp only[Oper.uponIn] at h⊢<;>first
      | exact h
      | (refine⟨h.1,CallsIn.mono h.2 ?_⟩
         intro e w'' he;cases e with
         | returned v=>exact he
         | panicked c=>exact he.elim
         | outgrown=>obtain⟨_,_,hh⟩:=he;exact hh.elim)
      | (refine⟨h.1,RoundIn.mono h.2 ?_⟩
         intro e w'' he;cases e with
         | returned v=>exact he
         | panicked c=>exact he.elim
         | outgrown=>obtain⟨_,_,hh⟩:=he;exact hh.elim)
  | halt x w'=>
    cases x<;>simp only[Oper.uponIn] at h⊢<;>first|exact h|exact h.elim
def qp2{x:Nat}{l:IS}(h:x∈l):∃pre post,l=pre++x::post/\x∉pre:=by
  induction l with
  | nil=>cases h
  | cons y l ih=>
    by_cases hy:y=x;subst hy;exact⟨[],l,rfl,oL⟩;have hx:x∈l:=by rcases zG.1 h with rfl|h;exact absurd rfl hy;exact h
    obtain⟨pre,post,e,hn⟩:=ih hx;exact⟨y::pre,post,by simp[e],by simp[hn];exact λh=>hy h.symm⟩
def qkw{ops:List Oper}{b:Array Nat}{x:Nat}:∀ {pre post:IS},ky P ops b (pre++x::post)=true->∀y∈pre,sJ P ops b y x=true\/∃z,z∈pre++x::post/\z≠x/\gK b z x=true
  | [],post,h,y,hy=>by cases hy
  | z::pre,post,h,y,hy=>by
    simp only[xK,ky,yA,Iz] at h;obtain⟨h1,h2⟩:=h;rcases zG.1 hy with rfl|hy;have:=h1 x oL;rw[Bool.or_eq_true] at this;rcases this with h|h;exact .inl h;simp only[sW,yA,any_eq_true] at h;obtain⟨_,_,q,hq,hqx,_,hb⟩:=h;refine .inr ⟨q,zN _ hq,λe=>?_,hb⟩;subst e;simp at hqx;rcases qkw h2 y hy with h|⟨q,hq,h3⟩;exact .inl h;exact .inr ⟨q,zN _ hq,h3⟩
def EY{ops:List Oper}{b:Array Nat}{x:Nat}:∀ {pre post:IS},ky P ops b (pre++x::post)=true->(jk P ops x=true->∀y∈pre,jk P ops y=false)->ky P ops b (pre++post)=true
  | [],post,h,_=>by simp only[xJ,ky,yA] at h;exact h.2
  | z::pre,post,h,he=>by
    simp only[xK,ky,yA,Iz] at h;obtain⟨h1,h2⟩:=h;simp only[xK,ky,yA,Iz];refine⟨λy hy=>?_,EY h2 λhx q hq=>he hx q (zN _ hq)⟩;have hy':y∈pre++x::post:=by rcases zD.1 hy with hy|hy;exact zH _ hy;exact zI _ (zN _ hy)
    have:=h1 y hy';rw[Bool.or_eq_true] at this⊢;rcases this with h|h;exact .inl h;right;simp only[sW,yA,any_eq_true] at h⊢;obtain⟨hz,hy2,q,hq,hqy,hqe,hqb⟩:=h;refine⟨hz,hy2,q,?_,hqy,hqe,hqb⟩;rcases zD.1 hq with hq|hq;exact zH _ hq;rcases zG.1 hq with rfl|hq;have:=he hqe z oL;rw[this] at hz;cases hz;exact zI _ hq
def BK{ops:List Oper}{b:Array Nat}{Q:Exit->Act->WP}(hs:Region.noSelect ops.toArray=true)(hnd:kU ops=true): ∀(L C:IS) (a:Act) (w:IK),L.Nodup->C.Nodup->(∀i,i∈L↔i∈C)->ky P ops b C=true->fR P ops L=fR P ops C-> (∀pre x post,L=pre++x::post->∀y∈post,gK b y x=false)-> m9 r m P ops b (Q .normal) C [] a w->wpOpsIn (Wd r) m P ops.toArray Q L a w
  | [],C,a,w,_,_,hm,_,_,_,h=>by
    have:C=[]:=eq_nil_iff_forall_not_mem.2 λi hi=>by have:=(hm i).2 hi;cases this
    subst this;exact h
  | x::L,C,a,w,hL,hC,hm,ho,he,hb,h=>by
    obtain⟨pre,post,rfl,hxp⟩:=qp2 ((hm x).1 oL);have hpre:=qkw ho;have hLn:=nodup_cons.1 hL;have hCn:(pre++post).Nodup:=by rw[yM] at hC⊢;obtain⟨c1,c2,c3⟩:=hC;exact⟨c1,(nodup_cons.1 c2).2,λp hp q hq=>c3 p hp q (zN _ hq)⟩
    have hxpost:x∉post:=(by rw[yM] at hC;exact (nodup_cons.1 hC.2.1).1);have hm':∀i,i∈L↔i∈pre++post:=by
      intro i;have:=hm i;simp only[zG,zD] at this⊢;constructor;intro hi;have hix:i≠x:=λe=>hLn.1 (e▸hi);rcases this.1 (.inr hi) with h|h|h;exact .inl h;exact absurd h hix;exact .inr h;intro hi;have hix:i≠x:=λe=>by subst e;rcases hi with h|h;exact hxp h;exact hxpost h
      rcases this.2 (by rcases hi with h|h;exact .inl h;exact .inr (.inr h)) with h|h;exact absurd h hix;exact h
    have hnb:∀y∈pre,gK b y x=false:=λy hy=>hb [] x L rfl y ((hm' y).2 (zH _ hy));have hb':∀p z q,L=p++z::q->∀y∈q,gK b y z=false:=λp z q hq=>hb (x::p) z q (by simp[hq]);have hap:∀y∈pre,my ops y x=true/\(jk P ops y=false\/jk P ops x=true):=by
      intro y hy;rcases hpre y hy with this|⟨z,hz,hzx,hzb⟩;simp only[sJ,hnb y hy,Bool.false_or,yA,Bool.or_eq_true,zT] at this;exact this;exfalso;have hzL:z∈L:=by rcases zG.1 ((hm z).2 hz) with h|h;exact absurd h hzx;exact h
      have:=hb [] x L rfl z hzL;rw[this] at hzb;cases hzb
    cases hox:ops[x]? with
    | none=>
      exfalso;cases pre with
      | nil=>obtain⟨o,ho2,_⟩:=h;rw[hox] at ho2;cases ho2
      | cons y pre=>
        have:=(hap y oL).1;simp only[my,hox] at this;split at this<;>simp_all
    | some ox=>
      have hox':ops.toArray[x]?=some ox:=(oP hox);simp only[wpOpsIn,hox'];cases hxe:jk P ops x with
      | false=>
        have ho':=EY ho (λh=>by rw[hxe] at h;cases h);have hpn:∀y∈pre,jk P ops y=false/\my ops y x=true:=λy hy=>by refine⟨?_,(hap y hy).1⟩;rcases (hap y hy).2 with h|h;exact h;rw[hxe] at h;cases h
        obtain⟨v,hv,hc⟩:=qjf hs hox hxe pre post [] a w hpn h;have he':fR P ops L=fR P ops (pre++post):=by simp only[fR,filter_cons,hxe,xC] at he⊢;simpa using he
        rcases hv with ⟨hw,hrun⟩|⟨hw,rfl⟩;rw[iP hw];exact GS (ER hnd (yF hox)) (Gz hrun (BK hs hnd L _ _ _ hLn.2 hCn hm' ho' he' hb' hc));rw[iN (by simp[hw])];refine⟨λ_ _=>trivial,?_⟩;exact BK hs hnd L _ _ _ hLn.2 hCn hm' ho' he' hb' hc
      | true=>
        have hpe:∀y∈pre,jk P ops y=false:=by
          have h1:fR P ops (x::L)=x::fR P ops L:=(by simp[fR,hxe]);have h2:fR P ops (pre++x::post)=fR P ops pre++x::fR P ops post:=(by simp[fR,hxe]);rw[h1,h2] at he;have:fR P ops pre=[]:=by
            cases hq:fR P ops pre with
            | nil=>rfl
            | cons z zs=>
              rw[hq] at he;simp at he;have hz:z∈fR P ops pre:=by rw[hq];simp
              have:=(mem_filter.1 hz).1;exact absurd (he.1▸this) hxp
          intro y hy;cases hye:jk P ops y with
          | false=>rfl
          | true=>
            have:y∈fR P ops pre:=mem_filter.2 ⟨hy,hye⟩;rw[‹fR P ops pre=[]›] at this;cases this
        have ho':=EY ho λ_=>hpe;have he':fR P ops L=fR P ops (pre++post):=by
          have h0:fR P ops pre=[]:=filter_eq_nil_iff.2 λy hy=>by simp[hpe y hy]
          have h1:fR P ops (x::L)=x::fR P ops L:=(by simp[fR,hxe]);have h2:fR P ops (pre++x::post)=fR P ops pre++x::fR P ops post:=(by simp[fR,hxe]);have h3:fR P ops (pre++post)=fR P ops pre++fR P ops post:=(by simp[fR]);rw[h1,h2,h0] at he;rw[h3,h0];simpa using he
        have hc:=qhB hs hox hxe pre post [] a w (λy hy=>⟨hpe y hy,(hap y hy).1,hnb y hy⟩) h;by_cases hw:Region.wanted ox (yielded ops.toArray a.tmps)=true;rw[iP hw] at hc⊢;refine GS (ER hnd (yF hox)) ?_;have:ox.wx r m P a w (wpOpsIn (Wd r) m P ops.toArray Q L) zi:=by refine EC ?_ hc;rintro a' w' ⟨v,rfl,_,hc'⟩;exact BK hs hnd L _ _ _ hLn.2 hCn hm' ho' he' hb' hc'
        exact qAL this;rw[iN hw] at hc⊢;refine⟨λ_ _=>trivial,?_⟩;exact BK hs hnd L _ _ _ hLn.2 hCn hm' ho' he' hb' hc
end
section
variable {P:IN} {n:Nat} {ds:List Deferred} {e:Env} {a:Act} {w:IK} {r:Option Nat} {m:Nat}
def qje(h:mO ops=true){i:Nat}{o:Oper}(ho:ops[i]?=some o){x:Edge}(hx:x∈o.after)(hb:Region.binds .any x=true):x.on<i:=by
 unfold mO at h;rw[Iz] at h;have hm:(o,i)∈ops.zipIdx:=by rw[mem_zipIdx_iff_getElem?];simpa using ho
 have:=h (o,i) hm;simp only[Array.all_eq_true'] at this;have:=this x hx;simp only[hb,Bool.not_true,Bool.false_or] at this;exact zO this
def qsh{b:Array Nat}(h:pK ops b=true){x y:Nat}{o:Oper}(ho:ops[x]?=some o)(hy:y<ops.length)(hb:gK b y x=true): ∃e∈o.after,Region.binds .any e=true/\(e.on=y\/gK b y e.on=true):=by
 unfold pK at h;rw[Iz] at h;have hm:(o,x)∈ops.zipIdx:=by rw[mem_zipIdx_iff_getElem?];simpa using ho
 have:=h (o,x) hm;rw[Iz] at this;have:=this y (oP hy);simp only[hb,Bool.not_true,Bool.false_or,Array.any_eq_true',yA,Bool.or_eq_true] at this;obtain⟨e,he,h1,h2⟩:=this;exact⟨e,he,h1,h2.imp yW id⟩
def yq (ops:List Oper) (listed:Nat->Prop) (L:IS):Prop:=
 ∀pre x post,L=pre++x::post->∀o,ops[x]?=some o->∀e∈o.after,Region.binds .any e=true->listed e.on\/e.on∈pre
def qmk{ops:List Oper}{b:Array Nat}{L:IS}(hB:mO ops=true)(hp:pK ops b=true)(hT:yq ops (λ_=>False) L)(hL:∀i∈L,i<ops.length)(y:Nat)(hy:y<ops.length): ∀(k x:Nat),x<k->∀pre post,L=pre++x::post->gK b y x=true->y∈pre
 | 0,x,hx,_,_,_,_=>by omega
 | k+1,x,hx,pre,post,hL',hb=>by
  have hxl:x<ops.length:=hL x (by simp[hL']);obtain⟨o,ho⟩:∃o,ops[x]?=some o:=⟨ops[x],by simp[hxl]⟩;obtain⟨e,he,hbi,h⟩:=qsh hp ho hy hb;have hin:=(hT pre x post hL' o ho e he hbi).resolve_left λh=>h;rcases h with rfl|h;exact hin;obtain⟨p1,p2,rfl,_⟩:=qp2 hin;have hlt:=qje hB ho he hbi;have:=qmk hB hp hT hL y hy k e.on oJ p1 (p2++x::post) (by simp[hL']) h;exact zH _ this
def qqm{ops:Array Oper}{i:Nat}:i∈Region.ready .any ops listed↔listed.getD i true=false/\∃o,ops[i]?=some o/\∀e∈o.after,Region.binds .any e=true->listed.getD e.on false=true:=by
 simp only[Region.ready,IG,mem_range,yA,zT];constructor;rintro⟨hi,h1,h2⟩;refine⟨h1,ops[i],by simp[hi],?_⟩;simp only[Array.getElem?_eq_getElem hi,Option.map_some,xW,Array.all_eq_true',Bool.or_eq_true,zT] at h2;intro e he hb;rcases h2 e he with h|h;rw[hb] at h;cases h;exact h;rintro⟨h1,o,ho,h2⟩;have hi:i<ops.size:=by rcases Nat.lt_or_ge i ops.size with h|h;exact h;simp[Array.getElem?_eq_none h] at ho
 refine⟨hi,h1,?_⟩;simp only[ho,Option.map_some,xW,Array.all_eq_true',Bool.or_eq_true,zT];intro e he;cases hb:Region.binds .any e with
 | false=>exact .inl rfl
 | true=>exact .inr (h2 e he hb)
def sR (listed:Array Bool) (k:Nat):Nat:=((List.range k).filter λi=>!listed.getD i true).length
def qz8{i:Nat}(hi:listed.getD i true=false):∀k,i<k->sR (listed.setIfInBounds i true) k+1=sR listed k:=by
 intro k;have hlt:i<listed.size:=by rcases Nat.lt_or_ge i listed.size with h|h;exact h;simp[Array.getElem?_eq_none h] at hi
 have heq:∀j,(listed.setIfInBounds i true).getD j true=if j=i then true else listed.getD j true:=by intro j;by_cases hj:j=i;subst hj;simp[hlt];rw[iN hj,getD_set_ne true λh=>hj h.symm]
 induction k with
 | zero=>intro h;omega
 | succ k ih=>
  intro hk;unfold sR at ih⊢;rw[range_succ,xC,xC,zF,zF];by_cases hki:k=i;subst hki;have h1:∀j∈List.range k,(!(listed.setIfInBounds k true).getD j true) = !listed.getD j true:=λj hj=>by rw[heq j,iN (by have:=mem_range.1 hj;omega)]
  rw[filter_congr h1];simp only[filter_cons,filter_nil,heq k,if_true,hi];simp;have:=ih oJ;simp only[filter_cons,filter_nil,heq k,iN hki];omega
def qz7{k:Nat}(h:0<sR listed k):∃i,i<k/\listed.getD i true=false/\∀j,j<i->listed.getD j true=true:=by
 induction k with
 | zero=>simp[sR] at h
 | succ k ih=>
  by_cases hk:0<sR listed k;obtain⟨i,h1,h2⟩:=ih hk;exact⟨i,oJ,h2⟩;have h0:sR listed k=0:=oJ;have hall:∀j,j<k->listed.getD j true=true:=by
   intro j hj;unfold sR at h0;have:(List.range k).filter (λi=>!listed.getD i true)=[]:=Iy h0;have:=filter_eq_nil_iff.1 this j (mem_range.2 hj);simpa using this
  refine⟨k,oJ,?_,hall⟩;unfold sR at h h0;rw[range_succ,xC,zF] at h;rw[h0] at h;simp only[filter_cons,filter_nil,xT] at h;cases hk:listed.getD k true with
  | false=>rfl
  | true=>rw[hk] at h;simp at h
def qyn(hB:mO ops=true):∀(fuel t:Nat) (listed:Array Bool),listed.size=ops.length->sR listed ops.length<=fuel-> ∃L,Region.linearise.go .any ops.toArray fuel t listed []=L/\L.Nodup/\(∀i,i∈L↔i<ops.length/\listed.getD i true=false)/\yq ops (λj=>listed.getD j false=true) L:=by
 intro fuel;induction fuel with
 | zero=>
  intro t listed hs hu;refine⟨[],by simp[Region.linearise.go],nodup_nil,λi=>⟨λh=>(by cases h),λ⟨h1,h2⟩=>?_⟩,?_⟩;exfalso;have:i∈(List.range ops.length).filter λi=>!listed.getD i true:=mem_filter.2 ⟨mem_range.2 h1,by simp[h2]⟩;have h0:((List.range ops.length).filter λi=>!listed.getD i true)=[]:=Iy (by unfold sR at hu;omega);rw[h0] at this;cases this;intro pre x post h;simp at h
 | succ fuel ih=>
  intro t listed hs hu;simp only[Region.linearise.go];have hrs:((List.range ops.toArray.size).filter λi=>!listed.getD i true&&((ops.toArray[i]?).map (·.after.all λe=>!Region.binds .any e||listed.getD e.on false)).getD false)=Region.ready .any ops.toArray listed:=rfl;rw[hrs];by_cases hr:Region.ready .any ops.toArray listed=[];have hnone:∀i,i<ops.length->listed.getD i true=true:=by
   intro i hi;cases hli:listed.getD i true with
   | true=>rfl
   | false=>
    exfalso;have hpos:0<sR listed ops.length:=by unfold sR;exact length_pos_of_mem (mem_filter.2 ⟨mem_range.2 hi,by simp[hli]⟩)
    obtain⟨j,hj,hj0,hjall⟩:=qz7 hpos;have:j∈Region.ready .any ops.toArray listed:=by
     rw[qqm];refine⟨hj0,ops[j],by simp[hj],λe he hb=>?_⟩;have hlt:=qje hB (show ops[j]?=some ops[j] by simp[hj]) he hb;have:=hjall e.on hlt;have hlt2:e.on<listed.size:=oJ;simp only[Array.getD_eq_getD_getElem?,Array.getElem?_eq_getElem hlt2,xW] at this⊢;exact this
    rw[hr] at this;cases this
  refine⟨[],by simp[hr],nodup_nil,λi=>⟨λh=>(by cases h),λ⟨h1,h2⟩=>?_⟩,?_⟩;rw[hnone i h1] at h2;cases h2;intro pre x post h;simp at h;have hlen:0<(Region.ready .any ops.toArray listed).length:=length_pos_iff.2 hr;have hmod:t%(Region.ready .any ops.toArray listed).length<(Region.ready .any ops.toArray listed).length:=Nat.mod_lt _ hlen;rw[zA hmod];simp only;generalize hi:(Region.ready .any ops.toArray listed)[t%(Region.ready .any ops.toArray listed).length]=i;have hmem:i∈Region.ready .any ops.toArray listed:=(by rw[<- hi];exact zW _);obtain⟨h1,o,ho,h2⟩:=qqm.1 hmem;have hilt:i<ops.length:=by rcases Nat.lt_or_ge i ops.length with h|h;exact h;simp[yS h] at ho
  rw[linearise_go_acc];have hu':=qz8 h1 ops.length hilt;obtain⟨L,hL,hnd,hm,hT⟩:=ih (t / (Region.ready .any ops.toArray listed).length) (listed.setIfInBounds i true) (oP hs) oJ;have heq:∀j,(listed.setIfInBounds i true).getD j true=if j=i then true else listed.getD j true:=by intro j;by_cases hj:j=i;subst hj;have:j<listed.size:=oJ;simp[this];rw[iN hj,getD_set_ne true λh=>hj h.symm]
  refine⟨i::L,by rw[hL];simp,nodup_cons.2 ⟨λhin=>?_,hnd⟩,λj=>?_,?_⟩;have:=((hm i).1 hin).2;rw[heq i,iP rfl] at this;cases this;rw[zG,hm j,heq j];constructor;rintro (rfl|⟨hj1,hj2⟩);exact⟨hilt,h1⟩;by_cases hji:j=i;rw[iP hji] at hj2;cases hj2;rw[iN hji] at hj2;exact⟨hj1,hj2⟩;rintro⟨hj1,hj2⟩;by_cases hji:j=i;exact .inl hji;exact .inr ⟨hj1,by rw[iN hji];exact hj2⟩;intro pre x post hsplit ox hox e he hb;cases pre with
  | nil=>
   simp only[xJ,List.cons.injEq] at hsplit;obtain⟨rfl,rfl⟩:=hsplit;have:o=ox:=by have ho':ops[i]?=some o:=(oP ho);rw[ho'] at hox;exact yO hox
   subst this;exact .inl (h2 e he hb)
  | cons z pre=>
   simp only[xK,List.cons.injEq] at hsplit;obtain⟨rfl,rfl⟩:=hsplit;rcases hT pre x post rfl ox hox e he hb with h|h;by_cases hei:e.on=i;exact .inr (by simp[hei]);rw[getD_set_ne false λh=>hei h.symm] at h;exact .inl h;exact .inr (zN _ h)
def qnm{b:Array Nat}:∀(k:Nat) (rem:IS) (seqs:List (IS)) (σ:IS),cover b k rem seqs=true->σ.Nodup->(∀i,i∈σ↔i∈rem)-> (∀pre x post,σ=pre++x::post->∀y∈post,gK b y x=false)->σ∈seqs
 | 0,rem,seqs,σ,h,_,hm,_=>by
  simp only[cover,yA,isEmpty_iff] at h;obtain⟨rfl,h2⟩:=h;have:σ=[]:=eq_nil_iff_forall_not_mem.2 λi hi=>by have:=(hm i).1 hi;cases this
  subst this;simpa using h2
 | k+1,rem,seqs,σ,h,hn,hm,hb=>by
  simp only[cover,Bool.or_eq_true,yA,isEmpty_iff,zT] at h;rcases h with ⟨rfl,h2⟩|⟨h1,h2⟩;have:σ=[]:=eq_nil_iff_forall_not_mem.2 λi hi=>by have:=(hm i).1 hi;cases this
  subst this;simpa using h2;cases σ with
  | nil=>
   exfalso;cases rem with
   | nil=>simp at h1
   | cons r rs=>have:=(hm r).2 oL;cases this
  | cons x σ=>
   have hx:x∈rem:=(hm x).1 oL;rw[Iz] at h2;have h3:=h2 x hx;have hno:(rem.any λy=>!(Nat.beq y x)&&gK b y x)=false:=by
    rw[any_eq_false];intro y hy;simp only[yA,zT,not_and];intro hyx;have hyne:y≠x:=λe=>by subst e;simp at hyx
    have hyσ:y∈σ:=by rcases zG.1 ((hm y).2 hy) with h|h;exact absurd h hyne;exact h
    simp[hb [] x σ rfl y hyσ]
   rw[hno,Bool.false_or] at h3;have hxn:=nodup_cons.1 hn;have hm':∀i,i∈σ↔i∈rem.filter λy=>!(Nat.beq y x):=by
    intro i;rw[IG];constructor;intro hi;refine⟨(hm i).1 (by simp[hi]),?_⟩;have:i≠x:=λe=>hxn.1 (e▸hi);cases hq:Nat.beq i x with
    | false=>rfl
    | true=>exact absurd (yW hq) this
    rintro⟨h5,h6⟩;rcases zG.1 ((hm i).2 h5) with rfl|h;simp at h6;exact h
   have:=qnm k _ _ σ h3 hxn.2 hm' (λpre z post hs=>hb (x::pre) z post (by simp[hs]));unfold ti at this;rw[mem_filterMap] at this;obtain⟨s,hs,hsσ⟩:=this;cases s with
   | nil=>cases hsσ
   | cons y t=>
    simp only at hsσ;cases hyx:Nat.beq y x with
    | true=>
     rw[hyx] at hsσ;simp only[cond_true,Option.some.injEq] at hsσ;have:=yW hyx;subst this;subst hsσ;exact hs
    | false=>rw[hyx] at hsσ;simp at hsσ
def qmf{ops:List Oper}{b:Array Nat}{K:Env->WP}:∀ {orders:List (IS)} {e:Env} {w:IK},pM (nm P) P ops b K orders e w->∀C∈orders,k6 (nm P) P ops b K C [] e w
 | [],_,_,_,_,h=>by cases h
 | [o],_,_,h,C,hC=>by simp at hC;subst hC;exact h
 | o::p::r,_,_,h,C,hC=>by rcases zG.1 hC with rfl|hC;exact h.1;exact qmf (orders:=p::r) h.2 C hC
def qu0{id:Nat}{orders:List (IS)}{K:Env->WP}{wr:Nat->Bool}(hm:P.follows .mixedOrders=true)(hok:sF P ops orders=true)(hnd:kU ops=true)(hd:mA n ops=true)(hw:∀o∈ops,∀d,o.dst=some d->wr d=true)(h:pM (nm P) P ops (pN ops) K orders e w.drew)(hr:Rel n ds e a)(hQ:∀e' a' w',K e' w'->Rel n ds e' a'->ip wr a a'->Q .normal a' w'): (Code.region id ops.toArray true).wpIn (Wd r) m P Q a w:=by
 refine wpIn_region_draw λt=>?_;simp only[Region.schedule,hm,Bool.true_or,if_true,Region.linearise];simp only[sF,yA,Iz] at hok;obtain⟨⟨⟨⟨hB,hp⟩,hns⟩,hall⟩,hcov⟩:=hok;have hun:sR (Array.replicate ops.toArray.size false) ops.length<=ops.toArray.size:=by unfold sR;refine zL (length_filter_le _ _) ?_;simp
 obtain⟨L,hL,hnd',hmem,hT⟩:=qyn hB ops.toArray.size t (Array.replicate ops.toArray.size false) oL hun;rw[hL];have hmem':∀i,i∈L↔i<ops.length:=by intro i;rw[hmem i];constructor;exact λh=>h.1;intro hi;exact⟨hi,by simp[hi]⟩
 have hT':yq ops (λ_=>False) L:=λpre x post hs o ho e he hb=>by rcases hT pre x post hs o ho e he hb with h|h;exfalso;simp only[Array.getD_eq_getD_getElem?,Array.getElem?_replicate] at h;split at h<;>simp at h;exact .inr h
 have hbef:∀pre x post,L=pre++x::post->∀y∈post,gK (pN ops) y x=false:=by
  intro pre x post hs y hy;cases hb:gK (pN ops) y x with
  | false=>rfl
  | true=>
   exfalso;have hyl:y<ops.length:=(hmem' y).1 (by simp[hs,hy]);have:=qmk hB hp hT' (λi hi=>(hmem' i).1 hi) y hyl (x+1) x oJ pre post hs hb;rw[hs] at hnd';rw[yM] at hnd';exact hnd'.2.2 y this y (zN _ hy) rfl
 have hσ:fR P ops L∈orders.map (fR P ops):=by
  refine qnm _ _ _ _ hcov (hnd'.filter _) (λi=>?_) ?_;simp only[fR,IG,mem_range,hmem'];intro pre x post hs y hy;have hlift:∀(l:IS) (f:Nat->Bool) (pre:IS) (x:Nat) (post:IS),l.filter f=pre++x::post->∃p q,l=p++x::q/\∀y∈post,y∈q:=by
   intro l f;induction l with
   | nil=>intro pre x post h;simp at h
   | cons z l ih=>
    intro pre x post h;by_cases hz:f z=true;rw[filter_cons_of_pos hz] at h;cases pre with
    | nil=>
     simp only[xJ,List.cons.injEq] at h;obtain⟨rfl,h⟩:=h;exact⟨[],l,rfl,λy hy=>(mem_filter.1 (h▸hy)).1⟩
    | cons p pre=>
     simp only[xK,List.cons.injEq] at h;obtain⟨rfl,h⟩:=h;obtain⟨p',q,hq,hh⟩:=ih pre x post h;exact⟨z::p',q,by simp[hq],hh⟩
    rw[filter_cons_of_neg hz] at h;obtain⟨p',q,hq,hh⟩:=ih pre x post h;exact⟨z::p',q,by simp[hq],hh⟩
  obtain⟨p,q,hpq,hh⟩:=hlift L _ pre x post hs;exact hbef p x q hpq y (hh y hy)
 obtain⟨C,hC,hCe⟩:=mem_map.1 hσ;have hCa:=hall C hC;obtain⟨⟨⟨c1,c2⟩,c3⟩,c4⟩:=hCa;have c3':=ql9 c3;have hCm:∀i,i∈C↔i<ops.length:=by intro i;constructor;intro hi;exact zO (c2 i hi);intro hi;obtain⟨j,hj,hij⟩:=any_eq_true.1 (c1 i (mem_range.2 hi));exact (yW hij)▸hj
 have hrun:=qmf h C hC;have hcan:=Ac (r:=r) (m:=m) (Q:=Q) (a0:=a) hd hw hQ C [] [] e a w.drew (λx w' h=>h) hrun hr (ip.refl _ _);exact BK hns hnd L C a w.drew hnd' c3' (λi=>by rw[hmem' i,hCm i]) c4 hCe.symm hbef hcan
def mH (r:Option Nat) (m:Nat) (P:IN) (c:Code) (Q:Exit->Act->WP) (a:Act) (w:IK):Prop:=
 ∀(b:Frame) (k:List Item) (cs:List Frame),b.roundOf=r->∃e a' w',Q e a' w'/\ArrivesIn (Machine.fenced P (Wd r)) P (lone (b.atR a (.code c::.inLoop c::k)) cs w) b k cs e a' w'
def mH.loop{c:Code}{Q:Exit->Act->WP}{a:Act}{w:IK}(h:mH r m P c Q a w):(Code.loop c).wpIn (Wd r) m P Q a w:=
 λb k cs hro hb hr=>let ⟨e,a',w',q,x⟩:=h b k cs hro;⟨e,a',w',q,.of_steps (.one (fenced_calm hb hr rfl) stepR_loop) x⟩
def mH.yb{c:Code}{a:Act}{w:IK}(h:c.wpIn (Wd r) m P (Exit.then (λa w=>mH r m P c Q a w) Q) a w):mH r m P c Q a w:=by
 intro b k cs hro;have hroom:(Wd r).room (cs.length+1+m):=λ_ hd=>by cases hd
 obtain⟨e,a₁,w₁,hq,harr⟩:=h b (.inLoop c::k) cs hro trivial hroom;cases e with
 | normal=>
  obtain⟨e₂,a₂,w₂,hq₂,harr₂⟩:=hq b k cs hro;exact⟨e₂,a₂,w₂,hq₂,.of_steps (StepsIn.trans harr (.one (fenced_calm (n:=m) trivial hroom rfl) stepR_inLoop)) harr₂⟩
 | exit id=>exact⟨_,a₁,w₁,hq,.pass (x:=.inLoop c) rfl (λ_ _=>.inl oL) harr⟩
 | goto l=>exact⟨_,a₁,w₁,hq,.pass (x:=.inLoop c) rfl (λ_ _=>.inl oL) harr⟩
 | ret=>exact⟨_,a₁,w₁,hq,.pass (x:=.inLoop c) rfl (λ_ _=>.inl oL) harr⟩
 | panic ch=>exact⟨_,a₁,w₁,hq,.pass (x:=.inLoop c) rfl (λ_ _=>.inl oL) harr⟩
 | outgrown=>exact⟨_,a₁,w₁,hq,.pass (x:=.inLoop c) rfl (λ_ _=>.inl oL) harr⟩
def PC.fits (P:IN) (n:Nat):PC->Bool
 | .skip=>true
 | .region _ ops=>mA n ops&&kU ops
 | .draw _ ops orders=>mA n ops&&sF P ops orders&&P.follows .mixedOrders&&kU ops
 | .seq a b=>a.fits P n&&b.fits P n
 | .join _ a b=>a.fits P n&&b.fits P n
 | .cond _ a b=>a.fits P n&&b.fits P n
 | .block _ b=>b.fits P n
 | .loop _ b=>b.fits P n
 | .exit _=>true
 | .ret=>true
 | .kz _ ps pts x y=>Nat.beq ps.length pts.length&&ps.all (Nat.blt · n)&&x.fits P n&&y.fits P n
 | .other _=>true
def jm.to:jm->Exit
 | .normal=>.normal
 | .exit id=>.exit id
 | .ret=>.ret
def qnC:∀(e1 e2:Env) (t:Nat),(e1++e2:Env).get t=match e1.get t with|some v=>some v|none=>e2.get t
 | [],e2,t=>rfl
 | (k,v)::r,e2,t=>by show Env.get ((k,v)::(r++e2)) t=_;rw[Env.kC,Env.kC];by_cases h:k=t;simp[h];simp[h,qnC r e2 t]
def GA:∀(e:Env) (wr:Nat->Bool) (t:Nat),(e.kH wr).get t=if wr t=true then none else e.get t
 | [],wr,t=>by simp[Env.kH,Env.get]
 | (k,v)::r,wr,t=>by
  simp only[Env.kH];cases hk:wr k with
  | true=>
   simp only[cond_true];rw[GA r wr t,Env.kC];by_cases h:k=t;subst h;simp[hk];simp[h]
  | false=>
   simp only[cond_false];rw[Env.kC,Env.kC,GA r wr t];by_cases h:k=t;subst h;simp[hk];simp[h]
def qrn:∀ {live:Live} {e:Env} {s:tF live},pp live e=some s->∀t v,(qX live s).get t=some v->e.get t=some v
 | [],_,_,_,t,v,h=>by simp[qX,Env.get] at h
 | [(k,y)],e,s,hp,t,v,h=>by simp only[pp] at hp;split at hp;rename_i u hu;simp only[qX] at h;rw[Env.kC] at h;by_cases hk:k=t;subst hk;simp only[if_true,Option.some.injEq] at h;rw[<- h,hu,iF.mq hp];simp[hk,Env.get] at h;cases hp
 | (k,y)::p::r,e,s,hp,t,v,h=>by simp only[pp] at hp;split at hp;rename_i u hu;split at hp;rename_i x hx;split at hp;rename_i z hz;cases hp;simp only[qX] at h;rw[Env.kC] at h;by_cases hk:k=t;subst hk;simp only[if_true,Option.some.injEq] at h;rw[<- h,hu,iF.mq hx];simp only[hk,if_false] at h;exact qrn (live:=p::r) hz t v h;cases hp;cases hp;cases hp
def EN{live:Live}{e0 e':Env}{a0 a':Act}{wr:Nat->Bool}{s:tF live}(h0:Rel n ds e0 a0)(h':Rel n ds e' a')(hk:ip wr a0 a')(hp:pp live e'=some s): Rel n ds (qX live s++e0.kH wr) a':=by refine⟨h'.size,h'.defers,λt v hv=>?_⟩;rw[qnC] at hv;split at hv;rename_i u hu;cases hv;exact h'.get t v (qrn hp t v hu);rw[GA] at hv;by_cases hw:wr t=true;simp[hw] at hv;rw[iN hw] at hv;rw[hk t (oP hw)];exact h0.get t v hv
def rj:∀(c:PC) (Q:og) (e:Env) (a:Act) (w:IK) (Q':Exit->Act->WP),c.fits P n=true->c.pt (nm P) P Q e w->Rel n ds e a-> (∀x e' a' w',Q x e' w'->Rel n ds e' a'->ip c.wr a a'->Q' x.to a' w')->c.erase.wpIn (Wd r) m P Q' a w
 | .skip,Q,e,a,w,Q',_,h,hr,hQ=>wpIn_skip (hQ .normal e a w h hr (ip.refl _ _))
 | .region id ops,Q,e,a,w,Q',hf,h,hr,hQ=>by simp only[PC.fits,yA] at hf;exact wpIn_region_list<|Gr (wr:=qE ops) ops e a w h hr hf.1 (λo ho d hd=>qp8 ho hd) (ip.refl _ _) (λe' a' w' hk hr' hkeep=>hQ .normal e' a' w' hk hr' hkeep) hf.2
 | .draw id ops orders,Q,e,a,w,Q',hf,h,hr,hQ=>by simp only[PC.fits,yA] at hf;exact qu0 (wr:=qE ops) hf.1.2 hf.1.1.2 hf.2 hf.1.1.1 (λo ho d hd=>qp8 ho hd) h hr (λe' a' w' hk hr' hkeep=>hQ .normal e' a' w' hk hr' hkeep)
 | .seq x y,Q,e,a,w,Q',hf,h,hr,hQ=>by
  simp only[PC.fits,yA] at hf;refine wpIn_seq (rj x _ e a w _ hf.1 h hr ?_);intro z e1 a1 w1 hz hr1 hk1;cases z with
  | normal=>
   refine rj y Q e1 a1 w1 Q' hf.2 hz hr1 λz e2 a2 w2 hz2 hr2 hk2=>hQ z e2 a2 w2 hz2 hr2 ?_;exact hk1.trans hk2 (λt ht=>by simpa[PC.wr] using ht)
  | exit id=>exact hQ (.exit id) e1 a1 w1 hz hr1 (hk1.mono (λt ht=>by simp[PC.wr] at ht;exact ht.1))
  | ret=>exact hQ .ret e1 a1 w1 hz hr1 (hk1.mono (λt ht=>by simp[PC.wr] at ht;exact ht.1))
 | .join live x y,Q,e,a,w,Q',hf,h,hr,hQ=>by
  simp only[PC.fits,yA] at hf;obtain⟨Mid,hX,hY⟩:=h;refine wpIn_seq (rj x _ e a w _ hf.1 hX hr ?_);intro z e1 a1 w1 hz hr1 hk1;cases z with
  | normal=>
   simp only[og.j6] at hz;split at hz;rename_i s hs;refine rj y Q _ a1 w1 Q' hf.2 (hY s w1 hz) (EN hr hr1 hk1 hs) λz e2 a2 w2 hz2 hr2 hk2=>hQ z e2 a2 w2 hz2 hr2 ?_;exact hk1.trans hk2 (λt ht=>by simpa[PC.wr] using ht);exact hz.elim
  | exit id=>exact hQ (.exit id) e1 a1 w1 hz hr1 (hk1.mono (λt ht=>by simp[PC.wr] at ht;exact ht.1))
  | ret=>exact hQ .ret e1 a1 w1 hz hr1 (hk1.mono (λt ht=>by simp[PC.wr] at ht;exact ht.1))
 | .cond c x y,Q,e,a,w,Q',hf,h,hr,hQ=>by
  simp only[PC.fits,yA] at hf;simp only[PC.pt] at h;split at h;rename_i b hb;cases b with
  | true=>exact wpIn_cond_true (hr.ev hb) (rj x Q e a w Q' hf.1 h hr (λz e1 a1 w1 hz hr1 hk1=>hQ z e1 a1 w1 hz hr1 (hk1.mono (λt ht=>by simp[PC.wr] at ht;exact ht.1))))
  | false=>exact wpIn_cond_false (hr.ev hb) (rj y Q e a w Q' hf.2 h hr (λz e1 a1 w1 hz hr1 hk1=>hQ z e1 a1 w1 hz hr1 (hk1.mono (λt ht=>by simp[PC.wr] at ht;exact ht.2))))
  exact h.elim
 | .block id body,Q,e,a,w,Q',hf,h,hr,hQ=>by
  refine wpIn_block (rj body _ e a w _ hf h hr ?_);intro z e1 a1 w1 hz hr1 hk1;cases z with
  | normal=>exact hQ .normal e1 a1 w1 hz hr1 hk1
  | exit j=>
   simp only at hz;simp only[jm.to,Exit.inBlock];cases hj:Nat.beq j id with
   | true=>
    rw[hj] at hz;rw[iP (yW hj)];exact hQ .normal e1 a1 w1 hz hr1 hk1
   | false=>
    rw[hj] at hz;rw[iN (λhq=>by subst hq;simp at hj)];exact hQ (.exit j) e1 a1 w1 hz hr1 hk1
  | ret=>exact hQ .ret e1 a1 w1 hz hr1 hk1
 | .loop live body,Q,e,a,w,Q',hf,h,hr,hQ=>by
  simp only[PC.pt] at h;split at h;rename_i s0 hs0;have key:=h (λs w1=>∀a1,Rel n ds (qX live s++e.kH λt=>body.wr t) a1->ip body.wr a a1->mH r m P body.erase Q' a1 w1) ?_;exact mH.loop (key a (EN hr hr (ip.refl _ _) hs0) (ip.refl _ _));intro s w1 hB a1 hr1 hk1;refine mH.yb (rj body _ _ a1 w1 _ hf hB hr1 ?_);intro z e2 a2 w2 hz hr2 hk2;have hk:ip body.wr a a2:=hk1.trans hk2 λt ht=>⟨ht,ht⟩;cases z with
  | normal=>
   simp only[og.j6] at hz;split at hz;rename_i s' hs';exact hz a2 (EN hr hr2 hk hs') hk;exact hz.elim
  | exit id=>exact hQ (.exit id) e2 a2 w2 hz hr2 hk
  | ret=>exact hQ .ret e2 a2 w2 hz hr2 hk
  exact h.elim
 | .exit id,Q,e,a,w,Q',_,h,hr,hQ=>wpIn_exit (hQ (.exit id) e a w h hr (ip.refl _ _))
 | .ret,Q,e,a,w,Q',_,h,hr,hQ=>wpIn_ret (hQ .ret e a w h hr (ip.refl _ _))
 | .kz ..,Q,e,a,w,Q',_,h,_,_=>h.elim
 | .other c,Q,e,a,w,Q',_,h,_,_=>h.elim
def tp:∀(c:Code) (as0:List vH),(jO c as0).1.erase=c
 | .skip,as0=>rfl
 | .region id ops draw,as0=>by
  cases draw with
  | false=>simp[jO,PC.erase]
  | true=>
   simp only[jO];split<;>simp[PC.erase]
 | .seq a b,as0=>by simp only[jO];split;simp only[PC.erase,tp a,tp b];simp only[PC.erase,tp a,tp b];simp only[PC.erase,tp a,tp b];rfl
 | .cond c a b,as0=>by simp only[jO,PC.erase,tp a,tp b]
 | .block id b,as0=>by simp only[jO,PC.erase,tp b]
 | .loop b,as0=>by simp only[jO];split;simp only[PC.erase,tp b];rfl
 | .rangeFunc f ps x y,as0=>by simp only[jO];split;simp only[PC.erase,tp x,tp y];rfl
 | .exit id,as0=>rfl
 | .scope b,as0=>rfl
 | .label l,as0=>rfl
 | .goto l,as0=>rfl
 | .ret,as0=>rfl
 | .refuse s,as0=>rfl
def qmo:∀ {ts:List iF} {vs:List IL} {x:jw ts},lq.unVals ts vs=some x->jw.vals ts x=vs
 | [],[],_,_=>rfl
 | [],_::_,_,h=>by simp[lq.unVals] at h
 | [t],[v],x,h=>by simp only[lq.unVals] at h;simp only[jw.vals,iF.mq h]
 | [t],[],x,h=>by simp[lq.unVals] at h
 | [t],_::_::_,x,h=>by simp[lq.unVals] at h
 | t::u::ts,[],x,h=>by simp[lq.unVals] at h
 | t::u::ts,v::vs,x,h=>by simp only[lq.unVals] at h;split at h;rename_i y hy;split at h;rename_i z hz;cases h;simp only[jw.vals,iF.mq hy,qmo hz];cases h;cases h
def qou{v:IL}{x:jw ts}(h:lq ts v=some x)(hv:ts=[]->v=.tuple #[]):gz ts x=v:=by
 match ts,x,h with
 | [],x,h=>simp[gz,hv rfl]
 | [t],x,h=>exact iF.mq h
 | t::u::ts,x,h=>
  cases v<;>simp only[lq] at h<;>try (cases h;done)
  rename_i vs;simp only[gz,qmo h]
def lw (tmps:Array IL):ResultVar->Sem IL
 | .tmp t=>pure (tmps.getD t undef)
 | .cell a t=>do loadVar t (<- asAddr (tmps.getD a undef))
def AS{R:List IL->Prop}:∀(rvs:List ResultVar) (e:Env) (a:Act) (w:IK) (K:List IL->Prop),lR (nm P) P rvs e w K->Rel n ds e a-> ∃vs,(rvs.mapM (lw a.tmps)).run P w=.ok vs w/\vs.length=rvs.length/\K vs
 | [],e,a,w,K,h,hr=>⟨[],oL,rfl,h⟩
 | .tmp t::r,e,a,w,K,h,hr=>by simp only[lR] at h;split at h;rename_i v hv;obtain⟨vs,h1,h2,h3⟩:=AS (R:=R) r e a w _ h hr;exact⟨v::vs,by simp[mapM_cons,lw,h1,<- hr.get t v hv],by simp[h2],h3⟩;exact h.elim
 | .cell ad t::r,e,a,w,K,h,hr=>by
  simp only[lR] at h;split at h;rename_i p hp;have hp':=hr.get _ _ hp;split at h;rename_i c hcell;cases hok:!nV P t with
  | true=>simp only[hok,cond_true] at h
  | false=>
   simp only[hok,cond_false] at h;obtain⟨hi1,hi2⟩:=tV hok;cases hag:fB P t with
   | true=>simp only[hag,cond_true] at h
   | false=>
    simp only[hag,cond_false] at h;obtain⟨y,hy,hk⟩:=h;obtain⟨vs,h1,h2,h3⟩:=AS (R:=R) r e a w _ hk hr;exact⟨_::vs,by simp[mapM_cons,lw,hp',asAddr,loadVar,wG hi2,hag,hy,h1],by simp[h2],h3⟩
  rename_i cs hcells;cases hg:fB P t&&Nat.beq (fh P t) cs.length with
  | false=>simp only[hg,cond_false] at h
  | true=>
   simp only[hg,cond_true] at h;simp only[yA] at hg;obtain⟨hag,hsz⟩:=hg;have hsz':=yW hsz;obtain⟨y,hy,hk⟩:=h;have hlen:(HL.mk cs y).length=cs.length:=HL.j5 cs y;have hsome:(P.info? t).isSome=true:=by
    cases hi:P.info? t with
    | none=>
     have:(P.underlying t).isSome=true:=ws hag;simp[Program.underlying,hi] at this
    | some i=>rfl
   obtain⟨vs,h1,h2,h3⟩:=AS (R:=R) r e a w _ hk hr;have hl:=BG (P:=P) (HL.mk cs y) 0 #[] w hy;rw[hlen,<- hsz'] at hl;exact⟨_::vs,by simp[mapM_cons,lw,hp',asAddr,loadVar,wG (ws hag),hag,rr hsome,loadCells,hl,h1],by simp[h2],h3⟩
  cases hag:fB P t with
  | false=>simp only[hag,cond_false] at h
  | true=>
   simp only[hag,cond_true] at h;obtain⟨y,hy,hk⟩:=h;have hsome:(P.info? t).isSome=true:=by
    cases hi:P.info? t with
    | none=>
     have:(P.underlying t).isSome=true:=ws hag;simp[Program.underlying,hi] at this
    | some i=>rfl
   obtain⟨vs,h1,h2,h3⟩:=AS (R:=R) r e a w _ hk hr;have hl:=BG (P:=P) y 0 #[] w hy.2;rw[hy.1] at hl;exact⟨_::vs,by simp[mapM_cons,lw,hp',asAddr,loadVar,wG (ws hag),hag,rr hsome,loadCells,hl,h1],by simp[h2],h3⟩
  exact h.elim
def qog(fn:Func)(tmps:Array IL):results fn tmps=(do let vs <- fn.results.mapM (lw tmps);Pure.pure (if h:vs.size=1 then vs[0] else .tuple vs)):=by unfold results;congr 1
def FM:∀(args:List IL) (i t:Nat) (v:IL),(mC i args).get t=some v->∃j,t=i+j/\args[j]?=some v
 | [],i,t,v,h=>by simp[mC,Env.get] at h
 | u::r,i,t,v,h=>by simp only[mC] at h;rw[Env.kC] at h;by_cases hi:i=t;subst hi;simp at h;exact⟨0,oL,by simp[h]⟩;simp[hi] at h;obtain⟨j,hj,hv⟩:=FM r (i+1) t v h;exact⟨j+1,oJ,by simpa using hv⟩
def mark (m:Option Nat):List Deferred:=match m with|none=>[] | some D=>[{ target:=.collected D,args:=#[] }]
def qoe:∀ {ts:List Tmp} {vs:List IL} {e:Env} {tm:Array IL},(ts.all (Nat.blt · n))=true->Rel n [] e { tmps:=tm,defers:=[] }->ts.length=vs.length-> Rel n [] (qT e ts vs) { tmps:=(ts.zip vs).foldl (λt (x:Tmp×IL)=>t.setIfInBounds x.1 x.2) tm,defers:=[] }
 | [],[],e,tm,_,h,_=>h
 | t::ts,v::vs,e,tm,hl,h,hlen=>by simp only[all_cons,yA] at hl;have hp:=h.put (dst:=some t) (λd hd=>by cases hd;exact zO hl.1) v;exact qoe (ts:=ts) (vs:=vs) hl.2 hp (oP hlen)
def qnY{x:jm}:∀ {l:List jm} {k i:Nat},rS x l k=some i->∃j,i=k+j/\l[j]?=some x
 | [],k,i,h=>by cases h
 | y::r,k,i,h=>by
  simp only[rS] at h;cases hs:x.same y with
  | true=>
   rw[hs] at h;simp only[cond_true,Option.some.injEq] at h;refine⟨0,oJ,?_⟩;cases x<;>cases y<;>simp only[jm.same,Bool.false_eq_true] at hs<;>try rfl
   simp[yW hs]
  | false=>
   rw[hs] at h;simp only[cond_false] at h;obtain⟨j,hj,hl⟩:=qnY h;exact⟨j+1,oJ,by simpa using hl⟩
def jm.code:jm->Code
 | .normal=>.skip
 | .ret=>.ret
 | .exit id=>.exit id
def EW:∀(ts:List iF) (x:jw ts),(jw.vals ts x).length=ts.length
 | [],_=>rfl
 | [_],_=>rfl
 | _::u::ts,x=>by simp only[jw.vals,yI,EW (u::ts) x.2]
def qxi{g:Operand}{ps:List Tmp}{pts:List iF}{x y:PC}{done:Nat->WP}{Qj:jm->Nat->WP}{v:IL}(hg:e.ev g=some v)(hps:ps.length=pts.length)(hlt:(ps.all (Nat.blt · n))=true)(hfx:x.fits P n=true)(hfy:y.fits P n=true)(hr:Rel n [] e a)(h:kz P v pts (oo (nm P) P x y ps pts e) done (y.outs.map λz=>λD w'=>Qj z D w') w){Q':Exit->Act->WP}(hdone:∀D w',done D w'->Q' .normal { a with defers:=mark (some D) } w')(hjump:∀z D w',Qj z D w'->z≠.normal->Q' z.to { a with defers:=mark (some D) } w')(hno:∀z∈y.outs,z≠.normal): (Code.rangeFunc g ps.toArray x.erase y.erase).wpIn (Wd none) m P Q' a w:=by
 obtain⟨f,lb,rfl,hb,h⟩:=h;refine wpIn_rangeFunc ?_;intro fn _;have hro:(Wd none).round=none:=rfl;rw[hro];obtain⟨rec,hrec⟩:∃rec:LoopState->Option Code->Loop,rec=λst pe=>{ state:=st,pending:=pe,fn,tmps:=a.tmps,params:=ps.toArray,assign:=x.erase,body:=y.erase,defers:=w.heap.size }:=⟨_,rfl⟩;let l:=w.heap.size+1;let J:Nat->Obj:=λi=>.loop (rec .done ((y.outs[i]?).map jm.code));let E:Nat->Obj:=λi=>.loop (rec .exhausted ((y.outs[i]?).map jm.code));have hy:pY P pts (oo (nm P) P x y ps pts e) l (.loop (rec .ready none)) (.loop (rec .busy none)) J:=by
  intro u W K hl hbody;unfold oo at hbody;refine .inr ⟨l,fn,(ps.zip (jw.vals pts u)).foldl (λt (x:Tmp×IL)=>t.setIfInBounds x.1 x.2) a.tmps,x.erase,y.erase,?_,?_⟩
  ·have hyl:=run_yield (P:=P) (args:=(jw.vals pts u).toArray) hl (by rw[hrec];simp[EW,hps]);rw[hrec] at hyl;simp only[Deferred.ofValue,pure_bind];simp only[invoke];have hz:∀(ps:List Tmp) (vs:List IL) (t0:Array IL),(ps.toArray.zip vs.toArray).foldl (λ(tmps:Array IL) (x:Tmp×IL)=>match x with|(t,a)=>tmps.setIfInBounds t a) t0=(ps.zip vs).foldl (λt (x:Tmp×IL)=>t.setIfInBounds x.1 x.2) t0:=by intro ps vs t0;rw[<- Array.foldl_toList];simp
   rw[hz] at hyl;first
    | exact hyl
    | simpa using hyl
  refine roundIn_of_wpIn (F:=Wd none) (n:=0) trivial ?_;have hrel:Rel n [] (qT e ps (jw.vals pts u)) { tmps:=(ps.zip (jw.vals pts u)).foldl (λt (x:Tmp×IL)=>t.setIfInBounds x.1 x.2) a.tmps,defers:=[] }:=
   qoe hlt ⟨hr.size,rfl,hr.get⟩ (by rw[EW,hps])
  refine rj (r:=some l) (m:=0) x _ _ _ W _ hfx hbody hrel ?_;intro z e' a' w' hz hr' _;cases z with
  | exit id=>exact hz.elim
  | ret=>exact hz.elim
  | normal=>
   obtain⟨hl1,hz⟩:=hz;refine⟨_,run_beginRound hl1 (by rw[hrec]),?_⟩;have hbz:({ rec .ready none with state:=.busy }:Loop)=rec .busy none:=(by rw[hrec]);rw[hbz];refine rj (r:=some l) (m:=0) y _ _ _ _ _ hfy hz hr' ?_;intro z e'' a'' w3 hz hr'' _;have fin:∀(jump:Option Code),w3.heap[l]?=some (.loop (rec .busy none))->(Instr.endRound l jump).run P w3=.ok (.bool jump.isNone) (w3.putObj l (.loop (rec (if jump.isNone then .ready else .done) jump))):=by
    intro jump hl3;have:=run_endRound (P:=P) jump hl3;rw[hrec] at this⊢;exact this
   have out:∀z:jm,(match rS z y.outs 0 with|some i=>w3.heap[l]?=some (.loop (rec .busy none))/\K false (w3.putObj l (J i))|none=>False)->
     ∃v w',(Instr.endRound l (some z.code)).run P w3=.ok v w'/\∃x:jw [iF.one Cell.bool],Ending.returned v=.returned (gz dp x)/\K x w':=by
    intro z hz;split at hz;rename_i i hi;obtain⟨j,hj,hjl⟩:=qnY hi;have:i=j:=oJ;subst this;refine⟨_,_,fin (some z.code) hz.1,false,rfl,?_⟩;have hJ:J i=.loop (rec (if (some z.code).isNone then .ready else .done) (some z.code)):=by show Obj.loop (rec .done ((y.outs[i]?).map jm.code))=_;rw[hjl];rfl
    rw[<- hJ];exact hz.2;exact hz.elim
   cases z with
   | normal=>exact⟨_,_,fin none hz.1,true,rfl,hz.2⟩
   | ret=>exact out .ret hz
   | exit id=>exact out (.exit id) hz
 have hcall:=h (.loop (rec .ready none)) (.loop (rec .busy none)) J E (.loop (rec .exhausted none)) hy;refine⟨l,[{ target:=.collected w.heap.size,args:=#[] }],(w.alloc (.deferred (some []))).alloc (.loop (rec .ready none)),{ target:=.fn (.func f) lb.toArray,args:=#[.func (.yield l) #[] #[]] },(w.alloc (.deferred (some []))).alloc (.loop (rec .ready none)),f,
  (.func (.yield l) #[] #[]::lb).toArray,(w.alloc (.deferred (some []))).alloc (.loop (rec .ready none)),?_,?_,λ_ _=>trivial,?_,E6 none,?_⟩
 rw[hrec];exact run_enterLoop_outer _ _ _ _ _;simp only[resolve,hr.ev hg];simp[Deferred.ofValue];rfl;simp[invoke,Av hb];refine qfT (Calls.mono hcall ?_);rintro e2 W2 ⟨u,rfl,hh⟩;rcases hh with ⟨hl,hd⟩|⟨i,k,hk,hl,hd⟩;refine⟨none,_,?_,by rw[hr.defers];exact hdone _ _ hd⟩;have:=run_endLoop (P:=P) hl (by rw[hrec];simp);rw[hrec] at this⊢;exact this;have hk':=hk;rw[zQ] at hk;cases hz:y.outs[i]? with
 | none=>rw[hz] at hk;cases hk
 | some z=>
  rw[hz] at hk;cases hk;have hJ:J i=.loop (rec .done (some z.code)):=by show Obj.loop (rec .done ((y.outs[i]?).map jm.code))=_;rw[hz];rfl
  have hE:E i=.loop (rec .exhausted (some z.code)):=(by show Obj.loop (rec .exhausted ((y.outs[i]?).map jm.code))=_;rw[hz];rfl);rw[hJ] at hl;rw[hE] at hd;have hzn:=hno z (yF hz);have hq:=hjump z _ _ hd hzn;refine⟨some z.code,W2.putObj (w.heap.size+1) (.loop (rec .exhausted (some z.code))),?_,?_⟩;have:=run_endLoop (P:=P) hl (by rw[hrec];simp);rw[hrec] at this⊢;exact this;rw[hr.defers];cases z with
  | normal=>exact absurd rfl hzn
  | ret=>exact wpIn_ret hq
  | exit id=>exact wpIn_exit hq
def PC.rU (c:PC):Bool:=c.outs.all λz=>match z with | .normal=>false|_=>true
def PC.pr:PC->Bool
 | .seq a b=>a.pr&&b.pr
 | .block _ b=>b.pr
 | .kz _ _ _ _ y=>y.rU
 | _=>true
def Es:∀(c:PC) (Q:Option Nat->og) (k:Option Nat) (e:Env) (a:Act) (w:IK) (Q':Exit->Act->WP),c.fits P n=true->c.pr=true->c.AY (nm P) P Q k e w->Rel n (mark k) e a-> (∀k' x e' a' w',Q k' x e' w'->Rel n (mark k') e' a'->Q' x.to a' w')->c.erase.wpIn (Wd none) m P Q' a w
 | .seq x y,Q,k,e,a,w,Q',hf,hs,h,hr,hQ=>by
  simp only[PC.fits,yA] at hf;simp only[PC.pr,yA] at hs;refine wpIn_seq (Es x _ k e a w _ hf.1 hs.1 h hr ?_);intro k' z e1 a1 w1 hz hr1;cases z with
  | normal=>exact Es y Q k' e1 a1 w1 Q' hf.2 hs.2 hz hr1 hQ
  | exit id=>exact hQ k' (.exit id) e1 a1 w1 hz hr1
  | ret=>exact hQ k' .ret e1 a1 w1 hz hr1
 | .block id body,Q,k,e,a,w,Q',hf,hs,h,hr,hQ=>by
  refine wpIn_block (Es body _ k e a w _ hf hs h hr ?_);intro k' z e1 a1 w1 hz hr1;cases z with
  | normal=>exact hQ k' .normal e1 a1 w1 hz hr1
  | exit j=>
   simp only at hz;simp only[jm.to,Exit.inBlock];cases hj:Nat.beq j id with
   | true=>
    rw[hj] at hz;rw[iP (yW hj)];exact hQ k' .normal e1 a1 w1 hz hr1
   | false=>
    rw[hj] at hz;rw[iN (λhq=>by subst hq;simp at hj)];exact hQ k' (.exit j) e1 a1 w1 hz hr1
  | ret=>exact hQ k' .ret e1 a1 w1 hz hr1
 | .kz g ps pts x y,Q,k,e,a,w,Q',hf,hs,h,hr,hQ=>by
  simp only[PC.fits,yA] at hf;simp only[PC.AY] at h;cases k with
  | some D=>exact h.elim
  | none=>
   simp only at h;split at h;exact h.elim;rename_i v hg;have h':kz P v pts (oo (nm P) P x y ps pts e) (λD w'=>Q (some D) .normal e w') (y.outs.map λz=>λD w'=>Q (some D) z e w') w:=h;refine qxi (done:=λD w'=>Q (some D) .normal e w') (Qj:=λz D w'=>Q (some D) z e w') hg (yW hf.1.1.1) hf.1.1.2 hf.1.2 hf.2 hr h' ?_ ?_ ?_;intro D w' hq;exact hQ (some D) .normal e _ w' hq ⟨hr.size,rfl,hr.get⟩;intro z D w' hq _;exact hQ (some D) z e _ w' hq ⟨hr.size,rfl,hr.get⟩;intro z hz hzn;subst hzn;simp only[PC.pr,PC.rU,Iz] at hs;have:=hs _ hz
   cases this
 | .skip,Q,k,e,a,w,Q',hf,_,h,hr,hQ=>rj .skip (Q k) e a w Q' hf h hr (λz e' a' w' hx hr' _=>hQ k z e' a' w' hx hr')
 | .region id ops,Q,k,e,a,w,Q',hf,_,h,hr,hQ=>rj (.region id ops) (Q k) e a w Q' hf h hr (λz e' a' w' hx hr' _=>hQ k z e' a' w' hx hr')
 | .draw id ops os,Q,k,e,a,w,Q',hf,_,h,hr,hQ=>rj (.draw id ops os) (Q k) e a w Q' hf h hr (λz e' a' w' hx hr' _=>hQ k z e' a' w' hx hr')
 | .join l x y,Q,k,e,a,w,Q',hf,_,h,hr,hQ=>rj (.join l x y) (Q k) e a w Q' hf h hr (λz e' a' w' hx hr' _=>hQ k z e' a' w' hx hr')
 | .cond c x y,Q,k,e,a,w,Q',hf,_,h,hr,hQ=>rj (.cond c x y) (Q k) e a w Q' hf h hr (λz e' a' w' hx hr' _=>hQ k z e' a' w' hx hr')
 | .loop l x,Q,k,e,a,w,Q',hf,_,h,hr,hQ=>rj (.loop l x) (Q k) e a w Q' hf h hr (λz e' a' w' hx hr' _=>hQ k z e' a' w' hx hr')
 | .exit id,Q,k,e,a,w,Q',hf,_,h,hr,hQ=>rj (.exit id) (Q k) e a w Q' hf h hr (λz e' a' w' hx hr' _=>hQ k z e' a' w' hx hr')
 | .ret,Q,k,e,a,w,Q',hf,_,h,hr,hQ=>rj .ret (Q k) e a w Q' hf h hr (λz e' a' w' hx hr' _=>hQ k z e' a' w' hx hr')
 | .other c,Q,k,e,a,w,Q',hf,_,h,hr,hQ=>h.elim
def que{K:jw ts->WP}{e':Env}{a':Act}(hts:(!ts.isEmpty||fn.results.isEmpty)=true)(hr':Rel n ds e' a')(hres:lR (nm P) P fn.results.toList e' w' λvs=>match lq ts (oneOf vs) with|some x=>K x w'|none=>False): ∃v,(results fn a'.tmps).run P w'=.ok v w'/\∃x:jw ts,Ending.returned v=.returned (gz ts x)/\K x w':=by
 obtain⟨vs,h1,h2,h3⟩:=AS (R:=λ_=>True) fn.results.toList e' a' w' _ hres hr';split at h3;rename_i y hy;refine⟨oneOf vs,?_,y,?_,h3⟩;rw[qog];have hmm:(fn.results.mapM (lw a'.tmps)).run P w'=.ok vs.toArray w':=by rw[Array.mapM_eq_mapM_toList];simp[h1]
 simp only[Iu,hmm,Iv];match vs with
 | []=>simp[oneOf]
 | [v]=>simp[oneOf]
 | v::u::vs=>simp[oneOf]
 rw[qou hy];intro h0;subst h0;simp at hts;have:vs=[]:=by have:vs.length=0:=(by rw[h2];simp[hts]);exact Iy this
 subst this;rfl;exact h3.elim
def qyE(hlen:args.length<=n):Rel n [] (mC 0 args) { tmps:=args.toArray++Array.replicate (n-args.toArray.size) undef,defers:=[] }:=by
 refine⟨by simp;omega,rfl,λt v hv=>?_⟩;obtain⟨j,hj,hv'⟩:=FM args 0 t v hv;have hjl:j<args.length:=by rcases Nat.lt_or_ge j args.length with h|h;exact h;simp[yS h] at hv'
 have:t=j:=oJ;subst this;rw[zA hjl] at hv';simp[Array.getElem?_append,hjl];exact yO hv'
def qoE{w:IK}{K:jw ts->WP}(hf:P.funcs[f]?=some fn)(hfit:(match fn.body with|some c=>(jO c an).1.fits P fn.ntmps&&(jO c an).1.pr&&Nat.ble args.length fn.ntmps&&(!ts.isEmpty||fn.results.isEmpty)|none=>false)=true)(h:uB (nm P) P fn an ts args K w):call P f args ts w K:=by
 unfold uB at h;split at h;rename_i c hb;simp only[hb,yA] at hfit;obtain⟨⟨⟨hfit,hfs⟩,hlen⟩,hts⟩:=hfit;have hlen':args.length<=fn.ntmps:=zO hlen;unfold call;refine callsIn_wide.1 (callsIn_of_wp_marks (F:=Wd none) (n:=0) hf hb trivial ?_);have hsp:=Es (m:=0) (n:=fn.ntmps) (jO c an).1 _ none _ _ w (bodyPostM (Wd none) 0 P fn λe w'=>∃x:jw ts,e=.returned (gz ts x)/\K x w') hfit hfs h (qyE hlen') ?_;rw[tp] at hsp;exact hsp;intro k x e' a' w' hx hr';have fin:(wP (nm P) k w' λw2=>lR (nm P) P fn.results.toList e' w2 λvs=>match lq ts (oneOf vs) with|some x=>K x w2|none=>False)->
   LeavesInM (Wd none) 0 P fn a'.tmps (λe w'=>∃x:jw ts,e=.returned (gz ts x)/\K x w') a'.defers .returning w':=by
  intro hu;rw[hr'.defers];cases k with
  | none=>
   obtain⟨v,h1,h2⟩:=que hts hr' hu;exact⟨v,h1,h2⟩
  | some D=>
   obtain⟨hD,hu⟩:=hu;obtain⟨v,h1,h2⟩:=que hts hr' hu;exact⟨oL,.inl ⟨D,_,rfl,run_takeDeferred hD,v,h1,h2⟩⟩
 cases x with
 | normal=>exact fin hx
 | ret=>exact fin hx
 | exit id=>exact hx.elim
 exact h.elim
def qqC{w:IK}{K:jw ts->WP}(hf:P.funcs[f]?=some fn)(hfit:(match fn.body with|some c=>(jO c an).1.fits P fn.ntmps&&Nat.ble args.length fn.ntmps&&(!ts.isEmpty||fn.results.isEmpty)|none=>false)=true)(h:xi (nm P) P fn an ts args K w):call P f args ts w K:=by
 unfold xi at h;split at h;rename_i c hb;simp only[hb,yA] at hfit;obtain⟨⟨hfit,hlen⟩,hts⟩:=hfit;have hlen':args.length<=fn.ntmps:=zO hlen;unfold call;refine callsIn_wide.1 (callsIn_of_wp (F:=Wd none) (n:=0) hf hb trivial ?_);have hrel:Rel fn.ntmps [] (mC 0 args) { tmps:=args.toArray++Array.replicate (fn.ntmps-args.toArray.size) undef,defers:=[] }:=by
  refine⟨by simp;omega,rfl,λt v hv=>?_⟩;obtain⟨j,hj,hv'⟩:=FM args 0 t v hv;have hjl:j<args.length:=by rcases Nat.lt_or_ge j args.length with h|h;exact h;simp[yS h] at hv'
  have:t=j:=oJ;subst this;rw[zA hjl] at hv';simp[Array.getElem?_append,hjl];exact yO hv'
 have hs:=rj (r:=none) (m:=0) (n:=fn.ntmps) (jO c an).1 _ _ _ w (bodyPost P fn λe w'=>∃x:jw ts,e=.returned (gz ts x)/\K x w') hfit h hrel ?_;rw[tp] at hs;exact hs;intro x e' a' w' hx hr' _;have fin:∀(hres:lR (nm P) P fn.results.toList e' w' λvs=>match lq ts (oneOf vs) with|some x=>K x w'|none=>False),
   a'.defers=[]/\∃v,(results fn a'.tmps).run P w'=.ok v w'/\∃x:jw ts,Ending.returned v=.returned (gz ts x)/\K x w':=by
  intro hres;obtain⟨vs,h1,h2,h3⟩:=AS (R:=λ_=>True) fn.results.toList e' a' w' _ hres hr';split at h3;rename_i y hy;refine⟨hr'.defers,oneOf vs,?_,y,?_,h3⟩;rw[qog];have hmm:(fn.results.mapM (lw a'.tmps)).run P w'=.ok vs.toArray w':=by rw[Array.mapM_eq_mapM_toList];simp[h1]
  simp only[Iu,hmm,Iv];match vs with
  | []=>simp[oneOf]
  | [v]=>simp[oneOf]
  | v::u::vs=>simp[oneOf]
  rw[qou hy];intro h0;subst h0;simp at hts;have:vs=[]:=by have:vs.length=0:=(by rw[h2];simp[hts]);exact Iy this
  subst this;rfl;exact h3.elim
 cases x with
 | normal=>exact fin hx
 | ret=>exact fin hx
 | exit id=>exact hx.elim
 exact h.elim
def eV{w:IK}{K:jw ts->WP}{F:Prop}(hf:P.funcs[f]?=some fn)(hF:F)(hfit:(match fn.body with|some c=>(jO c an).1.fits P fn.ntmps&&Nat.ble args.length fn.ntmps&&(!ts.isEmpty||fn.results.isEmpty)|none=>false)=true:=by kernel_rfl)(e:xi (nm P) P fn an ts args K w=F:=by kernel_rfl):call P f args ts w K:=qqC hf hfit (e.mpr hF)
def Ip{w:IK}{K:jw ts->WP}{F:Prop}(an:List vH)(hf:P.funcs[f]?=some fn)(hF:F)(hfit:(match fn.body with|some c=>(jO c an).1.fits P fn.ntmps&&Nat.ble args.length fn.ntmps&&(!ts.isEmpty||fn.results.isEmpty)|none=>false)=true:=by kernel_rfl)(e:xi (nm P) P fn an ts args K w=F:=by kernel_rfl):call P f args ts w K:=eV hf hF hfit e
def Cc{w:IK}{K:jw ts->WP}{F:Prop}(hf:P.funcs[f]?=some fn)(hF:F)(hfit:(match fn.body with|some c=>(jO c an).1.fits P fn.ntmps&&(jO c an).1.pr&&Nat.ble args.length fn.ntmps&&(!ts.isEmpty||fn.results.isEmpty)|none=>false)=true:=by kernel_rfl)(e:uB (nm P) P fn an ts args K w=F:=by kernel_rfl):call P f args ts w K:=qoE hf hfit (e.mpr hF)
end
section
def uu{S:Type}{X:(S->WP)->Prop}{Y:S->WP}(s:S)(w:IK)(hX:∀M:S->WP,M s w->X M)(hY:Y s w):join S X Y:=
 ⟨λs' w'=>s'=s/\w'=w,hX _ ⟨rfl,rfl⟩,by rintro _ _ ⟨rfl,rfl⟩;exact hY⟩
def iC{S:Type}{X:(S->WP)->Prop}{Y:S->WP}(Mid:S->WP)(hX:X Mid)(hY:∀s w,Mid s w->Y s w):join S X Y:=⟨Mid,hX,hY⟩
@[simp] theorem qA3{S:Type}{s:S}{w:IK}{Y:S->WP}:join S (λX=>X s w) Y↔Y s w:=
 ⟨λ⟨_,h1,h2⟩=>h2 _ _ h1,λh=>uu s w (λ_ h=>h) h⟩
def jv{S:Type}{B:(S->WP)->S->WP}{s:S}{w:IK}(I:S->WP)(m:S->IK->Nat)(h0:I s w)(step:∀s w,I s w->∀X:S->WP,(∀s' w',I s' w'->m s' w'<m s w->X s' w')->B X s w):loop S B s w:=by
 intro J hJ;have key:∀k s w,m s w=k->I s w->J s w:=by
  intro k;induction k using Nat.strongRecOn with
  | _ k ih=>
   intro s w hk hI;exact hJ s w (step s w hI J λs' w' hI' hlt=>ih (m s' w') (hk▸hlt) s' w' rfl hI')
 exact key _ s w rfl h0
def eB{b:Bool}{A B:Prop}(h1:b=true->A)(h2:b=false->B):cond b A B:=by
 cases b with
 | true=>exact h1 rfl
 | false=>exact h2 rfl
def cD{p:Prop}[Decidable p]{X Y:Prop}(h:p->X)(g:¬p->Y):cond (decide p) X Y:=eB (λe=>h (zC e)) (λe=>g (zB e))
def qu{p K:Prop}(h:p)(k:K):iH p K:=⟨h,k⟩
def fO{a:Addr}{K:Addr->Prop}(h:K a):nn (some a) K:=h
def oX{c:Cell}{a:Addr}{w:IK}{K:c.El->Prop}(x:c.El)(h:w.cell? a=some (c.mk x))(k:K x):ld c a w K:=⟨x,h,k⟩
def DE{o:Obj}{w:IK}{K:Nat->WP}(k:K w.heap.size (w.alloc o)):new o w K:=k
structure ol (w w':IK):Prop where
 heap:w'.heap=w.heap
 os:w'.os=w.os
 tape:w'.tape=w.tape
 output:w'.output=w.output
def ol.refl(w:IK):ol w w:=⟨rfl,rfl,rfl,rfl⟩
def ol.drew{w w':IK}(h:ol w w'):ol w w'.drew:=⟨h.heap,h.os,h.tape,h.output⟩
structure Fr (S:IS) (w w':IK):Prop where
 os:w'.os=w.os
 tape:w'.tape=w.tape
 output:w'.output=w.output
 size:w.heap.size<=w'.heap.size
 block:∀ i,i<w.heap.size->i∉S->w'.heap[i]?=w.heap[i]?
def Fr.refl(S:IS)(w:IK):Fr S w w:=⟨rfl,rfl,rfl,zM _,λ_ _ _=>rfl⟩
def Fr.of_same{w:IK}(h:ol w w'):Fr S w w':=⟨h.os,h.tape,h.output,by rw[h.heap];exact zM _,λ_ _ _=>by rw[h.heap]⟩
def Fr.trans{S:IS}{a b c:IK}(h:Fr S a b)(k:Fr S b c):Fr S a c:=
 ⟨k.os.trans h.os,k.tape.trans h.tape,k.output.trans h.output,zL h.size k.size,λi hi hs=>(k.block i (yC hi h.size) hs).trans (h.block i hi hs)⟩
def Fr.mono{T:IS}{a b:IK}(h:Fr S a b)(hs:∀i,i∈S->i<a.heap.size->i∈T):Fr T a b:=
 ⟨h.os,h.tape,h.output,h.size,λi hi ht=>h.block i hi λhS=>ht (hs i hS hi)⟩
def Fr.J0{T:IS}{a b c:IK}(h:Fr S a b)(k:Fr T b c)(ht:∀i,i∈T->i∈S\/a.heap.size<=i):Fr S a c:=
 ⟨k.os.trans h.os,k.tape.trans h.tape,k.output.trans h.output,zL h.size k.size,λi hi hs=>(k.block i (yC hi h.size) λhT=>by rcases ht i hT with h'|h';exact hs h';omega).trans (h.block i hi hs)⟩
def Fr.drew{S:IS}{a b:IK}(h:Fr S a b):Fr S a b.drew:=⟨h.os,h.tape,h.output,h.size,h.block⟩
def Fr.alloc{S:IS}{a b:IK}(h:Fr S a b)(o:Obj):Fr S a (b.alloc o):=
 ⟨h.os,h.tape,h.output,by have:=h.size;simp;omega,λi hi hs=>by rw[<- h.block i hi hs];show (b.heap.push o)[i]?=_;rw[Array.getElem?_push,iN (by have:=h.size;omega)]⟩
def xp(w:IK)(o:Obj)(i:Nat):(w.alloc o).heap[i]?=if i=w.heap.size then some o else w.heap[i]?:=by show (w.heap.push o)[i]?=_;rw[Array.getElem?_push]
def iz (w:IK) (b:Nat) (o:Obj):IK:={ w with heap:=w.heap.setIfInBounds b o }
def ux(w:IK)(b:Nat)(o:Obj):(iz w b o).heap.size=w.heap.size:=by simp[iz]
def pf(w:IK)(b:Nat)(o:Obj)(i:Nat)(h:b<w.heap.size):(iz w b o).heap[i]?=if i=b then some o else w.heap[i]?:=by show (w.heap.setIfInBounds b o)[i]?=_;rw[II];by_cases hi:b=i;subst hi;simp[h];rw[iN hi,iN λe=>hi e.symm]
def eO{w:IK}{b:Nat}{o:Obj}(h:w.heap[b]?=some o):b<w.heap.size:=by rcases Nat.lt_or_ge b w.heap.size with hl|hl;exact hl;rw[Array.getElem?_eq_none hl] at h;cases h
def jC{w:IK}{b off:Nat}(h:w.heap[b]?=some (.cells cs T fr)):w.cell? (dk b off)=cs[off]?:=by simp[World.cell?,h]
def qmg{w:IK}{b off:Nat}(h:w.heap[b]?=some (.cells cs T fr))(v:IL): w.setCell (dk b off) v=iz w b (.cells (cs.setIfInBounds off v) T fr):=by have hb:=eO h;unfold World.setCell iz;congr 1;apply Array.ext_getElem?;intro i;rw[Array.getElem?_modify,II];by_cases hi:b=i;subst hi;rw[iP rfl,iP rfl,iP hb,h];rfl;simp[hi]
def quk(w:IK)(b:Nat)(o o':Obj):iz (iz w b o) b o'=iz w b o':=by unfold iz;congr 1;apply Array.ext_getElem?;intro i;simp only[II,Array.size_setIfInBounds];by_cases hi:b=i<;>simp[hi]
def Addr.j3(b o n:Nat):Addr.add (dk b o) n=⟨b,o+n,none⟩:=Go.Addr.add_lit b o n
def Ax{w:IK}{b:Nat}{T:IM}:∀(vs:List IL) (off k:Nat) (cs:Array IL) (w:IK) (K:WP),w.heap[b]?=some (.c cs T)->(vs.all Value.oneCell')=true->off+k+vs.length<=cs.size-> K (iz w b (.c (en cs (off+k) vs) T))->EE (dk b off) k vs w K
 | [],off,k,cs,w,K,hb,_,_,hk=>by
  have:iz w b (.c (en cs (off+k) []) T)=w:=by
   unfold iz en;have:w.heap.setIfInBounds b (.c cs T)=w.heap:=by apply Array.ext_getElem?;intro i;rw[II];by_cases hi:b=i;subst hi;rw[iP rfl,iP (eO hb),hb];simp[hi]
   rw[this]
  rw[this] at hk;exact hk
 | v::vs,off,k,cs,w,K,hb,h1,hl,hk=>by
  simp only[all_cons,yA] at h1;simp only[yI] at hl;have hlt:off+k<cs.size:=oJ;refine⟨⟨h1.1,⟨cs[off+k],?_⟩,?_⟩,?_⟩;rw[Addr.j3,jC hb];simp[hlt];rw[Addr.j3];simp[World.frozen?,hb];rw[Addr.j3,qmg hb];have hb':(iz w b (.c (cs.setIfInBounds (off+k) v) T)).heap[b]?=some (.c (cs.setIfInBounds (off+k) v) T):=by rw[pf _ _ _ _ (eO hb),iP rfl]
  refine Ax (w:=w) vs off (k+1) _ _ K hb' h1.2 oO ?_;rw[quk];exact hk
def vI{w:IK}{b:Nat}{T:IM}{fr:I1}{cs:Array IL}(hb:w.heap[b]?=some (.cells cs T fr)):∀(vs:List IL) (off k:Nat),(cs.toList.drop (off+k)).take vs.length=vs->jH w (dk b off) k vs
 | [],_,_,_=>trivial
 | [v],off,k,h=>by
  show w.cell? _=_;rw[Addr.j3,jC hb];have:(cs.toList.drop (off+k))[0]?=some v:=by
   have:=IH (·[0]?) h;simpa using this
  simpa using this
 | v::u::vs,off,k,h=>by
  have hv:(cs.toList.drop (off+k))[0]?=some v:=by
   have:=IH (·[0]?) h;simpa using this
  refine⟨?_,vI hb (u::vs) off (k+1) ?_⟩;rw[Addr.j3,jC hb];simpa using hv;have:=IH (List.drop 1) h;simp only[drop_succ_cons,xG,yI] at this;rw[drop_take,xE] at this;exact this
structure ef (S:IS) (w0 w:IK) (L:IW):Prop where
 eY:∀ p∈L,w.heap[p.1]?=some p.2
 nodup:(L.map (·.1)).Nodup
 fr:Fr S w0 w
 own:∀ p∈L,p.1∈S\/w0.heap.size<=p.1
variable {S:IS} {w0 w:IK} {L:IW}
def ef.start(S:IS)(w:IK):ef S w w []:=⟨oL,oL,.refl _ _,oL⟩
def ef.at(h:ef S w0 w L){i:Nat}{p:Nat×Obj}(hi:L[i]?=some p):w.heap[p.1]?=some p.2:=h.eY p (yF hi)
def ef.drew(h:ef S w0 w L):ef S w0 w.drew L:=⟨h.eY,h.nodup,h.fr.drew,h.own⟩
def ef.j1{T:IS}(h:ef S w0 w L)(k:Fr T w w')(ht:∀i∈T,i∈S\/w0.heap.size<=i)(hd:∀p∈L,p.1∉T):ef S w0 w' L:=
 ⟨λp hp=>by rw[k.block p.1 (eO (h.eY p hp)) (hd p hp)];exact h.eY p hp,h.nodup,h.fr.J0 k ht,h.own⟩
def ef.q8(h:ef S w0 w L)(k:Fr [] w w'):ef S w0 w' L:=h.j1 k oL oL
def ef.alloc(h:ef S w0 w L)(o:Obj):ef S w0 (w.alloc o) ((w.heap.size,o)::L):=by
 refine⟨λp hp=>?_,?_,h.fr.alloc o,λp hp=>?_⟩;rcases zG.1 hp with rfl|hp;rw[xp,iP rfl];have:=eO (h.eY p hp);rw[xp,iN];exact h.eY p hp;simp only[xP];refine nodup_cons.2 ⟨λhm=>?_,h.nodup⟩;obtain⟨p,hp,he⟩:=mem_map.1 hm;have:=eO (h.eY p hp);omega;rcases zG.1 hp with rfl|hp;exact .inr h.fr.size;exact h.own p hp
def ef.new{o:Obj}{K:Nat->WP}(h:ef S w0 w L)(k:∀b w',b=w.heap.size->w'.heap.size=w.heap.size+1->ef S w0 w' ((b,o)::L)->K b w'):Pt.new o w K:=
 k _ _ rfl oL (h.alloc o)
def ef.ld{c:Cell}{b off:Nat}{cs:Array IL}{T:IM}{fr:I1}{K:c.El->Prop}(h:ef S w0 w L)(i:Nat)(hi:L[i]?=some (b,.cells cs T fr))(x:c.El)(hx:cs[off]?=some (c.mk x))(k:K x):Pt.ld c (dk b off) w K:=
 ⟨x,by rw[jC (h.at hi)];exact hx,k⟩
def IQ{c:Cell}{b off:Nat}{cs:Array IL}{T:IM}{fr:I1}{K:c.El->Prop}(h:ef S w0 w L)(i:Nat)(hi:L[i]?=some (b,.cells cs T fr))(x:c.El)(k:K x)(hx:cs[off]?=some (c.mk x):=by exact rfl):Pt.ld c (dk b off) w K:=ef.ld h i hi x hx k
def ef.dX{cl:List Cell}{b off:Nat}{cs:Array IL}{T:IM}{fr:I1}{K:HL cl->Prop}(h:ef S w0 w L)(i:Nat)(hi:L[i]?=some (b,.cells cs T fr))(x:HL cl)(hx:(cs.toList.drop off).take cl.length=HL.mk cl x)(k:K x):Pt.dX cl (dk b off) w K:=
 ⟨x,vI (h.at hi) _ off 0 (by rw[HL.j5];exact hx),k⟩
def IR{cl:List Cell}{b off:Nat}{cs:Array IL}{T:IM}{fr:I1}{K:HL cl->Prop}(h:ef S w0 w L)(i:Nat)(hi:L[i]?=some (b,.cells cs T fr))(x:HL cl)(k:K x)(hx:(cs.toList.drop off).take cl.length=HL.mk cl x:=by exact rfl):Pt.dX cl (dk b off) w K:=ef.dX h i hi x hx k
def ef.iz{b:Nat}{o o':Obj}(h:ef S w0 w L)(i:Nat)(hi:L[i]?=some (b,o)):ef S w0 (Pt.iz w b o') (L.set i (b,o')):=by
 have hb:=h.at hi;have hlt:=eO hb;have hil:i<L.length:=by rcases Nat.lt_or_ge i L.length with hl|hl;exact hl;rw[yS hl] at hi;cases hi
 have hmap:(L.set i (b,o')).map (·.1)=L.map (·.1):=(by rw[map_set];apply ext_getElem?;intro j;rw[List.getElem?_set];by_cases hj:i=j;subst hj;rw[iP rfl,zQ,hi];simp[hil];simp[hj]);refine⟨λp hp=>?_,by rw[hmap];exact h.nodup,?_,λp hp=>?_⟩;obtain⟨j,hj,hpj⟩:=getElem_of_mem hp;have hpj':(L.set i (b,o'))[j]?=some p:=(by rw[zA hj,hpj]);rw[List.getElem?_set] at hpj';by_cases hij:i=j;subst hij;simp[hil] at hpj';subst hpj';rw[pf _ _ _ _ hlt,iP rfl];rw[iN hij] at hpj';have hne:p.1≠b:=by
  intro he;have h1:(L.map (·.1))[j]?=some b:=(by simp[hpj',he]);have h2:(L.map (·.1))[i]?=some b:=(by simp[hi]);have hj':j<(L.map (·.1)).length:=by rcases Nat.lt_or_ge j (L.map (·.1)).length with hl|hl;exact hl;rw[yS hl] at h1;cases h1
  have hi':i<(L.map (·.1)).length:=(oP hil);rw[zA hj'] at h1;rw[zA hi'] at h2;have hne:=pairwise_iff_getElem.1 h.nodup;rcases Nat.lt_or_gt_of_ne hij with hl|hl;exact hne i j hi' hj' hl ((yO h2).trans (yO h1).symm);exact hne j i hj' hi' hl ((yO h1).trans (yO h2).symm)
 rw[pf _ _ _ _ hlt,iN hne];exact h.eY p (yF hpj');have hbo:=h.own (b,o) (yF hi);refine⟨h.fr.os,h.fr.tape,h.fr.output,by rw[ux];exact h.fr.size,λj hj hS=>?_⟩;rw[pf _ _ _ _ hlt,iN λe=>by subst e;rcases hbo with h1|h1;exact hS h1;omega];exact h.fr.block j hj hS;rcases mem_or_eq_of_mem_set hp with hp|rfl;exact h.own p hp;exact h.own (b,o) (yF hi)
def ef.st{b off:Nat}{cs:Array IL}{T:IM}{vs:List IL}{K:WP}(h:ef S w0 w L)(i:Nat)(hi:L[i]?=some (b,.c cs T))(cs':Array IL)(hcs:en cs off vs=cs')(h1:(vs.all Value.oneCell')=true)(hl:Nat.ble (off+vs.length) cs.size=true)(k:∀w',ef S w0 w' (L.set i (b,.c cs' T))->w'.heap.size=w.heap.size->K w'):Pt.st (dk b off) vs w K:=
 Ax (w:=w) vs off 0 cs w K (h.at hi) h1 (zO hl) (k _ (by rw[Nat.add_zero,hcs];exact h.iz i hi) (ux _ _ _))
def ef.mT{b:Nat}{o:Obj}(h:ef S w0 w L)(hb:w0.heap[b]?=some o)(hS:b∉S):w.heap[b]?=some o:=by rw[h.fr.block b (eO hb) hS];exact hb
def iv{c:Cell}{b off:Nat}{K:c.El->Prop}(hb:w.heap[b]?=some (.cells cs T fr))(x:c.El)(hx:cs[off]?=some (c.mk x))(k:K x):Pt.ld c (dk b off) w K:=
 ⟨x,by rw[jC hb];exact hx,k⟩
def ef.sub{L':IW}(h:ef S w0 w L)(hs:L'.Sublist L):ef S w0 w L':=
 ⟨λp hp=>h.eY p (hs.subset hp),(hs.map _).nodup h.nodup,h.fr,λp hp=>h.own p (hs.subset hp)⟩
def qM{s:Sl}{i:Int}{size:Nat}{K:Addr->Prop}{b o:Nat}(hs:s.a=some (dk b o))(hi:0<=i/\i<(s.len:Int))(k:K ⟨b,o+i.toNat*size,none⟩):idx s i size K:=
 ⟨_,hs,hi,by rw[Addr.j3];exact k⟩
end
end
section
open Go
variable {K:Prop} {cs:Array IL} {w:IK}
def Bm{S:Type}{B:(S->WP)->S->WP}{s:S}(h:∀X:S->WP,(∀s w,loop S B s w->X s w)->B X s w):loop S B s w:=by intro J hJ;exact hJ s w (h J λs' w' hl=>hl J hJ)
def qp0{S:Type}{B:(S->WP)->S->WP}{s:S}(s':S)(hs:s=s')(h:∀X:S->WP,(∀s w,loop S B s w->X s w)->B X s' w):loop S B s w:=by subst hs;exact Bm h
def cond_true{b:Bool}{A B:Prop}(h:b=true)(k:A):cond b A B:=by rw[h];exact k
def Im{b:Bool}{A B:Prop}(h:b=true)(k:A):cond b A B:=by rw[h];exact k
def cond_false{b:Bool}{A B:Prop}(h:b=false)(k:B):cond b A B:=by rw[h];exact k
def Io{b:Bool}{A B:Prop}(h:b=false)(k:B):cond b A B:=by rw[h];exact k
def vg{b o len cap:Nat}{i:Int}{size:Nat}{K:Addr->Prop}(h0:0<=i)(h1:i<(len:Int))(k:K ⟨b,o+i.toNat*size,none⟩):idx ⟨some (dk b o),len,cap⟩ i size K:=
 qM rfl ⟨h0,h1⟩ k
def tY{α β:Type}{a a':α}{b b':β}(h:a=a')(k:b=b'):(a,b)=(a',b'):=by rw[h,k]
def iS{H:WP}(h:H w)(k:K):held [H] w K:=⟨h,k⟩
def kV{H H':WP}(h:H w)(h':H' w)(k:K):held [H,H'] w K:=⟨⟨h,h'⟩,k⟩
def nj{H H' H'':WP}(h:H w)(h':H' w)(h'':H'' w)(k:K):held [H,H',H''] w K:=⟨⟨h,h',h''⟩,k⟩
section
variable {S:IS} {w0 w:IK} {L:IW}
def ef.cell{b off:Nat}{cs:Array IL}{T:IM}{fr:I1}{v:IL}(h:ef S w0 w L)(i:Nat)(hi:L[i]?=some (b,.cells cs T fr):=by exact rfl)(hx:cs[off]?=some v:=by exact rfl):w.cell? (dk b off)=some v:=by rw[jC (h.at hi)];exact hx
def ef.cells{b off:Nat}{cs:Array IL}{T:IM}{fr:I1}{vs:List IL}(h:ef S w0 w L)(i:Nat)(hi:L[i]?=some (b,.cells cs T fr):=by exact rfl)(hx:(cs.toList.drop off).take vs.length=vs:=by exact rfl):jH w (dk b off) 0 vs:=
 vI (h.at hi) _ off 0 hx
end
def AN (P:IN) (t:IM) (cs:Array IL) (off:Nat):Option IL:=
 bif nV P t then bif fB P t then some (.agg (cs.extract off (off+fh P t))) else cs[off]? else none
def DK{P:IN}{t:IM}{off:Nat}{v:IL}(h:AN P t cs off=some v)(w:IK):(part t cs off).run P w=.ok v w:=by
 unfold AN at h;cases ho:nV P t with
 | false=>rw[ho] at h;cases h
 | true=>
  rw[ho] at h;rw[BH (by simp[ho])];cases ha:fB P t with
  | true=>rw[ha] at h;simp at h;simp[h]
  | false=>rw[ha] at h;simp at h;simp[h]
def qQ (P:IN) (f:IM->IL->IL->Option Bool) (xs ys:Array IL):List Field->Option Bool
 | []=>some true
 | x::fs=>
  if x.name≠ "_" then
   match AN P x.type xs x.offset,AN P x.type ys x.offset with
   | some a,some b=>match f x.type a b,qQ P f xs ys fs with
    | some r,some q=>some (bif r then q else false)
    | _,_=>none
   | _,_=>none
  else qQ P f xs ys fs
def rT (P:IN) (f:IM->IL->IL->Option Bool) (e:IM) (n:Nat) (xs ys:Array IL):IS->Option Bool
 | []=>some true
 | i::is=>
  match AN P e xs (i*n),AN P e ys (i*n) with
  | some a,some b=>match f e a b,rT P f e n xs ys is with
   | some r,some q=>some (bif r then q else false)
   | _,_=>none
  | _,_=>none
def tP (P:IN):Nat->IM->IL->IL->Option Bool
 | 0,_,_,_=>none
 | d+1,t,x,y=>
  match P.underlying t,x,y with
  | some .bool,.bool a,.bool b=>some (a==b)
  | some (.int _),.int k a,.int k' b=>bif k==k' then some (a==b) else none
  | some .string,.string a,.string b=>some (a.toList==b.toList)
  | some (.struct _),.agg xs,.agg ys=>bif P.stoodInHeld t then none else qQ P (tP P d) xs ys (P.fieldsOf t).toList
  | some (.array n e),.agg xs,.agg ys=>bif nV P e then rT P (tP P d) e (P.cellsOf e) xs ys (List.range n) else none
  | _,_,_=>none
def HY{P:IN}{d:Nat}{f:IM->IL->IL->Option Bool}(hf:∀t x y r,f t x y=some r->∀w,(Op.equalIn d t x y).run P w=.ok r w){xs ys:Array IL}: ∀ {fs:List Field} {r:Bool},qQ P f xs ys fs=some r->∀w,(Op.eqFields d xs ys fs).run P w=.ok r w
 | [],r,h,w=>by simp[qQ] at h;subst h;rfl
 | x::fs,r,h,w=>by
  simp only[qQ] at h;simp only[Op.eqFields];split at h;rename_i hn;rw[iP hn];split at h;rename_i a b ha hb;split at h;rename_i r1 q h1 h2;cases h;simp only[Iu,DK ha,DK hb,Iv,hf _ _ _ _ h1];cases r1 with
  | false=>simp
  | true=>simpa using HY hf h2 w
  cases h;cases h;rename_i hn;rw[iN hn];exact HY hf h w
def qrC{P:IN}{d:Nat}{f:IM->IL->IL->Option Bool}(hf:∀t x y r,f t x y=some r->∀w,(Op.equalIn d t x y).run P w=.ok r w){e n:Nat}{xs ys:Array IL}: ∀ {is:IS} {r:Bool},rT P f e n xs ys is=some r->∀w,(Op.eqItems d e n xs ys is).run P w=.ok r w
 | [],r,h,w=>by simp[rT] at h;subst h;rfl
 | i::is,r,h,w=>by
  simp only[rT] at h;simp only[Op.eqItems];split at h;rename_i a b ha hb;split at h;rename_i r1 q h1 h2;cases h;simp only[Iu,DK ha,DK hb,Iv,hf _ _ _ _ h1];cases r1 with
  | false=>simp
  | true=>simpa using qrC hf h2 w
  cases h;cases h
def Ex{P:IN}:∀(d:Nat) (t:IM) (x y:IL) (r:Bool),tP P d t x y=some r->∀k w,(Op.equalIn (d+k) t x y).run P w=.ok r w
 | 0,_,_,_,_,h,_,_=>by cases h
 | d+1,t,x,y,r,h,k,w=>by
  rw[show d+1+k=(d+k)+1 by omega];simp only[tP] at h;split at h;rename_i hu;cases h;exact run_equalIn_bool' w _ _ _ _ hu;rename_i q k1 a k2 b hu;cases hkk:k1==k2 with
  | false=>rw[hkk] at h;cases h
  | true=>
   rw[hkk] at h;cases h
   have:=eq_of_beq hkk;subst this;exact run_equalIn_int w _ _ _ _ _ _ hu
  rename_i hu;cases h;exact run_equalIn_string w _ _ _ _ hu;rename_i hu;cases hs:P.stoodInHeld t with
  | true=>rw[hs] at h;cases h
  | false=>
   rw[hs] at h;rw[run_equalIn_struct w (d+k) t _ _ (by rw[hu];unfold Program.fieldsOf;rw[hu]) hs];exact HY (λt x y r h w=>Ex d t x y r h k w) h w
  rename_i n e xs ys hu;cases ho:nV P e with
  | false=>rw[ho] at h;cases h
  | true=>
   rw[ho] at h;obtain⟨i,hi⟩:=Option.isSome_iff_exists.1 (tV (P:=P) (t:=e) (by simp[ho])).1;rw[run_equalIn_array w (d+k) xs ys hu hi];exact qrC (λt x y r h w=>Ex d t x y r h k w) h w
  cases h
def G6{P:IN}{t:IM}{x y:Operand}{ds:Array IL}{K:Bool->Prop}(d:Nat)(hd:d<=10000)(r:Bool)(h:tP P d t (.agg cs) (.agg ds)=some r)(hg:P.eqGuardType P.depth t=false)(k:K r): fG [iF.one Cell.bool] (λw'=>(do eqGuard .eql t x y (.agg cs) (.agg ds);binOp .eql t (.agg cs) (.agg ds):Sem IL).run P w') w K:=by have hr:=Ex d t _ _ r h (10000-d) w;rw[show d+(10000-d)=10000 by omega] at hr;have hb:(binOp .eql t (.agg cs) (.agg ds)).run P w=.ok (.bool r) w:=t6 (P:=P) false hr oL oL oL oL;refine⟨r,?_,k⟩;show ((do eqGuard .eql t x y (.agg cs) (.agg ds);binOp .eql t (.agg cs) (.agg ds):Sem IL).run P w)=Result.ok (Value.bool r) w;simp[eqGuard,hg,hb]
end
section
open Go Go.RowKit Go.ChangeShapes List
variable {P:IN} {base:Nat} {r:Reach} {w:IK}
def rX (P:IN) (u:IM):Cell:=
 match P.underlying u with
 | some (.int k)=>.int k
 | some .bool=>.bool
 | some .string=>.str
 | some (.pointer _)=>.ptr
 | some (.slice _)=>.slice
 | some (.map _ _)=>.map
 | _=>.any
@[reducible] def uf:(c:Cell)->c.El->Prop
 | .int k,n=>k.has n
 | .str,s=>(s.size:Int)<=IntKind.i64.max
 | .slice,s=>s.len<=s.cap/\(s.cap:Int)<=IntKind.i64.max/\(s.a=none->s.cap=0)
 | _,_=>True
def GF{u:IM}{v:IL}{c:Cell}(hc:rX P u=c)(h:Cell.okWide P w r base u v):∃x:c.El,v=c.mk x/\uf c x:=by
 unfold rX at hc;split at hc<;>subst hc;rename_i k hu;simp only[Cell.okWide,hu] at h;cases v<;>simp only[Cell.ok,hu] at h;rename_i q n;obtain⟨rfl,h⟩:=h;exact⟨n,rfl,h⟩;rename_i hu;simp only[Cell.okWide,hu] at h;cases v<;>simp only[Cell.ok,hu] at h;rename_i b;exact⟨b,rfl,trivial⟩;rename_i hu;simp only[Cell.okWide,hu] at h;cases v<;>simp only[Cell.ok,hu] at h;rename_i s;exact⟨s,rfl,h⟩;rename_i e hu;simp only[Cell.okWide,hu] at h;cases v<;>simp only[Cell.ok,hu] at h;rename_i p;exact⟨p,rfl,trivial⟩;rename_i e hu;simp only[Cell.okWide,hu] at h;cases v<;>simp only[Cell.ok,hu] at h;rename_i a l c;cases a with
 | none=>
  cases l with
  | succ l=>simp at h
  | zero=>cases c with
   | succ c=>simp at h
   | zero=>exact⟨dT,rfl,zM _,oM,λ_=>rfl⟩
 | some a=>exact⟨⟨some a,l,c⟩,rfl,h.1,h.2.1,λe=>by cases e⟩
 rename_i k e hu;simp only[Cell.okWide,hu] at h;cases v<;>simp only[Cell.ok,hu] at h;rename_i m;exact⟨m,rfl,trivial⟩;exact⟨v,rfl,trivial⟩
def jX:(cs:List Cell)->HL cs->Prop
 | [],_=>True
 | [c],x=>uf c x
 | c::d::cs,x=>uf c x.1/\jX (d::cs) x.2
def qni{P:IN}{w:IK}{r:Reach}{base:Nat}:∀ {ts:List IM} {vs:List IL} {cs:List Cell},ts.map (rX P)=cs->vs.length=ts.length->(∀(i:Nat) v,vs[i]?=some v->∃u,ts[i]?=some u/\Cell.okWide P w r base u v)->∃x:HL cs,vs=HL.mk cs x/\jX cs x
 | [],vs,cs,hc,hl,h=>by simp at hc hl;subst hc hl;exact⟨(),rfl,trivial⟩
 | [t],vs,cs,hc,hl,h=>by
  simp at hc hl;subst hc;match vs,hl with
  | [v],_=>
   obtain⟨u,hu,ho⟩:=h 0 v rfl;simp at hu;subst hu;obtain⟨x,hx,hf⟩:=GF rfl ho;exact⟨x,by rw[hx];rfl,hf⟩
 | t::t'::ts,vs,cs,hc,hl,h=>by
  match vs,hl with
  | v::vs,hl=>
   simp only[xP] at hc;subst hc;obtain⟨u,hu,ho⟩:=h 0 v rfl;simp at hu;subst hu;obtain⟨x,hx,hf⟩:=GF rfl ho;obtain⟨y,hy,hg⟩:=qni (P:=P) (w:=w) (r:=r) (base:=base) (ts:=t'::ts) (vs:=vs) rfl (oP hl) (λi v hv=>by simpa using h (i+1) v (oP hv));exact⟨(x,y),by rw[hx,hy];rfl,hf,hg⟩
def qxW{t:IM}{v:IL}{cs:List Cell}(ht:fB P t=true)(hts:(P.cellTypes P.depth t).map (List.map (rX P))=some cs)(hn:P.cellsOf t=cs.length)(h:Value.okWide P w r base t v):∃x:HL cs,v=.agg (HL.mk cs x).toArray/\jX cs x:=by
 obtain⟨ts,hts,hc⟩:=yT.1 hts;replace hn:P.cellsOf t=ts.length:=(by rw[hn,<- hc];simp);have h':∃cs,v=.agg cs/\cs.size=P.cellsOf t/\Row.okWide P w r base t cs:=by
  unfold Value.okWide at h;unfold fB at ht;split at h;exact h;exact h
  ·exfalso;split at ht<;>simp_all
 obtain⟨vs,rfl,hsz,ts',hts',_,hall⟩:=h';rw[hts] at hts';cases hts';obtain⟨x,hx,hf⟩:=qni (vs:=vs.toList) hc (by simpa[hn] using hsz) (λi v hv=>by
  have hv':vs[i]?=some v:=(oP hv);have hi:i<ts.length:=by rw[<- hn,<- hsz];rcases Nat.lt_or_ge i vs.size with hl|hl;exact hl;rw[Array.getElem?_eq_none hl] at hv';cases hv'
  have:=hall i v hv';rw[Nat.mod_eq_of_lt hi] at this;exact this)
 exact⟨x,by rw[<- hx],hf⟩
def qyt{t:IM}{v:IL}{c:Cell}(ht:fB P t=false)(hc:rX P t=c)(h:Value.okWide P w r base t v):∃x:c.El,v=c.mk x/\uf c x:=by
 refine GF hc (w:=w) (r:=r) (base:=base) ?_;unfold Value.okWide at h;unfold fB at ht;split at h
 ·simp_all
 ·simp_all
 exact h
def Fr.below{w':IK}(h:Fr [] w w'):Below w.heap.size w w':=⟨h.os,h.tape,h.output,h.size,λi hi=>h.block i hi oL⟩
section
variable {H:Type} {enc:IM×IL->H} {P:IN}
def qjy(hl:laidOutB P=true){W W':IK}(hb:Below W.heap.size W W'):∀ {ts:List IM} {vs:List IL} {ds:List (DataW H)} {ps:List MemPlace}, (ts.all λt=>P.readableRec t&&decide (t<P.types.size))=true->DataW.TrodAll enc P W 0 (λ_=>true) true ts vs ds ps->(∀x∈ps,x.block<W.heap.size)-> DataW.TrodAll enc P W' 0 (λb=>decide (b<W.heap.size)) true ts vs ds ps
 | [],vs,ds,ps,_,h,_=>by obtain⟨rfl,rfl,rfl⟩:=trodAll_nil h;exact trodAll_mk0
 | t::ts,vs,ds,ps,hr,h,hlt=>by
  simp only[all_cons,yA,decide_eq_true_eq] at hr;obtain⟨v,vs',d,ds',p,p',rfl,rfl,rfl,h1,h2⟩:=trodAll_cons h;exact trodAll_cons_mk (Below.trod hl hr.1.1 hr.1.2 h1 hb λx hx=>hlt x (zH _ hx))
   (qjy hl hb (oP hr.2) h2 λx hx=>hlt x (zI _ hx))
def qym{fn:Func}{s:ChangeSpec}{W W':IK}{args:Array IL}{ds gs:List (DataW H)}{before:List MemPlace}{tb:IM}(hv:s.vars=[])(hW:DataW.Whole enc P fn.params.toList s.vars false W args.toList ds gs before)(hs:(s.fn H ds).results=[.lit (.bool true)]/\(s.fn H ds).args=ds/\(s.fn H ds).vars=[])(hl:laidOutB P=true)(hr:(fn.params.toList.all λt=>P.readableRec t&&decide (t<P.types.size))=true)(hres:fn.resultTypes = #[tb])(htb:P.underlying tb=some .bool)(hb:Below W.heap.size W W'):ChangeSpec.post enc P fn s false true false false W args (.bool true) W':=by have hW':=hW;obtain⟨p,q,hA,hV,hbe,_,_⟩:=hW;rw[hv] at hV;obtain⟨rfl,rfl⟩:=trodVars_none hV;obtain⟨h1,h2,h3⟩:=hs;rw[<- xI ds] at h1 h2 h3;refine⟨ds,[],before,[],p,[],hW',?_,?_,?_,hb.frame _,λh=>by cases h⟩;rw[h1,hres];exact trodAll_cons_mk (shut_bool htb _) trodAll_mk0;rw[h2,xI];exact qjy hl hb hr hA λx hx=>hW'.lt x (by rw[hbe];exact zH _ hx);rw[h3,hv];exact (rfl:DataW.TrodVars enc P W' (λb=>decide (b<W.heap.size)) [] [] [])
end
end
section
open Go List
variable {B S:IS} {K:Sl->WP} {a:Addr} {cs:Array IL} {r:Result IL} {s:Sl} {t ty:IM} {ts:List iF} {w':IK} {z:IL}
variable {P:IN} {w:IK}
def xo{b:Nat}{T:IM}{fr:I1}:∀ {vs:List IL} {off:Nat} {w:IK} {cs:Array IL},w.heap[b]?=some (.cells cs T fr)->w.setCells b off vs=iz w b (.cells (en cs off vs) T fr)
 | [],off,w,cs,h=>by
  show w=_;unfold iz en;have:w.heap.setIfInBounds b (.cells cs T fr)=w.heap:=by apply Array.ext_getElem?;intro i;rw[II];by_cases hi:b=i;subst hi;rw[iP rfl,iP (eO h),h];simp[hi]
  rw[this]
 | v::vs,off,w,cs,h=>by have h1:w.setCells b off (v::vs)=(w.setCell (dk b off) v).setCells b (off+1) vs:=rfl;rw[h1,qmg h];have h2:(iz w b (.cells (cs.setIfInBounds off v) T fr)).heap[b]?=some (.cells (cs.setIfInBounds off v) T fr):=(by rw[pf _ _ _ _ (eO h),iP rfl]);rw[xo h2,quk];rfl
def tB{s b:Nat}(h:(P.info? t).map (λi=>(i.zero,i.size,i.bytes))=some (some z,s,b)):∃i,P.info? t=some i/\i.zero=some z/\i.size=s/\i.bytes=b:=by obtain⟨i,hi,he⟩:=yT.1 h;simp only[Prod.mk.injEq] at he;exact⟨i,hi,he.1,he.2.1,he.2.2⟩
def sh{r:IK->Result IL}{K:jw ts->Prop}(x:jw ts)(h:r w=.ok (gz ts x) w)(k:K x):fG ts r w K:=⟨x,h,k⟩
def FS{K:jw ts->WP}(x:jw ts)(w':IK)(h:r=.ok (gz ts x) w')(k:K x w'):Pt.run ts r K:=⟨x,w',h,k⟩
def Dr{r:Result Unit}{K:WP}(w':IK)(h:r=.ok () w')(k:K w'):js r K:=⟨w',h,k⟩
def FP(a:Addr):a.add 0=a:=by
 cases a with
 | mk b o k=>cases k<;>simp[Addr.add]
def wW{hi:Int}{size:Nat}{K:Sl->Prop}(h:0<=hi/\hi<=s.cap)(k:K ⟨s.a,hi.toNat,s.cap⟩):fM s none (some hi) none size K:=by
 unfold fM;refine⟨⟨oL,by simpa using h.1,by simpa using h.2,oL⟩,?_⟩;have e:(s.a.map (·.add ((none:Option Int).getD 0).toNat))=s.a:=by
  cases s.a with
  | none=>rfl
  | some a=>simp[FP]
 simp only[xX,xW,Int.toNat_zero,Nat.zero_mul,Nat.sub_zero,zJ] at e⊢;rw[e,ite_self];exact k
def qAH{b o len cap:Nat}{lo:Int}{size:Nat}{K:Sl->Prop}(h:0<=lo/\lo<=len)(hc:len<=cap)(k:∀o',(lo<cap->o'=o+lo.toNat*size)->K ⟨some ⟨b,o',none⟩,len-lo.toNat,cap-lo.toNat⟩): fM ⟨some (dk b o),len,cap⟩ (some lo) none none size K:=by unfold fM;refine⟨⟨by simpa using h.1,by simpa using h.2,by simpa using hc,oL⟩,?_⟩;simp only[xX,xW,zJ];by_cases e:cap=lo.toNat;rw[iP e];exact k o λh=>oJ;rw[iN e];simp only[Option.map_some,Addr.j3];exact k _ (λ_=>rfl)
def uS(s:Sl)(w':IK)(h:r=.ok (.slice s.a s.len s.cap) w')(k:K s w'):Pt.run dl r K:=⟨s,w',h,k⟩
def qtF{e:IM}{i:TypeInfo}{b off n cap m c:Nat}{T:IM}(ht:P.underlying t=some (.slice e))(hi:P.info? e=some i)(news:List IL)(hb:w.heap[b]?=some (.c cs T))(hl:news.length=m*i.size)(hnews:∀(j:Nat) u,news[j]?=some u->w.cell? (a.add j)=some u)(h1:∀u∈news,u.oneCell'=true)(hroom:n+m<=cap)(hsz:off+n*i.size+news.length<=cs.size)(k:K ⟨some (dk b off),n+m,cap⟩ (iz w b (.c (en cs (off+n*i.size) news) T))): Pt.run dl ((Builtin.append_ #[t,t] ty #[.slice (some (dk b off)) n cap,.slice (some a) m c]).run P w) K:=by refine uS ⟨_,_,_⟩ _ (run_append_room_cells w t ty e i ht hi b off n cap a m c news hl hnews h1 hroom (λj hj=>?_) λj hj=>?_) ?_;rw[jC hb];have:off+n*i.size+j<cs.size:=oJ;simp[this];simp[World.frozen?,hb];rw[xo hb];exact k
def qrk{e:IM}{i:TypeInfo}{b:Addr}{n cap m c:Nat}(ht:P.underlying t=some (.slice e))(hi:P.info? e=some i)(hz:i.zero=some z)(olds news:List IL)(hlo:olds.length=n*i.size)(holds:∀(j:Nat) u,olds[j]?=some u->w.cell? (b.add j)=some u)(hl:news.length=m*i.size)(hnews:∀(j:Nat) u,news[j]?=some u->w.cell? (a.add j)=some u)(hg:cap<n+m)(hbytes:(n+m)*i.bytes<=140737488355328)(h63:n+m<=9223372036854775807)(k:∀q,n+m<=q->q<=maxLen->K ⟨some ⟨w.heap.size,0,none⟩,n+m,q⟩ (w.drew.alloc (.cells (olds.toArray++news.toArray++Builtin.zeroCells z.cells (q-(n+m))) e))): Pt.run dl ((Builtin.append_ #[t,t] ty #[.slice (some b) n cap,.slice (some a) m c]).run P w) K:=by exact uS ⟨_,_,_⟩ _ (run_append_grow w t ty e i z ht hi hz b n cap olds hlo holds a m c news hl hnews hg oJ (growslice_fits hg hbytes))<|k _ (grownCap_ge w (n+m) cap e) (grownCap_le_maxLen w (n+m) cap e (by unfold maxLen;omega))
def qzh{e:IM}{i:TypeInfo}{m c:Nat}(ht:P.underlying t=some (.slice e))(hi:P.info? e=some i)(hz:i.zero=some z)(news:List IL)(hl:news.length=m*i.size)(hnews:∀(j:Nat) u,news[j]?=some u->w.cell? (a.add j)=some u)(hm:0<m)(hbytes:m*i.bytes<=140737488355328)(h63:m<=9223372036854775807)(k:∀q,m<=q->q<=maxLen->K ⟨some ⟨w.heap.size,0,none⟩,m,q⟩ (w.drew.alloc (.cells (news.toArray++Builtin.zeroCells z.cells (q-m)) e))): Pt.run dl ((Builtin.append_ #[t,t] ty #[.slice none 0 0,.slice (some a) m c]).run P w) K:=by exact uS ⟨_,_,_⟩ _ (run_append_nil w t ty e i z ht hi hz a m c news hl hnews hm oJ oJ)<|k _ (grownCap_ge w m 0 e) (grownCap_le_maxLen w m 0 e (by unfold maxLen;omega))
section
section
variable {α:Type} {enc:α->List IL} {k:Nat}
def eI (enc:α->List IL) (k:Nat) (S:IS) (w:IK) (s:Sl) (l:List α):Prop:=
 s.len=l.length/\s.len<=s.cap/\(l=[]\/∃b o cs T fr,s.a=some (dk b o)/\w.heap[b]?=some (.cells cs T fr)/\b∉S/\∀(i:Nat) x,l[i]?=some x->(cs.toList.drop (o+i*k)).take k=enc x)
def eI.j1{S':IS}{w:IK}{l:List α}(h:eI enc k S w s l)(f:Fr S w w')(hS:∀b∈S',b∈S\/w.heap.size<=b):eI enc k S' w' s l:=by
 obtain⟨h1,h2,h3⟩:=h;refine⟨h1,h2,?_⟩;rcases h3 with h3|⟨b,o,cs,T,fr,ha,hb,hn,hc⟩;exact .inl h3;refine .inr ⟨b,o,cs,T,fr,ha,by rw[f.block b (eO hb) hn];exact hb,λhs=>?_,hc⟩;have:=eO hb;rcases hS b hs with h'|h';exact hn h';omega
def eI.q8{w:IK}{l:List α}(h:eI enc k S w s l)(f:Fr [] w w'):eI enc k S w' s l:=
 h.j1 (f.mono λi hi _=>by cases hi) (λb hb=>.inl hb)
def eI.drew{S:IS}{w:IK}{s:Sl}{l:List α}(h:eI enc k S w s l):eI enc k S w.drew s l:=h
def eI.same{w:IK}{l:List α}(h:eI enc k S w s l)(f:ol w w'):eI enc k S w' s l:=h.j1 (.of_same f) (λb hb=>.inl hb)
def eI.j8{S':IS}{w:IK}{l:List α}(h:eI enc k S w s l)(hS:∀b∈S',b∈S\/w.heap.size<=b):eI enc k S' w s l:=h.j1 (.refl _ _) hS
def eI.nil(enc:α->List IL)(k:Nat)(S:IS)(w:IK):eI enc k S w dT []:=⟨rfl,zM _,.inl rfl⟩
def eI.at{S:IS}{w:IK}{s:Sl}{l:List α}(h:eI enc k S w s l)(n:Nat){x:α}(hx:l[n]?=some x): n<s.len/\∃b o,s.a=some (dk b o)/\b∉S/\∃cs T fr,w.heap[b]?=some (.cells cs T fr)/\(cs.toList.drop (o+n*k)).take k=enc x:=by obtain⟨h1,h2,h3⟩:=h;have hn:n<l.length:=(zP.1 hx).1;rcases h3 with h3|⟨b,o,cs,T,fr,ha,hb,hnS,hc⟩;rw[h3] at hx;simp at hx;exact⟨oJ,b,o,ha,hnS,cs,T,fr,hb,hc n x hx⟩
def eI.get{w:IK}{l:List α}{c:Cell}(h:eI enc 1 S w s l)(n:Nat){i:Int}{x:α}{y:c.El}{K:c.El->Prop}(hi:i=n)(hx:l[n]?=some x)(hy:enc x=[c.mk y])(kk:K y):idx s i 1 λa=>ld c a w K:=by
 subst hi;obtain⟨hn,b,o,ha,_,cs,T,fr,hb,hc⟩:=h.at n hx;refine qM ha ⟨oJ,oJ⟩ ?_;rw[zJ];refine iv hb y ?_ kk;rw[hy] at hc;have:=IH (·[0]?) hc;simpa using this
def eI.rY{w:IK}{l:List α}{cl:List Cell}(h:eI enc k S w s l)(n:Nat){i:Int}{x:α}{y:HL cl}{K:HL cl->Prop}(hi:i=n)(hx:l[n]?=some x)(hk:cl.length=k)(hy:enc x=HL.mk cl y)(kk:K y):idx s i k λa=>dX cl a w K:=by subst hi hk;obtain⟨hn,b,o,ha,_,cs,T,fr,hb,hc⟩:=h.at n hx;refine qM ha ⟨oJ,oJ⟩ ?_;rw[zJ];refine⟨y,vI hb _ _ 0 ?_,kk⟩;rw[HL.j5,Nat.add_zero,hc,hy]
def eI.drop{S:IS}{w:IK}{s:Sl}{l:List α}(h:eI enc k S w s l)(n:Nat){lo:Int}{K:Sl->Prop}(hlo:lo=n)(hn:n<=l.length)(hl:0<l.length)(kk:∀s',eI enc k S w s' (l.drop n)->K s'):fM s (some lo) none none k K:=by
 subst hlo;obtain⟨h1,h2,h3⟩:=h;rcases h3 with h3|⟨b,o,cs,T,fr,ha,hb,hnS,hc⟩;rw[h3] at hl;simp at hl;obtain⟨a,len,cap⟩:=s;simp only at ha h1 h2;subst ha;refine qAH ⟨oJ,oJ⟩ h2 λo' ho'=>?_;rw[zJ] at ho'⊢;refine kk _ ⟨by simp only[yB];omega,by dsimp only;omega,?_⟩;by_cases he:l.drop n=[];exact .inl he;have hlt:n<l.length:=by rcases Nat.lt_or_ge n l.length with h|h;exact h;exact absurd (vF h) he
 refine .inr ⟨b,o',cs,T,fr,rfl,hb,hnS,λi x hx=>?_⟩;rw[ho' oJ,Nat.add_assoc,<- xV];refine hc (n+i) x ?_;rw[xA] at hx;exact hx
def eI.cells{w:IK}{l:List α}(h:eI enc k S w s l)(henc:∀x,(enc x).length=k)(ha:s.a=some a):∀(j:Nat) u,(l.flatMap enc)[j]?=some u->w.cell? (a.add j)=some u:=by
 obtain⟨h1,h2,h3⟩:=h;rcases h3 with h3|⟨b,o,cs,T,fr,ha',hb,hnS,hc⟩;rw[h3];intro j u hj;simp at hj;rw[ha'] at ha;cases ha;have key:∀(l:List α) (o:Nat),(∀(i:Nat) x,l[i]?=some x->(cs.toList.drop (o+i*k)).take k=enc x)->∀(j:Nat) u,(l.flatMap enc)[j]?=some u->cs[o+j]?=some u:=by
  intro l;induction l with
  | nil=>intro o _ j u hj;simp at hj
  | cons x l ih=>
   intro o hc j u hj;rw[yH] at hj;by_cases hjk:j<k;rw[yZ (by rw[henc];exact hjk)] at hj;have h0:=hc 0 x rfl;rw[<- h0,xB,iP hjk,xA] at hj;simpa using hj;rw[yY (by rw[henc];omega),henc] at hj;have:=ih (o+k) (λi x hx=>by
    have:=hc (i+1) x (oP hx);rw[<- this];congr 2;rw[xV];omega) (j-k) u hj
   rw[<- this];congr 1;omega
 intro j u hj;rw[Addr.j3,jC hb];exact key l o hc j u hj
def fj (enc:α->List IL) (k:Nat) (w:IK) (s:Sl) (l:List α) (B:IS):Prop:=
 (s=dT/\l=[]/\B=[])\/∃b o cs T,B=[b]/\o=0/\s.a=some (dk b o)/\w.heap[b]?=some (.c cs T)/\s.len=l.length/\s.len<=s.cap/\o+s.cap*k<=cs.size/\(cs.toList.drop o).take (l.length*k)=l.flatMap enc
def qI(henc:∀x,(enc x).length=k):∀l:List α,(l.flatMap enc).length=l.length*k
 | []=>by simp
 | x::l=>by rw[yH,zF,henc,qI henc l,yI,xV];omega
def Gu(henc:∀x,(enc x).length=k):∀(l:List α) (i:Nat) (x:α),l[i]?=some x->((l.flatMap enc).drop (i*k)).take k=enc x
 | [],i,x,h=>by simp at h
 | y::l,0,x,h=>by simp at h;subst h;rw[yH,Nat.zero_mul,xG,Ir (by rw[henc];exact zM _),zS (by rw[henc];exact zM _)]
 | y::l,i+1,x,h=>by rw[yH,xV,Nat.one_mul,Nat.add_comm,drop_append,henc,vE,vF (by rw[henc];omega),xJ];exact Gu henc l i x (oP h)
def fj.nil(enc:α->List IL)(k:Nat)(w:IK):fj enc k w dT [] []:=.inl ⟨rfl,rfl,rfl⟩
def fj.len{w:IK}{s:Sl}{l:List α}{B:IS}(h:fj enc k w s l B):s.len=l.length:=by rcases h with ⟨rfl,rfl,_⟩|⟨b,o,cs,T,_,_,_,_,h,_⟩;rfl;exact h
def fj.jQ{w:IK}{l:List α}(henc:∀x,(enc x).length=k)(h:fj enc k w s l B)(hS:∀b∈B,b∉S):eI enc k S w s l:=by
 rcases h with ⟨rfl,rfl,rfl⟩|⟨b,o,cs,T,rfl,ho0,ha,hb,h1,h2,h3,h4⟩;exact .nil _ _ _ _;refine⟨h1,h2,.inr ⟨b,o,cs,T,_,ha,hb,hS b oL,λi x hx=>?_⟩⟩;have hi:=(zP.1 hx).1;have:=Gu henc l i x hx;rw[<- h4] at this;rw[<- this,drop_take,xE,take_take,xS];have:(i+1)*k<=l.length*k:=IB k hi;rw[xV] at this;omega
def fj.j1{w:IK}{l:List α}(h:fj enc k w s l B)(f:Fr S w w')(hS:∀b∈B,b∉S):fj enc k w' s l B:=by rcases h with h|⟨b,o,cs,T,rfl,ho0,ha,hb,h1⟩;exact .inl h;exact .inr ⟨b,o,cs,T,rfl,ho0,ha,by rw[f.block b (eO hb) (hS b oL)];exact hb,h1⟩
def fj.q8{w:IK}{l:List α}(h:fj enc k w s l B)(f:Fr [] w w'):fj enc k w' s l B:=h.j1 f (λ_ _ h=>by cases h)
def fj.lt{w:IK}{l:List α}(h:fj enc k w s l B):∀b∈B,b<w.heap.size:=by rcases h with ⟨_,_,rfl⟩|⟨b,o,cs,T,rfl,ho0,ha,hb,h1⟩;intro b hb;cases hb;intro c hc;simp at hc;subst hc;exact eO hb
def fj.fresh(henc:∀x,(enc x).length=k){w:IK}{b:Nat}{T:IM}{l:List α}{n cap:Nat}(hb:w.heap[b]?=some (.c cs T))(hn:n=l.length)(hc:n<=cap)(hcs:cap*k<=cs.size)(hl:cs.toList.take (l.length*k)=l.flatMap enc):fj enc k w ⟨some (dk b),n,cap⟩ l [b]:=
 .inr ⟨b,0,cs,T,rfl,rfl,rfl,hb,hn,hc,by rw[xT];exact hcs,by rw[xG];exact hl⟩
def oQ{w:IK}{b:Nat}(hb:b<w.heap.size)(o:Obj):Fr [b] w (iz w b o):=
 ⟨rfl,rfl,rfl,by rw[ux];exact zM _,λj hj hS=>by rw[pf _ _ _ _ hb,iN (oP hS)]⟩
def qyp(L Y R:List IL)(o n:Nat)(h:o+n<=L.length):((L.take (o+n)++Y++R).drop o).take (n+Y.length)=(L.drop o).take n++Y:=by have e1:(L.take (o+n)).length=o+n:=oO;have e2:((L.drop o).take n).length=n:=oO;rw[zV,Ix oJ,drop_take,vE,take_append,e2,zS oJ,vE,Ir (zM _),zS (zM _)]
variable {P:IN}
def Dp(z:Array IL)(n:Nat):(Builtin.zeroCells z n).size=n*z.size:=by simp[Builtin.zeroCells]
def fj.j4{w:IK}{tx e:IM}{i:TypeInfo}{l ys:List α}{x:IL}{m:Nat}(h:fj enc k w s l B)(henc:∀x,(enc x).length=k)(ht:P.underlying t=some (.slice e))(hi:P.info? e=some i)(hz:i.zero=some z)(hsz:i.size=k)(hzs:z.cells.size=k)(hs:Src P k tx x m (ys.flatMap enc) w)(hm:m=ys.length)(hbytes:(l.length+m)*i.bytes<=140737488355328)(h63:l.length+m<=9223372036854775807)(kk:∀s' B' w',fj enc k w' s' (l++ys) B'->Fr B w w'->(∀b∈B',b∈B\/w.heap.size<=b)->(s'.a.isNone=false\/(s=dT/\s'=dT))->K s' w'): Pt.run dl ((Builtin.append_ #[t,tx] ty #[.slice s.a s.len s.cap,x]).run P w) K:=by
 subst hsz hm;have hfl:=qI henc;have hgrow:∀(olds:List IL),olds=l.flatMap enc->s.len=l.length->(Builtin.firstCells i.size s.len (.slice s.a s.len s.cap)).run P w.drew=.ok olds.toArray w.drew->s.cap<s.len+ys.length->
   Pt.run dl ((Builtin.append_ #[t,tx] ty #[.slice s.a s.len s.cap,x]).run P w) K:=by
  intro olds ho hl hold hg;refine uS ⟨_,_,_⟩ _ (run_append_grow_src w t tx ty e i z ht hi hz s.a s.len s.cap olds hold x ys.length _ hs hg oJ (growslice_fits hg (by rw[hl];exact hbytes))) ?_;have hge:=grownCap_ge w (s.len+ys.length) s.cap e;refine kk _ [w.heap.size] _ (fj.fresh henc (b:=w.heap.size) (T:=e) (cs:=(olds++ys.flatMap enc).toArray++Builtin.zeroCells z.cells (grownCap w (s.len+ys.length) s.cap e-(s.len+ys.length))) ?_ (by rw[zF,hl]) hge ?_ ?_) ?_ ?_ ?_;rw[xp];exact iP rfl;rw[Array.size_append,Dp,hzs,size_toArray,zF,ho,hfl,hfl,<- xV,<- xV,hl];have:l.length+ys.length+(grownCap w (l.length+ys.length) s.cap e-(l.length+ys.length))=grownCap w (l.length+ys.length) s.cap e:=(by rw[hl] at hge;omega);rw[this];exact zM _;rw[Array.toList_append,Ir (by simp[ho,hfl,xV]),zS (by simp[ho,hfl,xV]),ho,yQ];exact (Fr.refl B w).drew.alloc _;intro b hb;simp at hb;subst hb;exact .inr (zM _);exact .inl rfl
 rcases h with ⟨rfl,rfl,rfl⟩|⟨b,o,cs,T,rfl,ho0,ha,hb,h1,h2,h3,h4⟩;by_cases hy:ys=[];subst hy;refine uS dT w ?_ (kk _ _ _ (.nil _ _ _) (.refl _ _) (λb hb=>.inl hb) (.inr ⟨rfl,rfl⟩));have hc:=hs.cells;simp at hc;rcases hs.kind with ⟨e',hk⟩|hk<;>simp[Builtin.append_,run_underlying ht,run_underlying hk,sizeOf,typeInfo,hi,hs.len,hc];have:0<ys.length:=length_pos_iff.2 hy;exact hgrow [] rfl rfl (run_firstCells_none _ _ _ _ _) oN;obtain⟨a,len,cap⟩:=s;simp only at ha h1 h2 h3;subst ha;subst h1;by_cases hroom:l.length+ys.length<=cap;have hsz':o+(l.length+ys.length)*i.size<=cs.size:=zL (Nat.add_le_add_left (IB _ hroom) _) h3;rw[xV] at hsz';refine uS ⟨_,_,_⟩ _ (run_append_room_src w t tx ty e i ht hi b o l.length cap x ys.length _ hs hroom (λj hj=>?_) λj hj=>?_) ?_;rw[hfl] at hj;rw[jC hb];simp[show o+l.length*i.size+j<cs.size by omega];simp[World.frozen?,hb];rw[xo hb];refine kk _ [b] _ (.inr ⟨b,o,_,T,rfl,ho0,rfl,by rw[pf _ _ _ _ (eO hb),iP rfl],oL,by dsimp only;omega,by rw[nT];exact h3,?_⟩) (oQ (eO hb) _) (λc hc=>.inl hc) (.inl rfl);rw[qJ _ _ _ (by rw[hfl];omega),zF,xV,yQ,<- h4];have:=qyp cs.toList (ys.flatMap enc) (cs.toList.drop (o+l.length*i.size+(ys.flatMap enc).length)) o (l.length*i.size) oO;rw[hfl] at this⊢;exact this;refine hgrow (l.flatMap enc) rfl rfl (run_firstCells_some _ _ _ _ _ _ _ (hfl l) λj u hj=>?_) oN;rw[Addr.j3];show w.cell? _=_;rw[jC hb];have hjl:j<l.length*i.size:=by
  have:=(zP.1 hj).1;rw[hfl] at this;exact this
 rw[<- h4,xB,iP hjl,xA] at hj;simpa using hj
def fj.push{w:IK}{e T':IM}{i:TypeInfo}{l:List α}{x:α}{cs':Array IL}(h:fj enc k w s l B)(henc:∀x,(enc x).length=k)(hone:∀u∈enc x,u.oneCell'=true)(ht:P.underlying t=some (.slice e))(hi:P.info? e=some i)(hz:i.zero=some z)(hsz:i.size=k)(hzs:z.cells.size=k)(hcs:cs'.toList=enc x)(hbytes:(l.length+1)*i.bytes<=140737488355328)(h63:l.length+1<=9223372036854775807)(kk:∀s' B' w',fj enc k w' s' (l++[x]) B'->Fr B w w'->(∀b∈B',b∈B\/w.heap.size<=b)->K s' w'): Pt.new (.cells cs' T') w λr w1=>Pt.run dl ((Builtin.append_ #[t,t] ty #[.slice s.a s.len s.cap,.slice (some (dk r)) 1 1]).run P w1) K:=by have ho:=(ef.start [] w).alloc (.cells cs' T');have hf:=ho.fr;refine ef.new (ef.start [] w) λb w1 eb sb ho=>fj.j4 (ys:=[x]) (h.q8 ho.fr) henc ht hi hz hsz hzs (.ofSlice _ ht _ 1 1 _ ?_ ?_ ?_) rfl (oP hbytes) (oP h63) λs' B' w' h1 h2 h3 _=>kk s' B' w' h1 ((ho.fr.mono λi hi _=>by cases hi).J0 h2 λi hi=>.inl hi) λb hb=>?_;simp[henc];intro j u hj;rw[Addr.j3,jC (ho.at (i:=0) rfl),xT];have hj':(enc x)[j]?=some u:=(oP hj);rw[<- hcs] at hj';simpa using hj';intro u hu;exact hone u (oP hu);rcases h3 b hb with h|h;exact .inl h;exact .inr oJ
end
end
end
section
open Go Go.RowKit Go.ChangeShapes List
section
variable {H:Type} {enc:IM×IL->H} {P:IN} {w:IK} {base:Nat} {spare:Nat->Bool} {held:Bool}
def qAK{k:IntKind}{n:Int}(h:(Lit.int k n).wf=true):k.has n:=by have h':k.min<=n/\n<=k.max:=(by simpa[Lit.wf] using h);exact h'
def qqd{β:Type}{R:Nat->β->Prop}:∀n,(∀i,i<n->∃x,R i x)->∃l:List β,l.length=n/\∀(i:Nat) x,l[i]?=some x->R i x
 | 0,_=>⟨[],rfl,λi x h=>by simp at h⟩
 | n+1,h=>by obtain⟨l,hl,hr⟩:=qqd n λi hi=>h i oJ;obtain⟨x,hx⟩:=h n oJ;refine⟨l++[x],by simp[hl],λi y hy=>?_⟩;by_cases hi:i<n;rw[yZ oJ] at hy;exact hr i y hy;have:i<n+1:=(by have:=(zP.1 hy).1;simp at this;omega);have e:i=n:=oJ;subst e;rw[yY oJ] at hy;simp[hl] at hy;subst hy;exact hx
def qxw{t e:IM}{n:Nat}{s:Sl}{y:DataW H×List MemPlace}{β:Type}{encB:β->List IL}{k:Nat}{Q:β->Prop}(ht:P.underlying t=some (.slice e))(hce:P.cellsOf e=k)(hpos:0<k)(elem:∀n cells y,DataW.trod enc P w base spare held n e cells=some y->∃x:β,cells=encB x/\Q x)(h:DataW.trod enc P w base spare held n t [.slice s.a s.len s.cap]=some y): ∃l:List β,eI encB k [] w s l/\∀x∈l,Q x:=by
 rcases Go.Deep.open_slice ht h with ⟨hm,_⟩|⟨a,len,cap,m,n',D,Pl,hm,_,hl,hc,hmm,_,hx⟩;simp only[List.cons.injEq,Value.slice.injEq,and_true] at hm;obtain⟨h1,h2,h3⟩:=hm;exact⟨[],⟨by rw[h2];rfl,oJ,.inl rfl⟩,λx hx=>by cases hx⟩;simp only[List.cons.injEq,Value.slice.injEq,and_true] at hm;obtain⟨h1,h2,h3⟩:=hm;have hlm:len<=m:=(by rw[hmm];split<;>omega);have hcells:∀i,i<len->∃x:β,w.cells? base (a.add (i*k)) k=some (encB x)/\Q x:=λi hi=>by obtain⟨cs',g1,g2⟩:=hx i oJ;obtain⟨x,rfl,hq⟩:=elem _ _ _ g2;rw[hce] at g1;exact⟨x,g1,hq⟩
 obtain⟨l,hll,hlr⟩:=qqd len hcells;refine⟨l,⟨by rw[h2,hll],oJ,?_⟩,λx hx=>?_⟩;by_cases h0:l=[];exact .inl h0;right;have hl0:0<l.length:=length_pos_iff.2 h0;obtain⟨_,hlen0,hcell0⟩:=World.cells?_some (hlr 0 l[0] (zA hl0)).1;have hc0:=hcell0 0 hpos;rw[zA oJ] at hc0;obtain⟨b,o,spot⟩:=a;have hspot:spot=none:=(by simpa[Addr.add] using World.cell?_spot hc0);subst hspot;have hblk:∃cs T fr,w.heap[b]?=some (.cells cs T fr):=by simp only[Nat.zero_mul,Addr.j3] at hc0;unfold World.cell? at hc0;split at hc0;rename_i c T fr hb;exact⟨c,T,fr,hb⟩;cases hc0
 obtain⟨cs,T,fr,hb⟩:=hblk;refine⟨b,o,cs,T,fr,h1,hb,oL,λi x hx=>?_⟩;obtain⟨_,hlen',hcell'⟩:=World.cells?_some (hlr i x hx).1;apply ext_getElem?;intro j;rw[xB,xA];by_cases hj:j<k;rw[iP hj];have:=hcell' j hj;rw[Addr.j3,Addr.j3,jC hb] at this;rw[<- this];simp;rw[iN hj,yS oJ];obtain⟨i,hi,rfl⟩:=getElem_of_mem hx;exact (hlr i _ (zA hi)).2
end
end
section
open Go List
variable {K:List IL->Prop} {L':IW} {T et t:IM} {a:Addr} {args vs zero:List IL} {cs:Array IL} {e:Array IL->Sem IL} {f:FuncId} {name:String} {off:Nat} {ts:List iF} {w':IK} {z:IL}
variable {P:IN} {w:IK}
def methodOf (P:IN) (t:IM) (name:String):Option (FuncId×Bool):=
 match (P.info? t).bind λi=>i.methods.find? (·.name==name) with
 | some m=>bif m.path.isEmpty then m.func else none
 | none=>none
def qoi{v:IL}{p:Bool}(h:methodOf P t name=some (f,p))(fuel:Nat): ∃wr,(Go.method (fuel+1) t v name).run P w=(do let r <- receiverAt t (.val v) p (some wr);pure (f,r):Sem (FuncId×IL)).run P w:=by
 unfold methodOf at h;cases hi:P.info? t with
 | none=>rw[hi] at h;cases h
 | some i=>
  rw[hi] at h;simp only[Option.bind_some] at h;cases hm:i.methods.find? (·.name==name) with
  | none=>rw[hm] at h;cases h
  | some m=>
   rw[hm] at h;dsimp only at h;cases hp:m.path.isEmpty with
   | false=>rw[hp] at h;cases h
   | true=>
    rw[hp] at h;change m.func=some (f,p) at h;have hpe:=Array.isEmpty_iff.1 hp;refine⟨(name.splitOn ".").getLastD name,?_⟩;simp[Go.method,typeInfo,run_program,hi,hm,hpe,h,follow]
def qws{e:IM}{q:IL}{args:Array IL}(h:methodOf P t name=some (f,true))(hu:P.underlying t=some (.pointer e))(hb:i6 P f=false): (callMethod (.iface t q) name args).run P w=.ok (.enter f (#[q]++args)) w:=by
 obtain⟨wr,hr⟩:=qoi (w:=w) (v:=q) h (P.types.size+Made.depth-1);have hm0:0<Made.depth:=oM;have hd:P.types.size+Made.depth-1+1=P.types.size+Made.depth:=oJ;rw[hd] at hr;have h2:(do let r <- receiverAt t (.val q) true (some wr);pure (f,r):Sem (FuncId×IL)).run P w=.ok (f,q) w:=by simp[receiverAt,run_underlying hu,Place.get]
 rw[h2] at hr;simp[callMethod,run_program,hr,Av hb]
def qwt{e:IM}{v:IL}{args:Array IL}(h:methodOf P t name=some (f,false))(hu:P.underlying t=some (.pointer e))(hb:i6 P f=false)(he:(P.underlying e).isSome=true)(hag:fB P e=false)(hc:w.cell? a=some v): (callMethod (.iface t (.pointer (some a))) name args).run P w=.ok (.enter f (#[v]++args)) w:=by
 obtain⟨wr,hr⟩:=qoi (w:=w) (v:=.pointer (some a)) h (P.types.size+Made.depth-1);have hm0:0<Made.depth:=(by decide);have hd:P.types.size+Made.depth-1+1=P.types.size+Made.depth:=(by omega);rw[hd] at hr;have h2:(do let r <- receiverAt t (.val (.pointer (some a))) false (some wr);pure (f,r):Sem (FuncId×IL)).run P w=.ok (f,v) w:=by have hs:Builtin.ssaWrapNilChk_ #[t] t #[.pointer (some a),strVal "",strVal wr]=pure (.pointer (some a)):=rfl;simp[receiverAt,run_underlying hu,Place.get,hs,asAddr,loadVar,wG he,hag,hc]
 rw[h2] at hr;simp[callMethod,run_program,hr,Av hb]
def qtZ{e:IM}{q:IL}{K:jw ts->WP}(h:methodOf P t name=some (f,true))(hu:P.underlying t=some (.pointer e))(hb:i6 P f=false)(k:call P f (q::args) ts w K):inv P (.iface t q) name args ts w K:=
 ⟨f,q::args,by rw[qws h hu hb];simp,k⟩
def GV{e:IM}{v:IL}{K:jw ts->WP}(h:methodOf P t name=some (f,false))(hu:P.underlying t=some (.pointer e))(hb:i6 P f=false)(he:(P.underlying e).isSome=true)(hag:fB P e=false)(hc:w.cell? a=some v)(k:call P f (v::args) ts w K):inv P (.iface t (.pointer (some a))) name args ts w K:=
 ⟨f,v::args,by rw[qwt h hu hb he hag hc];simp,k⟩
section
structure ot {α:Type} [DecidableEq α] (P:IN) (kt:IM) (kv:α->IL):Prop where
 desc:∃ d,P.underlying kt=some d/\∀ a b,Instr.sameNow d (kv a) (kv b)=some (decide (a=b))
 check:∀ e a w,(Instr.checkKey e 10000 kt (kv a)).run P w=.ok () w
 stays:∀ a w,(Instr.keyThatStays (kv a) (kv a)).run P w=.ok (kv a) w
def qwK{P:IN}{kt:IM}{k:IntKind}(h:P.underlying kt=some (.int k)):ot P kt (λn:Int=>Value.int k n) where
 desc:=⟨_,h,λa b=>by simp[Instr.sameNow];rfl⟩
 check:=λe a w=>Go.MapKept.run_checkKey h (by simp[Go.MapKept.IsKey]) e 9999
 stays:=λa w=>by simp[Instr.keyThatStays,Instr.sameBits]
section
variable {α:Type} [DecidableEq α]
def vW{β γ:Type}(g:β->γ):∀(l:List β) (i:Nat),(l.eraseIdx i).map g=(l.map g).eraseIdx i
 | [],_=>rfl
 | _::_,0=>rfl
 | a::l,i+1=>by simp only[eraseIdx_cons_succ,xP,vW g l i]
def ng (kv:α->IL) (es:List MapEntry) (f:List (α×IL)):Prop:=es.map (λe=>(e.key,e.val))=f.map (λp=>(kv p.1,p.2))
def posOf (x:α):List (α×IL)->Option (Nat×IL)
 | []=>none
 | p::r=>if x=p.1 then some (0,p.2) else (posOf x r).map λq=>(q.1+1,q.2)
def qlR{kv:α->IL}{d:TypeDesc}(hd:∀a b,Instr.sameNow d (kv a) (kv b)=some (decide (a=b)))(x:α):∀(es:List MapEntry) (f:List (α×IL)) (i:Nat),ng kv es f-> Instr.findNow d (kv x) es i=some ((posOf x f).map λq=>(i+q.1,q.2))
 | [],[],i,_=>rfl
 | [],_::_,_,h=>by simp[ng] at h
 | _::_,[],_,h=>by simp[ng] at h
 | e::es,p::f,i,h=>by
  simp only[ng,xP,List.cons.injEq,Prod.mk.injEq] at h;obtain⟨⟨h1,h2⟩,h3⟩:=h;simp only[Instr.findNow,h1,hd,posOf];by_cases hx:x=p.1;simp[hx,h2];simp only[hx,decide_false,if_false];rw[qlR hd x es f (i+1) h3];cases posOf x f with
  | none=>rfl
  | some q=>simp;omega
variable {P:IN} {w:IK} {kt:IM} {kv:α->IL}
def uK(K:ot P kt kv){es:List MapEntry}{f:List (α×IL)}(h:ng kv es f)(x:α):(Instr.findKey kt (kv x) es).run P w=.ok (posOf x f) w:=by
 obtain⟨d,hd,hs⟩:=K.desc;unfold Instr.findKey;simp only[Iu,run_underlying hd,Iv,qlR hs x es f 0 h,Sem.run_pure];congr 1;cases posOf x f with
 | none=>rfl
 | some q=>simp
def lh (kv:α->IL) (w:IK) (b:Nat) (f:List (α×IL)):Prop:=∃es c,w.heap[b]?=some (.map es c)/\ng kv es.toList f
def CY(ht:P.underlying t=some (.map kt et))(hz:∀w,(zeroValue et).run P w=.ok z w)(K:ot P kt kv){b:Nat}{f:List (α×IL)}(h:lh kv w b f)(x:α): (Instr.lookup t (.map (some b)) (kv x) false).run P w=.ok (match posOf x f with|some q=>q.2|none=>z) w:=by
 obtain⟨es,c,hb,he⟩:=h;cases hp:posOf x f with
 | none=>simp[Instr.lookup,run_underlying ht,IF hb,K.check,uK K he,hp,hz]
 | some q=>simp[Instr.lookup,run_underlying ht,IF hb,K.check,uK K he,hp]
def qsv(ht:P.underlying t=some (.map kt et))(hz:∀w,(zeroValue et).run P w=.ok z w)(K:ot P kt kv){b:Nat}{f:List (α×IL)}(h:lh kv w b f)(x:α): (Instr.lookup t (.map (some b)) (kv x) true).run P w=.ok (match posOf x f with|some q=>.tuple #[q.2,.bool true] | none=>.tuple #[z,.bool false]) w:=by
 obtain⟨es,c,hb,he⟩:=h;cases hp:posOf x f with
 | none=>simp[Instr.lookup,run_underlying ht,IF hb,K.check,uK K he,hp,hz]
 | some q=>simp[Instr.lookup,run_underlying ht,IF hb,K.check,uK K he,hp]
def qvI{v:IL}(ht:P.underlying t=some (.map kt et))(K:ot P kt kv){b:Nat}{f:List (α×IL)}(h:lh kv w b f)(x:α)(hx:posOf x f=none): ∃o,(Instr.mapUpdate t (.map (some b)) (kv x) v).run P w=.ok () (iz w b o)/\lh kv (iz w b o) b (f++[(x,v)]):=by obtain⟨es,c,hb,he⟩:=h;refine⟨.map (es.push ⟨kv x,v,c⟩) (c+1),?_,es.push ⟨kv x,v,c⟩,c+1,?_,?_⟩;simp[Instr.mapUpdate,run_underlying ht,IF hb,K.check,uK K he,hx,Go.MapKept.run_setObj_map _ hb];rfl;rw[pf _ _ _ _ (eO hb),iP rfl];simp only[ng] at he⊢;simp[he]
def qvH{ty:IM}(ht:P.underlying t=some (.map kt et))(K:ot P kt kv){b:Nat}{f:List (α×IL)}(h:lh kv w b f)(x:α): ∃o,(Builtin.delete_ #[t,kt] ty #[.map (some b),kv x]).run P w=.ok (.tuple #[]) (iz w b o)/\lh kv (iz w b o) b (match posOf x f with|some q=>f.eraseIdx q.1|none=>f):=by
 obtain⟨es,c,hb,he⟩:=h;cases hp:posOf x f with
 | none=>
  refine⟨.map es c,?_,es,c,?_,he⟩;simp[Builtin.delete_,run_underlying ht,IF hb,K.check,uK K he,hp,Go.MapKept.run_setObj_map _ hb];rfl;rw[pf _ _ _ _ (eO hb),iP rfl]
 | some q=>
  refine⟨.map (es.eraseIdxIfInBounds q.1) c,?_,es.eraseIdxIfInBounds q.1,c,?_,?_⟩;simp[Builtin.delete_,run_underlying ht,IF hb,K.check,uK K he,hp,Go.MapKept.run_setObj_map _ hb];rfl;rw[pf _ _ _ _ (eO hb),iP rfl];have h1:(es.eraseIdxIfInBounds q.1).toList=es.toList.eraseIdx q.1:=oL;rw[h1];simp only[ng] at he⊢;rw[vW,he,<- vW]
end
end
section
variable {S:IS} {w0 w:IK} {L:IW} {P:IN}
def qte(z:IL)(c:Nat):iL [z] c=(List.replicate c z).toArray:=by apply Array.ext;simp[iL];intro i h1 h2;simp[iL,Nat.mod_one]
def ef.GZ{el:IM}{bytes:Nat}{l c:Int}{K:Sl->WP}(h:ef S w0 w L)(h0:0<=l)(h1:l<=c)(h2:(bytes:Int)*c<=2^48)(h3:c<=2^48)(k:∀b w',b=w.heap.size->ef S w0 w' ((b,.c (List.replicate c.toNat z).toArray el)::L)->K ⟨some (dk b),l.toNat,c.toNat⟩ w'):mM el [z] 1 bytes l c w K:=by
 refine⟨⟨h0,h1,h2,h3⟩,?_⟩;have e:iL (if c.toNat*1=0 then [] else [z]) (c.toNat*1)=(List.replicate c.toNat z).toArray:=by rw[xU];split;rename_i hc;rw[hc];apply Array.ext' ;simp[iL];exact qte z _
 rw[e];exact k _ _ rfl (h.alloc _)
def ef.wq{t t' ty el b:Nat}{o dLen dCap:Nat}{src:Sl}{K:Int->WP}(h:ef S w0 w L)(i:Nat)(hi:L[i]?=some (b,.c cs T))(hu:P.underlying t=some (.slice el))(hs:(P.info? el).map (·.size)=some 1)(hlen:vs.length=Nat.min src.len dLen)(hvs:vs≠[]->∃a,src.a=some a/\∀(j:Nat) v,vs[j]?=some v->w.cell? (a.add j)=some v)(h1:∀v∈vs,v.oneCell'=true)(hfit:o+vs.length<=cs.size)(k:∀w',ef S w0 w' (L.set i (b,.c (en cs o vs) T))->K vs.length w'): Pt.run [iF.one (Cell.int .i64)] ((Builtin.copy_ #[t,t'] ty #[.slice (some (dk b o)) dLen dCap,.slice src.a src.len src.cap]).run P w) K:=by
 by_cases h0:vs=[];subst h0;refine⟨((0:Nat):Int),w,run_copy_none w t t' ty el _ _ _ _ _ _ hu hs (oP hlen.symm),?_⟩;have e:L.set i (b,.c (en cs o []) T)=L:=by
  apply ext_getElem?;intro j;rw[List.getElem?_set];by_cases hij:i=j;subst hij;have:=(zP.1 hi).1;rw[iP rfl,hi];simp[this,en];rw[iN hij]
 have:=k w (by rw[e];exact h);simpa using this;obtain⟨a,ha,hc⟩:=hvs h0;have hb:=h.at hi;have hrun:=run_copy_cells (P:=P) w t t' ty el b o dLen dCap a src.len src.cap vs hu hs hlen hc (λj hj=>by rw[jC hb];simp[show o+j<cs.size by omega]) (λj hj=>by simp[World.frozen?,hb]) h1;rw[xo hb] at hrun;refine⟨(vs.length:Int),_,?_,k _ (h.iz i hi)⟩;rw[ha];exact hrun
def Ew{P:IN}{fn:Func}{w:IK}{K:jw ts->WP}(hf:P.funcs[f]?=some fn)(hname:(fn.name== "runtime.NumGoroutine")=false)(hb:fn.body.isNone=true)(hn:Extern.findNext fn=none)(he:Extern.find fn=some e)(x:jw ts)(w':IK)(hrun:(e args.toArray).run P w=.ok (gz ts x) w')(k:K x w'):Pt.ext P f args ts w K:=by refine⟨x,w',?_,k⟩;rw[run_callFunc_extern hf hname hb hn he];simp[hrun]
end
section
variable {S:IS} {w0 w:IK} {L:IW} {P:IN}
def ef.kz{v:IL}{pts:List iF}{body:jw pts->(IK->(WP)->Prop)->(WP)->(Nat->WP)->WP}{done:Nat->WP}{jumps:List (Nat->WP)}{f:FuncId}{lb:List IL}(h:ef S w0 w L)(hv:v=.func (.func f) #[] lb.toArray)(hb:i6 P f=false)(k:∀(D l:Nat) (R B:Obj) (J E:Nat->Obj) (E0:Obj) (w1:IK),l=w.heap.size+1->D=w.heap.size->Fr [] w w1->ef S w0 w1 ((l,R)::(D,.deferred (some []))::L)->pY P pts body l R B J-> call P f (.func (.yield l) #[] #[]::lb) [] w1 λ_ W=>(W.heap[l]?=some R/\done D (Pt.iz W l E0))\/∃i k,jumps[i]?=some k/\W.heap[l]?=some (J i)/\k D (Pt.iz W l (E i))):Pt.kz P v pts body done jumps w:=by refine⟨f,lb,hv,hb,λR B J E E0 hy=>?_⟩;have h1:=h.alloc (.deferred (some []));have h2:=h1.alloc R;rw[World.size_alloc] at h2;exact k _ _ R B J E E0 _ rfl rfl (((Fr.refl [] w).alloc _).alloc _) h2 hy
def ef.eC{D:Nat}{K:WP}(h:ef S w0 w L)(i:Nat)(hi:L[i]?=some (D,.deferred (some [])))(k:∀w',ef S w0 w' (L.set i (D,.deferred none))->K w'):Pt.eC D w K:=
 ⟨h.at hi,k _ (ef.iz h i hi)⟩
def tT{v:IL}{lb:List IL}{K:jw ts->WP}(hv:v=.func (.func f) #[] lb.toArray)(hb:i6 P f=false)(k:call P f (args++lb) ts w K):eJ P v args ts w K:=by subst hv;refine .inl ⟨f,args++lb,?_,k⟩;simp[Deferred.ofValue,invoke,Av hb]
def rP{n b:Nat}{fr:I1}(hb:w.heap[b]?=some (.cells cs T fr))(x:List IL)(h1:x.length=n)(hx:(cs.toList.drop off).take n=x)(k:K x):Pt.jg n (dk b off) w K:=
 ⟨x,⟨h1,vI hb _ off 0 (by rw[h1];exact hx)⟩,k⟩
def qzp{cs:List Cell}{K:HL cs->Prop}(x:HL cs)(h:vs.extract off (off+cs.length)=HL.mk cs x)(k:K x):Pt.jF cs vs off K:=⟨x,h,k⟩
def qAG{len cap n:Nat}{K:Addr->Prop}(h:n<=len)(k:K a):nK ⟨some a,len,cap⟩ n K:=⟨a,rfl,h,k⟩
def ef.tf{n:Nat}{K:Nat->WP}(h:ef S w0 w L)(hz:((P.info? t).bind (·.zero)).map (λz=>z.cells.size)=some n)(hn:vs.length=n)(h1:(vs.all Value.oneCell')=true)(k:∀b w',b=w.heap.size->ef S w0 w' ((b,.c vs.toArray t)::L)->K b w'):Pt.fP P t w λr w1=>iH (vs.length=n) (Pt.st (dk r) vs w1 λw2=>K r w2):=by obtain⟨z,hz,hzs⟩:=yT.1 hz;refine⟨z,hz,hn,?_⟩;have h2:=h.alloc (.cells z.cells t);exact ef.st h2 0 rfl vs.toArray (mR oJ) h1 (Nat.ble_eq_true_of_le oJ) λw' h3 _=>k _ w' rfl h3
def ef.fP{t:IM}{zs:List IL}{K:Nat->WP}(h:ef S w0 w L)(hz:((P.info? t).bind (·.zero)).map (λz=>z.cells.toList)=some zs)(k:∀b w',b=w.heap.size->ef S w0 w' ((b,.c zs.toArray t)::L)->K b w'):Pt.fP P t w K:=by obtain⟨z,hz,hzs⟩:=yT.1 hz;refine⟨z,hz,?_⟩;have h2:=h.alloc (.cells z.cells t);have e:zs.toArray=z.cells:=(by rw[<- hzs]);rw[<- e] at h2⊢;exact k _ _ rfl h2
def qtf{k:Nat}(hk:zero.length=k)(n:Nat):(iL (if n*k=0 then [] else zero) (n*k)).toList=(List.replicate n zero).flatten:=by
 by_cases h0:n*k=0;rw[iP h0,h0];rcases Nat.mul_eq_zero.1 h0 with h|h;subst h;simp[iL];have:zero=[]:=Iy oJ;subst this;simp[iL];rw[iN h0];have hpos:0<k:=Nat.pos_of_ne_zero λe=>h0 (by rw[e];simp);apply ext_getElem?;intro i;have hlen:∀n,((List.replicate n zero).flatten).length=n*k:=(by intro n;simp[hk]);have key:∀n i,i<n*k->((List.replicate n zero).flatten)[i]?=zero[i%k]?:=by
  intro n;induction n with
  | zero=>intro i hi;simp at hi
  | succ n ih=>
   intro i hi;rw[Nat.succ_mul] at hi;rw[replicate_succ,flatten_cons];by_cases hik:i<k;rw[yZ oJ,Nat.mod_eq_of_lt hik];rw[yY oJ,hk,ih (i-k) oJ];congr 1;exact (Nat.mod_eq_sub_mod oJ).symm
 have hl2:=hlen n;have hsz:(iL zero (n*k)).toList.length=n*k:=(by simp[iL]);by_cases hi:i<n*k;rw[key n i hi];have hlt:i%k<zero.length:=(by rw[hk];exact Nat.mod_lt _ hpos);have h1:(iL zero (n*k)).toList[i]?=some (zero.toArray[i%zero.toArray.size]!):=by simp[iL,hi]
 rw[h1,zA hlt];simp[hk,zA hlt];rw[yS (by rw[hsz];omega),yS (by rw[hl2];omega)]
def ef.mkN{el:IM}{size bytes:Nat}{l c:Int}{K:Sl->WP}(h:ef S w0 w L)(hk:zero.length=size)(h0:0<=l)(h1:l<=c)(h2:(bytes:Int)*c<=2^48)(h3:c<=2^48)(k:∀b w',b=w.heap.size->ef S w0 w' ((b,.c ((List.replicate c.toNat zero).flatten).toArray el)::L)->K ⟨some (dk b),l.toNat,c.toNat⟩ w'):mM el zero size bytes l c w K:=by
 refine⟨⟨h0,h1,h2,h3⟩,?_⟩;have e:=qtf hk c.toNat;have e':iL (if c.toNat*size=0 then [] else zero) (c.toNat*size)=((List.replicate c.toNat zero).flatten).toArray:=by apply Array.ext';rw[e]
 rw[e'];exact k _ _ rfl (h.alloc _)
def ef.CF{o:Obj}{K:Nat->WP}(h:ef S w0 w L)(k:∀b w',b=w.heap.size->Fr [] w w'->ef S w0 w' ((b,o)::L)->K b w'):Pt.new o w K:=
 k _ _ rfl ((Fr.refl [] w).alloc o) (h.alloc o)
def ef.st'{b:Nat}{K:WP}(h:ef S w0 w L)(i:Nat)(hi:L[i]?=some (b,.c cs T))(cs':Array IL)(hcs:en cs off vs=cs')(h1:(vs.all Value.oneCell')=true)(hl:off+vs.length<=cs.size)(k:∀w',ef S w0 w' (L.set i (b,.c cs' T))->Fr [b] w w'->K w'):Pt.st (dk b off) vs w K:=
 Ax (w:=w) vs off 0 cs w K (h.at hi) h1 hl (k _ (by rw[Nat.add_zero,hcs];exact ef.iz h i hi) (oQ (eO (h.at hi)) _))
def ef.sz{b:Nat}{K:WP}(h:ef S w0 w L)(i:Nat)(hi:L[i]?=some (b,.c cs T))(cs':Array IL)(k:∀w',ef S w0 w' (L.set i (b,.c cs' T))->Fr [b] w w'->K w')(hcs:en cs off vs=cs':=by rfl)(h1:(vs.all Value.oneCell')=true:=by rfl)(hl:off+vs.length<=cs.size:=by exact zO rfl):Pt.st (dk b off) vs w K:=h.st' i hi cs' hcs h1 hl k
def qH{b:Nat}{K:WP}(hb:w.heap[b]?=some (.c cs T))(cs':Array IL)(hcs:en cs off vs=cs')(h1:(vs.all Value.oneCell')=true)(hl:off+vs.length<=cs.size)(k:∀w',w'.heap[b]?=some (.c cs' T)->Fr [b] w w'->K w'):Pt.st (dk b off) vs w K:=
 Ax (w:=w) vs off 0 cs w K hb h1 hl (k _ (by rw[Nat.add_zero,hcs,pf _ _ _ _ (eO hb),iP rfl]) (oQ (eO hb) _))
def ef.lX(h:ef S w0 w L):ef (L.map (·.1)) w w L:=⟨h.eY,h.nodup,.refl _ _,λp hp=>.inl (zY hp)⟩
def ef.wm(h:ef S w0 w L)(T:IS):ef (L.map (·.1)++T) w w L:=⟨h.eY,h.nodup,.refl _ _,λp hp=>.inl (zH _ (zY hp))⟩
def ef.xd{T:IS}(h:ef S w0 w L)(hT:∀b∈T,b∈S\/w0.heap.size<=b)(f:Fr (L.map (·.1)++T) w w'):Fr S w0 w':=
 h.fr.J0 f λb hb=>by rcases zD.1 hb with hb|hb;obtain⟨p,hp,rfl⟩:=mem_map.1 hb;exact h.own p hp;exact hT b hb
def ef.xn{T:IS}(h:ef S w0 w L)(hT:∀b∈T,b∈S\/w0.heap.size<=b)(k:ef (L.map (·.1)++T) w w' L'):ef S w0 w' L':=
 ⟨k.eY,k.nodup,h.xd hT k.fr,λp hp=>by rcases k.own p hp with hb|hb;rcases zD.1 hb with hb|hb;obtain⟨q,hq,hqe⟩:=mem_map.1 hb;rw[<- hqe];exact h.own q hq;exact hT _ hb;exact .inr (zL h.fr.size hb)⟩
def ef.back(h:ef S w0 w L)(f:Fr (L.map (·.1)) w w'):Fr S w0 w':=
 h.fr.J0 f λb hb=>by obtain⟨p,hp,rfl⟩:=mem_map.1 hb;exact h.own p hp
def fieldsOf (P:IN) (t:IM):Array Field:=match P.underlying t with|some (.struct fs)=>fs|_=>#[]
def qvG{a b:IL}{o1 s0 s1:Nat}(hz:(P.info? t).bind (·.zero)=some z)(hu:P.underlying t=some (.struct (fieldsOf P t)))(hpl:∀w,((fieldsOf P t).mapM λf=>do pure (f.offset,<- sizeOf f.type):Sem (Array (I1))).run P w=.ok #[(0,s0),(o1,s1)] w)(ha:a.cells.size=s0)(hb:b.cells.size=s1)(ho:o1=s0)(hs:z.cells.size=s0+s1)(w:IK):(Instr.build t #[(0,a),(1,b)]).run P w=.ok (.agg (a.cells.toList++b.cells.toList).toArray) w:=by
 have h1:=EF 0 a.cells z.cells;have h2:=EF o1 b.cells (en z.cells 0 a.cells.toList);have key:Instr.fill ((#[(0,s0),(o1,s1)]:Array (I1))[·]?) z.cells [(0,a),(1,b)]=some (a.cells.toList++b.cells.toList).toArray:=by have e0:(#[(0,s0),(o1,s1)]:Array (I1))[0]?=some (0,s0):=rfl;have e1:(#[(0,s0),(o1,s1)]:Array (I1))[1]?=some (o1,s1):=rfl;simp only[Instr.fill,e0,e1];have c1:¬(decide (a.cells.size≠s0)||decide (0+a.cells.size>z.cells.size))=true:=(by simp[ha];omega);have c2:¬(decide (b.cells.size≠s1)||decide (o1+b.cells.size>(en z.cells 0 a.cells.toList).size))=true:=(by simp[hb,nT];omega);rw[iN c1,h1,iN c2,h2];congr 1;apply Array.ext';rw[qJ _ _ _ (by rw[nT,IJ];omega),qJ _ _ _ (by rw[IJ];omega)];have hal:a.cells.toList.length=o1:=(by rw[IJ];omega);simp only[take_zero,xJ,xT];rw[Ir oJ,zS oJ,Iw oO,xI]
 simp only[Instr.build,Iu,v9 hz,Iv,run_underlying hu,hpl,key,Sem.run_pure]
def eI.iI{α:Type}{enc:α->List IL}{k:Nat}{S:IS}{w:IK}{s:Sl}{l:List α}(h:eI enc k S w s l)(henc:∀x,(enc x).length=k)(n:Nat){i:Int}{x:α}(hi:i=n)(hx:l[n]?=some x)(kk:K (enc x)):idx s i k λa=>Pt.jg k a w K:=by subst hi;obtain⟨hn,b,o,ha,_,cs,T,fr,hb,hc⟩:=h.at n hx;refine qM ha ⟨oJ,oJ⟩ ?_;rw[zJ];exact rP hb _ (henc x) hc kk
def qtq{α:Type}{enc:α->List IL}{k:Nat}(henc:∀x,(enc x).length=k):∀(l:List α) (i:Nat) (x:α),i<l.length->en (l.flatMap enc).toArray (i*k) (enc x)=((l.set i x).flatMap enc).toArray:=by
 intro l i x hi;have hsplit:l=l.take i++l[i]::l.drop (i+1):=(by rw[<- zX hi,xF]);have hset:l.set i x=l.take i++x::l.drop (i+1):=(by rw[set_eq_take_append_cons_drop,iP hi]);have hlen:((l.take i).flatMap enc).length=i*k:=(by rw[qI henc,yL,xS oJ]);have e1:l.flatMap enc=(l.take i).flatMap enc++enc l[i]++(l.drop (i+1)).flatMap enc:=by
  conv=>lhs;rw[hsplit]
  rw[yQ,yH,zV]
 have e2:(l.set i x).flatMap enc=(l.take i).flatMap enc++enc x++(l.drop (i+1)).flatMap enc:=(by rw[hset,yQ,yH,zV]);rw[e1,e2];generalize (l.take i).flatMap enc=A at hlen;generalize hX:enc l[i]=X;have hXl:X.length=(enc x).length:=(by rw[<- hX,henc,henc]);generalize (l.drop (i+1)).flatMap enc=Z;apply Array.ext';rw[qJ _ _ _ oO];rw[<- hlen];have h1:(A++X++Z).take A.length=A:=(by rw[zV,Ir (zM _),zS (zM _)]);have h2:(A++X++Z).drop (A.length+(enc x).length)=Z:=(by rw[<- hXl,<- zF,Ix (zM _),Iw (zM _),xJ]);rw[h1,h2]
end
end
section
set_option linter.unusedSectionVars false
open Go List
variable {es:Array MapEntry} {seen:Array Nat}
section
variable {α:Type} [DecidableEq α] {P:IN} {w:IK} {kt:IM} {kv:α->IL}
def jy (kv:α->IL) (w:IK) (b:Nat) (f:List (α×IL)):Prop:=
 ∃es c,w.heap[b]?=some (.map es c)/\ng kv es.toList f/\(es.toList.map (·.born)).Pairwise (· < ·)/\∀e∈es.toList,e.born<c
def jy.at{b:Nat}{f:List (α×IL)}(h:jy kv w b f):lh kv w b f:=by obtain⟨es,c,hb,he,_⟩:=h;exact⟨es,c,hb,he⟩
def jy.j1{w':IK}{b:Nat}{S:IS}{f:List (α×IL)}(h:jy kv w b f)(k:Fr S w w')(h1:b∉S):jy kv w' b f:=by obtain⟨es,c,hb,he⟩:=h;exact⟨es,c,by rw[k.block b (eO hb) h1];exact hb,he⟩
def jy.lt{b:Nat}{f:List (α×IL)}(h:jy kv w b f):b<w.heap.size:=by obtain⟨es,c,hb,_⟩:=h;exact eO hb
def jy.empty{b:Nat}(hb:w.heap[b]?=some (.map #[] 0)):jy kv w b []:=⟨#[],0,hb,rfl,oL,oL⟩
def jy.new{t et:IM}{v:IL}(ht:P.underlying t=some (.map kt et))(K:ot P kt kv){b:Nat}{f:List (α×IL)}(h:jy kv w b f)(x:α)(hx:posOf x f=none): ∃o,(Instr.mapUpdate t (.map (some b)) (kv x) v).run P w=.ok () (iz w b o)/\jy kv (iz w b o) b (f++[(x,v)]):=by obtain⟨es,c,hb,he,hs,hc⟩:=h;refine⟨.map (es.push ⟨kv x,v,c⟩) (c+1),?_,es.push ⟨kv x,v,c⟩,c+1,?_,?_,?_,?_⟩;simp[Instr.mapUpdate,run_underlying ht,IF hb,K.check,uK K he,hx,Go.MapKept.run_setObj_map _ hb];rfl;rw[pf _ _ _ _ (eO hb),iP rfl];simp only[ng] at he⊢;simp[he];rw[Array.toList_push,xO,pairwise_append];refine⟨hs,oL,λa ha b hb'=>?_⟩;obtain⟨e,he',rfl⟩:=mem_map.1 ha;simp at hb';subst hb';exact hc e he';intro e he';rw[Array.toList_push] at he';rcases zD.1 he' with h1|h1;exact Nat.lt_succ_of_lt (hc e h1);simp at h1;subst h1;exact Nat.lt_succ_self _
def jy.del{t et ty:IM}(ht:P.underlying t=some (.map kt et))(K:ot P kt kv){b:Nat}{f:List (α×IL)}(h:jy kv w b f)(x:α): ∃o,(Builtin.delete_ #[t,kt] ty #[.map (some b),kv x]).run P w=.ok (.tuple #[]) (iz w b o)/\jy kv (iz w b o) b (match posOf x f with|some q=>f.eraseIdx q.1|none=>f):=by
 obtain⟨es,c,hb,he,hs,hc⟩:=h;cases hp:posOf x f with
 | none=>
  refine⟨.map es c,?_,es,c,?_,he,hs,hc⟩;simp[Builtin.delete_,run_underlying ht,IF hb,K.check,uK K he,hp,Go.MapKept.run_setObj_map _ hb];rfl;rw[pf _ _ _ _ (eO hb),iP rfl]
 | some q=>
  have h1:(es.eraseIdxIfInBounds q.1).toList=es.toList.eraseIdx q.1:=oL;refine⟨.map (es.eraseIdxIfInBounds q.1) c,?_,es.eraseIdxIfInBounds q.1,c,?_,?_,?_,?_⟩;simp[Builtin.delete_,run_underlying ht,IF hb,K.check,uK K he,hp,Go.MapKept.run_setObj_map _ hb];rfl;rw[pf _ _ _ _ (eO hb),iP rfl];rw[h1];simp only[ng] at he⊢;rw[vW,he,<- vW];rw[h1,vW];exact hs.sublist (eraseIdx_sublist _ _);rw[h1];exact λe he'=>hc e (mem_of_mem_eraseIdx he')
def qxm{t et:IM}(ht:P.underlying t=some (.map kt et)){b:Nat}{c:Nat}(hb:w.heap[b]?=some (.map es c)): (Instr.range t (.map (some b))).run P w=.ok (.pointer (some ⟨w.heap.size,0,none⟩)) (w.alloc (.mapIter (some b) c #[] c)):=
 run_range_map w t kt et b es c ht hb
def qAA{b it c:Nat}{ty:IM}{Ke:WP}{Ks:IL->IL->WP}(hb:w.heap[b]?=some (.map es c))(hi:w.heap[it]?=some (.mapIter (some b) c seen c))(hc:∀e∈es.toList,e.born<c)(ke:(∀e∈es.toList,e.born∈seen.toList)->Ke w)(ks:∀e∈es.toList,e.born∉seen.toList->∀w',ol w w'->Ks e.key e.val (iz w' it (.mapIter (some b) c (seen.push e.born) c))): nE ((Instr.next (.pointer (some (dk it))) false ty).run P w) Ke Ks:=by
 have htest:(!seen.isEmpty&&!es.isEmpty&&es.all λx=>decide (x.born>=c))=false:=next_test_false seen es c c hc (zM _);have hlt:=eO hi;let L:=leftOf es seen;have hmem:∀x∈L.toList,x∈es.toList/\x.born∉seen.toList:=(by intro x hx;have:x∈es.toList.filter (λe=>!seen.contains e.born):=(by simpa[L,leftOf] using hx);have h2:=mem_filter.1 this;exact⟨h2.1,by simpa using h2.2⟩);have e1:L.filter (λx=>decide (x.born<c))=L:=(by apply Array.toList_inj.1;rw[Array.toList_filter];exact filter_eq_self.2 λx hx=>zZ (hc x (hmem x hx).1));have e2:L.filter (λx=>decide (x.born>=c)) = #[]:=by apply Array.toList_inj.1;rw[Array.toList_filter];exact filter_eq_nil_iff.2 λx hx=>by have:=hc x (hmem x hx).1;simp;omega
 have hL:es.filter (λe=>!seen.contains e.born)=L:=rfl;have hsz:∀x∈es.toList,x.born∉seen.toList->x∈L.toList:=λx hx hn=>by have:x∈es.toList.filter (λe=>!seen.contains e.born):=mem_filter.2 ⟨hx,by simpa using hn⟩;simpa[L,leftOf] using this
 clear_value L;unfold nE;by_cases h0:L.size=0;left;have hE:L = #[]:=Array.eq_empty_of_size_eq_zero h0;refine⟨w,?_,ke λe he=>Classical.byContradiction λhn=>?_⟩;simp only[Instr.next,getObj,Iu,Sem.run,hi,hb,Result.andThen,htest,Bool.false_eq_true,if_false,hL,e1,e2,Array.append_empty];subst hE;simp[choose,Sem.run,Question.forced]
 have:=hsz e he hn;rw[hE] at this;simp at this;right;have hne:L.isEmpty=false:=(by simp[Array.isEmpty,h0]);have hch:∃(j:Nat) (w1:IK),j<L.size/\ol w w1/\(choose (Question.mapNext L.size)).run P w=.ok j w1:=by by_cases hf:L.size<=1;exact⟨0,w,oJ,.refl _,by simp[choose,Sem.run,Question.forced,hf]⟩;exact⟨_,w.drew,Nat.mod_lt _ oJ,(ol.refl w).drew,by simp only[choose,Sem.run,Question.forced,decide_eq_true_eq,hf,if_false,Question.cut];rfl⟩
 obtain⟨j,w1,hj,hal,hrun⟩:=hch;have hmj:=hmem L[j] oL;have hi1:w1.heap[it]?=some (.mapIter (some b) c seen c):=(by rw[hal.heap];exact hi);refine⟨_,_,_,?_,ks L[j] hmj.1 hmj.2 w1 hal⟩;simp only[Instr.next,getObj,Iu,Sem.run,hi,hb,Result.andThen,htest,Bool.false_eq_true,if_false,hL,e1,e2,Array.append_empty,hne,Array.empty_append,Array.size_map,hrun,Array.getElem?_map,Array.getElem?_eq_getElem hj,Option.map_some,setObj,hi1];rfl
def qAh{b it c s:Nat}{e:MapEntry}{K:IL->IL->WP}(hb:w.heap[b]?=some (.map es c))(hi:w.heap[it]?=some (.mapIter (some b) s (seen.push e.born) c))(he:e∈es.toList)(hs:(es.toList.map (·.born)).Pairwise (· < ·))(k:K e.key e.val w):nQ ((Instr.entry (.pointer (some (dk it)))).run P w) K:=by have hn:(es.toList.map (·.born)).Nodup:=hs.imp λh=>Nat.ne_of_lt h;refine⟨e.key,e.val,w,?_,k⟩;have hf:es.find? (·.born==e.born)=some e:=(by rw[<- Array.find?_toList];exact find_born e es.toList hn he);simp[Instr.entry,getObj,Sem.run,hi,hb,hf,Result.andThen]
end
end
section
open Go List
variable {B:IS} {K:Sl->WP} {M news olds:List IL} {T:IM} {cs:Array IL} {n:Nat} {z:IL}
variable {w:IK} {P:IN}
def EV{b:Nat}{o:Obj}(hb:w.heap[b]?=some o):ef [b] w w [(b,o)]:=⟨λp hp=>by rw[zE.1 hp];exact hb,oL,.refl _ _,λp hp=>.inl (by rw[zE.1 hp];simp)⟩
def qtC{t tx ty e:IM}{i:TypeInfo}{a:Addr}{cap m:Nat}{x:IL}(ht:P.underlying t=some (.slice e))(hi:P.info? e=some i)(hz:i.zero=some z)(hsz:i.size=1)(hzs:z.cells.size=1)(hl:olds.length=n)(hc:∀(j:Nat) u,olds[j]?=some u->w.cell? (a.add j)=some u)(hs:Src P 1 tx x m news w)(hg:cap<n+m)(hbytes:(n+m)*i.bytes<=140737488355328)(h63:n+m<=9223372036854775807)(kk:∀b cs c w',b=w.heap.size->w'.heap[b]?=some (.c cs e)->Fr [] w w'->n+m<=c->c<=cs.size->cs.toList.take (n+m)=olds++news->K ⟨some (dk b),n+m,c⟩ w'): Pt.run dl ((Builtin.append_ #[t,tx] ty #[.slice (some a) n cap,x]).run P w) K:=by subst hl;have hnl:=hs.newsLen;rw[xU] at hnl;refine uS ⟨_,_,_⟩ _ (run_append_grow_src w t tx ty e i z ht hi hz (some a) olds.length cap olds (by rw[hsz];exact run_firstCells_some _ _ _ _ _ _ _ (by rw[xU]) (oP hc)) x m _ (by rw[hsz];exact hs) hg oJ (growslice_fits hg hbytes)) ?_;have hge:olds.length+m<=grownCap w (olds.length+m) cap e:=grownCap_ge w (olds.length+m) cap e;refine kk w.heap.size _ (grownCap w (olds.length+m) cap e) _ rfl (by rw[xp];exact iP rfl) ((Fr.refl [] w).drew.alloc _) hge ?_ ?_;rw[Array.size_append,Dp,hzs,size_toArray,zF,hnl];generalize grownCap w (olds.length+m) cap e=G at hge⊢;omega;rw[Array.toList_append,Ir (by simp[hnl]),zS (by simp[hnl])]
def GT{t tn ty e:IM}{i:TypeInfo}{kn kq:IntKind}{base:Option Addr}{cap k:Nat}(ht:P.underlying t=some (.slice e))(htn:P.underlying tn=some (.int kn))(hi:P.info? e=some i)(hz:i.zero=some z)(hsz:i.size=1)(hzs:z.cells.size=1)(hl:olds.length=n)(hb:base=none->olds=[])(hc:∀a,base=some a->∀(j:Nat) u,olds[j]?=some u->w.cell? (a.add j)=some u)(hk:0<k)(hg:cap<n+k)(hbytes:(n+k)*i.bytes<=140737488355328)(h63:n+k<=9223372036854775807)(kk:∀b cs c w',b=w.heap.size->w'.heap[b]?=some (.c cs e)->Fr [] w w'->n+k<=c->c<=cs.size->cs.toList.take n=olds->K ⟨some (dk b),n+k,c⟩ w'): Pt.run dl ((Builtin.append_ #[t,tn] ty #[.slice base n cap,.int kq k]).run P w) K:=by
 subst hl;have hold:(Builtin.firstCells i.size olds.length (.slice base olds.length cap)).run P w.drew=.ok olds.toArray w.drew:=by
  rw[hsz];cases base with
  | none=>rw[hb rfl];exact run_firstCells_none _ _ _ _ _
  | some a=>exact run_firstCells_some _ _ _ _ _ _ _ (by rw[xU]) (by simpa using hc a rfl)
 have hge:olds.length+k<=grownCap w (olds.length+k) cap e:=grownCap_ge w (olds.length+k) cap e;have hbk:k*i.bytes<=(olds.length+k)*i.bytes:=IB _ oJ;refine uS ⟨_,_,_⟩ _ (Lib.run_append_grow_zeros w t tn ty e i z kq kn ht htn hi hz base olds.length cap olds hold k hk oJ hg oJ oJ (growslice_fits hg hbytes))<|kk w.heap.size _ (grownCap w (olds.length+k) cap e) _ rfl (by rw[xp];exact iP rfl) ((Fr.refl [] w).drew.alloc _) hge ?_ ?_;rw[Array.size_append,Array.size_append,Dp,Dp,hzs,size_toArray];generalize grownCap w (olds.length+k) cap e=G at hge⊢;omega;rw[Array.toList_append,Array.toList_append,zV];exact take_left' oL
def qtD{t tx ty e:IM}{i:TypeInfo}{b cap m:Nat}{x:IL}(hb:w.heap[b]?=some (.c cs T))(ht:P.underlying t=some (.slice e))(hi:P.info? e=some i)(hsz:i.size=1)(hs:Src P 1 tx x m news w)(hroom:n+m<=cap)(hcs:cap<=cs.size)(kk:∀w',w'.heap[b]?=some (.c (en cs n news) T)->Fr [b] w w'->K ⟨some (dk b),n+m,cap⟩ w'): Pt.run dl ((Builtin.append_ #[t,tx] ty #[.slice (some (dk b)) n cap,x]).run P w) K:=by have hnl:=hs.newsLen;rw[xU] at hnl;refine uS ⟨_,_,_⟩ _ (run_append_room_src w t tx ty e i ht hi b 0 n cap x m _ (by rw[hsz];exact hs) hroom (λj hj=>?_) λj hj=>?_) ?_;rw[hnl] at hj;rw[hsz,jC hb];have:n+j<cs.size:=oJ;simp[this];simp[World.frozen?,hb];rw[xo hb,hsz,xU,xT];exact kk _ (by rw[pf _ _ _ _ (eO hb),iP rfl]) (oQ (eO hb) _)
def wO{t t' ty el b:Nat}{o dLen dCap:Nat}{src:Sl}{vs:List IL}{K:Int->WP}(hb:w.heap[b]?=some (.c cs T))(hu:P.underlying t=some (.slice el))(hs:(P.info? el).map (·.size)=some 1)(hlen:vs.length=Nat.min src.len dLen)(hvs:vs≠[]->∃a,src.a=some a/\∀(j:Nat) v,vs[j]?=some v->w.cell? (a.add j)=some v)(h1:∀v∈vs,v.oneCell'=true)(hfit:o+vs.length<=cs.size)(k:∀w',w'.heap[b]?=some (.c (en cs o vs) T)->Fr [b] w w'->K vs.length w'): Pt.run [iF.one (Cell.int .i64)] ((Builtin.copy_ #[t,t'] ty #[.slice (some (dk b o)) dLen dCap,.slice src.a src.len src.cap]).run P w) K:=
 (EV hb).wq 0 rfl hu hs hlen hvs h1 hfit λw' h'=>k w' (h'.at (i:=0) rfl) h'.fr
def qtJ{t e ty b o c:Nat}{K:Unit->WP}(hb:w.heap[b]?=some (.c cs T))(ht:P.underlying t=some (.slice e))(hz:(P.info? e).bind (·.zero)=some z)(hzc:z.cells = #[z])(h1:z.oneCell'=true)(hn:0<n)(hfit:o+n<=cs.size)(k:∀w',w'.heap[b]?=some (.c (en cs o (List.replicate n z)) T)->Fr [b] w w'->K () w'): Pt.run [] ((Builtin.clear_ #[t] ty #[.slice (some (dk b o)) n c]).run P w) K:=by refine⟨(),_,Lib.run_clear_slice w t e ty z ht (v9 hz) hzc h1 b o n c hn (λj hj=>?_) λj hj=>?_,?_⟩;rw[jC hb];simp[show o+j<cs.size by omega];simp[World.frozen?,hb];rw[xo hb];exact k _ (by rw[pf _ _ _ _ (eO hb),iP rfl]) (oQ (eO hb) _)
def qwI{i:Nat}{v:IL}(hi:i<=M.length)(hL:M.length+1<=cs.size)(hM:cs.toList.take i=M.take i):(en (en cs (i+1) (M.drop i)) i [v]).toList.take (M.length+1)=M.take i++[v]++M.drop i:=by have hl:cs.toList.length=cs.size:=IJ;rw[qJ _ _ _ (by rw[nT];simp;omega),qJ _ _ _ oO];have e0:(cs.toList.take (i+1)++(M.drop i++cs.toList.drop (i+1+(M.drop i).length))).take i=M.take i:=(by rw[Ir oO,take_take,xS oJ,hM]);rw[zV (cs.toList.take (i+1)),e0];rw[drop_append,Iw (l:=cs.toList.take (i+1)) (by rw[yL];exact Nat.min_le_left _ _),xJ];have e:(List.take (i+1) cs.toList).length=i+1:=oO;rw[e,xN,Nat.sub_self,xG,<- zV];exact take_left' oO
def qwG{i:Nat}{v:IL}(hi:i<=M.length)(hL:M.length+1<=cs.size)(hM:cs.toList.take i=M.take i):(en (en cs i [v]) (i+1) (M.drop i)).toList.take (M.length+1)=M.take i++[v]++M.drop i:=by have hl:cs.toList.length=cs.size:=IJ;rw[qJ _ _ _ (by rw[nT];simp;omega),qJ _ _ _ oO,hM];have e:(M.take i++[v]).length=i+1:=oO;rw[Ir (l₁:=M.take i++[v]) (by rw[e];exact zM _),zS (l:=M.take i++[v]) (by rw[e];exact zM _)];exact take_left' oO
def qwl{i:Nat}(hi:i+1<=M.length)(hM:cs.toList.take M.length=M):(en (en cs i (M.drop (i+1))) (M.length-1) [z]).toList.take (M.length-1)=M.take i++M.drop (i+1):=by
 have hl:cs.toList.length=cs.size:=IJ;have hle:M.length<=cs.size:=by
  have:=IH List.length hM;rw[yL,hl] at this;omega
 have hi':cs.toList.take i=M.take i:=by
  conv=>rhs;rw[<- hM]
  rw[take_take,xS oJ]
 rw[qJ _ _ _ (by rw[nT];simp;omega),qJ _ _ _ oO,hi'];have e:(M.take i++M.drop (i+1)).length=M.length-1:=oO;rw[Ir (l₁:=M.take i++M.drop (i+1)) (by rw[e];exact zM _),zS (l:=M.take i++M.drop (i+1)) (by rw[e];exact zM _),zV];exact take_left' e
def qnZ{tS tR e:IM}{i:TypeInfo}{a b oa ob la ca lb cb:Nat}{ca' cb':Array IL}{Ta Tb:IM}{fb:I1}(ht:P.underlying tS=some (.slice e))(hi:P.info? e=some i)(ha:w.heap[a]?=some (.c ca' Ta))(hb:w.heap[b]?=some (.cells cb' Tb fb))(hne:a≠b)(hpos:cb'.size≠0): (Extern.SlicesOverlaps.overlaps #[tS,tS] #[tR] #[.slice (some (dk a oa)) la ca,.slice (some (dk b ob)) lb cb]).run P w=.ok (.bool false) w:=
 Lib.run_overlaps_apart w tS tR e ht i.size (λw=>by simp[sizeOf,typeInfo,hi]) (dk a oa) (dk b ob) la ca lb cb hne Ta Tb ca'.size cb'.size (by simp[World.shape?,ha]) (by simp[World.shape?,hb]) hpos (by simp[World.frozen?,ha]) (by simp[World.frozen?,ha])
section
variable {α:Type} {enc:α->List IL} {e:α->IL} {k:Nat}
def A6(he:∀x,enc x=[e x])(l:List α):l.flatMap enc=l.map e:=by
 induction l with
 | nil=>rfl
 | cons a l ih=>rw[yH,ih,he];rfl
def fj.ptr{s:Sl}{l:List α}(h:fj enc 1 w s l B)(hl:l≠[]):∃b cs T,B=[b]/\s.a=some (dk b)/\w.heap[b]?=some (.c cs T)/\s.len=l.length/\s.len<=s.cap/\s.cap<=cs.size/\cs.toList.take l.length=l.flatMap enc:=by rcases h with ⟨_,h,_⟩|⟨b,o,cs,T,h1,rfl,h3,h4,h5,h6,h7,h8⟩;exact absurd h hl;exact⟨b,cs,T,h1,h3,h4,h5,h6,oJ,by simpa using h8⟩
def qqq{i:Nat}{v:IL}(hi:i<M.length)(hM:cs.toList.take M.length=M):(en cs i [v]).toList.take M.length=M.set i v:=by
 have hl:cs.toList.length=cs.size:=IJ;have hle:M.length<=cs.size:=by
  have:=IH List.length hM;rw[yL,hl] at this;omega
 have hi':cs.toList.take i=M.take i:=by
  conv=>rhs;rw[<- hM]
  rw[take_take,xS oJ]
 have hd:(cs.toList.drop (i+1)).take (M.length-(i+1))=M.drop (i+1):=by
  conv=>rhs;rw[<- hM]
  rw[drop_take]
 rw[qJ _ _ _ oO,hi',set_eq_take_append_cons_drop,iP hi,zV,take_append,zS (by rw[yL];omega)];have e1:M.length-(M.take i).length=(M.length-(i+1))+1:=oO;rw[e1,singleton_append,take_succ_cons];simp only[xN];rw[hd]
def fj.Cj(he:∀x,enc x=[e x]){s:Sl}{l:List α}{b:Nat}{i:Nat}{x:α}{v:IL}{K:WP}(h:fj enc 1 w s l [b])(hi:i<l.length)(hv:v=e x)(h1:v.oneCell'=true)(kk:∀w',fj enc 1 w' s (l.set i x) [b]->Fr [b] w w'->K w'):Pt.st (dk b i) [v] w K:=by
 subst hv;obtain⟨b',cs,T,hB,h2,h3,h4,h5,h6,h7⟩:=h.ptr (λe=>by rw[e] at hi;exact absurd hi (xZ _));cases hB;refine qH h3 _ rfl (by simp[h1]) oO λw' hb f=>kk w' (.inr ⟨b,0,_,T,rfl,rfl,h2,hb,by rw[xH];exact h4,h5,by rw[nT];omega,?_⟩) f;have hm:=A6 he l
 have:=qqq (cs:=cs) (M:=l.flatMap enc) (i:=i) (v:=e x) (by rw[hm,zK];exact hi) (by rw[hm,zK,<- hm];exact h7);rw[xG,xU,xH,A6 he,map_set,<- hm];rw[hm,zK] at this;rw[hm];exact this
def fj.wt{s:Sl}{l:List α}{i:Int}{K:Addr->Prop}(h:fj enc 1 w s l B)(hi:i=n)(hn:n<l.length)(kk:∀b,B=[b]->K (dk b n)):idx s i 1 K:=by
 obtain⟨b,cs,T,hB,h2,h3,h4,h5,h6,h7⟩:=h.ptr (λe=>by rw[e] at hn;exact absurd hn (xZ _));subst hi;refine qM h2 ⟨oJ,oJ⟩ ?_;have:=kk b hB;simpa using this
def fj.one(he:∀x,enc x=[e x]){b c:Nat}{l:List α}(hb:w.heap[b]?=some (.c cs T))(hn:n=l.length)(hc:n<=c)(hcs:c<=cs.size)(hl:cs.toList.take l.length=l.map e):fj enc 1 w ⟨some (dk b),n,c⟩ l [b]:=
 .inr ⟨b,0,cs,T,rfl,rfl,rfl,hb,hn,hc,by simpa using hcs,by rw[xG,xU,A6 he];exact hl⟩
end
end
section
open Go
section
variable {P:IN} {n m:Nat} {e:Env} {a:Act} {w:IK}
end
def oA:type_of% @ef.ld:=@ef.ld
def oB:type_of% @ef.CF:=@ef.CF
def oC:type_of% @ef.dX:=@ef.dX
def oD:type_of% @ef.sz:=@ef.sz
def oE:type_of% @ef.start:=@ef.start
def oF:type_of% @ef.drew:=@ef.drew
def oG:type_of% @ef.st':=@ef.st'
def oH:type_of% @ef.st:=@ef.st
def oI:type_of% @ef.fP:=@ef.fP
end
end Go.Pt
