/- Conditions: those that stand in each line. -/
import Derived.WalkKit
import Derived.RangeFuncLeaves
import Derived.RangeFuncRecord
import Derived.RangeFuncIn
import Derived.ChangeKeysEq
import Derived.Carry
import Derived.ProofKit
import Derived.OpenShut
import Derived.ArgAppend
import Derived.Deep.AppendSrc
import Derived.Deep.Slices
import Derived.MapKept
import Derived.Laws.CopyRow
import Derived.Laws.IdiomCopy
import Derived.Laws.Externs
import Derived.Laws.IdiomRangeMap
import Derived.Lib.SliceRun
import Derived.Lib.Overlaps
import Derived.Lib.AppendZerosOnto
import Derived.Test.YtcnddmfogfebiaaGreatDoorProg
import Derived.KernelRfl
set_option linter.unusedVariables false
set_option linter.unusedSimpArgs false
set_option linter.defProp false
abbrev Go.World.z(w:Go.World):=w.heap.size
namespace Go.Pt
abbrev Mk:Type:=List Nat
abbrev Ml:Type:=List Int
abbrev Mn:Type:=Int×Int×Int×Int×Int×Int×Int×Int×Int×Int×Int×Int×Int×Int×Int×Int
abbrev Mo:Type:=Int×Int
abbrev Mp:Type:=Int×Int×Int×Int×Int×Int×Int×Int×Int×Int×Int×Int×Int×Int×Int
abbrev Mq:Type:=List (Nat×Go.Obj)
abbrev Ms:Type:=Int×Int×Int×Int×Option Go.Addr×Int
abbrev Mu:Type:=Nat×Nat
abbrev Mw:Type:=Int×Int×Int
abbrev My:Type:=Nat×Nat×Bool
abbrev Mz:Type:=Int×Bool
abbrev MA:Type:=Int×Int×Int×Int×Int×Int×Int×Int
abbrev MB:Type:=Int×Int×Int×Int
abbrev MC:Type:=Option Go.Addr×Option Go.Addr
abbrev MD:Type:=Int×List Int
abbrev LD(a:Go.Addr)(n:Nat):Go.Addr:=⟨a.block,a.off+n,none⟩
abbrev LG(p:Prop)[Decidable p](X Y:Prop):Prop:=cond (decide p) X Y
theorem LM:type_of% @_root_.decide_eq_decide:=@_root_.decide_eq_decide
theorem LN:type_of% @List.perm_append_singleton:=@List.perm_append_singleton
theorem LO:type_of% @List.take_append_of_le_length:=@List.take_append_of_le_length
theorem LP:type_of% @List.nodup_cons:=@List.nodup_cons
theorem LQ:type_of% @List.mem_cons_self:=@List.mem_cons_self
theorem LR:type_of% @Bool.eq_iff_iff:=@Bool.eq_iff_iff
theorem LS:type_of% @Sem.run_bind:=@Sem.run_bind
theorem LU:type_of% @Result.andThen_ok:=@Result.andThen_ok
theorem LV:type_of% @List.drop_of_length_le:=@List.drop_of_length_le
theorem LW:type_of% @List.drop_append_of_le_length:=@List.drop_append_of_le_length
theorem LX:type_of% @List.eq_nil_of_length_eq_zero:=@List.eq_nil_of_length_eq_zero
theorem LY:type_of% @List.all_eq_true:=@List.all_eq_true
theorem LZ:type_of% @Int.tdiv_eq_ediv_of_nonneg:=@Int.tdiv_eq_ediv_of_nonneg
theorem L0:type_of% @Nat.mul_le_mul_right:=@Nat.mul_le_mul_right
theorem L5:type_of% @List.sublist_cons_self:=@List.sublist_cons_self
theorem L6:type_of% @Bool.or_eq_false_iff:=@Bool.or_eq_false_iff
theorem L7:type_of% @decide_eq_false_iff_not:=@decide_eq_false_iff_not
theorem L8:type_of% @Go.MapKept.run_getObj_map:=@Go.MapKept.run_getObj_map
theorem L9:type_of% @List.mem_filter:=@List.mem_filter
theorem Ma:type_of% @congrArg:=@congrArg
theorem Mb:type_of% @Array.getElem?_setIfInBounds:=@Array.getElem?_setIfInBounds
theorem Mc:type_of% @Array.length_toList:=@Array.length_toList
abbrev Md:Type:=Go.World
abbrev Me:Type:=Go.Value
abbrev Mf:Type:=Go.TypeId
abbrev Mg:Type:=Go.Program
abbrev _root_.Go.Value.p(a:Option Go.Addr):Go.Value:=.pointer a
abbrev _root_.Go.Obj.c(a:Array Go.Value)(t:Go.TypeId):Go.Obj:=.cells a t (0,0)
abbrev co:Array Go.Value:=#[.int .u64 0,.int .u64 0,.int .u64 0,.int .u64 0,.int .u64 0,.int .u64 0,.int .u64 0,.int .u64 0,.int .u64 0,.int .u64 0,.int .u64 0,.int .u32 0,.int .u16 0,.int .u16 0,.int .u64 0]
abbrev cp:Array Go.Value:=#[.bool false,.slice none 0 0,.slice none 0 0,.slice none 0 0]
abbrev cq:Array Go.Value:=#[.int .u64 0,.int .u64 0]
abbrev c6:Array Go.Value:=#[.int .u64 0,.int .u64 0,.int .u64 0,.int .u64 0,.int .u64 0,.int .u64 0,.int .u64 0,.int .u64 0,.int .u64 0,.int .u64 0,.int .u64 0,.int .u32 0,.int .u32 0,.int .u16 0,.int .u16 0,.int .u64 0]
abbrev c7:Array Go.Value:=#[.int .u64 0,.int .u64 0,.int .u64 0,.int .u64 0,.int .u64 0,.int .u64 0,.int .u64 0,.int .u64 0]
abbrev c9:Array Go.Value:=#[.int .u32 0,.bool false,.slice none 0 0,.int .u32 0]
abbrev da:Array Go.Value:=#[.bool false,.slice none 0 0,.slice none 0 0,.slice none 0 0,.int .i64 0]
abbrev dc:Array Go.Value:=#[.int .u64 0,.int .u64 0,.int .u64 0,.int .u64 0]
abbrev dd:Array Go.Value:=#[.slice none 0 0,.slice none 0 0]
abbrev de:Array Go.Value:=#[.int .u32 0,.int .u32 0,.int .u32 0,.int .u32 0,.int .u32 0,.int .u32 0,.int .u32 0,.int .u32 0]
abbrev df(a b:Int):Go.Value:=.agg #[.int .u64 a,.int .u64 b]
abbrev dh(b:Nat)(o:Nat:=0):Go.Addr:=⟨b,o,none⟩
abbrev dM(b:Nat):Go.Value:=.pointer (some ⟨b,0,none⟩)
open Go
variable {p:Prop}
theorem oL(h:p:=by omega):p:=h
theorem oM(h:p:=by kernel_rfl):p:=h
theorem oN(h:p:=by simp):p:=h
theorem oO(h:p:=by decide):p:=h
theorem oP(h:p:=by dsimp only;omega):p:=h
theorem oQ(h:p:=by simp;omega):p:=h
theorem oS{q:Prop}(x:q)(h:q->p:=by intro h;simpa using h):p:=h x
inductive Cell where
  | int (k:IntKind) | bool | str | ptr | slice | map | any
  deriving DecidableEq
abbrev dg:List Cell:=[.int .u64,.int .u64]
structure Sl where
  a:Option Addr
  len:Nat
  cap:Nat
abbrev Sl.v (s:Sl):Me:=.slice s.a s.len s.cap
abbrev WP:=Md->Prop
abbrev Mm:Type:=Bool×Sl×Sl×Sl
abbrev Mr:Type:=Sl×Int
abbrev Mt:Type:=Int×Bool×Sl×Int
abbrev Mx:Type:=Int×Sl×Int
abbrev pW (r:Nat):Option Addr:=some (dh r)
abbrev _root_.Go.Value.i (n:Int):Value:=.int .i64 n
abbrev Cell.i:Cell:=.int .i64
abbrev _root_.Go.Value.b (n:Int):Value:=.int .u8 n
abbrev Cell.b:Cell:=.int .u8
abbrev _root_.Go.Value.u (n:Int):Value:=.int .u32 n
abbrev Cell.u:Cell:=.int .u32
abbrev Cell.s:Cell:=.slice
abbrev _root_.Go.Value.w (n:Int):Value:=.int .u64 n
abbrev Cell.w:Cell:=.int .u64
def zA:type_of% @List.getElem?_eq_getElem:=@List.getElem?_eq_getElem
def zB:type_of% @of_decide_eq_false:=@of_decide_eq_false
def zC:type_of% @of_decide_eq_true:=@of_decide_eq_true
def zD:type_of% @List.mem_append:=@List.mem_append
def zE:type_of% @List.mem_singleton:=@List.mem_singleton
def zF:type_of% @List.length_append:=@List.length_append
def zG:type_of% @List.mem_cons:=@List.mem_cons
def zH:type_of% @List.mem_append_left:=@List.mem_append_left
def zI:type_of% @List.mem_append_right:=@List.mem_append_right
def zJ:type_of% @Int.toNat_natCast:=@Int.toNat_natCast
def zK:type_of% @List.length_map:=@List.length_map
def zL:type_of% @Nat.le_trans:=@Nat.le_trans
def zM:type_of% @Nat.le_refl:=@Nat.le_refl
def zN:type_of% @List.mem_cons_of_mem:=@List.mem_cons_of_mem
def zO:type_of% @Nat.le_of_ble_eq_true:=@Nat.le_of_ble_eq_true
def zP:type_of% @List.getElem?_eq_some_iff:=@List.getElem?_eq_some_iff
def zQ:type_of% @List.getElem?_map:=@List.getElem?_map
def zR:type_of% @beq_eq_false_iff_ne:=@beq_eq_false_iff_ne
def zS:type_of% @List.take_of_length_le:=@List.take_of_length_le
def zT:type_of% @Bool.not_eq_true':=@Bool.not_eq_true'
def zU:type_of% @decide_eq_false:=@decide_eq_false
def zV:type_of% @List.append_assoc:=@List.append_assoc
def zW:type_of% @List.getElem_mem:=@List.getElem_mem
def zX:type_of% @List.drop_eq_getElem_cons:=@List.drop_eq_getElem_cons
def zY:type_of% @List.mem_map_of_mem:=@List.mem_map_of_mem
def yA:type_of% @decide_eq_true:=@decide_eq_true
def yB:type_of% @Bool.and_eq_true:=@Bool.and_eq_true
def yC:type_of% @List.length_drop:=@List.length_drop
def yD:type_of% @Nat.lt_of_lt_of_le:=@Nat.lt_of_lt_of_le
def yE:type_of% @Bool.not_eq_false':=@Bool.not_eq_false'
def yF:type_of% @List.mem_of_getElem?:=@List.mem_of_getElem?
def yG:type_of% @List.take_succ_eq_append_getElem:=@List.take_succ_eq_append_getElem
def yH:type_of% @List.flatMap_cons:=@List.flatMap_cons
def yI:type_of% @List.length_cons:=@List.length_cons
def yJ:type_of% @List.pairwise_cons:=@List.pairwise_cons
def yK:type_of% @List.mem_flatMap:=@List.mem_flatMap
def yL:type_of% @List.length_take:=@List.length_take
def yM:type_of% @List.nodup_append:=@List.nodup_append
def yN:type_of% @decide_eq_true_iff:=@decide_eq_true_iff
def yO:type_of% @Option.some.inj:=@Option.some.inj
def yP:type_of% @beq_iff_eq:=@beq_iff_eq
def yQ:type_of% @List.flatMap_append:=@List.flatMap_append
def yR:type_of% @List.getD_eq_getElem?_getD:=@List.getD_eq_getElem?_getD
def yS:type_of% @List.getElem?_eq_none:=@List.getElem?_eq_none
def yT:type_of% @Option.map_eq_some_iff:=@Option.map_eq_some_iff
def yU:type_of% @List.mem_of_mem_drop:=@List.mem_of_mem_drop
def yV:type_of% @List.mem_of_mem_take:=@List.mem_of_mem_take
def yW:type_of% @Nat.eq_of_beq_eq_true:=@Nat.eq_of_beq_eq_true
def yX:type_of% @Nat.zero_le:=@Nat.zero_le
def yY:type_of% @List.getElem?_append_right:=@List.getElem?_append_right
def yZ:type_of% @List.getElem?_append_left:=@List.getElem?_append_left
def xA:type_of% @List.getElem?_drop:=@List.getElem?_drop
def xB:type_of% @List.getElem?_take:=@List.getElem?_take
def xC:type_of% @List.drop_drop:=@List.drop_drop
def xD:type_of% @List.take_append_drop:=@List.take_append_drop
def xE:type_of% @List.drop_zero:=@List.drop_zero
def xF:type_of% @List.length_set:=@List.length_set
def xG:type_of% @List.append_nil:=@List.append_nil
def xH:type_of% @List.nil_append:=@List.nil_append
def xI:type_of% @List.cons_append:=@List.cons_append
def xJ:type_of% @List.length_nil:=@List.length_nil
def xK:type_of% @List.length_singleton:=@List.length_singleton
def xL:type_of% @List.map_append:=@List.map_append
def xM:type_of% @List.map_cons:=@List.map_cons
def xN:type_of% @List.map_take:=@List.map_take
def xO:type_of% @List.map_drop:=@List.map_drop
def xP:type_of% @Nat.min_eq_left:=@Nat.min_eq_left
def xQ:type_of% @Nat.zero_add:=@Nat.zero_add
def xR:type_of% @Nat.mul_one:=@Nat.mul_one
def xS:type_of% @Nat.add_mul:=@Nat.add_mul
def xT:type_of% @Option.getD_some:=@Option.getD_some
def xU:type_of% @Option.getD_none:=@Option.getD_none
def xV:type_of% @List.getElem?_set:=@List.getElem?_set
def xW:type_of% @List.not_mem_nil:=@List.not_mem_nil
def xX:type_of% @Nat.not_lt_zero:=@Nat.not_lt_zero
def xY:type_of% @List.take_length:=@List.take_length
def xZ:type_of% @List.dropLast_concat_getLast:=@List.dropLast_concat_getLast
def vA:type_of% @Nat.add_sub_cancel_left:=@Nat.add_sub_cancel_left
def vB:type_of% @List.drop_eq_nil_of_le:=@List.drop_eq_nil_of_le
def iN{c:Prop}[Decidable c]{α:Type _}{t e:α}(h:¬c:=by omega):ite c t e=e:=if_neg h
def iP{c:Prop}[Decidable c]{α:Type _}{t e:α}(h:c:=by omega):ite c t e=t:=if_pos h
@[reducible] def Cell.El:Cell->Type
  | .int _=>Int
  | .bool=>Bool
  | .str=>ByteArray
  | .ptr=>Option Addr
  | .slice=>Sl
  | .map=>Option Nat
  | .any=>Me
def Cell.mk:(c:Cell)->c.El->Me
  | .int k,n=>.int k n
  | .bool,b=>.bool b
  | .str,s=>.string s
  | .ptr,p=>.pointer p
  | .slice,s=>.slice s.a s.len s.cap
  | .map,m=>.map m
  | .any,v=>v
def Cell.un:(c:Cell)->Me->Option c.El
  | .int k,.int j n=>if k=j then some n else none
  | .bool,.bool b=>some b
  | .str,.string s=>some s
  | .ptr,.pointer p=>some p
  | .slice,.slice a l c=>some ⟨a,l,c⟩
  | .map,.map m=>some m
  | .any,v=>some v
  | _,_=>none
variable {c:Cell} {v:Me} {y:Operand} {t:Mf} {K:Bool->Prop} {n:Nat} {ds:List Deferred}
def Cell.od{x:c.El}(h:c.un v=some x):c.mk x=v:=by
  cases c<;>cases v<;>simp[Cell.un] at h<;>first
    | (obtain⟨rfl,rfl⟩:=h;rfl)
    | (subst h;rfl)
@[reducible] def HL:List Cell->Type
  | []=>Unit
  | [c]=>c.El
  | c::d::cs=>c.El×HL (d::cs)
def HL.mk:(cs:List Cell)->HL cs->List Me
  | [],_=>[]
  | [c],x=>[c.mk x]
  | c::d::cs,x=>c.mk x.1::HL.mk (d::cs) x.2
abbrev LH(c:List Cell)(x:HL c)(t:Go.TypeId):Go.Obj:=.c (HL.mk c x).toArray t
abbrev LI(c:List Cell)(x:HL c):Go.Value:=.agg (HL.mk c x).toArray
def HL.j3:∀(cs:List Cell) (x:HL cs),(HL.mk cs x).length=cs.length
  | [],_=>rfl
  | [_],_=>rfl
  | _::d::cs,x=>by simp only[HL.mk,yI,HL.j3 (d::cs) x.2]
def HL.un:(cs:List Cell)->List Me->Option (HL cs)
  | [],[]=>some ()
  | [c],[v]=>c.un v
  | c::d::cs,v::vs=>
    match c.un v,HL.un (d::cs) vs with|some x,some y=>some (x,y)|_,_=>none
  | _,_=>none
def HL.od:∀ {cs:List Cell} {vs:List Me} {x:HL cs},HL.un cs vs=some x->HL.mk cs x=vs
  | [],[],_,_=>rfl
  | [],_::_,_,h=>by simp[HL.un] at h
  | [c],[v],x,h=>by simp only[HL.un] at h;simp only[HL.mk,Cell.od h]
  | [c],[],x,h=>by simp[HL.un] at h
  | [c],_::_::_,x,h=>by simp[HL.un] at h
  | c::d::cs,[],x,h=>by simp[HL.un] at h
  | c::d::cs,v::vs,x,h=>by simp only[HL.un] at h;split at h;rename_i a b ha hb;cases h;simp only[HL.mk,Cell.od ha,HL.od hb];cases h
inductive jV where
  | one (c:Cell)
  | agg (cs:List Cell)
  | tg
abbrev di:List jV:=[.one .slice]
abbrev dj:List jV:=[.one .i]
abbrev dk:List jV:=[.one .bool]
abbrev dl:List jV:=[.one .slice,.one .i]
abbrev dm:List jV:=[.one .u]
abbrev dp:List jV:=[.one .ptr]
abbrev dr:List jV:=[.one (.w)]
abbrev dt:List jV:=[.tg,.one .bool]
abbrev du:List jV:=[.one .b,.one .slice,.one .i]
abbrev dv:List jV:=[.one .i,.one .i]
abbrev dw:List jV:=[.one .slice,.one .slice]
abbrev dx:List jV:=[.one .any]
abbrev dy:List jV:=[.one (.w),.one (.w)]
abbrev dz:List jV:=[.tg]
abbrev dB:List jV:=[.one .u,.one .i]
abbrev dC:List jV:=[.one (.w),.one (.w),.one .bool]
abbrev dD:List jV:=[.one .i,.one .bool]
abbrev dE:List jV:=[.one .ptr,.one .ptr]
abbrev dF:List jV:=[.one (.w),.one .bool]
abbrev dG:List jV:=[.one .slice,.one .i,.one .i]
abbrev dH:List jV:=[.tg,.one .i]
abbrev dI:List jV:=[.one .ptr,.one .i]
abbrev dJ:List jV:=[.one .u,.one .bool]
abbrev dK:List jV:=[.one .ptr,.one .bool]
abbrev dL:List jV:=[.one .u,.one .slice,.one .i]
abbrev dN:Sl:=⟨none,0,0⟩
@[reducible] def jV.El:jV->Type
  | .one c=>c.El
  | .agg cs=>HL cs
  | .tg=>List Me
def jV.mk:(t:jV)->t.El->Me
  | .one c,x=>c.mk x
  | .agg cs,x=>.agg (HL.mk cs x).toArray
  | .tg,x=>.agg x.toArray
def jV.un:(t:jV)->Me->Option t.El
  | .one c,v=>c.un v
  | .agg cs,.agg vs=>HL.un cs vs.toList
  | .tg,.agg vs=>some vs.toList
  | .agg _,_=>none
  | .tg,_=>none
def jV.od{t:jV}{x:t.El}(h:t.un v=some x):t.mk x=v:=by
  cases t with
  | one c=>exact Cell.od h
  | agg cs=>
    cases v<;>simp only[jV.un] at h<;>first
      | cases h
      | (simp only[jV.mk,HL.od h])
  | tg=>
    cases v<;>simp only[jV.un] at h<;>first
      | (cases h;done)
      | (cases h;simp only[jV.mk])
@[reducible] def kH:List jV->Type
  | []=>Unit
  | [t]=>t.El
  | t::u::ts=>t.El×kH (u::ts)
def kH.vals:(ts:List jV)->kH ts->List Me
  | [],_=>[]
  | [t],x=>[t.mk x]
  | t::u::ts,x=>t.mk x.1::kH.vals (u::ts) x.2
def gU:(ts:List jV)->kH ts->Me
  | [],_=>.tuple #[]
  | [t],x=>t.mk x
  | t::u::ts,x=>.tuple (kH.vals (t::u::ts) x).toArray
abbrev Env:=List (Nat×Me)
def Env.get:Env->Nat->Option Me
  | [],_=>none
  | (k,v)::r,t=>bif Nat.beq k t then some v else Env.get r t
def Env.ev (e:Env):Operand->Option Me
  | .tmp t=>e.get t
  | .const v=>some v
  | .global g=>some (.pointer (some (dh g)))
  | .func f=>some (.func (.func f) #[] #[])
def Env.put (e:Env) (dst:Option Tmp) (v:Me):Env:=
  match dst with|some d=>(d,v)::e|none=>e
def Env.tE (e:Env):List Operand->Option (List Me)
  | []=>some []
  | x::xs=>match e.ev x,e.tE xs with|some v,some vs=>some (v::vs)|_,_=>none
abbrev Live:=List (Nat×jV)
@[reducible] def wN (l:Live):Type:=kH (l.map (·.2))
def uf:(l:Live)->wN l->Env
  | [],_=>[]
  | [(t,y)],x=>[(t,y.mk x)]
  | (t,y)::p::r,x=>(t,y.mk x.1)::uf (p::r) x.2
def rf:(l:Live)->Env->Option (wN l)
  | [],_=>some ()
  | [(t,y)],e=>match e.get t with|some v=>y.un v|none=>none
  | (t,y)::p::r,e=>
    match e.get t with
    | some v=>match y.un v with
      | some x=>match rf (p::r) e with|some z=>some (x,z)|none=>none
      | none=>none
    | none=>none
def kU (w:Md) (a:Addr):Nat->List Me->Prop
  | _,[]=>True
  | i,[v]=>w.cell? (a.add i)=some v
  | i,v::vs=>w.cell? (a.add i)=some v/\kU w a (i+1) vs
structure og where
  ld:(c:Cell)->Addr->Md->(c.El->Prop)->Prop
  dP:(cs:List Cell)->Addr->Md->(HL cs->Prop)->Prop
  iA:Nat->Addr->Md->(List Me->Prop)->Prop
  qg:(c:Cell)->List Me->Nat->(c.El->Prop)->Prop
  kO:(cs:List Cell)->List Me->Nat->(HL cs->Prop)->Prop
  eX:Mf->Md->(Nat->Md->Prop)->Prop
  st:Addr->List Me->Md->(Md->Prop)->Prop
  new:Obj->Md->(Nat->Md->Prop)->Prop
  idx:Sl->Int->Nat->(Addr->Prop)->Prop
  kz:(c:Cell)->Nat->List Me->Int->(c.El->Prop)->Prop
  gi:Sl->Option Int->Option Int->Option Int->Nat->(Sl->Prop)->Prop
  jH:Addr->Nat->Option Int->Option Int->Option Int->Nat->(Sl->Prop)->Prop
  nD:Mf->List Me->Nat->Nat->Int->Int->Md->(Sl->Md->Prop)->Prop
  gV:Prop->Prop->Prop
  call:FuncId->List Me->(ts:List jV)->Md->(kH ts->Md->Prop)->Prop
  dU:Me->List Me->(ts:List jV)->Md->(kH ts->Md->Prop)->Prop
  inv:Me->String->List Me->(ts:List jV)->Md->(kH ts->Md->Prop)->Prop
  run:(ts:List jV)->Result Me->(kH ts->Md->Prop)->Prop
  eO:(ts:List jV)->(Md->Result Me)->Md->(kH ts->Prop)->Prop
  jt:Result Unit->(Md->Prop)->Prop
  join:(S:Type)->((S->Md->Prop)->Prop)->(S->Md->Prop)->Prop
  loop:(S:Type)->((S->Md->Prop)->S->Md->Prop)->S->Md->Prop
  held:List (Md->Prop)->Md->Prop->Prop
  ext:FuncId->List Me->(ts:List jV)->Md->(kH ts->Md->Prop)->Prop
  mn:Me->(pts:List jV)->(kH pts->(Md->(Md->Prop)->Prop)->(Md->Prop)->(Nat->Md->Prop)->Md->Prop)->(Nat->Md->Prop)->List (Nat->Md->Prop)->Md->Prop
  fc:Nat->Md->(Md->Prop)->Prop
  pZ:Sl->Nat->(Addr->Prop)->Prop
  qG:Result Me->(Md->Prop)->(Me->Me->Md->Prop)->Prop
  qz:Result Me->(Me->Me->Md->Prop)->Prop
def cellOf:Me->Cell
  | .int k _=>.int k
  | .bool _=>.bool
  | .string _=>.str
  | .pointer _=>.ptr
  | .slice _ _ _=>.slice
  | .map _=>.map
  | _=>.any
def rE (P:Mg) (t:Mf):jV:=
  match (P.info? t).bind (·.zero) with|some (.agg cs)=>bif Nat.ble cs.size 16 then .agg (cs.toList.map cellOf) else .tg|some v=>.one (cellOf v)|none=>.one .any
def rX (P:Mg) (t:Mf):List jV:=
  match P.underlying t with|some (.tuple ts)=>ts.toList.map (rE P)|_=>[rE P t]
def fR (P:Mg) (t:Mf):Bool:=
  match P.underlying t with|some (.struct _)|some (.array _ _)=>true|_=>false
def fv (P:Mg) (t:Mf):Nat:=((P.info? t).map (·.size)).getD 0
def pq (e:Env):Option Operand->Option (Option Int)
  | none=>some none
  | some x=>match e.ev x with|some (.int _ n)=>some (some n)|_=>none
def pz:Operand->Bool
  | .const (.int _ n)=>n != 0
  | _=>false
def pu:Operand->Bool
  | .const (.int _ n)=>decide (0<=n)
  | _=>false
def vP (n:Nat):Operand->Option Nat
  | .const (.int _ i)=>if 0<=i/\i<(n:Int) then some i.toNat else none
  | _=>none
def uG (size:Nat) (len:Nat) (zero:List Me) (parts:List (Nat×Me)):Option (Array Me):=
  Instr.fill (λi=>some (i*size,size)) ((Array.range (len*size)).map (zero.toArray[·%zero.toArray.size]!)) parts
def nR (e:Env):List (Nat×Operand)->Option (List (Nat×Me))
  | []=>some []
  | (i,x)::r=>match e.ev x,nR e r with|some v,some vs=>some ((i,v)::vs)|_,_=>none
inductive Cls where
  | pure | read | D3
  deriving DecidableEq
def jJ (P:Mg) (f:FuncId):Bool:=match P.funcs[f]? with|some fn=>fn.body.isNone||(fn.name== "runtime.NumGoroutine")|none=>true
def qm (P:Mg) (t:Mf):Bool:=(P.info? t).isSome&&(P.underlying t).isSome
def AG (P:Mg) (t:Mf):Bool:=
  match P.underlying t with|some (.int _)|some .bool|some .string=>true|_=>false
def CN (P:Mg) (t:Mf):Bool:=match P.underlying t with|some (.map _ _)=>true|_=>false
def ke:Operand->Bool
  | .const (.pointer none)=>true
  | .const (.slice none _ _)=>true
  | .const (.map none)=>true
  | .const .nilIface=>true
  | .const .nilFunc=>true
  | _=>false
def DI (P:Mg):Op->Cls
  | .move _ | .assign _ | .pick .. | .nilCheck _ | .unOp .. | .extract .. | .field .. | .fieldAddr .. | .makeInterface .. | .makeFunc .. | .build .. | .convert ..
  | .indexAddr .. | .index .. | .slice .. | .sliceToArrayPointer ..=>.pure
  | .binOp op t x y _=>
    match op with|.eql | .neq=>if AG P t||ke x||ke y then .pure else .read|_=>.pure
  | .load .. | .typeAssert ..=>.read
  | .lookup ..=>.read
  | .call { callee:=.builtin .len,argTypes,.. }=>if CN P (argTypes.getD 0 0) then .read else .pure
  | .call { callee:=.builtin .cap,.. } | .call { callee:=.builtin .min,.. } | .call { callee:=.builtin .max,.. }=>.pure
  | _=>.D3
def vq (op:BinOp) (k:IntKind) (a b:Int):Option Me:=
  match op with|.add=>some (.int k (k.wrap (a+b)))|.sub=>some (.int k (k.wrap (a-b)))|.mul=>some (.int k (k.wrap (a*b)))|.and=>some (.int k (bits .and k a b))|.or=>some (.int k (bits .or k a b))|.xor=>some (.int k (bits .xor k a b))|.andNot=>some (.int k (bits .andNot k a b))|.eql=>some (.bool (a==b))|.neq=>some (.bool (a != b))|.lss=>some (.bool (decide (a<b)))|.leq=>some (.bool (decide (a<=b)))|.gtr=>some (.bool (decide (a>b)))|.geq=>some (.bool (decide (a>=b)))|_=>none
def isIface:Me->Bool
  | .nilIface=>true
  | .iface _ _=>true
  | _=>false
def tQ:Me->Bool
  | .nilIface=>true
  | _=>false
def Az:Me->Bool
  | .nilFunc=>true
  | .func _ _ _=>true
  | _=>false
def ud:Me->Bool
  | .nilFunc=>true
  | _=>false
def vQ (C:og) (P:Mg) (t:Mf) (v u:Me) (K:Bool->Prop):Prop:=
  match P.underlying t with
  | some (.pointer _)=>match v,u with | .pointer p,.pointer none=>K p.isNone|_,_=>False
  | some (.slice _)=>match v,u with | .slice a _ _,.slice none _ _=>K a.isNone|_,_=>False
  | some (.map _ _)=>match v,u with | .map r,.map none=>K r.isNone|_,_=>False
  | some (.interface _)=>match u with | .nilIface=>C.gV (isIface v=true) (K (tQ v))|_=>False
  | some (.func _ _ _)=>match u with | .nilFunc=>C.gV (Az v=true) (K (ud v))|_=>False
  | _=>False
def AT (C:og) (P:Mg) (t:Mf) (x y:Operand) (e:Env) (K:Bool->Prop):Prop:=
  match e.ev x,e.ev y with
  | some a,some b=>
    bif ke y then vQ C P t a b K else bif ke x then vQ C P t b a K else
    match a,b with
    | .int k a,.int j b=>bif k==j then K (a==b) else False
    | .bool a,.bool b=>match P.underlying t with|some .bool=>K (a==b)|_=>False
    | _,_=>False
  | _,_=>False
def iE (C:og) (P:Mg) (o:Oper) (e:Env) (w:Md) (K:Me->Prop):Prop:=
  match o.op with
  | .move x=>match e.ev x with|some v=>K v|none=>False
  | .assign x=>match e.ev x with|some v=>K v|none=>False
  | .nilCheck x=>
    match e.ev x with
    | some (.pointer p)=>match p with|some a=>K (.pointer (some a))|none=>False
    | _=>False
  | .pick c a b=>
    match e.ev c,e.ev a,e.ev b with
    | some (.bool t),some x,some y=>match t with|true=>K x|false=>K y
    | _,_,_=>False
  | .binOp .quo t x y yt=>
      match e.ev x,e.ev y with|some (.int k a),some (.int j b)=>bif k==j then (bif pz y then K (.int k (k.wrap (a.tdiv b))) else C.gV (b≠0) (K (.int k (k.wrap (a.tdiv b))))) else False|_,_=>False
  | .binOp .rem t x y yt=>
      match e.ev x,e.ev y with|some (.int k a),some (.int j b)=>bif k==j then (bif pz y then K (.int k (a.tmod b)) else C.gV (b≠0) (K (.int k (a.tmod b)))) else False|_,_=>False
  | .binOp .shl t x y yt=>
      match e.ev x,e.ev y with|some (.int k a),some (.int _ b)=>bif pu y then K (.int k (k.wrap (a*2^min b.toNat k.bits))) else C.gV (0<=b) (K (.int k (k.wrap (a*2^min b.toNat k.bits))))|_,_=>False
  | .binOp .shr t x y yt=>
      match e.ev x,e.ev y with|some (.int k a),some (.int _ b)=>bif pu y then K (.int k (a.fdiv (2^min b.toNat k.bits))) else C.gV (0<=b) (K (.int k (a.fdiv (2^min b.toNat k.bits))))|_,_=>False
  | .binOp .eql t x y _=>AT C P t x y e (λr=>K (.bool r))
  | .binOp .neq t x y _=>AT C P t x y e (λr=>K (.bool (!r)))
  | .binOp op t x y _=>
    match e.ev x,e.ev y with
    | some (.int k a),some (.int j b)=>bif k==j then (match vq op k a b with|some v=>K v|none=>False) else False
    | _,_=>False
  | .unOp op _ x=>
    match e.ev x with
    | some (.bool b)=>match op with|.not=>K (.bool (!b))|_=>False
    | _=>False
  | .convert s d x=>
    match P.underlying s,e.ev x with
    | some _,some (.int _ n)=>match P.underlying d with|some (.int k)=>K (.int k (k.wrap n))|_=>False
    | _,_=>False
  | .extract x i=>
    match e.ev x with
    | some (.tuple vs)=>match vs.toList[i]? with|some v=>K v|none=>False
    | _=>False
  | .field t x f=>
    match P.underlying t,e.ev x with
    | some (.struct fs),some (.agg cs)=>match fs[f]? with
      | some fd=>bif !qm P fd.type then False else match rE P t with
       | .tg=>match rE P fd.type with|.one c=>bif fR P fd.type then False else C.qg c cs.toList fd.offset (λy=>K (c.mk y))|.agg cl=>bif fR P fd.type&&Nat.beq (fv P fd.type) cl.length then C.kO cl cs.toList fd.offset (λy=>K (.agg (HL.mk cl y).toArray)) else False|.tg=>bif fR P fd.type then K (.agg (cs.toList.extract fd.offset (fd.offset+fv P fd.type)).toArray) else False
       | _=>bif fR P fd.type then K (.agg (cs.toList.extract fd.offset (fd.offset+fv P fd.type)).toArray) else match cs.toList[fd.offset]? with|some v=>K v|none=>False
      | none=>False
    | _,_=>False
  | .fieldAddr t x f=>
    match P.underlying t with
    | some (.struct fs)=>match fs[f]? with
      | some fd=>bif Nat.beq (fv P fd.type) 0 then False else match e.ev x with
        | some (.pointer p)=>match p with|some a=>K (.pointer (some (a.add fd.offset)))|none=>False
        | _=>False
      | none=>False
    | _=>False
  | .makeInterface t x=>
    match P.underlying t,e.ev x with|some (.interface _),_=>False|some _,some v=>K (.iface t v)|_,_=>False
  | .makeFunc fn first cap=>
    match e.tE first.toList,e.tE cap.toList with|some f,some c=>K (.func fn f.toArray c.toArray)|_,_=>False
  | .build t parts=>
    match nR e parts.toList with
    | some vs=>match rE P t with
      | .tg=>C.eO dz (λw'=>(Instr.build t vs.toArray).run P w') w (λy=>K (.agg y.toArray))
      | _=>match (Instr.build t vs.toArray).run P w with|.ok v _=>K v|.halt _ _=>False
    | none=>False
  | .indexAddr t x ix=>
    match P.underlying t with
    | some (.slice el)=>bif !qm P el then False else match e.ev x,e.ev ix with|some (.slice a l c),some (.int _ i)=>C.idx ⟨a,l,c⟩ i (fv P el) (λad=>K (.pointer (some ad)))|_,_=>False
    | some (.array n el)=>bif !qm P el then False else match e.ev x with
      | some (.pointer (some a))=>match vP n ix with
        | some i=>K (.pointer (some (a.add (i*fv P el))))
        | none=>match e.ev ix with|some (.int _ i)=>C.gV (0<=i/\i<(n:Int)) (K (.pointer (some (a.add (i.toNat*fv P el)))))|_=>False
      | _=>False
    | _=>False
  | .sliceToArrayPointer t x=>
    match P.underlying t with
    | some (.array n _)=>match e.ev x with|some (.slice a l c)=>C.pZ ⟨a,l,c⟩ n (λad=>K (.pointer (some ad)))|_=>False
    | _=>False
  | .index t x ix=>
    match P.underlying t with
    | some (.array n el)=>match e.ev x,e.ev ix with
      | some (.agg cs),some (.int _ i)=>
        match rE P el with|.one c=>bif fR P el||!(Nat.beq (fv P el) 1)||!qm P el then False else C.kz c n cs.toList i (λy=>K (c.mk y))|.agg cl=>bif !(fR P el)||!(Nat.beq (fv P el) cl.length)||!qm P el then False else C.gV (0<=i/\i<(n:Int)) (C.kO cl cs.toList (i.toNat*cl.length) λy=>K (.agg (HL.mk cl y).toArray))|.tg=>False
      | _,_=>False
    | _=>False
  | .slice t x lo hi mx=>
    bif mx.isSome&&hi.isNone then False else
    match pq e lo,pq e hi,pq e mx with
    | some l,some h,some m=>
      match P.underlying t with
      | some (.slice el)=>bif !qm P el then False else match e.ev x with|some (.slice a n c)=>C.gi ⟨a,n,c⟩ l h m (fv P el) (λs=>K (.slice s.a s.len s.cap))|_=>False
      | some (.array n el)=>bif !qm P el then False else match e.ev x with|some (.pointer (some a))=>C.jH a n l h m (fv P el) (λs=>K (.slice s.a s.len s.cap))|_=>False
      | _=>False
    | _,_,_=>False
  | .call { callee:=.builtin b,argTypes,args }=>
    match b with
    | .len=>match (argTypes[0]?).bind P.underlying,e.tE args.toList with|some (.slice _),some [.slice _ n _]=>K (.int .i64 n)|some (.array n _),some [_]=>K (.int .i64 n)|_,_=>False
    | .cap=>match (argTypes[0]?).bind P.underlying,e.tE args.toList with|some (.slice _),some [.slice _ _ c]=>K (.int .i64 c)|_,_=>False
    | .min=>match e.tE args.toList with|some [.int k x,.int _ y]=>K (.int k (if y<x then y else x))|_=>False
    | .max=>match e.tE args.toList with|some [.int k x,.int _ y]=>K (.int k (if y>x then y else x))|_=>False
    | _=>False
  | _=>False
def qe (C:og) (P:Mg) (o:Oper) (e:Env) (w:Md) (K:Me->(Md->Prop)->Prop):Prop:=
  match o.op with
  | .load t x=>
    match e.ev x with
    | some (.pointer p)=>match p with
      | some a=>
        match rE P t with|.one c=>bif !qm P t then False else bif fR P t then False else C.ld c a w (λy=>K (c.mk y) λw'=>w'.cell? a=some (c.mk y))|.agg cs=>bif fR P t&&Nat.beq (fv P t) cs.length then C.dP cs a w (λy=>K (.agg (HL.mk cs y).toArray) λw'=>kU w' a 0 (HL.mk cs y)) else False|.tg=>bif fR P t then C.iA (fv P t) a w (λy=>K (.agg y.toArray) λw'=>kU w' a 0 y) else False
      | none=>False
    | _=>False
  | .lookup t m k ok=>
    match e.ev m,e.ev k with|some vm,some vk=>C.eO (rX P o.type) (λw'=>(Instr.lookup t vm vk ok).run P w') w (λy=>K (gU _ y) λw'=>(Instr.lookup t vm vk ok).run P w'=.ok (gU _ y) w')|_,_=>False
  | .typeAssert x xt as0 ok=>
    match e.ev x with|some v=>C.eO (rX P o.type) (λw'=>(Instr.typeAssert v xt as0 ok).run P w') w (λy=>K (gU _ y) λw'=>(Instr.typeAssert v xt as0 ok).run P w'=.ok (gU _ y) w')|none=>False
  | .binOp op t x y _=>
    match e.ev x,e.ev y with
    | some a,some b=>C.eO dk (λw'=>(do eqGuard op t x y a b;binOp op t a b:Sem Me).run P w') w (λr=>K (.bool r) λw'=>(do eqGuard op t x y a b;binOp op t a b:Sem Me).run P w'=.ok (.bool r) w')
    | _,_=>False
  | .call { callee:=.builtin .len,argTypes,args }=>
    match e.tE args.toList with|some vs=>C.eO [.one (.int .i64)] (λw'=>(Builtin.len_ argTypes o.type vs.toArray).run P w') w (λr=>K (.int .i64 r) λw'=>(Builtin.len_ argTypes o.type vs.toArray).run P w'=.ok (.int .i64 r) w')|none=>False
  | _=>False
def ku (C:og) (P:Mg) (o:Oper) (e:Env) (w:Md) (K:Me->Md->Prop):Prop:=
  match o.op with
  | .store t x y=>
    match e.ev y with
    | some v=>match e.ev x with
      | some (.pointer p)=>match p with
        | some a=>match rE P t with|.tg=>bif qm P t then C.gV (v.cells.toList.length=fv P t) (C.st a v.cells.toList w λw'=>K undef w') else False|_=>bif qm P t&&Nat.beq (fv P t) v.cells.size then C.st a v.cells.toList w (λw'=>K undef w') else False
        | none=>False
      | _=>False
    | none=>False
  | .alloc t=>
    match rE P t with
    | .tg=>C.eX t w (λb w'=>K (.pointer (some (dh b))) w')
    | _=>match (P.info? t).bind (·.zero) with|some z=>C.new (.cells z.cells t) w (λb w'=>K (.pointer (some (dh b))) w')|none=>False
  | .box t x=>
    match e.ev x with|some v=>C.new (.cells v.cells t) w (λb w'=>K (.pointer (some (dh b))) w')|none=>False
  | .buildSlice t len parts=>
    match P.underlying t with
    | some (.slice el)=>
      match (P.info? el).bind (·.zero),nR e parts.toList with
      | some z,some vs=>bif Nat.blt (2^24) (len*fv P el) then False else match rE P el with
       | .tg=>match len,vs with|1,[(0,v)]=>C.gV (v.cells.toList.length=fv P el) (C.new (.cells v.cells el) w λb w'=>K (.slice (some (dh b)) 1 1) w')|0,[]=>C.new (.cells #[] el) w (λb w'=>K (.slice (some (dh b)) 0 0) w')|_,_=>False
       | _=>match uG (fv P el) len (bif Nat.beq (len*fv P el) 0 then [] else z.cells.toList) vs with|some cells=>C.new (.cells cells el) w (λb w'=>K (.slice (some (dh b)) len len) w')|none=>False
      | _,_=>False
    | _=>False
  | .makeSlice t l c=>
    match P.underlying t with
    | some (.slice el)=>
      match P.info? el,e.ev l,e.ev c with
      | some i,some (.int _ n),some (.int _ m)=>
        match i.zero with|some z=>C.nD el z.cells.toList i.size i.bytes n m w (λs w'=>K (.slice s.a s.len s.cap) w')|none=>False
      | _,_,_=>False
    | _=>False
  | .makeMap t r=>
    match P.underlying t with
    | some (.map _ _)=>match pq e r with|some _=>C.new (.map #[] 0) w (λb w'=>K (.map (some b)) w')|none=>False
    | _=>False
  | .mapUpdate t m k x=>
    match e.ev m,e.ev k,e.ev x with|some a,some b,some c=>C.jt ((Instr.mapUpdate t a b c).run P w) (λw'=>K undef w')|_,_,_=>False
  | .insert t m k x=>
    match e.ev m,e.ev k,e.ev x with|some a,some b,some c=>C.jt ((Instr.mapUpdate t a b c).run P w) (λw'=>K undef w')|_,_,_=>False
  | .mapEntry t m k=>
    match e.ev m,e.ev k with|some a,some b=>C.qz ((Instr.mapEntry t a b).run P w) (λx y w'=>K (.tuple #[x,y]) w')|_,_=>False
  | .entryStore t m s x=>
    match e.ev m,e.ev s,e.ev x with|some a,some b,some c=>C.jt ((Instr.entryStore t a b c).run P w) (λw'=>K undef w')|_,_,_=>False
  | .range t x=>
    match e.ev x with|some v=>C.run dx ((Instr.range t v).run P w) (λy w'=>K y w')|none=>False
  | .next it s=>
    match e.ev it with|some v=>C.qG ((Instr.next v s o.type).run P w) (λw'=>K (.tuple #[.bool false]) w') (λx y w'=>K (.tuple #[.bool true,x,y]) w')|none=>False
  | .entry it=>
    match e.ev it with|some v=>C.qz ((Instr.entry v).run P w) (λx y w'=>K (.tuple #[x,y]) w')|none=>False
  | .call { callee:=.builtin b,argTypes,args }=>
    match e.tE args.toList with
    | some vs=>
      match b with|.append=>C.run di ((Builtin.append_ argTypes o.type vs.toArray).run P w) (λy w'=>K (.slice y.a y.len y.cap) w')|.copy=>C.run [.one (.int .i64)] ((Builtin.copy_ argTypes o.type vs.toArray).run P w) (λy w'=>K (.int .i64 y) w')|.delete=>C.run [] ((Builtin.delete_ argTypes o.type vs.toArray).run P w) (λ_ w'=>K (.tuple #[]) w')|.clear=>C.run [] ((Builtin.clear_ argTypes o.type vs.toArray).run P w) (λ_ w'=>K (.tuple #[]) w')|_=>False
    | none=>False
  | .call { callee:=.value (.func f),args,.. }=>
    match e.tE args.toList with|some vs=>bif jJ P f then C.ext f vs (rX P o.type) w (λy w'=>K (gU _ y) w') else C.call f vs (rX P o.type) w (λy w'=>K (gU _ y) w')|none=>False
  | .call { callee:=.value x,args,.. }=>
    match e.ev x,e.tE args.toList with|some v,some vs=>C.dU v vs (rX P o.type) w (λy w'=>K (gU _ y) w')|_,_=>False
  | .call { callee:=.invoke x name,args,.. }=>
    match e.ev x,e.tE args.toList with|some v,some vs=>C.inv v name vs (rX P o.type) w (λy w'=>K (gU _ y) w')|_,_=>False
  | _=>False
def Cv (C:og) (P:Mg) (o:Oper) (e:Env) (w:Md) (K:Me->Md->Prop):Prop:=
  match DI P o.op with|.pure=>iE C P o e w (λv=>K v w)|.read=>qe C P o e w (λv _=>K v w)|.D3=>ku C P o e w K
def guarded (ops:List Oper) (o:Oper) (e:Env) (yes no:Env->Prop):Prop:=
  match o.guard with
  | none=>yes e
  | some (j,want)=>
    match (ops[j]?).bind (·.dst) with
    | none=>False
    | some d=>
      match e.get d with
      | some (.bool b)=>
        match b with
        | true=>match want with|true=>yes ((d,.bool true)::e)|false=>no ((d,.bool true)::e)
        | false=>match want with|true=>no ((d,.bool false)::e)|false=>yes ((d,.bool false)::e)
      | some (.tuple _)=>no e
      | _=>False
def uh (C:og) (P:Mg) (ops:List Oper) (K:Env->Md->Prop):List Oper->Env->Md->Prop
  | [],e,w=>K e w
  | o::rest,e,w=>
    guarded ops o e
      (λe'=>Cv C P o e' w λv w'=>uh C P ops K rest (e'.put o.dst v) w')
      (λe'=>uh C P ops K rest (e'.put o.dst undef) w)
abbrev Holds:=List (Nat×(Md->Prop))
def rR (ops:List Oper):Array Nat:=Region.before ops.toArray
def gB (b:Array Nat) (x:Nat) (H:Holds):List (Md->Prop):=(H.filter λp=>!(b.getD x 0).testBit p.1).map (·.2)
def mE (C:og) (P:Mg) (ops:List Oper) (b:Array Nat) (K:Env->Md->Prop):Mk->Holds->Env->Md->Prop
  | [],_,e,w=>K e w
  | i::rest,H,e,w=>
    match ops[i]? with
    | none=>False
    | some o=>
      guarded ops o e
        (λe'=>
          match DI P o.op with
          | .pure=>iE C P o e' w (λv=>mE C P ops b K rest H (e'.put o.dst v) w)
          | .read=>qe C P o e' w (λv h=>mE C P ops b K rest ((i,h)::H) (e'.put o.dst v) w)
          | .D3=>ku C P o e' w (λv w'=>
              match gB b i H with|[]=>mE C P ops b K rest H (e'.put o.dst v) w'|l=>C.held l w' (mE C P ops b K rest H (e'.put o.dst v) w')))
        (λe'=>mE C P ops b K rest H (e'.put o.dst undef) w)
def rQ (C:og) (P:Mg) (ops:List Oper) (b:Array Nat) (K:Env->Md->Prop):List (Mk)->Env->Md->Prop
  | [],_,_=>True
  | [ord],e,w=>mE C P ops b K ord [] e w
  | ord::more,e,w=>mE C P ops b K ord [] e w/\rQ C P ops b K more e w
inductive PC where
  | skip
  | region (id:Nat) (ops:List Oper)
  | draw (id:Nat) (ops:List Oper) (orders:List (Mk))
  | seq (a b:PC)
  | join (live:Live) (a b:PC)
  | cond (c:Operand) (t e:PC)
  | block (id:Nat) (body:PC)
  | loop (live:Live) (body:PC)
  | exit (id:Nat)
  | ret
  | mn (g:Operand) (ps:List Tmp) (pts:List jV) (assign body:PC)
  | other (c:Code)
def PC.erase:PC->Code
  | .skip=>.skip
  | .region id ops=>.region id ops.toArray false
  | .draw id ops _=>.region id ops.toArray true
  | .seq a b=>.seq a.erase b.erase
  | .join _ a b=>.seq a.erase b.erase
  | .cond c t e=>.cond c t.erase e.erase
  | .block id b=>.block id b.erase
  | .loop _ b=>.loop b.erase
  | .exit id=>.exit id
  | .ret=>.ret
  | .mn g ps _ x y=>.rangeFunc g ps.toArray x.erase y.erase
  | .other c=>c
inductive Aw where
  | n
  | j (live:Live)
  | l (live:Live)
  | o (orders:List (Mk))
  | r (pts:List jV)
def aS:List (Nat×Aw)->List Aw
  | []=>[]
  | (k,a)::r=>.replicate k .n++a::aS r
def nN (k:Nat):List Aw:=.replicate k .n
def lq:Code->List Aw->PC×List Aw
  | .skip,as0=>(.skip,as0)
  | .region id ops draw,as0=>
    match draw with
    | false=>(.region id ops.toList,as0)
    | true=>match as0 with|.o ords::r=>(.draw id ops.toList ords,r)|.n::r=>(.draw id ops.toList [List.range ops.size],r)|[]=>(.draw id ops.toList [List.range ops.size],[])|_=>(.other (.region id ops true),as0)
  | .seq a b,as0=>
    match as0 with
    | .j live::r=>
      let x:=lq a r
      let y:=lq b x.2
      (.join live x.1 y.1,y.2)
    | .n::r=>
      let x:=lq a r
      let y:=lq b x.2
      (.seq x.1 y.1,y.2)
    | []=>
      let x:=lq a []
      let y:=lq b x.2
      (.seq x.1 y.1,y.2)
    | _=>(.other (.seq a b),as0)
  | .cond c t f,as0=>
    let x:=lq t as0
    let y:=lq f x.2
    (.cond c x.1 y.1,y.2)
  | .block id b,as0=>
    let x:=lq b as0
    (.block id x.1,x.2)
  | .loop b,as0=>
    match as0 with
    | .l live::r=>
      let x:=lq b r
      (.loop live x.1,x.2)
    | _=>(.other (.loop b),as0)
  | .exit id,as0=>(.exit id,as0)
  | .ret,as0=>(.ret,as0)
  | .rangeFunc g ps x y,as0=>
    match as0 with
    | .r pts::r=>
      let u:=lq x r
      let v:=lq y u.2
      (.mn g ps.toList pts u.1 v.1,v.2)
    | _=>(.other (.rangeFunc g ps x y),as0)
  | c,as0=>(.other c,as0)
def tG (ops:List Oper) (t:Nat):Bool:=ops.any λo=>match o.dst with|some d=>Nat.beq d t|none=>false
def PC.wr:PC->Nat->Bool
  | .skip,_=>false
  | .region _ ops,t=>tG ops t
  | .draw _ ops _,t=>tG ops t
  | .seq a b,t=>a.wr t||b.wr t
  | .join _ a b,t=>a.wr t||b.wr t
  | .cond _ a b,t=>a.wr t||b.wr t
  | .block _ b,t=>b.wr t
  | .loop _ b,t=>b.wr t
  | .exit _,_=>false
  | .ret,_=>false
  | .mn ..,_=>true
  | .other _,_=>true
def Env.ma (e:Env) (wr:Nat->Bool):Env:=
  match e with|[]=>[]|(t,v)::r=>bif wr t then Env.ma r wr else (t,v)::Env.ma r wr
inductive jY where
  | normal | exit (id:Nat) | ret
abbrev qt:=jY->Env->Md->Prop
def qt.j4 (Q:qt) (K:Env->Md->Prop):qt:=λx e w=>
  match x with|.normal=>K e w|x=>Q x e w
def PC.pt (C:og) (P:Mg):PC->qt->Env->Md->Prop
  | .skip,Q,e,w=>Q .normal e w
  | .region _ ops,Q,e,w=>uh C P ops (Q .normal) ops e w
  | .draw _ ops orders,Q,e,w=>rQ C P ops (rR ops) (Q .normal) orders e w.drew
  | .seq a b,Q,e,w=>a.pt C P (Q.j4 λe' w'=>b.pt C P Q e' w') e w
  | .join live a b,Q,e,w=>
    C.join (wN live)
      (λX=>a.pt C P (Q.j4 λe' w'=>match rf live e' with|some s=>X s w'|none=>False) e w)
      (λs w'=>b.pt C P Q (uf live s++e.ma λt=>a.wr t) w')
  | .cond c t f,Q,e,w=>
    match e.ev c with
    | some (.bool b)=>match b with|true=>t.pt C P Q e w|false=>f.pt C P Q e w
    | _=>False
  | .block id body,Q,e,w=>
    body.pt C P (λx e' w'=>match x with|.exit j=>bif Nat.beq j id then Q .normal e' w' else Q (.exit j) e' w'|x=>Q x e' w') e w
  | .loop live body,Q,e,w=>
    match rf live e with
    | some s0=>
      C.loop (wN live)
        (λX s w'=>body.pt C P (Q.j4 λe' w''=>match rf live e' with|some s'=>X s' w''|none=>False) (uf live s++e.ma λt=>body.wr t) w')
        s0 w
    | none=>False
  | .exit id,Q,e,w=>Q (.exit id) e w
  | .ret,Q,e,w=>Q .ret e w
  | .mn ..,_,_,_=>False
  | .other _,_,_,_=>False
def PC.outs:PC->List jY
  | .skip | .region .. | .draw .. | .other _ | .mn ..=>[]
  | .seq a b | .join _ a b | .cond _ a b=>a.outs++b.outs
  | .block id b=>b.outs.filter λx=>match x with | .exit j=>!(Nat.beq j id)|_=>true
  | .loop _ b=>b.outs
  | .exit id=>[.exit id]
  | .ret=>[.ret]
def jY.same:jY->jY->Bool
  | .normal,.normal=>true
  | .ret,.ret=>true
  | .exit i,.exit j=>Nat.beq i j
  | _,_=>false
def uR (x:jY):List jY->Nat->Option Nat
  | [],_=>none
  | y::r,i=>bif x.same y then some i else uR x r (i+1)
def tZ:Env->List Tmp->List Me->Env
  | e,t::ts,v::vs=>tZ ((t,v)::e) ts vs
  | e,_,_=>e
def rP (C:og) (P:Mg) (x y:PC) (ps:List Tmp) (pts:List jV) (e:Env):kH pts->(Md->(Md->Prop)->Prop)->(Md->Prop)->(Nat->Md->Prop)->Md->Prop:=
  λu beg N J w'=>x.pt C P (λz e' w1=>match z with
    | .normal=>beg w1 (λw2=>y.pt C P (λz e'' w3=>match z with
        | .normal=>N w3
        | z=>match uR z y.outs 0 with|some i=>J i w3|none=>False) e' w2)
    | _=>False) (tZ e ps (kH.vals pts u)) w'
def PC.DM (C:og) (P:Mg):PC->(Option Nat->qt)->Option Nat->Env->Md->Prop
  | .seq a b,Q,m,e,w=>a.DM C P (λm' x e' w'=>match x with | .normal=>b.DM C P Q m' e' w'|x=>Q m' x e' w') m e w
  | .block id body,Q,m,e,w=>body.DM C P (λm' x e' w'=>match x with|.exit j=>bif Nat.beq j id then Q m' .normal e' w' else Q m' (.exit j) e' w'|x=>Q m' x e' w') m e w
  | .mn g ps pts x y,Q,m,e,w=>
    match m with
    | some _=>False
    | none=>match e.ev g with
      | none=>False
      | some v=>
        C.mn v pts (rP C P x y ps pts e)
          (λD w'=>Q (some D) .normal e w') (y.outs.map λz=>λD w'=>Q (some D) z e w') w
  | c,Q,m,e,w=>c.pt C P (Q m) e w
def np (C:og) (P:Mg):List ResultVar->Env->Md->(List Me->Prop)->Prop
  | [],_,_,K=>K []
  | .tmp t::r,e,w,K=>
    match e.get t with|some v=>np C P r e w (λvs=>K (v::vs))|none=>False
  | .cell a t::r,e,w,K=>
    match e.get a with
    | some (.pointer (some ad))=>
      match rE P t with|.one c=>bif !qm P t then False else bif fR P t then False else C.ld c ad w (λy=>np C P r e w λvs=>K (c.mk y::vs))|.agg cs=>bif fR P t&&Nat.beq (fv P t) cs.length then C.dP cs ad w (λy=>np C P r e w λvs=>K (.agg (HL.mk cs y).toArray::vs)) else False|.tg=>bif fR P t then C.iA (fv P t) ad w (λy=>np C P r e w λvs=>K (.agg y.toArray::vs)) else False
    | _=>False
def oneOf:List Me->Me
  | [v]=>v
  | vs=>.tuple vs.toArray
def oT:Nat->List Me->Env
  | _,[]=>[]
  | i,v::r=>(i,v)::oT (i+1) r
def B0 (C:og) (P:Mg) (rvs:List ResultVar) (c:PC) (args:List Me) (Q:Me->Md->Prop) (w:Md):Prop:=
  c.pt C P (λx e w'=>match x with|.normal=>np C P rvs e w' (λvs=>Q (oneOf vs) w')|.ret=>np C P rvs e w' (λvs=>Q (oneOf vs) w')|.exit _=>False) (oT 0 args) w
def mM:(ts:List jV)->Me->Option (kH ts)
  | [],.tuple _=>some ()
  | [],_=>none
  | [t],v=>t.un v
  | t::u::ts,.tuple vs=>unVals (t::u::ts) vs.toList
  | _::_::_,_=>none
where
  unVals:(ts:List jV)->List Me->Option (kH ts)
  | [],[]=>some ()
  | [t],[v]=>t.un v
  | t::u::ts,v::vs=>
    match t.un v with
    | some x=>match unVals (u::ts) vs with|some y=>some (x,y)|none=>none
    | none=>none
  | _,_=>none
def Bu (C:og) (m:Option Nat) (w:Md) (K:Md->Prop):Prop:=match m with|none=>K w|some D=>C.fc D w K
def zj (C:og) (P:Mg) (fn:Func) (as0:List Aw) (ts:List jV) (args:List Me) (K:kH ts->Md->Prop) (w:Md):Prop:=
  match fn.body with
  | some c=>(lq c as0).1.DM C P (λm x e w'=>match x with
      | .exit _=>False
      | _=>Bu C m w' λw2=>np C P fn.results.toList e w2 λvs=>match mM ts (oneOf vs) with|some x=>K x w2|none=>False) none (oT 0 args) w
  | none=>False
def BW (C:og) (P:Mg) (fn:Func) (as0:List Aw) (ts:List jV) (args:List Me) (K:kH ts->Md->Prop) (w:Md):Prop:=
  match fn.body with
  | some c=>B0 C P fn.results.toList (lq c as0).1 args (λv w'=>match mM ts v with|some x=>K x w'|none=>False) w
  | none=>False
def ld (c:Cell) (a:Addr) (w:Md) (K:c.El->Prop):Prop:=∃x:c.El,w.cell? a=some (c.mk x)/\K x
def dP (cs:List Cell) (a:Addr) (w:Md) (K:HL cs->Prop):Prop:=∃x:HL cs,kU w a 0 (HL.mk cs x)/\K x
def iA (n:Nat) (a:Addr) (w:Md) (K:List Me->Prop):Prop:=∃x:List Me,(x.length=n/\kU w a 0 x)/\K x
def qg (c:Cell) (vs:List Me) (off:Nat) (K:c.El->Prop):Prop:=∃x:c.El,vs[off]?=some (c.mk x)/\K x
def kO (cs:List Cell) (vs:List Me) (off:Nat) (K:HL cs->Prop):Prop:=∃x:HL cs,vs.extract off (off+cs.length)=HL.mk cs x/\K x
def HX (a:Addr):Nat->List Me->Md->(WP)->Prop
 | _,[],w,K=>K w
 | i,v::vs,w,K=>(v.oneCell'=true/\(∃u,w.cell? (a.add i)=some u)/\w.frozen? (a.add i)=false)/\HX a (i+1) vs (w.setCell (a.add i) v) K
def st (a:Addr) (vs:List Me) (w:Md) (K:WP):Prop:=HX a 0 vs w K
def new (o:Obj) (w:Md) (K:Nat->WP):Prop:=K w.z (w.alloc o)
abbrev LF(a:Array Go.Value)(t:Go.TypeId)(w:Go.World)(k:Nat->Go.World->Prop):Prop:=new (.cells a t) w k
def eX (P:Mg) (t:Mf) (w:Md) (K:Nat->WP):Prop:=∃z,(P.info? t).bind (·.zero)=some z/\K w.z (w.alloc (.cells z.cells t))
def idx (s:Sl) (i:Int) (size:Nat) (K:Addr->Prop):Prop:=∃a,s.a=some a/\(0<=i/\i<(s.len:Int))/\K (a.add (i.toNat*size))
def pZ (s:Sl) (n:Nat) (K:Addr->Prop):Prop:=∃a,s.a=some a/\n<=s.len/\K a
def kz (c:Cell) (n:Nat) (cs:List Me) (i:Int) (K:c.El->Prop):Prop:=∃x:c.El,(0<=i/\i<(n:Int)/\cs[i.toNat]?=some (c.mk x))/\K x
def gi (s:Sl) (lo hi mx:Option Int) (size:Nat) (K:Sl->Prop):Prop:=
 (0<=lo.getD 0/\lo.getD 0<=hi.getD s.len/\hi.getD s.len<=mx.getD s.cap/\mx.getD s.cap<=s.cap)/\
 K ⟨if (mx.getD s.cap).toNat=(lo.getD 0).toNat then s.a else s.a.map (·.add ((lo.getD 0).toNat*size)),(hi.getD s.len).toNat-(lo.getD 0).toNat,(mx.getD s.cap).toNat-(lo.getD 0).toNat⟩
def jH (a:Addr) (n:Nat) (lo hi mx:Option Int) (size:Nat) (K:Sl->Prop):Prop:=
 (0<=lo.getD 0/\lo.getD 0<=hi.getD n/\hi.getD n<=mx.getD n/\mx.getD n<=n)/\
 K ⟨some (if (mx.getD n).toNat=(lo.getD 0).toNat then a else a.add ((lo.getD 0).toNat*size)),(hi.getD n).toNat-(lo.getD 0).toNat,(mx.getD n).toNat-(lo.getD 0).toNat⟩
def jl (zero:List Me) (c:Nat):Array Me:=(Array.range c).map λi=>zero.toArray[i%zero.toArray.size]!
def nD (el:Mf) (zero:List Me) (size bytes:Nat) (l c:Int) (w:Md) (K:Sl->WP):Prop:=
 (0<=l/\l<=c/\(bytes:Int)*c<=2^48/\c<=2^48)/\K ⟨some ⟨w.z,0,none⟩,l.toNat,c.toNat⟩ (w.alloc (.cells (jl (if c.toNat*size=0 then [] else zero) (c.toNat*size)) el))
def gV (p K:Prop):Prop:=p/\K
def nn (p:Option Addr) (K:Addr->Prop):Prop:=match p with|some a=>K a|none=>False
def call (P:Mg) (f:FuncId) (args:List Me) (ts:List jV) (w:Md) (K:kH ts->WP):Prop:=
 Calls P f args.toArray w λe w'=>∃x:kH ts,e=.returned (gU ts x)/\K x w'
def Wd (r:Option Nat):Fence:={ Fence.wide with round:=r }
def dU (P:Mg) (v:Me) (args:List Me) (ts:List jV) (w:Md) (K:kH ts->WP):Prop:=
 (∃(f:FuncId) (vs:List Me),(do let d <- Deferred.ofValue v args.toArray;invoke d.target d.args:Sem Next).run P w=.ok (.enter f vs.toArray) w/\call P f vs ts w K)\/
 (∃(l f:Nat) (tmps:Array Me) (assign body:Code),(do let d <- Deferred.ofValue v args.toArray;invoke d.target d.args:Sem Next).run P w=.ok (.round l f tmps assign body) w/\
  RoundIn (Wd none) 0 P l f tmps assign body w λe w'=>∃x:kH ts,e=.returned (gU ts x)/\K x w')
def ext (P:Mg) (f:FuncId) (args:List Me) (ts:List jV) (w:Md) (K:kH ts->WP):Prop:=
 ∃(x:kH ts) (w':Md),(callFunc f args.toArray).run P w=.ok (.value (gU ts x)) w'/\K x w'
def fc (D:Nat) (w:Md) (K:WP):Prop:=w.heap[D]?=some (.deferred (some []))/\K (w.putObj D (.deferred none))
def se (P:Mg) (pts:List jV) (body:kH pts->(Md->(WP)->Prop)->(WP)->(Nat->WP)->WP) (l:Nat) (R B:Obj) (J:Nat->Obj):Prop:=
 ∀(x:kH pts) (W:Md) (K:Bool->WP),W.heap[l]?=some R->
  body x (λW1 k=>W1.heap[l]?=some R/\k (W1.putObj l B)) (λW'=>W'.heap[l]?=some B/\K true (W'.putObj l R)) (λi W'=>W'.heap[l]?=some B/\K false (W'.putObj l (J i))) W->
  dU P (.func (.yield l) #[] #[]) (kH.vals pts x) dk W K
def mn (P:Mg) (v:Me) (pts:List jV) (body:kH pts->(Md->(WP)->Prop)->(WP)->(Nat->WP)->WP) (done:Nat->WP) (jumps:List (Nat->WP)) (w:Md):Prop:=
 ∃(f:FuncId) (lb:List Me),v=.func (.func f) #[] lb.toArray/\jJ P f=false/\
 ∀(R B:Obj) (J E:Nat->Obj) (E0:Obj),se P pts body (w.z+1) R B J->
  call P f (.func (.yield (w.z+1)) #[] #[]::lb) [] ((w.alloc (.deferred (some []))).alloc R) (λ_ W=>
   (W.heap[w.z+1]?=some R/\done w.z (W.putObj (w.z+1) E0))\/
   ∃i k,jumps[i]?=some k/\W.heap[w.z+1]?=some (J i)/\k w.z (W.putObj (w.z+1) (E i)))
def inv (P:Mg) (v:Me) (name:String) (args:List Me) (ts:List jV) (w:Md) (K:kH ts->WP):Prop:=
 ∃(f:FuncId) (vs:List Me),(callMethod v name args.toArray).run P w=.ok (.enter f vs.toArray) w/\call P f vs ts w K
def run (ts:List jV) (r:Result Me) (K:kH ts->WP):Prop:=∃x w',r=.ok (gU ts x) w'/\K x w'
def eO (ts:List jV) (r:Md->Result Me) (w:Md) (K:kH ts->Prop):Prop:=∃x,r w=.ok (gU ts x) w/\K x
def jt (r:Result Unit) (K:WP):Prop:=∃w',r=.ok () w'/\K w'
def join (S:Type) (X:(S->WP)->Prop) (Y:S->WP):Prop:=∃Mid:S->WP,X Mid/\∀s w,Mid s w->Y s w
def loop (S:Type) (B:(S->WP)->S->WP) (s:S) (w:Md):Prop:=∀I:S->WP,(∀s w,B I s w->I s w)->I s w
def ug:List (WP)->WP
 | [],_=>True
 | [h],w=>h w
 | h::t,w=>h w/\ug t w
def held (l:List (WP)) (w:Md) (K:Prop):Prop:=ug l w/\K
def qG (r:Result Me) (Ke:WP) (Ks:Me->Me->WP):Prop:=
 (∃w',r=.ok (.tuple #[.bool false]) w'/\Ke w')\/∃k v w',r=.ok (.tuple #[.bool true,k,v]) w'/\Ks k v w'
def qz (r:Result Me) (K:Me->Me->WP):Prop:=∃k v w',r=.ok (.tuple #[k,v]) w'/\K k v w'
def pV (P:Mg):og where
 ld:=ld
 dP:=dP
 iA:=iA
 qg:=qg
 kO:=kO
 eX:=eX P
 st:=st
 new:=new
 idx:=idx
 kz:=kz
 gi:=gi
 jH:=jH
 nD:=nD
 gV:=gV
 call:=call P
 dU:=dU P
 inv:=inv P
 run:=run
 eO:=eO
 jt:=jt
 join:=join
 loop:=loop
 held:=held
 ext:=ext P
 mn:=mn P
 fc:=fc
 pZ:=pZ
 qG:=qG
 qz:=qz
def qnx:∀ {l:List (WP)} {w:Md},ug l w->∀h∈l,h w
 | [],_,_,_,hm=>by cases hm
 | [x],_,hh,h,hm=>by simp at hm;subst hm;exact hh
 | x::y::t,w,hh,h,hm=>by rcases zG.1 hm with rfl|hm;exact hh.1;exact qnx (l:=y::t) hh.2 h hm
structure Rel (n:Nat) (ds:List Deferred) (e:Env) (a:Act):Prop where
 size:a.tmps.size=n
 defers:a.defers=ds
 get:∀ t v,e.get t=some v->a.tmps.getD t undef=v
variable {e:Env} {a:Act} {x:Operand} {vs:List Me} {dst:Option Tmp} {r:Option Int} {P:Mg} {i:TypeInfo} {z u:Me} {k:IntKind} {w w':Md} {op:BinOp} {d:Nat} {s:Sem Me} {ps:Array (Nat×Operand)} {o:Oper} {cs:Array Me}
def Rel.ev(h:Rel n ds e a)(hx:e.ev x=some v):a.eval x=v:=by
 cases x with|tmp t=>exact h.get t v hx|const u=>simpa[Env.ev,Act.eval] using hx|global g=>simpa[Env.ev,Act.eval] using hx|func f=>simpa[Env.ev,Act.eval] using hx
def Rel.tE(h:Rel n ds e a):∀ {xs:List Operand} {vs:List Me},e.tE xs=some vs->xs.map a.eval=vs
 | [],vs,hx=>by simp[Env.tE] at hx;subst hx;rfl
 | x::xs,vs,hx=>by simp only[Env.tE] at hx;split at hx;rename_i v us h1 h2;cases hx;simp[h.ev h1,h.tE h2];cases hx
def Rel.j5(h:Rel n ds e a){xs:Array Operand}(hx:e.tE xs.toList=some vs):xs.map a.eval=vs.toArray:=by
 have:=h.tE hx;apply Array.ext';simpa using this
def Env.lT(e:Env)(d t:Nat)(v:Me):Env.get ((d,v)::e) t=if d=t then some v else e.get t:=by
 simp only[Env.get];by_cases h:d=t;subst h;simp;have:Nat.beq d t=false:=by cases hb:Nat.beq d t;rfl;exact absurd (yW hb) h
 simp[this,h]
def Rel.put(h:Rel n ds e a)(hd:∀d,dst=some d->d<n)(v:Me):Rel n ds (e.put dst v) (a.put dst v):=by
 cases dst with
 | none=>exact h
 | some d=>
  refine⟨by simp[Act.put,h.size],by simp[Act.put,h.defers],λt u hu=>?_⟩;simp only[Env.put,Env.lT] at hu;by_cases hdt:d=t;subst hdt;simp at hu;subst hu;have:=hd d rfl;have hs:=h.size;simp[Act.put,hs,this];simp[hdt] at hu;have:=h.get t u hu;simpa[Act.put,Array.getElem?_setIfInBounds_ne hdt] using this
def qsr(h:Rel n ds e a){x:Option Operand}(hx:pq e x=some r): (x=none/\r=none)\/∃y k i,x=some y/\r=some i/\a.eval y=.int k i:=by
 cases x with
 | none=>simp[pq] at hx;exact .inl ⟨rfl,hx.symm⟩
 | some y=>
  simp only[pq] at hx;split at hx;rename_i k i he;cases hx;exact .inr ⟨y,k,i,rfl,rfl,h.ev he⟩;cases hx
def fK {α:Type}:Sem α->Prop
 | .pure _=>True
 | .program k=>∀p,fK (k p)
 | .mark _ k=>fK k
 | .halt _=>True
 | _=>False
def fK.run{α:Type}{s:Sem α}(h:fK s)(w w' w1:Md)(v:α)(hr:s.run P w=.ok v w1):w1=w/\s.run P w'=.ok v w':=by
 induction s with|pure a=>simp[Sem.run] at hr⊢;exact⟨hr.2.symm,hr.1⟩|program k ih=>exact ih P (h P) hr|mark m k ih=>exact ih h hr|halt x=>simp[Sem.run] at hr|_=>exact h.elim
def fK.bind{α β:Type}{s:Sem α}{f:α->Sem β}(h:fK s)(hf:∀a,fK (f a)):fK (s >>=f):=by
 show fK (Sem.bind s f);induction s with|pure a=>exact hf a|program k ih=>exact λp=>ih p (h p)|mark m k ih=>exact ih h|halt x=>trivial|_=>exact h.elim
def fK.pure{α:Type}(a:α):fK (Pure.pure a:Sem α):=trivial
def fK.stuck{α:Type}(s:String):fK (Go.stuck s:Sem α):=trivial
def fK.EF{α:Type}(s:Unsupported):fK (Go.unsupported s:Sem α):=trivial
def fK.uK:fK Go.program:=λ_=>trivial
def fK.underlying(t:Mf):fK (Go.underlying t):=by unfold Go.underlying;exact .bind .uK λp=>by split<;>first|exact .pure _|exact .stuck _
def fK.typeInfo(t:Mf):fK (Go.typeInfo t):=by unfold Go.typeInfo;exact .bind .uK λp=>by split<;>first|exact .pure _|exact .stuck _
def fK.zeroValue(t:Mf):fK (Go.zeroValue t):=by unfold Go.zeroValue;exact .bind (.typeInfo t) λp=>by split<;>first|exact .pure _|exact .EF _
def fK.sizeOf(t:Mf):fK (Go.sizeOf t):=.bind (.typeInfo t) λ_=>.pure _
def fK.mapM{α β:Type}{f:α->Sem β}(hf:∀a,fK (f a))(xs:Array α):fK (xs.mapM f):=by
 rw[Array.mapM_eq_mapM_toList];have:∀l:List α,fK (l.mapM f):=by
  intro l;induction l with|nil=>simp only[List.mapM_nil];exact .pure _|cons a l ih=>simp only[List.mapM_cons];exact .bind (hf a) λb=>.bind ih λbs=>.pure _
 exact fK.bind (this _) λ_=>.pure _
def fK.build(t:Mf)(ps:Array (Nat×Me)):fK (Instr.build t ps):=by
 unfold Instr.build;refine .bind (.zeroValue t) λz=>.bind (.underlying t) λd=>?_;split
 ·refine .bind (.mapM (λf=>.bind (.sizeOf _) λ_=>.pure _) _) λpl=>?_;split<;>first|exact .pure _|exact .stuck _
 ·refine .bind (.sizeOf _) λs=>?_;split<;>first|exact .pure _|exact .stuck _
 exact .stuck _
def IJ(h:P.info? t=some i)(w:Md):(typeInfo t).run P w=.ok i w:=by simp[typeInfo,h]
def uk(h:(P.info? t).isSome=true)(w:Md):(sizeOf t).run P w=.ok (fv P t) w:=by
 cases hi:P.info? t with|none=>simp[hi] at h|some i=>simp[sizeOf,fv,IJ hi,hi]
def AK(h:(P.info? t).bind (·.zero)=some z)(w:Md):(zeroValue t).run P w=.ok z w:=by
 cases hi:P.info? t with
 | none=>simp[hi] at h
 | some i=>
  simp[hi] at h;simp[zeroValue,IJ hi,h]
def FI{j:IntKind}(h:(j==k)=true):j=k:=by simpa using h
def BD(h:(P.underlying t).isSome=true)(w:Md):(isAgg t).run P w=.ok (fR P t) w:=by
 cases hd:P.underlying t with
 | none=>simp[hd] at h
 | some d=>cases d<;>simp[isAgg,fR,run_underlying hd,hd]
def Bh(h:fR P t=true):(P.underlying t).isSome=true:=by unfold fR at h;split at h<;>simp_all
def Ak (neg:Bool):BinOp:=if neg then .neq else .eql
def qfV(h:ke y=true):∃u,y=.const u:=by unfold ke at h;split at h<;>first|exact⟨_,rfl⟩|cases h
def wW{r:Bool}(neg:Bool)(hr:(Op.equalIn 10000 t v u).run P w=.ok r w)(h1:∀k i,v≠.int k i)(h2:∀s,v≠.string s)(h3:∀k i,v≠.float k i)(h4:∀k i j,v≠.complex k i j): (binOp (Ak neg) t v u).run P w=.ok (.bool (if neg then !r else r)) w:=by
 have he:(Op.equal t v u).run P w=.ok r w:=hr;cases neg<;>cases v<;>simp only[Ak,if_true,if_false,Bool.false_eq_true]<;>
  first
   | exact absurd rfl (h1 _ _)
   | exact absurd rfl (h2 _)
   | exact absurd rfl (h3 _ _)
   | exact absurd rfl (h4 _ _ _)
   | (simp only[binOp];simp[he])
def qkp{c:Me}(hv:∀cs,v≠.agg cs):eqGuard op t x (.const c) u v=pure ():=by
 cases op<;>cases u<;>cases v<;>first
  | rfl
  | exact absurd rfl (hv _)
  | (cases x<;>rfl)
def qk3{c:Me}(hv:∀cs,v≠.agg cs):eqGuard op t (.const c) y u v=pure ():=by
 cases op<;>cases u<;>cases v<;>first
  | rfl
  | exact absurd rfl (hv _)
def quj{t:Nat}(D:Nat)(hd:P.underlying t=some (.pointer d))(p:Option Addr)(w:Md): (Op.equalIn (D+1) t (.pointer p) (.pointer none)).run P w=.ok p.isNone w/\(Op.equalIn (D+1) t (.pointer none) (.pointer p)).run P w=.ok p.isNone w:=by cases p<;>constructor<;>simp[Op.equalIn,run_underlying hd]
def qpD{t:Nat}(D:Nat)(hd:P.underlying t=some (.slice d))(p:Option Addr)(i j k l:Nat)(w:Md): (Op.equalIn (D+1) t (.slice p i j) (.slice none k l)).run P w=.ok p.isNone w/\(Op.equalIn (D+1) t (.slice none k l) (.slice p i j)).run P w=.ok p.isNone w:=by cases p<;>constructor<;>simp[Op.equalIn,run_underlying hd]
def qui{t d1 d2:Nat}(D:Nat)(hd:P.underlying t=some (.map d1 d2))(p:Option Nat)(w:Md): (Op.equalIn (D+1) t (.map p) (.map none)).run P w=.ok p.isNone w/\(Op.equalIn (D+1) t (.map none) (.map p)).run P w=.ok p.isNone w:=by cases p<;>constructor<;>simp[Op.equalIn,run_underlying hd]
def qpC{t:Nat}{ms}(D:Nat)(hd:P.underlying t=some (.interface ms))(v:Me)(hv:isIface v=true)(w:Md): (Op.equalIn (D+1) t v .nilIface).run P w=.ok (tQ v) w/\(Op.equalIn (D+1) t .nilIface v).run P w=.ok (tQ v) w:=by cases v<;>simp[isIface] at hv<;>constructor<;>simp[Op.equalIn,run_underlying hd,tQ]
def qwL{t:Nat}{d1 d2 d3}(D:Nat)(hd:P.underlying t=some (.func d1 d2 d3))(v:Me)(hv:Az v=true)(w:Md): (Op.equalIn (D+1) t v .nilFunc).run P w=.ok (ud v) w/\(Op.equalIn (D+1) t .nilFunc v).run P w=.ok (ud v) w:=by cases v<;>simp[Az] at hv<;>constructor<;>simp[Op.equalIn,run_underlying hd,ud]
def qsp(h:vQ (pV P) P t v u K): ∃r,K r/\(∀cs,v≠.agg cs)/\(∀cs,u≠.agg cs)/\∀(w:Md) (neg:Bool),(binOp (Ak neg) t v u).run P w=.ok (.bool (if neg then !r else r)) w/\(binOp (Ak neg) t u v).run P w=.ok (.bool (if neg then !r else r)) w:=by
 unfold vQ at h;split at h;rename_i d hd;split at h;rename_i p;exact⟨_,h,oN,oN,λw neg=>⟨wW neg (quj 9999 hd p w).1 oN oN oN oN,wW neg (quj 9999 hd p w).2 oN oN oN oN⟩⟩;exact h.elim;rename_i d hd;split at h;rename_i p i j k l;exact⟨_,h,oN,oN,λw neg=>⟨wW neg (qpD 9999 hd p i j k l w).1 oN oN oN oN,wW neg (qpD 9999 hd p i j k l w).2 oN oN oN oN⟩⟩;exact h.elim;rename_i d1 d2 hd;split at h;rename_i p;exact⟨_,h,oN,oN,λw neg=>⟨wW neg (qui 9999 hd p w).1 oN oN oN oN,wW neg (qui 9999 hd p w).2 oN oN oN oN⟩⟩;exact h.elim;rename_i ms hd;split at h;obtain⟨hi,hk⟩:=h;refine⟨_,hk,?_,oN,λw neg=>⟨wW neg (qpC 9999 hd v hi w).1 ?_ ?_ ?_ ?_,wW neg (qpC 9999 hd v hi w).2 oN oN oN oN⟩⟩<;>
  (intros;intro hv;subst hv;simp[isIface] at hi)
 exact h.elim;rename_i d1 d2 d3 hd;split at h;obtain⟨hi,hk⟩:=h;refine⟨_,hk,?_,oN,λw neg=>⟨wW neg (qwL 9999 hd v hi w).1 ?_ ?_ ?_ ?_,wW neg (qwL 9999 hd v hi w).2 oN oN oN oN⟩⟩<;>
  (intros;intro hv;subst hv;simp[Az] at hi)
 exact h.elim;exact h.elim
def qul(h:AT (pV P) P t x y e K)(hr:Rel n ds e a): ∃r,K r/\∀(w:Md) (neg:Bool),(do eqGuard (Ak neg) t x y (a.eval x) (a.eval y);binOp (Ak neg) t (a.eval x) (a.eval y):Sem Me).run P w=.ok (.bool (if neg then !r else r)) w:=by
 unfold AT at h;split at h;rename_i va vb hx hy;rw[hr.ev hx,hr.ev hy];cases hny:ke y with
 | true=>
  simp only[hny,cond_true] at h;obtain⟨r,hk,n1,n2,hrun⟩:=qsp h;obtain⟨c,rfl⟩:=qfV hny;exact⟨r,hk,λw neg=>by rw[qkp n2];exact (hrun w neg).1⟩
 | false=>
  simp only[hny,cond_false] at h;cases hnx:ke x with
  | true=>
   simp only[hnx,cond_true] at h;obtain⟨r,hk,n1,n2,hrun⟩:=qsp h;obtain⟨c,rfl⟩:=qfV hnx;exact⟨r,hk,λw neg=>by rw[qk3 n1];exact (hrun w neg).2⟩
  | false=>
   simp only[hnx,cond_false] at h;split at h;rename_i k p j q;cases hkj:k==j with
   | true=>
    simp only[hkj,cond_true] at h;obtain rfl:=FI hkj;refine⟨_,h,λw neg=>?_⟩;cases neg<;>simp[Ak,eqGuard_at_int,binOp_eql,binOp_neq,bne]
   | false=>simp only[hkj,cond_false] at h
   rename_i p q;split at h;rename_i hd;refine⟨_,h,λw neg=>?_⟩;cases neg<;>simp[Ak,eqGuard_at_bool,run_eql_bool w t p q hd,run_neq_bool w t p q hd];exact h.elim;exact h.elim
 exact h.elim
open Go List
def oY(h:s.run P w=.ok v w'):(do pure (Next.value (<- s)):Sem Next).run P w=.ok (.value v) w':=by simp[h]
def qns(hr:Rel n ds e a):∀ {ps:List (Nat×Operand)} {vs:List (Nat×Me)},nR e ps=some vs->ps.map (λ(i,x)=>(i,a.eval x))=vs
  | [],vs,h=>by simp[nR] at h;subst h;rfl
  | (i,x)::ps,vs,h=>by simp only[nR] at h;split at h;rename_i v us h1 h2;cases h;simp[hr.ev h1,qns hr h2];cases h
def D9(hr:Rel n ds e a){vs:List (Nat×Me)}(h:nR e ps.toList=some vs): (ps.map λ(i,x)=>(i,a.eval x))=vs.toArray:=by apply Array.ext';simpa using qns hr h
def Bd (x:Option Me) (r:Option Int):Prop:=(x=none/\r=none)\/∃k i,x=some (.int k i)/\r=some i
def Bd.of(hr:Rel n ds e a){x:Option Operand}(h:pq e x=some r):Bd (x.map a.eval) r:=by rcases qsr hr h with ⟨rfl,rfl⟩|⟨y,k,i,rfl,rfl,hy⟩;exact .inl ⟨rfl,rfl⟩;exact .inr ⟨k,i,by simp[hy],rfl⟩
def qg7{nn cc:Nat}{l h m:Option Int}{lo hi mx:Option Me}(s:Bool)(hl:Bd lo l)(hh:Bd hi h)(hm:Bd mx m)(hmh:(mx.isSome&&hi.isNone)=false)(hb:0<=l.getD 0/\l.getD 0<=h.getD nn/\h.getD nn<=m.getD cc/\m.getD cc<=cc)(w:Md): (Instr.sliceBounds s nn cc lo hi mx).run P w=.ok ((l.getD 0).toNat,(h.getD nn).toNat,(m.getD cc).toNat) w:=by obtain⟨b0,b1,b2,b3⟩:=hb;rcases hm with ⟨rfl,rfl⟩|⟨km,im,rfl,rfl⟩;rcases hh with ⟨rfl,rfl⟩|⟨kh,ih,rfl,rfl⟩;rcases hl with ⟨rfl,rfl⟩|⟨kl,il,rfl,rfl⟩;simp[Instr.sliceBounds];simp at b0 b1 b2 b3;simp[Instr.sliceBounds,Instr.sliceBound,asIntOf,b0,b1];rcases hl with ⟨rfl,rfl⟩|⟨kl,il,rfl,rfl⟩;simp at b0 b1 b2 b3;simp[Instr.sliceBounds,Instr.sliceBound,asIntOf,b1,b2];simp at b0 b1 b2 b3;have:0<=ih:=oL;have:(ih.toNat:Int)=ih:=oL;simp[Instr.sliceBounds,Instr.sliceBound,asIntOf, *];rcases hh with ⟨rfl,rfl⟩|⟨kh,ih,rfl,rfl⟩;simp at hmh;rcases hl with ⟨rfl,rfl⟩|⟨kl,il,rfl,rfl⟩;simp at b0 b1 b2 b3;have:0<=im:=oL;have:(im.toNat:Int)=im:=oL;simp[Instr.sliceBounds,Instr.sliceBound,asIntOf, *];simp at b0 b1 b2 b3;have:0<=ih:=oL;have:0<=im:=oL;have:(ih.toNat:Int)=ih:=oL;have:(im.toNat:Int)=im:=oL;simp[Instr.sliceBounds,Instr.sliceBound,asIntOf, *]
def qx8{x y:Int}{u v:Operand}{r:Me}(h:vq op k x y=some r)(w:Md): (do eqGuard op t u v (.int k x) (.int k y);binOp op t (.int k x) (.int k y):Sem Me).run P w=.ok r w:=by cases op<;>simp[vq] at h<;>subst h<;>simp[eqGuard_at_int,binOp_add,binOp_sub,binOp_mul,binOp_and,binOp_or,binOp_xor,binOp_andNot,binOp_eql,binOp_neq,binOp_lss,binOp_leq,binOp_gtr,binOp_geq,Op.intArith,intBits_and,intBits_or,intBits_xor,intBits_andNot]
def qpt(h:pz y=true){b:Int}(hy:e.ev y=some (.int k b)):b≠0:=by unfold pz at h;split at h;simp[Env.ev] at hy;obtain⟨rfl,rfl⟩:=hy;simpa using h;cases h
def qps(h:pu y=true){b:Int}(hy:e.ev y=some (.int k b)):0<=b:=by unfold pu at h;split at h;simp[Env.ev] at hy;obtain⟨rfl,rfl⟩:=hy;simpa using h;cases h
def xp(h:(!qm P t)=false):(P.info? t).isSome=true/\(P.underlying t).isSome=true:=by simpa[qm] using h
def EY(h:(!qm P t)=false)(cs:Array Me)(off:Nat)(w:Md): (part t cs off).run P w=if fR P t then .ok (.agg (cs.extract off (off+fv P t))) w else match cs[off]? with|some v=>.ok v w|none=>.halt (.stuck "part: no such cell") w:=by
  obtain⟨h1,h2⟩:=xp h;unfold part;simp only[LS,BD h2,LU];cases fR P t with
  | true=>simp[uk h1]
  | false=>cases cs[off]?<;>simp
set_option maxHeartbeats 1000000 in
def qqe{K:Me->Prop}(h:iE (pV P) P o e w K)(hr:Rel n ds e a): ∃v,(∀w',(execOp a.eval o).run P w'=.ok (.value v) w')/\K v:=by
  obtain⟨dst,op,type,pos,after,guard⟩:=o;cases op;case move x=>
    simp only[iE] at h;split at h;rename_i v hv;exact⟨v,λw'=>by simp[execOp,hr.ev hv],h⟩;exact h.elim
  case assign x=>
    simp only[iE] at h;split at h;rename_i v hv;exact⟨v,λw'=>by simp[execOp,hr.ev hv],h⟩;exact h.elim
  case pick c x y=>
    simp only[iE] at h;split at h;rename_i t vx vy hc hx hy;cases t with|true=>exact⟨_,λw'=>by simp[execOp,hr.ev hc,hr.ev hx,asBool],h⟩|false=>exact⟨_,λw'=>by simp[execOp,hr.ev hc,hr.ev hy,asBool],h⟩
    exact h.elim
  case nilCheck x=>
    simp only[iE] at h;split at h;rename_i p hp;split at h;rename_i ad;exact⟨_,λw'=>by simp[execOp,hr.ev hp],h⟩;exact h.elim;exact h.elim
  case binOp op t x y yt=>
    cases op;case eql=>
      obtain⟨r,hk,hrun⟩:=qul h hr;exact⟨_,λw'=>oY (by have:=hrun w' false;simpa[Ak] using this),hk⟩
    case neq=>
      obtain⟨r,hk,hrun⟩:=qul h hr;exact⟨_,λw'=>oY (by have:=hrun w' true;simpa[Ak] using this),hk⟩
    case quo=>
      simp only[iE] at h;split at h;rename_i k p j q hx hy;cases hkj:k==j with
      | true=>
        obtain rfl:=FI hkj;simp only[hkj,cond_true] at h;have hq:q≠0/\K (.int k (k.wrap (p.tdiv q))):=by
          cases hc:pz y with|true=>simp only[hc,cond_true] at h;exact⟨qpt hc hy,h⟩|false=>simp only[hc,cond_false] at h;exact h
        exact⟨_,λw'=>oY (by rw[hr.ev hx,hr.ev hy];simp[eqGuard_at_int,binOp_quo,Op.intDiv,hq.1]),hq.2⟩
      | false=>simp only[hkj,cond_false] at h
      exact h.elim
    case rem=>
      simp only[iE] at h;split at h;rename_i k p j q hx hy;cases hkj:k==j with
      | true=>
        obtain rfl:=FI hkj;simp only[hkj,cond_true] at h;have hq:q≠0/\K (.int k (p.tmod q)):=by
          cases hc:pz y with|true=>simp only[hc,cond_true] at h;exact⟨qpt hc hy,h⟩|false=>simp only[hc,cond_false] at h;exact h
        exact⟨_,λw'=>oY (by rw[hr.ev hx,hr.ev hy];simp[eqGuard_at_int,binOp_rem,Op.intDiv,hq.1]),hq.2⟩
      | false=>simp only[hkj,cond_false] at h
      exact h.elim
    case shl=>
      simp only[iE] at h;split at h;rename_i k p j q hx hy;have hq:0<=q/\K (.int k (k.wrap (p*2^min q.toNat k.bits))):=by
        cases hc:pu y with|true=>simp only[hc,cond_true] at h;exact⟨qps hc hy,h⟩|false=>simp only[hc,cond_false] at h;exact h
      exact⟨_,λw'=>oY (by rw[hr.ev hx,hr.ev hy];simp[eqGuard_at_int,binOp_shl,Op.shift,Int.not_lt.2 hq.1]),hq.2⟩;exact h.elim
    case shr=>
      simp only[iE] at h;split at h;rename_i k p j q hx hy;have hq:0<=q/\K (.int k (p.fdiv (2^min q.toNat k.bits))):=by
        cases hc:pu y with|true=>simp only[hc,cond_true] at h;exact⟨qps hc hy,h⟩|false=>simp only[hc,cond_false] at h;exact h
      exact⟨_,λw'=>oY (by rw[hr.ev hx,hr.ev hy];simp[eqGuard_at_int,binOp_shr,Op.shift,Int.not_lt.2 hq.1]),hq.2⟩;exact h.elim
    all_goals
      simp only[iE] at h;split at h;rename_i k p j q hx hy;cases hkj:k==j with
      | true=>
        obtain rfl:=FI hkj;simp only[hkj,cond_true] at h;split at h;rename_i v hv;exact⟨v,λw'=>oY (by rw[hr.ev hx,hr.ev hy];exact qx8 hv w'),h⟩;exact h.elim
      | false=>simp only[hkj,cond_false] at h
      exact h.elim
  case unOp op t x=>
    simp only[iE] at h;split at h;rename_i b hx;split at h;exact⟨_,λw'=>oY (by rw[hr.ev hx];simp[Op.unary]),h⟩;exact h.elim;exact h.elim
  case convert s d x=>
    simp only[iE] at h;split at h;rename_i ds k i hs hx;split at h;rename_i kd hd;exact⟨_,λw'=>oY (by rw[hr.ev hx];simp[convert,run_underlying hs,run_underlying hd,Conv.intToInt]),h⟩;exact h.elim;exact h.elim
  case extract x i=>
    simp only[iE] at h;split at h;rename_i vs hx;split at h;rename_i v hv;exact⟨v,λw'=>oY (by rw[hr.ev hx];simp[Instr.extract,show vs[i]?=some v by simpa using hv]),h⟩;exact h.elim;exact h.elim
  case field t x f=>
    simp only[iE] at h;split at h;rename_i fs cs ht hx;split at h;rename_i fd hf;cases hok:!qm P fd.type with
    | true=>simp only[hok,cond_true] at h
    | false=>
      simp only[hok,cond_false] at h;have whole:fR P fd.type=true->∀vs',cs.toList.extract fd.offset (fd.offset+fv P fd.type)=vs'->∀w',(execOp a.eval ⟨dst,.field t x f,type,pos,after,guard⟩).run P w'=.ok (.value (.agg vs'.toArray)) w':=by intro hag vs' hvs w';refine oY ?_;rw[hr.ev hx];simp[Instr.field,run_underlying ht,hf,asAgg,EY hok,hag];apply Array.ext';simpa using hvs
      have part:fR P fd.type=false->∀v,cs.toList[fd.offset]?=some v->∀w',(execOp a.eval ⟨dst,.field t x f,type,pos,after,guard⟩).run P w'=.ok (.value v) w':=(by intro hag v hv w';refine oY ?_;rw[hr.ev hx];simp[Instr.field,run_underlying ht,hf,asAgg,EY hok,hag,show cs[fd.offset]?=some v by simpa using hv]);have jT:(bif fR P fd.type then K (.agg (cs.toList.extract fd.offset (fd.offset+fv P fd.type)).toArray) else match cs.toList[fd.offset]? with|some v=>K v|none=>False)->∃v,(∀w',(execOp a.eval ⟨dst,.field t x f,type,pos,after,guard⟩).run P w'=.ok (.value v) w')/\K v:=by
        intro h;cases hag:fR P fd.type with
        | true=>
          simp only[hag,cond_true] at h;exact⟨_,whole hag _ rfl,h⟩
        | false=>
          simp only[hag,cond_false] at h;split at h;rename_i v hv;exact⟨v,part hag v hv,h⟩;exact h.elim
      split at h;split at h;rename_i c _;cases hag:fR P fd.type with
      | true=>simp only[hag,cond_true] at h
      | false=>
        simp only[hag,cond_false] at h;obtain⟨y,hy,hk⟩:=h;exact⟨_,part hag _ hy,hk⟩
      rename_i cl _;cases hg:fR P fd.type&&Nat.beq (fv P fd.type) cl.length with
      | false=>simp only[hg,cond_false] at h
      | true=>
        simp only[hg,cond_true] at h;simp only[yB] at hg;obtain⟨y,hy,hk⟩:=h;have hsz:=yW hg.2;exact⟨_,whole hg.1 _ (by rw[hsz];exact hy),hk⟩
      cases hag:fR P fd.type with
      | true=>
        simp only[hag,cond_true] at h;exact⟨_,whole hag _ rfl,h⟩
      | false=>simp only[hag,cond_false] at h
      exact jT h
    exact h.elim;exact h.elim
  case fieldAddr t x f=>
    simp only[iE] at h;split at h;rename_i fs ht;split at h;rename_i fd hf;cases hz:Nat.beq (fv P fd.type) 0 with
    | true=>simp only[hz,cond_true] at h
    | false=>
      simp only[hz,cond_false] at h;split at h;rename_i p hx;split at h;rename_i ad;have hs:(P.info? fd.type).isSome=true:=by
        cases hi:P.info? fd.type with|none=>simp[fv,hi] at hz|some i=>rfl
      have hn:fv P fd.type≠0:=λh0=>by simp[h0] at hz
      refine⟨_,λw'=>oY ?_,h⟩;rw[hr.ev hx];simp[Instr.fieldAt,run_underlying ht,hf,Instr.sureAddr,fieldPlace,uk hs,hn];exact h.elim;exact h.elim
    exact h.elim;exact h.elim
  case makeInterface t x=>
    simp only[iE] at h;split at h;exact h.elim
    · rename_i d v hni hd hx;refine⟨_,λw'=>oY ?_,h⟩;rw[hr.ev hx];simp only[Instr.makeInterface,LS,run_underlying hd,LU];first
        | rfl
        | (split
           rename_i ms;exact (hni ms rfl).elim;rfl)
    exact h.elim
  case makeFunc fn first cap=>
    simp only[iE] at h;split at h;rename_i f c hf hc;exact⟨_,λw'=>oY (by rw[hr.j5 hf,hr.j5 hc];simp[Instr.makeFunc]),h⟩;exact h.elim
  case build t parts=>
    simp only[iE] at h;split at h;rename_i vs hv;split at h;obtain⟨y,hy,hk⟩:=h;exact⟨_,λw'=>oY (by rw[D9 hr hv];exact ((fK.build t _).run w w' w _ hy).2),hk⟩;split at h;rename_i v w1 hrun;exact⟨v,λw'=>oY (by rw[D9 hr hv];exact ((fK.build t _).run w w' w1 v hrun).2),h⟩;exact h.elim;exact h.elim
  case sliceToArrayPointer t x=>
    simp only[iE] at h;split at h;rename_i len el ht;split at h;rename_i sa l c hx;obtain⟨ad,hsa,hb,hk⟩:=h;subst hsa;refine⟨_,λw'=>oY ?_,hk⟩;rw[hr.ev hx];simp[Instr.arrayAt,run_underlying ht,Nat.not_lt.2 hb];exact h.elim;exact h.elim
  case indexAddr t x ix=>
    simp only[iE] at h;split at h;rename_i el ht;cases hok:!qm P el with
    | true=>simp only[hok,cond_true] at h
    | false=>
      simp only[hok,cond_false] at h;obtain⟨hi1,hi2⟩:=xp hok;split at h;rename_i sa l c k i hx hi;obtain⟨ad,hsa,hb,hk⟩:=h;subst hsa;refine⟨_,λw'=>oY ?_,hk⟩;rw[hr.ev hx,hr.ev hi];simp[Instr.indexAt,asIntOf,run_underlying ht,hb,uk hi1];exact h.elim
    rename_i len el ht;cases hok:!qm P el with
    | true=>simp only[hok,cond_true] at h
    | false=>
      simp only[hok,cond_false] at h;obtain⟨hi1,hi2⟩:=xp hok;split at h;rename_i ad hx;split at h;rename_i i hc;refine⟨_,λw'=>oY ?_,h⟩;unfold vP at hc;split at hc;rename_i k j;split at hc;rename_i hb;cases hc;rw[hr.ev hx];simp[Act.eval,Instr.indexAt,asIntOf,run_underlying ht,Instr.sureAddr,hb,uk hi1];cases hc;cases hc;split at h;rename_i k j hi;obtain⟨hb,hk⟩:=h;refine⟨_,λw'=>oY ?_,hk⟩;rw[hr.ev hx,hr.ev hi];simp[Instr.indexAt,asIntOf,run_underlying ht,Instr.sureAddr,hb,uk hi1];exact h.elim;exact h.elim
    exact h.elim
  case index t x ix=>
    simp only[iE] at h;split at h;rename_i len el ht;split at h;rename_i cs k i hx hi;split at h;rename_i c hc;cases hg:fR P el||!(Nat.beq (fv P el) 1)||!qm P el with
    | true=>simp only[hg,cond_true] at h
    | false=>
      simp only[hg,cond_false] at h;simp only[L6] at hg;obtain⟨⟨g1,g2⟩,g3⟩:=hg;have g2':=yW (oS g2);obtain⟨y,⟨h0,h1,hy⟩,hk⟩:=h;obtain⟨hi1,hi2⟩:=xp g3;refine⟨_,λw'=>oY ?_,hk⟩;rw[hr.ev hx,hr.ev hi];have hy':cs[i.toNat]?=some (c.mk y):=(oS hy);simp[Instr.index,asIntOf,run_underlying ht,h0,h1,uk hi1,g2',EY g3,g1,hy']
    rename_i cl hc;cases hg:!(fR P el)||!(Nat.beq (fv P el) cl.length)||!qm P el with
    | true=>simp only[hg,cond_true] at h
    | false=>
      simp only[hg,cond_false] at h;simp only[L6] at hg;obtain⟨⟨g1,g2⟩,g3⟩:=hg;have g1':fR P el=true:=(oS g1);have g2':=yW (oS g2);obtain⟨⟨h0,h1⟩,y,hy,hk⟩:=h;obtain⟨hi1,hi2⟩:=xp g3;refine⟨_,λw'=>oY ?_,hk⟩;rw[hr.ev hx,hr.ev hi];have hy':cs.extract (i.toNat*cl.length) (i.toNat*cl.length+cl.length)=(HL.mk cl y).toArray:=by apply Array.ext';simpa using hy
      simp[Instr.index,asIntOf,run_underlying ht,h0,h1,uk hi1,g2',EY g3,g1',hy']
    exact h.elim;exact h.elim;exact h.elim
  case slice t x lo hi mx=>
    simp only[iE] at h;cases hmh:mx.isSome&&hi.isNone with
    | true=>simp only[hmh,cond_true] at h
    | false=>
      simp only[hmh,cond_false] at h;split at h;rename_i l hh m hl hhi hm;have bl:=Bd.of hr hl;have bh:=Bd.of hr hhi;have bm:=Bd.of hr hm;have hmh':((mx.map a.eval).isSome&&(hi.map a.eval).isNone)=false:=(oS hmh);split at h;rename_i el ht;cases hok:!qm P el with
      | true=>simp only[hok,cond_true] at h
      | false=>
        simp only[hok,cond_false] at h;obtain⟨hi1,hi2⟩:=xp hok;split at h;rename_i sa nn cc hx;obtain⟨hb,hk⟩:=h;refine⟨_,λw'=>oY ?_,hk⟩;rw[hr.ev hx];simp only[Instr.sliceAt,LS,run_underlying ht,LU,Instr.slice,qg7 true bl bh bm hmh' hb,uk hi1];rfl;exact h.elim
      rename_i len el ht;cases hok:!qm P el with
      | true=>simp only[hok,cond_true] at h
      | false=>
        simp only[hok,cond_false] at h;obtain⟨hi1,hi2⟩:=xp hok;split at h;rename_i ad hx;obtain⟨hb,hk⟩:=h;refine⟨_,λw'=>oY ?_,hk⟩;rw[hr.ev hx];simp only[Instr.sliceAt,LS,run_underlying ht,LU,Instr.sureAddr,Sem.run_pure,qg7 false bl bh bm hmh' hb,uk hi1];exact h.elim
      exact h.elim;exact h.elim
  case call c=>
    obtain⟨callee,args,argTypes⟩:=c;cases callee with
    | builtin b=>
      cases b<;>simp only[iE] at h<;>try exact h.elim
      case cap=>
        split at h;rename_i el _ _ c ht hv;obtain⟨t0,h0,h1⟩:=Option.bind_eq_some_iff.1 ht;exact⟨_,λw'=>by simp[execOp,resolve,hr.j5 hv,invoke,builtin,Builtin.cap_,h0,run_underlying h1,goInt],h⟩;exact h.elim
      case len=>
        split at h;rename_i el _ k _ ht hv;obtain⟨t0,h0,h1⟩:=Option.bind_eq_some_iff.1 ht;exact⟨_,λw'=>by simp[execOp,resolve,hr.j5 hv,invoke,builtin,Builtin.len_,h0,run_underlying h1,goInt],h⟩;rename_i k el u ht hv;obtain⟨t0,h0,h1⟩:=Option.bind_eq_some_iff.1 ht;exact⟨_,λw'=>by simp[execOp,resolve,hr.j5 hv,invoke,builtin,Builtin.len_,h0,run_underlying h1,goInt],h⟩;exact h.elim
      case max=>
        split at h;rename_i k x j y hv;exact⟨_,λw'=>by simp[execOp,resolve,hr.j5 hv,invoke,builtin,run_max_int2],h⟩;exact h.elim
      case min=>
        split at h;rename_i k x j y hv;exact⟨_,λw'=>by simp[execOp,resolve,hr.j5 hv,invoke,builtin,run_min_int2],h⟩;exact h.elim
    | value f=>exact h.elim
    | invoke r m=>exact h.elim
  all_goals exact h.elim
def E6{ad:Addr}:∀(vs:List Me) (i:Nat) (acc:Array Me) (w:Md),kU w ad i vs-> (loadCellsFrom ad i vs.length acc).run P w=.ok (acc++vs.toArray) w
  | [],i,acc,w,_=>by simp[loadCellsFrom]
  | [v],i,acc,w,h=>by have h':w.cell? (ad.add i)=some v:=h;simp[loadCellsFrom,h']
  | v::u::vs,i,acc,w,h=>by
    obtain⟨h1,h2⟩:=h;have:=E6 (u::vs) (i+1) (acc.push v) w h2;simp only[yI] at this⊢;rw[loadCellsFrom];simp only[LS,run_load,h1,LU,this];simp
def qqh{K:Me->(WP)->Prop}(h:qe (pV P) P o e w K)(hc:DI P o.op=.read)(hr:Rel n ds e a): ∃v hold,(execOp a.eval o).run P w=.ok (.value v) w/\(∀w',hold w'->(execOp a.eval o).run P w'=.ok (.value v) w')/\K v hold:=by
  obtain⟨dst,op,type,pos,after,guard⟩:=o;cases op;case load t x=>
    simp only[qe] at h;split at h;rename_i p hx;obtain⟨ad,rfl⟩:∃ad,p=some ad:=by
      cases p with|none=>exact h.elim|some ad=>exact⟨ad,rfl⟩
    dsimp only at h;split at h;rename_i c hcell;cases hok:!qm P t with
    | true=>simp only[hok,cond_true] at h
    | false=>
      simp only[hok,cond_false] at h;obtain⟨hi1,hi2⟩:=xp hok;cases hag:fR P t with
      | true=>simp only[hag,cond_true] at h
      | false=>
        simp only[hag,cond_false] at h;obtain⟨y,hy,hk⟩:=h;have key:∀w',w'.cell? ad=some (c.mk y)->(execOp a.eval ⟨dst,.load t x,type,pos,after,guard⟩).run P w'=.ok (.value (c.mk y)) w':=λw' hw'=>
          oY (by rw[hr.ev hx];simp[Instr.loadAt,Instr.sureAddr,loadVar,BD hi2,hag,hw'])
        exact⟨_,_,key w hy,λw' hw'=>key w' hw',hk⟩
    rename_i cs hcells;cases hg:fR P t&&Nat.beq (fv P t) cs.length with
    | false=>simp only[hg,cond_false] at h
    | true=>
      simp only[hg,cond_true] at h;simp only[yB] at hg;obtain⟨hag,hsz⟩:=hg;have hsz':=yW hsz;obtain⟨y,hy,hk⟩:=h;have hlen:=HL.j3 cs y;have hsome:(P.info? t).isSome=true:=by
        cases hi:P.info? t with
        | none=>
          have:=Bh hag;simp[Program.underlying,hi] at this
        | some i=>rfl
      have key:∀w',kU w' ad 0 (HL.mk cs y)->(execOp a.eval ⟨dst,.load t x,type,pos,after,guard⟩).run P w'=.ok (.value (.agg (HL.mk cs y).toArray)) w':=λw' hw'=>
        oY (by
          rw[hr.ev hx];have:=E6 (P:=P) (HL.mk cs y) 0 #[] w' hw';rw[hlen,<- hsz'] at this;simp[Instr.loadAt,Instr.sureAddr,loadVar,BD (Bh hag),hag,uk hsome,loadCells,this])
      exact⟨_,_,key w hy,λw' hw'=>key w' hw',hk⟩
    cases hag:fR P t with
    | false=>simp only[hag,cond_false] at h
    | true=>
      simp only[hag,cond_true] at h;obtain⟨y,hy,hk⟩:=h;have hsome:(P.info? t).isSome=true:=by
        cases hi:P.info? t with
        | none=>
          have:=Bh hag;simp[Program.underlying,hi] at this
        | some i=>rfl
      have key:∀w',kU w' ad 0 y->(execOp a.eval ⟨dst,.load t x,type,pos,after,guard⟩).run P w'=.ok (.value (.agg y.toArray)) w':=λw' hw'=>
        oY (by
          rw[hr.ev hx];have:=E6 (P:=P) y 0 #[] w' hw';rw[hy.1] at this;simp[Instr.loadAt,Instr.sureAddr,loadVar,BD (Bh hag),hag,uk hsome,loadCells,this])
      exact⟨_,_,key w hy.2,λw' hw'=>key w' hw',hk⟩
    exact h.elim
  case lookup t m k ok=>
    simp only[qe] at h;split at h;rename_i vm vk hm hk;obtain⟨y,hy,hK⟩:=h;exact⟨_,_,oY (by rw[hr.ev hm,hr.ev hk];exact hy),λw' hw'=>oY (by rw[hr.ev hm,hr.ev hk];exact hw'),hK⟩;exact h.elim
  case typeAssert x xt as_ ok=>
    simp only[qe] at h;split at h;rename_i v hx;obtain⟨y,hy,hK⟩:=h;exact⟨_,_,oY (by rw[hr.ev hx];exact hy),λw' hw'=>oY (by rw[hr.ev hx];exact hw'),hK⟩;exact h.elim
  case binOp op t x y yt=>
    have h':(match e.ev x,e.ev y with
      | some p,some q=>(pV P).eO dk (λw'=>(do eqGuard op t x y p q;binOp op t p q:Sem Me).run P w') w (λr=>K (.bool r) λw'=>(do eqGuard op t x y p q;binOp op t p q:Sem Me).run P w'=.ok (.bool r) w')
      | _,_=>False):=by cases op<;>exact h
    split at h';rename_i p q hx hy;obtain⟨r,hr1,hK⟩:=h';exact⟨_,_,oY (by rw[hr.ev hx,hr.ev hy];exact hr1),λw' hw'=>oY (by rw[hr.ev hx,hr.ev hy];exact hw'),hK⟩;exact h'.elim
  case call c=>
    obtain⟨callee,args,argTypes⟩:=c;cases callee with
    | builtin b=>
      cases b<;>simp only[qe] at h<;>try exact h.elim
      split at h;rename_i vs hv;obtain⟨r,hr1,hK⟩:=h;have key:∀w',(Builtin.len_ argTypes type vs.toArray).run P w'=.ok (.int .i64 r) w'->(execOp a.eval ⟨dst,.call ⟨.builtin .len,args,argTypes⟩,type,pos,after,guard⟩).run P w'=.ok (.value (.int .i64 r)) w':=λw' hw'=>by simp[execOp,resolve,hr.j5 hv,invoke,builtin,hw']
      exact⟨_,_,key w hr1,λw' hw'=>key w' hw',hK⟩;exact h.elim
    | value f=>exact h.elim
    | invoke r m=>exact h.elim
  all_goals exact h.elim
def d7 (cs:Array Me):Nat->List Me->Array Me
 | _,[]=>cs
 | off,v::vs=>d7 (cs.setIfInBounds off v) (off+1) vs
def qI:∀(vs:List Me) (cs:Array Me) (off:Nat),(d7 cs off vs).size=cs.size
 | [],_,_=>rfl
 | v::vs,cs,off=>by simp[d7,qI vs]
def tM:∀(vs:List Me) (cs:Array Me) (off:Nat),off+vs.length<=cs.size->(d7 cs off vs).toList=cs.toList.take off++vs++cs.toList.drop (off+vs.length)
 | [],cs,off,h=>by simp[d7]
 | v::vs,cs,off,h=>by
  simp only[yI] at h;rw[d7,tM vs _ _ oQ,Array.toList_setIfInBounds];have h1:(cs.toList.set off v).take (off+1)=cs.toList.take off++[v]:=by have:off<cs.toList.length:=oQ;rw[set_eq_take_append_cons_drop,iP this,take_append,yL,xP oL,zS oQ];simp[show off+1-off=1 by omega]
  have h2:(cs.toList.set off v).drop (off+1+vs.length)=cs.toList.drop (off+1+vs.length):=(by rw[drop_set,iP]);rw[h1,h2];simp[Nat.add_assoc,Nat.add_comm 1]
def qus(off:Nat):∀(l:List Me) (j:Nat) (cells:Array Me),(l.zipIdx j).foldl (λcs (x:Me×Nat)=>cs.setIfInBounds (off+x.2) x.1) cells=d7 cells (off+j) l
 | [],j,cells=>rfl
 | v::l,j,cells=>by rw[zipIdx_cons,foldl_cons,qus off l (j+1)];rfl
def GF(off:Nat)(vs cells:Array Me):(vs.zipIdx.foldl (λcs (x:Me×Nat)=>cs.setIfInBounds (off+x.2) x.1) cells)=d7 cells off vs.toList:=by rw[<- Array.foldl_toList,Array.toList_zipIdx,qus off vs.toList 0,Nat.add_zero]
def gS{cells:Array Me}(h:vs.length=cells.size):d7 cells 0 vs=vs.toArray:=by apply Array.ext';rw[tM _ _ _ oL];simp[h]
variable {K:Me->WP} {r:Option Nat} {m:Nat} {N:Act->WP} {Q:Exit->Act->WP} {f:FuncId} {R:Ending->WP} {tmps:Array Me} {ts:List jV} {el:Mf} {parts:Array (Nat×Operand)} {wr:Nat->Bool} {ops:List Oper} {listed:Array Bool} {args:List Me} {fn:Func} {an:List Aw} {F A B:Prop}
def qiu{ad:Addr}:∀(vs:List Me) (i:Nat) (w:Md) (K:WP),HX ad i vs w K-> ∃w',(storeCells ad vs i).run P w=.ok () w'/\K w'
 | [],i,w,K,h=>⟨w,by simp[storeCells],h⟩
 | v::vs,i,w,K,h=>by obtain⟨⟨h1,⟨u,hu⟩,h3⟩,h4⟩:=h;obtain⟨w',hr,hk⟩:=qiu vs (i+1) _ K h4;refine⟨w',?_,hk⟩;unfold storeCells;simp only[LS,run_store P w (ad.add i) v .plain h1,hu,h3,Bool.false_eq_true,if_false,LU,hr]
def _root_.Go.Oper.wx (r:Option Nat) (m:Nat) (P:Mg) (o:Oper) (a:Act) (w:Md) (N:Act->WP) (Q:Exit->Act->WP):Prop:=o.uponIn (Wd r) m P a N Q ((execOp a.eval o).run P w)
def Lu(hnd:∀c,o.op≠.defer c)(h:o.wx r m P a w N Q):o.wpIn (Wd r) m P a w N Q:=
 ⟨λ_ _=>trivial,by rw[Oper.semAt_eq _ _ _ hnd];exact h⟩
def wX(hs:(execOp a.eval o)=(do pure (Next.value (<- s))))(hr:s.run P w=.ok v w')(hk:K v w'): o.wx r m P a w (λa' w'=>∃v,a'=a.put o.dst v/\K v w') Q:=by unfold Oper.wx;rw[hs,oY hr];exact⟨v,rfl,hk⟩
def HE{s:Sem Unit}(hs:(execOp a.eval o)=(do s;pure Next.skip))(hr:s.run P w=.ok () w')(hk:K undef w'): o.wx r m P a w (λa' w'=>∃v,a'=a.put o.dst v/\K v w') Q:=by unfold Oper.wx;rw[hs];simp only[LS,hr,LU,Sem.run_pure];exact⟨undef,rfl,hk⟩
def EO(hr:(execOp a.eval o).run P w=.ok (.value v) w')(hk:K v w'): o.wx r m P a w (λa' w'=>∃v,a'=a.put o.dst v/\K v w') Q:=by unfold Oper.wx;rw[hr];exact⟨v,rfl,hk⟩
def qfM{args:Array Me}(h:Calls P f args w R):CallsIn (Wd r) m P f args w R:=(callsIn_wide).2 h
def qwh{l f:Nat}{assign body:Code}(h:RoundIn (Wd none) 0 P l f tmps assign body w R):RoundIn (Wd r) m P l f tmps assign body w R:=
 ⟨trivial,λc cs _=>h.2 c cs (room_wide _)⟩
def Le(r:Option Nat):(Wd r).depth.isSome=true->1<=m:=λh=>by cases h
def Ir(hr:(execOp a.eval o).run P w=.ok (.enter f vs.toArray) w)(hk:call P f vs ts w λy w'=>K (gU ts y) w'): o.wx r m P a w (λa' w'=>∃v,a'=a.put o.dst v/\K v w') Q:=by unfold Oper.wx;rw[hr];refine⟨Le r,qfM (Calls.mono hk ?_)⟩;rintro e w' ⟨x,rfl,hx⟩;exact⟨_,rfl,hx⟩
def qtA{l f:Nat}{assign body:Code}(hr:(execOp a.eval o).run P w=.ok (.round l f tmps assign body) w)(hk:RoundIn (Wd none) 0 P l f tmps assign body w λe w'=>∃x:kH ts,e=.returned (gU ts x)/\K (gU ts x) w'): o.wx r m P a w (λa' w'=>∃v,a'=a.put o.dst v/\K v w') Q:=by unfold Oper.wx;rw[hr];refine⟨Le r,qwh (RoundIn.mono hk ?_)⟩;rintro e w' ⟨x,rfl,hx⟩;exact⟨_,rfl,hx⟩
def CZ(h:jJ P f=false)(args:Array Me)(w:Md):(callFunc f args).run P w=.ok (.enter f args) w:=by
 unfold jJ at h;unfold callFunc;cases hf:P.funcs[f]? with
 | none=>simp[hf] at h
 | some fn=>
  simp only[hf,L6] at h;simp only[LS,run_program,LU,hf];rw[iN (by simp[h.2]),iN (by simp[h.1])];rfl
def HK(h:(P.info? t).bind (·.zero)=some z):(P.info? t).isSome=true:=by
 cases hi:P.info? t with|none=>simp[hi] at h|some i=>rfl
def qve(ht:P.underlying t=some (.slice el))(hz:(P.info? el).bind (·.zero)=some z)(hsz:v.cells.size=fv P el)(hlt:¬1*fv P el>2^24): (Instr.buildSlice t 1 [(0,v)].toArray).run P w=.ok (.slice (some ⟨w.z,0,none⟩) 1 1) (w.alloc (.cells v.cells el)):=by
 simp only[Instr.buildSlice,LS,run_underlying ht,LU,uk (HK hz)];rw[iN hlt];have key:∀zs:Array Me,Instr.fill (λi=>some (i*fv P el,fv P el)) ((Array.range (1*fv P el)).map (zs[·%zs.size]!)) [(0,v)]=some v.cells:=by intro zs;have h1:((Array.range (1*fv P el)).map (zs[·%zs.size]!)).size=v.cells.size:=(by simp[hsz]);generalize (Array.range (1*fv P el)).map (zs[·%zs.size]!)=base at h1;have h2:=GF 0 v.cells base;rw[gS (by rw[Mc];exact h1.symm)] at h2;simp only[Instr.fill,Nat.zero_mul,xQ] at h2⊢;rw[iN (by rw[hsz,h1,hsz];simp)];simp only[h2,Array.toArray_toList]
 by_cases h0:1*fv P el=0;rw[iP h0];simp only[pure_bind];rw[key];simp[newRow];rw[iN h0];simp only[LS,AK hz,LU,Sem.run_pure];rw[key];simp[newRow]
def qtw(ht:P.underlying t=some (.slice el))(hz:(P.info? el).bind (·.zero)=some z): (Instr.buildSlice t 0 ([]:List (Nat×Me)).toArray).run P w=.ok (.slice (some ⟨w.z,0,none⟩) 0 0) (w.alloc (.cells #[] el)):=by simp only[Instr.buildSlice,LS,run_underlying ht,LU,uk (HK hz),Nat.zero_mul];rw[iN,iP trivial];simp only[pure_bind,Instr.fill];have:∀f:Nat->Me,(Array.range 0).map f = #[]:=λf=>Array.eq_empty_of_size_eq_zero oN;rw[this];simp[newRow]
def qof{guard:Option (Nat×Bool)}(Q:Exit->Act->WP){type:Mf}{len:Nat}{pos:String}{after:Array Edge}(h:ku (pV P) P ⟨dst,.buildSlice t len parts,type,pos,after,guard⟩ e w K)(hr:Rel n ds e a): (⟨dst,.buildSlice t len parts,type,pos,after,guard⟩:Oper).wx r m P a w (λa' w'=>∃v,a'=a.put dst v/\K v w') Q:=by
  have hex:∀len,execOp a.eval ⟨dst,.buildSlice t len parts,type,pos,after,guard⟩=(do pure (Next.value (<- Instr.buildSlice t len (parts.map λ(i,x)=>(i,a.eval x))))):=λlen=>rfl;simp only[ku] at h;split at h;rename_i el ht;split at h;rename_i z vs hz hv;cases hb:Nat.blt (2^24) (len*fv P el) with
  | true=>simp only[hb,cond_true] at h
  | false=>
   simp only[hb,cond_false] at h;have hlt:¬len*fv P el>2^24:=by intro hgt;have:Nat.blt (2^24) (len*fv P el)=true:=Nat.ble_eq_true_of_le hgt;rw[this] at hb;cases hb
   have jT:∀cells,uG (fv P el) len (bif Nat.beq (len*fv P el) 0 then [] else z.cells.toList) vs=some cells->(pV P).new (.cells cells el) w (λb w'=>K (.slice (some (dh b)) len len) w')->
     (⟨dst,.buildSlice t len parts,type,pos,after,guard⟩:Oper).wx r m P a w (λa' w'=>∃v,a'=a.put dst v/\K v w') Q:=by
    intro cells hc h;refine wX (s:=Instr.buildSlice t len (parts.map λ(i,x)=>(i,a.eval x))) ?_ ?_ h;exact hex _;rw[D9 hr hv];simp only[Instr.buildSlice,LS,run_underlying ht,LU,uk (HK hz)];rw[iN hlt];unfold uG at hc;cases h0:Nat.beq (len*fv P el) 0 with
    | true=>
     rw[iP (yW h0)];simp only[h0,cond_true] at hc;simp only[pure_bind];rw[show (#[]:Array Me)=([]:List Me).toArray from rfl,hc];simp[newRow]
    | false=>
     have:len*fv P el≠0:=λhq=>by rw[hq] at h0;cases h0
     rw[iN this];simp only[h0,cond_false] at hc;simp only[LS,AK hz,LU,Sem.run_pure];have hc':Instr.fill (λi=>some (i*fv P el,fv P el)) (Array.map (λx=>z.cells[x%z.cells.size]!) (Array.range (len*fv P el))) vs=some cells:=(oS hc);rw[hc'];simp[newRow]
   have old':(match uG (fv P el) len (bif Nat.beq (len*fv P el) 0 then [] else z.cells.toList) vs with|some cells=>(pV P).new (.cells cells el) w (λb w'=>K (.slice (some (dh b)) len len) w')|none=>False)->(⟨dst,.buildSlice t len parts,type,pos,after,guard⟩:Oper).wx r m P a w (λa' w'=>∃v,a'=a.put dst v/\K v w') Q:=by
    intro h;cases hc:uG (fv P el) len (bif Nat.beq (len*fv P el) 0 then [] else z.cells.toList) vs with|none=>rw[hc] at h;exact h.elim|some cells=>rw[hc] at h;exact jT cells hc h
   cases hty:rE P el with
   | one c=>simp only[hty] at h;exact old' h
   | agg cs=>simp only[hty] at h;exact old' h
   | tg=>
    simp only[hty] at h;match len,vs,h,hv,hlt with
    | 1,[(0,v)],h,hv,hlt=>
     obtain⟨hsz,hk⟩:=h;refine wX (s:=Instr.buildSlice t 1 (parts.map λ(i,x)=>(i,a.eval x))) ?_ ?_ hk;exact hex _;rw[D9 hr hv];exact qve ht hz (by rw[<- hsz,Mc]) hlt
    | 0,[],h,hv,hlt=>
     refine wX (s:=Instr.buildSlice t 0 (parts.map λ(i,x)=>(i,a.eval x))) ?_ ?_ h;exact hex _;rw[D9 hr hv];exact qtw ht hz
  exact h.elim;exact h.elim
set_option maxHeartbeats 1000000 in
def qrY(Q:Exit->Act->WP)(h:ku (pV P) P o e w K)(hr:Rel n ds e a): o.wx r m P a w (λa' w'=>∃v,a'=a.put o.dst v/\K v w') Q:=by
 obtain⟨dst,op,type,pos,after,guard⟩:=o;cases op;case store t x y=>
  simp only[ku] at h;obtain⟨v,hy⟩:∃v,e.ev y=some v:=by
   cases hy:e.ev y with|none=>rw[hy] at h;exact h.elim|some v=>exact⟨v,rfl⟩
  rw[hy] at h;dsimp only at h;split at h;rename_i p hx;obtain⟨ad,rfl⟩:∃ad,p=some ad:=by
   cases p with|none=>exact h.elim|some ad=>exact⟨ad,rfl⟩
  dsimp only at h;have fin:(P.info? t).isSome=true->v.cells.size=fv P t->(pV P).st ad v.cells.toList w (λw'=>K undef w')->(⟨dst,.store t x y,type,pos,after,guard⟩:Oper).wx r m P a w (λa' w'=>∃v,a'=a.put dst v/\K v w') Q:=by
   intro hi hs' h;obtain⟨w',hrun,hk⟩:=qiu (P:=P) _ 0 w _ h;refine HE rfl ?_ hk;rw[hr.ev hx,hr.ev hy];have:=uk hi w;simp[Instr.storeAt,Instr.sureAddr,storeVar,this,hs',hrun]
  split at h;cases hok:qm P t with
  | false=>simp only[hok,cond_false] at h
  | true=>
   simp only[hok,cond_true] at h;exact fin (xp (by simp[hok])).1 (oS h.1) h.2
  cases hs:qm P t&&Nat.beq (fv P t) v.cells.size with
  | false=>simp only[hs,cond_false] at h
  | true=>
   simp only[hs,cond_true] at h;simp only[yB] at hs;have hs':=yW hs.2;exact fin (xp (by simp[hs.1])).1 hs'.symm h
  exact h.elim
 case alloc t=>
  simp only[ku] at h;split at h;obtain⟨z,hz,hk⟩:=h;refine wX rfl ?_ hk;simp[Instr.alloc,AK hz,newVar,newRow];split at h;rename_i z hz;refine wX rfl ?_ h;simp[Instr.alloc,AK hz,newVar,newRow];exact h.elim
 case box t x=>
  simp only[ku] at h;split at h;rename_i v hx;refine wX rfl ?_ h;rw[hr.ev hx];simp[Instr.box,newVar,newRow];exact h.elim
 case buildSlice t len parts=>exact qof Q h hr
 case makeSlice t l c=>
  simp only[ku] at h;split at h;rename_i el ht;split at h;rename_i i k1 nn k2 mm hi hl hc;split at h;rename_i z hz;obtain⟨⟨b0,b1,b2,b3⟩,hk⟩:=h;refine wX rfl ?_ hk;rw[hr.ev hl,hr.ev hc];have e1:IntKind.i64.wrap nn=nn:=(by rw[IntWalk.i64_in];omega);have e2:IntKind.i64.wrap mm=mm:=(by rw[IntWalk.i64_in];omega);have hz':(P.info? el).bind (·.zero)=some z:=(by simp[hi,hz]);have g1:¬(mm<0):=oL;have g2:¬((i.bytes:Int)*mm>2^48):=oL;have g3:¬(nn<0):=oL;have g4:¬(nn>mm):=oL;simp only[Instr.makeSlice,LS,run_underlying ht,LU,asInt,asIntOf,Sem.run_pure,IJ hi,e1,e2];rw[iN (by simp only[Bool.or_eq_true,decide_eq_true_eq,g1,g2,g3,g4,or_self,not_false_eq_true])];simp only[LS,run_askRoom,LU,uk (HK hz')];have hsz:fv P el=i.size:=(by simp[fv,hi]);rw[hsz];by_cases h0:mm.toNat*i.size=0;rw[iP h0,iP h0];simp[newRow,jl,h0];rw[iN h0,iN h0];simp[AK hz',newRow,jl];exact h.elim;exact h.elim;exact h.elim
 case makeMap t r=>
  simp only[ku] at h;split at h;rename_i k el ht;split at h;rename_i v hv;refine wX rfl ?_ h;rcases qsr hr hv with ⟨rfl,_⟩|⟨y,k,i,rfl,rfl,hy⟩;simp[Instr.makeMap];simp[Instr.makeMap,hy,run_underlying ht,asInt,asIntOf];exact h.elim;exact h.elim
 case mapUpdate t m k x=>
  simp only[ku] at h;split at h;rename_i vm vk vx hm hk hx;obtain⟨w',hrun,hK⟩:=h;exact HE rfl (by rw[hr.ev hm,hr.ev hk,hr.ev hx];exact hrun) hK;exact h.elim
 case insert t m k x=>
  simp only[ku] at h;split at h;rename_i vm vk vx hm hk hx;obtain⟨w',hrun,hK⟩:=h;exact HE rfl (by rw[hr.ev hm,hr.ev hk,hr.ev hx];exact hrun) hK;exact h.elim
 case mapEntry t m k=>
  simp only[ku] at h;split at h;rename_i vm vk hm hk;obtain⟨x,y,w',hrun,hK⟩:=h;exact wX rfl (by rw[hr.ev hm,hr.ev hk];exact hrun) hK;exact h.elim
 case entryStore t m s x=>
  simp only[ku] at h;split at h;rename_i vm vs vx hm hs hx;obtain⟨w',hrun,hK⟩:=h;exact HE rfl (by rw[hr.ev hm,hr.ev hs,hr.ev hx];exact hrun) hK;exact h.elim
 case range t x=>
  simp only[ku] at h;split at h;rename_i v hx;obtain⟨y,w',hrun,hK⟩:=h;exact wX rfl (by rw[hr.ev hx];exact hrun) hK;exact h.elim
 case next it s=>
  simp only[ku] at h;split at h;rename_i v hx;rcases h with ⟨w',hrun,hK⟩|⟨x,y,w',hrun,hK⟩;exact wX rfl (by rw[hr.ev hx];exact hrun) hK;exact wX rfl (by rw[hr.ev hx];exact hrun) hK;exact h.elim
 case entry it=>
  simp only[ku] at h;split at h;rename_i v hx;obtain⟨x,y,w',hrun,hK⟩:=h;exact wX rfl (by rw[hr.ev hx];exact hrun) hK;exact h.elim
 case call c=>
  obtain⟨callee,args,argTypes⟩:=c;cases callee with
  | builtin b=>
   simp only[ku] at h;split at h
   ·rename_i vs hv;have hres:∀w,(resolve a.eval ⟨.builtin b,args,argTypes⟩ type).run P w=.ok { target:=.builtin b argTypes type (args.map λ| .const _=>true|_=>false),args:=vs.toArray } w:=λw=>by simp[resolve,hr.j5 hv];intro x _;cases x<;>rfl
    cases b<;>simp only at h<;>try exact h.elim
    case append=>
     obtain⟨y,w',hrun,hK⟩:=h;have hrun':(Builtin.append_ argTypes type vs.toArray).run P w=.ok (.slice y.a y.len y.cap) w':=hrun;have:(execOp a.eval ⟨dst,.call ⟨.builtin .append,args,argTypes⟩,type,pos,after,guard⟩).run P w=.ok (.value (.slice y.a y.len y.cap)) w':=by simp[execOp,hres,invoke,builtin,hrun']
     exact EO this hK
    case clear=>
     obtain⟨y,w',hrun,hK⟩:=h;have hrun':(Builtin.clear_ argTypes type vs.toArray).run P w=.ok (.tuple #[]) w':=hrun;have:(execOp a.eval ⟨dst,.call ⟨.builtin .clear,args,argTypes⟩,type,pos,after,guard⟩).run P w=.ok (.value (.tuple #[])) w':=by simp[execOp,hres,invoke,builtin,hrun']
     exact EO this hK
    case copy=>
     obtain⟨y,w',hrun,hK⟩:=h;have hrun':(Builtin.copy_ argTypes type vs.toArray).run P w=.ok (.int .i64 y) w':=hrun;have:(execOp a.eval ⟨dst,.call ⟨.builtin .copy,args,argTypes⟩,type,pos,after,guard⟩).run P w=.ok (.value (.int .i64 y)) w':=by simp[execOp,hres,invoke,builtin,hrun']
     exact EO this hK
    case delete=>
     obtain⟨y,w',hrun,hK⟩:=h;have hrun':(Builtin.delete_ argTypes type vs.toArray).run P w=.ok (.tuple #[]) w':=hrun;have:(execOp a.eval ⟨dst,.call ⟨.builtin .delete,args,argTypes⟩,type,pos,after,guard⟩).run P w=.ok (.value (.tuple #[])) w':=by simp[execOp,hres,invoke,builtin,hrun']
     exact EO this hK
   exact h.elim
  | value f=>
   have key:(∀g,f≠.func g)->∀v vs,e.ev f=some v->e.tE args.toList=some vs->(pV P).dU v vs (rX P type) w (λy w'=>K (gU _ y) w')->
     Oper.wx r m P ⟨dst,.call ⟨.value f,args,argTypes⟩,type,pos,after,guard⟩ a w (λa' w'=>∃v,a'=a.put dst v/\K v w') Q:=by
    intro hf v vs hv hvs hcall;rcases hcall with ⟨g,us,hrun,hk⟩|⟨l,g,tmps,assign,body,hrun,hk⟩;refine Ir ?_ hk;simp only[execOp,resolve,hr.j5 hvs,hr.ev hv];exact hrun;refine qtA ?_ hk;simp only[execOp,resolve,hr.j5 hvs,hr.ev hv];exact hrun
   cases f with
   | func g=>
    simp only[ku] at h;split at h;rename_i vs hv;cases hb:jJ P g with
    | true=>
     simp only[hb,cond_true] at h;obtain⟨x,w',hrun,hk⟩:=h;refine EO ?_ hk;simp only[execOp,resolve,hr.j5 hv,Act.eval,Deferred.ofValue];simpa[invoke] using hrun
    | false=>
     simp only[hb,cond_false] at h;refine Ir ?_ h;simp only[execOp,resolve,hr.j5 hv,Act.eval,Deferred.ofValue];simp[invoke,CZ hb]
    exact h.elim
   | tmp t=>
    simp only[ku] at h;split at h;rename_i v vs hv hvs;exact key oN v vs hv hvs h;exact h.elim
   | const t=>
    simp only[ku] at h;split at h;rename_i v vs hv hvs;exact key oN v vs hv hvs h;exact h.elim
   | global t=>
    simp only[ku] at h;split at h;rename_i v vs hv hvs;exact key oN v vs hv hvs h;exact h.elim
  | invoke x name=>
   simp only[ku] at h;split at h;rename_i v vs hv hvs;obtain⟨g,us,hrun,hk⟩:=h;refine Ir ?_ hk;simp only[execOp,resolve,hr.j5 hvs,hr.ev hv];simp[invoke];simpa using hrun;exact h.elim
 all_goals exact h.elim
def i4 (wr:Nat->Bool) (a a':Act):Prop:=∀t,wr t=false->a'.tmps.getD t undef=a.tmps.getD t undef
def i4.refl(wr:Nat->Bool)(a:Act):i4 wr a a:=λ_ _=>rfl
def i4.trans{wr1 wr2:Nat->Bool}{b c:Act}(h1:i4 wr1 a b)(h2:i4 wr2 b c)(h:∀t,wr t=false->wr1 t=false/\wr2 t=false):i4 wr a c:=
  λt ht=>(h2 t (h t ht).2).trans (h1 t (h t ht).1)
def i4.mono{wr1:Nat->Bool}{b:Act}(h1:i4 wr1 a b)(h:∀t,wr t=false->wr1 t=false):i4 wr a b:=λt ht=>h1 t (h t ht)
def i4.put(a:Act)(dst:Option Tmp)(v:Me)(h:∀d,dst=some d->wr d=true):i4 wr a (a.put dst v):=by
  intro t ht;cases dst with
  | none=>rfl
  | some d=>
    have hne:d≠t:=λhd=>by subst hd;rw[h d rfl] at ht;cases ht
    simp[Act.put,Array.getElem?_setIfInBounds_ne hne]
def qst(ho:o∈ops)(hd:o.dst=some d):tG ops d=true:=by unfold tG;rw[any_eq_true];exact⟨o,ho,by simp[hd]⟩
def ot (n:Nat) (ops:List Oper):Bool:=ops.all λo=>match o.dst with|some d=>Nat.blt d n|none=>true
def qpz(h:ot n ops=true)(ho:o∈ops):∀d,o.dst=some d->d<n:=by
  intro d hd;have:=all_eq_true.1 h o ho;simp only[hd] at this;exact zO this
def Rel.refine(h:Rel n ds e a)(hv:e.get d=some v):Rel n ds ((d,v)::e) a:=by refine⟨h.size,h.defers,λt u hu=>?_⟩;rw[Env.lT] at hu;by_cases hdt:d=t;subst hdt;simp at hu;subst hu;exact h.get _ _ hv;simp[hdt] at hu;exact h.get _ _ hu
def qj3{yes no:Env->Prop}(h:guarded ops o e yes no)(hr:Rel n ds e a): (∃e',Rel n ds e' a/\Region.wanted o (yielded ops.toArray a.tmps)=true/\yes e')\/ (∃e',Rel n ds e' a/\Region.wanted o (yielded ops.toArray a.tmps)=false/\no e'):=by
  unfold guarded at h;split at h;rename_i hg;exact .inl ⟨e,hr,by simp[Region.wanted,hg],h⟩;rename_i j want hg;split at h;exact h.elim;rename_i d hd;have hy:∀v,e.get d=some v->yielded ops.toArray a.tmps j=match v with | .bool b=>some b|_=>none:=by
    intro v hv;have h1:=hr.get d v hv;unfold yielded;have hd':((ops.toArray[j]?).bind (·.dst))=some d:=(oS hd);rw[hd'];simp only[Option.bind_some];cases ht:a.tmps[d]? with
    | none=>
      have:v=undef:=(by simpa[ht] using h1.symm);subst this;rfl
    | some u=>
      have:u=v:=(by simpa[ht] using h1);subst this;cases u<;>rfl
  split at h;rename_i b hb;have hyb:=hy _ hb;have hre:=hr.refine hb;cases b<;>cases want<;>simp only at h;exact .inl ⟨_,hre,by simp[Region.wanted,hg,hyb],h⟩;exact .inr ⟨_,hre,by simp[Region.wanted,hg,hyb],h⟩;exact .inr ⟨_,hre,by simp[Region.wanted,hg,hyb],h⟩;exact .inl ⟨_,hre,by simp[Region.wanted,hg,hyb],h⟩;rename_i ts hb;have hyb:=hy _ hb;exact .inr ⟨e,hr,by simp[Region.wanted,hg,hyb],h⟩;exact h.elim
def mu (ops:List Oper):Bool:=ops.all λo=>match o.op with | .defer _=>false|_=>true
def IF(h:mu ops=true)(ho:o∈ops):∀c,o.op≠.defer c:=by
  intro c hc;unfold mu at h;rw[LY] at h;have:=h o ho;rw[hc] at this;cases this
def GC{K K':Act->WP}(hk:∀a w,K a w->K' a w)(h:o.wx r m P a w K Q):o.wx r m P a w K' Q:=by
  unfold Oper.wx at h⊢;generalize (execOp a.eval o).run P w=x at h⊢;cases x with
  | ok x w'=>
    cases x<;>simp only[Oper.uponIn] at h⊢<;>first
      | exact h
      | exact hk _ _ h
      | (refine⟨h.1,CallsIn.mono h.2 ?_⟩
         intro e w'' he;cases e<;>first|exact hk _ _ he|exact he)
      | (refine⟨h.1,RowsIn.mono h.2 ?_⟩
         intro e w'' he;exact hk _ _ he)
      | (refine⟨h.1,RoundIn.mono h.2 ?_⟩
         intro e w'' he;cases e<;>first|exact hk _ _ he|exact he)
  | halt x w'=>cases x<;>simp only[Oper.uponIn] at h⊢<;>first|exact h|exact h.elim
def Im{next:Act->WP}(hr:(execOp a.eval o).run P w=.ok (.value v) w')(hn:next (a.put o.dst v) w'):o.wx r m P a w next Q:=by unfold Oper.wx;rw[hr];exact hn
def qCy(Q:Exit->Act->WP)(h:Cv (pV P) P o e w K)(hr:Rel n ds e a): o.wx r m P a w (λa' w'=>∃v,a'=a.put o.dst v/\K v w') Q:=by unfold Cv at h;split at h;obtain⟨v,hv,hk⟩:=qqe h hr;exact Im (hv w) ⟨v,rfl,hk⟩;rename_i hc;obtain⟨v,hold,hv,_,hk⟩:=qqh h hc hr;exact Im hv ⟨v,rfl,hk⟩;exact qrY Q h hr
def Jz{ops:List Oper}{K:Env->WP}{Q:Exit->Act->WP}{a0:Act}{wr:Nat->Bool}: ∀(l:List Oper) (e:Env) (a:Act) (w:Md),uh (pV P) P ops K l e w->Rel n ds e a->ot n l=true->(∀o∈l,∀d,o.dst=some d->wr d=true)->i4 wr a0 a-> (∀e' a' w',K e' w'->Rel n ds e' a'->i4 wr a0 a'->Q .normal a' w')->mu l=true->wpListIn (Wd r) m P ops.toArray Q l a w
  | [],e,a,w,h,hr,_,_,hk,hQ,_=>hQ e a w h hr hk
  | o::rest,e,a,w,h,hr,hd,hw,hk,hQ,hn=>by have hn2:mu rest=true:=(by simp only[mu,all_cons,yB] at hn⊢;exact hn.2);have hd1:=qpz hd (o:=o) oN;have hd2:ot n rest=true:=(by simp only[ot,all_cons,yB] at hd⊢;exact hd.2);have hw1:=hw o oN;have hw2:∀o∈rest,∀d,o.dst=some d->wr d=true:=λp hp=>hw p (by simp[hp]);unfold wpListIn;rcases qj3 h hr with ⟨e',hr',hwant,hy⟩|⟨e',hr',hwant,hno⟩;rw[iP hwant];refine Lu (IF hn oN) (GC ?_ (qCy Q hy hr'));rintro a' w' ⟨v,rfl,hv⟩;exact Jz rest _ _ _ hv (hr'.put hd1 v) hd2 hw2 (hk.trans (i4.put a o.dst v hw1) λt ht=>⟨ht,ht⟩) hQ hn2;rw[iN (by simp[hwant])];refine⟨λ_ _=>trivial,?_⟩;exact Jz rest _ _ _ hno (hr'.put hd1 undef) hd2 hw2 (hk.trans (i4.put a o.dst undef hw1) λt ht=>⟨ht,ht⟩) hQ hn2
def jX (P:Mg) (ops:List Oper) (i:Nat):Bool:=match ops[i]? with|some o=>(match DI P o.op with | .D3=>true|_=>false)|none=>false
def om (ops:List Oper) (y x:Nat):Bool:=
  match ops[y]?,ops[x]? with|some oy,some ox=>oy.apart ops.toArray ox|_,_=>false
def ic (b:Array Nat) (y x:Nat):Bool:=(b.getD x 0).testBit y
def vn (P:Mg) (ops:List Oper) (b:Array Nat) (y x:Nat):Bool:=ic b y x||(om ops y x&&(!jX P ops y||jX P ops x))
def vJ (P:Mg) (ops:List Oper) (b:Array Nat) (y x:Nat) (r:Mk):Bool:=!jX P ops x&&r.any λz=>!(Nat.beq z x)&&(jX P ops z&&ic b z x)
def lS (P:Mg) (ops:List Oper) (b:Array Nat):Mk->Bool
  | []=>true
  | y::r=>r.all (λx=>vn P ops b y x||(jX P ops y&&vJ P ops b y x r))&&lS P ops b r
def vW (x:Nat) (seqs:List (Mk)):List (Mk):=seqs.filterMap λs=>match s with|y::t=>bif Nat.beq y x then some t else none | []=>none
def cover (b:Array Nat):Nat->Mk->List (Mk)->Bool
  | 0,rem,seqs=>rem.isEmpty&&seqs.contains []
  | k+1,rem,seqs=>(rem.isEmpty&&seqs.contains [])||(!rem.isEmpty&&rem.all λx=>rem.any (λy=>!(Nat.beq y x)&&ic b y x)||cover b k (rem.filter λy=>!(Nat.beq y x)) (vW x seqs))
def ul:Mk->Bool
  | []=>true
  | x::r=>!(r.any λy=>Nat.beq x y)&&ul r
def pp (ops:List Oper):Bool:=ops.zipIdx.all λ(o,i)=>o.after.all λe=>!Region.binds .any e||Nat.blt e.on i
def gj (P:Mg) (ops:List Oper) (l:Mk):Mk:=l.filter (jX P ops)
def rO (ops:List Oper) (b:Array Nat):Bool:=
  ops.zipIdx.all λ(o,x)=>(List.range ops.length).all λy=>!(ic b y x)||o.after.any λe=>Region.binds .any e&&(Nat.beq e.on y||ic b y e.on)
def vi (P:Mg) (ops:List Oper) (orders:List (Mk)):Bool:=
  pp ops&&rO ops (rR ops)&&Region.noSelect ops.toArray&&
  (orders.all λC=>(List.range ops.length).all (λi=>C.any (Nat.beq i))&&C.all (Nat.blt · ops.length)&&ul C&&lS P ops (rR ops) C)&&
  cover (rR ops) ops.length (gj P ops (List.range ops.length)) (orders.map (gj P ops))
def qnM:∀ {l:Mk},ul l=true->l.Nodup
  | [],_=>nodup_nil
  | x::r,h=>by
    simp only[ul,yB,zT,any_eq_false] at h;refine nodup_cons.2 ⟨λhm=>?_,qnM h.2⟩;have:=h.1 x hm;simp at this
def lE (P:Mg) (ops:List Oper) (o:Oper) (a:Act) (w:Md) (v:Me):Prop:=
  (Region.wanted o (yielded ops.toArray a.tmps)=true/\(execOp a.eval o).run P w=.ok (.value v) w)\/(Region.wanted o (yielded ops.toArray a.tmps)=false/\v=undef)
def CI:Exit->Act->WP:=λ_ _ _=>False
def qA4{b:Act}{M:Act->WP}{x:Result Next}(h:o.uponIn (Wd r) m P b (λa' w'=>∃u,a'=b.put o.dst u/\N a' w') CI x)(hNM:∀u w',N (b.put o.dst u) w'->M (a.put o.dst u) w'): o.uponIn (Wd r) m P a (λa' w'=>∃u,a'=a.put o.dst u/\M a' w') CI x:=by
  have key:∀v w',(∃u,b.put o.dst v=b.put o.dst u/\N (b.put o.dst v) w')->∃u,a.put o.dst v=a.put o.dst u/\M (a.put o.dst v) w':=λv w' ⟨u,hu,hn⟩=>⟨v,rfl,hNM _ _ hn⟩;cases x with
  | ok x w'=>
    cases x<;>simp only[Oper.uponIn] at h⊢;case value v=>exact key _ _ h
    case skip=>exact key _ _ h
    case enter f args=>
      refine⟨h.1,CallsIn.mono h.2 ?_⟩;intro e w'' he;cases e<;>first|exact key _ _ he|exact he
    case defer d=>
      obtain⟨u,hu,_⟩:=h;exfalso;have:(Act.put { b with defers:=d::b.defers } o.dst undef).defers=(b.put o.dst u).defers:=(by rw[hu]);have h1:∀(c:Act) (x:Me),(c.put o.dst x).defers=c.defers:=λc x=>by cases o.dst<;>rfl
      rw[h1,h1] at this;simp at this
    case row rw_ args=>exact⟨h.1,RowsIn.mono h.2 λv w'' hv=>key _ _ hv⟩
    case round l f tmps assign body=>
      refine⟨h.1,RoundIn.mono h.2 ?_⟩;intro e w'' he;cases e<;>first|exact key _ _ he|exact he
  | halt x w'=>cases x<;>simp only[Oper.uponIn] at h⊢<;>exact h
def qx (r:Option Nat) (m:Nat) (P:Mg) (ops:List Oper) (b:Array Nat) (K:Act->WP):Mk->Holds->Act->WP
  | [],_,a,w=>K a w
  | i::rest,H,a,w=>
    ∃o,ops[i]?=some o/\
      if jX P ops i=true then
        (if Region.wanted o (yielded ops.toArray a.tmps)=true then
          o.wx r m P a w (λa' w'=>∃v,a'=a.put o.dst v/\(∀h∈gB b i H,h w')/\qx r m P ops b K rest H a' w') CI
        else qx r m P ops b K rest H (a.put o.dst undef) w)
      else ∃v hold,lE P ops o a w v/\(∀w',hold w'->lE P ops o a w' v)/\qx r m P ops b K rest ((i,hold)::H) (a.put o.dst v) w
def FA{ops:List Oper}{b:Array Nat}{K:Act->WP}: ∀(l:Mk) (H H':Holds) (a:Act) (w:Md),(∀p∈H',p∈H)->qx r m P ops b K l H a w->qx r m P ops b K l H' a w
  | [],_,_,_,_,_,h=>h
  | i::rest,H,H',a,w,hs,⟨o,ho,h⟩=>by refine⟨o,ho,?_⟩;by_cases he:jX P ops i=true;rw[iP he] at h⊢;by_cases hw:Region.wanted o (yielded ops.toArray a.tmps)=true;rw[iP hw] at h⊢;refine GC ?_ h;rintro a' w' ⟨v,rfl,hh,hc⟩;refine⟨v,rfl,λx hx=>hh x ?_,FA rest H H' _ _ hs hc⟩;simp only[gB,mem_map,L9] at hx⊢;obtain⟨p,⟨hp,hq⟩,rfl⟩:=hx;exact⟨p,⟨hs p hp,hq⟩,rfl⟩;rw[iN hw] at h⊢;exact FA rest H H' _ _ hs h;rw[iN he] at h⊢;obtain⟨v,hold,h1,h2,h3⟩:=h;refine⟨v,hold,h1,h2,FA rest _ _ _ _ ?_ h3⟩;intro p hp;rcases zG.1 hp with rfl|hp;simp;exact zN _ (hs p hp)
def Da{ops:List Oper}{b:Array Nat}{K:Env->WP}{Q:Exit->Act->WP}{a0:Act}{wr:Nat->Bool}(hd:ot n ops=true)(hw:∀o∈ops,∀d,o.dst=some d->wr d=true)(hQ:∀e' a' w',K e' w'->Rel n ds e' a'->i4 wr a0 a'->Q .normal a' w'): ∀(l:Mk) (H HA:Holds) (e:Env) (a:Act) (w:Md),(∀x w',(∀h∈gB b x H,h w')->∀h∈gB b x HA,h w')-> mE (pV P) P ops b K l H e w->Rel n ds e a->i4 wr a0 a->qx r m P ops b (Q .normal) l HA a w
  | [],H,HA,e,a,w,_,h,hr,hk=>hQ e a w h hr hk
  | i::rest,H,HA,e,a,w,hH,h,hr,hk=>by
    simp only[mE] at h;cases ho:ops[i]? with
    | none=>simp[ho] at h
    | some o=>
      simp only[ho] at h;have hmem:o∈ops:=yF ho;have hd1:=qpz hd hmem;have hw1:=hw o hmem;have hput:∀v,i4 wr a0 (a.put o.dst v):=λv=>hk.trans (i4.put a o.dst v hw1) λt ht=>⟨ht,ht⟩;refine⟨o,ho,?_⟩;have hE:jX P ops i=match DI P o.op with | .D3=>true|_=>false:=by simp[jX,ho]
      have hHa:∀x w',(∀h∈gB b x H,h w')->∀h∈gB b x ((i,λ_=>True)::HA),h w':=by intro x w' hh g hg;simp only[gB,mem_map,L9,zG] at hg;obtain⟨p,⟨hp,hq⟩,rfl⟩:=hg;rcases hp with rfl|hp;trivial;exact hH x w' hh _ (by simp only[gB,mem_map,L9];exact⟨p,⟨hp,hq⟩,rfl⟩)
      rcases qj3 h hr with ⟨e',hr',hwant,hy⟩|⟨e',hr',hwant,hno⟩;cases hc:DI P o.op with
      | pure=>
        simp only[hc] at hy hE;rw[iN (by simp[hE])];obtain⟨v,hv,hk'⟩:=qqe hy hr';exact⟨v,λ_=>True,.inl ⟨hwant,hv w⟩,λw' _=>.inl ⟨hwant,hv w'⟩,Da hd hw hQ rest H _ _ _ _ hHa hk' (hr'.put hd1 v) (hput v)⟩
      | read=>
        simp only[hc] at hy hE;rw[iN (by simp[hE])];obtain⟨v,hold,hv,hh,hk'⟩:=qqh hy hc hr';refine⟨v,hold,.inl ⟨hwant,hv⟩,λw' hw'=>.inl ⟨hwant,hh w' hw'⟩,Da hd hw hQ rest ((i,hold)::H) _ _ _ _ ?_ hk' (hr'.put hd1 v) (hput v)⟩;intro x w' hh' g hg;simp only[gB,mem_map,L9,zG] at hg;obtain⟨p,⟨hp,hq⟩,rfl⟩:=hg;rcases hp with rfl|hp;exact hh' _ (by simp only[gB,mem_map,L9,zG];exact⟨(i,hold),⟨.inl rfl,hq⟩,rfl⟩);refine hH x w' (λg hg=>hh' g ?_) _ (by simp only[gB,mem_map,L9];exact⟨p,⟨hp,hq⟩,rfl⟩);simp only[gB,mem_map,L9,zG] at hg⊢;obtain⟨p,⟨hp,hq⟩,rfl⟩:=hg;exact⟨p,⟨.inr hp,hq⟩,rfl⟩
      | D3=>
        simp only[hc] at hy hE;rw[iP (by simp[hE]),iP hwant];refine GC ?_ (qrY CI hy hr');rintro a' w' ⟨v,rfl,hv⟩;have hv':(∀g∈gB b i H,g w')/\mE (pV P) P ops b K rest H (e'.put o.dst v) w':=by split at hv;rename_i hl;exact⟨by simp[hl],hv⟩;rename_i l hl;exact⟨λg hg=>qnx hv.1 g hg,hv.2⟩
        exact⟨v,rfl,hH i w' hv'.1,Da hd hw hQ rest H HA _ _ _ hH hv'.2 (hr'.put hd1 v) (hput v)⟩
      by_cases he:jX P ops i=true;rw[iP he,iN (by simp[hwant])];exact Da hd hw hQ rest H HA _ _ _ hH hno (hr'.put hd1 undef) (hput undef);rw[iN he];exact⟨undef,λ_=>True,.inr ⟨hwant,rfl⟩,λ_ _=>.inr ⟨hwant,rfl⟩,Da hd hw hQ rest H _ _ _ _ hHa hno (hr'.put hd1 undef) (hput undef)⟩
def lE.put{p:Oper}(hs:Region.noSelect ops.toArray=true)(ho:o∈ops)(hap:∀d,p.dst=some d->d∉o.looksAt ops.toArray): lE P ops o (a.put p.dst u) w v↔lE P ops o a w v:=by
  have hsel:∀cs b,o.op≠.select cs b:=λcs b=>by obtain⟨j,hj,hjo⟩:=getElem_of_mem ho;exact Region.noSelect_spec hs j o cs b (by simp[<- hjo])
  unfold lE;rw[wanted_put o a p.dst u hap,execOp_put o hsel a p.dst u hap]
def qjY{ops:List Oper}{b:Array Nat}{K:Act->WP}(hs:Region.noSelect ops.toArray=true){x:Nat}{ox:Oper}(hx:ops[x]?=some ox)(hxe:jX P ops x=false): ∀(pre post:Mk) (H:Holds) (a:Act) (w:Md),(∀y∈pre,jX P ops y=false/\om ops y x=true)->qx r m P ops b K (pre++x::post) H a w-> ∃v,lE P ops ox a w v/\qx r m P ops b K (pre++post) H (a.put ox.dst v) w
  | [],post,H,a,w,_,⟨o,ho,h⟩=>by
    obtain rfl:ox=o:=by rw[hx] at ho;exact yO ho
    rw[iN (by simp[hxe])] at h;obtain⟨v,hold,h1,_,h3⟩:=h;exact⟨v,h1,FA _ _ _ _ _ (λp hp=>zN _ hp) h3⟩
  | y::pre,post,H,a,w,hp,⟨oy,hoy,h⟩=>by obtain⟨hye,hyx⟩:=hp y oN;rw[iN (by simp[hye])] at h;obtain⟨v,hold,h1,h2,h3⟩:=h;obtain⟨u,hu,hc⟩:=qjY hs hx hxe pre post _ _ w (λz hz=>hp z (by simp[hz])) h3;simp only[om,hoy,hx] at hyx;obtain⟨a1,a2,a3⟩:=Oper.apart_spec hyx;refine⟨u,(lE.put hs (yF hx) a1).1 hu,oy,hoy,?_⟩;rw[iN (by simp[hye])];refine⟨v,hold,(lE.put hs (yF hoy) a3).2 h1,λw' hw'=>(lE.put hs (yF hoy) a3).2 (h2 w' hw'),?_⟩;rw[<- Act.put_comm a v u a2];exact hc
def qhN{ops:List Oper}{b:Array Nat}{K:Act->WP}(hs:Region.noSelect ops.toArray=true){x:Nat}{ox:Oper}(hx:ops[x]?=some ox)(hxe:jX P ops x=true): ∀(pre post:Mk) (H:Holds) (a:Act) (w:Md),(∀y∈pre,jX P ops y=false/\om ops y x=true/\ic b y x=false)->qx r m P ops b K (pre++x::post) H a w-> if Region.wanted ox (yielded ops.toArray a.tmps)=true then ox.wx r m P a w (λa' w'=>∃v,a'=a.put ox.dst v/\(∀h∈gB b x H,h w')/\qx r m P ops b K (pre++post) H a' w') CI else qx r m P ops b K (pre++post) H (a.put ox.dst undef) w
  | [],post,H,a,w,_,⟨o,ho,h⟩=>by
    obtain rfl:ox=o:=by rw[hx] at ho;exact yO ho
    rw[iP hxe] at h;exact h
  | y::pre,post,H,a,w,hp,⟨oy,hoy,h⟩=>by
    obtain⟨hye,hyx,hyb⟩:=hp y oN;rw[iN (by simp[hye])] at h;obtain⟨v,hold,h1,h2,h3⟩:=h;have ih:=qhN hs hx hxe pre post _ _ w (λz hz=>hp z (by simp[hz])) h3;simp only[om,hoy,hx] at hyx;obtain⟨a1,a2,a3⟩:=Oper.apart_spec hyx;have hmx:ox∈ops:=yF hx;have hsel:∀cs c,ox.op≠.select cs c:=λcs c=>by obtain⟨j,hj,hjo⟩:=getElem_of_mem hmx;exact Region.noSelect_spec hs j ox cs c (by simp[<- hjo])
    rw[wanted_put ox a oy.dst v a1] at ih;by_cases hwt:Region.wanted ox (yielded ops.toArray a.tmps)=true;rw[iP hwt] at ih⊢;unfold Oper.wx at ih⊢;rw[execOp_put ox hsel a oy.dst v a1] at ih;have key:∀(u:Me) (w':Md),(∀h∈gB b x ((y,hold)::H),h w')->qx r m P ops b K (pre++post) ((y,hold)::H) ((a.put oy.dst v).put ox.dst u) w'->
        (∀h∈gB b x H,h w')/\qx r m P ops b K (y::pre++post) H (a.put ox.dst u) w':=by
      intro u w' hh hc;have hy:=hh hold (by simp only[gB,mem_map,L9,zG];exact⟨(y,hold),⟨.inl rfl,by simpa[ic] using hyb⟩,rfl⟩);refine⟨λg hg=>hh g ?_,oy,hoy,?_⟩;simp only[gB,mem_map,L9,zG] at hg⊢;obtain⟨p,⟨hp1,hp2⟩,rfl⟩:=hg;exact⟨p,⟨.inr hp1,hp2⟩,rfl⟩;rw[iN (by simp[hye])];refine⟨v,hold,(lE.put hs (yF hoy) a3).2 (h2 w' hy),λw2 hw2=>(lE.put hs (yF hoy) a3).2 (h2 w2 hw2),?_⟩;rw[<- Act.put_comm a v u a2];exact hc
    exact qA4
      ih (λu w' hh=>key u w' hh.1 hh.2)
    rw[iN hwt] at ih⊢;refine⟨oy,hoy,?_⟩;rw[iN (by simp[hye])];refine⟨v,hold,(lE.put hs (yF hoy) a3).2 h1,λw' hw'=>(lE.put hs (yF hoy) a3).2 (h2 w' hw'),?_⟩;rw[<- Act.put_comm a v undef a2];exact ih
def qFn(h:o.wx r m P a w N CI):o.wx r m P a w N Q:=by
  unfold Oper.wx at h⊢;generalize (execOp a.eval o).run P w=x at h⊢;cases x with
  | ok x w'=>
    cases x<;>simp only[Oper.uponIn] at h⊢<;>first
      | exact h
      | (refine⟨h.1,CallsIn.mono h.2 ?_⟩
         intro e w'' he;cases e with|returned v=>exact he|panicked c=>exact he.elim|outgrown=>obtain⟨_,_,hh⟩:=he;exact hh.elim)
      | (refine⟨h.1,RoundIn.mono h.2 ?_⟩
         intro e w'' he;cases e with|returned v=>exact he|panicked c=>exact he.elim|outgrown=>obtain⟨_,_,hh⟩:=he;exact hh.elim)
  | halt x w'=>
    cases x<;>simp only[Oper.uponIn] at h⊢<;>first|exact h|exact h.elim
def qsn{x:Nat}{l:Mk}(h:x∈l):∃pre post,l=pre++x::post/\x∉pre:=by
  induction l with
  | nil=>cases h
  | cons y l ih=>
    by_cases hy:y=x;subst hy;exact⟨[],l,rfl,oN⟩;have hx:x∈l:=by rcases zG.1 h with rfl|h;exact absurd rfl hy;exact h
    obtain⟨pre,post,e,hn⟩:=ih hx;exact⟨y::pre,post,by simp[e],by simp[hn];exact λh=>hy h.symm⟩
def qlx{ops:List Oper}{b:Array Nat}{x:Nat}:∀ {pre post:Mk},lS P ops b (pre++x::post)=true->∀y∈pre,vn P ops b y x=true\/∃z,z∈pre++x::post/\z≠x/\ic b z x=true
  | [],post,h,y,hy=>by cases hy
  | z::pre,post,h,y,hy=>by
    simp only[xI,lS,yB,LY] at h;obtain⟨h1,h2⟩:=h;rcases zG.1 hy with rfl|hy;have:=h1 x oN;rw[Bool.or_eq_true] at this;rcases this with h|h;exact .inl h;simp only[vJ,yB,any_eq_true] at h;obtain⟨_,_,q,hq,hqx,_,hb⟩:=h;refine .inr ⟨q,zN _ hq,λe=>?_,hb⟩;subst e;simp at hqx;rcases qlx h2 y hy with h|⟨q,hq,h3⟩;exact .inl h;exact .inr ⟨q,zN _ hq,h3⟩
def IR{ops:List Oper}{b:Array Nat}{x:Nat}:∀ {pre post:Mk},lS P ops b (pre++x::post)=true->(jX P ops x=true->∀y∈pre,jX P ops y=false)->lS P ops b (pre++post)=true
  | [],post,h,_=>by simp only[xH,lS,yB] at h;exact h.2
  | z::pre,post,h,he=>by
    simp only[xI,lS,yB,LY] at h;obtain⟨h1,h2⟩:=h;simp only[xI,lS,yB,LY];refine⟨λy hy=>?_,IR h2 λhx q hq=>he hx q (zN _ hq)⟩;have hy':y∈pre++x::post:=by rcases zD.1 hy with hy|hy;exact zH _ hy;exact zI _ (zN _ hy)
    have:=h1 y hy';rw[Bool.or_eq_true] at this⊢;rcases this with h|h;exact .inl h;right;simp only[vJ,yB,any_eq_true] at h⊢;obtain⟨hz,hy2,q,hq,hqy,hqe,hqb⟩:=h;refine⟨hz,hy2,q,?_,hqy,hqe,hqb⟩;rcases zD.1 hq with hq|hq;exact zH _ hq;rcases zG.1 hq with rfl|hq;have:=he hqe z oN;rw[this] at hz;cases hz;exact zI _ hq
def Fq{ops:List Oper}{b:Array Nat}{Q:Exit->Act->WP}(hs:Region.noSelect ops.toArray=true)(hnd:mu ops=true): ∀(L C:Mk) (a:Act) (w:Md),L.Nodup->C.Nodup->(∀i,i∈L↔i∈C)->lS P ops b C=true->gj P ops L=gj P ops C-> (∀pre x post,L=pre++x::post->∀y∈post,ic b y x=false)-> qx r m P ops b (Q .normal) C [] a w->wpOpsIn (Wd r) m P ops.toArray Q L a w
  | [],C,a,w,_,_,hm,_,_,_,h=>by
    have:C=[]:=eq_nil_iff_forall_not_mem.2 λi hi=>by have:=(hm i).2 hi;cases this
    subst this;exact h
  | x::L,C,a,w,hL,hC,hm,ho,he,hb,h=>by
    obtain⟨pre,post,rfl,hxp⟩:=qsn ((hm x).1 oN);have hpre:=qlx ho;have hLn:=nodup_cons.1 hL;have hCn:(pre++post).Nodup:=by rw[yM] at hC⊢;obtain⟨c1,c2,c3⟩:=hC;exact⟨c1,(nodup_cons.1 c2).2,λp hp q hq=>c3 p hp q (zN _ hq)⟩
    have hxpost:x∉post:=(by rw[yM] at hC;exact (nodup_cons.1 hC.2.1).1);have hm':∀i,i∈L↔i∈pre++post:=by
      intro i;have:=hm i;simp only[zG,zD] at this⊢;constructor;intro hi;have hix:i≠x:=λe=>hLn.1 (e▸hi);rcases this.1 (.inr hi) with h|h|h;exact .inl h;exact absurd h hix;exact .inr h;intro hi;have hix:i≠x:=λe=>by subst e;rcases hi with h|h;exact hxp h;exact hxpost h
      rcases this.2 (by rcases hi with h|h;exact .inl h;exact .inr (.inr h)) with h|h;exact absurd h hix;exact h
    have hnb:∀y∈pre,ic b y x=false:=λy hy=>hb [] x L rfl y ((hm' y).2 (zH _ hy));have hb':∀p z q,L=p++z::q->∀y∈q,ic b y z=false:=λp z q hq=>hb (x::p) z q (by simp[hq]);have hap:∀y∈pre,om ops y x=true/\(jX P ops y=false\/jX P ops x=true):=by
      intro y hy;rcases hpre y hy with this|⟨z,hz,hzx,hzb⟩;simp only[vn,hnb y hy,Bool.false_or,yB,Bool.or_eq_true,zT] at this;exact this;exfalso;have hzL:z∈L:=by rcases zG.1 ((hm z).2 hz) with h|h;exact absurd h hzx;exact h
      have:=hb [] x L rfl z hzL;rw[this] at hzb;cases hzb
    cases hox:ops[x]? with
    | none=>
      exfalso;cases pre with
      | nil=>obtain⟨o,ho2,_⟩:=h;rw[hox] at ho2;cases ho2
      | cons y pre=>
        have:=(hap y oN).1;simp only[om,hox] at this;split at this<;>simp_all
    | some ox=>
      have hox':ops.toArray[x]?=some ox:=(oS hox);simp only[wpOpsIn,hox'];cases hxe:jX P ops x with
      | false=>
        have ho':=IR ho (λh=>by rw[hxe] at h;cases h);have hpn:∀y∈pre,jX P ops y=false/\om ops y x=true:=λy hy=>by refine⟨?_,(hap y hy).1⟩;rcases (hap y hy).2 with h|h;exact h;rw[hxe] at h;cases h
        obtain⟨v,hv,hc⟩:=qjY hs hox hxe pre post [] a w hpn h;have he':gj P ops L=gj P ops (pre++post):=by simp only[gj,filter_cons,hxe,filter_append] at he⊢;simpa using he
        rcases hv with ⟨hw,hrun⟩|⟨hw,rfl⟩;rw[iP hw];exact Lu (IF hnd (yF hox)) (Im hrun (Fq hs hnd L _ _ _ hLn.2 hCn hm' ho' he' hb' hc));rw[iN (by simp[hw])];refine⟨λ_ _=>trivial,?_⟩;exact Fq hs hnd L _ _ _ hLn.2 hCn hm' ho' he' hb' hc
      | true=>
        have hpe:∀y∈pre,jX P ops y=false:=by
          have h1:gj P ops (x::L)=x::gj P ops L:=(by simp[gj,hxe]);have h2:gj P ops (pre++x::post)=gj P ops pre++x::gj P ops post:=(by simp[gj,hxe]);rw[h1,h2] at he;have:gj P ops pre=[]:=by
            cases hq:gj P ops pre with
            | nil=>rfl
            | cons z zs=>
              rw[hq] at he;simp at he;have hz:z∈gj P ops pre:=by rw[hq];simp
              have:=(mem_filter.1 hz).1;exact absurd (he.1▸this) hxp
          intro y hy;cases hye:jX P ops y with
          | false=>rfl
          | true=>
            have:y∈gj P ops pre:=mem_filter.2 ⟨hy,hye⟩;rw[‹gj P ops pre=[]›] at this;cases this
        have ho':=IR ho λ_=>hpe;have he':gj P ops L=gj P ops (pre++post):=by
          have h0:gj P ops pre=[]:=filter_eq_nil_iff.2 λy hy=>by simp[hpe y hy]
          have h1:gj P ops (x::L)=x::gj P ops L:=(by simp[gj,hxe]);have h2:gj P ops (pre++x::post)=gj P ops pre++x::gj P ops post:=(by simp[gj,hxe]);have h3:gj P ops (pre++post)=gj P ops pre++gj P ops post:=(by simp[gj]);rw[h1,h2,h0] at he;rw[h3,h0];simpa using he
        have hc:=qhN hs hox hxe pre post [] a w (λy hy=>⟨hpe y hy,(hap y hy).1,hnb y hy⟩) h;by_cases hw:Region.wanted ox (yielded ops.toArray a.tmps)=true;rw[iP hw] at hc⊢;refine Lu (IF hnd (yF hox)) ?_;have:ox.wx r m P a w (wpOpsIn (Wd r) m P ops.toArray Q L) CI:=by refine GC ?_ hc;rintro a' w' ⟨v,rfl,_,hc'⟩;exact Fq hs hnd L _ _ _ hLn.2 hCn hm' ho' he' hb' hc'
        exact qFn this;rw[iN hw] at hc⊢;refine⟨λ_ _=>trivial,?_⟩;exact Fq hs hnd L _ _ _ hLn.2 hCn hm' ho' he' hb' hc
def qjV(h:pp ops=true){i:Nat}(ho:ops[i]?=some o){x:Edge}(hx:x∈o.after)(hb:Region.binds .any x=true):x.on<i:=by
 unfold pp at h;rw[LY] at h;have hm:(o,i)∈ops.zipIdx:=by rw[mem_zipIdx_iff_getElem?];simpa using ho
 have:=h (o,i) hm;simp only[Array.all_eq_true'] at this;have:=this x hx;simp only[hb,Bool.not_true,Bool.false_or] at this;exact zO this
def qu2{b:Array Nat}(h:rO ops b=true){x y:Nat}(ho:ops[x]?=some o)(hy:y<ops.length)(hb:ic b y x=true): ∃e∈o.after,Region.binds .any e=true/\(e.on=y\/ic b y e.on=true):=by
 unfold rO at h;rw[LY] at h;have hm:(o,x)∈ops.zipIdx:=by rw[mem_zipIdx_iff_getElem?];simpa using ho
 have:=h (o,x) hm;rw[LY] at this;have:=this y (oS hy);simp only[hb,Bool.not_true,Bool.false_or,Array.any_eq_true',yB,Bool.or_eq_true] at this;obtain⟨e,he,h1,h2⟩:=this;exact⟨e,he,h1,h2.imp yW id⟩
def Cx (ops:List Oper) (listed:Nat->Prop) (L:Mk):Prop:=
 ∀pre x post,L=pre++x::post->∀o,ops[x]?=some o->∀e∈o.after,Region.binds .any e=true->listed e.on\/e.on∈pre
def qnY{ops:List Oper}{b:Array Nat}{L:Mk}(hB:pp ops=true)(hp:rO ops b=true)(hT:Cx ops (λ_=>False) L)(hL:∀i∈L,i<ops.length)(y:Nat)(hy:y<ops.length): ∀(k x:Nat),x<k->∀pre post,L=pre++x::post->ic b y x=true->y∈pre
 | 0,x,hx,_,_,_,_=>by omega
 | k+1,x,hx,pre,post,hL',hb=>by
  have hxl:=hL x (by simp[hL']);obtain⟨o,ho⟩:∃o,ops[x]?=some o:=⟨ops[x],by simp[hxl]⟩;obtain⟨e,he,hbi,h⟩:=qu2 hp ho hy hb;have hin:=(hT pre x post hL' o ho e he hbi).resolve_left λh=>h;rcases h with rfl|h;exact hin;obtain⟨p1,p2,rfl,_⟩:=qsn hin;have hlt:=qjV hB ho he hbi;have:=qnY hB hp hT hL y hy k e.on oL p1 (p2++x::post) (by simp[hL']) h;exact zH _ this
def qsF{ops:Array Oper}{i:Nat}:i∈Region.ready .any ops listed↔listed.getD i true=false/\∃o,ops[i]?=some o/\∀e∈o.after,Region.binds .any e=true->listed.getD e.on false=true:=by
 simp only[Region.ready,L9,mem_range,yB,zT];constructor;rintro⟨hi,h1,h2⟩;refine⟨h1,ops[i],by simp[hi],?_⟩;simp only[Array.getElem?_eq_getElem hi,Option.map_some,xT,Array.all_eq_true',Bool.or_eq_true,zT] at h2;intro e he hb;rcases h2 e he with h|h;rw[hb] at h;cases h;exact h;rintro⟨h1,o,ho,h2⟩;have hi:i<ops.size:=by rcases Nat.lt_or_ge i ops.size with h|h;exact h;simp[Array.getElem?_eq_none h] at ho
 refine⟨hi,h1,?_⟩;simp only[ho,Option.map_some,xT,Array.all_eq_true',Bool.or_eq_true,zT];intro e he;cases hb:Region.binds .any e with|false=>exact .inl rfl|true=>exact .inr (h2 e he hb)
def vw (listed:Array Bool) (k:Nat):Nat:=((List.range k).filter λi=>!listed.getD i true).length
def qEw{i:Nat}(hi:listed.getD i true=false):∀k,i<k->vw (listed.setIfInBounds i true) k+1=vw listed k:=by
 intro k;have hlt:i<listed.size:=by rcases Nat.lt_or_ge i listed.size with h|h;exact h;simp[Array.getElem?_eq_none h] at hi
 have heq:∀j,(listed.setIfInBounds i true).getD j true=if j=i then true else listed.getD j true:=by intro j;by_cases hj:j=i;subst hj;simp[hlt];rw[iN hj,getD_set_ne true λh=>hj h.symm]
 induction k with
 | zero=>intro h;omega
 | succ k ih=>
  intro hk;unfold vw at ih⊢;rw[range_succ,filter_append,filter_append,zF,zF];by_cases hki:k=i;subst hki;have h1:∀j∈List.range k,(!(listed.setIfInBounds k true).getD j true) = !listed.getD j true:=λj hj=>by rw[heq j,iN (by have:=mem_range.1 hj;omega)]
  rw[filter_congr h1];simp only[filter_cons,filter_nil,heq k,if_true,hi];simp;simp only[filter_cons,filter_nil,heq k,iN hki];omega
def qEv{k:Nat}(h:0<vw listed k):∃i,i<k/\listed.getD i true=false/\∀j,j<i->listed.getD j true=true:=by
 induction k with
 | zero=>simp[vw] at h
 | succ k ih=>
  by_cases hk:0<vw listed k;obtain⟨i,h1,h2⟩:=ih hk;exact⟨i,oL,h2⟩;have h0:vw listed k=0:=oL;have hall:∀j,j<k->listed.getD j true=true:=by
   intro j hj;unfold vw at h0;have:=LX h0;have:=filter_eq_nil_iff.1 this j (mem_range.2 hj);simpa using this
  refine⟨k,oL,?_,hall⟩;unfold vw at h h0;rw[range_succ,filter_append,zF] at h;rw[h0] at h;simp only[filter_cons,filter_nil,xQ] at h;cases hk:listed.getD k true with|false=>rfl|true=>rw[hk] at h;simp at h
def qCl(hB:pp ops=true):∀(fuel t:Nat) (listed:Array Bool),listed.size=ops.length->vw listed ops.length<=fuel-> ∃L,Region.linearise.go .any ops.toArray fuel t listed []=L/\L.Nodup/\(∀i,i∈L↔i<ops.length/\listed.getD i true=false)/\Cx ops (λj=>listed.getD j false=true) L:=by
 intro fuel;induction fuel with
 | zero=>
  intro t listed hs hu;refine⟨[],by simp[Region.linearise.go],nodup_nil,λi=>⟨λh=>(by cases h),λ⟨h1,h2⟩=>?_⟩,?_⟩;exfalso;have:i∈(List.range ops.length).filter λi=>!listed.getD i true:=mem_filter.2 ⟨mem_range.2 h1,by simp[h2]⟩;have h0:((List.range ops.length).filter λi=>!listed.getD i true)=[]:=LX (by unfold vw at hu;omega);rw[h0] at this;cases this;intro pre x post h;simp at h
 | succ fuel ih=>
  intro t listed hs hu;simp only[Region.linearise.go];have hrs:((List.range ops.toArray.size).filter λi=>!listed.getD i true&&((ops.toArray[i]?).map (·.after.all λe=>!Region.binds .any e||listed.getD e.on false)).getD false)=Region.ready .any ops.toArray listed:=rfl;rw[hrs];by_cases hr:Region.ready .any ops.toArray listed=[];have hnone:∀i,i<ops.length->listed.getD i true=true:=by
   intro i hi;cases hli:listed.getD i true with
   | true=>rfl
   | false=>
    exfalso;have hpos:0<vw listed ops.length:=by unfold vw;exact length_pos_of_mem (mem_filter.2 ⟨mem_range.2 hi,by simp[hli]⟩)
    obtain⟨j,hj,hj0,hjall⟩:=qEv hpos;have:j∈Region.ready .any ops.toArray listed:=by
     rw[qsF];refine⟨hj0,ops[j],by simp[hj],λe he hb=>?_⟩;have hlt:=qjV hB (show ops[j]?=some ops[j] by simp[hj]) he hb;have:=hjall e.on hlt;have hlt2:e.on<listed.size:=oL;simp only[Array.getD_eq_getD_getElem?,Array.getElem?_eq_getElem hlt2,xT] at this⊢;exact this
    rw[hr] at this;cases this
  refine⟨[],by simp[hr],nodup_nil,λi=>⟨λh=>(by cases h),λ⟨h1,h2⟩=>?_⟩,?_⟩;rw[hnone i h1] at h2;cases h2;intro pre x post h;simp at h;have hlen:=length_pos_iff.2 hr;have hmod:t%(Region.ready .any ops.toArray listed).length<(Region.ready .any ops.toArray listed).length:=Nat.mod_lt _ hlen;rw[zA hmod];simp only;generalize hi:(Region.ready .any ops.toArray listed)[t%(Region.ready .any ops.toArray listed).length]=i;have hmem:i∈Region.ready .any ops.toArray listed:=(by rw[<- hi];exact zW _);obtain⟨h1,o,ho,h2⟩:=qsF.1 hmem;have hilt:i<ops.length:=by rcases Nat.lt_or_ge i ops.length with h|h;exact h;simp[yS h] at ho
  rw[linearise_go_acc];have hu':=qEw h1 ops.length hilt;obtain⟨L,hL,hnd,hm,hT⟩:=ih (t / (Region.ready .any ops.toArray listed).length) (listed.setIfInBounds i true) (oS hs) oL;have heq:∀j,(listed.setIfInBounds i true).getD j true=if j=i then true else listed.getD j true:=by intro j;by_cases hj:j=i;subst hj;have:j<listed.size:=oL;simp[this];rw[iN hj,getD_set_ne true λh=>hj h.symm]
  refine⟨i::L,by rw[hL];simp,nodup_cons.2 ⟨λhin=>?_,hnd⟩,λj=>?_,?_⟩;have:=((hm i).1 hin).2;rw[heq i,iP rfl] at this;cases this;rw[zG,hm j,heq j];constructor;rintro (rfl|⟨hj1,hj2⟩);exact⟨hilt,h1⟩;by_cases hji:j=i;rw[iP hji] at hj2;cases hj2;rw[iN hji] at hj2;exact⟨hj1,hj2⟩;rintro⟨hj1,hj2⟩;by_cases hji:j=i;exact .inl hji;exact .inr ⟨hj1,by rw[iN hji];exact hj2⟩;intro pre x post hsplit ox hox e he hb;cases pre with
  | nil=>
   obtain⟨rfl,rfl⟩:=hsplit;have:o=ox:=by have ho':ops[i]?=some o:=(oS ho);rw[ho'] at hox;exact yO hox
   subst this;exact .inl (h2 e he hb)
  | cons z pre=>
   obtain⟨rfl,rfl⟩:=hsplit;rcases hT pre x post rfl ox hox e he hb with h|h;by_cases hei:e.on=i;exact .inr (by simp[hei]);rw[getD_set_ne false λh=>hei h.symm] at h;exact .inl h;exact .inr (zN _ h)
def qpu{b:Array Nat}:∀(k:Nat) (rem:Mk) (seqs:List (Mk)) (σ:Mk),cover b k rem seqs=true->σ.Nodup->(∀i,i∈σ↔i∈rem)-> (∀pre x post,σ=pre++x::post->∀y∈post,ic b y x=false)->σ∈seqs
 | 0,rem,seqs,σ,h,_,hm,_=>by
  simp only[cover,yB,isEmpty_iff] at h;obtain⟨rfl,h2⟩:=h;have:σ=[]:=eq_nil_iff_forall_not_mem.2 λi hi=>by have:=(hm i).1 hi;cases this
  subst this;simpa using h2
 | k+1,rem,seqs,σ,h,hn,hm,hb=>by
  simp only[cover,Bool.or_eq_true,yB,isEmpty_iff,zT] at h;rcases h with ⟨rfl,h2⟩|⟨h1,h2⟩;have:σ=[]:=eq_nil_iff_forall_not_mem.2 λi hi=>by have:=(hm i).1 hi;cases this
  subst this;simpa using h2;cases σ with
  | nil=>
   exfalso;cases rem with
   | nil=>simp at h1
   | cons r rs=>have:=(hm r).2 oN;cases this
  | cons x σ=>
   have hx:x∈rem:=(hm x).1 oN;rw[LY] at h2;have h3:=h2 x hx;have hno:(rem.any λy=>!(Nat.beq y x)&&ic b y x)=false:=by
    rw[any_eq_false];intro y hy;simp only[yB,zT,not_and];intro hyx;have hyne:y≠x:=λe=>by subst e;simp at hyx
    have hyσ:y∈σ:=by rcases zG.1 ((hm y).2 hy) with h|h;exact absurd h hyne;exact h
    simp[hb [] x σ rfl y hyσ]
   rw[hno,Bool.false_or] at h3;have hxn:=nodup_cons.1 hn;have hm':∀i,i∈σ↔i∈rem.filter λy=>!(Nat.beq y x):=by
    intro i;rw[L9];constructor;intro hi;refine⟨(hm i).1 (by simp[hi]),?_⟩;have:i≠x:=λe=>hxn.1 (e▸hi);cases hq:Nat.beq i x with|false=>rfl|true=>exact absurd (yW hq) this
    rintro⟨h5,h6⟩;rcases zG.1 ((hm i).2 h5) with rfl|h;simp at h6;exact h
   have:=qpu k _ _ σ h3 hxn.2 hm' (λpre z post hs=>hb (x::pre) z post (by simp[hs]));unfold vW at this;rw[mem_filterMap] at this;obtain⟨s,hs,hsσ⟩:=this;cases s with
   | nil=>cases hsσ
   | cons y t=>
    simp only at hsσ;cases hyx:Nat.beq y x with
    | true=>
     rw[hyx] at hsσ;simp only[cond_true,Option.some.injEq] at hsσ;have:=yW hyx;subst this;subst hsσ;exact hs
    | false=>rw[hyx] at hsσ;simp at hsσ
def qnT{ops:List Oper}{b:Array Nat}{K:Env->WP}:∀ {orders:List (Mk)} {e:Env} {w:Md},rQ (pV P) P ops b K orders e w->∀C∈orders,mE (pV P) P ops b K C [] e w
 | [],_,_,_,_,h=>by cases h
 | [o],_,_,h,C,hC=>by simp at hC;subst hC;exact h
 | o::p::r,_,_,h,C,hC=>by rcases zG.1 hC with rfl|hC;exact h.1;exact qnT (orders:=p::r) h.2 C hC
def qxV{id:Nat}{orders:List (Mk)}{K:Env->WP}(hm:P.follows .mixedOrders=true)(hok:vi P ops orders=true)(hnd:mu ops=true)(hd:ot n ops=true)(hw:∀o∈ops,∀d,o.dst=some d->wr d=true)(h:rQ (pV P) P ops (rR ops) K orders e w.drew)(hr:Rel n ds e a)(hQ:∀e' a' w',K e' w'->Rel n ds e' a'->i4 wr a a'->Q .normal a' w'): (Code.region id ops.toArray true).wpIn (Wd r) m P Q a w:=by
 refine wpIn_region_draw λt=>?_;simp only[Region.schedule,hm,Bool.true_or,if_true,Region.linearise];simp only[vi,yB,LY] at hok;obtain⟨⟨⟨⟨hB,hp⟩,hns⟩,hall⟩,hcov⟩:=hok;have hun:vw (Array.replicate ops.toArray.size false) ops.length<=ops.toArray.size:=by unfold vw;refine zL (length_filter_le _ _) ?_;simp
 obtain⟨L,hL,hnd',hmem,hT⟩:=qCl hB ops.toArray.size t (Array.replicate ops.toArray.size false) oN hun;rw[hL];have hmem':∀i,i∈L↔i<ops.length:=by intro i;rw[hmem i];constructor;exact λh=>h.1;intro hi;exact⟨hi,by simp[hi]⟩
 have hT':Cx ops (λ_=>False) L:=λpre x post hs o ho e he hb=>by rcases hT pre x post hs o ho e he hb with h|h;exfalso;simp only[Array.getD_eq_getD_getElem?,Array.getElem?_replicate] at h;split at h<;>simp at h;exact .inr h
 have hbef:∀pre x post,L=pre++x::post->∀y∈post,ic (rR ops) y x=false:=by
  intro pre x post hs y hy;cases hb:ic (rR ops) y x with
  | false=>rfl
  | true=>
   exfalso;have hyl:=(hmem' y).1 (by simp[hs,hy]);have:=qnY hB hp hT' (λi hi=>(hmem' i).1 hi) y hyl (x+1) x oL pre post hs hb;rw[hs] at hnd';rw[yM] at hnd';exact hnd'.2.2 y this y (zN _ hy) rfl
 have hσ:gj P ops L∈orders.map (gj P ops):=by
  refine qpu _ _ _ _ hcov (hnd'.filter _) (λi=>?_) ?_;simp only[gj,L9,mem_range,hmem'];intro pre x post hs y hy;have hlift:∀(l:Mk) (f:Nat->Bool) (pre:Mk) (x:Nat) (post:Mk),l.filter f=pre++x::post->∃p q,l=p++x::q/\∀y∈post,y∈q:=by
   intro l f;induction l with
   | nil=>intro pre x post h;simp at h
   | cons z l ih=>
    intro pre x post h;by_cases hz:f z=true;rw[filter_cons_of_pos hz] at h;cases pre with
    | nil=>
     simp only[xH,List.cons.injEq] at h;obtain⟨rfl,h⟩:=h;exact⟨[],l,rfl,λy hy=>(mem_filter.1 (h▸hy)).1⟩
    | cons p pre=>
     simp only[xI,List.cons.injEq] at h;obtain⟨rfl,h⟩:=h;obtain⟨p',q,hq,hh⟩:=ih pre x post h;exact⟨z::p',q,by simp[hq],hh⟩
    rw[filter_cons_of_neg hz] at h;obtain⟨p',q,hq,hh⟩:=ih pre x post h;exact⟨z::p',q,by simp[hq],hh⟩
  obtain⟨p,q,hpq,hh⟩:=hlift L _ pre x post hs;exact hbef p x q hpq y (hh y hy)
 obtain⟨C,hC,hCe⟩:=mem_map.1 hσ;have hCa:=hall C hC;obtain⟨⟨⟨c1,c2⟩,c3⟩,c4⟩:=hCa;have c3':=qnM c3;have hCm:∀i,i∈C↔i<ops.length:=by intro i;constructor;intro hi;exact zO (c2 i hi);intro hi;obtain⟨j,hj,hij⟩:=any_eq_true.1 (c1 i (mem_range.2 hi));exact (yW hij)▸hj
 have hrun:=qnT h C hC;have hcan:=Da (r:=r) (m:=m) hd hw hQ C [] [] e a w.drew (λx w' h=>h) hrun hr (i4.refl _ _);exact Fq hns hnd L C a w.drew hnd' c3' (λi=>by rw[hmem' i,hCm i]) c4 hCe.symm hbef hcan
def pf (r:Option Nat) (m:Nat) (P:Mg) (c:Code) (Q:Exit->Act->WP) (a:Act) (w:Md):Prop:=
 ∀(b:Frame) (k:List Item) (cs:List Frame),b.roundOf=r->∃e a' w',Q e a' w'/\ArrivesIn (Machine.fenced P (Wd r)) P (lone (b.atR a (.code c::.inLoop c::k)) cs w) b k cs e a' w'
def pf.loop{c:Code}(h:pf r m P c Q a w):(Code.loop c).wpIn (Wd r) m P Q a w:=
 λb k cs hro hb hr=>let ⟨e,a',w',q,x⟩:=h b k cs hro;⟨e,a',w',q,.of_steps (.one (fenced_calm hb hr rfl) stepR_loop) x⟩
def pf.Cg{c:Code}(h:c.wpIn (Wd r) m P (Exit.then (λa w=>pf r m P c Q a w) Q) a w):pf r m P c Q a w:=by
 intro b k cs hro;have hroom:(Wd r).room (cs.length+1+m):=λ_ hd=>by cases hd
 obtain⟨e,a₁,w₁,hq,harr⟩:=h b (.inLoop c::k) cs hro trivial hroom;cases e with
 | normal=>
  obtain⟨e₂,a₂,w₂,hq₂,harr₂⟩:=hq b k cs hro;exact⟨e₂,a₂,w₂,hq₂,.of_steps (StepsIn.trans harr (.one (fenced_calm trivial hroom rfl) stepR_inLoop)) harr₂⟩
 | exit id=>exact⟨_,a₁,w₁,hq,.pass rfl (λ_ _=>.inl oN) harr⟩
 | goto l=>exact⟨_,a₁,w₁,hq,.pass rfl (λ_ _=>.inl oN) harr⟩
 | ret=>exact⟨_,a₁,w₁,hq,.pass rfl (λ_ _=>.inl oN) harr⟩
 | panic ch=>exact⟨_,a₁,w₁,hq,.pass rfl (λ_ _=>.inl oN) harr⟩
 | outgrown=>exact⟨_,a₁,w₁,hq,.pass rfl (λ_ _=>.inl oN) harr⟩
def PC.fits (P:Mg) (n:Nat):PC->Bool
 | .skip=>true
 | .region _ ops=>ot n ops&&mu ops
 | .draw _ ops orders=>ot n ops&&vi P ops orders&&P.follows .mixedOrders&&mu ops
 | .seq a b=>a.fits P n&&b.fits P n
 | .join _ a b=>a.fits P n&&b.fits P n
 | .cond _ a b=>a.fits P n&&b.fits P n
 | .block _ b=>b.fits P n
 | .loop _ b=>b.fits P n
 | .exit _=>true
 | .ret=>true
 | .mn _ ps pts x y=>Nat.beq ps.length pts.length&&ps.all (Nat.blt · n)&&x.fits P n&&y.fits P n
 | .other _=>true
def jY.to:jY->Exit
 | .normal=>.normal
 | .exit id=>.exit id
 | .ret=>.ret
def qpJ:∀(e1 e2:Env) (t:Nat),(e1++e2:Env).get t=match e1.get t with|some v=>some v|none=>e2.get t
 | [],e2,t=>rfl
 | (k,v)::r,e2,t=>by show Env.get ((k,v)::(r++e2)) t=_;rw[Env.lT,Env.lT];by_cases h:k=t;simp[h];simp[h,qpJ r e2 t]
def Jf:∀(e:Env) (wr:Nat->Bool) (t:Nat),(e.ma wr).get t=if wr t=true then none else e.get t
 | [],wr,t=>by simp[Env.ma,Env.get]
 | (k,v)::r,wr,t=>by
  simp only[Env.ma];cases hk:wr k with
  | true=>
   simp only[cond_true];rw[Jf r wr t,Env.lT];by_cases h:k=t;subst h;simp[hk];simp[h]
  | false=>
   simp only[cond_false];rw[Env.lT,Env.lT,Jf r wr t];by_cases h:k=t;subst h;simp[hk];simp[h]
def qt3:∀ {live:Live} {e:Env} {s:wN live},rf live e=some s->∀t v,(uf live s).get t=some v->e.get t=some v
 | [],_,_,_,t,v,h=>by simp[uf,Env.get] at h
 | [(k,y)],e,s,hp,t,v,h=>by simp only[rf] at hp;split at hp;rename_i u hu;simp only[uf] at h;rw[Env.lT] at h;by_cases hk:k=t;subst hk;simp only[if_true,Option.some.injEq] at h;rw[<- h,hu,jV.od hp];simp[hk,Env.get] at h;cases hp
 | (k,y)::p::r,e,s,hp,t,v,h=>by simp only[rf] at hp;split at hp;rename_i u hu;split at hp;rename_i x hx;split at hp;rename_i z hz;cases hp;simp only[uf] at h;rw[Env.lT] at h;by_cases hk:k=t;subst hk;simp only[if_true,Option.some.injEq] at h;rw[<- h,hu,jV.od hx];simp only[hk,if_false] at h;exact qt3 (live:=p::r) hz t v h;cases hp;cases hp;cases hp
def IY{live:Live}{e0 e':Env}{a0 a':Act}{s:wN live}(h0:Rel n ds e0 a0)(h':Rel n ds e' a')(hk:i4 wr a0 a')(hp:rf live e'=some s): Rel n ds (uf live s++e0.ma wr) a':=by refine⟨h'.size,h'.defers,λt v hv=>?_⟩;rw[qpJ] at hv;split at hv;rename_i u hu;cases hv;exact h'.get t v (qt3 hp t v hu);rw[Jf] at hv;by_cases hw:wr t=true;simp[hw] at hv;rw[iN hw] at hv;rw[hk t (oS hw)];exact h0.get t v hv
def tY:∀(c:PC) (Q:qt) (e:Env) (a:Act) (w:Md) (Q':Exit->Act->WP),c.fits P n=true->c.pt (pV P) P Q e w->Rel n ds e a-> (∀x e' a' w',Q x e' w'->Rel n ds e' a'->i4 c.wr a a'->Q' x.to a' w')->c.erase.wpIn (Wd r) m P Q' a w
 | .skip,Q,e,a,w,Q',_,h,hr,hQ=>wpIn_skip (hQ .normal e a w h hr (i4.refl _ _))
 | .region id ops,Q,e,a,w,Q',hf,h,hr,hQ=>by simp only[PC.fits,yB] at hf;exact wpIn_region_list<|Jz (wr:=tG ops) ops e a w h hr hf.1 (λo ho d hd=>qst ho hd) (i4.refl _ _) (λe' a' w' hk hr' hkeep=>hQ .normal e' a' w' hk hr' hkeep) hf.2
 | .draw id ops orders,Q,e,a,w,Q',hf,h,hr,hQ=>by simp only[PC.fits,yB] at hf;exact qxV (wr:=tG ops) hf.1.2 hf.1.1.2 hf.2 hf.1.1.1 (λo ho d hd=>qst ho hd) h hr (λe' a' w' hk hr' hkeep=>hQ .normal e' a' w' hk hr' hkeep)
 | .seq x y,Q,e,a,w,Q',hf,h,hr,hQ=>by
  simp only[PC.fits,yB] at hf;refine wpIn_seq (tY x _ e a w _ hf.1 h hr ?_);intro z e1 a1 w1 hz hr1 hk1;cases z with
  | normal=>
   refine tY y Q e1 a1 w1 Q' hf.2 hz hr1 λz e2 a2 w2 hz2 hr2 hk2=>hQ z e2 a2 w2 hz2 hr2 ?_;exact hk1.trans hk2 (λt ht=>by simpa[PC.wr] using ht)
  | exit id=>exact hQ (.exit id) e1 a1 w1 hz hr1 (hk1.mono (λt ht=>by simp[PC.wr] at ht;exact ht.1))
  | ret=>exact hQ .ret e1 a1 w1 hz hr1 (hk1.mono (λt ht=>by simp[PC.wr] at ht;exact ht.1))
 | .join live x y,Q,e,a,w,Q',hf,h,hr,hQ=>by
  simp only[PC.fits,yB] at hf;obtain⟨Mid,hX,hY⟩:=h;refine wpIn_seq (tY x _ e a w _ hf.1 hX hr ?_);intro z e1 a1 w1 hz hr1 hk1;cases z with
  | normal=>
   simp only[qt.j4] at hz;split at hz;rename_i s hs;refine tY y Q _ a1 w1 Q' hf.2 (hY s w1 hz) (IY hr hr1 hk1 hs) λz e2 a2 w2 hz2 hr2 hk2=>hQ z e2 a2 w2 hz2 hr2 ?_;exact hk1.trans hk2 (λt ht=>by simpa[PC.wr] using ht);exact hz.elim
  | exit id=>exact hQ (.exit id) e1 a1 w1 hz hr1 (hk1.mono (λt ht=>by simp[PC.wr] at ht;exact ht.1))
  | ret=>exact hQ .ret e1 a1 w1 hz hr1 (hk1.mono (λt ht=>by simp[PC.wr] at ht;exact ht.1))
 | .cond c x y,Q,e,a,w,Q',hf,h,hr,hQ=>by
  simp only[PC.fits,yB] at hf;simp only[PC.pt] at h;split at h;rename_i b hb;cases b with|true=>exact wpIn_cond_true (hr.ev hb) (tY x Q e a w Q' hf.1 h hr (λz e1 a1 w1 hz hr1 hk1=>hQ z e1 a1 w1 hz hr1 (hk1.mono (λt ht=>by simp[PC.wr] at ht;exact ht.1))))|false=>exact wpIn_cond_false (hr.ev hb) (tY y Q e a w Q' hf.2 h hr (λz e1 a1 w1 hz hr1 hk1=>hQ z e1 a1 w1 hz hr1 (hk1.mono (λt ht=>by simp[PC.wr] at ht;exact ht.2))))
  exact h.elim
 | .block id body,Q,e,a,w,Q',hf,h,hr,hQ=>by
  refine wpIn_block (tY body _ e a w _ hf h hr ?_);intro z e1 a1 w1 hz hr1 hk1;cases z with
  | normal=>exact hQ .normal e1 a1 w1 hz hr1 hk1
  | exit j=>
   simp only at hz;simp only[jY.to,Exit.inBlock];cases hj:Nat.beq j id with
   | true=>
    rw[hj] at hz;rw[iP (yW hj)];exact hQ .normal e1 a1 w1 hz hr1 hk1
   | false=>
    rw[hj] at hz;rw[iN (λhq=>by subst hq;simp at hj)];exact hQ (.exit j) e1 a1 w1 hz hr1 hk1
  | ret=>exact hQ .ret e1 a1 w1 hz hr1 hk1
 | .loop live body,Q,e,a,w,Q',hf,h,hr,hQ=>by
  simp only[PC.pt] at h;split at h;rename_i s0 hs0;have key:=h (λs w1=>∀a1,Rel n ds (uf live s++e.ma λt=>body.wr t) a1->i4 body.wr a a1->pf r m P body.erase Q' a1 w1) ?_;exact pf.loop (key a (IY hr hr (i4.refl _ _) hs0) (i4.refl _ _));intro s w1 hB a1 hr1 hk1;refine pf.Cg (tY body _ _ a1 w1 _ hf hB hr1 ?_);intro z e2 a2 w2 hz hr2 hk2;have hk:=hk1.trans hk2 λt ht=>⟨ht,ht⟩;cases z with
  | normal=>
   simp only[qt.j4] at hz;split at hz;rename_i s' hs';exact hz a2 (IY hr hr2 hk hs') hk;exact hz.elim
  | exit id=>exact hQ (.exit id) e2 a2 w2 hz hr2 hk
  | ret=>exact hQ .ret e2 a2 w2 hz hr2 hk
  exact h.elim
 | .exit id,Q,e,a,w,Q',_,h,hr,hQ=>wpIn_exit (hQ (.exit id) e a w h hr (i4.refl _ _))
 | .ret,Q,e,a,w,Q',_,h,hr,hQ=>wpIn_ret (hQ .ret e a w h hr (i4.refl _ _))
 | .mn ..,Q,e,a,w,Q',_,h,_,_=>h.elim
 | .other c,Q,e,a,w,Q',_,h,_,_=>h.elim
def wp:∀(c:Code) (as0:List Aw),(lq c as0).1.erase=c
 | .skip,as0=>rfl
 | .region id ops draw,as0=>by
  cases draw with
  | false=>simp[lq,PC.erase]
  | true=>
   simp only[lq];split<;>simp[PC.erase]
 | .seq a b,as0=>by simp only[lq];split;simp only[PC.erase,wp a,wp b];simp only[PC.erase,wp a,wp b];simp only[PC.erase,wp a,wp b];rfl
 | .cond c a b,as0=>by simp only[lq,PC.erase,wp a,wp b]
 | .block id b,as0=>by simp only[lq,PC.erase,wp b]
 | .loop b,as0=>by simp only[lq];split;simp only[PC.erase,wp b];rfl
 | .rangeFunc f ps x y,as0=>by simp only[lq];split;simp only[PC.erase,wp x,wp y];rfl
 | .exit id,as0=>rfl
 | .scope b,as0=>rfl
 | .label l,as0=>rfl
 | .goto l,as0=>rfl
 | .ret,as0=>rfl
 | .refuse s,as0=>rfl
def qn3:∀ {ts:List jV} {vs:List Me} {x:kH ts},mM.unVals ts vs=some x->kH.vals ts x=vs
 | [],[],_,_=>rfl
 | [],_::_,_,h=>by simp[mM.unVals] at h
 | [t],[v],x,h=>by simp only[mM.unVals] at h;simp only[kH.vals,jV.od h]
 | [t],[],x,h=>by simp[mM.unVals] at h
 | [t],_::_::_,x,h=>by simp[mM.unVals] at h
 | t::u::ts,[],x,h=>by simp[mM.unVals] at h
 | t::u::ts,v::vs,x,h=>by simp only[mM.unVals] at h;split at h;rename_i y hy;split at h;rename_i z hz;cases h;simp only[kH.vals,jV.od hy,qn3 hz];cases h;cases h
def qqz{x:kH ts}(h:mM ts v=some x)(hv:ts=[]->v=.tuple #[]):gU ts x=v:=by
 match ts,x,h with
 | [],x,h=>simp[gU,hv rfl]
 | [t],x,h=>exact jV.od h
 | t::u::ts,x,h=>
  cases v<;>simp only[mM] at h<;>try (cases h;done)
  rename_i vs;simp only[gU,qn3 h]
def mP (tmps:Array Me):ResultVar->Sem Me
 | .tmp t=>pure (tmps.getD t undef)
 | .cell a t=>do loadVar t (<- asAddr (tmps.getD a undef))
def DP{R:List Me->Prop}:∀(rvs:List ResultVar) (e:Env) (a:Act) (w:Md) (K:List Me->Prop),np (pV P) P rvs e w K->Rel n ds e a-> ∃vs,(rvs.mapM (mP a.tmps)).run P w=.ok vs w/\vs.length=rvs.length/\K vs
 | [],e,a,w,K,h,hr=>⟨[],oN,rfl,h⟩
 | .tmp t::r,e,a,w,K,h,hr=>by simp only[np] at h;split at h;rename_i v hv;obtain⟨vs,h1,h2,h3⟩:=DP (R:=R) r e a w _ h hr;exact⟨v::vs,by simp[mapM_cons,mP,h1,<- hr.get t v hv],by simp[h2],h3⟩;exact h.elim
 | .cell ad t::r,e,a,w,K,h,hr=>by
  simp only[np] at h;split at h;rename_i p hp;have hp':=hr.get _ _ hp;split at h;rename_i c hcell;cases hok:!qm P t with
  | true=>simp only[hok,cond_true] at h
  | false=>
   simp only[hok,cond_false] at h;obtain⟨hi1,hi2⟩:=xp hok;cases hag:fR P t with
   | true=>simp only[hag,cond_true] at h
   | false=>
    simp only[hag,cond_false] at h;obtain⟨y,hy,hk⟩:=h;obtain⟨vs,h1,h2,h3⟩:=DP (R:=R) r e a w _ hk hr;exact⟨_::vs,by simp[mapM_cons,mP,hp',asAddr,loadVar,BD hi2,hag,hy,h1],by simp[h2],h3⟩
  rename_i cs hcells;cases hg:fR P t&&Nat.beq (fv P t) cs.length with
  | false=>simp only[hg,cond_false] at h
  | true=>
   simp only[hg,cond_true] at h;simp only[yB] at hg;obtain⟨hag,hsz⟩:=hg;have hsz':=yW hsz;obtain⟨y,hy,hk⟩:=h;have hlen:(HL.mk cs y).length=cs.length:=HL.j3 cs y;have hsome:(P.info? t).isSome=true:=by
    cases hi:P.info? t with
    | none=>
     have:=Bh hag;simp[Program.underlying,hi] at this
    | some i=>rfl
   obtain⟨vs,h1,h2,h3⟩:=DP (R:=R) r e a w _ hk hr;have hl:=E6 (P:=P) (HL.mk cs y) 0 #[] w hy;rw[hlen,<- hsz'] at hl;exact⟨_::vs,by simp[mapM_cons,mP,hp',asAddr,loadVar,BD (Bh hag),hag,uk hsome,loadCells,hl,h1],by simp[h2],h3⟩
  cases hag:fR P t with
  | false=>simp only[hag,cond_false] at h
  | true=>
   simp only[hag,cond_true] at h;obtain⟨y,hy,hk⟩:=h;have hsome:(P.info? t).isSome=true:=by
    cases hi:P.info? t with
    | none=>
     have:=Bh hag;simp[Program.underlying,hi] at this
    | some i=>rfl
   obtain⟨vs,h1,h2,h3⟩:=DP (R:=R) r e a w _ hk hr;have hl:=E6 (P:=P) y 0 #[] w hy.2;rw[hy.1] at hl;exact⟨_::vs,by simp[mapM_cons,mP,hp',asAddr,loadVar,BD (Bh hag),hag,uk hsome,loadCells,hl,h1],by simp[h2],h3⟩
  exact h.elim
def qql(fn:Func)(tmps:Array Me):results fn tmps=(do let vs <- fn.results.mapM (mP tmps);Pure.pure (if h:vs.size=1 then vs[0] else .tuple vs)):=by unfold results;congr 1
def JB:∀(args:List Me) (i t:Nat) (v:Me),(oT i args).get t=some v->∃j,t=i+j/\args[j]?=some v
 | [],i,t,v,h=>by simp[oT,Env.get] at h
 | u::r,i,t,v,h=>by simp only[oT] at h;rw[Env.lT] at h;by_cases hi:i=t;subst hi;simp at h;exact⟨0,oN,by simp[h]⟩;simp[hi] at h;obtain⟨j,hj,hv⟩:=JB r (i+1) t v h;exact⟨j+1,oL,by simpa using hv⟩
def mark (m:Option Nat):List Deferred:=match m with|none=>[] | some D=>[{ target:=.collected D,args:=#[] }]
def qqj:∀ {ts:List Tmp} {vs:List Me} {e:Env} {tm:Array Me},(ts.all (Nat.blt · n))=true->Rel n [] e { tmps:=tm,defers:=[] }->ts.length=vs.length-> Rel n [] (tZ e ts vs) { tmps:=(ts.zip vs).foldl (λt (x:Tmp×Me)=>t.setIfInBounds x.1 x.2) tm,defers:=[] }
 | [],[],e,tm,_,h,_=>h
 | t::ts,v::vs,e,tm,hl,h,hlen=>by simp only[all_cons,yB] at hl;have hp:=h.put (dst:=some t) (λd hd=>by cases hd;exact zO hl.1) v;exact qqj (vs:=vs) hl.2 hp (oS hlen)
def qp1{x:jY}:∀ {l:List jY} {k i:Nat},uR x l k=some i->∃j,i=k+j/\l[j]?=some x
 | [],k,i,h=>by cases h
 | y::r,k,i,h=>by
  simp only[uR] at h;cases hs:x.same y with
  | true=>
   rw[hs] at h;simp only[cond_true,Option.some.injEq] at h;refine⟨0,oL,?_⟩;cases x<;>cases y<;>simp only[jY.same,Bool.false_eq_true] at hs<;>try rfl
   simp[yW hs]
  | false=>
   rw[hs] at h;obtain⟨j,hj,hl⟩:=qp1 h;exact⟨j+1,oL,by simpa using hl⟩
def jY.code:jY->Code
 | .normal=>.skip
 | .ret=>.ret
 | .exit id=>.exit id
def Ju:∀(ts:List jV) (x:kH ts),(kH.vals ts x).length=ts.length
 | [],_=>rfl
 | [_],_=>rfl
 | _::u::ts,x=>by simp only[kH.vals,yI,Ju (u::ts) x.2]
def qAM{g:Operand}{ps:List Tmp}{pts:List jV}{x y:PC}{done:Nat->WP}{Qj:jY->Nat->WP}(hg:e.ev g=some v)(hps:ps.length=pts.length)(hlt:(ps.all (Nat.blt · n))=true)(hfx:x.fits P n=true)(hfy:y.fits P n=true)(hr:Rel n [] e a)(h:mn P v pts (rP (pV P) P x y ps pts e) done (y.outs.map λz=>λD w'=>Qj z D w') w){Q':Exit->Act->WP}(hdone:∀D w',done D w'->Q' .normal { a with defers:=mark (some D) } w')(hjump:∀z D w',Qj z D w'->z≠.normal->Q' z.to { a with defers:=mark (some D) } w')(hno:∀z∈y.outs,z≠.normal): (Code.rangeFunc g ps.toArray x.erase y.erase).wpIn (Wd none) m P Q' a w:=by
 obtain⟨f,lb,rfl,hb,h⟩:=h;refine wpIn_rangeFunc ?_;intro fn _;have hro:(Wd none).round=none:=rfl;rw[hro];obtain⟨rec,hrec⟩:∃rec:LoopState->Option Code->Loop,rec=λst pe=>{ state:=st,pending:=pe,fn,tmps:=a.tmps,params:=ps.toArray,assign:=x.erase,body:=y.erase,defers:=w.z }:=⟨_,rfl⟩;let l:=w.z+1;let J:Nat->Obj:=λi=>.loop (rec .done ((y.outs[i]?).map jY.code));let E:Nat->Obj:=λi=>.loop (rec .exhausted ((y.outs[i]?).map jY.code));have hy:se P pts (rP (pV P) P x y ps pts e) l (.loop (rec .ready none)) (.loop (rec .busy none)) J:=by
  intro u W K hl hbody;unfold rP at hbody;refine .inr ⟨l,fn,(ps.zip (kH.vals pts u)).foldl (λt (x:Tmp×Me)=>t.setIfInBounds x.1 x.2) a.tmps,x.erase,y.erase,?_,?_⟩
  ·have hyl:=run_yield (P:=P) (args:=(kH.vals pts u).toArray) hl (by rw[hrec];simp[Ju,hps]);rw[hrec] at hyl;simp only[Deferred.ofValue,pure_bind];simp only[invoke];have hz:∀(ps:List Tmp) (vs:List Me) (t0:Array Me),(ps.toArray.zip vs.toArray).foldl (λ(tmps:Array Me) (x:Tmp×Me)=>match x with|(t,a)=>tmps.setIfInBounds t a) t0=(ps.zip vs).foldl (λt (x:Tmp×Me)=>t.setIfInBounds x.1 x.2) t0:=by intro ps vs t0;rw[<- Array.foldl_toList];simp
   rw[hz] at hyl;first
    | exact hyl
    | simpa using hyl
  refine roundIn_of_wpIn trivial ?_;have hrel:Rel n [] (tZ e ps (kH.vals pts u)) { tmps:=(ps.zip (kH.vals pts u)).foldl (λt (x:Tmp×Me)=>t.setIfInBounds x.1 x.2) a.tmps,defers:=[] }:=
   qqj hlt ⟨hr.size,rfl,hr.get⟩ (by rw[Ju,hps])
  refine tY x _ _ _ W _ hfx hbody hrel ?_;intro z e' a' w' hz hr' _;cases z with
  | exit id=>exact hz.elim
  | ret=>exact hz.elim
  | normal=>
   obtain⟨hl1,hz⟩:=hz;refine⟨_,run_beginRound hl1 (by rw[hrec]),?_⟩;have hbz:({ rec .ready none with state:=.busy }:Loop)=rec .busy none:=(by rw[hrec]);rw[hbz];refine tY y _ _ _ _ _ hfy hz hr' ?_;intro z e'' a'' w3 hz hr'' _;have fin:∀(jump:Option Code),w3.heap[l]?=some (.loop (rec .busy none))->(Instr.endRound l jump).run P w3=.ok (.bool jump.isNone) (w3.putObj l (.loop (rec (if jump.isNone then .ready else .done) jump))):=by
    intro jump hl3;have:=run_endRound (P:=P) jump hl3;rw[hrec] at this⊢;exact this
   have out:∀z:jY,(match uR z y.outs 0 with|some i=>w3.heap[l]?=some (.loop (rec .busy none))/\K false (w3.putObj l (J i))|none=>False)->
     ∃v w',(Instr.endRound l (some z.code)).run P w3=.ok v w'/\∃x:kH [jV.one Cell.bool],Ending.returned v=.returned (gU dk x)/\K x w':=by
    intro z hz;split at hz;rename_i i hi;obtain⟨j,hj,hjl⟩:=qp1 hi;have:i=j:=oL;subst this;refine⟨_,_,fin (some z.code) hz.1,false,rfl,?_⟩;have hJ:J i=.loop (rec (if (some z.code).isNone then .ready else .done) (some z.code)):=by show Obj.loop (rec .done ((y.outs[i]?).map jY.code))=_;rw[hjl];rfl
    rw[<- hJ];exact hz.2;exact hz.elim
   cases z with|normal=>exact⟨_,_,fin none hz.1,true,rfl,hz.2⟩|ret=>exact out .ret hz|exit id=>exact out (.exit id) hz
 have hcall:=h (.loop (rec .ready none)) (.loop (rec .busy none)) J E (.loop (rec .exhausted none)) hy;refine⟨l,[{ target:=.collected w.z,args:=#[] }],(w.alloc (.deferred (some []))).alloc (.loop (rec .ready none)),{ target:=.fn (.func f) lb.toArray,args:=#[.func (.yield l) #[] #[]] },(w.alloc (.deferred (some []))).alloc (.loop (rec .ready none)),f,
  (.func (.yield l) #[] #[]::lb).toArray,(w.alloc (.deferred (some []))).alloc (.loop (rec .ready none)),?_,?_,λ_ _=>trivial,?_,Le none,?_⟩
 rw[hrec];exact run_enterLoop_outer _ _ _ _ _;simp only[resolve,hr.ev hg];simp[Deferred.ofValue];rfl;simp[invoke,CZ hb];refine qfM (Calls.mono hcall ?_);rintro e2 W2 ⟨u,rfl,hh⟩;rcases hh with ⟨hl,hd⟩|⟨i,k,hk,hl,hd⟩;refine⟨none,_,?_,by rw[hr.defers];exact hdone _ _ hd⟩;have:=run_endLoop (P:=P) hl (by rw[hrec];simp);rw[hrec] at this⊢;exact this;have hk':=hk;rw[zQ] at hk;cases hz:y.outs[i]? with
 | none=>rw[hz] at hk;cases hk
 | some z=>
  rw[hz] at hk;cases hk;have hJ:J i=.loop (rec .done (some z.code)):=by show Obj.loop (rec .done ((y.outs[i]?).map jY.code))=_;rw[hz];rfl
  have hE:E i=.loop (rec .exhausted (some z.code)):=(by show Obj.loop (rec .exhausted ((y.outs[i]?).map jY.code))=_;rw[hz];rfl);rw[hJ] at hl;rw[hE] at hd;have hzn:=hno z (yF hz);have hq:=hjump z _ _ hd hzn;refine⟨some z.code,W2.putObj (w.z+1) (.loop (rec .exhausted (some z.code))),?_,?_⟩;have:=run_endLoop (P:=P) hl (by rw[hrec];simp);rw[hrec] at this⊢;exact this;rw[hr.defers];cases z with|normal=>exact absurd rfl hzn|ret=>exact wpIn_ret hq|exit id=>exact wpIn_exit hq
def PC.uT (c:PC):Bool:=c.outs.all λz=>match z with | .normal=>false|_=>true
def PC.rj:PC->Bool
 | .seq a b=>a.rj&&b.rj
 | .block _ b=>b.rj
 | .mn _ _ _ _ y=>y.uT
 | _=>true
def HI:∀(c:PC) (Q:Option Nat->qt) (k:Option Nat) (e:Env) (a:Act) (w:Md) (Q':Exit->Act->WP),c.fits P n=true->c.rj=true->c.DM (pV P) P Q k e w->Rel n (mark k) e a-> (∀k' x e' a' w',Q k' x e' w'->Rel n (mark k') e' a'->Q' x.to a' w')->c.erase.wpIn (Wd none) m P Q' a w
 | .seq x y,Q,k,e,a,w,Q',hf,hs,h,hr,hQ=>by
  simp only[PC.fits,yB] at hf;simp only[PC.rj,yB] at hs;refine wpIn_seq (HI x _ k e a w _ hf.1 hs.1 h hr ?_);intro k' z e1 a1 w1 hz hr1;cases z with|normal=>exact HI y Q k' e1 a1 w1 Q' hf.2 hs.2 hz hr1 hQ|exit id=>exact hQ k' (.exit id) e1 a1 w1 hz hr1|ret=>exact hQ k' .ret e1 a1 w1 hz hr1
 | .block id body,Q,k,e,a,w,Q',hf,hs,h,hr,hQ=>by
  refine wpIn_block (HI body _ k e a w _ hf hs h hr ?_);intro k' z e1 a1 w1 hz hr1;cases z with
  | normal=>exact hQ k' .normal e1 a1 w1 hz hr1
  | exit j=>
   simp only at hz;simp only[jY.to,Exit.inBlock];cases hj:Nat.beq j id with
   | true=>
    rw[hj] at hz;rw[iP (yW hj)];exact hQ k' .normal e1 a1 w1 hz hr1
   | false=>
    rw[hj] at hz;rw[iN (λhq=>by subst hq;simp at hj)];exact hQ k' (.exit j) e1 a1 w1 hz hr1
  | ret=>exact hQ k' .ret e1 a1 w1 hz hr1
 | .mn g ps pts x y,Q,k,e,a,w,Q',hf,hs,h,hr,hQ=>by
  simp only[PC.fits,yB] at hf;simp only[PC.DM] at h;cases k with
  | some D=>exact h.elim
  | none=>
   simp only at h;split at h;exact h.elim;rename_i v hg;have h':=h;refine qAM (done:=λD w'=>Q (some D) .normal e w') (Qj:=λz D w'=>Q (some D) z e w') hg (yW hf.1.1.1) hf.1.1.2 hf.1.2 hf.2 hr h' ?_ ?_ ?_;intro D w' hq;exact hQ (some D) .normal e _ w' hq ⟨hr.size,rfl,hr.get⟩;intro z D w' hq _;exact hQ (some D) z e _ w' hq ⟨hr.size,rfl,hr.get⟩;intro z hz hzn;subst hzn;simp only[PC.rj,PC.uT,LY] at hs;have:=hs _ hz
   cases this
 | .skip,Q,k,e,a,w,Q',hf,_,h,hr,hQ=>tY .skip (Q k) e a w Q' hf h hr (λz e' a' w' hx hr' _=>hQ k z e' a' w' hx hr')
 | .region id ops,Q,k,e,a,w,Q',hf,_,h,hr,hQ=>tY (.region id ops) (Q k) e a w Q' hf h hr (λz e' a' w' hx hr' _=>hQ k z e' a' w' hx hr')
 | .draw id ops os,Q,k,e,a,w,Q',hf,_,h,hr,hQ=>tY (.draw id ops os) (Q k) e a w Q' hf h hr (λz e' a' w' hx hr' _=>hQ k z e' a' w' hx hr')
 | .join l x y,Q,k,e,a,w,Q',hf,_,h,hr,hQ=>tY (.join l x y) (Q k) e a w Q' hf h hr (λz e' a' w' hx hr' _=>hQ k z e' a' w' hx hr')
 | .cond c x y,Q,k,e,a,w,Q',hf,_,h,hr,hQ=>tY (.cond c x y) (Q k) e a w Q' hf h hr (λz e' a' w' hx hr' _=>hQ k z e' a' w' hx hr')
 | .loop l x,Q,k,e,a,w,Q',hf,_,h,hr,hQ=>tY (.loop l x) (Q k) e a w Q' hf h hr (λz e' a' w' hx hr' _=>hQ k z e' a' w' hx hr')
 | .exit id,Q,k,e,a,w,Q',hf,_,h,hr,hQ=>tY (.exit id) (Q k) e a w Q' hf h hr (λz e' a' w' hx hr' _=>hQ k z e' a' w' hx hr')
 | .ret,Q,k,e,a,w,Q',hf,_,h,hr,hQ=>tY .ret (Q k) e a w Q' hf h hr (λz e' a' w' hx hr' _=>hQ k z e' a' w' hx hr')
 | .other c,Q,k,e,a,w,Q',hf,_,h,hr,hQ=>h.elim
def qw9{K:kH ts->WP}{e':Env}{a':Act}(hts:(!ts.isEmpty||fn.results.isEmpty)=true)(hr':Rel n ds e' a')(hres:np (pV P) P fn.results.toList e' w' λvs=>match mM ts (oneOf vs) with|some x=>K x w'|none=>False): ∃v,(results fn a'.tmps).run P w'=.ok v w'/\∃x:kH ts,Ending.returned v=.returned (gU ts x)/\K x w':=by
 obtain⟨vs,h1,h2,h3⟩:=DP (R:=λ_=>True) fn.results.toList e' a' w' _ hres hr';split at h3;rename_i y hy;refine⟨oneOf vs,?_,y,?_,h3⟩;rw[qql];have hmm:(fn.results.mapM (mP a'.tmps)).run P w'=.ok vs.toArray w':=by rw[Array.mapM_eq_mapM_toList];simp[h1]
 simp only[LS,hmm,LU];match vs with|[]=>simp[oneOf]|[v]=>simp[oneOf]|v::u::vs=>simp[oneOf]
 rw[qqz hy];intro h0;subst h0;simp at hts;have:vs=[]:=by have:vs.length=0:=(by rw[h2];simp[hts]);exact LX this
 subst this;rfl;exact h3.elim
def qCL(hlen:args.length<=n):Rel n [] (oT 0 args) { tmps:=args.toArray++Array.replicate (n-args.toArray.size) undef,defers:=[] }:=by
 refine⟨by simp;omega,rfl,λt v hv=>?_⟩;obtain⟨j,hj,hv'⟩:=JB args 0 t v hv;have hjl:j<args.length:=by rcases Nat.lt_or_ge j args.length with h|h;exact h;simp[yS h] at hv'
 have:t=j:=oL;subst this;rw[zA hjl] at hv';simp[Array.getElem?_append,hjl];exact yO hv'
def qqQ{K:kH ts->WP}(hf:P.funcs[f]?=some fn)(hfit:(match fn.body with|some c=>(lq c an).1.fits P fn.ntmps&&(lq c an).1.rj&&Nat.ble args.length fn.ntmps&&(!ts.isEmpty||fn.results.isEmpty)|none=>false)=true)(h:zj (pV P) P fn an ts args K w):call P f args ts w K:=by
 unfold zj at h;split at h;rename_i c hb;simp only[hb,yB] at hfit;obtain⟨⟨⟨hfit,hfs⟩,hlen⟩,hts⟩:=hfit;have hlen':args.length<=fn.ntmps:=zO hlen;unfold call;refine callsIn_wide.1 (callsIn_of_wp_marks (n:=0) hf hb trivial ?_);have hsp:=HI (m:=0) (lq c an).1 _ none _ _ w (bodyPostM (Wd none) 0 P fn λe w'=>∃x:kH ts,e=.returned (gU ts x)/\K x w') hfit hfs h (qCL hlen') ?_;rw[wp] at hsp;exact hsp;intro k x e' a' w' hx hr';have fin:(Bu (pV P) k w' λw2=>np (pV P) P fn.results.toList e' w2 λvs=>match mM ts (oneOf vs) with|some x=>K x w2|none=>False)->
   LeavesInM (Wd none) 0 P fn a'.tmps (λe w'=>∃x:kH ts,e=.returned (gU ts x)/\K x w') a'.defers .returning w':=by
  intro hu;rw[hr'.defers];cases k with
  | none=>
   obtain⟨v,h1,h2⟩:=qw9 hts hr' hu;exact⟨v,h1,h2⟩
  | some D=>
   obtain⟨hD,hu⟩:=hu;obtain⟨v,h1,h2⟩:=qw9 hts hr' hu;exact⟨oN,.inl ⟨D,_,rfl,run_takeDeferred hD,v,h1,h2⟩⟩
 cases x with|normal=>exact fin hx|ret=>exact fin hx|exit id=>exact hx.elim
 exact h.elim
def qs6{K:kH ts->WP}(hf:P.funcs[f]?=some fn)(hfit:(match fn.body with|some c=>(lq c an).1.fits P fn.ntmps&&Nat.ble args.length fn.ntmps&&(!ts.isEmpty||fn.results.isEmpty)|none=>false)=true)(h:BW (pV P) P fn an ts args K w):call P f args ts w K:=by
 unfold BW at h;split at h;rename_i c hb;simp only[hb,yB] at hfit;obtain⟨⟨hfit,hlen⟩,hts⟩:=hfit;have hlen':args.length<=fn.ntmps:=zO hlen;unfold call;refine callsIn_wide.1 (callsIn_of_wp (n:=0) hf hb trivial ?_);have hrel:Rel fn.ntmps [] (oT 0 args) { tmps:=args.toArray++Array.replicate (fn.ntmps-args.toArray.size) undef,defers:=[] }:=by
  refine⟨by simp;omega,rfl,λt v hv=>?_⟩;obtain⟨j,hj,hv'⟩:=JB args 0 t v hv;have hjl:j<args.length:=by rcases Nat.lt_or_ge j args.length with h|h;exact h;simp[yS h] at hv'
  have:t=j:=oL;subst this;rw[zA hjl] at hv';simp[Array.getElem?_append,hjl];exact yO hv'
 have hs:=tY (r:=none) (m:=0) (lq c an).1 _ _ _ w (bodyPost P fn λe w'=>∃x:kH ts,e=.returned (gU ts x)/\K x w') hfit h hrel ?_;rw[wp] at hs;exact hs;intro x e' a' w' hx hr' _;have fin:∀(hres:np (pV P) P fn.results.toList e' w' λvs=>match mM ts (oneOf vs) with|some x=>K x w'|none=>False),
   a'.defers=[]/\∃v,(results fn a'.tmps).run P w'=.ok v w'/\∃x:kH ts,Ending.returned v=.returned (gU ts x)/\K x w':=by
  intro hres;obtain⟨vs,h1,h2,h3⟩:=DP (R:=λ_=>True) fn.results.toList e' a' w' _ hres hr';split at h3;rename_i y hy;refine⟨hr'.defers,oneOf vs,?_,y,?_,h3⟩;rw[qql];have hmm:(fn.results.mapM (mP a'.tmps)).run P w'=.ok vs.toArray w':=by rw[Array.mapM_eq_mapM_toList];simp[h1]
  simp only[LS,hmm,LU];match vs with|[]=>simp[oneOf]|[v]=>simp[oneOf]|v::u::vs=>simp[oneOf]
  rw[qqz hy];intro h0;subst h0;simp at hts;have:vs=[]:=by have:vs.length=0:=(by rw[h2];simp[hts]);exact LX this
  subst this;rfl;exact h3.elim
 cases x with|normal=>exact fin hx|ret=>exact fin hx|exit id=>exact hx.elim
 exact h.elim
def eB{K:kH ts->WP}(hf:P.funcs[f]?=some fn)(hF:F)(hfit:(match fn.body with|some c=>(lq c an).1.fits P fn.ntmps&&Nat.ble args.length fn.ntmps&&(!ts.isEmpty||fn.results.isEmpty)|none=>false)=true:=by kernel_rfl)(e:BW (pV P) P fn an ts args K w=F:=by kernel_rfl):call P f args ts w K:=qs6 hf hfit (e.mpr hF)
def LL{K:kH ts->WP}(an:List Aw)(hf:P.funcs[f]?=some fn)(hF:F)(hfit:(match fn.body with|some c=>(lq c an).1.fits P fn.ntmps&&Nat.ble args.length fn.ntmps&&(!ts.isEmpty||fn.results.isEmpty)|none=>false)=true:=by kernel_rfl)(e:BW (pV P) P fn an ts args K w=F:=by kernel_rfl):call P f args ts w K:=eB hf hF hfit e
def Jk{K:kH ts->WP}(hf:P.funcs[f]?=some fn)(hF:F)(hfit:(match fn.body with|some c=>(lq c an).1.fits P fn.ntmps&&(lq c an).1.rj&&Nat.ble args.length fn.ntmps&&(!ts.isEmpty||fn.results.isEmpty)|none=>false)=true:=by kernel_rfl)(e:zj (pV P) P fn an ts args K w=F:=by kernel_rfl):call P f args ts w K:=qqQ hf hfit (e.mpr hF)
def qW{S:Type}{X:(S->WP)->Prop}{Y:S->WP}(s:S)(w:Md)(hX:∀M:S->WP,M s w->X M)(hY:Y s w):join S X Y:=
 ⟨λs' w'=>s'=s/\w'=w,hX _ ⟨rfl,rfl⟩,by rintro _ _ ⟨rfl,rfl⟩;exact hY⟩
def jd{S:Type}{X:(S->WP)->Prop}{Y:S->WP}(Mid:S->WP)(hX:X Mid)(hY:∀s w,Mid s w->Y s w):join S X Y:=⟨Mid,hX,hY⟩
@[simp] theorem qFJ{S:Type}{s:S}{Y:S->WP}:join S (λX=>X s w) Y↔Y s w:=
 ⟨λ⟨_,h1,h2⟩=>h2 _ _ h1,λh=>qW s w (λ_ h=>h) h⟩
def Ek{S:Type}{X:(S->WP)->Prop}{Y:S->WP}(hX:X Y):join S X Y:=⟨Y,hX,λ_ _ h=>h⟩
def lD{S:Type}{B:(S->WP)->S->WP}{s:S}(I:S->WP)(m:S->Md->Nat)(h0:I s w)(step:∀s w,I s w->∀X:S->WP,(∀s' w',I s' w'->m s' w'<m s w->X s' w')->B X s w):loop S B s w:=by
 intro J hJ;have key:∀k s w,m s w=k->I s w->J s w:=by
  intro k;induction k using Nat.strongRecOn with
  | _ k ih=>
   intro s w hk hI;exact hJ s w (step s w hI J λs' w' hI' hlt=>ih (m s' w') (hk▸hlt) s' w' rfl hI')
 exact key _ s w rfl h0
def eF{b:Bool}(h1:b=true->A)(h2:b=false->B):cond b A B:=by
 cases b with|true=>exact h1 rfl|false=>exact h2 rfl
def cD[Decidable p]{X Y:Prop}(h:p->X)(g:¬p->Y):cond (decide p) X Y:=eF (λe=>h (zC e)) (λe=>g (zB e))
def nc{K:Prop}(h:p)(k:K):gV p K:=⟨h,k⟩
variable {a:Addr} {o:Obj} {S:Mk} {b:Md}
def fH{K:Addr->Prop}(h:K a):nn (some a) K:=h
def sU{K:c.El->Prop}(x:c.El)(h:w.cell? a=some (c.mk x))(k:K x):ld c a w K:=⟨x,h,k⟩
def Fg{K:Nat->WP}(k:K w.z (w.alloc o)):new o w K:=k
structure sD (w w':Md):Prop where
 heap:w'.heap=w.heap
 os:w'.os=w.os
 tape:w'.tape=w.tape
 output:w'.output=w.output
def sD.refl(w:Md):sD w w:=⟨rfl,rfl,rfl,rfl⟩
def sD.drew(h:sD w w'):sD w w'.drew:=⟨h.heap,h.os,h.tape,h.output⟩
structure Fr (S:Mk) (w w':Md):Prop where
 os:w'.os=w.os
 tape:w'.tape=w.tape
 output:w'.output=w.output
 size:w.z<=w'.z
 block:∀ i,i<w.z->i∉S->w'.heap[i]?=w.heap[i]?
def Fr.refl(S:Mk)(w:Md):Fr S w w:=⟨rfl,rfl,rfl,zM _,λ_ _ _=>rfl⟩
def Fr.of_same(h:sD w w'):Fr S w w':=⟨h.os,h.tape,h.output,by unfold World.z;rw[h.heap];exact zM _,λ_ _ _=>by rw[h.heap]⟩
def Fr.trans{a c:Md}(h:Fr S a b)(k:Fr S b c):Fr S a c:=
 ⟨k.os.trans h.os,k.tape.trans h.tape,k.output.trans h.output,zL h.size k.size,λi hi hs=>(k.block i (yD hi h.size) hs).trans (h.block i hi hs)⟩
def Fr.mono{T:Mk}{a:Md}(h:Fr S a b)(hs:∀i,i∈S->i<a.z->i∈T):Fr T a b:=
 ⟨h.os,h.tape,h.output,h.size,λi hi ht=>h.block i hi λhS=>ht (hs i hS hi)⟩
def Fr.j8{T:Mk}{a c:Md}(h:Fr S a b)(k:Fr T b c)(ht:∀i,i∈T->i∈S\/a.z<=i):Fr S a c:=
 ⟨k.os.trans h.os,k.tape.trans h.tape,k.output.trans h.output,zL h.size k.size,λi hi hs=>(k.block i (yD hi h.size) λhT=>by rcases ht i hT with h'|h';exact hs h';omega).trans (h.block i hi hs)⟩
def Fr.drew{a:Md}(h:Fr S a b):Fr S a b.drew:=⟨h.os,h.tape,h.output,h.size,h.block⟩
def Fr.alloc{a:Md}(h:Fr S a b)(o:Obj):Fr S a (b.alloc o):=
 ⟨h.os,h.tape,h.output,by have:=h.size;unfold World.z at*;simp;omega,λi hi hs=>by rw[<- h.block i hi hs];show (b.heap.push o)[i]?=_;rw[Array.getElem?_push,iN (by have:=h.size;unfold World.z at*;omega)]⟩
def Dl(w:Md)(o:Obj)(i:Nat):(w.alloc o).heap[i]?=if i=w.z then some o else w.heap[i]?:=by show (w.heap.push o)[i]?=_;rw[Array.getElem?_push]
def jA (w:Md) (b:Nat) (o:Obj):Md:={ w with heap:=w.heap.setIfInBounds b o }
def Af(w:Md)(b:Nat)(o:Obj):(jA w b o).z=w.z:=by unfold World.z;simp[jA]
def sO(w:Md)(b:Nat)(o:Obj)(i:Nat)(h:b<w.z):(jA w b o).heap[i]?=if i=b then some o else w.heap[i]?:=by show (w.heap.setIfInBounds b o)[i]?=_;rw[Mb];by_cases hi:b=i;subst hi;simp[h];rw[iN hi,iN λe=>hi e.symm]
variable {b off:Nat} {T:Mf} {fr:Mu} {w0:Md} {L:Mq} {cl:List Cell}
def gg(h:w.heap[b]?=some o):b<w.z:=by rcases Nat.lt_or_ge b w.z with hl|hl;exact hl;rw[Array.getElem?_eq_none hl] at h;cases h
def jI(h:w.heap[b]?=some (.cells cs T fr)):w.cell? (dh b off)=cs[off]?:=by simp[World.cell?,h]
def qnU(h:w.heap[b]?=some (.cells cs T fr))(v:Me): w.setCell (dh b off) v=jA w b (.cells (cs.setIfInBounds off v) T fr):=by have hb:=gg h;unfold World.setCell jA;congr 1;apply Array.ext_getElem?;intro i;rw[Array.getElem?_modify,Mb];by_cases hi:b=i;subst hi;rw[iP rfl,iP rfl,iP hb,h];rfl;simp[hi]
def qxh(w:Md)(b:Nat)(o o':Obj):jA (jA w b o) b o'=jA w b o':=by unfold jA;congr 1;apply Array.ext_getElem?;intro i;by_cases hi:b=i<;>simp[hi]
def Addr.j1(b o n:Nat):Addr.add (dh b o) n=⟨b,o+n,none⟩:=Go.Addr.add_lit b o n
def EX{w:Md}{b:Nat}{T:Mf}:∀(vs:List Me) (off k:Nat) (cs:Array Me) (w:Md) (K:WP),w.heap[b]?=some (.c cs T)->(vs.all Value.oneCell')=true->off+k+vs.length<=cs.size-> K (jA w b (.c (d7 cs (off+k) vs) T))->HX (dh b off) k vs w K
 | [],off,k,cs,w,K,hb,_,_,hk=>by
  have:jA w b (.c (d7 cs (off+k) []) T)=w:=by
   unfold jA d7;have:w.heap.setIfInBounds b (.c cs T)=w.heap:=by apply Array.ext_getElem?;intro i;rw[Mb];by_cases hi:b=i;subst hi;rw[iP rfl,iP (gg hb),hb];simp[hi]
   rw[this]
  rw[this] at hk;exact hk
 | v::vs,off,k,cs,w,K,hb,h1,hl,hk=>by
  simp only[all_cons,yB] at h1;simp only[yI] at hl;have hlt:off+k<cs.size:=oL;refine⟨⟨h1.1,⟨cs[off+k],?_⟩,?_⟩,?_⟩;rw[Addr.j1,jI hb];simp[hlt];rw[Addr.j1];simp[World.frozen?,hb];rw[Addr.j1,qnU hb];have hb':(jA w b (.c (cs.setIfInBounds (off+k) v) T)).heap[b]?=some (.c (cs.setIfInBounds (off+k) v) T):=by rw[sO _ _ _ _ (gg hb),iP rfl]
  refine EX (w:=w) vs off (k+1) _ _ K hb' h1.2 oQ ?_;rw[qxh];exact hk
def Aj{w:Md}{b:Nat}{T:Mf}{fr:Mu}{cs:Array Me}(hb:w.heap[b]?=some (.cells cs T fr)):∀(vs:List Me) (off k:Nat),(cs.toList.drop (off+k)).take vs.length=vs->kU w (dh b off) k vs
 | [],_,_,_=>trivial
 | [v],off,k,h=>by
  show w.cell? _=_;rw[Addr.j1,jI hb];have:(cs.toList.drop (off+k))[0]?=some v:=by
   have:=Ma (·[0]?) h;simpa using this
  simpa using this
 | v::u::vs,off,k,h=>by
  have hv:(cs.toList.drop (off+k))[0]?=some v:=by
   have:=Ma (·[0]?) h;simpa using this
  refine⟨?_,Aj hb (u::vs) off (k+1) ?_⟩;rw[Addr.j1,jI hb];simpa using hv;have:=Ma (List.drop 1) h;rw[drop_take,xC] at this;exact this
structure dY (S:Mk) (w0 w:Md) (L:Mq):Prop where
 iX:∀ p∈L,w.heap[p.1]?=some p.2
 nodup:(L.map (·.1)).Nodup
 fr:Fr S w0 w
 own:∀ p∈L,p.1∈S\/w0.z<=p.1
def dY.start(S:Mk)(w:Md):dY S w w []:=⟨oN,oN,.refl _ _,oN⟩
def dY.at(h:dY S w0 w L){i:Nat}{p:Nat×Obj}(hi:L[i]?=some p):w.heap[p.1]?=some p.2:=h.iX p (yF hi)
def dY.drew(h:dY S w0 w L):dY S w0 w.drew L:=⟨h.iX,h.nodup,h.fr.drew,h.own⟩
def dY.j0{T:Mk}(h:dY S w0 w L)(k:Fr T w w')(ht:∀i∈T,i∈S\/w0.z<=i)(hd:∀p∈L,p.1∉T):dY S w0 w' L:=
 ⟨λp hp=>by rw[k.block p.1 (gg (h.iX p hp)) (hd p hp)];exact h.iX p hp,h.nodup,h.fr.j8 k ht,h.own⟩
def dY.q9(h:dY S w0 w L)(k:Fr [] w w'):dY S w0 w' L:=h.j0 k oN oN
def dY.alloc(h:dY S w0 w L)(o:Obj):dY S w0 (w.alloc o) ((w.z,o)::L):=by
 refine⟨λp hp=>?_,?_,h.fr.alloc o,λp hp=>?_⟩;rcases zG.1 hp with rfl|hp;rw[Dl,iP rfl];have:=gg (h.iX p hp);rw[Dl,iN];exact h.iX p hp;simp only[xM];refine nodup_cons.2 ⟨λhm=>?_,h.nodup⟩;obtain⟨p,hp,he⟩:=mem_map.1 hm;have:=gg (h.iX p hp);omega;rcases zG.1 hp with rfl|hp;exact .inr h.fr.size;exact h.own p hp
def dY.new{K:Nat->WP}(h:dY S w0 w L)(k:∀b w',b=w.z->w'.z=w.z+1->dY S w0 w' ((b,o)::L)->K b w'):Pt.new o w K:=
 k _ _ rfl oN (h.alloc o)
def dY.ld{K:c.El->Prop}(h:dY S w0 w L)(i:Nat)(hi:L[i]?=some (b,.cells cs T fr))(x:c.El)(hx:cs[off]?=some (c.mk x))(k:K x):Pt.ld c (dh b off) w K:=
 ⟨x,by rw[jI (h.at hi)];exact hx,k⟩
def Mi{K:c.El->Prop}(h:dY S w0 w L)(i:Nat)(x:c.El)(k:K x)(hi:L[i]?=some (b,.cells cs T fr):=by exact rfl)(hx:cs[off]?=some (c.mk x):=by exact rfl):Pt.ld c (dh b off) w K:=dY.ld h i hi x hx k
def dY.dP{K:HL cl->Prop}(h:dY S w0 w L)(i:Nat)(hi:L[i]?=some (b,.cells cs T fr))(x:HL cl)(hx:(cs.toList.drop off).take cl.length=HL.mk cl x)(k:K x):Pt.dP cl (dh b off) w K:=
 ⟨x,Aj (h.at hi) _ off 0 (by rw[HL.j3];exact hx),k⟩
def Mj{K:HL cl->Prop}(h:dY S w0 w L)(i:Nat)(x:HL cl)(k:K x)(hi:L[i]?=some (b,.cells cs T fr):=by exact rfl)(hx:(cs.toList.drop off).take cl.length=HL.mk cl x:=by exact rfl):Pt.dP cl (dh b off) w K:=dY.dP h i hi x hx k
def dY.jA{o':Obj}(h:dY S w0 w L)(i:Nat)(hi:L[i]?=some (b,o)):dY S w0 (Pt.jA w b o') (L.set i (b,o')):=by
 have hb:=h.at hi;have hlt:=gg hb;have hil:i<L.length:=by rcases Nat.lt_or_ge i L.length with hl|hl;exact hl;rw[yS hl] at hi;cases hi
 have hmap:(L.set i (b,o')).map (·.1)=L.map (·.1):=(by rw[map_set];apply ext_getElem?;intro j;rw[xV];by_cases hj:i=j;subst hj;rw[iP rfl,zQ,hi];simp[hil];simp[hj]);refine⟨λp hp=>?_,by rw[hmap];exact h.nodup,?_,λp hp=>?_⟩;obtain⟨j,hj,hpj⟩:=getElem_of_mem hp;have hpj':(L.set i (b,o'))[j]?=some p:=(by rw[zA hj,hpj]);rw[xV] at hpj';by_cases hij:i=j;subst hij;simp[hil] at hpj';subst hpj';rw[sO _ _ _ _ hlt,iP rfl];rw[iN hij] at hpj';have hne:p.1≠b:=by
  intro he;have h1:(L.map (·.1))[j]?=some b:=(by simp[hpj',he]);have h2:(L.map (·.1))[i]?=some b:=(by simp[hi]);have hj':j<(L.map (·.1)).length:=by rcases Nat.lt_or_ge j (L.map (·.1)).length with hl|hl;exact hl;rw[yS hl] at h1;cases h1
  have hi':i<(L.map (·.1)).length:=(oS hil);rw[zA hj'] at h1;rw[zA hi'] at h2;have hne:=pairwise_iff_getElem.1 h.nodup;rcases Nat.lt_or_gt_of_ne hij with hl|hl;exact hne i j hi' hj' hl ((yO h2).trans (yO h1).symm);exact hne j i hj' hi' hl ((yO h1).trans (yO h2).symm)
 rw[sO _ _ _ _ hlt,iN hne];exact h.iX p (yF hpj');have hbo:=h.own (b,o) (yF hi);refine⟨h.fr.os,h.fr.tape,h.fr.output,by rw[Af];exact h.fr.size,λj hj hS=>?_⟩;rw[sO _ _ _ _ hlt,iN λe=>by subst e;rcases hbo with h1|h1;exact hS h1;omega];exact h.fr.block j hj hS;rcases mem_or_eq_of_mem_set hp with hp|rfl;exact h.own p hp;exact h.own (b,o) (yF hi)
def dY.st{K:WP}(h:dY S w0 w L)(i:Nat)(hi:L[i]?=some (b,.c cs T))(cs':Array Me)(hcs:d7 cs off vs=cs')(h1:(vs.all Value.oneCell')=true)(hl:Nat.ble (off+vs.length) cs.size=true)(k:∀w',dY S w0 w' (L.set i (b,.c cs' T))->w'.z=w.z->K w'):Pt.st (dh b off) vs w K:=
 EX (w:=w) vs off 0 cs w K (h.at hi) h1 (zO hl) (k _ (by rw[Nat.add_zero,hcs];exact h.jA i hi) (Af _ _ _))
def dY.jT(h:dY S w0 w L)(hb:w0.heap[b]?=some o)(hS:b∉S):w.heap[b]?=some o:=by rw[h.fr.block b (gg hb) hS];exact hb
def iH{K:c.El->Prop}(hb:w.heap[b]?=some (.cells cs T fr))(x:c.El)(hx:cs[off]?=some (c.mk x))(k:K x):Pt.ld c (dh b off) w K:=
 ⟨x,by rw[jI hb];exact hx,k⟩
def dY.sub{L':Mq}(h:dY S w0 w L)(hs:L'.Sublist L):dY S w0 w L':=
 ⟨λp hp=>h.iX p (hs.subset hp),(hs.map _).nodup h.nodup,h.fr,λp hp=>h.own p (hs.subset hp)⟩
variable {K:Addr->Prop} {s:Sl} {size cap:Nat}
def vD{i:Int}{o:Nat}(hs:s.a=some (dh b o))(hi:0<=i/\i<(s.len:Int))(k:K ⟨b,o+i.toNat*size,none⟩):idx s i size K:=
 ⟨_,hs,hi,by rw[Addr.j1];exact k⟩
def vV{S:Type}{B:(S->WP)->S->WP}{s:S}(h:∀X:S->WP,(∀s w,loop S B s w->X s w)->B X s w):loop S B s w:=by intro J hJ;exact hJ s w (h J λs' w' hl=>hl J hJ)
def qsl{S:Type}{B:(S->WP)->S->WP}{s:S}(s':S)(hs:s=s')(h:∀X:S->WP,(∀s w,loop S B s w->X s w)->B X s' w):loop S B s w:=by subst hs;exact vV h
def cond_true{b:Bool}(h:b=true)(k:A):cond b A B:=by rw[h];exact k
def LJ{b:Bool}(h:b=true)(k:A):cond b A B:=by rw[h];exact k
def y_{b:Bool}(k:A)(h:b=true:=by exact rfl):cond b A B:=LJ h k
def cond_false{b:Bool}(h:b=false)(k:B):cond b A B:=by rw[h];exact k
def LK{b:Bool}(h:b=false)(k:B):cond b A B:=by rw[h];exact k
def x_{b:Bool}(k:B)(h:b=false:=by exact rfl):cond b A B:=LK h k
def ur{o len:Nat}{i:Int}(h0:0<=i)(h1:i<(len:Int))(k:K ⟨b,o+i.toNat*size,none⟩):idx ⟨some (dh b o),len,cap⟩ i size K:=
 vD rfl ⟨h0,h1⟩ k
variable {K:Prop} {r:Result Me}
def gY{H:WP}(h:H w)(k:K):held [H] w K:=⟨h,k⟩
def jU{H H':WP}(h:H w)(h':H' w)(k:K):held [H,H'] w K:=⟨⟨h,h'⟩,k⟩
def nh{H H' H'':WP}(h:H w)(h':H' w)(h'':H'' w)(k:K):held [H,H',H''] w K:=⟨⟨h,h',h''⟩,k⟩
def dY.cell(h:dY S w0 w L)(i:Nat)(hi:L[i]?=some (b,.cells cs T fr):=by exact rfl)(hx:cs[off]?=some v:=by exact rfl):w.cell? (dh b off)=some v:=by rw[jI (h.at hi)];exact hx
def dY.cells(h:dY S w0 w L)(i:Nat)(hi:L[i]?=some (b,.cells cs T fr):=by exact rfl)(hx:(cs.toList.drop off).take vs.length=vs:=by exact rfl):kU w (dh b off) 0 vs:=
 Aj (h.at hi) _ off 0 hx
def DD (P:Mg) (t:Mf) (cs:Array Me) (off:Nat):Option Me:=
 bif qm P t then bif fR P t then some (.agg (cs.extract off (off+fv P t))) else cs[off]? else none
def Hs(h:DD P t cs off=some v)(w:Md):(part t cs off).run P w=.ok v w:=by
 unfold DD at h;cases ho:qm P t with
 | false=>rw[ho] at h;cases h
 | true=>
  rw[ho] at h;rw[EY (by simp[ho])];cases ha:fR P t with|true=>rw[ha] at h;simp at h;simp[h]|false=>rw[ha] at h;simp at h;simp[h]
def tU (P:Mg) (f:Mf->Me->Me->Option Bool) (xs ys:Array Me):List Field->Option Bool
 | []=>some true
 | x::fs=>
  if x.name≠ "_" then
   match DD P x.type xs x.offset,DD P x.type ys x.offset with
   | some a,some b=>match f x.type a b,tU P f xs ys fs with|some r,some q=>some (bif r then q else false)|_,_=>none
   | _,_=>none
  else tU P f xs ys fs
def uS (P:Mg) (f:Mf->Me->Me->Option Bool) (e:Mf) (n:Nat) (xs ys:Array Me):Mk->Option Bool
 | []=>some true
 | i::is=>
  match DD P e xs (i*n),DD P e ys (i*n) with
  | some a,some b=>match f e a b,uS P f e n xs ys is with|some r,some q=>some (bif r then q else false)|_,_=>none
  | _,_=>none
def xk (P:Mg):Nat->Mf->Me->Me->Option Bool
 | 0,_,_,_=>none
 | d+1,t,x,y=>
  match P.underlying t,x,y with|some .bool,.bool a,.bool b=>some (a==b)|some (.int _),.int k a,.int k' b=>bif k==k' then some (a==b) else none|some .string,.string a,.string b=>some (a.toList==b.toList)|some (.struct _),.agg xs,.agg ys=>bif P.stoodInHeld t then none else tU P (xk P d) xs ys (P.fieldsOf t).toList|some (.array n e),.agg xs,.agg ys=>bif qm P e then uS P (xk P d) e (P.cellsOf e) xs ys (List.range n) else none|_,_,_=>none
def IM{P:Mg}{d:Nat}{f:Mf->Me->Me->Option Bool}(hf:∀t x y r,f t x y=some r->∀w,(Op.equalIn d t x y).run P w=.ok r w){xs ys:Array Me}: ∀ {fs:List Field} {r:Bool},tU P f xs ys fs=some r->∀w,(Op.eqFields d xs ys fs).run P w=.ok r w
 | [],r,h,w=>by simp[tU] at h;subst h;rfl
 | x::fs,r,h,w=>by
  simp only[tU] at h;simp only[Op.eqFields];split at h;rename_i hn;rw[iP hn];split at h;rename_i a b ha hb;split at h;rename_i r1 q h1 h2;cases h;simp only[LS,Hs ha,Hs hb,LU,hf _ _ _ _ h1];cases r1 with|false=>simp|true=>simpa using IM hf h2 w
  cases h;cases h;rename_i hn;rw[iN hn];exact IM hf h w
def quk{P:Mg}{d:Nat}{f:Mf->Me->Me->Option Bool}(hf:∀t x y r,f t x y=some r->∀w,(Op.equalIn d t x y).run P w=.ok r w){e n:Nat}{xs ys:Array Me}: ∀ {is:Mk} {r:Bool},uS P f e n xs ys is=some r->∀w,(Op.eqItems d e n xs ys is).run P w=.ok r w
 | [],r,h,w=>by simp[uS] at h;subst h;rfl
 | i::is,r,h,w=>by
  simp only[uS] at h;simp only[Op.eqItems];split at h;rename_i a b ha hb;split at h;rename_i r1 q h1 h2;cases h;simp only[LS,Hs ha,Hs hb,LU,hf _ _ _ _ h1];cases r1 with|false=>simp|true=>simpa using quk hf h2 w
  cases h;cases h
def Ht{P:Mg}:∀(d:Nat) (t:Mf) (x y:Me) (r:Bool),xk P d t x y=some r->∀k w,(Op.equalIn (d+k) t x y).run P w=.ok r w
 | 0,_,_,_,_,h,_,_=>by cases h
 | d+1,t,x,y,r,h,k,w=>by
  rw[show d+1+k=(d+k)+1 by omega];simp only[xk] at h;split at h;rename_i hu;cases h;exact run_equalIn_bool' w _ _ _ _ hu;rename_i q k1 a k2 b hu;cases hkk:k1==k2 with
  | false=>rw[hkk] at h;cases h
  | true=>
   rw[hkk] at h;cases h
   have:=eq_of_beq hkk;subst this;exact run_equalIn_int w _ _ _ _ _ _ hu
  rename_i hu;cases h;exact run_equalIn_string w _ _ _ _ hu;rename_i hu;cases hs:P.stoodInHeld t with
  | true=>rw[hs] at h;cases h
  | false=>
   rw[hs] at h;rw[run_equalIn_struct w (d+k) t _ _ (by rw[hu];unfold Program.fieldsOf;rw[hu]) hs];exact IM (λt x y r h w=>Ht d t x y r h k w) h w
  rename_i n e xs ys hu;cases ho:qm P e with
  | false=>rw[ho] at h;cases h
  | true=>
   rw[ho] at h;obtain⟨i,hi⟩:=Option.isSome_iff_exists.1 (xp (P:=P) (t:=e) (by simp[ho])).1;rw[run_equalIn_array w (d+k) xs ys hu hi];exact quk (λt x y r h w=>Ht d t x y r h k w) h w
  cases h
def qEM{ds:Array Me}{K:Bool->Prop}(d:Nat)(hd:d<=10000)(r:Bool)(h:xk P d t (.agg cs) (.agg ds)=some r)(hg:P.eqGuardType P.depth t=false)(k:K r): eO [jV.one Cell.bool] (λw'=>(do eqGuard .eql t x y (.agg cs) (.agg ds);binOp .eql t (.agg cs) (.agg ds):Sem Me).run P w') w K:=by have hr:=Ht d t _ _ r h (10000-d) w;rw[show d+(10000-d)=10000 by omega] at hr;have hb:(binOp .eql t (.agg cs) (.agg ds)).run P w=.ok (.bool r) w:=wW false hr oN oN oN oN;refine⟨r,?_,k⟩;show ((do eqGuard .eql t x y (.agg cs) (.agg ds);binOp .eql t (.agg cs) (.agg ds):Sem Me).run P w)=Result.ok (Value.bool r) w;simp[eqGuard,hg,hb]
section
open Go Go.RowKit Go.ChangeShapes List
variable {P:Mg} {base:Nat} {r:Reach} {w:Md}
def pL (P:Mg) (u:Mf):Cell:=
 match P.underlying u with|some (.int k)=>.int k|some .bool=>.bool|some .string=>.str|some (.pointer _)=>.ptr|some (.slice _)=>.slice|some (.map _ _)=>.map|_=>.any
@[reducible] def wL:(c:Cell)->c.El->Prop
 | .int k,n=>k.has n
 | .str,s=>(s.size:Int)<=IntKind.i64.max
 | .slice,s=>s.len<=s.cap/\(s.cap:Int)<=IntKind.i64.max/\(s.a=none->s.cap=0)
 | _,_=>True
def Jx{u:Mf}{v:Me}{c:Cell}(hc:pL P u=c)(h:Cell.okWide P w r base u v):∃x:c.El,v=c.mk x/\wL c x:=by
 unfold pL at hc;split at hc<;>subst hc;rename_i k hu;simp only[Cell.okWide,hu] at h;cases v<;>simp only[Cell.ok,hu] at h;rename_i q n;obtain⟨rfl,h⟩:=h;exact⟨n,rfl,h⟩;rename_i hu;simp only[Cell.okWide,hu] at h;cases v<;>simp only[Cell.ok,hu] at h;rename_i b;exact⟨b,rfl,trivial⟩;rename_i hu;simp only[Cell.okWide,hu] at h;cases v<;>simp only[Cell.ok,hu] at h;rename_i s;exact⟨s,rfl,h⟩;rename_i e hu;simp only[Cell.okWide,hu] at h;cases v<;>simp only[Cell.ok,hu] at h;rename_i p;exact⟨p,rfl,trivial⟩;rename_i e hu;simp only[Cell.okWide,hu] at h;cases v<;>simp only[Cell.ok,hu] at h;rename_i a l c;cases a with
 | none=>
  cases l with
  | succ l=>simp at h
  | zero=>cases c with|succ c=>simp at h|zero=>exact⟨dN,rfl,zM _,oO,λ_=>rfl⟩
 | some a=>exact⟨⟨some a,l,c⟩,rfl,h.1,h.2.1,λe=>by cases e⟩
 rename_i k e hu;simp only[Cell.okWide,hu] at h;cases v<;>simp only[Cell.ok,hu] at h;rename_i m;exact⟨m,rfl,trivial⟩;exact⟨v,rfl,trivial⟩
def dV:(cs:List Cell)->HL cs->Prop
 | [],_=>True
 | [c],x=>wL c x
 | c::d::cs,x=>wL c x.1/\dV (d::cs) x.2
def qpm{P:Mg}{w:Md}{r:Reach}{base:Nat}:∀ {ts:List Mf} {vs:List Me} {cs:List Cell},ts.map (pL P)=cs->vs.length=ts.length->(∀(i:Nat) v,vs[i]?=some v->∃u,ts[i]?=some u/\Cell.okWide P w r base u v)->∃x:HL cs,vs=HL.mk cs x/\dV cs x
 | [],vs,cs,hc,hl,h=>by simp at hc hl;subst hc hl;exact⟨(),rfl,trivial⟩
 | [t],vs,cs,hc,hl,h=>by
  simp at hc hl;subst hc;match vs,hl with
  | [v],_=>
   obtain⟨u,hu,ho⟩:=h 0 v rfl;simp at hu;subst hu;obtain⟨x,hx,hf⟩:=Jx rfl ho;exact⟨x,by rw[hx];rfl,hf⟩
 | t::t'::ts,vs,cs,hc,hl,h=>by
  match vs,hl with
  | v::vs,hl=>
   simp only[xM] at hc;subst hc;obtain⟨u,hu,ho⟩:=h 0 v rfl;simp at hu;subst hu;obtain⟨x,hx,hf⟩:=Jx rfl ho;obtain⟨y,hy,hg⟩:=qpm (P:=P) (w:=w) (r:=r) (base:=base) (ts:=t'::ts) (vs:=vs) rfl (oS hl) (λi v hv=>by simpa using h (i+1) v (oS hv));exact⟨(x,y),by rw[hx,hy];rfl,hf,hg⟩
def qBO{t:Mf}{v:Me}{cs:List Cell}(ht:fR P t=true)(hts:(P.cellTypes P.depth t).map (List.map (pL P))=some cs)(hn:P.cellsOf t=cs.length)(h:Value.okWide P w r base t v):∃x:HL cs,v=.agg (HL.mk cs x).toArray/\dV cs x:=by
 obtain⟨ts,hts,hc⟩:=yT.1 hts;replace hn:P.cellsOf t=ts.length:=(by rw[hn,<- hc];simp);have h':∃cs,v=.agg cs/\cs.size=P.cellsOf t/\Row.okWide P w r base t cs:=by
  unfold Value.okWide at h;unfold fR at ht;split at h;exact h;exact h
  ·exfalso;split at ht<;>simp_all
 obtain⟨vs,rfl,hsz,ts',hts',_,hall⟩:=h';rw[hts] at hts';cases hts';obtain⟨x,hx,hf⟩:=qpm (vs:=vs.toList) hc (by simpa[hn] using hsz) (λi v hv=>by
  have hv':vs[i]?=some v:=(oS hv);have hi:i<ts.length:=by rw[<- hn,<- hsz];rcases Nat.lt_or_ge i vs.size with hl|hl;exact hl;rw[Array.getElem?_eq_none hl] at hv';cases hv'
  have:=hall i v hv';rw[Nat.mod_eq_of_lt hi] at this;exact this)
 exact⟨x,by rw[<- hx],hf⟩
def qCx{t:Mf}{v:Me}{c:Cell}(ht:fR P t=false)(hc:pL P t=c)(h:Value.okWide P w r base t v):∃x:c.El,v=c.mk x/\wL c x:=by
 refine Jx hc (w:=w) (r:=r) (base:=base) ?_;unfold Value.okWide at h;unfold fR at ht;split at h
 ·simp_all
 ·simp_all
 exact h
def Fr.below{w':Md}(h:Fr [] w w'):Below w.z w w':=⟨h.os,h.tape,h.output,h.size,λi hi=>h.block i hi oN⟩
section
variable {H:Type} {enc:Mf×Me->H} {P:Mg}
def qkk(hl:laidOutB P=true){W W':Md}(hb:Below W.z W W'):∀ {ts:List Mf} {vs:List Me} {ds:List (DataW H)} {ps:List MemPlace}, (ts.all λt=>P.readableRec t&&decide (t<P.types.size))=true->DataW.TrodAll enc P W 0 (λ_=>true) true ts vs ds ps->(∀x∈ps,x.block<W.z)-> DataW.TrodAll enc P W' 0 (λb=>decide (b<W.z)) true ts vs ds ps
 | [],vs,ds,ps,_,h,_=>by obtain⟨rfl,rfl,rfl⟩:=trodAll_nil h;exact trodAll_mk0
 | t::ts,vs,ds,ps,hr,h,hlt=>by
  simp only[all_cons,yB,decide_eq_true_eq] at hr;obtain⟨v,vs',d,ds',p,p',rfl,rfl,rfl,h1,h2⟩:=trodAll_cons h;exact trodAll_cons_mk (Below.trod hl hr.1.1 hr.1.2 h1 hb λx hx=>hlt x (zH _ hx))
   (qkk hl hb (oS hr.2) h2 λx hx=>hlt x (zI _ hx))
def qCk{fn:Func}{s:ChangeSpec}{W W':Md}{args:Array Me}{ds gs:List (DataW H)}{before:List MemPlace}{tb:Mf}(hv:s.vars=[])(hW:DataW.Whole enc P fn.params.toList s.vars false W args.toList ds gs before)(hs:(s.fn H ds).results=[.lit (.bool true)]/\(s.fn H ds).args=ds/\(s.fn H ds).vars=[])(hl:laidOutB P=true)(hr:(fn.params.toList.all λt=>P.readableRec t&&decide (t<P.types.size))=true)(hres:fn.resultTypes = #[tb])(htb:P.underlying tb=some .bool)(hb:Below W.z W W'):ChangeSpec.post enc P fn s false true false false W args (.bool true) W':=by have hW':=hW;obtain⟨p,q,hA,hV,hbe,_,_⟩:=hW;rw[hv] at hV;obtain⟨rfl,rfl⟩:=trodVars_none hV;obtain⟨h1,h2,h3⟩:=hs;rw[<- xG ds] at h1 h2 h3;refine⟨ds,[],before,[],p,[],hW',?_,?_,?_,hb.frame _,λh=>by cases h⟩;rw[h1,hres];exact trodAll_cons_mk (shut_bool htb _) trodAll_mk0;rw[h2,xG];exact qkk hl hb hr hA λx hx=>hW'.lt x (by rw[hbe];exact zH _ hx);rw[h3,hv];exact (rfl:DataW.TrodVars enc P W' (λb=>decide (b<W.z)) [] [] [])
end
end
def CL{b:Nat}{T:Mf}{fr:Mu}:∀ {vs:List Me} {off:Nat} {w:Md} {cs:Array Me},w.heap[b]?=some (.cells cs T fr)->w.setCells b off vs=jA w b (.cells (d7 cs off vs) T fr)
 | [],off,w,cs,h=>by
  show w=_;unfold jA d7;have:w.heap.setIfInBounds b (.cells cs T fr)=w.heap:=by apply Array.ext_getElem?;intro i;rw[Mb];by_cases hi:b=i;subst hi;rw[iP rfl,iP (gg h),h];simp[hi]
  rw[this]
 | v::vs,off,w,cs,h=>by have h1:w.setCells b off (v::vs)=(w.setCell (dh b off) v).setCells b (off+1) vs:=rfl;rw[h1,qnU h];have h2:(jA w b (.cells (cs.setIfInBounds off v) T fr)).heap[b]?=some (.cells (cs.setIfInBounds off v) T fr):=(by rw[sO _ _ _ _ (gg h),iP rfl]);rw[CL h2,qxh];rfl
def yy{s:Nat}(h:(P.info? t).map (λi=>(i.zero,i.size,i.bytes))=some (some z,s,b)):∃i,P.info? t=some i/\i.zero=some z/\i.size=s/\i.bytes=b:=by obtain⟨i,hi,he⟩:=yT.1 h;simp only[Prod.mk.injEq] at he;exact⟨i,hi,he.1,he.2.1,he.2.2⟩
def tf{r:Md->Result Me}{K:kH ts->Prop}(x:kH ts)(h:r w=.ok (gU ts x) w)(k:K x):eO ts r w K:=⟨x,h,k⟩
def qAS{K:kH ts->WP}(x:kH ts)(w':Md)(h:r=.ok (gU ts x) w')(k:K x w'):Pt.run ts r K:=⟨x,w',h,k⟩
def HP{r:Result Unit}{K:WP}(w':Md)(h:r=.ok () w')(k:K w'):jt r K:=⟨w',h,k⟩
def Lo(a:Addr):a.add 0=a:=by
 cases a with
 | mk b o k=>cases k<;>simp[Addr.add]
variable {K:Sl->Prop}
def Dk{hi:Int}(h:0<=hi/\hi<=s.cap)(k:K ⟨s.a,hi.toNat,s.cap⟩):gi s none (some hi) none size K:=by
 unfold gi;refine⟨⟨oN,by simpa using h.1,by simpa using h.2,oN⟩,?_⟩;have e:(s.a.map (·.add ((none:Option Int).getD 0).toNat))=s.a:=by
  cases s.a with|none=>rfl|some a=>simp[Lo]
 simp only[xU,xT,Int.toNat_zero,Nat.zero_mul,Nat.sub_zero,zJ] at e⊢;rw[e,ite_self];exact k
def qFd{o len:Nat}{lo:Int}(h:0<=lo/\lo<=len)(hc:len<=cap)(k:∀o',(lo<cap->o'=o+lo.toNat*size)->K ⟨some ⟨b,o',none⟩,len-lo.toNat,cap-lo.toNat⟩): gi ⟨some (dh b o),len,cap⟩ (some lo) none none size K:=by unfold gi;refine⟨⟨by simpa using h.1,by simpa using h.2,by simpa using hc,oN⟩,?_⟩;simp only[xU,xT,zJ];by_cases e:cap=lo.toNat;rw[iP e];exact k o λh=>oL;rw[iN e];simp only[Option.map_some,Addr.j1];exact k _ (λ_=>rfl)
variable {K:Sl->WP} {c:Nat} {e ty:Mf} {B:Mk} {name:String}
def zz(s:Sl)(w':Md)(h:r=.ok (.slice s.a s.len s.cap) w')(k:K s w'):Pt.run di r K:=⟨s,w',h,k⟩
def qDx(ht:P.underlying t=some (.slice e))(hi:P.info? e=some i)(news:List Me)(hb:w.heap[b]?=some (.c cs T))(hl:news.length=m*i.size)(hnews:∀(j:Nat) u,news[j]?=some u->w.cell? (a.add j)=some u)(h1:∀u∈news,u.oneCell'=true)(hroom:n+m<=cap)(hsz:off+n*i.size+news.length<=cs.size)(k:K ⟨some (dh b off),n+m,cap⟩ (jA w b (.c (d7 cs (off+n*i.size) news) T))): Pt.run di ((Builtin.append_ #[t,t] ty #[.slice (some (dh b off)) n cap,.slice (some a) m c]).run P w) K:=by refine zz ⟨_,_,_⟩ _ (run_append_room_cells w t ty e i ht hi b off n cap a m c news hl hnews h1 hroom (λj hj=>?_) λj hj=>?_) ?_;rw[jI hb];have:off+n*i.size+j<cs.size:=oL;simp[this];simp[World.frozen?,hb];rw[CL hb];exact k
def qBQ{b:Addr}(ht:P.underlying t=some (.slice e))(hi:P.info? e=some i)(hz:i.zero=some z)(olds news:List Me)(hlo:olds.length=n*i.size)(holds:∀(j:Nat) u,olds[j]?=some u->w.cell? (b.add j)=some u)(hl:news.length=m*i.size)(hnews:∀(j:Nat) u,news[j]?=some u->w.cell? (a.add j)=some u)(hg:cap<n+m)(hbytes:(n+m)*i.bytes<=140737488355328)(h63:n+m<=9223372036854775807)(k:∀q,n+m<=q->q<=maxLen->K ⟨some ⟨w.z,0,none⟩,n+m,q⟩ (w.drew.alloc (.cells (olds.toArray++news.toArray++Builtin.zeroCells z.cells (q-(n+m))) e))): Pt.run di ((Builtin.append_ #[t,t] ty #[.slice (some b) n cap,.slice (some a) m c]).run P w) K:=by exact zz ⟨_,_,_⟩ _ (run_append_grow w t ty e i z ht hi hz b n cap olds hlo holds a m c news hl hnews hg oL (growslice_fits hg hbytes))<|k _ (grownCap_ge w (n+m) cap e) (grownCap_le_maxLen w (n+m) cap e (by unfold maxLen;omega))
def qDy(ht:P.underlying t=some (.slice e))(hi:P.info? e=some i)(hz:i.zero=some z)(news:List Me)(hl:news.length=m*i.size)(hnews:∀(j:Nat) u,news[j]?=some u->w.cell? (a.add j)=some u)(hm:0<m)(hbytes:m*i.bytes<=140737488355328)(h63:m<=9223372036854775807)(k:∀q,m<=q->q<=maxLen->K ⟨some ⟨w.z,0,none⟩,m,q⟩ (w.drew.alloc (.cells (news.toArray++Builtin.zeroCells z.cells (q-m)) e))): Pt.run di ((Builtin.append_ #[t,t] ty #[.slice none 0 0,.slice (some a) m c]).run P w) K:=by exact zz ⟨_,_,_⟩ _ (run_append_nil w t ty e i z ht hi hz a m c news hl hnews hm oL oL)<|k _ (grownCap_ge w m 0 e) (grownCap_le_maxLen w m 0 e (by unfold maxLen;omega))
section
variable {α:Type} {enc:α->List Me} {k:Nat}
def eT (enc:α->List Me) (k:Nat) (S:Mk) (w:Md) (s:Sl) (l:List α):Prop:=
 s.len=l.length/\s.len<=s.cap/\(l=[]\/∃b o cs T fr,s.a=some (dh b o)/\w.heap[b]?=some (.cells cs T fr)/\b∉S/\∀(i:Nat) x,l[i]?=some x->(cs.toList.drop (o+i*k)).take k=enc x)
def eT.j0{S':Mk}{w:Md}{l:List α}(h:eT enc k S w s l)(f:Fr S w w')(hS:∀b∈S',b∈S\/w.z<=b):eT enc k S' w' s l:=by
 obtain⟨h1,h2,h3⟩:=h;refine⟨h1,h2,?_⟩;rcases h3 with h3|⟨b,o,cs,T,fr,ha,hb,hn,hc⟩;exact .inl h3;refine .inr ⟨b,o,cs,T,fr,ha,by rw[f.block b (gg hb) hn];exact hb,λhs=>?_,hc⟩;have:=gg hb;rcases hS b hs with h'|h';exact hn h';omega
def eT.q9{w:Md}{l:List α}(h:eT enc k S w s l)(f:Fr [] w w'):eT enc k S w' s l:=
 h.j0 (f.mono λi hi _=>by cases hi) (λb hb=>.inl hb)
def eT.drew{S:Mk}{w:Md}{s:Sl}{l:List α}(h:eT enc k S w s l):eT enc k S w.drew s l:=h
def eT.same{w:Md}{l:List α}(h:eT enc k S w s l)(f:sD w w'):eT enc k S w' s l:=h.j0 (.of_same f) (λb hb=>.inl hb)
def eT.j6{S':Mk}{w:Md}{l:List α}(h:eT enc k S w s l)(hS:∀b∈S',b∈S\/w.z<=b):eT enc k S' w s l:=h.j0 (.refl _ _) hS
def eT.nil(enc:α->List Me)(k:Nat)(S:Mk)(w:Md):eT enc k S w dN []:=⟨rfl,zM _,.inl rfl⟩
def eT.at{S:Mk}{w:Md}{s:Sl}{l:List α}(h:eT enc k S w s l)(n:Nat){x:α}(hx:l[n]?=some x): n<s.len/\∃b o,s.a=some (dh b o)/\b∉S/\∃cs T fr,w.heap[b]?=some (.cells cs T fr)/\(cs.toList.drop (o+n*k)).take k=enc x:=by obtain⟨h1,h2,h3⟩:=h;have hn:=(zP.1 hx).1;rcases h3 with h3|⟨b,o,cs,T,fr,ha,hb,hnS,hc⟩;rw[h3] at hx;simp at hx;exact⟨oL,b,o,ha,hnS,cs,T,fr,hb,hc n x hx⟩
def eT.get{w:Md}{l:List α}{c:Cell}(h:eT enc 1 S w s l)(n:Nat){i:Int}{x:α}{y:c.El}{K:c.El->Prop}(hi:i=n)(hx:l[n]?=some x)(hy:enc x=[c.mk y])(kk:K y):idx s i 1 λa=>ld c a w K:=by
 subst hi;obtain⟨hn,b,o,ha,_,cs,T,fr,hb,hc⟩:=h.at n hx;refine vD ha ⟨oL,oL⟩ ?_;rw[zJ];refine iH hb y ?_ kk;rw[hy] at hc;have:=Ma (·[0]?) hc;simpa using this
def eT.qC{w:Md}{l:List α}{cl:List Cell}(h:eT enc k S w s l)(n:Nat){i:Int}{x:α}{y:HL cl}{K:HL cl->Prop}(hi:i=n)(hx:l[n]?=some x)(hk:cl.length=k)(hy:enc x=HL.mk cl y)(kk:K y):idx s i k λa=>dP cl a w K:=by subst hi hk;obtain⟨hn,b,o,ha,_,cs,T,fr,hb,hc⟩:=h.at n hx;refine vD ha ⟨oL,oL⟩ ?_;rw[zJ];refine⟨y,Aj hb _ _ 0 ?_,kk⟩;rw[HL.j3,Nat.add_zero,hc,hy]
def eT.drop{S:Mk}{w:Md}{s:Sl}{l:List α}(h:eT enc k S w s l)(n:Nat){lo:Int}{K:Sl->Prop}(hlo:lo=n)(hn:n<=l.length)(hl:0<l.length)(kk:∀s',eT enc k S w s' (l.drop n)->K s'):gi s (some lo) none none k K:=by
 subst hlo;obtain⟨h1,h2,h3⟩:=h;rcases h3 with h3|⟨b,o,cs,T,fr,ha,hb,hnS,hc⟩;rw[h3] at hl;simp at hl;obtain⟨a,len,cap⟩:=s;simp only at ha h1 h2;subst ha;refine qFd ⟨oL,oL⟩ h2 λo' ho'=>?_;rw[zJ] at ho'⊢;refine kk _ ⟨by simp only[yC];omega,by dsimp only;omega,?_⟩;by_cases he:l.drop n=[];exact .inl he;have hlt:n<l.length:=by rcases Nat.lt_or_ge n l.length with h|h;exact h;exact absurd (vB h) he
 refine .inr ⟨b,o',cs,T,fr,rfl,hb,hnS,λi x hx=>?_⟩;rw[ho' oL,Nat.add_assoc,<- xS];refine hc (n+i) x ?_;rw[xA] at hx;exact hx
def eT.cells{w:Md}{l:List α}(h:eT enc k S w s l)(henc:∀x,(enc x).length=k)(ha:s.a=some a):∀(j:Nat) u,(l.flatMap enc)[j]?=some u->w.cell? (a.add j)=some u:=by
 obtain⟨h1,h2,h3⟩:=h;rcases h3 with h3|⟨b,o,cs,T,fr,ha',hb,hnS,hc⟩;rw[h3];intro j u hj;simp at hj;rw[ha'] at ha;cases ha;have key:∀(l:List α) (o:Nat),(∀(i:Nat) x,l[i]?=some x->(cs.toList.drop (o+i*k)).take k=enc x)->∀(j:Nat) u,(l.flatMap enc)[j]?=some u->cs[o+j]?=some u:=by
  intro l;induction l with
  | nil=>intro o _ j u hj;simp at hj
  | cons x l ih=>
   intro o hc j u hj;rw[yH] at hj;by_cases hjk:j<k;rw[yZ (by rw[henc];exact hjk)] at hj;have h0:=hc 0 x rfl;rw[<- h0,xB,iP hjk,xA] at hj;simpa using hj;rw[yY (by rw[henc];omega),henc] at hj;have:=ih (o+k) (λi x hx=>by
    have:=hc (i+1) x (oS hx);rw[<- this];congr 2;rw[xS];omega) (j-k) u hj
   rw[<- this];congr 1;omega
 intro j u hj;rw[Addr.j1,jI hb];exact key l o hc j u hj
def eZ (enc:α->List Me) (k:Nat) (w:Md) (s:Sl) (l:List α) (B:Mk):Prop:=
 (s=dN/\l=[]/\B=[])\/∃b o cs T,B=[b]/\o=0/\s.a=some (dh b o)/\w.heap[b]?=some (.c cs T)/\s.len=l.length/\s.len<=s.cap/\o+s.cap*k<=cs.size/\(cs.toList.drop o).take (l.length*k)=l.flatMap enc
def uX(henc:∀x,(enc x).length=k):∀l:List α,(l.flatMap enc).length=l.length*k
 | []=>by simp
 | x::l=>by rw[yH,zF,henc,uX henc l,yI,xS];omega
def JV(henc:∀x,(enc x).length=k):∀(l:List α) (i:Nat) (x:α),l[i]?=some x->((l.flatMap enc).drop (i*k)).take k=enc x
 | [],i,x,h=>by simp at h
 | y::l,0,x,h=>by simp at h;subst h;rw[yH,Nat.zero_mul,xE,LO (by rw[henc];exact zM _),zS (by rw[henc];exact zM _)]
 | y::l,i+1,x,h=>by rw[yH,xS,Nat.one_mul,Nat.add_comm,drop_append,henc,vA,vB (by rw[henc];omega),xH];exact JV henc l i x (oS h)
def eZ.nil(enc:α->List Me)(k:Nat)(w:Md):eZ enc k w dN [] []:=.inl ⟨rfl,rfl,rfl⟩
def eZ.len{w:Md}{s:Sl}{l:List α}{B:Mk}(h:eZ enc k w s l B):s.len=l.length:=by rcases h with ⟨rfl,rfl,_⟩|⟨b,o,cs,T,_,_,_,_,h,_⟩;rfl;exact h
def eZ.ju{w:Md}{l:List α}(henc:∀x,(enc x).length=k)(h:eZ enc k w s l B)(hS:∀b∈B,b∉S):eT enc k S w s l:=by
 rcases h with ⟨rfl,rfl,rfl⟩|⟨b,o,cs,T,rfl,ho0,ha,hb,h1,h2,h3,h4⟩;exact .nil _ _ _ _;refine⟨h1,h2,.inr ⟨b,o,cs,T,_,ha,hb,hS b oN,λi x hx=>?_⟩⟩;have hi:=(zP.1 hx).1;have:=JV henc l i x hx;rw[<- h4] at this;rw[<- this,drop_take,xC,take_take,xP];have:(i+1)*k<=l.length*k:=L0 k hi;rw[xS] at this;omega
def eZ.j0{w:Md}{l:List α}(h:eZ enc k w s l B)(f:Fr S w w')(hS:∀b∈B,b∉S):eZ enc k w' s l B:=by rcases h with h|⟨b,o,cs,T,rfl,ho0,ha,hb,h1⟩;exact .inl h;exact .inr ⟨b,o,cs,T,rfl,ho0,ha,by rw[f.block b (gg hb) (hS b oN)];exact hb,h1⟩
def eZ.q9{w:Md}{l:List α}(h:eZ enc k w s l B)(f:Fr [] w w'):eZ enc k w' s l B:=h.j0 f (λ_ _ h=>by cases h)
def eZ.lt{w:Md}{l:List α}(h:eZ enc k w s l B):∀b∈B,b<w.z:=by rcases h with ⟨_,_,rfl⟩|⟨b,o,cs,T,rfl,ho0,ha,hb,h1⟩;intro b hb;cases hb;intro c hc;simp at hc;subst hc;exact gg hb
def eZ.fresh(henc:∀x,(enc x).length=k){w:Md}{b:Nat}{T:Mf}{l:List α}{n cap:Nat}(hb:w.heap[b]?=some (.c cs T))(hn:n=l.length)(hc:n<=cap)(hcs:cap*k<=cs.size)(hl:cs.toList.take (l.length*k)=l.flatMap enc):eZ enc k w ⟨some (dh b),n,cap⟩ l [b]:=
 .inr ⟨b,0,cs,T,rfl,rfl,rfl,hb,hn,hc,by rw[xQ];exact hcs,by rw[xE];exact hl⟩
def AU{w:Md}{b:Nat}(hb:b<w.z)(o:Obj):Fr [b] w (jA w b o):=
 ⟨rfl,rfl,rfl,by rw[Af];exact zM _,λj hj hS=>by rw[sO _ _ _ _ hb,iN (oS hS)]⟩
def qCp(L Y R:List Me)(o n:Nat)(h:o+n<=L.length):((L.take (o+n)++Y++R).drop o).take (n+Y.length)=(L.drop o).take n++Y:=by have e1:(L.take (o+n)).length=o+n:=oQ;have e2:((L.drop o).take n).length=n:=oQ;rw[zV,LW oL,drop_take,vA,take_append,e2,zS oL,vA,LO (zM _),zS (zM _)]
variable {P:Mg}
def GY(z:Array Me)(n:Nat):(Builtin.zeroCells z n).size=n*z.size:=by simp[Builtin.zeroCells]
def eZ.j2{w:Md}{tx e:Mf}{i:TypeInfo}{l ys:List α}{x:Me}{m:Nat}(h:eZ enc k w s l B)(henc:∀x,(enc x).length=k)(ht:P.underlying t=some (.slice e))(hi:P.info? e=some i)(hz:i.zero=some z)(hsz:i.size=k)(hzs:z.cells.size=k)(hs:Src P k tx x m (ys.flatMap enc) w)(hm:m=ys.length)(hbytes:(l.length+m)*i.bytes<=140737488355328)(h63:l.length+m<=9223372036854775807)(kk:∀s' B' w',eZ enc k w' s' (l++ys) B'->Fr B w w'->(∀b∈B',b∈B\/w.z<=b)->(s'.a.isNone=false\/(s=dN/\s'=dN))->K s' w'): Pt.run di ((Builtin.append_ #[t,tx] ty #[.slice s.a s.len s.cap,x]).run P w) K:=by
 subst hsz hm;have hfl:=uX henc;have hgrow:∀(olds:List Me),olds=l.flatMap enc->s.len=l.length->(Builtin.firstCells i.size s.len (.slice s.a s.len s.cap)).run P w.drew=.ok olds.toArray w.drew->s.cap<s.len+ys.length->
   Pt.run di ((Builtin.append_ #[t,tx] ty #[.slice s.a s.len s.cap,x]).run P w) K:=by
  intro olds ho hl hold hg;refine zz ⟨_,_,_⟩ _ (run_append_grow_src w t tx ty e i z ht hi hz s.a s.len s.cap olds hold x ys.length _ hs hg oL (growslice_fits hg (by rw[hl];exact hbytes))) ?_;have hge:=grownCap_ge w (s.len+ys.length) s.cap e;refine kk _ [w.z] _ (eZ.fresh henc (T:=e) (cs:=(olds++ys.flatMap enc).toArray++Builtin.zeroCells z.cells (grownCap w (s.len+ys.length) s.cap e-(s.len+ys.length))) ?_ (by rw[zF,hl]) hge ?_ ?_) ?_ ?_ ?_;rw[Dl];exact iP rfl;rw[Array.size_append,GY,hzs,size_toArray,zF,ho,hfl,hfl,<- xS,<- xS,hl];have:l.length+ys.length+(grownCap w (l.length+ys.length) s.cap e-(l.length+ys.length))=grownCap w (l.length+ys.length) s.cap e:=(by rw[hl] at hge;omega);rw[this];exact zM _;rw[Array.toList_append,LO (by simp[ho,hfl,xS]),zS (by simp[ho,hfl,xS]),ho,yQ];exact (Fr.refl B w).drew.alloc _;intro b hb;simp at hb;subst hb;exact .inr (zM _);exact .inl rfl
 rcases h with ⟨rfl,rfl,rfl⟩|⟨b,o,cs,T,rfl,ho0,ha,hb,h1,h2,h3,h4⟩;by_cases hy:ys=[];subst hy;refine zz dN w ?_ (kk _ _ _ (.nil _ _ _) (.refl _ _) (λb hb=>.inl hb) (.inr ⟨rfl,rfl⟩));have hc:=hs.cells;simp at hc;rcases hs.kind with ⟨e',hk⟩|hk<;>simp[Builtin.append_,run_underlying ht,run_underlying hk,sizeOf,typeInfo,hi,hs.len,hc];have:=length_pos_iff.2 hy;exact hgrow [] rfl rfl (run_firstCells_none _ _ _ _ _) oP;obtain⟨a,len,cap⟩:=s;subst ha;subst h1;by_cases hroom:l.length+ys.length<=cap;have hsz':=zL (Nat.add_le_add_left (L0 _ hroom) _) h3;rw[xS] at hsz';refine zz ⟨_,_,_⟩ _ (run_append_room_src w t tx ty e i ht hi b o l.length cap x ys.length _ hs hroom (λj hj=>?_) λj hj=>?_) ?_;rw[hfl] at hj;rw[jI hb];simp[show o+l.length*i.size+j<cs.size by omega];simp[World.frozen?,hb];rw[CL hb];refine kk _ [b] _ (.inr ⟨b,o,_,T,rfl,ho0,rfl,by rw[sO _ _ _ _ (gg hb),iP rfl],oN,by dsimp only;omega,by rw[qI];exact h3,?_⟩) (AU (gg hb) _) (λc hc=>.inl hc) (.inl rfl);rw[tM _ _ _ (by rw[hfl];omega),zF,xS,yQ,<- h4];have:=qCp cs.toList (ys.flatMap enc) (cs.toList.drop (o+l.length*i.size+(ys.flatMap enc).length)) o (l.length*i.size) oQ;rw[hfl] at this⊢;exact this;refine hgrow (l.flatMap enc) rfl rfl (run_firstCells_some _ _ _ _ _ _ _ (hfl l) λj u hj=>?_) oP;rw[Addr.j1];show w.cell? _=_;rw[jI hb];have hjl:j<l.length*i.size:=by
  have:=(zP.1 hj).1;rw[hfl] at this;exact this
 rw[<- h4,xB,iP hjl,xA] at hj;simpa using hj
def eZ.push{w:Md}{e T':Mf}{i:TypeInfo}{l:List α}{x:α}{cs':Array Me}(h:eZ enc k w s l B)(henc:∀x,(enc x).length=k)(hone:∀u∈enc x,u.oneCell'=true)(ht:P.underlying t=some (.slice e))(hi:P.info? e=some i)(hz:i.zero=some z)(hsz:i.size=k)(hzs:z.cells.size=k)(hcs:cs'.toList=enc x)(hbytes:(l.length+1)*i.bytes<=140737488355328)(h63:l.length+1<=9223372036854775807)(kk:∀s' B' w',eZ enc k w' s' (l++[x]) B'->Fr B w w'->(∀b∈B',b∈B\/w.z<=b)->K s' w'): Pt.new (.cells cs' T') w λr w1=>Pt.run di ((Builtin.append_ #[t,t] ty #[.slice s.a s.len s.cap,.slice (some (dh r)) 1 1]).run P w1) K:=by have ho:=(dY.start [] w).alloc (.cells cs' T');refine dY.new (dY.start [] w) λb w1 eb sb ho=>eZ.j2 (h.q9 ho.fr) henc ht hi hz hsz hzs (.ofSlice _ ht _ 1 1 _ ?_ ?_ ?_) rfl (oS hbytes) (oS h63) λs' B' w' h1 h2 h3 _=>kk s' B' w' h1 ((ho.fr.mono λi hi _=>by cases hi).j8 h2 λi hi=>.inl hi) λb hb=>?_;simp[henc];intro j u hj;rw[Addr.j1,jI (ho.at (i:=0) rfl),xQ];have hj':(enc x)[j]?=some u:=(oS hj);rw[<- hcs] at hj';simpa using hj';intro u hu;exact hone u (oS hu);rcases h3 b hb with h|h;exact .inl h;exact .inr oL
end
section
open Go Go.RowKit Go.ChangeShapes List
variable {cs:List Cell} {e:Mf}
section
variable {H:Type} {enc:Mf×Me->H} {P:Mg} {w:Md} {base:Nat} {spare:Nat->Bool} {held:Bool}
def qA9{k:IntKind}{n:Int}(h:(Lit.int k n).wf=true):k.has n:=by have h':k.min<=n/\n<=k.max:=(by simpa[Lit.wf] using h);exact h'
def qsY{t:Mf}{n:Nat}{v:Me}{y:DataW H×List MemPlace}{c:Cell}(hc:pL P t=c)(h:DataW.trod enc P w base spare held n t [v]=some y):∃x:c.El,v=c.mk x/\wL c x:=by
 unfold pL at hc;split at hc<;>subst hc;rename_i k hu;obtain⟨m,hm,_,hw⟩:=DataW.trod_int hu h;simp only[List.cons.injEq,and_true] at hm;exact⟨m,hm,qA9 hw⟩;rename_i hu;obtain⟨m,hm,_⟩:=DataW.trod_bool hu h;simp only[List.cons.injEq,and_true] at hm;exact⟨m,hm,trivial⟩;rename_i hu;obtain⟨s,hm,_,hs⟩:=DataW.trod_string hu h;simp only[List.cons.injEq,and_true] at hm;exact⟨s,hm,by have:maxLen=9223372036854775807:=rfl;show (s.size:Int)<=9223372036854775807;omega⟩
 ·rename_i e hu;cases n with
  | zero=>simp[DataW.trod] at h
  | succ n=>
   unfold DataW.trod at h;rw[hu] at h;split at h<;>simp_all;exact⟨none,rfl⟩;exact⟨_,rfl⟩
 rename_i e hu;rcases DataW.trod_slice hu h with ⟨hm,_⟩|⟨a,len,cap,_,_,_,_,hm,_,_,hl,hc,_⟩;simp only[List.cons.injEq,and_true] at hm;exact⟨dN,hm,zM _,oO,λ_=>rfl⟩;simp only[List.cons.injEq,and_true] at hm;exact⟨⟨some a,len,cap⟩,hm,hl,by have:maxLen=9223372036854775807:=rfl;show (cap:Int)<=9223372036854775807;omega,λe=>by cases e⟩
 ·rename_i k e hu;cases n with
  | zero=>simp[DataW.trod] at h
  | succ n=>
   unfold DataW.trod at h;rw[hu] at h;split at h<;>simp_all;exact⟨none,rfl⟩;exact⟨_,rfl⟩
 exact⟨v,rfl,trivial⟩
def qsx{β:Type}{R:Nat->β->Prop}:∀n,(∀i,i<n->∃x,R i x)->∃l:List β,l.length=n/\∀(i:Nat) x,l[i]?=some x->R i x
 | 0,_=>⟨[],rfl,λi x h=>by simp at h⟩
 | n+1,h=>by obtain⟨l,hl,hr⟩:=qsx n λi hi=>h i oL;obtain⟨x,hx⟩:=h n oL;refine⟨l++[x],by simp[hl],λi y hy=>?_⟩;by_cases hi:i<n;rw[yZ oL] at hy;exact hr i y hy;have:i<n+1:=(by have:=(zP.1 hy).1;simp at this;omega);have e:i=n:=oL;subst e;rw[yY oL] at hy;simp[hl] at hy;subst hy;exact hx
def IH{t:Mf}{n:Nat}{s:Sl}{y:DataW H×List MemPlace}{β:Type}{encB:β->List Me}{k:Nat}{Q:β->Prop}(ht:P.underlying t=some (.slice e))(hce:P.cellsOf e=k)(hpos:0<k)(elem:∀n cells y,DataW.trod enc P w base spare held n e cells=some y->∃x:β,cells=encB x/\Q x)(h:DataW.trod enc P w base spare held n t [.slice s.a s.len s.cap]=some y): ∃l:List β,eT encB k [] w s l/\∀x∈l,Q x:=by
 rcases Go.Deep.open_slice ht h with ⟨hm,_⟩|⟨a,len,cap,m,n',D,Pl,hm,_,hl,hc,hmm,_,hx⟩;simp only[List.cons.injEq,Value.slice.injEq,and_true] at hm;obtain⟨h1,h2,h3⟩:=hm;exact⟨[],⟨by rw[h2];rfl,oL,.inl rfl⟩,λx hx=>by cases hx⟩;simp only[List.cons.injEq,Value.slice.injEq,and_true] at hm;obtain⟨h1,h2,h3⟩:=hm;have hlm:len<=m:=(by rw[hmm];split<;>omega);have hcells:∀i,i<len->∃x:β,w.cells? base (a.add (i*k)) k=some (encB x)/\Q x:=λi hi=>by obtain⟨cs',g1,g2⟩:=hx i oL;obtain⟨x,rfl,hq⟩:=elem _ _ _ g2;rw[hce] at g1;exact⟨x,g1,hq⟩
 obtain⟨l,hll,hlr⟩:=qsx len hcells;refine⟨l,⟨by rw[h2,hll],oL,?_⟩,λx hx=>?_⟩;by_cases h0:l=[];exact .inl h0;right;have hl0:=length_pos_iff.2 h0;obtain⟨_,hlen0,hcell0⟩:=World.cells?_some (hlr 0 l[0] (zA hl0)).1;have hc0:=hcell0 0 hpos;rw[zA oL] at hc0;obtain⟨b,o,spot⟩:=a;have hspot:spot=none:=(by simpa[Addr.add] using World.cell?_spot hc0);subst hspot;have hblk:∃cs T fr,w.heap[b]?=some (.cells cs T fr):=by simp only[Nat.zero_mul,Addr.j1] at hc0;unfold World.cell? at hc0;split at hc0;rename_i c T fr hb;exact⟨c,T,fr,hb⟩;cases hc0
 obtain⟨cs,T,fr,hb⟩:=hblk;refine⟨b,o,cs,T,fr,h1,hb,oN,λi x hx=>?_⟩;obtain⟨_,hlen',hcell'⟩:=World.cells?_some (hlr i x hx).1;apply ext_getElem?;intro j;rw[xB,xA];by_cases hj:j<k;rw[iP hj];have:=hcell' j hj;rw[Addr.j1,Addr.j1,jI hb] at this;rw[<- this];simp;rw[iN hj,yS oL];obtain⟨i,hi,rfl⟩:=getElem_of_mem hx;exact (hlr i _ (zA hi)).2
def qny:∀ {ts:List Mf} {vs:List Me} {cs:List Cell},ts.map (pL P)=cs->vs.length=ts.length->(∀(i:Nat) v,vs[i]?=some v->∃u n y,ts[i]?=some u/\DataW.trod enc P w base spare held n u [v]=some y)->∃x:HL cs,vs=HL.mk cs x/\dV cs x
 | [],vs,cs,hc,hl,h=>by simp at hc hl;subst hc hl;exact⟨(),rfl,trivial⟩
 | [t],vs,cs,hc,hl,h=>by
  simp at hc hl;subst hc;match vs,hl with
  | [v],_=>
   obtain⟨u,n,y,hu,ho⟩:=h 0 v rfl;simp at hu;subst hu;obtain⟨x,hx,hf⟩:=qsY rfl ho;exact⟨x,by rw[hx];rfl,hf⟩
 | t::t'::ts,vs,cs,hc,hl,h=>by
  match vs,hl with
  | v::vs,hl=>
   subst hc;obtain⟨u,n,y,hu,ho⟩:=h 0 v rfl;simp at hu;subst hu;obtain⟨x,hx,hf⟩:=qsY rfl ho;obtain⟨y,hy,hg⟩:=qny (ts:=t'::ts) rfl (oS hl) (λi v hv=>by simpa using h (i+1) v (oS hv));exact⟨(x,y),by rw[hx,hy];rfl,hf,hg⟩
def tH (P:Mg):Nat->List Field->Bool
 | _,[]=>true
 | i,f::fs=>Nat.beq f.offset i&&Nat.beq (P.cellsOf f.type) 1&&tH P (i+1) fs
def qup{P:Mg}:∀ {fs:List Field} {k:Nat},tH P k fs=true->∀(i:Nat) f,fs[i]?=some f->f.offset=k+i/\P.cellsOf f.type=1
 | [],k,_,i,f,h=>by simp at h
 | g::fs,k,hf,i,f,h=>by
  simp only[tH,yB] at hf;match i with
  | 0=>
   simp at h;subst h;exact⟨yW hf.1.1,yW hf.1.2⟩
  | i+1=>
   have:=qup hf.2 i f (oS h);exact⟨oL,this.2⟩
def qvO{fs:Array Field}(he:P.underlying e=some (.struct fs))(hfl:tH P 0 fs.toList=true)(hce:P.cellsOf e=fs.size)(hcs:fs.toList.map (λf=>pL P f.type)=cs): ∀n cells y,DataW.trod enc P w base spare held n e cells=some y->∃x:HL cs,cells=HL.mk cs x/\(dV cs x/\∀(i:Nat) v,(HL.mk cs x)[i]?=some v->∃f n y,fs[i]?=some f/\DataW.trod enc P w base spare held n f.type [v]=some y):=by
 intro n cells y h;obtain⟨xs,m,_,_,hlen,hxl,hf⟩:=DataW.trod_struct he h;have key:∀(i:Nat) v,cells[i]?=some v->∃f n y,fs[i]?=some f/\DataW.trod enc P w base spare held n f.type [v]=some y:=by
  intro i v hv;have hi:i<fs.size:=(by have:=(zP.1 hv).1;omega);have hfi:fs[i]?=some fs[i]:=(by simp[hi]);obtain⟨ho,h1⟩:=qup hfl i fs[i] (by simp[hi]);have:=hf i fs[i] hfi;rw[ho,xQ,h1] at this;have e:(cells.drop i).take 1=[v]:=by obtain⟨hic,rfl⟩:=zP.1 hv;rw[zX hic];rfl
  rw[e,zA (show i<xs.length by omega)] at this;exact⟨_,_,_,hfi,this⟩
 obtain⟨x,hx,hfit⟩:=qny (vs:=cells) (cs:=cs) (by rw[map_map];exact hcs) oQ (λi v hv=>by obtain⟨f,n,y,g1,g2⟩:=key i v hv;exact⟨f.type,n,y,by simp[g1],g2⟩);refine⟨x,hx,hfit,?_⟩;rw[<- hx];exact key
def BF (P:Mg) (e:Mf):Option (List Cell):=
 match P.underlying e with|some (.struct fs)=>bif tH P 0 fs.toList&&Nat.beq (P.cellsOf e) fs.size then some (fs.toList.map λf=>pL P f.type) else none|_=>none
def sh (P:Mg) (e:Mf) (i:Nat):Option Mf:=
 match P.underlying e with|some (.struct fs)=>(fs[i]?).map (·.type)|_=>none
def qr0(hT:BF P e=some cs): ∀n cells y,DataW.trod enc P w base spare held n e cells=some y->∃x:HL cs,cells=HL.mk cs x/\(dV cs x/\∀(i:Nat) v,(HL.mk cs x)[i]?=some v->∃u n y,sh P e i=some u/\DataW.trod enc P w base spare held n u [v]=some y):=by
 unfold BF at hT;split at hT;rename_i fs he;cases hc:(tH P 0 fs.toList&&Nat.beq (P.cellsOf e) fs.size) with
 | false=>rw[hc] at hT;cases hT
 | true=>
  rw[hc] at hT;simp only[yB] at hc;intro n cells y h;obtain⟨x,h1,h2,h3⟩:=qvO he hc.1 (yW hc.2) (yO hT) n cells y h;refine⟨x,h1,h2,λi v hv=>?_⟩;obtain⟨f,n,y,g1,g2⟩:=h3 i v hv;exact⟨f.type,n,y,by unfold sh;rw[he];simp[g1],g2⟩
 cases hT
end
end
def methodOf (P:Mg) (t:Mf) (name:String):Option (FuncId×Bool):=
 match (P.info? t).bind λi=>i.methods.find? (·.name==name) with|some m=>bif m.path.isEmpty then m.func else none|none=>none
def qqo{p:Bool}(h:methodOf P t name=some (f,p))(fuel:Nat): ∃wr,(Go.method (fuel+1) t v name).run P w=(do let r <- receiverAt t (.val v) p (some wr);pure (f,r):Sem (FuncId×Me)).run P w:=by
 unfold methodOf at h;cases hi:P.info? t with
 | none=>rw[hi] at h;cases h
 | some i=>
  rw[hi] at h;simp only[Option.bind_some] at h;cases hm:i.methods.find? (·.name==name) with
  | none=>rw[hm] at h;cases h
  | some m=>
   rw[hm] at h;dsimp only at h;cases hp:m.path.isEmpty with
   | false=>rw[hp] at h;cases h
   | true=>
    rw[hp] at h;change m.func=some (f,p) at h;have hpe:=Array.isEmpty_iff.1 hp;refine⟨(name.splitOn ".").getLastD name,?_⟩;simp[Go.method,typeInfo,run_program,hi,hm,hpe,h,follow]
def qzI{q:Me}{args:Array Me}(h:methodOf P t name=some (f,true))(hu:P.underlying t=some (.pointer e))(hb:jJ P f=false): (callMethod (.iface t q) name args).run P w=.ok (.enter f (#[q]++args)) w:=by
 obtain⟨wr,hr⟩:=qqo h (P.types.size+Made.depth-1);have hm0:0<Made.depth:=oO;have hd:P.types.size+Made.depth-1+1=P.types.size+Made.depth:=oL;rw[hd] at hr;have h2:(do let r <- receiverAt t (.val q) true (some wr);pure (f,r):Sem (FuncId×Me)).run P w=.ok (f,q) w:=by simp[receiverAt,run_underlying hu,Place.get]
 rw[h2] at hr;simp[callMethod,run_program,hr,CZ hb]
def qzJ{args:Array Me}(h:methodOf P t name=some (f,false))(hu:P.underlying t=some (.pointer e))(hb:jJ P f=false)(he:(P.underlying e).isSome=true)(hag:fR P e=false)(hc:w.cell? a=some v): (callMethod (.iface t (.pointer (some a))) name args).run P w=.ok (.enter f (#[v]++args)) w:=by
 obtain⟨wr,hr⟩:=qqo h (P.types.size+Made.depth-1);have hm0:0<Made.depth:=(by decide);have hd:P.types.size+Made.depth-1+1=P.types.size+Made.depth:=(by omega);rw[hd] at hr;have h2:(do let r <- receiverAt t (.val (.pointer (some a))) false (some wr);pure (f,r):Sem (FuncId×Me)).run P w=.ok (f,v) w:=by have hs:Builtin.ssaWrapNilChk_ #[t] t #[.pointer (some a),strVal "",strVal wr]=pure (.pointer (some a)):=rfl;simp[receiverAt,run_underlying hu,Place.get,hs,asAddr,loadVar,BD he,hag,hc]
 rw[h2] at hr;simp[callMethod,run_program,hr,CZ hb]
def qwV{q:Me}{K:kH ts->WP}(h:methodOf P t name=some (f,true))(hu:P.underlying t=some (.pointer e))(hb:jJ P f=false)(k:call P f (q::args) ts w K):inv P (.iface t q) name args ts w K:=
 ⟨f,q::args,by rw[qzI h hu hb];simp,k⟩
def Jw{K:kH ts->WP}(h:methodOf P t name=some (f,false))(hu:P.underlying t=some (.pointer e))(hb:jJ P f=false)(he:(P.underlying e).isSome=true)(hag:fR P e=false)(hc:w.cell? a=some v)(k:call P f (v::args) ts w K):inv P (.iface t (.pointer (some a))) name args ts w K:=
 ⟨f,v::args,by rw[qzJ h hu hb he hag hc];simp,k⟩
variable {e:Array Me->Sem Me} {K:List Me->Prop} {et:Mf} {lb:List Me}
structure qE {α:Type} [DecidableEq α] (P:Mg) (kt:Mf) (kv:α->Me):Prop where
 desc:∃ d,P.underlying kt=some d/\∀ a b,Instr.sameNow d (kv a) (kv b)=some (decide (a=b))
 check:∀ e a w,(Instr.checkKey e 10000 kt (kv a)).run P w=.ok () w
 stays:∀ a w,(Instr.keyThatStays (kv a) (kv a)).run P w=.ok (kv a) w
def qz9{kt:Mf}(h:P.underlying kt=some (.int k)):qE P kt (λn:Int=>Value.int k n) where
 desc:=⟨_,h,λa b=>by simp[Instr.sameNow];rfl⟩
 check:=λe a w=>Go.MapKept.run_checkKey h (by simp[Go.MapKept.IsKey]) e 9999
 stays:=λa w=>by simp[Instr.keyThatStays,Instr.sameBits]
section
variable {α:Type} [DecidableEq α]
def As{β γ:Type}(g:β->γ):∀(l:List β) (i:Nat),(l.eraseIdx i).map g=(l.map g).eraseIdx i
 | [],_=>rfl
 | _::_,0=>rfl
 | a::l,i+1=>by simp only[eraseIdx_cons_succ,xM,As g l i]
def sK (kv:α->Me) (es:List MapEntry) (f:List (α×Me)):Prop:=es.map (λe=>(e.key,e.val))=f.map (λp=>(kv p.1,p.2))
def posOf (x:α):List (α×Me)->Option (Nat×Me)
 | []=>none
 | p::r=>if x=p.1 then some (0,p.2) else (posOf x r).map λq=>(q.1+1,q.2)
def qnu{kv:α->Me}{d:TypeDesc}(hd:∀a b,Instr.sameNow d (kv a) (kv b)=some (decide (a=b)))(x:α):∀(es:List MapEntry) (f:List (α×Me)) (i:Nat),sK kv es f-> Instr.findNow d (kv x) es i=some ((posOf x f).map λq=>(i+q.1,q.2))
 | [],[],i,_=>rfl
 | [],_::_,_,h=>by simp[sK] at h
 | _::_,[],_,h=>by simp[sK] at h
 | e::es,p::f,i,h=>by
  simp only[sK,xM,List.cons.injEq,Prod.mk.injEq] at h;obtain⟨⟨h1,h2⟩,h3⟩:=h;simp only[Instr.findNow,h1,hd,posOf];by_cases hx:x=p.1;simp[hx,h2];simp only[hx,decide_false,if_false];rw[qnu hd x es f (i+1) h3];cases posOf x f with|none=>rfl|some q=>simp;omega
variable {P:Mg} {w:Md} {kt:Mf} {kv:α->Me}
def zd(K:qE P kt kv){es:List MapEntry}{f:List (α×Me)}(h:sK kv es f)(x:α):(Instr.findKey kt (kv x) es).run P w=.ok (posOf x f) w:=by
 obtain⟨d,hd,hs⟩:=K.desc;unfold Instr.findKey;simp only[LS,run_underlying hd,LU,qnu hs x es f 0 h,Sem.run_pure];congr 1;cases posOf x f with|none=>rfl|some q=>simp
def nX (kv:α->Me) (w:Md) (b:Nat) (f:List (α×Me)):Prop:=∃es c,w.heap[b]?=some (.map es c)/\sK kv es.toList f
def H8(ht:P.underlying t=some (.map kt et))(hz:∀w,(zeroValue et).run P w=.ok z w)(K:qE P kt kv){b:Nat}{f:List (α×Me)}(h:nX kv w b f)(x:α): (Instr.lookup t (.map (some b)) (kv x) false).run P w=.ok (match posOf x f with|some q=>q.2|none=>z) w:=by
 obtain⟨es,c,hb,he⟩:=h;cases hp:posOf x f with|none=>simp[Instr.lookup,run_underlying ht,L8 hb,K.check,zd K he,hp,hz]|some q=>simp[Instr.lookup,run_underlying ht,L8 hb,K.check,zd K he,hp]
def qvf(ht:P.underlying t=some (.map kt et))(hz:∀w,(zeroValue et).run P w=.ok z w)(K:qE P kt kv){b:Nat}{f:List (α×Me)}(h:nX kv w b f)(x:α): (Instr.lookup t (.map (some b)) (kv x) true).run P w=.ok (match posOf x f with|some q=>.tuple #[q.2,.bool true] | none=>.tuple #[z,.bool false]) w:=by
 obtain⟨es,c,hb,he⟩:=h;cases hp:posOf x f with|none=>simp[Instr.lookup,run_underlying ht,L8 hb,K.check,zd K he,hp,hz]|some q=>simp[Instr.lookup,run_underlying ht,L8 hb,K.check,zd K he,hp]
def qyC{v:Me}(ht:P.underlying t=some (.map kt et))(K:qE P kt kv){b:Nat}{f:List (α×Me)}(h:nX kv w b f)(x:α)(hx:posOf x f=none): ∃o,(Instr.mapUpdate t (.map (some b)) (kv x) v).run P w=.ok () (jA w b o)/\nX kv (jA w b o) b (f++[(x,v)]):=by obtain⟨es,c,hb,he⟩:=h;refine⟨.map (es.push ⟨kv x,v,c⟩) (c+1),?_,es.push ⟨kv x,v,c⟩,c+1,?_,?_⟩;simp[Instr.mapUpdate,run_underlying ht,L8 hb,K.check,zd K he,hx,Go.MapKept.run_setObj_map _ hb];rfl;rw[sO _ _ _ _ (gg hb),iP rfl];simp only[sK] at he⊢;simp[he]
def qyB{ty:Mf}(ht:P.underlying t=some (.map kt et))(K:qE P kt kv){b:Nat}{f:List (α×Me)}(h:nX kv w b f)(x:α): ∃o,(Builtin.delete_ #[t,kt] ty #[.map (some b),kv x]).run P w=.ok (.tuple #[]) (jA w b o)/\nX kv (jA w b o) b (match posOf x f with|some q=>f.eraseIdx q.1|none=>f):=by
 obtain⟨es,c,hb,he⟩:=h;cases hp:posOf x f with
 | none=>
  refine⟨.map es c,?_,es,c,?_,he⟩;simp[Builtin.delete_,run_underlying ht,L8 hb,K.check,zd K he,hp,Go.MapKept.run_setObj_map _ hb];rfl;rw[sO _ _ _ _ (gg hb),iP rfl]
 | some q=>
  refine⟨.map (es.eraseIdxIfInBounds q.1) c,?_,es.eraseIdxIfInBounds q.1,c,?_,?_⟩;simp[Builtin.delete_,run_underlying ht,L8 hb,K.check,zd K he,hp,Go.MapKept.run_setObj_map _ hb];rfl;rw[sO _ _ _ _ (gg hb),iP rfl];have h1:(es.eraseIdxIfInBounds q.1).toList=es.toList.eraseIdx q.1:=oN;rw[h1];simp only[sK] at he⊢;rw[As,he,<- As]
end
def qv3(z:Me)(c:Nat):jl [z] c=(List.replicate c z).toArray:=by apply Array.ext;simp[jl];intro i h1 h2;simp[jl,Nat.mod_one]
def dY.Kk{bytes:Nat}{l c:Int}{K:Sl->WP}(h:dY S w0 w L)(h0:0<=l)(h1:l<=c)(h2:(bytes:Int)*c<=2^48)(h3:c<=2^48)(k:∀b w',b=w.z->dY S w0 w' ((b,.c (List.replicate c.toNat z).toArray el)::L)->K ⟨some (dh b),l.toNat,c.toNat⟩ w'):nD el [z] 1 bytes l c w K:=by
 refine⟨⟨h0,h1,h2,h3⟩,?_⟩;have e:jl (if c.toNat*1=0 then [] else [z]) (c.toNat*1)=(List.replicate c.toNat z).toArray:=by rw[xR];split;rename_i hc;rw[hc];apply Array.ext' ;simp[jl];exact qv3 z _
 rw[e];exact k _ _ rfl (h.alloc _)
def dY.A2{t t' ty el:Nat}{o dLen dCap:Nat}{src:Sl}{K:Int->WP}(h:dY S w0 w L)(i:Nat)(hi:L[i]?=some (b,.c cs T))(hu:P.underlying t=some (.slice el))(hs:(P.info? el).map (·.size)=some 1)(hlen:vs.length=Nat.min src.len dLen)(hvs:vs≠[]->∃a,src.a=some a/\∀(j:Nat) v,vs[j]?=some v->w.cell? (a.add j)=some v)(h1:∀v∈vs,v.oneCell'=true)(hfit:o+vs.length<=cs.size)(k:∀w',dY S w0 w' (L.set i (b,.c (d7 cs o vs) T))->K vs.length w'): Pt.run [jV.one (Cell.int .i64)] ((Builtin.copy_ #[t,t'] ty #[.slice (some (dh b o)) dLen dCap,.slice src.a src.len src.cap]).run P w) K:=by
 by_cases h0:vs=[];subst h0;refine⟨((0:Nat):Int),w,run_copy_none w t t' ty el _ _ _ _ _ _ hu hs (oS hlen.symm),?_⟩;have e:L.set i (b,.c (d7 cs o []) T)=L:=by
  apply ext_getElem?;intro j;rw[xV];by_cases hij:i=j;subst hij;have:=(zP.1 hi).1;rw[iP rfl,hi];simp[this,d7];rw[iN hij]
 have:=k w (by rw[e];exact h);simpa using this;obtain⟨a,ha,hc⟩:=hvs h0;have hb:=h.at hi;have hrun:=run_copy_cells w t t' ty el b o dLen dCap a src.len src.cap vs hu hs hlen hc (λj hj=>by rw[jI hb];simp[show o+j<cs.size by omega]) (λj hj=>by simp[World.frozen?,hb]) h1;rw[CL hb] at hrun;refine⟨(vs.length:Int),_,?_,k _ (h.jA i hi)⟩;rw[ha];exact hrun
def CE{K:kH ts->WP}(hf:P.funcs[f]?=some fn)(hname:(fn.name== "runtime.NumGoroutine")=false)(hb:fn.body.isNone=true)(hn:Extern.findNext fn=none)(he:Extern.find fn=some e)(x:kH ts)(w':Md)(hrun:(e args.toArray).run P w=.ok (gU ts x) w')(k:K x w'):Pt.ext P f args ts w K:=by refine⟨x,w',?_,k⟩;rw[run_callFunc_extern hf hname hb hn he];simp[hrun]
def qyq(w:Md)(b:Nat)(o:Obj):w.putObj b o=jA w b o:=rfl
def dY.mn{pts:List jV}{body:kH pts->(Md->(WP)->Prop)->(WP)->(Nat->WP)->WP}{done:Nat->WP}{jumps:List (Nat->WP)}(h:dY S w0 w L)(hv:v=.func (.func f) #[] lb.toArray)(hb:jJ P f=false)(k:∀(D l:Nat) (R B:Obj) (J E:Nat->Obj) (E0:Obj) (w1:Md),l=w.z+1->D=w.z->Fr [] w w1->dY S w0 w1 ((l,R)::(D,.deferred (some []))::L)->se P pts body l R B J-> call P f (.func (.yield l) #[] #[]::lb) [] w1 λ_ W=>(W.heap[l]?=some R/\done D (Pt.jA W l E0))\/∃i k,jumps[i]?=some k/\W.heap[l]?=some (J i)/\k D (Pt.jA W l (E i))):Pt.mn P v pts body done jumps w:=by refine⟨f,lb,hv,hb,λR B J E E0 hy=>?_⟩;have h1:=h.alloc (.deferred (some []));have h2:=h1.alloc R;unfold World.z at h2;rw[World.size_alloc] at h2;exact k _ _ R B J E E0 _ rfl rfl (((Fr.refl [] w).alloc _).alloc _) h2 hy
def dY.fc{D:Nat}{K:WP}(h:dY S w0 w L)(i:Nat)(hi:L[i]?=some (D,.deferred (some [])))(k:∀w',dY S w0 w' (L.set i (D,.deferred none))->K w'):Pt.fc D w K:=
 ⟨h.at hi,k _ (dY.jA h i hi)⟩
def nM{K:kH ts->WP}(hv:v=.func (.func f) #[] lb.toArray)(hb:jJ P f=false)(k:call P f (args++lb) ts w K):dU P v args ts w K:=by subst hv;refine .inl ⟨f,args++lb,?_,k⟩;simp[Deferred.ofValue,invoke,CZ hb]
def lW(hb:w.heap[b]?=some (.cells cs T fr))(x:List Me)(h1:x.length=n)(hx:(cs.toList.drop off).take n=x)(k:K x):Pt.iA n (dh b off) w K:=
 ⟨x,⟨h1,Aj hb _ off 0 (by rw[h1];exact hx)⟩,k⟩
def qDK{cs:List Cell}{K:HL cs->Prop}(x:HL cs)(h:vs.extract off (off+cs.length)=HL.mk cs x)(k:K x):Pt.kO cs vs off K:=⟨x,h,k⟩
def qFc{len:Nat}{K:Addr->Prop}(h:n<=len)(k:K a):pZ ⟨some a,len,cap⟩ n K:=⟨a,rfl,h,k⟩
def dY.vR{K:Nat->WP}(h:dY S w0 w L)(hz:((P.info? t).bind (·.zero)).map (λz=>z.cells.size)=some n)(hn:vs.length=n)(h1:(vs.all Value.oneCell')=true)(k:∀b w',b=w.z->dY S w0 w' ((b,.c vs.toArray t)::L)->K b w'):Pt.eX P t w λr w1=>gV (vs.length=n) (Pt.st (dh r) vs w1 λw2=>K r w2):=by obtain⟨z,hz,hzs⟩:=yT.1 hz;refine⟨z,hz,hn,?_⟩;have h2:=h.alloc (.cells z.cells t);exact dY.st h2 0 rfl vs.toArray (gS oL) h1 (Nat.ble_eq_true_of_le oL) λw' h3 _=>k _ w' rfl h3
def dY.eX{zs:List Me}{K:Nat->WP}(h:dY S w0 w L)(hz:((P.info? t).bind (·.zero)).map (λz=>z.cells.toList)=some zs)(k:∀b w',b=w.z->dY S w0 w' ((b,.c zs.toArray t)::L)->K b w'):Pt.eX P t w K:=by obtain⟨z,hz,hzs⟩:=yT.1 hz;refine⟨z,hz,?_⟩;have h2:=h.alloc (.cells z.cells t);have e:zs.toArray=z.cells:=(by rw[<- hzs]);rw[<- e] at h2⊢;exact k _ _ rfl h2
variable {k:Nat} {zero:List Me}
def qv4(hk:zero.length=k)(n:Nat):(jl (if n*k=0 then [] else zero) (n*k)).toList=(List.replicate n zero).flatten:=by
 by_cases h0:n*k=0;rw[iP h0,h0];rcases Nat.mul_eq_zero.1 h0 with h|h;subst h;simp[jl];have:zero=[]:=LX oL;subst this;simp[jl];rw[iN h0];have hpos:0<k:=Nat.pos_of_ne_zero λe=>h0 (by rw[e];simp);apply ext_getElem?;intro i;have hlen:∀n,((List.replicate n zero).flatten).length=n*k:=(by intro n;simp[hk]);have key:∀n i,i<n*k->((List.replicate n zero).flatten)[i]?=zero[i%k]?:=by
  intro n;induction n with
  | zero=>intro i hi;simp at hi
  | succ n ih=>
   intro i hi;rw[Nat.succ_mul] at hi;rw[replicate_succ,flatten_cons];by_cases hik:i<k;rw[yZ oL,Nat.mod_eq_of_lt hik];rw[yY oL,hk,ih (i-k) oL];congr 1;exact (Nat.mod_eq_sub_mod oL).symm
 have hl2:=hlen n;have hsz:(jl zero (n*k)).toList.length=n*k:=(by simp[jl]);by_cases hi:i<n*k;rw[key n i hi];have hlt:i%k<zero.length:=(by rw[hk];exact Nat.mod_lt _ hpos);have h1:(jl zero (n*k)).toList[i]?=some (zero.toArray[i%zero.toArray.size]!):=by simp[jl,hi]
 rw[h1,zA hlt];simp[hk,zA hlt];rw[yS (by rw[hsz];omega),yS (by rw[hl2];omega)]
def dY.mkN{bytes:Nat}{l c:Int}{K:Sl->WP}(h:dY S w0 w L)(hk:zero.length=size)(h0:0<=l)(h1:l<=c)(h2:(bytes:Int)*c<=2^48)(h3:c<=2^48)(k:∀b w',b=w.z->dY S w0 w' ((b,.c ((List.replicate c.toNat zero).flatten).toArray el)::L)->K ⟨some (dh b),l.toNat,c.toNat⟩ w'):nD el zero size bytes l c w K:=by
 refine⟨⟨h0,h1,h2,h3⟩,?_⟩;have e:=qv4 hk c.toNat;have e':jl (if c.toNat*size=0 then [] else zero) (c.toNat*size)=((List.replicate c.toNat zero).flatten).toArray:=by apply Array.ext';rw[e]
 rw[e'];exact k _ _ rfl (h.alloc _)
def dY.Fj{K:Nat->WP}(h:dY S w0 w L)(k:∀b w',b=w.z->Fr [] w w'->dY S w0 w' ((b,o)::L)->K b w'):Pt.new o w K:=
 k _ _ rfl ((Fr.refl [] w).alloc o) (h.alloc o)
def dY.st'{K:WP}(h:dY S w0 w L)(i:Nat)(hi:L[i]?=some (b,.c cs T))(cs':Array Me)(hcs:d7 cs off vs=cs')(h1:(vs.all Value.oneCell')=true)(hl:off+vs.length<=cs.size)(k:∀w',dY S w0 w' (L.set i (b,.c cs' T))->Fr [b] w w'->K w'):Pt.st (dh b off) vs w K:=
 EX (w:=w) vs off 0 cs w K (h.at hi) h1 hl (k _ (by rw[Nat.add_zero,hcs];exact dY.jA h i hi) (AU (gg (h.at hi)) _))
def dY.z'{S:List Nat}{w0 w:Go.World}{L:List (Nat×Go.Obj)}{b0:Nat}{cs:Array Go.Value}{T:Go.TypeId}{vs:List Go.Value}{K:Go.World->Prop}(h:dY S w0 w L)(i:Nat)(hi:L[i]?=some (b0,.cells cs T (0,0)))(k:∀w',dY S w0 w' (L.set i (b0,.cells vs.toArray T (0,0)))->Fr [b0] w w'->K w')(hv:vs.length=cs.size:=by exact rfl)(h1:(vs.all Go.Value.oneCell')=true:=by exact rfl):Pt.st ⟨b0,0,none⟩ vs w K:=h.st' i hi _ (gS hv) h1 (Nat.le_of_eq ((Nat.zero_add _).trans hv)) k
def dY.sz{K:WP}(h:dY S w0 w L)(i:Nat)(hi:L[i]?=some (b,.c cs T))(cs':Array Me)(k:∀w',dY S w0 w' (L.set i (b,.c cs' T))->Fr [b] w w'->K w')(hcs:d7 cs off vs=cs':=by rfl)(h1:(vs.all Value.oneCell')=true:=by rfl)(hl:off+vs.length<=cs.size:=by exact zO rfl):Pt.st (dh b off) vs w K:=h.st' i hi cs' hcs h1 hl k
def wU{K:WP}(hb:w.heap[b]?=some (.c cs T))(cs':Array Me)(hcs:d7 cs off vs=cs')(h1:(vs.all Value.oneCell')=true)(hl:off+vs.length<=cs.size)(k:∀w',w'.heap[b]?=some (.c cs' T)->Fr [b] w w'->K w'):Pt.st (dh b off) vs w K:=
 EX (w:=w) vs off 0 cs w K hb h1 hl (k _ (by rw[Nat.add_zero,hcs,sO _ _ _ _ (gg hb),iP rfl]) (AU (gg hb) _))
def dY.nI(h:dY S w0 w L):dY (L.map (·.1)) w w L:=⟨h.iX,h.nodup,.refl _ _,λp hp=>.inl (zY hp)⟩
def dY.AW(h:dY S w0 w L)(T:Mk):dY (L.map (·.1)++T) w w L:=⟨h.iX,h.nodup,.refl _ _,λp hp=>.inl (zH _ (zY hp))⟩
def dY.BO{T:Mk}(h:dY S w0 w L)(hT:∀b∈T,b∈S\/w0.z<=b)(f:Fr (L.map (·.1)++T) w w'):Fr S w0 w':=
 h.fr.j8 f λb hb=>by rcases zD.1 hb with hb|hb;obtain⟨p,hp,rfl⟩:=mem_map.1 hb;exact h.own p hp;exact hT b hb
def dY.BX{L':Mq}{T:Mk}(h:dY S w0 w L)(hT:∀b∈T,b∈S\/w0.z<=b)(k:dY (L.map (·.1)++T) w w' L'):dY S w0 w' L':=
 ⟨k.iX,k.nodup,h.BO hT k.fr,λp hp=>by rcases k.own p hp with hb|hb;rcases zD.1 hb with hb|hb;obtain⟨q,hq,hqe⟩:=mem_map.1 hb;rw[<- hqe];exact h.own q hq;exact hT _ hb;exact .inr (zL h.fr.size hb)⟩
def dY.back(h:dY S w0 w L)(f:Fr (L.map (·.1)) w w'):Fr S w0 w':=
 h.fr.j8 f λb hb=>by obtain⟨p,hp,rfl⟩:=mem_map.1 hb;exact h.own p hp
def fieldsOf (P:Mg) (t:Mf):Array Field:=match P.underlying t with|some (.struct fs)=>fs|_=>#[]
def qqn{a b:Me}{o1 s0 s1:Nat}(hz:(P.info? t).bind (·.zero)=some z)(hu:P.underlying t=some (.struct (fieldsOf P t)))(hpl:∀w,((fieldsOf P t).mapM λf=>do pure (f.offset,<- sizeOf f.type):Sem (Array (Mu))).run P w=.ok #[(0,s0),(o1,s1)] w)(ha:a.cells.size=s0)(hb:b.cells.size=s1)(ho:o1=s0)(hs:z.cells.size=s0+s1)(w:Md):(Instr.build t #[(0,a),(1,b)]).run P w=.ok (.agg (a.cells.toList++b.cells.toList).toArray) w:=by
 have h1:=GF 0 a.cells z.cells;have h2:=GF o1 b.cells (d7 z.cells 0 a.cells.toList);have key:Instr.fill ((#[(0,s0),(o1,s1)]:Array (Mu))[·]?) z.cells [(0,a),(1,b)]=some (a.cells.toList++b.cells.toList).toArray:=by have e0:(#[(0,s0),(o1,s1)]:Array (Mu))[0]?=some (0,s0):=rfl;have e1:(#[(0,s0),(o1,s1)]:Array (Mu))[1]?=some (o1,s1):=rfl;simp only[Instr.fill,e0,e1];have c1:¬(decide (a.cells.size≠s0)||decide (0+a.cells.size>z.cells.size))=true:=(by simp[ha];omega);have c2:¬(decide (b.cells.size≠s1)||decide (o1+b.cells.size>(d7 z.cells 0 a.cells.toList).size))=true:=(by simp[hb,qI];omega);rw[iN c1,h1,iN c2,h2];congr 1;apply Array.ext';rw[tM _ _ _ (by rw[qI,Mc];omega),tM _ _ _ (by rw[Mc];omega)];have hal:a.cells.toList.length=o1:=(by rw[Mc];omega);simp only[take_zero,xH,xQ];rw[LO oL,zS oL,LV oQ,xG]
 simp only[Instr.build,LS,AK hz,LU,run_underlying hu,hpl,key,Sem.run_pure]
def eT.jn{α:Type}{enc:α->List Me}{l:List α}(h:eT enc k S w s l)(henc:∀x,(enc x).length=k)(n:Nat){i:Int}{x:α}(hi:i=n)(hx:l[n]?=some x)(kk:K (enc x)):idx s i k λa=>Pt.iA k a w K:=by subst hi;obtain⟨hn,b,o,ha,_,cs,T,fr,hb,hc⟩:=h.at n hx;refine vD ha ⟨oL,oL⟩ ?_;rw[zJ];exact lW hb _ (henc x) hc kk
def qwj{α:Type}{enc:α->List Me}(henc:∀x,(enc x).length=k):∀(l:List α) (i:Nat) (x:α),i<l.length->d7 (l.flatMap enc).toArray (i*k) (enc x)=((l.set i x).flatMap enc).toArray:=by
 intro l i x hi;have hsplit:l=l.take i++l[i]::l.drop (i+1):=(by rw[<- zX hi,xD]);have hset:l.set i x=l.take i++x::l.drop (i+1):=(by rw[set_eq_take_append_cons_drop,iP hi]);have hlen:((l.take i).flatMap enc).length=i*k:=(by rw[uX henc,yL,xP oL]);have e1:l.flatMap enc=(l.take i).flatMap enc++enc l[i]++(l.drop (i+1)).flatMap enc:=by
  conv=>lhs;rw[hsplit]
  rw[yQ,yH,zV]
 have e2:(l.set i x).flatMap enc=(l.take i).flatMap enc++enc x++(l.drop (i+1)).flatMap enc:=(by rw[hset,yQ,yH,zV]);rw[e1,e2];generalize (l.take i).flatMap enc=A at hlen;generalize hX:enc l[i]=X;have hXl:X.length=(enc x).length:=(by rw[<- hX,henc,henc]);generalize (l.drop (i+1)).flatMap enc=Z;apply Array.ext';rw[tM _ _ _ oQ];rw[<- hlen];have h1:(A++X++Z).take A.length=A:=(by rw[zV,LO (zM _),zS (zM _)]);have h2:(A++X++Z).drop (A.length+(enc x).length)=Z:=(by rw[<- hXl,<- zF,LW (zM _),LV (zM _),xH]);rw[h1,h2]
section
set_option linter.unusedSectionVars false
section
variable {α:Type} [DecidableEq α] {P:Mg} {w:Md} {kt:Mf} {kv:α->Me}
def kM (kv:α->Me) (w:Md) (b:Nat) (f:List (α×Me)):Prop:=
 ∃es c,w.heap[b]?=some (.map es c)/\sK kv es.toList f/\(es.toList.map (·.born)).Pairwise (· < ·)/\∀e∈es.toList,e.born<c
def kM.at{b:Nat}{f:List (α×Me)}(h:kM kv w b f):nX kv w b f:=by obtain⟨es,c,hb,he,_⟩:=h;exact⟨es,c,hb,he⟩
def kM.j0{w':Md}{b:Nat}{S:Mk}{f:List (α×Me)}(h:kM kv w b f)(k:Fr S w w')(h1:b∉S):kM kv w' b f:=by obtain⟨es,c,hb,he⟩:=h;exact⟨es,c,by rw[k.block b (gg hb) h1];exact hb,he⟩
def kM.lt{b:Nat}{f:List (α×Me)}(h:kM kv w b f):b<w.z:=by obtain⟨es,c,hb,_⟩:=h;exact gg hb
def kM.empty{b:Nat}(hb:w.heap[b]?=some (.map #[] 0)):kM kv w b []:=⟨#[],0,hb,rfl,oN,oN⟩
def kM.new{t et:Mf}{v:Me}(ht:P.underlying t=some (.map kt et))(K:qE P kt kv){b:Nat}{f:List (α×Me)}(h:kM kv w b f)(x:α)(hx:posOf x f=none): ∃o,(Instr.mapUpdate t (.map (some b)) (kv x) v).run P w=.ok () (jA w b o)/\kM kv (jA w b o) b (f++[(x,v)]):=by obtain⟨es,c,hb,he,hs,hc⟩:=h;refine⟨.map (es.push ⟨kv x,v,c⟩) (c+1),?_,es.push ⟨kv x,v,c⟩,c+1,?_,?_,?_,?_⟩;simp[Instr.mapUpdate,run_underlying ht,L8 hb,K.check,zd K he,hx,Go.MapKept.run_setObj_map _ hb];rfl;rw[sO _ _ _ _ (gg hb),iP rfl];simp only[sK] at he⊢;simp[he];rw[Array.toList_push,xL,pairwise_append];refine⟨hs,oN,λa ha b hb'=>?_⟩;obtain⟨e,he',rfl⟩:=mem_map.1 ha;simp at hb';subst hb';exact hc e he';intro e he';rw[Array.toList_push] at he';rcases zD.1 he' with h1|h1;exact Nat.lt_succ_of_lt (hc e h1);simp at h1;subst h1;exact Nat.lt_succ_self _
def kM.del{t et ty:Mf}(ht:P.underlying t=some (.map kt et))(K:qE P kt kv){b:Nat}{f:List (α×Me)}(h:kM kv w b f)(x:α): ∃o,(Builtin.delete_ #[t,kt] ty #[.map (some b),kv x]).run P w=.ok (.tuple #[]) (jA w b o)/\kM kv (jA w b o) b (match posOf x f with|some q=>f.eraseIdx q.1|none=>f):=by
 obtain⟨es,c,hb,he,hs,hc⟩:=h;cases hp:posOf x f with
 | none=>
  refine⟨.map es c,?_,es,c,?_,he,hs,hc⟩;simp[Builtin.delete_,run_underlying ht,L8 hb,K.check,zd K he,hp,Go.MapKept.run_setObj_map _ hb];rfl;rw[sO _ _ _ _ (gg hb),iP rfl]
 | some q=>
  have h1:(es.eraseIdxIfInBounds q.1).toList=es.toList.eraseIdx q.1:=oN;refine⟨.map (es.eraseIdxIfInBounds q.1) c,?_,es.eraseIdxIfInBounds q.1,c,?_,?_,?_,?_⟩;simp[Builtin.delete_,run_underlying ht,L8 hb,K.check,zd K he,hp,Go.MapKept.run_setObj_map _ hb];rfl;rw[sO _ _ _ _ (gg hb),iP rfl];rw[h1];simp only[sK] at he⊢;rw[As,he,<- As];rw[h1,As];exact hs.sublist (eraseIdx_sublist _ _);rw[h1];exact λe he'=>hc e (mem_of_mem_eraseIdx he')
end
end
def CY(hb:w.heap[b]?=some o):dY [b] w w [(b,o)]:=⟨λp hp=>by rw[zE.1 hp];exact hb,oN,.refl _ _,λp hp=>.inl (by rw[zE.1 hp];simp)⟩
variable {K:Sl->WP} {e:Mf} {olds news M:List Me}
def qwz{tx:Mf}{x:Me}(ht:P.underlying t=some (.slice e))(hi:P.info? e=some i)(hz:i.zero=some z)(hsz:i.size=1)(hzs:z.cells.size=1)(hl:olds.length=n)(hc:∀(j:Nat) u,olds[j]?=some u->w.cell? (a.add j)=some u)(hs:Src P 1 tx x m news w)(hg:cap<n+m)(hbytes:(n+m)*i.bytes<=140737488355328)(h63:n+m<=9223372036854775807)(kk:∀b cs c w',b=w.z->w'.heap[b]?=some (.c cs e)->Fr [] w w'->n+m<=c->c<=cs.size->cs.toList.take (n+m)=olds++news->K ⟨some (dh b),n+m,c⟩ w'): Pt.run di ((Builtin.append_ #[t,tx] ty #[.slice (some a) n cap,x]).run P w) K:=by subst hl;have hnl:=hs.newsLen;rw[xR] at hnl;refine zz ⟨_,_,_⟩ _ (run_append_grow_src w t tx ty e i z ht hi hz (some a) olds.length cap olds (by rw[hsz];exact run_firstCells_some _ _ _ _ _ _ _ (by rw[xR]) (oS hc)) x m _ (by rw[hsz];exact hs) hg oL (growslice_fits hg hbytes)) ?_;have hge:=grownCap_ge w (olds.length+m) cap e;refine kk w.z _ (grownCap w (olds.length+m) cap e) _ rfl (by rw[Dl];exact iP rfl) ((Fr.refl [] w).drew.alloc _) hge ?_ ?_;rw[Array.size_append,GY,hzs,size_toArray,zF,hnl];generalize grownCap w (olds.length+m) cap e=G at hge⊢;omega;rw[Array.toList_append,LO (by simp[hnl]),zS (by simp[hnl])]
def IL{tn:Mf}{kn kq:IntKind}{base:Option Addr}(ht:P.underlying t=some (.slice e))(htn:P.underlying tn=some (.int kn))(hi:P.info? e=some i)(hz:i.zero=some z)(hsz:i.size=1)(hzs:z.cells.size=1)(hl:olds.length=n)(hb:base=none->olds=[])(hc:∀a,base=some a->∀(j:Nat) u,olds[j]?=some u->w.cell? (a.add j)=some u)(hk:0<k)(hg:cap<n+k)(hbytes:(n+k)*i.bytes<=140737488355328)(h63:n+k<=9223372036854775807)(kk:∀b cs c w',b=w.z->w'.heap[b]?=some (.c cs e)->Fr [] w w'->n+k<=c->c<=cs.size->cs.toList.take n=olds->K ⟨some (dh b),n+k,c⟩ w'): Pt.run di ((Builtin.append_ #[t,tn] ty #[.slice base n cap,.int kq k]).run P w) K:=by
 subst hl;have hold:(Builtin.firstCells i.size olds.length (.slice base olds.length cap)).run P w.drew=.ok olds.toArray w.drew:=by
  rw[hsz];cases base with|none=>rw[hb rfl];exact run_firstCells_none _ _ _ _ _|some a=>exact run_firstCells_some _ _ _ _ _ _ _ (by rw[xR]) (by simpa using hc a rfl)
 have hge:=grownCap_ge w (olds.length+k) cap e;have hbk:k*i.bytes<=(olds.length+k)*i.bytes:=L0 _ oL;refine zz ⟨_,_,_⟩ _ (Lib.run_append_grow_zeros w t tn ty e i z kq kn ht htn hi hz base olds.length cap olds hold k hk oL hg oL oL (growslice_fits hg hbytes))<|kk w.z _ (grownCap w (olds.length+k) cap e) _ rfl (by rw[Dl];exact iP rfl) ((Fr.refl [] w).drew.alloc _) hge ?_ ?_;rw[Array.size_append,Array.size_append,GY,GY,hzs,size_toArray];generalize grownCap w (olds.length+k) cap e=G at hge⊢;omega;rw[Array.toList_append,Array.toList_append,zV];exact take_left' oN
def qwA{tx:Mf}{x:Me}(hb:w.heap[b]?=some (.c cs T))(ht:P.underlying t=some (.slice e))(hi:P.info? e=some i)(hsz:i.size=1)(hs:Src P 1 tx x m news w)(hroom:n+m<=cap)(hcs:cap<=cs.size)(kk:∀w',w'.heap[b]?=some (.c (d7 cs n news) T)->Fr [b] w w'->K ⟨some (dh b),n+m,cap⟩ w'): Pt.run di ((Builtin.append_ #[t,tx] ty #[.slice (some (dh b)) n cap,x]).run P w) K:=by have hnl:=hs.newsLen;rw[xR] at hnl;refine zz ⟨_,_,_⟩ _ (run_append_room_src w t tx ty e i ht hi b 0 n cap x m _ (by rw[hsz];exact hs) hroom (λj hj=>?_) λj hj=>?_) ?_;rw[hnl] at hj;rw[hsz,jI hb];have:n+j<cs.size:=oL;simp[this];simp[World.frozen?,hb];rw[CL hb,hsz,xR,xQ];exact kk _ (by rw[sO _ _ _ _ (gg hb),iP rfl]) (AU (gg hb) _)
def Bs{t t' ty el:Nat}{o dLen dCap:Nat}{src:Sl}{K:Int->WP}(hb:w.heap[b]?=some (.c cs T))(hu:P.underlying t=some (.slice el))(hs:(P.info? el).map (·.size)=some 1)(hlen:vs.length=Nat.min src.len dLen)(hvs:vs≠[]->∃a,src.a=some a/\∀(j:Nat) v,vs[j]?=some v->w.cell? (a.add j)=some v)(h1:∀v∈vs,v.oneCell'=true)(hfit:o+vs.length<=cs.size)(k:∀w',w'.heap[b]?=some (.c (d7 cs o vs) T)->Fr [b] w w'->K vs.length w'): Pt.run [jV.one (Cell.int .i64)] ((Builtin.copy_ #[t,t'] ty #[.slice (some (dh b o)) dLen dCap,.slice src.a src.len src.cap]).run P w) K:=
 (CY hb).A2 0 rfl hu hs hlen hvs h1 hfit λw' h'=>k w' (h'.at (i:=0) rfl) h'.fr
def qwD{t e ty o:Nat}{K:Unit->WP}(hb:w.heap[b]?=some (.c cs T))(ht:P.underlying t=some (.slice e))(hz:(P.info? e).bind (·.zero)=some z)(hzc:z.cells = #[z])(h1:z.oneCell'=true)(hn:0<n)(hfit:o+n<=cs.size)(k:∀w',w'.heap[b]?=some (.c (d7 cs o (List.replicate n z)) T)->Fr [b] w w'->K () w'): Pt.run [] ((Builtin.clear_ #[t] ty #[.slice (some (dh b o)) n c]).run P w) K:=by refine⟨(),_,Lib.run_clear_slice w t e ty z ht (AK hz) hzc h1 b o n c hn (λj hj=>?_) λj hj=>?_,?_⟩;rw[jI hb];simp[show o+j<cs.size by omega];simp[World.frozen?,hb];rw[CL hb];exact k _ (by rw[sO _ _ _ _ (gg hb),iP rfl]) (AU (gg hb) _)
def qz7{i:Nat}(hi:i<=M.length)(hL:M.length+1<=cs.size)(hM:cs.toList.take i=M.take i):(d7 (d7 cs (i+1) (M.drop i)) i [v]).toList.take (M.length+1)=M.take i++[v]++M.drop i:=by
 rw[tM _ _ _ (by rw[qI];simp;omega),tM _ _ _ oQ];have e0:(cs.toList.take (i+1)++(M.drop i++cs.toList.drop (i+1+(M.drop i).length))).take i=M.take i:=by rw[LO oQ,take_take,xP oL,hM]
 rw[zV (cs.toList.take (i+1)),e0];rw[drop_append,LV (by rw[yL];exact Nat.min_le_left _ _),xH];have e:(List.take (i+1) cs.toList).length=i+1:=oQ;rw[e,xK,Nat.sub_self,xE,<- zV];exact take_left' oQ
def qz5{i:Nat}(hi:i<=M.length)(hL:M.length+1<=cs.size)(hM:cs.toList.take i=M.take i):(d7 (d7 cs i [v]) (i+1) (M.drop i)).toList.take (M.length+1)=M.take i++[v]++M.drop i:=by rw[tM _ _ _ (by rw[qI];simp;omega),tM _ _ _ oQ,hM];have e:(M.take i++[v]).length=i+1:=oQ;rw[LO (l₁:=M.take i++[v]) (by rw[e];exact zM _),zS (l:=M.take i++[v]) (by rw[e];exact zM _)];exact take_left' oQ
def qzz{i:Nat}(hi:i+1<=M.length)(hM:cs.toList.take M.length=M):(d7 (d7 cs i (M.drop (i+1))) (M.length-1) [z]).toList.take (M.length-1)=M.take i++M.drop (i+1):=by
 have hl:cs.toList.length=cs.size:=Mc;have hle:M.length<=cs.size:=by
  have:=Ma List.length hM;rw[yL,hl] at this;omega
 have hi':cs.toList.take i=M.take i:=by
  conv=>rhs;rw[<- hM]
  rw[take_take,xP oL]
 rw[tM _ _ _ (by rw[qI];simp;omega),tM _ _ _ oQ,hi'];have e:(M.take i++M.drop (i+1)).length=M.length-1:=oQ;rw[LO (l₁:=M.take i++M.drop (i+1)) (by rw[e];exact zM _),zS (l:=M.take i++M.drop (i+1)) (by rw[e];exact zM _),zV];exact take_left' e
def qp2{tS tR:Mf}{a oa ob la ca lb cb:Nat}{ca' cb':Array Me}{Ta Tb:Mf}{fb:Mu}(ht:P.underlying tS=some (.slice e))(hi:P.info? e=some i)(ha:w.heap[a]?=some (.c ca' Ta))(hb:w.heap[b]?=some (.cells cb' Tb fb))(hne:a≠b)(hpos:cb'.size≠0): (Extern.SlicesOverlaps.overlaps #[tS,tS] #[tR] #[.slice (some (dh a oa)) la ca,.slice (some (dh b ob)) lb cb]).run P w=.ok (.bool false) w:=
 Lib.run_overlaps_apart w tS tR e ht i.size (λw=>by simp[sizeOf,typeInfo,hi]) (dh a oa) (dh b ob) la ca lb cb hne Ta Tb ca'.size cb'.size (by simp[World.shape?,ha]) (by simp[World.shape?,hb]) hpos (by simp[World.frozen?,ha]) (by simp[World.frozen?,ha])
section
variable {α:Type} {enc:α->List Me} {e:α->Me} {k:Nat}
def Cj(he:∀x,enc x=[e x])(l:List α):l.flatMap enc=l.map e:=by
 induction l with|nil=>rfl|cons a l ih=>rw[yH,ih,he];rfl
def eZ.ptr{s:Sl}{l:List α}(h:eZ enc 1 w s l B)(hl:l≠[]):∃b cs T,B=[b]/\s.a=some (dh b)/\w.heap[b]?=some (.c cs T)/\s.len=l.length/\s.len<=s.cap/\s.cap<=cs.size/\cs.toList.take l.length=l.flatMap enc:=by rcases h with ⟨_,h,_⟩|⟨b,o,cs,T,h1,rfl,h3,h4,h5,h6,h7,h8⟩;exact absurd h hl;exact⟨b,cs,T,h1,h3,h4,h5,h6,oL,by simpa using h8⟩
def qsL{i:Nat}{v:Me}(hi:i<M.length)(hM:cs.toList.take M.length=M):(d7 cs i [v]).toList.take M.length=M.set i v:=by
 have hl:cs.toList.length=cs.size:=Mc;have hle:M.length<=cs.size:=by
  have:=Ma List.length hM;rw[yL,hl] at this;omega
 have hi':cs.toList.take i=M.take i:=by
  conv=>rhs;rw[<- hM]
  rw[take_take,xP oL]
 have hd:(cs.toList.drop (i+1)).take (M.length-(i+1))=M.drop (i+1):=by
  conv=>rhs;rw[<- hM]
  rw[drop_take]
 rw[tM _ _ _ oQ,hi',set_eq_take_append_cons_drop,iP hi,zV,take_append,zS (by rw[yL];omega)];have e1:M.length-(M.take i).length=(M.length-(i+1))+1:=oQ;rw[e1,singleton_append,take_succ_cons];simp only[xK];rw[hd]
def eZ.ET(he:∀x,enc x=[e x]){s:Sl}{l:List α}{b:Nat}{i:Nat}{x:α}{v:Me}{K:WP}(h:eZ enc 1 w s l [b])(hi:i<l.length)(hv:v=e x)(h1:v.oneCell'=true)(kk:∀w',eZ enc 1 w' s (l.set i x) [b]->Fr [b] w w'->K w'):Pt.st (dh b i) [v] w K:=by
 subst hv;obtain⟨b',cs,T,hB,h2,h3,h4,h5,h6,h7⟩:=h.ptr (λe=>by rw[e] at hi;exact absurd hi (xX _));cases hB;refine wU h3 _ rfl (by simp[h1]) oQ λw' hb f=>kk w' (.inr ⟨b,0,_,T,rfl,rfl,h2,hb,by rw[xF];exact h4,h5,by rw[qI];omega,?_⟩) f;have hm:=Cj he l
 have:=qsL (M:=l.flatMap enc) (v:=e x) (by rw[hm,zK];exact hi) (by rw[hm,zK,<- hm];exact h7);rw[xE,xR,xF,Cj he,map_set,<- hm];rw[hm,zK] at this;rw[hm];exact this
def eZ.A3{s:Sl}{l:List α}{i:Int}{K:Addr->Prop}(h:eZ enc 1 w s l B)(hi:i=n)(hn:n<l.length)(kk:∀b,B=[b]->K (dh b n)):idx s i 1 K:=by
 obtain⟨b,cs,T,hB,h2,h3,h4,h5,h6,h7⟩:=h.ptr (λe=>by rw[e] at hn;exact absurd hn (xX _));subst hi;refine vD h2 ⟨oL,oL⟩ ?_;have:=kk b hB;simpa using this
def eZ.one(he:∀x,enc x=[e x]){b c:Nat}{l:List α}(hb:w.heap[b]?=some (.c cs T))(hn:n=l.length)(hc:n<=c)(hcs:c<=cs.size)(hl:cs.toList.take l.length=l.map e):eZ enc 1 w ⟨some (dh b),n,c⟩ l [b]:=
 .inr ⟨b,0,cs,T,rfl,rfl,rfl,hb,hn,hc,by simpa using hcs,by rw[xE,xR,Cj he];exact hl⟩
end
def oB:type_of% @dY.ld:=@dY.ld
def oD:type_of% @dY.Fj:=@dY.Fj
def oE:type_of% @dY.dP:=@dY.dP
def oF:type_of% @dY.sz:=@dY.sz
def oG:type_of% @dY.start:=@dY.start
def oH:type_of% @dY.drew:=@dY.drew
def oI:type_of% @dY.st':=@dY.st'
def oJ:type_of% @dY.st:=@dY.st
def oK:type_of% @dY.eX:=@dY.eX
end Go.Pt
namespace Go.Proofs.YtcnddmfogfebiaaGreatDoor
open Go.Proofs.Tryz
section
set_option maxRecDepth 100000
open Go Go.Pt
open Go.IntKind (wrap)
variable {K:Int->WP} {h:Me} {n:Int} {p r:Option Addr} {w:Md}
abbrev eV (c:List Cell) (x:HL c):Me:=.agg (List.toArray (HL.mk c x))
abbrev lu (a:Array Mf) (t:Mf) (v:Array Me) (w:Md):=Pt.run di ((Builtin.append_ a t v).run prog w)
abbrev cW:=call prog
abbrev dW (a:Addr) (v:Me) (w:Md):Prop:=w.cell? a=some v
abbrev fZ (a:Addr) (i:Nat) (v:List Me) (w:Md):Prop:=kU w a i v

def qxT{b:Sl}(hF:cW 239 [.u 0,b.v] dm w λ(c:Int) d=>K c d):cW 191 [b.v] dm w K:=LL [] func191 hF

def qvM{sum:Int}{b:Sl}(hF:loop (Mo) (λa (c:Mo) d=>LG (c.2<(b.len:Int)) (idx b c.2 1 λe=>ld .b e d λ(f:Int)=>gV (0<=bits .and .u32 (bits .xor .u32 c.1 (wrap .u32 f)) 15/\bits .and .u32 (bits .xor .u32 c.1 (wrap .u32 f)) 15<(↑16:Int))<|ld .u (Addr.add (dh 1) (Int.toNat (bits .and .u32 (bits .xor .u32 c.1 (wrap .u32 f)) 15)*1)) d λ(g:Int)=>gV (0<=bits .and .u32 (bits .xor .u32 (Int.fdiv (bits .xor .u32 c.1 (wrap .u32 f)) (2^min (Int.toNat 4) (IntKind.bits .u32))) g) 15/\bits .and .u32 (bits .xor .u32 (Int.fdiv (bits .xor .u32 c.1 (wrap .u32 f)) (2^min (Int.toNat 4) (IntKind.bits .u32))) g) 15<(↑16:Int))<|ld .u (Addr.add (dh 1) (Int.toNat (bits .and .u32 (bits .xor .u32 (Int.fdiv (bits .xor .u32 c.1 (wrap .u32 f)) (2^4)) g) 15)*1)) d λ(h:Int)=>a (bits .xor .u32 (Int.fdiv (bits .xor .u32 (Int.fdiv (bits .xor .u32 c.1 (wrap .u32 f)) (2^4)) g) (2^4)) h,wrap .i64 (c.2+1)) d) (K (bits .xor .u32 c.1 4294967295) d)) (bits .xor .u32 sum 4294967295,0) w):cW 239 [.u sum,b.v] dm w K:=LL (aS [(4,.l [(5,.one .u),(12,.one .i)])]) func239 hF

def qv9{b:Sl}{K:Unit->WP}(hF:loop (Int) (λa (c:Int) d=>LG (c<(b.len:Int)) (gV (0<=wrap .i64 (8*wrap .i64 (wrap .i64 ((b.len:Int)-1)-c)))<|idx b c 1 λe=>st e [.b (wrap .u8 (Int.fdiv n (2^min (Int.toNat (wrap .i64 (8*wrap .i64 (wrap .i64 ((b.len:Int)-1)-c)))) 32)))] d λf=>a (wrap .i64 (c+1)) f) (K () d)) 0 w):cW 232 [b.v,.u n] [] w K:=LL ([.n,.l [(7,.one .i)]]) func232 hF

def qv8{b:Sl}(hF:loop (Mo) (λa (c:Mo) d=>LG (c.2<(b.len:Int)) (idx b c.2 1 λe=>ld .b e d λ(f:Int)=>a (bits .or .u32 (wrap .u32 (c.1*2^8)) (wrap .u32 f),wrap .i64 (c.2+1)) d) (K c.1 d)) (0,0) w):cW 190 [b.v] dm w K:=LL (aS [(4,.l [(3,.one .u),(8,.one .i)])]) func190 hF

def quX{number kind:Int}{body:Sl}{K:Mr->WP}(hF:LG ((body.len:Int)>500) (K (dN,3) w) (nD 5 ([.b 0]) 1 1 512 512 w λb c=>gi b (some 4) (some 8) none 1 λd=>cW 232 ([d.v,.u number]) [] c λe f=>idx b 8 1 λg=>st g [.b kind] f λh=>gi b (some 9) (some 11) none 1 λi=>cW 232 ([i.v,.u (wrap .u32 (body.len:Int))]) [] h λj k=>gi b (some 12) none none 1 λl=>run dj ((Builtin.copy_ (#[79,79]) 3 #[l.v,body.v]).run prog k) λ(m:Int) n=>gi b none (some 4) none 1 λo=>gi b (some 4) none none 1 λp=>cW 191 [p.v] dm n.drew λ(q:Int) r=>cW 232 ([o.v,.u q]) [] r λs t=>K (b,0) t)):cW 181 [.u number,.b kind,body.v] dl w K:=LL [] func181 hF

def quW{number:Int}{b:Sl}{K:Mx->WP}(hF:cond (!(b.len:Int)==512) (K (0,dN,1) w) (gi b none (some 4) none 1 λc=>gi b (some 4) none none 1 λd=>cW 190 [c.v] dm w.drew λ(e:Int) f=>cW 191 [d.v] dm f λ(g:Int) h=>cond (!e==g) (K (0,dN,8) h) (gi b (some 4) (some 8) none 1 λi=>cW 190 [i.v] dm h λ(j:Int) k=>cond (!j==number) (K (0,dN,4) k) (gi b (some 9) (some 11) none 1 λl=>cW 190 [l.v] dm k λ(m:Int) n=>join (Bool) (λo=>LG (m>500) (o true n) (idx b 11 1 λp=>ld .b p n λ(q:Int)=>o (!q==0) n)) λr s=>cond r (K (0,dN,2) s) (gi b (some (wrap .u32 (12+m))) none none 1 λt=>LF #[.b 0] 5 s λu v=>cW 192 [t.v,.slice (pW u) 1 1] dj v λ(x:Int) y=>cond (!x==(t.len:Int)) (K (0,dN,2) y) (idx b 8 1 λz=>ld .b z y.drew λ(A:Int)=>gi b (some 12) (some (wrap .u32 (12+m))) none 1 λB=>cW 49 [B.v] di y.drew λC D=>held [dW z (.b A)] D<|K (A,C,0) D)))))):cW 136 [.u number,b.v] du w K:=LL (aS [(5,.o [[0,1,3,4,2,5,6,7]]),(5,.j [(37,.one .bool)])]) func136 hF

def qqO{s sep:Sl}(hF:cond ((sep.len:Int)==0) (cW 240 [s.v] dj w λ(b:Int) c=>K (wrap .i64 (b+1)) c) (cond ((sep.len:Int)==1) (idx sep 0 1 λd=>ld .b d w λ(e:Int)=>ext prog 241 [s.v,.b e] dj w λ(f:Int) g=>K f g) (loop (Mr) (λh (i:Mr) j=>cW 242 [i.1.v,sep.v] dj j λ(k:Int) l=>cond (k==-1) (K i.2 l) (gi i.1 (some (wrap .i64 (k+(sep.len:Int)))) none none 1 λm=>h (m,wrap .i64 (i.2+1)) l)) (s,0) w))):cW 192 [s.v,sep.v] dj w K:=LL (aS [(8,.l [(0,.one .slice),(5,.one .i)])]) func192 hF

def qqN{b:Sl}{K:Sl->WP}(hF:cond (Option.isNone b.a) (K (dN) w) (LF #[] 5 w λc d=>lu (#[79,79]) 79 #[.slice (pW c) 0 0,b.v] d λe f=>K e f)):cW 49 [b.v] di w K:=LL [] func49 hF

def qoW{s:Sl}{K:Sl->WP}(hF:cond (Option.isNone s.a) (K (dN) w) (LF #[] 5 w λb c=>lu (#[79,79]) 79 #[.slice (pW b) 0 0,s.v] c λd e=>K d e)):cW 133 [s.v] di w K:=LL [] func133 hF
def qsy  (K:(Option Addr)->WP) (w:Md):Prop:=new (Obj.map #[] 0) w λa b=>LF #[.slice none 0 0,.map (some a)] 350 b λc d=>K (pW c) d
def qwe{w K}(hF:qsy  K w):cW 185 [] dp w K:=LL [] func185 hF

def qoJ(hF:nn p λa=>ld .s a w λb=>K (b.len:Int) w):cW 257 [.p p] dj w K:=LL [] func257 hF

def qoK{K:Bool->WP}(hF:cW 188 [.p p,.u n] dk w λa b=>cond a (K false b) (nn p λc=>ld .map (LD c 1) b λd=>jt ((Instr.mapUpdate 295 (.map d) (.u n) (.i 1)).run prog b) λe=>nn p λf=>cW 236 ([Value.iface 352 (.pointer (some f)),Value.iface 35 (.u n)]) [] e λg h=>K true h)):cW 186 [.p p,.u n] dk w K:=LL [] func186 hF

def qm2{K:Mz->WP}(hF:nn p λa=>ld .s a w λb=>cond ((b.len:Int)==0) (K (0,false) w) (nn p λc=>cW 299 [Value.iface 352 (.p (some c))] dx w λd e=>eO dJ (λf=>(Instr.typeAssert d 20 35 true).run prog f) e λg=>nn p λh=>ld .map (LD h 1) e λi=>run [] ((Builtin.delete_ (#[295,35]) 0 #[.map i,.u g.1]).run prog e) λj k=>K g k)):cW 284 [.p p] dJ w K:=LL [] func284 hF

def qoI{K:Bool->WP}(hF:nn p λa=>ld .map (LD a 1) w λb=>eO dj (λc=>(Instr.lookup 295 (.map b) (.u n) false).run prog c) w λ(d:Int)=>K (d==1) w):cW 188 [.p p,.u n] dk w K:=LL [] func188 hF

def qm1{K:(Option Addr)->WP}(hF:cW 185 [] dp w λa b=>nn p λc=>ld .s c b λd=>loop (Int) (λe (f:Int) g=>LG (f<(d.len:Int)) (idx d f 1 λh=>ld .u h g λ(i:Int)=>cW 186 [.p a,.u i] dk g λj k=>e (wrap .i64 (f+1)) k) (K a g)) 0 b):cW 265 [.p p] dp w K:=LL (aS [(4,.l [(12,.one .i)])]) func265 hF

def quy{x:Me}{K:Unit->WP}(hF:inv prog h "Push" [x] [] w λa b=>inv prog h "Len" [] dj b λ(c:Int) d=>cW 275 ([h,.i (wrap .i64 (c-1))]) [] d λe f=>K () f):cW 236 [h,x] [] w K:=LL [] func236 hF

def qvV{K:Me->WP}(hF:inv prog h "Len" [] dj w λ(a:Int) b=>inv prog h "Swap" ([.i 0,.i (wrap .i64 (a-1))]) [] b λc d=>cW 306 [h,.i 0,.i (wrap .i64 (a-1))] dk d λe f=>inv prog h "Pop" [] dx f λg i=>K g i):cW 299 [h] dx w K:=LL [] func299 hF

def qx3{j:Int}{K:Unit->WP}(hF:loop (Int) (λa (b:Int) c=>join (Bool) (λd=>cond (wrap .i64 (Int.tdiv (wrap .i64 (b-1)) 2)==b) (d true c) (inv prog h "Less" ([.i b,.i (wrap .i64 (Int.tdiv (wrap .i64 (b-1)) 2))]) dk c λe f=>d (!e) f)) λg i=>cond g (K () i) (inv prog h "Swap" ([.i (wrap .i64 (Int.tdiv (wrap .i64 (b-1)) 2)),.i b]) [] i λk l=>a (wrap .i64 (Int.tdiv (wrap .i64 (b-1)) 2)) l)) j w):cW 275 [h,.i j] [] w K:=LL ([.l [(1,.one .i)],.n,.n,.j [(17,.one .bool)]]) func275 hF

def quz{i0:Int}{K:Bool->WP}(hF:join (Int) (λa=>loop (Int) (λb (c:Int) d=>join (Bool) (λe=>LG (wrap .i64 (wrap .i64 (2*c)+1)>=n) (e true d) (e (decide (wrap .i64 (wrap .i64 (2*c)+1)<0)) d)) λf g=>cond f (a c g) (join (Int) (λi=>join (Bool) (λj=>LG (wrap .i64 (wrap .i64 (wrap .i64 (2*c)+1)+1)<n) (inv prog h "Less" ([.i (wrap .i64 (wrap .i64 (wrap .i64 (2*c)+1)+1)),.i (wrap .i64 (wrap .i64 (2*c)+1))]) dk g λk l=>j k l) (j false g)) λm o=>cond m (i (wrap .i64 (wrap .i64 (wrap .i64 (2*c)+1)+1)) o) (i (wrap .i64 (wrap .i64 (2*c)+1)) o)) λ(p:Int) q=>inv prog h "Less" ([.i p,.i c]) dk q λr s=>cond (!r) (a c s) (inv prog h "Swap" ([.i c,.i p]) [] s λt u=>b p u))) i0 w) λ(v:Int) x=>K (decide (v>i0)) x):cW 306 [h,.i i0,.i n] dk w K:=LL ([.n,.n,.j [(7,.one .i)],.l [(7,.one .i)],.n,.n,.j [(21,.one .bool)],.n,.j [(9,.one .i)],.n,.j [(33,.one .bool)]]) func306 hF

def qqb{r:Sl}(hF:K (r.len:Int) w):cW 327 [r.v] dj w K:=LL [] func327 hF

def qoL{r:Sl}{i k:Int}{K:Bool->WP}(hF:idx r i 1 λa=>ld .u a w.drew λ(b:Int)=>idx r k 1 λc=>ld .u c w.drew λ(d:Int)=>K (decide (b<d)) w.drew):cW 328 [r.v,.i i,.i k] dk w K:=LL [] func328 hF

def qoN{r:Sl}{i k:Int}{K:Unit->WP}(hF:idx r k 1 λa=>ld .u a w.drew λ(b:Int)=>idx r i 1 λc=>ld .u c w.drew λ(d:Int)=>idx r i 1 λe=>st e [.u b] w.drew λf=>idx r k 1 λg=>st g [.u d] f λh=>K () h):cW 329 [r.v,.i i,.i k] [] w K:=LL [] func329 hF

def qqc{K:Me->WP}(hF:nn r λb=>ld .s b w.drew λc=>nn r λd=>ld .s d w.drew λe=>idx c (wrap .i64 ((e.len:Int)-1)) 1 λf=>ld .u f w.drew λ(g:Int)=>nn r λh=>ld .s h (World.drew w.drew) λi=>nn r λj=>ld .s j (World.drew w.drew) λk=>gi i none (some (wrap .i64 ((k.len:Int)-1))) none 1 λl=>nn r λm=>st m [l.v] (World.drew w.drew) λn=>K (Value.iface 35 (.u g)) n):cW 330 [.p r] dx w K:=LL [] func330 hF

def qoM{x:Me}{K:Unit->WP}(hF:eO dJ (λb=>(Instr.typeAssert x 20 35 true).run prog b) w λc=>cond c.2 (nn r λd=>ld .s d w λe=>LF #[.u c.1] 35 w λf g=>lu (#[348,348]) 348 #[.slice e.a e.len e.cap,.slice (pW f) 1 1] g λh i=>nn r λj=>st j [.slice h.a h.len h.cap] i λk=>K () k) (K () w)):cW 331 [.p r,x] [] w K:=LL [] func331 hF

def qoq{free:Int}(hF:LG (free<1) (K 0 w) (K (wrap .i64 (wrap .i64 (Int.tdiv (wrap .i64 (free-1)) 124)+1)) w)):cW 127 [.i free] dj w K:=LL [] func127 hF

def qmT{l:Sl}{K:Bool->WP}(hF:loop (Mo) (λa (b:Mo) c=>LG (b.2<(l.len:Int)) (idx l b.2 1 λd=>ld .u d c λ(e:Int)=>LG (e<=b.1) (K false c) (a (e,wrap .i64 (b.2+1)) c)) (K true c)) (1,0) w):cW 229 [l.v] dk w K:=LL (aS [(4,.l [(3,.one .u),(8,.one .i)])]) func229 hF

def qpI{b:Sl}{K:Sl->WP}(hF:LF #[.b (wrap .u8 (Int.fdiv n (2^24))),.b (wrap .u8 (Int.fdiv n (2^16))),.b (wrap .u8 (Int.fdiv n (2^8))),.b (wrap .u8 n)] 5 w λc d=>lu (#[79,79]) 79 #[b.v,.slice (pW c) 4 4] d λe f=>K e f):cW 231 [b.v,.u n] di w K:=LL [] func231 hF

def qmS{l:Sl}{pages:Int}{K:Me->WP}(hF:LF #[l.v] 117 w λb c=>LF #[.i pages] 3 c λd e=>K (Value.func (Fn.func 273) #[] #[dM d,dM b]) e):cW 230 [l.v,.i pages] dx w K:=LL [] func230 hF

def qi9{yield:Me}{cap0 cap1:Addr}{K:Unit->WP}(hF:ld .i cap0 w λ(b:Int)=>loop (Int) (λc (d:Int) e=>LG (d<b) (ld .s cap1 e λf=>ld .s cap1 e λg=>gi g none (some (if 123<(f.len:Int) then 123 else (f.len:Int))) none 1 λh=>dU prog yield [.i d,h.v] dk e λi j=>cond (!i) (K () j) (ld .s cap1 j λk=>gi k (some (if 123<(f.len:Int) then 123 else (f.len:Int))) none none 1 λl=>st cap1 [l.v] j λm=>c (wrap .i64 (d+1)) m)) (K () e)) 0 w):cW 273 [yield,.p (some cap0),.p (some cap1)] [] w K:=LL ([.n,.l [(7,.one .i)]]) func273 hF

def qla{numbers pages:Sl}{K:Mr->WP}(hF:LF #[pages.v] 117 w λb c=>join (Bool) (λd=>cW 229 [numbers.v] dk c λe f=>cond (!e) (d true f) (ld .s (dh b) f λg=>d (decide ((numbers.len:Int)>wrap .i64 (123*(g.len:Int)))) f)) λh i=>cond h (K (dN,1) i) (ld .s (dh b) i λj=>loop (Sl×Int×Int) (λk (l:Sl×Int×Int) m=>LG (l.2.2<(j.len:Int)) (idx j l.2.2 1 λn=>ld .u n m λ(o:Int)=>LG (o<2) (K (dN,1) m) (k (l.1,l.2.1,wrap .i64 (l.2.2+1)) m)) (LF #[.slice none 0 0] 116 m λp q=>ld .s (dh b) q λr=>cW 230 [numbers.v,.i (r.len:Int)] dx q λs t=>mn prog s [.one .i,.one .slice] (λ(u:Int×Sl) (v:Md->(WP)->Prop) (x:WP) y z=>v z λA=>join (Int) (λB=>ld .s (dh b) A λC=>LG (wrap .i64 (u.1+1)<(C.len:Int)) (ld .s (dh b) A λD=>idx D (wrap .i64 (u.1+1)) 1 λE=>ld .u E A λ(F:Int)=>B F A) (B 0 A)) λ(G:Int) H=>cW 231 [.slice none 0 0,.u G] di H λI J=>LF #[.b (wrap .u8 (Int.fdiv (u.2.len:Int) (2^8))),.b (wrap .u8 (u.2.len:Int))] 5 J λL M=>lu (#[79,79]) 79 #[I.v,.slice (pW L) 2 2] M λN O=>loop (Mr) (λP (Q:Mr) R=>LG (Q.2<(u.2.len:Int)) (idx u.2 Q.2 1 λS=>ld .u S R λ(T:Int)=>cW 231 [Q.1.v,.u T] di R λU V=>P (U,wrap .i64 (Q.2+1)) V) (ld .s (dh p) R λW=>LF #[Q.1.v] 79 R λX Y=>lu (#[116,116]) 116 #[W.v,.slice (pW X) 1 1] Y λZ aa=>st (dh p) [Z.v] aa λab=>x ab)) (N,0) O) (λac ad=>ld .s (dh p) ad λae=>fc ac ad λaf=>K (ae,0) af) [] t)) (dN,0,0) i)):cW 180 [numbers.v,pages.v] dl w K:=Jk (an:=aS [(2,.j [(25,.one .bool)]),(3,.l [(4,.one .slice),(5,.one .i),(28,.one .i)]),(9,.r [.one .i,.one .slice]),(2,.j [(11,.one .u)]),(4,.l [(12,.one .slice),(64,.one .i)])]) func180 hF

def qpH{b:Sl}(hF:idx b 0 1 λa=>ld .b a w.drew λ(c:Int)=>idx b 1 1 λd=>ld .b d w.drew λ(e:Int)=>idx b 2 1 λf=>ld .b f w.drew λ(g:Int)=>idx b 3 1 λh=>ld .b h w.drew λ(i:Int)=>K (bits .or .u32 (bits .or .u32 (bits .or .u32 (wrap .u32 (wrap .u32 c*2^24)) (wrap .u32 (wrap .u32 e*2^16))) (wrap .u32 (wrap .u32 g*2^8))) (wrap .u32 i)) w.drew):cW 235 [b.v] dm w K:=LL [] func235 hF

def qmR{body:Sl}{K:Mx->WP}(hF:LG ((body.len:Int)<6) (K (0,dN,2) w) (idx body 4 1 λb=>ld .b b w.drew λ(c:Int)=>idx body 5 1 λd=>ld .b d w.drew λ(e:Int)=>cW 235 [body.v] dm w.drew λ(f:Int) g=>held [dW d (.b e),dW b (.b c)] g<|join (Bool) (λj=>cond (f==1) (j true g) (LG (bits .or .i64 (wrap .i64 (wrap .i64 c*2^8)) (wrap .i64 e)>123) (j true g) (j (!(body.len:Int)==wrap .i64 (6+wrap .i64 (4*bits .or .i64 (wrap .i64 (wrap .i64 c*2^8)) (wrap .i64 e)))) g))) λk l=>cond k (K (0,dN,2) l) (loop (Mr) (λm (n:Mr) o=>LG (n.2<bits .or .i64 (wrap .i64 (wrap .i64 c*2^8)) (wrap .i64 e)) (gi body (some (wrap .i64 (6+wrap .i64 (4*n.2)))) none none 1 λp=>cW 235 [p.v] dm o λ(q:Int) r=>LF #[.u q] 35 r λs t=>lu (#[117,117]) 117 #[n.1.v,.slice (pW s) 1 1] t λu v=>m (u,wrap .i64 (n.2+1)) v) (cW 229 [n.1.v] dk o λx y=>cond (!x) (K (0,dN,2) y) (K (f,n.1,0) y))) (dN,0) l))):cW 184 [body.v] dL w K:=LL (aS [(5,.o [[0,2,3,4,5,6,7,8,9,10,11,1,12,13]]),(1,.j [(37,.one .bool)]),(4,.l [(7,.one .slice),(39,.one .i)])]) func184 hF
@[reducible] def D8:List Cell:=[.int .u32,.int .u32,.int .u32]

def qvq{b:Sl}{K:Sl->WP}(hF:LF #[.b (wrap .u8 (Int.fdiv n (2^24))),.b (wrap .u8 (Int.fdiv n (2^16))),.b (wrap .u8 (Int.fdiv n (2^8))),.b (wrap .u8 n)] 5 w λc d=>lu (#[79,79]) 79 #[b.v,.slice (pW c) 4 4] d λe f=>K e f):cW 233 [b.v,.u n] di w K:=LL [] func233 hF

def qrx{s:List Me}{K:Sl->WP}(hF:LF (List.toArray s) 130 w λb c=>ld (.w) (dh b) c.drew λ(d:Int)=>ld (.w) (dh b) c.drew λ(e:Int)=>cW 233 [.slice none 0 0,.u (wrap .u32 (Int.fdiv d (2^32)))] di c.drew λf g=>held [dW (dh b) (.w e)] g<|cW 233 [f.v,.u (wrap .u32 e)] di g λi j=>ld .u (dh b 1) j.drew λ(k:Int)=>ld .u (dh b 2) j.drew λ(l:Int)=>ld .u (dh b 3) j.drew λ(m:Int)=>cW 233 [i.v,.u k] di j.drew λn o=>held [dW (dh b 3) (.u m),dW (dh b 2) (.u l)] o<|cW 233 [n.v,.u l] di o λr t=>held [dW (dh b 3) (.u m)] t<|cW 233 [r.v,.u m] di t λv x=>iA 24 (dh b 4) x λy=>loop (Mr) (λz (A:Mr) B=>LG (A.2<8) (gV (0<=A.2/\A.2<(↑8:Int))<|kO (D8) y (Int.toNat A.2*3) λC=>LF #[.u 0,.u 0,.u 0] 91 B λD E=>st (dh D) (HL.mk D8 C) E λF=>ld .u (dh D) F.drew λ(G:Int)=>ld .u (dh D 1) F.drew λ(H:Int)=>ld .u (dh D 2) F.drew λ(I:Int)=>cW 233 [A.1.v,.u G] di F.drew λJ L=>held [dW (dh D 2) (.u I),dW (dh D 1) (.u H)] L<|cW 233 [J.v,.u H] di L λO P=>held [dW (dh D 2) (.u I)] P<|cW 233 [O.v,.u I] di P λR S=>z (R,wrap .i64 (A.2+1)) S) (ld (.w) (dh b) B λ(T:Int)=>cW 181 [.u (wrap .u32 (Int.tmod T 2)),.b 1,A.1.v] dl B λU V=>K U.1 V)) (v,0) x):cW 182 [.agg s.toArray] di w K:=LL (aS [(2,.o [[0,1,2,3,5,6,7,4,8,9]]),(1,.o [[0,1,2,4,5,7,8,3,6,9,10]]),(2,.l [(3,.one .slice),(29,.one .i)]),(4,.o [[0,1,2,4,5,7,8,3,6,9,10]])]) func182 hF

def qry{b:Sl}{K:(List Me)->WP}(hF:LF #[b.v] 79 w λc d=>eX prog 130 d λe f=>eX prog 130 f λg h=>dU prog (Value.func (Fn.func 293) #[] #[dM c]) [] dm h λ(i:Int) j=>st (dh g) [.int .u64 (wrap .u64 (wrap .u64 i*2^32))] j λk=>ld (.int .u64) (dh g) k.drew λ(l:Int)=>dU prog (Value.func (Fn.func 293) #[] #[dM c]) [] dm k.drew λ(m:Int) n=>held [dW (dh g) (.int .u64 l)] n<|st (dh g) [.int .u64 (bits .or .u64 l (wrap .u64 m))] n λp=>dU prog (Value.func (Fn.func 293) #[] #[dM c]) [] dm p λ(q:Int) r=>st (dh g 1) [.u q] r λs=>dU prog (Value.func (Fn.func 293) #[] #[dM c]) [] dm s λ(t:Int) u=>st (dh g 2) [.u t] u λv=>dU prog (Value.func (Fn.func 293) #[] #[dM c]) [] dm v λ(x:Int) y=>st (dh g 3) [.u x] y λz=>loop (Int) (λA (B:Int) C=>LG (B<8) (gV (0<=B/\B<(↑8:Int))<|dU prog (Value.func (Fn.func 293) #[] #[dM c]) [] dm C λ(D:Int) E=>st (Addr.add (Addr.add (dh g 4) (Int.toNat B*3)) 0) [.u D] E λF=>dU prog (Value.func (Fn.func 293) #[] #[dM c]) [] dm F λ(G:Int) H=>st (⟨(Addr.add (Addr.add (dh g) 4) (Int.toNat B*3)).block,(Addr.add (Addr.add (dh g) 4) (Int.toNat B*3)).off+1,none⟩) [.u G] H λI=>dU prog (Value.func (Fn.func 293) #[] #[dM c]) [] dm I λ(J:Int) L=>st (⟨(Addr.add (Addr.add (dh g) 4) (Int.toNat B*3)).block,(Addr.add (Addr.add (dh g) 4) (Int.toNat B*3)).off+2,none⟩) [.u J] L λM=>A (wrap .i64 (B+1)) M) (iA 28 (dh g) C λN=>gV (List.length N=28)<|st (dh e) N C λO=>iA 28 (dh e) O λP=>K P O)) 0 z):cW 274 [b.v] dz w K:=LL (aS [(11,.l [(29,.one .i)])]) func274 hF

def qnd{cap0:Addr}(hF:ld .s cap0 w.drew λb=>idx b 0 1 λc=>ld .b c w.drew λ(d:Int)=>ld .s cap0 w.drew λe=>idx e 1 1 λf=>ld .b f w.drew λ(g:Int)=>ld .s cap0 w.drew λh=>idx h 2 1 λi=>ld .b i w.drew λ(j:Int)=>ld .s cap0 w.drew λk=>idx k 3 1 λl=>ld .b l w.drew λ(m:Int)=>ld .s cap0 w.drew λn=>gi n (some 4) none none 1 λo=>st cap0 [o.v] w.drew λp=>K (bits .or .u32 (bits .or .u32 (bits .or .u32 (wrap .u32 (wrap .u32 d*2^24)) (wrap .u32 (wrap .u32 g*2^16))) (wrap .u32 (wrap .u32 j*2^8))) (wrap .u32 m)) p):cW 293 [.p (some cap0)] dm w K:=LL [] func293 hF
abbrev zf1 (K:((List Me)×Int)->WP) (w_18:Md) (r_1:Nat):Prop:=eO dz (λa=>(Instr.build 130 #[]).run prog a) w_18 λb=>gV (List.length b=28)<|st (dh r_1) b w_18 λc=>iA 28 (dh r_1) c λd=>K (d,2) c

def qtx{place:Int}{b:Sl}{K:((List Me)×Int)->WP}(hF:eX prog 130 w λc d=>join (Bool) (λe=>cond (!place==0) (e (!place==1) d) (e false d)) λf g=>cond f (eO dz (λh=>(Instr.build 130 #[]).run prog h) g λi=>gV (List.length i=28)<|st (dh c) i g λj=>iA 28 (dh c) j λk=>K (k,1) j) (cW 136 [.u (wrap .u32 place),b.v] du g λ(l:Mx) m=>cond (!l.2.2==0) (eO dz (λn=>(Instr.build 130 #[]).run prog n) m λo=>gV (List.length o=28)<|st (dh c) o m λp=>iA 28 (dh c) p λq=>K (q,l.2.2) p) (join (Bool) (λr=>cond (!l.1==1) (r true m) (r (!(l.2.1.len:Int)==116) m)) λs t=>cond s (zf1 K t c) (cW 274 [l.2.1.v] dz t λu v=>eX prog 130 v λx y=>gV (List.length u=28)<|st (dh x) u y λz=>ld (.w) (dh x) z λ(A:Int)=>cond (!Int.tmod A 2==wrap .u64 place) (zf1 K z c) (iA 28 (dh x) z λB=>gV (List.length B=28)<|st (dh c) B z λC=>iA 28 (dh c) C λD=>K (D,0) C))))):cW 234 [.i place,b.v] dH w K:=LL (aS [(2,.j [(15,.one .bool)]),(6,.j [(35,.one .bool)])]) func234 hF

def qqv{a b:Sl}{K:((List Me)×Int)->WP}(hF:eX prog 130 w λc d=>cW 234 [.i 0,a.v] dH d λ(e:List Me×Int) f=>eX prog 130 f λg h=>gV (List.length e.1=28)<|st (dh g) e.1 h λi=>cW 234 [.i 1,b.v] dH i λ(j:List Me×Int) k=>eX prog 130 k λl m=>gV (List.length j.1=28)<|st (dh l) j.1 m λn=>join (Bool) (λo=>cond (!e.2==0) (o (!j.2==0) n) (o false n)) λp q=>cond p (eO dz (λr=>(Instr.build 130 #[]).run prog r) q λs=>gV (List.length s=28)<|st (dh c) s q λt=>iA 28 (dh c) t λu=>K (u,5) t) (join (Bool) (λv=>cond (!e.2==0) (v true q) (cond (j.2==0) (ld (.w) (dh l) q λ(x:Int)=>ld (.w) (dh g) q λ(y:Int)=>v (decide (x>y)) q) (v false q))) λz A=>cond z (iA 28 (dh l) A λB=>gV (List.length B=28)<|st (dh c) B A λC=>iA 28 (dh c) C λD=>K (D,0) C) (iA 28 (dh g) A λE=>gV (List.length E=28)<|st (dh c) E A λF=>iA 28 (dh c) F λG=>K (G,0) F))):cW 183 [a.v,b.v] dH w K:=LL (aS [(4,.j [(20,.one .bool)]),(1,.j [(28,.one .bool)])]) func183 hF
end
end Go.Proofs.YtcnddmfogfebiaaGreatDoor
