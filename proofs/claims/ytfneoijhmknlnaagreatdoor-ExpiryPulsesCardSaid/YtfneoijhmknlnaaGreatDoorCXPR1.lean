/- Conditions: those that stand in each line. -/
import Derived.WalkKit
import Derived.RangeFuncLeaves
import Derived.RangeFuncRecord
import Derived.RangeFuncIn
import Derived.ChangeKeysEq
import Derived.Carry
import Derived.ProofKit
import Derived.OpenShut
import Derived.ArgAppend
import Derived.Deep.AppendSrc
import Derived.Deep.Slices
import Derived.MapKept
import Derived.Laws.CopyRow
import Derived.Laws.IdiomCopy
import Derived.Laws.Externs
import Derived.Laws.IdiomRangeMap
set_option linter.unusedVariables false
set_option linter.unusedSimpArgs false
set_option linter.defProp false
namespace Go.Pt
abbrev KD:Type:=List Nat
abbrev KE:Type:=List Int
abbrev KH:Type:=Int×Int×Int×Int×Int×Int×Int×Int×Int×Int×Int×Int×Int×Int×Int
abbrev KI:Type:=Int×Int
abbrev KJ:Type:=Int×Int×Int×Int×Int×Int×Int×Int×Int×Int×Int×Int×Int×Int×Int×Int
abbrev KK:Type:=List (Nat×Go.Obj)
abbrev KL:Type:=Int×Int×Int×Int×Option Go.Addr×Int
abbrev KM:Type:=Int×Int×Int×Int×Int×Int×Int×Int×Int
abbrev KO:Type:=Int×Int×Int×Int×Int×Int×Int×Int×Int×Int
abbrev KQ:Type:=Nat×Nat
abbrev KR:Type:=Int×Int×Int
abbrev KT:Type:=Int×Int×Int×Int
abbrev KU:Type:=Int×Bool
abbrev KV:Type:=Option Go.Addr×Option Go.Addr
abbrev KW:Type:=Int×List Int
abbrev JO(a:Go.Addr)(n:Nat):Go.Addr:=⟨a.block,a.off+n,none⟩
abbrev JQ(p:Prop)[Decidable p](X Y:Prop):Prop:=cond (decide p) X Y
theorem JW:type_of% @List.perm_append_singleton:=@List.perm_append_singleton
theorem JX:type_of% @List.take_append_of_le_length:=@List.take_append_of_le_length
theorem JY:type_of% @List.nodup_cons:=@List.nodup_cons
theorem JZ:type_of% @List.mem_cons_self:=@List.mem_cons_self
theorem Ka:type_of% @Bool.eq_iff_iff:=@Bool.eq_iff_iff
theorem Kb:type_of% @Sem.run_bind:=@Sem.run_bind
theorem Kc:type_of% @Result.andThen_ok:=@Result.andThen_ok
theorem Kd:type_of% @List.drop_of_length_le:=@List.drop_of_length_le
theorem Kf:type_of% @List.drop_append_of_le_length:=@List.drop_append_of_le_length
theorem Kg:type_of% @List.eq_nil_of_length_eq_zero:=@List.eq_nil_of_length_eq_zero
theorem Kh:type_of% @List.all_eq_true:=@List.all_eq_true
theorem Ki:type_of% @Int.tdiv_eq_ediv_of_nonneg:=@Int.tdiv_eq_ediv_of_nonneg
theorem Kj:type_of% @Int.tmod_eq_emod_of_nonneg:=@Int.tmod_eq_emod_of_nonneg
theorem Kk:type_of% @Nat.mul_le_mul_right:=@Nat.mul_le_mul_right
theorem Kl:type_of% @List.sublist_cons_self:=@List.sublist_cons_self
theorem Km:type_of% @Bool.or_eq_false_iff:=@Bool.or_eq_false_iff
theorem Kn:type_of% @decide_eq_false_iff_not:=@decide_eq_false_iff_not
theorem Ko:type_of% @Go.MapKept.run_getObj_map:=@Go.MapKept.run_getObj_map
theorem Kq:type_of% @List.mem_filter:=@List.mem_filter
theorem Kr:type_of% @congrArg:=@congrArg
theorem Kt:type_of% @Array.getElem?_setIfInBounds:=@Array.getElem?_setIfInBounds
theorem Ku:type_of% @Array.length_toList:=@Array.length_toList
abbrev Kv:Type:=Go.World
abbrev Kw:Type:=Go.Value
abbrev Kx:Type:=Go.TypeId
abbrev Ky:Type:=Go.Program
abbrev _root_.Go.Value.p(a:Option Go.Addr):Go.Value:=.pointer a
abbrev _root_.Go.Obj.c(a:Array Go.Value)(t:Go.TypeId):Go.Obj:=.cells a t (0,0)
abbrev co:Array Go.Value:=#[.bool false,.slice none 0 0,.slice none 0 0,.slice none 0 0]
abbrev cy:Array Go.Value:=#[.slice none 0 0,.slice none 0 0,.slice none 0 0,.slice none 0 0,.slice none 0 0,.slice none 0 0,.slice none 0 0,.int .u64 0,.bool false,.slice none 0 0]
abbrev c6:Array Go.Value:=#[.int .u64 0,.int .u64 0,.int .u64 0,.int .u64 0,.int .u64 0,.int .u64 0,.int .u64 0,.int .u64 0,.int .u64 0,.int .u64 0,.int .u64 0,.int .u32 0,.int .u16 0,.int .u16 0,.int .u64 0]
abbrev da:Array Go.Value:=#[.int .u64 0,.int .u64 0,.int .u64 0,.int .u64 0,.int .u64 0,.int .u64 0,.int .u64 0,.int .u64 0,.int .u64 0,.int .u64 0,.int .u64 0,.int .u32 0,.int .u32 0,.int .u16 0,.int .u16 0,.int .u64 0]
abbrev dc:Array Go.Value:=#[.int .u64 0,.int .u64 0]
abbrev dd:Array Go.Value:=#[.int .u64 0,.int .u64 0,.int .u64 0,.int .u64 0,.int .u64 0,.int .u64 0,.int .u64 0,.int .u64 0,.int .u64 0]
abbrev de:Array Go.Value:=#[.int .u64 0,.int .u64 0,.int .u64 0,.int .u64 0,.int .u64 0,.int .u64 0,.int .u64 0,.int .u64 0,.int .u64 0,.int .u8 0]
abbrev df:Array Go.Value:=#[.int .u64 0,.int .u64 0,.int .u64 0,.int .u64 0]
abbrev dg:Array Go.Value:=#[.int .u32 0,.bool false,.slice none 0 0,.int .u32 0]
abbrev dh:Array Go.Value:=#[.slice none 0 0,.slice none 0 0]
abbrev di:Array Go.Value:=#[.bool false,.slice none 0 0,.slice none 0 0,.slice none 0 0,.int .i64 0]
abbrev dj:Array Go.Value:=#[.int .u32 0,.int .u32 0,.int .u32 0,.int .u32 0,.int .u32 0,.int .u32 0,.int .u32 0,.int .u32 0]
abbrev dk(a b:Int):Go.Value:=.agg #[.int .u64 a,.int .u64 b]
abbrev dm(b:Nat)(o:Nat:=0):Go.Addr:=⟨b,o,none⟩
abbrev dQ(b:Nat):Go.Value:=.pointer (some ⟨b,0,none⟩)
section
open Go
variable {K:Bool->Prop} {ds:List Deferred} {t:Kx} {y:Operand}
theorem oK{p:Prop}(h:p:=by omega):p:=h
theorem oL{p:Prop}(h:p:=by kernel_rfl):p:=h
theorem oM{p:Prop}(h:p:=by simp):p:=h
theorem oN{p:Prop}(h:p:=by decide):p:=h
theorem oO{p:Prop}(h:p:=by dsimp only;omega):p:=h
theorem oP{p:Prop}(h:p:=by simp;omega):p:=h
theorem oQ{p q:Prop}(x:q)(h:q->p:=by intro h;simpa using h):p:=h x
inductive Cell where
  | int (k:IntKind) | bool | str | ptr | slice | map | any
  deriving DecidableEq
abbrev dl:List Cell:=[.int .u64,.int .u64]
structure Sl where
  a:Option Addr
  len:Nat
  cap:Nat
abbrev Sl.v (s:Sl):Kw:=.slice s.a s.len s.cap
abbrev WP:=Kv->Prop
abbrev KF:Type:=Bool×Sl×Sl×Sl
abbrev KG:Type:=Sl×Sl×Sl×Sl×Sl×Sl×Sl×Int×Bool×Sl
abbrev KN:Type:=Sl×Int
abbrev KP:Type:=Int×Bool×Sl×Int
abbrev KS:Type:=Int×Sl×Int
abbrev pW (r:Nat):Option Addr:=some (dm r)
abbrev _root_.Go.Value.i (n:Int):Value:=.int .i64 n
abbrev Cell.i:Cell:=.int .i64
abbrev _root_.Go.Value.b (n:Int):Value:=.int .u8 n
abbrev Cell.b:Cell:=.int .u8
abbrev _root_.Go.Value.u (n:Int):Value:=.int .u32 n
abbrev Cell.u:Cell:=.int .u32
abbrev Cell.s:Cell:=.slice
abbrev _root_.Go.Value.w (n:Int):Value:=.int .u64 n
abbrev Cell.w:Cell:=.int .u64
def zA:type_of% @List.getElem?_eq_getElem:=@List.getElem?_eq_getElem
def zB:type_of% @of_decide_eq_false:=@of_decide_eq_false
def zC:type_of% @of_decide_eq_true:=@of_decide_eq_true
def zD:type_of% @List.mem_append:=@List.mem_append
def zE:type_of% @List.mem_singleton:=@List.mem_singleton
def zF:type_of% @List.length_append:=@List.length_append
def zG:type_of% @List.mem_cons:=@List.mem_cons
def zH:type_of% @List.mem_append_left:=@List.mem_append_left
def zI:type_of% @List.mem_append_right:=@List.mem_append_right
def zJ:type_of% @Int.toNat_natCast:=@Int.toNat_natCast
def zK:type_of% @List.length_map:=@List.length_map
def zL:type_of% @Nat.le_trans:=@Nat.le_trans
def zM:type_of% @Nat.le_refl:=@Nat.le_refl
def zN:type_of% @List.mem_cons_of_mem:=@List.mem_cons_of_mem
def zO:type_of% @Nat.le_of_ble_eq_true:=@Nat.le_of_ble_eq_true
def zP:type_of% @List.getElem?_eq_some_iff:=@List.getElem?_eq_some_iff
def zQ:type_of% @List.getElem?_map:=@List.getElem?_map
def zR:type_of% @beq_eq_false_iff_ne:=@beq_eq_false_iff_ne
def zS:type_of% @List.take_of_length_le:=@List.take_of_length_le
def zT:type_of% @Bool.not_eq_true':=@Bool.not_eq_true'
def zU:type_of% @decide_eq_false:=@decide_eq_false
def zV:type_of% @List.append_assoc:=@List.append_assoc
def zX:type_of% @List.getElem_mem:=@List.getElem_mem
def zY:type_of% @List.drop_eq_getElem_cons:=@List.drop_eq_getElem_cons
def zZ:type_of% @List.mem_map_of_mem:=@List.mem_map_of_mem
def yA:type_of% @decide_eq_true:=@decide_eq_true
def yB:type_of% @Bool.and_eq_true:=@Bool.and_eq_true
def yC:type_of% @List.length_drop:=@List.length_drop
def yE:type_of% @Nat.lt_of_lt_of_le:=@Nat.lt_of_lt_of_le
def yF:type_of% @Bool.not_eq_false':=@Bool.not_eq_false'
def yG:type_of% @List.mem_of_getElem?:=@List.mem_of_getElem?
def yH:type_of% @List.take_succ_eq_append_getElem:=@List.take_succ_eq_append_getElem
def yI:type_of% @List.flatMap_cons:=@List.flatMap_cons
def yJ:type_of% @List.length_cons:=@List.length_cons
def yK:type_of% @List.pairwise_cons:=@List.pairwise_cons
def yL:type_of% @List.mem_flatMap:=@List.mem_flatMap
def yM:type_of% @List.length_take:=@List.length_take
def yN:type_of% @List.nodup_append:=@List.nodup_append
def yO:type_of% @decide_eq_true_iff:=@decide_eq_true_iff
def yP:type_of% @Option.some.inj:=@Option.some.inj
def yQ:type_of% @beq_iff_eq:=@beq_iff_eq
def yR:type_of% @List.flatMap_append:=@List.flatMap_append
def yS:type_of% @List.getD_eq_getElem?_getD:=@List.getD_eq_getElem?_getD
def yT:type_of% @List.getElem?_eq_none:=@List.getElem?_eq_none
def yU:type_of% @Option.map_eq_some_iff:=@Option.map_eq_some_iff
def yV:type_of% @List.mem_of_mem_drop:=@List.mem_of_mem_drop
def yW:type_of% @List.mem_of_mem_take:=@List.mem_of_mem_take
def yX:type_of% @Nat.eq_of_beq_eq_true:=@Nat.eq_of_beq_eq_true
def yY:type_of% @Nat.zero_le:=@Nat.zero_le
def yZ:type_of% @List.getElem?_append_right:=@List.getElem?_append_right
def xA:type_of% @List.getElem?_append_left:=@List.getElem?_append_left
def xB:type_of% @List.getElem?_drop:=@List.getElem?_drop
def xC:type_of% @List.getElem?_take:=@List.getElem?_take
def xE:type_of% @List.filter_append:=@List.filter_append
def xF:type_of% @List.drop_drop:=@List.drop_drop
def xG:type_of% @List.take_append_drop:=@List.take_append_drop
def xH:type_of% @List.drop_zero:=@List.drop_zero
def xI:type_of% @List.length_set:=@List.length_set
def xJ:type_of% @List.append_nil:=@List.append_nil
def xK:type_of% @List.nil_append:=@List.nil_append
def xL:type_of% @List.cons_append:=@List.cons_append
def xM:type_of% @List.length_nil:=@List.length_nil
def xN:type_of% @Array.getElem?_toList:=@Array.getElem?_toList
def xO:type_of% @List.length_singleton:=@List.length_singleton
def xP:type_of% @List.map_append:=@List.map_append
def xQ:type_of% @List.map_cons:=@List.map_cons
def xR:type_of% @List.map_take:=@List.map_take
def xS:type_of% @List.map_drop:=@List.map_drop
def xT:type_of% @Nat.min_eq_left:=@Nat.min_eq_left
def xU:type_of% @Nat.zero_add:=@Nat.zero_add
def xV:type_of% @Nat.mul_one:=@Nat.mul_one
def xW:type_of% @Nat.add_mul:=@Nat.add_mul
def xX:type_of% @Option.getD_some:=@Option.getD_some
def xY:type_of% @Option.getD_none:=@Option.getD_none
def xZ:type_of% @List.not_mem_nil:=@List.not_mem_nil
def vA:type_of% @Nat.not_lt_zero:=@Nat.not_lt_zero
def vB:type_of% @List.take_length:=@List.take_length
def vC:type_of% @List.dropLast_concat_getLast:=@List.dropLast_concat_getLast
def vD:type_of% @Prod.mk.inj:=@Prod.mk.inj
def vE:type_of% @List.cons.inj:=@List.cons.inj
def vF:type_of% @Nat.add_sub_cancel_left:=@Nat.add_sub_cancel_left
def vG:type_of% @List.drop_eq_nil_of_le:=@List.drop_eq_nil_of_le
def iN{c:Prop}[Decidable c]{α:Type _}{t e:α}(h:¬c:=by omega):ite c t e=e:=if_neg h
def iP{c:Prop}[Decidable c]{α:Type _}{t e:α}(h:c:=by omega):ite c t e=t:=if_pos h
@[reducible] def Cell.El:Cell->Type
  | .int _=>Int
  | .bool=>Bool
  | .str=>ByteArray
  | .ptr=>Option Addr
  | .slice=>Sl
  | .map=>Option Nat
  | .any=>Kw
def Cell.mk:(c:Cell)->c.El->Kw
  | .int k,n=>.int k n
  | .bool,b=>.bool b
  | .str,s=>.string s
  | .ptr,p=>.pointer p
  | .slice,s=>.slice s.a s.len s.cap
  | .map,m=>.map m
  | .any,v=>v
def Cell.un:(c:Cell)->Kw->Option c.El
  | .int k,.int j n=>if k=j then some n else none
  | .bool,.bool b=>some b
  | .str,.string s=>some s
  | .ptr,.pointer p=>some p
  | .slice,.slice a l c=>some ⟨a,l,c⟩
  | .map,.map m=>some m
  | .any,v=>some v
  | _,_=>none
def Cell.nj{c:Cell}{v:Kw}{x:c.El}(h:c.un v=some x):c.mk x=v:=by
  cases c<;>cases v<;>simp[Cell.un] at h<;>first
    | (obtain⟨rfl,rfl⟩:=h;rfl)
    | (subst h;rfl)
@[reducible] def HL:List Cell->Type
  | []=>Unit
  | [c]=>c.El
  | c::d::cs=>c.El×HL (d::cs)
def HL.mk:(cs:List Cell)->HL cs->List Kw
  | [],_=>[]
  | [c],x=>[c.mk x]
  | c::d::cs,x=>c.mk x.1::HL.mk (d::cs) x.2
abbrev JR(c:List Cell)(x:HL c)(t:Go.TypeId):Go.Obj:=.c (HL.mk c x).toArray t
abbrev JS(c:List Cell)(x:HL c):Go.Value:=.agg (HL.mk c x).toArray
def HL.j3:∀(cs:List Cell) (x:HL cs),(HL.mk cs x).length=cs.length
  | [],_=>rfl
  | [_],_=>rfl
  | _::d::cs,x=>by simp only[HL.mk,yJ,HL.j3 (d::cs) x.2]
def HL.un:(cs:List Cell)->List Kw->Option (HL cs)
  | [],[]=>some ()
  | [c],[v]=>c.un v
  | c::d::cs,v::vs=>
    match c.un v,HL.un (d::cs) vs with
    | some x,some y=>some (x,y)
    | _,_=>none
  | _,_=>none
def HL.nj:∀ {cs:List Cell} {vs:List Kw} {x:HL cs},HL.un cs vs=some x->HL.mk cs x=vs
  | [],[],_,_=>rfl
  | [],_::_,_,h=>by simp[HL.un] at h
  | [c],[v],x,h=>by simp only[HL.un] at h;simp only[HL.mk,Cell.nj h]
  | [c],[],x,h=>by simp[HL.un] at h
  | [c],_::_::_,x,h=>by simp[HL.un] at h
  | c::d::cs,[],x,h=>by simp[HL.un] at h
  | c::d::cs,v::vs,x,h=>by simp only[HL.un] at h;split at h;rename_i a b ha hb;cases h;simp only[HL.mk,Cell.nj ha,HL.nj hb];cases h
inductive i3 where
  | one (c:Cell)
  | agg (cs:List Cell)
  | pF
abbrev dp:List i3:=[.one .slice]
abbrev dq:List i3:=[.one .i]
abbrev dr:List i3:=[.one .bool]
abbrev dt:List i3:=[.one .slice,.one .i]
abbrev du:List i3:=[.pF,.one .bool]
abbrev dv:List i3:=[.one (.w)]
abbrev dw:List i3:=[.one .b,.one .slice,.one .i]
abbrev dz:List i3:=[.one .slice,.one .slice]
abbrev dA:List i3:=[.one .i,.one .i]
abbrev dB:List i3:=[.one .u,.one .i]
abbrev dC:List i3:=[.one .any]
abbrev dD:List i3:=[.one .u]
abbrev dE:List i3:=[.one .ptr]
abbrev dF:List i3:=[.pF]
abbrev dG:List i3:=[.one .i,.one .bool]
abbrev dH:List i3:=[.one (.int .u16)]
abbrev dI:List i3:=[.one .u,.one .bool]
abbrev dJ:List i3:=[.pF,.one .i]
abbrev dK:List i3:=[.one (.w),.one (.w)]
abbrev dL:List i3:=[.one (.w),.one (.w),.one .bool]
abbrev dM:List i3:=[.one .ptr,.one .ptr]
abbrev dN:List i3:=[.one .ptr,.one .i]
abbrev dO:List i3:=[.one .u,.one .slice,.one .i]
abbrev dP:List i3:=[.one (.w),.one .bool]
abbrev dR:Sl:=⟨none,0,0⟩
@[reducible] def i3.El:i3->Type
  | .one c=>c.El
  | .agg cs=>HL cs
  | .pF=>List Kw
def i3.mk:(t:i3)->t.El->Kw
  | .one c,x=>c.mk x
  | .agg cs,x=>.agg (HL.mk cs x).toArray
  | .pF,x=>.agg x.toArray
def i3.un:(t:i3)->Kw->Option t.El
  | .one c,v=>c.un v
  | .agg cs,.agg vs=>HL.un cs vs.toList
  | .pF,.agg vs=>some vs.toList
  | .agg _,_=>none
  | .pF,_=>none
def i3.nj{t:i3}{v:Kw}{x:t.El}(h:t.un v=some x):t.mk x=v:=by
  cases t with
  | one c=>exact Cell.nj h
  | agg cs=>
    cases v<;>simp only[i3.un] at h<;>first
      | cases h
      | (simp only[i3.mk,HL.nj h])
  | pF=>
    cases v<;>simp only[i3.un] at h<;>first
      | (cases h;done)
      | (cases h;simp only[i3.mk])
@[reducible] def jx:List i3->Type
  | []=>Unit
  | [t]=>t.El
  | t::u::ts=>t.El×jx (u::ts)
def jx.vals:(ts:List i3)->jx ts->List Kw
  | [],_=>[]
  | [t],x=>[t.mk x]
  | t::u::ts,x=>t.mk x.1::jx.vals (u::ts) x.2
def gE:(ts:List i3)->jx ts->Kw
  | [],_=>.tuple #[]
  | [t],x=>t.mk x
  | t::u::ts,x=>.tuple (jx.vals (t::u::ts) x).toArray
abbrev Env:=List (Nat×Kw)
def Env.get:Env->Nat->Option Kw
  | [],_=>none
  | (k,v)::r,t=>bif Nat.beq k t then some v else Env.get r t
def Env.ev (e:Env):Operand->Option Kw
  | .tmp t=>e.get t
  | .const v=>some v
  | .global g=>some (.pointer (some (dm g)))
  | .func f=>some (.func (.func f) #[] #[])
def Env.put (e:Env) (dst:Option Tmp) (v:Kw):Env:=
  match dst with
  | some d=>(d,v)::e
  | none=>e
def Env.sF (e:Env):List Operand->Option (List Kw)
  | []=>some []
  | x::xs=>match e.ev x,e.sF xs with
    | some v,some vs=>some (v::vs)
    | _,_=>none
abbrev Live:=List (Nat×i3)
@[reducible] def tg (l:Live):Type:=jx (l.map (·.2))
def qs:(l:Live)->tg l->Env
  | [],_=>[]
  | [(t,y)],x=>[(t,y.mk x)]
  | (t,y)::p::r,x=>(t,y.mk x.1)::qs (p::r) x.2
def m9:(l:Live)->Env->Option (tg l)
  | [],_=>some ()
  | [(t,y)],e=>match e.get t with|some v=>y.un v|none=>none
  | (t,y)::p::r,e=>
    match e.get t with
    | some v=>match y.un v with
      | some x=>match m9 (p::r) e with
        | some z=>some (x,z)
        | none=>none
      | none=>none
    | none=>none
def kx (w:Kv) (a:Addr):Nat->List Kw->Prop
  | _,[]=>True
  | i,[v]=>w.cell? (a.add i)=some v
  | i,v::vs=>w.cell? (a.add i)=some v/\kx w a (i+1) vs
structure mL where
  ld:(c:Cell)->Addr->Kv->(c.El->Prop)->Prop
  dT:(cs:List Cell)->Addr->Kv->(HL cs->Prop)->Prop
  iH:Nat->Addr->Kv->(List Kw->Prop)->Prop
  pK:(c:Cell)->List Kw->Nat->(c.El->Prop)->Prop
  ku:(cs:List Cell)->List Kw->Nat->(HL cs->Prop)->Prop
  fw:Kx->Kv->(Nat->Kv->Prop)->Prop
  st:Addr->List Kw->Kv->(Kv->Prop)->Prop
  new:Obj->Kv->(Nat->Kv->Prop)->Prop
  idx:Sl->Int->Nat->(Addr->Prop)->Prop
  kZ:ByteArray->Int->(Int->Prop)->Prop
  kM:(c:Cell)->Nat->List Kw->Int->(c.El->Prop)->Prop
  gb:Sl->Option Int->Option Int->Option Int->Nat->(Sl->Prop)->Prop
  kV:ByteArray->Option Int->Option Int->(ByteArray->Prop)->Prop
  ke:Addr->Nat->Option Int->Option Int->Option Int->Nat->(Sl->Prop)->Prop
  nz:Kx->List Kw->Nat->Nat->Int->Int->Kv->(Sl->Kv->Prop)->Prop
  ig:Prop->Prop->Prop
  call:FuncId->List Kw->(ts:List i3)->Kv->(jx ts->Kv->Prop)->Prop
  eF:Kw->List Kw->(ts:List i3)->Kv->(jx ts->Kv->Prop)->Prop
  inv:Kw->String->List Kw->(ts:List i3)->Kv->(jx ts->Kv->Prop)->Prop
  run:(ts:List i3)->Result Kw->(jx ts->Kv->Prop)->Prop
  fM:(ts:List i3)->(Kv->Result Kw)->Kv->(jx ts->Prop)->Prop
  i9:Result Unit->(Kv->Prop)->Prop
  join:(S:Type)->((S->Kv->Prop)->Prop)->(S->Kv->Prop)->Prop
  loop:(S:Type)->((S->Kv->Prop)->S->Kv->Prop)->S->Kv->Prop
  held:List (Kv->Prop)->Kv->Prop->Prop
  ext:FuncId->List Kw->(ts:List i3)->Kv->(jx ts->Kv->Prop)->Prop
  kJ:Kw->(pts:List i3)->(jx pts->(Kv->(Kv->Prop)->Prop)->(Kv->Prop)->(Nat->Kv->Prop)->Kv->Prop)->(Nat->Kv->Prop)->List (Nat->Kv->Prop)->Kv->Prop
  ft:Nat->Kv->(Kv->Prop)->Prop
  pw:Sl->Nat->(Addr->Prop)->Prop
  pQ:Result Kw->(Kv->Prop)->(Kw->Kw->Kv->Prop)->Prop
  pT:Result Kw->(Kw->Kw->Kv->Prop)->Prop
def cellOf:Kw->Cell
  | .int k _=>.int k
  | .bool _=>.bool
  | .string _=>.str
  | .pointer _=>.ptr
  | .slice _ _ _=>.slice
  | .map _=>.map
  | _=>.any
def qP (P:Ky) (t:Kx):i3:=
  match (P.info? t).bind (·.zero) with
  | some (.agg cs)=>bif Nat.ble cs.size 16 then .agg (cs.toList.map cellOf) else .pF
  | some v=>.one (cellOf v)
  | none=>.one .any
def qx (P:Ky) (t:Kx):List i3:=
  match P.underlying t with
  | some (.tuple ts)=>ts.toList.map (qP P)
  | _=>[qP P t]
def fQ (P:Ky) (t:Kx):Bool:=
  match P.underlying t with
  | some (.struct _)|some (.array _ _)=>true
  | _=>false
def fG (P:Ky) (t:Kx):Nat:=((P.info? t).map (·.size)).getD 0
def oi (e:Env):Option Operand->Option (Option Int)
  | none=>some none
  | some x=>match e.ev x with
    | some (.int _ n)=>some (some n)
    | _=>none
def oo:Operand->Bool
  | .const (.int _ n)=>n != 0
  | _=>false
def oj:Operand->Bool
  | .const (.int _ n)=>decide (0<=n)
  | _=>false
def uJ (n:Nat):Operand->Option Nat
  | .const (.int _ i)=>if 0<=i/\i<(n:Int) then some i.toNat else none
  | _=>none
def tO (size:Nat) (len:Nat) (zero:List Kw) (parts:List (Nat×Kw)):Option (Array Kw):=
  Instr.fill (λi=>some (i*size,size)) ((Array.range (len*size)).map (zero.toArray[·%zero.toArray.size]!)) parts
def mY (e:Env):List (Nat×Operand)->Option (List (Nat×Kw))
  | []=>some []
  | (i,x)::r=>match e.ev x,mY e r with
    | some v,some vs=>some ((i,v)::vs)
    | _,_=>none
inductive Cls where
  | pure | read | BM
  deriving DecidableEq
def jE (P:Ky) (f:FuncId):Bool:=match P.funcs[f]? with|some fn=>fn.body.isNone||(fn.name== "runtime.NumGoroutine")|none=>true
def pG (P:Ky) (t:Kx):Bool:=(P.info? t).isSome&&(P.underlying t).isSome
def ya (P:Ky) (t:Kx):Bool:=
  match P.underlying t with
  | some (.int _)|some .bool|some .string=>true
  | _=>false
def BC (P:Ky) (t:Kx):Bool:=match P.underlying t with|some (.map _ _)=>true|_=>false
def wE (P:Ky) (t:Kx):Bool:=match P.underlying t with|some (.slice _)=>true|_=>false
def A2 (P:Ky) (t:Kx):Bool:=match P.underlying t with|some .string=>true|_=>false
def vU (P:Ky) (t:Kx):Bool:=match P.underlying t with|some (.int _)=>true|_=>false
def In (P:Ky) (t:Kx):Bool:=match P.underlying t with|some (.array _ _)=>true|_=>false
def jR:Operand->Bool
  | .const (.pointer none)=>true
  | .const (.slice none _ _)=>true
  | .const (.map none)=>true
  | .const .nilIface=>true
  | .const .nilFunc=>true
  | _=>false
def CH (P:Ky):Op->Cls
  | .move _ | .assign _ | .pick .. | .nilCheck _ | .unOp .. | .extract .. | .field .. | .fieldAddr .. | .makeInterface .. | .makeFunc .. | .build ..
  | .indexAddr .. | .index .. | .slice .. | .sliceToArrayPointer ..=>.pure
  | .binOp op t x y _=>
    match op with
    | .eql | .neq=>if ya P t||jR x||jR y then .pure else .read
    | _=>.pure
  | .convert s d _=>if vU P s&&vU P d then .pure else if wE P s&&A2 P d then .read else .BM
  | .load .. | .typeAssert ..=>.read
  | .lookup ..=>.read
  | .call { callee:=.builtin .len,argTypes,.. }=>if BC P (argTypes.getD 0 0) then .read else .pure
  | .call { callee:=.builtin .cap,.. } | .call { callee:=.builtin .min,.. } | .call { callee:=.builtin .max,.. }=>.pure
  | _=>.BM
def uw (op:BinOp) (k:IntKind) (a b:Int):Option Kw:=
  match op with
  | .add=>some (.int k (k.wrap (a+b)))
  | .sub=>some (.int k (k.wrap (a-b)))
  | .mul=>some (.int k (k.wrap (a*b)))
  | .and=>some (.int k (bits .and k a b))
  | .or=>some (.int k (bits .or k a b))
  | .xor=>some (.int k (bits .xor k a b))
  | .andNot=>some (.int k (bits .andNot k a b))
  | .eql=>some (.bool (a==b))
  | .neq=>some (.bool (a != b))
  | .lss=>some (.bool (decide (a<b)))
  | .leq=>some (.bool (decide (a<=b)))
  | .gtr=>some (.bool (decide (a>b)))
  | .geq=>some (.bool (decide (a>=b)))
  | _=>none
def ur (op:BinOp) (a b:ByteArray):Option Kw:=
  match op with
  | .lss=>some (.bool (Op.bytesLess a.toList b.toList))
  | .leq=>some (.bool (Op.bytesLess a.toList b.toList||a.toList==b.toList))
  | .gtr=>some (.bool (!(Op.bytesLess a.toList b.toList||a.toList==b.toList)))
  | .geq=>some (.bool (!Op.bytesLess a.toList b.toList))
  | _=>none
def isIface:Kw->Bool
  | .nilIface=>true
  | .iface _ _=>true
  | _=>false
def sU:Kw->Bool
  | .nilIface=>true
  | _=>false
def xq:Kw->Bool
  | .nilFunc=>true
  | .func _ _ _=>true
  | _=>false
def tl:Kw->Bool
  | .nilFunc=>true
  | _=>false
def uK (C:mL) (P:Ky) (t:Kx) (v u:Kw) (K:Bool->Prop):Prop:=
  match P.underlying t with
  | some (.pointer _)=>match v,u with | .pointer p,.pointer none=>K p.isNone|_,_=>False
  | some (.slice _)=>match v,u with | .slice a _ _,.slice none _ _=>K a.isNone|_,_=>False
  | some (.map _ _)=>match v,u with | .map r,.map none=>K r.isNone|_,_=>False
  | some (.interface _)=>match u with | .nilIface=>C.ig (isIface v=true) (K (sU v))|_=>False
  | some (.func _ _ _)=>match u with | .nilFunc=>C.ig (xq v=true) (K (tl v))|_=>False
  | _=>False
def yv (C:mL) (P:Ky) (t:Kx) (x y:Operand) (e:Env) (K:Bool->Prop):Prop:=
  match e.ev x,e.ev y with
  | some a,some b=>
    bif jR y then uK C P t a b K else bif jR x then uK C P t b a K else
    match a,b with
    | .int k a,.int j b=>bif k==j then K (a==b) else False
    | .bool a,.bool b=>match P.underlying t with|some .bool=>K (a==b)|_=>False
    | .string a,.string b=>K (a.toList==b.toList)
    | _,_=>False
  | _,_=>False
def iD (C:mL) (P:Ky) (o:Oper) (e:Env) (w:Kv) (K:Kw->Prop):Prop:=
  match o.op with
  | .move x=>match e.ev x with|some v=>K v|none=>False
  | .assign x=>match e.ev x with|some v=>K v|none=>False
  | .nilCheck x=>
    match e.ev x with
    | some (.pointer p)=>match p with
      | some a=>K (.pointer (some a))
      | none=>False
    | _=>False
  | .pick c a b=>
    match e.ev c,e.ev a,e.ev b with
    | some (.bool t),some x,some y=>match t with|true=>K x|false=>K y
    | _,_,_=>False
  | .binOp .quo t x y yt=>
      match e.ev x,e.ev y with
      | some (.int k a),some (.int j b)=>bif k==j then (bif oo y then K (.int k (k.wrap (a.tdiv b))) else C.ig (b≠0) (K (.int k (k.wrap (a.tdiv b))))) else False
      | _,_=>False
  | .binOp .rem t x y yt=>
      match e.ev x,e.ev y with
      | some (.int k a),some (.int j b)=>bif k==j then (bif oo y then K (.int k (a.tmod b)) else C.ig (b≠0) (K (.int k (a.tmod b)))) else False
      | _,_=>False
  | .binOp .shl t x y yt=>
      match e.ev x,e.ev y with
      | some (.int k a),some (.int _ b)=>bif oj y then K (.int k (k.wrap (a*2^min b.toNat k.bits))) else C.ig (0<=b) (K (.int k (k.wrap (a*2^min b.toNat k.bits))))
      | _,_=>False
  | .binOp .shr t x y yt=>
      match e.ev x,e.ev y with
      | some (.int k a),some (.int _ b)=>bif oj y then K (.int k (a.fdiv (2^min b.toNat k.bits))) else C.ig (0<=b) (K (.int k (a.fdiv (2^min b.toNat k.bits))))
      | _,_=>False
  | .binOp .eql t x y _=>yv C P t x y e (λr=>K (.bool r))
  | .binOp .neq t x y _=>yv C P t x y e (λr=>K (.bool (!r)))
  | .binOp op t x y _=>
    match e.ev x,e.ev y with
    | some (.int k a),some (.int j b)=>bif k==j then (match uw op k a b with|some v=>K v|none=>False) else False
    | some (.string a),some (.string b)=>match op with
      | .add=>C.ig (((a.size+b.size:Nat):Int)<=IntKind.i64.max) (K (.string (a++b)))
      | op=>match ur op a b with|some v=>K v|none=>False
    | _,_=>False
  | .unOp op _ x=>
    match e.ev x with
    | some (.int k n)=>match op with
      | .neg=>K (.int k (k.wrap (0-n)))
      | .xor=>K (.int k (bits .xor k (if k.signed then -1 else k.max) n))
      | _=>False
    | some (.bool b)=>match op with
      | .not=>K (.bool (!b))
      | _=>False
    | _=>False
  | .convert s d x=>
    match P.underlying s,e.ev x with
    | some _,some (.int _ n)=>match P.underlying d with
      | some (.int k)=>K (.int k (k.wrap n))
      | _=>False
    | _,_=>False
  | .extract x i=>
    match e.ev x with
    | some (.tuple vs)=>match vs.toList[i]? with|some v=>K v|none=>False
    | _=>False
  | .field t x f=>
    match P.underlying t,e.ev x with
    | some (.struct fs),some (.agg cs)=>match fs[f]? with
      | some fd=>bif !pG P fd.type then False else match qP P t with
       | .pF=>match qP P fd.type with
         | .one c=>bif fQ P fd.type then False else C.pK c cs.toList fd.offset (λy=>K (c.mk y))
         | .agg cl=>bif fQ P fd.type&&Nat.beq (fG P fd.type) cl.length then C.ku cl cs.toList fd.offset (λy=>K (.agg (HL.mk cl y).toArray)) else False
         | .pF=>bif fQ P fd.type then K (.agg (cs.toList.extract fd.offset (fd.offset+fG P fd.type)).toArray) else False
       | _=>bif fQ P fd.type then K (.agg (cs.toList.extract fd.offset (fd.offset+fG P fd.type)).toArray) else match cs.toList[fd.offset]? with
        | some v=>K v
        | none=>False
      | none=>False
    | _,_=>False
  | .fieldAddr t x f=>
    match P.underlying t with
    | some (.struct fs)=>match fs[f]? with
      | some fd=>bif Nat.beq (fG P fd.type) 0 then False else match e.ev x with
        | some (.pointer p)=>match p with
          | some a=>K (.pointer (some (a.add fd.offset)))
          | none=>False
        | _=>False
      | none=>False
    | _=>False
  | .makeInterface t x=>
    match P.underlying t,e.ev x with
    | some (.interface _),_=>False
    | some _,some v=>K (.iface t v)
    | _,_=>False
  | .makeFunc fn first cap=>
    match e.sF first.toList,e.sF cap.toList with
    | some f,some c=>K (.func fn f.toArray c.toArray)
    | _,_=>False
  | .build t parts=>
    match mY e parts.toList with
    | some vs=>match qP P t with
      | .pF=>C.fM dF (λw'=>(Instr.build t vs.toArray).run P w') w (λy=>K (.agg y.toArray))
      | _=>match (Instr.build t vs.toArray).run P w with
        | .ok v _=>K v
        | .halt _ _=>False
    | none=>False
  | .indexAddr t x ix=>
    match P.underlying t with
    | some (.slice el)=>bif !pG P el then False else match e.ev x,e.ev ix with
      | some (.slice a l c),some (.int _ i)=>C.idx ⟨a,l,c⟩ i (fG P el) (λad=>K (.pointer (some ad)))
      | _,_=>False
    | some (.array n el)=>bif !pG P el then False else match e.ev x with
      | some (.pointer (some a))=>match uJ n ix with
        | some i=>K (.pointer (some (a.add (i*fG P el))))
        | none=>match e.ev ix with
          | some (.int _ i)=>C.ig (0<=i/\i<(n:Int)) (K (.pointer (some (a.add (i.toNat*fG P el)))))
          | _=>False
      | _=>False
    | _=>False
  | .sliceToArrayPointer t x=>
    match P.underlying t with
    | some (.array n _)=>match e.ev x with
      | some (.slice a l c)=>C.pw ⟨a,l,c⟩ n (λad=>K (.pointer (some ad)))
      | _=>False
    | _=>False
  | .index t x ix=>
    match P.underlying t with
    | some .string=>match e.ev x,e.ev ix with
      | some (.string s),some (.int _ i)=>C.kZ s i (λb=>K (.int .u8 b))
      | _,_=>False
    | some (.array n el)=>match e.ev x,e.ev ix with
      | some (.agg cs),some (.int _ i)=>
        match qP P el with
        | .one c=>bif fQ P el||!(Nat.beq (fG P el) 1)||!pG P el then False else C.kM c n cs.toList i (λy=>K (c.mk y))
        | .agg cl=>bif !(fQ P el)||!(Nat.beq (fG P el) cl.length)||!pG P el then False else C.ig (0<=i/\i<(n:Int)) (C.ku cl cs.toList (i.toNat*cl.length) λy=>K (.agg (HL.mk cl y).toArray))
        | .pF=>False
      | _,_=>False
    | _=>False
  | .slice t x lo hi mx=>
    bif mx.isSome&&hi.isNone then False else
    match oi e lo,oi e hi,oi e mx with
    | some l,some h,some m=>
      match P.underlying t with
      | some (.slice el)=>bif !pG P el then False else match e.ev x with
        | some (.slice a n c)=>C.gb ⟨a,n,c⟩ l h m (fG P el) (λs=>K (.slice s.a s.len s.cap))
        | _=>False
      | some .string=>match e.ev x,m with
        | some (.string s),none=>C.kV s l h (λr=>K (.string r))
        | _,_=>False
      | some (.array n el)=>bif !pG P el then False else match e.ev x with
        | some (.pointer (some a))=>C.ke a n l h m (fG P el) (λs=>K (.slice s.a s.len s.cap))
        | _=>False
      | _=>False
    | _,_,_=>False
  | .call { callee:=.builtin b,argTypes,args }=>
    match b with
    | .len=>match (argTypes[0]?).bind P.underlying,e.sF args.toList with
      | some (.slice _),some [.slice _ n _]=>K (.int .i64 n)
      | some .string,some [.string s]=>K (.int .i64 s.size)
      | some (.array n _),some [_]=>K (.int .i64 n)
      | _,_=>False
    | .cap=>match (argTypes[0]?).bind P.underlying,e.sF args.toList with
      | some (.slice _),some [.slice _ _ c]=>K (.int .i64 c)
      | _,_=>False
    | .min=>match e.sF args.toList with
      | some [.int k x,.int _ y]=>K (.int k (if y<x then y else x))
      | _=>False
    | .max=>match e.sF args.toList with
      | some [.int k x,.int _ y]=>K (.int k (if y>x then y else x))
      | _=>False
    | _=>False
  | _=>False
def oc (C:mL) (P:Ky) (o:Oper) (e:Env) (w:Kv) (K:Kw->(Kv->Prop)->Prop):Prop:=
  match o.op with
  | .load t x=>
    match e.ev x with
    | some (.pointer p)=>match p with
      | some a=>
        match qP P t with
        | .one c=>bif !pG P t then False else bif fQ P t then False else C.ld c a w (λy=>K (c.mk y) λw'=>w'.cell? a=some (c.mk y))
        | .agg cs=>bif fQ P t&&Nat.beq (fG P t) cs.length then C.dT cs a w (λy=>K (.agg (HL.mk cs y).toArray) λw'=>kx w' a 0 (HL.mk cs y)) else False
        | .pF=>bif fQ P t then C.iH (fG P t) a w (λy=>K (.agg y.toArray) λw'=>kx w' a 0 y) else False
      | none=>False
    | _=>False
  | .lookup t m k ok=>
    match e.ev m,e.ev k with
    | some vm,some vk=>C.fM (qx P o.type) (λw'=>(Instr.lookup t vm vk ok).run P w') w (λy=>K (gE _ y) λw'=>(Instr.lookup t vm vk ok).run P w'=.ok (gE _ y) w')
    | _,_=>False
  | .typeAssert x xt as0 ok=>
    match e.ev x with
    | some v=>C.fM (qx P o.type) (λw'=>(Instr.typeAssert v xt as0 ok).run P w') w (λy=>K (gE _ y) λw'=>(Instr.typeAssert v xt as0 ok).run P w'=.ok (gE _ y) w')
    | none=>False
  | .binOp op t x y _=>
    match e.ev x,e.ev y with
    | some a,some b=>C.fM dr (λw'=>(do eqGuard op t x y a b;binOp op t a b:Sem Kw).run P w') w (λr=>K (.bool r) λw'=>(do eqGuard op t x y a b;binOp op t a b:Sem Kw).run P w'=.ok (.bool r) w')
    | _,_=>False
  | .convert s d x=>
    match e.ev x with
    | some v=>C.fM [.one .str] (λw'=>(convert s d v).run P w') w (λr=>K (.string r) λw'=>(convert s d v).run P w'=.ok (.string r) w')
    | none=>False
  | .call { callee:=.builtin .len,argTypes,args }=>
    match e.sF args.toList with
    | some vs=>C.fM [.one (.int .i64)] (λw'=>(Builtin.len_ argTypes o.type vs.toArray).run P w') w (λr=>K (.int .i64 r) λw'=>(Builtin.len_ argTypes o.type vs.toArray).run P w'=.ok (.int .i64 r) w')
    | none=>False
  | _=>False
def ka (C:mL) (P:Ky) (o:Oper) (e:Env) (w:Kv) (K:Kw->Kv->Prop):Prop:=
  match o.op with
  | .store t x y=>
    match e.ev y with
    | some v=>match e.ev x with
      | some (.pointer p)=>match p with
        | some a=>match qP P t with
          | .pF=>bif pG P t then C.ig (v.cells.toList.length=fG P t) (C.st a v.cells.toList w λw'=>K undef w') else False
          | _=>bif pG P t&&Nat.beq (fG P t) v.cells.size then C.st a v.cells.toList w (λw'=>K undef w') else False
        | none=>False
      | _=>False
    | none=>False
  | .alloc t=>
    match qP P t with
    | .pF=>C.fw t w (λb w'=>K (.pointer (some (dm b))) w')
    | _=>match (P.info? t).bind (·.zero) with
      | some z=>C.new (.cells z.cells t) w (λb w'=>K (.pointer (some (dm b))) w')
      | none=>False
  | .box t x=>
    match e.ev x with
    | some v=>C.new (.cells v.cells t) w (λb w'=>K (.pointer (some (dm b))) w')
    | none=>False
  | .buildSlice t len parts=>
    match P.underlying t with
    | some (.slice el)=>
      match (P.info? el).bind (·.zero),mY e parts.toList with
      | some z,some vs=>bif Nat.blt (2^24) (len*fG P el) then False else match qP P el with
       | .pF=>match len,vs with
         | 1,[(0,v)]=>C.ig (v.cells.toList.length=fG P el) (C.new (.cells v.cells el) w λb w'=>K (.slice (some (dm b)) 1 1) w')
         | 0,[]=>C.new (.cells #[] el) w (λb w'=>K (.slice (some (dm b)) 0 0) w')
         | _,_=>False
       | _=>match tO (fG P el) len (bif Nat.beq (len*fG P el) 0 then [] else z.cells.toList) vs with
        | some cells=>C.new (.cells cells el) w (λb w'=>K (.slice (some (dm b)) len len) w')
        | none=>False
      | _,_=>False
    | _=>False
  | .makeSlice t l c=>
    match P.underlying t with
    | some (.slice el)=>
      match P.info? el,e.ev l,e.ev c with
      | some i,some (.int _ n),some (.int _ m)=>
        match i.zero with
        | some z=>C.nz el z.cells.toList i.size i.bytes n m w (λs w'=>K (.slice s.a s.len s.cap) w')
        | none=>False
      | _,_,_=>False
    | _=>False
  | .makeMap t r=>
    match P.underlying t with
    | some (.map _ _)=>match oi e r with
      | some _=>C.new (.map #[] 0) w (λb w'=>K (.map (some b)) w')
      | none=>False
    | _=>False
  | .mapUpdate t m k x=>
    match e.ev m,e.ev k,e.ev x with
    | some a,some b,some c=>C.i9 ((Instr.mapUpdate t a b c).run P w) (λw'=>K undef w')
    | _,_,_=>False
  | .insert t m k x=>
    match e.ev m,e.ev k,e.ev x with
    | some a,some b,some c=>C.i9 ((Instr.mapUpdate t a b c).run P w) (λw'=>K undef w')
    | _,_,_=>False
  | .range t x=>
    match e.ev x with
    | some v=>C.run dC ((Instr.range t v).run P w) (λy w'=>K y w')
    | none=>False
  | .next it s=>
    match e.ev it with
    | some v=>C.pQ ((Instr.next v s o.type).run P w) (λw'=>K (.tuple #[.bool false]) w') (λx y w'=>K (.tuple #[.bool true,x,y]) w')
    | none=>False
  | .entry it=>
    match e.ev it with
    | some v=>C.pT ((Instr.entry v).run P w) (λx y w'=>K (.tuple #[x,y]) w')
    | none=>False
  | .convert s d x=>
    match e.ev x with
    | some v=>C.run (qx P o.type) ((convert s d v).run P w) (λy w'=>K (gE _ y) w')
    | none=>False
  | .call { callee:=.builtin b,argTypes,args }=>
    match e.sF args.toList with
    | some vs=>
      match b with
      | .append=>C.run dp ((Builtin.append_ argTypes o.type vs.toArray).run P w) (λy w'=>K (.slice y.a y.len y.cap) w')
      | .copy=>C.run [.one (.int .i64)] ((Builtin.copy_ argTypes o.type vs.toArray).run P w) (λy w'=>K (.int .i64 y) w')
      | .delete=>C.run [] ((Builtin.delete_ argTypes o.type vs.toArray).run P w) (λ_ w'=>K (.tuple #[]) w')
      | .clear=>C.run [] ((Builtin.clear_ argTypes o.type vs.toArray).run P w) (λ_ w'=>K (.tuple #[]) w')
      | _=>False
    | none=>False
  | .call { callee:=.value (.func f),args,.. }=>
    match e.sF args.toList with
    | some vs=>bif jE P f then C.ext f vs (qx P o.type) w (λy w'=>K (gE _ y) w') else C.call f vs (qx P o.type) w (λy w'=>K (gE _ y) w')
    | none=>False
  | .call { callee:=.value x,args,.. }=>
    match e.ev x,e.sF args.toList with
    | some v,some vs=>C.eF v vs (qx P o.type) w (λy w'=>K (gE _ y) w')
    | _,_=>False
  | .call { callee:=.invoke x name,args,.. }=>
    match e.ev x,e.sF args.toList with
    | some v,some vs=>C.inv v name vs (qx P o.type) w (λy w'=>K (gE _ y) w')
    | _,_=>False
  | _=>False
def Bb (C:mL) (P:Ky) (o:Oper) (e:Env) (w:Kv) (K:Kw->Kv->Prop):Prop:=
  match CH P o.op with
  | .pure=>iD C P o e w (λv=>K v w)
  | .read=>oc C P o e w (λv _=>K v w)
  | .BM=>ka C P o e w K
def guarded (ops:List Oper) (o:Oper) (e:Env) (yes no:Env->Prop):Prop:=
  match o.guard with
  | none=>yes e
  | some (j,want)=>
    match (ops[j]?).bind (·.dst) with
    | none=>False
    | some d=>
      match e.get d with
      | some (.bool b)=>
        match b with
        | true=>match want with
          | true=>yes ((d,.bool true)::e)
          | false=>no ((d,.bool true)::e)
        | false=>match want with
          | true=>no ((d,.bool false)::e)
          | false=>yes ((d,.bool false)::e)
      | some (.tuple _)=>no e
      | _=>False
def tt (C:mL) (P:Ky) (ops:List Oper) (K:Env->Kv->Prop):List Oper->Env->Kv->Prop
  | [],e,w=>K e w
  | o::rest,e,w=>
    guarded ops o e
      (λe'=>Bb C P o e' w λv w'=>tt C P ops K rest (e'.put o.dst v) w')
      (λe'=>tt C P ops K rest (e'.put o.dst undef) w)
abbrev Holds:=List (Nat×(Kv->Prop))
def rj (ops:List Oper):Array Nat:=Region.before ops.toArray
def gg (b:Array Nat) (x:Nat) (H:Holds):List (Kv->Prop):=(H.filter λp=>!(b.getD x 0).testBit p.1).map (·.2)
def lT (C:mL) (P:Ky) (ops:List Oper) (b:Array Nat) (K:Env->Kv->Prop):KD->Holds->Env->Kv->Prop
  | [],_,e,w=>K e w
  | i::rest,H,e,w=>
    match ops[i]? with
    | none=>False
    | some o=>
      guarded ops o e
        (λe'=>
          match CH P o.op with
          | .pure=>iD C P o e' w (λv=>lT C P ops b K rest H (e'.put o.dst v) w)
          | .read=>oc C P o e' w (λv h=>lT C P ops b K rest ((i,h)::H) (e'.put o.dst v) w)
          | .BM=>ka C P o e' w (λv w'=>
              match gg b i H with
              | []=>lT C P ops b K rest H (e'.put o.dst v) w'
              | l=>C.held l w' (lT C P ops b K rest H (e'.put o.dst v) w')))
        (λe'=>lT C P ops b K rest H (e'.put o.dst undef) w)
def rh (C:mL) (P:Ky) (ops:List Oper) (b:Array Nat) (K:Env->Kv->Prop):List (KD)->Env->Kv->Prop
  | [],_,_=>True
  | [ord],e,w=>lT C P ops b K ord [] e w
  | ord::more,e,w=>lT C P ops b K ord [] e w/\rh C P ops b K more e w
inductive PC where
  | skip
  | region (id:Nat) (ops:List Oper)
  | draw (id:Nat) (ops:List Oper) (orders:List (KD))
  | seq (a b:PC)
  | join (live:Live) (a b:PC)
  | cond (c:Operand) (t e:PC)
  | block (id:Nat) (body:PC)
  | loop (live:Live) (body:PC)
  | exit (id:Nat)
  | ret
  | kJ (g:Operand) (ps:List Tmp) (pts:List i3) (assign body:PC)
  | other (c:Code)
def PC.erase:PC->Code
  | .skip=>.skip
  | .region id ops=>.region id ops.toArray false
  | .draw id ops _=>.region id ops.toArray true
  | .seq a b=>.seq a.erase b.erase
  | .join _ a b=>.seq a.erase b.erase
  | .cond c t e=>.cond c t.erase e.erase
  | .block id b=>.block id b.erase
  | .loop _ b=>.loop b.erase
  | .exit id=>.exit id
  | .ret=>.ret
  | .kJ g ps _ x y=>.rangeFunc g ps.toArray x.erase y.erase
  | .other c=>c
inductive v9 where
  | n
  | j (live:Live)
  | l (live:Live)
  | o (orders:List (KD))
  | r (pts:List i3)
def aS:List (Nat×v9)->List v9
  | []=>[]
  | (k,a)::r=>.replicate k .n++a::aS r
def nN (k:Nat):List v9:=.replicate k .n
def jN:Code->List v9->PC×List v9
  | .skip,as0=>(.skip,as0)
  | .region id ops draw,as0=>
    match draw with
    | false=>(.region id ops.toList,as0)
    | true=>match as0 with
      | .o ords::r=>(.draw id ops.toList ords,r)
      | .n::r=>(.draw id ops.toList [List.range ops.size],r)
      | []=>(.draw id ops.toList [List.range ops.size],[])
      | _=>(.other (.region id ops true),as0)
  | .seq a b,as0=>
    match as0 with
    | .j live::r=>
      let x:=jN a r
      let y:=jN b x.2
      (.join live x.1 y.1,y.2)
    | .n::r=>
      let x:=jN a r
      let y:=jN b x.2
      (.seq x.1 y.1,y.2)
    | []=>
      let x:=jN a []
      let y:=jN b x.2
      (.seq x.1 y.1,y.2)
    | _=>(.other (.seq a b),as0)
  | .cond c t f,as0=>
    let x:=jN t as0
    let y:=jN f x.2
    (.cond c x.1 y.1,y.2)
  | .block id b,as0=>
    let x:=jN b as0
    (.block id x.1,x.2)
  | .loop b,as0=>
    match as0 with
    | .l live::r=>
      let x:=jN b r
      (.loop live x.1,x.2)
    | _=>(.other (.loop b),as0)
  | .exit id,as0=>(.exit id,as0)
  | .ret,as0=>(.ret,as0)
  | .rangeFunc g ps x y,as0=>
    match as0 with
    | .r pts::r=>
      let u:=jN x r
      let v:=jN y u.2
      (.kJ g ps.toList pts u.1 v.1,v.2)
    | _=>(.other (.rangeFunc g ps x y),as0)
  | c,as0=>(.other c,as0)
def sH (ops:List Oper) (t:Nat):Bool:=ops.any λo=>match o.dst with|some d=>Nat.beq d t|none=>false
def PC.wr:PC->Nat->Bool
  | .skip,_=>false
  | .region _ ops,t=>sH ops t
  | .draw _ ops _,t=>sH ops t
  | .seq a b,t=>a.wr t||b.wr t
  | .join _ a b,t=>a.wr t||b.wr t
  | .cond _ a b,t=>a.wr t||b.wr t
  | .block _ b,t=>b.wr t
  | .loop _ b,t=>b.wr t
  | .exit _,_=>false
  | .ret,_=>false
  | .kJ ..,_=>true
  | .other _,_=>true
def Env.kN (e:Env) (wr:Nat->Bool):Env:=
  match e with
  | []=>[]
  | (t,v)::r=>bif wr t then Env.kN r wr else (t,v)::Env.kN r wr
inductive iM where
  | normal | exit (id:Nat) | ret
abbrev nJ:=iM->Env->Kv->Prop
def nJ.j4 (Q:nJ) (K:Env->Kv->Prop):nJ:=λx e w=>
  match x with
  | .normal=>K e w
  | x=>Q x e w
def PC.pt (C:mL) (P:Ky):PC->nJ->Env->Kv->Prop
  | .skip,Q,e,w=>Q .normal e w
  | .region _ ops,Q,e,w=>tt C P ops (Q .normal) ops e w
  | .draw _ ops orders,Q,e,w=>rh C P ops (rj ops) (Q .normal) orders e w.drew
  | .seq a b,Q,e,w=>a.pt C P (Q.j4 λe' w'=>b.pt C P Q e' w') e w
  | .join live a b,Q,e,w=>
    C.join (tg live)
      (λX=>a.pt C P (Q.j4 λe' w'=>match m9 live e' with|some s=>X s w'|none=>False) e w)
      (λs w'=>b.pt C P Q (qs live s++e.kN λt=>a.wr t) w')
  | .cond c t f,Q,e,w=>
    match e.ev c with
    | some (.bool b)=>match b with
      | true=>t.pt C P Q e w
      | false=>f.pt C P Q e w
    | _=>False
  | .block id body,Q,e,w=>
    body.pt C P (λx e' w'=>match x with
      | .exit j=>bif Nat.beq j id then Q .normal e' w' else Q (.exit j) e' w'
      | x=>Q x e' w') e w
  | .loop live body,Q,e,w=>
    match m9 live e with
    | some s0=>
      C.loop (tg live)
        (λX s w'=>body.pt C P (Q.j4 λe' w''=>match m9 live e' with|some s'=>X s' w''|none=>False) (qs live s++e.kN λt=>body.wr t) w')
        s0 w
    | none=>False
  | .exit id,Q,e,w=>Q (.exit id) e w
  | .ret,Q,e,w=>Q .ret e w
  | .kJ ..,_,_,_=>False
  | .other _,_,_,_=>False
def PC.outs:PC->List iM
  | .skip | .region .. | .draw .. | .other _ | .kJ ..=>[]
  | .seq a b | .join _ a b | .cond _ a b=>a.outs++b.outs
  | .block id b=>b.outs.filter λx=>match x with | .exit j=>!(Nat.beq j id)|_=>true
  | .loop _ b=>b.outs
  | .exit id=>[.exit id]
  | .ret=>[.ret]
def iM.same:iM->iM->Bool
  | .normal,.normal=>true
  | .ret,.ret=>true
  | .exit i,.exit j=>Nat.beq i j
  | _,_=>false
def sK (x:iM):List iM->Nat->Option Nat
  | [],_=>none
  | y::r,i=>bif x.same y then some i else sK x r (i+1)
def rA:Env->List Tmp->List Kw->Env
  | e,t::ts,v::vs=>rA ((t,v)::e) ts vs
  | e,_,_=>e
def lr (C:mL) (P:Ky) (x y:PC) (ps:List Tmp) (pts:List i3) (e:Env):jx pts->(Kv->(Kv->Prop)->Prop)->(Kv->Prop)->(Nat->Kv->Prop)->Kv->Prop:=
  λu beg N J w'=>x.pt C P (λz e' w1=>match z with
    | .normal=>beg w1 (λw2=>y.pt C P (λz e'' w3=>match z with
        | .normal=>N w3
        | z=>match sK z y.outs 0 with|some i=>J i w3|none=>False) e' w2)
    | _=>False) (rA e ps (jx.vals pts u)) w'
def PC.CK (C:mL) (P:Ky):PC->(Option Nat->nJ)->Option Nat->Env->Kv->Prop
  | .seq a b,Q,m,e,w=>a.CK C P (λm' x e' w'=>match x with | .normal=>b.CK C P Q m' e' w'|x=>Q m' x e' w') m e w
  | .block id body,Q,m,e,w=>body.CK C P (λm' x e' w'=>match x with
      | .exit j=>bif Nat.beq j id then Q m' .normal e' w' else Q m' (.exit j) e' w'
      | x=>Q m' x e' w') m e w
  | .kJ g ps pts x y,Q,m,e,w=>
    match m with
    | some _=>False
    | none=>match e.ev g with
      | none=>False
      | some v=>
        C.kJ v pts (lr C P x y ps pts e)
          (λD w'=>Q (some D) .normal e w') (y.outs.map λz=>λD w'=>Q (some D) z e w') w
  | c,Q,m,e,w=>c.pt C P (Q m) e w
def lW (C:mL) (P:Ky):List ResultVar->Env->Kv->(List Kw->Prop)->Prop
  | [],_,_,K=>K []
  | .tmp t::r,e,w,K=>
    match e.get t with
    | some v=>lW C P r e w (λvs=>K (v::vs))
    | none=>False
  | .cell a t::r,e,w,K=>
    match e.get a with
    | some (.pointer (some ad))=>
      match qP P t with
      | .one c=>bif !pG P t then False else bif fQ P t then False else C.ld c ad w (λy=>lW C P r e w λvs=>K (c.mk y::vs))
      | .agg cs=>bif fQ P t&&Nat.beq (fG P t) cs.length then C.dT cs ad w (λy=>lW C P r e w λvs=>K (.agg (HL.mk cs y).toArray::vs)) else False
      | .pF=>bif fQ P t then C.iH (fG P t) ad w (λy=>lW C P r e w λvs=>K (.agg y.toArray::vs)) else False
    | _=>False
def oneOf:List Kw->Kw
  | [v]=>v
  | vs=>.tuple vs.toArray
def mR:Nat->List Kw->Env
  | _,[]=>[]
  | i,v::r=>(i,v)::mR (i+1) r
def AW (C:mL) (P:Ky) (rvs:List ResultVar) (c:PC) (args:List Kw) (Q:Kw->Kv->Prop) (w:Kv):Prop:=
  c.pt C P (λx e w'=>match x with
    | .normal=>lW C P rvs e w' (λvs=>Q (oneOf vs) w')
    | .ret=>lW C P rvs e w' (λvs=>Q (oneOf vs) w')
    | .exit _=>False) (mR 0 args) w
def lF:(ts:List i3)->Kw->Option (jx ts)
  | [],.tuple _=>some ()
  | [],_=>none
  | [t],v=>t.un v
  | t::u::ts,.tuple vs=>unVals (t::u::ts) vs.toList
  | _::_::_,_=>none
where
  unVals:(ts:List i3)->List Kw->Option (jx ts)
  | [],[]=>some ()
  | [t],[v]=>t.un v
  | t::u::ts,v::vs=>
    match t.un v with
    | some x=>match unVals (u::ts) vs with
      | some y=>some (x,y)
      | none=>none
    | none=>none
  | _,_=>none
def Ag (C:mL) (m:Option Nat) (w:Kv) (K:Kv->Prop):Prop:=match m with|none=>K w|some D=>C.ft D w K
def wD (C:mL) (P:Ky) (fn:Func) (as0:List v9) (ts:List i3) (args:List Kw) (K:jx ts->Kv->Prop) (w:Kv):Prop:=
  match fn.body with
  | some c=>(jN c as0).1.CK C P (λm x e w'=>match x with
      | .exit _=>False
      | _=>Ag C m w' λw2=>lW C P fn.results.toList e w2 λvs=>match lF ts (oneOf vs) with|some x=>K x w2|none=>False) none (mR 0 args) w
  | none=>False
def AL (C:mL) (P:Ky) (fn:Func) (as0:List v9) (ts:List i3) (args:List Kw) (K:jx ts->Kv->Prop) (w:Kv):Prop:=
  match fn.body with
  | some c=>AW C P fn.results.toList (jN c as0).1 args (λv w'=>match lF ts v with|some x=>K x w'|none=>False) w
  | none=>False
def ld (c:Cell) (a:Addr) (w:Kv) (K:c.El->Prop):Prop:=∃x:c.El,w.cell? a=some (c.mk x)/\K x
def dT (cs:List Cell) (a:Addr) (w:Kv) (K:HL cs->Prop):Prop:=∃x:HL cs,kx w a 0 (HL.mk cs x)/\K x
def iH (n:Nat) (a:Addr) (w:Kv) (K:List Kw->Prop):Prop:=∃x:List Kw,(x.length=n/\kx w a 0 x)/\K x
def pK (c:Cell) (vs:List Kw) (off:Nat) (K:c.El->Prop):Prop:=∃x:c.El,vs[off]?=some (c.mk x)/\K x
def ku (cs:List Cell) (vs:List Kw) (off:Nat) (K:HL cs->Prop):Prop:=∃x:HL cs,vs.extract off (off+cs.length)=HL.mk cs x/\K x
def GE (a:Addr):Nat->List Kw->Kv->(WP)->Prop
 | _,[],w,K=>K w
 | i,v::vs,w,K=>(v.oneCell'=true/\(∃u,w.cell? (a.add i)=some u)/\w.frozen? (a.add i)=false)/\GE a (i+1) vs (w.setCell (a.add i) v) K
def st (a:Addr) (vs:List Kw) (w:Kv) (K:WP):Prop:=GE a 0 vs w K
def new (o:Obj) (w:Kv) (K:Nat->WP):Prop:=K w.heap.size (w.alloc o)
abbrev JP(a:Array Go.Value)(t:Go.TypeId)(w:Go.World)(k:Nat->Go.World->Prop):Prop:=new (.cells a t) w k
def fw (P:Ky) (t:Kx) (w:Kv) (K:Nat->WP):Prop:=∃z,(P.info? t).bind (·.zero)=some z/\K w.heap.size (w.alloc (.cells z.cells t))
def idx (s:Sl) (i:Int) (size:Nat) (K:Addr->Prop):Prop:=∃a,s.a=some a/\(0<=i/\i<(s.len:Int))/\K (a.add (i.toNat*size))
def pw (s:Sl) (n:Nat) (K:Addr->Prop):Prop:=∃a,s.a=some a/\n<=s.len/\K a
def kZ (s:ByteArray) (i:Int) (K:Int->Prop):Prop:=∃b:UInt8,(0<=i/\s[i.toNat]?=some b)/\K (b.toNat:Int)
def kM (c:Cell) (n:Nat) (cs:List Kw) (i:Int) (K:c.El->Prop):Prop:=∃x:c.El,(0<=i/\i<(n:Int)/\cs[i.toNat]?=some (c.mk x))/\K x
def gb (s:Sl) (lo hi mx:Option Int) (size:Nat) (K:Sl->Prop):Prop:=
 (0<=lo.getD 0/\lo.getD 0<=hi.getD s.len/\hi.getD s.len<=mx.getD s.cap/\mx.getD s.cap<=s.cap)/\
 K ⟨if (mx.getD s.cap).toNat=(lo.getD 0).toNat then s.a else s.a.map (·.add ((lo.getD 0).toNat*size)),(hi.getD s.len).toNat-(lo.getD 0).toNat,(mx.getD s.cap).toNat-(lo.getD 0).toNat⟩
def kV (s:ByteArray) (lo hi:Option Int) (K:ByteArray->Prop):Prop:=
 (0<=lo.getD 0/\lo.getD 0<=hi.getD s.size/\hi.getD s.size<=s.size)/\K (s.extract (lo.getD 0).toNat (hi.getD s.size).toNat)
def ke (a:Addr) (n:Nat) (lo hi mx:Option Int) (size:Nat) (K:Sl->Prop):Prop:=
 (0<=lo.getD 0/\lo.getD 0<=hi.getD n/\hi.getD n<=mx.getD n/\mx.getD n<=n)/\
 K ⟨some (if (mx.getD n).toNat=(lo.getD 0).toNat then a else a.add ((lo.getD 0).toNat*size)),(hi.getD n).toNat-(lo.getD 0).toNat,(mx.getD n).toNat-(lo.getD 0).toNat⟩
def ji (zero:List Kw) (c:Nat):Array Kw:=(Array.range c).map λi=>zero.toArray[i%zero.toArray.size]!
def nz (el:Kx) (zero:List Kw) (size bytes:Nat) (l c:Int) (w:Kv) (K:Sl->WP):Prop:=
 (0<=l/\l<=c/\(bytes:Int)*c<=2^48/\c<=2^48)/\K ⟨some ⟨w.heap.size,0,none⟩,l.toNat,c.toNat⟩ (w.alloc (.cells (ji (if c.toNat*size=0 then [] else zero) (c.toNat*size)) el))
def ig (p K:Prop):Prop:=p/\K
def nn (p:Option Addr) (K:Addr->Prop):Prop:=match p with|some a=>K a|none=>False
def call (P:Ky) (f:FuncId) (args:List Kw) (ts:List i3) (w:Kv) (K:jx ts->WP):Prop:=
 Calls P f args.toArray w λe w'=>∃x:jx ts,e=.returned (gE ts x)/\K x w'
def Wd (r:Option Nat):Fence:={ Fence.wide with round:=r }
def eF (P:Ky) (v:Kw) (args:List Kw) (ts:List i3) (w:Kv) (K:jx ts->WP):Prop:=
 (∃(f:FuncId) (vs:List Kw),(do let d <- Deferred.ofValue v args.toArray;invoke d.target d.args:Sem Next).run P w=.ok (.enter f vs.toArray) w/\call P f vs ts w K)\/
 (∃(l f:Nat) (tmps:Array Kw) (assign body:Code),(do let d <- Deferred.ofValue v args.toArray;invoke d.target d.args:Sem Next).run P w=.ok (.round l f tmps assign body) w/\
  RoundIn (Wd none) 0 P l f tmps assign body w λe w'=>∃x:jx ts,e=.returned (gE ts x)/\K x w')
def ext (P:Ky) (f:FuncId) (args:List Kw) (ts:List i3) (w:Kv) (K:jx ts->WP):Prop:=
 ∃(x:jx ts) (w':Kv),(callFunc f args.toArray).run P w=.ok (.value (gE ts x)) w'/\K x w'
def ft (D:Nat) (w:Kv) (K:WP):Prop:=w.heap[D]?=some (.deferred (some []))/\K (w.putObj D (.deferred none))
def pN (P:Ky) (pts:List i3) (body:jx pts->(Kv->(WP)->Prop)->(WP)->(Nat->WP)->WP) (l:Nat) (R B:Obj) (J:Nat->Obj):Prop:=
 ∀(x:jx pts) (W:Kv) (K:Bool->WP),W.heap[l]?=some R->
  body x (λW1 k=>W1.heap[l]?=some R/\k (W1.putObj l B)) (λW'=>W'.heap[l]?=some B/\K true (W'.putObj l R)) (λi W'=>W'.heap[l]?=some B/\K false (W'.putObj l (J i))) W->
  eF P (.func (.yield l) #[] #[]) (jx.vals pts x) dr W K
def kJ (P:Ky) (v:Kw) (pts:List i3) (body:jx pts->(Kv->(WP)->Prop)->(WP)->(Nat->WP)->WP) (done:Nat->WP) (jumps:List (Nat->WP)) (w:Kv):Prop:=
 ∃(f:FuncId) (lb:List Kw),v=.func (.func f) #[] lb.toArray/\jE P f=false/\
 ∀(R B:Obj) (J E:Nat->Obj) (E0:Obj),pN P pts body (w.heap.size+1) R B J->
  call P f (.func (.yield (w.heap.size+1)) #[] #[]::lb) [] ((w.alloc (.deferred (some []))).alloc R) (λ_ W=>
   (W.heap[w.heap.size+1]?=some R/\done w.heap.size (W.putObj (w.heap.size+1) E0))\/
   ∃i k,jumps[i]?=some k/\W.heap[w.heap.size+1]?=some (J i)/\k w.heap.size (W.putObj (w.heap.size+1) (E i)))
def inv (P:Ky) (v:Kw) (name:String) (args:List Kw) (ts:List i3) (w:Kv) (K:jx ts->WP):Prop:=
 ∃(f:FuncId) (vs:List Kw),(callMethod v name args.toArray).run P w=.ok (.enter f vs.toArray) w/\call P f vs ts w K
def run (ts:List i3) (r:Result Kw) (K:jx ts->WP):Prop:=∃x w',r=.ok (gE ts x) w'/\K x w'
def fM (ts:List i3) (r:Kv->Result Kw) (w:Kv) (K:jx ts->Prop):Prop:=∃x,r w=.ok (gE ts x) w/\K x
def i9 (r:Result Unit) (K:WP):Prop:=∃w',r=.ok () w'/\K w'
def join (S:Type) (X:(S->WP)->Prop) (Y:S->WP):Prop:=∃Mid:S->WP,X Mid/\∀s w,Mid s w->Y s w
def loop (S:Type) (B:(S->WP)->S->WP) (s:S) (w:Kv):Prop:=∀I:S->WP,(∀s w,B I s w->I s w)->I s w
def tq:List (WP)->WP
 | [],_=>True
 | [h],w=>h w
 | h::t,w=>h w/\tq t w
def held (l:List (WP)) (w:Kv) (K:Prop):Prop:=tq l w/\K
def pQ (r:Result Kw) (Ke:WP) (Ks:Kw->Kw->WP):Prop:=
 (∃w',r=.ok (.tuple #[.bool false]) w'/\Ke w')\/∃k v w',r=.ok (.tuple #[.bool true,k,v]) w'/\Ks k v w'
def pT (r:Result Kw) (K:Kw->Kw->WP):Prop:=∃k v w',r=.ok (.tuple #[k,v]) w'/\K k v w'
def mS (P:Ky):mL where
 ld:=ld
 dT:=dT
 iH:=iH
 pK:=pK
 ku:=ku
 fw:=fw P
 st:=st
 new:=new
 idx:=idx
 kZ:=kZ
 kM:=kM
 gb:=gb
 kV:=kV
 ke:=ke
 nz:=nz
 ig:=ig
 call:=call P
 eF:=eF P
 inv:=inv P
 run:=run
 fM:=fM
 i9:=i9
 join:=join
 loop:=loop
 held:=held
 ext:=ext P
 kJ:=kJ P
 ft:=ft
 pw:=pw
 pQ:=pQ
 pT:=pT
def qm6:∀ {l:List (WP)} {w:Kv},tq l w->∀h∈l,h w
 | [],_,_,_,hm=>by cases hm
 | [x],_,hh,h,hm=>by simp at hm;subst hm;exact hh
 | x::y::t,w,hh,h,hm=>by rcases zG.1 hm with rfl|hm;exact hh.1;exact qm6 (l:=y::t) hh.2 h hm
structure Rel (n:Nat) (ds:List Deferred) (e:Env) (a:Act):Prop where
 size:a.tmps.size=n
 defers:a.defers=ds
 get:∀ t v,e.get t=some v->a.tmps.getD t undef=v
def Rel.ev{n:Nat}{ds:List Deferred}{e:Env}{a:Act}(h:Rel n ds e a){x:Operand}{v:Kw}(hx:e.ev x=some v):a.eval x=v:=by
 cases x with
 | tmp t=>exact h.get t v hx
 | const u=>simpa[Env.ev,Act.eval] using hx
 | global g=>simpa[Env.ev,Act.eval] using hx
 | func f=>simpa[Env.ev,Act.eval] using hx
def Rel.sF{n:Nat}{ds:List Deferred}{e:Env}{a:Act}(h:Rel n ds e a):∀ {xs:List Operand} {vs:List Kw},e.sF xs=some vs->xs.map a.eval=vs
 | [],vs,hx=>by simp[Env.sF] at hx;subst hx;rfl
 | x::xs,vs,hx=>by simp only[Env.sF] at hx;split at hx;rename_i v us h1 h2;cases hx;simp[h.ev h1,h.sF h2];cases hx
def Rel.j5{n:Nat}{e:Env}{a:Act}(h:Rel n ds e a){xs:Array Operand}{vs:List Kw}(hx:e.sF xs.toList=some vs):xs.map a.eval=vs.toArray:=by
 have:=h.sF hx;apply Array.ext';simpa using this
def Env.lu(e:Env)(d t:Nat)(v:Kw):Env.get ((d,v)::e) t=if d=t then some v else e.get t:=by
 simp only[Env.get];by_cases h:d=t;subst h;simp;have:Nat.beq d t=false:=by cases hb:Nat.beq d t;rfl;exact absurd (yX hb) h
 simp[this,h]
def Rel.put{n:Nat}{ds:List Deferred}{e:Env}{a:Act}(h:Rel n ds e a){dst:Option Tmp}(hd:∀d,dst=some d->d<n)(v:Kw):Rel n ds (e.put dst v) (a.put dst v):=by
 cases dst with
 | none=>exact h
 | some d=>
  refine⟨by simp[Act.put,h.size],by simp[Act.put,h.defers],λt u hu=>?_⟩;simp only[Env.put,Env.lu] at hu;by_cases hdt:d=t;subst hdt;simp at hu;subst hu;have:=hd d rfl;have hs:=h.size;simp[Act.put,hs,this];simp[hdt] at hu;have:=h.get t u hu;simpa[Act.put,Array.getElem?_setIfInBounds_ne hdt] using this
def Jk{n:Nat}{e:Env}{a:Act}(h:Rel n ds e a){x:Option Operand}{r:Option Int}(hx:oi e x=some r): (x=none/\r=none)\/∃y k i,x=some y/\r=some i/\a.eval y=.int k i:=by
 cases x with
 | none=>simp[oi] at hx;exact .inl ⟨rfl,hx.symm⟩
 | some y=>
  simp only[oi] at hx;split at hx;rename_i k i he;cases hx;exact .inr ⟨y,k,i,rfl,rfl,h.ev he⟩;cases hx
def fK {α:Type}:Sem α->Prop
 | .pure _=>True
 | .program k=>∀p,fK (k p)
 | .mark _ k=>fK k
 | .halt _=>True
 | _=>False
def fK.run{α:Type}{P:Ky}{s:Sem α}(h:fK s)(w w' w1:Kv)(v:α)(hr:s.run P w=.ok v w1):w1=w/\s.run P w'=.ok v w':=by
 induction s with
 | pure a=>simp[Sem.run] at hr⊢;exact⟨hr.2.symm,hr.1⟩
 | program k ih=>exact ih P (h P) hr
 | mark m k ih=>exact ih h hr
 | halt x=>simp[Sem.run] at hr
 | _=>exact h.elim
def fK.bind{α β:Type}{s:Sem α}{f:α->Sem β}(h:fK s)(hf:∀a,fK (f a)):fK (s >>=f):=by
 show fK (Sem.bind s f);induction s with
 | pure a=>exact hf a
 | program k ih=>exact λp=>ih p (h p)
 | mark m k ih=>exact ih h
 | halt x=>trivial
 | _=>exact h.elim
def fK.pure{α:Type}(a:α):fK (Pure.pure a:Sem α):=trivial
def fK.stuck{α:Type}(s:String):fK (Go.stuck s:Sem α):=trivial
def fK.Du{α:Type}(s:Unsupported):fK (Go.unsupported s:Sem α):=trivial
def fK.tU:fK Go.program:=λ_=>trivial
def fK.underlying(t:Kx):fK (Go.underlying t):=by unfold Go.underlying;exact .bind .tU λp=>by split<;>first|exact .pure _|exact .stuck _
def fK.typeInfo(t:Kx):fK (Go.typeInfo t):=by unfold Go.typeInfo;exact .bind .tU λp=>by split<;>first|exact .pure _|exact .stuck _
def fK.zeroValue(t:Kx):fK (Go.zeroValue t):=by unfold Go.zeroValue;exact .bind (.typeInfo t) λp=>by split<;>first|exact .pure _|exact .Du _
def fK.sizeOf(t:Kx):fK (Go.sizeOf t):=.bind (.typeInfo t) λ_=>.pure _
def fK.mapM{α β:Type}{f:α->Sem β}(hf:∀a,fK (f a))(xs:Array α):fK (xs.mapM f):=by
 rw[Array.mapM_eq_mapM_toList];have:∀l:List α,fK (l.mapM f):=by
  intro l;induction l with
  | nil=>simp only[List.mapM_nil];exact .pure _
  | cons a l ih=>simp only[List.mapM_cons];exact .bind (hf a) λb=>.bind ih λbs=>.pure _
 exact fK.bind (this _) λ_=>.pure _
def fK.build(t:Kx)(ps:Array (Nat×Kw)):fK (Instr.build t ps):=by
 unfold Instr.build;refine .bind (.zeroValue t) λz=>.bind (.underlying t) λd=>?_;split
 ·refine .bind (.mapM (λf=>.bind (.sizeOf _) λ_=>.pure _) _) λpl=>?_;split<;>first|exact .pure _|exact .stuck _
 ·refine .bind (.sizeOf _) λs=>?_;split<;>first|exact .pure _|exact .stuck _
 exact .stuck _
section
variable {P:Ky} {n:Nat} {ds:List Deferred} {e:Env} {a:Act} {o:Oper} {w:Kv}
def H7{i:TypeInfo}(h:P.info? t=some i)(w:Kv):(typeInfo t).run P w=.ok i w:=by simp[typeInfo,h]
def tC(h:(P.info? t).isSome=true)(w:Kv):(sizeOf t).run P w=.ok (fG P t) w:=by
 cases hi:P.info? t with
 | none=>simp[hi] at h
 | some i=>simp[sizeOf,fG,H7 hi,hi]
def xw{z:Kw}(h:(P.info? t).bind (·.zero)=some z)(w:Kv):(zeroValue t).run P w=.ok z w:=by
 cases hi:P.info? t with
 | none=>simp[hi] at h
 | some i=>
  simp[hi] at h;simp[zeroValue,H7 hi,h]
def EL{j k:IntKind}(h:(j==k)=true):j=k:=by simpa using h
def Am(h:(P.underlying t).isSome=true)(w:Kv):(isAgg t).run P w=.ok (fQ P t) w:=by
 cases hd:P.underlying t with
 | none=>simp[hd] at h
 | some d=>cases d<;>simp[isAgg,fQ,run_underlying hd,hd]
def Ao(h:fQ P t=true):(P.underlying t).isSome=true:=by unfold fQ at h;split at h<;>simp_all
def wJ (neg:Bool):BinOp:=if neg then .neq else .eql
def qgv(h:jR y=true):∃u,y=.const u:=by unfold jR at h;split at h<;>first|exact⟨_,rfl⟩|cases h
def vw{v u:Kw}{r:Bool}(neg:Bool)(hr:(Op.equalIn 10000 t v u).run P w=.ok r w)(h1:∀k i,v≠.int k i)(h2:∀s,v≠.string s)(h3:∀k i,v≠.float k i)(h4:∀k i j,v≠.complex k i j): (binOp (wJ neg) t v u).run P w=.ok (.bool (if neg then !r else r)) w:=by
 have he:(Op.equal t v u).run P w=.ok r w:=hr;cases neg<;>cases v<;>simp only[wJ,if_true,if_false,Bool.false_eq_true]<;>
  first
   | exact absurd rfl (h1 _ _)
   | exact absurd rfl (h2 _)
   | exact absurd rfl (h3 _ _)
   | exact absurd rfl (h4 _ _ _)
   | (simp only[binOp];simp[he])
def qku{x:Operand}{c u v:Kw}{op:BinOp}(hv:∀cs,v≠.agg cs):eqGuard op t x (.const c) u v=pure ():=by
 cases op<;>cases u<;>cases v<;>first
  | rfl
  | exact absurd rfl (hv _)
  | (cases x<;>rfl)
def qk1{c u v:Kw}{op:BinOp}(hv:∀cs,v≠.agg cs):eqGuard op t (.const c) y u v=pure ():=by
 cases op<;>cases u<;>cases v<;>first
  | rfl
  | exact absurd rfl (hv _)
def qsH{t d:Nat}(D:Nat)(hd:P.underlying t=some (.pointer d))(p:Option Addr)(w:Kv): (Op.equalIn (D+1) t (.pointer p) (.pointer none)).run P w=.ok p.isNone w/\(Op.equalIn (D+1) t (.pointer none) (.pointer p)).run P w=.ok p.isNone w:=by cases p<;>constructor<;>simp[Op.equalIn,run_underlying hd]
def qoK{t d:Nat}(D:Nat)(hd:P.underlying t=some (.slice d))(p:Option Addr)(i j k l:Nat)(w:Kv): (Op.equalIn (D+1) t (.slice p i j) (.slice none k l)).run P w=.ok p.isNone w/\(Op.equalIn (D+1) t (.slice none k l) (.slice p i j)).run P w=.ok p.isNone w:=by cases p<;>constructor<;>simp[Op.equalIn,run_underlying hd]
def qsG{t d1 d2:Nat}(D:Nat)(hd:P.underlying t=some (.map d1 d2))(p:Option Nat)(w:Kv): (Op.equalIn (D+1) t (.map p) (.map none)).run P w=.ok p.isNone w/\(Op.equalIn (D+1) t (.map none) (.map p)).run P w=.ok p.isNone w:=by cases p<;>constructor<;>simp[Op.equalIn,run_underlying hd]
def qoJ{t:Nat}{ms}(D:Nat)(hd:P.underlying t=some (.interface ms))(v:Kw)(hv:isIface v=true)(w:Kv): (Op.equalIn (D+1) t v .nilIface).run P w=.ok (sU v) w/\(Op.equalIn (D+1) t .nilIface v).run P w=.ok (sU v) w:=by cases v<;>simp[isIface] at hv<;>constructor<;>simp[Op.equalIn,run_underlying hd,sU]
def qu6{t:Nat}{d1 d2 d3}(D:Nat)(hd:P.underlying t=some (.func d1 d2 d3))(v:Kw)(hv:xq v=true)(w:Kv): (Op.equalIn (D+1) t v .nilFunc).run P w=.ok (tl v) w/\(Op.equalIn (D+1) t .nilFunc v).run P w=.ok (tl v) w:=by cases v<;>simp[xq] at hv<;>constructor<;>simp[Op.equalIn,run_underlying hd,tl]
def qre{v u:Kw}(h:uK (mS P) P t v u K): ∃r,K r/\(∀cs,v≠.agg cs)/\(∀cs,u≠.agg cs)/\∀(w:Kv) (neg:Bool),(binOp (wJ neg) t v u).run P w=.ok (.bool (if neg then !r else r)) w/\(binOp (wJ neg) t u v).run P w=.ok (.bool (if neg then !r else r)) w:=by
 unfold uK at h;split at h;rename_i d hd;split at h;rename_i p;exact⟨_,h,oM,oM,λw neg=>⟨vw neg (qsH 9999 hd p w).1 oM oM oM oM,vw neg (qsH 9999 hd p w).2 oM oM oM oM⟩⟩;exact h.elim;rename_i d hd;split at h;rename_i p i j k l;exact⟨_,h,oM,oM,λw neg=>⟨vw neg (qoK 9999 hd p i j k l w).1 oM oM oM oM,vw neg (qoK 9999 hd p i j k l w).2 oM oM oM oM⟩⟩;exact h.elim;rename_i d1 d2 hd;split at h;rename_i p;exact⟨_,h,oM,oM,λw neg=>⟨vw neg (qsG 9999 hd p w).1 oM oM oM oM,vw neg (qsG 9999 hd p w).2 oM oM oM oM⟩⟩;exact h.elim;rename_i ms hd;split at h;obtain⟨hi,hk⟩:=h;refine⟨_,hk,?_,oM,λw neg=>⟨vw neg (qoJ 9999 hd v hi w).1 ?_ ?_ ?_ ?_,vw neg (qoJ 9999 hd v hi w).2 oM oM oM oM⟩⟩<;>
  (intros;intro hv;subst hv;simp[isIface] at hi)
 exact h.elim;rename_i d1 d2 d3 hd;split at h;obtain⟨hi,hk⟩:=h;refine⟨_,hk,?_,oM,λw neg=>⟨vw neg (qu6 9999 hd v hi w).1 ?_ ?_ ?_ ?_,vw neg (qu6 9999 hd v hi w).2 oM oM oM oM⟩⟩<;>
  (intros;intro hv;subst hv;simp[xq] at hi)
 exact h.elim;exact h.elim
def qsJ{x:Operand}(h:yv (mS P) P t x y e K)(hr:Rel n ds e a): ∃r,K r/\∀(w:Kv) (neg:Bool),(do eqGuard (wJ neg) t x y (a.eval x) (a.eval y);binOp (wJ neg) t (a.eval x) (a.eval y):Sem Kw).run P w=.ok (.bool (if neg then !r else r)) w:=by
 unfold yv at h;split at h;rename_i va vb hx hy;rw[hr.ev hx,hr.ev hy];cases hny:jR y with
 | true=>
  simp only[hny,cond_true] at h;obtain⟨r,hk,n1,n2,hrun⟩:=qre h;obtain⟨c,rfl⟩:=qgv hny;exact⟨r,hk,λw neg=>by rw[qku n2];exact (hrun w neg).1⟩
 | false=>
  simp only[hny,cond_false] at h;cases hnx:jR x with
  | true=>
   simp only[hnx,cond_true] at h;obtain⟨r,hk,n1,n2,hrun⟩:=qre h;obtain⟨c,rfl⟩:=qgv hnx;exact⟨r,hk,λw neg=>by rw[qk1 n1];exact (hrun w neg).2⟩
  | false=>
   simp only[hnx,cond_false] at h;split at h;rename_i k p j q;cases hkj:k==j with
   | true=>
    simp only[hkj,cond_true] at h;obtain rfl:=EL hkj;refine⟨_,h,λw neg=>?_⟩;cases neg<;>simp[wJ,eqGuard_at_int,binOp_eql,binOp_neq,bne]
   | false=>simp only[hkj,cond_false] at h
   rename_i p q;split at h;rename_i hd;refine⟨_,h,λw neg=>?_⟩;cases neg<;>simp[wJ,eqGuard_at_bool,run_eql_bool w t p q hd,run_neq_bool w t p q hd];exact h.elim;rename_i p q;refine⟨_,h,λw neg=>?_⟩;cases neg<;>simp[wJ,eqGuard_at_string,binOp,Op.stringOp];exact h.elim
 exact h.elim
end
end
section
open Go List
variable {K:Kw->WP} {N:Act->WP} {Q:Exit->Act->WP} {R:Ending->WP} {S:KD} {T t:Kx} {an:List v9} {args vs:List Kw} {cs tmps:Array Kw} {f:FuncId} {fn:Func} {fr:KQ} {guard:Option (Nat×Bool)} {k:IntKind} {listed:Array Bool} {ops:List Oper} {parts ps:Array (Nat×Operand)} {s:Sem Kw} {ts:List i3} {w':Kv} {z:Kw}
variable {P:Ky} {n:Nat} {ds:List Deferred} {e:Env} {a:Act} {o:Oper} {w:Kv}
def my{w:Kv}{v:Kw}(h:s.run P w=.ok v w'):(do pure (Next.value (<- s)):Sem Next).run P w=.ok (.value v) w':=by simp[h]
def qm0(hr:Rel n ds e a):∀ {ps:List (Nat×Operand)} {vs:List (Nat×Kw)},mY e ps=some vs->ps.map (λ(i,x)=>(i,a.eval x))=vs
  | [],vs,h=>by simp[mY] at h;subst h;rfl
  | (i,x)::ps,vs,h=>by simp only[mY] at h;split at h;rename_i v us h1 h2;cases h;simp[hr.ev h1,qm0 hr h2];cases h
def C4(hr:Rel n ds e a){vs:List (Nat×Kw)}(h:mY e ps.toList=some vs): (ps.map λ(i,x)=>(i,a.eval x))=vs.toArray:=by apply Array.ext';simpa using qm0 hr h
def Bd (x:Option Kw) (r:Option Int):Prop:=(x=none/\r=none)\/∃k i,x=some (.int k i)/\r=some i
def Bd.of(hr:Rel n ds e a){x:Option Operand}{r:Option Int}(h:oi e x=some r):Bd (x.map a.eval) r:=by rcases Jk hr h with ⟨rfl,rfl⟩|⟨y,k,i,rfl,rfl,hy⟩;exact .inl ⟨rfl,rfl⟩;exact .inr ⟨k,i,by simp[hy],rfl⟩
def He{nn cc:Nat}{l h m:Option Int}{lo hi mx:Option Kw}(s:Bool)(hl:Bd lo l)(hh:Bd hi h)(hm:Bd mx m)(hmh:(mx.isSome&&hi.isNone)=false)(hb:0<=l.getD 0/\l.getD 0<=h.getD nn/\h.getD nn<=m.getD cc/\m.getD cc<=cc)(w:Kv): (Instr.sliceBounds s nn cc lo hi mx).run P w=.ok ((l.getD 0).toNat,(h.getD nn).toNat,(m.getD cc).toNat) w:=by obtain⟨b0,b1,b2,b3⟩:=hb;rcases hm with ⟨rfl,rfl⟩|⟨km,im,rfl,rfl⟩;rcases hh with ⟨rfl,rfl⟩|⟨kh,ih,rfl,rfl⟩;rcases hl with ⟨rfl,rfl⟩|⟨kl,il,rfl,rfl⟩;simp[Instr.sliceBounds];simp at b0 b1 b2 b3;simp[Instr.sliceBounds,Instr.sliceBound,asIntOf,b0,b1];rcases hl with ⟨rfl,rfl⟩|⟨kl,il,rfl,rfl⟩;simp at b0 b1 b2 b3;simp[Instr.sliceBounds,Instr.sliceBound,asIntOf,b1,b2];simp at b0 b1 b2 b3;have:0<=ih:=oK;have:(ih.toNat:Int)=ih:=oK;simp[Instr.sliceBounds,Instr.sliceBound,asIntOf, *];rcases hh with ⟨rfl,rfl⟩|⟨kh,ih,rfl,rfl⟩;simp at hmh;rcases hl with ⟨rfl,rfl⟩|⟨kl,il,rfl,rfl⟩;simp at b0 b1 b2 b3;have:0<=im:=oK;have:(im.toNat:Int)=im:=oK;simp[Instr.sliceBounds,Instr.sliceBound,asIntOf, *];simp at b0 b1 b2 b3;have:0<=ih:=oK;have:0<=im:=oK;have:(ih.toNat:Int)=ih:=oK;have:(im.toNat:Int)=im:=oK;simp[Instr.sliceBounds,Instr.sliceBound,asIntOf, *]
def qws{op:BinOp}{x y:Int}{u v:Operand}{r:Kw}(h:uw op k x y=some r)(w:Kv): (do eqGuard op t u v (.int k x) (.int k y);binOp op t (.int k x) (.int k y):Sem Kw).run P w=.ok r w:=by cases op<;>simp[uw] at h<;>subst h<;>simp[eqGuard_at_int,binOp_add,binOp_sub,binOp_mul,binOp_and,binOp_or,binOp_xor,binOp_andNot,binOp_eql,binOp_neq,binOp_lss,binOp_leq,binOp_gtr,binOp_geq,Op.intArith,intBits_and,intBits_or,intBits_xor,intBits_andNot]
def qwZ{op:BinOp}{x y:ByteArray}{u v:Operand}{r:Kw}(h:ur op x y=some r)(w:Kv): (do eqGuard op t u v (.string x) (.string y);binOp op t (.string x) (.string y):Sem Kw).run P w=.ok r w:=by cases op<;>simp[ur] at h<;>subst h<;>simp[eqGuard_at_string,binOp,Op.stringOp]
def qoC{y:Operand}(h:oo y=true){b:Int}(hy:e.ev y=some (.int k b)):b≠0:=by unfold oo at h;split at h;simp[Env.ev] at hy;obtain⟨rfl,rfl⟩:=hy;simpa using h;cases h
def qoB{y:Operand}(h:oj y=true){b:Int}(hy:e.ev y=some (.int k b)):0<=b:=by unfold oj at h;split at h;simp[Env.ev] at hy;obtain⟨rfl,rfl⟩:=hy;simpa using h;cases h
def vQ(h:(!pG P t)=false):(P.info? t).isSome=true/\(P.underlying t).isSome=true:=by simpa[pG] using h
def CY(h:(!pG P t)=false)(cs:Array Kw)(off:Nat)(w:Kv): (part t cs off).run P w=if fQ P t then .ok (.agg (cs.extract off (off+fG P t))) w else match cs[off]? with|some v=>.ok v w|none=>.halt (.stuck "part: no such cell") w:=by
  obtain⟨h1,h2⟩:=vQ h;unfold part;simp only[Kb,Am h2,Kc];cases fQ P t with
  | true=>simp[tC h1]
  | false=>cases cs[off]?<;>simp
set_option maxHeartbeats 1000000 in
def qpl{K:Kw->Prop}(h:iD (mS P) P o e w K)(hr:Rel n ds e a): ∃v,(∀w',(execOp a.eval o).run P w'=.ok (.value v) w')/\K v:=by
  obtain⟨dst,op,type,pos,after,guard⟩:=o;cases op;case move x=>
    simp only[iD] at h;split at h;rename_i v hv;exact⟨v,λw'=>by simp[execOp,hr.ev hv],h⟩;exact h.elim
  case assign x=>
    simp only[iD] at h;split at h;rename_i v hv;exact⟨v,λw'=>by simp[execOp,hr.ev hv],h⟩;exact h.elim
  case pick c x y=>
    simp only[iD] at h;split at h;rename_i t vx vy hc hx hy;cases t with
    | true=>exact⟨_,λw'=>by simp[execOp,hr.ev hc,hr.ev hx,asBool],h⟩
    | false=>exact⟨_,λw'=>by simp[execOp,hr.ev hc,hr.ev hy,asBool],h⟩
    exact h.elim
  case nilCheck x=>
    simp only[iD] at h;split at h;rename_i p hp;split at h;rename_i ad;exact⟨_,λw'=>by simp[execOp,hr.ev hp],h⟩;exact h.elim;exact h.elim
  case binOp op t x y yt=>
    cases op;case eql=>
      obtain⟨r,hk,hrun⟩:=qsJ h hr;exact⟨_,λw'=>my (by have:=hrun w' false;simpa[wJ] using this),hk⟩
    case neq=>
      obtain⟨r,hk,hrun⟩:=qsJ h hr;exact⟨_,λw'=>my (by have:=hrun w' true;simpa[wJ] using this),hk⟩
    case quo=>
      simp only[iD] at h;split at h;rename_i k p j q hx hy;cases hkj:k==j with
      | true=>
        obtain rfl:=EL hkj;simp only[hkj,cond_true] at h;have hq:q≠0/\K (.int k (k.wrap (p.tdiv q))):=by
          cases hc:oo y with
          | true=>simp only[hc,cond_true] at h;exact⟨qoC hc hy,h⟩
          | false=>simp only[hc,cond_false] at h;exact h
        exact⟨_,λw'=>my (by rw[hr.ev hx,hr.ev hy];simp[eqGuard_at_int,binOp_quo,Op.intDiv,hq.1]),hq.2⟩
      | false=>simp only[hkj,cond_false] at h
      exact h.elim
    case rem=>
      simp only[iD] at h;split at h;rename_i k p j q hx hy;cases hkj:k==j with
      | true=>
        obtain rfl:=EL hkj;simp only[hkj,cond_true] at h;have hq:q≠0/\K (.int k (p.tmod q)):=by
          cases hc:oo y with
          | true=>simp only[hc,cond_true] at h;exact⟨qoC hc hy,h⟩
          | false=>simp only[hc,cond_false] at h;exact h
        exact⟨_,λw'=>my (by rw[hr.ev hx,hr.ev hy];simp[eqGuard_at_int,binOp_rem,Op.intDiv,hq.1]),hq.2⟩
      | false=>simp only[hkj,cond_false] at h
      exact h.elim
    case shl=>
      simp only[iD] at h;split at h;rename_i k p j q hx hy;have hq:0<=q/\K (.int k (k.wrap (p*2^min q.toNat k.bits))):=by
        cases hc:oj y with
        | true=>simp only[hc,cond_true] at h;exact⟨qoB hc hy,h⟩
        | false=>simp only[hc,cond_false] at h;exact h
      exact⟨_,λw'=>my (by rw[hr.ev hx,hr.ev hy];simp[eqGuard_at_int,binOp_shl,Op.shift,Int.not_lt.2 hq.1]),hq.2⟩;exact h.elim
    case shr=>
      simp only[iD] at h;split at h;rename_i k p j q hx hy;have hq:0<=q/\K (.int k (p.fdiv (2^min q.toNat k.bits))):=by
        cases hc:oj y with
        | true=>simp only[hc,cond_true] at h;exact⟨qoB hc hy,h⟩
        | false=>simp only[hc,cond_false] at h;exact h
      exact⟨_,λw'=>my (by rw[hr.ev hx,hr.ev hy];simp[eqGuard_at_int,binOp_shr,Op.shift,Int.not_lt.2 hq.1]),hq.2⟩;exact h.elim
    all_goals
      simp only[iD] at h;split at h;rename_i k p j q hx hy;cases hkj:k==j with
      | true=>
        obtain rfl:=EL hkj;simp only[hkj,cond_true] at h;split at h;rename_i v hv;exact⟨v,λw'=>my (by rw[hr.ev hx,hr.ev hy];exact qws hv w'),h⟩;exact h.elim
      | false=>simp only[hkj,cond_false] at h
      · rename_i p q hx hy;first
          | (split at h
             rename_i v hv;exact⟨v,λw'=>my (by rw[hr.ev hx,hr.ev hy];exact qwZ hv w'),h⟩;exact h.elim)
          | (obtain⟨hc,hk⟩:=h
             exact⟨_,λw'=>my (by rw[hr.ev hx,hr.ev hy];simp only[eqGuard_at_string,binOp,Op.stringOp];rw[iN];rfl),hk⟩)
      exact h.elim
  case unOp op t x=>
    simp only[iD] at h;split at h;rename_i k i hx;split at h;exact⟨_,λw'=>my (by rw[hr.ev hx];simp[Op.unary,Op.intArith]),h⟩;exact⟨_,λw'=>my (by rw[hr.ev hx];simp[Op.unary,intBits_xor]),h⟩;exact h.elim;rename_i b hx;split at h;exact⟨_,λw'=>my (by rw[hr.ev hx];simp[Op.unary]),h⟩;exact h.elim;exact h.elim
  case convert s d x=>
    simp only[iD] at h;split at h;rename_i ds k i hs hx;split at h;rename_i kd hd;exact⟨_,λw'=>my (by rw[hr.ev hx];simp[convert,run_underlying hs,run_underlying hd,Conv.intToInt]),h⟩;exact h.elim;exact h.elim
  case extract x i=>
    simp only[iD] at h;split at h;rename_i vs hx;split at h;rename_i v hv;exact⟨v,λw'=>my (by rw[hr.ev hx];simp[Instr.extract,show vs[i]?=some v by simpa using hv]),h⟩;exact h.elim;exact h.elim
  case field t x f=>
    simp only[iD] at h;split at h;rename_i fs cs ht hx;split at h;rename_i fd hf;cases hok:!pG P fd.type with
    | true=>simp only[hok,cond_true] at h
    | false=>
      simp only[hok,cond_false] at h;have whole:fQ P fd.type=true->∀vs',cs.toList.extract fd.offset (fd.offset+fG P fd.type)=vs'->∀w',(execOp a.eval ⟨dst,.field t x f,type,pos,after,guard⟩).run P w'=.ok (.value (.agg vs'.toArray)) w':=by intro hag vs' hvs w';refine my ?_;rw[hr.ev hx];simp[Instr.field,run_underlying ht,hf,asAgg,CY hok,hag];apply Array.ext';simpa using hvs
      have part:fQ P fd.type=false->∀v,cs.toList[fd.offset]?=some v->∀w',(execOp a.eval ⟨dst,.field t x f,type,pos,after,guard⟩).run P w'=.ok (.value v) w':=(by intro hag v hv w';refine my ?_;rw[hr.ev hx];simp[Instr.field,run_underlying ht,hf,asAgg,CY hok,hag,show cs[fd.offset]?=some v by simpa using hv]);have nt:(bif fQ P fd.type then K (.agg (cs.toList.extract fd.offset (fd.offset+fG P fd.type)).toArray) else match cs.toList[fd.offset]? with
          | some v=>K v
          | none=>False)->∃v,(∀w',(execOp a.eval ⟨dst,.field t x f,type,pos,after,guard⟩).run P w'=.ok (.value v) w')/\K v:=by
        intro h;cases hag:fQ P fd.type with
        | true=>
          simp only[hag,cond_true] at h;exact⟨_,whole hag _ rfl,h⟩
        | false=>
          simp only[hag,cond_false] at h;split at h;rename_i v hv;exact⟨v,part hag v hv,h⟩;exact h.elim
      split at h;split at h;rename_i c _;cases hag:fQ P fd.type with
      | true=>simp only[hag,cond_true] at h
      | false=>
        simp only[hag,cond_false] at h;obtain⟨y,hy,hk⟩:=h;exact⟨_,part hag _ hy,hk⟩
      rename_i cl _;cases hg:fQ P fd.type&&Nat.beq (fG P fd.type) cl.length with
      | false=>simp only[hg,cond_false] at h
      | true=>
        simp only[hg,cond_true] at h;simp only[yB] at hg;obtain⟨y,hy,hk⟩:=h;have hsz:=yX hg.2;exact⟨_,whole hg.1 _ (by rw[hsz];exact hy),hk⟩
      cases hag:fQ P fd.type with
      | true=>
        simp only[hag,cond_true] at h;exact⟨_,whole hag _ rfl,h⟩
      | false=>simp only[hag,cond_false] at h
      exact nt h
    exact h.elim;exact h.elim
  case fieldAddr t x f=>
    simp only[iD] at h;split at h;rename_i fs ht;split at h;rename_i fd hf;cases hz:Nat.beq (fG P fd.type) 0 with
    | true=>simp only[hz,cond_true] at h
    | false=>
      simp only[hz,cond_false] at h;split at h;rename_i p hx;split at h;rename_i ad;have hs:(P.info? fd.type).isSome=true:=by
        cases hi:P.info? fd.type with
        | none=>simp[fG,hi] at hz
        | some i=>rfl
      have hn:fG P fd.type≠0:=λh0=>by simp[h0] at hz
      refine⟨_,λw'=>my ?_,h⟩;rw[hr.ev hx];simp[Instr.fieldAt,run_underlying ht,hf,Instr.sureAddr,fieldPlace,tC hs,hn];exact h.elim;exact h.elim
    exact h.elim;exact h.elim
  case makeInterface t x=>
    simp only[iD] at h;split at h;exact h.elim
    · rename_i d v hni hd hx;refine⟨_,λw'=>my ?_,h⟩;rw[hr.ev hx];simp only[Instr.makeInterface,Kb,run_underlying hd,Kc];first
        | rfl
        | (split
           rename_i ms;exact (hni ms rfl).elim;rfl)
    exact h.elim
  case makeFunc fn first cap=>
    simp only[iD] at h;split at h;rename_i f c hf hc;exact⟨_,λw'=>my (by rw[hr.j5 hf,hr.j5 hc];simp[Instr.makeFunc]),h⟩;exact h.elim
  case build t parts=>
    simp only[iD] at h;split at h;rename_i vs hv;split at h;obtain⟨y,hy,hk⟩:=h;exact⟨_,λw'=>my (by rw[C4 hr hv];exact ((fK.build t _).run w w' w _ hy).2),hk⟩;split at h;rename_i v w1 hrun;exact⟨v,λw'=>my (by rw[C4 hr hv];exact ((fK.build t _).run w w' w1 v hrun).2),h⟩;exact h.elim;exact h.elim
  case sliceToArrayPointer t x=>
    simp only[iD] at h;split at h;rename_i len el ht;split at h;rename_i sa l c hx;obtain⟨ad,hsa,hb,hk⟩:=h;simp only at hsa hb;subst hsa;refine⟨_,λw'=>my ?_,hk⟩;rw[hr.ev hx];simp[Instr.arrayAt,run_underlying ht,Nat.not_lt.2 hb];exact h.elim;exact h.elim
  case indexAddr t x ix=>
    simp only[iD] at h;split at h;rename_i el ht;cases hok:!pG P el with
    | true=>simp only[hok,cond_true] at h
    | false=>
      simp only[hok,cond_false] at h;obtain⟨hi1,hi2⟩:=vQ hok;split at h;rename_i sa l c k i hx hi;obtain⟨ad,hsa,hb,hk⟩:=h;simp only at hsa hb;subst hsa;refine⟨_,λw'=>my ?_,hk⟩;rw[hr.ev hx,hr.ev hi];simp[Instr.indexAt,asIntOf,run_underlying ht,hb,tC hi1];exact h.elim
    rename_i len el ht;cases hok:!pG P el with
    | true=>simp only[hok,cond_true] at h
    | false=>
      simp only[hok,cond_false] at h;obtain⟨hi1,hi2⟩:=vQ hok;split at h;rename_i ad hx;split at h;rename_i i hc;refine⟨_,λw'=>my ?_,h⟩;unfold uJ at hc;split at hc;rename_i k j;split at hc;rename_i hb;cases hc;rw[hr.ev hx];simp[Act.eval,Instr.indexAt,asIntOf,run_underlying ht,Instr.sureAddr,hb,tC hi1];cases hc;cases hc;split at h;rename_i k j hi;obtain⟨hb,hk⟩:=h;refine⟨_,λw'=>my ?_,hk⟩;rw[hr.ev hx,hr.ev hi];simp[Instr.indexAt,asIntOf,run_underlying ht,Instr.sureAddr,hb,tC hi1];exact h.elim;exact h.elim
    exact h.elim
  case index t x ix=>
    simp only[iD] at h;split at h;rename_i ht;split at h;rename_i s k i hx hi;obtain⟨b,⟨h0,hb⟩,hk⟩:=h;refine⟨_,λw'=>my ?_,hk⟩;rw[hr.ev hx,hr.ev hi];simp[Instr.index,asIntOf,run_underlying ht,h0,hb];exact h.elim;rename_i len el ht;split at h;rename_i cs k i hx hi;split at h;rename_i c hc;cases hg:fQ P el||!(Nat.beq (fG P el) 1)||!pG P el with
    | true=>simp only[hg,cond_true] at h
    | false=>
      simp only[hg,cond_false] at h;simp only[Km] at hg;obtain⟨⟨g1,g2⟩,g3⟩:=hg;have g2':fG P el=1:=yX (oQ g2);obtain⟨y,⟨h0,h1,hy⟩,hk⟩:=h;obtain⟨hi1,hi2⟩:=vQ g3;refine⟨_,λw'=>my ?_,hk⟩;rw[hr.ev hx,hr.ev hi];have hy':cs[i.toNat]?=some (c.mk y):=(oQ hy);simp[Instr.index,asIntOf,run_underlying ht,h0,h1,tC hi1,g2',CY g3,g1,hy']
    rename_i cl hc;cases hg:!(fQ P el)||!(Nat.beq (fG P el) cl.length)||!pG P el with
    | true=>simp only[hg,cond_true] at h
    | false=>
      simp only[hg,cond_false] at h;simp only[Km] at hg;obtain⟨⟨g1,g2⟩,g3⟩:=hg;have g1':fQ P el=true:=(oQ g1);have g2':fG P el=cl.length:=yX (oQ g2);obtain⟨⟨h0,h1⟩,y,hy,hk⟩:=h;obtain⟨hi1,hi2⟩:=vQ g3;refine⟨_,λw'=>my ?_,hk⟩;rw[hr.ev hx,hr.ev hi];have hy':cs.extract (i.toNat*cl.length) (i.toNat*cl.length+cl.length)=(HL.mk cl y).toArray:=by apply Array.ext';simpa using hy
      simp[Instr.index,asIntOf,run_underlying ht,h0,h1,tC hi1,g2',CY g3,g1',hy']
    exact h.elim;exact h.elim;exact h.elim
  case slice t x lo hi mx=>
    simp only[iD] at h;cases hmh:mx.isSome&&hi.isNone with
    | true=>simp only[hmh,cond_true] at h
    | false=>
      simp only[hmh,cond_false] at h;split at h;rename_i l hh m hl hhi hm;have bl:=Bd.of hr hl;have bh:=Bd.of hr hhi;have bm:=Bd.of hr hm;have hmh':((mx.map a.eval).isSome&&(hi.map a.eval).isNone)=false:=(oQ hmh);split at h;rename_i el ht;cases hok:!pG P el with
      | true=>simp only[hok,cond_true] at h
      | false=>
        simp only[hok,cond_false] at h;obtain⟨hi1,hi2⟩:=vQ hok;split at h;rename_i sa nn cc hx;obtain⟨hb,hk⟩:=h;refine⟨_,λw'=>my ?_,hk⟩;rw[hr.ev hx];simp only[Instr.sliceAt,Kb,run_underlying ht,Kc,Instr.slice,He true bl bh bm hmh' hb,tC hi1];rfl;exact h.elim
      rename_i ht;split at h;rename_i s hx;obtain⟨hb,hk⟩:=h;have hmn:mx=none:=by rcases Jk hr hm with ⟨e1,_⟩|⟨_,_,_,_,e2,_⟩;exact e1;cases e2
      subst hmn;refine⟨_,λw'=>my ?_,hk⟩;rw[hr.ev hx];have hb':0<=l.getD 0/\l.getD 0<=hh.getD s.size/\hh.getD s.size<=(none:Option Int).getD (s.size:Int)/\(none:Option Int).getD (s.size:Int)<=(s.size:Int):=⟨hb.1,hb.2.1,hb.2.2,Int.le_refl _⟩
      have:=He (P:=P) (nn:=s.size) (cc:=s.size) false bl bh (m:=none) (mx:=none) (.inl ⟨rfl,rfl⟩) oM hb' w';simp only[Option.map_none,Instr.sliceAt,Kb,run_underlying ht,Kc,Instr.slice,Option.isSome_none,Bool.false_eq_true,if_false,this];rfl;exact h.elim;rename_i len el ht;cases hok:!pG P el with
      | true=>simp only[hok,cond_true] at h
      | false=>
        simp only[hok,cond_false] at h;obtain⟨hi1,hi2⟩:=vQ hok;split at h;rename_i ad hx;obtain⟨hb,hk⟩:=h;refine⟨_,λw'=>my ?_,hk⟩;rw[hr.ev hx];simp only[Instr.sliceAt,Kb,run_underlying ht,Kc,Instr.sureAddr,Sem.run_pure,He false bl bh bm hmh' hb,tC hi1];exact h.elim
      exact h.elim;exact h.elim
  case call c=>
    obtain⟨callee,args,argTypes⟩:=c;cases callee with
    | builtin b=>
      cases b<;>simp only[iD] at h<;>try exact h.elim
      case cap=>
        split at h;rename_i el _ _ c ht hv;obtain⟨t0,h0,h1⟩:=Option.bind_eq_some_iff.1 ht;exact⟨_,λw'=>by simp[execOp,resolve,hr.j5 hv,invoke,builtin,Builtin.cap_,h0,run_underlying h1,goInt],h⟩;exact h.elim
      case len=>
        split at h;rename_i el _ k _ ht hv;obtain⟨t0,h0,h1⟩:=Option.bind_eq_some_iff.1 ht;exact⟨_,λw'=>by simp[execOp,resolve,hr.j5 hv,invoke,builtin,Builtin.len_,h0,run_underlying h1,goInt],h⟩;rename_i s ht hv;obtain⟨t0,h0,h1⟩:=Option.bind_eq_some_iff.1 ht;exact⟨_,λw'=>by simp[execOp,resolve,hr.j5 hv,invoke,builtin,Builtin.len_,h0,run_underlying h1,goInt],h⟩;rename_i k el u ht hv;obtain⟨t0,h0,h1⟩:=Option.bind_eq_some_iff.1 ht;exact⟨_,λw'=>by simp[execOp,resolve,hr.j5 hv,invoke,builtin,Builtin.len_,h0,run_underlying h1,goInt],h⟩;exact h.elim
      case max=>
        split at h;rename_i k x j y hv;exact⟨_,λw'=>by simp[execOp,resolve,hr.j5 hv,invoke,builtin,run_max_int2],h⟩;exact h.elim
      case min=>
        split at h;rename_i k x j y hv;exact⟨_,λw'=>by simp[execOp,resolve,hr.j5 hv,invoke,builtin,run_min_int2],h⟩;exact h.elim
    | value f=>exact h.elim
    | invoke r m=>exact h.elim
  all_goals exact h.elim
def Dk{ad:Addr}:∀(vs:List Kw) (i:Nat) (acc:Array Kw) (w:Kv),kx w ad i vs-> (loadCellsFrom ad i vs.length acc).run P w=.ok (acc++vs.toArray) w
  | [],i,acc,w,_=>by simp[loadCellsFrom]
  | [v],i,acc,w,h=>by have h':w.cell? (ad.add i)=some v:=h;simp[loadCellsFrom,h']
  | v::u::vs,i,acc,w,h=>by
    obtain⟨h1,h2⟩:=h;have:=Dk (u::vs) (i+1) (acc.push v) w h2;simp only[yJ] at this⊢;rw[loadCellsFrom];simp only[Kb,run_load,h1,Kc,this];simp
def qpo{K:Kw->(WP)->Prop}(h:oc (mS P) P o e w K)(hc:CH P o.op=.read)(hr:Rel n ds e a): ∃v hold,(execOp a.eval o).run P w=.ok (.value v) w/\(∀w',hold w'->(execOp a.eval o).run P w'=.ok (.value v) w')/\K v hold:=by
  obtain⟨dst,op,type,pos,after,guard⟩:=o;cases op;case load t x=>
    simp only[oc] at h;split at h;rename_i p hx;obtain⟨ad,rfl⟩:∃ad,p=some ad:=by
      cases p with
      | none=>exact h.elim
      | some ad=>exact⟨ad,rfl⟩
    dsimp only at h;split at h;rename_i c hcell;cases hok:!pG P t with
    | true=>simp only[hok,cond_true] at h
    | false=>
      simp only[hok,cond_false] at h;obtain⟨hi1,hi2⟩:=vQ hok;cases hag:fQ P t with
      | true=>simp only[hag,cond_true] at h
      | false=>
        simp only[hag,cond_false] at h;obtain⟨y,hy,hk⟩:=h;have key:∀w',w'.cell? ad=some (c.mk y)->(execOp a.eval ⟨dst,.load t x,type,pos,after,guard⟩).run P w'=.ok (.value (c.mk y)) w':=λw' hw'=>
          my (by rw[hr.ev hx];simp[Instr.loadAt,Instr.sureAddr,loadVar,Am hi2,hag,hw'])
        exact⟨_,_,key w hy,λw' hw'=>key w' hw',hk⟩
    rename_i cs hcells;cases hg:fQ P t&&Nat.beq (fG P t) cs.length with
    | false=>simp only[hg,cond_false] at h
    | true=>
      simp only[hg,cond_true] at h;simp only[yB] at hg;obtain⟨hag,hsz⟩:=hg;have hsz':=yX hsz;obtain⟨y,hy,hk⟩:=h;have hlen:(HL.mk cs y).length=cs.length:=HL.j3 cs y;have hsome:(P.info? t).isSome=true:=by
        cases hi:P.info? t with
        | none=>
          have:(P.underlying t).isSome=true:=Ao hag;simp[Program.underlying,hi] at this
        | some i=>rfl
      have key:∀w',kx w' ad 0 (HL.mk cs y)->(execOp a.eval ⟨dst,.load t x,type,pos,after,guard⟩).run P w'=.ok (.value (.agg (HL.mk cs y).toArray)) w':=λw' hw'=>
        my (by
          rw[hr.ev hx];have:=Dk (P:=P) (HL.mk cs y) 0 #[] w' hw';rw[hlen,<- hsz'] at this;simp[Instr.loadAt,Instr.sureAddr,loadVar,Am (Ao hag),hag,tC hsome,loadCells,this])
      exact⟨_,_,key w hy,λw' hw'=>key w' hw',hk⟩
    cases hag:fQ P t with
    | false=>simp only[hag,cond_false] at h
    | true=>
      simp only[hag,cond_true] at h;obtain⟨y,hy,hk⟩:=h;have hsome:(P.info? t).isSome=true:=by
        cases hi:P.info? t with
        | none=>
          have:(P.underlying t).isSome=true:=Ao hag;simp[Program.underlying,hi] at this
        | some i=>rfl
      have key:∀w',kx w' ad 0 y->(execOp a.eval ⟨dst,.load t x,type,pos,after,guard⟩).run P w'=.ok (.value (.agg y.toArray)) w':=λw' hw'=>
        my (by
          rw[hr.ev hx];have:=Dk (P:=P) y 0 #[] w' hw';rw[hy.1] at this;simp[Instr.loadAt,Instr.sureAddr,loadVar,Am (Ao hag),hag,tC hsome,loadCells,this])
      exact⟨_,_,key w hy.2,λw' hw'=>key w' hw',hk⟩
    exact h.elim
  case lookup t m k ok=>
    simp only[oc] at h;split at h;rename_i vm vk hm hk;obtain⟨y,hy,hK⟩:=h;exact⟨_,_,my (by rw[hr.ev hm,hr.ev hk];exact hy),λw' hw'=>my (by rw[hr.ev hm,hr.ev hk];exact hw'),hK⟩;exact h.elim
  case typeAssert x xt as_ ok=>
    simp only[oc] at h;split at h;rename_i v hx;obtain⟨y,hy,hK⟩:=h;exact⟨_,_,my (by rw[hr.ev hx];exact hy),λw' hw'=>my (by rw[hr.ev hx];exact hw'),hK⟩;exact h.elim
  case binOp op t x y yt=>
    have h':(match e.ev x,e.ev y with
      | some p,some q=>(mS P).fM dr (λw'=>(do eqGuard op t x y p q;binOp op t p q:Sem Kw).run P w') w (λr=>K (.bool r) λw'=>(do eqGuard op t x y p q;binOp op t p q:Sem Kw).run P w'=.ok (.bool r) w')
      | _,_=>False):=by cases op<;>exact h
    split at h';rename_i p q hx hy;obtain⟨r,hr1,hK⟩:=h';exact⟨_,_,my (by rw[hr.ev hx,hr.ev hy];exact hr1),λw' hw'=>my (by rw[hr.ev hx,hr.ev hy];exact hw'),hK⟩;exact h'.elim
  case convert s d x=>
    simp only[oc] at h;split at h;rename_i v hx;obtain⟨r,hr1,hK⟩:=h;exact⟨_,_,my (by rw[hr.ev hx];exact hr1),λw' hw'=>my (by rw[hr.ev hx];exact hw'),hK⟩;exact h.elim
  case call c=>
    obtain⟨callee,args,argTypes⟩:=c;cases callee with
    | builtin b=>
      cases b<;>simp only[oc] at h<;>try exact h.elim
      split at h;rename_i vs hv;obtain⟨r,hr1,hK⟩:=h;have key:∀w',(Builtin.len_ argTypes type vs.toArray).run P w'=.ok (.int .i64 r) w'->(execOp a.eval ⟨dst,.call ⟨.builtin .len,args,argTypes⟩,type,pos,after,guard⟩).run P w'=.ok (.value (.int .i64 r)) w':=λw' hw'=>by simp[execOp,resolve,hr.j5 hv,invoke,builtin,hw']
      exact⟨_,_,key w hr1,λw' hw'=>key w' hw',hK⟩;exact h.elim
    | value f=>exact h.elim
    | invoke r m=>exact h.elim
  all_goals exact h.elim
section
variable {P:Ky} {n:Nat} {ds:List Deferred} {e:Env} {a:Act} {o:Oper} {w:Kv} {r:Option Nat} {m:Nat}
def ef (cs:Array Kw):Nat->List Kw->Array Kw
 | _,[]=>cs
 | off,v::vs=>ef (cs.setIfInBounds off v) (off+1) vs
def pE:∀(vs:List Kw) (cs:Array Kw) (off:Nat),(ef cs off vs).size=cs.size
 | [],_,_=>rfl
 | v::vs,cs,off=>by simp[ef,pE vs]
def sP:∀(vs:List Kw) (cs:Array Kw) (off:Nat),off+vs.length<=cs.size->(ef cs off vs).toList=cs.toList.take off++vs++cs.toList.drop (off+vs.length)
 | [],cs,off,h=>by simp[ef]
 | v::vs,cs,off,h=>by
  simp only[yJ] at h;rw[ef,sP vs _ _ oP,Array.toList_setIfInBounds];have h1:(cs.toList.set off v).take (off+1)=cs.toList.take off++[v]:=by have:off<cs.toList.length:=oP;rw[set_eq_take_append_cons_drop,iP this,take_append,yM,xT oK,zS oP];simp[show off+1-off=1 by omega]
  have h2:(cs.toList.set off v).drop (off+1+vs.length)=cs.toList.drop (off+1+vs.length):=(by rw[drop_set,iP]);rw[h1,h2];simp[Nat.add_assoc,Nat.add_comm 1]
def qsP(off:Nat):∀(l:List Kw) (j:Nat) (cells:Array Kw),(l.zipIdx j).foldl (λcs (x:Kw×Nat)=>cs.setIfInBounds (off+x.2) x.1) cells=ef cells (off+j) l
 | [],j,cells=>rfl
 | v::l,j,cells=>by rw[zipIdx_cons,foldl_cons,qsP off l (j+1)];rfl
def Ff(off:Nat)(vs cells:Array Kw):(vs.zipIdx.foldl (λcs (x:Kw×Nat)=>cs.setIfInBounds (off+x.2) x.1) cells)=ef cells off vs.toList:=by rw[<- Array.foldl_toList,Array.toList_zipIdx,qsP off vs.toList 0,Nat.add_zero]
def iK{cells:Array Kw}(h:vs.length=cells.size):ef cells 0 vs=vs.toArray:=by apply Array.ext';rw[sP _ _ _ oK];simp[h]
def qiS{ad:Addr}:∀(vs:List Kw) (i:Nat) (w:Kv) (K:WP),GE ad i vs w K-> ∃w',(storeCells ad vs i).run P w=.ok () w'/\K w'
 | [],i,w,K,h=>⟨w,by simp[storeCells],h⟩
 | v::vs,i,w,K,h=>by obtain⟨⟨h1,⟨u,hu⟩,h3⟩,h4⟩:=h;obtain⟨w',hr,hk⟩:=qiS vs (i+1) _ K h4;refine⟨w',?_,hk⟩;unfold storeCells;simp only[Kb,run_store P w (ad.add i) v .plain h1,hu,h3,Bool.false_eq_true,if_false,Kc,hr]
def _root_.Go.Oper.wx (r:Option Nat) (m:Nat) (P:Ky) (o:Oper) (a:Act) (w:Kv) (N:Act->WP) (Q:Exit->Act->WP):Prop:=o.uponIn (Wd r) m P a N Q ((execOp a.eval o).run P w)
def Iq(hnd:∀c,o.op≠.defer c)(h:o.wx r m P a w N Q):o.wpIn (Wd r) m P a w N Q:=
 ⟨λ_ _=>trivial,by rw[Oper.semAt_eq _ _ _ hnd];exact h⟩
def vd{v:Kw}{w:Kv}(hs:(execOp a.eval o)=(do pure (Next.value (<- s))))(hr:s.run P w=.ok v w')(hk:K v w'): o.wx r m P a w (λa' w'=>∃v,a'=a.put o.dst v/\K v w') Q:=by unfold Oper.wx;rw[hs,my hr];exact⟨v,rfl,hk⟩
def HX{s:Sem Unit}{w:Kv}(hs:(execOp a.eval o)=(do s;pure Next.skip))(hr:s.run P w=.ok () w')(hk:K undef w'): o.wx r m P a w (λa' w'=>∃v,a'=a.put o.dst v/\K v w') Q:=by unfold Oper.wx;rw[hs];simp only[Kb,hr,Kc,Sem.run_pure];exact⟨undef,rfl,hk⟩
def Eo{v:Kw}{w:Kv}(hr:(execOp a.eval o).run P w=.ok (.value v) w')(hk:K v w'): o.wx r m P a w (λa' w'=>∃v,a'=a.put o.dst v/\K v w') Q:=by unfold Oper.wx;rw[hr];exact⟨v,rfl,hk⟩
def GW{args:Array Kw}(h:Calls P f args w R):CallsIn (Wd r) m P f args w R:=(callsIn_wide (n:=m)).2 h
def quz{l f:Nat}{assign body:Code}(h:RoundIn (Wd none) 0 P l f tmps assign body w R):RoundIn (Wd r) m P l f tmps assign body w R:=
 ⟨trivial,λc cs _=>h.2 c cs (room_wide _)⟩
def EK(r:Option Nat):(Wd r).depth.isSome=true->1<=m:=λh=>by cases h
def Iy{w:Kv}(hr:(execOp a.eval o).run P w=.ok (.enter f vs.toArray) w)(hk:call P f vs ts w λy w'=>K (gE ts y) w'): o.wx r m P a w (λa' w'=>∃v,a'=a.put o.dst v/\K v w') Q:=by unfold Oper.wx;rw[hr];refine⟨EK r,GW (Calls.mono hk ?_)⟩;rintro e w' ⟨x,rfl,hx⟩;exact⟨_,rfl,hx⟩
def qr7{l f:Nat}{assign body:Code}{w:Kv}(hr:(execOp a.eval o).run P w=.ok (.round l f tmps assign body) w)(hk:RoundIn (Wd none) 0 P l f tmps assign body w λe w'=>∃x:jx ts,e=.returned (gE ts x)/\K (gE ts x) w'): o.wx r m P a w (λa' w'=>∃v,a'=a.put o.dst v/\K v w') Q:=by unfold Oper.wx;rw[hr];refine⟨EK r,quz (RoundIn.mono hk ?_)⟩;rintro e w' ⟨x,rfl,hx⟩;exact⟨_,rfl,hx⟩
def Bw(h:jE P f=false)(args:Array Kw)(w:Kv):(callFunc f args).run P w=.ok (.enter f args) w:=by
 unfold jE at h;unfold callFunc;cases hf:P.funcs[f]? with
 | none=>simp[hf] at h
 | some fn=>
  simp only[hf,Km] at h;simp only[Kb,run_program,Kc,hf];rw[iN (by simp[h.2]),iN (by simp[h.1])];rfl
def Gv(h:(P.info? t).bind (·.zero)=some z):(P.info? t).isSome=true:=by
 cases hi:P.info? t with
 | none=>simp[hi] at h
 | some i=>rfl
def qtB{el:Kx}{v:Kw}(ht:P.underlying t=some (.slice el))(hz:(P.info? el).bind (·.zero)=some z)(hsz:v.cells.size=fG P el)(hlt:¬1*fG P el>2^24): (Instr.buildSlice t 1 [(0,v)].toArray).run P w=.ok (.slice (some ⟨w.heap.size,0,none⟩) 1 1) (w.alloc (.cells v.cells el)):=by
 simp only[Instr.buildSlice,Kb,run_underlying ht,Kc,tC (Gv hz)];rw[iN hlt];have key:∀zs:Array Kw,Instr.fill (λi=>some (i*fG P el,fG P el)) ((Array.range (1*fG P el)).map (zs[·%zs.size]!)) [(0,v)]=some v.cells:=by intro zs;have h1:((Array.range (1*fG P el)).map (zs[·%zs.size]!)).size=v.cells.size:=(by simp[hsz]);generalize (Array.range (1*fG P el)).map (zs[·%zs.size]!)=base at h1;have h2:=Ff 0 v.cells base;rw[iK (by rw[Ku];exact h1.symm)] at h2;simp only[Instr.fill,Nat.zero_mul,xU] at h2⊢;rw[iN (by rw[hsz,h1,hsz];simp)];simp only[h2,Array.toArray_toList]
 by_cases h0:1*fG P el=0;rw[iP h0];simp only[pure_bind];rw[key];simp[newRow];rw[iN h0];simp only[Kb,xw hz,Kc,Sem.run_pure];rw[key];simp[newRow]
def qr3{el:Kx}(ht:P.underlying t=some (.slice el))(hz:(P.info? el).bind (·.zero)=some z): (Instr.buildSlice t 0 ([]:List (Nat×Kw)).toArray).run P w=.ok (.slice (some ⟨w.heap.size,0,none⟩) 0 0) (w.alloc (.cells #[] el)):=by simp only[Instr.buildSlice,Kb,run_underlying ht,Kc,tC (Gv hz),Nat.zero_mul];rw[iN,iP trivial];simp only[pure_bind,Instr.fill];have:∀f:Nat->Kw,(Array.range 0).map f = #[]:=λf=>Array.eq_empty_of_size_eq_zero oM;rw[this];simp[newRow]
def qnM(Q:Exit->Act->WP){dst:Option Tmp}{type:Kx}{len:Nat}{pos:String}{after:Array Edge}(h:ka (mS P) P ⟨dst,.buildSlice t len parts,type,pos,after,guard⟩ e w K)(hr:Rel n ds e a): (⟨dst,.buildSlice t len parts,type,pos,after,guard⟩:Oper).wx r m P a w (λa' w'=>∃v,a'=a.put dst v/\K v w') Q:=by
  have hex:∀len,execOp a.eval ⟨dst,.buildSlice t len parts,type,pos,after,guard⟩=(do pure (Next.value (<- Instr.buildSlice t len (parts.map λ(i,x)=>(i,a.eval x))))):=λlen=>rfl;simp only[ka] at h;split at h;rename_i el ht;split at h;rename_i z vs hz hv;cases hb:Nat.blt (2^24) (len*fG P el) with
  | true=>simp only[hb,cond_true] at h
  | false=>
   simp only[hb,cond_false] at h;have hlt:¬len*fG P el>2^24:=by intro hgt;have:Nat.blt (2^24) (len*fG P el)=true:=Nat.ble_eq_true_of_le hgt;rw[this] at hb;cases hb
   have nt:∀cells,tO (fG P el) len (bif Nat.beq (len*fG P el) 0 then [] else z.cells.toList) vs=some cells->(mS P).new (.cells cells el) w (λb w'=>K (.slice (some (dm b)) len len) w')->
     (⟨dst,.buildSlice t len parts,type,pos,after,guard⟩:Oper).wx r m P a w (λa' w'=>∃v,a'=a.put dst v/\K v w') Q:=by
    intro cells hc h;refine vd (o:=⟨dst,.buildSlice t len parts,type,pos,after,guard⟩) (s:=Instr.buildSlice t len (parts.map λ(i,x)=>(i,a.eval x))) ?_ ?_ h;exact hex _;rw[C4 hr hv];simp only[Instr.buildSlice,Kb,run_underlying ht,Kc,tC (Gv hz)];rw[iN hlt];unfold tO at hc;cases h0:Nat.beq (len*fG P el) 0 with
    | true=>
     rw[iP (yX h0)];simp only[h0,cond_true] at hc;simp only[pure_bind];rw[show (#[]:Array Kw)=([]:List Kw).toArray from rfl,hc];simp[newRow]
    | false=>
     have:len*fG P el≠0:=λhq=>by rw[hq] at h0;cases h0
     rw[iN this];simp only[h0,cond_false] at hc;simp only[Kb,xw hz,Kc,Sem.run_pure];have hc':Instr.fill (λi=>some (i*fG P el,fG P el)) (Array.map (λx=>z.cells[x%z.cells.size]!) (Array.range (len*fG P el))) vs=some cells:=(oQ hc);rw[hc'];simp[newRow]
   have old':(match tO (fG P el) len (bif Nat.beq (len*fG P el) 0 then [] else z.cells.toList) vs with
     | some cells=>(mS P).new (.cells cells el) w (λb w'=>K (.slice (some (dm b)) len len) w')
     | none=>False)->(⟨dst,.buildSlice t len parts,type,pos,after,guard⟩:Oper).wx r m P a w (λa' w'=>∃v,a'=a.put dst v/\K v w') Q:=by
    intro h;cases hc:tO (fG P el) len (bif Nat.beq (len*fG P el) 0 then [] else z.cells.toList) vs with
    | none=>rw[hc] at h;exact h.elim
    | some cells=>rw[hc] at h;exact nt cells hc h
   cases hty:qP P el with
   | one c=>simp only[hty] at h;exact old' h
   | agg cs=>simp only[hty] at h;exact old' h
   | pF=>
    simp only[hty] at h;match len,vs,h,hv,hlt with
    | 1,[(0,v)],h,hv,hlt=>
     obtain⟨hsz,hk⟩:=h;refine vd (s:=Instr.buildSlice t 1 (parts.map λ(i,x)=>(i,a.eval x))) ?_ ?_ hk;exact hex _;rw[C4 hr hv];exact qtB ht hz (by rw[<- hsz,Ku]) hlt
    | 0,[],h,hv,hlt=>
     refine vd (s:=Instr.buildSlice t 0 (parts.map λ(i,x)=>(i,a.eval x))) ?_ ?_ h;exact hex _;rw[C4 hr hv];exact qr3 ht hz
  exact h.elim;exact h.elim
set_option maxHeartbeats 1000000 in
def qqQ(Q:Exit->Act->WP)(h:ka (mS P) P o e w K)(hr:Rel n ds e a): o.wx r m P a w (λa' w'=>∃v,a'=a.put o.dst v/\K v w') Q:=by
 obtain⟨dst,op,type,pos,after,guard⟩:=o;cases op;case store t x y=>
  simp only[ka] at h;obtain⟨v,hy⟩:∃v,e.ev y=some v:=by
   cases hy:e.ev y with
   | none=>rw[hy] at h;exact h.elim
   | some v=>exact⟨v,rfl⟩
  rw[hy] at h;dsimp only at h;split at h;rename_i p hx;obtain⟨ad,rfl⟩:∃ad,p=some ad:=by
   cases p with
   | none=>exact h.elim
   | some ad=>exact⟨ad,rfl⟩
  dsimp only at h;have fin:(P.info? t).isSome=true->v.cells.size=fG P t->(mS P).st ad v.cells.toList w (λw'=>K undef w')->(⟨dst,.store t x y,type,pos,after,guard⟩:Oper).wx r m P a w (λa' w'=>∃v,a'=a.put dst v/\K v w') Q:=by intro hi hs' h;obtain⟨w',hrun,hk⟩:=qiS (P:=P) _ 0 w _ h;refine HX (o:=⟨dst,.store t x y,type,pos,after,guard⟩) (s:=Instr.storeAt t (a.eval x) (a.eval y)) rfl ?_ hk;rw[hr.ev hx,hr.ev hy];have:(sizeOf t).run P w=.ok (fG P t) w:=tC hi w;simp[Instr.storeAt,Instr.sureAddr,storeVar,this,hs',hrun]
  split at h;cases hok:pG P t with
  | false=>simp only[hok,cond_false] at h
  | true=>
   simp only[hok,cond_true] at h;exact fin (vQ (by simp[hok])).1 (oQ h.1) h.2
  cases hs:pG P t&&Nat.beq (fG P t) v.cells.size with
  | false=>simp only[hs,cond_false] at h
  | true=>
   simp only[hs,cond_true] at h;simp only[yB] at hs;have hs':=yX hs.2;exact fin (vQ (by simp[hs.1])).1 hs'.symm h
  exact h.elim
 case alloc t=>
  simp only[ka] at h;split at h;obtain⟨z,hz,hk⟩:=h;refine vd (s:=Instr.alloc t true (.tuple #[])) rfl ?_ hk;simp[Instr.alloc,xw hz,newVar,newRow];split at h;rename_i z hz;refine vd (s:=Instr.alloc t true (.tuple #[])) rfl ?_ h;simp[Instr.alloc,xw hz,newVar,newRow];exact h.elim
 case box t x=>
  simp only[ka] at h;split at h;rename_i v hx;refine vd (s:=Instr.box t (a.eval x)) rfl ?_ h;rw[hr.ev hx];simp[Instr.box,newVar,newRow];exact h.elim
 case buildSlice t len parts=>exact qnM Q h hr
 case makeSlice t l c=>
  simp only[ka] at h;split at h;rename_i el ht;split at h;rename_i i k1 nn k2 mm hi hl hc;split at h;rename_i z hz;obtain⟨⟨b0,b1,b2,b3⟩,hk⟩:=h;refine vd (s:=Instr.makeSlice t (a.eval l) (a.eval c)) rfl ?_ hk;rw[hr.ev hl,hr.ev hc];have e1:IntKind.i64.wrap nn=nn:=(by rw[IntWalk.i64_in];omega);have e2:IntKind.i64.wrap mm=mm:=(by rw[IntWalk.i64_in];omega);have hz':(P.info? el).bind (·.zero)=some z:=(by simp[hi,hz]);have g1:¬(mm<0):=oK;have g2:¬((i.bytes:Int)*mm>2^48):=oK;have g3:¬(nn<0):=oK;have g4:¬(nn>mm):=oK;simp only[Instr.makeSlice,Kb,run_underlying ht,Kc,asInt,asIntOf,Sem.run_pure,H7 hi,e1,e2];rw[iN (by simp only[Bool.or_eq_true,decide_eq_true_eq,g1,g2,g3,g4,or_self,not_false_eq_true])];simp only[Kb,run_askRoom,Kc,tC (Gv hz')];have hsz:fG P el=i.size:=(by simp[fG,hi]);rw[hsz];by_cases h0:mm.toNat*i.size=0;rw[iP h0,iP h0];simp[newRow,ji,h0];rw[iN h0,iN h0];simp[xw hz',newRow,ji];exact h.elim;exact h.elim;exact h.elim
 case makeMap t r=>
  simp only[ka] at h;split at h;rename_i k el ht;split at h;rename_i v hv;refine vd (s:=Instr.makeMap t (r.map a.eval)) rfl ?_ h;rcases Jk hr hv with ⟨rfl,_⟩|⟨y,k,i,rfl,rfl,hy⟩;simp[Instr.makeMap];simp[Instr.makeMap,hy,run_underlying ht,asInt,asIntOf];exact h.elim;exact h.elim
 case mapUpdate t m k x=>
  simp only[ka] at h;split at h;rename_i vm vk vx hm hk hx;obtain⟨w',hrun,hK⟩:=h;exact HX (s:=Instr.mapUpdate t (a.eval m) (a.eval k) (a.eval x)) rfl (by rw[hr.ev hm,hr.ev hk,hr.ev hx];exact hrun) hK;exact h.elim
 case insert t m k x=>
  simp only[ka] at h;split at h;rename_i vm vk vx hm hk hx;obtain⟨w',hrun,hK⟩:=h;exact HX (s:=Instr.mapUpdate t (a.eval m) (a.eval k) (a.eval x)) rfl (by rw[hr.ev hm,hr.ev hk,hr.ev hx];exact hrun) hK;exact h.elim
 case range t x=>
  simp only[ka] at h;split at h;rename_i v hx;obtain⟨y,w',hrun,hK⟩:=h;exact vd (s:=Instr.range t (a.eval x)) rfl (by rw[hr.ev hx];exact hrun) hK;exact h.elim
 case next it s=>
  simp only[ka] at h;split at h;rename_i v hx;rcases h with ⟨w',hrun,hK⟩|⟨x,y,w',hrun,hK⟩;exact vd (s:=Instr.next (a.eval it) s type) rfl (by rw[hr.ev hx];exact hrun) hK;exact vd (s:=Instr.next (a.eval it) s type) rfl (by rw[hr.ev hx];exact hrun) hK;exact h.elim
 case entry it=>
  simp only[ka] at h;split at h;rename_i v hx;obtain⟨x,y,w',hrun,hK⟩:=h;exact vd (s:=Instr.entry (a.eval it)) rfl (by rw[hr.ev hx];exact hrun) hK;exact h.elim
 case convert s d x=>
  simp only[ka] at h;split at h;rename_i v hx;obtain⟨y,w',hrun,hK⟩:=h;exact vd (s:=convert s d (a.eval x)) rfl (by rw[hr.ev hx];exact hrun) hK;exact h.elim
 case call c=>
  obtain⟨callee,args,argTypes⟩:=c;cases callee with
  | builtin b=>
   simp only[ka] at h;split at h
   ·rename_i vs hv;have hres:∀w,(resolve a.eval ⟨.builtin b,args,argTypes⟩ type).run P w=.ok { target:=.builtin b argTypes type (args.map λ| .const _=>true|_=>false),args:=vs.toArray } w:=λw=>by simp[resolve,hr.j5 hv];intro x _;cases x<;>rfl
    cases b<;>simp only at h<;>try exact h.elim
    case append=>
     obtain⟨y,w',hrun,hK⟩:=h;have hrun':(Builtin.append_ argTypes type vs.toArray).run P w=.ok (.slice y.a y.len y.cap) w':=hrun;have:(execOp a.eval ⟨dst,.call ⟨.builtin .append,args,argTypes⟩,type,pos,after,guard⟩).run P w=.ok (.value (.slice y.a y.len y.cap)) w':=by simp[execOp,hres,invoke,builtin,hrun']
     exact Eo this hK
    case clear=>
     obtain⟨y,w',hrun,hK⟩:=h;have hrun':(Builtin.clear_ argTypes type vs.toArray).run P w=.ok (.tuple #[]) w':=hrun;have:(execOp a.eval ⟨dst,.call ⟨.builtin .clear,args,argTypes⟩,type,pos,after,guard⟩).run P w=.ok (.value (.tuple #[])) w':=by simp[execOp,hres,invoke,builtin,hrun']
     exact Eo this hK
    case copy=>
     obtain⟨y,w',hrun,hK⟩:=h;have hrun':(Builtin.copy_ argTypes type vs.toArray).run P w=.ok (.int .i64 y) w':=hrun;have:(execOp a.eval ⟨dst,.call ⟨.builtin .copy,args,argTypes⟩,type,pos,after,guard⟩).run P w=.ok (.value (.int .i64 y)) w':=by simp[execOp,hres,invoke,builtin,hrun']
     exact Eo this hK
    case delete=>
     obtain⟨y,w',hrun,hK⟩:=h;have hrun':(Builtin.delete_ argTypes type vs.toArray).run P w=.ok (.tuple #[]) w':=hrun;have:(execOp a.eval ⟨dst,.call ⟨.builtin .delete,args,argTypes⟩,type,pos,after,guard⟩).run P w=.ok (.value (.tuple #[])) w':=by simp[execOp,hres,invoke,builtin,hrun']
     exact Eo this hK
   exact h.elim
  | value f=>
   have key:(∀g,f≠.func g)->∀v vs,e.ev f=some v->e.sF args.toList=some vs->(mS P).eF v vs (qx P type) w (λy w'=>K (gE _ y) w')->
     Oper.wx r m P ⟨dst,.call ⟨.value f,args,argTypes⟩,type,pos,after,guard⟩ a w (λa' w'=>∃v,a'=a.put dst v/\K v w') Q:=by
    intro hf v vs hv hvs hcall;rcases hcall with ⟨g,us,hrun,hk⟩|⟨l,g,tmps,assign,body,hrun,hk⟩;refine Iy (o:=⟨dst,.call ⟨.value f,args,argTypes⟩,type,pos,after,guard⟩) ?_ hk;simp only[execOp,resolve,hr.j5 hvs,hr.ev hv];exact hrun;refine qr7 (o:=⟨dst,.call ⟨.value f,args,argTypes⟩,type,pos,after,guard⟩) ?_ hk;simp only[execOp,resolve,hr.j5 hvs,hr.ev hv];exact hrun
   cases f with
   | func g=>
    simp only[ka] at h;split at h;rename_i vs hv;cases hb:jE P g with
    | true=>
     simp only[hb,cond_true] at h;obtain⟨x,w',hrun,hk⟩:=h;refine Eo ?_ hk;simp only[execOp,resolve,hr.j5 hv,Act.eval,Deferred.ofValue];simpa[invoke] using hrun
    | false=>
     simp only[hb,cond_false] at h;refine Iy ?_ h;simp only[execOp,resolve,hr.j5 hv,Act.eval,Deferred.ofValue];simp[invoke,Bw hb]
    exact h.elim
   | tmp t=>
    simp only[ka] at h;split at h;rename_i v vs hv hvs;exact key oM v vs hv hvs h;exact h.elim
   | const t=>
    simp only[ka] at h;split at h;rename_i v vs hv hvs;exact key oM v vs hv hvs h;exact h.elim
   | global t=>
    simp only[ka] at h;split at h;rename_i v vs hv hvs;exact key oM v vs hv hvs h;exact h.elim
  | invoke x name=>
   simp only[ka] at h;split at h;rename_i v vs hv hvs;obtain⟨g,us,hrun,hk⟩:=h;refine Iy ?_ hk;simp only[execOp,resolve,hr.j5 hvs,hr.ev hv];simp[invoke];simpa using hrun;exact h.elim
 all_goals exact h.elim
end
section
variable {P:Ky} {n:Nat} {ds:List Deferred} {e:Env} {a:Act} {w:Kv} {r:Option Nat} {m:Nat}
def iq (wr:Nat->Bool) (a a':Act):Prop:=∀t,wr t=false->a'.tmps.getD t undef=a.tmps.getD t undef
def iq.refl(wr:Nat->Bool)(a:Act):iq wr a a:=λ_ _=>rfl
def iq.trans{wr1 wr2 wr:Nat->Bool}{a b c:Act}(h1:iq wr1 a b)(h2:iq wr2 b c)(h:∀t,wr t=false->wr1 t=false/\wr2 t=false):iq wr a c:=
  λt ht=>(h2 t (h t ht).2).trans (h1 t (h t ht).1)
def iq.mono{wr1 wr:Nat->Bool}{a b:Act}(h1:iq wr1 a b)(h:∀t,wr t=false->wr1 t=false):iq wr a b:=λt ht=>h1 t (h t ht)
def iq.put(a:Act)(dst:Option Tmp)(v:Kw){wr:Nat->Bool}(h:∀d,dst=some d->wr d=true):iq wr a (a.put dst v):=by
  intro t ht;cases dst with
  | none=>rfl
  | some d=>
    have hne:d≠t:=λhd=>by subst hd;rw[h d rfl] at ht;cases ht
    simp[Act.put,Array.getElem?_setIfInBounds_ne hne]
def qri{o:Oper}{d:Nat}(ho:o∈ops)(hd:o.dst=some d):sH ops d=true:=by unfold sH;rw[any_eq_true];exact⟨o,ho,by simp[hd]⟩
def nG (n:Nat) (ops:List Oper):Bool:=ops.all λo=>match o.dst with|some d=>Nat.blt d n|none=>true
def qoH(h:nG n ops=true){o:Oper}(ho:o∈ops):∀d,o.dst=some d->d<n:=by
  intro d hd;have:=all_eq_true.1 h o ho;simp only[hd] at this;exact zO this
def Rel.refine(h:Rel n ds e a){d:Nat}{v:Kw}(hv:e.get d=some v):Rel n ds ((d,v)::e) a:=by refine⟨h.size,h.defers,λt u hu=>?_⟩;rw[Env.lu] at hu;by_cases hdt:d=t;subst hdt;simp at hu;subst hu;exact h.get _ _ hv;simp[hdt] at hu;exact h.get _ _ hu
def qkb{o:Oper}{yes no:Env->Prop}(h:guarded ops o e yes no)(hr:Rel n ds e a): (∃e',Rel n ds e' a/\Region.wanted o (yielded ops.toArray a.tmps)=true/\yes e')\/ (∃e',Rel n ds e' a/\Region.wanted o (yielded ops.toArray a.tmps)=false/\no e'):=by
  unfold guarded at h;split at h;rename_i hg;exact .inl ⟨e,hr,by simp[Region.wanted,hg],h⟩;rename_i j want hg;split at h;exact h.elim;rename_i d hd;have hy:∀v,e.get d=some v->yielded ops.toArray a.tmps j=match v with | .bool b=>some b|_=>none:=by
    intro v hv;have h1:=hr.get d v hv;unfold yielded;have hd':((ops.toArray[j]?).bind (·.dst))=some d:=(oQ hd);rw[hd'];simp only[Option.bind_some];cases ht:a.tmps[d]? with
    | none=>
      have:v=undef:=(by simpa[ht] using h1.symm);subst this;rfl
    | some u=>
      have:u=v:=(by simpa[ht] using h1);subst this;cases u<;>rfl
  split at h;rename_i b hb;have hyb:=hy _ hb;simp only at hyb;have hre:=hr.refine hb;cases b<;>cases want<;>simp only at h;exact .inl ⟨_,hre,by simp[Region.wanted,hg,hyb],h⟩;exact .inr ⟨_,hre,by simp[Region.wanted,hg,hyb],h⟩;exact .inr ⟨_,hre,by simp[Region.wanted,hg,hyb],h⟩;exact .inl ⟨_,hre,by simp[Region.wanted,hg,hyb],h⟩;rename_i ts hb;have hyb:=hy _ hb;simp only at hyb;exact .inr ⟨e,hr,by simp[Region.wanted,hg,hyb],h⟩;exact h.elim
def lN (ops:List Oper):Bool:=ops.all λo=>match o.op with | .defer _=>false|_=>true
def Hq(h:lN ops=true){o:Oper}(ho:o∈ops):∀c,o.op≠.defer c:=by
  intro c hc;unfold lN at h;rw[Kh] at h;have:=h o ho;rw[hc] at this;cases this
def EV{o:Oper}{K K':Act->WP}(hk:∀a w,K a w->K' a w)(h:o.wx r m P a w K Q):o.wx r m P a w K' Q:=by
  unfold Oper.wx at h⊢;generalize (execOp a.eval o).run P w=x at h⊢;cases x with
  | ok x w'=>
    cases x<;>simp only[Oper.uponIn] at h⊢<;>first
      | exact h
      | exact hk _ _ h
      | (refine⟨h.1,CallsIn.mono h.2 ?_⟩
         intro e w'' he;cases e<;>first|exact hk _ _ he|exact he)
      | (refine⟨h.1,RowsIn.mono h.2 ?_⟩
         intro e w'' he;exact hk _ _ he)
      | (refine⟨h.1,RoundIn.mono h.2 ?_⟩
         intro e w'' he;cases e<;>first|exact hk _ _ he|exact he)
  | halt x w'=>cases x<;>simp only[Oper.uponIn] at h⊢<;>first|exact h|exact h.elim
def HQ{o:Oper}{next:Act->WP}{v:Kw}(hr:(execOp a.eval o).run P w=.ok (.value v) w')(hn:next (a.put o.dst v) w'):o.wx r m P a w next Q:=by unfold Oper.wx;rw[hr];exact hn
def qzQ{o:Oper}(Q:Exit->Act->WP)(h:Bb (mS P) P o e w K)(hr:Rel n ds e a): o.wx r m P a w (λa' w'=>∃v,a'=a.put o.dst v/\K v w') Q:=by unfold Bb at h;split at h;obtain⟨v,hv,hk⟩:=qpl h hr;exact HQ (hv w) ⟨v,rfl,hk⟩;rename_i hc;obtain⟨v,hold,hv,_,hk⟩:=qpo h hc hr;exact HQ hv ⟨v,rfl,hk⟩;exact qqQ Q h hr
def HS{ops:List Oper}{K:Env->WP}{Q:Exit->Act->WP}{a0:Act}{wr:Nat->Bool}: ∀(l:List Oper) (e:Env) (a:Act) (w:Kv),tt (mS P) P ops K l e w->Rel n ds e a->nG n l=true->(∀o∈l,∀d,o.dst=some d->wr d=true)->iq wr a0 a-> (∀e' a' w',K e' w'->Rel n ds e' a'->iq wr a0 a'->Q .normal a' w')->lN l=true->wpListIn (Wd r) m P ops.toArray Q l a w
  | [],e,a,w,h,hr,_,_,hk,hQ,_=>hQ e a w h hr hk
  | o::rest,e,a,w,h,hr,hd,hw,hk,hQ,hn=>by have hn2:lN rest=true:=(by simp only[lN,all_cons,yB] at hn⊢;exact hn.2);have hd1:=qoH hd (o:=o) oM;have hd2:nG n rest=true:=(by simp only[nG,all_cons,yB] at hd⊢;exact hd.2);have hw1:=hw o oM;have hw2:∀o∈rest,∀d,o.dst=some d->wr d=true:=λp hp=>hw p (by simp[hp]);unfold wpListIn;rcases qkb h hr with ⟨e',hr',hwant,hy⟩|⟨e',hr',hwant,hno⟩;rw[iP hwant];refine Iq (Hq hn oM) (EV ?_ (qzQ Q hy hr'));rintro a' w' ⟨v,rfl,hv⟩;exact HS rest _ _ _ hv (hr'.put hd1 v) hd2 hw2 (hk.trans (iq.put a o.dst v hw1) λt ht=>⟨ht,ht⟩) hQ hn2;rw[iN (by simp[hwant])];refine⟨λ_ _=>trivial,?_⟩;exact HS rest _ _ _ hno (hr'.put hd1 undef) hd2 hw2 (hk.trans (iq.put a o.dst undef hw1) λt ht=>⟨ht,ht⟩) hQ hn2
def jO (P:Ky) (ops:List Oper) (i:Nat):Bool:=match ops[i]? with|some o=>(match CH P o.op with | .BM=>true|_=>false)|none=>false
def nA (ops:List Oper) (y x:Nat):Bool:=
  match ops[y]?,ops[x]? with
  | some oy,some ox=>oy.apart ops.toArray ox
  | _,_=>false
def ip (b:Array Nat) (y x:Nat):Bool:=(b.getD x 0).testBit y
def ut (P:Ky) (ops:List Oper) (b:Array Nat) (y x:Nat):Bool:=ip b y x||(nA ops y x&&(!jO P ops y||jO P ops x))
def uD (P:Ky) (ops:List Oper) (b:Array Nat) (y x:Nat) (r:KD):Bool:=!jO P ops x&&r.any λz=>!(Nat.beq z x)&&(jO P ops z&&ip b z x)
def lq (P:Ky) (ops:List Oper) (b:Array Nat):KD->Bool
  | []=>true
  | y::r=>r.all (λx=>ut P ops b y x||(jO P ops y&&uD P ops b y x r))&&lq P ops b r
def uP (x:Nat) (seqs:List (KD)):List (KD):=seqs.filterMap λs=>match s with|y::t=>bif Nat.beq y x then some t else none | []=>none
def cover (b:Array Nat):Nat->KD->List (KD)->Bool
  | 0,rem,seqs=>rem.isEmpty&&seqs.contains []
  | k+1,rem,seqs=>(rem.isEmpty&&seqs.contains [])||(!rem.isEmpty&&rem.all λx=>rem.any (λy=>!(Nat.beq y x)&&ip b y x)||cover b k (rem.filter λy=>!(Nat.beq y x)) (uP x seqs))
def tz:KD->Bool
  | []=>true
  | x::r=>!(r.any λy=>Nat.beq x y)&&tz r
def oe (ops:List Oper):Bool:=ops.zipIdx.all λ(o,i)=>o.after.all λe=>!Region.binds .any e||Nat.blt e.on i
def gi (P:Ky) (ops:List Oper) (l:KD):KD:=l.filter (jO P ops)
def qX (ops:List Oper) (b:Array Nat):Bool:=
  ops.zipIdx.all λ(o,x)=>(List.range ops.length).all λy=>!(ip b y x)||o.after.any λe=>Region.binds .any e&&(Nat.beq e.on y||ip b y e.on)
def um (P:Ky) (ops:List Oper) (orders:List (KD)):Bool:=
  oe ops&&qX ops (rj ops)&&Region.noSelect ops.toArray&&
  (orders.all λC=>(List.range ops.length).all (λi=>C.any (Nat.beq i))&&C.all (Nat.blt · ops.length)&&tz C&&lq P ops (rj ops) C)&&
  cover (rj ops) ops.length (gi P ops (List.range ops.length)) (orders.map (gi P ops))
def qnm:∀ {l:KD},tz l=true->l.Nodup
  | [],_=>nodup_nil
  | x::r,h=>by
    simp only[tz,yB,zT,any_eq_false] at h;refine nodup_cons.2 ⟨λhm=>?_,qnm h.2⟩;have:=h.1 x hm;simp at this
def kU (P:Ky) (ops:List Oper) (o:Oper) (a:Act) (w:Kv) (v:Kw):Prop:=
  (Region.wanted o (yielded ops.toArray a.tmps)=true/\(execOp a.eval o).run P w=.ok (.value v) w)\/(Region.wanted o (yielded ops.toArray a.tmps)=false/\v=undef)
def Bu:Exit->Act->WP:=λ_ _ _=>False
def qyT{o:Oper}{a b:Act}{M:Act->WP}{x:Result Next}(h:o.uponIn (Wd r) m P b (λa' w'=>∃u,a'=b.put o.dst u/\N a' w') Bu x)(hNM:∀u w',N (b.put o.dst u) w'->M (a.put o.dst u) w'): o.uponIn (Wd r) m P a (λa' w'=>∃u,a'=a.put o.dst u/\M a' w') Bu x:=by
  have key:∀v w',(∃u,b.put o.dst v=b.put o.dst u/\N (b.put o.dst v) w')->∃u,a.put o.dst v=a.put o.dst u/\M (a.put o.dst v) w':=λv w' ⟨u,hu,hn⟩=>⟨v,rfl,hNM _ _ hn⟩;cases x with
  | ok x w'=>
    cases x<;>simp only[Oper.uponIn] at h⊢;case value v=>exact key _ _ h
    case skip=>exact key _ _ h
    case enter f args=>
      refine⟨h.1,CallsIn.mono h.2 ?_⟩;intro e w'' he;cases e<;>first|exact key _ _ he|exact he
    case defer d=>
      obtain⟨u,hu,_⟩:=h;exfalso;have:(Act.put { b with defers:=d::b.defers } o.dst undef).defers=(b.put o.dst u).defers:=(by rw[hu]);have h1:∀(c:Act) (x:Kw),(c.put o.dst x).defers=c.defers:=λc x=>by cases o.dst<;>rfl
      rw[h1,h1] at this;have:=Kr List.length this;simp at this
    case row rw_ args=>exact⟨h.1,RowsIn.mono h.2 λv w'' hv=>key _ _ hv⟩
    case round l f tmps assign body=>
      refine⟨h.1,RoundIn.mono h.2 ?_⟩;intro e w'' he;cases e<;>first|exact key _ _ he|exact he
  | halt x w'=>cases x<;>simp only[Oper.uponIn] at h⊢<;>exact h
def oz (r:Option Nat) (m:Nat) (P:Ky) (ops:List Oper) (b:Array Nat) (K:Act->WP):KD->Holds->Act->WP
  | [],_,a,w=>K a w
  | i::rest,H,a,w=>
    ∃o,ops[i]?=some o/\
      if jO P ops i=true then
        (if Region.wanted o (yielded ops.toArray a.tmps)=true then
          o.wx r m P a w (λa' w'=>∃v,a'=a.put o.dst v/\(∀h∈gg b i H,h w')/\oz r m P ops b K rest H a' w') Bu
        else oz r m P ops b K rest H (a.put o.dst undef) w)
      else ∃v hold,kU P ops o a w v/\(∀w',hold w'->kU P ops o a w' v)/\oz r m P ops b K rest ((i,hold)::H) (a.put o.dst v) w
def Gj{ops:List Oper}{b:Array Nat}{K:Act->WP}: ∀(l:KD) (H H':Holds) (a:Act) (w:Kv),(∀p∈H',p∈H)->oz r m P ops b K l H a w->oz r m P ops b K l H' a w
  | [],_,_,_,_,_,h=>h
  | i::rest,H,H',a,w,hs,⟨o,ho,h⟩=>by refine⟨o,ho,?_⟩;by_cases he:jO P ops i=true;rw[iP he] at h⊢;by_cases hw:Region.wanted o (yielded ops.toArray a.tmps)=true;rw[iP hw] at h⊢;refine EV ?_ h;rintro a' w' ⟨v,rfl,hh,hc⟩;refine⟨v,rfl,λx hx=>hh x ?_,Gj rest H H' _ _ hs hc⟩;simp only[gg,mem_map,Kq] at hx⊢;obtain⟨p,⟨hp,hq⟩,rfl⟩:=hx;exact⟨p,⟨hs p hp,hq⟩,rfl⟩;rw[iN hw] at h⊢;exact Gj rest H H' _ _ hs h;rw[iN he] at h⊢;obtain⟨v,hold,h1,h2,h3⟩:=h;refine⟨v,hold,h1,h2,Gj rest _ _ _ _ ?_ h3⟩;intro p hp;rcases zG.1 hp with rfl|hp;simp;exact zN _ (hs p hp)
def Cy{ops:List Oper}{b:Array Nat}{K:Env->WP}{Q:Exit->Act->WP}{a0:Act}{wr:Nat->Bool}(hd:nG n ops=true)(hw:∀o∈ops,∀d,o.dst=some d->wr d=true)(hQ:∀e' a' w',K e' w'->Rel n ds e' a'->iq wr a0 a'->Q .normal a' w'): ∀(l:KD) (H HA:Holds) (e:Env) (a:Act) (w:Kv),(∀x w',(∀h∈gg b x H,h w')->∀h∈gg b x HA,h w')-> lT (mS P) P ops b K l H e w->Rel n ds e a->iq wr a0 a->oz r m P ops b (Q .normal) l HA a w
  | [],H,HA,e,a,w,_,h,hr,hk=>hQ e a w h hr hk
  | i::rest,H,HA,e,a,w,hH,h,hr,hk=>by
    simp only[lT] at h;cases ho:ops[i]? with
    | none=>simp[ho] at h
    | some o=>
      simp only[ho] at h;have hmem:o∈ops:=yG ho;have hd1:=qoH hd hmem;have hw1:=hw o hmem;have hput:∀v,iq wr a0 (a.put o.dst v):=λv=>hk.trans (iq.put a o.dst v hw1) λt ht=>⟨ht,ht⟩;refine⟨o,ho,?_⟩;have hE:jO P ops i=match CH P o.op with | .BM=>true|_=>false:=by simp[jO,ho]
      have hHa:∀x w',(∀h∈gg b x H,h w')->∀h∈gg b x ((i,λ_=>True)::HA),h w':=by intro x w' hh g hg;simp only[gg,mem_map,Kq,zG] at hg;obtain⟨p,⟨hp,hq⟩,rfl⟩:=hg;rcases hp with rfl|hp;trivial;exact hH x w' hh _ (by simp only[gg,mem_map,Kq];exact⟨p,⟨hp,hq⟩,rfl⟩)
      rcases qkb h hr with ⟨e',hr',hwant,hy⟩|⟨e',hr',hwant,hno⟩;cases hc:CH P o.op with
      | pure=>
        simp only[hc] at hy hE;rw[iN (by simp[hE])];obtain⟨v,hv,hk'⟩:=qpl hy hr';exact⟨v,λ_=>True,.inl ⟨hwant,hv w⟩,λw' _=>.inl ⟨hwant,hv w'⟩,Cy hd hw hQ rest H _ _ _ _ hHa hk' (hr'.put hd1 v) (hput v)⟩
      | read=>
        simp only[hc] at hy hE;rw[iN (by simp[hE])];obtain⟨v,hold,hv,hh,hk'⟩:=qpo hy hc hr';refine⟨v,hold,.inl ⟨hwant,hv⟩,λw' hw'=>.inl ⟨hwant,hh w' hw'⟩,Cy hd hw hQ rest ((i,hold)::H) _ _ _ _ ?_ hk' (hr'.put hd1 v) (hput v)⟩;intro x w' hh' g hg;simp only[gg,mem_map,Kq,zG] at hg;obtain⟨p,⟨hp,hq⟩,rfl⟩:=hg;rcases hp with rfl|hp;exact hh' _ (by simp only[gg,mem_map,Kq,zG];exact⟨(i,hold),⟨.inl rfl,hq⟩,rfl⟩);refine hH x w' (λg hg=>hh' g ?_) _ (by simp only[gg,mem_map,Kq];exact⟨p,⟨hp,hq⟩,rfl⟩);simp only[gg,mem_map,Kq,zG] at hg⊢;obtain⟨p,⟨hp,hq⟩,rfl⟩:=hg;exact⟨p,⟨.inr hp,hq⟩,rfl⟩
      | BM=>
        simp only[hc] at hy hE;rw[iP (by simp[hE]),iP hwant];refine EV ?_ (qqQ Bu hy hr');rintro a' w' ⟨v,rfl,hv⟩;have hv':(∀g∈gg b i H,g w')/\lT (mS P) P ops b K rest H (e'.put o.dst v) w':=by split at hv;rename_i hl;exact⟨by simp[hl],hv⟩;rename_i l hl;exact⟨λg hg=>qm6 hv.1 g hg,hv.2⟩
        exact⟨v,rfl,hH i w' hv'.1,Cy hd hw hQ rest H HA _ _ _ hH hv'.2 (hr'.put hd1 v) (hput v)⟩
      by_cases he:jO P ops i=true;rw[iP he,iN (by simp[hwant])];exact Cy hd hw hQ rest H HA _ _ _ hH hno (hr'.put hd1 undef) (hput undef);rw[iN he];exact⟨undef,λ_=>True,.inr ⟨hwant,rfl⟩,λ_ _=>.inr ⟨hwant,rfl⟩,Cy hd hw hQ rest H _ _ _ _ hHa hno (hr'.put hd1 undef) (hput undef)⟩
def kU.put{ops:List Oper}{o p:Oper}{a:Act}{w:Kv}{v u:Kw}(hs:Region.noSelect ops.toArray=true)(ho:o∈ops)(hap:∀d,p.dst=some d->d∉o.looksAt ops.toArray): kU P ops o (a.put p.dst u) w v↔kU P ops o a w v:=by
  have hsel:∀cs b,o.op≠.select cs b:=λcs b=>by obtain⟨j,hj,hjo⟩:=getElem_of_mem ho;exact Region.noSelect_spec hs j o cs b (by simp[<- hjo])
  unfold kU;rw[wanted_put o a p.dst u hap,execOp_put o hsel a p.dst u hap]
def qj6{ops:List Oper}{b:Array Nat}{K:Act->WP}(hs:Region.noSelect ops.toArray=true){x:Nat}{ox:Oper}(hx:ops[x]?=some ox)(hxe:jO P ops x=false): ∀(pre post:KD) (H:Holds) (a:Act) (w:Kv),(∀y∈pre,jO P ops y=false/\nA ops y x=true)->oz r m P ops b K (pre++x::post) H a w-> ∃v,kU P ops ox a w v/\oz r m P ops b K (pre++post) H (a.put ox.dst v) w
  | [],post,H,a,w,_,⟨o,ho,h⟩=>by
    obtain rfl:ox=o:=by rw[hx] at ho;exact yP ho
    rw[iN (by simp[hxe])] at h;obtain⟨v,hold,h1,_,h3⟩:=h;exact⟨v,h1,Gj _ _ _ _ _ (λp hp=>zN _ hp) h3⟩
  | y::pre,post,H,a,w,hp,⟨oy,hoy,h⟩=>by obtain⟨hye,hyx⟩:=hp y oM;rw[iN (by simp[hye])] at h;obtain⟨v,hold,h1,h2,h3⟩:=h;obtain⟨u,hu,hc⟩:=qj6 hs hx hxe pre post _ _ w (λz hz=>hp z (by simp[hz])) h3;simp only[nA,hoy,hx] at hyx;obtain⟨a1,a2,a3⟩:=Oper.apart_spec hyx;refine⟨u,(kU.put hs (yG hx) a1).1 hu,oy,hoy,?_⟩;rw[iN (by simp[hye])];refine⟨v,hold,(kU.put hs (yG hoy) a3).2 h1,λw' hw'=>(kU.put hs (yG hoy) a3).2 (h2 w' hw'),?_⟩;rw[<- Act.put_comm a v u a2];exact hc
def qie{ops:List Oper}{b:Array Nat}{K:Act->WP}(hs:Region.noSelect ops.toArray=true){x:Nat}{ox:Oper}(hx:ops[x]?=some ox)(hxe:jO P ops x=true): ∀(pre post:KD) (H:Holds) (a:Act) (w:Kv),(∀y∈pre,jO P ops y=false/\nA ops y x=true/\ip b y x=false)->oz r m P ops b K (pre++x::post) H a w-> if Region.wanted ox (yielded ops.toArray a.tmps)=true then ox.wx r m P a w (λa' w'=>∃v,a'=a.put ox.dst v/\(∀h∈gg b x H,h w')/\oz r m P ops b K (pre++post) H a' w') Bu else oz r m P ops b K (pre++post) H (a.put ox.dst undef) w
  | [],post,H,a,w,_,⟨o,ho,h⟩=>by
    obtain rfl:ox=o:=by rw[hx] at ho;exact yP ho
    rw[iP hxe] at h;exact h
  | y::pre,post,H,a,w,hp,⟨oy,hoy,h⟩=>by
    obtain⟨hye,hyx,hyb⟩:=hp y oM;rw[iN (by simp[hye])] at h;obtain⟨v,hold,h1,h2,h3⟩:=h;have ih:=qie hs hx hxe pre post _ _ w (λz hz=>hp z (by simp[hz])) h3;simp only[nA,hoy,hx] at hyx;obtain⟨a1,a2,a3⟩:=Oper.apart_spec hyx;have hmx:ox∈ops:=yG hx;have hsel:∀cs c,ox.op≠.select cs c:=λcs c=>by obtain⟨j,hj,hjo⟩:=getElem_of_mem hmx;exact Region.noSelect_spec hs j ox cs c (by simp[<- hjo])
    rw[wanted_put ox a oy.dst v a1] at ih;by_cases hwt:Region.wanted ox (yielded ops.toArray a.tmps)=true;rw[iP hwt] at ih⊢;unfold Oper.wx at ih⊢;rw[execOp_put ox hsel a oy.dst v a1] at ih;have key:∀(u:Kw) (w':Kv),(∀h∈gg b x ((y,hold)::H),h w')->oz r m P ops b K (pre++post) ((y,hold)::H) ((a.put oy.dst v).put ox.dst u) w'->
        (∀h∈gg b x H,h w')/\oz r m P ops b K (y::pre++post) H (a.put ox.dst u) w':=by
      intro u w' hh hc;have hy:hold w':=hh hold (by simp only[gg,mem_map,Kq,zG];exact⟨(y,hold),⟨.inl rfl,by simpa[ip] using hyb⟩,rfl⟩);refine⟨λg hg=>hh g ?_,oy,hoy,?_⟩;simp only[gg,mem_map,Kq,zG] at hg⊢;obtain⟨p,⟨hp1,hp2⟩,rfl⟩:=hg;exact⟨p,⟨.inr hp1,hp2⟩,rfl⟩;rw[iN (by simp[hye])];refine⟨v,hold,(kU.put hs (yG hoy) a3).2 (h2 w' hy),λw2 hw2=>(kU.put hs (yG hoy) a3).2 (h2 w2 hw2),?_⟩;rw[<- Act.put_comm a v u a2];exact hc
    exact qyT (N:=λa' w'=>(∀h∈gg b x ((y,hold)::H),h w')/\oz r m P ops b K (pre++post) ((y,hold)::H) a' w')
      (M:=λa' w'=>(∀h∈gg b x H,h w')/\oz r m P ops b K (y::pre++post) H a' w') ih (λu w' hh=>key u w' hh.1 hh.2)
    rw[iN hwt] at ih⊢;refine⟨oy,hoy,?_⟩;rw[iN (by simp[hye])];refine⟨v,hold,(kU.put hs (yG hoy) a3).2 h1,λw' hw'=>(kU.put hs (yG hoy) a3).2 (h2 w' hw'),?_⟩;rw[<- Act.put_comm a v undef a2];exact ih
def qCj{o:Oper}{a:Act}{w:Kv}(h:o.wx r m P a w N Bu):o.wx r m P a w N Q:=by
  unfold Oper.wx at h⊢;generalize (execOp a.eval o).run P w=x at h⊢;cases x with
  | ok x w'=>
    cases x<;>simp only[Oper.uponIn] at h⊢<;>first
      | exact h
      | (refine⟨h.1,CallsIn.mono h.2 ?_⟩
         intro e w'' he;cases e with
         | returned v=>exact he
         | panicked c=>exact he.elim
         | outgrown=>obtain⟨_,_,hh⟩:=he;exact hh.elim)
      | (refine⟨h.1,RoundIn.mono h.2 ?_⟩
         intro e w'' he;cases e with
         | returned v=>exact he
         | panicked c=>exact he.elim
         | outgrown=>obtain⟨_,_,hh⟩:=he;exact hh.elim)
  | halt x w'=>
    cases x<;>simp only[Oper.uponIn] at h⊢<;>first|exact h|exact h.elim
def qrb{x:Nat}{l:KD}(h:x∈l):∃pre post,l=pre++x::post/\x∉pre:=by
  induction l with
  | nil=>cases h
  | cons y l ih=>
    by_cases hy:y=x;subst hy;exact⟨[],l,rfl,oM⟩;have hx:x∈l:=by rcases zG.1 h with rfl|h;exact absurd rfl hy;exact h
    obtain⟨pre,post,e,hn⟩:=ih hx;exact⟨y::pre,post,by simp[e],by simp[hn];exact λh=>hy h.symm⟩
def qlu{ops:List Oper}{b:Array Nat}{x:Nat}:∀ {pre post:KD},lq P ops b (pre++x::post)=true->∀y∈pre,ut P ops b y x=true\/∃z,z∈pre++x::post/\z≠x/\ip b z x=true
  | [],post,h,y,hy=>by cases hy
  | z::pre,post,h,y,hy=>by
    simp only[xL,lq,yB,Kh] at h;obtain⟨h1,h2⟩:=h;rcases zG.1 hy with rfl|hy;have:=h1 x oM;rw[Bool.or_eq_true] at this;rcases this with h|h;exact .inl h;simp only[uD,yB,any_eq_true] at h;obtain⟨_,_,q,hq,hqx,_,hb⟩:=h;refine .inr ⟨q,zN _ hq,λe=>?_,hb⟩;subst e;simp at hqx;rcases qlu h2 y hy with h|⟨q,hq,h3⟩;exact .inl h;exact .inr ⟨q,zN _ hq,h3⟩
def GV{ops:List Oper}{b:Array Nat}{x:Nat}:∀ {pre post:KD},lq P ops b (pre++x::post)=true->(jO P ops x=true->∀y∈pre,jO P ops y=false)->lq P ops b (pre++post)=true
  | [],post,h,_=>by simp only[xK,lq,yB] at h;exact h.2
  | z::pre,post,h,he=>by
    simp only[xL,lq,yB,Kh] at h;obtain⟨h1,h2⟩:=h;simp only[xL,lq,yB,Kh];refine⟨λy hy=>?_,GV h2 λhx q hq=>he hx q (zN _ hq)⟩;have hy':y∈pre++x::post:=by rcases zD.1 hy with hy|hy;exact zH _ hy;exact zI _ (zN _ hy)
    have:=h1 y hy';rw[Bool.or_eq_true] at this⊢;rcases this with h|h;exact .inl h;right;simp only[uD,yB,any_eq_true] at h⊢;obtain⟨hz,hy2,q,hq,hqy,hqe,hqb⟩:=h;refine⟨hz,hy2,q,?_,hqy,hqe,hqb⟩;rcases zD.1 hq with hq|hq;exact zH _ hq;rcases zG.1 hq with rfl|hq;have:=he hqe z oM;rw[this] at hz;cases hz;exact zI _ hq
def De{ops:List Oper}{b:Array Nat}{Q:Exit->Act->WP}(hs:Region.noSelect ops.toArray=true)(hnd:lN ops=true): ∀(L C:KD) (a:Act) (w:Kv),L.Nodup->C.Nodup->(∀i,i∈L↔i∈C)->lq P ops b C=true->gi P ops L=gi P ops C-> (∀pre x post,L=pre++x::post->∀y∈post,ip b y x=false)-> oz r m P ops b (Q .normal) C [] a w->wpOpsIn (Wd r) m P ops.toArray Q L a w
  | [],C,a,w,_,_,hm,_,_,_,h=>by
    have:C=[]:=eq_nil_iff_forall_not_mem.2 λi hi=>by have:=(hm i).2 hi;cases this
    subst this;exact h
  | x::L,C,a,w,hL,hC,hm,ho,he,hb,h=>by
    obtain⟨pre,post,rfl,hxp⟩:=qrb ((hm x).1 oM);have hpre:=qlu ho;have hLn:=nodup_cons.1 hL;have hCn:(pre++post).Nodup:=by rw[yN] at hC⊢;obtain⟨c1,c2,c3⟩:=hC;exact⟨c1,(nodup_cons.1 c2).2,λp hp q hq=>c3 p hp q (zN _ hq)⟩
    have hxpost:x∉post:=(by rw[yN] at hC;exact (nodup_cons.1 hC.2.1).1);have hm':∀i,i∈L↔i∈pre++post:=by
      intro i;have:=hm i;simp only[zG,zD] at this⊢;constructor;intro hi;have hix:i≠x:=λe=>hLn.1 (e▸hi);rcases this.1 (.inr hi) with h|h|h;exact .inl h;exact absurd h hix;exact .inr h;intro hi;have hix:i≠x:=λe=>by subst e;rcases hi with h|h;exact hxp h;exact hxpost h
      rcases this.2 (by rcases hi with h|h;exact .inl h;exact .inr (.inr h)) with h|h;exact absurd h hix;exact h
    have hnb:∀y∈pre,ip b y x=false:=λy hy=>hb [] x L rfl y ((hm' y).2 (zH _ hy));have hb':∀p z q,L=p++z::q->∀y∈q,ip b y z=false:=λp z q hq=>hb (x::p) z q (by simp[hq]);have hap:∀y∈pre,nA ops y x=true/\(jO P ops y=false\/jO P ops x=true):=by
      intro y hy;rcases hpre y hy with this|⟨z,hz,hzx,hzb⟩;simp only[ut,hnb y hy,Bool.false_or,yB,Bool.or_eq_true,zT] at this;exact this;exfalso;have hzL:z∈L:=by rcases zG.1 ((hm z).2 hz) with h|h;exact absurd h hzx;exact h
      have:=hb [] x L rfl z hzL;rw[this] at hzb;cases hzb
    cases hox:ops[x]? with
    | none=>
      exfalso;cases pre with
      | nil=>obtain⟨o,ho2,_⟩:=h;rw[hox] at ho2;cases ho2
      | cons y pre=>
        have:=(hap y oM).1;simp only[nA,hox] at this;split at this<;>simp_all
    | some ox=>
      have hox':ops.toArray[x]?=some ox:=(oQ hox);simp only[wpOpsIn,hox'];cases hxe:jO P ops x with
      | false=>
        have ho':=GV ho (λh=>by rw[hxe] at h;cases h);have hpn:∀y∈pre,jO P ops y=false/\nA ops y x=true:=λy hy=>by refine⟨?_,(hap y hy).1⟩;rcases (hap y hy).2 with h|h;exact h;rw[hxe] at h;cases h
        obtain⟨v,hv,hc⟩:=qj6 hs hox hxe pre post [] a w hpn h;have he':gi P ops L=gi P ops (pre++post):=by simp only[gi,filter_cons,hxe,xE] at he⊢;simpa using he
        rcases hv with ⟨hw,hrun⟩|⟨hw,rfl⟩;rw[iP hw];exact Iq (Hq hnd (yG hox)) (HQ hrun (De hs hnd L _ _ _ hLn.2 hCn hm' ho' he' hb' hc));rw[iN (by simp[hw])];refine⟨λ_ _=>trivial,?_⟩;exact De hs hnd L _ _ _ hLn.2 hCn hm' ho' he' hb' hc
      | true=>
        have hpe:∀y∈pre,jO P ops y=false:=by
          have h1:gi P ops (x::L)=x::gi P ops L:=(by simp[gi,hxe]);have h2:gi P ops (pre++x::post)=gi P ops pre++x::gi P ops post:=(by simp[gi,hxe]);rw[h1,h2] at he;have:gi P ops pre=[]:=by
            cases hq:gi P ops pre with
            | nil=>rfl
            | cons z zs=>
              rw[hq] at he;simp at he;have hz:z∈gi P ops pre:=by rw[hq];simp
              have:=(mem_filter.1 hz).1;exact absurd (he.1▸this) hxp
          intro y hy;cases hye:jO P ops y with
          | false=>rfl
          | true=>
            have:y∈gi P ops pre:=mem_filter.2 ⟨hy,hye⟩;rw[‹gi P ops pre=[]›] at this;cases this
        have ho':=GV ho λ_=>hpe;have he':gi P ops L=gi P ops (pre++post):=by
          have h0:gi P ops pre=[]:=filter_eq_nil_iff.2 λy hy=>by simp[hpe y hy]
          have h1:gi P ops (x::L)=x::gi P ops L:=(by simp[gi,hxe]);have h2:gi P ops (pre++x::post)=gi P ops pre++x::gi P ops post:=(by simp[gi,hxe]);have h3:gi P ops (pre++post)=gi P ops pre++gi P ops post:=(by simp[gi]);rw[h1,h2,h0] at he;rw[h3,h0];simpa using he
        have hc:=qie hs hox hxe pre post [] a w (λy hy=>⟨hpe y hy,(hap y hy).1,hnb y hy⟩) h;by_cases hw:Region.wanted ox (yielded ops.toArray a.tmps)=true;rw[iP hw] at hc⊢;refine Iq (Hq hnd (yG hox)) ?_;have:ox.wx r m P a w (wpOpsIn (Wd r) m P ops.toArray Q L) Bu:=by refine EV ?_ hc;rintro a' w' ⟨v,rfl,_,hc'⟩;exact De hs hnd L _ _ _ hLn.2 hCn hm' ho' he' hb' hc'
        exact qCj this;rw[iN hw] at hc⊢;refine⟨λ_ _=>trivial,?_⟩;exact De hs hnd L _ _ _ hLn.2 hCn hm' ho' he' hb' hc
end
section
variable {P:Ky} {n:Nat} {ds:List Deferred} {e:Env} {a:Act} {w:Kv} {r:Option Nat} {m:Nat}
def qj4(h:oe ops=true){i:Nat}{o:Oper}(ho:ops[i]?=some o){x:Edge}(hx:x∈o.after)(hb:Region.binds .any x=true):x.on<i:=by
 unfold oe at h;rw[Kh] at h;have hm:(o,i)∈ops.zipIdx:=by rw[mem_zipIdx_iff_getElem?];simpa using ho
 have:=h (o,i) hm;simp only[Array.all_eq_true'] at this;have:=this x hx;simp only[hb,Bool.not_true,Bool.false_or] at this;exact zO this
def qtn{b:Array Nat}(h:qX ops b=true){x y:Nat}{o:Oper}(ho:ops[x]?=some o)(hy:y<ops.length)(hb:ip b y x=true): ∃e∈o.after,Region.binds .any e=true/\(e.on=y\/ip b y e.on=true):=by
 unfold qX at h;rw[Kh] at h;have hm:(o,x)∈ops.zipIdx:=by rw[mem_zipIdx_iff_getElem?];simpa using ho
 have:=h (o,x) hm;rw[Kh] at this;have:=this y (oQ hy);simp only[hb,Bool.not_true,Bool.false_or,Array.any_eq_true',yB,Bool.or_eq_true] at this;obtain⟨e,he,h1,h2⟩:=this;exact⟨e,he,h1,h2.imp yX id⟩
def Be (ops:List Oper) (listed:Nat->Prop) (L:KD):Prop:=
 ∀pre x post,L=pre++x::post->∀o,ops[x]?=some o->∀e∈o.after,Region.binds .any e=true->listed e.on\/e.on∈pre
def qnz{ops:List Oper}{b:Array Nat}{L:KD}(hB:oe ops=true)(hp:qX ops b=true)(hT:Be ops (λ_=>False) L)(hL:∀i∈L,i<ops.length)(y:Nat)(hy:y<ops.length): ∀(k x:Nat),x<k->∀pre post,L=pre++x::post->ip b y x=true->y∈pre
 | 0,x,hx,_,_,_,_=>by omega
 | k+1,x,hx,pre,post,hL',hb=>by
  have hxl:x<ops.length:=hL x (by simp[hL']);obtain⟨o,ho⟩:∃o,ops[x]?=some o:=⟨ops[x],by simp[hxl]⟩;obtain⟨e,he,hbi,h⟩:=qtn hp ho hy hb;have hin:=(hT pre x post hL' o ho e he hbi).resolve_left λh=>h;rcases h with rfl|h;exact hin;obtain⟨p1,p2,rfl,_⟩:=qrb hin;have hlt:=qj4 hB ho he hbi;have:=qnz hB hp hT hL y hy k e.on oK p1 (p2++x::post) (by simp[hL']) h;exact zH _ this
def qru{ops:Array Oper}{i:Nat}:i∈Region.ready .any ops listed↔listed.getD i true=false/\∃o,ops[i]?=some o/\∀e∈o.after,Region.binds .any e=true->listed.getD e.on false=true:=by
 simp only[Region.ready,Kq,mem_range,yB,zT];constructor;rintro⟨hi,h1,h2⟩;refine⟨h1,ops[i],by simp[hi],?_⟩;simp only[Array.getElem?_eq_getElem hi,Option.map_some,xX,Array.all_eq_true',Bool.or_eq_true,zT] at h2;intro e he hb;rcases h2 e he with h|h;rw[hb] at h;cases h;exact h;rintro⟨h1,o,ho,h2⟩;have hi:i<ops.size:=by rcases Nat.lt_or_ge i ops.size with h|h;exact h;simp[Array.getElem?_eq_none h] at ho
 refine⟨hi,h1,?_⟩;simp only[ho,Option.map_some,xX,Array.all_eq_true',Bool.or_eq_true,zT];intro e he;cases hb:Region.binds .any e with
 | false=>exact .inl rfl
 | true=>exact .inr (h2 e he hb)
def uA (listed:Array Bool) (k:Nat):Nat:=((List.range k).filter λi=>!listed.getD i true).length
def qBB{i:Nat}(hi:listed.getD i true=false):∀k,i<k->uA (listed.setIfInBounds i true) k+1=uA listed k:=by
 intro k;have hlt:i<listed.size:=by rcases Nat.lt_or_ge i listed.size with h|h;exact h;simp[Array.getElem?_eq_none h] at hi
 have heq:∀j,(listed.setIfInBounds i true).getD j true=if j=i then true else listed.getD j true:=by intro j;by_cases hj:j=i;subst hj;simp[hlt];rw[iN hj,getD_set_ne true λh=>hj h.symm]
 induction k with
 | zero=>intro h;omega
 | succ k ih=>
  intro hk;unfold uA at ih⊢;rw[range_succ,xE,xE,zF,zF];by_cases hki:k=i;subst hki;have h1:∀j∈List.range k,(!(listed.setIfInBounds k true).getD j true) = !listed.getD j true:=λj hj=>by rw[heq j,iN (by have:=mem_range.1 hj;omega)]
  rw[filter_congr h1];simp only[filter_cons,filter_nil,heq k,if_true,hi];simp;have:=ih oK;simp only[filter_cons,filter_nil,heq k,iN hki];omega
def qBA{k:Nat}(h:0<uA listed k):∃i,i<k/\listed.getD i true=false/\∀j,j<i->listed.getD j true=true:=by
 induction k with
 | zero=>simp[uA] at h
 | succ k ih=>
  by_cases hk:0<uA listed k;obtain⟨i,h1,h2⟩:=ih hk;exact⟨i,oK,h2⟩;have h0:uA listed k=0:=oK;have hall:∀j,j<k->listed.getD j true=true:=by
   intro j hj;unfold uA at h0;have:(List.range k).filter (λi=>!listed.getD i true)=[]:=Kg h0;have:=filter_eq_nil_iff.1 this j (mem_range.2 hj);simpa using this
  refine⟨k,oK,?_,hall⟩;unfold uA at h h0;rw[range_succ,xE,zF] at h;rw[h0] at h;simp only[filter_cons,filter_nil,xU] at h;cases hk:listed.getD k true with
  | false=>rfl
  | true=>rw[hk] at h;simp at h
def qzK(hB:oe ops=true):∀(fuel t:Nat) (listed:Array Bool),listed.size=ops.length->uA listed ops.length<=fuel-> ∃L,Region.linearise.go .any ops.toArray fuel t listed []=L/\L.Nodup/\(∀i,i∈L↔i<ops.length/\listed.getD i true=false)/\Be ops (λj=>listed.getD j false=true) L:=by
 intro fuel;induction fuel with
 | zero=>
  intro t listed hs hu;refine⟨[],by simp[Region.linearise.go],nodup_nil,λi=>⟨λh=>(by cases h),λ⟨h1,h2⟩=>?_⟩,?_⟩;exfalso;have:i∈(List.range ops.length).filter λi=>!listed.getD i true:=mem_filter.2 ⟨mem_range.2 h1,by simp[h2]⟩;have h0:((List.range ops.length).filter λi=>!listed.getD i true)=[]:=Kg (by unfold uA at hu;omega);rw[h0] at this;cases this;intro pre x post h;simp at h
 | succ fuel ih=>
  intro t listed hs hu;simp only[Region.linearise.go];have hrs:((List.range ops.toArray.size).filter λi=>!listed.getD i true&&((ops.toArray[i]?).map (·.after.all λe=>!Region.binds .any e||listed.getD e.on false)).getD false)=Region.ready .any ops.toArray listed:=rfl;rw[hrs];by_cases hr:Region.ready .any ops.toArray listed=[];have hnone:∀i,i<ops.length->listed.getD i true=true:=by
   intro i hi;cases hli:listed.getD i true with
   | true=>rfl
   | false=>
    exfalso;have hpos:0<uA listed ops.length:=by unfold uA;exact length_pos_of_mem (mem_filter.2 ⟨mem_range.2 hi,by simp[hli]⟩)
    obtain⟨j,hj,hj0,hjall⟩:=qBA hpos;have:j∈Region.ready .any ops.toArray listed:=by
     rw[qru];refine⟨hj0,ops[j],by simp[hj],λe he hb=>?_⟩;have hlt:=qj4 hB (show ops[j]?=some ops[j] by simp[hj]) he hb;have:=hjall e.on hlt;have hlt2:e.on<listed.size:=oK;simp only[Array.getD_eq_getD_getElem?,Array.getElem?_eq_getElem hlt2,xX] at this⊢;exact this
    rw[hr] at this;cases this
  refine⟨[],by simp[hr],nodup_nil,λi=>⟨λh=>(by cases h),λ⟨h1,h2⟩=>?_⟩,?_⟩;rw[hnone i h1] at h2;cases h2;intro pre x post h;simp at h;have hlen:0<(Region.ready .any ops.toArray listed).length:=length_pos_iff.2 hr;have hmod:t%(Region.ready .any ops.toArray listed).length<(Region.ready .any ops.toArray listed).length:=Nat.mod_lt _ hlen;rw[zA hmod];simp only;generalize hi:(Region.ready .any ops.toArray listed)[t%(Region.ready .any ops.toArray listed).length]=i;have hmem:i∈Region.ready .any ops.toArray listed:=(by rw[<- hi];exact zX _);obtain⟨h1,o,ho,h2⟩:=qru.1 hmem;have hilt:i<ops.length:=by rcases Nat.lt_or_ge i ops.length with h|h;exact h;simp[yT h] at ho
  rw[linearise_go_acc];have hu':=qBB h1 ops.length hilt;obtain⟨L,hL,hnd,hm,hT⟩:=ih (t / (Region.ready .any ops.toArray listed).length) (listed.setIfInBounds i true) (oQ hs) oK;have heq:∀j,(listed.setIfInBounds i true).getD j true=if j=i then true else listed.getD j true:=by intro j;by_cases hj:j=i;subst hj;have:j<listed.size:=oK;simp[this];rw[iN hj,getD_set_ne true λh=>hj h.symm]
  refine⟨i::L,by rw[hL];simp,nodup_cons.2 ⟨λhin=>?_,hnd⟩,λj=>?_,?_⟩;have:=((hm i).1 hin).2;rw[heq i,iP rfl] at this;cases this;rw[zG,hm j,heq j];constructor;rintro (rfl|⟨hj1,hj2⟩);exact⟨hilt,h1⟩;by_cases hji:j=i;rw[iP hji] at hj2;cases hj2;rw[iN hji] at hj2;exact⟨hj1,hj2⟩;rintro⟨hj1,hj2⟩;by_cases hji:j=i;exact .inl hji;exact .inr ⟨hj1,by rw[iN hji];exact hj2⟩;intro pre x post hsplit ox hox e he hb;cases pre with
  | nil=>
   simp only[xK,List.cons.injEq] at hsplit;obtain⟨rfl,rfl⟩:=hsplit;have:o=ox:=by have ho':ops[i]?=some o:=(oQ ho);rw[ho'] at hox;exact yP hox
   subst this;exact .inl (h2 e he hb)
  | cons z pre=>
   simp only[xL,List.cons.injEq] at hsplit;obtain⟨rfl,rfl⟩:=hsplit;rcases hT pre x post rfl ox hox e he hb with h|h;by_cases hei:e.on=i;exact .inr (by simp[hei]);rw[getD_set_ne false λh=>hei h.symm] at h;exact .inl h;exact .inr (zN _ h)
def qoD{b:Array Nat}:∀(k:Nat) (rem:KD) (seqs:List (KD)) (σ:KD),cover b k rem seqs=true->σ.Nodup->(∀i,i∈σ↔i∈rem)-> (∀pre x post,σ=pre++x::post->∀y∈post,ip b y x=false)->σ∈seqs
 | 0,rem,seqs,σ,h,_,hm,_=>by
  simp only[cover,yB,isEmpty_iff] at h;obtain⟨rfl,h2⟩:=h;have:σ=[]:=eq_nil_iff_forall_not_mem.2 λi hi=>by have:=(hm i).1 hi;cases this
  subst this;simpa using h2
 | k+1,rem,seqs,σ,h,hn,hm,hb=>by
  simp only[cover,Bool.or_eq_true,yB,isEmpty_iff,zT] at h;rcases h with ⟨rfl,h2⟩|⟨h1,h2⟩;have:σ=[]:=eq_nil_iff_forall_not_mem.2 λi hi=>by have:=(hm i).1 hi;cases this
  subst this;simpa using h2;cases σ with
  | nil=>
   exfalso;cases rem with
   | nil=>simp at h1
   | cons r rs=>have:=(hm r).2 oM;cases this
  | cons x σ=>
   have hx:x∈rem:=(hm x).1 oM;rw[Kh] at h2;have h3:=h2 x hx;have hno:(rem.any λy=>!(Nat.beq y x)&&ip b y x)=false:=by
    rw[any_eq_false];intro y hy;simp only[yB,zT,not_and];intro hyx;have hyne:y≠x:=λe=>by subst e;simp at hyx
    have hyσ:y∈σ:=by rcases zG.1 ((hm y).2 hy) with h|h;exact absurd h hyne;exact h
    simp[hb [] x σ rfl y hyσ]
   rw[hno,Bool.false_or] at h3;have hxn:=nodup_cons.1 hn;have hm':∀i,i∈σ↔i∈rem.filter λy=>!(Nat.beq y x):=by
    intro i;rw[Kq];constructor;intro hi;refine⟨(hm i).1 (by simp[hi]),?_⟩;have:i≠x:=λe=>hxn.1 (e▸hi);cases hq:Nat.beq i x with
    | false=>rfl
    | true=>exact absurd (yX hq) this
    rintro⟨h5,h6⟩;rcases zG.1 ((hm i).2 h5) with rfl|h;simp at h6;exact h
   have:=qoD k _ _ σ h3 hxn.2 hm' (λpre z post hs=>hb (x::pre) z post (by simp[hs]));unfold uP at this;rw[mem_filterMap] at this;obtain⟨s,hs,hsσ⟩:=this;cases s with
   | nil=>cases hsσ
   | cons y t=>
    simp only at hsσ;cases hyx:Nat.beq y x with
    | true=>
     rw[hyx] at hsσ;simp only[cond_true,Option.some.injEq] at hsσ;have:=yX hyx;subst this;subst hsσ;exact hs
    | false=>rw[hyx] at hsσ;simp at hsσ
def qnu{ops:List Oper}{b:Array Nat}{K:Env->WP}:∀ {orders:List (KD)} {e:Env} {w:Kv},rh (mS P) P ops b K orders e w->∀C∈orders,lT (mS P) P ops b K C [] e w
 | [],_,_,_,_,h=>by cases h
 | [o],_,_,h,C,hC=>by simp at hC;subst hC;exact h
 | o::p::r,_,_,h,C,hC=>by rcases zG.1 hC with rfl|hC;exact h.1;exact qnu (orders:=p::r) h.2 C hC
def qwf{id:Nat}{orders:List (KD)}{K:Env->WP}{wr:Nat->Bool}(hm:P.follows .mixedOrders=true)(hok:um P ops orders=true)(hnd:lN ops=true)(hd:nG n ops=true)(hw:∀o∈ops,∀d,o.dst=some d->wr d=true)(h:rh (mS P) P ops (rj ops) K orders e w.drew)(hr:Rel n ds e a)(hQ:∀e' a' w',K e' w'->Rel n ds e' a'->iq wr a a'->Q .normal a' w'): (Code.region id ops.toArray true).wpIn (Wd r) m P Q a w:=by
 refine wpIn_region_draw λt=>?_;simp only[Region.schedule,hm,Bool.true_or,if_true,Region.linearise];simp only[um,yB,Kh] at hok;obtain⟨⟨⟨⟨hB,hp⟩,hns⟩,hall⟩,hcov⟩:=hok;have hun:uA (Array.replicate ops.toArray.size false) ops.length<=ops.toArray.size:=by unfold uA;refine zL (length_filter_le _ _) ?_;simp
 obtain⟨L,hL,hnd',hmem,hT⟩:=qzK hB ops.toArray.size t (Array.replicate ops.toArray.size false) oM hun;rw[hL];have hmem':∀i,i∈L↔i<ops.length:=by intro i;rw[hmem i];constructor;exact λh=>h.1;intro hi;exact⟨hi,by simp[hi]⟩
 have hT':Be ops (λ_=>False) L:=λpre x post hs o ho e he hb=>by rcases hT pre x post hs o ho e he hb with h|h;exfalso;simp only[Array.getD_eq_getD_getElem?,Array.getElem?_replicate] at h;split at h<;>simp at h;exact .inr h
 have hbef:∀pre x post,L=pre++x::post->∀y∈post,ip (rj ops) y x=false:=by
  intro pre x post hs y hy;cases hb:ip (rj ops) y x with
  | false=>rfl
  | true=>
   exfalso;have hyl:y<ops.length:=(hmem' y).1 (by simp[hs,hy]);have:=qnz hB hp hT' (λi hi=>(hmem' i).1 hi) y hyl (x+1) x oK pre post hs hb;rw[hs] at hnd';rw[yN] at hnd';exact hnd'.2.2 y this y (zN _ hy) rfl
 have hσ:gi P ops L∈orders.map (gi P ops):=by
  refine qoD _ _ _ _ hcov (hnd'.filter _) (λi=>?_) ?_;simp only[gi,Kq,mem_range,hmem'];intro pre x post hs y hy;have hlift:∀(l:KD) (f:Nat->Bool) (pre:KD) (x:Nat) (post:KD),l.filter f=pre++x::post->∃p q,l=p++x::q/\∀y∈post,y∈q:=by
   intro l f;induction l with
   | nil=>intro pre x post h;simp at h
   | cons z l ih=>
    intro pre x post h;by_cases hz:f z=true;rw[filter_cons_of_pos hz] at h;cases pre with
    | nil=>
     simp only[xK,List.cons.injEq] at h;obtain⟨rfl,h⟩:=h;exact⟨[],l,rfl,λy hy=>(mem_filter.1 (h▸hy)).1⟩
    | cons p pre=>
     simp only[xL,List.cons.injEq] at h;obtain⟨rfl,h⟩:=h;obtain⟨p',q,hq,hh⟩:=ih pre x post h;exact⟨z::p',q,by simp[hq],hh⟩
    rw[filter_cons_of_neg hz] at h;obtain⟨p',q,hq,hh⟩:=ih pre x post h;exact⟨z::p',q,by simp[hq],hh⟩
  obtain⟨p,q,hpq,hh⟩:=hlift L _ pre x post hs;exact hbef p x q hpq y (hh y hy)
 obtain⟨C,hC,hCe⟩:=mem_map.1 hσ;have hCa:=hall C hC;obtain⟨⟨⟨c1,c2⟩,c3⟩,c4⟩:=hCa;have c3':=qnm c3;have hCm:∀i,i∈C↔i<ops.length:=by intro i;constructor;intro hi;exact zO (c2 i hi);intro hi;obtain⟨j,hj,hij⟩:=any_eq_true.1 (c1 i (mem_range.2 hi));exact (yX hij)▸hj
 have hrun:=qnu h C hC;have hcan:=Cy (r:=r) (m:=m) (Q:=Q) (a0:=a) hd hw hQ C [] [] e a w.drew (λx w' h=>h) hrun hr (iq.refl _ _);exact De hns hnd L C a w.drew hnd' c3' (λi=>by rw[hmem' i,hCm i]) c4 hCe.symm hbef hcan
def ma (r:Option Nat) (m:Nat) (P:Ky) (c:Code) (Q:Exit->Act->WP) (a:Act) (w:Kv):Prop:=
 ∀(b:Frame) (k:List Item) (cs:List Frame),b.roundOf=r->∃e a' w',Q e a' w'/\ArrivesIn (Machine.fenced P (Wd r)) P (lone (b.atR a (.code c::.inLoop c::k)) cs w) b k cs e a' w'
def ma.loop{c:Code}{Q:Exit->Act->WP}{a:Act}{w:Kv}(h:ma r m P c Q a w):(Code.loop c).wpIn (Wd r) m P Q a w:=
 λb k cs hro hb hr=>let ⟨e,a',w',q,x⟩:=h b k cs hro;⟨e,a',w',q,.of_steps (.one (fenced_calm hb hr rfl) stepR_loop) x⟩
def ma.vZ{c:Code}{a:Act}{w:Kv}(h:c.wpIn (Wd r) m P (Exit.then (λa w=>ma r m P c Q a w) Q) a w):ma r m P c Q a w:=by
 intro b k cs hro;have hroom:(Wd r).room (cs.length+1+m):=λ_ hd=>by cases hd
 obtain⟨e,a₁,w₁,hq,harr⟩:=h b (.inLoop c::k) cs hro trivial hroom;cases e with
 | normal=>
  obtain⟨e₂,a₂,w₂,hq₂,harr₂⟩:=hq b k cs hro;exact⟨e₂,a₂,w₂,hq₂,.of_steps (StepsIn.trans harr (.one (fenced_calm (n:=m) trivial hroom rfl) stepR_inLoop)) harr₂⟩
 | exit id=>exact⟨_,a₁,w₁,hq,.pass (x:=.inLoop c) rfl (λ_ _=>.inl oM) harr⟩
 | goto l=>exact⟨_,a₁,w₁,hq,.pass (x:=.inLoop c) rfl (λ_ _=>.inl oM) harr⟩
 | ret=>exact⟨_,a₁,w₁,hq,.pass (x:=.inLoop c) rfl (λ_ _=>.inl oM) harr⟩
 | panic ch=>exact⟨_,a₁,w₁,hq,.pass (x:=.inLoop c) rfl (λ_ _=>.inl oM) harr⟩
 | outgrown=>exact⟨_,a₁,w₁,hq,.pass (x:=.inLoop c) rfl (λ_ _=>.inl oM) harr⟩
def PC.fits (P:Ky) (n:Nat):PC->Bool
 | .skip=>true
 | .region _ ops=>nG n ops&&lN ops
 | .draw _ ops orders=>nG n ops&&um P ops orders&&P.follows .mixedOrders&&lN ops
 | .seq a b=>a.fits P n&&b.fits P n
 | .join _ a b=>a.fits P n&&b.fits P n
 | .cond _ a b=>a.fits P n&&b.fits P n
 | .block _ b=>b.fits P n
 | .loop _ b=>b.fits P n
 | .exit _=>true
 | .ret=>true
 | .kJ _ ps pts x y=>Nat.beq ps.length pts.length&&ps.all (Nat.blt · n)&&x.fits P n&&y.fits P n
 | .other _=>true
def iM.to:iM->Exit
 | .normal=>.normal
 | .exit id=>.exit id
 | .ret=>.ret
def IA:∀(e1 e2:Env) (t:Nat),(e1++e2:Env).get t=match e1.get t with|some v=>some v|none=>e2.get t
 | [],e2,t=>rfl
 | (k,v)::r,e2,t=>by show Env.get ((k,v)::(r++e2)) t=_;rw[Env.lu,Env.lu];by_cases h:k=t;simp[h];simp[h,IA r e2 t]
def Gh:∀(e:Env) (wr:Nat->Bool) (t:Nat),(e.kN wr).get t=if wr t=true then none else e.get t
 | [],wr,t=>by simp[Env.kN,Env.get]
 | (k,v)::r,wr,t=>by
  simp only[Env.kN];cases hk:wr k with
  | true=>
   simp only[cond_true];rw[Gh r wr t,Env.lu];by_cases h:k=t;subst h;simp[hk];simp[h]
  | false=>
   simp only[cond_false];rw[Env.lu,Env.lu,Gh r wr t];by_cases h:k=t;subst h;simp[hk];simp[h]
def IQ:∀ {live:Live} {e:Env} {s:tg live},m9 live e=some s->∀t v,(qs live s).get t=some v->e.get t=some v
 | [],_,_,_,t,v,h=>by simp[qs,Env.get] at h
 | [(k,y)],e,s,hp,t,v,h=>by simp only[m9] at hp;split at hp;rename_i u hu;simp only[qs] at h;rw[Env.lu] at h;by_cases hk:k=t;subst hk;simp only[if_true,Option.some.injEq] at h;rw[<- h,hu,i3.nj hp];simp[hk,Env.get] at h;cases hp
 | (k,y)::p::r,e,s,hp,t,v,h=>by simp only[m9] at hp;split at hp;rename_i u hu;split at hp;rename_i x hx;split at hp;rename_i z hz;cases hp;simp only[qs] at h;rw[Env.lu] at h;by_cases hk:k=t;subst hk;simp only[if_true,Option.some.injEq] at h;rw[<- h,hu,i3.nj hx];simp only[hk,if_false] at h;exact IQ (live:=p::r) hz t v h;cases hp;cases hp;cases hp
def Io{live:Live}{e0 e':Env}{a0 a':Act}{wr:Nat->Bool}{s:tg live}(h0:Rel n ds e0 a0)(h':Rel n ds e' a')(hk:iq wr a0 a')(hp:m9 live e'=some s): Rel n ds (qs live s++e0.kN wr) a':=by refine⟨h'.size,h'.defers,λt v hv=>?_⟩;rw[IA] at hv;split at hv;rename_i u hu;cases hv;exact h'.get t v (IQ hp t v hu);rw[Gh] at hv;by_cases hw:wr t=true;simp[hw] at hv;rw[iN hw] at hv;rw[hk t (oQ hw)];exact h0.get t v hv
def qc:∀(c:PC) (Q:nJ) (e:Env) (a:Act) (w:Kv) (Q':Exit->Act->WP),c.fits P n=true->c.pt (mS P) P Q e w->Rel n ds e a-> (∀x e' a' w',Q x e' w'->Rel n ds e' a'->iq c.wr a a'->Q' x.to a' w')->c.erase.wpIn (Wd r) m P Q' a w
 | .skip,Q,e,a,w,Q',_,h,hr,hQ=>wpIn_skip (hQ .normal e a w h hr (iq.refl _ _))
 | .region id ops,Q,e,a,w,Q',hf,h,hr,hQ=>by simp only[PC.fits,yB] at hf;exact wpIn_region_list<|HS (wr:=sH ops) ops e a w h hr hf.1 (λo ho d hd=>qri ho hd) (iq.refl _ _) (λe' a' w' hk hr' hkeep=>hQ .normal e' a' w' hk hr' hkeep) hf.2
 | .draw id ops orders,Q,e,a,w,Q',hf,h,hr,hQ=>by simp only[PC.fits,yB] at hf;exact qwf (wr:=sH ops) hf.1.2 hf.1.1.2 hf.2 hf.1.1.1 (λo ho d hd=>qri ho hd) h hr (λe' a' w' hk hr' hkeep=>hQ .normal e' a' w' hk hr' hkeep)
 | .seq x y,Q,e,a,w,Q',hf,h,hr,hQ=>by
  simp only[PC.fits,yB] at hf;refine wpIn_seq (qc x _ e a w _ hf.1 h hr ?_);intro z e1 a1 w1 hz hr1 hk1;cases z with
  | normal=>
   refine qc y Q e1 a1 w1 Q' hf.2 hz hr1 λz e2 a2 w2 hz2 hr2 hk2=>hQ z e2 a2 w2 hz2 hr2 ?_;exact hk1.trans hk2 (λt ht=>by simpa[PC.wr] using ht)
  | exit id=>exact hQ (.exit id) e1 a1 w1 hz hr1 (hk1.mono (λt ht=>by simp[PC.wr] at ht;exact ht.1))
  | ret=>exact hQ .ret e1 a1 w1 hz hr1 (hk1.mono (λt ht=>by simp[PC.wr] at ht;exact ht.1))
 | .join live x y,Q,e,a,w,Q',hf,h,hr,hQ=>by
  simp only[PC.fits,yB] at hf;obtain⟨Mid,hX,hY⟩:=h;refine wpIn_seq (qc x _ e a w _ hf.1 hX hr ?_);intro z e1 a1 w1 hz hr1 hk1;cases z with
  | normal=>
   simp only[nJ.j4] at hz;split at hz;rename_i s hs;refine qc y Q _ a1 w1 Q' hf.2 (hY s w1 hz) (Io hr hr1 hk1 hs) λz e2 a2 w2 hz2 hr2 hk2=>hQ z e2 a2 w2 hz2 hr2 ?_;exact hk1.trans hk2 (λt ht=>by simpa[PC.wr] using ht);exact hz.elim
  | exit id=>exact hQ (.exit id) e1 a1 w1 hz hr1 (hk1.mono (λt ht=>by simp[PC.wr] at ht;exact ht.1))
  | ret=>exact hQ .ret e1 a1 w1 hz hr1 (hk1.mono (λt ht=>by simp[PC.wr] at ht;exact ht.1))
 | .cond c x y,Q,e,a,w,Q',hf,h,hr,hQ=>by
  simp only[PC.fits,yB] at hf;simp only[PC.pt] at h;split at h;rename_i b hb;cases b with
  | true=>exact wpIn_cond_true (hr.ev hb) (qc x Q e a w Q' hf.1 h hr (λz e1 a1 w1 hz hr1 hk1=>hQ z e1 a1 w1 hz hr1 (hk1.mono (λt ht=>by simp[PC.wr] at ht;exact ht.1))))
  | false=>exact wpIn_cond_false (hr.ev hb) (qc y Q e a w Q' hf.2 h hr (λz e1 a1 w1 hz hr1 hk1=>hQ z e1 a1 w1 hz hr1 (hk1.mono (λt ht=>by simp[PC.wr] at ht;exact ht.2))))
  exact h.elim
 | .block id body,Q,e,a,w,Q',hf,h,hr,hQ=>by
  refine wpIn_block (qc body _ e a w _ hf h hr ?_);intro z e1 a1 w1 hz hr1 hk1;cases z with
  | normal=>exact hQ .normal e1 a1 w1 hz hr1 hk1
  | exit j=>
   simp only at hz;simp only[iM.to,Exit.inBlock];cases hj:Nat.beq j id with
   | true=>
    rw[hj] at hz;rw[iP (yX hj)];exact hQ .normal e1 a1 w1 hz hr1 hk1
   | false=>
    rw[hj] at hz;rw[iN (λhq=>by subst hq;simp at hj)];exact hQ (.exit j) e1 a1 w1 hz hr1 hk1
  | ret=>exact hQ .ret e1 a1 w1 hz hr1 hk1
 | .loop live body,Q,e,a,w,Q',hf,h,hr,hQ=>by
  simp only[PC.pt] at h;split at h;rename_i s0 hs0;have key:=h (λs w1=>∀a1,Rel n ds (qs live s++e.kN λt=>body.wr t) a1->iq body.wr a a1->ma r m P body.erase Q' a1 w1) ?_;exact ma.loop (key a (Io hr hr (iq.refl _ _) hs0) (iq.refl _ _));intro s w1 hB a1 hr1 hk1;refine ma.vZ (qc body _ _ a1 w1 _ hf hB hr1 ?_);intro z e2 a2 w2 hz hr2 hk2;have hk:iq body.wr a a2:=hk1.trans hk2 λt ht=>⟨ht,ht⟩;cases z with
  | normal=>
   simp only[nJ.j4] at hz;split at hz;rename_i s' hs';exact hz a2 (Io hr hr2 hk hs') hk;exact hz.elim
  | exit id=>exact hQ (.exit id) e2 a2 w2 hz hr2 hk
  | ret=>exact hQ .ret e2 a2 w2 hz hr2 hk
  exact h.elim
 | .exit id,Q,e,a,w,Q',_,h,hr,hQ=>wpIn_exit (hQ (.exit id) e a w h hr (iq.refl _ _))
 | .ret,Q,e,a,w,Q',_,h,hr,hQ=>wpIn_ret (hQ .ret e a w h hr (iq.refl _ _))
 | .kJ ..,Q,e,a,w,Q',_,h,_,_=>h.elim
 | .other c,Q,e,a,w,Q',_,h,_,_=>h.elim
def uz:∀(c:Code) (as0:List v9),(jN c as0).1.erase=c
 | .skip,as0=>rfl
 | .region id ops draw,as0=>by
  cases draw with
  | false=>simp[jN,PC.erase]
  | true=>
   simp only[jN];split<;>simp[PC.erase]
 | .seq a b,as0=>by simp only[jN];split;simp only[PC.erase,uz a,uz b];simp only[PC.erase,uz a,uz b];simp only[PC.erase,uz a,uz b];rfl
 | .cond c a b,as0=>by simp only[jN,PC.erase,uz a,uz b]
 | .block id b,as0=>by simp only[jN,PC.erase,uz b]
 | .loop b,as0=>by simp only[jN];split;simp only[PC.erase,uz b];rfl
 | .rangeFunc f ps x y,as0=>by simp only[jN];split;simp only[PC.erase,uz x,uz y];rfl
 | .exit id,as0=>rfl
 | .scope b,as0=>rfl
 | .label l,as0=>rfl
 | .goto l,as0=>rfl
 | .ret,as0=>rfl
 | .refuse s,as0=>rfl
def qnC:∀ {ts:List i3} {vs:List Kw} {x:jx ts},lF.unVals ts vs=some x->jx.vals ts x=vs
 | [],[],_,_=>rfl
 | [],_::_,_,h=>by simp[lF.unVals] at h
 | [t],[v],x,h=>by simp only[lF.unVals] at h;simp only[jx.vals,i3.nj h]
 | [t],[],x,h=>by simp[lF.unVals] at h
 | [t],_::_::_,x,h=>by simp[lF.unVals] at h
 | t::u::ts,[],x,h=>by simp[lF.unVals] at h
 | t::u::ts,v::vs,x,h=>by simp only[lF.unVals] at h;split at h;rename_i y hy;split at h;rename_i z hz;cases h;simp only[jx.vals,i3.nj hy,qnC hz];cases h;cases h
def qpG{v:Kw}{x:jx ts}(h:lF ts v=some x)(hv:ts=[]->v=.tuple #[]):gE ts x=v:=by
 match ts,x,h with
 | [],x,h=>simp[gE,hv rfl]
 | [t],x,h=>exact i3.nj h
 | t::u::ts,x,h=>
  cases v<;>simp only[lF] at h<;>try (cases h;done)
  rename_i vs;simp only[gE,qnC h]
def mr (tmps:Array Kw):ResultVar->Sem Kw
 | .tmp t=>pure (tmps.getD t undef)
 | .cell a t=>do loadVar t (<- asAddr (tmps.getD a undef))
def Cj{R:List Kw->Prop}:∀(rvs:List ResultVar) (e:Env) (a:Act) (w:Kv) (K:List Kw->Prop),lW (mS P) P rvs e w K->Rel n ds e a-> ∃vs,(rvs.mapM (mr a.tmps)).run P w=.ok vs w/\vs.length=rvs.length/\K vs
 | [],e,a,w,K,h,hr=>⟨[],oM,rfl,h⟩
 | .tmp t::r,e,a,w,K,h,hr=>by simp only[lW] at h;split at h;rename_i v hv;obtain⟨vs,h1,h2,h3⟩:=Cj (R:=R) r e a w _ h hr;exact⟨v::vs,by simp[mapM_cons,mr,h1,<- hr.get t v hv],by simp[h2],h3⟩;exact h.elim
 | .cell ad t::r,e,a,w,K,h,hr=>by
  simp only[lW] at h;split at h;rename_i p hp;have hp':=hr.get _ _ hp;split at h;rename_i c hcell;cases hok:!pG P t with
  | true=>simp only[hok,cond_true] at h
  | false=>
   simp only[hok,cond_false] at h;obtain⟨hi1,hi2⟩:=vQ hok;cases hag:fQ P t with
   | true=>simp only[hag,cond_true] at h
   | false=>
    simp only[hag,cond_false] at h;obtain⟨y,hy,hk⟩:=h;obtain⟨vs,h1,h2,h3⟩:=Cj (R:=R) r e a w _ hk hr;exact⟨_::vs,by simp[mapM_cons,mr,hp',asAddr,loadVar,Am hi2,hag,hy,h1],by simp[h2],h3⟩
  rename_i cs hcells;cases hg:fQ P t&&Nat.beq (fG P t) cs.length with
  | false=>simp only[hg,cond_false] at h
  | true=>
   simp only[hg,cond_true] at h;simp only[yB] at hg;obtain⟨hag,hsz⟩:=hg;have hsz':=yX hsz;obtain⟨y,hy,hk⟩:=h;have hlen:(HL.mk cs y).length=cs.length:=HL.j3 cs y;have hsome:(P.info? t).isSome=true:=by
    cases hi:P.info? t with
    | none=>
     have:(P.underlying t).isSome=true:=Ao hag;simp[Program.underlying,hi] at this
    | some i=>rfl
   obtain⟨vs,h1,h2,h3⟩:=Cj (R:=R) r e a w _ hk hr;have hl:=Dk (P:=P) (HL.mk cs y) 0 #[] w hy;rw[hlen,<- hsz'] at hl;exact⟨_::vs,by simp[mapM_cons,mr,hp',asAddr,loadVar,Am (Ao hag),hag,tC hsome,loadCells,hl,h1],by simp[h2],h3⟩
  cases hag:fQ P t with
  | false=>simp only[hag,cond_false] at h
  | true=>
   simp only[hag,cond_true] at h;obtain⟨y,hy,hk⟩:=h;have hsome:(P.info? t).isSome=true:=by
    cases hi:P.info? t with
    | none=>
     have:(P.underlying t).isSome=true:=Ao hag;simp[Program.underlying,hi] at this
    | some i=>rfl
   obtain⟨vs,h1,h2,h3⟩:=Cj (R:=R) r e a w _ hk hr;have hl:=Dk (P:=P) y 0 #[] w hy.2;rw[hy.1] at hl;exact⟨_::vs,by simp[mapM_cons,mr,hp',asAddr,loadVar,Am (Ao hag),hag,tC hsome,loadCells,hl,h1],by simp[h2],h3⟩
  exact h.elim
def qpr(fn:Func)(tmps:Array Kw):results fn tmps=(do let vs <- fn.results.mapM (mr tmps);Pure.pure (if h:vs.size=1 then vs[0] else .tuple vs)):=by unfold results;congr 1
def G6:∀(args:List Kw) (i t:Nat) (v:Kw),(mR i args).get t=some v->∃j,t=i+j/\args[j]?=some v
 | [],i,t,v,h=>by simp[mR,Env.get] at h
 | u::r,i,t,v,h=>by simp only[mR] at h;rw[Env.lu] at h;by_cases hi:i=t;subst hi;simp at h;exact⟨0,oM,by simp[h]⟩;simp[hi] at h;obtain⟨j,hj,hv⟩:=G6 r (i+1) t v h;exact⟨j+1,oK,by simpa using hv⟩
def mark (m:Option Nat):List Deferred:=match m with|none=>[] | some D=>[{ target:=.collected D,args:=#[] }]
def HR:∀ {ts:List Tmp} {vs:List Kw} {e:Env} {tm:Array Kw},(ts.all (Nat.blt · n))=true->Rel n [] e { tmps:=tm,defers:=[] }->ts.length=vs.length-> Rel n [] (rA e ts vs) { tmps:=(ts.zip vs).foldl (λt (x:Tmp×Kw)=>t.setIfInBounds x.1 x.2) tm,defers:=[] }
 | [],[],e,tm,_,h,_=>h
 | t::ts,v::vs,e,tm,hl,h,hlen=>by simp only[all_cons,yB] at hl;have hp:=h.put (dst:=some t) (λd hd=>by cases hd;exact zO hl.1) v;exact HR (ts:=ts) (vs:=vs) hl.2 hp (oQ hlen)
def Ih{x:iM}:∀ {l:List iM} {k i:Nat},sK x l k=some i->∃j,i=k+j/\l[j]?=some x
 | [],k,i,h=>by cases h
 | y::r,k,i,h=>by
  simp only[sK] at h;cases hs:x.same y with
  | true=>
   rw[hs] at h;simp only[cond_true,Option.some.injEq] at h;refine⟨0,oK,?_⟩;cases x<;>cases y<;>simp only[iM.same,Bool.false_eq_true] at hs<;>try rfl
   simp[yX hs]
  | false=>
   rw[hs] at h;simp only[cond_false] at h;obtain⟨j,hj,hl⟩:=Ih h;exact⟨j+1,oK,by simpa using hl⟩
def iM.code:iM->Code
 | .normal=>.skip
 | .ret=>.ret
 | .exit id=>.exit id
def Ee:∀(ts:List i3) (x:jx ts),(jx.vals ts x).length=ts.length
 | [],_=>rfl
 | [_],_=>rfl
 | _::u::ts,x=>by simp only[jx.vals,yJ,Ee (u::ts) x.2]
def qyC{g:Operand}{ps:List Tmp}{pts:List i3}{x y:PC}{done:Nat->WP}{Qj:iM->Nat->WP}{v:Kw}(hg:e.ev g=some v)(hps:ps.length=pts.length)(hlt:(ps.all (Nat.blt · n))=true)(hfx:x.fits P n=true)(hfy:y.fits P n=true)(hr:Rel n [] e a)(h:kJ P v pts (lr (mS P) P x y ps pts e) done (y.outs.map λz=>λD w'=>Qj z D w') w){Q':Exit->Act->WP}(hdone:∀D w',done D w'->Q' .normal { a with defers:=mark (some D) } w')(hjump:∀z D w',Qj z D w'->z≠.normal->Q' z.to { a with defers:=mark (some D) } w')(hno:∀z∈y.outs,z≠.normal): (Code.rangeFunc g ps.toArray x.erase y.erase).wpIn (Wd none) m P Q' a w:=by
 obtain⟨f,lb,rfl,hb,h⟩:=h;refine wpIn_rangeFunc ?_;intro fn _;have hro:(Wd none).round=none:=rfl;rw[hro];obtain⟨rec,hrec⟩:∃rec:LoopState->Option Code->Loop,rec=λst pe=>{ state:=st,pending:=pe,fn,tmps:=a.tmps,params:=ps.toArray,assign:=x.erase,body:=y.erase,defers:=w.heap.size }:=⟨_,rfl⟩;let l:=w.heap.size+1;let J:Nat->Obj:=λi=>.loop (rec .done ((y.outs[i]?).map iM.code));let E:Nat->Obj:=λi=>.loop (rec .exhausted ((y.outs[i]?).map iM.code));have hy:pN P pts (lr (mS P) P x y ps pts e) l (.loop (rec .ready none)) (.loop (rec .busy none)) J:=by
  intro u W K hl hbody;unfold lr at hbody;refine .inr ⟨l,fn,(ps.zip (jx.vals pts u)).foldl (λt (x:Tmp×Kw)=>t.setIfInBounds x.1 x.2) a.tmps,x.erase,y.erase,?_,?_⟩
  ·have hyl:=run_yield (P:=P) (args:=(jx.vals pts u).toArray) hl (by rw[hrec];simp[Ee,hps]);rw[hrec] at hyl;simp only[Deferred.ofValue,pure_bind];simp only[invoke];have hz:∀(ps:List Tmp) (vs:List Kw) (t0:Array Kw),(ps.toArray.zip vs.toArray).foldl (λ(tmps:Array Kw) (x:Tmp×Kw)=>match x with|(t,a)=>tmps.setIfInBounds t a) t0=(ps.zip vs).foldl (λt (x:Tmp×Kw)=>t.setIfInBounds x.1 x.2) t0:=by intro ps vs t0;rw[<- Array.foldl_toList];simp
   rw[hz] at hyl;first
    | exact hyl
    | simpa using hyl
  refine roundIn_of_wpIn (F:=Wd none) (n:=0) trivial ?_;have hrel:Rel n [] (rA e ps (jx.vals pts u)) { tmps:=(ps.zip (jx.vals pts u)).foldl (λt (x:Tmp×Kw)=>t.setIfInBounds x.1 x.2) a.tmps,defers:=[] }:=
   HR hlt ⟨hr.size,rfl,hr.get⟩ (by rw[Ee,hps])
  refine qc (r:=some l) (m:=0) x _ _ _ W _ hfx hbody hrel ?_;intro z e' a' w' hz hr' _;cases z with
  | exit id=>exact hz.elim
  | ret=>exact hz.elim
  | normal=>
   obtain⟨hl1,hz⟩:=hz;refine⟨_,run_beginRound hl1 (by rw[hrec]),?_⟩;have hbz:({ rec .ready none with state:=.busy }:Loop)=rec .busy none:=(by rw[hrec]);rw[hbz];refine qc (r:=some l) (m:=0) y _ _ _ _ _ hfy hz hr' ?_;intro z e'' a'' w3 hz hr'' _;have fin:∀(jump:Option Code),w3.heap[l]?=some (.loop (rec .busy none))->(Instr.endRound l jump).run P w3=.ok (.bool jump.isNone) (w3.putObj l (.loop (rec (if jump.isNone then .ready else .done) jump))):=by
    intro jump hl3;have:=run_endRound (P:=P) jump hl3;rw[hrec] at this⊢;exact this
   have out:∀z:iM,(match sK z y.outs 0 with|some i=>w3.heap[l]?=some (.loop (rec .busy none))/\K false (w3.putObj l (J i))|none=>False)->
     ∃v w',(Instr.endRound l (some z.code)).run P w3=.ok v w'/\∃x:jx [i3.one Cell.bool],Ending.returned v=.returned (gE dr x)/\K x w':=by
    intro z hz;split at hz;rename_i i hi;obtain⟨j,hj,hjl⟩:=Ih hi;have:i=j:=oK;subst this;refine⟨_,_,fin (some z.code) hz.1,false,rfl,?_⟩;have hJ:J i=.loop (rec (if (some z.code).isNone then .ready else .done) (some z.code)):=by show Obj.loop (rec .done ((y.outs[i]?).map iM.code))=_;rw[hjl];rfl
    rw[<- hJ];exact hz.2;exact hz.elim
   cases z with
   | normal=>exact⟨_,_,fin none hz.1,true,rfl,hz.2⟩
   | ret=>exact out .ret hz
   | exit id=>exact out (.exit id) hz
 have hcall:=h (.loop (rec .ready none)) (.loop (rec .busy none)) J E (.loop (rec .exhausted none)) hy;refine⟨l,[{ target:=.collected w.heap.size,args:=#[] }],(w.alloc (.deferred (some []))).alloc (.loop (rec .ready none)),{ target:=.fn (.func f) lb.toArray,args:=#[.func (.yield l) #[] #[]] },(w.alloc (.deferred (some []))).alloc (.loop (rec .ready none)),f,
  (.func (.yield l) #[] #[]::lb).toArray,(w.alloc (.deferred (some []))).alloc (.loop (rec .ready none)),?_,?_,λ_ _=>trivial,?_,EK none,?_⟩
 rw[hrec];exact run_enterLoop_outer _ _ _ _ _;simp only[resolve,hr.ev hg];simp[Deferred.ofValue];rfl;simp[invoke,Bw hb];refine GW (Calls.mono hcall ?_);rintro e2 W2 ⟨u,rfl,hh⟩;rcases hh with ⟨hl,hd⟩|⟨i,k,hk,hl,hd⟩;refine⟨none,_,?_,by rw[hr.defers];exact hdone _ _ hd⟩;have:=run_endLoop (P:=P) hl (by rw[hrec];simp);rw[hrec] at this⊢;exact this;have hk':=hk;rw[zQ] at hk;cases hz:y.outs[i]? with
 | none=>rw[hz] at hk;cases hk
 | some z=>
  rw[hz] at hk;cases hk;have hJ:J i=.loop (rec .done (some z.code)):=by show Obj.loop (rec .done ((y.outs[i]?).map iM.code))=_;rw[hz];rfl
  have hE:E i=.loop (rec .exhausted (some z.code)):=(by show Obj.loop (rec .exhausted ((y.outs[i]?).map iM.code))=_;rw[hz];rfl);rw[hJ] at hl;rw[hE] at hd;have hzn:=hno z (yG hz);have hq:=hjump z _ _ hd hzn;refine⟨some z.code,W2.putObj (w.heap.size+1) (.loop (rec .exhausted (some z.code))),?_,?_⟩;have:=run_endLoop (P:=P) hl (by rw[hrec];simp);rw[hrec] at this⊢;exact this;rw[hr.defers];cases z with
  | normal=>exact absurd rfl hzn
  | ret=>exact wpIn_ret hq
  | exit id=>exact wpIn_exit hq
def PC.pU (c:PC):Bool:=c.outs.all λz=>match z with | .normal=>false|_=>true
def PC.qH:PC->Bool
 | .seq a b=>a.qH&&b.qH
 | .block _ b=>b.qH
 | .kJ _ _ _ _ y=>y.pU
 | _=>true
def Gm:∀(c:PC) (Q:Option Nat->nJ) (k:Option Nat) (e:Env) (a:Act) (w:Kv) (Q':Exit->Act->WP),c.fits P n=true->c.qH=true->c.CK (mS P) P Q k e w->Rel n (mark k) e a-> (∀k' x e' a' w',Q k' x e' w'->Rel n (mark k') e' a'->Q' x.to a' w')->c.erase.wpIn (Wd none) m P Q' a w
 | .seq x y,Q,k,e,a,w,Q',hf,hs,h,hr,hQ=>by
  simp only[PC.fits,yB] at hf;simp only[PC.qH,yB] at hs;refine wpIn_seq (Gm x _ k e a w _ hf.1 hs.1 h hr ?_);intro k' z e1 a1 w1 hz hr1;cases z with
  | normal=>exact Gm y Q k' e1 a1 w1 Q' hf.2 hs.2 hz hr1 hQ
  | exit id=>exact hQ k' (.exit id) e1 a1 w1 hz hr1
  | ret=>exact hQ k' .ret e1 a1 w1 hz hr1
 | .block id body,Q,k,e,a,w,Q',hf,hs,h,hr,hQ=>by
  refine wpIn_block (Gm body _ k e a w _ hf hs h hr ?_);intro k' z e1 a1 w1 hz hr1;cases z with
  | normal=>exact hQ k' .normal e1 a1 w1 hz hr1
  | exit j=>
   simp only at hz;simp only[iM.to,Exit.inBlock];cases hj:Nat.beq j id with
   | true=>
    rw[hj] at hz;rw[iP (yX hj)];exact hQ k' .normal e1 a1 w1 hz hr1
   | false=>
    rw[hj] at hz;rw[iN (λhq=>by subst hq;simp at hj)];exact hQ k' (.exit j) e1 a1 w1 hz hr1
  | ret=>exact hQ k' .ret e1 a1 w1 hz hr1
 | .kJ g ps pts x y,Q,k,e,a,w,Q',hf,hs,h,hr,hQ=>by
  simp only[PC.fits,yB] at hf;simp only[PC.CK] at h;cases k with
  | some D=>exact h.elim
  | none=>
   simp only at h;split at h;exact h.elim;rename_i v hg;have h':kJ P v pts (lr (mS P) P x y ps pts e) (λD w'=>Q (some D) .normal e w') (y.outs.map λz=>λD w'=>Q (some D) z e w') w:=h;refine qyC (done:=λD w'=>Q (some D) .normal e w') (Qj:=λz D w'=>Q (some D) z e w') hg (yX hf.1.1.1) hf.1.1.2 hf.1.2 hf.2 hr h' ?_ ?_ ?_;intro D w' hq;exact hQ (some D) .normal e _ w' hq ⟨hr.size,rfl,hr.get⟩;intro z D w' hq _;exact hQ (some D) z e _ w' hq ⟨hr.size,rfl,hr.get⟩;intro z hz hzn;subst hzn;simp only[PC.qH,PC.pU,Kh] at hs;have:=hs _ hz
   cases this
 | .skip,Q,k,e,a,w,Q',hf,_,h,hr,hQ=>qc .skip (Q k) e a w Q' hf h hr (λz e' a' w' hx hr' _=>hQ k z e' a' w' hx hr')
 | .region id ops,Q,k,e,a,w,Q',hf,_,h,hr,hQ=>qc (.region id ops) (Q k) e a w Q' hf h hr (λz e' a' w' hx hr' _=>hQ k z e' a' w' hx hr')
 | .draw id ops os,Q,k,e,a,w,Q',hf,_,h,hr,hQ=>qc (.draw id ops os) (Q k) e a w Q' hf h hr (λz e' a' w' hx hr' _=>hQ k z e' a' w' hx hr')
 | .join l x y,Q,k,e,a,w,Q',hf,_,h,hr,hQ=>qc (.join l x y) (Q k) e a w Q' hf h hr (λz e' a' w' hx hr' _=>hQ k z e' a' w' hx hr')
 | .cond c x y,Q,k,e,a,w,Q',hf,_,h,hr,hQ=>qc (.cond c x y) (Q k) e a w Q' hf h hr (λz e' a' w' hx hr' _=>hQ k z e' a' w' hx hr')
 | .loop l x,Q,k,e,a,w,Q',hf,_,h,hr,hQ=>qc (.loop l x) (Q k) e a w Q' hf h hr (λz e' a' w' hx hr' _=>hQ k z e' a' w' hx hr')
 | .exit id,Q,k,e,a,w,Q',hf,_,h,hr,hQ=>qc (.exit id) (Q k) e a w Q' hf h hr (λz e' a' w' hx hr' _=>hQ k z e' a' w' hx hr')
 | .ret,Q,k,e,a,w,Q',hf,_,h,hr,hQ=>qc .ret (Q k) e a w Q' hf h hr (λz e' a' w' hx hr' _=>hQ k z e' a' w' hx hr')
 | .other c,Q,k,e,a,w,Q',hf,_,h,hr,hQ=>h.elim
def G7{K:jx ts->WP}{e':Env}{a':Act}(hts:(!ts.isEmpty||fn.results.isEmpty)=true)(hr':Rel n ds e' a')(hres:lW (mS P) P fn.results.toList e' w' λvs=>match lF ts (oneOf vs) with|some x=>K x w'|none=>False): ∃v,(results fn a'.tmps).run P w'=.ok v w'/\∃x:jx ts,Ending.returned v=.returned (gE ts x)/\K x w':=by
 obtain⟨vs,h1,h2,h3⟩:=Cj (R:=λ_=>True) fn.results.toList e' a' w' _ hres hr';split at h3;rename_i y hy;refine⟨oneOf vs,?_,y,?_,h3⟩;rw[qpr];have hmm:(fn.results.mapM (mr a'.tmps)).run P w'=.ok vs.toArray w':=by rw[Array.mapM_eq_mapM_toList];simp[h1]
 simp only[Kb,hmm,Kc];match vs with
 | []=>simp[oneOf]
 | [v]=>simp[oneOf]
 | v::u::vs=>simp[oneOf]
 rw[qpG hy];intro h0;subst h0;simp at hts;have:vs=[]:=by have:vs.length=0:=(by rw[h2];simp[hts]);exact Kg this
 subst this;rfl;exact h3.elim
def qtz(hlen:args.length<=n):Rel n [] (mR 0 args) { tmps:=args.toArray++Array.replicate (n-args.toArray.size) undef,defers:=[] }:=by
 refine⟨by simp;omega,rfl,λt v hv=>?_⟩;obtain⟨j,hj,hv'⟩:=G6 args 0 t v hv;have hjl:j<args.length:=by rcases Nat.lt_or_ge j args.length with h|h;exact h;simp[yT h] at hv'
 have:t=j:=oK;subst this;rw[zA hjl] at hv';simp[Array.getElem?_append,hjl];exact yP hv'
def qpS{w:Kv}{K:jx ts->WP}(hf:P.funcs[f]?=some fn)(hfit:(match fn.body with|some c=>(jN c an).1.fits P fn.ntmps&&(jN c an).1.qH&&Nat.ble args.length fn.ntmps&&(!ts.isEmpty||fn.results.isEmpty)|none=>false)=true)(h:wD (mS P) P fn an ts args K w):call P f args ts w K:=by
 unfold wD at h;split at h;rename_i c hb;simp only[hb,yB] at hfit;obtain⟨⟨⟨hfit,hfs⟩,hlen⟩,hts⟩:=hfit;have hlen':args.length<=fn.ntmps:=zO hlen;unfold call;refine callsIn_wide.1 (callsIn_of_wp_marks (F:=Wd none) (n:=0) hf hb trivial ?_);have hsp:=Gm (m:=0) (n:=fn.ntmps) (jN c an).1 _ none _ _ w (bodyPostM (Wd none) 0 P fn λe w'=>∃x:jx ts,e=.returned (gE ts x)/\K x w') hfit hfs h (qtz hlen') ?_;rw[uz] at hsp;exact hsp;intro k x e' a' w' hx hr';have fin:(Ag (mS P) k w' λw2=>lW (mS P) P fn.results.toList e' w2 λvs=>match lF ts (oneOf vs) with|some x=>K x w2|none=>False)->
   LeavesInM (Wd none) 0 P fn a'.tmps (λe w'=>∃x:jx ts,e=.returned (gE ts x)/\K x w') a'.defers .returning w':=by
  intro hu;rw[hr'.defers];cases k with
  | none=>
   obtain⟨v,h1,h2⟩:=G7 hts hr' hu;exact⟨v,h1,h2⟩
  | some D=>
   obtain⟨hD,hu⟩:=hu;obtain⟨v,h1,h2⟩:=G7 hts hr' hu;exact⟨oM,.inl ⟨D,_,rfl,run_takeDeferred hD,v,h1,h2⟩⟩
 cases x with
 | normal=>exact fin hx
 | ret=>exact fin hx
 | exit id=>exact hx.elim
 exact h.elim
def qrO{w:Kv}{K:jx ts->WP}(hf:P.funcs[f]?=some fn)(hfit:(match fn.body with|some c=>(jN c an).1.fits P fn.ntmps&&Nat.ble args.length fn.ntmps&&(!ts.isEmpty||fn.results.isEmpty)|none=>false)=true)(h:AL (mS P) P fn an ts args K w):call P f args ts w K:=by
 unfold AL at h;split at h;rename_i c hb;simp only[hb,yB] at hfit;obtain⟨⟨hfit,hlen⟩,hts⟩:=hfit;have hlen':args.length<=fn.ntmps:=zO hlen;unfold call;refine callsIn_wide.1 (callsIn_of_wp (F:=Wd none) (n:=0) hf hb trivial ?_);have hrel:Rel fn.ntmps [] (mR 0 args) { tmps:=args.toArray++Array.replicate (fn.ntmps-args.toArray.size) undef,defers:=[] }:=by
  refine⟨by simp;omega,rfl,λt v hv=>?_⟩;obtain⟨j,hj,hv'⟩:=G6 args 0 t v hv;have hjl:j<args.length:=by rcases Nat.lt_or_ge j args.length with h|h;exact h;simp[yT h] at hv'
  have:t=j:=oK;subst this;rw[zA hjl] at hv';simp[Array.getElem?_append,hjl];exact yP hv'
 have hs:=qc (r:=none) (m:=0) (n:=fn.ntmps) (jN c an).1 _ _ _ w (bodyPost P fn λe w'=>∃x:jx ts,e=.returned (gE ts x)/\K x w') hfit h hrel ?_;rw[uz] at hs;exact hs;intro x e' a' w' hx hr' _;have fin:∀(hres:lW (mS P) P fn.results.toList e' w' λvs=>match lF ts (oneOf vs) with|some x=>K x w'|none=>False),
   a'.defers=[]/\∃v,(results fn a'.tmps).run P w'=.ok v w'/\∃x:jx ts,Ending.returned v=.returned (gE ts x)/\K x w':=by
  intro hres;obtain⟨vs,h1,h2,h3⟩:=Cj (R:=λ_=>True) fn.results.toList e' a' w' _ hres hr';split at h3;rename_i y hy;refine⟨hr'.defers,oneOf vs,?_,y,?_,h3⟩;rw[qpr];have hmm:(fn.results.mapM (mr a'.tmps)).run P w'=.ok vs.toArray w':=by rw[Array.mapM_eq_mapM_toList];simp[h1]
  simp only[Kb,hmm,Kc];match vs with
  | []=>simp[oneOf]
  | [v]=>simp[oneOf]
  | v::u::vs=>simp[oneOf]
  rw[qpG hy];intro h0;subst h0;simp at hts;have:vs=[]:=by have:vs.length=0:=(by rw[h2];simp[hts]);exact Kg this
  subst this;rfl;exact h3.elim
 cases x with
 | normal=>exact fin hx
 | ret=>exact fin hx
 | exit id=>exact hx.elim
 exact h.elim
def eS{w:Kv}{K:jx ts->WP}{F:Prop}(hf:P.funcs[f]?=some fn)(hF:F)(hfit:(match fn.body with|some c=>(jN c an).1.fits P fn.ntmps&&Nat.ble args.length fn.ntmps&&(!ts.isEmpty||fn.results.isEmpty)|none=>false)=true:=by kernel_rfl)(e:AL (mS P) P fn an ts args K w=F:=by kernel_rfl):call P f args ts w K:=qrO hf hfit (e.mpr hF)
def JV{w:Kv}{K:jx ts->WP}{F:Prop}(an:List v9)(hf:P.funcs[f]?=some fn)(hF:F)(hfit:(match fn.body with|some c=>(jN c an).1.fits P fn.ntmps&&Nat.ble args.length fn.ntmps&&(!ts.isEmpty||fn.results.isEmpty)|none=>false)=true:=by kernel_rfl)(e:AL (mS P) P fn an ts args K w=F:=by kernel_rfl):call P f args ts w K:=eS hf hF hfit e
def Ie{w:Kv}{K:jx ts->WP}{F:Prop}(hf:P.funcs[f]?=some fn)(hF:F)(hfit:(match fn.body with|some c=>(jN c an).1.fits P fn.ntmps&&(jN c an).1.qH&&Nat.ble args.length fn.ntmps&&(!ts.isEmpty||fn.results.isEmpty)|none=>false)=true:=by kernel_rfl)(e:wD (mS P) P fn an ts args K w=F:=by kernel_rfl):call P f args ts w K:=qpS hf hfit (e.mpr hF)
end
section
def sI{S:Type}{X:(S->WP)->Prop}{Y:S->WP}(s:S)(w:Kv)(hX:∀M:S->WP,M s w->X M)(hY:Y s w):join S X Y:=
 ⟨λs' w'=>s'=s/\w'=w,hX _ ⟨rfl,rfl⟩,by rintro _ _ ⟨rfl,rfl⟩;exact hY⟩
def jf{S:Type}{X:(S->WP)->Prop}{Y:S->WP}(Mid:S->WP)(hX:X Mid)(hY:∀s w,Mid s w->Y s w):join S X Y:=⟨Mid,hX,hY⟩
@[simp] theorem qCA{S:Type}{s:S}{w:Kv}{Y:S->WP}:join S (λX=>X s w) Y↔Y s w:=
 ⟨λ⟨_,h1,h2⟩=>h2 _ _ h1,λh=>sI s w (λ_ h=>h) h⟩
def kz{S:Type}{B:(S->WP)->S->WP}{s:S}{w:Kv}(I:S->WP)(m:S->Kv->Nat)(h0:I s w)(step:∀s w,I s w->∀X:S->WP,(∀s' w',I s' w'->m s' w'<m s w->X s' w')->B X s w):loop S B s w:=by
 intro J hJ;have key:∀k s w,m s w=k->I s w->J s w:=by
  intro k;induction k using Nat.strongRecOn with
  | _ k ih=>
   intro s w hk hI;exact hJ s w (step s w hI J λs' w' hI' hlt=>ih (m s' w') (hk▸hlt) s' w' rfl hI')
 exact key _ s w rfl h0
def eV{b:Bool}{A B:Prop}(h1:b=true->A)(h2:b=false->B):cond b A B:=by
 cases b with
 | true=>exact h1 rfl
 | false=>exact h2 rfl
def cD{p:Prop}[Decidable p]{X Y:Prop}(h:p->X)(g:¬p->Y):cond (decide p) X Y:=eV (λe=>h (zC e)) (λe=>g (zB e))
def mI{p K:Prop}(h:p)(k:K):ig p K:=⟨h,k⟩
def gV{a:Addr}{K:Addr->Prop}(h:K a):nn (some a) K:=h
def qj{c:Cell}{a:Addr}{w:Kv}{K:c.El->Prop}(x:c.El)(h:w.cell? a=some (c.mk x))(k:K x):ld c a w K:=⟨x,h,k⟩
def Gq{o:Obj}{w:Kv}{K:Nat->WP}(k:K w.heap.size (w.alloc o)):new o w K:=k
structure rJ (w w':Kv):Prop where
 heap:w'.heap=w.heap
 os:w'.os=w.os
 tape:w'.tape=w.tape
 output:w'.output=w.output
def rJ.refl(w:Kv):rJ w w:=⟨rfl,rfl,rfl,rfl⟩
def rJ.drew{w w':Kv}(h:rJ w w'):rJ w w'.drew:=⟨h.heap,h.os,h.tape,h.output⟩
structure Fr (S:KD) (w w':Kv):Prop where
 os:w'.os=w.os
 tape:w'.tape=w.tape
 output:w'.output=w.output
 size:w.heap.size<=w'.heap.size
 block:∀ i,i<w.heap.size->i∉S->w'.heap[i]?=w.heap[i]?
def Fr.refl(S:KD)(w:Kv):Fr S w w:=⟨rfl,rfl,rfl,zM _,λ_ _ _=>rfl⟩
def Fr.of_same{w:Kv}(h:rJ w w'):Fr S w w':=⟨h.os,h.tape,h.output,by rw[h.heap];exact zM _,λ_ _ _=>by rw[h.heap]⟩
def Fr.trans{S:KD}{a b c:Kv}(h:Fr S a b)(k:Fr S b c):Fr S a c:=
 ⟨k.os.trans h.os,k.tape.trans h.tape,k.output.trans h.output,zL h.size k.size,λi hi hs=>(k.block i (yE hi h.size) hs).trans (h.block i hi hs)⟩
def Fr.mono{T:KD}{a b:Kv}(h:Fr S a b)(hs:∀i,i∈S->i<a.heap.size->i∈T):Fr T a b:=
 ⟨h.os,h.tape,h.output,h.size,λi hi ht=>h.block i hi λhS=>ht (hs i hS hi)⟩
def Fr.j8{T:KD}{a b c:Kv}(h:Fr S a b)(k:Fr T b c)(ht:∀i,i∈T->i∈S\/a.heap.size<=i):Fr S a c:=
 ⟨k.os.trans h.os,k.tape.trans h.tape,k.output.trans h.output,zL h.size k.size,λi hi hs=>(k.block i (yE hi h.size) λhT=>by rcases ht i hT with h'|h';exact hs h';omega).trans (h.block i hi hs)⟩
def Fr.drew{S:KD}{a b:Kv}(h:Fr S a b):Fr S a b.drew:=⟨h.os,h.tape,h.output,h.size,h.block⟩
def Fr.alloc{S:KD}{a b:Kv}(h:Fr S a b)(o:Obj):Fr S a (b.alloc o):=
 ⟨h.os,h.tape,h.output,by have:=h.size;simp;omega,λi hi hs=>by rw[<- h.block i hi hs];show (b.heap.push o)[i]?=_;rw[Array.getElem?_push,iN (by have:=h.size;omega)]⟩
def D3(w:Kv)(o:Obj)(i:Nat):(w.alloc o).heap[i]?=if i=w.heap.size then some o else w.heap[i]?:=by show (w.heap.push o)[i]?=_;rw[Array.getElem?_push]
def jy (w:Kv) (b:Nat) (o:Obj):Kv:={ w with heap:=w.heap.setIfInBounds b o }
def wO(w:Kv)(b:Nat)(o:Obj):(jy w b o).heap.size=w.heap.size:=by simp[jy]
def qY(w:Kv)(b:Nat)(o:Obj)(i:Nat)(h:b<w.heap.size):(jy w b o).heap[i]?=if i=b then some o else w.heap[i]?:=by show (w.heap.setIfInBounds b o)[i]?=_;rw[Kt];by_cases hi:b=i;subst hi;simp[h];rw[iN hi,iN λe=>hi e.symm]
def fl{w:Kv}{b:Nat}{o:Obj}(h:w.heap[b]?=some o):b<w.heap.size:=by rcases Nat.lt_or_ge b w.heap.size with hl|hl;exact hl;rw[Array.getElem?_eq_none hl] at h;cases h
def kD{w:Kv}{b off:Nat}(h:w.heap[b]?=some (.cells cs T fr)):w.cell? (dm b off)=cs[off]?:=by simp[World.cell?,h]
def qnv{w:Kv}{b off:Nat}(h:w.heap[b]?=some (.cells cs T fr))(v:Kw): w.setCell (dm b off) v=jy w b (.cells (cs.setIfInBounds off v) T fr):=by have hb:=fl h;unfold World.setCell jy;congr 1;apply Array.ext_getElem?;intro i;rw[Array.getElem?_modify,Kt];by_cases hi:b=i;subst hi;rw[iP rfl,iP rfl,iP hb,h];rfl;simp[hi]
def qvA(w:Kv)(b:Nat)(o o':Obj):jy (jy w b o) b o'=jy w b o':=by unfold jy;congr 1;apply Array.ext_getElem?;intro i;simp only[Kt,Array.size_setIfInBounds];by_cases hi:b=i<;>simp[hi]
def Addr.j1(b o n:Nat):Addr.add (dm b o) n=⟨b,o+n,none⟩:=Go.Addr.add_lit b o n
def DC{w:Kv}{b:Nat}{T:Kx}:∀(vs:List Kw) (off k:Nat) (cs:Array Kw) (w:Kv) (K:WP),w.heap[b]?=some (.c cs T)->(vs.all Value.oneCell')=true->off+k+vs.length<=cs.size-> K (jy w b (.c (ef cs (off+k) vs) T))->GE (dm b off) k vs w K
 | [],off,k,cs,w,K,hb,_,_,hk=>by
  have:jy w b (.c (ef cs (off+k) []) T)=w:=by
   unfold jy ef;have:w.heap.setIfInBounds b (.c cs T)=w.heap:=by apply Array.ext_getElem?;intro i;rw[Kt];by_cases hi:b=i;subst hi;rw[iP rfl,iP (fl hb),hb];simp[hi]
   rw[this]
  rw[this] at hk;exact hk
 | v::vs,off,k,cs,w,K,hb,h1,hl,hk=>by
  simp only[all_cons,yB] at h1;simp only[yJ] at hl;have hlt:off+k<cs.size:=oK;refine⟨⟨h1.1,⟨cs[off+k],?_⟩,?_⟩,?_⟩;rw[Addr.j1,kD hb];simp[hlt];rw[Addr.j1];simp[World.frozen?,hb];rw[Addr.j1,qnv hb];have hb':(jy w b (.c (cs.setIfInBounds (off+k) v) T)).heap[b]?=some (.c (cs.setIfInBounds (off+k) v) T):=by rw[qY _ _ _ _ (fl hb),iP rfl]
  refine DC (w:=w) vs off (k+1) _ _ K hb' h1.2 oP ?_;rw[qvA];exact hk
def vP{w:Kv}{b:Nat}{T:Kx}{fr:KQ}{cs:Array Kw}(hb:w.heap[b]?=some (.cells cs T fr)):∀(vs:List Kw) (off k:Nat),(cs.toList.drop (off+k)).take vs.length=vs->kx w (dm b off) k vs
 | [],_,_,_=>trivial
 | [v],off,k,h=>by
  show w.cell? _=_;rw[Addr.j1,kD hb];have:(cs.toList.drop (off+k))[0]?=some v:=by
   have:=Kr (·[0]?) h;simpa using this
  simpa using this
 | v::u::vs,off,k,h=>by
  have hv:(cs.toList.drop (off+k))[0]?=some v:=by
   have:=Kr (·[0]?) h;simpa using this
  refine⟨?_,vP hb (u::vs) off (k+1) ?_⟩;rw[Addr.j1,kD hb];simpa using hv;have:=Kr (List.drop 1) h;simp only[drop_succ_cons,xH,yJ] at this;rw[drop_take,xF] at this;exact this
structure ed (S:KD) (w0 w:Kv) (L:KK):Prop where
 jz:∀ p∈L,w.heap[p.1]?=some p.2
 nodup:(L.map (·.1)).Nodup
 fr:Fr S w0 w
 own:∀ p∈L,p.1∈S\/w0.heap.size<=p.1
variable {S:KD} {w0 w:Kv} {L:KK}
def ed.start(S:KD)(w:Kv):ed S w w []:=⟨oM,oM,.refl _ _,oM⟩
def ed.at(h:ed S w0 w L){i:Nat}{p:Nat×Obj}(hi:L[i]?=some p):w.heap[p.1]?=some p.2:=h.jz p (yG hi)
def ed.drew(h:ed S w0 w L):ed S w0 w.drew L:=⟨h.jz,h.nodup,h.fr.drew,h.own⟩
def ed.j0{T:KD}(h:ed S w0 w L)(k:Fr T w w')(ht:∀i∈T,i∈S\/w0.heap.size<=i)(hd:∀p∈L,p.1∉T):ed S w0 w' L:=
 ⟨λp hp=>by rw[k.block p.1 (fl (h.jz p hp)) (hd p hp)];exact h.jz p hp,h.nodup,h.fr.j8 k ht,h.own⟩
def ed.q8(h:ed S w0 w L)(k:Fr [] w w'):ed S w0 w' L:=h.j0 k oM oM
def ed.alloc(h:ed S w0 w L)(o:Obj):ed S w0 (w.alloc o) ((w.heap.size,o)::L):=by
 refine⟨λp hp=>?_,?_,h.fr.alloc o,λp hp=>?_⟩;rcases zG.1 hp with rfl|hp;rw[D3,iP rfl];have:=fl (h.jz p hp);rw[D3,iN];exact h.jz p hp;simp only[xQ];refine nodup_cons.2 ⟨λhm=>?_,h.nodup⟩;obtain⟨p,hp,he⟩:=mem_map.1 hm;have:=fl (h.jz p hp);omega;rcases zG.1 hp with rfl|hp;exact .inr h.fr.size;exact h.own p hp
def ed.new{o:Obj}{K:Nat->WP}(h:ed S w0 w L)(k:∀b w',b=w.heap.size->w'.heap.size=w.heap.size+1->ed S w0 w' ((b,o)::L)->K b w'):Pt.new o w K:=
 k _ _ rfl oM (h.alloc o)
def ed.ld{c:Cell}{b off:Nat}{cs:Array Kw}{T:Kx}{fr:KQ}{K:c.El->Prop}(h:ed S w0 w L)(i:Nat)(hi:L[i]?=some (b,.cells cs T fr))(x:c.El)(hx:cs[off]?=some (c.mk x))(k:K x):Pt.ld c (dm b off) w K:=
 ⟨x,by rw[kD (h.at hi)];exact hx,k⟩
def KA{c:Cell}{b off:Nat}{cs:Array Kw}{T:Kx}{fr:KQ}{K:c.El->Prop}(h:ed S w0 w L)(i:Nat)(hi:L[i]?=some (b,.cells cs T fr))(x:c.El)(k:K x)(hx:cs[off]?=some (c.mk x):=by exact rfl):Pt.ld c (dm b off) w K:=ed.ld h i hi x hx k
def ed.dT{cl:List Cell}{b off:Nat}{cs:Array Kw}{T:Kx}{fr:KQ}{K:HL cl->Prop}(h:ed S w0 w L)(i:Nat)(hi:L[i]?=some (b,.cells cs T fr))(x:HL cl)(hx:(cs.toList.drop off).take cl.length=HL.mk cl x)(k:K x):Pt.dT cl (dm b off) w K:=
 ⟨x,vP (h.at hi) _ off 0 (by rw[HL.j3];exact hx),k⟩
def KC{cl:List Cell}{b off:Nat}{cs:Array Kw}{T:Kx}{fr:KQ}{K:HL cl->Prop}(h:ed S w0 w L)(i:Nat)(hi:L[i]?=some (b,.cells cs T fr))(x:HL cl)(k:K x)(hx:(cs.toList.drop off).take cl.length=HL.mk cl x:=by exact rfl):Pt.dT cl (dm b off) w K:=ed.dT h i hi x hx k
def ed.jy{b:Nat}{o o':Obj}(h:ed S w0 w L)(i:Nat)(hi:L[i]?=some (b,o)):ed S w0 (Pt.jy w b o') (L.set i (b,o')):=by
 have hb:=h.at hi;have hlt:=fl hb;have hil:i<L.length:=by rcases Nat.lt_or_ge i L.length with hl|hl;exact hl;rw[yT hl] at hi;cases hi
 have hmap:(L.set i (b,o')).map (·.1)=L.map (·.1):=(by rw[map_set];apply ext_getElem?;intro j;rw[List.getElem?_set];by_cases hj:i=j;subst hj;rw[iP rfl,zQ,hi];simp[hil];simp[hj]);refine⟨λp hp=>?_,by rw[hmap];exact h.nodup,?_,λp hp=>?_⟩;obtain⟨j,hj,hpj⟩:=getElem_of_mem hp;have hpj':(L.set i (b,o'))[j]?=some p:=(by rw[zA hj,hpj]);rw[List.getElem?_set] at hpj';by_cases hij:i=j;subst hij;simp[hil] at hpj';subst hpj';rw[qY _ _ _ _ hlt,iP rfl];rw[iN hij] at hpj';have hne:p.1≠b:=by
  intro he;have h1:(L.map (·.1))[j]?=some b:=(by simp[hpj',he]);have h2:(L.map (·.1))[i]?=some b:=(by simp[hi]);have hj':j<(L.map (·.1)).length:=by rcases Nat.lt_or_ge j (L.map (·.1)).length with hl|hl;exact hl;rw[yT hl] at h1;cases h1
  have hi':i<(L.map (·.1)).length:=(oQ hil);rw[zA hj'] at h1;rw[zA hi'] at h2;have hne:=pairwise_iff_getElem.1 h.nodup;rcases Nat.lt_or_gt_of_ne hij with hl|hl;exact hne i j hi' hj' hl ((yP h2).trans (yP h1).symm);exact hne j i hj' hi' hl ((yP h1).trans (yP h2).symm)
 rw[qY _ _ _ _ hlt,iN hne];exact h.jz p (yG hpj');have hbo:=h.own (b,o) (yG hi);refine⟨h.fr.os,h.fr.tape,h.fr.output,by rw[wO];exact h.fr.size,λj hj hS=>?_⟩;rw[qY _ _ _ _ hlt,iN λe=>by subst e;rcases hbo with h1|h1;exact hS h1;omega];exact h.fr.block j hj hS;rcases mem_or_eq_of_mem_set hp with hp|rfl;exact h.own p hp;exact h.own (b,o) (yG hi)
def ed.st{b off:Nat}{cs:Array Kw}{T:Kx}{vs:List Kw}{K:WP}(h:ed S w0 w L)(i:Nat)(hi:L[i]?=some (b,.c cs T))(cs':Array Kw)(hcs:ef cs off vs=cs')(h1:(vs.all Value.oneCell')=true)(hl:Nat.ble (off+vs.length) cs.size=true)(k:∀w',ed S w0 w' (L.set i (b,.c cs' T))->w'.heap.size=w.heap.size->K w'):Pt.st (dm b off) vs w K:=
 DC (w:=w) vs off 0 cs w K (h.at hi) h1 (zO hl) (k _ (by rw[Nat.add_zero,hcs];exact h.jy i hi) (wO _ _ _))
def ed.nt{b:Nat}{o:Obj}(h:ed S w0 w L)(hb:w0.heap[b]?=some o)(hS:b∉S):w.heap[b]?=some o:=by rw[h.fr.block b (fl hb) hS];exact hb
def jH{c:Cell}{b off:Nat}{K:c.El->Prop}(hb:w.heap[b]?=some (.cells cs T fr))(x:c.El)(hx:cs[off]?=some (c.mk x))(k:K x):Pt.ld c (dm b off) w K:=
 ⟨x,by rw[kD hb];exact hx,k⟩
def ed.sub{L':KK}(h:ed S w0 w L)(hs:L'.Sublist L):ed S w0 w L':=
 ⟨λp hp=>h.jz p (hs.subset hp),(hs.map _).nodup h.nodup,h.fr,λp hp=>h.own p (hs.subset hp)⟩
def sM{s:Sl}{i:Int}{size:Nat}{K:Addr->Prop}{b o:Nat}(hs:s.a=some (dm b o))(hi:0<=i/\i<(s.len:Int))(k:K ⟨b,o+i.toNat*size,none⟩):idx s i size K:=
 ⟨_,hs,hi,by rw[Addr.j1];exact k⟩
end
end
section
open Go
variable {K:Prop} {cs:Array Kw} {w:Kv}
def Ay{S:Type}{B:(S->WP)->S->WP}{s:S}(h:∀X:S->WP,(∀s w,loop S B s w->X s w)->B X s w):loop S B s w:=by intro J hJ;exact hJ s w (h J λs' w' hl=>hl J hJ)
def qra{S:Type}{B:(S->WP)->S->WP}{s:S}(s':S)(hs:s=s')(h:∀X:S->WP,(∀s w,loop S B s w->X s w)->B X s' w):loop S B s w:=by subst hs;exact Ay h
def cond_true{b:Bool}{A B:Prop}(h:b=true)(k:A):cond b A B:=by rw[h];exact k
def JT{b:Bool}{A B:Prop}(h:b=true)(k:A):cond b A B:=by rw[h];exact k
def cond_false{b:Bool}{A B:Prop}(h:b=false)(k:B):cond b A B:=by rw[h];exact k
def JU{b:Bool}{A B:Prop}(h:b=false)(k:B):cond b A B:=by rw[h];exact k
def qZ{b o len cap:Nat}{i:Int}{size:Nat}{K:Addr->Prop}(h0:0<=i)(h1:i<(len:Int))(k:K ⟨b,o+i.toNat*size,none⟩):idx ⟨some (dm b o),len,cap⟩ i size K:=
 sM rfl ⟨h0,h1⟩ k
def ja{H:WP}(h:H w)(k:K):held [H] w K:=⟨h,k⟩
def kH{H H':WP}(h:H w)(h':H' w)(k:K):held [H,H'] w K:=⟨⟨h,h'⟩,k⟩
def nM{H H' H'':WP}(h:H w)(h':H' w)(h'':H'' w)(k:K):held [H,H',H''] w K:=⟨⟨h,h',h''⟩,k⟩
section
variable {S:KD} {w0 w:Kv} {L:KK}
def ed.cell{b off:Nat}{cs:Array Kw}{T:Kx}{fr:KQ}{v:Kw}(h:ed S w0 w L)(i:Nat)(hi:L[i]?=some (b,.cells cs T fr):=by exact rfl)(hx:cs[off]?=some v:=by exact rfl):w.cell? (dm b off)=some v:=by rw[kD (h.at hi)];exact hx
def ed.cells{b off:Nat}{cs:Array Kw}{T:Kx}{fr:KQ}{vs:List Kw}(h:ed S w0 w L)(i:Nat)(hi:L[i]?=some (b,.cells cs T fr):=by exact rfl)(hx:(cs.toList.drop off).take vs.length=vs:=by exact rfl):kx w (dm b off) 0 vs:=
 vP (h.at hi) _ off 0 hx
end
def Cz (P:Ky) (t:Kx) (cs:Array Kw) (off:Nat):Option Kw:=
 bif pG P t then bif fQ P t then some (.agg (cs.extract off (off+fG P t))) else cs[off]? else none
def GB{P:Ky}{t:Kx}{off:Nat}{v:Kw}(h:Cz P t cs off=some v)(w:Kv):(part t cs off).run P w=.ok v w:=by
 unfold Cz at h;cases ho:pG P t with
 | false=>rw[ho] at h;cases h
 | true=>
  rw[ho] at h;rw[CY (by simp[ho])];cases ha:fQ P t with
  | true=>rw[ha] at h;simp at h;simp[h]
  | false=>rw[ha] at h;simp at h;simp[h]
def sY (P:Ky) (f:Kx->Kw->Kw->Option Bool) (xs ys:Array Kw):List Field->Option Bool
 | []=>some true
 | x::fs=>
  if x.name≠ "_" then
   match Cz P x.type xs x.offset,Cz P x.type ys x.offset with
   | some a,some b=>match f x.type a b,sY P f xs ys fs with
    | some r,some q=>some (bif r then q else false)
    | _,_=>none
   | _,_=>none
  else sY P f xs ys fs
def t6 (P:Ky) (f:Kx->Kw->Kw->Option Bool) (e:Kx) (n:Nat) (xs ys:Array Kw):KD->Option Bool
 | []=>some true
 | i::is=>
  match Cz P e xs (i*n),Cz P e ys (i*n) with
  | some a,some b=>match f e a b,t6 P f e n xs ys is with
   | some r,some q=>some (bif r then q else false)
   | _,_=>none
  | _,_=>none
def v7 (P:Ky):Nat->Kx->Kw->Kw->Option Bool
 | 0,_,_,_=>none
 | d+1,t,x,y=>
  match P.underlying t,x,y with
  | some .bool,.bool a,.bool b=>some (a==b)
  | some (.int _),.int k a,.int k' b=>bif k==k' then some (a==b) else none
  | some .string,.string a,.string b=>some (a.toList==b.toList)
  | some (.struct _),.agg xs,.agg ys=>bif P.stoodInHeld t then none else sY P (v7 P d) xs ys (P.fieldsOf t).toList
  | some (.array n e),.agg xs,.agg ys=>bif pG P e then t6 P (v7 P d) e (P.cellsOf e) xs ys (List.range n) else none
  | _,_,_=>none
def Hj{P:Ky}{d:Nat}{f:Kx->Kw->Kw->Option Bool}(hf:∀t x y r,f t x y=some r->∀w,(Op.equalIn d t x y).run P w=.ok r w){xs ys:Array Kw}: ∀ {fs:List Field} {r:Bool},sY P f xs ys fs=some r->∀w,(Op.eqFields d xs ys fs).run P w=.ok r w
 | [],r,h,w=>by simp[sY] at h;subst h;rfl
 | x::fs,r,h,w=>by
  simp only[sY] at h;simp only[Op.eqFields];split at h;rename_i hn;rw[iP hn];split at h;rename_i a b ha hb;split at h;rename_i r1 q h1 h2;cases h;simp only[Kb,GB ha,GB hb,Kc,hf _ _ _ _ h1];cases r1 with
  | false=>simp
  | true=>simpa using Hj hf h2 w
  cases h;cases h;rename_i hn;rw[iN hn];exact Hj hf h w
def qsI{P:Ky}{d:Nat}{f:Kx->Kw->Kw->Option Bool}(hf:∀t x y r,f t x y=some r->∀w,(Op.equalIn d t x y).run P w=.ok r w){e n:Nat}{xs ys:Array Kw}: ∀ {is:KD} {r:Bool},t6 P f e n xs ys is=some r->∀w,(Op.eqItems d e n xs ys is).run P w=.ok r w
 | [],r,h,w=>by simp[t6] at h;subst h;rfl
 | i::is,r,h,w=>by
  simp only[t6] at h;simp only[Op.eqItems];split at h;rename_i a b ha hb;split at h;rename_i r1 q h1 h2;cases h;simp only[Kb,GB ha,GB hb,Kc,hf _ _ _ _ h1];cases r1 with
  | false=>simp
  | true=>simpa using qsI hf h2 w
  cases h;cases h
def FF{P:Ky}:∀(d:Nat) (t:Kx) (x y:Kw) (r:Bool),v7 P d t x y=some r->∀k w,(Op.equalIn (d+k) t x y).run P w=.ok r w
 | 0,_,_,_,_,h,_,_=>by cases h
 | d+1,t,x,y,r,h,k,w=>by
  rw[show d+1+k=(d+k)+1 by omega];simp only[v7] at h;split at h;rename_i hu;cases h;exact run_equalIn_bool' w _ _ _ _ hu;rename_i q k1 a k2 b hu;cases hkk:k1==k2 with
  | false=>rw[hkk] at h;cases h
  | true=>
   rw[hkk] at h;cases h
   have:=eq_of_beq hkk;subst this;exact run_equalIn_int w _ _ _ _ _ _ hu
  rename_i hu;cases h;exact run_equalIn_string w _ _ _ _ hu;rename_i hu;cases hs:P.stoodInHeld t with
  | true=>rw[hs] at h;cases h
  | false=>
   rw[hs] at h;rw[run_equalIn_struct w (d+k) t _ _ (by rw[hu];unfold Program.fieldsOf;rw[hu]) hs];exact Hj (λt x y r h w=>FF d t x y r h k w) h w
  rename_i n e xs ys hu;cases ho:pG P e with
  | false=>rw[ho] at h;cases h
  | true=>
   rw[ho] at h;obtain⟨i,hi⟩:=Option.isSome_iff_exists.1 (vQ (P:=P) (t:=e) (by simp[ho])).1;rw[run_equalIn_array w (d+k) xs ys hu hi];exact qsI (λt x y r h w=>FF d t x y r h k w) h w
  cases h
def qBH{P:Ky}{t:Kx}{x y:Operand}{ds:Array Kw}{K:Bool->Prop}(d:Nat)(hd:d<=10000)(r:Bool)(h:v7 P d t (.agg cs) (.agg ds)=some r)(hg:P.eqGuardType P.depth t=false)(k:K r): fM [i3.one Cell.bool] (λw'=>(do eqGuard .eql t x y (.agg cs) (.agg ds);binOp .eql t (.agg cs) (.agg ds):Sem Kw).run P w') w K:=by have hr:=FF d t _ _ r h (10000-d) w;rw[show d+(10000-d)=10000 by omega] at hr;have hb:(binOp .eql t (.agg cs) (.agg ds)).run P w=.ok (.bool r) w:=vw (P:=P) false hr oM oM oM oM;refine⟨r,?_,k⟩;show ((do eqGuard .eql t x y (.agg cs) (.agg ds);binOp .eql t (.agg cs) (.agg ds):Sem Kw).run P w)=Result.ok (Value.bool r) w;simp[eqGuard,hg,hb]
end
section
open Go Go.RowKit Go.ChangeShapes List
variable {P:Ky} {base:Nat} {r:Reach} {w:Kv}
def pa (P:Ky) (u:Kx):Cell:=
 match P.underlying u with
 | some (.int k)=>.int k
 | some .bool=>.bool
 | some .string=>.str
 | some (.pointer _)=>.ptr
 | some (.slice _)=>.slice
 | some (.map _ _)=>.map
 | _=>.any
@[reducible] def vh:(c:Cell)->c.El->Prop
 | .int k,n=>k.has n
 | .str,s=>(s.size:Int)<=IntKind.i64.max
 | .slice,s=>s.len<=s.cap/\(s.cap:Int)<=IntKind.i64.max/\(s.a=none->s.cap=0)
 | _,_=>True
def GI{u:Kx}{v:Kw}{c:Cell}(hc:pa P u=c)(h:Cell.okWide P w r base u v):∃x:c.El,v=c.mk x/\vh c x:=by
 unfold pa at hc;split at hc<;>subst hc;rename_i k hu;simp only[Cell.okWide,hu] at h;cases v<;>simp only[Cell.ok,hu] at h;rename_i q n;obtain⟨rfl,h⟩:=h;exact⟨n,rfl,h⟩;rename_i hu;simp only[Cell.okWide,hu] at h;cases v<;>simp only[Cell.ok,hu] at h;rename_i b;exact⟨b,rfl,trivial⟩;rename_i hu;simp only[Cell.okWide,hu] at h;cases v<;>simp only[Cell.ok,hu] at h;rename_i s;exact⟨s,rfl,h⟩;rename_i e hu;simp only[Cell.okWide,hu] at h;cases v<;>simp only[Cell.ok,hu] at h;rename_i p;exact⟨p,rfl,trivial⟩;rename_i e hu;simp only[Cell.okWide,hu] at h;cases v<;>simp only[Cell.ok,hu] at h;rename_i a l c;cases a with
 | none=>
  cases l with
  | succ l=>simp at h
  | zero=>cases c with
   | succ c=>simp at h
   | zero=>exact⟨dR,rfl,zM _,oN,λ_=>rfl⟩
 | some a=>exact⟨⟨some a,l,c⟩,rfl,h.1,h.2.1,λe=>by cases e⟩
 rename_i k e hu;simp only[Cell.okWide,hu] at h;cases v<;>simp only[Cell.ok,hu] at h;rename_i m;exact⟨m,rfl,trivial⟩;exact⟨v,rfl,trivial⟩
def eK:(cs:List Cell)->HL cs->Prop
 | [],_=>True
 | [c],x=>vh c x
 | c::d::cs,x=>vh c x.1/\eK (d::cs) x.2
def qoA{P:Ky}{w:Kv}{r:Reach}{base:Nat}:∀ {ts:List Kx} {vs:List Kw} {cs:List Cell},ts.map (pa P)=cs->vs.length=ts.length->(∀(i:Nat) v,vs[i]?=some v->∃u,ts[i]?=some u/\Cell.okWide P w r base u v)->∃x:HL cs,vs=HL.mk cs x/\eK cs x
 | [],vs,cs,hc,hl,h=>by simp at hc hl;subst hc hl;exact⟨(),rfl,trivial⟩
 | [t],vs,cs,hc,hl,h=>by
  simp at hc hl;subst hc;match vs,hl with
  | [v],_=>
   obtain⟨u,hu,ho⟩:=h 0 v rfl;simp at hu;subst hu;obtain⟨x,hx,hf⟩:=GI rfl ho;exact⟨x,by rw[hx];rfl,hf⟩
 | t::t'::ts,vs,cs,hc,hl,h=>by
  match vs,hl with
  | v::vs,hl=>
   simp only[xQ] at hc;subst hc;obtain⟨u,hu,ho⟩:=h 0 v rfl;simp at hu;subst hu;obtain⟨x,hx,hf⟩:=GI rfl ho;obtain⟨y,hy,hg⟩:=qoA (P:=P) (w:=w) (r:=r) (base:=base) (ts:=t'::ts) (vs:=vs) rfl (oQ hl) (λi v hv=>by simpa using h (i+1) v (oQ hv));exact⟨(x,y),by rw[hx,hy];rfl,hf,hg⟩
def qzf{t:Kx}{v:Kw}{cs:List Cell}(ht:fQ P t=true)(hts:(P.cellTypes P.depth t).map (List.map (pa P))=some cs)(hn:P.cellsOf t=cs.length)(h:Value.okWide P w r base t v):∃x:HL cs,v=.agg (HL.mk cs x).toArray/\eK cs x:=by
 obtain⟨ts,hts,hc⟩:=yU.1 hts;replace hn:P.cellsOf t=ts.length:=(by rw[hn,<- hc];simp);have h':∃cs,v=.agg cs/\cs.size=P.cellsOf t/\Row.okWide P w r base t cs:=by
  unfold Value.okWide at h;unfold fQ at ht;split at h;exact h;exact h
  ·exfalso;split at ht<;>simp_all
 obtain⟨vs,rfl,hsz,ts',hts',_,hall⟩:=h';rw[hts] at hts';cases hts';obtain⟨x,hx,hf⟩:=qoA (vs:=vs.toList) hc (by simpa[hn] using hsz) (λi v hv=>by
  have hv':vs[i]?=some v:=(oQ hv);have hi:i<ts.length:=by rw[<- hn,<- hsz];rcases Nat.lt_or_ge i vs.size with hl|hl;exact hl;rw[Array.getElem?_eq_none hl] at hv';cases hv'
  have:=hall i v hv';rw[Nat.mod_eq_of_lt hi] at this;exact this)
 exact⟨x,by rw[<- hx],hf⟩
def qtf{t:Kx}{v:Kw}{c:Cell}(ht:fQ P t=false)(hc:pa P t=c)(h:Value.okWide P w r base t v):∃x:c.El,v=c.mk x/\vh c x:=by
 refine GI hc (w:=w) (r:=r) (base:=base) ?_;unfold Value.okWide at h;unfold fQ at ht;split at h
 ·simp_all
 ·simp_all
 exact h
def Fr.below{w':Kv}(h:Fr [] w w'):Below w.heap.size w w':=⟨h.os,h.tape,h.output,h.size,λi hi=>h.block i hi oM⟩
section
variable {H:Type} {enc:Kx×Kw->H} {P:Ky}
def qkr(hl:laidOutB P=true){W W':Kv}(hb:Below W.heap.size W W'):∀ {ts:List Kx} {vs:List Kw} {ds:List (DataW H)} {ps:List MemPlace}, (ts.all λt=>P.readableRec t&&decide (t<P.types.size))=true->DataW.TrodAll enc P W 0 (λ_=>true) true ts vs ds ps->(∀x∈ps,x.block<W.heap.size)-> DataW.TrodAll enc P W' 0 (λb=>decide (b<W.heap.size)) true ts vs ds ps
 | [],vs,ds,ps,_,h,_=>by obtain⟨rfl,rfl,rfl⟩:=trodAll_nil h;exact trodAll_mk0
 | t::ts,vs,ds,ps,hr,h,hlt=>by
  simp only[all_cons,yB,decide_eq_true_eq] at hr;obtain⟨v,vs',d,ds',p,p',rfl,rfl,rfl,h1,h2⟩:=trodAll_cons h;exact trodAll_cons_mk (Below.trod hl hr.1.1 hr.1.2 h1 hb λx hx=>hlt x (zH _ hx))
   (qkr hl hb (oQ hr.2) h2 λx hx=>hlt x (zI _ hx))
def qzJ{fn:Func}{s:ChangeSpec}{W W':Kv}{args:Array Kw}{ds gs:List (DataW H)}{before:List MemPlace}{tb:Kx}(hv:s.vars=[])(hW:DataW.Whole enc P fn.params.toList s.vars false W args.toList ds gs before)(hs:(s.fn H ds).results=[.lit (.bool true)]/\(s.fn H ds).args=ds/\(s.fn H ds).vars=[])(hl:laidOutB P=true)(hr:(fn.params.toList.all λt=>P.readableRec t&&decide (t<P.types.size))=true)(hres:fn.resultTypes = #[tb])(htb:P.underlying tb=some .bool)(hb:Below W.heap.size W W'):ChangeSpec.post enc P fn s false true false false W args (.bool true) W':=by have hW':=hW;obtain⟨p,q,hA,hV,hbe,_,_⟩:=hW;rw[hv] at hV;obtain⟨rfl,rfl⟩:=trodVars_none hV;obtain⟨h1,h2,h3⟩:=hs;rw[<- xJ ds] at h1 h2 h3;refine⟨ds,[],before,[],p,[],hW',?_,?_,?_,hb.frame _,λh=>by cases h⟩;rw[h1,hres];exact trodAll_cons_mk (shut_bool htb _) trodAll_mk0;rw[h2,xJ];exact qkr hl hb hr hA λx hx=>hW'.lt x (by rw[hbe];exact zH _ hx);rw[h3,hv];exact (rfl:DataW.TrodVars enc P W' (λb=>decide (b<W.heap.size)) [] [] [])
end
end
section
open Go List
variable {B S:KD} {K:Sl->WP} {a:Addr} {cs:Array Kw} {r:Result Kw} {s:Sl} {t ty:Kx} {ts:List i3} {w':Kv} {z:Kw}
variable {P:Ky} {w:Kv}
def AI{b:Nat}{T:Kx}{fr:KQ}:∀ {vs:List Kw} {off:Nat} {w:Kv} {cs:Array Kw},w.heap[b]?=some (.cells cs T fr)->w.setCells b off vs=jy w b (.cells (ef cs off vs) T fr)
 | [],off,w,cs,h=>by
  show w=_;unfold jy ef;have:w.heap.setIfInBounds b (.cells cs T fr)=w.heap:=by apply Array.ext_getElem?;intro i;rw[Kt];by_cases hi:b=i;subst hi;rw[iP rfl,iP (fl h),h];simp[hi]
  rw[this]
 | v::vs,off,w,cs,h=>by have h1:w.setCells b off (v::vs)=(w.setCell (dm b off) v).setCells b (off+1) vs:=rfl;rw[h1,qnv h];have h2:(jy w b (.cells (cs.setIfInBounds off v) T fr)).heap[b]?=some (.cells (cs.setIfInBounds off v) T fr):=(by rw[qY _ _ _ _ (fl h),iP rfl]);rw[AI h2,qvA];rfl
def uN{s b:Nat}(h:(P.info? t).map (λi=>(i.zero,i.size,i.bytes))=some (some z,s,b)):∃i,P.info? t=some i/\i.zero=some z/\i.size=s/\i.bytes=b:=by obtain⟨i,hi,he⟩:=yU.1 h;simp only[Prod.mk.injEq] at he;exact⟨i,hi,he.1,he.2.1,he.2.2⟩
def tP{r:Kv->Result Kw}{K:jx ts->Prop}(x:jx ts)(h:r w=.ok (gE ts x) w)(k:K x):fM ts r w K:=⟨x,h,k⟩
def qyH{K:jx ts->WP}(x:jx ts)(w':Kv)(h:r=.ok (gE ts x) w')(k:K x w'):Pt.run ts r K:=⟨x,w',h,k⟩
def Gz{r:Result Unit}{K:WP}(w':Kv)(h:r=.ok () w')(k:K w'):i9 r K:=⟨w',h,k⟩
def JD(a:Addr):a.add 0=a:=by
 cases a with
 | mk b o k=>cases k<;>simp[Addr.add]
def Aw{hi:Int}{size:Nat}{K:Sl->Prop}(h:0<=hi/\hi<=s.cap)(k:K ⟨s.a,hi.toNat,s.cap⟩):gb s none (some hi) none size K:=by
 unfold gb;refine⟨⟨oM,by simpa using h.1,by simpa using h.2,oM⟩,?_⟩;have e:(s.a.map (·.add ((none:Option Int).getD 0).toNat))=s.a:=by
  cases s.a with
  | none=>rfl
  | some a=>simp[JD]
 simp only[xY,xX,Int.toNat_zero,Nat.zero_mul,Nat.sub_zero,zJ] at e⊢;rw[e,ite_self];exact k
def qCe{b o len cap:Nat}{lo:Int}{size:Nat}{K:Sl->Prop}(h:0<=lo/\lo<=len)(hc:len<=cap)(k:∀o',(lo<cap->o'=o+lo.toNat*size)->K ⟨some ⟨b,o',none⟩,len-lo.toNat,cap-lo.toNat⟩): gb ⟨some (dm b o),len,cap⟩ (some lo) none none size K:=by unfold gb;refine⟨⟨by simpa using h.1,by simpa using h.2,by simpa using hc,oM⟩,?_⟩;simp only[xY,xX,zJ];by_cases e:cap=lo.toNat;rw[iP e];exact k o λh=>oK;rw[iN e];simp only[Option.map_some,Addr.j1];exact k _ (λ_=>rfl)
def xa(s:Sl)(w':Kv)(h:r=.ok (.slice s.a s.len s.cap) w')(k:K s w'):Pt.run dp r K:=⟨s,w',h,k⟩
def qAM{e:Kx}{i:TypeInfo}{b off n cap m c:Nat}{T:Kx}(ht:P.underlying t=some (.slice e))(hi:P.info? e=some i)(news:List Kw)(hb:w.heap[b]?=some (.c cs T))(hl:news.length=m*i.size)(hnews:∀(j:Nat) u,news[j]?=some u->w.cell? (a.add j)=some u)(h1:∀u∈news,u.oneCell'=true)(hroom:n+m<=cap)(hsz:off+n*i.size+news.length<=cs.size)(k:K ⟨some (dm b off),n+m,cap⟩ (jy w b (.c (ef cs (off+n*i.size) news) T))): Pt.run dp ((Builtin.append_ #[t,t] ty #[.slice (some (dm b off)) n cap,.slice (some a) m c]).run P w) K:=by refine xa ⟨_,_,_⟩ _ (run_append_room_cells w t ty e i ht hi b off n cap a m c news hl hnews h1 hroom (λj hj=>?_) λj hj=>?_) ?_;rw[kD hb];have:off+n*i.size+j<cs.size:=oK;simp[this];simp[World.frozen?,hb];rw[AI hb];exact k
def qzh{e:Kx}{i:TypeInfo}{b:Addr}{n cap m c:Nat}(ht:P.underlying t=some (.slice e))(hi:P.info? e=some i)(hz:i.zero=some z)(olds news:List Kw)(hlo:olds.length=n*i.size)(holds:∀(j:Nat) u,olds[j]?=some u->w.cell? (b.add j)=some u)(hl:news.length=m*i.size)(hnews:∀(j:Nat) u,news[j]?=some u->w.cell? (a.add j)=some u)(hg:cap<n+m)(hbytes:(n+m)*i.bytes<=140737488355328)(h63:n+m<=9223372036854775807)(k:∀q,n+m<=q->q<=maxLen->K ⟨some ⟨w.heap.size,0,none⟩,n+m,q⟩ (w.drew.alloc (.cells (olds.toArray++news.toArray++Builtin.zeroCells z.cells (q-(n+m))) e))): Pt.run dp ((Builtin.append_ #[t,t] ty #[.slice (some b) n cap,.slice (some a) m c]).run P w) K:=by exact xa ⟨_,_,_⟩ _ (run_append_grow w t ty e i z ht hi hz b n cap olds hlo holds a m c news hl hnews hg oK (growslice_fits hg hbytes))<|k _ (grownCap_ge w (n+m) cap e) (grownCap_le_maxLen w (n+m) cap e (by unfold maxLen;omega))
def qAN{e:Kx}{i:TypeInfo}{m c:Nat}(ht:P.underlying t=some (.slice e))(hi:P.info? e=some i)(hz:i.zero=some z)(news:List Kw)(hl:news.length=m*i.size)(hnews:∀(j:Nat) u,news[j]?=some u->w.cell? (a.add j)=some u)(hm:0<m)(hbytes:m*i.bytes<=140737488355328)(h63:m<=9223372036854775807)(k:∀q,m<=q->q<=maxLen->K ⟨some ⟨w.heap.size,0,none⟩,m,q⟩ (w.drew.alloc (.cells (news.toArray++Builtin.zeroCells z.cells (q-m)) e))): Pt.run dp ((Builtin.append_ #[t,t] ty #[.slice none 0 0,.slice (some a) m c]).run P w) K:=by exact xa ⟨_,_,_⟩ _ (run_append_nil w t ty e i z ht hi hz a m c news hl hnews hm oK oK)<|k _ (grownCap_ge w m 0 e) (grownCap_le_maxLen w m 0 e (by unfold maxLen;omega))
section
section
variable {α:Type} {enc:α->List Kw} {k:Nat}
def eE (enc:α->List Kw) (k:Nat) (S:KD) (w:Kv) (s:Sl) (l:List α):Prop:=
 s.len=l.length/\s.len<=s.cap/\(l=[]\/∃b o cs T fr,s.a=some (dm b o)/\w.heap[b]?=some (.cells cs T fr)/\b∉S/\∀(i:Nat) x,l[i]?=some x->(cs.toList.drop (o+i*k)).take k=enc x)
def eE.j0{S':KD}{w:Kv}{l:List α}(h:eE enc k S w s l)(f:Fr S w w')(hS:∀b∈S',b∈S\/w.heap.size<=b):eE enc k S' w' s l:=by
 obtain⟨h1,h2,h3⟩:=h;refine⟨h1,h2,?_⟩;rcases h3 with h3|⟨b,o,cs,T,fr,ha,hb,hn,hc⟩;exact .inl h3;refine .inr ⟨b,o,cs,T,fr,ha,by rw[f.block b (fl hb) hn];exact hb,λhs=>?_,hc⟩;have:=fl hb;rcases hS b hs with h'|h';exact hn h';omega
def eE.q8{w:Kv}{l:List α}(h:eE enc k S w s l)(f:Fr [] w w'):eE enc k S w' s l:=
 h.j0 (f.mono λi hi _=>by cases hi) (λb hb=>.inl hb)
def eE.drew{S:KD}{w:Kv}{s:Sl}{l:List α}(h:eE enc k S w s l):eE enc k S w.drew s l:=h
def eE.same{w:Kv}{l:List α}(h:eE enc k S w s l)(f:rJ w w'):eE enc k S w' s l:=h.j0 (.of_same f) (λb hb=>.inl hb)
def eE.j6{S':KD}{w:Kv}{l:List α}(h:eE enc k S w s l)(hS:∀b∈S',b∈S\/w.heap.size<=b):eE enc k S' w s l:=h.j0 (.refl _ _) hS
def eE.nil(enc:α->List Kw)(k:Nat)(S:KD)(w:Kv):eE enc k S w dR []:=⟨rfl,zM _,.inl rfl⟩
def eE.at{S:KD}{w:Kv}{s:Sl}{l:List α}(h:eE enc k S w s l)(n:Nat){x:α}(hx:l[n]?=some x): n<s.len/\∃b o,s.a=some (dm b o)/\b∉S/\∃cs T fr,w.heap[b]?=some (.cells cs T fr)/\(cs.toList.drop (o+n*k)).take k=enc x:=by obtain⟨h1,h2,h3⟩:=h;have hn:n<l.length:=(zP.1 hx).1;rcases h3 with h3|⟨b,o,cs,T,fr,ha,hb,hnS,hc⟩;rw[h3] at hx;simp at hx;exact⟨oK,b,o,ha,hnS,cs,T,fr,hb,hc n x hx⟩
def eE.get{w:Kv}{l:List α}{c:Cell}(h:eE enc 1 S w s l)(n:Nat){i:Int}{x:α}{y:c.El}{K:c.El->Prop}(hi:i=n)(hx:l[n]?=some x)(hy:enc x=[c.mk y])(kk:K y):idx s i 1 λa=>ld c a w K:=by
 subst hi;obtain⟨hn,b,o,ha,_,cs,T,fr,hb,hc⟩:=h.at n hx;refine sM ha ⟨oK,oK⟩ ?_;rw[zJ];refine jH hb y ?_ kk;rw[hy] at hc;have:=Kr (·[0]?) hc;simpa using this
def eE.p6{w:Kv}{l:List α}{cl:List Cell}(h:eE enc k S w s l)(n:Nat){i:Int}{x:α}{y:HL cl}{K:HL cl->Prop}(hi:i=n)(hx:l[n]?=some x)(hk:cl.length=k)(hy:enc x=HL.mk cl y)(kk:K y):idx s i k λa=>dT cl a w K:=by subst hi hk;obtain⟨hn,b,o,ha,_,cs,T,fr,hb,hc⟩:=h.at n hx;refine sM ha ⟨oK,oK⟩ ?_;rw[zJ];refine⟨y,vP hb _ _ 0 ?_,kk⟩;rw[HL.j3,Nat.add_zero,hc,hy]
def eE.drop{S:KD}{w:Kv}{s:Sl}{l:List α}(h:eE enc k S w s l)(n:Nat){lo:Int}{K:Sl->Prop}(hlo:lo=n)(hn:n<=l.length)(hl:0<l.length)(kk:∀s',eE enc k S w s' (l.drop n)->K s'):gb s (some lo) none none k K:=by
 subst hlo;obtain⟨h1,h2,h3⟩:=h;rcases h3 with h3|⟨b,o,cs,T,fr,ha,hb,hnS,hc⟩;rw[h3] at hl;simp at hl;obtain⟨a,len,cap⟩:=s;simp only at ha h1 h2;subst ha;refine qCe ⟨oK,oK⟩ h2 λo' ho'=>?_;rw[zJ] at ho'⊢;refine kk _ ⟨by simp only[yC];omega,by dsimp only;omega,?_⟩;by_cases he:l.drop n=[];exact .inl he;have hlt:n<l.length:=by rcases Nat.lt_or_ge n l.length with h|h;exact h;exact absurd (vG h) he
 refine .inr ⟨b,o',cs,T,fr,rfl,hb,hnS,λi x hx=>?_⟩;rw[ho' oK,Nat.add_assoc,<- xW];refine hc (n+i) x ?_;rw[xB] at hx;exact hx
def eE.cells{w:Kv}{l:List α}(h:eE enc k S w s l)(henc:∀x,(enc x).length=k)(ha:s.a=some a):∀(j:Nat) u,(l.flatMap enc)[j]?=some u->w.cell? (a.add j)=some u:=by
 obtain⟨h1,h2,h3⟩:=h;rcases h3 with h3|⟨b,o,cs,T,fr,ha',hb,hnS,hc⟩;rw[h3];intro j u hj;simp at hj;rw[ha'] at ha;cases ha;have key:∀(l:List α) (o:Nat),(∀(i:Nat) x,l[i]?=some x->(cs.toList.drop (o+i*k)).take k=enc x)->∀(j:Nat) u,(l.flatMap enc)[j]?=some u->cs[o+j]?=some u:=by
  intro l;induction l with
  | nil=>intro o _ j u hj;simp at hj
  | cons x l ih=>
   intro o hc j u hj;rw[yI] at hj;by_cases hjk:j<k;rw[xA (by rw[henc];exact hjk)] at hj;have h0:=hc 0 x rfl;rw[<- h0,xC,iP hjk,xB] at hj;simpa using hj;rw[yZ (by rw[henc];omega),henc] at hj;have:=ih (o+k) (λi x hx=>by
    have:=hc (i+1) x (oQ hx);rw[<- this];congr 2;rw[xW];omega) (j-k) u hj
   rw[<- this];congr 1;omega
 intro j u hj;rw[Addr.j1,kD hb];exact key l o hc j u hj
def fB (enc:α->List Kw) (k:Nat) (w:Kv) (s:Sl) (l:List α) (B:KD):Prop:=
 (s=dR/\l=[]/\B=[])\/∃b o cs T,B=[b]/\o=0/\s.a=some (dm b o)/\w.heap[b]?=some (.c cs T)/\s.len=l.length/\s.len<=s.cap/\o+s.cap*k<=cs.size/\(cs.toList.drop o).take (l.length*k)=l.flatMap enc
def rR(henc:∀x,(enc x).length=k):∀l:List α,(l.flatMap enc).length=l.length*k
 | []=>by simp
 | x::l=>by rw[yI,zF,henc,rR henc l,yJ,xW];omega
def Ju(henc:∀x,(enc x).length=k):∀(l:List α) (i:Nat) (x:α),l[i]?=some x->((l.flatMap enc).drop (i*k)).take k=enc x
 | [],i,x,h=>by simp at h
 | y::l,0,x,h=>by simp at h;subst h;rw[yI,Nat.zero_mul,xH,JX (by rw[henc];exact zM _),zS (by rw[henc];exact zM _)]
 | y::l,i+1,x,h=>by rw[yI,xW,Nat.one_mul,Nat.add_comm,drop_append,henc,vF,vG (by rw[henc];omega),xK];exact Ju henc l i x (oQ h)
def fB.nil(enc:α->List Kw)(k:Nat)(w:Kv):fB enc k w dR [] []:=.inl ⟨rfl,rfl,rfl⟩
def fB.len{w:Kv}{s:Sl}{l:List α}{B:KD}(h:fB enc k w s l B):s.len=l.length:=by rcases h with ⟨rfl,rfl,_⟩|⟨b,o,cs,T,_,_,_,_,h,_⟩;rfl;exact h
def fB.k5{w:Kv}{l:List α}(henc:∀x,(enc x).length=k)(h:fB enc k w s l B)(hS:∀b∈B,b∉S):eE enc k S w s l:=by
 rcases h with ⟨rfl,rfl,rfl⟩|⟨b,o,cs,T,rfl,ho0,ha,hb,h1,h2,h3,h4⟩;exact .nil _ _ _ _;refine⟨h1,h2,.inr ⟨b,o,cs,T,_,ha,hb,hS b oM,λi x hx=>?_⟩⟩;have hi:=(zP.1 hx).1;have:=Ju henc l i x hx;rw[<- h4] at this;rw[<- this,drop_take,xF,take_take,xT];have:(i+1)*k<=l.length*k:=Kk k hi;rw[xW] at this;omega
def fB.j0{w:Kv}{l:List α}(h:fB enc k w s l B)(f:Fr S w w')(hS:∀b∈B,b∉S):fB enc k w' s l B:=by rcases h with h|⟨b,o,cs,T,rfl,ho0,ha,hb,h1⟩;exact .inl h;exact .inr ⟨b,o,cs,T,rfl,ho0,ha,by rw[f.block b (fl hb) (hS b oM)];exact hb,h1⟩
def fB.q8{w:Kv}{l:List α}(h:fB enc k w s l B)(f:Fr [] w w'):fB enc k w' s l B:=h.j0 f (λ_ _ h=>by cases h)
def fB.lt{w:Kv}{l:List α}(h:fB enc k w s l B):∀b∈B,b<w.heap.size:=by rcases h with ⟨_,_,rfl⟩|⟨b,o,cs,T,rfl,ho0,ha,hb,h1⟩;intro b hb;cases hb;intro c hc;simp at hc;subst hc;exact fl hb
def fB.fresh(henc:∀x,(enc x).length=k){w:Kv}{b:Nat}{T:Kx}{l:List α}{n cap:Nat}(hb:w.heap[b]?=some (.c cs T))(hn:n=l.length)(hc:n<=cap)(hcs:cap*k<=cs.size)(hl:cs.toList.take (l.length*k)=l.flatMap enc):fB enc k w ⟨some (dm b),n,cap⟩ l [b]:=
 .inr ⟨b,0,cs,T,rfl,rfl,rfl,hb,hn,hc,by rw[xU];exact hcs,by rw[xH];exact hl⟩
def rI{w:Kv}{b:Nat}(hb:b<w.heap.size)(o:Obj):Fr [b] w (jy w b o):=
 ⟨rfl,rfl,rfl,by rw[wO];exact zM _,λj hj hS=>by rw[qY _ _ _ _ hb,iN (oQ hS)]⟩
def qzM(L Y R:List Kw)(o n:Nat)(h:o+n<=L.length):((L.take (o+n)++Y++R).drop o).take (n+Y.length)=(L.drop o).take n++Y:=by have e1:(L.take (o+n)).length=o+n:=oP;have e2:((L.drop o).take n).length=n:=oP;rw[zV,Kf oK,drop_take,vF,take_append,e2,zS oK,vF,JX (zM _),zS (zM _)]
variable {P:Ky}
def Fe(z:Array Kw)(n:Nat):(Builtin.zeroCells z n).size=n*z.size:=by simp[Builtin.zeroCells]
def fB.j2{w:Kv}{tx e:Kx}{i:TypeInfo}{l ys:List α}{x:Kw}{m:Nat}(h:fB enc k w s l B)(henc:∀x,(enc x).length=k)(ht:P.underlying t=some (.slice e))(hi:P.info? e=some i)(hz:i.zero=some z)(hsz:i.size=k)(hzs:z.cells.size=k)(hs:Src P k tx x m (ys.flatMap enc) w)(hm:m=ys.length)(hbytes:(l.length+m)*i.bytes<=140737488355328)(h63:l.length+m<=9223372036854775807)(kk:∀s' B' w',fB enc k w' s' (l++ys) B'->Fr B w w'->(∀b∈B',b∈B\/w.heap.size<=b)->(s'.a.isNone=false\/(s=dR/\s'=dR))->K s' w'): Pt.run dp ((Builtin.append_ #[t,tx] ty #[.slice s.a s.len s.cap,x]).run P w) K:=by
 subst hsz hm;have hfl:=rR henc;have hgrow:∀(olds:List Kw),olds=l.flatMap enc->s.len=l.length->(Builtin.firstCells i.size s.len (.slice s.a s.len s.cap)).run P w.drew=.ok olds.toArray w.drew->s.cap<s.len+ys.length->
   Pt.run dp ((Builtin.append_ #[t,tx] ty #[.slice s.a s.len s.cap,x]).run P w) K:=by
  intro olds ho hl hold hg;refine xa ⟨_,_,_⟩ _ (run_append_grow_src w t tx ty e i z ht hi hz s.a s.len s.cap olds hold x ys.length _ hs hg oK (growslice_fits hg (by rw[hl];exact hbytes))) ?_;have hge:=grownCap_ge w (s.len+ys.length) s.cap e;refine kk _ [w.heap.size] _ (fB.fresh henc (b:=w.heap.size) (T:=e) (cs:=(olds++ys.flatMap enc).toArray++Builtin.zeroCells z.cells (grownCap w (s.len+ys.length) s.cap e-(s.len+ys.length))) ?_ (by rw[zF,hl]) hge ?_ ?_) ?_ ?_ ?_;rw[D3];exact iP rfl;rw[Array.size_append,Fe,hzs,size_toArray,zF,ho,hfl,hfl,<- xW,<- xW,hl];have:l.length+ys.length+(grownCap w (l.length+ys.length) s.cap e-(l.length+ys.length))=grownCap w (l.length+ys.length) s.cap e:=(by rw[hl] at hge;omega);rw[this];exact zM _;rw[Array.toList_append,JX (by simp[ho,hfl,xW]),zS (by simp[ho,hfl,xW]),ho,yR];exact (Fr.refl B w).drew.alloc _;intro b hb;simp at hb;subst hb;exact .inr (zM _);exact .inl rfl
 rcases h with ⟨rfl,rfl,rfl⟩|⟨b,o,cs,T,rfl,ho0,ha,hb,h1,h2,h3,h4⟩;by_cases hy:ys=[];subst hy;refine xa dR w ?_ (kk _ _ _ (.nil _ _ _) (.refl _ _) (λb hb=>.inl hb) (.inr ⟨rfl,rfl⟩));have hc:=hs.cells;simp at hc;rcases hs.kind with ⟨e',hk⟩|hk<;>simp[Builtin.append_,run_underlying ht,run_underlying hk,sizeOf,typeInfo,hi,hs.len,hc];have:0<ys.length:=length_pos_iff.2 hy;exact hgrow [] rfl rfl (run_firstCells_none _ _ _ _ _) oO;obtain⟨a,len,cap⟩:=s;simp only at ha h1 h2 h3;subst ha;subst h1;by_cases hroom:l.length+ys.length<=cap;have hsz':o+(l.length+ys.length)*i.size<=cs.size:=zL (Nat.add_le_add_left (Kk _ hroom) _) h3;rw[xW] at hsz';refine xa ⟨_,_,_⟩ _ (run_append_room_src w t tx ty e i ht hi b o l.length cap x ys.length _ hs hroom (λj hj=>?_) λj hj=>?_) ?_;rw[hfl] at hj;rw[kD hb];simp[show o+l.length*i.size+j<cs.size by omega];simp[World.frozen?,hb];rw[AI hb];refine kk _ [b] _ (.inr ⟨b,o,_,T,rfl,ho0,rfl,by rw[qY _ _ _ _ (fl hb),iP rfl],oM,by dsimp only;omega,by rw[pE];exact h3,?_⟩) (rI (fl hb) _) (λc hc=>.inl hc) (.inl rfl);rw[sP _ _ _ (by rw[hfl];omega),zF,xW,yR,<- h4];have:=qzM cs.toList (ys.flatMap enc) (cs.toList.drop (o+l.length*i.size+(ys.flatMap enc).length)) o (l.length*i.size) oP;rw[hfl] at this⊢;exact this;refine hgrow (l.flatMap enc) rfl rfl (run_firstCells_some _ _ _ _ _ _ _ (hfl l) λj u hj=>?_) oO;rw[Addr.j1];show w.cell? _=_;rw[kD hb];have hjl:j<l.length*i.size:=by
  have:=(zP.1 hj).1;rw[hfl] at this;exact this
 rw[<- h4,xC,iP hjl,xB] at hj;simpa using hj
def fB.push{w:Kv}{e T':Kx}{i:TypeInfo}{l:List α}{x:α}{cs':Array Kw}(h:fB enc k w s l B)(henc:∀x,(enc x).length=k)(hone:∀u∈enc x,u.oneCell'=true)(ht:P.underlying t=some (.slice e))(hi:P.info? e=some i)(hz:i.zero=some z)(hsz:i.size=k)(hzs:z.cells.size=k)(hcs:cs'.toList=enc x)(hbytes:(l.length+1)*i.bytes<=140737488355328)(h63:l.length+1<=9223372036854775807)(kk:∀s' B' w',fB enc k w' s' (l++[x]) B'->Fr B w w'->(∀b∈B',b∈B\/w.heap.size<=b)->K s' w'): Pt.new (.cells cs' T') w λr w1=>Pt.run dp ((Builtin.append_ #[t,t] ty #[.slice s.a s.len s.cap,.slice (some (dm r)) 1 1]).run P w1) K:=by have ho:=(ed.start [] w).alloc (.cells cs' T');have hf:=ho.fr;refine ed.new (ed.start [] w) λb w1 eb sb ho=>fB.j2 (ys:=[x]) (h.q8 ho.fr) henc ht hi hz hsz hzs (.ofSlice _ ht _ 1 1 _ ?_ ?_ ?_) rfl (oQ hbytes) (oQ h63) λs' B' w' h1 h2 h3 _=>kk s' B' w' h1 ((ho.fr.mono λi hi _=>by cases hi).j8 h2 λi hi=>.inl hi) λb hb=>?_;simp[henc];intro j u hj;rw[Addr.j1,kD (ho.at (i:=0) rfl),xU];have hj':(enc x)[j]?=some u:=(oQ hj);rw[<- hcs] at hj';simpa using hj';intro u hu;exact hone u (oQ hu);rcases h3 b hb with h|h;exact .inl h;exact .inr oK
end
end
end
section
open Go Go.RowKit Go.ChangeShapes List
variable {cs:List Cell} {e:Kx}
section
variable {H:Type} {enc:Kx×Kw->H} {P:Ky} {w:Kv} {base:Nat} {spare:Nat->Bool} {held:Bool}
def IT{k:IntKind}{n:Int}(h:(Lit.int k n).wf=true):k.has n:=by have h':k.min<=n/\n<=k.max:=(by simpa[Lit.wf] using h);exact h'
def qrK{t:Kx}{n:Nat}{v:Kw}{y:DataW H×List MemPlace}{c:Cell}(hc:pa P t=c)(h:DataW.trod enc P w base spare held n t [v]=some y):∃x:c.El,v=c.mk x/\vh c x:=by
 unfold pa at hc;split at hc<;>subst hc;rename_i k hu;obtain⟨m,hm,_,hw⟩:=DataW.trod_int hu h;simp only[List.cons.injEq,and_true] at hm;exact⟨m,hm,IT hw⟩;rename_i hu;obtain⟨m,hm,_⟩:=DataW.trod_bool hu h;simp only[List.cons.injEq,and_true] at hm;exact⟨m,hm,trivial⟩;rename_i hu;obtain⟨s,hm,_,hs⟩:=DataW.trod_string hu h;simp only[List.cons.injEq,and_true] at hm;exact⟨s,hm,by have:maxLen=9223372036854775807:=rfl;show (s.size:Int)<=9223372036854775807;omega⟩
 ·rename_i e hu;cases n with
  | zero=>simp[DataW.trod] at h
  | succ n=>
   unfold DataW.trod at h;rw[hu] at h;split at h<;>simp_all;exact⟨none,rfl⟩;exact⟨_,rfl⟩
 rename_i e hu;rcases DataW.trod_slice hu h with ⟨hm,_⟩|⟨a,len,cap,_,_,_,_,hm,_,_,hl,hc,_⟩;simp only[List.cons.injEq,and_true] at hm;exact⟨dR,hm,zM _,oN,λ_=>rfl⟩;simp only[List.cons.injEq,and_true] at hm;exact⟨⟨some a,len,cap⟩,hm,hl,by have:maxLen=9223372036854775807:=rfl;show (cap:Int)<=9223372036854775807;omega,λe=>by cases e⟩
 ·rename_i k e hu;cases n with
  | zero=>simp[DataW.trod] at h
  | succ n=>
   unfold DataW.trod at h;rw[hu] at h;split at h<;>simp_all;exact⟨none,rfl⟩;exact⟨_,rfl⟩
 exact⟨v,rfl,trivial⟩
def qrn{β:Type}{R:Nat->β->Prop}:∀n,(∀i,i<n->∃x,R i x)->∃l:List β,l.length=n/\∀(i:Nat) x,l[i]?=some x->R i x
 | 0,_=>⟨[],rfl,λi x h=>by simp at h⟩
 | n+1,h=>by obtain⟨l,hl,hr⟩:=qrn n λi hi=>h i oK;obtain⟨x,hx⟩:=h n oK;refine⟨l++[x],by simp[hl],λi y hy=>?_⟩;by_cases hi:i<n;rw[xA oK] at hy;exact hr i y hy;have:i<n+1:=(by have:=(zP.1 hy).1;simp at this;omega);have e:i=n:=oK;subst e;rw[yZ oK] at hy;simp[hl] at hy;subst hy;exact hx
def IF{t:Kx}{n:Nat}{s:Sl}{y:DataW H×List MemPlace}{β:Type}{encB:β->List Kw}{k:Nat}{Q:β->Prop}(ht:P.underlying t=some (.slice e))(hce:P.cellsOf e=k)(hpos:0<k)(elem:∀n cells y,DataW.trod enc P w base spare held n e cells=some y->∃x:β,cells=encB x/\Q x)(h:DataW.trod enc P w base spare held n t [.slice s.a s.len s.cap]=some y): ∃l:List β,eE encB k [] w s l/\∀x∈l,Q x:=by
 rcases Go.Deep.open_slice ht h with ⟨hm,_⟩|⟨a,len,cap,m,n',D,Pl,hm,_,hl,hc,hmm,_,hx⟩;simp only[List.cons.injEq,Value.slice.injEq,and_true] at hm;obtain⟨h1,h2,h3⟩:=hm;exact⟨[],⟨by rw[h2];rfl,oK,.inl rfl⟩,λx hx=>by cases hx⟩;simp only[List.cons.injEq,Value.slice.injEq,and_true] at hm;obtain⟨h1,h2,h3⟩:=hm;have hlm:len<=m:=(by rw[hmm];split<;>omega);have hcells:∀i,i<len->∃x:β,w.cells? base (a.add (i*k)) k=some (encB x)/\Q x:=λi hi=>by obtain⟨cs',g1,g2⟩:=hx i oK;obtain⟨x,rfl,hq⟩:=elem _ _ _ g2;rw[hce] at g1;exact⟨x,g1,hq⟩
 obtain⟨l,hll,hlr⟩:=qrn len hcells;refine⟨l,⟨by rw[h2,hll],oK,?_⟩,λx hx=>?_⟩;by_cases h0:l=[];exact .inl h0;right;have hl0:0<l.length:=length_pos_iff.2 h0;obtain⟨_,hlen0,hcell0⟩:=World.cells?_some (hlr 0 l[0] (zA hl0)).1;have hc0:=hcell0 0 hpos;rw[zA oK] at hc0;obtain⟨b,o,spot⟩:=a;have hspot:spot=none:=(by simpa[Addr.add] using World.cell?_spot hc0);subst hspot;have hblk:∃cs T fr,w.heap[b]?=some (.cells cs T fr):=by simp only[Nat.zero_mul,Addr.j1] at hc0;unfold World.cell? at hc0;split at hc0;rename_i c T fr hb;exact⟨c,T,fr,hb⟩;cases hc0
 obtain⟨cs,T,fr,hb⟩:=hblk;refine⟨b,o,cs,T,fr,h1,hb,oM,λi x hx=>?_⟩;obtain⟨_,hlen',hcell'⟩:=World.cells?_some (hlr i x hx).1;apply ext_getElem?;intro j;rw[xC,xB];by_cases hj:j<k;rw[iP hj];have:=hcell' j hj;rw[Addr.j1,Addr.j1,kD hb] at this;rw[<- this];simp;rw[iN hj,yT oK];obtain⟨i,hi,rfl⟩:=getElem_of_mem hx;exact (hlr i _ (zA hi)).2
def qzx{k:IntKind}(he:P.underlying e=some (.int k)):∀n cells y,DataW.trod enc P w base spare held n e cells=some y->∃x:Int,cells=[Value.int k x]/\k.has x:=by intro n cells y h;obtain⟨m,hm,_,hw⟩:=DataW.trod_int he h;exact⟨m,hm,IT hw⟩
def qm7:∀ {ts:List Kx} {vs:List Kw} {cs:List Cell},ts.map (pa P)=cs->vs.length=ts.length->(∀(i:Nat) v,vs[i]?=some v->∃u n y,ts[i]?=some u/\DataW.trod enc P w base spare held n u [v]=some y)->∃x:HL cs,vs=HL.mk cs x/\eK cs x
 | [],vs,cs,hc,hl,h=>by simp at hc hl;subst hc hl;exact⟨(),rfl,trivial⟩
 | [t],vs,cs,hc,hl,h=>by
  simp at hc hl;subst hc;match vs,hl with
  | [v],_=>
   obtain⟨u,n,y,hu,ho⟩:=h 0 v rfl;simp at hu;subst hu;obtain⟨x,hx,hf⟩:=qrK rfl ho;exact⟨x,by rw[hx];rfl,hf⟩
 | t::t'::ts,vs,cs,hc,hl,h=>by
  match vs,hl with
  | v::vs,hl=>
   simp only[xQ] at hc;subst hc;obtain⟨u,n,y,hu,ho⟩:=h 0 v rfl;simp at hu;subst hu;obtain⟨x,hx,hf⟩:=qrK rfl ho;obtain⟨y,hy,hg⟩:=qm7 (ts:=t'::ts) (vs:=vs) rfl (oQ hl) (λi v hv=>by simpa using h (i+1) v (oQ hv));exact⟨(x,y),by rw[hx,hy];rfl,hf,hg⟩
def sJ (P:Ky):Nat->List Field->Bool
 | _,[]=>true
 | i,f::fs=>Nat.beq f.offset i&&Nat.beq (P.cellsOf f.type) 1&&sJ P (i+1) fs
def qsM{P:Ky}:∀ {fs:List Field} {k:Nat},sJ P k fs=true->∀(i:Nat) f,fs[i]?=some f->f.offset=k+i/\P.cellsOf f.type=1
 | [],k,_,i,f,h=>by simp at h
 | g::fs,k,hf,i,f,h=>by
  simp only[sJ,yB] at hf;match i with
  | 0=>
   simp at h;subst h;exact⟨yX hf.1.1,yX hf.1.2⟩
  | i+1=>
   have:=qsM hf.2 i f (oQ h);exact⟨oK,this.2⟩
def qua{fs:Array Field}(he:P.underlying e=some (.struct fs))(hfl:sJ P 0 fs.toList=true)(hce:P.cellsOf e=fs.size)(hcs:fs.toList.map (λf=>pa P f.type)=cs): ∀n cells y,DataW.trod enc P w base spare held n e cells=some y->∃x:HL cs,cells=HL.mk cs x/\(eK cs x/\∀(i:Nat) v,(HL.mk cs x)[i]?=some v->∃f n y,fs[i]?=some f/\DataW.trod enc P w base spare held n f.type [v]=some y):=by
 intro n cells y h;obtain⟨xs,m,_,_,hlen,hxl,hf⟩:=DataW.trod_struct he h;have key:∀(i:Nat) v,cells[i]?=some v->∃f n y,fs[i]?=some f/\DataW.trod enc P w base spare held n f.type [v]=some y:=by
  intro i v hv;have hi:i<fs.size:=(by have:=(zP.1 hv).1;omega);have hfi:fs[i]?=some fs[i]:=(by simp[hi]);obtain⟨ho,h1⟩:=qsM hfl i fs[i] (by simp[hi]);have:=hf i fs[i] hfi;rw[ho,xU,h1] at this;have e:(cells.drop i).take 1=[v]:=by obtain⟨hic,rfl⟩:=zP.1 hv;rw[zY hic];rfl
  rw[e,zA (show i<xs.length by omega)] at this;exact⟨_,_,_,hfi,this⟩
 obtain⟨x,hx,hfit⟩:=qm7 (ts:=fs.toList.map (·.type)) (vs:=cells) (cs:=cs) (by rw[map_map];exact hcs) oP (λi v hv=>by obtain⟨f,n,y,g1,g2⟩:=key i v hv;exact⟨f.type,n,y,by simp[g1],g2⟩);refine⟨x,hx,hfit,?_⟩;rw[<- hx];exact key
def At (P:Ky) (e:Kx):Option (List Cell):=
 match P.underlying e with
 | some (.struct fs)=>bif sJ P 0 fs.toList&&Nat.beq (P.cellsOf e) fs.size then some (fs.toList.map λf=>pa P f.type) else none
 | _=>none
def tj (P:Ky) (e:Kx) (i:Nat):Option Kx:=
 match P.underlying e with
 | some (.struct fs)=>(fs[i]?).map (·.type)
 | _=>none
def qxD(hT:At P e=some cs): ∀n cells y,DataW.trod enc P w base spare held n e cells=some y->∃x:HL cs,cells=HL.mk cs x/\(eK cs x/\∀(i:Nat) v,(HL.mk cs x)[i]?=some v->∃u n y,tj P e i=some u/\DataW.trod enc P w base spare held n u [v]=some y):=by
 unfold At at hT;split at hT;rename_i fs he;cases hc:(sJ P 0 fs.toList&&Nat.beq (P.cellsOf e) fs.size) with
 | false=>rw[hc] at hT;cases hT
 | true=>
  rw[hc] at hT;simp only[yB] at hc;intro n cells y h;obtain⟨x,h1,h2,h3⟩:=qua he hc.1 (yX hc.2) (yP hT) n cells y h;refine⟨x,h1,h2,λi v hv=>?_⟩;obtain⟨f,n,y,g1,g2⟩:=h3 i v hv;exact⟨f.type,n,y,by unfold tj;rw[he];simp[g1],g2⟩
 cases hT
end
end
section
open Go List
variable {K:List Kw->Prop} {L':KK} {T et t:Kx} {a:Addr} {args vs zero:List Kw} {cs:Array Kw} {e:Array Kw->Sem Kw} {f:FuncId} {name:String} {off:Nat} {ts:List i3} {w':Kv} {z:Kw}
variable {P:Ky} {w:Kv}
def methodOf (P:Ky) (t:Kx) (name:String):Option (FuncId×Bool):=
 match (P.info? t).bind λi=>i.methods.find? (·.name==name) with
 | some m=>bif m.path.isEmpty then m.func else none
 | none=>none
def qpu{v:Kw}{p:Bool}(h:methodOf P t name=some (f,p))(fuel:Nat): ∃wr,(Go.method (fuel+1) t v name).run P w=(do let r <- receiverAt t (.val v) p (some wr);pure (f,r):Sem (FuncId×Kw)).run P w:=by
 unfold methodOf at h;cases hi:P.info? t with
 | none=>rw[hi] at h;cases h
 | some i=>
  rw[hi] at h;simp only[Option.bind_some] at h;cases hm:i.methods.find? (·.name==name) with
  | none=>rw[hm] at h;cases h
  | some m=>
   rw[hm] at h;dsimp only at h;cases hp:m.path.isEmpty with
   | false=>rw[hp] at h;cases h
   | true=>
    rw[hp] at h;change m.func=some (f,p) at h;have hpe:=Array.isEmpty_iff.1 hp;refine⟨(name.splitOn ".").getLastD name,?_⟩;simp[Go.method,typeInfo,run_program,hi,hm,hpe,h,follow]
def qxI{e:Kx}{q:Kw}{args:Array Kw}(h:methodOf P t name=some (f,true))(hu:P.underlying t=some (.pointer e))(hb:jE P f=false): (callMethod (.iface t q) name args).run P w=.ok (.enter f (#[q]++args)) w:=by
 obtain⟨wr,hr⟩:=qpu (w:=w) (v:=q) h (P.types.size+Made.depth-1);have hm0:0<Made.depth:=oN;have hd:P.types.size+Made.depth-1+1=P.types.size+Made.depth:=oK;rw[hd] at hr;have h2:(do let r <- receiverAt t (.val q) true (some wr);pure (f,r):Sem (FuncId×Kw)).run P w=.ok (f,q) w:=by simp[receiverAt,run_underlying hu,Place.get]
 rw[h2] at hr;simp[callMethod,run_program,hr,Bw hb]
def qxJ{e:Kx}{v:Kw}{args:Array Kw}(h:methodOf P t name=some (f,false))(hu:P.underlying t=some (.pointer e))(hb:jE P f=false)(he:(P.underlying e).isSome=true)(hag:fQ P e=false)(hc:w.cell? a=some v): (callMethod (.iface t (.pointer (some a))) name args).run P w=.ok (.enter f (#[v]++args)) w:=by
 obtain⟨wr,hr⟩:=qpu (w:=w) (v:=.pointer (some a)) h (P.types.size+Made.depth-1);have hm0:0<Made.depth:=(by decide);have hd:P.types.size+Made.depth-1+1=P.types.size+Made.depth:=(by omega);rw[hd] at hr;have h2:(do let r <- receiverAt t (.val (.pointer (some a))) false (some wr);pure (f,r):Sem (FuncId×Kw)).run P w=.ok (f,v) w:=by have hs:Builtin.ssaWrapNilChk_ #[t] t #[.pointer (some a),strVal "",strVal wr]=pure (.pointer (some a)):=rfl;simp[receiverAt,run_underlying hu,Place.get,hs,asAddr,loadVar,Am he,hag,hc]
 rw[h2] at hr;simp[callMethod,run_program,hr,Bw hb]
def qvf{e:Kx}{q:Kw}{K:jx ts->WP}(h:methodOf P t name=some (f,true))(hu:P.underlying t=some (.pointer e))(hb:jE P f=false)(k:call P f (q::args) ts w K):inv P (.iface t q) name args ts w K:=
 ⟨f,q::args,by rw[qxI h hu hb];simp,k⟩
def I1{e:Kx}{v:Kw}{K:jx ts->WP}(h:methodOf P t name=some (f,false))(hu:P.underlying t=some (.pointer e))(hb:jE P f=false)(he:(P.underlying e).isSome=true)(hag:fQ P e=false)(hc:w.cell? a=some v)(k:call P f (v::args) ts w K):inv P (.iface t (.pointer (some a))) name args ts w K:=
 ⟨f,v::args,by rw[qxJ h hu hb he hag hc];simp,k⟩
section
structure qb {α:Type} [DecidableEq α] (P:Ky) (kt:Kx) (kv:α->Kw):Prop where
 desc:∃ d,P.underlying kt=some d/\∀ a b,Instr.sameNow d (kv a) (kv b)=some (decide (a=b))
 check:∀ e a w,(Instr.checkKey e 10000 kt (kv a)).run P w=.ok () w
 stays:∀ a w,(Instr.keyThatStays (kv a) (kv a)).run P w=.ok (kv a) w
def qx1{P:Ky}{kt:Kx}{k:IntKind}(h:P.underlying kt=some (.int k)):qb P kt (λn:Int=>Value.int k n) where
 desc:=⟨_,h,λa b=>by simp[Instr.sameNow];rfl⟩
 check:=λe a w=>Go.MapKept.run_checkKey h (by simp[Go.MapKept.IsKey]) e 9999
 stays:=λa w=>by simp[Instr.keyThatStays,Instr.sameBits]
section
variable {α:Type} [DecidableEq α]
def xf{β γ:Type}(g:β->γ):∀(l:List β) (i:Nat),(l.eraseIdx i).map g=(l.map g).eraseIdx i
 | [],_=>rfl
 | _::_,0=>rfl
 | a::l,i+1=>by simp only[eraseIdx_cons_succ,xQ,xf g l i]
def qU (kv:α->Kw) (es:List MapEntry) (f:List (α×Kw)):Prop:=es.map (λe=>(e.key,e.val))=f.map (λp=>(kv p.1,p.2))
def posOf (x:α):List (α×Kw)->Option (Nat×Kw)
 | []=>none
 | p::r=>if x=p.1 then some (0,p.2) else (posOf x r).map λq=>(q.1+1,q.2)
def qm3{kv:α->Kw}{d:TypeDesc}(hd:∀a b,Instr.sameNow d (kv a) (kv b)=some (decide (a=b)))(x:α):∀(es:List MapEntry) (f:List (α×Kw)) (i:Nat),qU kv es f-> Instr.findNow d (kv x) es i=some ((posOf x f).map λq=>(i+q.1,q.2))
 | [],[],i,_=>rfl
 | [],_::_,_,h=>by simp[qU] at h
 | _::_,[],_,h=>by simp[qU] at h
 | e::es,p::f,i,h=>by
  simp only[qU,xQ,List.cons.injEq,Prod.mk.injEq] at h;obtain⟨⟨h1,h2⟩,h3⟩:=h;simp only[Instr.findNow,h1,hd,posOf];by_cases hx:x=p.1;simp[hx,h2];simp only[hx,decide_false,if_false];rw[qm3 hd x es f (i+1) h3];cases posOf x f with
  | none=>rfl
  | some q=>simp;omega
variable {P:Ky} {w:Kv} {kt:Kx} {kv:α->Kw}
def wK(K:qb P kt kv){es:List MapEntry}{f:List (α×Kw)}(h:qU kv es f)(x:α):(Instr.findKey kt (kv x) es).run P w=.ok (posOf x f) w:=by
 obtain⟨d,hd,hs⟩:=K.desc;unfold Instr.findKey;simp only[Kb,run_underlying hd,Kc,qm3 hs x es f 0 h,Sem.run_pure];congr 1;cases posOf x f with
 | none=>rfl
 | some q=>simp
def mt (kv:α->Kw) (w:Kv) (b:Nat) (f:List (α×Kw)):Prop:=∃es c,w.heap[b]?=some (.map es c)/\qU kv es.toList f
def Jg(ht:P.underlying t=some (.map kt et))(hz:∀w,(zeroValue et).run P w=.ok z w)(K:qb P kt kv){b:Nat}{f:List (α×Kw)}(h:mt kv w b f)(x:α): (Instr.lookup t (.map (some b)) (kv x) false).run P w=.ok (match posOf x f with|some q=>q.2|none=>z) w:=by
 obtain⟨es,c,hb,he⟩:=h;cases hp:posOf x f with
 | none=>simp[Instr.lookup,run_underlying ht,Ko hb,K.check,wK K he,hp,hz]
 | some q=>simp[Instr.lookup,run_underlying ht,Ko hb,K.check,wK K he,hp]
def qtC(ht:P.underlying t=some (.map kt et))(hz:∀w,(zeroValue et).run P w=.ok z w)(K:qb P kt kv){b:Nat}{f:List (α×Kw)}(h:mt kv w b f)(x:α): (Instr.lookup t (.map (some b)) (kv x) true).run P w=.ok (match posOf x f with|some q=>.tuple #[q.2,.bool true] | none=>.tuple #[z,.bool false]) w:=by
 obtain⟨es,c,hb,he⟩:=h;cases hp:posOf x f with
 | none=>simp[Instr.lookup,run_underlying ht,Ko hb,K.check,wK K he,hp,hz]
 | some q=>simp[Instr.lookup,run_underlying ht,Ko hb,K.check,wK K he,hp]
def qwV{v:Kw}(ht:P.underlying t=some (.map kt et))(K:qb P kt kv){b:Nat}{f:List (α×Kw)}(h:mt kv w b f)(x:α)(hx:posOf x f=none): ∃o,(Instr.mapUpdate t (.map (some b)) (kv x) v).run P w=.ok () (jy w b o)/\mt kv (jy w b o) b (f++[(x,v)]):=by obtain⟨es,c,hb,he⟩:=h;refine⟨.map (es.push ⟨kv x,v,c⟩) (c+1),?_,es.push ⟨kv x,v,c⟩,c+1,?_,?_⟩;simp[Instr.mapUpdate,run_underlying ht,Ko hb,K.check,wK K he,hx,Go.MapKept.run_setObj_map _ hb];rfl;rw[qY _ _ _ _ (fl hb),iP rfl];simp only[qU] at he⊢;simp[he]
def qwU{ty:Kx}(ht:P.underlying t=some (.map kt et))(K:qb P kt kv){b:Nat}{f:List (α×Kw)}(h:mt kv w b f)(x:α): ∃o,(Builtin.delete_ #[t,kt] ty #[.map (some b),kv x]).run P w=.ok (.tuple #[]) (jy w b o)/\mt kv (jy w b o) b (match posOf x f with|some q=>f.eraseIdx q.1|none=>f):=by
 obtain⟨es,c,hb,he⟩:=h;cases hp:posOf x f with
 | none=>
  refine⟨.map es c,?_,es,c,?_,he⟩;simp[Builtin.delete_,run_underlying ht,Ko hb,K.check,wK K he,hp,Go.MapKept.run_setObj_map _ hb];rfl;rw[qY _ _ _ _ (fl hb),iP rfl]
 | some q=>
  refine⟨.map (es.eraseIdxIfInBounds q.1) c,?_,es.eraseIdxIfInBounds q.1,c,?_,?_⟩;simp[Builtin.delete_,run_underlying ht,Ko hb,K.check,wK K he,hp,Go.MapKept.run_setObj_map _ hb];rfl;rw[qY _ _ _ _ (fl hb),iP rfl];have h1:(es.eraseIdxIfInBounds q.1).toList=es.toList.eraseIdx q.1:=oM;rw[h1];simp only[qU] at he⊢;rw[xf,he,<- xf]
end
end
section
variable {S:KD} {w0 w:Kv} {L:KK} {P:Ky}
def qul(z:Kw)(c:Nat):ji [z] c=(List.replicate c z).toArray:=by apply Array.ext;simp[ji];intro i h1 h2;simp[ji,Nat.mod_one]
def ed.IN{el:Kx}{bytes:Nat}{l c:Int}{K:Sl->WP}(h:ed S w0 w L)(h0:0<=l)(h1:l<=c)(h2:(bytes:Int)*c<=2^48)(h3:c<=2^48)(k:∀b w',b=w.heap.size->ed S w0 w' ((b,.c (List.replicate c.toNat z).toArray el)::L)->K ⟨some (dm b),l.toNat,c.toNat⟩ w'):nz el [z] 1 bytes l c w K:=by
 refine⟨⟨h0,h1,h2,h3⟩,?_⟩;have e:ji (if c.toNat*1=0 then [] else [z]) (c.toNat*1)=(List.replicate c.toNat z).toArray:=by rw[xV];split;rename_i hc;rw[hc];apply Array.ext' ;simp[ji];exact qul z _
 rw[e];exact k _ _ rfl (h.alloc _)
def ed.zh{t t' ty el b:Nat}{o dLen dCap:Nat}{src:Sl}{K:Int->WP}(h:ed S w0 w L)(i:Nat)(hi:L[i]?=some (b,.c cs T))(hu:P.underlying t=some (.slice el))(hs:(P.info? el).map (·.size)=some 1)(hlen:vs.length=Nat.min src.len dLen)(hvs:vs≠[]->∃a,src.a=some a/\∀(j:Nat) v,vs[j]?=some v->w.cell? (a.add j)=some v)(h1:∀v∈vs,v.oneCell'=true)(hfit:o+vs.length<=cs.size)(k:∀w',ed S w0 w' (L.set i (b,.c (ef cs o vs) T))->K vs.length w'): Pt.run [i3.one (Cell.int .i64)] ((Builtin.copy_ #[t,t'] ty #[.slice (some (dm b o)) dLen dCap,.slice src.a src.len src.cap]).run P w) K:=by
 by_cases h0:vs=[];subst h0;refine⟨((0:Nat):Int),w,run_copy_none w t t' ty el _ _ _ _ _ _ hu hs (oQ hlen.symm),?_⟩;have e:L.set i (b,.c (ef cs o []) T)=L:=by
  apply ext_getElem?;intro j;rw[List.getElem?_set];by_cases hij:i=j;subst hij;have:=(zP.1 hi).1;rw[iP rfl,hi];simp[this,ef];rw[iN hij]
 have:=k w (by rw[e];exact h);simpa using this;obtain⟨a,ha,hc⟩:=hvs h0;have hb:=h.at hi;have hrun:=run_copy_cells (P:=P) w t t' ty el b o dLen dCap a src.len src.cap vs hu hs hlen hc (λj hj=>by rw[kD hb];simp[show o+j<cs.size by omega]) (λj hj=>by simp[World.frozen?,hb]) h1;rw[AI hb] at hrun;refine⟨(vs.length:Int),_,?_,k _ (h.jy i hi)⟩;rw[ha];exact hrun
def Et{P:Ky}{fn:Func}{w:Kv}{K:jx ts->WP}(hf:P.funcs[f]?=some fn)(hname:(fn.name== "runtime.NumGoroutine")=false)(hb:fn.body.isNone=true)(hn:Extern.findNext fn=none)(he:Extern.find fn=some e)(x:jx ts)(w':Kv)(hrun:(e args.toArray).run P w=.ok (gE ts x) w')(k:K x w'):Pt.ext P f args ts w K:=by refine⟨x,w',?_,k⟩;rw[run_callFunc_extern hf hname hb hn he];simp[hrun]
end
section
variable {S:KD} {w0 w:Kv} {L:KK} {P:Ky}
def ed.kJ{v:Kw}{pts:List i3}{body:jx pts->(Kv->(WP)->Prop)->(WP)->(Nat->WP)->WP}{done:Nat->WP}{jumps:List (Nat->WP)}{f:FuncId}{lb:List Kw}(h:ed S w0 w L)(hv:v=.func (.func f) #[] lb.toArray)(hb:jE P f=false)(k:∀(D l:Nat) (R B:Obj) (J E:Nat->Obj) (E0:Obj) (w1:Kv),l=w.heap.size+1->D=w.heap.size->Fr [] w w1->ed S w0 w1 ((l,R)::(D,.deferred (some []))::L)->pN P pts body l R B J-> call P f (.func (.yield l) #[] #[]::lb) [] w1 λ_ W=>(W.heap[l]?=some R/\done D (Pt.jy W l E0))\/∃i k,jumps[i]?=some k/\W.heap[l]?=some (J i)/\k D (Pt.jy W l (E i))):Pt.kJ P v pts body done jumps w:=by refine⟨f,lb,hv,hb,λR B J E E0 hy=>?_⟩;have h1:=h.alloc (.deferred (some []));have h2:=h1.alloc R;rw[World.size_alloc] at h2;exact k _ _ R B J E E0 _ rfl rfl (((Fr.refl [] w).alloc _).alloc _) h2 hy
def ed.ft{D:Nat}{K:WP}(h:ed S w0 w L)(i:Nat)(hi:L[i]?=some (D,.deferred (some [])))(k:∀w',ed S w0 w' (L.set i (D,.deferred none))->K w'):Pt.ft D w K:=
 ⟨h.at hi,k _ (ed.jy h i hi)⟩
def rS{v:Kw}{lb:List Kw}{K:jx ts->WP}(hv:v=.func (.func f) #[] lb.toArray)(hb:jE P f=false)(k:call P f (args++lb) ts w K):eF P v args ts w K:=by subst hv;refine .inl ⟨f,args++lb,?_,k⟩;simp[Deferred.ofValue,invoke,Bw hb]
def ou{n b:Nat}{fr:KQ}(hb:w.heap[b]?=some (.cells cs T fr))(x:List Kw)(h1:x.length=n)(hx:(cs.toList.drop off).take n=x)(k:K x):Pt.iH n (dm b off) w K:=
 ⟨x,⟨h1,vP hb _ off 0 (by rw[h1];exact hx)⟩,k⟩
def qAY{cs:List Cell}{K:HL cs->Prop}(x:HL cs)(h:vs.extract off (off+cs.length)=HL.mk cs x)(k:K x):Pt.ku cs vs off K:=⟨x,h,k⟩
def qCd{len cap n:Nat}{K:Addr->Prop}(h:n<=len)(k:K a):pw ⟨some a,len,cap⟩ n K:=⟨a,rfl,h,k⟩
def ed.uL{n:Nat}{K:Nat->WP}(h:ed S w0 w L)(hz:((P.info? t).bind (·.zero)).map (λz=>z.cells.size)=some n)(hn:vs.length=n)(h1:(vs.all Value.oneCell')=true)(k:∀b w',b=w.heap.size->ed S w0 w' ((b,.c vs.toArray t)::L)->K b w'):Pt.fw P t w λr w1=>ig (vs.length=n) (Pt.st (dm r) vs w1 λw2=>K r w2):=by obtain⟨z,hz,hzs⟩:=yU.1 hz;refine⟨z,hz,hn,?_⟩;have h2:=h.alloc (.cells z.cells t);exact ed.st h2 0 rfl vs.toArray (iK oK) h1 (Nat.ble_eq_true_of_le oK) λw' h3 _=>k _ w' rfl h3
def ed.fw{t:Kx}{zs:List Kw}{K:Nat->WP}(h:ed S w0 w L)(hz:((P.info? t).bind (·.zero)).map (λz=>z.cells.toList)=some zs)(k:∀b w',b=w.heap.size->ed S w0 w' ((b,.c zs.toArray t)::L)->K b w'):Pt.fw P t w K:=by obtain⟨z,hz,hzs⟩:=yU.1 hz;refine⟨z,hz,?_⟩;have h2:=h.alloc (.cells z.cells t);have e:zs.toArray=z.cells:=(by rw[<- hzs]);rw[<- e] at h2⊢;exact k _ _ rfl h2
def qum{k:Nat}(hk:zero.length=k)(n:Nat):(ji (if n*k=0 then [] else zero) (n*k)).toList=(List.replicate n zero).flatten:=by
 by_cases h0:n*k=0;rw[iP h0,h0];rcases Nat.mul_eq_zero.1 h0 with h|h;subst h;simp[ji];have:zero=[]:=Kg oK;subst this;simp[ji];rw[iN h0];have hpos:0<k:=Nat.pos_of_ne_zero λe=>h0 (by rw[e];simp);apply ext_getElem?;intro i;have hlen:∀n,((List.replicate n zero).flatten).length=n*k:=(by intro n;simp[hk]);have key:∀n i,i<n*k->((List.replicate n zero).flatten)[i]?=zero[i%k]?:=by
  intro n;induction n with
  | zero=>intro i hi;simp at hi
  | succ n ih=>
   intro i hi;rw[Nat.succ_mul] at hi;rw[replicate_succ,flatten_cons];by_cases hik:i<k;rw[xA oK,Nat.mod_eq_of_lt hik];rw[yZ oK,hk,ih (i-k) oK];congr 1;exact (Nat.mod_eq_sub_mod oK).symm
 have hl2:=hlen n;have hsz:(ji zero (n*k)).toList.length=n*k:=(by simp[ji]);by_cases hi:i<n*k;rw[key n i hi];have hlt:i%k<zero.length:=(by rw[hk];exact Nat.mod_lt _ hpos);have h1:(ji zero (n*k)).toList[i]?=some (zero.toArray[i%zero.toArray.size]!):=by simp[ji,hi]
 rw[h1,zA hlt];simp[hk,zA hlt];rw[yT (by rw[hsz];omega),yT (by rw[hl2];omega)]
def ed.Hm{el:Kx}{size bytes:Nat}{l c:Int}{K:Sl->WP}(h:ed S w0 w L)(hk:zero.length=size)(h0:0<=l)(h1:l<=c)(h2:(bytes:Int)*c<=2^48)(h3:c<=2^48)(k:∀b w',b=w.heap.size->ed S w0 w' ((b,.c ((List.replicate c.toNat zero).flatten).toArray el)::L)->K ⟨some (dm b),l.toNat,c.toNat⟩ w'):nz el zero size bytes l c w K:=by
 refine⟨⟨h0,h1,h2,h3⟩,?_⟩;have e:=qum hk c.toNat;have e':ji (if c.toNat*size=0 then [] else zero) (c.toNat*size)=((List.replicate c.toNat zero).flatten).toArray:=by apply Array.ext';rw[e]
 rw[e'];exact k _ _ rfl (h.alloc _)
def ed.En{o:Obj}{K:Nat->WP}(h:ed S w0 w L)(k:∀b w',b=w.heap.size->Fr [] w w'->ed S w0 w' ((b,o)::L)->K b w'):Pt.new o w K:=
 k _ _ rfl ((Fr.refl [] w).alloc o) (h.alloc o)
def ed.st'{b:Nat}{K:WP}(h:ed S w0 w L)(i:Nat)(hi:L[i]?=some (b,.c cs T))(cs':Array Kw)(hcs:ef cs off vs=cs')(h1:(vs.all Value.oneCell')=true)(hl:off+vs.length<=cs.size)(k:∀w',ed S w0 w' (L.set i (b,.c cs' T))->Fr [b] w w'->K w'):Pt.st (dm b off) vs w K:=
 DC (w:=w) vs off 0 cs w K (h.at hi) h1 hl (k _ (by rw[Nat.add_zero,hcs];exact ed.jy h i hi) (rI (fl (h.at hi)) _))
def ed.sz{b:Nat}{K:WP}(h:ed S w0 w L)(i:Nat)(hi:L[i]?=some (b,.c cs T))(cs':Array Kw)(k:∀w',ed S w0 w' (L.set i (b,.c cs' T))->Fr [b] w w'->K w')(hcs:ef cs off vs=cs':=by rfl)(h1:(vs.all Value.oneCell')=true:=by rfl)(hl:off+vs.length<=cs.size:=by exact zO rfl):Pt.st (dm b off) vs w K:=h.st' i hi cs' hcs h1 hl k
def tY{b:Nat}{K:WP}(hb:w.heap[b]?=some (.c cs T))(cs':Array Kw)(hcs:ef cs off vs=cs')(h1:(vs.all Value.oneCell')=true)(hl:off+vs.length<=cs.size)(k:∀w',w'.heap[b]?=some (.c cs' T)->Fr [b] w w'->K w'):Pt.st (dm b off) vs w K:=
 DC (w:=w) vs off 0 cs w K hb h1 hl (k _ (by rw[Nat.add_zero,hcs,qY _ _ _ _ (fl hb),iP rfl]) (rI (fl hb) _))
def ed.mQ(h:ed S w0 w L):ed (L.map (·.1)) w w L:=⟨h.jz,h.nodup,.refl _ _,λp hp=>.inl (zZ hp)⟩
def ed.yy(h:ed S w0 w L)(T:KD):ed (L.map (·.1)++T) w w L:=⟨h.jz,h.nodup,.refl _ _,λp hp=>.inl (zH _ (zZ hp))⟩
def ed.AC{T:KD}(h:ed S w0 w L)(hT:∀b∈T,b∈S\/w0.heap.size<=b)(f:Fr (L.map (·.1)++T) w w'):Fr S w0 w':=
 h.fr.j8 f λb hb=>by rcases zD.1 hb with hb|hb;obtain⟨p,hp,rfl⟩:=mem_map.1 hb;exact h.own p hp;exact hT b hb
def ed.AN{T:KD}(h:ed S w0 w L)(hT:∀b∈T,b∈S\/w0.heap.size<=b)(k:ed (L.map (·.1)++T) w w' L'):ed S w0 w' L':=
 ⟨k.jz,k.nodup,h.AC hT k.fr,λp hp=>by rcases k.own p hp with hb|hb;rcases zD.1 hb with hb|hb;obtain⟨q,hq,hqe⟩:=mem_map.1 hb;rw[<- hqe];exact h.own q hq;exact hT _ hb;exact .inr (zL h.fr.size hb)⟩
def ed.back(h:ed S w0 w L)(f:Fr (L.map (·.1)) w w'):Fr S w0 w':=
 h.fr.j8 f λb hb=>by obtain⟨p,hp,rfl⟩:=mem_map.1 hb;exact h.own p hp
def fieldsOf (P:Ky) (t:Kx):Array Field:=match P.underlying t with|some (.struct fs)=>fs|_=>#[]
def qpt{a b:Kw}{o1 s0 s1:Nat}(hz:(P.info? t).bind (·.zero)=some z)(hu:P.underlying t=some (.struct (fieldsOf P t)))(hpl:∀w,((fieldsOf P t).mapM λf=>do pure (f.offset,<- sizeOf f.type):Sem (Array (KQ))).run P w=.ok #[(0,s0),(o1,s1)] w)(ha:a.cells.size=s0)(hb:b.cells.size=s1)(ho:o1=s0)(hs:z.cells.size=s0+s1)(w:Kv):(Instr.build t #[(0,a),(1,b)]).run P w=.ok (.agg (a.cells.toList++b.cells.toList).toArray) w:=by
 have h1:=Ff 0 a.cells z.cells;have h2:=Ff o1 b.cells (ef z.cells 0 a.cells.toList);have key:Instr.fill ((#[(0,s0),(o1,s1)]:Array (KQ))[·]?) z.cells [(0,a),(1,b)]=some (a.cells.toList++b.cells.toList).toArray:=by have e0:(#[(0,s0),(o1,s1)]:Array (KQ))[0]?=some (0,s0):=rfl;have e1:(#[(0,s0),(o1,s1)]:Array (KQ))[1]?=some (o1,s1):=rfl;simp only[Instr.fill,e0,e1];have c1:¬(decide (a.cells.size≠s0)||decide (0+a.cells.size>z.cells.size))=true:=(by simp[ha];omega);have c2:¬(decide (b.cells.size≠s1)||decide (o1+b.cells.size>(ef z.cells 0 a.cells.toList).size))=true:=(by simp[hb,pE];omega);rw[iN c1,h1,iN c2,h2];congr 1;apply Array.ext';rw[sP _ _ _ (by rw[pE,Ku];omega),sP _ _ _ (by rw[Ku];omega)];have hal:a.cells.toList.length=o1:=(by rw[Ku];omega);simp only[take_zero,xK,xU];rw[JX oK,zS oK,Kd oP,xJ]
 simp only[Instr.build,Kb,xw hz,Kc,run_underlying hu,hpl,key,Sem.run_pure]
def eE.jd{α:Type}{enc:α->List Kw}{k:Nat}{S:KD}{w:Kv}{s:Sl}{l:List α}(h:eE enc k S w s l)(henc:∀x,(enc x).length=k)(n:Nat){i:Int}{x:α}(hi:i=n)(hx:l[n]?=some x)(kk:K (enc x)):idx s i k λa=>Pt.iH k a w K:=by subst hi;obtain⟨hn,b,o,ha,_,cs,T,fr,hb,hc⟩:=h.at n hx;refine sM ha ⟨oK,oK⟩ ?_;rw[zJ];exact ou hb _ (henc x) hc kk
def quC{α:Type}{enc:α->List Kw}{k:Nat}(henc:∀x,(enc x).length=k):∀(l:List α) (i:Nat) (x:α),i<l.length->ef (l.flatMap enc).toArray (i*k) (enc x)=((l.set i x).flatMap enc).toArray:=by
 intro l i x hi;have hsplit:l=l.take i++l[i]::l.drop (i+1):=(by rw[<- zY hi,xG]);have hset:l.set i x=l.take i++x::l.drop (i+1):=(by rw[set_eq_take_append_cons_drop,iP hi]);have hlen:((l.take i).flatMap enc).length=i*k:=(by rw[rR henc,yM,xT oK]);have e1:l.flatMap enc=(l.take i).flatMap enc++enc l[i]++(l.drop (i+1)).flatMap enc:=by
  conv=>lhs;rw[hsplit]
  rw[yR,yI,zV]
 have e2:(l.set i x).flatMap enc=(l.take i).flatMap enc++enc x++(l.drop (i+1)).flatMap enc:=(by rw[hset,yR,yI,zV]);rw[e1,e2];generalize (l.take i).flatMap enc=A at hlen;generalize hX:enc l[i]=X;have hXl:X.length=(enc x).length:=(by rw[<- hX,henc,henc]);generalize (l.drop (i+1)).flatMap enc=Z;apply Array.ext';rw[sP _ _ _ oP];rw[<- hlen];have h1:(A++X++Z).take A.length=A:=(by rw[zV,JX (zM _),zS (zM _)]);have h2:(A++X++Z).drop (A.length+(enc x).length)=Z:=(by rw[<- hXl,<- zF,Kf (zM _),Kd (zM _),xK]);rw[h1,h2]
end
end
section
set_option linter.unusedSectionVars false
open Go List
section
variable {α:Type} [DecidableEq α] {P:Ky} {w:Kv} {kt:Kx} {kv:α->Kw}
def kG (kv:α->Kw) (w:Kv) (b:Nat) (f:List (α×Kw)):Prop:=
 ∃es c,w.heap[b]?=some (.map es c)/\qU kv es.toList f/\(es.toList.map (·.born)).Pairwise (· < ·)/\∀e∈es.toList,e.born<c
def kG.at{b:Nat}{f:List (α×Kw)}(h:kG kv w b f):mt kv w b f:=by obtain⟨es,c,hb,he,_⟩:=h;exact⟨es,c,hb,he⟩
def kG.j0{w':Kv}{b:Nat}{S:KD}{f:List (α×Kw)}(h:kG kv w b f)(k:Fr S w w')(h1:b∉S):kG kv w' b f:=by obtain⟨es,c,hb,he⟩:=h;exact⟨es,c,by rw[k.block b (fl hb) h1];exact hb,he⟩
def kG.lt{b:Nat}{f:List (α×Kw)}(h:kG kv w b f):b<w.heap.size:=by obtain⟨es,c,hb,_⟩:=h;exact fl hb
def kG.empty{b:Nat}(hb:w.heap[b]?=some (.map #[] 0)):kG kv w b []:=⟨#[],0,hb,rfl,oM,oM⟩
def kG.new{t et:Kx}{v:Kw}(ht:P.underlying t=some (.map kt et))(K:qb P kt kv){b:Nat}{f:List (α×Kw)}(h:kG kv w b f)(x:α)(hx:posOf x f=none): ∃o,(Instr.mapUpdate t (.map (some b)) (kv x) v).run P w=.ok () (jy w b o)/\kG kv (jy w b o) b (f++[(x,v)]):=by obtain⟨es,c,hb,he,hs,hc⟩:=h;refine⟨.map (es.push ⟨kv x,v,c⟩) (c+1),?_,es.push ⟨kv x,v,c⟩,c+1,?_,?_,?_,?_⟩;simp[Instr.mapUpdate,run_underlying ht,Ko hb,K.check,wK K he,hx,Go.MapKept.run_setObj_map _ hb];rfl;rw[qY _ _ _ _ (fl hb),iP rfl];simp only[qU] at he⊢;simp[he];rw[Array.toList_push,xP,pairwise_append];refine⟨hs,oM,λa ha b hb'=>?_⟩;obtain⟨e,he',rfl⟩:=mem_map.1 ha;simp at hb';subst hb';exact hc e he';intro e he';rw[Array.toList_push] at he';rcases zD.1 he' with h1|h1;exact Nat.lt_succ_of_lt (hc e h1);simp at h1;subst h1;exact Nat.lt_succ_self _
def kG.del{t et ty:Kx}(ht:P.underlying t=some (.map kt et))(K:qb P kt kv){b:Nat}{f:List (α×Kw)}(h:kG kv w b f)(x:α): ∃o,(Builtin.delete_ #[t,kt] ty #[.map (some b),kv x]).run P w=.ok (.tuple #[]) (jy w b o)/\kG kv (jy w b o) b (match posOf x f with|some q=>f.eraseIdx q.1|none=>f):=by
 obtain⟨es,c,hb,he,hs,hc⟩:=h;cases hp:posOf x f with
 | none=>
  refine⟨.map es c,?_,es,c,?_,he,hs,hc⟩;simp[Builtin.delete_,run_underlying ht,Ko hb,K.check,wK K he,hp,Go.MapKept.run_setObj_map _ hb];rfl;rw[qY _ _ _ _ (fl hb),iP rfl]
 | some q=>
  have h1:(es.eraseIdxIfInBounds q.1).toList=es.toList.eraseIdx q.1:=oM;refine⟨.map (es.eraseIdxIfInBounds q.1) c,?_,es.eraseIdxIfInBounds q.1,c,?_,?_,?_,?_⟩;simp[Builtin.delete_,run_underlying ht,Ko hb,K.check,wK K he,hp,Go.MapKept.run_setObj_map _ hb];rfl;rw[qY _ _ _ _ (fl hb),iP rfl];rw[h1];simp only[qU] at he⊢;rw[xf,he,<- xf];rw[h1,xf];exact hs.sublist (eraseIdx_sublist _ _);rw[h1];exact λe he'=>hc e (mem_of_mem_eraseIdx he')
end
end
end Go.Pt
