/- Conditions: those that stand in each line. -/
import Derived.WalkKit
import Derived.RangeFuncLeaves
import Derived.RangeFuncRecord
import Derived.RangeFuncIn
import Derived.ChangeKeysEq
import Derived.Carry
import Derived.ProofKit
import Derived.OpenShut
import Derived.ArgAppend
import Derived.Deep.AppendSrc
import Derived.Deep.Slices
import Derived.MapKept
import Derived.Laws.CopyRow
import Derived.Laws.IdiomCopy
import Derived.Laws.Externs
import Derived.Laws.IdiomRangeMap
import Derived.Lib.SliceRun
import Derived.Lib.Overlaps
import Derived.Lib.AppendZerosOnto
set_option linter.unusedVariables false
set_option linter.unusedSimpArgs false
set_option linter.defProp false
namespace Go.Pt
abbrev Kr:Type:=List Nat
abbrev Kt:Type:=List Int
abbrev Kw:Type:=Int×Int×Int×Int×Int×Int×Int×Int×Int×Int×Int×Int×Int×Int×Int
abbrev Kx:Type:=Int×Int
abbrev Ky:Type:=Int×Int×Int×Int×Int×Int×Int×Int×Int×Int×Int×Int×Int×Int×Int×Int
abbrev Kz:Type:=List (Nat×Go.Obj)
abbrev KA:Type:=Int×Int×Int×Int×Option Go.Addr×Int
abbrev KC:Type:=Int×Int×Int×Int×Int×Int×Int×Int×Int
abbrev KE:Type:=Int×Int×Int×Int×Int×Int×Int×Int×Int×Int
abbrev KG:Type:=Nat×Nat
abbrev KH:Type:=Int×Int×Int
abbrev KJ:Type:=Int×Int×Int×Int
abbrev KK:Type:=Int×Bool
abbrev KL:Type:=Option Go.Addr×Option Go.Addr
abbrev KM:Type:=Int×List Int
abbrev JE(a:Go.Addr)(n:Nat):Go.Addr:=⟨a.block,a.off+n,none⟩
abbrev JG(p:Prop)[Decidable p](X Y:Prop):Prop:=cond (decide p) X Y
theorem JM:type_of% @List.perm_append_singleton:=@List.perm_append_singleton
theorem JN:type_of% @List.take_append_of_le_length:=@List.take_append_of_le_length
theorem JO:type_of% @List.nodup_cons:=@List.nodup_cons
theorem JP:type_of% @List.mem_cons_self:=@List.mem_cons_self
theorem JQ:type_of% @Bool.eq_iff_iff:=@Bool.eq_iff_iff
theorem JR:type_of% @Sem.run_bind:=@Sem.run_bind
theorem JS:type_of% @Result.andThen_ok:=@Result.andThen_ok
theorem JT:type_of% @List.drop_of_length_le:=@List.drop_of_length_le
theorem JU:type_of% @List.drop_append_of_le_length:=@List.drop_append_of_le_length
theorem JV:type_of% @List.eq_nil_of_length_eq_zero:=@List.eq_nil_of_length_eq_zero
theorem JW:type_of% @List.all_eq_true:=@List.all_eq_true
theorem JX:type_of% @Int.tdiv_eq_ediv_of_nonneg:=@Int.tdiv_eq_ediv_of_nonneg
theorem JY:type_of% @Int.tmod_eq_emod_of_nonneg:=@Int.tmod_eq_emod_of_nonneg
theorem JZ:type_of% @Nat.mul_le_mul_right:=@Nat.mul_le_mul_right
theorem Ka:type_of% @List.sublist_cons_self:=@List.sublist_cons_self
theorem Kb:type_of% @Bool.or_eq_false_iff:=@Bool.or_eq_false_iff
theorem Kc:type_of% @decide_eq_false_iff_not:=@decide_eq_false_iff_not
theorem Kd:type_of% @Go.MapKept.run_getObj_map:=@Go.MapKept.run_getObj_map
theorem Kf:type_of% @List.mem_filter:=@List.mem_filter
theorem Kg:type_of% @congrArg:=@congrArg
theorem Kh:type_of% @Array.getElem?_setIfInBounds:=@Array.getElem?_setIfInBounds
theorem Ki:type_of% @Array.length_toList:=@Array.length_toList
abbrev Kj:Type:=Go.World
abbrev Kk:Type:=Go.Value
abbrev Kl:Type:=Go.TypeId
abbrev Km:Type:=Go.Program
abbrev _root_.Go.Value.p(a:Option Go.Addr):Go.Value:=.pointer a
abbrev _root_.Go.Obj.c(a:Array Go.Value)(t:Go.TypeId):Go.Obj:=.cells a t (0,0)
abbrev co:Array Go.Value:=#[.bool false,.slice none 0 0,.slice none 0 0,.slice none 0 0]
abbrev cy:Array Go.Value:=#[.slice none 0 0,.slice none 0 0,.slice none 0 0,.slice none 0 0,.slice none 0 0,.slice none 0 0,.slice none 0 0,.int .u64 0,.bool false,.slice none 0 0]
abbrev cZ:Array Go.Value:=#[.int .u64 0,.int .u64 0,.int .u64 0,.int .u64 0,.int .u64 0,.int .u64 0,.int .u64 0,.int .u64 0,.int .u64 0,.int .u64 0,.int .u64 0,.int .u32 0,.int .u16 0,.int .u16 0,.int .u64 0]
abbrev da:Array Go.Value:=#[.int .u64 0,.int .u64 0,.int .u64 0,.int .u64 0,.int .u64 0,.int .u64 0,.int .u64 0,.int .u64 0,.int .u64 0,.int .u64 0,.int .u64 0,.int .u32 0,.int .u32 0,.int .u16 0,.int .u16 0,.int .u64 0]
abbrev dc:Array Go.Value:=#[.int .u64 0,.int .u64 0]
abbrev dd:Array Go.Value:=#[.int .u64 0,.int .u64 0,.int .u64 0,.int .u64 0,.int .u64 0,.int .u64 0,.int .u64 0,.int .u64 0,.int .u64 0]
abbrev de:Array Go.Value:=#[.int .u64 0,.int .u64 0,.int .u64 0,.int .u64 0,.int .u64 0,.int .u64 0,.int .u64 0,.int .u64 0,.int .u64 0,.int .u8 0]
abbrev df:Array Go.Value:=#[.int .u64 0,.int .u64 0,.int .u64 0,.int .u64 0]
abbrev dg:Array Go.Value:=#[.int .u32 0,.bool false,.slice none 0 0,.int .u32 0]
abbrev dh:Array Go.Value:=#[.slice none 0 0,.slice none 0 0]
abbrev di:Array Go.Value:=#[.bool false,.slice none 0 0,.slice none 0 0,.slice none 0 0,.int .i64 0]
abbrev dj:Array Go.Value:=#[.int .u32 0,.int .u32 0,.int .u32 0,.int .u32 0,.int .u32 0,.int .u32 0,.int .u32 0,.int .u32 0]
abbrev dk(a b:Int):Go.Value:=.agg #[.int .u64 a,.int .u64 b]
abbrev dm(b:Nat)(o:Nat:=0):Go.Addr:=⟨b,o,none⟩
abbrev dQ(b:Nat):Go.Value:=.pointer (some ⟨b,0,none⟩)
section
open Go
variable {K:Bool->Prop} {ds:List Deferred} {t:Kl} {y:Operand}
theorem oK{p:Prop}(h:p:=by omega):p:=h
theorem oL{p:Prop}(h:p:=by kernel_rfl):p:=h
theorem oM{p:Prop}(h:p:=by simp):p:=h
theorem oN{p:Prop}(h:p:=by decide):p:=h
theorem oO{p:Prop}(h:p:=by dsimp only;omega):p:=h
theorem oP{p:Prop}(h:p:=by simp;omega):p:=h
theorem oQ{p q:Prop}(x:q)(h:q->p:=by intro h;simpa using h):p:=h x
inductive Cell where
  | int (k:IntKind) | bool | str | ptr | slice | map | any
  deriving DecidableEq
abbrev dl:List Cell:=[.int .u64,.int .u64]
structure Sl where
  a:Option Addr
  len:Nat
  cap:Nat
abbrev Sl.v (s:Sl):Kk:=.slice s.a s.len s.cap
abbrev WP:=Kj->Prop
abbrev Ku:Type:=Bool×Sl×Sl×Sl
abbrev Kv:Type:=Sl×Sl×Sl×Sl×Sl×Sl×Sl×Int×Bool×Sl
abbrev KD:Type:=Sl×Int
abbrev KF:Type:=Int×Bool×Sl×Int
abbrev KI:Type:=Int×Sl×Int
abbrev pW (r:Nat):Option Addr:=some (dm r)
abbrev _root_.Go.Value.i (n:Int):Value:=.int .i64 n
abbrev Cell.i:Cell:=.int .i64
abbrev _root_.Go.Value.b (n:Int):Value:=.int .u8 n
abbrev Cell.b:Cell:=.int .u8
abbrev _root_.Go.Value.u (n:Int):Value:=.int .u32 n
abbrev Cell.u:Cell:=.int .u32
abbrev Cell.s:Cell:=.slice
abbrev _root_.Go.Value.w (n:Int):Value:=.int .u64 n
abbrev Cell.w:Cell:=.int .u64
def zA:type_of% @List.getElem?_eq_getElem:=@List.getElem?_eq_getElem
def zB:type_of% @of_decide_eq_false:=@of_decide_eq_false
def zC:type_of% @of_decide_eq_true:=@of_decide_eq_true
def zD:type_of% @List.mem_append:=@List.mem_append
def zE:type_of% @List.mem_singleton:=@List.mem_singleton
def zF:type_of% @List.length_append:=@List.length_append
def zG:type_of% @List.mem_cons:=@List.mem_cons
def zH:type_of% @List.mem_append_left:=@List.mem_append_left
def zI:type_of% @List.mem_append_right:=@List.mem_append_right
def zJ:type_of% @Int.toNat_natCast:=@Int.toNat_natCast
def zK:type_of% @List.length_map:=@List.length_map
def zL:type_of% @Nat.le_trans:=@Nat.le_trans
def zM:type_of% @Nat.le_refl:=@Nat.le_refl
def zN:type_of% @List.mem_cons_of_mem:=@List.mem_cons_of_mem
def zO:type_of% @Nat.le_of_ble_eq_true:=@Nat.le_of_ble_eq_true
def zP:type_of% @List.getElem?_eq_some_iff:=@List.getElem?_eq_some_iff
def zQ:type_of% @List.getElem?_map:=@List.getElem?_map
def zR:type_of% @beq_eq_false_iff_ne:=@beq_eq_false_iff_ne
def zS:type_of% @List.take_of_length_le:=@List.take_of_length_le
def zT:type_of% @Bool.not_eq_true':=@Bool.not_eq_true'
def zU:type_of% @decide_eq_false:=@decide_eq_false
def zV:type_of% @List.append_assoc:=@List.append_assoc
def zX:type_of% @List.getElem_mem:=@List.getElem_mem
def zY:type_of% @List.drop_eq_getElem_cons:=@List.drop_eq_getElem_cons
def zZ:type_of% @List.mem_map_of_mem:=@List.mem_map_of_mem
def yA:type_of% @decide_eq_true:=@decide_eq_true
def yB:type_of% @Bool.and_eq_true:=@Bool.and_eq_true
def yC:type_of% @List.length_drop:=@List.length_drop
def yE:type_of% @Nat.lt_of_lt_of_le:=@Nat.lt_of_lt_of_le
def yF:type_of% @Bool.not_eq_false':=@Bool.not_eq_false'
def yG:type_of% @List.mem_of_getElem?:=@List.mem_of_getElem?
def yH:type_of% @List.take_succ_eq_append_getElem:=@List.take_succ_eq_append_getElem
def yI:type_of% @List.flatMap_cons:=@List.flatMap_cons
def yJ:type_of% @List.length_cons:=@List.length_cons
def yK:type_of% @List.pairwise_cons:=@List.pairwise_cons
def yL:type_of% @List.mem_flatMap:=@List.mem_flatMap
def yM:type_of% @List.length_take:=@List.length_take
def yN:type_of% @List.nodup_append:=@List.nodup_append
def yO:type_of% @decide_eq_true_iff:=@decide_eq_true_iff
def yP:type_of% @Option.some.inj:=@Option.some.inj
def yQ:type_of% @beq_iff_eq:=@beq_iff_eq
def yR:type_of% @List.flatMap_append:=@List.flatMap_append
def yS:type_of% @List.getD_eq_getElem?_getD:=@List.getD_eq_getElem?_getD
def yT:type_of% @List.getElem?_eq_none:=@List.getElem?_eq_none
def yU:type_of% @Option.map_eq_some_iff:=@Option.map_eq_some_iff
def yV:type_of% @List.mem_of_mem_drop:=@List.mem_of_mem_drop
def yW:type_of% @List.mem_of_mem_take:=@List.mem_of_mem_take
def yX:type_of% @Nat.eq_of_beq_eq_true:=@Nat.eq_of_beq_eq_true
def yY:type_of% @Nat.zero_le:=@Nat.zero_le
def yZ:type_of% @List.getElem?_append_right:=@List.getElem?_append_right
def xA:type_of% @List.getElem?_append_left:=@List.getElem?_append_left
def xB:type_of% @List.getElem?_drop:=@List.getElem?_drop
def xC:type_of% @List.getElem?_take:=@List.getElem?_take
def xE:type_of% @List.filter_append:=@List.filter_append
def xF:type_of% @List.drop_drop:=@List.drop_drop
def xG:type_of% @List.take_append_drop:=@List.take_append_drop
def xH:type_of% @List.drop_zero:=@List.drop_zero
def xI:type_of% @List.length_set:=@List.length_set
def xJ:type_of% @List.append_nil:=@List.append_nil
def xK:type_of% @List.nil_append:=@List.nil_append
def xL:type_of% @List.cons_append:=@List.cons_append
def xM:type_of% @List.length_nil:=@List.length_nil
def xN:type_of% @Array.getElem?_toList:=@Array.getElem?_toList
def xO:type_of% @List.length_singleton:=@List.length_singleton
def xP:type_of% @List.map_append:=@List.map_append
def xQ:type_of% @List.map_cons:=@List.map_cons
def xR:type_of% @List.map_take:=@List.map_take
def xS:type_of% @List.map_drop:=@List.map_drop
def xT:type_of% @Nat.min_eq_left:=@Nat.min_eq_left
def xU:type_of% @Nat.zero_add:=@Nat.zero_add
def xV:type_of% @Nat.mul_one:=@Nat.mul_one
def xW:type_of% @Nat.add_mul:=@Nat.add_mul
def xX:type_of% @Option.getD_some:=@Option.getD_some
def xY:type_of% @Option.getD_none:=@Option.getD_none
def xZ:type_of% @List.not_mem_nil:=@List.not_mem_nil
def vA:type_of% @Nat.not_lt_zero:=@Nat.not_lt_zero
def vB:type_of% @List.take_length:=@List.take_length
def vC:type_of% @List.dropLast_concat_getLast:=@List.dropLast_concat_getLast
def vD:type_of% @Prod.mk.inj:=@Prod.mk.inj
def vE:type_of% @List.cons.inj:=@List.cons.inj
def vF:type_of% @Nat.add_sub_cancel_left:=@Nat.add_sub_cancel_left
def vG:type_of% @List.drop_eq_nil_of_le:=@List.drop_eq_nil_of_le
def iN{c:Prop}[Decidable c]{α:Type _}{t e:α}(h:¬c:=by omega):ite c t e=e:=if_neg h
def iP{c:Prop}[Decidable c]{α:Type _}{t e:α}(h:c:=by omega):ite c t e=t:=if_pos h
@[reducible] def Cell.El:Cell->Type
  | .int _=>Int
  | .bool=>Bool
  | .str=>ByteArray
  | .ptr=>Option Addr
  | .slice=>Sl
  | .map=>Option Nat
  | .any=>Kk
def Cell.mk:(c:Cell)->c.El->Kk
  | .int k,n=>.int k n
  | .bool,b=>.bool b
  | .str,s=>.string s
  | .ptr,p=>.pointer p
  | .slice,s=>.slice s.a s.len s.cap
  | .map,m=>.map m
  | .any,v=>v
def Cell.un:(c:Cell)->Kk->Option c.El
  | .int k,.int j n=>if k=j then some n else none
  | .bool,.bool b=>some b
  | .str,.string s=>some s
  | .ptr,.pointer p=>some p
  | .slice,.slice a l c=>some ⟨a,l,c⟩
  | .map,.map m=>some m
  | .any,v=>some v
  | _,_=>none
def Cell.ng{c:Cell}{v:Kk}{x:c.El}(h:c.un v=some x):c.mk x=v:=by
  cases c<;>cases v<;>simp[Cell.un] at h<;>first
    | (obtain⟨rfl,rfl⟩:=h;rfl)
    | (subst h;rfl)
@[reducible] def HL:List Cell->Type
  | []=>Unit
  | [c]=>c.El
  | c::d::cs=>c.El×HL (d::cs)
def HL.mk:(cs:List Cell)->HL cs->List Kk
  | [],_=>[]
  | [c],x=>[c.mk x]
  | c::d::cs,x=>c.mk x.1::HL.mk (d::cs) x.2
abbrev JH(c:List Cell)(x:HL c)(t:Go.TypeId):Go.Obj:=.c (HL.mk c x).toArray t
abbrev JI(c:List Cell)(x:HL c):Go.Value:=.agg (HL.mk c x).toArray
def HL.j3:∀(cs:List Cell) (x:HL cs),(HL.mk cs x).length=cs.length
  | [],_=>rfl
  | [_],_=>rfl
  | _::d::cs,x=>by simp only[HL.mk,yJ,HL.j3 (d::cs) x.2]
def HL.un:(cs:List Cell)->List Kk->Option (HL cs)
  | [],[]=>some ()
  | [c],[v]=>c.un v
  | c::d::cs,v::vs=>
    match c.un v,HL.un (d::cs) vs with
    | some x,some y=>some (x,y)
    | _,_=>none
  | _,_=>none
def HL.ng:∀ {cs:List Cell} {vs:List Kk} {x:HL cs},HL.un cs vs=some x->HL.mk cs x=vs
  | [],[],_,_=>rfl
  | [],_::_,_,h=>by simp[HL.un] at h
  | [c],[v],x,h=>by simp only[HL.un] at h;simp only[HL.mk,Cell.ng h]
  | [c],[],x,h=>by simp[HL.un] at h
  | [c],_::_::_,x,h=>by simp[HL.un] at h
  | c::d::cs,[],x,h=>by simp[HL.un] at h
  | c::d::cs,v::vs,x,h=>by simp only[HL.un] at h;split at h;rename_i a b ha hb;cases h;simp only[HL.mk,Cell.ng ha,HL.ng hb];cases h
inductive iY where
  | one (c:Cell)
  | agg (cs:List Cell)
  | pE
abbrev dp:List iY:=[.one .slice]
abbrev dq:List iY:=[.one .i]
abbrev dr:List iY:=[.one .bool]
abbrev dt:List iY:=[.one .slice,.one .i]
abbrev du:List iY:=[.pE,.one .bool]
abbrev dv:List iY:=[.one (.w)]
abbrev dw:List iY:=[.one .b,.one .slice,.one .i]
abbrev dz:List iY:=[.one .slice,.one .slice]
abbrev dA:List iY:=[.one .i,.one .i]
abbrev dB:List iY:=[.one .u,.one .i]
abbrev dC:List iY:=[.one .any]
abbrev dD:List iY:=[.one .u]
abbrev dE:List iY:=[.one .ptr]
abbrev dF:List iY:=[.pE]
abbrev dG:List iY:=[.one .i,.one .bool]
abbrev dH:List iY:=[.one .ptr,.one .ptr]
abbrev dI:List iY:=[.one (.int .u16)]
abbrev dJ:List iY:=[.one .u,.one .bool]
abbrev dK:List iY:=[.pE,.one .i]
abbrev dL:List iY:=[.one (.w),.one (.w)]
abbrev dM:List iY:=[.one (.w),.one (.w),.one .bool]
abbrev dN:List iY:=[.one .ptr,.one .i]
abbrev dO:List iY:=[.one .u,.one .slice,.one .i]
abbrev dP:List iY:=[.one (.w),.one .bool]
abbrev dR:Sl:=⟨none,0,0⟩
@[reducible] def iY.El:iY->Type
  | .one c=>c.El
  | .agg cs=>HL cs
  | .pE=>List Kk
def iY.mk:(t:iY)->t.El->Kk
  | .one c,x=>c.mk x
  | .agg cs,x=>.agg (HL.mk cs x).toArray
  | .pE,x=>.agg x.toArray
def iY.un:(t:iY)->Kk->Option t.El
  | .one c,v=>c.un v
  | .agg cs,.agg vs=>HL.un cs vs.toList
  | .pE,.agg vs=>some vs.toList
  | .agg _,_=>none
  | .pE,_=>none
def iY.ng{t:iY}{v:Kk}{x:t.El}(h:t.un v=some x):t.mk x=v:=by
  cases t with
  | one c=>exact Cell.ng h
  | agg cs=>
    cases v<;>simp only[iY.un] at h<;>first
      | cases h
      | (simp only[iY.mk,HL.ng h])
  | pE=>
    cases v<;>simp only[iY.un] at h<;>first
      | (cases h;done)
      | (cases h;simp only[iY.mk])
@[reducible] def jx:List iY->Type
  | []=>Unit
  | [t]=>t.El
  | t::u::ts=>t.El×jx (u::ts)
def jx.vals:(ts:List iY)->jx ts->List Kk
  | [],_=>[]
  | [t],x=>[t.mk x]
  | t::u::ts,x=>t.mk x.1::jx.vals (u::ts) x.2
def gG:(ts:List iY)->jx ts->Kk
  | [],_=>.tuple #[]
  | [t],x=>t.mk x
  | t::u::ts,x=>.tuple (jx.vals (t::u::ts) x).toArray
abbrev Env:=List (Nat×Kk)
def Env.get:Env->Nat->Option Kk
  | [],_=>none
  | (k,v)::r,t=>bif Nat.beq k t then some v else Env.get r t
def Env.ev (e:Env):Operand->Option Kk
  | .tmp t=>e.get t
  | .const v=>some v
  | .global g=>some (.pointer (some (dm g)))
  | .func f=>some (.func (.func f) #[] #[])
def Env.put (e:Env) (dst:Option Tmp) (v:Kk):Env:=
  match dst with
  | some d=>(d,v)::e
  | none=>e
def Env.sE (e:Env):List Operand->Option (List Kk)
  | []=>some []
  | x::xs=>match e.ev x,e.sE xs with
    | some v,some vs=>some (v::vs)
    | _,_=>none
abbrev Live:=List (Nat×iY)
@[reducible] def td (l:Live):Type:=jx (l.map (·.2))
def qp:(l:Live)->td l->Env
  | [],_=>[]
  | [(t,y)],x=>[(t,y.mk x)]
  | (t,y)::p::r,x=>(t,y.mk x.1)::qp (p::r) x.2
def m8:(l:Live)->Env->Option (td l)
  | [],_=>some ()
  | [(t,y)],e=>match e.get t with|some v=>y.un v|none=>none
  | (t,y)::p::r,e=>
    match e.get t with
    | some v=>match y.un v with
      | some x=>match m8 (p::r) e with
        | some z=>some (x,z)
        | none=>none
      | none=>none
    | none=>none
def kr (w:Kj) (a:Addr):Nat->List Kk->Prop
  | _,[]=>True
  | i,[v]=>w.cell? (a.add i)=some v
  | i,v::vs=>w.cell? (a.add i)=some v/\kr w a (i+1) vs
structure mJ where
  ld:(c:Cell)->Addr->Kj->(c.El->Prop)->Prop
  dT:(cs:List Cell)->Addr->Kj->(HL cs->Prop)->Prop
  iF:Nat->Addr->Kj->(List Kk->Prop)->Prop
  pC:(c:Cell)->List Kk->Nat->(c.El->Prop)->Prop
  kc:(cs:List Cell)->List Kk->Nat->(HL cs->Prop)->Prop
  fv:Kl->Kj->(Nat->Kj->Prop)->Prop
  st:Addr->List Kk->Kj->(Kj->Prop)->Prop
  new:Obj->Kj->(Nat->Kj->Prop)->Prop
  idx:Sl->Int->Nat->(Addr->Prop)->Prop
  kN:ByteArray->Int->(Int->Prop)->Prop
  kG:(c:Cell)->Nat->List Kk->Int->(c.El->Prop)->Prop
  fZ:Sl->Option Int->Option Int->Option Int->Nat->(Sl->Prop)->Prop
  kJ:ByteArray->Option Int->Option Int->(ByteArray->Prop)->Prop
  jX:Addr->Nat->Option Int->Option Int->Option Int->Nat->(Sl->Prop)->Prop
  nt:Kl->List Kk->Nat->Nat->Int->Int->Kj->(Sl->Kj->Prop)->Prop
  ib:Prop->Prop->Prop
  call:FuncId->List Kk->(ts:List iY)->Kj->(jx ts->Kj->Prop)->Prop
  eF:Kk->List Kk->(ts:List iY)->Kj->(jx ts->Kj->Prop)->Prop
  inv:Kk->String->List Kk->(ts:List iY)->Kj->(jx ts->Kj->Prop)->Prop
  run:(ts:List iY)->Result Kk->(jx ts->Kj->Prop)->Prop
  fK:(ts:List iY)->(Kj->Result Kk)->Kj->(jx ts->Prop)->Prop
  i3:Result Unit->(Kj->Prop)->Prop
  join:(S:Type)->((S->Kj->Prop)->Prop)->(S->Kj->Prop)->Prop
  loop:(S:Type)->((S->Kj->Prop)->S->Kj->Prop)->S->Kj->Prop
  held:List (Kj->Prop)->Kj->Prop->Prop
  ext:FuncId->List Kk->(ts:List iY)->Kj->(jx ts->Kj->Prop)->Prop
  kC:Kk->(pts:List iY)->(jx pts->(Kj->(Kj->Prop)->Prop)->(Kj->Prop)->(Nat->Kj->Prop)->Kj->Prop)->(Nat->Kj->Prop)->List (Nat->Kj->Prop)->Kj->Prop
  fl:Nat->Kj->(Kj->Prop)->Prop
  oW:Sl->Nat->(Addr->Prop)->Prop
  pD:Result Kk->(Kj->Prop)->(Kk->Kk->Kj->Prop)->Prop
  pG:Result Kk->(Kk->Kk->Kj->Prop)->Prop
def cellOf:Kk->Cell
  | .int k _=>.int k
  | .bool _=>.bool
  | .string _=>.str
  | .pointer _=>.ptr
  | .slice _ _ _=>.slice
  | .map _=>.map
  | _=>.any
def qO (P:Km) (t:Kl):iY:=
  match (P.info? t).bind (·.zero) with
  | some (.agg cs)=>bif Nat.ble cs.size 16 then .agg (cs.toList.map cellOf) else .pE
  | some v=>.one (cellOf v)
  | none=>.one .any
def qw (P:Km) (t:Kl):List iY:=
  match P.underlying t with
  | some (.tuple ts)=>ts.toList.map (qO P)
  | _=>[qO P t]
def fV (P:Km) (t:Kl):Bool:=
  match P.underlying t with
  | some (.struct _)|some (.array _ _)=>true
  | _=>false
def fG (P:Km) (t:Kl):Nat:=((P.info? t).map (·.size)).getD 0
def oi (e:Env):Option Operand->Option (Option Int)
  | none=>some none
  | some x=>match e.ev x with
    | some (.int _ n)=>some (some n)
    | _=>none
def oo:Operand->Bool
  | .const (.int _ n)=>n != 0
  | _=>false
def oj:Operand->Bool
  | .const (.int _ n)=>decide (0<=n)
  | _=>false
def uD (n:Nat):Operand->Option Nat
  | .const (.int _ i)=>if 0<=i/\i<(n:Int) then some i.toNat else none
  | _=>none
def tJ (size:Nat) (len:Nat) (zero:List Kk) (parts:List (Nat×Kk)):Option (Array Kk):=
  Instr.fill (λi=>some (i*size,size)) ((Array.range (len*size)).map (zero.toArray[·%zero.toArray.size]!)) parts
def mX (e:Env):List (Nat×Operand)->Option (List (Nat×Kk))
  | []=>some []
  | (i,x)::r=>match e.ev x,mX e r with
    | some v,some vs=>some ((i,v)::vs)
    | _,_=>none
inductive Cls where
  | pure | read | BH
  deriving DecidableEq
def jD (P:Km) (f:FuncId):Bool:=match P.funcs[f]? with|some fn=>fn.body.isNone||(fn.name== "runtime.NumGoroutine")|none=>true
def pH (P:Km) (t:Kl):Bool:=(P.info? t).isSome&&(P.underlying t).isSome
def xp (P:Km) (t:Kl):Bool:=
  match P.underlying t with
  | some (.int _)|some .bool|some .string=>true
  | _=>false
def Bt (P:Km) (t:Kl):Bool:=match P.underlying t with|some (.map _ _)=>true|_=>false
def wt (P:Km) (t:Kl):Bool:=match P.underlying t with|some (.slice _)=>true|_=>false
def AV (P:Km) (t:Kl):Bool:=match P.underlying t with|some .string=>true|_=>false
def vL (P:Km) (t:Kl):Bool:=match P.underlying t with|some (.int _)=>true|_=>false
def If (P:Km) (t:Kl):Bool:=match P.underlying t with|some (.array _ _)=>true|_=>false
def jP:Operand->Bool
  | .const (.pointer none)=>true
  | .const (.slice none _ _)=>true
  | .const (.map none)=>true
  | .const .nilIface=>true
  | .const .nilFunc=>true
  | _=>false
def CB (P:Km):Op->Cls
  | .move _ | .assign _ | .pick .. | .nilCheck _ | .unOp .. | .extract .. | .field .. | .fieldAddr .. | .makeInterface .. | .makeFunc .. | .build ..
  | .indexAddr .. | .index .. | .slice .. | .sliceToArrayPointer ..=>.pure
  | .binOp op t x y _=>
    match op with
    | .eql | .neq=>if xp P t||jP x||jP y then .pure else .read
    | _=>.pure
  | .convert s d _=>if vL P s&&vL P d then .pure else if wt P s&&AV P d then .read else .BH
  | .load .. | .typeAssert ..=>.read
  | .lookup ..=>.read
  | .call { callee:=.builtin .len,argTypes,.. }=>if Bt P (argTypes.getD 0 0) then .read else .pure
  | .call { callee:=.builtin .cap,.. } | .call { callee:=.builtin .min,.. } | .call { callee:=.builtin .max,.. }=>.pure
  | _=>.BH
def ut (op:BinOp) (k:IntKind) (a b:Int):Option Kk:=
  match op with
  | .add=>some (.int k (k.wrap (a+b)))
  | .sub=>some (.int k (k.wrap (a-b)))
  | .mul=>some (.int k (k.wrap (a*b)))
  | .and=>some (.int k (bits .and k a b))
  | .or=>some (.int k (bits .or k a b))
  | .xor=>some (.int k (bits .xor k a b))
  | .andNot=>some (.int k (bits .andNot k a b))
  | .eql=>some (.bool (a==b))
  | .neq=>some (.bool (a != b))
  | .lss=>some (.bool (decide (a<b)))
  | .leq=>some (.bool (decide (a<=b)))
  | .gtr=>some (.bool (decide (a>b)))
  | .geq=>some (.bool (decide (a>=b)))
  | _=>none
def ul (op:BinOp) (a b:ByteArray):Option Kk:=
  match op with
  | .lss=>some (.bool (Op.bytesLess a.toList b.toList))
  | .leq=>some (.bool (Op.bytesLess a.toList b.toList||a.toList==b.toList))
  | .gtr=>some (.bool (!(Op.bytesLess a.toList b.toList||a.toList==b.toList)))
  | .geq=>some (.bool (!Op.bytesLess a.toList b.toList))
  | _=>none
def isIface:Kk->Bool
  | .nilIface=>true
  | .iface _ _=>true
  | _=>false
def sQ:Kk->Bool
  | .nilIface=>true
  | _=>false
def xk:Kk->Bool
  | .nilFunc=>true
  | .func _ _ _=>true
  | _=>false
def ti:Kk->Bool
  | .nilFunc=>true
  | _=>false
def uE (C:mJ) (P:Km) (t:Kl) (v u:Kk) (K:Bool->Prop):Prop:=
  match P.underlying t with
  | some (.pointer _)=>match v,u with | .pointer p,.pointer none=>K p.isNone|_,_=>False
  | some (.slice _)=>match v,u with | .slice a _ _,.slice none _ _=>K a.isNone|_,_=>False
  | some (.map _ _)=>match v,u with | .map r,.map none=>K r.isNone|_,_=>False
  | some (.interface _)=>match u with | .nilIface=>C.ib (isIface v=true) (K (sQ v))|_=>False
  | some (.func _ _ _)=>match u with | .nilFunc=>C.ib (xk v=true) (K (ti v))|_=>False
  | _=>False
def ym (C:mJ) (P:Km) (t:Kl) (x y:Operand) (e:Env) (K:Bool->Prop):Prop:=
  match e.ev x,e.ev y with
  | some a,some b=>
    bif jP y then uE C P t a b K else bif jP x then uE C P t b a K else
    match a,b with
    | .int k a,.int j b=>bif k==j then K (a==b) else False
    | .bool a,.bool b=>match P.underlying t with|some .bool=>K (a==b)|_=>False
    | .string a,.string b=>K (a.toList==b.toList)
    | _,_=>False
  | _,_=>False
def iD (C:mJ) (P:Km) (o:Oper) (e:Env) (w:Kj) (K:Kk->Prop):Prop:=
  match o.op with
  | .move x=>match e.ev x with|some v=>K v|none=>False
  | .assign x=>match e.ev x with|some v=>K v|none=>False
  | .nilCheck x=>
    match e.ev x with
    | some (.pointer p)=>match p with
      | some a=>K (.pointer (some a))
      | none=>False
    | _=>False
  | .pick c a b=>
    match e.ev c,e.ev a,e.ev b with
    | some (.bool t),some x,some y=>match t with|true=>K x|false=>K y
    | _,_,_=>False
  | .binOp .quo t x y yt=>
      match e.ev x,e.ev y with
      | some (.int k a),some (.int j b)=>bif k==j then (bif oo y then K (.int k (k.wrap (a.tdiv b))) else C.ib (b≠0) (K (.int k (k.wrap (a.tdiv b))))) else False
      | _,_=>False
  | .binOp .rem t x y yt=>
      match e.ev x,e.ev y with
      | some (.int k a),some (.int j b)=>bif k==j then (bif oo y then K (.int k (a.tmod b)) else C.ib (b≠0) (K (.int k (a.tmod b)))) else False
      | _,_=>False
  | .binOp .shl t x y yt=>
      match e.ev x,e.ev y with
      | some (.int k a),some (.int _ b)=>bif oj y then K (.int k (k.wrap (a*2^min b.toNat k.bits))) else C.ib (0<=b) (K (.int k (k.wrap (a*2^min b.toNat k.bits))))
      | _,_=>False
  | .binOp .shr t x y yt=>
      match e.ev x,e.ev y with
      | some (.int k a),some (.int _ b)=>bif oj y then K (.int k (a.fdiv (2^min b.toNat k.bits))) else C.ib (0<=b) (K (.int k (a.fdiv (2^min b.toNat k.bits))))
      | _,_=>False
  | .binOp .eql t x y _=>ym C P t x y e (λr=>K (.bool r))
  | .binOp .neq t x y _=>ym C P t x y e (λr=>K (.bool (!r)))
  | .binOp op t x y _=>
    match e.ev x,e.ev y with
    | some (.int k a),some (.int j b)=>bif k==j then (match ut op k a b with|some v=>K v|none=>False) else False
    | some (.string a),some (.string b)=>match op with
      | .add=>C.ib (((a.size+b.size:Nat):Int)<=IntKind.i64.max) (K (.string (a++b)))
      | op=>match ul op a b with|some v=>K v|none=>False
    | _,_=>False
  | .unOp op _ x=>
    match e.ev x with
    | some (.int k n)=>match op with
      | .neg=>K (.int k (k.wrap (0-n)))
      | .xor=>K (.int k (bits .xor k (if k.signed then -1 else k.max) n))
      | _=>False
    | some (.bool b)=>match op with
      | .not=>K (.bool (!b))
      | _=>False
    | _=>False
  | .convert s d x=>
    match P.underlying s,e.ev x with
    | some _,some (.int _ n)=>match P.underlying d with
      | some (.int k)=>K (.int k (k.wrap n))
      | _=>False
    | _,_=>False
  | .extract x i=>
    match e.ev x with
    | some (.tuple vs)=>match vs.toList[i]? with|some v=>K v|none=>False
    | _=>False
  | .field t x f=>
    match P.underlying t,e.ev x with
    | some (.struct fs),some (.agg cs)=>match fs[f]? with
      | some fd=>bif !pH P fd.type then False else match qO P t with
       | .pE=>match qO P fd.type with
         | .one c=>bif fV P fd.type then False else C.pC c cs.toList fd.offset (λy=>K (c.mk y))
         | .agg cl=>bif fV P fd.type&&Nat.beq (fG P fd.type) cl.length then C.kc cl cs.toList fd.offset (λy=>K (.agg (HL.mk cl y).toArray)) else False
         | .pE=>bif fV P fd.type then K (.agg (cs.toList.extract fd.offset (fd.offset+fG P fd.type)).toArray) else False
       | _=>bif fV P fd.type then K (.agg (cs.toList.extract fd.offset (fd.offset+fG P fd.type)).toArray) else match cs.toList[fd.offset]? with
        | some v=>K v
        | none=>False
      | none=>False
    | _,_=>False
  | .fieldAddr t x f=>
    match P.underlying t with
    | some (.struct fs)=>match fs[f]? with
      | some fd=>bif Nat.beq (fG P fd.type) 0 then False else match e.ev x with
        | some (.pointer p)=>match p with
          | some a=>K (.pointer (some (a.add fd.offset)))
          | none=>False
        | _=>False
      | none=>False
    | _=>False
  | .makeInterface t x=>
    match P.underlying t,e.ev x with
    | some (.interface _),_=>False
    | some _,some v=>K (.iface t v)
    | _,_=>False
  | .makeFunc fn first cap=>
    match e.sE first.toList,e.sE cap.toList with
    | some f,some c=>K (.func fn f.toArray c.toArray)
    | _,_=>False
  | .build t parts=>
    match mX e parts.toList with
    | some vs=>match qO P t with
      | .pE=>C.fK dF (λw'=>(Instr.build t vs.toArray).run P w') w (λy=>K (.agg y.toArray))
      | _=>match (Instr.build t vs.toArray).run P w with
        | .ok v _=>K v
        | .halt _ _=>False
    | none=>False
  | .indexAddr t x ix=>
    match P.underlying t with
    | some (.slice el)=>bif !pH P el then False else match e.ev x,e.ev ix with
      | some (.slice a l c),some (.int _ i)=>C.idx ⟨a,l,c⟩ i (fG P el) (λad=>K (.pointer (some ad)))
      | _,_=>False
    | some (.array n el)=>bif !pH P el then False else match e.ev x with
      | some (.pointer (some a))=>match uD n ix with
        | some i=>K (.pointer (some (a.add (i*fG P el))))
        | none=>match e.ev ix with
          | some (.int _ i)=>C.ib (0<=i/\i<(n:Int)) (K (.pointer (some (a.add (i.toNat*fG P el)))))
          | _=>False
      | _=>False
    | _=>False
  | .sliceToArrayPointer t x=>
    match P.underlying t with
    | some (.array n _)=>match e.ev x with
      | some (.slice a l c)=>C.oW ⟨a,l,c⟩ n (λad=>K (.pointer (some ad)))
      | _=>False
    | _=>False
  | .index t x ix=>
    match P.underlying t with
    | some .string=>match e.ev x,e.ev ix with
      | some (.string s),some (.int _ i)=>C.kN s i (λb=>K (.int .u8 b))
      | _,_=>False
    | some (.array n el)=>match e.ev x,e.ev ix with
      | some (.agg cs),some (.int _ i)=>
        match qO P el with
        | .one c=>bif fV P el||!(Nat.beq (fG P el) 1)||!pH P el then False else C.kG c n cs.toList i (λy=>K (c.mk y))
        | .agg cl=>bif !(fV P el)||!(Nat.beq (fG P el) cl.length)||!pH P el then False else C.ib (0<=i/\i<(n:Int)) (C.kc cl cs.toList (i.toNat*cl.length) λy=>K (.agg (HL.mk cl y).toArray))
        | .pE=>False
      | _,_=>False
    | _=>False
  | .slice t x lo hi mx=>
    bif mx.isSome&&hi.isNone then False else
    match oi e lo,oi e hi,oi e mx with
    | some l,some h,some m=>
      match P.underlying t with
      | some (.slice el)=>bif !pH P el then False else match e.ev x with
        | some (.slice a n c)=>C.fZ ⟨a,n,c⟩ l h m (fG P el) (λs=>K (.slice s.a s.len s.cap))
        | _=>False
      | some .string=>match e.ev x,m with
        | some (.string s),none=>C.kJ s l h (λr=>K (.string r))
        | _,_=>False
      | some (.array n el)=>bif !pH P el then False else match e.ev x with
        | some (.pointer (some a))=>C.jX a n l h m (fG P el) (λs=>K (.slice s.a s.len s.cap))
        | _=>False
      | _=>False
    | _,_,_=>False
  | .call { callee:=.builtin b,argTypes,args }=>
    match b with
    | .len=>match (argTypes[0]?).bind P.underlying,e.sE args.toList with
      | some (.slice _),some [.slice _ n _]=>K (.int .i64 n)
      | some .string,some [.string s]=>K (.int .i64 s.size)
      | some (.array n _),some [_]=>K (.int .i64 n)
      | _,_=>False
    | .cap=>match (argTypes[0]?).bind P.underlying,e.sE args.toList with
      | some (.slice _),some [.slice _ _ c]=>K (.int .i64 c)
      | _,_=>False
    | .min=>match e.sE args.toList with
      | some [.int k x,.int _ y]=>K (.int k (if y<x then y else x))
      | _=>False
    | .max=>match e.sE args.toList with
      | some [.int k x,.int _ y]=>K (.int k (if y>x then y else x))
      | _=>False
    | _=>False
  | _=>False
def oc (C:mJ) (P:Km) (o:Oper) (e:Env) (w:Kj) (K:Kk->(Kj->Prop)->Prop):Prop:=
  match o.op with
  | .load t x=>
    match e.ev x with
    | some (.pointer p)=>match p with
      | some a=>
        match qO P t with
        | .one c=>bif !pH P t then False else bif fV P t then False else C.ld c a w (λy=>K (c.mk y) λw'=>w'.cell? a=some (c.mk y))
        | .agg cs=>bif fV P t&&Nat.beq (fG P t) cs.length then C.dT cs a w (λy=>K (.agg (HL.mk cs y).toArray) λw'=>kr w' a 0 (HL.mk cs y)) else False
        | .pE=>bif fV P t then C.iF (fG P t) a w (λy=>K (.agg y.toArray) λw'=>kr w' a 0 y) else False
      | none=>False
    | _=>False
  | .lookup t m k ok=>
    match e.ev m,e.ev k with
    | some vm,some vk=>C.fK (qw P o.type) (λw'=>(Instr.lookup t vm vk ok).run P w') w (λy=>K (gG _ y) λw'=>(Instr.lookup t vm vk ok).run P w'=.ok (gG _ y) w')
    | _,_=>False
  | .typeAssert x xt as0 ok=>
    match e.ev x with
    | some v=>C.fK (qw P o.type) (λw'=>(Instr.typeAssert v xt as0 ok).run P w') w (λy=>K (gG _ y) λw'=>(Instr.typeAssert v xt as0 ok).run P w'=.ok (gG _ y) w')
    | none=>False
  | .binOp op t x y _=>
    match e.ev x,e.ev y with
    | some a,some b=>C.fK dr (λw'=>(do eqGuard op t x y a b;binOp op t a b:Sem Kk).run P w') w (λr=>K (.bool r) λw'=>(do eqGuard op t x y a b;binOp op t a b:Sem Kk).run P w'=.ok (.bool r) w')
    | _,_=>False
  | .convert s d x=>
    match e.ev x with
    | some v=>C.fK [.one .str] (λw'=>(convert s d v).run P w') w (λr=>K (.string r) λw'=>(convert s d v).run P w'=.ok (.string r) w')
    | none=>False
  | .call { callee:=.builtin .len,argTypes,args }=>
    match e.sE args.toList with
    | some vs=>C.fK [.one (.int .i64)] (λw'=>(Builtin.len_ argTypes o.type vs.toArray).run P w') w (λr=>K (.int .i64 r) λw'=>(Builtin.len_ argTypes o.type vs.toArray).run P w'=.ok (.int .i64 r) w')
    | none=>False
  | _=>False
def jY (C:mJ) (P:Km) (o:Oper) (e:Env) (w:Kj) (K:Kk->Kj->Prop):Prop:=
  match o.op with
  | .store t x y=>
    match e.ev y with
    | some v=>match e.ev x with
      | some (.pointer p)=>match p with
        | some a=>match qO P t with
          | .pE=>bif pH P t then C.ib (v.cells.toList.length=fG P t) (C.st a v.cells.toList w λw'=>K undef w') else False
          | _=>bif pH P t&&Nat.beq (fG P t) v.cells.size then C.st a v.cells.toList w (λw'=>K undef w') else False
        | none=>False
      | _=>False
    | none=>False
  | .alloc t=>
    match qO P t with
    | .pE=>C.fv t w (λb w'=>K (.pointer (some (dm b))) w')
    | _=>match (P.info? t).bind (·.zero) with
      | some z=>C.new (.cells z.cells t) w (λb w'=>K (.pointer (some (dm b))) w')
      | none=>False
  | .box t x=>
    match e.ev x with
    | some v=>C.new (.cells v.cells t) w (λb w'=>K (.pointer (some (dm b))) w')
    | none=>False
  | .buildSlice t len parts=>
    match P.underlying t with
    | some (.slice el)=>
      match (P.info? el).bind (·.zero),mX e parts.toList with
      | some z,some vs=>bif Nat.blt (2^24) (len*fG P el) then False else match qO P el with
       | .pE=>match len,vs with
         | 1,[(0,v)]=>C.ib (v.cells.toList.length=fG P el) (C.new (.cells v.cells el) w λb w'=>K (.slice (some (dm b)) 1 1) w')
         | 0,[]=>C.new (.cells #[] el) w (λb w'=>K (.slice (some (dm b)) 0 0) w')
         | _,_=>False
       | _=>match tJ (fG P el) len (bif Nat.beq (len*fG P el) 0 then [] else z.cells.toList) vs with
        | some cells=>C.new (.cells cells el) w (λb w'=>K (.slice (some (dm b)) len len) w')
        | none=>False
      | _,_=>False
    | _=>False
  | .makeSlice t l c=>
    match P.underlying t with
    | some (.slice el)=>
      match P.info? el,e.ev l,e.ev c with
      | some i,some (.int _ n),some (.int _ m)=>
        match i.zero with
        | some z=>C.nt el z.cells.toList i.size i.bytes n m w (λs w'=>K (.slice s.a s.len s.cap) w')
        | none=>False
      | _,_,_=>False
    | _=>False
  | .makeMap t r=>
    match P.underlying t with
    | some (.map _ _)=>match oi e r with
      | some _=>C.new (.map #[] 0) w (λb w'=>K (.map (some b)) w')
      | none=>False
    | _=>False
  | .mapUpdate t m k x=>
    match e.ev m,e.ev k,e.ev x with
    | some a,some b,some c=>C.i3 ((Instr.mapUpdate t a b c).run P w) (λw'=>K undef w')
    | _,_,_=>False
  | .insert t m k x=>
    match e.ev m,e.ev k,e.ev x with
    | some a,some b,some c=>C.i3 ((Instr.mapUpdate t a b c).run P w) (λw'=>K undef w')
    | _,_,_=>False
  | .range t x=>
    match e.ev x with
    | some v=>C.run dC ((Instr.range t v).run P w) (λy w'=>K y w')
    | none=>False
  | .next it s=>
    match e.ev it with
    | some v=>C.pD ((Instr.next v s o.type).run P w) (λw'=>K (.tuple #[.bool false]) w') (λx y w'=>K (.tuple #[.bool true,x,y]) w')
    | none=>False
  | .entry it=>
    match e.ev it with
    | some v=>C.pG ((Instr.entry v).run P w) (λx y w'=>K (.tuple #[x,y]) w')
    | none=>False
  | .convert s d x=>
    match e.ev x with
    | some v=>C.run (qw P o.type) ((convert s d v).run P w) (λy w'=>K (gG _ y) w')
    | none=>False
  | .call { callee:=.builtin b,argTypes,args }=>
    match e.sE args.toList with
    | some vs=>
      match b with
      | .append=>C.run dp ((Builtin.append_ argTypes o.type vs.toArray).run P w) (λy w'=>K (.slice y.a y.len y.cap) w')
      | .copy=>C.run [.one (.int .i64)] ((Builtin.copy_ argTypes o.type vs.toArray).run P w) (λy w'=>K (.int .i64 y) w')
      | .delete=>C.run [] ((Builtin.delete_ argTypes o.type vs.toArray).run P w) (λ_ w'=>K (.tuple #[]) w')
      | .clear=>C.run [] ((Builtin.clear_ argTypes o.type vs.toArray).run P w) (λ_ w'=>K (.tuple #[]) w')
      | _=>False
    | none=>False
  | .call { callee:=.value (.func f),args,.. }=>
    match e.sE args.toList with
    | some vs=>bif jD P f then C.ext f vs (qw P o.type) w (λy w'=>K (gG _ y) w') else C.call f vs (qw P o.type) w (λy w'=>K (gG _ y) w')
    | none=>False
  | .call { callee:=.value x,args,.. }=>
    match e.ev x,e.sE args.toList with
    | some v,some vs=>C.eF v vs (qw P o.type) w (λy w'=>K (gG _ y) w')
    | _,_=>False
  | .call { callee:=.invoke x name,args,.. }=>
    match e.ev x,e.sE args.toList with
    | some v,some vs=>C.inv v name vs (qw P o.type) w (λy w'=>K (gG _ y) w')
    | _,_=>False
  | _=>False
def A4 (C:mJ) (P:Km) (o:Oper) (e:Env) (w:Kj) (K:Kk->Kj->Prop):Prop:=
  match CB P o.op with
  | .pure=>iD C P o e w (λv=>K v w)
  | .read=>oc C P o e w (λv _=>K v w)
  | .BH=>jY C P o e w K
def guarded (ops:List Oper) (o:Oper) (e:Env) (yes no:Env->Prop):Prop:=
  match o.guard with
  | none=>yes e
  | some (j,want)=>
    match (ops[j]?).bind (·.dst) with
    | none=>False
    | some d=>
      match e.get d with
      | some (.bool b)=>
        match b with
        | true=>match want with
          | true=>yes ((d,.bool true)::e)
          | false=>no ((d,.bool true)::e)
        | false=>match want with
          | true=>no ((d,.bool false)::e)
          | false=>yes ((d,.bool false)::e)
      | some (.tuple _)=>no e
      | _=>False
def tl (C:mJ) (P:Km) (ops:List Oper) (K:Env->Kj->Prop):List Oper->Env->Kj->Prop
  | [],e,w=>K e w
  | o::rest,e,w=>
    guarded ops o e
      (λe'=>A4 C P o e' w λv w'=>tl C P ops K rest (e'.put o.dst v) w')
      (λe'=>tl C P ops K rest (e'.put o.dst undef) w)
abbrev Holds:=List (Nat×(Kj->Prop))
def rj (ops:List Oper):Array Nat:=Region.before ops.toArray
def gg (b:Array Nat) (x:Nat) (H:Holds):List (Kj->Prop):=(H.filter λp=>!(b.getD x 0).testBit p.1).map (·.2)
def lT (C:mJ) (P:Km) (ops:List Oper) (b:Array Nat) (K:Env->Kj->Prop):Kr->Holds->Env->Kj->Prop
  | [],_,e,w=>K e w
  | i::rest,H,e,w=>
    match ops[i]? with
    | none=>False
    | some o=>
      guarded ops o e
        (λe'=>
          match CB P o.op with
          | .pure=>iD C P o e' w (λv=>lT C P ops b K rest H (e'.put o.dst v) w)
          | .read=>oc C P o e' w (λv h=>lT C P ops b K rest ((i,h)::H) (e'.put o.dst v) w)
          | .BH=>jY C P o e' w (λv w'=>
              match gg b i H with
              | []=>lT C P ops b K rest H (e'.put o.dst v) w'
              | l=>C.held l w' (lT C P ops b K rest H (e'.put o.dst v) w')))
        (λe'=>lT C P ops b K rest H (e'.put o.dst undef) w)
def rh (C:mJ) (P:Km) (ops:List Oper) (b:Array Nat) (K:Env->Kj->Prop):List (Kr)->Env->Kj->Prop
  | [],_,_=>True
  | [ord],e,w=>lT C P ops b K ord [] e w
  | ord::more,e,w=>lT C P ops b K ord [] e w/\rh C P ops b K more e w
inductive PC where
  | skip
  | region (id:Nat) (ops:List Oper)
  | draw (id:Nat) (ops:List Oper) (orders:List (Kr))
  | seq (a b:PC)
  | join (live:Live) (a b:PC)
  | cond (c:Operand) (t e:PC)
  | block (id:Nat) (body:PC)
  | loop (live:Live) (body:PC)
  | exit (id:Nat)
  | ret
  | kC (g:Operand) (ps:List Tmp) (pts:List iY) (assign body:PC)
  | other (c:Code)
def PC.erase:PC->Code
  | .skip=>.skip
  | .region id ops=>.region id ops.toArray false
  | .draw id ops _=>.region id ops.toArray true
  | .seq a b=>.seq a.erase b.erase
  | .join _ a b=>.seq a.erase b.erase
  | .cond c t e=>.cond c t.erase e.erase
  | .block id b=>.block id b.erase
  | .loop _ b=>.loop b.erase
  | .exit id=>.exit id
  | .ret=>.ret
  | .kC g ps _ x y=>.rangeFunc g ps.toArray x.erase y.erase
  | .other c=>c
inductive vW where
  | n
  | j (live:Live)
  | l (live:Live)
  | o (orders:List (Kr))
  | r (pts:List iY)
def aS:List (Nat×vW)->List vW
  | []=>[]
  | (k,a)::r=>.replicate k .n++a::aS r
def nN (k:Nat):List vW:=.replicate k .n
def jL:Code->List vW->PC×List vW
  | .skip,as0=>(.skip,as0)
  | .region id ops draw,as0=>
    match draw with
    | false=>(.region id ops.toList,as0)
    | true=>match as0 with
      | .o ords::r=>(.draw id ops.toList ords,r)
      | .n::r=>(.draw id ops.toList [List.range ops.size],r)
      | []=>(.draw id ops.toList [List.range ops.size],[])
      | _=>(.other (.region id ops true),as0)
  | .seq a b,as0=>
    match as0 with
    | .j live::r=>
      let x:=jL a r
      let y:=jL b x.2
      (.join live x.1 y.1,y.2)
    | .n::r=>
      let x:=jL a r
      let y:=jL b x.2
      (.seq x.1 y.1,y.2)
    | []=>
      let x:=jL a []
      let y:=jL b x.2
      (.seq x.1 y.1,y.2)
    | _=>(.other (.seq a b),as0)
  | .cond c t f,as0=>
    let x:=jL t as0
    let y:=jL f x.2
    (.cond c x.1 y.1,y.2)
  | .block id b,as0=>
    let x:=jL b as0
    (.block id x.1,x.2)
  | .loop b,as0=>
    match as0 with
    | .l live::r=>
      let x:=jL b r
      (.loop live x.1,x.2)
    | _=>(.other (.loop b),as0)
  | .exit id,as0=>(.exit id,as0)
  | .ret,as0=>(.ret,as0)
  | .rangeFunc g ps x y,as0=>
    match as0 with
    | .r pts::r=>
      let u:=jL x r
      let v:=jL y u.2
      (.kC g ps.toList pts u.1 v.1,v.2)
    | _=>(.other (.rangeFunc g ps x y),as0)
  | c,as0=>(.other c,as0)
def sG (ops:List Oper) (t:Nat):Bool:=ops.any λo=>match o.dst with|some d=>Nat.beq d t|none=>false
def PC.wr:PC->Nat->Bool
  | .skip,_=>false
  | .region _ ops,t=>sG ops t
  | .draw _ ops _,t=>sG ops t
  | .seq a b,t=>a.wr t||b.wr t
  | .join _ a b,t=>a.wr t||b.wr t
  | .cond _ a b,t=>a.wr t||b.wr t
  | .block _ b,t=>b.wr t
  | .loop _ b,t=>b.wr t
  | .exit _,_=>false
  | .ret,_=>false
  | .kC ..,_=>true
  | .other _,_=>true
def Env.kO (e:Env) (wr:Nat->Bool):Env:=
  match e with
  | []=>[]
  | (t,v)::r=>bif wr t then Env.kO r wr else (t,v)::Env.kO r wr
inductive iL where
  | normal | exit (id:Nat) | ret
abbrev nK:=iL->Env->Kj->Prop
def nK.j4 (Q:nK) (K:Env->Kj->Prop):nK:=λx e w=>
  match x with
  | .normal=>K e w
  | x=>Q x e w
def PC.pt (C:mJ) (P:Km):PC->nK->Env->Kj->Prop
  | .skip,Q,e,w=>Q .normal e w
  | .region _ ops,Q,e,w=>tl C P ops (Q .normal) ops e w
  | .draw _ ops orders,Q,e,w=>rh C P ops (rj ops) (Q .normal) orders e w.drew
  | .seq a b,Q,e,w=>a.pt C P (Q.j4 λe' w'=>b.pt C P Q e' w') e w
  | .join live a b,Q,e,w=>
    C.join (td live)
      (λX=>a.pt C P (Q.j4 λe' w'=>match m8 live e' with|some s=>X s w'|none=>False) e w)
      (λs w'=>b.pt C P Q (qp live s++e.kO λt=>a.wr t) w')
  | .cond c t f,Q,e,w=>
    match e.ev c with
    | some (.bool b)=>match b with
      | true=>t.pt C P Q e w
      | false=>f.pt C P Q e w
    | _=>False
  | .block id body,Q,e,w=>
    body.pt C P (λx e' w'=>match x with
      | .exit j=>bif Nat.beq j id then Q .normal e' w' else Q (.exit j) e' w'
      | x=>Q x e' w') e w
  | .loop live body,Q,e,w=>
    match m8 live e with
    | some s0=>
      C.loop (td live)
        (λX s w'=>body.pt C P (Q.j4 λe' w''=>match m8 live e' with|some s'=>X s' w''|none=>False) (qp live s++e.kO λt=>body.wr t) w')
        s0 w
    | none=>False
  | .exit id,Q,e,w=>Q (.exit id) e w
  | .ret,Q,e,w=>Q .ret e w
  | .kC ..,_,_,_=>False
  | .other _,_,_,_=>False
def PC.outs:PC->List iL
  | .skip | .region .. | .draw .. | .other _ | .kC ..=>[]
  | .seq a b | .join _ a b | .cond _ a b=>a.outs++b.outs
  | .block id b=>b.outs.filter λx=>match x with | .exit j=>!(Nat.beq j id)|_=>true
  | .loop _ b=>b.outs
  | .exit id=>[.exit id]
  | .ret=>[.ret]
def iL.same:iL->iL->Bool
  | .normal,.normal=>true
  | .ret,.ret=>true
  | .exit i,.exit j=>Nat.beq i j
  | _,_=>false
def sH (x:iL):List iL->Nat->Option Nat
  | [],_=>none
  | y::r,i=>bif x.same y then some i else sH x r (i+1)
def rB:Env->List Tmp->List Kk->Env
  | e,t::ts,v::vs=>rB ((t,v)::e) ts vs
  | e,_,_=>e
def lr (C:mJ) (P:Km) (x y:PC) (ps:List Tmp) (pts:List iY) (e:Env):jx pts->(Kj->(Kj->Prop)->Prop)->(Kj->Prop)->(Nat->Kj->Prop)->Kj->Prop:=
  λu beg N J w'=>x.pt C P (λz e' w1=>match z with
    | .normal=>beg w1 (λw2=>y.pt C P (λz e'' w3=>match z with
        | .normal=>N w3
        | z=>match sH z y.outs 0 with|some i=>J i w3|none=>False) e' w2)
    | _=>False) (rB e ps (jx.vals pts u)) w'
def PC.CF (C:mJ) (P:Km):PC->(Option Nat->nK)->Option Nat->Env->Kj->Prop
  | .seq a b,Q,m,e,w=>a.CF C P (λm' x e' w'=>match x with | .normal=>b.CF C P Q m' e' w'|x=>Q m' x e' w') m e w
  | .block id body,Q,m,e,w=>body.CF C P (λm' x e' w'=>match x with
      | .exit j=>bif Nat.beq j id then Q m' .normal e' w' else Q m' (.exit j) e' w'
      | x=>Q m' x e' w') m e w
  | .kC g ps pts x y,Q,m,e,w=>
    match m with
    | some _=>False
    | none=>match e.ev g with
      | none=>False
      | some v=>
        C.kC v pts (lr C P x y ps pts e)
          (λD w'=>Q (some D) .normal e w') (y.outs.map λz=>λD w'=>Q (some D) z e w') w
  | c,Q,m,e,w=>c.pt C P (Q m) e w
def lW (C:mJ) (P:Km):List ResultVar->Env->Kj->(List Kk->Prop)->Prop
  | [],_,_,K=>K []
  | .tmp t::r,e,w,K=>
    match e.get t with
    | some v=>lW C P r e w (λvs=>K (v::vs))
    | none=>False
  | .cell a t::r,e,w,K=>
    match e.get a with
    | some (.pointer (some ad))=>
      match qO P t with
      | .one c=>bif !pH P t then False else bif fV P t then False else C.ld c ad w (λy=>lW C P r e w λvs=>K (c.mk y::vs))
      | .agg cs=>bif fV P t&&Nat.beq (fG P t) cs.length then C.dT cs ad w (λy=>lW C P r e w λvs=>K (.agg (HL.mk cs y).toArray::vs)) else False
      | .pE=>bif fV P t then C.iF (fG P t) ad w (λy=>lW C P r e w λvs=>K (.agg y.toArray::vs)) else False
    | _=>False
def oneOf:List Kk->Kk
  | [v]=>v
  | vs=>.tuple vs.toArray
def mR:Nat->List Kk->Env
  | _,[]=>[]
  | i,v::r=>(i,v)::mR (i+1) r
def AO (C:mJ) (P:Km) (rvs:List ResultVar) (c:PC) (args:List Kk) (Q:Kk->Kj->Prop) (w:Kj):Prop:=
  c.pt C P (λx e w'=>match x with
    | .normal=>lW C P rvs e w' (λvs=>Q (oneOf vs) w')
    | .ret=>lW C P rvs e w' (λvs=>Q (oneOf vs) w')
    | .exit _=>False) (mR 0 args) w
def lF:(ts:List iY)->Kk->Option (jx ts)
  | [],.tuple _=>some ()
  | [],_=>none
  | [t],v=>t.un v
  | t::u::ts,.tuple vs=>unVals (t::u::ts) vs.toList
  | _::_::_,_=>none
where
  unVals:(ts:List iY)->List Kk->Option (jx ts)
  | [],[]=>some ()
  | [t],[v]=>t.un v
  | t::u::ts,v::vs=>
    match t.un v with
    | some x=>match unVals (u::ts) vs with
      | some y=>some (x,y)
      | none=>none
    | none=>none
  | _,_=>none
def Ae (C:mJ) (m:Option Nat) (w:Kj) (K:Kj->Prop):Prop:=match m with|none=>K w|some D=>C.fl D w K
def ws (C:mJ) (P:Km) (fn:Func) (as0:List vW) (ts:List iY) (args:List Kk) (K:jx ts->Kj->Prop) (w:Kj):Prop:=
  match fn.body with
  | some c=>(jL c as0).1.CF C P (λm x e w'=>match x with
      | .exit _=>False
      | _=>Ae C m w' λw2=>lW C P fn.results.toList e w2 λvs=>match lF ts (oneOf vs) with|some x=>K x w2|none=>False) none (mR 0 args) w
  | none=>False
def AF (C:mJ) (P:Km) (fn:Func) (as0:List vW) (ts:List iY) (args:List Kk) (K:jx ts->Kj->Prop) (w:Kj):Prop:=
  match fn.body with
  | some c=>AO C P fn.results.toList (jL c as0).1 args (λv w'=>match lF ts v with|some x=>K x w'|none=>False) w
  | none=>False
def ld (c:Cell) (a:Addr) (w:Kj) (K:c.El->Prop):Prop:=∃x:c.El,w.cell? a=some (c.mk x)/\K x
def dT (cs:List Cell) (a:Addr) (w:Kj) (K:HL cs->Prop):Prop:=∃x:HL cs,kr w a 0 (HL.mk cs x)/\K x
def iF (n:Nat) (a:Addr) (w:Kj) (K:List Kk->Prop):Prop:=∃x:List Kk,(x.length=n/\kr w a 0 x)/\K x
def pC (c:Cell) (vs:List Kk) (off:Nat) (K:c.El->Prop):Prop:=∃x:c.El,vs[off]?=some (c.mk x)/\K x
def kc (cs:List Cell) (vs:List Kk) (off:Nat) (K:HL cs->Prop):Prop:=∃x:HL cs,vs.extract off (off+cs.length)=HL.mk cs x/\K x
def GC (a:Addr):Nat->List Kk->Kj->(WP)->Prop
 | _,[],w,K=>K w
 | i,v::vs,w,K=>(v.oneCell'=true/\(∃u,w.cell? (a.add i)=some u)/\w.frozen? (a.add i)=false)/\GC a (i+1) vs (w.setCell (a.add i) v) K
def st (a:Addr) (vs:List Kk) (w:Kj) (K:WP):Prop:=GC a 0 vs w K
def new (o:Obj) (w:Kj) (K:Nat->WP):Prop:=K w.heap.size (w.alloc o)
abbrev JF(a:Array Go.Value)(t:Go.TypeId)(w:Go.World)(k:Nat->Go.World->Prop):Prop:=new (.cells a t) w k
def fv (P:Km) (t:Kl) (w:Kj) (K:Nat->WP):Prop:=∃z,(P.info? t).bind (·.zero)=some z/\K w.heap.size (w.alloc (.cells z.cells t))
def idx (s:Sl) (i:Int) (size:Nat) (K:Addr->Prop):Prop:=∃a,s.a=some a/\(0<=i/\i<(s.len:Int))/\K (a.add (i.toNat*size))
def oW (s:Sl) (n:Nat) (K:Addr->Prop):Prop:=∃a,s.a=some a/\n<=s.len/\K a
def kN (s:ByteArray) (i:Int) (K:Int->Prop):Prop:=∃b:UInt8,(0<=i/\s[i.toNat]?=some b)/\K (b.toNat:Int)
def kG (c:Cell) (n:Nat) (cs:List Kk) (i:Int) (K:c.El->Prop):Prop:=∃x:c.El,(0<=i/\i<(n:Int)/\cs[i.toNat]?=some (c.mk x))/\K x
def fZ (s:Sl) (lo hi mx:Option Int) (size:Nat) (K:Sl->Prop):Prop:=
 (0<=lo.getD 0/\lo.getD 0<=hi.getD s.len/\hi.getD s.len<=mx.getD s.cap/\mx.getD s.cap<=s.cap)/\
 K ⟨if (mx.getD s.cap).toNat=(lo.getD 0).toNat then s.a else s.a.map (·.add ((lo.getD 0).toNat*size)),(hi.getD s.len).toNat-(lo.getD 0).toNat,(mx.getD s.cap).toNat-(lo.getD 0).toNat⟩
def kJ (s:ByteArray) (lo hi:Option Int) (K:ByteArray->Prop):Prop:=
 (0<=lo.getD 0/\lo.getD 0<=hi.getD s.size/\hi.getD s.size<=s.size)/\K (s.extract (lo.getD 0).toNat (hi.getD s.size).toNat)
def jX (a:Addr) (n:Nat) (lo hi mx:Option Int) (size:Nat) (K:Sl->Prop):Prop:=
 (0<=lo.getD 0/\lo.getD 0<=hi.getD n/\hi.getD n<=mx.getD n/\mx.getD n<=n)/\
 K ⟨some (if (mx.getD n).toNat=(lo.getD 0).toNat then a else a.add ((lo.getD 0).toNat*size)),(hi.getD n).toNat-(lo.getD 0).toNat,(mx.getD n).toNat-(lo.getD 0).toNat⟩
def jh (zero:List Kk) (c:Nat):Array Kk:=(Array.range c).map λi=>zero.toArray[i%zero.toArray.size]!
def nt (el:Kl) (zero:List Kk) (size bytes:Nat) (l c:Int) (w:Kj) (K:Sl->WP):Prop:=
 (0<=l/\l<=c/\(bytes:Int)*c<=2^48/\c<=2^48)/\K ⟨some ⟨w.heap.size,0,none⟩,l.toNat,c.toNat⟩ (w.alloc (.cells (jh (if c.toNat*size=0 then [] else zero) (c.toNat*size)) el))
def ib (p K:Prop):Prop:=p/\K
def nn (p:Option Addr) (K:Addr->Prop):Prop:=match p with|some a=>K a|none=>False
def call (P:Km) (f:FuncId) (args:List Kk) (ts:List iY) (w:Kj) (K:jx ts->WP):Prop:=
 Calls P f args.toArray w λe w'=>∃x:jx ts,e=.returned (gG ts x)/\K x w'
def Wd (r:Option Nat):Fence:={ Fence.wide with round:=r }
def eF (P:Km) (v:Kk) (args:List Kk) (ts:List iY) (w:Kj) (K:jx ts->WP):Prop:=
 (∃(f:FuncId) (vs:List Kk),(do let d <- Deferred.ofValue v args.toArray;invoke d.target d.args:Sem Next).run P w=.ok (.enter f vs.toArray) w/\call P f vs ts w K)\/
 (∃(l f:Nat) (tmps:Array Kk) (assign body:Code),(do let d <- Deferred.ofValue v args.toArray;invoke d.target d.args:Sem Next).run P w=.ok (.round l f tmps assign body) w/\
  RoundIn (Wd none) 0 P l f tmps assign body w λe w'=>∃x:jx ts,e=.returned (gG ts x)/\K x w')
def ext (P:Km) (f:FuncId) (args:List Kk) (ts:List iY) (w:Kj) (K:jx ts->WP):Prop:=
 ∃(x:jx ts) (w':Kj),(callFunc f args.toArray).run P w=.ok (.value (gG ts x)) w'/\K x w'
def fl (D:Nat) (w:Kj) (K:WP):Prop:=w.heap[D]?=some (.deferred (some []))/\K (w.putObj D (.deferred none))
def pM (P:Km) (pts:List iY) (body:jx pts->(Kj->(WP)->Prop)->(WP)->(Nat->WP)->WP) (l:Nat) (R B:Obj) (J:Nat->Obj):Prop:=
 ∀(x:jx pts) (W:Kj) (K:Bool->WP),W.heap[l]?=some R->
  body x (λW1 k=>W1.heap[l]?=some R/\k (W1.putObj l B)) (λW'=>W'.heap[l]?=some B/\K true (W'.putObj l R)) (λi W'=>W'.heap[l]?=some B/\K false (W'.putObj l (J i))) W->
  eF P (.func (.yield l) #[] #[]) (jx.vals pts x) dr W K
def kC (P:Km) (v:Kk) (pts:List iY) (body:jx pts->(Kj->(WP)->Prop)->(WP)->(Nat->WP)->WP) (done:Nat->WP) (jumps:List (Nat->WP)) (w:Kj):Prop:=
 ∃(f:FuncId) (lb:List Kk),v=.func (.func f) #[] lb.toArray/\jD P f=false/\
 ∀(R B:Obj) (J E:Nat->Obj) (E0:Obj),pM P pts body (w.heap.size+1) R B J->
  call P f (.func (.yield (w.heap.size+1)) #[] #[]::lb) [] ((w.alloc (.deferred (some []))).alloc R) (λ_ W=>
   (W.heap[w.heap.size+1]?=some R/\done w.heap.size (W.putObj (w.heap.size+1) E0))\/
   ∃i k,jumps[i]?=some k/\W.heap[w.heap.size+1]?=some (J i)/\k w.heap.size (W.putObj (w.heap.size+1) (E i)))
def inv (P:Km) (v:Kk) (name:String) (args:List Kk) (ts:List iY) (w:Kj) (K:jx ts->WP):Prop:=
 ∃(f:FuncId) (vs:List Kk),(callMethod v name args.toArray).run P w=.ok (.enter f vs.toArray) w/\call P f vs ts w K
def run (ts:List iY) (r:Result Kk) (K:jx ts->WP):Prop:=∃x w',r=.ok (gG ts x) w'/\K x w'
def fK (ts:List iY) (r:Kj->Result Kk) (w:Kj) (K:jx ts->Prop):Prop:=∃x,r w=.ok (gG ts x) w/\K x
def i3 (r:Result Unit) (K:WP):Prop:=∃w',r=.ok () w'/\K w'
def join (S:Type) (X:(S->WP)->Prop) (Y:S->WP):Prop:=∃Mid:S->WP,X Mid/\∀s w,Mid s w->Y s w
def loop (S:Type) (B:(S->WP)->S->WP) (s:S) (w:Kj):Prop:=∀I:S->WP,(∀s w,B I s w->I s w)->I s w
def tk:List (WP)->WP
 | [],_=>True
 | [h],w=>h w
 | h::t,w=>h w/\tk t w
def held (l:List (WP)) (w:Kj) (K:Prop):Prop:=tk l w/\K
def pD (r:Result Kk) (Ke:WP) (Ks:Kk->Kk->WP):Prop:=
 (∃w',r=.ok (.tuple #[.bool false]) w'/\Ke w')\/∃k v w',r=.ok (.tuple #[.bool true,k,v]) w'/\Ks k v w'
def pG (r:Result Kk) (K:Kk->Kk->WP):Prop:=∃k v w',r=.ok (.tuple #[k,v]) w'/\K k v w'
def mS (P:Km):mJ where
 ld:=ld
 dT:=dT
 iF:=iF
 pC:=pC
 kc:=kc
 fv:=fv P
 st:=st
 new:=new
 idx:=idx
 kN:=kN
 kG:=kG
 fZ:=fZ
 kJ:=kJ
 jX:=jX
 nt:=nt
 ib:=ib
 call:=call P
 eF:=eF P
 inv:=inv P
 run:=run
 fK:=fK
 i3:=i3
 join:=join
 loop:=loop
 held:=held
 ext:=ext P
 kC:=kC P
 fl:=fl
 oW:=oW
 pD:=pD
 pG:=pG
def qm0:∀ {l:List (WP)} {w:Kj},tk l w->∀h∈l,h w
 | [],_,_,_,hm=>by cases hm
 | [x],_,hh,h,hm=>by simp at hm;subst hm;exact hh
 | x::y::t,w,hh,h,hm=>by rcases zG.1 hm with rfl|hm;exact hh.1;exact qm0 (l:=y::t) hh.2 h hm
structure Rel (n:Nat) (ds:List Deferred) (e:Env) (a:Act):Prop where
 size:a.tmps.size=n
 defers:a.defers=ds
 get:∀ t v,e.get t=some v->a.tmps.getD t undef=v
def Rel.ev{n:Nat}{ds:List Deferred}{e:Env}{a:Act}(h:Rel n ds e a){x:Operand}{v:Kk}(hx:e.ev x=some v):a.eval x=v:=by
 cases x with
 | tmp t=>exact h.get t v hx
 | const u=>simpa[Env.ev,Act.eval] using hx
 | global g=>simpa[Env.ev,Act.eval] using hx
 | func f=>simpa[Env.ev,Act.eval] using hx
def Rel.sE{n:Nat}{ds:List Deferred}{e:Env}{a:Act}(h:Rel n ds e a):∀ {xs:List Operand} {vs:List Kk},e.sE xs=some vs->xs.map a.eval=vs
 | [],vs,hx=>by simp[Env.sE] at hx;subst hx;rfl
 | x::xs,vs,hx=>by simp only[Env.sE] at hx;split at hx;rename_i v us h1 h2;cases hx;simp[h.ev h1,h.sE h2];cases hx
def Rel.j5{n:Nat}{e:Env}{a:Act}(h:Rel n ds e a){xs:Array Operand}{vs:List Kk}(hx:e.sE xs.toList=some vs):xs.map a.eval=vs.toArray:=by
 have:=h.sE hx;apply Array.ext';simpa using this
def Env.lu(e:Env)(d t:Nat)(v:Kk):Env.get ((d,v)::e) t=if d=t then some v else e.get t:=by
 simp only[Env.get];by_cases h:d=t;subst h;simp;have:Nat.beq d t=false:=by cases hb:Nat.beq d t;rfl;exact absurd (yX hb) h
 simp[this,h]
def Rel.put{n:Nat}{ds:List Deferred}{e:Env}{a:Act}(h:Rel n ds e a){dst:Option Tmp}(hd:∀d,dst=some d->d<n)(v:Kk):Rel n ds (e.put dst v) (a.put dst v):=by
 cases dst with
 | none=>exact h
 | some d=>
  refine⟨by simp[Act.put,h.size],by simp[Act.put,h.defers],λt u hu=>?_⟩;simp only[Env.put,Env.lu] at hu;by_cases hdt:d=t;subst hdt;simp at hu;subst hu;have:=hd d rfl;have hs:=h.size;simp[Act.put,hs,this];simp[hdt] at hu;have:=h.get t u hu;simpa[Act.put,Array.getElem?_setIfInBounds_ne hdt] using this
def Ip{n:Nat}{e:Env}{a:Act}(h:Rel n ds e a){x:Option Operand}{r:Option Int}(hx:oi e x=some r): (x=none/\r=none)\/∃y k i,x=some y/\r=some i/\a.eval y=.int k i:=by
 cases x with
 | none=>simp[oi] at hx;exact .inl ⟨rfl,hx.symm⟩
 | some y=>
  simp only[oi] at hx;split at hx;rename_i k i he;cases hx;exact .inr ⟨y,k,i,rfl,rfl,h.ev he⟩;cases hx
def fL {α:Type}:Sem α->Prop
 | .pure _=>True
 | .program k=>∀p,fL (k p)
 | .mark _ k=>fL k
 | .halt _=>True
 | _=>False
def fL.run{α:Type}{P:Km}{s:Sem α}(h:fL s)(w w' w1:Kj)(v:α)(hr:s.run P w=.ok v w1):w1=w/\s.run P w'=.ok v w':=by
 induction s with
 | pure a=>simp[Sem.run] at hr⊢;exact⟨hr.2.symm,hr.1⟩
 | program k ih=>exact ih P (h P) hr
 | mark m k ih=>exact ih h hr
 | halt x=>simp[Sem.run] at hr
 | _=>exact h.elim
def fL.bind{α β:Type}{s:Sem α}{f:α->Sem β}(h:fL s)(hf:∀a,fL (f a)):fL (s >>=f):=by
 show fL (Sem.bind s f);induction s with
 | pure a=>exact hf a
 | program k ih=>exact λp=>ih p (h p)
 | mark m k ih=>exact ih h
 | halt x=>trivial
 | _=>exact h.elim
def fL.pure{α:Type}(a:α):fL (Pure.pure a:Sem α):=trivial
def fL.stuck{α:Type}(s:String):fL (Go.stuck s:Sem α):=trivial
def fL.Dy{α:Type}(s:Unsupported):fL (Go.unsupported s:Sem α):=trivial
def fL.tO:fL Go.program:=λ_=>trivial
def fL.underlying(t:Kl):fL (Go.underlying t):=by unfold Go.underlying;exact .bind .tO λp=>by split<;>first|exact .pure _|exact .stuck _
def fL.typeInfo(t:Kl):fL (Go.typeInfo t):=by unfold Go.typeInfo;exact .bind .tO λp=>by split<;>first|exact .pure _|exact .stuck _
def fL.zeroValue(t:Kl):fL (Go.zeroValue t):=by unfold Go.zeroValue;exact .bind (.typeInfo t) λp=>by split<;>first|exact .pure _|exact .Dy _
def fL.sizeOf(t:Kl):fL (Go.sizeOf t):=.bind (.typeInfo t) λ_=>.pure _
def fL.mapM{α β:Type}{f:α->Sem β}(hf:∀a,fL (f a))(xs:Array α):fL (xs.mapM f):=by
 rw[Array.mapM_eq_mapM_toList];have:∀l:List α,fL (l.mapM f):=by
  intro l;induction l with
  | nil=>simp only[List.mapM_nil];exact .pure _
  | cons a l ih=>simp only[List.mapM_cons];exact .bind (hf a) λb=>.bind ih λbs=>.pure _
 exact fL.bind (this _) λ_=>.pure _
def fL.build(t:Kl)(ps:Array (Nat×Kk)):fL (Instr.build t ps):=by
 unfold Instr.build;refine .bind (.zeroValue t) λz=>.bind (.underlying t) λd=>?_;split
 ·refine .bind (.mapM (λf=>.bind (.sizeOf _) λ_=>.pure _) _) λpl=>?_;split<;>first|exact .pure _|exact .stuck _
 ·refine .bind (.sizeOf _) λs=>?_;split<;>first|exact .pure _|exact .stuck _
 exact .stuck _
section
variable {P:Km} {n:Nat} {ds:List Deferred} {e:Env} {a:Act} {o:Oper} {w:Kj}
def HV{i:TypeInfo}(h:P.info? t=some i)(w:Kj):(typeInfo t).run P w=.ok i w:=by simp[typeInfo,h]
def tu(h:(P.info? t).isSome=true)(w:Kj):(sizeOf t).run P w=.ok (fG P t) w:=by
 cases hi:P.info? t with
 | none=>simp[hi] at h
 | some i=>simp[sizeOf,fG,HV hi,hi]
def yi{z:Kk}(h:(P.info? t).bind (·.zero)=some z)(w:Kj):(zeroValue t).run P w=.ok z w:=by
 cases hi:P.info? t with
 | none=>simp[hi] at h
 | some i=>
  simp[hi] at h;simp[zeroValue,HV hi,h]
def Fx{j k:IntKind}(h:(j==k)=true):j=k:=by simpa using h
def Ai(h:(P.underlying t).isSome=true)(w:Kj):(isAgg t).run P w=.ok (fV P t) w:=by
 cases hd:P.underlying t with
 | none=>simp[hd] at h
 | some d=>cases d<;>simp[isAgg,fV,run_underlying hd,hd]
def Ak(h:fV P t=true):(P.underlying t).isSome=true:=by unfold fV at h;split at h<;>simp_all
def wC (neg:Bool):BinOp:=if neg then .neq else .eql
def qgu(h:jP y=true):∃u,y=.const u:=by unfold jP at h;split at h<;>first|exact⟨_,rfl⟩|cases h
def vn{v u:Kk}{r:Bool}(neg:Bool)(hr:(Op.equalIn 10000 t v u).run P w=.ok r w)(h1:∀k i,v≠.int k i)(h2:∀s,v≠.string s)(h3:∀k i,v≠.float k i)(h4:∀k i j,v≠.complex k i j): (binOp (wC neg) t v u).run P w=.ok (.bool (if neg then !r else r)) w:=by
 have he:(Op.equal t v u).run P w=.ok r w:=hr;cases neg<;>cases v<;>simp only[wC,if_true,if_false,Bool.false_eq_true]<;>
  first
   | exact absurd rfl (h1 _ _)
   | exact absurd rfl (h2 _)
   | exact absurd rfl (h3 _ _)
   | exact absurd rfl (h4 _ _ _)
   | (simp only[binOp];simp[he])
def qkq{x:Operand}{c u v:Kk}{op:BinOp}(hv:∀cs,v≠.agg cs):eqGuard op t x (.const c) u v=pure ():=by
 cases op<;>cases u<;>cases v<;>first
  | rfl
  | exact absurd rfl (hv _)
  | (cases x<;>rfl)
def qkW{c u v:Kk}{op:BinOp}(hv:∀cs,v≠.agg cs):eqGuard op t (.const c) y u v=pure ():=by
 cases op<;>cases u<;>cases v<;>first
  | rfl
  | exact absurd rfl (hv _)
def qsx{t d:Nat}(D:Nat)(hd:P.underlying t=some (.pointer d))(p:Option Addr)(w:Kj): (Op.equalIn (D+1) t (.pointer p) (.pointer none)).run P w=.ok p.isNone w/\(Op.equalIn (D+1) t (.pointer none) (.pointer p)).run P w=.ok p.isNone w:=by cases p<;>constructor<;>simp[Op.equalIn,run_underlying hd]
def qoA{t d:Nat}(D:Nat)(hd:P.underlying t=some (.slice d))(p:Option Addr)(i j k l:Nat)(w:Kj): (Op.equalIn (D+1) t (.slice p i j) (.slice none k l)).run P w=.ok p.isNone w/\(Op.equalIn (D+1) t (.slice none k l) (.slice p i j)).run P w=.ok p.isNone w:=by cases p<;>constructor<;>simp[Op.equalIn,run_underlying hd]
def qsw{t d1 d2:Nat}(D:Nat)(hd:P.underlying t=some (.map d1 d2))(p:Option Nat)(w:Kj): (Op.equalIn (D+1) t (.map p) (.map none)).run P w=.ok p.isNone w/\(Op.equalIn (D+1) t (.map none) (.map p)).run P w=.ok p.isNone w:=by cases p<;>constructor<;>simp[Op.equalIn,run_underlying hd]
def qoz{t:Nat}{ms}(D:Nat)(hd:P.underlying t=some (.interface ms))(v:Kk)(hv:isIface v=true)(w:Kj): (Op.equalIn (D+1) t v .nilIface).run P w=.ok (sQ v) w/\(Op.equalIn (D+1) t .nilIface v).run P w=.ok (sQ v) w:=by cases v<;>simp[isIface] at hv<;>constructor<;>simp[Op.equalIn,run_underlying hd,sQ]
def quV{t:Nat}{d1 d2 d3}(D:Nat)(hd:P.underlying t=some (.func d1 d2 d3))(v:Kk)(hv:xk v=true)(w:Kj): (Op.equalIn (D+1) t v .nilFunc).run P w=.ok (ti v) w/\(Op.equalIn (D+1) t .nilFunc v).run P w=.ok (ti v) w:=by cases v<;>simp[xk] at hv<;>constructor<;>simp[Op.equalIn,run_underlying hd,ti]
def qq3{v u:Kk}(h:uE (mS P) P t v u K): ∃r,K r/\(∀cs,v≠.agg cs)/\(∀cs,u≠.agg cs)/\∀(w:Kj) (neg:Bool),(binOp (wC neg) t v u).run P w=.ok (.bool (if neg then !r else r)) w/\(binOp (wC neg) t u v).run P w=.ok (.bool (if neg then !r else r)) w:=by
 unfold uE at h;split at h;rename_i d hd;split at h;rename_i p;exact⟨_,h,oM,oM,λw neg=>⟨vn neg (qsx 9999 hd p w).1 oM oM oM oM,vn neg (qsx 9999 hd p w).2 oM oM oM oM⟩⟩;exact h.elim;rename_i d hd;split at h;rename_i p i j k l;exact⟨_,h,oM,oM,λw neg=>⟨vn neg (qoA 9999 hd p i j k l w).1 oM oM oM oM,vn neg (qoA 9999 hd p i j k l w).2 oM oM oM oM⟩⟩;exact h.elim;rename_i d1 d2 hd;split at h;rename_i p;exact⟨_,h,oM,oM,λw neg=>⟨vn neg (qsw 9999 hd p w).1 oM oM oM oM,vn neg (qsw 9999 hd p w).2 oM oM oM oM⟩⟩;exact h.elim;rename_i ms hd;split at h;obtain⟨hi,hk⟩:=h;refine⟨_,hk,?_,oM,λw neg=>⟨vn neg (qoz 9999 hd v hi w).1 ?_ ?_ ?_ ?_,vn neg (qoz 9999 hd v hi w).2 oM oM oM oM⟩⟩<;>
  (intros;intro hv;subst hv;simp[isIface] at hi)
 exact h.elim;rename_i d1 d2 d3 hd;split at h;obtain⟨hi,hk⟩:=h;refine⟨_,hk,?_,oM,λw neg=>⟨vn neg (quV 9999 hd v hi w).1 ?_ ?_ ?_ ?_,vn neg (quV 9999 hd v hi w).2 oM oM oM oM⟩⟩<;>
  (intros;intro hv;subst hv;simp[xk] at hi)
 exact h.elim;exact h.elim
def qsz{x:Operand}(h:ym (mS P) P t x y e K)(hr:Rel n ds e a): ∃r,K r/\∀(w:Kj) (neg:Bool),(do eqGuard (wC neg) t x y (a.eval x) (a.eval y);binOp (wC neg) t (a.eval x) (a.eval y):Sem Kk).run P w=.ok (.bool (if neg then !r else r)) w:=by
 unfold ym at h;split at h;rename_i va vb hx hy;rw[hr.ev hx,hr.ev hy];cases hny:jP y with
 | true=>
  simp only[hny,cond_true] at h;obtain⟨r,hk,n1,n2,hrun⟩:=qq3 h;obtain⟨c,rfl⟩:=qgu hny;exact⟨r,hk,λw neg=>by rw[qkq n2];exact (hrun w neg).1⟩
 | false=>
  simp only[hny,cond_false] at h;cases hnx:jP x with
  | true=>
   simp only[hnx,cond_true] at h;obtain⟨r,hk,n1,n2,hrun⟩:=qq3 h;obtain⟨c,rfl⟩:=qgu hnx;exact⟨r,hk,λw neg=>by rw[qkW n1];exact (hrun w neg).2⟩
  | false=>
   simp only[hnx,cond_false] at h;split at h;rename_i k p j q;cases hkj:k==j with
   | true=>
    simp only[hkj,cond_true] at h;obtain rfl:=Fx hkj;refine⟨_,h,λw neg=>?_⟩;cases neg<;>simp[wC,eqGuard_at_int,binOp_eql,binOp_neq,bne]
   | false=>simp only[hkj,cond_false] at h
   rename_i p q;split at h;rename_i hd;refine⟨_,h,λw neg=>?_⟩;cases neg<;>simp[wC,eqGuard_at_bool,run_eql_bool w t p q hd,run_neq_bool w t p q hd];exact h.elim;rename_i p q;refine⟨_,h,λw neg=>?_⟩;cases neg<;>simp[wC,eqGuard_at_string,binOp,Op.stringOp];exact h.elim
 exact h.elim
end
end
section
open Go List
variable {K:Kk->WP} {N:Act->WP} {Q:Exit->Act->WP} {R:Ending->WP} {S:Kr} {T t:Kl} {an:List vW} {args vs:List Kk} {cs tmps:Array Kk} {f:FuncId} {fn:Func} {fr:KG} {guard:Option (Nat×Bool)} {k:IntKind} {listed:Array Bool} {ops:List Oper} {parts ps:Array (Nat×Operand)} {s:Sem Kk} {ts:List iY} {w':Kj} {z:Kk}
variable {P:Km} {n:Nat} {ds:List Deferred} {e:Env} {a:Act} {o:Oper} {w:Kj}
def my{w:Kj}{v:Kk}(h:s.run P w=.ok v w'):(do pure (Next.value (<- s)):Sem Next).run P w=.ok (.value v) w':=by simp[h]
def qmU(hr:Rel n ds e a):∀ {ps:List (Nat×Operand)} {vs:List (Nat×Kk)},mX e ps=some vs->ps.map (λ(i,x)=>(i,a.eval x))=vs
  | [],vs,h=>by simp[mX] at h;subst h;rfl
  | (i,x)::ps,vs,h=>by simp only[mX] at h;split at h;rename_i v us h1 h2;cases h;simp[hr.ev h1,qmU hr h2];cases h
def CX(hr:Rel n ds e a){vs:List (Nat×Kk)}(h:mX e ps.toList=some vs): (ps.map λ(i,x)=>(i,a.eval x))=vs.toArray:=by apply Array.ext';simpa using qmU hr h
def Bd (x:Option Kk) (r:Option Int):Prop:=(x=none/\r=none)\/∃k i,x=some (.int k i)/\r=some i
def Bd.of(hr:Rel n ds e a){x:Option Operand}{r:Option Int}(h:oi e x=some r):Bd (x.map a.eval) r:=by rcases Ip hr h with ⟨rfl,rfl⟩|⟨y,k,i,rfl,rfl,hy⟩;exact .inl ⟨rfl,rfl⟩;exact .inr ⟨k,i,by simp[hy],rfl⟩
def GZ{nn cc:Nat}{l h m:Option Int}{lo hi mx:Option Kk}(s:Bool)(hl:Bd lo l)(hh:Bd hi h)(hm:Bd mx m)(hmh:(mx.isSome&&hi.isNone)=false)(hb:0<=l.getD 0/\l.getD 0<=h.getD nn/\h.getD nn<=m.getD cc/\m.getD cc<=cc)(w:Kj): (Instr.sliceBounds s nn cc lo hi mx).run P w=.ok ((l.getD 0).toNat,(h.getD nn).toNat,(m.getD cc).toNat) w:=by obtain⟨b0,b1,b2,b3⟩:=hb;rcases hm with ⟨rfl,rfl⟩|⟨km,im,rfl,rfl⟩;rcases hh with ⟨rfl,rfl⟩|⟨kh,ih,rfl,rfl⟩;rcases hl with ⟨rfl,rfl⟩|⟨kl,il,rfl,rfl⟩;simp[Instr.sliceBounds];simp at b0 b1 b2 b3;simp[Instr.sliceBounds,Instr.sliceBound,asIntOf,b0,b1];rcases hl with ⟨rfl,rfl⟩|⟨kl,il,rfl,rfl⟩;simp at b0 b1 b2 b3;simp[Instr.sliceBounds,Instr.sliceBound,asIntOf,b1,b2];simp at b0 b1 b2 b3;have:0<=ih:=oK;have:(ih.toNat:Int)=ih:=oK;simp[Instr.sliceBounds,Instr.sliceBound,asIntOf, *];rcases hh with ⟨rfl,rfl⟩|⟨kh,ih,rfl,rfl⟩;simp at hmh;rcases hl with ⟨rfl,rfl⟩|⟨kl,il,rfl,rfl⟩;simp at b0 b1 b2 b3;have:0<=im:=oK;have:(im.toNat:Int)=im:=oK;simp[Instr.sliceBounds,Instr.sliceBound,asIntOf, *];simp at b0 b1 b2 b3;have:0<=ih:=oK;have:0<=im:=oK;have:(ih.toNat:Int)=ih:=oK;have:(im.toNat:Int)=im:=oK;simp[Instr.sliceBounds,Instr.sliceBound,asIntOf, *]
def qwh{op:BinOp}{x y:Int}{u v:Operand}{r:Kk}(h:ut op k x y=some r)(w:Kj): (do eqGuard op t u v (.int k x) (.int k y);binOp op t (.int k x) (.int k y):Sem Kk).run P w=.ok r w:=by cases op<;>simp[ut] at h<;>subst h<;>simp[eqGuard_at_int,binOp_add,binOp_sub,binOp_mul,binOp_and,binOp_or,binOp_xor,binOp_andNot,binOp_eql,binOp_neq,binOp_lss,binOp_leq,binOp_gtr,binOp_geq,Op.intArith,intBits_and,intBits_or,intBits_xor,intBits_andNot]
def qwN{op:BinOp}{x y:ByteArray}{u v:Operand}{r:Kk}(h:ul op x y=some r)(w:Kj): (do eqGuard op t u v (.string x) (.string y);binOp op t (.string x) (.string y):Sem Kk).run P w=.ok r w:=by cases op<;>simp[ul] at h<;>subst h<;>simp[eqGuard_at_string,binOp,Op.stringOp]
def qos{y:Operand}(h:oo y=true){b:Int}(hy:e.ev y=some (.int k b)):b≠0:=by unfold oo at h;split at h;simp[Env.ev] at hy;obtain⟨rfl,rfl⟩:=hy;simpa using h;cases h
def qor{y:Operand}(h:oj y=true){b:Int}(hy:e.ev y=some (.int k b)):0<=b:=by unfold oj at h;split at h;simp[Env.ev] at hy;obtain⟨rfl,rfl⟩:=hy;simpa using h;cases h
def vz(h:(!pH P t)=false):(P.info? t).isSome=true/\(P.underlying t).isSome=true:=by simpa[pH] using h
def CT(h:(!pH P t)=false)(cs:Array Kk)(off:Nat)(w:Kj): (part t cs off).run P w=if fV P t then .ok (.agg (cs.extract off (off+fG P t))) w else match cs[off]? with|some v=>.ok v w|none=>.halt (.stuck "part: no such cell") w:=by
  obtain⟨h1,h2⟩:=vz h;unfold part;simp only[JR,Ai h2,JS];cases fV P t with
  | true=>simp[tu h1]
  | false=>cases cs[off]?<;>simp
set_option maxHeartbeats 1000000 in
def qpa{K:Kk->Prop}(h:iD (mS P) P o e w K)(hr:Rel n ds e a): ∃v,(∀w',(execOp a.eval o).run P w'=.ok (.value v) w')/\K v:=by
  obtain⟨dst,op,type,pos,after,guard⟩:=o;cases op;case move x=>
    simp only[iD] at h;split at h;rename_i v hv;exact⟨v,λw'=>by simp[execOp,hr.ev hv],h⟩;exact h.elim
  case assign x=>
    simp only[iD] at h;split at h;rename_i v hv;exact⟨v,λw'=>by simp[execOp,hr.ev hv],h⟩;exact h.elim
  case pick c x y=>
    simp only[iD] at h;split at h;rename_i t vx vy hc hx hy;cases t with
    | true=>exact⟨_,λw'=>by simp[execOp,hr.ev hc,hr.ev hx,asBool],h⟩
    | false=>exact⟨_,λw'=>by simp[execOp,hr.ev hc,hr.ev hy,asBool],h⟩
    exact h.elim
  case nilCheck x=>
    simp only[iD] at h;split at h;rename_i p hp;split at h;rename_i ad;exact⟨_,λw'=>by simp[execOp,hr.ev hp],h⟩;exact h.elim;exact h.elim
  case binOp op t x y yt=>
    cases op;case eql=>
      obtain⟨r,hk,hrun⟩:=qsz h hr;exact⟨_,λw'=>my (by have:=hrun w' false;simpa[wC] using this),hk⟩
    case neq=>
      obtain⟨r,hk,hrun⟩:=qsz h hr;exact⟨_,λw'=>my (by have:=hrun w' true;simpa[wC] using this),hk⟩
    case quo=>
      simp only[iD] at h;split at h;rename_i k p j q hx hy;cases hkj:k==j with
      | true=>
        obtain rfl:=Fx hkj;simp only[hkj,cond_true] at h;have hq:q≠0/\K (.int k (k.wrap (p.tdiv q))):=by
          cases hc:oo y with
          | true=>simp only[hc,cond_true] at h;exact⟨qos hc hy,h⟩
          | false=>simp only[hc,cond_false] at h;exact h
        exact⟨_,λw'=>my (by rw[hr.ev hx,hr.ev hy];simp[eqGuard_at_int,binOp_quo,Op.intDiv,hq.1]),hq.2⟩
      | false=>simp only[hkj,cond_false] at h
      exact h.elim
    case rem=>
      simp only[iD] at h;split at h;rename_i k p j q hx hy;cases hkj:k==j with
      | true=>
        obtain rfl:=Fx hkj;simp only[hkj,cond_true] at h;have hq:q≠0/\K (.int k (p.tmod q)):=by
          cases hc:oo y with
          | true=>simp only[hc,cond_true] at h;exact⟨qos hc hy,h⟩
          | false=>simp only[hc,cond_false] at h;exact h
        exact⟨_,λw'=>my (by rw[hr.ev hx,hr.ev hy];simp[eqGuard_at_int,binOp_rem,Op.intDiv,hq.1]),hq.2⟩
      | false=>simp only[hkj,cond_false] at h
      exact h.elim
    case shl=>
      simp only[iD] at h;split at h;rename_i k p j q hx hy;have hq:0<=q/\K (.int k (k.wrap (p*2^min q.toNat k.bits))):=by
        cases hc:oj y with
        | true=>simp only[hc,cond_true] at h;exact⟨qor hc hy,h⟩
        | false=>simp only[hc,cond_false] at h;exact h
      exact⟨_,λw'=>my (by rw[hr.ev hx,hr.ev hy];simp[eqGuard_at_int,binOp_shl,Op.shift,Int.not_lt.2 hq.1]),hq.2⟩;exact h.elim
    case shr=>
      simp only[iD] at h;split at h;rename_i k p j q hx hy;have hq:0<=q/\K (.int k (p.fdiv (2^min q.toNat k.bits))):=by
        cases hc:oj y with
        | true=>simp only[hc,cond_true] at h;exact⟨qor hc hy,h⟩
        | false=>simp only[hc,cond_false] at h;exact h
      exact⟨_,λw'=>my (by rw[hr.ev hx,hr.ev hy];simp[eqGuard_at_int,binOp_shr,Op.shift,Int.not_lt.2 hq.1]),hq.2⟩;exact h.elim
    all_goals
      simp only[iD] at h;split at h;rename_i k p j q hx hy;cases hkj:k==j with
      | true=>
        obtain rfl:=Fx hkj;simp only[hkj,cond_true] at h;split at h;rename_i v hv;exact⟨v,λw'=>my (by rw[hr.ev hx,hr.ev hy];exact qwh hv w'),h⟩;exact h.elim
      | false=>simp only[hkj,cond_false] at h
      · rename_i p q hx hy;first
          | (split at h
             rename_i v hv;exact⟨v,λw'=>my (by rw[hr.ev hx,hr.ev hy];exact qwN hv w'),h⟩;exact h.elim)
          | (obtain⟨hc,hk⟩:=h
             exact⟨_,λw'=>my (by rw[hr.ev hx,hr.ev hy];simp only[eqGuard_at_string,binOp,Op.stringOp];rw[iN];rfl),hk⟩)
      exact h.elim
  case unOp op t x=>
    simp only[iD] at h;split at h;rename_i k i hx;split at h;exact⟨_,λw'=>my (by rw[hr.ev hx];simp[Op.unary,Op.intArith]),h⟩;exact⟨_,λw'=>my (by rw[hr.ev hx];simp[Op.unary,intBits_xor]),h⟩;exact h.elim;rename_i b hx;split at h;exact⟨_,λw'=>my (by rw[hr.ev hx];simp[Op.unary]),h⟩;exact h.elim;exact h.elim
  case convert s d x=>
    simp only[iD] at h;split at h;rename_i ds k i hs hx;split at h;rename_i kd hd;exact⟨_,λw'=>my (by rw[hr.ev hx];simp[convert,run_underlying hs,run_underlying hd,Conv.intToInt]),h⟩;exact h.elim;exact h.elim
  case extract x i=>
    simp only[iD] at h;split at h;rename_i vs hx;split at h;rename_i v hv;exact⟨v,λw'=>my (by rw[hr.ev hx];simp[Instr.extract,show vs[i]?=some v by simpa using hv]),h⟩;exact h.elim;exact h.elim
  case field t x f=>
    simp only[iD] at h;split at h;rename_i fs cs ht hx;split at h;rename_i fd hf;cases hok:!pH P fd.type with
    | true=>simp only[hok,cond_true] at h
    | false=>
      simp only[hok,cond_false] at h;have whole:fV P fd.type=true->∀vs',cs.toList.extract fd.offset (fd.offset+fG P fd.type)=vs'->∀w',(execOp a.eval ⟨dst,.field t x f,type,pos,after,guard⟩).run P w'=.ok (.value (.agg vs'.toArray)) w':=by intro hag vs' hvs w';refine my ?_;rw[hr.ev hx];simp[Instr.field,run_underlying ht,hf,asAgg,CT hok,hag];apply Array.ext';simpa using hvs
      have part:fV P fd.type=false->∀v,cs.toList[fd.offset]?=some v->∀w',(execOp a.eval ⟨dst,.field t x f,type,pos,after,guard⟩).run P w'=.ok (.value v) w':=(by intro hag v hv w';refine my ?_;rw[hr.ev hx];simp[Instr.field,run_underlying ht,hf,asAgg,CT hok,hag,show cs[fd.offset]?=some v by simpa using hv]);have np:(bif fV P fd.type then K (.agg (cs.toList.extract fd.offset (fd.offset+fG P fd.type)).toArray) else match cs.toList[fd.offset]? with
          | some v=>K v
          | none=>False)->∃v,(∀w',(execOp a.eval ⟨dst,.field t x f,type,pos,after,guard⟩).run P w'=.ok (.value v) w')/\K v:=by
        intro h;cases hag:fV P fd.type with
        | true=>
          simp only[hag,cond_true] at h;exact⟨_,whole hag _ rfl,h⟩
        | false=>
          simp only[hag,cond_false] at h;split at h;rename_i v hv;exact⟨v,part hag v hv,h⟩;exact h.elim
      split at h;split at h;rename_i c _;cases hag:fV P fd.type with
      | true=>simp only[hag,cond_true] at h
      | false=>
        simp only[hag,cond_false] at h;obtain⟨y,hy,hk⟩:=h;exact⟨_,part hag _ hy,hk⟩
      rename_i cl _;cases hg:fV P fd.type&&Nat.beq (fG P fd.type) cl.length with
      | false=>simp only[hg,cond_false] at h
      | true=>
        simp only[hg,cond_true] at h;simp only[yB] at hg;obtain⟨y,hy,hk⟩:=h;have hsz:=yX hg.2;exact⟨_,whole hg.1 _ (by rw[hsz];exact hy),hk⟩
      cases hag:fV P fd.type with
      | true=>
        simp only[hag,cond_true] at h;exact⟨_,whole hag _ rfl,h⟩
      | false=>simp only[hag,cond_false] at h
      exact np h
    exact h.elim;exact h.elim
  case fieldAddr t x f=>
    simp only[iD] at h;split at h;rename_i fs ht;split at h;rename_i fd hf;cases hz:Nat.beq (fG P fd.type) 0 with
    | true=>simp only[hz,cond_true] at h
    | false=>
      simp only[hz,cond_false] at h;split at h;rename_i p hx;split at h;rename_i ad;have hs:(P.info? fd.type).isSome=true:=by
        cases hi:P.info? fd.type with
        | none=>simp[fG,hi] at hz
        | some i=>rfl
      have hn:fG P fd.type≠0:=λh0=>by simp[h0] at hz
      refine⟨_,λw'=>my ?_,h⟩;rw[hr.ev hx];simp[Instr.fieldAt,run_underlying ht,hf,Instr.sureAddr,fieldPlace,tu hs,hn];exact h.elim;exact h.elim
    exact h.elim;exact h.elim
  case makeInterface t x=>
    simp only[iD] at h;split at h;exact h.elim
    · rename_i d v hni hd hx;refine⟨_,λw'=>my ?_,h⟩;rw[hr.ev hx];simp only[Instr.makeInterface,JR,run_underlying hd,JS];first
        | rfl
        | (split
           rename_i ms;exact (hni ms rfl).elim;rfl)
    exact h.elim
  case makeFunc fn first cap=>
    simp only[iD] at h;split at h;rename_i f c hf hc;exact⟨_,λw'=>my (by rw[hr.j5 hf,hr.j5 hc];simp[Instr.makeFunc]),h⟩;exact h.elim
  case build t parts=>
    simp only[iD] at h;split at h;rename_i vs hv;split at h;obtain⟨y,hy,hk⟩:=h;exact⟨_,λw'=>my (by rw[CX hr hv];exact ((fL.build t _).run w w' w _ hy).2),hk⟩;split at h;rename_i v w1 hrun;exact⟨v,λw'=>my (by rw[CX hr hv];exact ((fL.build t _).run w w' w1 v hrun).2),h⟩;exact h.elim;exact h.elim
  case sliceToArrayPointer t x=>
    simp only[iD] at h;split at h;rename_i len el ht;split at h;rename_i sa l c hx;obtain⟨ad,hsa,hb,hk⟩:=h;simp only at hsa hb;subst hsa;refine⟨_,λw'=>my ?_,hk⟩;rw[hr.ev hx];simp[Instr.arrayAt,run_underlying ht,Nat.not_lt.2 hb];exact h.elim;exact h.elim
  case indexAddr t x ix=>
    simp only[iD] at h;split at h;rename_i el ht;cases hok:!pH P el with
    | true=>simp only[hok,cond_true] at h
    | false=>
      simp only[hok,cond_false] at h;obtain⟨hi1,hi2⟩:=vz hok;split at h;rename_i sa l c k i hx hi;obtain⟨ad,hsa,hb,hk⟩:=h;simp only at hsa hb;subst hsa;refine⟨_,λw'=>my ?_,hk⟩;rw[hr.ev hx,hr.ev hi];simp[Instr.indexAt,asIntOf,run_underlying ht,hb,tu hi1];exact h.elim
    rename_i len el ht;cases hok:!pH P el with
    | true=>simp only[hok,cond_true] at h
    | false=>
      simp only[hok,cond_false] at h;obtain⟨hi1,hi2⟩:=vz hok;split at h;rename_i ad hx;split at h;rename_i i hc;refine⟨_,λw'=>my ?_,h⟩;unfold uD at hc;split at hc;rename_i k j;split at hc;rename_i hb;cases hc;rw[hr.ev hx];simp[Act.eval,Instr.indexAt,asIntOf,run_underlying ht,Instr.sureAddr,hb,tu hi1];cases hc;cases hc;split at h;rename_i k j hi;obtain⟨hb,hk⟩:=h;refine⟨_,λw'=>my ?_,hk⟩;rw[hr.ev hx,hr.ev hi];simp[Instr.indexAt,asIntOf,run_underlying ht,Instr.sureAddr,hb,tu hi1];exact h.elim;exact h.elim
    exact h.elim
  case index t x ix=>
    simp only[iD] at h;split at h;rename_i ht;split at h;rename_i s k i hx hi;obtain⟨b,⟨h0,hb⟩,hk⟩:=h;refine⟨_,λw'=>my ?_,hk⟩;rw[hr.ev hx,hr.ev hi];simp[Instr.index,asIntOf,run_underlying ht,h0,hb];exact h.elim;rename_i len el ht;split at h;rename_i cs k i hx hi;split at h;rename_i c hc;cases hg:fV P el||!(Nat.beq (fG P el) 1)||!pH P el with
    | true=>simp only[hg,cond_true] at h
    | false=>
      simp only[hg,cond_false] at h;simp only[Kb] at hg;obtain⟨⟨g1,g2⟩,g3⟩:=hg;have g2':fG P el=1:=yX (oQ g2);obtain⟨y,⟨h0,h1,hy⟩,hk⟩:=h;obtain⟨hi1,hi2⟩:=vz g3;refine⟨_,λw'=>my ?_,hk⟩;rw[hr.ev hx,hr.ev hi];have hy':cs[i.toNat]?=some (c.mk y):=(oQ hy);simp[Instr.index,asIntOf,run_underlying ht,h0,h1,tu hi1,g2',CT g3,g1,hy']
    rename_i cl hc;cases hg:!(fV P el)||!(Nat.beq (fG P el) cl.length)||!pH P el with
    | true=>simp only[hg,cond_true] at h
    | false=>
      simp only[hg,cond_false] at h;simp only[Kb] at hg;obtain⟨⟨g1,g2⟩,g3⟩:=hg;have g1':fV P el=true:=(oQ g1);have g2':fG P el=cl.length:=yX (oQ g2);obtain⟨⟨h0,h1⟩,y,hy,hk⟩:=h;obtain⟨hi1,hi2⟩:=vz g3;refine⟨_,λw'=>my ?_,hk⟩;rw[hr.ev hx,hr.ev hi];have hy':cs.extract (i.toNat*cl.length) (i.toNat*cl.length+cl.length)=(HL.mk cl y).toArray:=by apply Array.ext';simpa using hy
      simp[Instr.index,asIntOf,run_underlying ht,h0,h1,tu hi1,g2',CT g3,g1',hy']
    exact h.elim;exact h.elim;exact h.elim
  case slice t x lo hi mx=>
    simp only[iD] at h;cases hmh:mx.isSome&&hi.isNone with
    | true=>simp only[hmh,cond_true] at h
    | false=>
      simp only[hmh,cond_false] at h;split at h;rename_i l hh m hl hhi hm;have bl:=Bd.of hr hl;have bh:=Bd.of hr hhi;have bm:=Bd.of hr hm;have hmh':((mx.map a.eval).isSome&&(hi.map a.eval).isNone)=false:=(oQ hmh);split at h;rename_i el ht;cases hok:!pH P el with
      | true=>simp only[hok,cond_true] at h
      | false=>
        simp only[hok,cond_false] at h;obtain⟨hi1,hi2⟩:=vz hok;split at h;rename_i sa nn cc hx;obtain⟨hb,hk⟩:=h;refine⟨_,λw'=>my ?_,hk⟩;rw[hr.ev hx];simp only[Instr.sliceAt,JR,run_underlying ht,JS,Instr.slice,GZ true bl bh bm hmh' hb,tu hi1];rfl;exact h.elim
      rename_i ht;split at h;rename_i s hx;obtain⟨hb,hk⟩:=h;have hmn:mx=none:=by rcases Ip hr hm with ⟨e1,_⟩|⟨_,_,_,_,e2,_⟩;exact e1;cases e2
      subst hmn;refine⟨_,λw'=>my ?_,hk⟩;rw[hr.ev hx];have hb':0<=l.getD 0/\l.getD 0<=hh.getD s.size/\hh.getD s.size<=(none:Option Int).getD (s.size:Int)/\(none:Option Int).getD (s.size:Int)<=(s.size:Int):=⟨hb.1,hb.2.1,hb.2.2,Int.le_refl _⟩
      have:=GZ (P:=P) (nn:=s.size) (cc:=s.size) false bl bh (m:=none) (mx:=none) (.inl ⟨rfl,rfl⟩) oM hb' w';simp only[Option.map_none,Instr.sliceAt,JR,run_underlying ht,JS,Instr.slice,Option.isSome_none,Bool.false_eq_true,if_false,this];rfl;exact h.elim;rename_i len el ht;cases hok:!pH P el with
      | true=>simp only[hok,cond_true] at h
      | false=>
        simp only[hok,cond_false] at h;obtain⟨hi1,hi2⟩:=vz hok;split at h;rename_i ad hx;obtain⟨hb,hk⟩:=h;refine⟨_,λw'=>my ?_,hk⟩;rw[hr.ev hx];simp only[Instr.sliceAt,JR,run_underlying ht,JS,Instr.sureAddr,Sem.run_pure,GZ false bl bh bm hmh' hb,tu hi1];exact h.elim
      exact h.elim;exact h.elim
  case call c=>
    obtain⟨callee,args,argTypes⟩:=c;cases callee with
    | builtin b=>
      cases b<;>simp only[iD] at h<;>try exact h.elim
      case cap=>
        split at h;rename_i el _ _ c ht hv;obtain⟨t0,h0,h1⟩:=Option.bind_eq_some_iff.1 ht;exact⟨_,λw'=>by simp[execOp,resolve,hr.j5 hv,invoke,builtin,Builtin.cap_,h0,run_underlying h1,goInt],h⟩;exact h.elim
      case len=>
        split at h;rename_i el _ k _ ht hv;obtain⟨t0,h0,h1⟩:=Option.bind_eq_some_iff.1 ht;exact⟨_,λw'=>by simp[execOp,resolve,hr.j5 hv,invoke,builtin,Builtin.len_,h0,run_underlying h1,goInt],h⟩;rename_i s ht hv;obtain⟨t0,h0,h1⟩:=Option.bind_eq_some_iff.1 ht;exact⟨_,λw'=>by simp[execOp,resolve,hr.j5 hv,invoke,builtin,Builtin.len_,h0,run_underlying h1,goInt],h⟩;rename_i k el u ht hv;obtain⟨t0,h0,h1⟩:=Option.bind_eq_some_iff.1 ht;exact⟨_,λw'=>by simp[execOp,resolve,hr.j5 hv,invoke,builtin,Builtin.len_,h0,run_underlying h1,goInt],h⟩;exact h.elim
      case max=>
        split at h;rename_i k x j y hv;exact⟨_,λw'=>by simp[execOp,resolve,hr.j5 hv,invoke,builtin,run_max_int2],h⟩;exact h.elim
      case min=>
        split at h;rename_i k x j y hv;exact⟨_,λw'=>by simp[execOp,resolve,hr.j5 hv,invoke,builtin,run_min_int2],h⟩;exact h.elim
    | value f=>exact h.elim
    | invoke r m=>exact h.elim
  all_goals exact h.elim
def Do{ad:Addr}:∀(vs:List Kk) (i:Nat) (acc:Array Kk) (w:Kj),kr w ad i vs-> (loadCellsFrom ad i vs.length acc).run P w=.ok (acc++vs.toArray) w
  | [],i,acc,w,_=>by simp[loadCellsFrom]
  | [v],i,acc,w,h=>by have h':w.cell? (ad.add i)=some v:=h;simp[loadCellsFrom,h']
  | v::u::vs,i,acc,w,h=>by
    obtain⟨h1,h2⟩:=h;have:=Do (u::vs) (i+1) (acc.push v) w h2;simp only[yJ] at this⊢;rw[loadCellsFrom];simp only[JR,run_load,h1,JS,this];simp
def qpd{K:Kk->(WP)->Prop}(h:oc (mS P) P o e w K)(hc:CB P o.op=.read)(hr:Rel n ds e a): ∃v hold,(execOp a.eval o).run P w=.ok (.value v) w/\(∀w',hold w'->(execOp a.eval o).run P w'=.ok (.value v) w')/\K v hold:=by
  obtain⟨dst,op,type,pos,after,guard⟩:=o;cases op;case load t x=>
    simp only[oc] at h;split at h;rename_i p hx;obtain⟨ad,rfl⟩:∃ad,p=some ad:=by
      cases p with
      | none=>exact h.elim
      | some ad=>exact⟨ad,rfl⟩
    dsimp only at h;split at h;rename_i c hcell;cases hok:!pH P t with
    | true=>simp only[hok,cond_true] at h
    | false=>
      simp only[hok,cond_false] at h;obtain⟨hi1,hi2⟩:=vz hok;cases hag:fV P t with
      | true=>simp only[hag,cond_true] at h
      | false=>
        simp only[hag,cond_false] at h;obtain⟨y,hy,hk⟩:=h;have key:∀w',w'.cell? ad=some (c.mk y)->(execOp a.eval ⟨dst,.load t x,type,pos,after,guard⟩).run P w'=.ok (.value (c.mk y)) w':=λw' hw'=>
          my (by rw[hr.ev hx];simp[Instr.loadAt,Instr.sureAddr,loadVar,Ai hi2,hag,hw'])
        exact⟨_,_,key w hy,λw' hw'=>key w' hw',hk⟩
    rename_i cs hcells;cases hg:fV P t&&Nat.beq (fG P t) cs.length with
    | false=>simp only[hg,cond_false] at h
    | true=>
      simp only[hg,cond_true] at h;simp only[yB] at hg;obtain⟨hag,hsz⟩:=hg;have hsz':=yX hsz;obtain⟨y,hy,hk⟩:=h;have hlen:(HL.mk cs y).length=cs.length:=HL.j3 cs y;have hsome:(P.info? t).isSome=true:=by
        cases hi:P.info? t with
        | none=>
          have:(P.underlying t).isSome=true:=Ak hag;simp[Program.underlying,hi] at this
        | some i=>rfl
      have key:∀w',kr w' ad 0 (HL.mk cs y)->(execOp a.eval ⟨dst,.load t x,type,pos,after,guard⟩).run P w'=.ok (.value (.agg (HL.mk cs y).toArray)) w':=λw' hw'=>
        my (by
          rw[hr.ev hx];have:=Do (P:=P) (HL.mk cs y) 0 #[] w' hw';rw[hlen,<- hsz'] at this;simp[Instr.loadAt,Instr.sureAddr,loadVar,Ai (Ak hag),hag,tu hsome,loadCells,this])
      exact⟨_,_,key w hy,λw' hw'=>key w' hw',hk⟩
    cases hag:fV P t with
    | false=>simp only[hag,cond_false] at h
    | true=>
      simp only[hag,cond_true] at h;obtain⟨y,hy,hk⟩:=h;have hsome:(P.info? t).isSome=true:=by
        cases hi:P.info? t with
        | none=>
          have:(P.underlying t).isSome=true:=Ak hag;simp[Program.underlying,hi] at this
        | some i=>rfl
      have key:∀w',kr w' ad 0 y->(execOp a.eval ⟨dst,.load t x,type,pos,after,guard⟩).run P w'=.ok (.value (.agg y.toArray)) w':=λw' hw'=>
        my (by
          rw[hr.ev hx];have:=Do (P:=P) y 0 #[] w' hw';rw[hy.1] at this;simp[Instr.loadAt,Instr.sureAddr,loadVar,Ai (Ak hag),hag,tu hsome,loadCells,this])
      exact⟨_,_,key w hy.2,λw' hw'=>key w' hw',hk⟩
    exact h.elim
  case lookup t m k ok=>
    simp only[oc] at h;split at h;rename_i vm vk hm hk;obtain⟨y,hy,hK⟩:=h;exact⟨_,_,my (by rw[hr.ev hm,hr.ev hk];exact hy),λw' hw'=>my (by rw[hr.ev hm,hr.ev hk];exact hw'),hK⟩;exact h.elim
  case typeAssert x xt as_ ok=>
    simp only[oc] at h;split at h;rename_i v hx;obtain⟨y,hy,hK⟩:=h;exact⟨_,_,my (by rw[hr.ev hx];exact hy),λw' hw'=>my (by rw[hr.ev hx];exact hw'),hK⟩;exact h.elim
  case binOp op t x y yt=>
    have h':(match e.ev x,e.ev y with
      | some p,some q=>(mS P).fK dr (λw'=>(do eqGuard op t x y p q;binOp op t p q:Sem Kk).run P w') w (λr=>K (.bool r) λw'=>(do eqGuard op t x y p q;binOp op t p q:Sem Kk).run P w'=.ok (.bool r) w')
      | _,_=>False):=by cases op<;>exact h
    split at h';rename_i p q hx hy;obtain⟨r,hr1,hK⟩:=h';exact⟨_,_,my (by rw[hr.ev hx,hr.ev hy];exact hr1),λw' hw'=>my (by rw[hr.ev hx,hr.ev hy];exact hw'),hK⟩;exact h'.elim
  case convert s d x=>
    simp only[oc] at h;split at h;rename_i v hx;obtain⟨r,hr1,hK⟩:=h;exact⟨_,_,my (by rw[hr.ev hx];exact hr1),λw' hw'=>my (by rw[hr.ev hx];exact hw'),hK⟩;exact h.elim
  case call c=>
    obtain⟨callee,args,argTypes⟩:=c;cases callee with
    | builtin b=>
      cases b<;>simp only[oc] at h<;>try exact h.elim
      split at h;rename_i vs hv;obtain⟨r,hr1,hK⟩:=h;have key:∀w',(Builtin.len_ argTypes type vs.toArray).run P w'=.ok (.int .i64 r) w'->(execOp a.eval ⟨dst,.call ⟨.builtin .len,args,argTypes⟩,type,pos,after,guard⟩).run P w'=.ok (.value (.int .i64 r)) w':=λw' hw'=>by simp[execOp,resolve,hr.j5 hv,invoke,builtin,hw']
      exact⟨_,_,key w hr1,λw' hw'=>key w' hw',hK⟩;exact h.elim
    | value f=>exact h.elim
    | invoke r m=>exact h.elim
  all_goals exact h.elim
section
variable {P:Km} {n:Nat} {ds:List Deferred} {e:Env} {a:Act} {o:Oper} {w:Kj} {r:Option Nat} {m:Nat}
def ef (cs:Array Kk):Nat->List Kk->Array Kk
 | _,[]=>cs
 | off,v::vs=>ef (cs.setIfInBounds off v) (off+1) vs
def pB:∀(vs:List Kk) (cs:Array Kk) (off:Nat),(ef cs off vs).size=cs.size
 | [],_,_=>rfl
 | v::vs,cs,off=>by simp[ef,pB vs]
def sL:∀(vs:List Kk) (cs:Array Kk) (off:Nat),off+vs.length<=cs.size->(ef cs off vs).toList=cs.toList.take off++vs++cs.toList.drop (off+vs.length)
 | [],cs,off,h=>by simp[ef]
 | v::vs,cs,off,h=>by
  simp only[yJ] at h;rw[ef,sL vs _ _ oP,Array.toList_setIfInBounds];have h1:(cs.toList.set off v).take (off+1)=cs.toList.take off++[v]:=by have:off<cs.toList.length:=oP;rw[set_eq_take_append_cons_drop,iP this,take_append,yM,xT oK,zS oP];simp[show off+1-off=1 by omega]
  have h2:(cs.toList.set off v).drop (off+1+vs.length)=cs.toList.drop (off+1+vs.length):=(by rw[drop_set,iP]);rw[h1,h2];simp[Nat.add_assoc,Nat.add_comm 1]
def qsE(off:Nat):∀(l:List Kk) (j:Nat) (cells:Array Kk),(l.zipIdx j).foldl (λcs (x:Kk×Nat)=>cs.setIfInBounds (off+x.2) x.1) cells=ef cells (off+j) l
 | [],j,cells=>rfl
 | v::l,j,cells=>by rw[zipIdx_cons,foldl_cons,qsE off l (j+1)];rfl
def FL(off:Nat)(vs cells:Array Kk):(vs.zipIdx.foldl (λcs (x:Kk×Nat)=>cs.setIfInBounds (off+x.2) x.1) cells)=ef cells off vs.toList:=by rw[<- Array.foldl_toList,Array.toList_zipIdx,qsE off vs.toList 0,Nat.add_zero]
def iJ{cells:Array Kk}(h:vs.length=cells.size):ef cells 0 vs=vs.toArray:=by apply Array.ext';rw[sL _ _ _ oK];simp[h]
def qiP{ad:Addr}:∀(vs:List Kk) (i:Nat) (w:Kj) (K:WP),GC ad i vs w K-> ∃w',(storeCells ad vs i).run P w=.ok () w'/\K w'
 | [],i,w,K,h=>⟨w,by simp[storeCells],h⟩
 | v::vs,i,w,K,h=>by obtain⟨⟨h1,⟨u,hu⟩,h3⟩,h4⟩:=h;obtain⟨w',hr,hk⟩:=qiP vs (i+1) _ K h4;refine⟨w',?_,hk⟩;unfold storeCells;simp only[JR,run_store P w (ad.add i) v .plain h1,hu,h3,Bool.false_eq_true,if_false,JS,hr]
def _root_.Go.Oper.wx (r:Option Nat) (m:Nat) (P:Km) (o:Oper) (a:Act) (w:Kj) (N:Act->WP) (Q:Exit->Act->WP):Prop:=o.uponIn (Wd r) m P a N Q ((execOp a.eval o).run P w)
def Is(hnd:∀c,o.op≠.defer c)(h:o.wx r m P a w N Q):o.wpIn (Wd r) m P a w N Q:=
 ⟨λ_ _=>trivial,by rw[Oper.semAt_eq _ _ _ hnd];exact h⟩
def u0{v:Kk}{w:Kj}(hs:(execOp a.eval o)=(do pure (Next.value (<- s))))(hr:s.run P w=.ok v w')(hk:K v w'): o.wx r m P a w (λa' w'=>∃v,a'=a.put o.dst v/\K v w') Q:=by unfold Oper.wx;rw[hs,my hr];exact⟨v,rfl,hk⟩
def Jo{s:Sem Unit}{w:Kj}(hs:(execOp a.eval o)=(do s;pure Next.skip))(hr:s.run P w=.ok () w')(hk:K undef w'): o.wx r m P a w (λa' w'=>∃v,a'=a.put o.dst v/\K v w') Q:=by unfold Oper.wx;rw[hs];simp only[JR,hr,JS,Sem.run_pure];exact⟨undef,rfl,hk⟩
def D0{v:Kk}{w:Kj}(hr:(execOp a.eval o).run P w=.ok (.value v) w')(hk:K v w'): o.wx r m P a w (λa' w'=>∃v,a'=a.put o.dst v/\K v w') Q:=by unfold Oper.wx;rw[hr];exact⟨v,rfl,hk⟩
def GS{args:Array Kk}(h:Calls P f args w R):CallsIn (Wd r) m P f args w R:=(callsIn_wide (n:=m)).2 h
def qum{l f:Nat}{assign body:Code}(h:RoundIn (Wd none) 0 P l f tmps assign body w R):RoundIn (Wd r) m P l f tmps assign body w R:=
 ⟨trivial,λc cs _=>h.2 c cs (room_wide _)⟩
def EX(r:Option Nat):(Wd r).depth.isSome=true->1<=m:=λh=>by cases h
def Io{w:Kj}(hr:(execOp a.eval o).run P w=.ok (.enter f vs.toArray) w)(hk:call P f vs ts w λy w'=>K (gG ts y) w'): o.wx r m P a w (λa' w'=>∃v,a'=a.put o.dst v/\K v w') Q:=by unfold Oper.wx;rw[hr];refine⟨EX r,GS (Calls.mono hk ?_)⟩;rintro e w' ⟨x,rfl,hx⟩;exact⟨_,rfl,hx⟩
def qrW{l f:Nat}{assign body:Code}{w:Kj}(hr:(execOp a.eval o).run P w=.ok (.round l f tmps assign body) w)(hk:RoundIn (Wd none) 0 P l f tmps assign body w λe w'=>∃x:jx ts,e=.returned (gG ts x)/\K (gG ts x) w'): o.wx r m P a w (λa' w'=>∃v,a'=a.put o.dst v/\K v w') Q:=by unfold Oper.wx;rw[hr];refine⟨EX r,qum (RoundIn.mono hk ?_)⟩;rintro e w' ⟨x,rfl,hx⟩;exact⟨_,rfl,hx⟩
def Bm(h:jD P f=false)(args:Array Kk)(w:Kj):(callFunc f args).run P w=.ok (.enter f args) w:=by
 unfold jD at h;unfold callFunc;cases hf:P.funcs[f]? with
 | none=>simp[hf] at h
 | some fn=>
  simp only[hf,Kb] at h;simp only[JR,run_program,JS,hf];rw[iN (by simp[h.2]),iN (by simp[h.1])];rfl
def ES(h:(P.info? t).bind (·.zero)=some z):(P.info? t).isSome=true:=by
 cases hi:P.info? t with
 | none=>simp[hi] at h
 | some i=>rfl
def qtr{el:Kl}{v:Kk}(ht:P.underlying t=some (.slice el))(hz:(P.info? el).bind (·.zero)=some z)(hsz:v.cells.size=fG P el)(hlt:¬1*fG P el>2^24): (Instr.buildSlice t 1 [(0,v)].toArray).run P w=.ok (.slice (some ⟨w.heap.size,0,none⟩) 1 1) (w.alloc (.cells v.cells el)):=by
 simp only[Instr.buildSlice,JR,run_underlying ht,JS,tu (ES hz)];rw[iN hlt];have key:∀zs:Array Kk,Instr.fill (λi=>some (i*fG P el,fG P el)) ((Array.range (1*fG P el)).map (zs[·%zs.size]!)) [(0,v)]=some v.cells:=by intro zs;have h1:((Array.range (1*fG P el)).map (zs[·%zs.size]!)).size=v.cells.size:=(by simp[hsz]);generalize (Array.range (1*fG P el)).map (zs[·%zs.size]!)=base at h1;have h2:=FL 0 v.cells base;rw[iJ (by rw[Ki];exact h1.symm)] at h2;simp only[Instr.fill,Nat.zero_mul,xU] at h2⊢;rw[iN (by rw[hsz,h1,hsz];simp)];simp only[h2,Array.toArray_toList]
 by_cases h0:1*fG P el=0;rw[iP h0];simp only[pure_bind];rw[key];simp[newRow];rw[iN h0];simp only[JR,yi hz,JS,Sem.run_pure];rw[key];simp[newRow]
def qrS{el:Kl}(ht:P.underlying t=some (.slice el))(hz:(P.info? el).bind (·.zero)=some z): (Instr.buildSlice t 0 ([]:List (Nat×Kk)).toArray).run P w=.ok (.slice (some ⟨w.heap.size,0,none⟩) 0 0) (w.alloc (.cells #[] el)):=by simp only[Instr.buildSlice,JR,run_underlying ht,JS,tu (ES hz),Nat.zero_mul];rw[iN,iP trivial];simp only[pure_bind,Instr.fill];have:∀f:Nat->Kk,(Array.range 0).map f = #[]:=λf=>Array.eq_empty_of_size_eq_zero oM;rw[this];simp[newRow]
def qnF(Q:Exit->Act->WP){dst:Option Tmp}{type:Kl}{len:Nat}{pos:String}{after:Array Edge}(h:jY (mS P) P ⟨dst,.buildSlice t len parts,type,pos,after,guard⟩ e w K)(hr:Rel n ds e a): (⟨dst,.buildSlice t len parts,type,pos,after,guard⟩:Oper).wx r m P a w (λa' w'=>∃v,a'=a.put dst v/\K v w') Q:=by
  have hex:∀len,execOp a.eval ⟨dst,.buildSlice t len parts,type,pos,after,guard⟩=(do pure (Next.value (<- Instr.buildSlice t len (parts.map λ(i,x)=>(i,a.eval x))))):=λlen=>rfl;simp only[jY] at h;split at h;rename_i el ht;split at h;rename_i z vs hz hv;cases hb:Nat.blt (2^24) (len*fG P el) with
  | true=>simp only[hb,cond_true] at h
  | false=>
   simp only[hb,cond_false] at h;have hlt:¬len*fG P el>2^24:=by intro hgt;have:Nat.blt (2^24) (len*fG P el)=true:=Nat.ble_eq_true_of_le hgt;rw[this] at hb;cases hb
   have np:∀cells,tJ (fG P el) len (bif Nat.beq (len*fG P el) 0 then [] else z.cells.toList) vs=some cells->(mS P).new (.cells cells el) w (λb w'=>K (.slice (some (dm b)) len len) w')->
     (⟨dst,.buildSlice t len parts,type,pos,after,guard⟩:Oper).wx r m P a w (λa' w'=>∃v,a'=a.put dst v/\K v w') Q:=by
    intro cells hc h;refine u0 (o:=⟨dst,.buildSlice t len parts,type,pos,after,guard⟩) (s:=Instr.buildSlice t len (parts.map λ(i,x)=>(i,a.eval x))) ?_ ?_ h;exact hex _;rw[CX hr hv];simp only[Instr.buildSlice,JR,run_underlying ht,JS,tu (ES hz)];rw[iN hlt];unfold tJ at hc;cases h0:Nat.beq (len*fG P el) 0 with
    | true=>
     rw[iP (yX h0)];simp only[h0,cond_true] at hc;simp only[pure_bind];rw[show (#[]:Array Kk)=([]:List Kk).toArray from rfl,hc];simp[newRow]
    | false=>
     have:len*fG P el≠0:=λhq=>by rw[hq] at h0;cases h0
     rw[iN this];simp only[h0,cond_false] at hc;simp only[JR,yi hz,JS,Sem.run_pure];have hc':Instr.fill (λi=>some (i*fG P el,fG P el)) (Array.map (λx=>z.cells[x%z.cells.size]!) (Array.range (len*fG P el))) vs=some cells:=(oQ hc);rw[hc'];simp[newRow]
   have old':(match tJ (fG P el) len (bif Nat.beq (len*fG P el) 0 then [] else z.cells.toList) vs with
     | some cells=>(mS P).new (.cells cells el) w (λb w'=>K (.slice (some (dm b)) len len) w')
     | none=>False)->(⟨dst,.buildSlice t len parts,type,pos,after,guard⟩:Oper).wx r m P a w (λa' w'=>∃v,a'=a.put dst v/\K v w') Q:=by
    intro h;cases hc:tJ (fG P el) len (bif Nat.beq (len*fG P el) 0 then [] else z.cells.toList) vs with
    | none=>rw[hc] at h;exact h.elim
    | some cells=>rw[hc] at h;exact np cells hc h
   cases hty:qO P el with
   | one c=>simp only[hty] at h;exact old' h
   | agg cs=>simp only[hty] at h;exact old' h
   | pE=>
    simp only[hty] at h;match len,vs,h,hv,hlt with
    | 1,[(0,v)],h,hv,hlt=>
     obtain⟨hsz,hk⟩:=h;refine u0 (s:=Instr.buildSlice t 1 (parts.map λ(i,x)=>(i,a.eval x))) ?_ ?_ hk;exact hex _;rw[CX hr hv];exact qtr ht hz (by rw[<- hsz,Ki]) hlt
    | 0,[],h,hv,hlt=>
     refine u0 (s:=Instr.buildSlice t 0 (parts.map λ(i,x)=>(i,a.eval x))) ?_ ?_ h;exact hex _;rw[CX hr hv];exact qrS ht hz
  exact h.elim;exact h.elim
set_option maxHeartbeats 1000000 in
def qqF(Q:Exit->Act->WP)(h:jY (mS P) P o e w K)(hr:Rel n ds e a): o.wx r m P a w (λa' w'=>∃v,a'=a.put o.dst v/\K v w') Q:=by
 obtain⟨dst,op,type,pos,after,guard⟩:=o;cases op;case store t x y=>
  simp only[jY] at h;obtain⟨v,hy⟩:∃v,e.ev y=some v:=by
   cases hy:e.ev y with
   | none=>rw[hy] at h;exact h.elim
   | some v=>exact⟨v,rfl⟩
  rw[hy] at h;dsimp only at h;split at h;rename_i p hx;obtain⟨ad,rfl⟩:∃ad,p=some ad:=by
   cases p with
   | none=>exact h.elim
   | some ad=>exact⟨ad,rfl⟩
  dsimp only at h;have fin:(P.info? t).isSome=true->v.cells.size=fG P t->(mS P).st ad v.cells.toList w (λw'=>K undef w')->(⟨dst,.store t x y,type,pos,after,guard⟩:Oper).wx r m P a w (λa' w'=>∃v,a'=a.put dst v/\K v w') Q:=by intro hi hs' h;obtain⟨w',hrun,hk⟩:=qiP (P:=P) _ 0 w _ h;refine Jo (o:=⟨dst,.store t x y,type,pos,after,guard⟩) (s:=Instr.storeAt t (a.eval x) (a.eval y)) rfl ?_ hk;rw[hr.ev hx,hr.ev hy];have:(sizeOf t).run P w=.ok (fG P t) w:=tu hi w;simp[Instr.storeAt,Instr.sureAddr,storeVar,this,hs',hrun]
  split at h;cases hok:pH P t with
  | false=>simp only[hok,cond_false] at h
  | true=>
   simp only[hok,cond_true] at h;exact fin (vz (by simp[hok])).1 (oQ h.1) h.2
  cases hs:pH P t&&Nat.beq (fG P t) v.cells.size with
  | false=>simp only[hs,cond_false] at h
  | true=>
   simp only[hs,cond_true] at h;simp only[yB] at hs;have hs':=yX hs.2;exact fin (vz (by simp[hs.1])).1 hs'.symm h
  exact h.elim
 case alloc t=>
  simp only[jY] at h;split at h;obtain⟨z,hz,hk⟩:=h;refine u0 (s:=Instr.alloc t true (.tuple #[])) rfl ?_ hk;simp[Instr.alloc,yi hz,newVar,newRow];split at h;rename_i z hz;refine u0 (s:=Instr.alloc t true (.tuple #[])) rfl ?_ h;simp[Instr.alloc,yi hz,newVar,newRow];exact h.elim
 case box t x=>
  simp only[jY] at h;split at h;rename_i v hx;refine u0 (s:=Instr.box t (a.eval x)) rfl ?_ h;rw[hr.ev hx];simp[Instr.box,newVar,newRow];exact h.elim
 case buildSlice t len parts=>exact qnF Q h hr
 case makeSlice t l c=>
  simp only[jY] at h;split at h;rename_i el ht;split at h;rename_i i k1 nn k2 mm hi hl hc;split at h;rename_i z hz;obtain⟨⟨b0,b1,b2,b3⟩,hk⟩:=h;refine u0 (s:=Instr.makeSlice t (a.eval l) (a.eval c)) rfl ?_ hk;rw[hr.ev hl,hr.ev hc];have e1:IntKind.i64.wrap nn=nn:=(by rw[IntWalk.i64_in];omega);have e2:IntKind.i64.wrap mm=mm:=(by rw[IntWalk.i64_in];omega);have hz':(P.info? el).bind (·.zero)=some z:=(by simp[hi,hz]);have g1:¬(mm<0):=oK;have g2:¬((i.bytes:Int)*mm>2^48):=oK;have g3:¬(nn<0):=oK;have g4:¬(nn>mm):=oK;simp only[Instr.makeSlice,JR,run_underlying ht,JS,asInt,asIntOf,Sem.run_pure,HV hi,e1,e2];rw[iN (by simp only[Bool.or_eq_true,decide_eq_true_eq,g1,g2,g3,g4,or_self,not_false_eq_true])];simp only[JR,run_askRoom,JS,tu (ES hz')];have hsz:fG P el=i.size:=(by simp[fG,hi]);rw[hsz];by_cases h0:mm.toNat*i.size=0;rw[iP h0,iP h0];simp[newRow,jh,h0];rw[iN h0,iN h0];simp[yi hz',newRow,jh];exact h.elim;exact h.elim;exact h.elim
 case makeMap t r=>
  simp only[jY] at h;split at h;rename_i k el ht;split at h;rename_i v hv;refine u0 (s:=Instr.makeMap t (r.map a.eval)) rfl ?_ h;rcases Ip hr hv with ⟨rfl,_⟩|⟨y,k,i,rfl,rfl,hy⟩;simp[Instr.makeMap];simp[Instr.makeMap,hy,run_underlying ht,asInt,asIntOf];exact h.elim;exact h.elim
 case mapUpdate t m k x=>
  simp only[jY] at h;split at h;rename_i vm vk vx hm hk hx;obtain⟨w',hrun,hK⟩:=h;exact Jo (s:=Instr.mapUpdate t (a.eval m) (a.eval k) (a.eval x)) rfl (by rw[hr.ev hm,hr.ev hk,hr.ev hx];exact hrun) hK;exact h.elim
 case insert t m k x=>
  simp only[jY] at h;split at h;rename_i vm vk vx hm hk hx;obtain⟨w',hrun,hK⟩:=h;exact Jo (s:=Instr.mapUpdate t (a.eval m) (a.eval k) (a.eval x)) rfl (by rw[hr.ev hm,hr.ev hk,hr.ev hx];exact hrun) hK;exact h.elim
 case range t x=>
  simp only[jY] at h;split at h;rename_i v hx;obtain⟨y,w',hrun,hK⟩:=h;exact u0 (s:=Instr.range t (a.eval x)) rfl (by rw[hr.ev hx];exact hrun) hK;exact h.elim
 case next it s=>
  simp only[jY] at h;split at h;rename_i v hx;rcases h with ⟨w',hrun,hK⟩|⟨x,y,w',hrun,hK⟩;exact u0 (s:=Instr.next (a.eval it) s type) rfl (by rw[hr.ev hx];exact hrun) hK;exact u0 (s:=Instr.next (a.eval it) s type) rfl (by rw[hr.ev hx];exact hrun) hK;exact h.elim
 case entry it=>
  simp only[jY] at h;split at h;rename_i v hx;obtain⟨x,y,w',hrun,hK⟩:=h;exact u0 (s:=Instr.entry (a.eval it)) rfl (by rw[hr.ev hx];exact hrun) hK;exact h.elim
 case convert s d x=>
  simp only[jY] at h;split at h;rename_i v hx;obtain⟨y,w',hrun,hK⟩:=h;exact u0 (s:=convert s d (a.eval x)) rfl (by rw[hr.ev hx];exact hrun) hK;exact h.elim
 case call c=>
  obtain⟨callee,args,argTypes⟩:=c;cases callee with
  | builtin b=>
   simp only[jY] at h;split at h
   ·rename_i vs hv;have hres:∀w,(resolve a.eval ⟨.builtin b,args,argTypes⟩ type).run P w=.ok { target:=.builtin b argTypes type (args.map λ| .const _=>true|_=>false),args:=vs.toArray } w:=λw=>by simp[resolve,hr.j5 hv];intro x _;cases x<;>rfl
    cases b<;>simp only at h<;>try exact h.elim
    case append=>
     obtain⟨y,w',hrun,hK⟩:=h;have hrun':(Builtin.append_ argTypes type vs.toArray).run P w=.ok (.slice y.a y.len y.cap) w':=hrun;have:(execOp a.eval ⟨dst,.call ⟨.builtin .append,args,argTypes⟩,type,pos,after,guard⟩).run P w=.ok (.value (.slice y.a y.len y.cap)) w':=by simp[execOp,hres,invoke,builtin,hrun']
     exact D0 this hK
    case clear=>
     obtain⟨y,w',hrun,hK⟩:=h;have hrun':(Builtin.clear_ argTypes type vs.toArray).run P w=.ok (.tuple #[]) w':=hrun;have:(execOp a.eval ⟨dst,.call ⟨.builtin .clear,args,argTypes⟩,type,pos,after,guard⟩).run P w=.ok (.value (.tuple #[])) w':=by simp[execOp,hres,invoke,builtin,hrun']
     exact D0 this hK
    case copy=>
     obtain⟨y,w',hrun,hK⟩:=h;have hrun':(Builtin.copy_ argTypes type vs.toArray).run P w=.ok (.int .i64 y) w':=hrun;have:(execOp a.eval ⟨dst,.call ⟨.builtin .copy,args,argTypes⟩,type,pos,after,guard⟩).run P w=.ok (.value (.int .i64 y)) w':=by simp[execOp,hres,invoke,builtin,hrun']
     exact D0 this hK
    case delete=>
     obtain⟨y,w',hrun,hK⟩:=h;have hrun':(Builtin.delete_ argTypes type vs.toArray).run P w=.ok (.tuple #[]) w':=hrun;have:(execOp a.eval ⟨dst,.call ⟨.builtin .delete,args,argTypes⟩,type,pos,after,guard⟩).run P w=.ok (.value (.tuple #[])) w':=by simp[execOp,hres,invoke,builtin,hrun']
     exact D0 this hK
   exact h.elim
  | value f=>
   have key:(∀g,f≠.func g)->∀v vs,e.ev f=some v->e.sE args.toList=some vs->(mS P).eF v vs (qw P type) w (λy w'=>K (gG _ y) w')->
     Oper.wx r m P ⟨dst,.call ⟨.value f,args,argTypes⟩,type,pos,after,guard⟩ a w (λa' w'=>∃v,a'=a.put dst v/\K v w') Q:=by
    intro hf v vs hv hvs hcall;rcases hcall with ⟨g,us,hrun,hk⟩|⟨l,g,tmps,assign,body,hrun,hk⟩;refine Io (o:=⟨dst,.call ⟨.value f,args,argTypes⟩,type,pos,after,guard⟩) ?_ hk;simp only[execOp,resolve,hr.j5 hvs,hr.ev hv];exact hrun;refine qrW (o:=⟨dst,.call ⟨.value f,args,argTypes⟩,type,pos,after,guard⟩) ?_ hk;simp only[execOp,resolve,hr.j5 hvs,hr.ev hv];exact hrun
   cases f with
   | func g=>
    simp only[jY] at h;split at h;rename_i vs hv;cases hb:jD P g with
    | true=>
     simp only[hb,cond_true] at h;obtain⟨x,w',hrun,hk⟩:=h;refine D0 ?_ hk;simp only[execOp,resolve,hr.j5 hv,Act.eval,Deferred.ofValue];simpa[invoke] using hrun
    | false=>
     simp only[hb,cond_false] at h;refine Io ?_ h;simp only[execOp,resolve,hr.j5 hv,Act.eval,Deferred.ofValue];simp[invoke,Bm hb]
    exact h.elim
   | tmp t=>
    simp only[jY] at h;split at h;rename_i v vs hv hvs;exact key oM v vs hv hvs h;exact h.elim
   | const t=>
    simp only[jY] at h;split at h;rename_i v vs hv hvs;exact key oM v vs hv hvs h;exact h.elim
   | global t=>
    simp only[jY] at h;split at h;rename_i v vs hv hvs;exact key oM v vs hv hvs h;exact h.elim
  | invoke x name=>
   simp only[jY] at h;split at h;rename_i v vs hv hvs;obtain⟨g,us,hrun,hk⟩:=h;refine Io ?_ hk;simp only[execOp,resolve,hr.j5 hvs,hr.ev hv];simp[invoke];simpa using hrun;exact h.elim
 all_goals exact h.elim
end
section
variable {P:Km} {n:Nat} {ds:List Deferred} {e:Env} {a:Act} {w:Kj} {r:Option Nat} {m:Nat}
def iq (wr:Nat->Bool) (a a':Act):Prop:=∀t,wr t=false->a'.tmps.getD t undef=a.tmps.getD t undef
def iq.refl(wr:Nat->Bool)(a:Act):iq wr a a:=λ_ _=>rfl
def iq.trans{wr1 wr2 wr:Nat->Bool}{a b c:Act}(h1:iq wr1 a b)(h2:iq wr2 b c)(h:∀t,wr t=false->wr1 t=false/\wr2 t=false):iq wr a c:=
  λt ht=>(h2 t (h t ht).2).trans (h1 t (h t ht).1)
def iq.mono{wr1 wr:Nat->Bool}{a b:Act}(h1:iq wr1 a b)(h:∀t,wr t=false->wr1 t=false):iq wr a b:=λt ht=>h1 t (h t ht)
def iq.put(a:Act)(dst:Option Tmp)(v:Kk){wr:Nat->Bool}(h:∀d,dst=some d->wr d=true):iq wr a (a.put dst v):=by
  intro t ht;cases dst with
  | none=>rfl
  | some d=>
    have hne:d≠t:=λhd=>by subst hd;rw[h d rfl] at ht;cases ht
    simp[Act.put,Array.getElem?_setIfInBounds_ne hne]
def qq7{o:Oper}{d:Nat}(ho:o∈ops)(hd:o.dst=some d):sG ops d=true:=by unfold sG;rw[any_eq_true];exact⟨o,ho,by simp[hd]⟩
def nH (n:Nat) (ops:List Oper):Bool:=ops.all λo=>match o.dst with|some d=>Nat.blt d n|none=>true
def qox(h:nH n ops=true){o:Oper}(ho:o∈ops):∀d,o.dst=some d->d<n:=by
  intro d hd;have:=all_eq_true.1 h o ho;simp only[hd] at this;exact zO this
def Rel.refine(h:Rel n ds e a){d:Nat}{v:Kk}(hv:e.get d=some v):Rel n ds ((d,v)::e) a:=by refine⟨h.size,h.defers,λt u hu=>?_⟩;rw[Env.lu] at hu;by_cases hdt:d=t;subst hdt;simp at hu;subst hu;exact h.get _ _ hv;simp[hdt] at hu;exact h.get _ _ hu
def qj7{o:Oper}{yes no:Env->Prop}(h:guarded ops o e yes no)(hr:Rel n ds e a): (∃e',Rel n ds e' a/\Region.wanted o (yielded ops.toArray a.tmps)=true/\yes e')\/ (∃e',Rel n ds e' a/\Region.wanted o (yielded ops.toArray a.tmps)=false/\no e'):=by
  unfold guarded at h;split at h;rename_i hg;exact .inl ⟨e,hr,by simp[Region.wanted,hg],h⟩;rename_i j want hg;split at h;exact h.elim;rename_i d hd;have hy:∀v,e.get d=some v->yielded ops.toArray a.tmps j=match v with | .bool b=>some b|_=>none:=by
    intro v hv;have h1:=hr.get d v hv;unfold yielded;have hd':((ops.toArray[j]?).bind (·.dst))=some d:=(oQ hd);rw[hd'];simp only[Option.bind_some];cases ht:a.tmps[d]? with
    | none=>
      have:v=undef:=(by simpa[ht] using h1.symm);subst this;rfl
    | some u=>
      have:u=v:=(by simpa[ht] using h1);subst this;cases u<;>rfl
  split at h;rename_i b hb;have hyb:=hy _ hb;simp only at hyb;have hre:=hr.refine hb;cases b<;>cases want<;>simp only at h;exact .inl ⟨_,hre,by simp[Region.wanted,hg,hyb],h⟩;exact .inr ⟨_,hre,by simp[Region.wanted,hg,hyb],h⟩;exact .inr ⟨_,hre,by simp[Region.wanted,hg,hyb],h⟩;exact .inl ⟨_,hre,by simp[Region.wanted,hg,hyb],h⟩;rename_i ts hb;have hyb:=hy _ hb;simp only at hyb;exact .inr ⟨e,hr,by simp[Region.wanted,hg,hyb],h⟩;exact h.elim
def lN (ops:List Oper):Bool:=ops.all λo=>match o.op with | .defer _=>false|_=>true
def Ig(h:lN ops=true){o:Oper}(ho:o∈ops):∀c,o.op≠.defer c:=by
  intro c hc;unfold lN at h;rw[JW] at h;have:=h o ho;rw[hc] at this;cases this
def EY{o:Oper}{K K':Act->WP}(hk:∀a w,K a w->K' a w)(h:o.wx r m P a w K Q):o.wx r m P a w K' Q:=by
  unfold Oper.wx at h⊢;generalize (execOp a.eval o).run P w=x at h⊢;cases x with
  | ok x w'=>
    cases x<;>simp only[Oper.uponIn] at h⊢<;>first
      | exact h
      | exact hk _ _ h
      | (refine⟨h.1,CallsIn.mono h.2 ?_⟩
         intro e w'' he;cases e<;>first|exact hk _ _ he|exact he)
      | (refine⟨h.1,RowsIn.mono h.2 ?_⟩
         intro e w'' he;exact hk _ _ he)
      | (refine⟨h.1,RoundIn.mono h.2 ?_⟩
         intro e w'' he;cases e<;>first|exact hk _ _ he|exact he)
  | halt x w'=>cases x<;>simp only[Oper.uponIn] at h⊢<;>first|exact h|exact h.elim
def Hk{o:Oper}{next:Act->WP}{v:Kk}(hr:(execOp a.eval o).run P w=.ok (.value v) w')(hn:next (a.put o.dst v) w'):o.wx r m P a w next Q:=by unfold Oper.wx;rw[hr];exact hn
def qzD{o:Oper}(Q:Exit->Act->WP)(h:A4 (mS P) P o e w K)(hr:Rel n ds e a): o.wx r m P a w (λa' w'=>∃v,a'=a.put o.dst v/\K v w') Q:=by unfold A4 at h;split at h;obtain⟨v,hv,hk⟩:=qpa h hr;exact Hk (hv w) ⟨v,rfl,hk⟩;rename_i hc;obtain⟨v,hold,hv,_,hk⟩:=qpd h hc hr;exact Hk hv ⟨v,rfl,hk⟩;exact qqF Q h hr
def GK{ops:List Oper}{K:Env->WP}{Q:Exit->Act->WP}{a0:Act}{wr:Nat->Bool}: ∀(l:List Oper) (e:Env) (a:Act) (w:Kj),tl (mS P) P ops K l e w->Rel n ds e a->nH n l=true->(∀o∈l,∀d,o.dst=some d->wr d=true)->iq wr a0 a-> (∀e' a' w',K e' w'->Rel n ds e' a'->iq wr a0 a'->Q .normal a' w')->lN l=true->wpListIn (Wd r) m P ops.toArray Q l a w
  | [],e,a,w,h,hr,_,_,hk,hQ,_=>hQ e a w h hr hk
  | o::rest,e,a,w,h,hr,hd,hw,hk,hQ,hn=>by have hn2:lN rest=true:=(by simp only[lN,all_cons,yB] at hn⊢;exact hn.2);have hd1:=qox hd (o:=o) oM;have hd2:nH n rest=true:=(by simp only[nH,all_cons,yB] at hd⊢;exact hd.2);have hw1:=hw o oM;have hw2:∀o∈rest,∀d,o.dst=some d->wr d=true:=λp hp=>hw p (by simp[hp]);unfold wpListIn;rcases qj7 h hr with ⟨e',hr',hwant,hy⟩|⟨e',hr',hwant,hno⟩;rw[iP hwant];refine Is (Ig hn oM) (EY ?_ (qzD Q hy hr'));rintro a' w' ⟨v,rfl,hv⟩;exact GK rest _ _ _ hv (hr'.put hd1 v) hd2 hw2 (hk.trans (iq.put a o.dst v hw1) λt ht=>⟨ht,ht⟩) hQ hn2;rw[iN (by simp[hwant])];refine⟨λ_ _=>trivial,?_⟩;exact GK rest _ _ _ hno (hr'.put hd1 undef) hd2 hw2 (hk.trans (iq.put a o.dst undef hw1) λt ht=>⟨ht,ht⟩) hQ hn2
def jM (P:Km) (ops:List Oper) (i:Nat):Bool:=match ops[i]? with|some o=>(match CB P o.op with | .BH=>true|_=>false)|none=>false
def nE (ops:List Oper) (y x:Nat):Bool:=
  match ops[y]?,ops[x]? with
  | some oy,some ox=>oy.apart ops.toArray ox
  | _,_=>false
def ip (b:Array Nat) (y x:Nat):Bool:=(b.getD x 0).testBit y
def um (P:Km) (ops:List Oper) (b:Array Nat) (y x:Nat):Bool:=ip b y x||(nE ops y x&&(!jM P ops y||jM P ops x))
def uA (P:Km) (ops:List Oper) (b:Array Nat) (y x:Nat) (r:Kr):Bool:=!jM P ops x&&r.any λz=>!(Nat.beq z x)&&(jM P ops z&&ip b z x)
def lq (P:Km) (ops:List Oper) (b:Array Nat):Kr->Bool
  | []=>true
  | y::r=>r.all (λx=>um P ops b y x||(jM P ops y&&uA P ops b y x r))&&lq P ops b r
def uJ (x:Nat) (seqs:List (Kr)):List (Kr):=seqs.filterMap λs=>match s with|y::t=>bif Nat.beq y x then some t else none | []=>none
def cover (b:Array Nat):Nat->Kr->List (Kr)->Bool
  | 0,rem,seqs=>rem.isEmpty&&seqs.contains []
  | k+1,rem,seqs=>(rem.isEmpty&&seqs.contains [])||(!rem.isEmpty&&rem.all λx=>rem.any (λy=>!(Nat.beq y x)&&ip b y x)||cover b k (rem.filter λy=>!(Nat.beq y x)) (uJ x seqs))
def tr:Kr->Bool
  | []=>true
  | x::r=>!(r.any λy=>Nat.beq x y)&&tr r
def oe (ops:List Oper):Bool:=ops.zipIdx.all λ(o,i)=>o.after.all λe=>!Region.binds .any e||Nat.blt e.on i
def gi (P:Km) (ops:List Oper) (l:Kr):Kr:=l.filter (jM P ops)
def qW (ops:List Oper) (b:Array Nat):Bool:=
  ops.zipIdx.all λ(o,x)=>(List.range ops.length).all λy=>!(ip b y x)||o.after.any λe=>Region.binds .any e&&(Nat.beq e.on y||ip b y e.on)
def uj (P:Km) (ops:List Oper) (orders:List (Kr)):Bool:=
  oe ops&&qW ops (rj ops)&&Region.noSelect ops.toArray&&
  (orders.all λC=>(List.range ops.length).all (λi=>C.any (Nat.beq i))&&C.all (Nat.blt · ops.length)&&tr C&&lq P ops (rj ops) C)&&
  cover (rj ops) ops.length (gi P ops (List.range ops.length)) (orders.map (gi P ops))
def qnf:∀ {l:Kr},tr l=true->l.Nodup
  | [],_=>nodup_nil
  | x::r,h=>by
    simp only[tr,yB,zT,any_eq_false] at h;refine nodup_cons.2 ⟨λhm=>?_,qnf h.2⟩;have:=h.1 x hm;simp at this
def kV (P:Km) (ops:List Oper) (o:Oper) (a:Act) (w:Kj) (v:Kk):Prop:=
  (Region.wanted o (yielded ops.toArray a.tmps)=true/\(execOp a.eval o).run P w=.ok (.value v) w)\/(Region.wanted o (yielded ops.toArray a.tmps)=false/\v=undef)
def Bj:Exit->Act->WP:=λ_ _ _=>False
def qyG{o:Oper}{a b:Act}{M:Act->WP}{x:Result Next}(h:o.uponIn (Wd r) m P b (λa' w'=>∃u,a'=b.put o.dst u/\N a' w') Bj x)(hNM:∀u w',N (b.put o.dst u) w'->M (a.put o.dst u) w'): o.uponIn (Wd r) m P a (λa' w'=>∃u,a'=a.put o.dst u/\M a' w') Bj x:=by
  have key:∀v w',(∃u,b.put o.dst v=b.put o.dst u/\N (b.put o.dst v) w')->∃u,a.put o.dst v=a.put o.dst u/\M (a.put o.dst v) w':=λv w' ⟨u,hu,hn⟩=>⟨v,rfl,hNM _ _ hn⟩;cases x with
  | ok x w'=>
    cases x<;>simp only[Oper.uponIn] at h⊢;case value v=>exact key _ _ h
    case skip=>exact key _ _ h
    case enter f args=>
      refine⟨h.1,CallsIn.mono h.2 ?_⟩;intro e w'' he;cases e<;>first|exact key _ _ he|exact he
    case defer d=>
      obtain⟨u,hu,_⟩:=h;exfalso;have:(Act.put { b with defers:=d::b.defers } o.dst undef).defers=(b.put o.dst u).defers:=(by rw[hu]);have h1:∀(c:Act) (x:Kk),(c.put o.dst x).defers=c.defers:=λc x=>by cases o.dst<;>rfl
      rw[h1,h1] at this;have:=Kg List.length this;simp at this
    case row rw_ args=>exact⟨h.1,RowsIn.mono h.2 λv w'' hv=>key _ _ hv⟩
    case round l f tmps assign body=>
      refine⟨h.1,RoundIn.mono h.2 ?_⟩;intro e w'' he;cases e<;>first|exact key _ _ he|exact he
  | halt x w'=>cases x<;>simp only[Oper.uponIn] at h⊢<;>exact h
def oz (r:Option Nat) (m:Nat) (P:Km) (ops:List Oper) (b:Array Nat) (K:Act->WP):Kr->Holds->Act->WP
  | [],_,a,w=>K a w
  | i::rest,H,a,w=>
    ∃o,ops[i]?=some o/\
      if jM P ops i=true then
        (if Region.wanted o (yielded ops.toArray a.tmps)=true then
          o.wx r m P a w (λa' w'=>∃v,a'=a.put o.dst v/\(∀h∈gg b i H,h w')/\oz r m P ops b K rest H a' w') Bj
        else oz r m P ops b K rest H (a.put o.dst undef) w)
      else ∃v hold,kV P ops o a w v/\(∀w',hold w'->kV P ops o a w' v)/\oz r m P ops b K rest ((i,hold)::H) (a.put o.dst v) w
def FX{ops:List Oper}{b:Array Nat}{K:Act->WP}: ∀(l:Kr) (H H':Holds) (a:Act) (w:Kj),(∀p∈H',p∈H)->oz r m P ops b K l H a w->oz r m P ops b K l H' a w
  | [],_,_,_,_,_,h=>h
  | i::rest,H,H',a,w,hs,⟨o,ho,h⟩=>by refine⟨o,ho,?_⟩;by_cases he:jM P ops i=true;rw[iP he] at h⊢;by_cases hw:Region.wanted o (yielded ops.toArray a.tmps)=true;rw[iP hw] at h⊢;refine EY ?_ h;rintro a' w' ⟨v,rfl,hh,hc⟩;refine⟨v,rfl,λx hx=>hh x ?_,FX rest H H' _ _ hs hc⟩;simp only[gg,mem_map,Kf] at hx⊢;obtain⟨p,⟨hp,hq⟩,rfl⟩:=hx;exact⟨p,⟨hs p hp,hq⟩,rfl⟩;rw[iN hw] at h⊢;exact FX rest H H' _ _ hs h;rw[iN he] at h⊢;obtain⟨v,hold,h1,h2,h3⟩:=h;refine⟨v,hold,h1,h2,FX rest _ _ _ _ ?_ h3⟩;intro p hp;rcases zG.1 hp with rfl|hp;simp;exact zN _ (hs p hp)
def Cp{ops:List Oper}{b:Array Nat}{K:Env->WP}{Q:Exit->Act->WP}{a0:Act}{wr:Nat->Bool}(hd:nH n ops=true)(hw:∀o∈ops,∀d,o.dst=some d->wr d=true)(hQ:∀e' a' w',K e' w'->Rel n ds e' a'->iq wr a0 a'->Q .normal a' w'): ∀(l:Kr) (H HA:Holds) (e:Env) (a:Act) (w:Kj),(∀x w',(∀h∈gg b x H,h w')->∀h∈gg b x HA,h w')-> lT (mS P) P ops b K l H e w->Rel n ds e a->iq wr a0 a->oz r m P ops b (Q .normal) l HA a w
  | [],H,HA,e,a,w,_,h,hr,hk=>hQ e a w h hr hk
  | i::rest,H,HA,e,a,w,hH,h,hr,hk=>by
    simp only[lT] at h;cases ho:ops[i]? with
    | none=>simp[ho] at h
    | some o=>
      simp only[ho] at h;have hmem:o∈ops:=yG ho;have hd1:=qox hd hmem;have hw1:=hw o hmem;have hput:∀v,iq wr a0 (a.put o.dst v):=λv=>hk.trans (iq.put a o.dst v hw1) λt ht=>⟨ht,ht⟩;refine⟨o,ho,?_⟩;have hE:jM P ops i=match CB P o.op with | .BH=>true|_=>false:=by simp[jM,ho]
      have hHa:∀x w',(∀h∈gg b x H,h w')->∀h∈gg b x ((i,λ_=>True)::HA),h w':=by intro x w' hh g hg;simp only[gg,mem_map,Kf,zG] at hg;obtain⟨p,⟨hp,hq⟩,rfl⟩:=hg;rcases hp with rfl|hp;trivial;exact hH x w' hh _ (by simp only[gg,mem_map,Kf];exact⟨p,⟨hp,hq⟩,rfl⟩)
      rcases qj7 h hr with ⟨e',hr',hwant,hy⟩|⟨e',hr',hwant,hno⟩;cases hc:CB P o.op with
      | pure=>
        simp only[hc] at hy hE;rw[iN (by simp[hE])];obtain⟨v,hv,hk'⟩:=qpa hy hr';exact⟨v,λ_=>True,.inl ⟨hwant,hv w⟩,λw' _=>.inl ⟨hwant,hv w'⟩,Cp hd hw hQ rest H _ _ _ _ hHa hk' (hr'.put hd1 v) (hput v)⟩
      | read=>
        simp only[hc] at hy hE;rw[iN (by simp[hE])];obtain⟨v,hold,hv,hh,hk'⟩:=qpd hy hc hr';refine⟨v,hold,.inl ⟨hwant,hv⟩,λw' hw'=>.inl ⟨hwant,hh w' hw'⟩,Cp hd hw hQ rest ((i,hold)::H) _ _ _ _ ?_ hk' (hr'.put hd1 v) (hput v)⟩;intro x w' hh' g hg;simp only[gg,mem_map,Kf,zG] at hg;obtain⟨p,⟨hp,hq⟩,rfl⟩:=hg;rcases hp with rfl|hp;exact hh' _ (by simp only[gg,mem_map,Kf,zG];exact⟨(i,hold),⟨.inl rfl,hq⟩,rfl⟩);refine hH x w' (λg hg=>hh' g ?_) _ (by simp only[gg,mem_map,Kf];exact⟨p,⟨hp,hq⟩,rfl⟩);simp only[gg,mem_map,Kf,zG] at hg⊢;obtain⟨p,⟨hp,hq⟩,rfl⟩:=hg;exact⟨p,⟨.inr hp,hq⟩,rfl⟩
      | BH=>
        simp only[hc] at hy hE;rw[iP (by simp[hE]),iP hwant];refine EY ?_ (qqF Bj hy hr');rintro a' w' ⟨v,rfl,hv⟩;have hv':(∀g∈gg b i H,g w')/\lT (mS P) P ops b K rest H (e'.put o.dst v) w':=by split at hv;rename_i hl;exact⟨by simp[hl],hv⟩;rename_i l hl;exact⟨λg hg=>qm0 hv.1 g hg,hv.2⟩
        exact⟨v,rfl,hH i w' hv'.1,Cp hd hw hQ rest H HA _ _ _ hH hv'.2 (hr'.put hd1 v) (hput v)⟩
      by_cases he:jM P ops i=true;rw[iP he,iN (by simp[hwant])];exact Cp hd hw hQ rest H HA _ _ _ hH hno (hr'.put hd1 undef) (hput undef);rw[iN he];exact⟨undef,λ_=>True,.inr ⟨hwant,rfl⟩,λ_ _=>.inr ⟨hwant,rfl⟩,Cp hd hw hQ rest H _ _ _ _ hHa hno (hr'.put hd1 undef) (hput undef)⟩
def kV.put{ops:List Oper}{o p:Oper}{a:Act}{w:Kj}{v u:Kk}(hs:Region.noSelect ops.toArray=true)(ho:o∈ops)(hap:∀d,p.dst=some d->d∉o.looksAt ops.toArray): kV P ops o (a.put p.dst u) w v↔kV P ops o a w v:=by
  have hsel:∀cs b,o.op≠.select cs b:=λcs b=>by obtain⟨j,hj,hjo⟩:=getElem_of_mem ho;exact Region.noSelect_spec hs j o cs b (by simp[<- hjo])
  unfold kV;rw[wanted_put o a p.dst u hap,execOp_put o hsel a p.dst u hap]
def qj2{ops:List Oper}{b:Array Nat}{K:Act->WP}(hs:Region.noSelect ops.toArray=true){x:Nat}{ox:Oper}(hx:ops[x]?=some ox)(hxe:jM P ops x=false): ∀(pre post:Kr) (H:Holds) (a:Act) (w:Kj),(∀y∈pre,jM P ops y=false/\nE ops y x=true)->oz r m P ops b K (pre++x::post) H a w-> ∃v,kV P ops ox a w v/\oz r m P ops b K (pre++post) H (a.put ox.dst v) w
  | [],post,H,a,w,_,⟨o,ho,h⟩=>by
    obtain rfl:ox=o:=by rw[hx] at ho;exact yP ho
    rw[iN (by simp[hxe])] at h;obtain⟨v,hold,h1,_,h3⟩:=h;exact⟨v,h1,FX _ _ _ _ _ (λp hp=>zN _ hp) h3⟩
  | y::pre,post,H,a,w,hp,⟨oy,hoy,h⟩=>by obtain⟨hye,hyx⟩:=hp y oM;rw[iN (by simp[hye])] at h;obtain⟨v,hold,h1,h2,h3⟩:=h;obtain⟨u,hu,hc⟩:=qj2 hs hx hxe pre post _ _ w (λz hz=>hp z (by simp[hz])) h3;simp only[nE,hoy,hx] at hyx;obtain⟨a1,a2,a3⟩:=Oper.apart_spec hyx;refine⟨u,(kV.put hs (yG hx) a1).1 hu,oy,hoy,?_⟩;rw[iN (by simp[hye])];refine⟨v,hold,(kV.put hs (yG hoy) a3).2 h1,λw' hw'=>(kV.put hs (yG hoy) a3).2 (h2 w' hw'),?_⟩;rw[<- Act.put_comm a v u a2];exact hc
def qib{ops:List Oper}{b:Array Nat}{K:Act->WP}(hs:Region.noSelect ops.toArray=true){x:Nat}{ox:Oper}(hx:ops[x]?=some ox)(hxe:jM P ops x=true): ∀(pre post:Kr) (H:Holds) (a:Act) (w:Kj),(∀y∈pre,jM P ops y=false/\nE ops y x=true/\ip b y x=false)->oz r m P ops b K (pre++x::post) H a w-> if Region.wanted ox (yielded ops.toArray a.tmps)=true then ox.wx r m P a w (λa' w'=>∃v,a'=a.put ox.dst v/\(∀h∈gg b x H,h w')/\oz r m P ops b K (pre++post) H a' w') Bj else oz r m P ops b K (pre++post) H (a.put ox.dst undef) w
  | [],post,H,a,w,_,⟨o,ho,h⟩=>by
    obtain rfl:ox=o:=by rw[hx] at ho;exact yP ho
    rw[iP hxe] at h;exact h
  | y::pre,post,H,a,w,hp,⟨oy,hoy,h⟩=>by
    obtain⟨hye,hyx,hyb⟩:=hp y oM;rw[iN (by simp[hye])] at h;obtain⟨v,hold,h1,h2,h3⟩:=h;have ih:=qib hs hx hxe pre post _ _ w (λz hz=>hp z (by simp[hz])) h3;simp only[nE,hoy,hx] at hyx;obtain⟨a1,a2,a3⟩:=Oper.apart_spec hyx;have hmx:ox∈ops:=yG hx;have hsel:∀cs c,ox.op≠.select cs c:=λcs c=>by obtain⟨j,hj,hjo⟩:=getElem_of_mem hmx;exact Region.noSelect_spec hs j ox cs c (by simp[<- hjo])
    rw[wanted_put ox a oy.dst v a1] at ih;by_cases hwt:Region.wanted ox (yielded ops.toArray a.tmps)=true;rw[iP hwt] at ih⊢;unfold Oper.wx at ih⊢;rw[execOp_put ox hsel a oy.dst v a1] at ih;have key:∀(u:Kk) (w':Kj),(∀h∈gg b x ((y,hold)::H),h w')->oz r m P ops b K (pre++post) ((y,hold)::H) ((a.put oy.dst v).put ox.dst u) w'->
        (∀h∈gg b x H,h w')/\oz r m P ops b K (y::pre++post) H (a.put ox.dst u) w':=by
      intro u w' hh hc;have hy:hold w':=hh hold (by simp only[gg,mem_map,Kf,zG];exact⟨(y,hold),⟨.inl rfl,by simpa[ip] using hyb⟩,rfl⟩);refine⟨λg hg=>hh g ?_,oy,hoy,?_⟩;simp only[gg,mem_map,Kf,zG] at hg⊢;obtain⟨p,⟨hp1,hp2⟩,rfl⟩:=hg;exact⟨p,⟨.inr hp1,hp2⟩,rfl⟩;rw[iN (by simp[hye])];refine⟨v,hold,(kV.put hs (yG hoy) a3).2 (h2 w' hy),λw2 hw2=>(kV.put hs (yG hoy) a3).2 (h2 w2 hw2),?_⟩;rw[<- Act.put_comm a v u a2];exact hc
    exact qyG (N:=λa' w'=>(∀h∈gg b x ((y,hold)::H),h w')/\oz r m P ops b K (pre++post) ((y,hold)::H) a' w')
      (M:=λa' w'=>(∀h∈gg b x H,h w')/\oz r m P ops b K (y::pre++post) H a' w') ih (λu w' hh=>key u w' hh.1 hh.2)
    rw[iN hwt] at ih⊢;refine⟨oy,hoy,?_⟩;rw[iN (by simp[hye])];refine⟨v,hold,(kV.put hs (yG hoy) a3).2 h1,λw' hw'=>(kV.put hs (yG hoy) a3).2 (h2 w' hw'),?_⟩;rw[<- Act.put_comm a v undef a2];exact ih
def qB7{o:Oper}{a:Act}{w:Kj}(h:o.wx r m P a w N Bj):o.wx r m P a w N Q:=by
  unfold Oper.wx at h⊢;generalize (execOp a.eval o).run P w=x at h⊢;cases x with
  | ok x w'=>
    cases x<;>simp only[Oper.uponIn] at h⊢<;>first
      | exact h
      | (refine⟨h.1,CallsIn.mono h.2 ?_⟩
         intro e w'' he;cases e with
         | returned v=>exact he
         | panicked c=>exact he.elim
         | outgrown=>obtain⟨_,_,hh⟩:=he;exact hh.elim)
      | (refine⟨h.1,RoundIn.mono h.2 ?_⟩
         intro e w'' he;cases e with
         | returned v=>exact he
         | panicked c=>exact he.elim
         | outgrown=>obtain⟨_,_,hh⟩:=he;exact hh.elim)
  | halt x w'=>
    cases x<;>simp only[Oper.uponIn] at h⊢<;>first|exact h|exact h.elim
def qq0{x:Nat}{l:Kr}(h:x∈l):∃pre post,l=pre++x::post/\x∉pre:=by
  induction l with
  | nil=>cases h
  | cons y l ih=>
    by_cases hy:y=x;subst hy;exact⟨[],l,rfl,oM⟩;have hx:x∈l:=by rcases zG.1 h with rfl|h;exact absurd rfl hy;exact h
    obtain⟨pre,post,e,hn⟩:=ih hx;exact⟨y::pre,post,by simp[e],by simp[hn];exact λh=>hy h.symm⟩
def qlp{ops:List Oper}{b:Array Nat}{x:Nat}:∀ {pre post:Kr},lq P ops b (pre++x::post)=true->∀y∈pre,um P ops b y x=true\/∃z,z∈pre++x::post/\z≠x/\ip b z x=true
  | [],post,h,y,hy=>by cases hy
  | z::pre,post,h,y,hy=>by
    simp only[xL,lq,yB,JW] at h;obtain⟨h1,h2⟩:=h;rcases zG.1 hy with rfl|hy;have:=h1 x oM;rw[Bool.or_eq_true] at this;rcases this with h|h;exact .inl h;simp only[uA,yB,any_eq_true] at h;obtain⟨_,_,q,hq,hqx,_,hb⟩:=h;refine .inr ⟨q,zN _ hq,λe=>?_,hb⟩;subst e;simp at hqx;rcases qlp h2 y hy with h|⟨q,hq,h3⟩;exact .inl h;exact .inr ⟨q,zN _ hq,h3⟩
def ID{ops:List Oper}{b:Array Nat}{x:Nat}:∀ {pre post:Kr},lq P ops b (pre++x::post)=true->(jM P ops x=true->∀y∈pre,jM P ops y=false)->lq P ops b (pre++post)=true
  | [],post,h,_=>by simp only[xK,lq,yB] at h;exact h.2
  | z::pre,post,h,he=>by
    simp only[xL,lq,yB,JW] at h;obtain⟨h1,h2⟩:=h;simp only[xL,lq,yB,JW];refine⟨λy hy=>?_,ID h2 λhx q hq=>he hx q (zN _ hq)⟩;have hy':y∈pre++x::post:=by rcases zD.1 hy with hy|hy;exact zH _ hy;exact zI _ (zN _ hy)
    have:=h1 y hy';rw[Bool.or_eq_true] at this⊢;rcases this with h|h;exact .inl h;right;simp only[uA,yB,any_eq_true] at h⊢;obtain⟨hz,hy2,q,hq,hqy,hqe,hqb⟩:=h;refine⟨hz,hy2,q,?_,hqy,hqe,hqb⟩;rcases zD.1 hq with hq|hq;exact zH _ hq;rcases zG.1 hq with rfl|hq;have:=he hqe z oM;rw[this] at hz;cases hz;exact zI _ hq
def Dv{ops:List Oper}{b:Array Nat}{Q:Exit->Act->WP}(hs:Region.noSelect ops.toArray=true)(hnd:lN ops=true): ∀(L C:Kr) (a:Act) (w:Kj),L.Nodup->C.Nodup->(∀i,i∈L↔i∈C)->lq P ops b C=true->gi P ops L=gi P ops C-> (∀pre x post,L=pre++x::post->∀y∈post,ip b y x=false)-> oz r m P ops b (Q .normal) C [] a w->wpOpsIn (Wd r) m P ops.toArray Q L a w
  | [],C,a,w,_,_,hm,_,_,_,h=>by
    have:C=[]:=eq_nil_iff_forall_not_mem.2 λi hi=>by have:=(hm i).2 hi;cases this
    subst this;exact h
  | x::L,C,a,w,hL,hC,hm,ho,he,hb,h=>by
    obtain⟨pre,post,rfl,hxp⟩:=qq0 ((hm x).1 oM);have hpre:=qlp ho;have hLn:=nodup_cons.1 hL;have hCn:(pre++post).Nodup:=by rw[yN] at hC⊢;obtain⟨c1,c2,c3⟩:=hC;exact⟨c1,(nodup_cons.1 c2).2,λp hp q hq=>c3 p hp q (zN _ hq)⟩
    have hxpost:x∉post:=(by rw[yN] at hC;exact (nodup_cons.1 hC.2.1).1);have hm':∀i,i∈L↔i∈pre++post:=by
      intro i;have:=hm i;simp only[zG,zD] at this⊢;constructor;intro hi;have hix:i≠x:=λe=>hLn.1 (e▸hi);rcases this.1 (.inr hi) with h|h|h;exact .inl h;exact absurd h hix;exact .inr h;intro hi;have hix:i≠x:=λe=>by subst e;rcases hi with h|h;exact hxp h;exact hxpost h
      rcases this.2 (by rcases hi with h|h;exact .inl h;exact .inr (.inr h)) with h|h;exact absurd h hix;exact h
    have hnb:∀y∈pre,ip b y x=false:=λy hy=>hb [] x L rfl y ((hm' y).2 (zH _ hy));have hb':∀p z q,L=p++z::q->∀y∈q,ip b y z=false:=λp z q hq=>hb (x::p) z q (by simp[hq]);have hap:∀y∈pre,nE ops y x=true/\(jM P ops y=false\/jM P ops x=true):=by
      intro y hy;rcases hpre y hy with this|⟨z,hz,hzx,hzb⟩;simp only[um,hnb y hy,Bool.false_or,yB,Bool.or_eq_true,zT] at this;exact this;exfalso;have hzL:z∈L:=by rcases zG.1 ((hm z).2 hz) with h|h;exact absurd h hzx;exact h
      have:=hb [] x L rfl z hzL;rw[this] at hzb;cases hzb
    cases hox:ops[x]? with
    | none=>
      exfalso;cases pre with
      | nil=>obtain⟨o,ho2,_⟩:=h;rw[hox] at ho2;cases ho2
      | cons y pre=>
        have:=(hap y oM).1;simp only[nE,hox] at this;split at this<;>simp_all
    | some ox=>
      have hox':ops.toArray[x]?=some ox:=(oQ hox);simp only[wpOpsIn,hox'];cases hxe:jM P ops x with
      | false=>
        have ho':=ID ho (λh=>by rw[hxe] at h;cases h);have hpn:∀y∈pre,jM P ops y=false/\nE ops y x=true:=λy hy=>by refine⟨?_,(hap y hy).1⟩;rcases (hap y hy).2 with h|h;exact h;rw[hxe] at h;cases h
        obtain⟨v,hv,hc⟩:=qj2 hs hox hxe pre post [] a w hpn h;have he':gi P ops L=gi P ops (pre++post):=by simp only[gi,filter_cons,hxe,xE] at he⊢;simpa using he
        rcases hv with ⟨hw,hrun⟩|⟨hw,rfl⟩;rw[iP hw];exact Is (Ig hnd (yG hox)) (Hk hrun (Dv hs hnd L _ _ _ hLn.2 hCn hm' ho' he' hb' hc));rw[iN (by simp[hw])];refine⟨λ_ _=>trivial,?_⟩;exact Dv hs hnd L _ _ _ hLn.2 hCn hm' ho' he' hb' hc
      | true=>
        have hpe:∀y∈pre,jM P ops y=false:=by
          have h1:gi P ops (x::L)=x::gi P ops L:=(by simp[gi,hxe]);have h2:gi P ops (pre++x::post)=gi P ops pre++x::gi P ops post:=(by simp[gi,hxe]);rw[h1,h2] at he;have:gi P ops pre=[]:=by
            cases hq:gi P ops pre with
            | nil=>rfl
            | cons z zs=>
              rw[hq] at he;simp at he;have hz:z∈gi P ops pre:=by rw[hq];simp
              have:=(mem_filter.1 hz).1;exact absurd (he.1▸this) hxp
          intro y hy;cases hye:jM P ops y with
          | false=>rfl
          | true=>
            have:y∈gi P ops pre:=mem_filter.2 ⟨hy,hye⟩;rw[‹gi P ops pre=[]›] at this;cases this
        have ho':=ID ho λ_=>hpe;have he':gi P ops L=gi P ops (pre++post):=by
          have h0:gi P ops pre=[]:=filter_eq_nil_iff.2 λy hy=>by simp[hpe y hy]
          have h1:gi P ops (x::L)=x::gi P ops L:=(by simp[gi,hxe]);have h2:gi P ops (pre++x::post)=gi P ops pre++x::gi P ops post:=(by simp[gi,hxe]);have h3:gi P ops (pre++post)=gi P ops pre++gi P ops post:=(by simp[gi]);rw[h1,h2,h0] at he;rw[h3,h0];simpa using he
        have hc:=qib hs hox hxe pre post [] a w (λy hy=>⟨hpe y hy,(hap y hy).1,hnb y hy⟩) h;by_cases hw:Region.wanted ox (yielded ops.toArray a.tmps)=true;rw[iP hw] at hc⊢;refine Is (Ig hnd (yG hox)) ?_;have:ox.wx r m P a w (wpOpsIn (Wd r) m P ops.toArray Q L) Bj:=by refine EY ?_ hc;rintro a' w' ⟨v,rfl,_,hc'⟩;exact Dv hs hnd L _ _ _ hLn.2 hCn hm' ho' he' hb' hc'
        exact qB7 this;rw[iN hw] at hc⊢;refine⟨λ_ _=>trivial,?_⟩;exact Dv hs hnd L _ _ _ hLn.2 hCn hm' ho' he' hb' hc
end
section
variable {P:Km} {n:Nat} {ds:List Deferred} {e:Env} {a:Act} {w:Kj} {r:Option Nat} {m:Nat}
def qj0(h:oe ops=true){i:Nat}{o:Oper}(ho:ops[i]?=some o){x:Edge}(hx:x∈o.after)(hb:Region.binds .any x=true):x.on<i:=by
 unfold oe at h;rw[JW] at h;have hm:(o,i)∈ops.zipIdx:=by rw[mem_zipIdx_iff_getElem?];simpa using ho
 have:=h (o,i) hm;simp only[Array.all_eq_true'] at this;have:=this x hx;simp only[hb,Bool.not_true,Bool.false_or] at this;exact zO this
def qtd{b:Array Nat}(h:qW ops b=true){x y:Nat}{o:Oper}(ho:ops[x]?=some o)(hy:y<ops.length)(hb:ip b y x=true): ∃e∈o.after,Region.binds .any e=true/\(e.on=y\/ip b y e.on=true):=by
 unfold qW at h;rw[JW] at h;have hm:(o,x)∈ops.zipIdx:=by rw[mem_zipIdx_iff_getElem?];simpa using ho
 have:=h (o,x) hm;rw[JW] at this;have:=this y (oQ hy);simp only[hb,Bool.not_true,Bool.false_or,Array.any_eq_true',yB,Bool.or_eq_true] at this;obtain⟨e,he,h1,h2⟩:=this;exact⟨e,he,h1,h2.imp yX id⟩
def A6 (ops:List Oper) (listed:Nat->Prop) (L:Kr):Prop:=
 ∀pre x post,L=pre++x::post->∀o,ops[x]?=some o->∀e∈o.after,Region.binds .any e=true->listed e.on\/e.on∈pre
def qns{ops:List Oper}{b:Array Nat}{L:Kr}(hB:oe ops=true)(hp:qW ops b=true)(hT:A6 ops (λ_=>False) L)(hL:∀i∈L,i<ops.length)(y:Nat)(hy:y<ops.length): ∀(k x:Nat),x<k->∀pre post,L=pre++x::post->ip b y x=true->y∈pre
 | 0,x,hx,_,_,_,_=>by omega
 | k+1,x,hx,pre,post,hL',hb=>by
  have hxl:x<ops.length:=hL x (by simp[hL']);obtain⟨o,ho⟩:∃o,ops[x]?=some o:=⟨ops[x],by simp[hxl]⟩;obtain⟨e,he,hbi,h⟩:=qtd hp ho hy hb;have hin:=(hT pre x post hL' o ho e he hbi).resolve_left λh=>h;rcases h with rfl|h;exact hin;obtain⟨p1,p2,rfl,_⟩:=qq0 hin;have hlt:=qj0 hB ho he hbi;have:=qns hB hp hT hL y hy k e.on oK p1 (p2++x::post) (by simp[hL']) h;exact zH _ this
def qrj{ops:Array Oper}{i:Nat}:i∈Region.ready .any ops listed↔listed.getD i true=false/\∃o,ops[i]?=some o/\∀e∈o.after,Region.binds .any e=true->listed.getD e.on false=true:=by
 simp only[Region.ready,Kf,mem_range,yB,zT];constructor;rintro⟨hi,h1,h2⟩;refine⟨h1,ops[i],by simp[hi],?_⟩;simp only[Array.getElem?_eq_getElem hi,Option.map_some,xX,Array.all_eq_true',Bool.or_eq_true,zT] at h2;intro e he hb;rcases h2 e he with h|h;rw[hb] at h;cases h;exact h;rintro⟨h1,o,ho,h2⟩;have hi:i<ops.size:=by rcases Nat.lt_or_ge i ops.size with h|h;exact h;simp[Array.getElem?_eq_none h] at ho
 refine⟨hi,h1,?_⟩;simp only[ho,Option.map_some,xX,Array.all_eq_true',Bool.or_eq_true,zT];intro e he;cases hb:Region.binds .any e with
 | false=>exact .inl rfl
 | true=>exact .inr (h2 e he hb)
def uw (listed:Array Bool) (k:Nat):Nat:=((List.range k).filter λi=>!listed.getD i true).length
def qBp{i:Nat}(hi:listed.getD i true=false):∀k,i<k->uw (listed.setIfInBounds i true) k+1=uw listed k:=by
 intro k;have hlt:i<listed.size:=by rcases Nat.lt_or_ge i listed.size with h|h;exact h;simp[Array.getElem?_eq_none h] at hi
 have heq:∀j,(listed.setIfInBounds i true).getD j true=if j=i then true else listed.getD j true:=by intro j;by_cases hj:j=i;subst hj;simp[hlt];rw[iN hj,getD_set_ne true λh=>hj h.symm]
 induction k with
 | zero=>intro h;omega
 | succ k ih=>
  intro hk;unfold uw at ih⊢;rw[range_succ,xE,xE,zF,zF];by_cases hki:k=i;subst hki;have h1:∀j∈List.range k,(!(listed.setIfInBounds k true).getD j true) = !listed.getD j true:=λj hj=>by rw[heq j,iN (by have:=mem_range.1 hj;omega)]
  rw[filter_congr h1];simp only[filter_cons,filter_nil,heq k,if_true,hi];simp;have:=ih oK;simp only[filter_cons,filter_nil,heq k,iN hki];omega
def qBo{k:Nat}(h:0<uw listed k):∃i,i<k/\listed.getD i true=false/\∀j,j<i->listed.getD j true=true:=by
 induction k with
 | zero=>simp[uw] at h
 | succ k ih=>
  by_cases hk:0<uw listed k;obtain⟨i,h1,h2⟩:=ih hk;exact⟨i,oK,h2⟩;have h0:uw listed k=0:=oK;have hall:∀j,j<k->listed.getD j true=true:=by
   intro j hj;unfold uw at h0;have:(List.range k).filter (λi=>!listed.getD i true)=[]:=JV h0;have:=filter_eq_nil_iff.1 this j (mem_range.2 hj);simpa using this
  refine⟨k,oK,?_,hall⟩;unfold uw at h h0;rw[range_succ,xE,zF] at h;rw[h0] at h;simp only[filter_cons,filter_nil,xU] at h;cases hk:listed.getD k true with
  | false=>rfl
  | true=>rw[hk] at h;simp at h
def qzx(hB:oe ops=true):∀(fuel t:Nat) (listed:Array Bool),listed.size=ops.length->uw listed ops.length<=fuel-> ∃L,Region.linearise.go .any ops.toArray fuel t listed []=L/\L.Nodup/\(∀i,i∈L↔i<ops.length/\listed.getD i true=false)/\A6 ops (λj=>listed.getD j false=true) L:=by
 intro fuel;induction fuel with
 | zero=>
  intro t listed hs hu;refine⟨[],by simp[Region.linearise.go],nodup_nil,λi=>⟨λh=>(by cases h),λ⟨h1,h2⟩=>?_⟩,?_⟩;exfalso;have:i∈(List.range ops.length).filter λi=>!listed.getD i true:=mem_filter.2 ⟨mem_range.2 h1,by simp[h2]⟩;have h0:((List.range ops.length).filter λi=>!listed.getD i true)=[]:=JV (by unfold uw at hu;omega);rw[h0] at this;cases this;intro pre x post h;simp at h
 | succ fuel ih=>
  intro t listed hs hu;simp only[Region.linearise.go];have hrs:((List.range ops.toArray.size).filter λi=>!listed.getD i true&&((ops.toArray[i]?).map (·.after.all λe=>!Region.binds .any e||listed.getD e.on false)).getD false)=Region.ready .any ops.toArray listed:=rfl;rw[hrs];by_cases hr:Region.ready .any ops.toArray listed=[];have hnone:∀i,i<ops.length->listed.getD i true=true:=by
   intro i hi;cases hli:listed.getD i true with
   | true=>rfl
   | false=>
    exfalso;have hpos:0<uw listed ops.length:=by unfold uw;exact length_pos_of_mem (mem_filter.2 ⟨mem_range.2 hi,by simp[hli]⟩)
    obtain⟨j,hj,hj0,hjall⟩:=qBo hpos;have:j∈Region.ready .any ops.toArray listed:=by
     rw[qrj];refine⟨hj0,ops[j],by simp[hj],λe he hb=>?_⟩;have hlt:=qj0 hB (show ops[j]?=some ops[j] by simp[hj]) he hb;have:=hjall e.on hlt;have hlt2:e.on<listed.size:=oK;simp only[Array.getD_eq_getD_getElem?,Array.getElem?_eq_getElem hlt2,xX] at this⊢;exact this
    rw[hr] at this;cases this
  refine⟨[],by simp[hr],nodup_nil,λi=>⟨λh=>(by cases h),λ⟨h1,h2⟩=>?_⟩,?_⟩;rw[hnone i h1] at h2;cases h2;intro pre x post h;simp at h;have hlen:0<(Region.ready .any ops.toArray listed).length:=length_pos_iff.2 hr;have hmod:t%(Region.ready .any ops.toArray listed).length<(Region.ready .any ops.toArray listed).length:=Nat.mod_lt _ hlen;rw[zA hmod];simp only;generalize hi:(Region.ready .any ops.toArray listed)[t%(Region.ready .any ops.toArray listed).length]=i;have hmem:i∈Region.ready .any ops.toArray listed:=(by rw[<- hi];exact zX _);obtain⟨h1,o,ho,h2⟩:=qrj.1 hmem;have hilt:i<ops.length:=by rcases Nat.lt_or_ge i ops.length with h|h;exact h;simp[yT h] at ho
  rw[linearise_go_acc];have hu':=qBp h1 ops.length hilt;obtain⟨L,hL,hnd,hm,hT⟩:=ih (t / (Region.ready .any ops.toArray listed).length) (listed.setIfInBounds i true) (oQ hs) oK;have heq:∀j,(listed.setIfInBounds i true).getD j true=if j=i then true else listed.getD j true:=by intro j;by_cases hj:j=i;subst hj;have:j<listed.size:=oK;simp[this];rw[iN hj,getD_set_ne true λh=>hj h.symm]
  refine⟨i::L,by rw[hL];simp,nodup_cons.2 ⟨λhin=>?_,hnd⟩,λj=>?_,?_⟩;have:=((hm i).1 hin).2;rw[heq i,iP rfl] at this;cases this;rw[zG,hm j,heq j];constructor;rintro (rfl|⟨hj1,hj2⟩);exact⟨hilt,h1⟩;by_cases hji:j=i;rw[iP hji] at hj2;cases hj2;rw[iN hji] at hj2;exact⟨hj1,hj2⟩;rintro⟨hj1,hj2⟩;by_cases hji:j=i;exact .inl hji;exact .inr ⟨hj1,by rw[iN hji];exact hj2⟩;intro pre x post hsplit ox hox e he hb;cases pre with
  | nil=>
   simp only[xK,List.cons.injEq] at hsplit;obtain⟨rfl,rfl⟩:=hsplit;have:o=ox:=by have ho':ops[i]?=some o:=(oQ ho);rw[ho'] at hox;exact yP hox
   subst this;exact .inl (h2 e he hb)
  | cons z pre=>
   simp only[xL,List.cons.injEq] at hsplit;obtain⟨rfl,rfl⟩:=hsplit;rcases hT pre x post rfl ox hox e he hb with h|h;by_cases hei:e.on=i;exact .inr (by simp[hei]);rw[getD_set_ne false λh=>hei h.symm] at h;exact .inl h;exact .inr (zN _ h)
def qot{b:Array Nat}:∀(k:Nat) (rem:Kr) (seqs:List (Kr)) (σ:Kr),cover b k rem seqs=true->σ.Nodup->(∀i,i∈σ↔i∈rem)-> (∀pre x post,σ=pre++x::post->∀y∈post,ip b y x=false)->σ∈seqs
 | 0,rem,seqs,σ,h,_,hm,_=>by
  simp only[cover,yB,isEmpty_iff] at h;obtain⟨rfl,h2⟩:=h;have:σ=[]:=eq_nil_iff_forall_not_mem.2 λi hi=>by have:=(hm i).1 hi;cases this
  subst this;simpa using h2
 | k+1,rem,seqs,σ,h,hn,hm,hb=>by
  simp only[cover,Bool.or_eq_true,yB,isEmpty_iff,zT] at h;rcases h with ⟨rfl,h2⟩|⟨h1,h2⟩;have:σ=[]:=eq_nil_iff_forall_not_mem.2 λi hi=>by have:=(hm i).1 hi;cases this
  subst this;simpa using h2;cases σ with
  | nil=>
   exfalso;cases rem with
   | nil=>simp at h1
   | cons r rs=>have:=(hm r).2 oM;cases this
  | cons x σ=>
   have hx:x∈rem:=(hm x).1 oM;rw[JW] at h2;have h3:=h2 x hx;have hno:(rem.any λy=>!(Nat.beq y x)&&ip b y x)=false:=by
    rw[any_eq_false];intro y hy;simp only[yB,zT,not_and];intro hyx;have hyne:y≠x:=λe=>by subst e;simp at hyx
    have hyσ:y∈σ:=by rcases zG.1 ((hm y).2 hy) with h|h;exact absurd h hyne;exact h
    simp[hb [] x σ rfl y hyσ]
   rw[hno,Bool.false_or] at h3;have hxn:=nodup_cons.1 hn;have hm':∀i,i∈σ↔i∈rem.filter λy=>!(Nat.beq y x):=by
    intro i;rw[Kf];constructor;intro hi;refine⟨(hm i).1 (by simp[hi]),?_⟩;have:i≠x:=λe=>hxn.1 (e▸hi);cases hq:Nat.beq i x with
    | false=>rfl
    | true=>exact absurd (yX hq) this
    rintro⟨h5,h6⟩;rcases zG.1 ((hm i).2 h5) with rfl|h;simp at h6;exact h
   have:=qot k _ _ σ h3 hxn.2 hm' (λpre z post hs=>hb (x::pre) z post (by simp[hs]));unfold uJ at this;rw[mem_filterMap] at this;obtain⟨s,hs,hsσ⟩:=this;cases s with
   | nil=>cases hsσ
   | cons y t=>
    simp only at hsσ;cases hyx:Nat.beq y x with
    | true=>
     rw[hyx] at hsσ;simp only[cond_true,Option.some.injEq] at hsσ;have:=yX hyx;subst this;subst hsσ;exact hs
    | false=>rw[hyx] at hsσ;simp at hsσ
def qnn{ops:List Oper}{b:Array Nat}{K:Env->WP}:∀ {orders:List (Kr)} {e:Env} {w:Kj},rh (mS P) P ops b K orders e w->∀C∈orders,lT (mS P) P ops b K C [] e w
 | [],_,_,_,_,h=>by cases h
 | [o],_,_,h,C,hC=>by simp at hC;subst hC;exact h
 | o::p::r,_,_,h,C,hC=>by rcases zG.1 hC with rfl|hC;exact h.1;exact qnn (orders:=p::r) h.2 C hC
def qv5{id:Nat}{orders:List (Kr)}{K:Env->WP}{wr:Nat->Bool}(hm:P.follows .mixedOrders=true)(hok:uj P ops orders=true)(hnd:lN ops=true)(hd:nH n ops=true)(hw:∀o∈ops,∀d,o.dst=some d->wr d=true)(h:rh (mS P) P ops (rj ops) K orders e w.drew)(hr:Rel n ds e a)(hQ:∀e' a' w',K e' w'->Rel n ds e' a'->iq wr a a'->Q .normal a' w'): (Code.region id ops.toArray true).wpIn (Wd r) m P Q a w:=by
 refine wpIn_region_draw λt=>?_;simp only[Region.schedule,hm,Bool.true_or,if_true,Region.linearise];simp only[uj,yB,JW] at hok;obtain⟨⟨⟨⟨hB,hp⟩,hns⟩,hall⟩,hcov⟩:=hok;have hun:uw (Array.replicate ops.toArray.size false) ops.length<=ops.toArray.size:=by unfold uw;refine zL (length_filter_le _ _) ?_;simp
 obtain⟨L,hL,hnd',hmem,hT⟩:=qzx hB ops.toArray.size t (Array.replicate ops.toArray.size false) oM hun;rw[hL];have hmem':∀i,i∈L↔i<ops.length:=by intro i;rw[hmem i];constructor;exact λh=>h.1;intro hi;exact⟨hi,by simp[hi]⟩
 have hT':A6 ops (λ_=>False) L:=λpre x post hs o ho e he hb=>by rcases hT pre x post hs o ho e he hb with h|h;exfalso;simp only[Array.getD_eq_getD_getElem?,Array.getElem?_replicate] at h;split at h<;>simp at h;exact .inr h
 have hbef:∀pre x post,L=pre++x::post->∀y∈post,ip (rj ops) y x=false:=by
  intro pre x post hs y hy;cases hb:ip (rj ops) y x with
  | false=>rfl
  | true=>
   exfalso;have hyl:y<ops.length:=(hmem' y).1 (by simp[hs,hy]);have:=qns hB hp hT' (λi hi=>(hmem' i).1 hi) y hyl (x+1) x oK pre post hs hb;rw[hs] at hnd';rw[yN] at hnd';exact hnd'.2.2 y this y (zN _ hy) rfl
 have hσ:gi P ops L∈orders.map (gi P ops):=by
  refine qot _ _ _ _ hcov (hnd'.filter _) (λi=>?_) ?_;simp only[gi,Kf,mem_range,hmem'];intro pre x post hs y hy;have hlift:∀(l:Kr) (f:Nat->Bool) (pre:Kr) (x:Nat) (post:Kr),l.filter f=pre++x::post->∃p q,l=p++x::q/\∀y∈post,y∈q:=by
   intro l f;induction l with
   | nil=>intro pre x post h;simp at h
   | cons z l ih=>
    intro pre x post h;by_cases hz:f z=true;rw[filter_cons_of_pos hz] at h;cases pre with
    | nil=>
     simp only[xK,List.cons.injEq] at h;obtain⟨rfl,h⟩:=h;exact⟨[],l,rfl,λy hy=>(mem_filter.1 (h▸hy)).1⟩
    | cons p pre=>
     simp only[xL,List.cons.injEq] at h;obtain⟨rfl,h⟩:=h;obtain⟨p',q,hq,hh⟩:=ih pre x post h;exact⟨z::p',q,by simp[hq],hh⟩
    rw[filter_cons_of_neg hz] at h;obtain⟨p',q,hq,hh⟩:=ih pre x post h;exact⟨z::p',q,by simp[hq],hh⟩
  obtain⟨p,q,hpq,hh⟩:=hlift L _ pre x post hs;exact hbef p x q hpq y (hh y hy)
 obtain⟨C,hC,hCe⟩:=mem_map.1 hσ;have hCa:=hall C hC;obtain⟨⟨⟨c1,c2⟩,c3⟩,c4⟩:=hCa;have c3':=qnf c3;have hCm:∀i,i∈C↔i<ops.length:=by intro i;constructor;intro hi;exact zO (c2 i hi);intro hi;obtain⟨j,hj,hij⟩:=any_eq_true.1 (c1 i (mem_range.2 hi));exact (yX hij)▸hj
 have hrun:=qnn h C hC;have hcan:=Cp (r:=r) (m:=m) (Q:=Q) (a0:=a) hd hw hQ C [] [] e a w.drew (λx w' h=>h) hrun hr (iq.refl _ _);exact Dv hns hnd L C a w.drew hnd' c3' (λi=>by rw[hmem' i,hCm i]) c4 hCe.symm hbef hcan
def ma (r:Option Nat) (m:Nat) (P:Km) (c:Code) (Q:Exit->Act->WP) (a:Act) (w:Kj):Prop:=
 ∀(b:Frame) (k:List Item) (cs:List Frame),b.roundOf=r->∃e a' w',Q e a' w'/\ArrivesIn (Machine.fenced P (Wd r)) P (lone (b.atR a (.code c::.inLoop c::k)) cs w) b k cs e a' w'
def ma.loop{c:Code}{Q:Exit->Act->WP}{a:Act}{w:Kj}(h:ma r m P c Q a w):(Code.loop c).wpIn (Wd r) m P Q a w:=
 λb k cs hro hb hr=>let ⟨e,a',w',q,x⟩:=h b k cs hro;⟨e,a',w',q,.of_steps (.one (fenced_calm hb hr rfl) stepR_loop) x⟩
def ma.vR{c:Code}{a:Act}{w:Kj}(h:c.wpIn (Wd r) m P (Exit.then (λa w=>ma r m P c Q a w) Q) a w):ma r m P c Q a w:=by
 intro b k cs hro;have hroom:(Wd r).room (cs.length+1+m):=λ_ hd=>by cases hd
 obtain⟨e,a₁,w₁,hq,harr⟩:=h b (.inLoop c::k) cs hro trivial hroom;cases e with
 | normal=>
  obtain⟨e₂,a₂,w₂,hq₂,harr₂⟩:=hq b k cs hro;exact⟨e₂,a₂,w₂,hq₂,.of_steps (StepsIn.trans harr (.one (fenced_calm (n:=m) trivial hroom rfl) stepR_inLoop)) harr₂⟩
 | exit id=>exact⟨_,a₁,w₁,hq,.pass (x:=.inLoop c) rfl (λ_ _=>.inl oM) harr⟩
 | goto l=>exact⟨_,a₁,w₁,hq,.pass (x:=.inLoop c) rfl (λ_ _=>.inl oM) harr⟩
 | ret=>exact⟨_,a₁,w₁,hq,.pass (x:=.inLoop c) rfl (λ_ _=>.inl oM) harr⟩
 | panic ch=>exact⟨_,a₁,w₁,hq,.pass (x:=.inLoop c) rfl (λ_ _=>.inl oM) harr⟩
 | outgrown=>exact⟨_,a₁,w₁,hq,.pass (x:=.inLoop c) rfl (λ_ _=>.inl oM) harr⟩
def PC.fits (P:Km) (n:Nat):PC->Bool
 | .skip=>true
 | .region _ ops=>nH n ops&&lN ops
 | .draw _ ops orders=>nH n ops&&uj P ops orders&&P.follows .mixedOrders&&lN ops
 | .seq a b=>a.fits P n&&b.fits P n
 | .join _ a b=>a.fits P n&&b.fits P n
 | .cond _ a b=>a.fits P n&&b.fits P n
 | .block _ b=>b.fits P n
 | .loop _ b=>b.fits P n
 | .exit _=>true
 | .ret=>true
 | .kC _ ps pts x y=>Nat.beq ps.length pts.length&&ps.all (Nat.blt · n)&&x.fits P n&&y.fits P n
 | .other _=>true
def iL.to:iL->Exit
 | .normal=>.normal
 | .exit id=>.exit id
 | .ret=>.ret
def Hr:∀(e1 e2:Env) (t:Nat),(e1++e2:Env).get t=match e1.get t with|some v=>some v|none=>e2.get t
 | [],e2,t=>rfl
 | (k,v)::r,e2,t=>by show Env.get ((k,v)::(r++e2)) t=_;rw[Env.lu,Env.lu];by_cases h:k=t;simp[h];simp[h,Hr r e2 t]
def Gr:∀(e:Env) (wr:Nat->Bool) (t:Nat),(e.kO wr).get t=if wr t=true then none else e.get t
 | [],wr,t=>by simp[Env.kO,Env.get]
 | (k,v)::r,wr,t=>by
  simp only[Env.kO];cases hk:wr k with
  | true=>
   simp only[cond_true];rw[Gr r wr t,Env.lu];by_cases h:k=t;subst h;simp[hk];simp[h]
  | false=>
   simp only[cond_false];rw[Env.lu,Env.lu,Gr r wr t];by_cases h:k=t;subst h;simp[hk];simp[h]
def HX:∀ {live:Live} {e:Env} {s:td live},m8 live e=some s->∀t v,(qp live s).get t=some v->e.get t=some v
 | [],_,_,_,t,v,h=>by simp[qp,Env.get] at h
 | [(k,y)],e,s,hp,t,v,h=>by simp only[m8] at hp;split at hp;rename_i u hu;simp only[qp] at h;rw[Env.lu] at h;by_cases hk:k=t;subst hk;simp only[if_true,Option.some.injEq] at h;rw[<- h,hu,iY.ng hp];simp[hk,Env.get] at h;cases hp
 | (k,y)::p::r,e,s,hp,t,v,h=>by simp only[m8] at hp;split at hp;rename_i u hu;split at hp;rename_i x hx;split at hp;rename_i z hz;cases hp;simp only[qp] at h;rw[Env.lu] at h;by_cases hk:k=t;subst hk;simp only[if_true,Option.some.injEq] at h;rw[<- h,hu,iY.ng hx];simp only[hk,if_false] at h;exact HX (live:=p::r) hz t v h;cases hp;cases hp;cases hp
def Hh{live:Live}{e0 e':Env}{a0 a':Act}{wr:Nat->Bool}{s:td live}(h0:Rel n ds e0 a0)(h':Rel n ds e' a')(hk:iq wr a0 a')(hp:m8 live e'=some s): Rel n ds (qp live s++e0.kO wr) a':=by refine⟨h'.size,h'.defers,λt v hv=>?_⟩;rw[Hr] at hv;split at hv;rename_i u hu;cases hv;exact h'.get t v (HX hp t v hu);rw[Gr] at hv;by_cases hw:wr t=true;simp[hw] at hv;rw[iN hw] at hv;rw[hk t (oQ hw)];exact h0.get t v hv
def p6:∀(c:PC) (Q:nK) (e:Env) (a:Act) (w:Kj) (Q':Exit->Act->WP),c.fits P n=true->c.pt (mS P) P Q e w->Rel n ds e a-> (∀x e' a' w',Q x e' w'->Rel n ds e' a'->iq c.wr a a'->Q' x.to a' w')->c.erase.wpIn (Wd r) m P Q' a w
 | .skip,Q,e,a,w,Q',_,h,hr,hQ=>wpIn_skip (hQ .normal e a w h hr (iq.refl _ _))
 | .region id ops,Q,e,a,w,Q',hf,h,hr,hQ=>by simp only[PC.fits,yB] at hf;exact wpIn_region_list<|GK (wr:=sG ops) ops e a w h hr hf.1 (λo ho d hd=>qq7 ho hd) (iq.refl _ _) (λe' a' w' hk hr' hkeep=>hQ .normal e' a' w' hk hr' hkeep) hf.2
 | .draw id ops orders,Q,e,a,w,Q',hf,h,hr,hQ=>by simp only[PC.fits,yB] at hf;exact qv5 (wr:=sG ops) hf.1.2 hf.1.1.2 hf.2 hf.1.1.1 (λo ho d hd=>qq7 ho hd) h hr (λe' a' w' hk hr' hkeep=>hQ .normal e' a' w' hk hr' hkeep)
 | .seq x y,Q,e,a,w,Q',hf,h,hr,hQ=>by
  simp only[PC.fits,yB] at hf;refine wpIn_seq (p6 x _ e a w _ hf.1 h hr ?_);intro z e1 a1 w1 hz hr1 hk1;cases z with
  | normal=>
   refine p6 y Q e1 a1 w1 Q' hf.2 hz hr1 λz e2 a2 w2 hz2 hr2 hk2=>hQ z e2 a2 w2 hz2 hr2 ?_;exact hk1.trans hk2 (λt ht=>by simpa[PC.wr] using ht)
  | exit id=>exact hQ (.exit id) e1 a1 w1 hz hr1 (hk1.mono (λt ht=>by simp[PC.wr] at ht;exact ht.1))
  | ret=>exact hQ .ret e1 a1 w1 hz hr1 (hk1.mono (λt ht=>by simp[PC.wr] at ht;exact ht.1))
 | .join live x y,Q,e,a,w,Q',hf,h,hr,hQ=>by
  simp only[PC.fits,yB] at hf;obtain⟨Mid,hX,hY⟩:=h;refine wpIn_seq (p6 x _ e a w _ hf.1 hX hr ?_);intro z e1 a1 w1 hz hr1 hk1;cases z with
  | normal=>
   simp only[nK.j4] at hz;split at hz;rename_i s hs;refine p6 y Q _ a1 w1 Q' hf.2 (hY s w1 hz) (Hh hr hr1 hk1 hs) λz e2 a2 w2 hz2 hr2 hk2=>hQ z e2 a2 w2 hz2 hr2 ?_;exact hk1.trans hk2 (λt ht=>by simpa[PC.wr] using ht);exact hz.elim
  | exit id=>exact hQ (.exit id) e1 a1 w1 hz hr1 (hk1.mono (λt ht=>by simp[PC.wr] at ht;exact ht.1))
  | ret=>exact hQ .ret e1 a1 w1 hz hr1 (hk1.mono (λt ht=>by simp[PC.wr] at ht;exact ht.1))
 | .cond c x y,Q,e,a,w,Q',hf,h,hr,hQ=>by
  simp only[PC.fits,yB] at hf;simp only[PC.pt] at h;split at h;rename_i b hb;cases b with
  | true=>exact wpIn_cond_true (hr.ev hb) (p6 x Q e a w Q' hf.1 h hr (λz e1 a1 w1 hz hr1 hk1=>hQ z e1 a1 w1 hz hr1 (hk1.mono (λt ht=>by simp[PC.wr] at ht;exact ht.1))))
  | false=>exact wpIn_cond_false (hr.ev hb) (p6 y Q e a w Q' hf.2 h hr (λz e1 a1 w1 hz hr1 hk1=>hQ z e1 a1 w1 hz hr1 (hk1.mono (λt ht=>by simp[PC.wr] at ht;exact ht.2))))
  exact h.elim
 | .block id body,Q,e,a,w,Q',hf,h,hr,hQ=>by
  refine wpIn_block (p6 body _ e a w _ hf h hr ?_);intro z e1 a1 w1 hz hr1 hk1;cases z with
  | normal=>exact hQ .normal e1 a1 w1 hz hr1 hk1
  | exit j=>
   simp only at hz;simp only[iL.to,Exit.inBlock];cases hj:Nat.beq j id with
   | true=>
    rw[hj] at hz;rw[iP (yX hj)];exact hQ .normal e1 a1 w1 hz hr1 hk1
   | false=>
    rw[hj] at hz;rw[iN (λhq=>by subst hq;simp at hj)];exact hQ (.exit j) e1 a1 w1 hz hr1 hk1
  | ret=>exact hQ .ret e1 a1 w1 hz hr1 hk1
 | .loop live body,Q,e,a,w,Q',hf,h,hr,hQ=>by
  simp only[PC.pt] at h;split at h;rename_i s0 hs0;have key:=h (λs w1=>∀a1,Rel n ds (qp live s++e.kO λt=>body.wr t) a1->iq body.wr a a1->ma r m P body.erase Q' a1 w1) ?_;exact ma.loop (key a (Hh hr hr (iq.refl _ _) hs0) (iq.refl _ _));intro s w1 hB a1 hr1 hk1;refine ma.vR (p6 body _ _ a1 w1 _ hf hB hr1 ?_);intro z e2 a2 w2 hz hr2 hk2;have hk:iq body.wr a a2:=hk1.trans hk2 λt ht=>⟨ht,ht⟩;cases z with
  | normal=>
   simp only[nK.j4] at hz;split at hz;rename_i s' hs';exact hz a2 (Hh hr hr2 hk hs') hk;exact hz.elim
  | exit id=>exact hQ (.exit id) e2 a2 w2 hz hr2 hk
  | ret=>exact hQ .ret e2 a2 w2 hz hr2 hk
  exact h.elim
 | .exit id,Q,e,a,w,Q',_,h,hr,hQ=>wpIn_exit (hQ (.exit id) e a w h hr (iq.refl _ _))
 | .ret,Q,e,a,w,Q',_,h,hr,hQ=>wpIn_ret (hQ .ret e a w h hr (iq.refl _ _))
 | .kC ..,Q,e,a,w,Q',_,h,_,_=>h.elim
 | .other c,Q,e,a,w,Q',_,h,_,_=>h.elim
def uy:∀(c:Code) (as0:List vW),(jL c as0).1.erase=c
 | .skip,as0=>rfl
 | .region id ops draw,as0=>by
  cases draw with
  | false=>simp[jL,PC.erase]
  | true=>
   simp only[jL];split<;>simp[PC.erase]
 | .seq a b,as0=>by simp only[jL];split;simp only[PC.erase,uy a,uy b];simp only[PC.erase,uy a,uy b];simp only[PC.erase,uy a,uy b];rfl
 | .cond c a b,as0=>by simp only[jL,PC.erase,uy a,uy b]
 | .block id b,as0=>by simp only[jL,PC.erase,uy b]
 | .loop b,as0=>by simp only[jL];split;simp only[PC.erase,uy b];rfl
 | .rangeFunc f ps x y,as0=>by simp only[jL];split;simp only[PC.erase,uy x,uy y];rfl
 | .exit id,as0=>rfl
 | .scope b,as0=>rfl
 | .label l,as0=>rfl
 | .goto l,as0=>rfl
 | .ret,as0=>rfl
 | .refuse s,as0=>rfl
def qnv:∀ {ts:List iY} {vs:List Kk} {x:jx ts},lF.unVals ts vs=some x->jx.vals ts x=vs
 | [],[],_,_=>rfl
 | [],_::_,_,h=>by simp[lF.unVals] at h
 | [t],[v],x,h=>by simp only[lF.unVals] at h;simp only[jx.vals,iY.ng h]
 | [t],[],x,h=>by simp[lF.unVals] at h
 | [t],_::_::_,x,h=>by simp[lF.unVals] at h
 | t::u::ts,[],x,h=>by simp[lF.unVals] at h
 | t::u::ts,v::vs,x,h=>by simp only[lF.unVals] at h;split at h;rename_i y hy;split at h;rename_i z hz;cases h;simp only[jx.vals,iY.ng hy,qnv hz];cases h;cases h
def qpv{v:Kk}{x:jx ts}(h:lF ts v=some x)(hv:ts=[]->v=.tuple #[]):gG ts x=v:=by
 match ts,x,h with
 | [],x,h=>simp[gG,hv rfl]
 | [t],x,h=>exact iY.ng h
 | t::u::ts,x,h=>
  cases v<;>simp only[lF] at h<;>try (cases h;done)
  rename_i vs;simp only[gG,qnv h]
def mq (tmps:Array Kk):ResultVar->Sem Kk
 | .tmp t=>pure (tmps.getD t undef)
 | .cell a t=>do loadVar t (<- asAddr (tmps.getD a undef))
def Cc{R:List Kk->Prop}:∀(rvs:List ResultVar) (e:Env) (a:Act) (w:Kj) (K:List Kk->Prop),lW (mS P) P rvs e w K->Rel n ds e a-> ∃vs,(rvs.mapM (mq a.tmps)).run P w=.ok vs w/\vs.length=rvs.length/\K vs
 | [],e,a,w,K,h,hr=>⟨[],oM,rfl,h⟩
 | .tmp t::r,e,a,w,K,h,hr=>by simp only[lW] at h;split at h;rename_i v hv;obtain⟨vs,h1,h2,h3⟩:=Cc (R:=R) r e a w _ h hr;exact⟨v::vs,by simp[mapM_cons,mq,h1,<- hr.get t v hv],by simp[h2],h3⟩;exact h.elim
 | .cell ad t::r,e,a,w,K,h,hr=>by
  simp only[lW] at h;split at h;rename_i p hp;have hp':=hr.get _ _ hp;split at h;rename_i c hcell;cases hok:!pH P t with
  | true=>simp only[hok,cond_true] at h
  | false=>
   simp only[hok,cond_false] at h;obtain⟨hi1,hi2⟩:=vz hok;cases hag:fV P t with
   | true=>simp only[hag,cond_true] at h
   | false=>
    simp only[hag,cond_false] at h;obtain⟨y,hy,hk⟩:=h;obtain⟨vs,h1,h2,h3⟩:=Cc (R:=R) r e a w _ hk hr;exact⟨_::vs,by simp[mapM_cons,mq,hp',asAddr,loadVar,Ai hi2,hag,hy,h1],by simp[h2],h3⟩
  rename_i cs hcells;cases hg:fV P t&&Nat.beq (fG P t) cs.length with
  | false=>simp only[hg,cond_false] at h
  | true=>
   simp only[hg,cond_true] at h;simp only[yB] at hg;obtain⟨hag,hsz⟩:=hg;have hsz':=yX hsz;obtain⟨y,hy,hk⟩:=h;have hlen:(HL.mk cs y).length=cs.length:=HL.j3 cs y;have hsome:(P.info? t).isSome=true:=by
    cases hi:P.info? t with
    | none=>
     have:(P.underlying t).isSome=true:=Ak hag;simp[Program.underlying,hi] at this
    | some i=>rfl
   obtain⟨vs,h1,h2,h3⟩:=Cc (R:=R) r e a w _ hk hr;have hl:=Do (P:=P) (HL.mk cs y) 0 #[] w hy;rw[hlen,<- hsz'] at hl;exact⟨_::vs,by simp[mapM_cons,mq,hp',asAddr,loadVar,Ai (Ak hag),hag,tu hsome,loadCells,hl,h1],by simp[h2],h3⟩
  cases hag:fV P t with
  | false=>simp only[hag,cond_false] at h
  | true=>
   simp only[hag,cond_true] at h;obtain⟨y,hy,hk⟩:=h;have hsome:(P.info? t).isSome=true:=by
    cases hi:P.info? t with
    | none=>
     have:(P.underlying t).isSome=true:=Ak hag;simp[Program.underlying,hi] at this
    | some i=>rfl
   obtain⟨vs,h1,h2,h3⟩:=Cc (R:=R) r e a w _ hk hr;have hl:=Do (P:=P) y 0 #[] w hy.2;rw[hy.1] at hl;exact⟨_::vs,by simp[mapM_cons,mq,hp',asAddr,loadVar,Ai (Ak hag),hag,tu hsome,loadCells,hl,h1],by simp[h2],h3⟩
  exact h.elim
def qpg(fn:Func)(tmps:Array Kk):results fn tmps=(do let vs <- fn.results.mapM (mq tmps);Pure.pure (if h:vs.size=1 then vs[0] else .tuple vs)):=by unfold results;congr 1
def Hp:∀(args:List Kk) (i t:Nat) (v:Kk),(mR i args).get t=some v->∃j,t=i+j/\args[j]?=some v
 | [],i,t,v,h=>by simp[mR,Env.get] at h
 | u::r,i,t,v,h=>by simp only[mR] at h;rw[Env.lu] at h;by_cases hi:i=t;subst hi;simp at h;exact⟨0,oM,by simp[h]⟩;simp[hi] at h;obtain⟨j,hj,hv⟩:=Hp r (i+1) t v h;exact⟨j+1,oK,by simpa using hv⟩
def mark (m:Option Nat):List Deferred:=match m with|none=>[] | some D=>[{ target:=.collected D,args:=#[] }]
def GJ:∀ {ts:List Tmp} {vs:List Kk} {e:Env} {tm:Array Kk},(ts.all (Nat.blt · n))=true->Rel n [] e { tmps:=tm,defers:=[] }->ts.length=vs.length-> Rel n [] (rB e ts vs) { tmps:=(ts.zip vs).foldl (λt (x:Tmp×Kk)=>t.setIfInBounds x.1 x.2) tm,defers:=[] }
 | [],[],e,tm,_,h,_=>h
 | t::ts,v::vs,e,tm,hl,h,hlen=>by simp only[all_cons,yB] at hl;have hp:=h.put (dst:=some t) (λd hd=>by cases hd;exact zO hl.1) v;exact GJ (ts:=ts) (vs:=vs) hl.2 hp (oQ hlen)
def Iq{x:iL}:∀ {l:List iL} {k i:Nat},sH x l k=some i->∃j,i=k+j/\l[j]?=some x
 | [],k,i,h=>by cases h
 | y::r,k,i,h=>by
  simp only[sH] at h;cases hs:x.same y with
  | true=>
   rw[hs] at h;simp only[cond_true,Option.some.injEq] at h;refine⟨0,oK,?_⟩;cases x<;>cases y<;>simp only[iL.same,Bool.false_eq_true] at hs<;>try rfl
   simp[yX hs]
  | false=>
   rw[hs] at h;simp only[cond_false] at h;obtain⟨j,hj,hl⟩:=Iq h;exact⟨j+1,oK,by simpa using hl⟩
def iL.code:iL->Code
 | .normal=>.skip
 | .ret=>.ret
 | .exit id=>.exit id
def DC:∀(ts:List iY) (x:jx ts),(jx.vals ts x).length=ts.length
 | [],_=>rfl
 | [_],_=>rfl
 | _::u::ts,x=>by simp only[jx.vals,yJ,DC (u::ts) x.2]
def qyp{g:Operand}{ps:List Tmp}{pts:List iY}{x y:PC}{done:Nat->WP}{Qj:iL->Nat->WP}{v:Kk}(hg:e.ev g=some v)(hps:ps.length=pts.length)(hlt:(ps.all (Nat.blt · n))=true)(hfx:x.fits P n=true)(hfy:y.fits P n=true)(hr:Rel n [] e a)(h:kC P v pts (lr (mS P) P x y ps pts e) done (y.outs.map λz=>λD w'=>Qj z D w') w){Q':Exit->Act->WP}(hdone:∀D w',done D w'->Q' .normal { a with defers:=mark (some D) } w')(hjump:∀z D w',Qj z D w'->z≠.normal->Q' z.to { a with defers:=mark (some D) } w')(hno:∀z∈y.outs,z≠.normal): (Code.rangeFunc g ps.toArray x.erase y.erase).wpIn (Wd none) m P Q' a w:=by
 obtain⟨f,lb,rfl,hb,h⟩:=h;refine wpIn_rangeFunc ?_;intro fn _;have hro:(Wd none).round=none:=rfl;rw[hro];obtain⟨rec,hrec⟩:∃rec:LoopState->Option Code->Loop,rec=λst pe=>{ state:=st,pending:=pe,fn,tmps:=a.tmps,params:=ps.toArray,assign:=x.erase,body:=y.erase,defers:=w.heap.size }:=⟨_,rfl⟩;let l:=w.heap.size+1;let J:Nat->Obj:=λi=>.loop (rec .done ((y.outs[i]?).map iL.code));let E:Nat->Obj:=λi=>.loop (rec .exhausted ((y.outs[i]?).map iL.code));have hy:pM P pts (lr (mS P) P x y ps pts e) l (.loop (rec .ready none)) (.loop (rec .busy none)) J:=by
  intro u W K hl hbody;unfold lr at hbody;refine .inr ⟨l,fn,(ps.zip (jx.vals pts u)).foldl (λt (x:Tmp×Kk)=>t.setIfInBounds x.1 x.2) a.tmps,x.erase,y.erase,?_,?_⟩
  ·have hyl:=run_yield (P:=P) (args:=(jx.vals pts u).toArray) hl (by rw[hrec];simp[DC,hps]);rw[hrec] at hyl;simp only[Deferred.ofValue,pure_bind];simp only[invoke];have hz:∀(ps:List Tmp) (vs:List Kk) (t0:Array Kk),(ps.toArray.zip vs.toArray).foldl (λ(tmps:Array Kk) (x:Tmp×Kk)=>match x with|(t,a)=>tmps.setIfInBounds t a) t0=(ps.zip vs).foldl (λt (x:Tmp×Kk)=>t.setIfInBounds x.1 x.2) t0:=by intro ps vs t0;rw[<- Array.foldl_toList];simp
   rw[hz] at hyl;first
    | exact hyl
    | simpa using hyl
  refine roundIn_of_wpIn (F:=Wd none) (n:=0) trivial ?_;have hrel:Rel n [] (rB e ps (jx.vals pts u)) { tmps:=(ps.zip (jx.vals pts u)).foldl (λt (x:Tmp×Kk)=>t.setIfInBounds x.1 x.2) a.tmps,defers:=[] }:=
   GJ hlt ⟨hr.size,rfl,hr.get⟩ (by rw[DC,hps])
  refine p6 (r:=some l) (m:=0) x _ _ _ W _ hfx hbody hrel ?_;intro z e' a' w' hz hr' _;cases z with
  | exit id=>exact hz.elim
  | ret=>exact hz.elim
  | normal=>
   obtain⟨hl1,hz⟩:=hz;refine⟨_,run_beginRound hl1 (by rw[hrec]),?_⟩;have hbz:({ rec .ready none with state:=.busy }:Loop)=rec .busy none:=(by rw[hrec]);rw[hbz];refine p6 (r:=some l) (m:=0) y _ _ _ _ _ hfy hz hr' ?_;intro z e'' a'' w3 hz hr'' _;have fin:∀(jump:Option Code),w3.heap[l]?=some (.loop (rec .busy none))->(Instr.endRound l jump).run P w3=.ok (.bool jump.isNone) (w3.putObj l (.loop (rec (if jump.isNone then .ready else .done) jump))):=by
    intro jump hl3;have:=run_endRound (P:=P) jump hl3;rw[hrec] at this⊢;exact this
   have out:∀z:iL,(match sH z y.outs 0 with|some i=>w3.heap[l]?=some (.loop (rec .busy none))/\K false (w3.putObj l (J i))|none=>False)->
     ∃v w',(Instr.endRound l (some z.code)).run P w3=.ok v w'/\∃x:jx [iY.one Cell.bool],Ending.returned v=.returned (gG dr x)/\K x w':=by
    intro z hz;split at hz;rename_i i hi;obtain⟨j,hj,hjl⟩:=Iq hi;have:i=j:=oK;subst this;refine⟨_,_,fin (some z.code) hz.1,false,rfl,?_⟩;have hJ:J i=.loop (rec (if (some z.code).isNone then .ready else .done) (some z.code)):=by show Obj.loop (rec .done ((y.outs[i]?).map iL.code))=_;rw[hjl];rfl
    rw[<- hJ];exact hz.2;exact hz.elim
   cases z with
   | normal=>exact⟨_,_,fin none hz.1,true,rfl,hz.2⟩
   | ret=>exact out .ret hz
   | exit id=>exact out (.exit id) hz
 have hcall:=h (.loop (rec .ready none)) (.loop (rec .busy none)) J E (.loop (rec .exhausted none)) hy;refine⟨l,[{ target:=.collected w.heap.size,args:=#[] }],(w.alloc (.deferred (some []))).alloc (.loop (rec .ready none)),{ target:=.fn (.func f) lb.toArray,args:=#[.func (.yield l) #[] #[]] },(w.alloc (.deferred (some []))).alloc (.loop (rec .ready none)),f,
  (.func (.yield l) #[] #[]::lb).toArray,(w.alloc (.deferred (some []))).alloc (.loop (rec .ready none)),?_,?_,λ_ _=>trivial,?_,EX none,?_⟩
 rw[hrec];exact run_enterLoop_outer _ _ _ _ _;simp only[resolve,hr.ev hg];simp[Deferred.ofValue];rfl;simp[invoke,Bm hb];refine GS (Calls.mono hcall ?_);rintro e2 W2 ⟨u,rfl,hh⟩;rcases hh with ⟨hl,hd⟩|⟨i,k,hk,hl,hd⟩;refine⟨none,_,?_,by rw[hr.defers];exact hdone _ _ hd⟩;have:=run_endLoop (P:=P) hl (by rw[hrec];simp);rw[hrec] at this⊢;exact this;have hk':=hk;rw[zQ] at hk;cases hz:y.outs[i]? with
 | none=>rw[hz] at hk;cases hk
 | some z=>
  rw[hz] at hk;cases hk;have hJ:J i=.loop (rec .done (some z.code)):=by show Obj.loop (rec .done ((y.outs[i]?).map iL.code))=_;rw[hz];rfl
  have hE:E i=.loop (rec .exhausted (some z.code)):=(by show Obj.loop (rec .exhausted ((y.outs[i]?).map iL.code))=_;rw[hz];rfl);rw[hJ] at hl;rw[hE] at hd;have hzn:=hno z (yG hz);have hq:=hjump z _ _ hd hzn;refine⟨some z.code,W2.putObj (w.heap.size+1) (.loop (rec .exhausted (some z.code))),?_,?_⟩;have:=run_endLoop (P:=P) hl (by rw[hrec];simp);rw[hrec] at this⊢;exact this;rw[hr.defers];cases z with
  | normal=>exact absurd rfl hzn
  | ret=>exact wpIn_ret hq
  | exit id=>exact wpIn_exit hq
def PC.pR (c:PC):Bool:=c.outs.all λz=>match z with | .normal=>false|_=>true
def PC.qG:PC->Bool
 | .seq a b=>a.qG&&b.qG
 | .block _ b=>b.qG
 | .kC _ _ _ _ y=>y.pR
 | _=>true
def EJ:∀(c:PC) (Q:Option Nat->nK) (k:Option Nat) (e:Env) (a:Act) (w:Kj) (Q':Exit->Act->WP),c.fits P n=true->c.qG=true->c.CF (mS P) P Q k e w->Rel n (mark k) e a-> (∀k' x e' a' w',Q k' x e' w'->Rel n (mark k') e' a'->Q' x.to a' w')->c.erase.wpIn (Wd none) m P Q' a w
 | .seq x y,Q,k,e,a,w,Q',hf,hs,h,hr,hQ=>by
  simp only[PC.fits,yB] at hf;simp only[PC.qG,yB] at hs;refine wpIn_seq (EJ x _ k e a w _ hf.1 hs.1 h hr ?_);intro k' z e1 a1 w1 hz hr1;cases z with
  | normal=>exact EJ y Q k' e1 a1 w1 Q' hf.2 hs.2 hz hr1 hQ
  | exit id=>exact hQ k' (.exit id) e1 a1 w1 hz hr1
  | ret=>exact hQ k' .ret e1 a1 w1 hz hr1
 | .block id body,Q,k,e,a,w,Q',hf,hs,h,hr,hQ=>by
  refine wpIn_block (EJ body _ k e a w _ hf hs h hr ?_);intro k' z e1 a1 w1 hz hr1;cases z with
  | normal=>exact hQ k' .normal e1 a1 w1 hz hr1
  | exit j=>
   simp only at hz;simp only[iL.to,Exit.inBlock];cases hj:Nat.beq j id with
   | true=>
    rw[hj] at hz;rw[iP (yX hj)];exact hQ k' .normal e1 a1 w1 hz hr1
   | false=>
    rw[hj] at hz;rw[iN (λhq=>by subst hq;simp at hj)];exact hQ k' (.exit j) e1 a1 w1 hz hr1
  | ret=>exact hQ k' .ret e1 a1 w1 hz hr1
 | .kC g ps pts x y,Q,k,e,a,w,Q',hf,hs,h,hr,hQ=>by
  simp only[PC.fits,yB] at hf;simp only[PC.CF] at h;cases k with
  | some D=>exact h.elim
  | none=>
   simp only at h;split at h;exact h.elim;rename_i v hg;have h':kC P v pts (lr (mS P) P x y ps pts e) (λD w'=>Q (some D) .normal e w') (y.outs.map λz=>λD w'=>Q (some D) z e w') w:=h;refine qyp (done:=λD w'=>Q (some D) .normal e w') (Qj:=λz D w'=>Q (some D) z e w') hg (yX hf.1.1.1) hf.1.1.2 hf.1.2 hf.2 hr h' ?_ ?_ ?_;intro D w' hq;exact hQ (some D) .normal e _ w' hq ⟨hr.size,rfl,hr.get⟩;intro z D w' hq _;exact hQ (some D) z e _ w' hq ⟨hr.size,rfl,hr.get⟩;intro z hz hzn;subst hzn;simp only[PC.qG,PC.pR,JW] at hs;have:=hs _ hz
   cases this
 | .skip,Q,k,e,a,w,Q',hf,_,h,hr,hQ=>p6 .skip (Q k) e a w Q' hf h hr (λz e' a' w' hx hr' _=>hQ k z e' a' w' hx hr')
 | .region id ops,Q,k,e,a,w,Q',hf,_,h,hr,hQ=>p6 (.region id ops) (Q k) e a w Q' hf h hr (λz e' a' w' hx hr' _=>hQ k z e' a' w' hx hr')
 | .draw id ops os,Q,k,e,a,w,Q',hf,_,h,hr,hQ=>p6 (.draw id ops os) (Q k) e a w Q' hf h hr (λz e' a' w' hx hr' _=>hQ k z e' a' w' hx hr')
 | .join l x y,Q,k,e,a,w,Q',hf,_,h,hr,hQ=>p6 (.join l x y) (Q k) e a w Q' hf h hr (λz e' a' w' hx hr' _=>hQ k z e' a' w' hx hr')
 | .cond c x y,Q,k,e,a,w,Q',hf,_,h,hr,hQ=>p6 (.cond c x y) (Q k) e a w Q' hf h hr (λz e' a' w' hx hr' _=>hQ k z e' a' w' hx hr')
 | .loop l x,Q,k,e,a,w,Q',hf,_,h,hr,hQ=>p6 (.loop l x) (Q k) e a w Q' hf h hr (λz e' a' w' hx hr' _=>hQ k z e' a' w' hx hr')
 | .exit id,Q,k,e,a,w,Q',hf,_,h,hr,hQ=>p6 (.exit id) (Q k) e a w Q' hf h hr (λz e' a' w' hx hr' _=>hQ k z e' a' w' hx hr')
 | .ret,Q,k,e,a,w,Q',hf,_,h,hr,hQ=>p6 .ret (Q k) e a w Q' hf h hr (λz e' a' w' hx hr' _=>hQ k z e' a' w' hx hr')
 | .other c,Q,k,e,a,w,Q',hf,_,h,hr,hQ=>h.elim
def GM{K:jx ts->WP}{e':Env}{a':Act}(hts:(!ts.isEmpty||fn.results.isEmpty)=true)(hr':Rel n ds e' a')(hres:lW (mS P) P fn.results.toList e' w' λvs=>match lF ts (oneOf vs) with|some x=>K x w'|none=>False): ∃v,(results fn a'.tmps).run P w'=.ok v w'/\∃x:jx ts,Ending.returned v=.returned (gG ts x)/\K x w':=by
 obtain⟨vs,h1,h2,h3⟩:=Cc (R:=λ_=>True) fn.results.toList e' a' w' _ hres hr';split at h3;rename_i y hy;refine⟨oneOf vs,?_,y,?_,h3⟩;rw[qpg];have hmm:(fn.results.mapM (mq a'.tmps)).run P w'=.ok vs.toArray w':=by rw[Array.mapM_eq_mapM_toList];simp[h1]
 simp only[JR,hmm,JS];match vs with
 | []=>simp[oneOf]
 | [v]=>simp[oneOf]
 | v::u::vs=>simp[oneOf]
 rw[qpv hy];intro h0;subst h0;simp at hts;have:vs=[]:=by have:vs.length=0:=(by rw[h2];simp[hts]);exact JV this
 subst this;rfl;exact h3.elim
def qtp(hlen:args.length<=n):Rel n [] (mR 0 args) { tmps:=args.toArray++Array.replicate (n-args.toArray.size) undef,defers:=[] }:=by
 refine⟨by simp;omega,rfl,λt v hv=>?_⟩;obtain⟨j,hj,hv'⟩:=Hp args 0 t v hv;have hjl:j<args.length:=by rcases Nat.lt_or_ge j args.length with h|h;exact h;simp[yT h] at hv'
 have:t=j:=oK;subst this;rw[zA hjl] at hv';simp[Array.getElem?_append,hjl];exact yP hv'
def qpI{w:Kj}{K:jx ts->WP}(hf:P.funcs[f]?=some fn)(hfit:(match fn.body with|some c=>(jL c an).1.fits P fn.ntmps&&(jL c an).1.qG&&Nat.ble args.length fn.ntmps&&(!ts.isEmpty||fn.results.isEmpty)|none=>false)=true)(h:ws (mS P) P fn an ts args K w):call P f args ts w K:=by
 unfold ws at h;split at h;rename_i c hb;simp only[hb,yB] at hfit;obtain⟨⟨⟨hfit,hfs⟩,hlen⟩,hts⟩:=hfit;have hlen':args.length<=fn.ntmps:=zO hlen;unfold call;refine callsIn_wide.1 (callsIn_of_wp_marks (F:=Wd none) (n:=0) hf hb trivial ?_);have hsp:=EJ (m:=0) (n:=fn.ntmps) (jL c an).1 _ none _ _ w (bodyPostM (Wd none) 0 P fn λe w'=>∃x:jx ts,e=.returned (gG ts x)/\K x w') hfit hfs h (qtp hlen') ?_;rw[uy] at hsp;exact hsp;intro k x e' a' w' hx hr';have fin:(Ae (mS P) k w' λw2=>lW (mS P) P fn.results.toList e' w2 λvs=>match lF ts (oneOf vs) with|some x=>K x w2|none=>False)->
   LeavesInM (Wd none) 0 P fn a'.tmps (λe w'=>∃x:jx ts,e=.returned (gG ts x)/\K x w') a'.defers .returning w':=by
  intro hu;rw[hr'.defers];cases k with
  | none=>
   obtain⟨v,h1,h2⟩:=GM hts hr' hu;exact⟨v,h1,h2⟩
  | some D=>
   obtain⟨hD,hu⟩:=hu;obtain⟨v,h1,h2⟩:=GM hts hr' hu;exact⟨oM,.inl ⟨D,_,rfl,run_takeDeferred hD,v,h1,h2⟩⟩
 cases x with
 | normal=>exact fin hx
 | ret=>exact fin hx
 | exit id=>exact hx.elim
 exact h.elim
def qrD{w:Kj}{K:jx ts->WP}(hf:P.funcs[f]?=some fn)(hfit:(match fn.body with|some c=>(jL c an).1.fits P fn.ntmps&&Nat.ble args.length fn.ntmps&&(!ts.isEmpty||fn.results.isEmpty)|none=>false)=true)(h:AF (mS P) P fn an ts args K w):call P f args ts w K:=by
 unfold AF at h;split at h;rename_i c hb;simp only[hb,yB] at hfit;obtain⟨⟨hfit,hlen⟩,hts⟩:=hfit;have hlen':args.length<=fn.ntmps:=zO hlen;unfold call;refine callsIn_wide.1 (callsIn_of_wp (F:=Wd none) (n:=0) hf hb trivial ?_);have hrel:Rel fn.ntmps [] (mR 0 args) { tmps:=args.toArray++Array.replicate (fn.ntmps-args.toArray.size) undef,defers:=[] }:=by
  refine⟨by simp;omega,rfl,λt v hv=>?_⟩;obtain⟨j,hj,hv'⟩:=Hp args 0 t v hv;have hjl:j<args.length:=by rcases Nat.lt_or_ge j args.length with h|h;exact h;simp[yT h] at hv'
  have:t=j:=oK;subst this;rw[zA hjl] at hv';simp[Array.getElem?_append,hjl];exact yP hv'
 have hs:=p6 (r:=none) (m:=0) (n:=fn.ntmps) (jL c an).1 _ _ _ w (bodyPost P fn λe w'=>∃x:jx ts,e=.returned (gG ts x)/\K x w') hfit h hrel ?_;rw[uy] at hs;exact hs;intro x e' a' w' hx hr' _;have fin:∀(hres:lW (mS P) P fn.results.toList e' w' λvs=>match lF ts (oneOf vs) with|some x=>K x w'|none=>False),
   a'.defers=[]/\∃v,(results fn a'.tmps).run P w'=.ok v w'/\∃x:jx ts,Ending.returned v=.returned (gG ts x)/\K x w':=by
  intro hres;obtain⟨vs,h1,h2,h3⟩:=Cc (R:=λ_=>True) fn.results.toList e' a' w' _ hres hr';split at h3;rename_i y hy;refine⟨hr'.defers,oneOf vs,?_,y,?_,h3⟩;rw[qpg];have hmm:(fn.results.mapM (mq a'.tmps)).run P w'=.ok vs.toArray w':=by rw[Array.mapM_eq_mapM_toList];simp[h1]
  simp only[JR,hmm,JS];match vs with
  | []=>simp[oneOf]
  | [v]=>simp[oneOf]
  | v::u::vs=>simp[oneOf]
  rw[qpv hy];intro h0;subst h0;simp at hts;have:vs=[]:=by have:vs.length=0:=(by rw[h2];simp[hts]);exact JV this
  subst this;rfl;exact h3.elim
 cases x with
 | normal=>exact fin hx
 | ret=>exact fin hx
 | exit id=>exact hx.elim
 exact h.elim
def eS{w:Kj}{K:jx ts->WP}{F:Prop}(hf:P.funcs[f]?=some fn)(hF:F)(hfit:(match fn.body with|some c=>(jL c an).1.fits P fn.ntmps&&Nat.ble args.length fn.ntmps&&(!ts.isEmpty||fn.results.isEmpty)|none=>false)=true:=by kernel_rfl)(e:AF (mS P) P fn an ts args K w=F:=by kernel_rfl):call P f args ts w K:=qrD hf hfit (e.mpr hF)
def JL{w:Kj}{K:jx ts->WP}{F:Prop}(an:List vW)(hf:P.funcs[f]?=some fn)(hF:F)(hfit:(match fn.body with|some c=>(jL c an).1.fits P fn.ntmps&&Nat.ble args.length fn.ntmps&&(!ts.isEmpty||fn.results.isEmpty)|none=>false)=true:=by kernel_rfl)(e:AF (mS P) P fn an ts args K w=F:=by kernel_rfl):call P f args ts w K:=eS hf hF hfit e
def Ho{w:Kj}{K:jx ts->WP}{F:Prop}(hf:P.funcs[f]?=some fn)(hF:F)(hfit:(match fn.body with|some c=>(jL c an).1.fits P fn.ntmps&&(jL c an).1.qG&&Nat.ble args.length fn.ntmps&&(!ts.isEmpty||fn.results.isEmpty)|none=>false)=true:=by kernel_rfl)(e:ws (mS P) P fn an ts args K w=F:=by kernel_rfl):call P f args ts w K:=qpI hf hfit (e.mpr hF)
end
section
def th{S:Type}{X:(S->WP)->Prop}{Y:S->WP}(s:S)(w:Kj)(hX:∀M:S->WP,M s w->X M)(hY:Y s w):join S X Y:=
 ⟨λs' w'=>s'=s/\w'=w,hX _ ⟨rfl,rfl⟩,by rintro _ _ ⟨rfl,rfl⟩;exact hY⟩
def je{S:Type}{X:(S->WP)->Prop}{Y:S->WP}(Mid:S->WP)(hX:X Mid)(hY:∀s w,Mid s w->Y s w):join S X Y:=⟨Mid,hX,hY⟩
@[simp] theorem qCo{S:Type}{s:S}{w:Kj}{Y:S->WP}:join S (λX=>X s w) Y↔Y s w:=
 ⟨λ⟨_,h1,h2⟩=>h2 _ _ h1,λh=>th s w (λ_ h=>h) h⟩
def kx{S:Type}{B:(S->WP)->S->WP}{s:S}{w:Kj}(I:S->WP)(m:S->Kj->Nat)(h0:I s w)(step:∀s w,I s w->∀X:S->WP,(∀s' w',I s' w'->m s' w'<m s w->X s' w')->B X s w):loop S B s w:=by
 intro J hJ;have key:∀k s w,m s w=k->I s w->J s w:=by
  intro k;induction k using Nat.strongRecOn with
  | _ k ih=>
   intro s w hk hI;exact hJ s w (step s w hI J λs' w' hI' hlt=>ih (m s' w') (hk▸hlt) s' w' rfl hI')
 exact key _ s w rfl h0
def eV{b:Bool}{A B:Prop}(h1:b=true->A)(h2:b=false->B):cond b A B:=by
 cases b with
 | true=>exact h1 rfl
 | false=>exact h2 rfl
def cD{p:Prop}[Decidable p]{X Y:Prop}(h:p->X)(g:¬p->Y):cond (decide p) X Y:=eV (λe=>h (zC e)) (λe=>g (zB e))
def mE{p K:Prop}(h:p)(k:K):ib p K:=⟨h,k⟩
def gX{a:Addr}{K:Addr->Prop}(h:K a):nn (some a) K:=h
def qm{c:Cell}{a:Addr}{w:Kj}{K:c.El->Prop}(x:c.El)(h:w.cell? a=some (c.mk x))(k:K x):ld c a w K:=⟨x,h,k⟩
def EP{o:Obj}{w:Kj}{K:Nat->WP}(k:K w.heap.size (w.alloc o)):new o w K:=k
structure rJ (w w':Kj):Prop where
 heap:w'.heap=w.heap
 os:w'.os=w.os
 tape:w'.tape=w.tape
 output:w'.output=w.output
def rJ.refl(w:Kj):rJ w w:=⟨rfl,rfl,rfl,rfl⟩
def rJ.drew{w w':Kj}(h:rJ w w'):rJ w w'.drew:=⟨h.heap,h.os,h.tape,h.output⟩
structure Fr (S:Kr) (w w':Kj):Prop where
 os:w'.os=w.os
 tape:w'.tape=w.tape
 output:w'.output=w.output
 size:w.heap.size<=w'.heap.size
 block:∀ i,i<w.heap.size->i∉S->w'.heap[i]?=w.heap[i]?
def Fr.refl(S:Kr)(w:Kj):Fr S w w:=⟨rfl,rfl,rfl,zM _,λ_ _ _=>rfl⟩
def Fr.of_same{w:Kj}(h:rJ w w'):Fr S w w':=⟨h.os,h.tape,h.output,by rw[h.heap];exact zM _,λ_ _ _=>by rw[h.heap]⟩
def Fr.trans{S:Kr}{a b c:Kj}(h:Fr S a b)(k:Fr S b c):Fr S a c:=
 ⟨k.os.trans h.os,k.tape.trans h.tape,k.output.trans h.output,zL h.size k.size,λi hi hs=>(k.block i (yE hi h.size) hs).trans (h.block i hi hs)⟩
def Fr.mono{T:Kr}{a b:Kj}(h:Fr S a b)(hs:∀i,i∈S->i<a.heap.size->i∈T):Fr T a b:=
 ⟨h.os,h.tape,h.output,h.size,λi hi ht=>h.block i hi λhS=>ht (hs i hS hi)⟩
def Fr.j8{T:Kr}{a b c:Kj}(h:Fr S a b)(k:Fr T b c)(ht:∀i,i∈T->i∈S\/a.heap.size<=i):Fr S a c:=
 ⟨k.os.trans h.os,k.tape.trans h.tape,k.output.trans h.output,zL h.size k.size,λi hi hs=>(k.block i (yE hi h.size) λhT=>by rcases ht i hT with h'|h';exact hs h';omega).trans (h.block i hi hs)⟩
def Fr.drew{S:Kr}{a b:Kj}(h:Fr S a b):Fr S a b.drew:=⟨h.os,h.tape,h.output,h.size,h.block⟩
def Fr.alloc{S:Kr}{a b:Kj}(h:Fr S a b)(o:Obj):Fr S a (b.alloc o):=
 ⟨h.os,h.tape,h.output,by have:=h.size;simp;omega,λi hi hs=>by rw[<- h.block i hi hs];show (b.heap.push o)[i]?=_;rw[Array.getElem?_push,iN (by have:=h.size;omega)]⟩
def CR(w:Kj)(o:Obj)(i:Nat):(w.alloc o).heap[i]?=if i=w.heap.size then some o else w.heap[i]?:=by show (w.heap.push o)[i]?=_;rw[Array.getElem?_push]
def jy (w:Kj) (b:Nat) (o:Obj):Kj:={ w with heap:=w.heap.setIfInBounds b o }
def wK(w:Kj)(b:Nat)(o:Obj):(jy w b o).heap.size=w.heap.size:=by simp[jy]
def qX(w:Kj)(b:Nat)(o:Obj)(i:Nat)(h:b<w.heap.size):(jy w b o).heap[i]?=if i=b then some o else w.heap[i]?:=by show (w.heap.setIfInBounds b o)[i]?=_;rw[Kh];by_cases hi:b=i;subst hi;simp[h];rw[iN hi,iN λe=>hi e.symm]
def fq{w:Kj}{b:Nat}{o:Obj}(h:w.heap[b]?=some o):b<w.heap.size:=by rcases Nat.lt_or_ge b w.heap.size with hl|hl;exact hl;rw[Array.getElem?_eq_none hl] at h;cases h
def kA{w:Kj}{b off:Nat}(h:w.heap[b]?=some (.cells cs T fr)):w.cell? (dm b off)=cs[off]?:=by simp[World.cell?,h]
def qno{w:Kj}{b off:Nat}(h:w.heap[b]?=some (.cells cs T fr))(v:Kk): w.setCell (dm b off) v=jy w b (.cells (cs.setIfInBounds off v) T fr):=by have hb:=fq h;unfold World.setCell jy;congr 1;apply Array.ext_getElem?;intro i;rw[Array.getElem?_modify,Kh];by_cases hi:b=i;subst hi;rw[iP rfl,iP rfl,iP hb,h];rfl;simp[hi]
def qvp(w:Kj)(b:Nat)(o o':Obj):jy (jy w b o) b o'=jy w b o':=by unfold jy;congr 1;apply Array.ext_getElem?;intro i;simp only[Kh,Array.size_setIfInBounds];by_cases hi:b=i<;>simp[hi]
def Addr.j1(b o n:Nat):Addr.add (dm b o) n=⟨b,o+n,none⟩:=Go.Addr.add_lit b o n
def CS{w:Kj}{b:Nat}{T:Kl}:∀(vs:List Kk) (off k:Nat) (cs:Array Kk) (w:Kj) (K:WP),w.heap[b]?=some (.c cs T)->(vs.all Value.oneCell')=true->off+k+vs.length<=cs.size-> K (jy w b (.c (ef cs (off+k) vs) T))->GC (dm b off) k vs w K
 | [],off,k,cs,w,K,hb,_,_,hk=>by
  have:jy w b (.c (ef cs (off+k) []) T)=w:=by
   unfold jy ef;have:w.heap.setIfInBounds b (.c cs T)=w.heap:=by apply Array.ext_getElem?;intro i;rw[Kh];by_cases hi:b=i;subst hi;rw[iP rfl,iP (fq hb),hb];simp[hi]
   rw[this]
  rw[this] at hk;exact hk
 | v::vs,off,k,cs,w,K,hb,h1,hl,hk=>by
  simp only[all_cons,yB] at h1;simp only[yJ] at hl;have hlt:off+k<cs.size:=oK;refine⟨⟨h1.1,⟨cs[off+k],?_⟩,?_⟩,?_⟩;rw[Addr.j1,kA hb];simp[hlt];rw[Addr.j1];simp[World.frozen?,hb];rw[Addr.j1,qno hb];have hb':(jy w b (.c (cs.setIfInBounds (off+k) v) T)).heap[b]?=some (.c (cs.setIfInBounds (off+k) v) T):=by rw[qX _ _ _ _ (fq hb),iP rfl]
  refine CS (w:=w) vs off (k+1) _ _ K hb' h1.2 oP ?_;rw[qvp];exact hk
def vw{w:Kj}{b:Nat}{T:Kl}{fr:KG}{cs:Array Kk}(hb:w.heap[b]?=some (.cells cs T fr)):∀(vs:List Kk) (off k:Nat),(cs.toList.drop (off+k)).take vs.length=vs->kr w (dm b off) k vs
 | [],_,_,_=>trivial
 | [v],off,k,h=>by
  show w.cell? _=_;rw[Addr.j1,kA hb];have:(cs.toList.drop (off+k))[0]?=some v:=by
   have:=Kg (·[0]?) h;simpa using this
  simpa using this
 | v::u::vs,off,k,h=>by
  have hv:(cs.toList.drop (off+k))[0]?=some v:=by
   have:=Kg (·[0]?) h;simpa using this
  refine⟨?_,vw hb (u::vs) off (k+1) ?_⟩;rw[Addr.j1,kA hb];simpa using hv;have:=Kg (List.drop 1) h;simp only[drop_succ_cons,xH,yJ] at this;rw[drop_take,xF] at this;exact this
structure ed (S:Kr) (w0 w:Kj) (L:Kz):Prop where
 jz:∀ p∈L,w.heap[p.1]?=some p.2
 nodup:(L.map (·.1)).Nodup
 fr:Fr S w0 w
 own:∀ p∈L,p.1∈S\/w0.heap.size<=p.1
variable {S:Kr} {w0 w:Kj} {L:Kz}
def ed.start(S:Kr)(w:Kj):ed S w w []:=⟨oM,oM,.refl _ _,oM⟩
def ed.at(h:ed S w0 w L){i:Nat}{p:Nat×Obj}(hi:L[i]?=some p):w.heap[p.1]?=some p.2:=h.jz p (yG hi)
def ed.drew(h:ed S w0 w L):ed S w0 w.drew L:=⟨h.jz,h.nodup,h.fr.drew,h.own⟩
def ed.j0{T:Kr}(h:ed S w0 w L)(k:Fr T w w')(ht:∀i∈T,i∈S\/w0.heap.size<=i)(hd:∀p∈L,p.1∉T):ed S w0 w' L:=
 ⟨λp hp=>by rw[k.block p.1 (fq (h.jz p hp)) (hd p hp)];exact h.jz p hp,h.nodup,h.fr.j8 k ht,h.own⟩
def ed.q8(h:ed S w0 w L)(k:Fr [] w w'):ed S w0 w' L:=h.j0 k oM oM
def ed.alloc(h:ed S w0 w L)(o:Obj):ed S w0 (w.alloc o) ((w.heap.size,o)::L):=by
 refine⟨λp hp=>?_,?_,h.fr.alloc o,λp hp=>?_⟩;rcases zG.1 hp with rfl|hp;rw[CR,iP rfl];have:=fq (h.jz p hp);rw[CR,iN];exact h.jz p hp;simp only[xQ];refine nodup_cons.2 ⟨λhm=>?_,h.nodup⟩;obtain⟨p,hp,he⟩:=mem_map.1 hm;have:=fq (h.jz p hp);omega;rcases zG.1 hp with rfl|hp;exact .inr h.fr.size;exact h.own p hp
def ed.new{o:Obj}{K:Nat->WP}(h:ed S w0 w L)(k:∀b w',b=w.heap.size->w'.heap.size=w.heap.size+1->ed S w0 w' ((b,o)::L)->K b w'):Pt.new o w K:=
 k _ _ rfl oM (h.alloc o)
def ed.ld{c:Cell}{b off:Nat}{cs:Array Kk}{T:Kl}{fr:KG}{K:c.El->Prop}(h:ed S w0 w L)(i:Nat)(hi:L[i]?=some (b,.cells cs T fr))(x:c.El)(hx:cs[off]?=some (c.mk x))(k:K x):Pt.ld c (dm b off) w K:=
 ⟨x,by rw[kA (h.at hi)];exact hx,k⟩
def Ko{c:Cell}{b off:Nat}{cs:Array Kk}{T:Kl}{fr:KG}{K:c.El->Prop}(h:ed S w0 w L)(i:Nat)(hi:L[i]?=some (b,.cells cs T fr))(x:c.El)(k:K x)(hx:cs[off]?=some (c.mk x):=by exact rfl):Pt.ld c (dm b off) w K:=ed.ld h i hi x hx k
def ed.dT{cl:List Cell}{b off:Nat}{cs:Array Kk}{T:Kl}{fr:KG}{K:HL cl->Prop}(h:ed S w0 w L)(i:Nat)(hi:L[i]?=some (b,.cells cs T fr))(x:HL cl)(hx:(cs.toList.drop off).take cl.length=HL.mk cl x)(k:K x):Pt.dT cl (dm b off) w K:=
 ⟨x,vw (h.at hi) _ off 0 (by rw[HL.j3];exact hx),k⟩
def Kq{cl:List Cell}{b off:Nat}{cs:Array Kk}{T:Kl}{fr:KG}{K:HL cl->Prop}(h:ed S w0 w L)(i:Nat)(hi:L[i]?=some (b,.cells cs T fr))(x:HL cl)(k:K x)(hx:(cs.toList.drop off).take cl.length=HL.mk cl x:=by exact rfl):Pt.dT cl (dm b off) w K:=ed.dT h i hi x hx k
def ed.jy{b:Nat}{o o':Obj}(h:ed S w0 w L)(i:Nat)(hi:L[i]?=some (b,o)):ed S w0 (Pt.jy w b o') (L.set i (b,o')):=by
 have hb:=h.at hi;have hlt:=fq hb;have hil:i<L.length:=by rcases Nat.lt_or_ge i L.length with hl|hl;exact hl;rw[yT hl] at hi;cases hi
 have hmap:(L.set i (b,o')).map (·.1)=L.map (·.1):=(by rw[map_set];apply ext_getElem?;intro j;rw[List.getElem?_set];by_cases hj:i=j;subst hj;rw[iP rfl,zQ,hi];simp[hil];simp[hj]);refine⟨λp hp=>?_,by rw[hmap];exact h.nodup,?_,λp hp=>?_⟩;obtain⟨j,hj,hpj⟩:=getElem_of_mem hp;have hpj':(L.set i (b,o'))[j]?=some p:=(by rw[zA hj,hpj]);rw[List.getElem?_set] at hpj';by_cases hij:i=j;subst hij;simp[hil] at hpj';subst hpj';rw[qX _ _ _ _ hlt,iP rfl];rw[iN hij] at hpj';have hne:p.1≠b:=by
  intro he;have h1:(L.map (·.1))[j]?=some b:=(by simp[hpj',he]);have h2:(L.map (·.1))[i]?=some b:=(by simp[hi]);have hj':j<(L.map (·.1)).length:=by rcases Nat.lt_or_ge j (L.map (·.1)).length with hl|hl;exact hl;rw[yT hl] at h1;cases h1
  have hi':i<(L.map (·.1)).length:=(oQ hil);rw[zA hj'] at h1;rw[zA hi'] at h2;have hne:=pairwise_iff_getElem.1 h.nodup;rcases Nat.lt_or_gt_of_ne hij with hl|hl;exact hne i j hi' hj' hl ((yP h2).trans (yP h1).symm);exact hne j i hj' hi' hl ((yP h1).trans (yP h2).symm)
 rw[qX _ _ _ _ hlt,iN hne];exact h.jz p (yG hpj');have hbo:=h.own (b,o) (yG hi);refine⟨h.fr.os,h.fr.tape,h.fr.output,by rw[wK];exact h.fr.size,λj hj hS=>?_⟩;rw[qX _ _ _ _ hlt,iN λe=>by subst e;rcases hbo with h1|h1;exact hS h1;omega];exact h.fr.block j hj hS;rcases mem_or_eq_of_mem_set hp with hp|rfl;exact h.own p hp;exact h.own (b,o) (yG hi)
def ed.st{b off:Nat}{cs:Array Kk}{T:Kl}{vs:List Kk}{K:WP}(h:ed S w0 w L)(i:Nat)(hi:L[i]?=some (b,.c cs T))(cs':Array Kk)(hcs:ef cs off vs=cs')(h1:(vs.all Value.oneCell')=true)(hl:Nat.ble (off+vs.length) cs.size=true)(k:∀w',ed S w0 w' (L.set i (b,.c cs' T))->w'.heap.size=w.heap.size->K w'):Pt.st (dm b off) vs w K:=
 CS (w:=w) vs off 0 cs w K (h.at hi) h1 (zO hl) (k _ (by rw[Nat.add_zero,hcs];exact h.jy i hi) (wK _ _ _))
def ed.np{b:Nat}{o:Obj}(h:ed S w0 w L)(hb:w0.heap[b]?=some o)(hS:b∉S):w.heap[b]?=some o:=by rw[h.fr.block b (fq hb) hS];exact hb
def jG{c:Cell}{b off:Nat}{K:c.El->Prop}(hb:w.heap[b]?=some (.cells cs T fr))(x:c.El)(hx:cs[off]?=some (c.mk x))(k:K x):Pt.ld c (dm b off) w K:=
 ⟨x,by rw[kA hb];exact hx,k⟩
def ed.sub{L':Kz}(h:ed S w0 w L)(hs:L'.Sublist L):ed S w0 w L':=
 ⟨λp hp=>h.jz p (hs.subset hp),(hs.map _).nodup h.nodup,h.fr,λp hp=>h.own p (hs.subset hp)⟩
def sJ{s:Sl}{i:Int}{size:Nat}{K:Addr->Prop}{b o:Nat}(hs:s.a=some (dm b o))(hi:0<=i/\i<(s.len:Int))(k:K ⟨b,o+i.toNat*size,none⟩):idx s i size K:=
 ⟨_,hs,hi,by rw[Addr.j1];exact k⟩
end
end
section
open Go
variable {K:Prop} {cs:Array Kk} {w:Kj}
def At{S:Type}{B:(S->WP)->S->WP}{s:S}(h:∀X:S->WP,(∀s w,loop S B s w->X s w)->B X s w):loop S B s w:=by intro J hJ;exact hJ s w (h J λs' w' hl=>hl J hJ)
def qqY{S:Type}{B:(S->WP)->S->WP}{s:S}(s':S)(hs:s=s')(h:∀X:S->WP,(∀s w,loop S B s w->X s w)->B X s' w):loop S B s w:=by subst hs;exact At h
def cond_true{b:Bool}{A B:Prop}(h:b=true)(k:A):cond b A B:=by rw[h];exact k
def JJ{b:Bool}{A B:Prop}(h:b=true)(k:A):cond b A B:=by rw[h];exact k
def cond_false{b:Bool}{A B:Prop}(h:b=false)(k:B):cond b A B:=by rw[h];exact k
def JK{b:Bool}{A B:Prop}(h:b=false)(k:B):cond b A B:=by rw[h];exact k
def qY{b o len cap:Nat}{i:Int}{size:Nat}{K:Addr->Prop}(h0:0<=i)(h1:i<(len:Int))(k:K ⟨b,o+i.toNat*size,none⟩):idx ⟨some (dm b o),len,cap⟩ i size K:=
 sJ rfl ⟨h0,h1⟩ k
def ja{H:WP}(h:H w)(k:K):held [H] w K:=⟨h,k⟩
def kH{H H':WP}(h:H w)(h':H' w)(k:K):held [H,H'] w K:=⟨⟨h,h'⟩,k⟩
def nA{H H' H'':WP}(h:H w)(h':H' w)(h'':H'' w)(k:K):held [H,H',H''] w K:=⟨⟨h,h',h''⟩,k⟩
section
variable {S:Kr} {w0 w:Kj} {L:Kz}
def ed.cell{b off:Nat}{cs:Array Kk}{T:Kl}{fr:KG}{v:Kk}(h:ed S w0 w L)(i:Nat)(hi:L[i]?=some (b,.cells cs T fr):=by exact rfl)(hx:cs[off]?=some v:=by exact rfl):w.cell? (dm b off)=some v:=by rw[kA (h.at hi)];exact hx
def ed.cells{b off:Nat}{cs:Array Kk}{T:Kl}{fr:KG}{vs:List Kk}(h:ed S w0 w L)(i:Nat)(hi:L[i]?=some (b,.cells cs T fr):=by exact rfl)(hx:(cs.toList.drop off).take vs.length=vs:=by exact rfl):kr w (dm b off) 0 vs:=
 vw (h.at hi) _ off 0 hx
end
def Cr (P:Km) (t:Kl) (cs:Array Kk) (off:Nat):Option Kk:=
 bif pH P t then bif fV P t then some (.agg (cs.extract off (off+fG P t))) else cs[off]? else none
def Gz{P:Km}{t:Kl}{off:Nat}{v:Kk}(h:Cr P t cs off=some v)(w:Kj):(part t cs off).run P w=.ok v w:=by
 unfold Cr at h;cases ho:pH P t with
 | false=>rw[ho] at h;cases h
 | true=>
  rw[ho] at h;rw[CT (by simp[ho])];cases ha:fV P t with
  | true=>rw[ha] at h;simp at h;simp[h]
  | false=>rw[ha] at h;simp at h;simp[h]
def sU (P:Km) (f:Kl->Kk->Kk->Option Bool) (xs ys:Array Kk):List Field->Option Bool
 | []=>some true
 | x::fs=>
  if x.name≠ "_" then
   match Cr P x.type xs x.offset,Cr P x.type ys x.offset with
   | some a,some b=>match f x.type a b,sU P f xs ys fs with
    | some r,some q=>some (bif r then q else false)
    | _,_=>none
   | _,_=>none
  else sU P f xs ys fs
def tX (P:Km) (f:Kl->Kk->Kk->Option Bool) (e:Kl) (n:Nat) (xs ys:Array Kk):Kr->Option Bool
 | []=>some true
 | i::is=>
  match Cr P e xs (i*n),Cr P e ys (i*n) with
  | some a,some b=>match f e a b,tX P f e n xs ys is with
   | some r,some q=>some (bif r then q else false)
   | _,_=>none
  | _,_=>none
def vT (P:Km):Nat->Kl->Kk->Kk->Option Bool
 | 0,_,_,_=>none
 | d+1,t,x,y=>
  match P.underlying t,x,y with
  | some .bool,.bool a,.bool b=>some (a==b)
  | some (.int _),.int k a,.int k' b=>bif k==k' then some (a==b) else none
  | some .string,.string a,.string b=>some (a.toList==b.toList)
  | some (.struct _),.agg xs,.agg ys=>bif P.stoodInHeld t then none else sU P (vT P d) xs ys (P.fieldsOf t).toList
  | some (.array n e),.agg xs,.agg ys=>bif pH P e then tX P (vT P d) e (P.cellsOf e) xs ys (List.range n) else none
  | _,_,_=>none
def GO{P:Km}{d:Nat}{f:Kl->Kk->Kk->Option Bool}(hf:∀t x y r,f t x y=some r->∀w,(Op.equalIn d t x y).run P w=.ok r w){xs ys:Array Kk}: ∀ {fs:List Field} {r:Bool},sU P f xs ys fs=some r->∀w,(Op.eqFields d xs ys fs).run P w=.ok r w
 | [],r,h,w=>by simp[sU] at h;subst h;rfl
 | x::fs,r,h,w=>by
  simp only[sU] at h;simp only[Op.eqFields];split at h;rename_i hn;rw[iP hn];split at h;rename_i a b ha hb;split at h;rename_i r1 q h1 h2;cases h;simp only[JR,Gz ha,Gz hb,JS,hf _ _ _ _ h1];cases r1 with
  | false=>simp
  | true=>simpa using GO hf h2 w
  cases h;cases h;rename_i hn;rw[iN hn];exact GO hf h w
def qsy{P:Km}{d:Nat}{f:Kl->Kk->Kk->Option Bool}(hf:∀t x y r,f t x y=some r->∀w,(Op.equalIn d t x y).run P w=.ok r w){e n:Nat}{xs ys:Array Kk}: ∀ {is:Kr} {r:Bool},tX P f e n xs ys is=some r->∀w,(Op.eqItems d e n xs ys is).run P w=.ok r w
 | [],r,h,w=>by simp[tX] at h;subst h;rfl
 | i::is,r,h,w=>by
  simp only[tX] at h;simp only[Op.eqItems];split at h;rename_i a b ha hb;split at h;rename_i r1 q h1 h2;cases h;simp only[JR,Gz ha,Gz hb,JS,hf _ _ _ _ h1];cases r1 with
  | false=>simp
  | true=>simpa using qsy hf h2 w
  cases h;cases h
def Gh{P:Km}:∀(d:Nat) (t:Kl) (x y:Kk) (r:Bool),vT P d t x y=some r->∀k w,(Op.equalIn (d+k) t x y).run P w=.ok r w
 | 0,_,_,_,_,h,_,_=>by cases h
 | d+1,t,x,y,r,h,k,w=>by
  rw[show d+1+k=(d+k)+1 by omega];simp only[vT] at h;split at h;rename_i hu;cases h;exact run_equalIn_bool' w _ _ _ _ hu;rename_i q k1 a k2 b hu;cases hkk:k1==k2 with
  | false=>rw[hkk] at h;cases h
  | true=>
   rw[hkk] at h;cases h
   have:=eq_of_beq hkk;subst this;exact run_equalIn_int w _ _ _ _ _ _ hu
  rename_i hu;cases h;exact run_equalIn_string w _ _ _ _ hu;rename_i hu;cases hs:P.stoodInHeld t with
  | true=>rw[hs] at h;cases h
  | false=>
   rw[hs] at h;rw[run_equalIn_struct w (d+k) t _ _ (by rw[hu];unfold Program.fieldsOf;rw[hu]) hs];exact GO (λt x y r h w=>Gh d t x y r h k w) h w
  rename_i n e xs ys hu;cases ho:pH P e with
  | false=>rw[ho] at h;cases h
  | true=>
   rw[ho] at h;obtain⟨i,hi⟩:=Option.isSome_iff_exists.1 (vz (P:=P) (t:=e) (by simp[ho])).1;rw[run_equalIn_array w (d+k) xs ys hu hi];exact qsy (λt x y r h w=>Gh d t x y r h k w) h w
  cases h
def qBv{P:Km}{t:Kl}{x y:Operand}{ds:Array Kk}{K:Bool->Prop}(d:Nat)(hd:d<=10000)(r:Bool)(h:vT P d t (.agg cs) (.agg ds)=some r)(hg:P.eqGuardType P.depth t=false)(k:K r): fK [iY.one Cell.bool] (λw'=>(do eqGuard .eql t x y (.agg cs) (.agg ds);binOp .eql t (.agg cs) (.agg ds):Sem Kk).run P w') w K:=by have hr:=Gh d t _ _ r h (10000-d) w;rw[show d+(10000-d)=10000 by omega] at hr;have hb:(binOp .eql t (.agg cs) (.agg ds)).run P w=.ok (.bool r) w:=vn (P:=P) false hr oM oM oM oM;refine⟨r,?_,k⟩;show ((do eqGuard .eql t x y (.agg cs) (.agg ds);binOp .eql t (.agg cs) (.agg ds):Sem Kk).run P w)=Result.ok (Value.bool r) w;simp[eqGuard,hg,hb]
end
section
open Go Go.RowKit Go.ChangeShapes List
variable {w:Kj}
def wo (P:Km) (u:Kl):Cell:=
 match P.underlying u with
 | some (.int k)=>.int k
 | some .bool=>.bool
 | some .string=>.str
 | some (.pointer _)=>.ptr
 | some (.slice _)=>.slice
 | some (.map _ _)=>.map
 | _=>.any
@[reducible] def vV:(c:Cell)->c.El->Prop
 | .int k,n=>k.has n
 | .str,s=>(s.size:Int)<=IntKind.i64.max
 | .slice,s=>s.len<=s.cap/\(s.cap:Int)<=IntKind.i64.max/\(s.a=none->s.cap=0)
 | _,_=>True
def qxd{P:Km}{r:Reach}{base:Nat}{u:Kl}{v:Kk}{c:Cell}(hc:wo P u=c)(h:Cell.okWide P w r base u v):∃x:c.El,v=c.mk x/\vV c x:=by
 unfold wo at hc;split at hc<;>subst hc;rename_i k hu;simp only[Cell.okWide,hu] at h;cases v<;>simp only[Cell.ok,hu] at h;rename_i q n;obtain⟨rfl,h⟩:=h;exact⟨n,rfl,h⟩;rename_i hu;simp only[Cell.okWide,hu] at h;cases v<;>simp only[Cell.ok,hu] at h;rename_i b;exact⟨b,rfl,trivial⟩;rename_i hu;simp only[Cell.okWide,hu] at h;cases v<;>simp only[Cell.ok,hu] at h;rename_i s;exact⟨s,rfl,h⟩;rename_i e hu;simp only[Cell.okWide,hu] at h;cases v<;>simp only[Cell.ok,hu] at h;rename_i p;exact⟨p,rfl,trivial⟩;rename_i e hu;simp only[Cell.okWide,hu] at h;cases v<;>simp only[Cell.ok,hu] at h;rename_i a l c;cases a with
 | none=>
  cases l with
  | succ l=>simp at h
  | zero=>cases c with
   | succ c=>simp at h
   | zero=>exact⟨dR,rfl,zM _,oN,λ_=>rfl⟩
 | some a=>exact⟨⟨some a,l,c⟩,rfl,h.1,h.2.1,λe=>by cases e⟩
 rename_i k e hu;simp only[Cell.okWide,hu] at h;cases v<;>simp only[Cell.ok,hu] at h;rename_i m;exact⟨m,rfl,trivial⟩;exact⟨v,rfl,trivial⟩
def eQ:(cs:List Cell)->HL cs->Prop
 | [],_=>True
 | [c],x=>vV c x
 | c::d::cs,x=>vV c x.1/\eQ (d::cs) x.2
def qs5{P:Km}{r:Reach}{base:Nat}{t:Kl}{v:Kk}{c:Cell}(ht:fV P t=false)(hc:wo P t=c)(h:Value.okWide P w r base t v):∃x:c.El,v=c.mk x/\vV c x:=by
 refine qxd hc (w:=w) (r:=r) (base:=base) ?_;unfold Value.okWide at h;unfold fV at ht;split at h
 ·simp_all
 ·simp_all
 exact h
def Fr.below{w':Kj}(h:Fr [] w w'):Below w.heap.size w w':=⟨h.os,h.tape,h.output,h.size,λi hi=>h.block i hi oM⟩
section
variable {H:Type} {enc:Kl×Kk->H} {P:Km}
def qkn(hl:laidOutB P=true){W W':Kj}(hb:Below W.heap.size W W'):∀ {ts:List Kl} {vs:List Kk} {ds:List (DataW H)} {ps:List MemPlace}, (ts.all λt=>P.readableRec t&&decide (t<P.types.size))=true->DataW.TrodAll enc P W 0 (λ_=>true) true ts vs ds ps->(∀x∈ps,x.block<W.heap.size)-> DataW.TrodAll enc P W' 0 (λb=>decide (b<W.heap.size)) true ts vs ds ps
 | [],vs,ds,ps,_,h,_=>by obtain⟨rfl,rfl,rfl⟩:=trodAll_nil h;exact trodAll_mk0
 | t::ts,vs,ds,ps,hr,h,hlt=>by
  simp only[all_cons,yB,decide_eq_true_eq] at hr;obtain⟨v,vs',d,ds',p,p',rfl,rfl,rfl,h1,h2⟩:=trodAll_cons h;exact trodAll_cons_mk (Below.trod hl hr.1.1 hr.1.2 h1 hb λx hx=>hlt x (zH _ hx))
   (qkn hl hb (oQ hr.2) h2 λx hx=>hlt x (zI _ hx))
def qzw{fn:Func}{s:ChangeSpec}{W W':Kj}{args:Array Kk}{ds gs:List (DataW H)}{before:List MemPlace}{tb:Kl}(hv:s.vars=[])(hW:DataW.Whole enc P fn.params.toList s.vars false W args.toList ds gs before)(hs:(s.fn H ds).results=[.lit (.bool true)]/\(s.fn H ds).args=ds/\(s.fn H ds).vars=[])(hl:laidOutB P=true)(hr:(fn.params.toList.all λt=>P.readableRec t&&decide (t<P.types.size))=true)(hres:fn.resultTypes = #[tb])(htb:P.underlying tb=some .bool)(hb:Below W.heap.size W W'):ChangeSpec.post enc P fn s false true false false W args (.bool true) W':=by have hW':=hW;obtain⟨p,q,hA,hV,hbe,_,_⟩:=hW;rw[hv] at hV;obtain⟨rfl,rfl⟩:=trodVars_none hV;obtain⟨h1,h2,h3⟩:=hs;rw[<- xJ ds] at h1 h2 h3;refine⟨ds,[],before,[],p,[],hW',?_,?_,?_,hb.frame _,λh=>by cases h⟩;rw[h1,hres];exact trodAll_cons_mk (shut_bool htb _) trodAll_mk0;rw[h2,xJ];exact qkn hl hb hr hA λx hx=>hW'.lt x (by rw[hbe];exact zH _ hx);rw[h3,hv];exact (rfl:DataW.TrodVars enc P W' (λb=>decide (b<W.heap.size)) [] [] [])
end
end
section
open Go List
variable {B S:Kr} {K:Sl->WP} {a:Addr} {cs:Array Kk} {r:Result Kk} {s:Sl} {t ty:Kl} {ts:List iY} {w':Kj} {z:Kk}
variable {P:Km} {w:Kj}
def AC{b:Nat}{T:Kl}{fr:KG}:∀ {vs:List Kk} {off:Nat} {w:Kj} {cs:Array Kk},w.heap[b]?=some (.cells cs T fr)->w.setCells b off vs=jy w b (.cells (ef cs off vs) T fr)
 | [],off,w,cs,h=>by
  show w=_;unfold jy ef;have:w.heap.setIfInBounds b (.cells cs T fr)=w.heap:=by apply Array.ext_getElem?;intro i;rw[Kh];by_cases hi:b=i;subst hi;rw[iP rfl,iP (fq h),h];simp[hi]
  rw[this]
 | v::vs,off,w,cs,h=>by have h1:w.setCells b off (v::vs)=(w.setCell (dm b off) v).setCells b (off+1) vs:=rfl;rw[h1,qno h];have h2:(jy w b (.cells (cs.setIfInBounds off v) T fr)).heap[b]?=some (.cells (cs.setIfInBounds off v) T fr):=(by rw[qX _ _ _ _ (fq h),iP rfl]);rw[AC h2,qvp];rfl
def uH{s b:Nat}(h:(P.info? t).map (λi=>(i.zero,i.size,i.bytes))=some (some z,s,b)):∃i,P.info? t=some i/\i.zero=some z/\i.size=s/\i.bytes=b:=by obtain⟨i,hi,he⟩:=yU.1 h;simp only[Prod.mk.injEq] at he;exact⟨i,hi,he.1,he.2.1,he.2.2⟩
def tL{r:Kj->Result Kk}{K:jx ts->Prop}(x:jx ts)(h:r w=.ok (gG ts x) w)(k:K x):fK ts r w K:=⟨x,h,k⟩
def qyu{K:jx ts->WP}(x:jx ts)(w':Kj)(h:r=.ok (gG ts x) w')(k:K x w'):Pt.run ts r K:=⟨x,w',h,k⟩
def FZ{r:Result Unit}{K:WP}(w':Kj)(h:r=.ok () w')(k:K w'):i3 r K:=⟨w',h,k⟩
def IU(a:Addr):a.add 0=a:=by
 cases a with
 | mk b o k=>cases k<;>simp[Addr.add]
def Ar{hi:Int}{size:Nat}{K:Sl->Prop}(h:0<=hi/\hi<=s.cap)(k:K ⟨s.a,hi.toNat,s.cap⟩):fZ s none (some hi) none size K:=by
 unfold fZ;refine⟨⟨oM,by simpa using h.1,by simpa using h.2,oM⟩,?_⟩;have e:(s.a.map (·.add ((none:Option Int).getD 0).toNat))=s.a:=by
  cases s.a with
  | none=>rfl
  | some a=>simp[IU]
 simp only[xY,xX,Int.toNat_zero,Nat.zero_mul,Nat.sub_zero,zJ] at e⊢;rw[e,ite_self];exact k
def qB2{b o len cap:Nat}{lo:Int}{size:Nat}{K:Sl->Prop}(h:0<=lo/\lo<=len)(hc:len<=cap)(k:∀o',(lo<cap->o'=o+lo.toNat*size)->K ⟨some ⟨b,o',none⟩,len-lo.toNat,cap-lo.toNat⟩): fZ ⟨some (dm b o),len,cap⟩ (some lo) none none size K:=by unfold fZ;refine⟨⟨by simpa using h.1,by simpa using h.2,by simpa using hc,oM⟩,?_⟩;simp only[xY,xX,zJ];by_cases e:cap=lo.toNat;rw[iP e];exact k o λh=>oK;rw[iN e];simp only[Option.map_some,Addr.j1];exact k _ (λ_=>rfl)
def wL(s:Sl)(w':Kj)(h:r=.ok (.slice s.a s.len s.cap) w')(k:K s w'):Pt.run dp r K:=⟨s,w',h,k⟩
def qAz{e:Kl}{i:TypeInfo}{b off n cap m c:Nat}{T:Kl}(ht:P.underlying t=some (.slice e))(hi:P.info? e=some i)(news:List Kk)(hb:w.heap[b]?=some (.c cs T))(hl:news.length=m*i.size)(hnews:∀(j:Nat) u,news[j]?=some u->w.cell? (a.add j)=some u)(h1:∀u∈news,u.oneCell'=true)(hroom:n+m<=cap)(hsz:off+n*i.size+news.length<=cs.size)(k:K ⟨some (dm b off),n+m,cap⟩ (jy w b (.c (ef cs (off+n*i.size) news) T))): Pt.run dp ((Builtin.append_ #[t,t] ty #[.slice (some (dm b off)) n cap,.slice (some a) m c]).run P w) K:=by refine wL ⟨_,_,_⟩ _ (run_append_room_cells w t ty e i ht hi b off n cap a m c news hl hnews h1 hroom (λj hj=>?_) λj hj=>?_) ?_;rw[kA hb];have:off+n*i.size+j<cs.size:=oK;simp[this];simp[World.frozen?,hb];rw[AC hb];exact k
def qy4{e:Kl}{i:TypeInfo}{b:Addr}{n cap m c:Nat}(ht:P.underlying t=some (.slice e))(hi:P.info? e=some i)(hz:i.zero=some z)(olds news:List Kk)(hlo:olds.length=n*i.size)(holds:∀(j:Nat) u,olds[j]?=some u->w.cell? (b.add j)=some u)(hl:news.length=m*i.size)(hnews:∀(j:Nat) u,news[j]?=some u->w.cell? (a.add j)=some u)(hg:cap<n+m)(hbytes:(n+m)*i.bytes<=140737488355328)(h63:n+m<=9223372036854775807)(k:∀q,n+m<=q->q<=maxLen->K ⟨some ⟨w.heap.size,0,none⟩,n+m,q⟩ (w.drew.alloc (.cells (olds.toArray++news.toArray++Builtin.zeroCells z.cells (q-(n+m))) e))): Pt.run dp ((Builtin.append_ #[t,t] ty #[.slice (some b) n cap,.slice (some a) m c]).run P w) K:=by exact wL ⟨_,_,_⟩ _ (run_append_grow w t ty e i z ht hi hz b n cap olds hlo holds a m c news hl hnews hg oK (growslice_fits hg hbytes))<|k _ (grownCap_ge w (n+m) cap e) (grownCap_le_maxLen w (n+m) cap e (by unfold maxLen;omega))
def qAA{e:Kl}{i:TypeInfo}{m c:Nat}(ht:P.underlying t=some (.slice e))(hi:P.info? e=some i)(hz:i.zero=some z)(news:List Kk)(hl:news.length=m*i.size)(hnews:∀(j:Nat) u,news[j]?=some u->w.cell? (a.add j)=some u)(hm:0<m)(hbytes:m*i.bytes<=140737488355328)(h63:m<=9223372036854775807)(k:∀q,m<=q->q<=maxLen->K ⟨some ⟨w.heap.size,0,none⟩,m,q⟩ (w.drew.alloc (.cells (news.toArray++Builtin.zeroCells z.cells (q-m)) e))): Pt.run dp ((Builtin.append_ #[t,t] ty #[.slice none 0 0,.slice (some a) m c]).run P w) K:=by exact wL ⟨_,_,_⟩ _ (run_append_nil w t ty e i z ht hi hz a m c news hl hnews hm oK oK)<|k _ (grownCap_ge w m 0 e) (grownCap_le_maxLen w m 0 e (by unfold maxLen;omega))
section
section
variable {α:Type} {enc:α->List Kk} {k:Nat}
def eE (enc:α->List Kk) (k:Nat) (S:Kr) (w:Kj) (s:Sl) (l:List α):Prop:=
 s.len=l.length/\s.len<=s.cap/\(l=[]\/∃b o cs T fr,s.a=some (dm b o)/\w.heap[b]?=some (.cells cs T fr)/\b∉S/\∀(i:Nat) x,l[i]?=some x->(cs.toList.drop (o+i*k)).take k=enc x)
def eE.j0{S':Kr}{w:Kj}{l:List α}(h:eE enc k S w s l)(f:Fr S w w')(hS:∀b∈S',b∈S\/w.heap.size<=b):eE enc k S' w' s l:=by
 obtain⟨h1,h2,h3⟩:=h;refine⟨h1,h2,?_⟩;rcases h3 with h3|⟨b,o,cs,T,fr,ha,hb,hn,hc⟩;exact .inl h3;refine .inr ⟨b,o,cs,T,fr,ha,by rw[f.block b (fq hb) hn];exact hb,λhs=>?_,hc⟩;have:=fq hb;rcases hS b hs with h'|h';exact hn h';omega
def eE.q8{w:Kj}{l:List α}(h:eE enc k S w s l)(f:Fr [] w w'):eE enc k S w' s l:=
 h.j0 (f.mono λi hi _=>by cases hi) (λb hb=>.inl hb)
def eE.drew{S:Kr}{w:Kj}{s:Sl}{l:List α}(h:eE enc k S w s l):eE enc k S w.drew s l:=h
def eE.same{w:Kj}{l:List α}(h:eE enc k S w s l)(f:rJ w w'):eE enc k S w' s l:=h.j0 (.of_same f) (λb hb=>.inl hb)
def eE.j6{S':Kr}{w:Kj}{l:List α}(h:eE enc k S w s l)(hS:∀b∈S',b∈S\/w.heap.size<=b):eE enc k S' w s l:=h.j0 (.refl _ _) hS
def eE.nil(enc:α->List Kk)(k:Nat)(S:Kr)(w:Kj):eE enc k S w dR []:=⟨rfl,zM _,.inl rfl⟩
def eE.at{S:Kr}{w:Kj}{s:Sl}{l:List α}(h:eE enc k S w s l)(n:Nat){x:α}(hx:l[n]?=some x): n<s.len/\∃b o,s.a=some (dm b o)/\b∉S/\∃cs T fr,w.heap[b]?=some (.cells cs T fr)/\(cs.toList.drop (o+n*k)).take k=enc x:=by obtain⟨h1,h2,h3⟩:=h;have hn:n<l.length:=(zP.1 hx).1;rcases h3 with h3|⟨b,o,cs,T,fr,ha,hb,hnS,hc⟩;rw[h3] at hx;simp at hx;exact⟨oK,b,o,ha,hnS,cs,T,fr,hb,hc n x hx⟩
def eE.get{w:Kj}{l:List α}{c:Cell}(h:eE enc 1 S w s l)(n:Nat){i:Int}{x:α}{y:c.El}{K:c.El->Prop}(hi:i=n)(hx:l[n]?=some x)(hy:enc x=[c.mk y])(kk:K y):idx s i 1 λa=>ld c a w K:=by
 subst hi;obtain⟨hn,b,o,ha,_,cs,T,fr,hb,hc⟩:=h.at n hx;refine sJ ha ⟨oK,oK⟩ ?_;rw[zJ];refine jG hb y ?_ kk;rw[hy] at hc;have:=Kg (·[0]?) hc;simpa using this
def eE.pY{w:Kj}{l:List α}{cl:List Cell}(h:eE enc k S w s l)(n:Nat){i:Int}{x:α}{y:HL cl}{K:HL cl->Prop}(hi:i=n)(hx:l[n]?=some x)(hk:cl.length=k)(hy:enc x=HL.mk cl y)(kk:K y):idx s i k λa=>dT cl a w K:=by subst hi hk;obtain⟨hn,b,o,ha,_,cs,T,fr,hb,hc⟩:=h.at n hx;refine sJ ha ⟨oK,oK⟩ ?_;rw[zJ];refine⟨y,vw hb _ _ 0 ?_,kk⟩;rw[HL.j3,Nat.add_zero,hc,hy]
def eE.drop{S:Kr}{w:Kj}{s:Sl}{l:List α}(h:eE enc k S w s l)(n:Nat){lo:Int}{K:Sl->Prop}(hlo:lo=n)(hn:n<=l.length)(hl:0<l.length)(kk:∀s',eE enc k S w s' (l.drop n)->K s'):fZ s (some lo) none none k K:=by
 subst hlo;obtain⟨h1,h2,h3⟩:=h;rcases h3 with h3|⟨b,o,cs,T,fr,ha,hb,hnS,hc⟩;rw[h3] at hl;simp at hl;obtain⟨a,len,cap⟩:=s;simp only at ha h1 h2;subst ha;refine qB2 ⟨oK,oK⟩ h2 λo' ho'=>?_;rw[zJ] at ho'⊢;refine kk _ ⟨by simp only[yC];omega,by dsimp only;omega,?_⟩;by_cases he:l.drop n=[];exact .inl he;have hlt:n<l.length:=by rcases Nat.lt_or_ge n l.length with h|h;exact h;exact absurd (vG h) he
 refine .inr ⟨b,o',cs,T,fr,rfl,hb,hnS,λi x hx=>?_⟩;rw[ho' oK,Nat.add_assoc,<- xW];refine hc (n+i) x ?_;rw[xB] at hx;exact hx
def eE.cells{w:Kj}{l:List α}(h:eE enc k S w s l)(henc:∀x,(enc x).length=k)(ha:s.a=some a):∀(j:Nat) u,(l.flatMap enc)[j]?=some u->w.cell? (a.add j)=some u:=by
 obtain⟨h1,h2,h3⟩:=h;rcases h3 with h3|⟨b,o,cs,T,fr,ha',hb,hnS,hc⟩;rw[h3];intro j u hj;simp at hj;rw[ha'] at ha;cases ha;have key:∀(l:List α) (o:Nat),(∀(i:Nat) x,l[i]?=some x->(cs.toList.drop (o+i*k)).take k=enc x)->∀(j:Nat) u,(l.flatMap enc)[j]?=some u->cs[o+j]?=some u:=by
  intro l;induction l with
  | nil=>intro o _ j u hj;simp at hj
  | cons x l ih=>
   intro o hc j u hj;rw[yI] at hj;by_cases hjk:j<k;rw[xA (by rw[henc];exact hjk)] at hj;have h0:=hc 0 x rfl;rw[<- h0,xC,iP hjk,xB] at hj;simpa using hj;rw[yZ (by rw[henc];omega),henc] at hj;have:=ih (o+k) (λi x hx=>by
    have:=hc (i+1) x (oQ hx);rw[<- this];congr 2;rw[xW];omega) (j-k) u hj
   rw[<- this];congr 1;omega
 intro j u hj;rw[Addr.j1,kA hb];exact key l o hc j u hj
def fB (enc:α->List Kk) (k:Nat) (w:Kj) (s:Sl) (l:List α) (B:Kr):Prop:=
 (s=dR/\l=[]/\B=[])\/∃b o cs T,B=[b]/\o=0/\s.a=some (dm b o)/\w.heap[b]?=some (.c cs T)/\s.len=l.length/\s.len<=s.cap/\o+s.cap*k<=cs.size/\(cs.toList.drop o).take (l.length*k)=l.flatMap enc
def rQ(henc:∀x,(enc x).length=k):∀l:List α,(l.flatMap enc).length=l.length*k
 | []=>by simp
 | x::l=>by rw[yI,zF,henc,rQ henc l,yJ,xW];omega
def I4(henc:∀x,(enc x).length=k):∀(l:List α) (i:Nat) (x:α),l[i]?=some x->((l.flatMap enc).drop (i*k)).take k=enc x
 | [],i,x,h=>by simp at h
 | y::l,0,x,h=>by simp at h;subst h;rw[yI,Nat.zero_mul,xH,JN (by rw[henc];exact zM _),zS (by rw[henc];exact zM _)]
 | y::l,i+1,x,h=>by rw[yI,xW,Nat.one_mul,Nat.add_comm,drop_append,henc,vF,vG (by rw[henc];omega),xK];exact I4 henc l i x (oQ h)
def fB.nil(enc:α->List Kk)(k:Nat)(w:Kj):fB enc k w dR [] []:=.inl ⟨rfl,rfl,rfl⟩
def fB.len{w:Kj}{s:Sl}{l:List α}{B:Kr}(h:fB enc k w s l B):s.len=l.length:=by rcases h with ⟨rfl,rfl,_⟩|⟨b,o,cs,T,_,_,_,_,h,_⟩;rfl;exact h
def fB.kZ{w:Kj}{l:List α}(henc:∀x,(enc x).length=k)(h:fB enc k w s l B)(hS:∀b∈B,b∉S):eE enc k S w s l:=by
 rcases h with ⟨rfl,rfl,rfl⟩|⟨b,o,cs,T,rfl,ho0,ha,hb,h1,h2,h3,h4⟩;exact .nil _ _ _ _;refine⟨h1,h2,.inr ⟨b,o,cs,T,_,ha,hb,hS b oM,λi x hx=>?_⟩⟩;have hi:=(zP.1 hx).1;have:=I4 henc l i x hx;rw[<- h4] at this;rw[<- this,drop_take,xF,take_take,xT];have:(i+1)*k<=l.length*k:=JZ k hi;rw[xW] at this;omega
def fB.j0{w:Kj}{l:List α}(h:fB enc k w s l B)(f:Fr S w w')(hS:∀b∈B,b∉S):fB enc k w' s l B:=by rcases h with h|⟨b,o,cs,T,rfl,ho0,ha,hb,h1⟩;exact .inl h;exact .inr ⟨b,o,cs,T,rfl,ho0,ha,by rw[f.block b (fq hb) (hS b oM)];exact hb,h1⟩
def fB.q8{w:Kj}{l:List α}(h:fB enc k w s l B)(f:Fr [] w w'):fB enc k w' s l B:=h.j0 f (λ_ _ h=>by cases h)
def fB.lt{w:Kj}{l:List α}(h:fB enc k w s l B):∀b∈B,b<w.heap.size:=by rcases h with ⟨_,_,rfl⟩|⟨b,o,cs,T,rfl,ho0,ha,hb,h1⟩;intro b hb;cases hb;intro c hc;simp at hc;subst hc;exact fq hb
def fB.fresh(henc:∀x,(enc x).length=k){w:Kj}{b:Nat}{T:Kl}{l:List α}{n cap:Nat}(hb:w.heap[b]?=some (.c cs T))(hn:n=l.length)(hc:n<=cap)(hcs:cap*k<=cs.size)(hl:cs.toList.take (l.length*k)=l.flatMap enc):fB enc k w ⟨some (dm b),n,cap⟩ l [b]:=
 .inr ⟨b,0,cs,T,rfl,rfl,rfl,hb,hn,hc,by rw[xU];exact hcs,by rw[xH];exact hl⟩
def rI{w:Kj}{b:Nat}(hb:b<w.heap.size)(o:Obj):Fr [b] w (jy w b o):=
 ⟨rfl,rfl,rfl,by rw[wK];exact zM _,λj hj hS=>by rw[qX _ _ _ _ hb,iN (oQ hS)]⟩
def qzz(L Y R:List Kk)(o n:Nat)(h:o+n<=L.length):((L.take (o+n)++Y++R).drop o).take (n+Y.length)=(L.drop o).take n++Y:=by have e1:(L.take (o+n)).length=o+n:=oP;have e2:((L.drop o).take n).length=n:=oP;rw[zV,JU oK,drop_take,vF,take_append,e2,zS oK,vF,JN (zM _),zS (zM _)]
variable {P:Km}
def E2(z:Array Kk)(n:Nat):(Builtin.zeroCells z n).size=n*z.size:=by simp[Builtin.zeroCells]
def fB.j2{w:Kj}{tx e:Kl}{i:TypeInfo}{l ys:List α}{x:Kk}{m:Nat}(h:fB enc k w s l B)(henc:∀x,(enc x).length=k)(ht:P.underlying t=some (.slice e))(hi:P.info? e=some i)(hz:i.zero=some z)(hsz:i.size=k)(hzs:z.cells.size=k)(hs:Src P k tx x m (ys.flatMap enc) w)(hm:m=ys.length)(hbytes:(l.length+m)*i.bytes<=140737488355328)(h63:l.length+m<=9223372036854775807)(kk:∀s' B' w',fB enc k w' s' (l++ys) B'->Fr B w w'->(∀b∈B',b∈B\/w.heap.size<=b)->(s'.a.isNone=false\/(s=dR/\s'=dR))->K s' w'): Pt.run dp ((Builtin.append_ #[t,tx] ty #[.slice s.a s.len s.cap,x]).run P w) K:=by
 subst hsz hm;have hfl:=rQ henc;have hgrow:∀(olds:List Kk),olds=l.flatMap enc->s.len=l.length->(Builtin.firstCells i.size s.len (.slice s.a s.len s.cap)).run P w.drew=.ok olds.toArray w.drew->s.cap<s.len+ys.length->
   Pt.run dp ((Builtin.append_ #[t,tx] ty #[.slice s.a s.len s.cap,x]).run P w) K:=by
  intro olds ho hl hold hg;refine wL ⟨_,_,_⟩ _ (run_append_grow_src w t tx ty e i z ht hi hz s.a s.len s.cap olds hold x ys.length _ hs hg oK (growslice_fits hg (by rw[hl];exact hbytes))) ?_;have hge:=grownCap_ge w (s.len+ys.length) s.cap e;refine kk _ [w.heap.size] _ (fB.fresh henc (b:=w.heap.size) (T:=e) (cs:=(olds++ys.flatMap enc).toArray++Builtin.zeroCells z.cells (grownCap w (s.len+ys.length) s.cap e-(s.len+ys.length))) ?_ (by rw[zF,hl]) hge ?_ ?_) ?_ ?_ ?_;rw[CR];exact iP rfl;rw[Array.size_append,E2,hzs,size_toArray,zF,ho,hfl,hfl,<- xW,<- xW,hl];have:l.length+ys.length+(grownCap w (l.length+ys.length) s.cap e-(l.length+ys.length))=grownCap w (l.length+ys.length) s.cap e:=(by rw[hl] at hge;omega);rw[this];exact zM _;rw[Array.toList_append,JN (by simp[ho,hfl,xW]),zS (by simp[ho,hfl,xW]),ho,yR];exact (Fr.refl B w).drew.alloc _;intro b hb;simp at hb;subst hb;exact .inr (zM _);exact .inl rfl
 rcases h with ⟨rfl,rfl,rfl⟩|⟨b,o,cs,T,rfl,ho0,ha,hb,h1,h2,h3,h4⟩;by_cases hy:ys=[];subst hy;refine wL dR w ?_ (kk _ _ _ (.nil _ _ _) (.refl _ _) (λb hb=>.inl hb) (.inr ⟨rfl,rfl⟩));have hc:=hs.cells;simp at hc;rcases hs.kind with ⟨e',hk⟩|hk<;>simp[Builtin.append_,run_underlying ht,run_underlying hk,sizeOf,typeInfo,hi,hs.len,hc];have:0<ys.length:=length_pos_iff.2 hy;exact hgrow [] rfl rfl (run_firstCells_none _ _ _ _ _) oO;obtain⟨a,len,cap⟩:=s;simp only at ha h1 h2 h3;subst ha;subst h1;by_cases hroom:l.length+ys.length<=cap;have hsz':o+(l.length+ys.length)*i.size<=cs.size:=zL (Nat.add_le_add_left (JZ _ hroom) _) h3;rw[xW] at hsz';refine wL ⟨_,_,_⟩ _ (run_append_room_src w t tx ty e i ht hi b o l.length cap x ys.length _ hs hroom (λj hj=>?_) λj hj=>?_) ?_;rw[hfl] at hj;rw[kA hb];simp[show o+l.length*i.size+j<cs.size by omega];simp[World.frozen?,hb];rw[AC hb];refine kk _ [b] _ (.inr ⟨b,o,_,T,rfl,ho0,rfl,by rw[qX _ _ _ _ (fq hb),iP rfl],oM,by dsimp only;omega,by rw[pB];exact h3,?_⟩) (rI (fq hb) _) (λc hc=>.inl hc) (.inl rfl);rw[sL _ _ _ (by rw[hfl];omega),zF,xW,yR,<- h4];have:=qzz cs.toList (ys.flatMap enc) (cs.toList.drop (o+l.length*i.size+(ys.flatMap enc).length)) o (l.length*i.size) oP;rw[hfl] at this⊢;exact this;refine hgrow (l.flatMap enc) rfl rfl (run_firstCells_some _ _ _ _ _ _ _ (hfl l) λj u hj=>?_) oO;rw[Addr.j1];show w.cell? _=_;rw[kA hb];have hjl:j<l.length*i.size:=by
  have:=(zP.1 hj).1;rw[hfl] at this;exact this
 rw[<- h4,xC,iP hjl,xB] at hj;simpa using hj
def fB.push{w:Kj}{e T':Kl}{i:TypeInfo}{l:List α}{x:α}{cs':Array Kk}(h:fB enc k w s l B)(henc:∀x,(enc x).length=k)(hone:∀u∈enc x,u.oneCell'=true)(ht:P.underlying t=some (.slice e))(hi:P.info? e=some i)(hz:i.zero=some z)(hsz:i.size=k)(hzs:z.cells.size=k)(hcs:cs'.toList=enc x)(hbytes:(l.length+1)*i.bytes<=140737488355328)(h63:l.length+1<=9223372036854775807)(kk:∀s' B' w',fB enc k w' s' (l++[x]) B'->Fr B w w'->(∀b∈B',b∈B\/w.heap.size<=b)->K s' w'): Pt.new (.cells cs' T') w λr w1=>Pt.run dp ((Builtin.append_ #[t,t] ty #[.slice s.a s.len s.cap,.slice (some (dm r)) 1 1]).run P w1) K:=by have ho:=(ed.start [] w).alloc (.cells cs' T');have hf:=ho.fr;refine ed.new (ed.start [] w) λb w1 eb sb ho=>fB.j2 (ys:=[x]) (h.q8 ho.fr) henc ht hi hz hsz hzs (.ofSlice _ ht _ 1 1 _ ?_ ?_ ?_) rfl (oQ hbytes) (oQ h63) λs' B' w' h1 h2 h3 _=>kk s' B' w' h1 ((ho.fr.mono λi hi _=>by cases hi).j8 h2 λi hi=>.inl hi) λb hb=>?_;simp[henc];intro j u hj;rw[Addr.j1,kA (ho.at (i:=0) rfl),xU];have hj':(enc x)[j]?=some u:=(oQ hj);rw[<- hcs] at hj';simpa using hj';intro u hu;exact hone u (oQ hu);rcases h3 b hb with h|h;exact .inl h;exact .inr oK
end
end
end
section
open Go Go.RowKit Go.ChangeShapes List
section
variable {H:Type} {enc:Kl×Kk->H} {P:Km} {w:Kj} {base:Nat} {spare:Nat->Bool} {held:Bool}
def qyI{k:IntKind}{n:Int}(h:(Lit.int k n).wf=true):k.has n:=by have h':k.min<=n/\n<=k.max:=(by simpa[Lit.wf] using h);exact h'
def qrc{β:Type}{R:Nat->β->Prop}:∀n,(∀i,i<n->∃x,R i x)->∃l:List β,l.length=n/\∀(i:Nat) x,l[i]?=some x->R i x
 | 0,_=>⟨[],rfl,λi x h=>by simp at h⟩
 | n+1,h=>by obtain⟨l,hl,hr⟩:=qrc n λi hi=>h i oK;obtain⟨x,hx⟩:=h n oK;refine⟨l++[x],by simp[hl],λi y hy=>?_⟩;by_cases hi:i<n;rw[xA oK] at hy;exact hr i y hy;have:i<n+1:=(by have:=(zP.1 hy).1;simp at this;omega);have e:i=n:=oK;subst e;rw[yZ oK] at hy;simp[hl] at hy;subst hy;exact hx
def qrz{t e:Kl}{n:Nat}{s:Sl}{y:DataW H×List MemPlace}{β:Type}{encB:β->List Kk}{k:Nat}{Q:β->Prop}(ht:P.underlying t=some (.slice e))(hce:P.cellsOf e=k)(hpos:0<k)(elem:∀n cells y,DataW.trod enc P w base spare held n e cells=some y->∃x:β,cells=encB x/\Q x)(h:DataW.trod enc P w base spare held n t [.slice s.a s.len s.cap]=some y): ∃l:List β,eE encB k [] w s l/\∀x∈l,Q x:=by
 rcases Go.Deep.open_slice ht h with ⟨hm,_⟩|⟨a,len,cap,m,n',D,Pl,hm,_,hl,hc,hmm,_,hx⟩;simp only[List.cons.injEq,Value.slice.injEq,and_true] at hm;obtain⟨h1,h2,h3⟩:=hm;exact⟨[],⟨by rw[h2];rfl,oK,.inl rfl⟩,λx hx=>by cases hx⟩;simp only[List.cons.injEq,Value.slice.injEq,and_true] at hm;obtain⟨h1,h2,h3⟩:=hm;have hlm:len<=m:=(by rw[hmm];split<;>omega);have hcells:∀i,i<len->∃x:β,w.cells? base (a.add (i*k)) k=some (encB x)/\Q x:=λi hi=>by obtain⟨cs',g1,g2⟩:=hx i oK;obtain⟨x,rfl,hq⟩:=elem _ _ _ g2;rw[hce] at g1;exact⟨x,g1,hq⟩
 obtain⟨l,hll,hlr⟩:=qrc len hcells;refine⟨l,⟨by rw[h2,hll],oK,?_⟩,λx hx=>?_⟩;by_cases h0:l=[];exact .inl h0;right;have hl0:0<l.length:=length_pos_iff.2 h0;obtain⟨_,hlen0,hcell0⟩:=World.cells?_some (hlr 0 l[0] (zA hl0)).1;have hc0:=hcell0 0 hpos;rw[zA oK] at hc0;obtain⟨b,o,spot⟩:=a;have hspot:spot=none:=(by simpa[Addr.add] using World.cell?_spot hc0);subst hspot;have hblk:∃cs T fr,w.heap[b]?=some (.cells cs T fr):=by simp only[Nat.zero_mul,Addr.j1] at hc0;unfold World.cell? at hc0;split at hc0;rename_i c T fr hb;exact⟨c,T,fr,hb⟩;cases hc0
 obtain⟨cs,T,fr,hb⟩:=hblk;refine⟨b,o,cs,T,fr,h1,hb,oM,λi x hx=>?_⟩;obtain⟨_,hlen',hcell'⟩:=World.cells?_some (hlr i x hx).1;apply ext_getElem?;intro j;rw[xC,xB];by_cases hj:j<k;rw[iP hj];have:=hcell' j hj;rw[Addr.j1,Addr.j1,kA hb] at this;rw[<- this];simp;rw[iN hj,yT oK];obtain⟨i,hi,rfl⟩:=getElem_of_mem hx;exact (hlr i _ (zA hi)).2
def qzk{e:Kl}{k:IntKind}(he:P.underlying e=some (.int k)):∀n cells y,DataW.trod enc P w base spare held n e cells=some y->∃x:Int,cells=[Value.int k x]/\k.has x:=by intro n cells y h;obtain⟨m,hm,_,hw⟩:=DataW.trod_int he h;exact⟨m,hm,qyI hw⟩
end
end
section
open Go List
variable {K:List Kk->Prop} {L':Kz} {T et t:Kl} {a:Addr} {args vs zero:List Kk} {cs:Array Kk} {e:Array Kk->Sem Kk} {f:FuncId} {name:String} {off:Nat} {ts:List iY} {w':Kj} {z:Kk}
variable {P:Km} {w:Kj}
def methodOf (P:Km) (t:Kl) (name:String):Option (FuncId×Bool):=
 match (P.info? t).bind λi=>i.methods.find? (·.name==name) with
 | some m=>bif m.path.isEmpty then m.func else none
 | none=>none
def qpj{v:Kk}{p:Bool}(h:methodOf P t name=some (f,p))(fuel:Nat): ∃wr,(Go.method (fuel+1) t v name).run P w=(do let r <- receiverAt t (.val v) p (some wr);pure (f,r):Sem (FuncId×Kk)).run P w:=by
 unfold methodOf at h;cases hi:P.info? t with
 | none=>rw[hi] at h;cases h
 | some i=>
  rw[hi] at h;simp only[Option.bind_some] at h;cases hm:i.methods.find? (·.name==name) with
  | none=>rw[hm] at h;cases h
  | some m=>
   rw[hm] at h;dsimp only at h;cases hp:m.path.isEmpty with
   | false=>rw[hp] at h;cases h
   | true=>
    rw[hp] at h;change m.func=some (f,p) at h;have hpe:=Array.isEmpty_iff.1 hp;refine⟨(name.splitOn ".").getLastD name,?_⟩;simp[Go.method,typeInfo,run_program,hi,hm,hpe,h,follow]
def qxw{e:Kl}{q:Kk}{args:Array Kk}(h:methodOf P t name=some (f,true))(hu:P.underlying t=some (.pointer e))(hb:jD P f=false): (callMethod (.iface t q) name args).run P w=.ok (.enter f (#[q]++args)) w:=by
 obtain⟨wr,hr⟩:=qpj (w:=w) (v:=q) h (P.types.size+Made.depth-1);have hm0:0<Made.depth:=oN;have hd:P.types.size+Made.depth-1+1=P.types.size+Made.depth:=oK;rw[hd] at hr;have h2:(do let r <- receiverAt t (.val q) true (some wr);pure (f,r):Sem (FuncId×Kk)).run P w=.ok (f,q) w:=by simp[receiverAt,run_underlying hu,Place.get]
 rw[h2] at hr;simp[callMethod,run_program,hr,Bm hb]
def qxx{e:Kl}{v:Kk}{args:Array Kk}(h:methodOf P t name=some (f,false))(hu:P.underlying t=some (.pointer e))(hb:jD P f=false)(he:(P.underlying e).isSome=true)(hag:fV P e=false)(hc:w.cell? a=some v): (callMethod (.iface t (.pointer (some a))) name args).run P w=.ok (.enter f (#[v]++args)) w:=by
 obtain⟨wr,hr⟩:=qpj (w:=w) (v:=.pointer (some a)) h (P.types.size+Made.depth-1);have hm0:0<Made.depth:=(by decide);have hd:P.types.size+Made.depth-1+1=P.types.size+Made.depth:=(by omega);rw[hd] at hr;have h2:(do let r <- receiverAt t (.val (.pointer (some a))) false (some wr);pure (f,r):Sem (FuncId×Kk)).run P w=.ok (f,v) w:=by have hs:Builtin.ssaWrapNilChk_ #[t] t #[.pointer (some a),strVal "",strVal wr]=pure (.pointer (some a)):=rfl;simp[receiverAt,run_underlying hu,Place.get,hs,asAddr,loadVar,Ai he,hag,hc]
 rw[h2] at hr;simp[callMethod,run_program,hr,Bm hb]
def qu4{e:Kl}{q:Kk}{K:jx ts->WP}(h:methodOf P t name=some (f,true))(hu:P.underlying t=some (.pointer e))(hb:jD P f=false)(k:call P f (q::args) ts w K):inv P (.iface t q) name args ts w K:=
 ⟨f,q::args,by rw[qxw h hu hb];simp,k⟩
def Jq{e:Kl}{v:Kk}{K:jx ts->WP}(h:methodOf P t name=some (f,false))(hu:P.underlying t=some (.pointer e))(hb:jD P f=false)(he:(P.underlying e).isSome=true)(hag:fV P e=false)(hc:w.cell? a=some v)(k:call P f (v::args) ts w K):inv P (.iface t (.pointer (some a))) name args ts w K:=
 ⟨f,v::args,by rw[qxx h hu hb he hag hc];simp,k⟩
section
structure p4 {α:Type} [DecidableEq α] (P:Km) (kt:Kl) (kv:α->Kk):Prop where
 desc:∃ d,P.underlying kt=some d/\∀ a b,Instr.sameNow d (kv a) (kv b)=some (decide (a=b))
 check:∀ e a w,(Instr.checkKey e 10000 kt (kv a)).run P w=.ok () w
 stays:∀ a w,(Instr.keyThatStays (kv a) (kv a)).run P w=.ok (kv a) w
def qxP{P:Km}{kt:Kl}{k:IntKind}(h:P.underlying kt=some (.int k)):p4 P kt (λn:Int=>Value.int k n) where
 desc:=⟨_,h,λa b=>by simp[Instr.sameNow];rfl⟩
 check:=λe a w=>Go.MapKept.run_checkKey h (by simp[Go.MapKept.IsKey]) e 9999
 stays:=λa w=>by simp[Instr.keyThatStays,Instr.sameBits]
section
variable {α:Type} [DecidableEq α]
def xa{β γ:Type}(g:β->γ):∀(l:List β) (i:Nat),(l.eraseIdx i).map g=(l.map g).eraseIdx i
 | [],_=>rfl
 | _::_,0=>rfl
 | a::l,i+1=>by simp only[eraseIdx_cons_succ,xQ,xa g l i]
def qT (kv:α->Kk) (es:List MapEntry) (f:List (α×Kk)):Prop:=es.map (λe=>(e.key,e.val))=f.map (λp=>(kv p.1,p.2))
def posOf (x:α):List (α×Kk)->Option (Nat×Kk)
 | []=>none
 | p::r=>if x=p.1 then some (0,p.2) else (posOf x r).map λq=>(q.1+1,q.2)
def qmX{kv:α->Kk}{d:TypeDesc}(hd:∀a b,Instr.sameNow d (kv a) (kv b)=some (decide (a=b)))(x:α):∀(es:List MapEntry) (f:List (α×Kk)) (i:Nat),qT kv es f-> Instr.findNow d (kv x) es i=some ((posOf x f).map λq=>(i+q.1,q.2))
 | [],[],i,_=>rfl
 | [],_::_,_,h=>by simp[qT] at h
 | _::_,[],_,h=>by simp[qT] at h
 | e::es,p::f,i,h=>by
  simp only[qT,xQ,List.cons.injEq,Prod.mk.injEq] at h;obtain⟨⟨h1,h2⟩,h3⟩:=h;simp only[Instr.findNow,h1,hd,posOf];by_cases hx:x=p.1;simp[hx,h2];simp only[hx,decide_false,if_false];rw[qmX hd x es f (i+1) h3];cases posOf x f with
  | none=>rfl
  | some q=>simp;omega
variable {P:Km} {w:Kj} {kt:Kl} {kv:α->Kk}
def wD(K:p4 P kt kv){es:List MapEntry}{f:List (α×Kk)}(h:qT kv es f)(x:α):(Instr.findKey kt (kv x) es).run P w=.ok (posOf x f) w:=by
 obtain⟨d,hd,hs⟩:=K.desc;unfold Instr.findKey;simp only[JR,run_underlying hd,JS,qmX hs x es f 0 h,Sem.run_pure];congr 1;cases posOf x f with
 | none=>rfl
 | some q=>simp
def mr (kv:α->Kk) (w:Kj) (b:Nat) (f:List (α×Kk)):Prop:=∃es c,w.heap[b]?=some (.map es c)/\qT kv es.toList f
def Hc(ht:P.underlying t=some (.map kt et))(hz:∀w,(zeroValue et).run P w=.ok z w)(K:p4 P kt kv){b:Nat}{f:List (α×Kk)}(h:mr kv w b f)(x:α): (Instr.lookup t (.map (some b)) (kv x) false).run P w=.ok (match posOf x f with|some q=>q.2|none=>z) w:=by
 obtain⟨es,c,hb,he⟩:=h;cases hp:posOf x f with
 | none=>simp[Instr.lookup,run_underlying ht,Kd hb,K.check,wD K he,hp,hz]
 | some q=>simp[Instr.lookup,run_underlying ht,Kd hb,K.check,wD K he,hp]
def qts(ht:P.underlying t=some (.map kt et))(hz:∀w,(zeroValue et).run P w=.ok z w)(K:p4 P kt kv){b:Nat}{f:List (α×Kk)}(h:mr kv w b f)(x:α): (Instr.lookup t (.map (some b)) (kv x) true).run P w=.ok (match posOf x f with|some q=>.tuple #[q.2,.bool true] | none=>.tuple #[z,.bool false]) w:=by
 obtain⟨es,c,hb,he⟩:=h;cases hp:posOf x f with
 | none=>simp[Instr.lookup,run_underlying ht,Kd hb,K.check,wD K he,hp,hz]
 | some q=>simp[Instr.lookup,run_underlying ht,Kd hb,K.check,wD K he,hp]
def qwJ{v:Kk}(ht:P.underlying t=some (.map kt et))(K:p4 P kt kv){b:Nat}{f:List (α×Kk)}(h:mr kv w b f)(x:α)(hx:posOf x f=none): ∃o,(Instr.mapUpdate t (.map (some b)) (kv x) v).run P w=.ok () (jy w b o)/\mr kv (jy w b o) b (f++[(x,v)]):=by obtain⟨es,c,hb,he⟩:=h;refine⟨.map (es.push ⟨kv x,v,c⟩) (c+1),?_,es.push ⟨kv x,v,c⟩,c+1,?_,?_⟩;simp[Instr.mapUpdate,run_underlying ht,Kd hb,K.check,wD K he,hx,Go.MapKept.run_setObj_map _ hb];rfl;rw[qX _ _ _ _ (fq hb),iP rfl];simp only[qT] at he⊢;simp[he]
def qwI{ty:Kl}(ht:P.underlying t=some (.map kt et))(K:p4 P kt kv){b:Nat}{f:List (α×Kk)}(h:mr kv w b f)(x:α): ∃o,(Builtin.delete_ #[t,kt] ty #[.map (some b),kv x]).run P w=.ok (.tuple #[]) (jy w b o)/\mr kv (jy w b o) b (match posOf x f with|some q=>f.eraseIdx q.1|none=>f):=by
 obtain⟨es,c,hb,he⟩:=h;cases hp:posOf x f with
 | none=>
  refine⟨.map es c,?_,es,c,?_,he⟩;simp[Builtin.delete_,run_underlying ht,Kd hb,K.check,wD K he,hp,Go.MapKept.run_setObj_map _ hb];rfl;rw[qX _ _ _ _ (fq hb),iP rfl]
 | some q=>
  refine⟨.map (es.eraseIdxIfInBounds q.1) c,?_,es.eraseIdxIfInBounds q.1,c,?_,?_⟩;simp[Builtin.delete_,run_underlying ht,Kd hb,K.check,wD K he,hp,Go.MapKept.run_setObj_map _ hb];rfl;rw[qX _ _ _ _ (fq hb),iP rfl];have h1:(es.eraseIdxIfInBounds q.1).toList=es.toList.eraseIdx q.1:=oM;rw[h1];simp only[qT] at he⊢;rw[xa,he,<- xa]
end
end
section
variable {S:Kr} {w0 w:Kj} {L:Kz} {P:Km}
def qt9(z:Kk)(c:Nat):jh [z] c=(List.replicate c z).toArray:=by apply Array.ext;simp[jh];intro i h1 h2;simp[jh,Nat.mod_one]
def ed.II{el:Kl}{bytes:Nat}{l c:Int}{K:Sl->WP}(h:ed S w0 w L)(h0:0<=l)(h1:l<=c)(h2:(bytes:Int)*c<=2^48)(h3:c<=2^48)(k:∀b w',b=w.heap.size->ed S w0 w' ((b,.c (List.replicate c.toNat z).toArray el)::L)->K ⟨some (dm b),l.toNat,c.toNat⟩ w'):nt el [z] 1 bytes l c w K:=by
 refine⟨⟨h0,h1,h2,h3⟩,?_⟩;have e:jh (if c.toNat*1=0 then [] else [z]) (c.toNat*1)=(List.replicate c.toNat z).toArray:=by rw[xV];split;rename_i hc;rw[hc];apply Array.ext' ;simp[jh];exact qt9 z _
 rw[e];exact k _ _ rfl (h.alloc _)
def ed.yw{t t' ty el b:Nat}{o dLen dCap:Nat}{src:Sl}{K:Int->WP}(h:ed S w0 w L)(i:Nat)(hi:L[i]?=some (b,.c cs T))(hu:P.underlying t=some (.slice el))(hs:(P.info? el).map (·.size)=some 1)(hlen:vs.length=Nat.min src.len dLen)(hvs:vs≠[]->∃a,src.a=some a/\∀(j:Nat) v,vs[j]?=some v->w.cell? (a.add j)=some v)(h1:∀v∈vs,v.oneCell'=true)(hfit:o+vs.length<=cs.size)(k:∀w',ed S w0 w' (L.set i (b,.c (ef cs o vs) T))->K vs.length w'): Pt.run [iY.one (Cell.int .i64)] ((Builtin.copy_ #[t,t'] ty #[.slice (some (dm b o)) dLen dCap,.slice src.a src.len src.cap]).run P w) K:=by
 by_cases h0:vs=[];subst h0;refine⟨((0:Nat):Int),w,run_copy_none w t t' ty el _ _ _ _ _ _ hu hs (oQ hlen.symm),?_⟩;have e:L.set i (b,.c (ef cs o []) T)=L:=by
  apply ext_getElem?;intro j;rw[List.getElem?_set];by_cases hij:i=j;subst hij;have:=(zP.1 hi).1;rw[iP rfl,hi];simp[this,ef];rw[iN hij]
 have:=k w (by rw[e];exact h);simpa using this;obtain⟨a,ha,hc⟩:=hvs h0;have hb:=h.at hi;have hrun:=run_copy_cells (P:=P) w t t' ty el b o dLen dCap a src.len src.cap vs hu hs hlen hc (λj hj=>by rw[kA hb];simp[show o+j<cs.size by omega]) (λj hj=>by simp[World.frozen?,hb]) h1;rw[AC hb] at hrun;refine⟨(vs.length:Int),_,?_,k _ (h.jy i hi)⟩;rw[ha];exact hrun
def DL{P:Km}{fn:Func}{w:Kj}{K:jx ts->WP}(hf:P.funcs[f]?=some fn)(hname:(fn.name== "runtime.NumGoroutine")=false)(hb:fn.body.isNone=true)(hn:Extern.findNext fn=none)(he:Extern.find fn=some e)(x:jx ts)(w':Kj)(hrun:(e args.toArray).run P w=.ok (gG ts x) w')(k:K x w'):Pt.ext P f args ts w K:=by refine⟨x,w',?_,k⟩;rw[run_callFunc_extern hf hname hb hn he];simp[hrun]
end
section
variable {S:Kr} {w0 w:Kj} {L:Kz} {P:Km}
def ed.kC{v:Kk}{pts:List iY}{body:jx pts->(Kj->(WP)->Prop)->(WP)->(Nat->WP)->WP}{done:Nat->WP}{jumps:List (Nat->WP)}{f:FuncId}{lb:List Kk}(h:ed S w0 w L)(hv:v=.func (.func f) #[] lb.toArray)(hb:jD P f=false)(k:∀(D l:Nat) (R B:Obj) (J E:Nat->Obj) (E0:Obj) (w1:Kj),l=w.heap.size+1->D=w.heap.size->Fr [] w w1->ed S w0 w1 ((l,R)::(D,.deferred (some []))::L)->pM P pts body l R B J-> call P f (.func (.yield l) #[] #[]::lb) [] w1 λ_ W=>(W.heap[l]?=some R/\done D (Pt.jy W l E0))\/∃i k,jumps[i]?=some k/\W.heap[l]?=some (J i)/\k D (Pt.jy W l (E i))):Pt.kC P v pts body done jumps w:=by refine⟨f,lb,hv,hb,λR B J E E0 hy=>?_⟩;have h1:=h.alloc (.deferred (some []));have h2:=h1.alloc R;rw[World.size_alloc] at h2;exact k _ _ R B J E E0 _ rfl rfl (((Fr.refl [] w).alloc _).alloc _) h2 hy
def ed.fl{D:Nat}{K:WP}(h:ed S w0 w L)(i:Nat)(hi:L[i]?=some (D,.deferred (some [])))(k:∀w',ed S w0 w' (L.set i (D,.deferred none))->K w'):Pt.fl D w K:=
 ⟨h.at hi,k _ (ed.jy h i hi)⟩
def rR{v:Kk}{lb:List Kk}{K:jx ts->WP}(hv:v=.func (.func f) #[] lb.toArray)(hb:jD P f=false)(k:call P f (args++lb) ts w K):eF P v args ts w K:=by subst hv;refine .inl ⟨f,args++lb,?_,k⟩;simp[Deferred.ofValue,invoke,Bm hb]
def nI{n b:Nat}{fr:KG}(hb:w.heap[b]?=some (.cells cs T fr))(x:List Kk)(h1:x.length=n)(hx:(cs.toList.drop off).take n=x)(k:K x):Pt.iF n (dm b off) w K:=
 ⟨x,⟨h1,vw hb _ off 0 (by rw[h1];exact hx)⟩,k⟩
def qAM{cs:List Cell}{K:HL cs->Prop}(x:HL cs)(h:vs.extract off (off+cs.length)=HL.mk cs x)(k:K x):Pt.kc cs vs off K:=⟨x,h,k⟩
def qB1{len cap n:Nat}{K:Addr->Prop}(h:n<=len)(k:K a):oW ⟨some a,len,cap⟩ n K:=⟨a,rfl,h,k⟩
def ed.uF{n:Nat}{K:Nat->WP}(h:ed S w0 w L)(hz:((P.info? t).bind (·.zero)).map (λz=>z.cells.size)=some n)(hn:vs.length=n)(h1:(vs.all Value.oneCell')=true)(k:∀b w',b=w.heap.size->ed S w0 w' ((b,.c vs.toArray t)::L)->K b w'):Pt.fv P t w λr w1=>ib (vs.length=n) (Pt.st (dm r) vs w1 λw2=>K r w2):=by obtain⟨z,hz,hzs⟩:=yU.1 hz;refine⟨z,hz,hn,?_⟩;have h2:=h.alloc (.cells z.cells t);exact ed.st h2 0 rfl vs.toArray (iJ oK) h1 (Nat.ble_eq_true_of_le oK) λw' h3 _=>k _ w' rfl h3
def ed.fv{t:Kl}{zs:List Kk}{K:Nat->WP}(h:ed S w0 w L)(hz:((P.info? t).bind (·.zero)).map (λz=>z.cells.toList)=some zs)(k:∀b w',b=w.heap.size->ed S w0 w' ((b,.c zs.toArray t)::L)->K b w'):Pt.fv P t w K:=by obtain⟨z,hz,hzs⟩:=yU.1 hz;refine⟨z,hz,?_⟩;have h2:=h.alloc (.cells z.cells t);have e:zs.toArray=z.cells:=(by rw[<- hzs]);rw[<- e] at h2⊢;exact k _ _ rfl h2
def qua{k:Nat}(hk:zero.length=k)(n:Nat):(jh (if n*k=0 then [] else zero) (n*k)).toList=(List.replicate n zero).flatten:=by
 by_cases h0:n*k=0;rw[iP h0,h0];rcases Nat.mul_eq_zero.1 h0 with h|h;subst h;simp[jh];have:zero=[]:=JV oK;subst this;simp[jh];rw[iN h0];have hpos:0<k:=Nat.pos_of_ne_zero λe=>h0 (by rw[e];simp);apply ext_getElem?;intro i;have hlen:∀n,((List.replicate n zero).flatten).length=n*k:=(by intro n;simp[hk]);have key:∀n i,i<n*k->((List.replicate n zero).flatten)[i]?=zero[i%k]?:=by
  intro n;induction n with
  | zero=>intro i hi;simp at hi
  | succ n ih=>
   intro i hi;rw[Nat.succ_mul] at hi;rw[replicate_succ,flatten_cons];by_cases hik:i<k;rw[xA oK,Nat.mod_eq_of_lt hik];rw[yZ oK,hk,ih (i-k) oK];congr 1;exact (Nat.mod_eq_sub_mod oK).symm
 have hl2:=hlen n;have hsz:(jh zero (n*k)).toList.length=n*k:=(by simp[jh]);by_cases hi:i<n*k;rw[key n i hi];have hlt:i%k<zero.length:=(by rw[hk];exact Nat.mod_lt _ hpos);have h1:(jh zero (n*k)).toList[i]?=some (zero.toArray[i%zero.toArray.size]!):=by simp[jh,hi]
 rw[h1,zA hlt];simp[hk,zA hlt];rw[yT (by rw[hsz];omega),yT (by rw[hl2];omega)]
def ed.G5{el:Kl}{size bytes:Nat}{l c:Int}{K:Sl->WP}(h:ed S w0 w L)(hk:zero.length=size)(h0:0<=l)(h1:l<=c)(h2:(bytes:Int)*c<=2^48)(h3:c<=2^48)(k:∀b w',b=w.heap.size->ed S w0 w' ((b,.c ((List.replicate c.toNat zero).flatten).toArray el)::L)->K ⟨some (dm b),l.toNat,c.toNat⟩ w'):nt el zero size bytes l c w K:=by
 refine⟨⟨h0,h1,h2,h3⟩,?_⟩;have e:=qua hk c.toNat;have e':jh (if c.toNat*size=0 then [] else zero) (c.toNat*size)=((List.replicate c.toNat zero).flatten).toArray:=by apply Array.ext';rw[e]
 rw[e'];exact k _ _ rfl (h.alloc _)
def ed.En{o:Obj}{K:Nat->WP}(h:ed S w0 w L)(k:∀b w',b=w.heap.size->Fr [] w w'->ed S w0 w' ((b,o)::L)->K b w'):Pt.new o w K:=
 k _ _ rfl ((Fr.refl [] w).alloc o) (h.alloc o)
def ed.st'{b:Nat}{K:WP}(h:ed S w0 w L)(i:Nat)(hi:L[i]?=some (b,.c cs T))(cs':Array Kk)(hcs:ef cs off vs=cs')(h1:(vs.all Value.oneCell')=true)(hl:off+vs.length<=cs.size)(k:∀w',ed S w0 w' (L.set i (b,.c cs' T))->Fr [b] w w'->K w'):Pt.st (dm b off) vs w K:=
 CS (w:=w) vs off 0 cs w K (h.at hi) h1 hl (k _ (by rw[Nat.add_zero,hcs];exact ed.jy h i hi) (rI (fq (h.at hi)) _))
def ed.sz{b:Nat}{K:WP}(h:ed S w0 w L)(i:Nat)(hi:L[i]?=some (b,.c cs T))(cs':Array Kk)(k:∀w',ed S w0 w' (L.set i (b,.c cs' T))->Fr [b] w w'->K w')(hcs:ef cs off vs=cs':=by rfl)(h1:(vs.all Value.oneCell')=true:=by rfl)(hl:off+vs.length<=cs.size:=by exact zO rfl):Pt.st (dm b off) vs w K:=h.st' i hi cs' hcs h1 hl k
def tU{b:Nat}{K:WP}(hb:w.heap[b]?=some (.c cs T))(cs':Array Kk)(hcs:ef cs off vs=cs')(h1:(vs.all Value.oneCell')=true)(hl:off+vs.length<=cs.size)(k:∀w',w'.heap[b]?=some (.c cs' T)->Fr [b] w w'->K w'):Pt.st (dm b off) vs w K:=
 CS (w:=w) vs off 0 cs w K hb h1 hl (k _ (by rw[Nat.add_zero,hcs,qX _ _ _ _ (fq hb),iP rfl]) (rI (fq hb) _))
def ed.mQ(h:ed S w0 w L):ed (L.map (·.1)) w w L:=⟨h.jz,h.nodup,.refl _ _,λp hp=>.inl (zZ hp)⟩
def ed.yp(h:ed S w0 w L)(T:Kr):ed (L.map (·.1)++T) w w L:=⟨h.jz,h.nodup,.refl _ _,λp hp=>.inl (zH _ (zZ hp))⟩
def ed.Ax{T:Kr}(h:ed S w0 w L)(hT:∀b∈T,b∈S\/w0.heap.size<=b)(f:Fr (L.map (·.1)++T) w w'):Fr S w0 w':=
 h.fr.j8 f λb hb=>by rcases zD.1 hb with hb|hb;obtain⟨p,hp,rfl⟩:=mem_map.1 hb;exact h.own p hp;exact hT b hb
def ed.AH{T:Kr}(h:ed S w0 w L)(hT:∀b∈T,b∈S\/w0.heap.size<=b)(k:ed (L.map (·.1)++T) w w' L'):ed S w0 w' L':=
 ⟨k.jz,k.nodup,h.Ax hT k.fr,λp hp=>by rcases k.own p hp with hb|hb;rcases zD.1 hb with hb|hb;obtain⟨q,hq,hqe⟩:=mem_map.1 hb;rw[<- hqe];exact h.own q hq;exact hT _ hb;exact .inr (zL h.fr.size hb)⟩
def ed.back(h:ed S w0 w L)(f:Fr (L.map (·.1)) w w'):Fr S w0 w':=
 h.fr.j8 f λb hb=>by obtain⟨p,hp,rfl⟩:=mem_map.1 hb;exact h.own p hp
def fieldsOf (P:Km) (t:Kl):Array Field:=match P.underlying t with|some (.struct fs)=>fs|_=>#[]
def qpi{a b:Kk}{o1 s0 s1:Nat}(hz:(P.info? t).bind (·.zero)=some z)(hu:P.underlying t=some (.struct (fieldsOf P t)))(hpl:∀w,((fieldsOf P t).mapM λf=>do pure (f.offset,<- sizeOf f.type):Sem (Array (KG))).run P w=.ok #[(0,s0),(o1,s1)] w)(ha:a.cells.size=s0)(hb:b.cells.size=s1)(ho:o1=s0)(hs:z.cells.size=s0+s1)(w:Kj):(Instr.build t #[(0,a),(1,b)]).run P w=.ok (.agg (a.cells.toList++b.cells.toList).toArray) w:=by
 have h1:=FL 0 a.cells z.cells;have h2:=FL o1 b.cells (ef z.cells 0 a.cells.toList);have key:Instr.fill ((#[(0,s0),(o1,s1)]:Array (KG))[·]?) z.cells [(0,a),(1,b)]=some (a.cells.toList++b.cells.toList).toArray:=by have e0:(#[(0,s0),(o1,s1)]:Array (KG))[0]?=some (0,s0):=rfl;have e1:(#[(0,s0),(o1,s1)]:Array (KG))[1]?=some (o1,s1):=rfl;simp only[Instr.fill,e0,e1];have c1:¬(decide (a.cells.size≠s0)||decide (0+a.cells.size>z.cells.size))=true:=(by simp[ha];omega);have c2:¬(decide (b.cells.size≠s1)||decide (o1+b.cells.size>(ef z.cells 0 a.cells.toList).size))=true:=(by simp[hb,pB];omega);rw[iN c1,h1,iN c2,h2];congr 1;apply Array.ext';rw[sL _ _ _ (by rw[pB,Ki];omega),sL _ _ _ (by rw[Ki];omega)];have hal:a.cells.toList.length=o1:=(by rw[Ki];omega);simp only[take_zero,xK,xU];rw[JN oK,zS oK,JT oP,xJ]
 simp only[Instr.build,JR,yi hz,JS,run_underlying hu,hpl,key,Sem.run_pure]
def eE.i4{α:Type}{enc:α->List Kk}{k:Nat}{S:Kr}{w:Kj}{s:Sl}{l:List α}(h:eE enc k S w s l)(henc:∀x,(enc x).length=k)(n:Nat){i:Int}{x:α}(hi:i=n)(hx:l[n]?=some x)(kk:K (enc x)):idx s i k λa=>Pt.iF k a w K:=by subst hi;obtain⟨hn,b,o,ha,_,cs,T,fr,hb,hc⟩:=h.at n hx;refine sJ ha ⟨oK,oK⟩ ?_;rw[zJ];exact nI hb _ (henc x) hc kk
def quq{α:Type}{enc:α->List Kk}{k:Nat}(henc:∀x,(enc x).length=k):∀(l:List α) (i:Nat) (x:α),i<l.length->ef (l.flatMap enc).toArray (i*k) (enc x)=((l.set i x).flatMap enc).toArray:=by
 intro l i x hi;have hsplit:l=l.take i++l[i]::l.drop (i+1):=(by rw[<- zY hi,xG]);have hset:l.set i x=l.take i++x::l.drop (i+1):=(by rw[set_eq_take_append_cons_drop,iP hi]);have hlen:((l.take i).flatMap enc).length=i*k:=(by rw[rQ henc,yM,xT oK]);have e1:l.flatMap enc=(l.take i).flatMap enc++enc l[i]++(l.drop (i+1)).flatMap enc:=by
  conv=>lhs;rw[hsplit]
  rw[yR,yI,zV]
 have e2:(l.set i x).flatMap enc=(l.take i).flatMap enc++enc x++(l.drop (i+1)).flatMap enc:=(by rw[hset,yR,yI,zV]);rw[e1,e2];generalize (l.take i).flatMap enc=A at hlen;generalize hX:enc l[i]=X;have hXl:X.length=(enc x).length:=(by rw[<- hX,henc,henc]);generalize (l.drop (i+1)).flatMap enc=Z;apply Array.ext';rw[sL _ _ _ oP];rw[<- hlen];have h1:(A++X++Z).take A.length=A:=(by rw[zV,JN (zM _),zS (zM _)]);have h2:(A++X++Z).drop (A.length+(enc x).length)=Z:=(by rw[<- hXl,<- zF,JU (zM _),JT (zM _),xK]);rw[h1,h2]
end
end
section
set_option linter.unusedSectionVars false
open Go List
section
variable {α:Type} [DecidableEq α] {P:Km} {w:Kj} {kt:Kl} {kv:α->Kk}
def kF (kv:α->Kk) (w:Kj) (b:Nat) (f:List (α×Kk)):Prop:=
 ∃es c,w.heap[b]?=some (.map es c)/\qT kv es.toList f/\(es.toList.map (·.born)).Pairwise (· < ·)/\∀e∈es.toList,e.born<c
def kF.at{b:Nat}{f:List (α×Kk)}(h:kF kv w b f):mr kv w b f:=by obtain⟨es,c,hb,he,_⟩:=h;exact⟨es,c,hb,he⟩
def kF.j0{w':Kj}{b:Nat}{S:Kr}{f:List (α×Kk)}(h:kF kv w b f)(k:Fr S w w')(h1:b∉S):kF kv w' b f:=by obtain⟨es,c,hb,he⟩:=h;exact⟨es,c,by rw[k.block b (fq hb) h1];exact hb,he⟩
def kF.lt{b:Nat}{f:List (α×Kk)}(h:kF kv w b f):b<w.heap.size:=by obtain⟨es,c,hb,_⟩:=h;exact fq hb
def kF.empty{b:Nat}(hb:w.heap[b]?=some (.map #[] 0)):kF kv w b []:=⟨#[],0,hb,rfl,oM,oM⟩
def kF.new{t et:Kl}{v:Kk}(ht:P.underlying t=some (.map kt et))(K:p4 P kt kv){b:Nat}{f:List (α×Kk)}(h:kF kv w b f)(x:α)(hx:posOf x f=none): ∃o,(Instr.mapUpdate t (.map (some b)) (kv x) v).run P w=.ok () (jy w b o)/\kF kv (jy w b o) b (f++[(x,v)]):=by obtain⟨es,c,hb,he,hs,hc⟩:=h;refine⟨.map (es.push ⟨kv x,v,c⟩) (c+1),?_,es.push ⟨kv x,v,c⟩,c+1,?_,?_,?_,?_⟩;simp[Instr.mapUpdate,run_underlying ht,Kd hb,K.check,wD K he,hx,Go.MapKept.run_setObj_map _ hb];rfl;rw[qX _ _ _ _ (fq hb),iP rfl];simp only[qT] at he⊢;simp[he];rw[Array.toList_push,xP,pairwise_append];refine⟨hs,oM,λa ha b hb'=>?_⟩;obtain⟨e,he',rfl⟩:=mem_map.1 ha;simp at hb';subst hb';exact hc e he';intro e he';rw[Array.toList_push] at he';rcases zD.1 he' with h1|h1;exact Nat.lt_succ_of_lt (hc e h1);simp at h1;subst h1;exact Nat.lt_succ_self _
def kF.del{t et ty:Kl}(ht:P.underlying t=some (.map kt et))(K:p4 P kt kv){b:Nat}{f:List (α×Kk)}(h:kF kv w b f)(x:α): ∃o,(Builtin.delete_ #[t,kt] ty #[.map (some b),kv x]).run P w=.ok (.tuple #[]) (jy w b o)/\kF kv (jy w b o) b (match posOf x f with|some q=>f.eraseIdx q.1|none=>f):=by
 obtain⟨es,c,hb,he,hs,hc⟩:=h;cases hp:posOf x f with
 | none=>
  refine⟨.map es c,?_,es,c,?_,he,hs,hc⟩;simp[Builtin.delete_,run_underlying ht,Kd hb,K.check,wD K he,hp,Go.MapKept.run_setObj_map _ hb];rfl;rw[qX _ _ _ _ (fq hb),iP rfl]
 | some q=>
  have h1:(es.eraseIdxIfInBounds q.1).toList=es.toList.eraseIdx q.1:=oM;refine⟨.map (es.eraseIdxIfInBounds q.1) c,?_,es.eraseIdxIfInBounds q.1,c,?_,?_,?_,?_⟩;simp[Builtin.delete_,run_underlying ht,Kd hb,K.check,wD K he,hp,Go.MapKept.run_setObj_map _ hb];rfl;rw[qX _ _ _ _ (fq hb),iP rfl];rw[h1];simp only[qT] at he⊢;rw[xa,he,<- xa];rw[h1,xa];exact hs.sublist (eraseIdx_sublist _ _);rw[h1];exact λe he'=>hc e (mem_of_mem_eraseIdx he')
end
end
section
open Go List
variable {B:Kr} {K:Sl->WP} {M news olds:List Kk} {T:Kl} {cs:Array Kk} {n:Nat} {z:Kk}
variable {w:Kj} {P:Km}
def EW{b:Nat}{o:Obj}(hb:w.heap[b]?=some o):ed [b] w w [(b,o)]:=⟨λp hp=>by rw[zE.1 hp];exact hb,oM,.refl _ _,λp hp=>.inl (by rw[zE.1 hp];simp)⟩
def quI{t tx ty e:Kl}{i:TypeInfo}{a:Addr}{cap m:Nat}{x:Kk}(ht:P.underlying t=some (.slice e))(hi:P.info? e=some i)(hz:i.zero=some z)(hsz:i.size=1)(hzs:z.cells.size=1)(hl:olds.length=n)(hc:∀(j:Nat) u,olds[j]?=some u->w.cell? (a.add j)=some u)(hs:Src P 1 tx x m news w)(hg:cap<n+m)(hbytes:(n+m)*i.bytes<=140737488355328)(h63:n+m<=9223372036854775807)(kk:∀b cs c w',b=w.heap.size->w'.heap[b]?=some (.c cs e)->Fr [] w w'->n+m<=c->c<=cs.size->cs.toList.take (n+m)=olds++news->K ⟨some (dm b),n+m,c⟩ w'): Pt.run dp ((Builtin.append_ #[t,tx] ty #[.slice (some a) n cap,x]).run P w) K:=by subst hl;have hnl:=hs.newsLen;rw[xV] at hnl;refine wL ⟨_,_,_⟩ _ (run_append_grow_src w t tx ty e i z ht hi hz (some a) olds.length cap olds (by rw[hsz];exact run_firstCells_some _ _ _ _ _ _ _ (by rw[xV]) (oQ hc)) x m _ (by rw[hsz];exact hs) hg oK (growslice_fits hg hbytes)) ?_;have hge:olds.length+m<=grownCap w (olds.length+m) cap e:=grownCap_ge w (olds.length+m) cap e;refine kk w.heap.size _ (grownCap w (olds.length+m) cap e) _ rfl (by rw[CR];exact iP rfl) ((Fr.refl [] w).drew.alloc _) hge ?_ ?_;rw[Array.size_append,E2,hzs,size_toArray,zF,hnl];generalize grownCap w (olds.length+m) cap e=G at hge⊢;omega;rw[Array.toList_append,JN (by simp[hnl]),zS (by simp[hnl])]
def Hm{t tn ty e:Kl}{i:TypeInfo}{kn kq:IntKind}{base:Option Addr}{cap k:Nat}(ht:P.underlying t=some (.slice e))(htn:P.underlying tn=some (.int kn))(hi:P.info? e=some i)(hz:i.zero=some z)(hsz:i.size=1)(hzs:z.cells.size=1)(hl:olds.length=n)(hb:base=none->olds=[])(hc:∀a,base=some a->∀(j:Nat) u,olds[j]?=some u->w.cell? (a.add j)=some u)(hk:0<k)(hg:cap<n+k)(hbytes:(n+k)*i.bytes<=140737488355328)(h63:n+k<=9223372036854775807)(kk:∀b cs c w',b=w.heap.size->w'.heap[b]?=some (.c cs e)->Fr [] w w'->n+k<=c->c<=cs.size->cs.toList.take n=olds->K ⟨some (dm b),n+k,c⟩ w'): Pt.run dp ((Builtin.append_ #[t,tn] ty #[.slice base n cap,.int kq k]).run P w) K:=by
 subst hl;have hold:(Builtin.firstCells i.size olds.length (.slice base olds.length cap)).run P w.drew=.ok olds.toArray w.drew:=by
  rw[hsz];cases base with
  | none=>rw[hb rfl];exact run_firstCells_none _ _ _ _ _
  | some a=>exact run_firstCells_some _ _ _ _ _ _ _ (by rw[xV]) (by simpa using hc a rfl)
 have hge:olds.length+k<=grownCap w (olds.length+k) cap e:=grownCap_ge w (olds.length+k) cap e;have hbk:k*i.bytes<=(olds.length+k)*i.bytes:=JZ _ oK;refine wL ⟨_,_,_⟩ _ (Lib.run_append_grow_zeros w t tn ty e i z kq kn ht htn hi hz base olds.length cap olds hold k hk oK hg oK oK (growslice_fits hg hbytes))<|kk w.heap.size _ (grownCap w (olds.length+k) cap e) _ rfl (by rw[CR];exact iP rfl) ((Fr.refl [] w).drew.alloc _) hge ?_ ?_;rw[Array.size_append,Array.size_append,E2,E2,hzs,size_toArray];generalize grownCap w (olds.length+k) cap e=G at hge⊢;omega;rw[Array.toList_append,Array.toList_append,zV];exact take_left' oM
def quJ{t tx ty e:Kl}{i:TypeInfo}{b cap m:Nat}{x:Kk}(hb:w.heap[b]?=some (.c cs T))(ht:P.underlying t=some (.slice e))(hi:P.info? e=some i)(hsz:i.size=1)(hs:Src P 1 tx x m news w)(hroom:n+m<=cap)(hcs:cap<=cs.size)(kk:∀w',w'.heap[b]?=some (.c (ef cs n news) T)->Fr [b] w w'->K ⟨some (dm b),n+m,cap⟩ w'): Pt.run dp ((Builtin.append_ #[t,tx] ty #[.slice (some (dm b)) n cap,x]).run P w) K:=by have hnl:=hs.newsLen;rw[xV] at hnl;refine wL ⟨_,_,_⟩ _ (run_append_room_src w t tx ty e i ht hi b 0 n cap x m _ (by rw[hsz];exact hs) hroom (λj hj=>?_) λj hj=>?_) ?_;rw[hnl] at hj;rw[hsz,kA hb];have:n+j<cs.size:=oK;simp[this];simp[World.frozen?,hb];rw[AC hb,hsz,xV,xU];exact kk _ (by rw[qX _ _ _ _ (fq hb),iP rfl]) (rI (fq hb) _)
def Ah{t t' ty el b:Nat}{o dLen dCap:Nat}{src:Sl}{vs:List Kk}{K:Int->WP}(hb:w.heap[b]?=some (.c cs T))(hu:P.underlying t=some (.slice el))(hs:(P.info? el).map (·.size)=some 1)(hlen:vs.length=Nat.min src.len dLen)(hvs:vs≠[]->∃a,src.a=some a/\∀(j:Nat) v,vs[j]?=some v->w.cell? (a.add j)=some v)(h1:∀v∈vs,v.oneCell'=true)(hfit:o+vs.length<=cs.size)(k:∀w',w'.heap[b]?=some (.c (ef cs o vs) T)->Fr [b] w w'->K vs.length w'): Pt.run [iY.one (Cell.int .i64)] ((Builtin.copy_ #[t,t'] ty #[.slice (some (dm b o)) dLen dCap,.slice src.a src.len src.cap]).run P w) K:=
 (EW hb).yw 0 rfl hu hs hlen hvs h1 hfit λw' h'=>k w' (h'.at (i:=0) rfl) h'.fr
def quO{t e ty b o c:Nat}{K:Unit->WP}(hb:w.heap[b]?=some (.c cs T))(ht:P.underlying t=some (.slice e))(hz:(P.info? e).bind (·.zero)=some z)(hzc:z.cells = #[z])(h1:z.oneCell'=true)(hn:0<n)(hfit:o+n<=cs.size)(k:∀w',w'.heap[b]?=some (.c (ef cs o (List.replicate n z)) T)->Fr [b] w w'->K () w'): Pt.run [] ((Builtin.clear_ #[t] ty #[.slice (some (dm b o)) n c]).run P w) K:=by refine⟨(),_,Lib.run_clear_slice w t e ty z ht (yi hz) hzc h1 b o n c hn (λj hj=>?_) λj hj=>?_,?_⟩;rw[kA hb];simp[show o+j<cs.size by omega];simp[World.frozen?,hb];rw[AC hb];exact k _ (by rw[qX _ _ _ _ (fq hb),iP rfl]) (rI (fq hb) _)
def qxN{i:Nat}{v:Kk}(hi:i<=M.length)(hL:M.length+1<=cs.size)(hM:cs.toList.take i=M.take i):(ef (ef cs (i+1) (M.drop i)) i [v]).toList.take (M.length+1)=M.take i++[v]++M.drop i:=by have hl:cs.toList.length=cs.size:=Ki;rw[sL _ _ _ (by rw[pB];simp;omega),sL _ _ _ oP];have e0:(cs.toList.take (i+1)++(M.drop i++cs.toList.drop (i+1+(M.drop i).length))).take i=M.take i:=(by rw[JN oP,take_take,xT oK,hM]);rw[zV (cs.toList.take (i+1)),e0];rw[drop_append,JT (l:=cs.toList.take (i+1)) (by rw[yM];exact Nat.min_le_left _ _),xK];have e:(List.take (i+1) cs.toList).length=i+1:=oP;rw[e,xO,Nat.sub_self,xH,<- zV];exact take_left' oP
def qxL{i:Nat}{v:Kk}(hi:i<=M.length)(hL:M.length+1<=cs.size)(hM:cs.toList.take i=M.take i):(ef (ef cs i [v]) (i+1) (M.drop i)).toList.take (M.length+1)=M.take i++[v]++M.drop i:=by have hl:cs.toList.length=cs.size:=Ki;rw[sL _ _ _ (by rw[pB];simp;omega),sL _ _ _ oP,hM];have e:(M.take i++[v]).length=i+1:=oP;rw[JN (l₁:=M.take i++[v]) (by rw[e];exact zM _),zS (l:=M.take i++[v]) (by rw[e];exact zM _)];exact take_left' oP
def qxp{i:Nat}(hi:i+1<=M.length)(hM:cs.toList.take M.length=M):(ef (ef cs i (M.drop (i+1))) (M.length-1) [z]).toList.take (M.length-1)=M.take i++M.drop (i+1):=by
 have hl:cs.toList.length=cs.size:=Ki;have hle:M.length<=cs.size:=by
  have:=Kg List.length hM;rw[yM,hl] at this;omega
 have hi':cs.toList.take i=M.take i:=by
  conv=>rhs;rw[<- hM]
  rw[take_take,xT oK]
 rw[sL _ _ _ (by rw[pB];simp;omega),sL _ _ _ oP,hi'];have e:(M.take i++M.drop (i+1)).length=M.length-1:=oP;rw[JN (l₁:=M.take i++M.drop (i+1)) (by rw[e];exact zM _),zS (l:=M.take i++M.drop (i+1)) (by rw[e];exact zM _),zV];exact take_left' e
def qo2{tS tR e:Kl}{i:TypeInfo}{a b oa ob la ca lb cb:Nat}{ca' cb':Array Kk}{Ta Tb:Kl}{fb:KG}(ht:P.underlying tS=some (.slice e))(hi:P.info? e=some i)(ha:w.heap[a]?=some (.c ca' Ta))(hb:w.heap[b]?=some (.cells cb' Tb fb))(hne:a≠b)(hpos:cb'.size≠0): (Extern.SlicesOverlaps.overlaps #[tS,tS] #[tR] #[.slice (some (dm a oa)) la ca,.slice (some (dm b ob)) lb cb]).run P w=.ok (.bool false) w:=
 Lib.run_overlaps_apart w tS tR e ht i.size (λw=>by simp[sizeOf,typeInfo,hi]) (dm a oa) (dm b ob) la ca lb cb hne Ta Tb ca'.size cb'.size (by simp[World.shape?,ha]) (by simp[World.shape?,hb]) hpos (by simp[World.frozen?,ha]) (by simp[World.frozen?,ha])
section
variable {α:Type} {enc:α->List Kk} {e:α->Kk} {k:Nat}
def CP(he:∀x,enc x=[e x])(l:List α):l.flatMap enc=l.map e:=by
 induction l with
 | nil=>rfl
 | cons a l ih=>rw[yI,ih,he];rfl
def fB.ptr{s:Sl}{l:List α}(h:fB enc 1 w s l B)(hl:l≠[]):∃b cs T,B=[b]/\s.a=some (dm b)/\w.heap[b]?=some (.c cs T)/\s.len=l.length/\s.len<=s.cap/\s.cap<=cs.size/\cs.toList.take l.length=l.flatMap enc:=by rcases h with ⟨_,h,_⟩|⟨b,o,cs,T,h1,rfl,h3,h4,h5,h6,h7,h8⟩;exact absurd h hl;exact⟨b,cs,T,h1,h3,h4,h5,h6,oK,by simpa using h8⟩
def qro{i:Nat}{v:Kk}(hi:i<M.length)(hM:cs.toList.take M.length=M):(ef cs i [v]).toList.take M.length=M.set i v:=by
 have hl:cs.toList.length=cs.size:=Ki;have hle:M.length<=cs.size:=by
  have:=Kg List.length hM;rw[yM,hl] at this;omega
 have hi':cs.toList.take i=M.take i:=by
  conv=>rhs;rw[<- hM]
  rw[take_take,xT oK]
 have hd:(cs.toList.drop (i+1)).take (M.length-(i+1))=M.drop (i+1):=by
  conv=>rhs;rw[<- hM]
  rw[drop_take]
 rw[sL _ _ _ oP,hi',set_eq_take_append_cons_drop,iP hi,zV,take_append,zS (by rw[yM];omega)];have e1:M.length-(M.take i).length=(M.length-(i+1))+1:=oP;rw[e1,singleton_append,take_succ_cons];simp only[xO];rw[hd]
def fB.DJ(he:∀x,enc x=[e x]){s:Sl}{l:List α}{b:Nat}{i:Nat}{x:α}{v:Kk}{K:WP}(h:fB enc 1 w s l [b])(hi:i<l.length)(hv:v=e x)(h1:v.oneCell'=true)(kk:∀w',fB enc 1 w' s (l.set i x) [b]->Fr [b] w w'->K w'):Pt.st (dm b i) [v] w K:=by
 subst hv;obtain⟨b',cs,T,hB,h2,h3,h4,h5,h6,h7⟩:=h.ptr (λe=>by rw[e] at hi;exact absurd hi (vA _));cases hB;refine tU h3 _ rfl (by simp[h1]) oP λw' hb f=>kk w' (.inr ⟨b,0,_,T,rfl,rfl,h2,hb,by rw[xI];exact h4,h5,by rw[pB];omega,?_⟩) f;have hm:=CP he l
 have:=qro (cs:=cs) (M:=l.flatMap enc) (i:=i) (v:=e x) (by rw[hm,zK];exact hi) (by rw[hm,zK,<- hm];exact h7);rw[xH,xV,xI,CP he,map_set,<- hm];rw[hm,zK] at this;rw[hm];exact this
def fB.yy{s:Sl}{l:List α}{i:Int}{K:Addr->Prop}(h:fB enc 1 w s l B)(hi:i=n)(hn:n<l.length)(kk:∀b,B=[b]->K (dm b n)):idx s i 1 K:=by
 obtain⟨b,cs,T,hB,h2,h3,h4,h5,h6,h7⟩:=h.ptr (λe=>by rw[e] at hn;exact absurd hn (vA _));subst hi;refine sJ h2 ⟨oK,oK⟩ ?_;have:=kk b hB;simpa using this
def fB.one(he:∀x,enc x=[e x]){b c:Nat}{l:List α}(hb:w.heap[b]?=some (.c cs T))(hn:n=l.length)(hc:n<=c)(hcs:c<=cs.size)(hl:cs.toList.take l.length=l.map e):fB enc 1 w ⟨some (dm b),n,c⟩ l [b]:=
 .inr ⟨b,0,cs,T,rfl,rfl,rfl,hb,hn,hc,by simpa using hcs,by rw[xH,xV,CP he];exact hl⟩
end
end
end Go.Pt
