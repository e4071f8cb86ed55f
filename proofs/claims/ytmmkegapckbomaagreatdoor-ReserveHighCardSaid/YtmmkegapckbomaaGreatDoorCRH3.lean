/- Texts PtR, FormsF, FlA, FlB, FlC, FormsW, SuA, SuB, SuC, FormsG, PtS, PrA, PrB, PrC, PrD, PrE, PrF, PrG, FormsD, DkA, DkB, DkC, DkD, PmA, PrH, FlD, PmB, PrI, NdA, LwT: contracts of the program's functions, one behind the other. Conditions: those that stand in each line. -/
import Derived.Test.YtmmkegapckbomaaGreatDoorCRH2
import Derived.Test.YtmmkegapckbomaaGreatDoorCRH1
import Derived.Test.YtmmkegapckbomaaGreatDoorProg
import Derived.KernelRfl
import Derived.Laws.IdiomRangeMap
import Derived.Lib.Bytealg
import Derived.Lib.BytesEntry
section
set_option linter.unusedVariables false
namespace Go.Pt
open Go
variable {S:List Nat} {w0 w:World} {L:List (Nat×Obj)} {P:Program}
theorem Own.rng {v:Value} {pts:List Ty1} {body:ElR pts->(World->(World->Prop)->Prop)->(World->Prop)->(Nat->World->Prop)->World->Prop} {done:Nat->World->Prop} {jumps:List (Nat->World->Prop)} {f:FuncId} {lb:List Value} (h:Own S w0 w L) (hv:v=.func (.func f) #[] lb.toArray) (hb:bodyless P f=false)
  (k:∀ (D l:Nat) (R B:Obj) (J E:Nat->Obj) (E0:Obj) (w1:World),l=w.heap.size+1->D=w.heap.size->Fr [] w w1->Own S w0 w1 ((l,R)::(D,.deferred (some []))::L)->yieldsBy P pts body l R B J->
   call P f (.func (.yield l) #[] #[]::lb) [] w1 (fun _ W=>(W.heap[l]?=some R/\done D (Pt.upd W l E0))\/∃ i k,jumps[i]?=some k/\W.heap[l]?=some (J i)/\k D (Pt.upd W l (E i)))):Pt.rng P v pts body done jumps w:=by
 refine ⟨f,lb,hv,hb,fun R B J E E0 hy=>?_⟩
 have h1:=h.alloc (.deferred (some []))
 have h2:=h1.alloc R
 rw [World.size_alloc] at h2
 exact k _ _ R B J E E0 _ rfl rfl (((Fr.refl [] w).alloc _).alloc _) h2 hy
theorem Own.undefer {D:Nat} {K:World->Prop} (h:Own S w0 w L) (i:Nat) (hi:L[i]?=some (D,.deferred (some []))) (k:∀ w',Own S w0 w' (L.set i (D,.deferred none))->K w'):Pt.undefer D w K:=
 ⟨h.at hi,k _ (Own.upd h i hi)⟩
theorem qba {v:Value} {f:FuncId} {lb args:List Value} {ts:List Ty1} {K:ElR ts->World->Prop} (hv:v=.func (.func f) #[] lb.toArray) (hb:bodyless P f=false) (k:call P f (args++lb) ts w K):callV P v args ts w K:=by
 subst hv
 refine .inl ⟨f,args++lb,?_,k⟩
 simp [Deferred.ofValue,invoke,qbD hb]
theorem qbT {n b off:Nat} {cs:Array Value} {T:TypeId} {fr:Nat×Nat} {K:List Value->Prop} (hb:w.heap[b]?=some (.cells cs T fr)) (x:List Value) (h1:x.length=n) (hx:(cs.toList.drop off).take n=x) (k:K x):Pt.ldV n ⟨b,off,none⟩ w K:=
 ⟨x,⟨h1,qbd hb _ off 0 (by rw [h1]; exact hx)⟩,k⟩
theorem qtg {cs:List Cell} {vs:List Value} {off:Nat} {K:HL cs->Prop} (x:HL cs) (h:vs.extract off (off+cs.length)=HL.mk cs x) (k:K x):Pt.fldA cs vs off K:=⟨x,h,k⟩
theorem qua {a:Addr} {len cap n:Nat} {K:Addr->Prop} (h:n<=len) (k:K a):s2a ⟨some a,len,cap⟩ n K:=⟨a,rfl,h,k⟩
theorem Own.newFill {t:TypeId} {vs:List Value} {n:Nat} {K:Nat->World->Prop} (h:Own S w0 w L) (hz:((P.info? t).bind (·.zero)).map (fun z=>z.cells.size)=some n) (hn:vs.length=n) (h1:(vs.all Value.oneCell')=true)
  (k:∀ b w',b=w.heap.size->Own S w0 w' ((b,.cells vs.toArray t (0,0))::L)->K b w'):Pt.newZ P t w fun r w1=>chk (vs.length=n) (Pt.st ⟨r,0,none⟩ vs w1 fun w2=>K r w2):=by
 obtain ⟨z,hz,hzs⟩:=Option.map_eq_some_iff.1 hz
 refine ⟨z,hz,hn,?_⟩
 have h2:=h.alloc (.cells z.cells t)
 refine Own.st h2 0 rfl vs.toArray (qc9 (by omega)) h1 (Nat.ble_eq_true_of_le (by omega)) fun w' h3 _=>?_
 exact k _ w' rfl h3
theorem Own.newZ {t:TypeId} {zs:List Value} {K:Nat->World->Prop} (h:Own S w0 w L) (hz:((P.info? t).bind (·.zero)).map (fun z=>z.cells.toList)=some zs)
  (k:∀ b w',b=w.heap.size->Own S w0 w' ((b,.cells zs.toArray t (0,0))::L)->K b w'):Pt.newZ P t w K:=by
 obtain ⟨z,hz,hzs⟩:=Option.map_eq_some_iff.1 hz
 refine ⟨z,hz,?_⟩
 have h2:=h.alloc (.cells z.cells t)
 have e:zs.toArray=z.cells:=by rw [<- hzs]
 rw [<- e] at h2 ⊢
 exact k _ _ rfl h2
theorem qoy {zero:List Value} {k:Nat} (hk:zero.length=k) (n:Nat):(mkCells (if n*k=0 then [] else zero) (n*k)).toList=(List.replicate n zero).flatten:=by
 by_cases h0:n*k=0
 ·rw [if_pos h0,h0]
  rcases Nat.mul_eq_zero.1 h0 with h | h
  ·subst h; simp [mkCells]
  ·have:zero=[]:=List.eq_nil_of_length_eq_zero (by omega)
   subst this
   simp [mkCells]
 ·rw [if_neg h0]
  have hpos:0<k:=Nat.pos_of_ne_zero fun e=>h0 (by rw [e]; simp)
  apply List.ext_getElem?
  intro i
  have hlen:∀ n,((List.replicate n zero).flatten).length=n*k:=by intro n; simp [hk]
  have key:∀ n i,i<n*k->((List.replicate n zero).flatten)[i]?=zero[i%k]?:=by
   intro n
   induction n with
   | zero=>intro i hi; simp at hi
   | succ n ih=>
    intro i hi
    rw [Nat.succ_mul] at hi
    rw [List.replicate_succ,List.flatten_cons]
    by_cases hik:i<k
    ·rw [List.getElem?_append_left (by omega),Nat.mod_eq_of_lt hik]
    ·rw [List.getElem?_append_right (by omega),hk,ih (i-k) (by omega)]
     congr 1
     exact (Nat.mod_eq_sub_mod (by omega)).symm
  have hl2:=hlen n
  have hsz:(mkCells zero (n*k)).toList.length=n*k:=by simp [mkCells]
  by_cases hi:i<n*k
  ·rw [key n i hi]
   have hlt:i%k<zero.length:=by rw [hk]; exact Nat.mod_lt _ hpos
   have h1:(mkCells zero (n*k)).toList[i]?=some (zero.toArray[i%zero.toArray.size]!):=by
    simp [mkCells,hi]
   rw [h1,List.getElem?_eq_getElem hlt]
   simp [hk,List.getElem?_eq_getElem hlt]
  ·rw [List.getElem?_eq_none (by rw [hsz]; omega),List.getElem?_eq_none (by rw [hl2]; omega)]
theorem Own.mkN {el:TypeId} {zero:List Value} {size bytes:Nat} {l c:Int} {K:Sl->World->Prop} (h:Own S w0 w L) (hk:zero.length=size) (h0:0<=l) (h1:l<=c) (h2:(bytes:Int)*c<=2^48) (h3:c<=2^48)
  (k:∀ b w',b=w.heap.size->Own S w0 w' ((b,.cells ((List.replicate c.toNat zero).flatten).toArray el (0,0))::L)->K ⟨some ⟨b,0,none⟩,l.toNat,c.toNat⟩ w'):mkS el zero size bytes l c w K:=by
 refine ⟨⟨h0,h1,h2,h3⟩,?_⟩
 have e:=qoy hk c.toNat
 have e':mkCells (if c.toNat*size=0 then [] else zero) (c.toNat*size)=((List.replicate c.toNat zero).flatten).toArray:=by
  apply Array.ext'
  rw [e]
 rw [e']
 exact k _ _ rfl (h.alloc _)
theorem Own.new' {o:Obj} {K:Nat->World->Prop} (h:Own S w0 w L) (k:∀ b w',b=w.heap.size->Fr [] w w'->Own S w0 w' ((b,o)::L)->K b w'):Pt.new o w K:=
 k _ _ rfl ((Fr.refl [] w).alloc o) (h.alloc o)
theorem Own.st' {b off:Nat} {cs:Array Value} {T:TypeId} {vs:List Value} {K:World->Prop} (h:Own S w0 w L) (i:Nat) (hi:L[i]?=some (b,.cells cs T (0,0))) (cs':Array Value) (hcs:splice cs off vs=cs') (h1:(vs.all Value.oneCell')=true) (hl:off+vs.length<=cs.size)
  (k:∀ w',Own S w0 w' (L.set i (b,.cells cs' T (0,0)))->Fr [b] w w'->K w'):Pt.st ⟨b,off,none⟩ vs w K:=
 qgw (w:=w) vs off 0 cs w K (h.at hi) h1 hl (k _ (by rw [Nat.add_zero,hcs]; exact Own.upd h i hi) (qb3 (qac (h.at hi)) _))
theorem qhm {b off:Nat} {cs:Array Value} {T:TypeId} {vs:List Value} {K:World->Prop} (hb:w.heap[b]?=some (.cells cs T (0,0))) (cs':Array Value) (hcs:splice cs off vs=cs') (h1:(vs.all Value.oneCell')=true) (hl:off+vs.length<=cs.size)
  (k:∀ w',w'.heap[b]?=some (.cells cs' T (0,0))->Fr [b] w w'->K w'):Pt.st ⟨b,off,none⟩ vs w K:=
 qgw (w:=w) vs off 0 cs w K hb h1 hl (k _ (by rw [Nat.add_zero,hcs,qaz _ _ _ _ (qac hb),if_pos rfl]) (qb3 (qac hb) _))
theorem Own.rebase (h:Own S w0 w L):Own (L.map (·.1)) w w L:=⟨h.blk,h.nodup,.refl _ _,fun p hp=>.inl (List.mem_map_of_mem hp)⟩
theorem Own.rebaseS (h:Own S w0 w L) (T:List Nat):Own (L.map (·.1)++T) w w L:=⟨h.blk,h.nodup,.refl _ _,fun p hp=>.inl (List.mem_append_left _ (List.mem_map_of_mem hp))⟩
theorem Own.backS {w':World} {T:List Nat} (h:Own S w0 w L) (hT:∀ b∈T,b∈S\/w0.heap.size<=b) (f:Fr (L.map (·.1)++T) w w'):Fr S w0 w':=
 h.fr.trans' f fun b hb=>by
  rcases List.mem_append.1 hb with hb | hb
  ·obtain ⟨p,hp,rfl⟩:=List.mem_map.1 hb
   exact h.own p hp
  ·exact hT b hb
theorem Own.rejoin {w':World} {T:List Nat} {L':List (Nat×Obj)} (h:Own S w0 w L) (hT:∀ b∈T,b∈S\/w0.heap.size<=b) (k:Own (L.map (·.1)++T) w w' L'):Own S w0 w' L':=
 ⟨k.blk,k.nodup,h.backS hT k.fr,fun p hp=>by
  rcases k.own p hp with hb | hb
  ·rcases List.mem_append.1 hb with hb | hb
   ·obtain ⟨q,hq,hqe⟩:=List.mem_map.1 hb
    rw [<- hqe]; exact h.own q hq
   ·exact hT _ hb
  ·exact .inr (Nat.le_trans h.fr.size hb)⟩
theorem Own.back {w':World} {L':List (Nat×Obj)} (h:Own S w0 w L) (f:Fr (L.map (·.1)) w w'):Fr S w0 w':=
 h.fr.trans' f fun b hb=>by
  obtain ⟨p,hp,rfl⟩:=List.mem_map.1 hb
  exact h.own p hp
def fieldsOf (P:Program) (t:TypeId):Array Field:=match P.underlying t with | some (.struct fs)=>fs | _=>#[]
theorem qpM {t:TypeId} {z a b:Value} {o1 s0 s1:Nat} (hz:(P.info? t).bind (·.zero)=some z) (hu:P.underlying t=some (.struct (fieldsOf P t))) (hpl:∀ w,((fieldsOf P t).mapM fun f=>do pure (f.offset,<- sizeOf f.type):Sem (Array (Nat×Nat))).run P w=.ok #[(0,s0),(o1,s1)] w)
  (ha:a.cells.size=s0) (hb:b.cells.size=s1) (ho:o1=s0) (hs:z.cells.size=s0+s1) (w:World):(Instr.build t #[(0,a),(1,b)]).run P w=.ok (.agg (a.cells.toList++b.cells.toList).toArray) w:=by
 have h1:=qfA 0 a.cells z.cells
 have h2:=qfA o1 b.cells (splice z.cells 0 a.cells.toList)
 have key:Instr.fill ((#[(0,s0),(o1,s1)]:Array (Nat×Nat))[·]?) z.cells [(0,a),(1,b)]=some (a.cells.toList++b.cells.toList).toArray:=by
  have e0:(#[(0,s0),(o1,s1)]:Array (Nat×Nat))[0]?=some (0,s0):=rfl
  have e1:(#[(0,s0),(o1,s1)]:Array (Nat×Nat))[1]?=some (o1,s1):=rfl
  simp only [Instr.fill,e0,e1]
  have c1:¬ (decide (a.cells.size≠s0)||decide (0+a.cells.size>z.cells.size))=true:=by simp [ha]; omega
  have c2:¬ (decide (b.cells.size≠s1)||decide (o1+b.cells.size>(splice z.cells 0 a.cells.toList).size))=true:=by simp [hb,qan]; omega
  rw [if_neg c1,h1,if_neg c2,h2]
  congr 1
  apply Array.ext'
  rw [qar _ _ _ (by rw [qan,Array.length_toList]; omega),qar _ _ _ (by rw [Array.length_toList]; omega)]
  have hal:a.cells.toList.length=o1:=by rw [Array.length_toList]; omega
  simp only [List.take_zero,List.nil_append,Nat.zero_add]
  rw [List.take_append_of_le_length (by omega),List.take_of_length_le (by omega),List.drop_of_length_le (by simp; omega),List.append_nil]
 simp only [Instr.build,Sem.run_bind,qaG hz,Result.andThen_ok,run_underlying hu,hpl,key,Sem.run_pure]
theorem Rds.getV {α:Type} {enc:α->List Value} {k:Nat} {S:List Nat} {w:World} {s:Sl} {l:List α} (h:Rds enc k S w s l) (henc:∀ x,(enc x).length=k) (n:Nat) {i:Int} {x:α} {K:List Value->Prop} (hi:i=n) (hx:l[n]?=some x) (kk:K (enc x)):idx s i k fun a=>Pt.ldV k a w K:=by
 subst hi
 obtain ⟨hn,b,o,ha,_,cs,T,fr,hb,hc⟩:=h.at n hx
 refine qbk ha ⟨by omega,by omega⟩ ?_
 rw [Int.toNat_natCast]
 exact qbT hb _ (henc x) hc kk
theorem qoA {α:Type} {enc:α->List Value} {k:Nat} (henc:∀ x,(enc x).length=k):∀ (l:List α) (i:Nat) (x:α),i<l.length->splice (l.flatMap enc).toArray (i*k) (enc x)=((l.set i x).flatMap enc).toArray:=by
 intro l i x hi
 have hsplit:l=l.take i++l[i]::l.drop (i+1):=by rw [<- List.drop_eq_getElem_cons hi,List.take_append_drop]
 have hset:l.set i x=l.take i++x::l.drop (i+1):=by rw [List.set_eq_take_append_cons_drop,if_pos hi]
 have hlen:((l.take i).flatMap enc).length=i*k:=by rw [qbw henc,List.length_take,Nat.min_eq_left (by omega)]
 have e1:l.flatMap enc=(l.take i).flatMap enc++enc l[i]++(l.drop (i+1)).flatMap enc:=by
  conv=>lhs; rw [hsplit]
  rw [List.flatMap_append,List.flatMap_cons,List.append_assoc]
 have e2:(l.set i x).flatMap enc=(l.take i).flatMap enc++enc x++(l.drop (i+1)).flatMap enc:=by
  rw [hset,List.flatMap_append,List.flatMap_cons,List.append_assoc]
 rw [e1,e2]
 generalize (l.take i).flatMap enc=A at hlen
 generalize hX:enc l[i]=X
 have hXl:X.length=(enc x).length:=by rw [<- hX,henc,henc]
 generalize (l.drop (i+1)).flatMap enc=Z
 apply Array.ext'
 rw [qar _ _ _ (by simp; omega)]
 rw [<- hlen]
 have h1:(A++X++Z).take A.length=A:=by rw [List.append_assoc,List.take_append_of_le_length (Nat.le_refl _),List.take_of_length_le (Nat.le_refl _)]
 have h2:(A++X++Z).drop (A.length+(enc x).length)=Z:=by
  rw [<- hXl,<- List.length_append,List.drop_append_of_le_length (Nat.le_refl _),List.drop_of_length_le (Nat.le_refl _),List.nil_append]
 rw [h1,h2]
end Go.Pt
end
section
set_option linter.unusedVariables false
set_option maxRecDepth 100000
namespace Go.Proofs.YtmmkegapckbomaaGreatDoor
open Go Go.Pt
def qeP (free:Int) (K:Int->World->Prop) (w:World):Prop:=cond (decide (free<1)) (K 0 w) (K (IntKind.wrap .i64 (IntKind.wrap .i64 (Int.tdiv (IntKind.wrap .i64 (free-1)) 124)+1)) w)
def qk9:List Ann:=[.n,.n,.n,.n,.n]
theorem qiL {free w K} (hF:qeP free K w):call Tryz.prog 101 [.int .i64 free] [.one (.int .i64)] w K:=qad (an:=qk9) Tryz.func101 hF
def qdV (l:Sl) (K:Bool->World->Prop) (w:World):Prop:=loop (Int×Int) (fun a (b:Int×Int) c=>cond (decide (b.snd<(↑l.len:Int))) (idx l b.snd 1 fun d=>ld (.int .u32) d c fun (e:Int)=>cond (decide (e<=b.fst)) (K false c) (a ((e,IntKind.wrap .i64 (b.snd+1))) c)) (K true c)) ((1,0)) w
def qjX:List Ann:=[.n,.n,.n,.n,.l [(3,.one (.int .u32)),(8,.one (.int .i64))],.n,.n,.n,.n,.n,.n,.n,.n]
theorem qhJ {l w K} (hF:qdV l K w):call Tryz.prog 164 [.slice l.a l.len l.cap] [.one .bool] w K:=qad (an:=qjX) Tryz.func164 hF
def qfM (b:Sl) (n:Int) (K:Sl->World->Prop) (w:World):Prop:=new (Obj.cells #[.int .u8 (IntKind.wrap .u8 (Int.fdiv n (2^24))),.int .u8 (IntKind.wrap .u8 (Int.fdiv n (2^16))),.int .u8 (IntKind.wrap .u8 (Int.fdiv n (2^8))),.int .u8 (IntKind.wrap .u8 n)] 5) w fun c d=>run [.one .slice] ((Builtin.append_ (#[23,23]) 23 (#[.slice b.a b.len b.cap,.slice (some ⟨c,0,none⟩) 4 4])).run Tryz.prog d) fun e f=>K e f
def qmi:List Ann:=[.n,.n]
theorem qjH {b n w K} (hF:qfM b n K w):call Tryz.prog 166 [.slice b.a b.len b.cap,.int .u32 n] [.one .slice] w K:=qad (an:=qmi) Tryz.func166 hF
def qdU (l:Sl) (pages:Int) (K:Value->World->Prop) (w:World):Prop:=new (Obj.cells #[.slice l.a l.len l.cap] 92) w fun b c=>new (Obj.cells #[.int .i64 pages] 3) c fun d e=>K (Value.func (Fn.func 208) #[] #[.pointer (some ⟨d,0,none⟩),.pointer (some ⟨b,0,none⟩)]) e
def qjr:List Ann:=[.n,.n]
theorem qhG {l pages w K} (hF:qdU l pages K w):call Tryz.prog 165 [.slice l.a l.len l.cap,.int .i64 pages] [.one .any] w K:=qad (an:=qjr) Tryz.func165 hF
def qcO (yield:Value) (cap0:Addr) (cap1:Addr) (K:Unit->World->Prop) (w:World):Prop:=ld (.int .i64) cap0 w fun (b:Int)=>loop (Int) (fun c (d:Int) e=>cond (decide (d<b)) (ld .slice cap1 e fun f=>ld .slice cap1 e fun g=>slc g none (some (if 123<(↑f.len:Int) then 123 else (↑f.len:Int))) none 1 fun h=>callV Tryz.prog yield ([.int .i64 d,.slice h.a h.len h.cap]) ([.one .bool]) e fun (i:Bool) j=>cond (!i) (K () j) (ld .slice cap1 j fun k=>slc k (some (if 123<(↑f.len:Int) then 123 else (↑f.len:Int))) none none 1 fun l=>st cap1 ([.slice l.a l.len l.cap]) j fun m=>c (IntKind.wrap .i64 (d+1)) m)) (K () e)) 0 w
def qgd:List Ann:=[.n,.l [(7,.one (.int .i64))],.n,.n,.n,.n,.n,.n,.n]
theorem qeZ {yield cap0 cap1 w K} (hF:qcO yield cap0 cap1 K w):call Tryz.prog 208 [yield,.pointer (some cap0),.pointer (some cap1)] [] w K:=qad (an:=qgd) Tryz.func208 hF
def qdw (numbers:Sl) (pages:Sl) (K:(Sl×Int)->World->Prop) (w:World):Prop:=new (Obj.cells #[.slice pages.a pages.len pages.cap] 92) w fun b c=>join (Bool) (fun d=>call Tryz.prog 164 ([.slice numbers.a numbers.len numbers.cap]) ([.one .bool]) c fun (e:Bool) f=>cond (!e) (d true f) (ld .slice ⟨b,0,none⟩ f fun g=>d (decide ((↑numbers.len:Int)>IntKind.wrap .i64 (123*(↑g.len:Int)))) f)) fun (h:Bool) i=>cond h (K (({ a:=none,len:=0,cap:=0 },1)) i) (ld .slice ⟨b,0,none⟩ i fun j=>loop (Sl×Int×Int) (fun k (l:Sl×Int×Int) m=>cond (decide (l.snd.snd<(↑j.len:Int))) (idx j l.snd.snd 1 fun n=>ld (.int .u32) n m fun (o:Int)=>cond (decide (o<2)) (K (({ a:=none,len:=0,cap:=0 },1)) m) (k ((l.fst,l.snd.fst,IntKind.wrap .i64 (l.snd.snd+1))) m)) (new (Obj.cells #[.slice none 0 0] 22) m fun p q=>ld .slice ⟨b,0,none⟩ q fun r=>call Tryz.prog 165 ([.slice numbers.a numbers.len numbers.cap,.int .i64 (↑r.len:Int)]) ([.one .any]) q fun (s:Value) t=>rng Tryz.prog s [.one (.int .i64),.one .slice] (fun (u:Int×Sl) (v:World->(World->Prop)->Prop) (x:World->Prop) y z=>v z fun A=>join (Int) (fun B=>ld .slice ⟨b,0,none⟩ A fun C=>cond (decide (IntKind.wrap .i64 (u.fst+1)<(↑C.len:Int))) (ld .slice ⟨b,0,none⟩ A fun D=>idx D (IntKind.wrap .i64 (u.fst+1)) 1 fun E=>ld (.int .u32) E A fun (F:Int)=>B F A) (B 0 A)) fun (G:Int) H=>call Tryz.prog 166 ([.slice none 0 0,.int .u32 G]) ([.one .slice]) H fun I J=>new (Obj.cells #[.int .u8 (IntKind.wrap .u8 (Int.fdiv ((↑u.snd.len:Int)) (2^8))),.int .u8 (IntKind.wrap .u8 (↑u.snd.len:Int))] 5) J fun L M=>run [.one .slice] ((Builtin.append_ (#[23,23]) 23 (#[.slice I.a I.len I.cap,.slice (some ⟨L,0,none⟩) 2 2])).run Tryz.prog M) fun N O=>loop (Sl×Int) (fun P (Q:Sl×Int) R=>cond (decide (Q.snd<(↑u.snd.len:Int))) (idx u.snd Q.snd 1 fun S=>ld (.int .u32) S R fun (T:Int)=>call Tryz.prog 166 ([.slice Q.fst.a Q.fst.len Q.fst.cap,.int .u32 T]) ([.one .slice]) R fun U V=>P ((U,IntKind.wrap .i64 (Q.snd+1))) V) (ld .slice ⟨p,0,none⟩ R fun W=>new (Obj.cells #[.slice Q.fst.a Q.fst.len Q.fst.cap] 23) R fun X Y=>run [.one .slice] ((Builtin.append_ (#[22,22]) 22 (#[.slice W.a W.len W.cap,.slice (some ⟨X,0,none⟩) 1 1])).run Tryz.prog Y) fun Z aa=>st ⟨p,0,none⟩ ([.slice Z.a Z.len Z.cap]) aa fun ab=>x ab)) ((N,0)) O) (fun ac ad=>ld .slice ⟨p,0,none⟩ ad fun ae=>undefer ac ad fun af=>K ((ae,0)) af) [] t)) (({ a:=none,len:=0,cap:=0 },0,0)) i)
def qiY:List Ann:=[.n,.n,.j [(25,.one .bool)],.n,.n,.n,.l [(4,.one .slice),(5,.one (.int .i64)),(28,.one (.int .i64))],.n,.n,.n,.n,.n,.n,.n,.n,.n,.r [.one (.int .i64),.one .slice],.n,.n,.j [(11,.one (.int .u32))],.n,.n,.n,.n,.l [(12,.one .slice),(64,.one (.int .i64))],.n,.n,.n,.n,.n]
theorem qgg {numbers pages w K} (hF:qdw numbers pages K w):call Tryz.prog 132 [.slice numbers.a numbers.len numbers.cap,.slice pages.a pages.len pages.cap] [.one .slice,.one (.int .i64)] w K:=qmF (an:=qiY) Tryz.func132 hF
def qfF (b:Sl) (K:Int->World->Prop) (w:World):Prop:=idx b 0 1 fun a=>ld (.int .u8) a (World.drew w) fun (c:Int)=>idx b 1 1 fun d=>ld (.int .u8) d (World.drew w) fun (e:Int)=>idx b 2 1 fun f=>ld (.int .u8) f (World.drew w) fun (g:Int)=>idx b 3 1 fun h=>ld (.int .u8) h (World.drew w) fun (i:Int)=>K (bits BinOp.or IntKind.u32 (bits BinOp.or IntKind.u32 (bits BinOp.or IntKind.u32 (IntKind.wrap .u32 (IntKind.wrap .u32 c*2^24)) (IntKind.wrap .u32 (IntKind.wrap .u32 e*2^16))) (IntKind.wrap .u32 (IntKind.wrap .u32 g*2^8))) (IntKind.wrap .u32 i)) (World.drew w)
def ql8:List Ann:=[.n,.n,.o [[0,1,2,3,4,5,6,7,8,9,10,11,12,13,14,15,16,17,18,19,20,21,22]]]
theorem qjK {b w K} (hF:qfF b K w):call Tryz.prog 163 [.slice b.a b.len b.cap] [.one (.int .u32)] w K:=qad (an:=ql8) Tryz.func163 hF
def qd1 (body:Sl) (K:(Int×Sl×Int)->World->Prop) (w:World):Prop:=cond (decide ((↑body.len:Int)<6)) (K ((0,{ a:=none,len:=0,cap:=0 },2)) w) (idx body 4 1 fun b=>ld (.int .u8) b (World.drew w) fun (c:Int)=>idx body 5 1 fun d=>ld (.int .u8) d (World.drew w) fun (e:Int)=>call Tryz.prog 163 ([.slice body.a body.len body.cap]) ([.one (.int .u32)]) (World.drew w) fun (f:Int) g=>held [fun h=>World.cell? h d=some (.int .u8 e),fun i=>World.cell? i b=some (.int .u8 c)] g<|join (Bool) (fun j=>cond (f==1) (j true g) (cond (decide (bits BinOp.or IntKind.i64 (IntKind.wrap .i64 (IntKind.wrap .i64 c*2^8)) (IntKind.wrap .i64 e)>123)) (j true g) (j (!(↑body.len:Int)==IntKind.wrap .i64 (6+IntKind.wrap .i64 (4*bits BinOp.or IntKind.i64 (IntKind.wrap .i64 (IntKind.wrap .i64 c*2^8)) (IntKind.wrap .i64 e)))) g))) fun (k:Bool) l=>cond k (K ((0,{ a:=none,len:=0,cap:=0 },2)) l) (loop (Sl×Int) (fun m (n:Sl×Int) o=>cond (decide (n.snd<bits BinOp.or IntKind.i64 (IntKind.wrap .i64 (IntKind.wrap .i64 c*2^8)) (IntKind.wrap .i64 e))) (slc body (some (IntKind.wrap .i64 (6+IntKind.wrap .i64 (4*n.snd)))) none none 1 fun p=>call Tryz.prog 163 ([.slice p.a p.len p.cap]) ([.one (.int .u32)]) o fun (q:Int) r=>new (Obj.cells #[.int .u32 q] 37) r fun s t=>run [.one .slice] ((Builtin.append_ (#[92,92]) 92 (#[.slice n.fst.a n.fst.len n.fst.cap,.slice (some ⟨s,0,none⟩) 1 1])).run Tryz.prog t) fun u v=>m ((u,IntKind.wrap .i64 (n.snd+1))) v) (call Tryz.prog 164 ([.slice n.fst.a n.fst.len n.fst.cap]) ([.one .bool]) o fun (x:Bool) y=>cond (!x) (K ((0,{ a:=none,len:=0,cap:=0 },2)) y) (K ((f,n.fst,0)) y))) (({ a:=none,len:=0,cap:=0 },0)) l))
def qjk:List Ann:=[.n,.n,.n,.n,.n,.o [[0,2,3,4,5,6,7,8,9,10,11,1,12,13]],.n,.j [(37,.one .bool)],.n,.n,.n,.n,.l [(7,.one .slice),(39,.one (.int .i64))],.n,.n,.n,.n,.n,.n,.n,.n]
theorem qhL {body w K} (hF:qd1 body K w):call Tryz.prog 130 [.slice body.a body.len body.cap] [.one (.int .u32),.one .slice,.one (.int .i64)] w K:=qad (an:=qjk) Tryz.func130 hF
end Go.Proofs.YtmmkegapckbomaaGreatDoor
end
section
set_option linter.unusedVariables false
set_option linter.unusedSimpArgs false
namespace Go.Proofs.YtmmkegapckbomaaGreatDoor
open Go Go.Pt
attribute [local irreducible] ld ldA ldV fld fldA newZ st new idx idxS idxA slc slcS slcP mkS chk nn call callV inv run runQ runU join loop held ext rng undefer s2a nxt ent IntKind.wrap
def needP (n:Nat):Nat:=if n=0 then 0 else (n-1) / 124+1
theorem qsE {n:Nat} {w:World} {K:Int->World->Prop} (hn:n<=1000000) (hk:K (needP n) w):call Tryz.prog 101 [.int .i64 n] [.one (.int .i64)] w K:=by
 refine qiL ?_
 unfold qeP
 refine qab (fun hc=>?_) (fun hc=>?_)
 ·have:=of_decide_eq_true hc
  have h0:n=0:=by omega
  subst h0
  exact hk
 ·have:=of_decide_eq_false hc
  have h0:n≠0:=by omega
  rw [needP,if_neg h0] at hk
  rw [wi' ((n:Int)-1) (by omega)]
  have e:Int.tdiv ((n:Int)-1) 124=(((n-1) / 124:Nat):Int):=by
   rw [Int.tdiv_eq_ediv_of_nonneg (by omega)]
   omega
  rw [e,wi' (((n-1) / 124:Nat):Int) (by omega),wi' ((((n-1) / 124:Nat):Int)+1) (by omega)]
  exact hk
def risesB:Int->List Int->Bool
 | _,[]=>true
 | a,x::r=>decide (a<x)&&risesB x r
theorem qm2 {S:List Nat} {w:World} {s:Sl} {l:List Int} {K:Bool->World->Prop} (h:Rd S w s l) (hl:l.length<=1000000) (hk:K (risesB 1 l) w) :
  call Tryz.prog 164 [.slice s.a s.len s.cap] [.one .bool] w K:=by
 refine qhJ (l:=s) ?_
 unfold qdV
 have hlen:=h.1
 refine qak (fun x w'=>w'=w/\∃ i:Nat,x.2=i/\i<=l.length/\risesB x.1 (l.drop i)=risesB 1 l) (fun x _=>((l.length:Int)-x.2).toNat) ⟨rfl,0,rfl,by omega,by simp⟩ ?_
 rintro ⟨a,ii⟩ w' ⟨rfl,i,hi0,hi,hr⟩ X hX
 simp only at hi0 hr
 subst hi0
 refine qab (fun hc=>?_) (fun hc=>?_)
 ·have hil:i<l.length:=by have:=of_decide_eq_true hc; omega
  refine Rd.at h i rfl (List.getElem?_eq_getElem hil) ?_
  rw [List.drop_eq_getElem_cons hil,risesB] at hr
  refine qab (fun hx=>?_) (fun hx=>?_)
  ·have:=of_decide_eq_true hx
   rw [show decide (a<l[i])=false by rw [decide_eq_false_iff_not]; omega,Bool.false_and] at hr
   rw [<- hr] at hk
   exact hk
  ·have:=of_decide_eq_false hx
   rw [show decide (a<l[i])=true by rw [decide_eq_true_iff]; omega,Bool.true_and] at hr
   rw [wi' _ (by omega)]
   exact hX _ _ ⟨rfl,i+1,by simp,by omega,hr⟩ (by dsimp only; omega)
 ·have hil:i=l.length:=by have:=of_decide_eq_false hc; omega
  subst hil
  rw [List.drop_length] at hr
  rw [<- hr] at hk
  exact hk
theorem qtt (n:Int):byteAt n 0=IntKind.wrap .u8 n:=by
 unfold byteAt
 have:Int.fdiv n (2^min (8*0) 32)=n:=by
  show Int.fdiv n (2^0)=n
  simp
 rw [this]
theorem ql0 {w:World} {s:Sl} {l:List Int} {B:List Nat} {n:Int} {K:Sl->World->Prop} (h:BufB w s l B) (hl:l.length<=1000000)
  (hk:∀ s' B' w',BufB w' s' (l++be n 4) B'->Fr B w w'->(∀ b∈B',b∈B\/w.heap.size<=b)->K s' w') :
  new (.cells #[.int .u8 (IntKind.wrap .u8 (Int.fdiv n (2^24))),.int .u8 (IntKind.wrap .u8 (Int.fdiv n (2^16))),.int .u8 (IntKind.wrap .u8 (Int.fdiv n (2^8))),.int .u8 (IntKind.wrap .u8 n)] 5) w fun r w2=>
   Pt.run [Ty1.one Cell.slice] ((Builtin.append_ #[23,23] 23 #[.slice s.a s.len s.cap,.slice (some ⟨r,0,none⟩) 4 4]).run Tryz.prog w2) fun s' w'=>K s' w':=by
 obtain ⟨i5,hi,hz,hsz,hby⟩:=qj4
 refine Own.new' (Own.start [] w) fun r w1 e1 f1 ho=>?_
 have hbe:be n 4=[byteAt n 3,byteAt n 2,byteAt n 1,byteAt n 0]:=rfl
 have hs1:=f1.size
 refine Buf.appSrc (ys:=be n 4) (e:=5) (h.frame0 f1) qas (by kernel_rfl) hi hz hsz rfl (.ofSlice _ (e':=5) (by kernel_rfl) _ 4 4 _ (by rw [qaA]; simp [qam]) (fun j u hj=>?_) (fun u hu=>?_)) (qam n 4).symm (by rw [hby]; omega) (by omega) fun s' B' w' g1 g2 g3 _=>?_
 ·rw [Addr.add_mk,qai (ho.at (i:=0) rfl),Nat.zero_add]
  rw [qaA,hbe,qtt] at hj
  rw [List.getElem?_toArray]
  exact hj
 ·rw [qaA] at hu
  obtain ⟨x,_,rfl⟩:=List.mem_map.1 hu
  rfl
 ·refine hk s' B' w' g1 ((f1.mono (fun i hi _=>by cases hi)).trans' g2 (fun b hb=>.inl hb)) (fun b hb=>?_)
  rcases g3 b hb with h | h
  ·exact .inl h
  ·exact .inr (by omega)
theorem qo2 {w:World} {s:Sl} {l:List Int} {B:List Nat} {n:Int} {K:Sl->World->Prop} (h:BufB w s l B) (hl:l.length<=1000000)
  (hk:∀ s' B' w',BufB w' s' (l++be n 4) B'->Fr B w w'->(∀ b∈B',b∈B\/w.heap.size<=b)->K s' w') :
  call Tryz.prog 166 [.slice s.a s.len s.cap,.int .u32 n] [.one .slice] w K:=by
 refine qjH (b:=s) ?_
 unfold qfM
 exact ql0 h hl hk
theorem qiE {A B:Int} (k:Nat) (hA:0<=A) (hm:A%2^k=0) (hB:0<=B) (hBk:B<2^k) (hs:A+B<4294967296):bits .or .u32 A B=A+B:=by
 obtain ⟨a,rfl⟩:∃ a:Nat,A=a:=⟨A.toNat,by omega⟩
 obtain ⟨b,rfl⟩:∃ b:Nat,B=b:=⟨B.toNat,by omega⟩
 have hm':a%2^k=0:=by
  have:((a:Int)%((2^k:Nat):Int))=0:=by rw [Int.natCast_pow]; exact hm
  omega
 have hb':b<2^k:=by
  have:(b:Int)<((2^k:Nat):Int):=by rw [Int.natCast_pow]; exact hBk
  omega
 obtain ⟨q,rfl⟩:∃ q,a=2^k*q:=⟨a / 2^k,by have:=Nat.div_add_mod a (2^k); omega⟩
 show IntKind.wrap .u32 ((BitVec.ofInt 32 ((2^k*q:Nat):Int)||| BitVec.ofInt 32 (b:Int)).toNat:Nat)=_
 rw [BitVec.toNat_or,BitVec.ofInt_natCast,BitVec.ofInt_natCast,BitVec.toNat_ofNat,BitVec.toNat_ofNat,Nat.mod_eq_of_lt (show 2^k*q<2^32 by omega),Nat.mod_eq_of_lt (show b<2^32 by omega),<- Nat.two_pow_add_eq_or_of_lt hb']
 rw [qaV _ (by omega)]
 omega
def get4V (a b c d:Int):Int:=bits .or .u32 (bits .or .u32 (bits .or .u32 (IntKind.wrap .u32 (IntKind.wrap .u32 a*2^24)) (IntKind.wrap .u32 (IntKind.wrap .u32 b*2^16))) (IntKind.wrap .u32 (IntKind.wrap .u32 c*2^8))) (IntKind.wrap .u32 d)
theorem qnL {a b c d:Int} (ha:0<=a/\a<256) (hb:0<=b/\b<256) (hc:0<=c/\c<256) (hd:0<=d/\d<256):get4V a b c d=((a*256+b)*256+c)*256+d:=by
 unfold get4V
 rw [qaV a (by omega),qaV b (by omega),qaV c (by omega),qaV d (by omega),qaV (a*2^24) (by omega),qaV (b*2^16) (by omega),qaV (c*2^8) (by omega)]
 rw [qiE (A:=a*2^24) (B:=b*2^16) 24 (by omega) (by omega) (by omega) (by omega) (by omega)]
 rw [qiE (B:=c*2^8) 16 (by omega) (by omega) (by omega) (by omega) (by omega)]
 rw [qiE (B:=d) 8 (by omega) (by omega) (by omega) (by omega) (by omega)]
 omega
theorem qsj {n:Int} (h:0<=n/\n<4294967296):get4V (n / 16777216%256) (n / 65536%256) (n / 256%256) (n%256)=n:=by
 rw [qnL (by omega) (by omega) (by omega) (by omega)]
 omega
def first4 (l:List Int):Int:=get4V (l.getD 0 0) (l.getD 1 0) (l.getD 2 0) (l.getD 3 0)
theorem getD_some {l:List Int} {n:Nat} (h:n<l.length):l[n]?=some (l.getD n 0):=by rw [List.getD_eq_getElem?_getD,List.getElem?_eq_getElem h]; rfl
theorem qqH {S:List Nat} {w:World} {s:Sl} {l:List Int} {K:Int->World->Prop} (h:RdB S w s l) (hl:4<=l.length) (hk:K (first4 l) w) :
  (idx s 0 1 fun a=>ld (.int .u8) a w fun x2=>idx s 1 1 fun a=>ld (.int .u8) a w fun x4=>idx s 2 1 fun a=>ld (.int .u8) a w fun x6=>idx s 3 1 fun a=>ld (.int .u8) a w fun x8=>K (get4V x2 x4 x6 x8) w):=by
 refine RdB.at h 0 rfl (getD_some (by omega)) ?_
 refine RdB.at h 1 rfl (getD_some (by omega)) ?_
 refine RdB.at h 2 rfl (getD_some (by omega)) ?_
 refine RdB.at h 3 rfl (getD_some (by omega)) ?_
 exact hk
theorem qoN {S:List Nat} {w:World} {s:Sl} {l:List Int} {K:Int->World->Prop} (h:RdB S w s l) (hl:4<=l.length) (hk:K (first4 l) w.drew):call Tryz.prog 163 [.slice s.a s.len s.cap] [.one (.int .u32)] w K:=by
 refine qjK (b:=s) ?_
 unfold qfF
 exact qqH (w:=w.drew) h hl hk
theorem qm3 {A B:Int} (k:Nat) (hA:0<=A) (hm:A%2^k=0) (hB:0<=B) (hBk:B<2^k) (hs:A+B<4294967296):bits .or .i64 A B=A+B:=by
 obtain ⟨a,rfl⟩:∃ a:Nat,A=a:=⟨A.toNat,by omega⟩
 obtain ⟨b,rfl⟩:∃ b:Nat,B=b:=⟨B.toNat,by omega⟩
 have hm':a%2^k=0:=by
  have:((a:Int)%((2^k:Nat):Int))=0:=by rw [Int.natCast_pow]; exact hm
  omega
 have hb':b<2^k:=by
  have:(b:Int)<((2^k:Nat):Int):=by rw [Int.natCast_pow]; exact hBk
  omega
 obtain ⟨q,rfl⟩:∃ q,a=2^k*q:=⟨a / 2^k,by have:=Nat.div_add_mod a (2^k); omega⟩
 show IntKind.wrap .i64 ((BitVec.ofInt 64 ((2^k*q:Nat):Int)||| BitVec.ofInt 64 (b:Int)).toNat:Nat)=_
 rw [BitVec.toNat_or,BitVec.ofInt_natCast,BitVec.ofInt_natCast,BitVec.toNat_ofNat,BitVec.toNat_ofNat,Nat.mod_eq_of_lt (show 2^k*q<2^64 by omega),Nat.mod_eq_of_lt (show b<2^64 by omega),<- Nat.two_pow_add_eq_or_of_lt hb']
 rw [wi' _ (by omega)]
 omega
def cntV (l:List Int):Int:=l.getD 4 0*256+l.getD 5 0
def numsV (l:List Int) (n:Nat):List Int:=(List.range n).map fun i=>first4 (l.drop (6+4*i))
def parseV (l:List Int):Int×List Int×Int:=
 if l.length<6 then (0,[],2) else
 if first4 l=1\/cntV l>123\/(l.length:Int)≠6+4*cntV l then (0,[],2) else
 if risesB 1 (numsV l (cntV l).toNat) then (first4 l,numsV l (cntV l).toNat,0) else (0,[],2)
theorem qre {S:List Nat} {w:World} {s:Sl} {l:List Int} {K:Int×Sl×Int->World->Prop} (h:RdB S w s l) (hB:IsB l) (hl:l.length<=100000)
  (hk:∀ s' B w',BufU w' s' (parseV l).2.1 B->Fr [] w w'->(∀ b∈B,w.heap.size<=b)->K ((parseV l).1,s',(parseV l).2.2) w') :
  call Tryz.prog 130 [.slice s.a s.len s.cap] [.one (.int .u32),.one .slice,.one (.int .i64)] w K:=by
 refine qhL (body:=s) ?_
 unfold qd1
 have hlen:=h.1
 have bad:∀ {e:Int} {w':World},parseV l=(0,[],e)->Fr [] w w'->K (0,⟨none,0,0⟩,e) w':=by
  intro e w' he hf
  have:=hk ⟨none,0,0⟩ [] w' (by rw [he]; exact .nil _ _ _) hf (by simp)
  rw [he] at this
  exact this
 refine qab (fun hc=>?_) (fun hc=>?_)
 ·have:=of_decide_eq_true hc
  exact bad (by rw [parseV,if_pos (by omega)]) (.refl _ _)
 have h6:¬ l.length<6:=by have:=of_decide_eq_false hc; omega
 have fd:Fr [] w w.drew:=(Fr.refl _ _).drew
 have fdd:Fr [] w w.drew.drew:=fd.drew
 obtain ⟨_,b4,o4,ha4,hS4,cs4,T4,fr4,hb4,hc4⟩:=Rds.at h 4 (getD_some (l:=l) (n:=4) (by omega))
 obtain ⟨_,b5,o5,ha5,hS5,cs5,T5,fr5,hb5,hc5⟩:=Rds.at h 5 (getD_some (l:=l) (n:=5) (by omega))
 have g4:cs4[o4+4]?=some (.int .u8 (l.getD 4 0)):=by have:=congrArg (·[0]?) hc4; simpa using this
 have g5:cs5[o5+5]?=some (.int .u8 (l.getD 5 0)):=by have:=congrArg (·[0]?) hc5; simpa using this
 have c4:∀ {w':World},Fr [] w w'->w'.cell? ⟨b4,o4+Int.toNat 4*1,none⟩=some (.int .u8 (l.getD 4 0)):=fun f=>by
  rw [qai (by rw [f.block b4 (qac hb4) (by simp)]; exact hb4)]; exact g4
 have c5:∀ {w':World},Fr [] w w'->w'.cell? ⟨b5,o5+Int.toNat 5*1,none⟩=some (.int .u8 (l.getD 5 0)):=fun f=>by
  rw [qai (by rw [f.block b5 (qac hb5) (by simp)]; exact hb5)]; exact g5
 refine qbk ha4 ⟨by omega,by omega⟩ ?_
 refine qc6 (c:=.int .u8) (l.getD 4 0) (c4 fd) ?_
 refine qbk ha5 ⟨by omega,by omega⟩ ?_
 refine qc6 (c:=.int .u8) (l.getD 5 0) (c5 fd) ?_
 refine qoN (w:=w.drew) (S:=S) h (by omega) ?_
 refine qap (c5 fdd) (c4 fdd) ?_
 have r4:0<=l.getD 4 0/\l.getD 4 0<256:=hB _ (List.mem_of_getElem? (getD_some (l:=l) (n:=4) (by omega)))
 have r5:0<=l.getD 5 0/\l.getD 5 0<256:=hB _ (List.mem_of_getElem? (getD_some (l:=l) (n:=5) (by omega)))
 have ecnt:bits .or .i64 (IntKind.wrap .i64 (IntKind.wrap .i64 (l.getD 4 0)*2^8)) (IntKind.wrap .i64 (l.getD 5 0))=cntV l:=by
  rw [wi' (l.getD 4 0) (by omega),wi' (l.getD 5 0) (by omega),wi' (l.getD 4 0*2^8) (by omega),qm3 8 (by omega) (by omega) (by omega) (by omega) (by omega)]
  rfl
 have rcnt:0<=cntV l/\cntV l<65536:=by unfold cntV; omega
 rw [ecnt]
 refine qag (fun b w'=>b=decide (first4 l=1\/cntV l>123\/(l.length:Int)≠6+4*cntV l)/\w'=w.drew.drew) ?_ ?_
 ·refine qab (fun hc=>?_) (fun hc=>?_)
  ·exact ⟨by rw [decide_eq_true (Or.inl (by simpa using hc))],rfl⟩
  ·have hc':¬ first4 l=1:=by simpa using hc
   refine qab (fun hc2=>?_) (fun hc2=>?_)
   ·exact ⟨by rw [decide_eq_true (Or.inr (Or.inl (of_decide_eq_true hc2)))],rfl⟩
   ·have hc2':¬ cntV l>123:=of_decide_eq_false hc2
    refine ⟨?_,rfl⟩
    rw [wi' (4*cntV l) (by omega),wi' (6+4*cntV l) (by omega),hlen]
    by_cases h3:(l.length:Int)=6+4*cntV l <;> simp [hc',hc2',h3]
 rintro b w1 ⟨rfl,rfl⟩
 refine qab (fun hc=>bad (by rw [parseV,if_neg h6,if_pos (of_decide_eq_true hc)]) fdd) (fun hc=>?_)
 have hok:=of_decide_eq_false hc
 have hcnt:cntV l<=123:=by
  rcases Int.lt_or_le 123 (cntV l) with h | h
  ·exact absurd (Or.inr (Or.inl h)) hok
  ·exact h
 have hlc:(l.length:Int)=6+4*cntV l:=Classical.byContradiction fun h=>hok (Or.inr (Or.inr h))
 have pv:parseV l=if risesB 1 (numsV l (cntV l).toNat) then (first4 l,numsV l (cntV l).toNat,0) else (0,[],2):=by rw [parseV,if_neg h6,if_neg hok]
 obtain ⟨n,hn⟩:∃ n:Nat,cntV l=n:=⟨(cntV l).toNat,by omega⟩
 rw [hn] at hcnt hlc pv ⊢
 rw [Int.toNat_natCast] at pv
 refine qak (fun x w'=>∃ (i:Nat) (B:List Nat),x.2=i/\i<=n/\BufU w' x.1 (numsV l i) B/\Fr [] w w'/\∀ b∈B,w.heap.size<=b) (fun x _=>((n:Int)-x.2).toNat)
  ⟨0,[],rfl,by omega,.nil _ _ _,fdd,by simp⟩ ?_
 rintro ⟨s1,ii⟩ w2 ⟨i,B,hi0,hi,hb,f2,n2⟩ X hX
 simp only at hi0 hb
 subst hi0
 refine qab (fun hc=>?_) (fun hc=>?_)
 ·have hil:i<n:=by have:=of_decide_eq_true hc; omega
  rw [wi' (4*(i:Int)) (by omega),wi' (6+4*(i:Int)) (by omega)]
  have h2:RdB S w2 s l:=h.frame0 f2
  refine Rds.part h2 (6+4*i) l.length (by simp) (by rw [hlen]; rfl) (by omega) (by omega) fun s3 l3 r3 _=>?_
  rw [List.take_length] at r3
  refine qoN r3 (by rw [List.length_drop]; omega) ?_
  have f2d:Fr [] w w2.drew:=f2.drew
  refine qs7 (w:=w2.drew) (B:=B) hb (by simp [numsV]; omega) fun s4 B4 w4 g1 g2 g3=>?_
  rw [wi' _ (by omega)]
  have hs2:=f2d.size
  refine hX _ _ ⟨i+1,B4,by simp,by omega,?_,f2d.trans' g2 (fun b hb=>.inr (n2 b hb)),fun b hb=>?_⟩ (by dsimp only; omega)
  ·have:numsV l (i+1)=numsV l i++[first4 (l.drop (6+4*i))]:=by simp [numsV,List.range_succ]
   rw [this]; exact g1
  ·rcases g3 b hb with h | h
   ·exact n2 b h
   ·omega
 ·have hil:i=n:=by have:=of_decide_eq_false hc; omega
  subst hil
  refine qm2 (S:=[]) (hb.rds qaT (by simp)) (by simp [numsV]; omega) ?_
  refine qab (fun hr=>?_) (fun hr=>?_)
  ·have hr':¬ risesB 1 (numsV l i)=true:=by simpa using hr
   exact bad (by rw [pv,if_neg hr']) f2
  ·have hr':risesB 1 (numsV l i)=true:=by simpa using hr
   have:=hk s1 B w2 (by rw [pv,if_pos hr']; exact hb) f2 n2
   rw [pv,if_pos hr'] at this
   exact this
def encS:Sl->List Value:=fun s=>[.slice s.a s.len s.cap]
theorem qmT:∀ x,(encS x).length=1:=fun _=>rfl
theorem qut:∃ i,Tryz.prog.info? 23=some i/\i.zero=some (.slice none 0 0)/\i.size=1/\i.bytes=24:=qeh (by kernel_rfl)
def Bodies (S:List Nat) (w:World) (s:Sl) (ls:List (List Int)) (B:List Nat):Prop:=
 ∃ sls:List Sl,Buf encS 1 w s sls B/\sls.length=ls.length/\∀ (i:Nat) sl l,sls[i]?=some sl->ls[i]?=some l->RdB (S++B) w sl l
theorem Bodies.nil (S:List Nat) (w:World):Bodies S w ⟨none,0,0⟩ [] []:=⟨[],.nil _ _ _,rfl,fun i sl l h=>by simp at h⟩
theorem Bodies.frame {S S':List Nat} {w w':World} {s:Sl} {ls:List (List Int)} {B:List Nat} (h:Bodies S w s ls B) (f:Fr S w w') (hS:∀ b∈B,b∉S) (hS':∀ b∈S',b∈S\/w.heap.size<=b):Bodies S' w' s ls B:=by
 obtain ⟨sls,h1,h2,h3⟩:=h
 refine ⟨sls,h1.frame f hS,h2,fun i sl l hi hl=>(h3 i sl l hi hl).frame (f.mono fun b hb _=>List.mem_append_left _ hb) fun b hb=>?_⟩
 rcases List.mem_append.1 hb with hb | hb
 ·rcases hS' b hb with h | h
  ·exact .inl (List.mem_append_left _ h)
  ·exact .inr h
 ·exact .inl (List.mem_append_right _ hb)
theorem Bodies.push {S:List Nat} {w:World} {s sl:Sl} {ls:List (List Int)} {B:List Nat} {l:List Int} {T:TypeId} {K:Sl->World->Prop} (h:Bodies S w s ls B) (hr:RdB (S++B) w sl l) (hl:ls.length<=1000000)
  (kk:∀ s' B' w',Bodies S w' s' (ls++[l]) B'->Fr B w w'->(∀ b∈B',b∈B\/w.heap.size<=b)->K s' w') :
  Pt.new (.cells #[.slice sl.a sl.len sl.cap] T) w fun r w1=>Pt.run [Ty1.one Cell.slice] ((Builtin.append_ #[22,22] 22 #[.slice s.a s.len s.cap,.slice (some ⟨r,0,none⟩) 1 1]).run Tryz.prog w1) K:=by
 obtain ⟨i,hi,hz,hsz,hby⟩:=qut
 obtain ⟨sls,h1,h2,h3⟩:=h
 refine Buf.push (e:=23) (x:=sl) h1 qmT (by simp [encS,Value.oneCell']) (by kernel_rfl) hi hz hsz rfl rfl (by rw [hby]; omega) (by omega) fun s' B' w' b' f' n'=>?_
 refine kk s' B' w' ⟨_,b',by simp [h2],fun j sj lj hj hlj=>?_⟩ f' n'
 have hw:∀ b∈S++B',b∈S++B\/w.heap.size<=b:=fun b hb=>by
  rcases List.mem_append.1 hb with hb | hb
  ·exact .inl (List.mem_append_left _ hb)
  ·rcases n' b hb with h | h
   ·exact .inl (List.mem_append_right _ h)
   ·exact .inr h
 have hf:Fr (S++B) w w':=f'.mono fun b hb _=>List.mem_append_right _ hb
 by_cases hjl:j<sls.length
 ·rw [List.getElem?_append_left hjl] at hj
  rw [List.getElem?_append_left (by omega)] at hlj
  exact (h3 j sj lj hj hlj).frame hf hw
 ·by_cases hje:j=sls.length
  ·subst hje
   rw [List.getElem?_append_right (Nat.le_refl _),Nat.sub_self] at hj
   rw [h2,List.getElem?_append_right (Nat.le_refl _),Nat.sub_self] at hlj
   simp at hj hlj
   subst hj hlj
   exact hr.frame hf hw
  ·rw [List.getElem?_eq_none (by rw [List.length_append]; simp; omega)] at hj
   cases hj
def bodyV (next:Int) (c:List Int):List Int:=be next 4++[IntKind.wrap .u8 (Int.fdiv c.length (2^8)),IntKind.wrap .u8 c.length]++c.flatMap (be · 4)
def bodiesL (numbers pages:List Int) (k:Nat):List (List Int):=(List.range k).map fun i=>bodyV (pages.getD (i+1) 0) ((numbers.drop (123*i)).take 123)
def bodiesV (numbers pages:List Int):List (List Int)×Int:=
 if risesB 1 numbers=false\/numbers.length>123*pages.length then ([],1) else if ∃ p∈pages,p<2 then ([],1) else (bodiesL numbers pages pages.length,0)
theorem qsZ {w:World} {s:Sl} {n:Int} {K:Value->World->Prop} (hk:∀ rp rl w',Fr [] w w'->(∀ S w0 L,Own S w0 w L->Own S w0 w' ((rp,.cells #[.int .i64 n] 3 (0,0))::(rl,.cells #[.slice s.a s.len s.cap] 92 (0,0))::L))->K (.func (.func 208) #[] #[.pointer (some ⟨rp,0,none⟩),.pointer (some ⟨rl,0,none⟩)]) w') :
  call Tryz.prog 165 [.slice s.a s.len s.cap,.int .i64 n] [.one .any] w K:=by
 refine qhG (l:=s) ?_
 unfold qdU
 refine Pt.qju ?_
 refine Pt.qju ?_
 exact hk _ _ _ (((Fr.refl [] w).alloc _).alloc _) fun S w0 L h=>(h.alloc _).alloc _
theorem qcg:∀ l:List Int,(l.flatMap (be · 4)).length=l.length*4
 | []=>rfl
 | x::l=>by rw [List.flatMap_cons,List.length_append,qam,qcg l,List.length_cons]; omega
theorem qtr (a b:Int):([a,b]:List Int).length=2:=rfl
theorem qqg {S G:List Nat} {w:World} {sn sp:Sl} {numbers pages:List Int} {K:Sl×Int->World->Prop} (hn:Rd S w sn numbers) (hp:Rd S w sp pages) (hnl:numbers.length<=100000) (hpl:pages.length<=100000) (hG:∀ b∈G,b<w.heap.size)
  (hk:∀ s' B w',Bodies G w' s' (bodiesV numbers pages).1 B->Fr [] w w'->(∀ b∈B,w.heap.size<=b)->K (s',(bodiesV numbers pages).2) w') :
  call Tryz.prog 132 [.slice sn.a sn.len sn.cap,.slice sp.a sp.len sp.cap] [.one .slice,.one (.int .i64)] w K:=by
 refine qgg (numbers:=sn) (pages:=sp) ?_
 unfold qdw
 have hln:=hn.1
 have hlp:=hp.1
 have bad:∀ {w':World},bodiesV numbers pages=([],1)->Fr [] w w'->K (⟨none,0,0⟩,1) w':=by
  intro w' he hf
  have:=hk ⟨none,0,0⟩ [] w' (by rw [he]; exact .nil _ _) hf (by simp)
  rw [he] at this
  exact this
 refine Own.new' (Own.start [] w) fun r1 w1 e1 f1 ho=>?_
 have hn1:Rd S w1 sn numbers:=hn.frame0 ho.fr
 have hp1:Rd S w1 sp pages:=hp.frame0 ho.fr
 refine qag (fun b w'=>b=decide (risesB 1 numbers=false\/numbers.length>123*pages.length)/\w'=w1) ?_ ?_
 ·refine qm2 hn1 (by omega) ?_
  refine qab (fun hc=>?_) (fun hc=>?_)
  ·have hr:risesB 1 numbers=false:=by simpa using hc
   exact ⟨by rw [decide_eq_true (Or.inl hr)],rfl⟩
  ·have hr:risesB 1 numbers=true:=by simpa using hc
   refine Own.ld (c:=.slice) ho 0 rfl sp rfl ⟨?_,rfl⟩
   rw [wi' (123*(sp.len:Int)) (by omega),hln,hlp]
   have e:decide ((numbers.length:Int)>123*(pages.length:Int))=decide (numbers.length>123*pages.length):=by
    by_cases h:numbers.length>123*pages.length
    ·rw [decide_eq_true h,decide_eq_true]; omega
    ·rw [decide_eq_false h,decide_eq_false]; omega
   rw [e]
   by_cases h:numbers.length>123*pages.length <;> simp [hr,h]
 rintro b w2 ⟨rfl,rfl⟩
 refine qab (fun hc=>bad (by rw [bodiesV,if_pos (of_decide_eq_true hc)]) ho.fr) (fun hc=>?_)
 have hok:=of_decide_eq_false hc
 refine Own.ld (c:=.slice) ho 0 rfl sp rfl ?_
 refine qak (fun x w'=>w'=w2/\∃ i:Nat,x.2.2=i/\i<=pages.length/\∀ p∈pages.take i,¬ p<2) (fun x _=>((pages.length:Int)-x.2.2).toNat) ⟨rfl,0,rfl,by omega,by simp⟩ ?_
 rintro ⟨sx,ex,ii⟩ w3 ⟨rfl,i,hi0,hi,hall⟩ X hX
 simp only at hi0
 subst hi0
 dsimp only
 refine qab (fun hc=>?_) (fun hc=>?_)
 ·have hil:i<pages.length:=by have:=of_decide_eq_true hc; omega
  refine Rd.at hp1 i rfl (List.getElem?_eq_getElem hil) ?_
  refine qab (fun hx=>?_) (fun hx=>?_)
  ·exact bad (by rw [bodiesV,if_neg hok,if_pos ⟨pages[i],List.getElem_mem hil,of_decide_eq_true hx⟩]) ho.fr
  ·rw [wi' _ (by omega)]
   refine hX _ _ ⟨rfl,i+1,by simp,by omega,fun p hp=>?_⟩ (by dsimp only; omega)
   rw [List.take_succ_eq_append_getElem hil] at hp
   rcases List.mem_append.1 hp with hp | hp
   ·exact hall p hp
   ·simp at hp; subst hp; exact of_decide_eq_false hx
 have hil:i=pages.length:=by have:=of_decide_eq_false hc; omega
 subst hil
 rw [List.take_length] at hall
 have hbv:bodiesV numbers pages=(bodiesL numbers pages pages.length,0):=by
  rw [bodiesV,if_neg hok,if_neg]
  rintro ⟨p,hp,h2⟩
  exact hall p hp h2
 rw [hbv] at hk
 refine Own.new' ho fun ro w4 eo fo ho=>?_
 refine Own.ld (c:=.slice) ho 1 rfl sp rfl ?_
 refine qsZ fun rp rl w5 f5 hadd=>?_
 have ho5:=hadd _ _ _ ho
 refine Own.rng (lb:=[.pointer (some ⟨rp,0,none⟩),.pointer (some ⟨rl,0,none⟩)]) ho5 rfl (by kernel_rfl) fun Dm l R Bz J E E0 w6 el eD f56 ho6 hy=>?_
 refine qeZ ?_
 unfold qcO
 refine Own.ld (c:=.int .i64) ho6 2 rfl sp.len rfl ?_
 refine qak (fun x w'=>∃ (j:Nat) (cl so:Sl) (Bo:List Nat),x=j/\j<=pages.length/\Rd [] w cl (numbers.drop (123*j))/\Bodies ([l,Dm,rp,rl,ro,r1]++G) w' so (bodiesL numbers pages j) Bo/\(∀ b∈Bo,w.heap.size<=b/\b∉[l,Dm,rp,rl,ro,r1])/\
   Own [] w w' [(l,R),(Dm,.deferred (some [])),(rp,.cells #[.int .i64 sp.len] 3 (0,0)),(rl,.cells #[.slice cl.a cl.len cl.cap] 92 (0,0)),(ro,.cells #[.slice so.a so.len so.cap] 22 (0,0)),(r1,.cells #[.slice sp.a sp.len sp.cap] 92 (0,0))]) (fun x _=>((pages.length:Int)-x).toNat)
  ⟨0,sn,⟨none,0,0⟩,[],rfl,by omega,hn.weak (fun b hb=>by cases hb),.nil _ _,by simp,ho6⟩ ?_
 rintro x w7 ⟨j,cl,so,Bo,rfl,hj,hcl,hbod,hBo,ho7⟩ X hX
 have hBoG:∀ b∈Bo,b∉[l,Dm,rp,rl,ro,r1]++G:=fun b hb hm=>by
  rcases List.mem_append.1 hm with hm | hm
  ·exact (hBo b hb).2 hm
  ·have:=hG b hm; have:=(hBo b hb).1; omega
 have hlc:=hcl.1
 rw [List.length_drop] at hlc
 refine qab (fun hc=>?_) (fun hc=>?_)
 ·have hjl:j<pages.length:=by have:=of_decide_eq_true hc; omega
  refine Own.ld (c:=.slice) ho7 3 rfl cl rfl ?_
  refine Own.ld (c:=.slice) ho7 3 rfl cl rfl ?_
  obtain ⟨m,hm,hmle⟩:∃ m:Nat,(if (123:Int)<(cl.len:Int) then 123 else (cl.len:Int))=m/\m=Nat.min 123 cl.len:=by
   by_cases h:123<cl.len
   ·exact ⟨123,by rw [if_pos (by omega)]; rfl,(Nat.min_eq_left (by omega)).symm⟩
   ·exact ⟨cl.len,by rw [if_neg (by omega)],(Nat.min_eq_right (by omega)).symm⟩
  rw [hm]
  have hm123:m<=123:=by rw [hmle]; exact Nat.min_le_left _ _
  have hmcl:m<=cl.len:=by rw [hmle]; exact Nat.min_le_right _ _
  refine Rds.part hcl 0 m rfl rfl (by omega) (by rw [List.length_drop]; omega) fun cs hcsl hcs _=>?_
  rw [List.drop_zero] at hcs
  have hchunk:(numbers.drop (123*j)).take m=(numbers.drop (123*j)).take 123:=by
   by_cases h:123<cl.len
   ·rw [hmle]; congr 1; exact Nat.min_eq_left (by omega)
   ·have:m=cl.len:=by rw [hmle]; exact Nat.min_eq_right (by omega)
    rw [this,List.take_of_length_le (by rw [List.length_drop]; omega),List.take_of_length_le (by rw [List.length_drop]; omega)]
  generalize hch:(numbers.drop (123*j)).take m=chunk at hcs hchunk
  have hcl3:chunk.length=m:=by rw [<- hch,List.length_take,List.length_drop]; omega
  have hcs3:cs.len=m:=by omega
  refine hy ((j:Int),cs) w7 _ (ho7.at (i:=0) rfl) ?_
  dsimp only
  refine ⟨ho7.at (i:=0) rfl,?_⟩
  have ho8:=ho7.upd (o':=Bz) 0 rfl
  have hbk:=ho8.rebaseS []
  have hp8:Rd [] (Pt.upd w7 l Bz) sp pages:=(hp.weak (fun b hb=>by cases hb)).frame0 ho8.fr
  have hbod8:Bodies ([l,Dm,rp,rl,ro,r1]++G) (Pt.upd w7 l Bz) so (bodiesL numbers pages j) Bo:=hbod.frame ((qb3 (qac (ho7.at (i:=0) rfl)) Bz).mono fun b hb _=>by simp at hb; subst hb; simp) hBoG (fun b hb=>.inl hb)
  have hBlt:=hbod.choose_spec.1.lt
  refine qag (fun x w'=>x=pages.getD (j+1) 0/\w'=Pt.upd w7 l Bz) ?_ ?_
  ·refine Own.ld (c:=.slice) hbk 5 rfl sp rfl ?_
   rw [wi' ((j:Int)+1) (by omega)]
   refine qab (fun hc2=>?_) (fun hc2=>?_)
   ·have h2:j+1<pages.length:=by have:=of_decide_eq_true hc2; omega
    refine Own.ld (c:=.slice) hbk 5 rfl sp rfl ?_
    refine Rd.at hp8 (j+1) (by omega) (getD_some h2) ?_
    exact ⟨rfl,rfl⟩
   ·have h2:¬ j+1<pages.length:=by have:=of_decide_eq_false hc2; omega
    exact ⟨by rw [List.getD_eq_getElem?_getD,List.getElem?_eq_none (by omega)]; rfl,rfl⟩
  rintro x w8 ⟨rfl,rfl⟩
  generalize hnx:pages.getD (j+1) 0=next
  have hW:(Pt.upd w7 l Bz).heap.size=w7.heap.size:=qbB _ _ _
  generalize hW8:Pt.upd w7 l Bz=w8 at ho8 hbk hp8 hW hbod8
  have hcs8:Rd [] w8 cs chunk:=hcs.frame0 ho8.fr
  have hLlt:∀ p∈[l,Dm,rp,rl,ro,r1],p<w8.heap.size:=fun p hp=>by
   have hlt:=fun (k:Nat) (q:Nat×Obj) (hq:_[k]?=some q)=>qac (ho8.at (i:=k) hq)
   simp only [List.mem_cons,List.not_mem_nil,or_false] at hp
   rcases hp with rfl | rfl | rfl | rfl | rfl | rfl
   ·exact hlt 0 _ rfl
   ·exact hlt 1 _ rfl
   ·exact hlt 2 _ rfl
   ·exact hlt 3 _ rfl
   ·exact hlt 4 _ rfl
   ·exact hlt 5 _ rfl
  obtain ⟨i5,hi5,hz5,hsz5,hby5⟩:=qj4
  refine qo2 (s:=⟨none,0,0⟩) (l:=[]) (B:=[]) (.nil _ _ _) (by simp) fun s9 B9 w9 b9 f9 n9=>?_
  rw [List.nil_append] at b9
  have hbk:=hbk.frame0 f9
  refine Own.new' hbk fun r2 w10 e10 f10 hbk=>?_
  have n9':∀ b∈B9,w8.heap.size<=b:=fun b hb=>by rcases n9 b hb with h | h; cases h; exact h
  refine Buf.appSrc (ys:=[IntKind.wrap .u8 (Int.fdiv chunk.length (2^8)),IntKind.wrap .u8 chunk.length]) (e:=5) (b9.frame0 f10) qas (by kernel_rfl) hi5 hz5 hsz5 rfl (.ofSlice _ (e':=5) (by kernel_rfl) _ 2 2 _ (by rw [qaA]; rfl) (fun q u hq=>?_) (fun u hu=>?_)) rfl (by rw [hby5,qam]; decide) (by rw [qam]; decide) fun s11 B11 w11 b11 f11 n11 _=>?_
  ·rw [Addr.add_mk,qai (hbk.at (i:=0) rfl),Nat.zero_add,hcs3,<- hcl3]
   rw [qaA] at hq
   rw [List.getElem?_toArray]
   exact hq
  ·rw [qaA] at hu
   obtain ⟨x,_,rfl⟩:=List.mem_map.1 hu
   rfl
  have hs9:=f9.size
  have hs10:=f10.size
  have hB9lt:=b9.lt
  have hbk:=(hbk.sub (List.sublist_cons_self _ _)).frame f11 (fun b hb=>.inr (n9' b hb)) (fun p hp hb=>by
   have h1:=hLlt p.1 (List.mem_map_of_mem (f:=(·.1)) hp)
   have h2:=n9' _ hb
   omega)
  have n11':∀ b∈B11,w8.heap.size<=b:=fun b hb=>by rcases n11 b hb with h | h; exact n9' b h; omega
  refine qak (fun x w'=>∃ (q:Nat) (Bq:List Nat),x.2=q/\q<=m/\BufB w' x.1 (be next 4++[IntKind.wrap .u8 (Int.fdiv chunk.length (2^8)),IntKind.wrap .u8 chunk.length]++(chunk.take q).flatMap (be · 4)) Bq/\(∀ b∈Bq,w8.heap.size<=b)/\
    Own ([l,Dm,rp,rl,ro,r1]++[]) w8 w' [(l,Bz),(Dm,.deferred (some [])),(rp,.cells #[.int .i64 sp.len] 3 (0,0)),(rl,.cells #[.slice cl.a cl.len cl.cap] 92 (0,0)),(ro,.cells #[.slice so.a so.len so.cap] 22 (0,0)),(r1,.cells #[.slice sp.a sp.len sp.cap] 92 (0,0))]) (fun x _=>((m:Int)-x.2).toNat)
   ⟨0,B11,rfl,by omega,by simpa using b11,n11',hbk⟩ ?_
  rintro ⟨s12,qq⟩ w12 ⟨q,Bq,hq0,hqm,bq,nq,hq⟩ Y hY
  simp only at hq0 bq
  subst hq0
  dsimp only
  rw [hcs3]
  refine qab (fun hc3=>?_) (fun hc3=>?_)
  ·have hqc:q<chunk.length:=by have:=of_decide_eq_true hc3; omega
   have hcs12:Rd [] w12 cs chunk:=hcs.frame0 (ho8.backS (T:=[]) (by simp) hq.fr)
   refine Rd.at hcs12 q rfl (List.getElem?_eq_getElem hqc) ?_
   have hbl:(be next 4++[IntKind.wrap .u8 (Int.fdiv chunk.length (2^8)),IntKind.wrap .u8 chunk.length]++(chunk.take q).flatMap (be · 4)).length<=1000000:=by
    rw [List.length_append,List.length_append,qam,qcg,List.length_take,qtr]; omega
   refine qo2 bq hbl fun s13 B13 w13 b13 f13 n13=>?_
   rw [wi' _ (by omega)]
   refine hY _ _ ⟨q+1,B13,by simp,by omega,?_,fun b hb=>?_,hq.frame f13 (fun b hb=>.inr (nq b hb)) (fun p hp hb=>?_)⟩ (by dsimp only; omega)
   ·rw [List.take_succ_eq_append_getElem hqc,List.flatMap_append,List.flatMap_singleton,<- List.append_assoc]
    exact b13
   ·rcases n13 b hb with h | h
    ·exact nq b h
    ·exact Nat.le_trans hq.fr.size h
   ·have h1:=hLlt p.1 (List.mem_map_of_mem (f:=(·.1)) hp)
    have h2:=nq _ hb
    omega
  ·have hqe:q=m:=by have:=of_decide_eq_false hc3; omega
   subst hqe
   rw [List.take_of_length_le (by omega)] at bq
   refine Own.ld (c:=.slice) hq 4 rfl so rfl ?_
   have hrow:RdB (([l,Dm,rp,rl,ro,r1]++G)++Bo) w12 s12 (bodyV next chunk):=bq.rds qas fun b hb hm=>by
    have h2:=nq _ hb
    rcases List.mem_append.1 hm with hm | hm
    ·rcases List.mem_append.1 hm with hm | hm
     ·have:=hLlt b hm; omega
     ·have:=hG b hm; have:=ho8.fr.size; omega
    ·have:=hBlt b hm; omega
   have hbod12:Bodies ([l,Dm,rp,rl,ro,r1]++G) w12 so (bodiesL numbers pages j) Bo:=hbod8.frame (hq.fr.mono fun b hb _=>by rw [List.append_nil] at hb; exact List.mem_append_left _ hb) hBoG (fun b hb=>.inl hb)
   refine Bodies.push hbod12 hrow (by rw [bodiesL,List.length_map,List.length_range]; omega) fun s13 B13 w13 b13 f13 n13=>?_
   have hqb:=(ho8.rejoin (T:=[]) (by simp) hq).frame f13 (fun b hb=>.inr (hBo b hb).1) (fun p hp hb=>(hBo _ hb).2 (List.mem_map_of_mem (f:=(·.1)) hp))
   refine Own.st' hqb 4 rfl _ rfl rfl (Nat.le_of_ble_eq_true rfl) fun w14 hqb f14=>?_
   refine ⟨hqb.at (i:=0) rfl,?_⟩
   have hqc:=hqb.upd (o':=R) 0 rfl
   refine cond_false rfl ?_
   refine Own.ld (c:=.slice) hqc 3 rfl cl rfl ?_
   refine Rds.part hcl q (numbers.drop (123*j)).length rfl (by rw [List.length_drop]; show (cl.len:Int)=_; omega) (by rw [List.length_drop]; omega) (Nat.le_refl _) fun cr hcrl hcr _=>?_
   refine Own.st' hqc 3 rfl _ rfl rfl (Nat.le_of_ble_eq_true rfl) fun w15 hqd f15=>?_
   rw [wi' _ (by omega)]
   have hB13:∀ b∈B13,w.heap.size<=b/\b∉[l,Dm,rp,rl,ro,r1]:=fun b hb=>by
    rcases n13 b hb with h | h
    ·exact hBo b h
    ·have h1:=hq.fr.size
     refine ⟨?_,fun hm=>?_⟩
     ·have:=ho8.fr.size; omega
     ·have:=hLlt b hm; omega
   have ff:Fr [l,Dm,rp,rl,ro,r1] w13 w15:=
    (f14.mono fun b hb _=>by simp at hb; subst hb; simp).trans' ((qb3 (qac (hqb.at (i:=0) rfl)) R).mono (T:=[l,Dm,rp,rl,ro,r1]) fun b hb _=>by simp at hb; subst hb; simp) (fun b hb=>.inl hb) |>.trans' (f15.mono (T:=[l,Dm,rp,rl,ro,r1]) fun b hb _=>by simp at hb; subst hb; simp) (fun b hb=>.inl hb)
   have hbod15:=b13.frame (ff.mono fun b hb _=>List.mem_append_left _ hb) (fun b hb hm=>by
    rcases List.mem_append.1 hm with hm | hm
    ·exact (hB13 b hb).2 hm
    ·have:=hG b hm; have:=(hB13 b hb).1; omega) (fun b hb=>.inl hb)
   have hcr2:((numbers.drop (123*j)).take (numbers.drop (123*j)).length).drop q=numbers.drop (123*(j+1)):=by
    rw [List.take_length,List.drop_drop]
    by_cases h:123<cl.len
    ·rw [show q=123 by rw [hmle]; exact Nat.min_eq_left (by omega),Nat.mul_add]
    ·have:q=cl.len:=by rw [hmle]; exact Nat.min_eq_right (by omega)
     rw [List.drop_eq_nil_of_le (by omega),List.drop_eq_nil_of_le (by omega)]
   rw [hcr2] at hcr
   have hbl:bodiesL numbers pages (j+1)=bodiesL numbers pages j++[bodyV next chunk]:=by
    rw [bodiesL,List.range_succ,List.map_append,List.map_singleton,hnx,<- hchunk]; rfl
   refine hX _ _ ⟨j+1,cr,s13,B13,by simp,by omega,hcr,by rw [hbl]; exact hbod15,hB13,hqd⟩ (by omega)
 ·have hje:j=pages.length:=by have:=of_decide_eq_false hc; omega
  subst hje
  refine .inl ⟨ho7.at (i:=0) rfl,?_⟩
  have ho8:=ho7.upd (o':=E0) 0 rfl
  refine Own.ld (c:=.slice) ho8 4 rfl so rfl ?_
  refine Own.undefer ho8.rebase 1 rfl fun w13 hd=>?_
  have hb8:Bodies ([l,Dm,rp,rl,ro,r1]++G) (Pt.upd w7 l E0) so (bodiesL numbers pages pages.length) Bo:=hbod.frame ((qb3 (qac (ho7.at (i:=0) rfl)) E0).mono fun b hb _=>by simp at hb; subst hb; simp) hBoG (fun b hb=>.inl hb)
  exact hk so Bo w13 (hb8.frame (S':=G) (hd.fr.mono fun b hb _=>List.mem_append_left _ hb) hBoG (fun b hb=>.inl (List.mem_append_right _ hb))) (ho8.back (L':=[]) hd.fr) (fun b hb=>(hBo b hb).1)
end Go.Proofs.YtmmkegapckbomaaGreatDoor
end
section
set_option linter.unusedVariables false
set_option maxRecDepth 100000
namespace Go.Proofs.YtmmkegapckbomaaGreatDoor
open Go Go.Pt
@[reducible] def quq:List Cell:=[Cell.int IntKind.u32,Cell.int IntKind.u32,Cell.int IntKind.u32]
def qjU (b:Sl) (n:Int) (K:Sl->World->Prop) (w:World):Prop:=new (Obj.cells #[.int .u8 (IntKind.wrap .u8 (Int.fdiv n (2^24))),.int .u8 (IntKind.wrap .u8 (Int.fdiv n (2^16))),.int .u8 (IntKind.wrap .u8 (Int.fdiv n (2^8))),.int .u8 (IntKind.wrap .u8 n)] 5) w fun c d=>run [.one .slice] ((Builtin.append_ (#[23,23]) 23 (#[.slice b.a b.len b.cap,.slice (some ⟨c,0,none⟩) 4 4])).run Tryz.prog d) fun e f=>K e f
def qqf:List Ann:=[.n,.n]
theorem qnI {b n w K} (hF:qjU b n K w):call Tryz.prog 167 [.slice b.a b.len b.cap,.int .u32 n] [.one .slice] w K:=qad (an:=qqf) Tryz.func167 hF
def qgC (s:List Value) (K:Sl->World->Prop) (w:World):Prop:=new (Obj.cells (List.toArray s) 121) w fun b c=>ld (.int .u64) ⟨b,0,none⟩ (World.drew c) fun (d:Int)=>ld (.int .u64) ⟨b,0,none⟩ (World.drew c) fun (e:Int)=>call Tryz.prog 167 ([.slice none 0 0,.int .u32 (IntKind.wrap .u32 (Int.fdiv d (2^32)))]) ([.one .slice]) (World.drew c) fun f g=>held [fun h=>World.cell? h ⟨b,0,none⟩=some (.int .u64 e)] g<|call Tryz.prog 167 ([.slice f.a f.len f.cap,.int .u32 (IntKind.wrap .u32 e)]) ([.one .slice]) g fun i j=>ld (.int .u32) ⟨b,1,none⟩ (World.drew j) fun (k:Int)=>ld (.int .u32) ⟨b,2,none⟩ (World.drew j) fun (l:Int)=>ld (.int .u32) ⟨b,3,none⟩ (World.drew j) fun (m:Int)=>call Tryz.prog 167 ([.slice i.a i.len i.cap,.int .u32 k]) ([.one .slice]) (World.drew j) fun n o=>held [fun p=>World.cell? p ⟨b,3,none⟩=some (.int .u32 m),fun q=>World.cell? q ⟨b,2,none⟩=some (.int .u32 l)] o<|call Tryz.prog 167 ([.slice n.a n.len n.cap,.int .u32 l]) ([.one .slice]) o fun r t=>held [fun u=>World.cell? u ⟨b,3,none⟩=some (.int .u32 m)] t<|call Tryz.prog 167 ([.slice r.a r.len r.cap,.int .u32 m]) ([.one .slice]) t fun v x=>ldV 24 ⟨b,4,none⟩ x fun y=>loop (Sl×Int) (fun z (A:Sl×Int) B=>cond (decide (A.snd<8)) (chk (0<=A.snd/\A.snd<(↑8:Int))<|fldA (quq) y (Int.toNat A.snd*3) fun (C:Int×Int×Int)=>new (Obj.cells #[.int .u32 0,.int .u32 0,.int .u32 0] 39) B fun D E=>st ⟨D,0,none⟩ (HL.mk quq C) E fun F=>ld (.int .u32) ⟨D,0,none⟩ (World.drew F) fun (G:Int)=>ld (.int .u32) ⟨D,1,none⟩ (World.drew F) fun (H:Int)=>ld (.int .u32) ⟨D,2,none⟩ (World.drew F) fun (I:Int)=>call Tryz.prog 167 ([.slice A.fst.a A.fst.len A.fst.cap,.int .u32 G]) ([.one .slice]) (World.drew F) fun J L=>held [fun M=>World.cell? M ⟨D,2,none⟩=some (.int .u32 I),fun N=>World.cell? N ⟨D,1,none⟩=some (.int .u32 H)] L<|call Tryz.prog 167 ([.slice J.a J.len J.cap,.int .u32 H]) ([.one .slice]) L fun O P=>held [fun Q=>World.cell? Q ⟨D,2,none⟩=some (.int .u32 I)] P<|call Tryz.prog 167 ([.slice O.a O.len O.cap,.int .u32 I]) ([.one .slice]) P fun R S=>z ((R,IntKind.wrap .i64 (A.snd+1))) S) (ld (.int .u64) ⟨b,0,none⟩ B fun (T:Int)=>call Tryz.prog 114 ([.int .u32 (IntKind.wrap .u32 (Int.tmod T 2)),.int .u8 1,.slice A.fst.a A.fst.len A.fst.cap]) ([.one .slice,.one (.int .i64)]) B fun (U:Sl×Int) V=>K U.fst V)) ((v,0)) x
def qnf:List Ann:=[.n,.n,.o [[0,1,2,3,5,6,7,4,8,9]],.n,.o [[0,1,2,4,5,7,8,3,6,9,10]],.n,.n,.l [(3,.one .slice),(29,.one (.int .i64))],.n,.n,.n,.n,.o [[0,1,2,4,5,7,8,3,6,9,10]],.n,.n]
theorem qk8 {s w K} (hF:qgC s K w):call Tryz.prog 133 [.agg s.toArray] [.one .slice] w K:=qad (an:=qnf) Tryz.func133 hF
def qgi (b:Sl) (K:((List Value))->World->Prop) (w:World):Prop:=new (Obj.cells #[.slice b.a b.len b.cap] 23) w fun c d=>newZ Tryz.prog 121 d fun e f=>newZ Tryz.prog 121 f fun g h=>callV Tryz.prog (Value.func (Fn.func 231) #[] #[.pointer (some ⟨c,0,none⟩)]) [] ([.one (.int .u32)]) h fun (i:Int) j=>st ⟨g,0,none⟩ ([.int .u64 (IntKind.wrap .u64 (IntKind.wrap .u64 i*2^32))]) j fun k=>ld (.int .u64) ⟨g,0,none⟩ (World.drew k) fun (l:Int)=>callV Tryz.prog (Value.func (Fn.func 231) #[] #[.pointer (some ⟨c,0,none⟩)]) [] ([.one (.int .u32)]) (World.drew k) fun (m:Int) n=>held [fun o=>World.cell? o ⟨g,0,none⟩=some (.int .u64 l)] n<|st ⟨g,0,none⟩ ([.int .u64 (bits BinOp.or IntKind.u64 l (IntKind.wrap .u64 m))]) n fun p=>callV Tryz.prog (Value.func (Fn.func 231) #[] #[.pointer (some ⟨c,0,none⟩)]) [] ([.one (.int .u32)]) p fun (q:Int) r=>st ⟨g,1,none⟩ ([.int .u32 q]) r fun s=>callV Tryz.prog (Value.func (Fn.func 231) #[] #[.pointer (some ⟨c,0,none⟩)]) [] ([.one (.int .u32)]) s fun (t:Int) u=>st ⟨g,2,none⟩ ([.int .u32 t]) u fun v=>callV Tryz.prog (Value.func (Fn.func 231) #[] #[.pointer (some ⟨c,0,none⟩)]) [] ([.one (.int .u32)]) v fun (x:Int) y=>st ⟨g,3,none⟩ ([.int .u32 x]) y fun z=>loop (Int) (fun A (B:Int) C=>cond (decide (B<8)) (chk (0<=B/\B<(↑8:Int))<|callV Tryz.prog (Value.func (Fn.func 231) #[] #[.pointer (some ⟨c,0,none⟩)]) [] ([.one (.int .u32)]) C fun (D:Int) E=>st (Addr.add (Addr.add ⟨g,4,none⟩ (Int.toNat B*3)) 0) ([.int .u32 D]) E fun F=>callV Tryz.prog (Value.func (Fn.func 231) #[] #[.pointer (some ⟨c,0,none⟩)]) [] ([.one (.int .u32)]) F fun (G:Int) H=>st (⟨(Addr.add (Addr.add ⟨g,0,none⟩ 4) (Int.toNat B*3)).block,(Addr.add (Addr.add ⟨g,0,none⟩ 4) (Int.toNat B*3)).off+1,none⟩) ([.int .u32 G]) H fun I=>callV Tryz.prog (Value.func (Fn.func 231) #[] #[.pointer (some ⟨c,0,none⟩)]) [] ([.one (.int .u32)]) I fun (J:Int) L=>st (⟨(Addr.add (Addr.add ⟨g,0,none⟩ 4) (Int.toNat B*3)).block,(Addr.add (Addr.add ⟨g,0,none⟩ 4) (Int.toNat B*3)).off+2,none⟩) ([.int .u32 J]) L fun M=>A (IntKind.wrap .i64 (B+1)) M) (ldV 28 ⟨g,0,none⟩ C fun N=>chk (List.length N=28)<|st ⟨e,0,none⟩ N C fun O=>ldV 28 ⟨e,0,none⟩ O fun P=>K P O)) 0 z
def qmK:List Ann:=[.n,.n,.n,.n,.n,.o [[0,1,2,3,4,5,6,7]],.n,.n,.n,.n,.n,.l [(29,.one (.int .i64))],.n,.n,.n,.n,.n,.n,.n,.n]
theorem qkI {b w K} (hF:qgi b K w):call Tryz.prog 207 [.slice b.a b.len b.cap] [.raw] w K:=qad (an:=qmK) Tryz.func207 hF
def qdW (cap0:Addr) (K:Int->World->Prop) (w:World):Prop:=ld .slice cap0 (World.drew w) fun b=>idx b 0 1 fun c=>ld (.int .u8) c (World.drew w) fun (d:Int)=>ld .slice cap0 (World.drew w) fun e=>idx e 1 1 fun f=>ld (.int .u8) f (World.drew w) fun (g:Int)=>ld .slice cap0 (World.drew w) fun h=>idx h 2 1 fun i=>ld (.int .u8) i (World.drew w) fun (j:Int)=>ld .slice cap0 (World.drew w) fun k=>idx k 3 1 fun l=>ld (.int .u8) l (World.drew w) fun (m:Int)=>ld .slice cap0 (World.drew w) fun n=>slc n (some 4) none none 1 fun o=>st cap0 ([.slice o.a o.len o.cap]) (World.drew w) fun p=>K (bits BinOp.or IntKind.u32 (bits BinOp.or IntKind.u32 (bits BinOp.or IntKind.u32 (IntKind.wrap .u32 (IntKind.wrap .u32 d*2^24)) (IntKind.wrap .u32 (IntKind.wrap .u32 g*2^16))) (IntKind.wrap .u32 (IntKind.wrap .u32 j*2^8))) (IntKind.wrap .u32 m)) p
def qkh:List Ann:=[.n,.n,.o [[0,1,2,3,4,5,6,7,8,9,10,11,12,13,14,15,16,17,18,19,20,21,22]],.n,.n]
theorem qhT {cap0 w K} (hF:qdW cap0 K w):call Tryz.prog 231 [.pointer (some cap0)] [.one (.int .u32)] w K:=qad (an:=qkh) Tryz.func231 hF
def qik (place:Int) (b:Sl) (K:((List Value)×Int)->World->Prop) (w:World):Prop:=newZ Tryz.prog 121 w fun c d=>join (Bool) (fun e=>cond (!place==0) (e (!place==1) d) (e false d)) fun (f:Bool) g=>cond f (runQ [.raw] (fun h=>(Instr.build 121 #[]).run Tryz.prog h) g fun i=>chk (List.length i=28)<|st ⟨c,0,none⟩ i g fun j=>ldV 28 ⟨c,0,none⟩ j fun k=>K ((k,1)) j) (call Tryz.prog 126 ([.int .u32 (IntKind.wrap .u32 place),.slice b.a b.len b.cap]) ([.one (.int .u8),.one .slice,.one (.int .i64)]) g fun (l:Int×Sl×Int) m=>cond (!l.snd.snd==0) (runQ [.raw] (fun n=>(Instr.build 121 #[]).run Tryz.prog n) m fun o=>chk (List.length o=28)<|st ⟨c,0,none⟩ o m fun p=>ldV 28 ⟨c,0,none⟩ p fun q=>K ((q,l.snd.snd)) p) (join (Bool) (fun r=>cond (!l.fst==1) (r true m) (r (!(↑l.snd.fst.len:Int)==116) m)) fun (s:Bool) t=>cond s (runQ [.raw] (fun u=>(Instr.build 121 #[]).run Tryz.prog u) t fun v=>chk (List.length v=28)<|st ⟨c,0,none⟩ v t fun x=>ldV 28 ⟨c,0,none⟩ x fun y=>K ((y,2)) x) (call Tryz.prog 207 ([.slice l.snd.fst.a l.snd.fst.len l.snd.fst.cap]) [.raw] t fun z A=>newZ Tryz.prog 121 A fun B C=>chk (List.length z=28)<|st ⟨B,0,none⟩ z C fun D=>ld (.int .u64) ⟨B,0,none⟩ D fun (E:Int)=>cond (!Int.tmod E 2==IntKind.wrap .u64 place) (runQ [.raw] (fun F=>(Instr.build 121 #[]).run Tryz.prog F) D fun G=>chk (List.length G=28)<|st ⟨c,0,none⟩ G D fun H=>ldV 28 ⟨c,0,none⟩ H fun I=>K ((I,2)) H) (ldV 28 ⟨B,0,none⟩ D fun J=>chk (List.length J=28)<|st ⟨c,0,none⟩ J D fun L=>ldV 28 ⟨c,0,none⟩ L fun M=>K ((M,0)) L))))
def qoj:List Ann:=[.n,.n,.j [(15,.one .bool)],.n,.n,.n,.n,.n,.n,.j [(35,.one .bool)],.n,.n,.n,.n,.n,.n]
theorem qmn {place b w K} (hF:qik place b K w):call Tryz.prog 162 [.int .i64 place,.slice b.a b.len b.cap] [.raw,.one (.int .i64)] w K:=qad (an:=qoj) Tryz.func162 hF
def qfN (a:Sl) (b:Sl) (K:((List Value)×Int)->World->Prop) (w:World):Prop:=newZ Tryz.prog 121 w fun c d=>call Tryz.prog 162 ([.int .i64 0,.slice a.a a.len a.cap]) ([.raw,.one (.int .i64)]) d fun (e:List Value×Int) f=>newZ Tryz.prog 121 f fun g h=>chk (List.length e.fst=28)<|st ⟨g,0,none⟩ e.fst h fun i=>call Tryz.prog 162 ([.int .i64 1,.slice b.a b.len b.cap]) ([.raw,.one (.int .i64)]) i fun (j:List Value×Int) k=>newZ Tryz.prog 121 k fun l m=>chk (List.length j.fst=28)<|st ⟨l,0,none⟩ j.fst m fun n=>join (Bool) (fun o=>cond (!e.snd==0) (o (!j.snd==0) n) (o false n)) fun (p:Bool) q=>cond p (runQ [.raw] (fun r=>(Instr.build 121 #[]).run Tryz.prog r) q fun s=>chk (List.length s=28)<|st ⟨c,0,none⟩ s q fun t=>ldV 28 ⟨c,0,none⟩ t fun u=>K ((u,5)) t) (join (Bool) (fun v=>cond (!e.snd==0) (v true q) (cond (j.snd==0) (ld (.int .u64) ⟨l,0,none⟩ q fun (x:Int)=>ld (.int .u64) ⟨g,0,none⟩ q fun (y:Int)=>v (decide (x>y)) q) (v false q))) fun (z:Bool) A=>cond z (ldV 28 ⟨l,0,none⟩ A fun B=>chk (List.length B=28)<|st ⟨c,0,none⟩ B A fun C=>ldV 28 ⟨c,0,none⟩ C fun D=>K ((D,0)) C) (ldV 28 ⟨g,0,none⟩ A fun E=>chk (List.length E=28)<|st ⟨c,0,none⟩ E A fun F=>ldV 28 ⟨c,0,none⟩ F fun G=>K ((G,0)) F))
def qmh:List Ann:=[.n,.n,.n,.n,.j [(20,.one .bool)],.n,.j [(28,.one .bool)],.n,.n]
theorem qj0 {a b w K} (hF:qfN a b K w):call Tryz.prog 129 [.slice a.a a.len a.cap,.slice b.a b.len b.cap] [.raw,.one (.int .i64)] w K:=qad (an:=qmh) Tryz.func129 hF
end Go.Proofs.YtmmkegapckbomaaGreatDoor
end
section
set_option linter.unusedVariables false
set_option linter.unusedSimpArgs false
namespace Go.Proofs.YtmmkegapckbomaaGreatDoor
open Go Go.Pt
attribute [local irreducible] ld ldA ldV fld fldA newZ st new idx idxS idxA slc slcS slcP mkS chk nn call callV inv run runQ runU join loop held ext rng undefer s2a nxt ent IntKind.wrap
def supV (q:Int) (t:List Int):List Value:=.int .u64 q::t.map (Value.int .u32)
def superB (q:Int) (t:List Int):List Int:=be (IntKind.wrap .u32 (Int.fdiv q (2^32))) 4++be (IntKind.wrap .u32 q) 4++t.flatMap (be · 4)
theorem qbH {q:Int} {t:List Int} (ht:t.length=27):(superB q t).length=116:=by
 rw [superB,List.length_append,List.length_append,qam,qam,qcg,ht]
theorem qaI {q:Int} {t:List Int} (ht:t.length=27):(supV q t).length=28:=by simp [supV,ht]
theorem qex {q:Int} {t:List Int} (n:Nat) (h:n<t.length):(supV q t).toArray[n+1]?=some (.int .u32 (t.getD n 0)):=by
 simp [supV,List.getD_eq_getElem?_getD,List.getElem?_eq_getElem h]
theorem qnu (q:Int) (t:List Int):((supV q t).all Value.oneCell')=true:=by
 rw [List.all_eq_true]
 intro v hv
 rcases List.mem_cons.1 hv with rfl | hv
 ·rfl
 ·obtain ⟨x,_,rfl⟩:=List.mem_map.1 hv; rfl
theorem qnD {α:Type} {enc:α->List Value} {k:Nat} {w:World} {s:Sl} {l:List α} {B:List Nat} (h:Buf enc k w s l B):Buf enc k w.drew s l B:=h
def Apart (w0:World) (L:List (Nat×Obj)) (B:List Nat):Prop:=∀ b∈B,w0.heap.size<=b/\b∉L.map (·.1)
theorem Apart.cons {w0:World} {L:List (Nat×Obj)} {B:List Nat} {r:Nat} {o:Obj} (h:Apart w0 L B) (hr:r∉B):Apart w0 ((r,o)::L) B:=fun b hb=>⟨(h b hb).1,fun hm=>by
 rcases List.mem_cons.1 hm with rfl | hm
 ·exact hr hb
 ·exact (h b hb).2 hm⟩
theorem Apart.tail {w0:World} {L:List (Nat×Obj)} {B:List Nat} {p:Nat×Obj} (h:Apart w0 (p::L) B):Apart w0 L B:=fun b hb=>⟨(h b hb).1,fun hm=>(h b hb).2 (List.mem_cons_of_mem _ hm)⟩
theorem qpW {l:List Int} {j:Nat} (h:j+3<=l.length):l.drop j=l.getD j 0::l.getD (j+1) 0::l.getD (j+2) 0::l.drop (j+3):=by
 rw [List.drop_eq_getElem_cons (by omega),List.drop_eq_getElem_cons (i:=j+1) (by omega),List.drop_eq_getElem_cons (i:=j+1+1) (by omega)]
 simp only [List.getD_eq_getElem?_getD]
 rw [List.getElem?_eq_getElem (show j<l.length by omega),List.getElem?_eq_getElem (show j+1<l.length by omega),List.getElem?_eq_getElem (show j+2<l.length by omega)]
 rfl
theorem take3 {l:List Int} {j:Nat} (h:j+3<=l.length):l.take (j+3)=l.take j++[l.getD j 0,l.getD (j+1) 0,l.getD (j+2) 0]:=by
 rw [List.take_add,qpW h]
 rfl
theorem quE {l:List Int} {j:Nat} (h:j+3<=l.length):(l.map (Value.int .u32)).extract j (j+3)=[.int .u32 (l.getD j 0),.int .u32 (l.getD (j+1) 0),.int .u32 (l.getD (j+2) 0)]:=by
 rw [List.extract_eq_take_drop,<- List.map_drop,qpW h,show j+3-j=3 by omega]
 rfl
theorem qbV {w0 w:World} {L:List (Nat×Obj)} {s:Sl} {l:List Int} {B:List Nat} {n:Int} {K:Sl->World->Prop} (ho:Own [] w0 w L) (h:BufB w s l B) (hB:Apart w0 L B) (hl:l.length<=1000000)
  (hk:∀ s' B' w',Own [] w0 w' L->BufB w' s' (l++be n 4) B'->Apart w0 L B'->K s' w') :
  call Tryz.prog 167 [.slice s.a s.len s.cap,.int .u32 n] [.one .slice] w K:=by
 refine qnI (b:=s) ?_
 unfold qjU
 refine ql0 h hl fun s' B' w' b' f' n'=>?_
 refine hk s' B' w' (ho.frame f' (fun b hb=>.inr (hB b hb).1) (fun p hp hb=>(hB _ hb).2 (List.mem_map_of_mem hp))) b' fun b hb=>?_
 rcases n' b hb with h1 | h1
 ·exact hB b h1
 ·refine ⟨Nat.le_trans ho.fr.size h1,fun hm=>?_⟩
  obtain ⟨p,hp,rfl⟩:=List.mem_map.1 hm
  have:=qac (ho.blk p hp)
  omega
theorem qqw {w:World} {q:Int} {t:List Int} {K:Sl->World->Prop} (hv:Hv w) (ht:t.length=27)
  (hk:∀ b T w',w'.heap[b]?=some (.cells (bytesA (sealV (IntKind.wrap .u32 (Int.tmod q 2)) 1 (superB q t))) T (0,0))->Fr [] w w'->w.heap.size<=b->K ⟨some ⟨b,0,none⟩,512,512⟩ w') :
  call Tryz.prog 133 [.agg (supV q t).toArray] [.one .slice] w K:=by
 refine qk8 (s:=supV q t) ?_
 unfold qgC
 refine Own.new' (Own.start [] w) fun r1 w1 e1 f1 ho=>?_
 have c0:(supV q t).toArray[0]?=some (.int .u64 q):=rfl
 have cn:=fun n (h:n<27)=>qex (q:=q) (t:=t) n (by omega)
 refine Own.ld (c:=.int .u64) ho.drew 0 rfl q c0 ?_
 refine Own.ld (c:=.int .u64) ho.drew 0 rfl q c0 ?_
 refine qbV (s:=⟨none,0,0⟩) (l:=[]) (B:=[]) ho.drew (.nil _ _ _) (fun b hb=>by cases hb) (by simp) fun s5 B5 w6 ho b5 n5=>?_
 refine qah (ho.cell (off:=0) 0 rfl c0) ?_
 refine qbV ho b5 n5 (by simp [qam]) fun s8 B8 w9 ho b8 n8=>?_
 refine Own.ld (c:=.int .u32) ho.drew 0 rfl (t.getD 0 0) (cn 0 (by decide)) ?_
 refine Own.ld (c:=.int .u32) ho.drew 0 rfl (t.getD 1 0) (cn 1 (by decide)) ?_
 refine Own.ld (c:=.int .u32) ho.drew 0 rfl (t.getD 2 0) (cn 2 (by decide)) ?_
 refine qbV ho.drew (qnD b8) n8 (by simp [qam]) fun s13 B13 w14 ho b13 n13=>?_
 refine qap (ho.cell (off:=3) 0 rfl (cn 2 (by decide))) (ho.cell (off:=2) 0 rfl (cn 1 (by decide))) ?_
 refine qbV ho b13 n13 (by simp [qam]) fun s17 B17 w18 ho b17 n17=>?_
 refine qah (ho.cell (off:=3) 0 rfl (cn 2 (by decide))) ?_
 refine qbV ho b17 n17 (by simp [qam]) fun s20 B20 w21 ho b20 n20=>?_
 have hr:((supV q t).toArray.toList.drop 4).take 24=(t.drop 3).map (Value.int .u32):=by
  show (List.drop 3 (t.map (Value.int .u32))).take 24=_
  rw [List.map_drop,List.take_of_length_le (by rw [List.length_drop,List.length_map,ht]; decide)]
 refine qbT (ho.at (i:=0) rfl) ((t.drop 3).map (Value.int .u32)) (by rw [List.length_map,List.length_drop,ht]) hr ?_
 have hl3:(t.drop 3).length=24:=by rw [List.length_drop,ht]
 have ht3:t=[t.getD 0 0,t.getD 1 0,t.getD 2 0]++t.drop 3:=by
  have:=qpW (l:=t) (j:=0) (by omega)
  rw [List.drop_zero] at this
  exact this
 have base:[]++be (IntKind.wrap .u32 (Int.fdiv q (2^32))) 4++be (IntKind.wrap .u32 q) 4++be (t.getD 0 0) 4++be (t.getD 1 0) 4++be (t.getD 2 0) 4=be (IntKind.wrap .u32 (Int.fdiv q (2^32))) 4++be (IntKind.wrap .u32 q) 4++[t.getD 0 0,t.getD 1 0,t.getD 2 0].flatMap (be · 4):=by
  simp
 rw [base] at b20
 refine qak (fun x w'=>∃ (i:Nat) (B:List Nat),x.2=i/\i<=8/\BufB w' x.1 (be (IntKind.wrap .u32 (Int.fdiv q (2^32))) 4++be (IntKind.wrap .u32 q) 4++[t.getD 0 0,t.getD 1 0,t.getD 2 0].flatMap (be · 4)++((t.drop 3).take (3*i)).flatMap (be · 4)) B/\Own [] w w' [(r1,.cells (supV q t).toArray 121 (0,0))]/\Apart w [(r1,.cells (supV q t).toArray 121 (0,0))] B) (fun x _=>(8-x.2).toNat)
  ⟨0,B20,rfl,by omega,by simpa using b20,ho,n20⟩ ?_
 rintro ⟨s,ii⟩ w2 ⟨i,B,hi0,hi8,bb,ho,nb⟩ X hX
 simp only at hi0 bb
 subst hi0
 dsimp only
 have hlen:(be (IntKind.wrap .u32 (Int.fdiv q (2^32))) 4++be (IntKind.wrap .u32 q) 4++[t.getD 0 0,t.getD 1 0,t.getD 2 0].flatMap (be · 4)++((t.drop 3).take (3*i)).flatMap (be · 4)).length<=200:=by
  rw [List.length_append,List.length_append,List.length_append,qam,qam,qcg,qcg,List.length_take,hl3]
  show 4+4+3*4+_<=200
  omega
 refine qab (fun hc=>?_) (fun hc=>?_)
 ·have hi:i<8:=by have:=of_decide_eq_true hc; omega
  refine qaX ⟨by omega,by omega⟩ ?_
  have h3:3*i+3<=(t.drop 3).length:=by omega
  refine qtg ((t.drop 3).getD (3*i) 0,(t.drop 3).getD (3*i+1) 0,(t.drop 3).getD (3*i+2) 0) ?_ ?_
  ·have:=quE h3
   rw [show Int.toNat (i:Int)*3=3*i by simp; omega]
   exact this
  refine Own.new' ho fun r2 w3 e3 f3 ho2=>?_
  refine Own.st' ho2 0 rfl _ rfl rfl (Nat.le_of_ble_eq_true rfl) fun w4 ho2 f4=>?_
  have hlt:=bb.lt
  have hr2:r2∉B:=fun hb=>by have:=hlt _ hb; omega
  have bb:=(bb.frame0 f3).frame f4 (fun b hb hm=>by simp only [List.mem_singleton] at hm; subst hm; exact hr2 hb)
  refine Own.ld (c:=.int .u32) ho2.drew 0 rfl ((t.drop 3).getD (3*i) 0) rfl ?_
  refine Own.ld (c:=.int .u32) ho2.drew 0 rfl ((t.drop 3).getD (3*i+1) 0) rfl ?_
  refine Own.ld (c:=.int .u32) ho2.drew 0 rfl ((t.drop 3).getD (3*i+2) 0) rfl ?_
  refine qbV ho2.drew (qnD bb) (nb.cons hr2) (by omega) fun s5 B5 w5 ho2 b5 n5=>?_
  refine qap (ho2.cell (off:=2) 0 rfl rfl) (ho2.cell (off:=1) 0 rfl rfl) ?_
  refine qbV ho2 b5 n5 (by rw [List.length_append,qam]; omega) fun s6 B6 w6 ho2 b6 n6=>?_
  refine qah (ho2.cell (off:=2) 0 rfl rfl) ?_
  refine qbV ho2 b6 n6 (by rw [List.length_append,List.length_append,qam,qam]; omega) fun s7 B7 w7 ho2 b7 n7=>?_
  rw [wi' _ (by omega)]
  refine hX _ _ ⟨i+1,B7,by simp,by omega,?_,ho2.sub (List.sublist_cons_self _ _),n7.tail⟩ (by dsimp only; omega)
  rw [show 3*(i+1)=3*i+3 by omega,take3 h3,List.flatMap_append]
  have e:([(t.drop 3).getD (3*i) 0,(t.drop 3).getD (3*i+1) 0,(t.drop 3).getD (3*i+2) 0]:List Int).flatMap (be · 4)=be ((t.drop 3).getD (3*i) 0) 4++be ((t.drop 3).getD (3*i+1) 0) 4++be ((t.drop 3).getD (3*i+2) 0) 4:=by simp
  rw [e]
  simpa only [List.append_assoc] using b7
 ·obtain rfl:i=8:=by have:=of_decide_eq_false hc; omega
  rw [List.take_of_length_le (by omega),List.append_assoc,<- List.flatMap_append,<- ht3] at bb
  refine Own.ld (c:=.int .u64) ho 0 rfl q c0 ?_
  have hb:=bb.rds (S:=[]) qas (by simp)
  refine qo1 hb (hv.frame0 ho.fr) (by show (superB q t).length<=_; rw [qbH ht]; decide) (fun h=>?_) fun _ b T w5 h5 f5 n5=>?_
  ·have h':500<(superB q t).length:=h
   rw [qbH ht] at h'
   exact absurd h' (by decide)
  ·exact hk b T w5 h5 (ho.fr.trans' f5 (by simp)) (Nat.le_trans ho.fr.size n5)
theorem qbQ {w0 w:World} {L:List (Nat×Obj)} {r:Nat} {s:Sl} {l:List Int} {K:Int->World->Prop} (ho:Own [] w0 w L) (i:Nat) (hi:L[i]?=some (r,.cells #[.slice s.a s.len s.cap] 23 (0,0))) (h:RdB [] w0 s l) (hl:4<=l.length)
  (hk:∀ s' w',RdB [] w0 s' (l.drop 4)->Own [] w0 w' (L.set i (r,.cells #[.slice s'.a s'.len s'.cap] 23 (0,0)))->K (first4 l) w') :
  callV Tryz.prog (.func (.func 231) #[] #[.pointer (some ⟨r,0,none⟩)]) [] [.one (.int .u32)] w K:=by
 refine qba (lb:=[.pointer (some ⟨r,0,none⟩)]) rfl (by kernel_rfl) ?_
 refine qhT ?_
 unfold qdW
 have hd:=ho.drew
 have hw:RdB [] w.drew s l:=h.frame0 hd.fr
 refine Own.ld (c:=.slice) hd i hi s rfl ?_
 refine RdB.at hw 0 rfl (getD_some (by omega)) ?_
 refine Own.ld (c:=.slice) hd i hi s rfl ?_
 refine RdB.at hw 1 rfl (getD_some (by omega)) ?_
 refine Own.ld (c:=.slice) hd i hi s rfl ?_
 refine RdB.at hw 2 rfl (getD_some (by omega)) ?_
 refine Own.ld (c:=.slice) hd i hi s rfl ?_
 refine RdB.at hw 3 rfl (getD_some (by omega)) ?_
 refine Own.ld (c:=.slice) hd i hi s rfl ?_
 refine Rds.drop h 4 rfl hl (by omega) fun s' h'=>?_
 refine Own.st hd i hi _ rfl rfl rfl fun w' ho' _=>?_
 exact hk s' w' h' ho'
def parseQ (l:List Int):Int:=bits .or .u64 (IntKind.wrap .u64 (IntKind.wrap .u64 (first4 l)*2^32)) (IntKind.wrap .u64 (first4 (l.drop 4)))
def parseT (l:List Int):List Int:=(List.range 27).map fun i=>first4 (l.drop (8+4*i))
theorem qaM (l:List Int):(parseT l).length=27:=by simp [parseT]
def supN (q:Int) (f:Nat->Int) (n:Nat):Array Value:=(supV q ((List.range n).map f++zs (27-n))).toArray
theorem qpB {q x y:Int} {A Z:List Int}:splice (supV q (A++x::Z)).toArray (A.length+1) [.int .u32 y]=(supV q (A++y::Z)).toArray:=by
 apply Array.ext'
 have:=qds (.int .u64 q::A.map (Value.int .u32)) [Value.int .u32 x] [Value.int .u32 y] (Z.map (Value.int .u32)) rfl
 rw [qar _ _ _ (by simp [supV])]
 simpa [supV] using this
theorem qbX {q:Int} {f:Nat->Int} {n:Nat} (h:n<27):splice (supN q f n) (n+1) [.int .u32 (f n)]=supN q f (n+1):=by
 have hz:zs (27-n)=0::zs (27-(n+1)):=by rw [show 27-n=(27-(n+1))+1 by omega]; rfl
 have:=qpB (q:=q) (x:=0) (y:=f n) (A:=(List.range n).map f) (Z:=zs (27-(n+1)))
 rw [List.length_map,List.length_range] at this
 rw [supN,hz,this,supN,List.range_succ,List.map_append,List.append_assoc]
 rfl
theorem qqE {q q':Int} {f:Nat->Int} {n:Nat}:splice (supN q f n) 0 [.int .u64 q']=supN q' f n:=by
 apply Array.ext'
 rw [qar _ _ _ (by simp [supN,supV])]
 simp [supN,supV]
theorem qb4 {q:Int} {f:Nat->Int} {n:Nat} (h:n<=27):(supN q f n).size=28:=by
 simp [supN,supV,qaN]; omega
theorem qr2 {q:Int} {f:Nat->Int}:supN q f 27=(supV q ((List.range 27).map f)).toArray:=by
 show (supV q ((List.range 27).map f++[])).toArray=_
 rw [List.append_nil]
theorem qrt {S:List Nat} {w:World} {s:Sl} {l:List Int} {K:List Value->World->Prop} (h:RdB S w s l) (hl:l.length=116)
  (hk:∀ w',Fr [] w w'->K (supV (parseQ l) (parseT l)) w') :
  call Tryz.prog 207 [.slice s.a s.len s.cap] [.raw] w K:=by
 refine qkI (b:=s) ?_
 unfold qgi
 have h0:RdB [] w s l:=h.weak (by simp)
 have hz:((Tryz.prog.info? 121).bind (·.zero)).map (fun z=>z.cells.toList)=some (supV 0 (zs 27)):=by kernel_rfl
 refine Own.new' (Own.start [] w) fun r1 w1 e1 f1 ho=>?_
 refine Own.newZ ho hz fun r3 w2 e3 ho=>?_
 refine Own.newZ ho hz fun r5 w3 e5 ho=>?_
 refine qbQ ho 2 rfl h0 (by omega) fun s1 w4 h1 ho=>?_
 have st0:∀ (q:Int),(supV q (zs 27)).toArray=supN q (fun i=>first4 (l.drop (8+4*i))) 0:=fun q=>rfl
 refine Own.st' ho 0 rfl (supN (IntKind.wrap .u64 (IntKind.wrap .u64 (first4 l)*2^32)) (fun i=>first4 (l.drop (8+4*i))) 0) ?_ rfl ?_ fun w5 ho _=>?_
 ·rw [st0 0]; exact qqE
 ·exact Nat.le_of_ble_eq_true rfl
 refine Own.ld (c:=.int .u64) ho.drew 0 rfl (IntKind.wrap .u64 (IntKind.wrap .u64 (first4 l)*2^32)) rfl ?_
 refine qbQ ho.drew 2 rfl h1 (by rw [List.length_drop]; omega) fun s2 w6 h2 ho=>?_
 refine qah (ho.cell (off:=0) 0 rfl rfl) ?_
 refine Own.st' ho 0 rfl (supN (parseQ l) (fun i=>first4 (l.drop (8+4*i))) 0) qqE rfl (Nat.le_of_ble_eq_true rfl) fun w7 ho _=>?_
 rw [List.drop_drop] at h2
 refine qbQ ho 2 rfl h2 (by rw [List.length_drop]; omega) fun s3 w8 h3 ho=>?_
 refine Own.st' ho 0 rfl (supN (parseQ l) (fun i=>first4 (l.drop (8+4*i))) 1) (qbX (by decide)) rfl (by show 1+1<=_; rw [qb4 (by decide)]; decide) fun w9 ho _=>?_
 rw [List.drop_drop] at h3
 refine qbQ ho 2 rfl h3 (by rw [List.length_drop]; omega) fun s4 w10 h4 ho=>?_
 refine Own.st' ho 0 rfl (supN (parseQ l) (fun i=>first4 (l.drop (8+4*i))) 2) (qbX (by decide)) rfl (by show 2+1<=_; rw [qb4 (by decide)]; decide) fun w11 ho _=>?_
 rw [List.drop_drop] at h4
 refine qbQ ho 2 rfl h4 (by rw [List.length_drop]; omega) fun s5 w12 h5 ho=>?_
 refine Own.st' ho 0 rfl (supN (parseQ l) (fun i=>first4 (l.drop (8+4*i))) 3) (qbX (by decide)) rfl (by show 3+1<=_; rw [qb4 (by decide)]; decide) fun w13 ho _=>?_
 rw [List.drop_drop] at h5
 refine qak (fun x w'=>∃ (i:Nat) (sx:Sl),x=i/\i<=8/\RdB [] w sx (l.drop (20+12*i))/\
   Own [] w w' [(r5,.cells (supN (parseQ l) (fun i=>first4 (l.drop (8+4*i))) (3+3*i)) 121 (0,0)),(r3,.cells (supV 0 (zs 27)).toArray 121 (0,0)),(r1,.cells #[.slice sx.a sx.len sx.cap] 23 (0,0))]) (fun x _=>(8-x).toNat)
  ⟨0,s5,rfl,by omega,h5,ho⟩ ?_
 rintro x w14 ⟨i,sx,rfl,hi8,hx,ho⟩ X hX
 refine qab (fun hc=>?_) (fun hc=>?_)
 ·have hi:i<8:=by have:=of_decide_eq_true hc; omega
  refine qaX ⟨by omega,by omega⟩ ?_
  simp only [Addr.add_mk]
  have hti:Int.toNat (i:Int)=i:=by omega
  refine qbQ ho 2 rfl hx (by rw [List.length_drop]; omega) fun s6 w15 h6 ho=>?_
  show Pt.st ⟨r5,4+Int.toNat (i:Int)*3+0,none⟩ _ _ _
  refine Own.st' ho 0 rfl (supN (parseQ l) (fun i=>first4 (l.drop (8+4*i))) (3+3*i+1)) ?_ rfl ?_ fun w16 ho _=>?_
  ·rw [show 20+12*i=8+4*(3+3*i) by omega,show 4+Int.toNat (i:Int)*3+0=(3+3*i)+1 by omega]
   exact qbX (f:=fun i=>first4 (l.drop (8+4*i))) (by omega)
  ·rw [qb4 (by omega)]; show _+1<=28; omega
  rw [List.drop_drop] at h6
  refine qbQ ho 2 rfl h6 (by rw [List.length_drop]; omega) fun s7 w17 h7 ho=>?_
  show Pt.st ⟨r5,0+4+Int.toNat (i:Int)*3+1,none⟩ _ _ _
  refine Own.st' ho 0 rfl (supN (parseQ l) (fun i=>first4 (l.drop (8+4*i))) (3+3*i+2)) ?_ rfl ?_ fun w18 ho _=>?_
  ·rw [show 20+12*i+4=8+4*(3+3*i+1) by omega]
   show splice _ (0+4+Int.toNat (i:Int)*3+1) _=_
   rw [show 0+4+Int.toNat (i:Int)*3+1=(3+3*i+1)+1 by omega]
   exact qbX (f:=fun i=>first4 (l.drop (8+4*i))) (by omega)
  ·rw [qb4 (by omega)]; show 0+4+Int.toNat (i:Int)*3+1+1<=28; omega
  rw [List.drop_drop] at h7
  refine qbQ ho 2 rfl h7 (by rw [List.length_drop]; omega) fun s8 w19 h8 ho=>?_
  show Pt.st ⟨r5,0+4+Int.toNat (i:Int)*3+2,none⟩ _ _ _
  refine Own.st' ho 0 rfl (supN (parseQ l) (fun i=>first4 (l.drop (8+4*i))) (3+3*i+3)) ?_ rfl ?_ fun w20 ho _=>?_
  ·rw [show 20+12*i+4+4=8+4*(3+3*i+2) by omega]
   show splice _ (0+4+Int.toNat (i:Int)*3+2) _=_
   rw [show 0+4+Int.toNat (i:Int)*3+2=(3+3*i+2)+1 by omega]
   exact qbX (f:=fun i=>first4 (l.drop (8+4*i))) (by omega)
  ·rw [qb4 (by omega)]; show 0+4+Int.toNat (i:Int)*3+2+1<=28; omega
  rw [List.drop_drop] at h8
  rw [wi' _ (by omega)]
  refine hX _ _ ⟨i+1,s8,by simp,by omega,?_,?_⟩ (by omega)
  ·rw [show 20+12*(i+1)=20+12*i+4+4+4 by omega]; exact h8
  ·rw [show 3+3*(i+1)=3+3*i+3 by omega]; exact ho
 ·obtain rfl:i=8:=by have:=of_decide_eq_false hc; omega
  rw [show 3+3*8=27 from rfl,qr2] at ho
  refine qbT (ho.at (i:=0) rfl) (supV (parseQ l) (parseT l)) (qaI (qaM l)) (by rw [List.drop_zero]; exact List.take_of_length_le (Nat.le_of_eq (qaI (qaM l)))) ?_
  refine qaX (qaI (qaM l)) ?_
  refine Own.st' ho 1 rfl (supV (parseQ l) (parseT l)).toArray ?_ (qnu _ _) ?_ fun w15 ho _=>?_
  ·apply Array.ext'
   rw [qar _ _ _ (by rw [qaI (qaM l)]; decide),qaI (qaM l),List.take_zero,List.nil_append,List.drop_of_length_le (by decide),List.append_nil]
  ·rw [qaI (qaM l)]; decide
  refine qbT (ho.at (i:=1) rfl) (supV (parseQ l) (parseT l)) (qaI (qaM l)) (by rw [List.drop_zero]; exact List.take_of_length_le (Nat.le_of_eq (qaI (qaM l)))) ?_
  exact hk w15 ho.fr
theorem qfx:((Tryz.prog.info? 121).bind (·.zero)).map (fun z=>z.cells.toList)=some (supV 0 (zs 27)):=by kernel_rfl
theorem qqk {P:Program} {t:TypeId} {z:Value} {offs:Array (Nat×Nat)} (hz:(P.info? t).bind (·.zero)=some z) (hu:P.underlying t=some (.struct (fieldsOf P t))) (hpl:∀ w,((fieldsOf P t).mapM fun f=>do pure (f.offset,<- sizeOf f.type):Sem (Array (Nat×Nat))).run P w=.ok offs w) (w:World) :
  (Instr.build t #[]).run P w=.ok (.agg z.cells) w:=by
 simp only [Instr.build,Sem.run_bind,qaG hz,Result.andThen_ok,run_underlying hu,hpl,Instr.fill,Sem.run_pure]
theorem qda {w:World} {K:List Value->Prop} (k:K (supV 0 (zs 27))):runQ [Ty1.raw] (fun w'=>(Instr.build 121 #[]).run Tryz.prog w') w K:=by
 obtain ⟨z,hz,hzs⟩:=Option.map_eq_some_iff.1 qfx
 refine qbl (ts:=[Ty1.raw]) (supV 0 (zs 27)) ?_ k
 have:=qqk (P:=Tryz.prog) (t:=121) (offs:=#[(0,1),(1,1),(2,1),(3,1),(4,24)]) hz (by kernel_rfl) (fun w=>by kernel_rfl) w
 rw [this]
 show Result.ok (Value.agg z.cells) w=.ok (Value.agg (supV 0 (zs 27)).toArray) w
 rw [<- hzs]
theorem qc9 {cs:Array Value} {vs:List Value} (h:vs.length=cs.size):splice cs 0 vs=vs.toArray:=by
 apply Array.ext'
 rw [qar _ _ _ (by omega),List.take_zero,List.nil_append,List.drop_of_length_le (by rw [Array.length_toList]; omega),List.append_nil]
theorem qgk {q:Int} {t:List Int} (ht:t.length=27):(supV q t).toArray.size=28:=by rw [List.size_toArray]; exact qaI ht
theorem qhe {w:World} {r:Nat} {q:Int} {t:List Int} {T:TypeId} {fr:Nat×Nat} {K:List Value->Prop} (hb:w.heap[r]?=some (.cells (supV q t).toArray T fr)) (ht:t.length=27) (k:K (supV q t)):ldV 28 ⟨r,0,none⟩ w K:=
 qbT hb (supV q t) (qaI ht) (by rw [List.drop_zero,List.take_of_length_le (Nat.le_of_eq (qaI ht))]) k
theorem qg6 {w0 w:World} {L:List (Nat×Obj)} {r:Nat} {q q0:Int} {t t0:List Int} {T:TypeId} {K:World->Prop} (ho:Own [] w0 w L) (i:Nat) (hi:L[i]?=some (r,.cells (supV q0 t0).toArray T (0,0))) (h0:t0.length=27) (ht:t.length=27)
  (hk:∀ w',Own [] w0 w' (L.set i (r,.cells (supV q t).toArray T (0,0)))->K w'):chk ((supV q t).length=28) (st ⟨r,0,none⟩ (supV q t) w K):=by
 refine qaX (qaI ht) ?_
 refine Own.st' ho i hi (supV q t).toArray (qc9 (by rw [qgk h0,qaI ht])) (qnu _ _) (by rw [qgk h0,qaI ht]; decide) fun w' ho' _=>hk w' ho'
theorem qbI {w0 w:World} {L:List (Nat×Obj)} {r:Nat} {q q0:Int} {t t0:List Int} {T:TypeId} {K:List Value->World->Prop} (ho:Own [] w0 w L) (i:Nat) (hi:L[i]?=some (r,.cells (supV q0 t0).toArray T (0,0))) (h0:t0.length=27) (ht:t.length=27)
  (hk:∀ w',Fr [] w0 w'->K (supV q t) w'):chk ((supV q t).length=28) (st ⟨r,0,none⟩ (supV q t) w fun w'=>ldV 28 ⟨r,0,none⟩ w' fun vs=>K vs w'):=by
 refine qg6 ho i hi h0 ht fun w' ho'=>?_
 have hil:i<L.length:=by
  rcases Nat.lt_or_ge i L.length with h | h
  ·exact h
  ·rw [List.getElem?_eq_none h] at hi; cases hi
 exact qhe (ho'.at (i:=i) (by rw [List.getElem?_set_self hil])) ht (hk w' ho'.fr)
abbrev Sup:=Int×List Int
def supZero:Sup:=(0,zs 27)
def readSV (place:Int) (l:List Int):Sup×Int:=
 if (openV place l).2.2≠0 then (supZero,(openV place l).2.2)
 else if (openV place l).1≠1\/(openV place l).2.1.length≠116 then (supZero,2)
 else if Int.tmod (parseQ (openV place l).2.1) 2≠place then (supZero,2)
 else ((parseQ (openV place l).2.1,parseT (openV place l).2.1),0)
theorem qbs (place:Int) (l:List Int):(readSV place l).1.2.length=27:=by
 unfold readSV
 split <;> (try rfl)
 split <;> (try rfl)
 split <;> rfl
def newestV (a b:List Int):Sup×Int:=
 if (readSV 0 a).2≠0/\(readSV 1 b).2≠0 then (supZero,5)
 else if (readSV 0 a).2≠0\/((readSV 1 b).2=0/\(readSV 1 b).1.1>(readSV 0 a).1.1) then ((readSV 1 b).1,0)
 else ((readSV 0 a).1,0)
theorem qif (a b:List Int):(newestV a b).1.2.length=27:=by
 unfold newestV
 split <;> (try rfl)
 split <;> exact qbs _ _
theorem qna {S:List Nat} {w:World} {s:Sl} {l:List Int} {place:Int} {K:List Value×Int->World->Prop} (h:RdB S w s l) (hv:Hv w) (hB:IsB l) (hl:l.length<=100000) (hp:place=0\/place=1)
  (hk:∀ w',Fr [] w w'->K (supV (readSV place l).1.1 (readSV place l).1.2,(readSV place l).2) w') :
  call Tryz.prog 162 [.int .i64 place,.slice s.a s.len s.cap] [.raw,.one (.int .i64)] w K:=by
 refine qmn (place:=place) (b:=s) ?_
 unfold qik
 refine Own.newZ (Own.start [] w) qfx fun r1 w1 e1 ho=>?_
 have hpw:IntKind.wrap .u32 place=place:=by rcases hp with rfl | rfl <;> kernel_rfl
 have hpq:IntKind.wrap .u64 place=place:=by rcases hp with rfl | rfl <;> kernel_rfl
 rw [hpw,hpq]
 refine qag (fun b w'=>b=false/\w'=w1) ?_ ?_
 ·rcases hp with rfl | rfl
  ·exact cond_false rfl ⟨rfl,rfl⟩
  ·exact cond_true rfl ⟨rfl,rfl⟩
 rintro b w2 ⟨rfl,rfl⟩
 refine cond_false rfl ?_
 have bad:∀ {e:Int} {w':World},readSV place l=(supZero,e)->Fr [] w w'->K (supV 0 (zs 27),e) w':=by
  intro e w' he hf
  have:=hk w' hf
  rw [he] at this
  exact this
 refine qkC (h.frame0 ho.fr) (hv.frame0 ho.fr) hB hl fun s3 B3 w3 b3 f3 n3=>?_
 have ho:=ho.frame0 f3
 refine qab (fun hc=>?_) (fun hc=>?_)
 ·have he:(openV place l).2.2≠0:=by simpa using hc
  refine qda ?_
  refine qbI ho 0 rfl rfl rfl fun w4 f4=>?_
  exact bad (by rw [readSV,if_pos he]) f4
 have he:¬ (openV place l).2.2≠0:=by simpa using hc
 refine qag (fun b w'=>b=decide ((openV place l).1≠1\/(openV place l).2.1.length≠116)/\w'=w3) ?_ ?_
 ·refine qab (fun hc=>?_) (fun hc=>?_)
  ·have h1:(openV place l).1≠1:=by simpa using hc
   exact ⟨by simp [h1],rfl⟩
  ·have h1:(openV place l).1=1:=by simpa using hc
   have hbl:s3.len=(openV place l).2.1.length:=b3.len
   refine ⟨?_,rfl⟩
   dsimp only
   rw [hbl]
   by_cases hx:(openV place l).2.1.length=116
   ·rw [hx]; simp [h1]
   ·have:¬ (((openV place l).2.1.length:Int)=116):=by omega
    simp [h1,hx,this]
 rintro b w4 ⟨rfl,rfl⟩
 refine qab (fun hc=>?_) (fun hc=>?_)
 ·refine qda ?_
  refine qbI ho 0 rfl rfl rfl fun w5 f5=>?_
  exact bad (by rw [readSV,if_neg he,if_pos (of_decide_eq_true hc)]) f5
 have hk2:=of_decide_eq_false hc
 have hb116:(openV place l).2.1.length=116:=by
  rcases Nat.decEq (openV place l).2.1.length 116 with h | h
  ·exact absurd (Or.inr h) hk2
  ·exact h
 have hr3:=b3.rds (S:=[]) qas (by simp)
 refine qrt hr3 hb116 fun w5 f5=>?_
 have ho:=ho.frame0 f5
 refine Own.newZ ho qfx fun r6 w6 e6 ho=>?_
 refine qg6 ho 0 rfl rfl (qaM _) fun w7 ho=>?_
 refine Own.ld (c:=.int .u64) ho 0 rfl (parseQ (openV place l).2.1) rfl ?_
 refine qab (fun hc=>?_) (fun hc=>?_)
 ·have hq:Int.tmod (parseQ (openV place l).2.1) 2≠place:=by simpa using hc
  refine qda ?_
  refine qbI ho 1 rfl rfl rfl fun w8 f8=>?_
  exact bad (by rw [readSV,if_neg he,if_neg hk2,if_pos hq]) f8
 ·have hq:¬ Int.tmod (parseQ (openV place l).2.1) 2≠place:=by simpa using hc
  refine qhe (ho.at (i:=0) rfl) (qaM _) ?_
  refine qbI ho 1 rfl rfl (qaM _) fun w8 f8=>?_
  have:=hk w8 f8
  rw [readSV,if_neg he,if_neg hk2,if_neg hq] at this
  exact this
theorem qpJ {S:List Nat} {w:World} {sa sb:Sl} {a b:List Int} {K:List Value×Int->World->Prop} (ha:RdB S w sa a) (hb:RdB S w sb b) (hv:Hv w) (hBa:IsB a) (hBb:IsB b) (hla:a.length<=100000) (hlb:b.length<=100000)
  (hk:∀ w',Fr [] w w'->K (supV (newestV a b).1.1 (newestV a b).1.2,(newestV a b).2) w') :
  call Tryz.prog 129 [.slice sa.a sa.len sa.cap,.slice sb.a sb.len sb.cap] [.raw,.one (.int .i64)] w K:=by
 refine qj0 (a:=sa) (b:=sb) ?_
 unfold qfN
 refine Own.newZ (Own.start [] w) qfx fun r1 w1 e1 ho=>?_
 refine qna (ha.frame0 ho.fr) (hv.frame0 ho.fr) hBa hla (.inl rfl) fun w2 f2=>?_
 have ho:=ho.frame0 f2
 refine Own.newZ ho qfx fun r3 w3 e3 ho=>?_
 refine qg6 ho 0 rfl rfl (qbs _ _) fun w4 ho=>?_
 refine qna (hb.frame0 ho.fr) (hv.frame0 ho.fr) hBb hlb (.inr rfl) fun w5 f5=>?_
 have ho:=ho.frame0 f5
 refine Own.newZ ho qfx fun r6 w6 e6 ho=>?_
 refine qg6 ho 0 rfl rfl (qbs _ _) fun w7 ho=>?_
 refine qag (fun c w'=>c=decide ((readSV 0 a).2≠0/\(readSV 1 b).2≠0)/\w'=w7) ?_ ?_
 ·refine qab (fun hc=>?_) (fun hc=>?_)
  ·have h1:(readSV 0 a).2≠0:=by simpa using hc
   refine ⟨?_,rfl⟩
   by_cases h2:(readSV 1 b).2=0 <;> simp [h1,h2]
  ·have h1:(readSV 0 a).2=0:=by simpa using hc
   exact ⟨by simp [h1],rfl⟩
 rintro c w8 ⟨rfl,rfl⟩
 refine qab (fun hc=>?_) (fun hc=>?_)
 ·refine qda ?_
  refine qbI ho 2 rfl rfl rfl fun w9 f9=>?_
  have:=hk w9 f9
  rw [newestV,if_pos (of_decide_eq_true hc)] at this
  exact this
 have hn:=of_decide_eq_false hc
 refine qag (fun c w'=>c=decide ((readSV 0 a).2≠0\/((readSV 1 b).2=0/\(readSV 1 b).1.1>(readSV 0 a).1.1))/\w'=w8) ?_ ?_
 ·refine qab (fun hc=>?_) (fun hc=>?_)
  ·have h1:(readSV 0 a).2≠0:=by simpa using hc
   exact ⟨by simp [h1],rfl⟩
  ·have h1:(readSV 0 a).2=0:=by simpa using hc
   refine qab (fun hc=>?_) (fun hc=>?_)
   ·have h2:(readSV 1 b).2=0:=by simpa using hc
    refine Own.ld (c:=.int .u64) ho 0 rfl (readSV 1 b).1.1 rfl ?_
    refine Own.ld (c:=.int .u64) ho 1 rfl (readSV 0 a).1.1 rfl ?_
    refine ⟨?_,rfl⟩
    by_cases h3:(readSV 1 b).1.1>(readSV 0 a).1.1 <;> simp [h1,h2,h3]
   ·have h2:(readSV 1 b).2≠0:=by simpa using hc
    exact ⟨by simp [h1,h2],rfl⟩
 rintro c w9 ⟨rfl,rfl⟩
 refine qab (fun hc=>?_) (fun hc=>?_)
 ·refine qhe (ho.at (i:=0) rfl) (qbs _ _) ?_
  refine qbI ho 2 rfl rfl (qbs _ _) fun w10 f10=>?_
  have:=hk w10 f10
  rw [newestV,if_neg hn,if_pos (of_decide_eq_true hc)] at this
  exact this
 ·refine qhe (ho.at (i:=1) rfl) (qbs _ _) ?_
  refine qbI ho 2 rfl rfl (qbs _ _) fun w10 f10=>?_
  have:=hk w10 f10
  rw [newestV,if_neg hn,if_neg (of_decide_eq_false hc)] at this
  exact this
end Go.Proofs.YtmmkegapckbomaaGreatDoor
end
section
set_option linter.unusedVariables false
set_option maxRecDepth 100000
namespace Go.Proofs.YtmmkegapckbomaaGreatDoor
open Go Go.Pt
@[reducible] def qlb:List Cell:=[Cell.int IntKind.u32,Cell.int IntKind.u32,Cell.int IntKind.u32]
def qdf (s:Sl) (v:Int) (K:Bool->World->Prop) (w:World):Prop:=call Tryz.prog 201 ([.slice s.a s.len s.cap,.int .u32 v]) ([.one (.int .i64)]) w fun (b:Int) c=>K (decide (b>=0)) c
def qi4:List Ann:=[.n,.n]
theorem qgX {s v w K} (hF:qdf s v K w):call Tryz.prog 155 [.slice s.a s.len s.cap,.int .u32 v] [.one .bool] w K:=qad (an:=qi4) Tryz.func155 hF
def qfO (s:Sl) (v:Int) (K:Int->World->Prop) (w:World):Prop:=loop (Int) (fun a (b:Int) c=>cond (decide (b<(↑s.len:Int))) (idx s b 1 fun d=>ld (.int .u32) d c fun (e:Int)=>cond (v==e) (K b c) (a (IntKind.wrap .i64 (b+1)) c)) (K (-1) c)) 0 w
def qmb:List Ann:=[.n,.n,.n,.l [(8,.one (.int .i64))],.n,.n,.n,.n,.n,.n,.n]
theorem qka {s v w K} (hF:qfO s v K w):call Tryz.prog 201 [.slice s.a s.len s.cap,.int .u32 v] [.one (.int .i64)] w K:=qad (an:=qmb) Tryz.func201 hF
def qfQ (d:Option Addr) (K:Int->World->Prop) (w:World):Prop:=loop (Int) (fun b (c:Int) e=>cond (decide (c<2)) (mkS 5 ([.int .u8 0]) 1 1 512 512 e fun f g=>call Tryz.prog 99 ([.pointer d,.int .i64 c,.slice f.a f.len f.cap]) ([.one (.int .i64)]) g fun (h:Int) i=>cond (!h==0) (K h i) (b (IntKind.wrap .i64 (c+1)) i)) (call Tryz.prog 100 ([.pointer d]) ([.one (.int .i64)]) e fun (j:Int) k=>cond (!j==0) (K j k) (loop (Sl×Int) (fun l (m:Sl×Int) n=>call Tryz.prog 97 ([.pointer d]) ([.one (.int .i64)]) n fun (o:Int) p=>cond (decide (m.snd<o)) (new (Obj.cells #[.int .u32 (IntKind.wrap .u32 m.snd)] 37) p fun q r=>run [.one .slice] ((Builtin.append_ (#[92,92]) 92 (#[.slice m.fst.a m.fst.len m.fst.cap,.slice (some ⟨q,0,none⟩) 1 1])).run Tryz.prog r) fun s t=>l ((s,IntKind.wrap .i64 (m.snd+1))) t) (call Tryz.prog 101 ([.int .i64 (↑m.fst.len:Int)]) ([.one (.int .i64)]) p fun (u:Int) v=>slc m.fst (some u) none none 1 fun x=>slc m.fst none (some u) none 1 fun y=>call Tryz.prog 102 ([.pointer d,.slice x.a x.len x.cap,.slice y.a y.len y.cap]) ([.one (.int .i64)]) (World.drew v) fun (z:Int) A=>cond (!z==0) (K z A) (call Tryz.prog 97 ([.pointer d]) ([.one (.int .i64)]) A fun (B:Int) C=>runQ [.raw] (fun D=>(Instr.build 121 (#[(0,.int .u64 1),(1,.int .u32 (IntKind.wrap .u32 B)),(2,.int .u32 2),(3,.int .u32 (IntKind.wrap .u32 (IntKind.wrap .i64 ((↑m.fst.len:Int)-u))))])).run Tryz.prog D) C fun E=>call Tryz.prog 103 ([.pointer d,.agg (List.toArray E)]) ([.one (.int .i64)]) C fun (F:Int) G=>K F G))) (({ a:=none,len:=0,cap:=0 },2)) k))) 0 w
def qmd:List Ann:=[.n,.n,.n,.l [(10,.one (.int .i64))],.n,.n,.n,.n,.n,.n,.n,.n,.n,.n,.n,.n,.n,.n,.l [(6,.one .slice),(7,.one (.int .i64))],.n,.n,.n,.n,.n,.n,.o [[0,1,2,3,4,5,6,7,8]],.n,.n,.n]
theorem qkr {d w K} (hF:qfQ d K w):call Tryz.prog 58 [.pointer d] [.one (.int .i64)] w K:=qad (an:=qmd) Tryz.func58 hF
def qfP (d:Option Addr) (K:((List Value)×Int)->World->Prop) (w:World):Prop:=newZ Tryz.prog 121 w fun b c=>call Tryz.prog 125 ([.pointer d,.int .i64 0]) ([.one .slice,.one (.int .i64)]) c fun (e:Sl×Int) f=>cond (!e.snd==0) (runQ [.raw] (fun g=>(Instr.build 121 #[]).run Tryz.prog g) f fun h=>chk (List.length h=28)<|st ⟨b,0,none⟩ h f fun i=>ldV 28 ⟨b,0,none⟩ i fun j=>K ((j,e.snd)) i) (call Tryz.prog 125 ([.pointer d,.int .i64 1]) ([.one .slice,.one (.int .i64)]) f fun (k:Sl×Int) l=>cond (!k.snd==0) (runQ [.raw] (fun m=>(Instr.build 121 #[]).run Tryz.prog m) l fun n=>chk (List.length n=28)<|st ⟨b,0,none⟩ n l fun o=>ldV 28 ⟨b,0,none⟩ o fun p=>K ((p,k.snd)) o) (call Tryz.prog 129 ([.slice e.fst.a e.fst.len e.fst.cap,.slice k.fst.a k.fst.len k.fst.cap]) ([.raw,.one (.int .i64)]) l fun (q:List Value×Int) r=>chk (List.length q.fst=28)<|st ⟨b,0,none⟩ q.fst r fun s=>ldV 28 ⟨b,0,none⟩ s fun t=>K ((t,q.snd)) s))
def qmj:List Ann:=[.n,.n,.n,.n,.n,.n,.n,.n,.n,.n]
theorem qj8 {d w K} (hF:qfP d K w):call Tryz.prog 96 [.pointer d] [.raw,.one (.int .i64)] w K:=qad (an:=qmj) Tryz.func96 hF
def qhV (d:Option Addr) (K:((Option Addr)×Int)->World->Prop) (w:World):Prop:=call Tryz.prog 96 ([.pointer d]) ([.raw,.one (.int .i64)]) w fun (a:List Value×Int) b=>newZ Tryz.prog 121 b fun c e=>chk (List.length a.fst=28)<|st ⟨c,0,none⟩ a.fst e fun f=>cond (!a.snd==0) (K ((none,a.snd)) f) (ldV 28 ⟨c,0,none⟩ f fun g=>runQ [.raw] (fun h=>(Instr.build 127 (#[(0,.pointer d),(1,.agg (List.toArray g))])).run Tryz.prog h) f fun i=>new (Obj.cells (List.toArray i) 127) f fun j k=>join (Bool) (fun l=>ld (.int .u32) ⟨c,1,none⟩ (World.drew k) fun (m:Int)=>call Tryz.prog 97 ([.pointer d]) ([.one (.int .i64)]) (World.drew k) fun (n:Int) o=>held [fun p=>World.cell? p ⟨c,1,none⟩=some (.int .u32 m)] o<|cond (!m==IntKind.wrap .u32 n) (l true o) (call Tryz.prog 98 ([.pointer (some ⟨j,0,none⟩)]) ([.one .bool]) o fun (q:Bool) r=>l (!q) r)) fun (s:Bool) t=>cond s (K ((none,2)) t) (call Tryz.prog 81 ([.pointer (some ⟨j,0,none⟩)]) [] t fun (u:PUnit) v=>K ((some ⟨j,0,none⟩,0)) v))
def qn2:List Ann:=[.n,.n,.n,.n,.n,.n,.n,.j [(29,.one .bool)],.o [[0,1,2,3,4,5,6,7,8,9,10]],.n,.n,.n]
theorem qmc {d w K} (hF:qhV d K w):call Tryz.prog 56 [.pointer d] [.one .ptr,.one (.int .i64)] w K:=qad (an:=qn2) Tryz.func56 hF
def qcV (p:Option Addr) (K:Bool->World->Prop) (w:World):Prop:=new (Obj.map #[] 0) w fun b c=>nn p fun d=>ld (.int .u32) (⟨(Addr.add d 1).block,(Addr.add d 1).off+2,none⟩) c fun (e:Int)=>loop (Int) (fun f (g:Int) h=>cond (!g==0) (join (Bool) (fun i=>cond (decide (g<2)) (i true h) (nn p fun j=>ld (.int .u32) (⟨(Addr.add j 1).block,(Addr.add j 1).off+1,none⟩) h fun (k:Int)=>cond (decide (g>=k)) (i true h) (runQ [.one (.int .i64)] (fun l=>(Instr.lookup 200 (.map (some b)) (.int .u32 g) false).run Tryz.prog l) h fun (m:Int)=>i (decide (m>0)) h))) fun (n:Bool) o=>cond n (K false o) (runU ((Instr.mapUpdate 200 (.map (some b)) (.int .u32 g) (.int .i64 1)).run Tryz.prog o) fun q=>nn p fun r=>ld .ptr r q fun s=>call Tryz.prog 125 ([.pointer s,.int .i64 (IntKind.wrap .i64 g)]) ([.one .slice,.one (.int .i64)]) q fun (t:Sl×Int) u=>cond (!t.snd==0) (K false u) (call Tryz.prog 126 ([.int .u32 g,.slice t.fst.a t.fst.len t.fst.cap]) ([.one (.int .u8),.one .slice,.one (.int .i64)]) u fun (v:Int×Sl×Int) x=>join (Bool) (fun y=>cond (!v.snd.snd==0) (y true x) (y (!v.fst==2) x)) fun (z:Bool) A=>cond z (K false A) (call Tryz.prog 130 ([.slice v.snd.fst.a v.snd.fst.len v.snd.fst.cap]) ([.one (.int .u32),.one .slice,.one (.int .i64)]) A fun (B:Int×Sl×Int) C=>cond (!B.snd.snd==0) (K false C) (nn p fun D=>ld .slice ⟨D.block,D.off+29,none⟩ (World.drew C) fun E=>nn p fun F=>ld .slice ⟨F.block,F.off+30,none⟩ (World.drew C) fun G=>new (Obj.cells #[.int .u32 g] 37) (World.drew C) fun H I=>held [fun J=>World.cell? J ⟨F.block,F.off+30,none⟩=some (.slice G.a G.len G.cap),fun L=>World.cell? L ⟨D.block,D.off+29,none⟩=some (.slice E.a E.len E.cap)] I<|run [.one .slice] ((Builtin.append_ (#[92,92]) 92 (#[.slice E.a E.len E.cap,.slice (some ⟨H,0,none⟩) 1 1])).run Tryz.prog I) fun M N=>held [fun O=>World.cell? O ⟨F.block,F.off+30,none⟩=some (.slice G.a G.len G.cap)] N<|run [.one .slice] ((Builtin.append_ (#[92,92]) 92 (#[.slice G.a G.len G.cap,.slice B.snd.fst.a B.snd.fst.len B.snd.fst.cap])).run Tryz.prog N) fun P Q=>nn p fun R=>st ⟨R.block,R.off+29,none⟩ ([.slice M.a M.len M.cap]) Q fun S=>nn p fun T=>st ⟨T.block,T.off+30,none⟩ ([.slice P.a P.len P.cap]) S fun U=>f B.fst U))))) (nn p fun V=>ld .slice ⟨V.block,V.off+30,none⟩ h fun W=>loop (Int×Int) (fun X (Y:Int×Int) Z=>cond (decide (Y.snd<(↑W.len:Int))) (idx W Y.snd 1 fun aa=>ld (.int .u32) aa Z fun (ab:Int)=>join (Bool) (fun ac=>cond (decide (ab<=Y.fst)) (ac true Z) (nn p fun ad=>ld (.int .u32) (⟨(Addr.add ad 1).block,(Addr.add ad 1).off+1,none⟩) Z fun (ae:Int)=>cond (decide (ab>=ae)) (ac true Z) (runQ [.one (.int .i64)] (fun af=>(Instr.lookup 200 (.map (some b)) (.int .u32 ab) false).run Tryz.prog af) Z fun (ag:Int)=>ac (decide (ag>0)) Z))) fun (ah:Bool) ai=>cond ah (K false ai) (X ((ab,IntKind.wrap .i64 (Y.snd+1))) ai)) (nn p fun aj=>ld .slice ⟨aj.block,aj.off+30,none⟩ (World.drew Z) fun ak=>nn p fun al=>ld (.int .u32) (⟨(Addr.add al 1).block,(Addr.add al 1).off+3,none⟩) (World.drew Z) fun (am:Int)=>K ((↑ak.len:Int)==IntKind.wrap .i64 am) (World.drew Z))) ((0,0)) h)) e c
def qhC:List Ann:=[.n,.n,.n,.n,.l [(4,.one (.int .u32))],.n,.n,.n,.j [(38,.one .bool)],.n,.n,.n,.n,.n,.n,.n,.n,.j [(65,.one .bool)],.n,.n,.n,.n,.n,.n,.o [[0,1,2,3,4,5,6,9,10,11,12,13,7,8,14,15,16,17,18,19,20]],.n,.n,.n,.l [(11,.one (.int .u32)),(99,.one (.int .i64))],.n,.n,.n,.n,.n,.j [(120,.one .bool)],.n,.n,.o [[0,1,2,3,4,5,6,7,8,9,10,11,12]]]
theorem qf2 {p w K} (hF:qcV p K w):call Tryz.prog 98 [.pointer p] [.one .bool] w K:=qad (an:=qhC) Tryz.func98 hF
def qcK (p:Option Addr) (K:Unit->World->Prop) (w:World):Prop:=nn p fun a=>ld (.int .i64) ⟨a.block,a.off+31,none⟩ w fun (b:Int)=>nn p fun c=>st ⟨c.block,c.off+31,none⟩ ([.int .i64 (IntKind.wrap .i64 (b+1))]) w fun d=>(nn p fun e=>ldV 24 (⟨(Addr.add e 1).block,(Addr.add e 1).off+4,none⟩) (World.drew d) fun f=>call Tryz.prog 115 [] ([.one .ptr]) (World.drew d) fun g h=>held [fun i=>cellsAt i (⟨(Addr.add e 1).block,(Addr.add e 1).off+4,none⟩) 0 f] h<|call Tryz.prog 115 [] ([.one .ptr]) h fun j k=>held [fun l=>cellsAt l (⟨(Addr.add e 1).block,(Addr.add e 1).off+4,none⟩) 0 f] k<|new (Obj.map #[] 0) k fun m n=>held [fun o=>cellsAt o (⟨(Addr.add e 1).block,(Addr.add e 1).off+4,none⟩) 0 f] n<|runQ [.raw] (fun q=>(Instr.build 125 (#[(0,.pointer g),(1,.pointer j),(2,.map (some m)),(3,.agg (List.toArray f))])).run Tryz.prog q) n fun r=>nn p fun s=>chk (List.length r=27)<|st ⟨s.block,s.off+33,none⟩ r n fun t=>nn p fun u=>ld .slice ⟨u.block,u.off+30,none⟩ t fun v=>loop (Int) (fun x (y:Int) z=>cond (decide (y<(↑v.len:Int))) (idx v y 1 fun A=>ld (.int .u32) A z fun (B:Int)=>nn p fun C=>ld .ptr ⟨C.block,C.off+33,none⟩ z fun D=>call Tryz.prog 116 ([.pointer D,.int .u32 B]) ([.one .bool]) z fun (E:Bool) F=>x (IntKind.wrap .i64 (y+1)) F) (K () z)) 0 t)/\((nn p fun G=>ldV 24 (⟨(Addr.add G 1).block,(Addr.add G 1).off+4,none⟩) (World.drew d) fun H=>call Tryz.prog 115 [] ([.one .ptr]) (World.drew d) fun I J=>held [fun L=>cellsAt L (⟨(Addr.add G 1).block,(Addr.add G 1).off+4,none⟩) 0 H] J<|new (Obj.map #[] 0) J fun M N=>held [fun O=>cellsAt O (⟨(Addr.add G 1).block,(Addr.add G 1).off+4,none⟩) 0 H] N<|call Tryz.prog 115 [] ([.one .ptr]) N fun P Q=>held [fun R=>cellsAt R (⟨(Addr.add G 1).block,(Addr.add G 1).off+4,none⟩) 0 H] Q<|runQ [.raw] (fun S=>(Instr.build 125 (#[(0,.pointer I),(1,.pointer P),(2,.map (some M)),(3,.agg (List.toArray H))])).run Tryz.prog S) Q fun T=>nn p fun U=>chk (List.length T=27)<|st ⟨U.block,U.off+33,none⟩ T Q fun V=>nn p fun W=>ld .slice ⟨W.block,W.off+30,none⟩ V fun X=>loop (Int) (fun Y (Z:Int) aa=>cond (decide (Z<(↑X.len:Int))) (idx X Z 1 fun ab=>ld (.int .u32) ab aa fun (ac:Int)=>nn p fun ad=>ld .ptr ⟨ad.block,ad.off+33,none⟩ aa fun ae=>call Tryz.prog 116 ([.pointer ae,.int .u32 ac]) ([.one .bool]) aa fun (af:Bool) ag=>Y (IntKind.wrap .i64 (Z+1)) ag) (K () aa)) 0 V)/\(nn p fun ah=>ldV 24 (⟨(Addr.add ah 1).block,(Addr.add ah 1).off+4,none⟩) (World.drew d) fun ai=>new (Obj.map #[] 0) (World.drew d) fun aj ak=>held [fun al=>cellsAt al (⟨(Addr.add ah 1).block,(Addr.add ah 1).off+4,none⟩) 0 ai] ak<|call Tryz.prog 115 [] ([.one .ptr]) ak fun am an=>held [fun ao=>cellsAt ao (⟨(Addr.add ah 1).block,(Addr.add ah 1).off+4,none⟩) 0 ai] an<|call Tryz.prog 115 [] ([.one .ptr]) an fun ap aq=>held [fun ar=>cellsAt ar (⟨(Addr.add ah 1).block,(Addr.add ah 1).off+4,none⟩) 0 ai] aq<|runQ [.raw] (fun au=>(Instr.build 125 (#[(0,.pointer am),(1,.pointer ap),(2,.map (some aj)),(3,.agg (List.toArray ai))])).run Tryz.prog au) aq fun av=>nn p fun aw=>chk (List.length av=27)<|st ⟨aw.block,aw.off+33,none⟩ av aq fun ax=>nn p fun ay=>ld .slice ⟨ay.block,ay.off+30,none⟩ ax fun az=>loop (Int) (fun aA (aB:Int) aC=>cond (decide (aB<(↑az.len:Int))) (idx az aB 1 fun aD=>ld (.int .u32) aD aC fun (aE:Int)=>nn p fun aF=>ld .ptr ⟨aF.block,aF.off+33,none⟩ aC fun aG=>call Tryz.prog 116 ([.pointer aG,.int .u32 aE]) ([.one .bool]) aC fun (aH:Bool) aI=>aA (IntKind.wrap .i64 (aB+1)) aI) (K () aC)) 0 ax))
def qgu:List Ann:=[.n,.n,.o [[0,4,5,6,7,8,1,2,3,9,10,11,12],[0,4,5,6,7,8,1,3,2,9,10,11,12],[0,4,5,6,7,8,3,1,2,9,10,11,12]],.n,.l [(28,.one (.int .i64))],.n,.n,.n,.n]
theorem qe4 {p w K} (hF:qcK p K w):call Tryz.prog 81 [.pointer p] [] w K:=qad (an:=qgu) Tryz.func81 hF
def qcT (p:Option Addr) (t:Int) (K:((Int×Int×Int))->World->Prop) (w:World):Prop:=new (Obj.cells #[.int .u32 0,.int .u32 0,.int .u32 0] 39) w fun a b=>join (Bool) (fun c=>cond (decide (t<0)) (c true b) (c (decide (t>=8)) b)) fun (d:Bool) e=>cond d (st ⟨a,0,none⟩ ([.int .u32 0,.int .u32 0,.int .u32 0]) e fun f=>ldA (qlb) ⟨a,0,none⟩ f fun (g:Int×Int×Int)=>K g f) (nn p fun h=>chk (0<=t/\t<(↑8:Int))<|ldA (qlb) (Addr.add ⟨(Addr.add h 33).block,(Addr.add h 33).off+3,none⟩ (Int.toNat t*3)) e fun (i:Int×Int×Int)=>st ⟨a,0,none⟩ (HL.mk qlb i) e fun j=>ldA (qlb) ⟨a,0,none⟩ j fun (k:Int×Int×Int)=>K k j)
def qhu:List Ann:=[.n,.n,.j [(10,.one .bool)],.n,.n]
theorem qfU {p t w K} (hF:qcT p t K w):call Tryz.prog 19 [.pointer p,.int .i64 t] [.agg [.int .u32,.int .u32,.int .u32]] w K:=qad (an:=qhu) Tryz.func19 hF
def qcf (p:Option Addr) (t:Int) (r0:Int) (r1:Int) (r2:Int) (K:Int->World->Prop) (w:World):Prop:=new (Obj.cells #[.int .u32 r0,.int .u32 r1,.int .u32 r2] 39) w fun a b=>nn p fun c=>ld .bool ⟨c.block,c.off+32,none⟩ b fun (d:Bool)=>cond d (K 7 b) (join (Bool) (fun e=>cond (decide (t<0)) (e true b) (e (decide (t>=8)) b)) fun (f:Bool) g=>cond f (K 4 g) (ldA (qlb) ⟨a,0,none⟩ (World.drew g) fun (h:Int×Int×Int)=>nn p fun i=>chk (0<=t/\t<(↑8:Int))<|st (Addr.add ⟨(Addr.add i 33).block,(Addr.add i 33).off+3,none⟩ (Int.toNat t*3)) (HL.mk qlb h) (World.drew g) fun j=>K 0 j))
def qfz:List Ann:=[.n,.n,.n,.n,.j [(12,.one .bool)],.n,.n,.o [[0,1,2,3,4,5,6,7]],.n]
theorem qd9 {p t r0 r1 r2 w K} (hF:qcf p t r0 r1 r2 K w):call Tryz.prog 107 [.pointer p,.int .i64 t,.agg #[.int .u32 r0,.int .u32 r1,.int .u32 r2]] [.one (.int .i64)] w K:=qad (an:=qfz) Tryz.func107 hF
def qcU (p:Option Addr) (n:Int) (K:Bool->World->Prop) (w:World):Prop:=join (Bool) (fun b=>cond (decide (n<2)) (b true w) (nn p fun c=>ld (.int .u32) (⟨(Addr.add c 1).block,(Addr.add c 1).off+1,none⟩) w fun (d:Int)=>cond (decide (n>=d)) (b true w) (nn p fun e=>ld .slice ⟨e.block,e.off+29,none⟩ w fun f=>call Tryz.prog 155 ([.slice f.a f.len f.cap,.int .u32 n]) ([.one .bool]) w fun (g:Bool) h=>cond g (b true h) (nn p fun i=>ld .ptr ⟨i.block,i.off+33,none⟩ h fun j=>call Tryz.prog 152 ([.pointer j,.int .u32 n]) ([.one .bool]) h fun (k:Bool) l=>cond k (b true l) (nn p fun m=>ld .ptr (⟨(Addr.add m 33).block,(Addr.add m 33).off+1,none⟩) l fun o=>call Tryz.prog 152 ([.pointer o,.int .u32 n]) ([.one .bool]) l fun (q:Bool) r=>b q r))))) fun (s:Bool) t=>cond s (K false t) (nn p fun u=>ld .map (⟨(Addr.add u 33).block,(Addr.add u 33).off+2,none⟩) t fun (v:Option Nat)=>runQ [.agg [.int .u8,.slice],.one .bool] (fun x=>(Instr.lookup 123 (.map v) (.int .u32 n) true).run Tryz.prog x) t fun (y:(Int×Sl)×Bool)=>new (Obj.cells #[.int .u8 0,.slice none 0 0] 161) t fun z A=>st ⟨z,0,none⟩ ([.int .u8 y.fst.fst,.slice y.fst.snd.a y.fst.snd.len y.fst.snd.cap]) A fun B=>K (!y.snd) B)
def qhU:List Ann:=[.n,.n,.j [(43,.one .bool)],.n,.n,.n]
theorem qf0 {p n w K} (hF:qcU p n K w):call Tryz.prog 124 [.pointer p,.int .u32 n] [.one .bool] w K:=qad (an:=qhU) Tryz.func124 hF
def qc3 (p:Option Addr) (n:Int) (K:(Int×Sl×Int)->World->Prop) (w:World):Prop:=nn p fun b=>ld .bool ⟨b.block,b.off+32,none⟩ w fun (c:Bool)=>cond c (K ((0,{ a:=none,len:=0,cap:=0 },7)) w) (nn p fun d=>ld .map (⟨(Addr.add d 33).block,(Addr.add d 33).off+2,none⟩) w fun (e:Option Nat)=>runQ [.agg [.int .u8,.slice],.one .bool] (fun f=>(Instr.lookup 123 (.map e) (.int .u32 n) true).run Tryz.prog f) w fun (g:(Int×Sl)×Bool)=>new (Obj.cells #[.int .u8 0,.slice none 0 0] 161) w fun h i=>st ⟨h,0,none⟩ ([.int .u8 g.fst.fst,.slice g.fst.snd.a g.fst.snd.len g.fst.snd.cap]) i fun j=>cond g.snd (ld (.int .u8) ⟨h,0,none⟩ (World.drew j) fun (k:Int)=>ld .slice ⟨h,1,none⟩ (World.drew j) fun l=>call Tryz.prog 123 ([.slice l.a l.len l.cap]) ([.one .slice]) (World.drew j) fun m o=>held [fun q=>World.cell? q ⟨h,0,none⟩=some (.int .u8 k)] o<|K ((k,m,0)) o) (call Tryz.prog 124 ([.pointer p,.int .u32 n]) ([.one .bool]) j fun (r:Bool) s=>cond (!r) (K ((0,{ a:=none,len:=0,cap:=0 },10)) s) (nn p fun t=>ld .ptr t s fun u=>call Tryz.prog 125 ([.pointer u,.int .i64 (IntKind.wrap .i64 n)]) ([.one .slice,.one (.int .i64)]) s fun (v:Sl×Int) x=>cond (!v.snd==0) (K ((0,{ a:=none,len:=0,cap:=0 },v.snd)) x) (call Tryz.prog 126 ([.int .u32 n,.slice v.fst.a v.fst.len v.fst.cap]) ([.one (.int .u8),.one .slice,.one (.int .i64)]) x fun (y:Int×Sl×Int) z=>K y z))))
def qht:List Ann:=[.n,.n,.n,.n,.n,.n,.n,.n,.o [[0,1,2,3,4,5,6,7]],.n,.n,.n,.n,.n,.n,.n,.n]
theorem qf5 {p n w K} (hF:qc3 p n K w):call Tryz.prog 91 [.pointer p,.int .u32 n] [.one (.int .u8),.one .slice,.one (.int .i64)] w K:=qad (an:=qht) Tryz.func91 hF
def qc0 (p:Option Addr) (kind:Int) (body:Sl) (K:(Int×Int)->World->Prop) (w:World):Prop:=nn p fun b=>ld .bool ⟨b.block,b.off+32,none⟩ w fun (c:Bool)=>cond c (K ((0,7)) w) (cond (decide ((↑body.len:Int)>500)) (K ((0,3)) w) (nn p fun d=>ld .ptr ⟨d.block,d.off+33,none⟩ w fun e=>call Tryz.prog 171 ([.pointer e]) ([.one (.int .u32),.one .bool]) w fun (f:Int×Bool) g=>cond (!f.snd) (K ((0,6)) g) (nn p fun h=>ld .map (⟨(Addr.add h 33).block,(Addr.add h 33).off+2,none⟩) (World.drew g) fun (i:Option Nat)=>call Tryz.prog 123 ([.slice body.a body.len body.cap]) ([.one .slice]) (World.drew g) fun j k=>held [fun l=>World.cell? l (⟨(Addr.add h 33).block,(Addr.add h 33).off+2,none⟩)=some (.map i)] k<|runU ((Instr.mapUpdate 123 (.map i) (.int .u32 f.fst) (.agg #[.int .u8 kind,.slice j.a j.len j.cap])).run Tryz.prog k) fun m=>K ((f.fst,0)) m)))
def qhM:List Ann:=[.n,.n,.n,.n,.n,.n,.n,.n,.n,.n,.n,.o [[0,1,2,3,4,5,6,7,8,9,10]],.n]
theorem qfT {p kind body w K} (hF:qc0 p kind body K w):call Tryz.prog 137 [.pointer p,.int .u8 kind,.slice body.a body.len body.cap] [.one (.int .u32),.one (.int .i64)] w K:=qad (an:=qhM) Tryz.func137 hF
def qdn (p:Option Addr) (n:Int) (kind:Int) (body:Sl) (K:Int->World->Prop) (w:World):Prop:=nn p fun b=>ld .bool ⟨b.block,b.off+32,none⟩ w fun (c:Bool)=>cond c (K 7 w) (nn p fun d=>ld .map (⟨(Addr.add d 33).block,(Addr.add d 33).off+2,none⟩) w fun (e:Option Nat)=>runQ [.agg [.int .u8,.slice],.one .bool] (fun f=>(Instr.lookup 123 (.map e) (.int .u32 n) true).run Tryz.prog f) w fun (g:(Int×Sl)×Bool)=>new (Obj.cells #[.int .u8 0,.slice none 0 0] 161) w fun h i=>st ⟨h,0,none⟩ ([.int .u8 g.fst.fst,.slice g.fst.snd.a g.fst.snd.len g.fst.snd.cap]) i fun j=>cond (!g.snd) (K 10 j) (cond (decide ((↑body.len:Int)>500)) (K 3 j) (nn p fun k=>ld .map (⟨(Addr.add k 33).block,(Addr.add k 33).off+2,none⟩) (World.drew j) fun (l:Option Nat)=>call Tryz.prog 123 ([.slice body.a body.len body.cap]) ([.one .slice]) (World.drew j) fun m o=>held [fun q=>World.cell? q (⟨(Addr.add k 33).block,(Addr.add k 33).off+2,none⟩)=some (.map l)] o<|runU ((Instr.mapUpdate 123 (.map l) (.int .u32 n) (.agg #[.int .u8 kind,.slice m.a m.len m.cap])).run Tryz.prog o) fun r=>K 0 r)))
def qiQ:List Ann:=[.n,.n,.n,.n,.n,.n,.n,.n,.n,.n,.n,.n,.o [[0,1,2,3,4,5,6,7,8,9,10]],.n]
theorem qgh {p n kind body w K} (hF:qdn p n kind body K w):call Tryz.prog 136 [.pointer p,.int .u32 n,.int .u8 kind,.slice body.a body.len body.cap] [.one (.int .i64)] w K:=qad (an:=qiQ) Tryz.func136 hF
def qcX (p:Option Addr) (n:Int) (K:Int->World->Prop) (w:World):Prop:=nn p fun b=>ld .bool ⟨b.block,b.off+32,none⟩ w fun (c:Bool)=>cond c (K 7 w) (nn p fun d=>ld .map (⟨(Addr.add d 33).block,(Addr.add d 33).off+2,none⟩) w fun (e:Option Nat)=>runQ [.agg [.int .u8,.slice],.one .bool] (fun f=>(Instr.lookup 123 (.map e) (.int .u32 n) true).run Tryz.prog f) w fun (g:(Int×Sl)×Bool)=>new (Obj.cells #[.int .u8 0,.slice none 0 0] 161) w fun h i=>st ⟨h,0,none⟩ ([.int .u8 g.fst.fst,.slice g.fst.snd.a g.fst.snd.len g.fst.snd.cap]) i fun j=>cond g.snd (nn p fun k=>ld .map (⟨(Addr.add k 33).block,(Addr.add k 33).off+2,none⟩) j fun (l:Option Nat)=>run [] ((Builtin.delete_ (#[123,37]) 0 (#[.map l,.int .u32 n])).run Tryz.prog j) fun (m:PUnit) o=>nn p fun q=>ld .ptr ⟨q.block,q.off+33,none⟩ o fun r=>call Tryz.prog 116 ([.pointer r,.int .u32 n]) ([.one .bool]) o fun (s:Bool) t=>K 0 t) (call Tryz.prog 124 ([.pointer p,.int .u32 n]) ([.one .bool]) j fun (u:Bool) v=>cond (!u) (K 10 v) (nn p fun x=>ld .ptr (⟨(Addr.add x 33).block,(Addr.add x 33).off+1,none⟩) v fun y=>call Tryz.prog 116 ([.pointer y,.int .u32 n]) ([.one .bool]) v fun (z:Bool) A=>K 0 A)))
def qhx:List Ann:=[.n,.n,.n,.n,.n,.n,.n,.n,.n,.n,.n,.n,.n,.n,.n]
theorem qf1 {p n w K} (hF:qcX p n K w):call Tryz.prog 110 [.pointer p,.int .u32 n] [.one (.int .i64)] w K:=qad (an:=qhx) Tryz.func110 hF
def qc1 (p:Option Addr) (K:Int->World->Prop) (w:World):Prop:=nn p fun a=>ld .ptr ⟨a.block,a.off+33,none⟩ w fun b=>call Tryz.prog 78 ([.pointer b]) ([.one (.int .i64)]) w fun (c:Int) d=>K c d
def qhw:List Ann:=[.n,.n]
theorem qfW {p w K} (hF:qc1 p K w):call Tryz.prog 46 [.pointer p] [.one (.int .i64)] w K:=qad (an:=qhw) Tryz.func46 hF
def qfS (d:Option Addr) (numbers:Sl) (pages:Sl) (K:Int->World->Prop) (w:World):Prop:=call Tryz.prog 132 ([.slice numbers.a numbers.len numbers.cap,.slice pages.a pages.len pages.cap]) ([.one .slice,.one (.int .i64)]) w fun (b:Sl×Int) c=>cond (!b.snd==0) (K b.snd c) (loop (Int) (fun e (f:Int) g=>cond (decide (f<(↑b.fst.len:Int))) (idx b.fst f 1 fun h=>ld .slice h g fun i=>idx pages f 1 fun j=>ld (.int .u32) j g fun (k:Int)=>call Tryz.prog 114 ([.int .u32 k,.int .u8 2,.slice i.a i.len i.cap]) ([.one .slice,.one (.int .i64)]) g fun (l:Sl×Int) m=>idx pages f 1 fun n=>ld (.int .u32) n m fun (o:Int)=>call Tryz.prog 99 ([.pointer d,.int .i64 (IntKind.wrap .i64 o),.slice l.fst.a l.fst.len l.fst.cap]) ([.one (.int .i64)]) m fun (p:Int) q=>cond (!p==0) (K p q) (e (IntKind.wrap .i64 (f+1)) q)) (call Tryz.prog 100 ([.pointer d]) ([.one (.int .i64)]) g fun (r:Int) s=>K r s)) 0 c)
def qmt:List Ann:=[.n,.n,.n,.n,.n,.n,.n,.l [(25,.one (.int .i64))],.n,.n,.n,.n,.n,.n,.n,.n,.n]
theorem qjV {d numbers pages w K} (hF:qfS d numbers pages K w):call Tryz.prog 102 [.pointer d,.slice numbers.a numbers.len numbers.cap,.slice pages.a pages.len pages.cap] [.one (.int .i64)] w K:=qad (an:=qmt) Tryz.func102 hF
def qhZ (d:Option Addr) (s:List Value) (K:Int->World->Prop) (w:World):Prop:=new (Obj.cells (List.toArray s) 121) w fun b c=>ld (.int .u64) ⟨b,0,none⟩ (World.drew c) fun (e:Int)=>ldV 28 ⟨b,0,none⟩ (World.drew c) fun f=>call Tryz.prog 133 ([.agg (List.toArray f)]) ([.one .slice]) (World.drew c) fun g h=>held [fun i=>World.cell? i ⟨b,0,none⟩=some (.int .u64 e)] h<|call Tryz.prog 99 ([.pointer d,.int .i64 (IntKind.wrap .i64 (Int.tmod e 2)),.slice g.a g.len g.cap]) ([.one (.int .i64)]) h fun (j:Int) k=>cond (!j==0) (K j k) (call Tryz.prog 100 ([.pointer d]) ([.one (.int .i64)]) k fun (l:Int) m=>K l m)
def qor:List Ann:=[.n,.n,.n,.o [[0,1,2,3,4,5,6,7,8]],.n,.n,.n]
theorem ql5 {d s w K} (hF:qhZ d s K w):call Tryz.prog 103 [.pointer d,.agg s.toArray] [.one (.int .i64)] w K:=qad (an:=qor) Tryz.func103 hF
end Go.Proofs.YtmmkegapckbomaaGreatDoor
end
section
set_option linter.unusedVariables false
set_option linter.unusedSimpArgs false
set_option linter.unusedSectionVars false
namespace Go.Pt
open Go
section
variable {α:Type} [DecidableEq α] {P:Program} {w:World} {kt:TypeId} {kv:α->Value}
def MapS (kv:α->Value) (w:World) (b:Nat) (f:List (α×Value)):Prop:=
 ∃ es c,w.heap[b]?=some (.map es c)/\Ents kv es.toList f/\(es.toList.map (·.born)).Pairwise (· < ·)/\∀ e∈es.toList,e.born<c
theorem MapS.at {b:Nat} {f:List (α×Value)} (h:MapS kv w b f):MapAt kv w b f:=by
 obtain ⟨es,c,hb,he,_⟩:=h
 exact ⟨es,c,hb,he⟩
theorem MapS.frame {w':World} {b:Nat} {S:List Nat} {f:List (α×Value)} (h:MapS kv w b f) (k:Fr S w w') (h1:b∉S):MapS kv w' b f:=by
 obtain ⟨es,c,hb,he⟩:=h
 exact ⟨es,c,by rw [k.block b (qac hb) h1]; exact hb,he⟩
theorem MapS.lt {b:Nat} {f:List (α×Value)} (h:MapS kv w b f):b<w.heap.size:=by
 obtain ⟨es,c,hb,_⟩:=h
 exact qac hb
theorem MapS.empty {b:Nat} (hb:w.heap[b]?=some (.map #[] 0)):MapS kv w b []:=⟨#[],0,hb,rfl,by simp,by simp⟩
theorem MapS.new {t et:TypeId} {v:Value} (ht:P.underlying t=some (.map kt et)) (K:KeyOk P kt kv) {b:Nat} {f:List (α×Value)} (h:MapS kv w b f) (x:α) (hx:posOf x f=none) :
  ∃ o,(Instr.mapUpdate t (.map (some b)) (kv x) v).run P w=.ok () (upd w b o)/\MapS kv (upd w b o) b (f++[(x,v)]):=by
 obtain ⟨es,c,hb,he,hs,hc⟩:=h
 refine ⟨.map (es.push ⟨kv x,v,c⟩) (c+1),?_,es.push ⟨kv x,v,c⟩,c+1,?_,?_,?_,?_⟩
 ·simp [Instr.mapUpdate,run_underlying ht,Go.MapKept.run_getObj_map hb,K.check,qaK K he,hx,Go.MapKept.run_setObj_map _ hb]
  rfl
 ·rw [qaz _ _ _ _ (qac hb),if_pos rfl]
 ·simp only [Ents] at he ⊢
  simp [he]
 ·rw [Array.toList_push,List.map_append,List.pairwise_append]
  refine ⟨hs,by simp,fun a ha b hb'=>?_⟩
  obtain ⟨e,he',rfl⟩:=List.mem_map.1 ha
  simp at hb'
  subst hb'
  exact hc e he'
 ·intro e he'
  rw [Array.toList_push] at he'
  rcases List.mem_append.1 he' with h1 | h1
  ·exact Nat.lt_succ_of_lt (hc e h1)
  ·simp at h1; subst h1; exact Nat.lt_succ_self _
theorem MapS.del {t et ty:TypeId} (ht:P.underlying t=some (.map kt et)) (K:KeyOk P kt kv) {b:Nat} {f:List (α×Value)} (h:MapS kv w b f) (x:α) :
  ∃ o,(Builtin.delete_ #[t,kt] ty #[.map (some b),kv x]).run P w=.ok (.tuple #[]) (upd w b o)/\MapS kv (upd w b o) b (match posOf x f with | some q=>f.eraseIdx q.1 | none=>f):=by
 obtain ⟨es,c,hb,he,hs,hc⟩:=h
 cases hp:posOf x f with
 | none=>
  refine ⟨.map es c,?_,es,c,?_,he,hs,hc⟩
  ·simp [Builtin.delete_,run_underlying ht,Go.MapKept.run_getObj_map hb,K.check,qaK K he,hp,Go.MapKept.run_setObj_map _ hb]
   rfl
  ·rw [qaz _ _ _ _ (qac hb),if_pos rfl]
 | some q=>
  have h1:(es.eraseIdxIfInBounds q.1).toList=es.toList.eraseIdx q.1:=by simp
  refine ⟨.map (es.eraseIdxIfInBounds q.1) c,?_,es.eraseIdxIfInBounds q.1,c,?_,?_,?_,?_⟩
  ·simp [Builtin.delete_,run_underlying ht,Go.MapKept.run_getObj_map hb,K.check,qaK K he,hp,Go.MapKept.run_setObj_map _ hb]
   rfl
  ·rw [qaz _ _ _ _ (qac hb),if_pos rfl]
  ·rw [h1]
   simp only [Ents] at he ⊢
   rw [qbb,he,<- qbb]
  ·rw [h1,qbb]
   exact hs.sublist (List.eraseIdx_sublist _ _)
  ·rw [h1]
   exact fun e he'=>hc e (List.mem_of_mem_eraseIdx he')
end
end Go.Pt
end
section
set_option linter.unusedVariables false
set_option linter.unusedSimpArgs false
namespace Go.Proofs.YtmmkegapckbomaaGreatDoor
open Go Go.Pt
attribute [local irreducible] ld ldA ldV fld fldA newZ st new idx idxS idxA slc slcS slcP mkS chk nn call callV inv run runQ runU join loop held ext rng undefer s2a nxt ent IntKind.wrap
abbrev PGT:TypeId:=127
abbrev MLT:TypeId:=123
def look {β:Type} (n:Int):List (Int×β)->Option (Nat×β)
 | []=>none
 | p::r=>if n=p.1 then some (0,p.2) else (look n r).map fun q=>(q.1+1,q.2)
def setL {β:Type} (n:Int) (v:β) (l:List (Int×β)):List (Int×β):=match look n l with | some q=>l.set q.1 (n,v) | none=>l++[(n,v)]
def delL {β:Type} (n:Int) (l:List (Int×β)):List (Int×β):=match look n l with | some q=>l.eraseIdx q.1 | none=>l
theorem qbN {β γ:Type} (g:β->γ) (n:Int):∀ l:List (Int×β),look n (l.map fun e=>(e.1,g e.2))=(look n l).map fun q=>(q.1,g q.2)
 | []=>rfl
 | p::r=>by
  simp only [List.map_cons,look]
  by_cases h:n=p.1
  ·simp [h]
  ·rw [if_neg h,if_neg h,qbN g n r]
   cases look n r <;> rfl
theorem qbG (n:Int):∀ l:List (Int×Value),posOf n l=look n l
 | []=>rfl
 | p::r=>by simp only [posOf,look,qbG n r]
theorem qa5 {β:Type} {n:Int}:∀ {l:List (Int×β)} {q:Nat×β},look n l=some q->l[q.1]?=some (n,q.2)/\(n,q.2)∈l
 | p::r,q,h=>by
  simp only [look] at h
  by_cases hp:n=p.1
  ·rw [if_pos hp] at h
   cases h
   subst hp
   exact ⟨rfl,by simp⟩
  ·rw [if_neg hp] at h
   obtain ⟨x,hx,rfl⟩:=Option.map_eq_some_iff.1 h
   obtain ⟨h1,h2⟩:=qa5 hx
   exact ⟨by simpa using h1,List.mem_cons_of_mem _ h2⟩
theorem qbn {β:Type} {n:Int}:∀ {l:List (Int×β)},look n l=none↔n∉l.map (·.1)
 | []=>by simp [look]
 | p::r=>by
  simp only [look,List.map_cons,List.mem_cons,not_or]
  by_cases hp:n=p.1
  ·simp [hp]
  ·rw [if_neg hp,Option.map_eq_none_iff,qbn (l:=r)]
   simp [hp]
theorem qfl {β γ:Type} (g:β->γ) (n:Int) (v:β) (l:List (Int×β)):(setL n v l).map (fun e=>(e.1,g e.2))=setL n (g v) (l.map fun e=>(e.1,g e.2)):=by
 unfold setL
 rw [qbN]
 cases look n l with
 | none=>simp
 | some q=>simp [List.map_set]
theorem qnM {β γ:Type} (g:β->γ) (n:Int) (l:List (Int×β)):(delL n l).map (fun e=>(e.1,g e.2))=delL n (l.map fun e=>(e.1,g e.2)):=by
 unfold delL
 rw [qbN]
 cases look n l with
 | none=>rfl
 | some q=>simp only [Option.map_some]; exact qbb _ l q.1
theorem qfB {β:Type} {n:Int} {v:β} {l:List (Int×β)} {e:Int×β} (h:e∈setL n v l):e∈l\/e=(n,v):=by
 unfold setL at h
 split at h
 ·exact List.mem_or_eq_of_mem_set h
 ·rcases List.mem_append.1 h with h | h
  ·exact .inl h
  ·exact .inr (by simpa using h)
theorem qmI {β:Type} {n:Int} {l:List (Int×β)} {e:Int×β} (h:e∈delL n l):e∈l:=by
 unfold delL at h
 split at h
 ·exact List.mem_of_mem_eraseIdx h
 ·exact h
theorem qfm {t et:TypeId} {v:Value} {w:World} (ht:Tryz.prog.underlying t=some (.map 37 et)) {b:Nat} {f:List (Int×Value)} (h:MapS u32V w b f) (x:Int) :
  ∃ o,(Instr.mapUpdate t (.map (some b)) (u32V x) v).run Tryz.prog w=.ok () (upd w b o)/\MapS u32V (upd w b o) b (setL x v f):=by
 have K:=qbR
 cases hp:posOf x f with
 | none=>
  obtain ⟨o,h1,h2⟩:=MapS.new ht K h x (v:=v) hp
  refine ⟨o,h1,?_⟩
  rw [qbG] at hp
  rw [setL,hp]
  exact h2
 | some q=>
  obtain ⟨es,c,hb,he,hs,hc⟩:=h
  have hq:=hp
  rw [qbG] at hq
  obtain ⟨h1,_⟩:=qa5 hq
  have he':=he
  simp only [Ents] at he'
  have hi:es[q.1]?.map (·.key)=some (u32V x):=by
   have:=congrArg (·[q.1]?) he'
   simp only [List.getElem?_map,h1,Option.map_some] at this
   rw [<- Array.getElem?_toList]
   cases hh:es.toList[q.1]? with
   | none=>rw [hh] at this; cases this
   | some e=>rw [hh] at this; simp at this; simp [this.1]
  refine ⟨.map (es.modify q.1 fun e=>{ e with key:=u32V x,val:=v }) c,?_,es.modify q.1 fun e=>{ e with key:=u32V x,val:=v },c,?_,?_,?_,?_⟩
  ·simp [Instr.mapUpdate,run_underlying ht,Go.MapKept.run_getObj_map hb,K.check,qaK K he,hp,hi,Instr.keyThatStays,Instr.sameBits,Go.MapKept.run_setObj_map _ hb]
   rfl
  ·rw [qaz _ _ _ _ (qac hb),if_pos rfl]
  ·rw [setL,hq]
   show ((es.modify q.1 _).toList).map _=(f.set q.1 (x,v)).map _
   rw [Array.toList_modify]
   apply List.ext_getElem?
   intro j
   have hj:=congrArg (·[j]?) he'
   simp only [List.getElem?_map] at hj
   rw [List.getElem?_map,List.getElem?_map,List.getElem?_modify,List.getElem?_set]
   by_cases hqj:q.1=j
   ·subst hqj
    have hlt:=(List.getElem?_eq_some_iff.1 h1).1
    rw [h1] at hj
    cases hh:es.toList[q.1]? with
    | none=>rw [hh] at hj; cases hj
    | some e=>simp [hlt]
   ·simp only [hqj,if_false]
    rw [<- hj]
    cases es.toList[j]? <;> rfl
  ·have e:(es.modify q.1 fun e=>{ e with key:=u32V x,val:=v }).toList.map (·.born)=es.toList.map (·.born):=by
    rw [Array.toList_modify]
    apply List.ext_getElem?
    intro j
    rw [List.getElem?_map,List.getElem?_map,List.getElem?_modify]
    by_cases hqj:q.1=j
    ·subst hqj; cases es.toList[q.1]? <;> simp
    ·simp [hqj]
   rw [e]; exact hs
  ·intro e he2
   rw [Array.toList_modify] at he2
   obtain ⟨j,hj⟩:=List.mem_iff_getElem?.1 he2
   rw [List.getElem?_modify] at hj
   by_cases hqj:q.1=j
   ·subst hqj
    cases hh:es.toList[q.1]? with
    | none=>rw [hh] at hj; simp at hj
    | some e0=>
     rw [hh] at hj
     simp at hj
     subst hj
     exact hc e0 (List.mem_of_getElem? hh)
   ·simp [hqj] at hj
    exact hc e (List.mem_of_getElem? (by rw [Array.getElem?_toList]; exact hj))
section
structure PgM where
 sup:Sup
 lists:List Int
 named:List Int
 turn:Int
 over:Bool
 free:List Int
 deferred:List Int
 fresh:List (Int×Int×List Int)
 roots:List Int
abbrev Leaf:=Int×Sl×List Int
def leafV (x:Leaf):Value:=.agg #[.int .u8 x.1,.slice x.2.1.a x.2.1.len x.2.1.cap]
def pgRest (sl sn:Sl) (turn:Int) (over:Bool) (fb defb mb:Nat):List Value:=
 [.slice sl.a sl.len sl.cap,.slice sn.a sn.len sn.cap,.int .i64 turn,.bool over,.pointer (some ⟨fb,0,none⟩),.pointer (some ⟨defb,0,none⟩),.map (some mb)]
def pgCells (db:Option Addr) (sup:Sup) (sl sn:Sl) (turn:Int) (over:Bool) (fb defb mb:Nat) (roots:List Int):Array Value:=
 ((.pointer db::supV sup.1 sup.2)++pgRest sl sn turn over fb defb mb++roots.map (Value.int .u32)).toArray
section
variable {db:Option Addr} {sup:Sup} {sl sn:Sl} {turn:Int} {over:Bool} {fb defb mb:Nat} {roots:List Int}
theorem qaU (hl:sup.2.length=27):(Value.pointer db::supV sup.1 sup.2).length=29:=by rw [List.length_cons,qaI hl]
theorem qo3 (hl:sup.2.length=27):(pgCells db sup sl sn turn over fb defb mb roots).size=36+roots.length:=by
 rw [pgCells,List.size_toArray,List.length_append,List.length_append,qaU hl,List.length_map]; rfl
theorem quF:(pgCells db sup sl sn turn over fb defb mb roots)[0]?=some (.pointer db):=rfl
theorem qud (hl:sup.2.length=27) (n:Nat) (h:n<27):(pgCells db sup sl sn turn over fb defb mb roots)[n+2]?=some (.int .u32 (sup.2.getD n 0)):=by
 rw [pgCells,List.getElem?_toArray,List.append_assoc,List.getElem?_append_left (by rw [qaU hl]; omega),List.getElem?_cons_succ]
 have:=qex (q:=sup.1) (t:=sup.2) n (by omega)
 rw [List.getElem?_toArray] at this
 exact this
theorem qhj (hl:sup.2.length=27) (j:Nat) (h:j<7):(pgCells db sup sl sn turn over fb defb mb roots)[29+j]?=(pgRest sl sn turn over fb defb mb)[j]?:=by
 rw [pgCells,List.getElem?_toArray,List.append_assoc,List.getElem?_append_right (by rw [qaU hl]; omega),qaU hl,Nat.add_sub_cancel_left,List.getElem?_append_left (by exact h)]
theorem qsm (hl:sup.2.length=27):(pgCells db sup sl sn turn over fb defb mb roots)[29]?=some (.slice sl.a sl.len sl.cap):=qhj hl 0 (by decide)
theorem qs0 (hl:sup.2.length=27):(pgCells db sup sl sn turn over fb defb mb roots)[30]?=some (.slice sn.a sn.len sn.cap):=qhj hl 1 (by decide)
theorem qeK (hl:sup.2.length=27):(pgCells db sup sl sn turn over fb defb mb roots)[32]?=some (.bool over):=qhj hl 3 (by decide)
theorem qej (hl:sup.2.length=27):(pgCells db sup sl sn turn over fb defb mb roots)[33]?=some (.pointer (some ⟨fb,0,none⟩)):=qhj hl 4 (by decide)
theorem qqF (hl:sup.2.length=27):(pgCells db sup sl sn turn over fb defb mb roots)[34]?=some (.pointer (some ⟨defb,0,none⟩)):=qhj hl 5 (by decide)
theorem qci (hl:sup.2.length=27):(pgCells db sup sl sn turn over fb defb mb roots)[35]?=some (.map (some mb)):=qhj hl 6 (by decide)
end
structure Rows (F:List Nat) (w:World) (sl sn:Sl) (lists named:List Int) (fs:List (Int×Leaf)):Prop where
 lists:Rd F w sl lists
 named:Rd F w sn named
 bodies:∀ e∈fs,RdB F w e.2.2.1 e.2.2.2
theorem Rows.frame {F F':List Nat} {w w':World} {sl sn:Sl} {lists named:List Int} {fs:List (Int×Leaf)} (h:Rows F w sl sn lists named fs) (f:Fr F w w') (hF:∀ b∈F',b∈F\/w.heap.size<=b):Rows F' w' sl sn lists named fs:=
 ⟨h.lists.frame f hF,h.named.frame f hF,fun e he=>(h.bodies e he).frame f hF⟩
structure PgX (w:World) (X:List Nat) (pb:Nat) (db:Option Addr) (M:PgM) (fb defb mb:Nat) (sl sn:Sl) (F1 F2:List Nat) (fs:List (Int×Leaf)):Prop where
 cell:w.heap[pb]?=some (.cells (pgCells db M.sup sl sn M.turn M.over fb defb mb M.roots) PGT (0,0))
 free:PoolAt w fb F1 M.free
 deferred:PoolAt w defb F2 M.deferred
 map:MapS u32V w mb (fs.map fun e=>(e.1,leafV e.2))
 fresh:M.fresh=fs.map fun e=>(e.1,e.2.1,e.2.2.2)
 rows:Rows (X++pb::mb::(F1++F2)) w sl sn M.lists M.named fs
 xlt:∀ b∈X,b<w.heap.size
 xsep:∀ b∈X,b∉pb::mb::(F1++F2)
 sep:pb≠mb/\(∀ b∈F1,b≠pb/\b≠mb/\b∉F2)/\(∀ b∈F2,b≠pb/\b≠mb)
 suplen:M.sup.2.length=27
 rootlen:M.roots.length=24
def PagerAt (w:World) (X:List Nat) (pb:Nat) (db:Option Addr) (F:List Nat) (M:PgM):Prop:=
 ∃ fb defb mb sl sn F1 F2 fs,F=pb::mb::(F1++F2)/\PgX w X pb db M fb defb mb sl sn F1 F2 fs
theorem PgX.lt_mb {w:World} {X:List Nat} {pb:Nat} {db:Option Addr} {M:PgM} {fb defb mb:Nat} {sl sn:Sl} {F1 F2:List Nat} {fs:List (Int×Leaf)} (h:PgX w X pb db M fb defb mb sl sn F1 F2 fs):mb<w.heap.size:=by
 exact h.map.lt
theorem PgX.lt {w:World} {X:List Nat} {pb:Nat} {db:Option Addr} {M:PgM} {fb defb mb:Nat} {sl sn:Sl} {F1 F2:List Nat} {fs:List (Int×Leaf)} (h:PgX w X pb db M fb defb mb sl sn F1 F2 fs):∀ b∈pb::mb::(F1++F2),b<w.heap.size:=by
 intro b hb
 rcases List.mem_cons.1 hb with rfl | hb
 ·exact qac h.cell
 rcases List.mem_cons.1 hb with rfl | hb
 ·exact h.lt_mb
 rcases List.mem_append.1 hb with hb | hb
 ·exact h.free.lt b hb
 ·exact h.deferred.lt b hb
theorem PagerAt.lt {w:World} {X:List Nat} {pb:Nat} {db:Option Addr} {F:List Nat} {M:PgM} (h:PagerAt w X pb db F M):∀ b∈F,b<w.heap.size:=by
 obtain ⟨fb,defb,mb,sl,sn,F1,F2,fs,rfl,hx⟩:=h
 exact hx.lt
theorem PgX.frame {w w':World} {S X:List Nat} {pb:Nat} {db:Option Addr} {M:PgM} {fb defb mb:Nat} {sl sn:Sl} {F1 F2:List Nat} {fs:List (Int×Leaf)} (h:PgX w X pb db M fb defb mb sl sn F1 F2 fs) (f:Fr S w w') (hS:∀ b∈pb::mb::(F1++F2),b∉S)
  (hr:Rows (X++pb::mb::(F1++F2)) w' sl sn M.lists M.named fs):PgX w' X pb db M fb defb mb sl sn F1 F2 fs where
 cell:=by rw [f.block pb (qac h.cell) (hS pb (by simp))]; exact h.cell
 free:=h.free.frame f fun b hb=>hS b (by simp [hb])
 deferred:=h.deferred.frame f fun b hb=>hS b (by simp [hb])
 map:=h.map.frame f (hS mb (by simp))
 fresh:=h.fresh
 rows:=hr
 xlt:=fun b hb=>Nat.lt_of_lt_of_le (h.xlt b hb) f.size
 xsep:=h.xsep
 sep:=h.sep
 suplen:=h.suplen
 rootlen:=h.rootlen
theorem PgX.frame0 {w w':World} {X:List Nat} {pb:Nat} {db:Option Addr} {M:PgM} {fb defb mb:Nat} {sl sn:Sl} {F1 F2:List Nat} {fs:List (Int×Leaf)} (h:PgX w X pb db M fb defb mb sl sn F1 F2 fs) (f:Fr [] w w'):PgX w' X pb db M fb defb mb sl sn F1 F2 fs:=
 h.frame f (by simp) (h.rows.frame (f.mono (fun b hb=>by cases hb)) (fun b hb=>.inl hb))
theorem PagerAt.frame0 {w w':World} {X:List Nat} {pb:Nat} {db:Option Addr} {F:List Nat} {M:PgM} (h:PagerAt w X pb db F M) (f:Fr [] w w'):PagerAt w' X pb db F M:=by
 obtain ⟨fb,defb,mb,sl,sn,F1,F2,fs,rfl,hx⟩:=h
 exact ⟨fb,defb,mb,sl,sn,F1,F2,fs,rfl,hx.frame0 f⟩
theorem qmv {w:World} {pb mb:Nat} {F1 F1' F2:List Nat} (n1:∀ b∈F1',b∈F1\/w.heap.size<=b):∀ b∈pb::mb::(F1'++F2),b∈pb::mb::(F1++F2)\/w.heap.size<=b:=fun b hb=>by
 simp only [List.mem_cons,List.mem_append] at hb ⊢
 rcases hb with hb | hb | hb | hb
 ·exact .inl (.inl hb)
 ·exact .inl (.inr (.inl hb))
 ·rcases n1 b hb with h1 | h1
  ·exact .inl (.inr (.inr (.inl h1)))
  ·exact .inr h1
 ·exact .inl (.inr (.inr (.inr hb)))
theorem qqh {w:World} {pb mb:Nat} {F1 F2 F2':List Nat} (n1:∀ b∈F2',b∈F2\/w.heap.size<=b):∀ b∈pb::mb::(F1++F2'),b∈pb::mb::(F1++F2)\/w.heap.size<=b:=fun b hb=>by
 simp only [List.mem_cons,List.mem_append] at hb ⊢
 rcases hb with hb | hb | hb | hb
 ·exact .inl (.inl hb)
 ·exact .inl (.inr (.inl hb))
 ·exact .inl (.inr (.inr (.inl hb)))
 ·rcases n1 b hb with h1 | h1
  ·exact .inl (.inr (.inr (.inr h1)))
  ·exact .inr h1
theorem qkW {w:World} {X F F':List Nat} (n:∀ b∈F',b∈F\/w.heap.size<=b):∀ b∈X++F',b∈X++F\/w.heap.size<=b:=fun b hb=>by
 rcases List.mem_append.1 hb with h | h
 ·exact .inl (List.mem_append_left _ h)
 ·rcases n b h with h | h
  ·exact .inl (List.mem_append_right _ h)
  ·exact .inr h
theorem qsT {w:World} {X F F':List Nat} (hl:∀ b∈X,b<w.heap.size) (hs:∀ b∈X,b∉F) (n:∀ b∈F',b∈F\/w.heap.size<=b):∀ b∈X,b∉F':=fun b hb h=>by
 rcases n b h with h | h
 ·exact hs b hb h
 ·have:=hl b hb; omega
theorem PgX.setFree {w w':World} {X:List Nat} {pb:Nat} {db:Option Addr} {M:PgM} {fb defb mb:Nat} {sl sn:Sl} {F1 F1' F2:List Nat} {fs:List (Int×Leaf)} {l:List Int} (h:PgX w X pb db M fb defb mb sl sn F1 F2 fs) (f:Fr F1 w w') (hp:PoolAt w' fb F1' l) (hn:∀ b∈F1',b∈F1\/w.heap.size<=b) :
  PgX w' X pb db { M with free:=l } fb defb mb sl sn F1' F2 fs where
 cell:=by rw [f.block pb (qac h.cell) (fun hb=>(h.sep.2.1 pb hb).1 rfl)]; exact h.cell
 free:=hp
 deferred:=h.deferred.frame f fun b hb hb1=>(h.sep.2.1 b hb1).2.2 hb
 map:=h.map.frame f (fun hb=>(h.sep.2.1 mb hb).2.1 rfl)
 fresh:=h.fresh
 rows:=h.rows.frame (f.mono fun b hb _=>by simp [hb]) (qkW (qmv hn))
 xlt:=fun b hb=>Nat.lt_of_lt_of_le (h.xlt b hb) f.size
 xsep:=qsT h.xlt h.xsep (qmv hn)
 sep:=⟨h.sep.1,fun b hb=>by
  rcases hn b hb with h1 | h1
  ·exact h.sep.2.1 b h1
  ·have l1:=qac h.cell
   have l2:=h.lt_mb
   exact ⟨by omega,by omega,fun h2=>by have:=h.deferred.lt b h2; omega⟩,h.sep.2.2⟩
 suplen:=h.suplen
 rootlen:=h.rootlen
theorem PgX.setDef {w w':World} {X:List Nat} {pb:Nat} {db:Option Addr} {M:PgM} {fb defb mb:Nat} {sl sn:Sl} {F1 F2 F2':List Nat} {fs:List (Int×Leaf)} {l:List Int} (h:PgX w X pb db M fb defb mb sl sn F1 F2 fs) (f:Fr F2 w w') (hp:PoolAt w' defb F2' l) (hn:∀ b∈F2',b∈F2\/w.heap.size<=b) :
  PgX w' X pb db { M with deferred:=l } fb defb mb sl sn F1 F2' fs where
 cell:=by rw [f.block pb (qac h.cell) (fun hb=>(h.sep.2.2 pb hb).1 rfl)]; exact h.cell
 free:=h.free.frame f fun b hb hb1=>(h.sep.2.1 b hb).2.2 hb1
 deferred:=hp
 map:=h.map.frame f (fun hb=>(h.sep.2.2 mb hb).2 rfl)
 fresh:=h.fresh
 rows:=h.rows.frame (f.mono fun b hb _=>by simp [hb]) (qkW (qqh hn))
 xlt:=fun b hb=>Nat.lt_of_lt_of_le (h.xlt b hb) f.size
 xsep:=qsT h.xlt h.xsep (qqh hn)
 sep:=⟨h.sep.1,fun b hb=>⟨(h.sep.2.1 b hb).1,(h.sep.2.1 b hb).2.1,fun h2=>by
  rcases hn b h2 with h1 | h1
  ·exact (h.sep.2.1 b hb).2.2 h1
  ·have:=h.free.lt b hb; omega⟩,fun b hb=>by
  rcases hn b hb with h1 | h1
  ·exact h.sep.2.2 b h1
  ·have l1:=qac h.cell
   have l2:=h.lt_mb
   exact ⟨by omega,by omega⟩⟩
 suplen:=h.suplen
 rootlen:=h.rootlen
theorem PgX.setMap {w:World} {o:Obj} {X:List Nat} {pb:Nat} {db:Option Addr} {M:PgM} {fb defb mb:Nat} {sl sn:Sl} {F1 F2:List Nat} {fs fs':List (Int×Leaf)} (h:PgX w X pb db M fb defb mb sl sn F1 F2 fs) (hm:MapS u32V (upd w mb o) mb (fs'.map fun e=>(e.1,leafV e.2)))
  (hb:∀ e∈fs',e∈fs\/RdB (X++pb::mb::(F1++F2)) w e.2.2.1 e.2.2.2) :
  PgX (upd w mb o) X pb db { M with fresh:=fs'.map fun e=>(e.1,e.2.1,e.2.2.2) } fb defb mb sl sn F1 F2 fs':=by
 have f:Fr [mb] w (upd w mb o):=qdo h.lt_mb o
 have f':Fr (X++pb::mb::(F1++F2)) w (upd w mb o):=f.mono fun b hb _=>by simp only [List.mem_singleton] at hb; subst hb; simp
 have hr:=h.rows.frame f' (F':=X++pb::mb::(F1++F2)) (fun b hb=>.inl hb)
 exact {
  cell:=by rw [f.block pb (qac h.cell) (by simpa using h.sep.1)]; exact h.cell
  free:=h.free.frame f fun b hb=>by simpa using (h.sep.2.1 b hb).2.1
  deferred:=h.deferred.frame f fun b hb=>by simpa using (h.sep.2.2 b hb).2
  map:=hm
  fresh:=rfl
  rows:=⟨hr.lists,hr.named,fun e he=>by
   rcases hb e he with h1 | h1
   ·exact hr.bodies e h1
   ·exact h1.frame f' (fun b hb=>.inl hb)⟩
  xlt:=fun b hb=>Nat.lt_of_lt_of_le (h.xlt b hb) f.size
  xsep:=h.xsep
  sep:=h.sep
  suplen:=h.suplen
  rootlen:=h.rootlen }
theorem PagerAt.frameX {w w':World} {X X':List Nat} {pb:Nat} {db:Option Addr} {F:List Nat} {M:PgM} (h:PagerAt w X pb db F M) (f:Fr X w w') (hx:∀ b∈X',b<w'.heap.size) (hX:∀ b∈X',b∈X\/w.heap.size<=b):PagerAt w' X' pb db F M:=by
 obtain ⟨fb,defb,mb,sl,sn,F1,F2,fs,rfl,h⟩:=h
 have hF:∀ b∈pb::mb::(F1++F2),b∉X:=fun b hb hx=>h.xsep b hx hb
 have hx1:=h.frame (w':=w') f hF (h.rows.frame (f.mono fun b hb _=>List.mem_append_left _ hb) (fun b hb=>.inl hb))
 refine ⟨fb,defb,mb,sl,sn,F1,F2,fs,rfl,{ hx1 with rows:=h.rows.frame (f.mono fun b hb _=>List.mem_append_left _ hb) (fun b hb=>?_),xlt:=hx,xsep:=fun b hb hm=>?_ }⟩
 ·rcases List.mem_append.1 hb with hb | hb
  ·rcases hX b hb with hb | hb
   ·exact .inl (List.mem_append_left _ hb)
   ·exact .inr hb
  ·exact .inl (List.mem_append_right _ hb)
 ·rcases hX b hb with hb | hb
  ·exact h.xsep b hb hm
  ·have:=h.lt b hm; omega
theorem PagerAt.sep {w:World} {X:List Nat} {pb:Nat} {db:Option Addr} {F:List Nat} {M:PgM} (h:PagerAt w X pb db F M):∀ b∈X,b∉F:=by
 obtain ⟨fb,defb,mb,sl,sn,F1,F2,fs,rfl,h⟩:=h
 exact h.xsep
end
section
theorem qs2 {S:List Nat} {w:World} {s:Sl} {l:List Int} {n:Int} {K:Int->World->Prop} (h:Rd S w s l) (hl:l.length<=1000000) (hk:∀ x:Int,(decide (x>=0)=decide (n∈l))->K x w) :
  call Tryz.prog 201 [.slice s.a s.len s.cap,.int .u32 n] [.one (.int .i64)] w K:=by
 refine qka (s:=s) ?_
 unfold qfO
 have hlen:=h.1
 refine qak (fun x w'=>w'=w/\∃ i:Nat,x=i/\i<=l.length/\n∉l.take i) (fun x _=>((l.length:Int)-x).toNat) ⟨rfl,0,rfl,by omega,by simp⟩ ?_
 rintro x w' ⟨rfl,i,rfl,hi,hno⟩ X hX
 refine qab (fun hc=>?_) (fun hc=>?_)
 ·have hil:i<l.length:=by have:=of_decide_eq_true hc; omega
  refine Rd.at h i rfl (List.getElem?_eq_getElem hil) ?_
  refine qab (fun hc=>?_) (fun hc=>?_)
  ·have e:n=l[i]:=by simpa using hc
   refine hk _ ?_
   rw [decide_eq_true (show (i:Int)>=0 by omega),decide_eq_true (by rw [e]; exact List.getElem_mem hil)]
  ·have e:n≠l[i]:=by simpa using hc
   rw [wi' _ (by omega)]
   refine hX _ _ ⟨rfl,i+1,by simp,by omega,?_⟩ (by omega)
   rw [List.take_succ_eq_append_getElem hil]
   simp only [List.mem_append,List.mem_singleton,not_or]
   exact ⟨hno,e⟩
 ·have:i=l.length:=by have:=of_decide_eq_false hc; omega
  subst this
  rw [List.take_length] at hno
  refine hk _ ?_
  rw [decide_eq_false (by decide),decide_eq_false hno]
theorem qn9 {S:List Nat} {w:World} {s:Sl} {l:List Int} {n:Int} {K:Bool->World->Prop} (h:Rd S w s l) (hl:l.length<=1000000) (hk:K (decide (n∈l)) w) :
  call Tryz.prog 155 [.slice s.a s.len s.cap,.int .u32 n] [.one .bool] w K:=by
 refine qgX (s:=s) ?_
 unfold qdf
 refine qs2 h hl fun x hx=>?_
 rw [hx]
 exact hk
theorem quB:∀ w,(zeroValue 161).run Tryz.prog w=.ok (.agg #[.int .u8 0,.slice none 0 0]) w:=fun w=>by kernel_rfl
theorem qpw:Tryz.prog.underlying MLT=some (.map 37 161):=by kernel_rfl
theorem qhi {w:World} {mb:Nat} {fs:List (Int×Leaf)} {n:Int} {K:((Int×Sl)×Bool)->Prop} (h:MapAt u32V w mb (fs.map fun e=>(e.1,leafV e.2)))
  (hs:∀ q,look n fs=some q->K ((q.2.1,q.2.2.1),true)) (hn:look n fs=none->K ((0,⟨none,0,0⟩),false)) :
  runQ [Ty1.agg [Cell.int .u8,Cell.slice],Ty1.one Cell.bool] (fun w'=>(Instr.lookup MLT (.map (some mb)) (.int .u32 n) true).run Tryz.prog w') w K:=by
 have:=qmO (P:=Tryz.prog) qpw quB qbR h n
 rw [qbG,qbN] at this
 cases hl:look n fs with
 | none=>
  rw [hl] at this
  exact qbl (ts:=[Ty1.agg [Cell.int .u8,Cell.slice],Ty1.one Cell.bool]) ((0,⟨none,0,0⟩),false) this (hn hl)
 | some q=>
  rw [hl] at this
  exact qbl (ts:=[Ty1.agg [Cell.int .u8,Cell.slice],Ty1.one Cell.bool]) ((q.2.1,q.2.2.1),true) this (hs q hl)
section
variable {w:World} {X:List Nat} {pb:Nat} {db:Option Addr} {F:List Nat} {M:PgM}
theorem qsk {K:Int->World->Prop} (h:PagerAt w X pb db F M) (hk:K M.free.length w):call Tryz.prog 46 [.pointer (some ⟨pb,0,none⟩)] [.one (.int .i64)] w K:=by
 obtain ⟨fb,defb,mb,sl,sn,F1,F2,fs,rfl,hx⟩:=h
 refine qfW (p:=some ⟨pb,0,none⟩) ?_
 unfold qc1
 refine qae (qaq (c:=.ptr) hx.cell (some ⟨fb,0,none⟩) (qej hx.suplen) ?_)
 exact qtb hx.free hk
def usedV (M:PgM) (n:Int):Bool:=!(decide (n<2)||decide (n>=M.sup.2.getD 0 0)||decide (n∈M.lists)||decide (n∈M.free)||decide (n∈M.deferred))&&(look n M.fresh).isNone
theorem qmM {n:Int} {K:Bool->World->Prop} (h:PagerAt w X pb db F M) (hl:M.lists.length<=1000000) (hk:∀ w',Fr [] w w'->K (usedV M n) w'):call Tryz.prog 124 [.pointer (some ⟨pb,0,none⟩),.int .u32 n] [.one .bool] w K:=by
 obtain ⟨fb,defb,mb,sl,sn,F1,F2,fs,rfl,hx⟩:=h
 refine qf0 (p:=some ⟨pb,0,none⟩) ?_
 unfold qcU
 refine qag (fun b w'=>b=(decide (n<2)||decide (n>=M.sup.2.getD 0 0)||decide (n∈M.lists)||decide (n∈M.free)||decide (n∈M.deferred))/\w'=w) ?_ ?_
 ·refine qab (fun hc=>⟨by rw [hc]; rfl,rfl⟩) (fun hc=>?_)
  refine qae ?_
  simp only [Addr.add_mk]
  refine qaq (c:=.int .u32) hx.cell (M.sup.2.getD 0 0) (qud hx.suplen 0 (by decide)) ?_
  refine qab (fun hc2=>⟨by rw [hc,hc2]; rfl,by trivial⟩) (fun hc2=>?_)
  refine qae (qaq (c:=.slice) hx.cell sl (qsm hx.suplen) ?_)
  refine qn9 hx.rows.lists hl ?_
  refine qab (fun hc3=>⟨by rw [hc,hc2,hc3]; rfl,by trivial⟩) (fun hc3=>?_)
  refine qae (qaq (c:=.ptr) hx.cell (some ⟨fb,0,none⟩) (qej hx.suplen) ?_)
  refine qmZ hx.free ?_
  refine qab (fun hc4=>⟨by rw [hc,hc2,hc3,hc4]; rfl,by trivial⟩) (fun hc4=>?_)
  refine qae ?_
  refine qaq (c:=.ptr) hx.cell (some ⟨defb,0,none⟩) (qqF hx.suplen) ?_
  refine qmZ hx.deferred ⟨by rw [hc,hc2,hc3,hc4]; rfl,by trivial⟩
 rintro b w' ⟨rfl,rfl⟩
 have hfr:(look n M.fresh).isNone=(look n fs).isNone:=by
  rw [hx.fresh,qbN (fun x:Leaf=>(x.1,x.2.2))]
  cases look n fs <;> rfl
 refine qab (fun hc=>?_) (fun hc=>?_)
 ·have:=hk w' (.refl _ _)
  rw [usedV,hc] at this
  exact this
 refine qae ?_
 simp only [Addr.add_mk]
 refine qaq (c:=.map) hx.cell (some mb) (qci hx.suplen) ?_
 refine qhi hx.map.at (fun q hq=>?_) (fun hq=>?_)
 ·refine Own.new' (Own.start [] w') fun r w1 e1 f1 ho=>?_
  refine Own.st ho 0 rfl _ rfl rfl rfl fun w2 ho _=>?_
  have:=hk w2 ho.fr
  rw [usedV,hc,hfr,hq] at this
  exact this
 ·refine Own.new' (Own.start [] w') fun r w1 e1 f1 ho=>?_
  refine Own.st ho 0 rfl _ rfl rfl rfl fun w2 ho _=>?_
  have:=hk w2 ho.fr
  rw [usedV,hc,hfr,hq] at this
  exact this
def makeV (M:PgM) (kind:Int) (body:List Int):(Int×Int)×PgM:=
 if M.over then ((0,7),M) else if body.length>500 then ((0,3),M) else
 match M.free with
 | []=>((0,6),M)
 | n::r=>((n,0),{ M with free:=r,fresh:=setL n (kind,body) M.fresh })
theorem qs3 {kind:Int} {s:Sl} {body:List Int} {K:Int×Int->World->Prop} (h:PagerAt w X pb db F M) (hb:RdB (X++F) w s body) (hl:body.length<=100000) (hf:M.free.length<=1000000)
  (hk:∀ F' w',PagerAt w' X pb db F' (makeV M kind body).2->Fr F w w'->(∀ b∈F',b∈F\/w.heap.size<=b)->K (makeV M kind body).1 w') :
  call Tryz.prog 137 [.pointer (some ⟨pb,0,none⟩),.int .u8 kind,.slice s.a s.len s.cap] [.one (.int .u32),.one (.int .i64)] w K:=by
 have h0:=h
 obtain ⟨fb,defb,mb,sl,sn,F1,F2,fs,rfl,hx⟩:=h
 have hlen:=hb.1
 refine qfT (p:=some ⟨pb,0,none⟩) (body:=s) ?_
 unfold qc0
 have same:∀ {e:Int},makeV M kind body=((0,e),M)->K (0,e) w:=by
  intro e he
  have:=hk _ w (by rw [he]; exact h0) (.refl _ _) (fun b hb=>.inl hb)
  rw [he] at this
  exact this
 refine qae (qaq (c:=.bool) hx.cell M.over (qeK hx.suplen) ?_)
 refine qab (fun hc=>same (by rw [makeV,if_pos hc])) (fun hc=>?_)
 have ho:¬ M.over=true:=by rw [hc]; decide
 refine qab (fun hc=>?_) (fun hc=>?_)
 ·have:=of_decide_eq_true hc
  exact same (by rw [makeV,if_neg ho,if_pos (by omega)])
 have hb5:¬ body.length>500:=by have:=of_decide_eq_false hc; omega
 refine qae (qaq (c:=.ptr) hx.cell (some ⟨fb,0,none⟩) (qej hx.suplen) ?_)
 refine qtp hx.free hf fun F1' w1 hp1 f1 n1=>?_
 have hx1:=hx.setFree f1 hp1 n1
 have fF:Fr (pb::mb::(F1++F2)) w w1:=f1.mono fun b hb _=>by simp [hb]
 have nF:=qmv (w:=w) (pb:=pb) (mb:=mb) (F2:=F2) n1
 cases hfr:M.free with
 | nil=>
  have hmv:makeV M kind body=((0,6),M):=by rw [makeV,if_neg ho,if_neg hb5,hfr]
  rw [hfr] at hp1 hx1
  refine cond_true rfl ?_
  have hM:{ M with free:=(takeV []).2 }=M:=by
   show { M with free:=[] }=M
   rw [<- hfr]
  rw [hM] at hx1
  have:=hk _ w1 (by rw [hmv]; exact ⟨fb,defb,mb,sl,sn,F1',F2,fs,rfl,hx1⟩) fF nF
  rw [hmv] at this
  exact this
 | cons n r=>
  have hmv:makeV M kind body=((n,0),{ M with free:=r,fresh:=setL n (kind,body) M.fresh }):=by rw [makeV,if_neg ho,if_neg hb5,hfr]
  rw [hfr] at hp1 hx1
  refine cond_false rfl ?_
  refine qae ?_
  simp only [Addr.add_mk]
  have c1:w1.heap[pb]?=_:=hx1.cell
  refine qaq (w:=w1.drew) (c:=.map) c1 (some mb) (qci hx.suplen) ?_
  have hb1:RdB (X++pb::mb::(F1'++F2)) w1.drew s body:=hb.frame (fF.drew.mono fun b hb _=>List.mem_append_right _ hb) (qkW nF)
  refine qaR hb1 (by omega) fun s2 B2 w2 b2 f2 n2 _ _=>?_
  have f12:Fr [] w1 w2:=((Fr.refl [] w1).drew).trans f2
  have hx2:=hx1.frame0 f12
  refine qah (by rw [qai hx2.cell]; exact qci hx.suplen) ?_
  obtain ⟨o,hr,hm⟩:=qfm (v:=leafV (kind,s2,body)) qpw hx2.map n
  refine qhl _ hr ?_
  have hm':MapS u32V (upd w2 mb o) mb ((setL n (kind,s2,body) fs).map fun e=>(e.1,leafV e.2)):=by rw [qfl leafV]; exact hm
  have hx3:=hx2.setMap hm' fun e he=>by
   rcases qfB he with h1 | h1
   ·exact .inl h1
   ·subst h1
    refine .inr (b2.rds qas fun b hb hb2=>?_)
    have l2:w1.heap.size<=b:=n2 b hb
    rcases List.mem_append.1 hb2 with hb2 | hb2
    ·have:=hx1.xlt b hb2; omega
    ·have:=hx1.lt b hb2; omega
  have hM:(setL n (kind,s2,body) fs).map (fun e=>(e.1,e.2.1,e.2.2.2))=setL n (kind,body) M.fresh:=by
   rw [hx.fresh]; exact qfl (fun x:Leaf=>(x.1,x.2.2)) n (kind,s2,body) fs
  rw [hM] at hx3
  have f3:Fr (pb::mb::(F1++F2)) w (upd w2 mb o):=(fF.trans' f12 (by simp)).trans' (qdo hx2.lt_mb o) fun b hb=>by simp only [List.mem_singleton] at hb; subst hb; exact .inl (by simp)
  have:=hk _ (upd w2 mb o) (by rw [hmv]; exact ⟨fb,defb,mb,sl,sn,F1',F2,_,rfl,hx3⟩) f3 nF
  rw [hmv] at this
  exact this
end
end
section
theorem PgX.fresh_look {w:World} {X:List Nat} {pb:Nat} {db:Option Addr} {M:PgM} {fb defb mb:Nat} {sl sn:Sl} {F1 F2:List Nat} {fs:List (Int×Leaf)} (h:PgX w X pb db M fb defb mb sl sn F1 F2 fs) (n:Int):look n M.fresh=(look n fs).map fun q=>(q.1,q.2.1,q.2.2.2):=by
 rw [h.fresh,qbN (fun x:Leaf=>(x.1,x.2.2))]
section
variable {w:World} {X:List Nat} {pb:Nat} {db:Option Addr} {F:List Nat} {M:PgM}
def putV (M:PgM) (n kind:Int) (body:List Int):Int×PgM:=
 if M.over then (7,M) else match look n M.fresh with
 | none=>(10,M)
 | some _=>if body.length>500 then (3,M) else (0,{ M with fresh:=setL n (kind,body) M.fresh })
theorem qtO {n kind:Int} {s:Sl} {body:List Int} {K:Int->World->Prop} (h:PagerAt w X pb db F M) (hb:RdB (X++F) w s body) (hl:body.length<=100000)
  (hk:∀ w',PagerAt w' X pb db F (putV M n kind body).2->Fr F w w'->K (putV M n kind body).1 w') :
  call Tryz.prog 136 [.pointer (some ⟨pb,0,none⟩),.int .u32 n,.int .u8 kind,.slice s.a s.len s.cap] [.one (.int .i64)] w K:=by
 have h0:=h
 obtain ⟨fb,defb,mb,sl,sn,F1,F2,fs,rfl,hx⟩:=h
 have hlen:=hb.1
 refine qgh (p:=some ⟨pb,0,none⟩) (body:=s) ?_
 unfold qdn
 have same:∀ {e:Int} {w':World},putV M n kind body=(e,M)->Fr [] w w'->K e w':=by
  intro e w' he hf
  have:=hk w' (by rw [he]; exact h0.frame0 hf) (hf.mono (fun b hb=>by cases hb))
  rw [he] at this
  exact this
 have hfl:=hx.fresh_look n
 refine qae (qaq (c:=.bool) hx.cell M.over (qeK hx.suplen) ?_)
 refine qab (fun hc=>same (by rw [putV,if_pos hc]) (.refl _ _)) (fun hc=>?_)
 have ho:¬ M.over=true:=by rw [hc]; decide
 refine qae ?_
 simp only [Addr.add_mk]
 refine qaq (c:=.map) hx.cell (some mb) (qci hx.suplen) ?_
 refine qhi hx.map.at (fun q hq=>?_) (fun hq=>?_)
 ·rw [hq] at hfl
  refine Own.new' (Own.start [] w) fun r w1 e1 f1 ho1=>?_
  refine Own.st ho1 0 rfl _ rfl rfl rfl fun w2 ho1 _=>?_
  refine cond_false rfl ?_
  refine qab (fun hc=>?_) (fun hc=>?_)
  ·have:=of_decide_eq_true hc
   exact same (by rw [putV,if_neg ho,hfl]; dsimp only [Option.map_some]; rw [if_pos (by omega)]) ho1.fr
  have hb5:¬ body.length>500:=by have:=of_decide_eq_false hc; omega
  have hmv:putV M n kind body=(0,{ M with fresh:=setL n (kind,body) M.fresh }):=by rw [putV,if_neg ho,hfl]; dsimp only [Option.map_some]; rw [if_neg hb5]
  have hx2:=hx.frame0 ho1.drew.fr
  refine qae ?_
  refine qaq (w:=w2.drew) (c:=.map) hx2.cell (some mb) (qci hx.suplen) ?_
  refine qaR (hb.frame0 ho1.drew.fr) (by omega) fun s2 B2 w3 b2 f2 n2 _ _=>?_
  have f03:Fr [] w w3:=ho1.drew.fr.trans f2
  have hx3:=hx.frame0 f03
  refine qah (by simp only [Addr.add_mk]; rw [qai hx3.cell]; exact qci hx.suplen) ?_
  obtain ⟨o,hr,hm⟩:=qfm (v:=leafV (kind,s2,body)) qpw hx3.map n
  refine qhl _ hr ?_
  have hm':MapS u32V (upd w3 mb o) mb ((setL n (kind,s2,body) fs).map fun e=>(e.1,leafV e.2)):=by rw [qfl leafV]; exact hm
  have hx4:=hx3.setMap hm' fun e he=>by
   rcases qfB he with h1 | h1
   ·exact .inl h1
   ·subst h1
    refine .inr (b2.rds qas fun b hb hb2=>?_)
    have l2:w2.drew.heap.size<=b:=n2 b hb
    rcases List.mem_append.1 hb2 with hb2 | hb2
    ·have:b<w2.heap.size:=hx2.xlt b hb2
     have:w2.drew.heap.size=w2.heap.size:=rfl
     omega
    ·have:b<w2.heap.size:=hx2.lt b hb2
     have:w2.drew.heap.size=w2.heap.size:=rfl
     omega
  have hM:(setL n (kind,s2,body) fs).map (fun e=>(e.1,e.2.1,e.2.2.2))=setL n (kind,body) M.fresh:=by
   rw [hx.fresh]; exact qfl (fun x:Leaf=>(x.1,x.2.2)) n (kind,s2,body) fs
  rw [hM] at hx4
  have f4:Fr (pb::mb::(F1++F2)) w (upd w3 mb o):=(f03.mono (T:=pb::mb::(F1++F2)) (fun b hb=>by cases hb)).trans' (qdo hx3.lt_mb o) fun b hb=>by simp only [List.mem_singleton] at hb; subst hb; exact .inl (by simp)
  have:=hk (upd w3 mb o) (by rw [hmv]; exact ⟨fb,defb,mb,sl,sn,F1,F2,_,rfl,hx4⟩) f4
  rw [hmv] at this
  exact this
 ·rw [hq] at hfl
  refine Own.new' (Own.start [] w) fun r w1 e1 f1 ho1=>?_
  refine Own.st ho1 0 rfl _ rfl rfl rfl fun w2 ho1 _=>?_
  refine cond_true rfl ?_
  exact same (by rw [putV,if_neg ho,hfl]; rfl) ho1.fr
def dropV (M:PgM) (n:Int):Int×PgM:=
 if M.over then (7,M) else match look n M.fresh with
 | some _=>(0,{ M with fresh:=delL n M.fresh,free:=ins n M.free })
 | none=>if usedV M n then (0,{ M with deferred:=ins n M.deferred }) else (10,M)
theorem qsn {n:Int} {K:Int->World->Prop} (h:PagerAt w X pb db F M) (hl:M.lists.length<=1000000) (hf:M.free.length<=1000000) (hd:M.deferred.length<=1000000)
  (hk:∀ F' w',PagerAt w' X pb db F' (dropV M n).2->Fr F w w'->(∀ b∈F',b∈F\/w.heap.size<=b)->K (dropV M n).1 w') :
  call Tryz.prog 110 [.pointer (some ⟨pb,0,none⟩),.int .u32 n] [.one (.int .i64)] w K:=by
 have h0:=h
 obtain ⟨fb,defb,mb,sl,sn,F1,F2,fs,rfl,hx⟩:=h
 refine qf1 (p:=some ⟨pb,0,none⟩) ?_
 unfold qcX
 have same:∀ {e:Int} {w':World},dropV M n=(e,M)->Fr [] w w'->K e w':=by
  intro e w' he hf
  have:=hk _ w' (by rw [he]; exact h0.frame0 hf) (hf.mono (fun b hb=>by cases hb)) (fun b hb=>.inl hb)
  rw [he] at this
  exact this
 have hfl:=hx.fresh_look n
 refine qae (qaq (c:=.bool) hx.cell M.over (qeK hx.suplen) ?_)
 refine qab (fun hc=>same (by rw [dropV,if_pos hc]) (.refl _ _)) (fun hc=>?_)
 have ho:¬ M.over=true:=by rw [hc]; decide
 refine qae ?_
 simp only [Addr.add_mk]
 refine qaq (c:=.map) hx.cell (some mb) (qci hx.suplen) ?_
 refine qhi hx.map.at (fun q hq=>?_) (fun hq=>?_)
 ·rw [hq] at hfl
  refine Own.new' (Own.start [] w) fun r w1 e1 f1 ho1=>?_
  refine Own.st ho1 0 rfl _ rfl rfl rfl fun w2 ho1 _=>?_
  refine cond_true rfl ?_
  have hmv:dropV M n=(0,{ M with fresh:=delL n M.fresh,free:=ins n M.free }):=by rw [dropV,if_neg ho,hfl]; rfl
  have hx2:=hx.frame0 ho1.fr
  refine qae ?_
  refine qaq (c:=.map) hx2.cell (some mb) (qci hx.suplen) ?_
  obtain ⟨o,hr,hm⟩:=MapS.del (ty:=0) qpw qbR hx2.map n
  refine qrj (ts:=[]) () _ hr ?_
  have hm':MapS u32V (upd w2 mb o) mb ((delL n fs).map fun e=>(e.1,leafV e.2)):=by
   rw [qnM leafV]
   rw [qbG] at hm
   unfold delL
   cases hl:look n (fs.map fun e=>(e.1,leafV e.2)) with
   | none=>rw [hl] at hm; exact hm
   | some q=>rw [hl] at hm; exact hm
  have hx3:=hx2.setMap hm' fun e he=>.inl (qmI he)
  have hM:(delL n fs).map (fun e=>(e.1,e.2.1,e.2.2.2))=delL n M.fresh:=by
   rw [hx.fresh]; exact qnM (fun x:Leaf=>(x.1,x.2.2)) n fs
  rw [hM] at hx3
  have f3:Fr (pb::mb::(F1++F2)) w (upd w2 mb o):=(ho1.fr.mono (T:=pb::mb::(F1++F2)) (fun b hb=>by cases hb)).trans' (qdo hx2.lt_mb o) fun b hb=>by simp only [List.mem_singleton] at hb; subst hb; exact .inl (by simp)
  refine qae (qaq (c:=.ptr) hx3.cell (some ⟨fb,0,none⟩) (qej hx.suplen) ?_)
  refine qmx hx3.free hf fun F1' w4 hp4 f4 n4=>?_
  have hx4:=hx3.setFree f4 hp4 n4
  have hs:w.heap.size<=(upd w2 mb o).heap.size:=by rw [qbB]; exact ho1.fr.size
  have:=hk _ w4 (by rw [hmv]; exact ⟨fb,defb,mb,sl,sn,F1',F2,_,rfl,hx4⟩) (f3.trans' f4 fun b hb=>.inl (by simp [hb])) fun b hb=>by
   rcases qmv n4 b hb with h1 | h1
   ·exact .inl h1
   ·exact .inr (Nat.le_trans hs h1)
  rw [hmv] at this
  exact this
 ·rw [hq] at hfl
  refine Own.new' (Own.start [] w) fun r w1 e1 f1 ho1=>?_
  refine Own.st ho1 0 rfl _ rfl rfl rfl fun w2 ho1 _=>?_
  refine cond_false rfl ?_
  refine qmM (h0.frame0 ho1.fr) hl fun w3 f3=>?_
  have f03:=ho1.fr.trans f3
  refine qab (fun hc=>?_) (fun hc=>?_)
  ·have hu:usedV M n=false:=by simpa using hc
   exact same (by rw [dropV,if_neg ho,hfl]; show (if usedV M n then _ else _)=_; rw [hu]; rfl) f03
  have hu:usedV M n=true:=by simpa using hc
  have hmv:dropV M n=(0,{ M with deferred:=ins n M.deferred }):=by
   rw [dropV,if_neg ho,hfl]; show (if usedV M n then _ else _)=_; rw [hu]; rfl
  have hx3:=hx.frame0 f03
  refine qae (qaq (c:=.ptr) hx3.cell (some ⟨defb,0,none⟩) (qqF hx.suplen) ?_)
  refine qmx hx3.deferred hd fun F2' w4 hp4 f4 n4=>?_
  have hx4:=hx3.setDef f4 hp4 n4
  have:=hk _ w4 (by rw [hmv]; exact ⟨fb,defb,mb,sl,sn,F1,F2',_,rfl,hx4⟩) ((f03.mono (T:=pb::mb::(F1++F2)) (fun b hb=>by cases hb)).trans' f4 fun b hb=>.inl (by simp [hb])) fun b hb=>by
   rcases qqh n4 b hb with h1 | h1
   ·exact .inl h1
   ·exact .inr (Nat.le_trans f03.size h1)
  rw [hmv] at this
  exact this
end
end
def left (es:Array MapEntry) (seen:Array Nat):List MapEntry:=es.toList.filter fun e=>!seen.toList.contains e.born
end Go.Proofs.YtmmkegapckbomaaGreatDoor
end
section
set_option linter.unusedVariables false
set_option linter.unusedSimpArgs false
namespace Go.Proofs.YtmmkegapckbomaaGreatDoor
open Go Go.Pt Go.Sort
attribute [local irreducible] ld ldA ldV fld fldA newZ st new idx idxS idxA slc slcS slcP mkS chk nn call callV inv run runQ runU join loop held ext rng undefer s2a nxt ent IntKind.wrap
section
variable {w:World} {X:List Nat} {pb:Nat} {db:Option Addr} {F:List Nat} {M:PgM}
end
end Go.Proofs.YtmmkegapckbomaaGreatDoor
end
section
set_option linter.unusedVariables false
set_option linter.unusedSimpArgs false
namespace Go.Proofs.YtmmkegapckbomaaGreatDoor
open Go Go.Pt
attribute [local irreducible] ld ldA ldV fld fldA newZ st new idx idxS idxA slc slcS slcP mkS chk nn call callV inv run runQ runU join loop held ext rng undefer s2a nxt ent IntKind.wrap
theorem qbt {A X Y Z:List Value} (h:X.length=Y.length):splice (A++X++Z).toArray A.length Y=(A++Y++Z).toArray:=by
 apply Array.ext'
 rw [qar _ _ _ (by rw [List.size_toArray]; simp only [List.length_append]; omega)]
 exact qds A X Y Z h
theorem qaZ {offs:Array (Nat×Nat)} {cells:Array Value} {i o s:Nat} {v:Value} {rest:List (Nat×Value)} (h:offs[i]?=some (o,s)) (hv:v.cells.size=s) (hb:o+s<=cells.size) :
  Instr.fill (offs[·]?) cells ((i,v)::rest)=Instr.fill (offs[·]?) (splice cells o v.cells.toList) rest:=by
 have h1:=qfA o v.cells cells
 simp only [Instr.fill,h]
 rw [if_neg (by simp [hv]; omega),h1]
theorem qgZ {P:Program} {t:TypeId} {z:Value} {parts:List (Nat×Value)} {offs:Array (Nat×Nat)} {cs:Array Value} (hz:(P.info? t).bind (·.zero)=some z) (hu:P.underlying t=some (.struct (fieldsOf P t))) (hpl:∀ w,((fieldsOf P t).mapM fun f=>do pure (f.offset,<- sizeOf f.type):Sem (Array (Nat×Nat))).run P w=.ok offs w)
  (hf:Instr.fill (offs[·]?) z.cells parts=some cs) (w:World):(Instr.build t parts.toArray).run P w=.ok (.agg cs) w:=by
 simp only [Instr.build,Sem.run_bind,qaG hz,Result.andThen_ok,run_underlying hu,hpl,hf,Sem.run_pure]
abbrev WKT:TypeId:=125
def workV (x y:Option Addr) (m:Option Nat) (roots:List Int):List Value:=[.pointer x,.pointer y,.map m]++roots.map (Value.int .u32)
theorem qcA {x y:Option Addr} {m:Option Nat} {roots:List Int} (h:roots.length=24):(workV x y m roots).length=27:=by simp [workV,h]
theorem quu:(Tryz.prog.info? WKT).bind (·.zero)=some (.agg (workV none none none (zs 24)).toArray):=by kernel_rfl
theorem qpS {x y:Option Addr} {m:Option Nat} {roots:List Int} (h:roots.length=24) (w:World) :
  (Instr.build WKT #[(0,.pointer x),(1,.pointer y),(2,.map m),(3,.agg (roots.map (Value.int .u32)).toArray)]).run Tryz.prog w=.ok (.agg (workV x y m roots).toArray) w:=by
 refine qgZ (parts:=[(0,.pointer x),(1,.pointer y),(2,.map m),(3,.agg (roots.map (Value.int .u32)).toArray)]) (offs:=#[(0,1),(1,1),(2,1),(3,24)]) quu (by kernel_rfl) (fun w=>by kernel_rfl) ?_ w
 have hs:(Value.agg (roots.map (Value.int .u32)).toArray).cells.size=24:=by show (roots.map (Value.int .u32)).toArray.size=24; simp [h]
 rw [qaZ (o:=0) (s:=1) rfl rfl (Nat.le_of_ble_eq_true rfl),qaZ (o:=1) (s:=1) rfl rfl (Nat.le_of_ble_eq_true rfl),qaZ (o:=2) (s:=1) rfl rfl (Nat.le_of_ble_eq_true rfl),qaZ (o:=3) (s:=24) rfl hs (Nat.le_of_ble_eq_true rfl)]
 show some _=_
 congr 1
 exact qbt (A:=[.pointer x,.pointer y,.map m]) (X:=(zs 24).map (Value.int .u32)) (Z:=[]) (Y:=roots.map (Value.int .u32)) (by simp [h,qaN]) |>.trans (by rw [List.append_nil]; rfl)
def pgRaw (db:Option Addr) (sup:Sup) (sl sn:Sl) (turn:Int) (over:Bool) (wk:List Value):Array Value:=
 ((Value.pointer db::supV sup.1 sup.2)++([.slice sl.a sl.len sl.cap,.slice sn.a sn.len sn.cap,.int .i64 turn,.bool over]:List Value)++wk).toArray
theorem qow {db:Option Addr} {sup:Sup} {sl sn:Sl} {turn:Int} {over:Bool} {fb defb mb:Nat} {roots:List Int} :
  pgRaw db sup sl sn turn over (workV (some ⟨fb,0,none⟩) (some ⟨defb,0,none⟩) (some mb) roots)=pgCells db sup sl sn turn over fb defb mb roots:=by
 simp [pgRaw,pgCells,pgRest,workV]
section
variable {db:Option Addr} {sup:Sup} {sl sn:Sl} {turn:Int} {over:Bool} {wk:List Value}
theorem qfp (hl:sup.2.length=27):(pgRaw db sup sl sn turn over wk).size=33+wk.length:=by
 rw [pgRaw,List.size_toArray,List.length_append,List.length_append,qaU hl]; rfl
theorem qcD (hl:sup.2.length=27) (j:Nat) (h:j<4):(pgRaw db sup sl sn turn over wk)[29+j]?=([.slice sl.a sl.len sl.cap,.slice sn.a sn.len sn.cap,.int .i64 turn,.bool over]:List Value)[j]?:=by
 rw [pgRaw,List.getElem?_toArray,List.append_assoc,List.getElem?_append_right (by rw [qaU hl]; omega),qaU hl,Nat.add_sub_cancel_left,List.getElem?_append_left (by exact h)]
theorem qus:(pgRaw db sup sl sn turn over wk)[0]?=some (.pointer db):=rfl
theorem qhk (hl:sup.2.length=27) (n:Nat) (h:n<27):(pgRaw db sup sl sn turn over wk)[n+2]?=some (.int .u32 (sup.2.getD n 0)):=by
 rw [pgRaw,List.getElem?_toArray,List.append_assoc,List.getElem?_append_left (by rw [qaU hl]; omega),List.getElem?_cons_succ]
 have:=qex (q:=sup.1) (t:=sup.2) n (by omega)
 rw [List.getElem?_toArray] at this
 exact this
theorem qlt (hl:sup.2.length=27):((pgRaw db sup sl sn turn over wk).toList.drop 5).take 24=(sup.2.drop 3).map (Value.int .u32):=by
 have hm:((sup.2.drop 3).map (Value.int .u32)).length=24:=by rw [List.length_map,List.length_drop,hl]
 have e:(pgRaw db sup sl sn turn over wk).toList.drop 5=(sup.2.drop 3).map (Value.int .u32)++([.slice sl.a sl.len sl.cap,.slice sn.a sn.len sn.cap,.int .i64 turn,.bool over]++wk):=by
  show List.drop 3 ((sup.2.map (Value.int .u32))++[_,_,_,_]++wk)=_
  rw [List.append_assoc,List.drop_append_of_le_length (by rw [List.length_map,hl]; decide),List.map_drop]
 rw [e,List.take_append_of_le_length (Nat.le_of_eq hm.symm),List.take_of_length_le (Nat.le_of_eq hm)]
theorem qsU (hl:sup.2.length=27) {turn':Int}:splice (pgRaw db sup sl sn turn over wk) 31 [.int .i64 turn']=pgRaw db sup sl sn turn' over wk:=by
 have h:((Value.pointer db::supV sup.1 sup.2)++([.slice sl.a sl.len sl.cap,.slice sn.a sn.len sn.cap]:List Value)).length=31:=by rw [List.length_append,qaU hl]; rfl
 have:=qbt (A:=(Value.pointer db::supV sup.1 sup.2)++([.slice sl.a sl.len sl.cap,.slice sn.a sn.len sn.cap]:List Value)) (X:=[.int .i64 turn]) (Y:=[.int .i64 turn']) (Z:=.bool over::wk) rfl
 rw [h] at this
 simpa [pgRaw] using this
theorem qsx (hl:sup.2.length=27) {wk':List Value} (hw:wk.length=wk'.length):splice (pgRaw db sup sl sn turn over wk) 33 wk'=pgRaw db sup sl sn turn over wk':=by
 have h:((Value.pointer db::supV sup.1 sup.2)++([.slice sl.a sl.len sl.cap,.slice sn.a sn.len sn.cap,.int .i64 turn,.bool over]:List Value)).length=33:=by rw [List.length_append,qaU hl]; rfl
 have:=qbt (A:=(Value.pointer db::supV sup.1 sup.2)++([.slice sl.a sl.len sl.cap,.slice sn.a sn.len sn.cap,.int .i64 turn,.bool over]:List Value)) (X:=wk) (Y:=wk') (Z:=[]) hw
 rw [h,List.append_nil,List.append_nil] at this
 exact this
end
end Go.Proofs.YtmmkegapckbomaaGreatDoor
end
section
set_option linter.unusedVariables false
set_option maxRecDepth 100000
namespace Go.Proofs.YtmmkegapckbomaaGreatDoor
open Go Go.Pt
def qlr (blocks:Int) (K:((Option Addr)×Int)->World->Prop) (w:World):Prop:=join (Bool) (fun b=>cond (decide (blocks<8)) (b true w) (b (decide (blocks>4096)) w)) fun (c:Bool) d=>cond c (K ((none,1)) d) (mkS 177 ([.int .u8 0,.int .u8 0,.int .u8 0,.int .u8 0,.int .u8 0,.int .u8 0,.int .u8 0,.int .u8 0,.int .u8 0,.int .u8 0,.int .u8 0,.int .u8 0,.int .u8 0,.int .u8 0,.int .u8 0,.int .u8 0,.int .u8 0,.int .u8 0,.int .u8 0,.int .u8 0,.int .u8 0,.int .u8 0,.int .u8 0,.int .u8 0,.int .u8 0,.int .u8 0,.int .u8 0,.int .u8 0,.int .u8 0,.int .u8 0,.int .u8 0,.int .u8 0,.int .u8 0,.int .u8 0,.int .u8 0,.int .u8 0,.int .u8 0,.int .u8 0,.int .u8 0,.int .u8 0,.int .u8 0,.int .u8 0,.int .u8 0,.int .u8 0,.int .u8 0,.int .u8 0,.int .u8 0,.int .u8 0,.int .u8 0,.int .u8 0,.int .u8 0,.int .u8 0,.int .u8 0,.int .u8 0,.int .u8 0,.int .u8 0,.int .u8 0,.int .u8 0,.int .u8 0,.int .u8 0,.int .u8 0,.int .u8 0,.int .u8 0,.int .u8 0,.int .u8 0,.int .u8 0,.int .u8 0,.int .u8 0,.int .u8 0,.int .u8 0,.int .u8 0,.int .u8 0,.int .u8 0,.int .u8 0,.int .u8 0,.int .u8 0,.int .u8 0,.int .u8 0,.int .u8 0,.int .u8 0,.int .u8 0,.int .u8 0,.int .u8 0,.int .u8 0,.int .u8 0,.int .u8 0,.int .u8 0,.int .u8 0,.int .u8 0,.int .u8 0,.int .u8 0,.int .u8 0,.int .u8 0,.int .u8 0,.int .u8 0,.int .u8 0,.int .u8 0,.int .u8 0,.int .u8 0,.int .u8 0,.int .u8 0,.int .u8 0,.int .u8 0,.int .u8 0,.int .u8 0,.int .u8 0,.int .u8 0,.int .u8 0,.int .u8 0,.int .u8 0,.int .u8 0,.int .u8 0,.int .u8 0,.int .u8 0,.int .u8 0,.int .u8 0,.int .u8 0,.int .u8 0,.int .u8 0,.int .u8 0,.int .u8 0,.int .u8 0,.int .u8 0,.int .u8 0,.int .u8 0,.int .u8 0,.int .u8 0,.int .u8 0,.int .u8 0,.int .u8 0,.int .u8 0,.int .u8 0,.int .u8 0,.int .u8 0,.int .u8 0,.int .u8 0,.int .u8 0,.int .u8 0,.int .u8 0,.int .u8 0,.int .u8 0,.int .u8 0,.int .u8 0,.int .u8 0,.int .u8 0,.int .u8 0,.int .u8 0,.int .u8 0,.int .u8 0,.int .u8 0,.int .u8 0,.int .u8 0,.int .u8 0,.int .u8 0,.int .u8 0,.int .u8 0,.int .u8 0,.int .u8 0,.int .u8 0,.int .u8 0,.int .u8 0,.int .u8 0,.int .u8 0,.int .u8 0,.int .u8 0,.int .u8 0,.int .u8 0,.int .u8 0,.int .u8 0,.int .u8 0,.int .u8 0,.int .u8 0,.int .u8 0,.int .u8 0,.int .u8 0,.int .u8 0,.int .u8 0,.int .u8 0,.int .u8 0,.int .u8 0,.int .u8 0,.int .u8 0,.int .u8 0,.int .u8 0,.int .u8 0,.int .u8 0,.int .u8 0,.int .u8 0,.int .u8 0,.int .u8 0,.int .u8 0,.int .u8 0,.int .u8 0,.int .u8 0,.int .u8 0,.int .u8 0,.int .u8 0,.int .u8 0,.int .u8 0,.int .u8 0,.int .u8 0,.int .u8 0,.int .u8 0,.int .u8 0,.int .u8 0,.int .u8 0,.int .u8 0,.int .u8 0,.int .u8 0,.int .u8 0,.int .u8 0,.int .u8 0,.int .u8 0,.int .u8 0,.int .u8 0,.int .u8 0,.int .u8 0,.int .u8 0,.int .u8 0,.int .u8 0,.int .u8 0,.int .u8 0,.int .u8 0,.int .u8 0,.int .u8 0,.int .u8 0,.int .u8 0,.int .u8 0,.int .u8 0,.int .u8 0,.int .u8 0,.int .u8 0,.int .u8 0,.int .u8 0,.int .u8 0,.int .u8 0,.int .u8 0,.int .u8 0,.int .u8 0,.int .u8 0,.int .u8 0,.int .u8 0,.int .u8 0,.int .u8 0,.int .u8 0,.int .u8 0,.int .u8 0,.int .u8 0,.int .u8 0,.int .u8 0,.int .u8 0,.int .u8 0,.int .u8 0,.int .u8 0,.int .u8 0,.int .u8 0,.int .u8 0,.int .u8 0,.int .u8 0,.int .u8 0,.int .u8 0,.int .u8 0,.int .u8 0,.int .u8 0,.int .u8 0,.int .u8 0,.int .u8 0,.int .u8 0,.int .u8 0,.int .u8 0,.int .u8 0,.int .u8 0,.int .u8 0,.int .u8 0,.int .u8 0,.int .u8 0,.int .u8 0,.int .u8 0,.int .u8 0,.int .u8 0,.int .u8 0,.int .u8 0,.int .u8 0,.int .u8 0,.int .u8 0,.int .u8 0,.int .u8 0,.int .u8 0,.int .u8 0,.int .u8 0,.int .u8 0,.int .u8 0,.int .u8 0,.int .u8 0,.int .u8 0,.int .u8 0,.int .u8 0,.int .u8 0,.int .u8 0,.int .u8 0,.int .u8 0,.int .u8 0,.int .u8 0,.int .u8 0,.int .u8 0,.int .u8 0,.int .u8 0,.int .u8 0,.int .u8 0,.int .u8 0,.int .u8 0,.int .u8 0,.int .u8 0,.int .u8 0,.int .u8 0,.int .u8 0,.int .u8 0,.int .u8 0,.int .u8 0,.int .u8 0,.int .u8 0,.int .u8 0,.int .u8 0,.int .u8 0,.int .u8 0,.int .u8 0,.int .u8 0,.int .u8 0,.int .u8 0,.int .u8 0,.int .u8 0,.int .u8 0,.int .u8 0,.int .u8 0,.int .u8 0,.int .u8 0,.int .u8 0,.int .u8 0,.int .u8 0,.int .u8 0,.int .u8 0,.int .u8 0,.int .u8 0,.int .u8 0,.int .u8 0,.int .u8 0,.int .u8 0,.int .u8 0,.int .u8 0,.int .u8 0,.int .u8 0,.int .u8 0,.int .u8 0,.int .u8 0,.int .u8 0,.int .u8 0,.int .u8 0,.int .u8 0,.int .u8 0,.int .u8 0,.int .u8 0,.int .u8 0,.int .u8 0,.int .u8 0,.int .u8 0,.int .u8 0,.int .u8 0,.int .u8 0,.int .u8 0,.int .u8 0,.int .u8 0,.int .u8 0,.int .u8 0,.int .u8 0,.int .u8 0,.int .u8 0,.int .u8 0,.int .u8 0,.int .u8 0,.int .u8 0,.int .u8 0,.int .u8 0,.int .u8 0,.int .u8 0,.int .u8 0,.int .u8 0,.int .u8 0,.int .u8 0,.int .u8 0,.int .u8 0,.int .u8 0,.int .u8 0,.int .u8 0,.int .u8 0,.int .u8 0,.int .u8 0,.int .u8 0,.int .u8 0,.int .u8 0,.int .u8 0,.int .u8 0,.int .u8 0,.int .u8 0,.int .u8 0,.int .u8 0,.int .u8 0,.int .u8 0,.int .u8 0,.int .u8 0,.int .u8 0,.int .u8 0,.int .u8 0,.int .u8 0,.int .u8 0,.int .u8 0,.int .u8 0,.int .u8 0,.int .u8 0,.int .u8 0,.int .u8 0,.int .u8 0,.int .u8 0,.int .u8 0,.int .u8 0,.int .u8 0,.int .u8 0,.int .u8 0,.int .u8 0,.int .u8 0,.int .u8 0,.int .u8 0,.int .u8 0,.int .u8 0,.int .u8 0,.int .u8 0,.int .u8 0,.int .u8 0,.int .u8 0,.int .u8 0,.int .u8 0,.int .u8 0,.int .u8 0,.int .u8 0,.int .u8 0,.int .u8 0,.int .u8 0,.int .u8 0,.int .u8 0,.int .u8 0,.int .u8 0,.int .u8 0,.int .u8 0,.int .u8 0,.int .u8 0,.int .u8 0,.int .u8 0,.int .u8 0,.int .u8 0,.int .u8 0,.int .u8 0,.int .u8 0,.int .u8 0,.int .u8 0,.int .u8 0,.int .u8 0,.int .u8 0,.int .u8 0,.int .u8 0,.int .u8 0,.int .u8 0,.int .u8 0,.int .u8 0,.int .u8 0,.int .u8 0,.int .u8 0,.int .u8 0,.int .u8 0,.int .u8 0,.int .u8 0,.int .u8 0,.int .u8 0,.int .u8 0,.int .u8 0,.int .u8 0,.int .u8 0,.int .u8 0,.int .u8 0,.int .u8 0,.int .u8 0,.int .u8 0,.int .u8 0,.int .u8 0,.int .u8 0,.int .u8 0,.int .u8 0,.int .u8 0,.int .u8 0,.int .u8 0,.int .u8 0,.int .u8 0,.int .u8 0,.int .u8 0,.int .u8 0,.int .u8 0,.int .u8 0,.int .u8 0,.int .u8 0,.int .u8 0,.int .u8 0,.int .u8 0,.int .u8 0,.int .u8 0]) 512 512 blocks blocks d fun e f=>new (Obj.cells #[.slice e.a e.len e.cap,.slice none 0 0,.int .i64 (-1),.bool false,.int .i64 0] 175) f fun g h=>K ((some ⟨g,0,none⟩,0)) h)
def qqC:List Ann:=[.n,.n,.j [(9,.one .bool)],.n,.n]
theorem qoe {blocks w K} (hF:qlr blocks K w):call Tryz.prog 57 [.int .i64 blocks] [.one .ptr,.one (.int .i64)] w K:=qad (an:=qqC) Tryz.func57 hF
def qc2 (d:Option Addr) (K:Int->World->Prop) (w:World):Prop:=nn d fun a=>ld .slice a w fun b=>K (↑b.len:Int) w
def qhv:List Ann:=[.n,.n]
theorem qfY {d w K} (hF:qc2 d K w):call Tryz.prog 97 [.pointer d] [.one (.int .i64)] w K:=qad (an:=qhv) Tryz.func97 hF
def qdL (d:Option Addr) (n:Int) (K:(Sl×Int)->World->Prop) (w:World):Prop:=new (Obj.cells #[.int .i64 n] 3) w fun b c=>new (Obj.cells #[.slice none 0 0] 23) c fun e f=>new (Obj.cells #[.int .i64 0] 33) f fun g h=>nn d fun i=>ld .bool ⟨i.block,i.off+3,none⟩ h fun (j:Bool)=>cond j (st ⟨e,0,none⟩ ([.slice none 0 0]) h fun k=>st ⟨g,0,none⟩ ([.int .i64 7]) k fun l=>ld .slice ⟨e,0,none⟩ l fun m=>ld (.int .i64) ⟨g,0,none⟩ l fun (o:Int)=>K ((m,o)) l) (join (Bool) (fun p=>ld (.int .i64) ⟨b,0,none⟩ (World.drew h) fun (q:Int)=>cond (decide (q<0)) (p true (World.drew h)) (ld (.int .i64) ⟨b,0,none⟩ (World.drew h) fun (r:Int)=>nn d fun s=>ld .slice s (World.drew h) fun t=>p (decide (r>=(↑t.len:Int))) (World.drew h))) fun (u:Bool) v=>cond u (st ⟨e,0,none⟩ ([.slice none 0 0]) v fun x=>st ⟨g,0,none⟩ ([.int .i64 4]) x fun y=>ld .slice ⟨e,0,none⟩ y fun z=>ld (.int .i64) ⟨g,0,none⟩ y fun (A:Int)=>K ((z,A)) y) (nn d fun B=>ld .slice ⟨B.block,B.off+1,none⟩ v fun C=>call Tryz.prog 156 ([.slice C.a C.len C.cap]) ([.one .any]) v fun (D:Value) E=>rng Tryz.prog D [.one (.int .i64),.raw] (fun (F:Int×List Value) (G:World->(World->Prop)->Prop) (H:World->Prop) I J=>newZ Tryz.prog 179 J fun L M=>chk (List.length F.snd=513)<|st ⟨L,0,none⟩ F.snd M fun N=>G N fun O=>ld (.int .i64) ⟨L,0,none⟩ O fun (P:Int)=>ld (.int .i64) ⟨b,0,none⟩ O fun (Q:Int)=>cond (P==Q) (slcP ⟨L,1,none⟩ 512 none none none 1 fun R=>call Tryz.prog 123 ([.slice R.a R.len R.cap]) ([.one .slice]) O fun S T=>st ⟨e,0,none⟩ ([.slice S.a S.len S.cap]) T fun U=>st ⟨g,0,none⟩ ([.int .i64 0]) U fun V=>I 0 V) (H O)) (fun W X=>nn d fun Y=>ld .slice Y (World.drew X) fun Z=>ld (.int .i64) ⟨b,0,none⟩ (World.drew X) fun (aa:Int)=>idx Z aa 512 fun ab=>slcP ab 512 none none none 1 fun ac=>call Tryz.prog 123 ([.slice ac.a ac.len ac.cap]) ([.one .slice]) (World.drew X) fun ad ae=>st ⟨e,0,none⟩ ([.slice ad.a ad.len ad.cap]) ae fun af=>st ⟨g,0,none⟩ ([.int .i64 0]) af fun ag=>undefer W ag fun ah=>ld .slice ⟨e,0,none⟩ ah fun ai=>ld (.int .i64) ⟨g,0,none⟩ ah fun (aj:Int)=>K ((ai,aj)) ah) [fun ak al=>undefer ak al fun am=>ld .slice ⟨e,0,none⟩ am fun an=>ld (.int .i64) ⟨g,0,none⟩ am fun (ao:Int)=>K ((an,ao)) am] E))
def qjJ:List Ann:=[.n,.n,.n,.n,.j [(13,.one .bool)],.o [[0,1,2,3,4,5,6,7,8,9,10,11]],.n,.n,.n,.r [.one (.int .i64),.raw],.n,.n,.n,.o [[0,1,2,3,4,5,6,7,8,9]]]
theorem qhD {d n w K} (hF:qdL d n K w):call Tryz.prog 125 [.pointer d,.int .i64 n] [.one .slice,.one (.int .i64)] w K:=qmF (an:=qjJ) Tryz.func125 hF
def qeU (d:Option Addr) (K:Bool->World->Prop) (w:World):Prop:=nn d fun a=>ld (.int .i64) ⟨a.block,a.off+2,none⟩ w fun (b:Int)=>cond (b==0) (nn d fun c=>st ⟨c.block,c.off+3,none⟩ ([.bool true]) w fun e=>K true e) (join (PUnit) (fun f=>nn d fun g=>ld (.int .i64) ⟨g.block,g.off+2,none⟩ w fun (h:Int)=>cond (decide (h>0)) (nn d fun i=>ld (.int .i64) ⟨i.block,i.off+2,none⟩ w fun (j:Int)=>nn d fun k=>st ⟨k.block,k.off+2,none⟩ ([.int .i64 (IntKind.wrap .i64 (j-1))]) w fun l=>f () l) (f () w)) fun (m:PUnit) n=>K false n)
def qle:List Ann:=[.n,.n,.n,.n,.n,.j [],.n,.n]
theorem qiP {d w K} (hF:qeU d K w):call Tryz.prog 131 [.pointer d] [.one .bool] w K:=qad (an:=qle) Tryz.func131 hF
def qdx (d:Option Addr) (n:Int) (b:Sl) (K:Int->World->Prop) (w:World):Prop:=nn d fun c=>ld .bool ⟨c.block,c.off+3,none⟩ w fun (e:Bool)=>cond e (K 7 w) (join (Bool) (fun f=>cond (decide (n<0)) (f true w) (nn d fun g=>ld .slice g w fun h=>f (decide (n>=(↑h.len:Int))) w)) fun (i:Bool) j=>cond i (K 4 j) (cond (!(↑b.len:Int)==512) (K 1 j) (nn d fun k=>ld .slice ⟨k.block,k.off+1,none⟩ (World.drew j) fun l=>s2a b 512 fun m=>ldV 512 m (World.drew j) fun o=>runQ [.raw] (fun p=>(Instr.build 179 (#[(0,.int .i64 n),(1,.agg (List.toArray o))])).run Tryz.prog p) (World.drew j) fun q=>chk (List.length q=513)<|new (Obj.cells (List.toArray q) 179) (World.drew j) fun r s=>held [fun t=>World.cell? t ⟨k.block,k.off+1,none⟩=some (.slice l.a l.len l.cap)] s<|run [.one .slice] ((Builtin.append_ (#[173,173]) 173 (#[.slice l.a l.len l.cap,.slice (some ⟨r,0,none⟩) 1 1])).run Tryz.prog s) fun u v=>nn d fun x=>st ⟨x.block,x.off+1,none⟩ ([.slice u.a u.len u.cap]) v fun y=>nn d fun z=>ld (.int .i64) ⟨z.block,z.off+4,none⟩ y fun (A:Int)=>nn d fun B=>st ⟨B.block,B.off+4,none⟩ ([.int .i64 (IntKind.wrap .i64 (A+1))]) y fun C=>call Tryz.prog 131 ([.pointer d]) ([.one .bool]) C fun (D:Bool) E=>cond D (K 7 E) (K 0 E))))
def qiS:List Ann:=[.n,.n,.n,.n,.j [(12,.one .bool)],.n,.n,.n,.n,.o [[0,1,2,3,4,5,6,7,8,9,10,11,12,13,14]],.n,.n,.n,.n,.n]
theorem qg2 {d n b w K} (hF:qdx d n b K w):call Tryz.prog 99 [.pointer d,.int .i64 n,.slice b.a b.len b.cap] [.one (.int .i64)] w K:=qad (an:=qiS) Tryz.func99 hF
def qd3 (d:Option Addr) (K:Int->World->Prop) (w:World):Prop:=join (Bool) (fun a=>nn d fun b=>ld .bool ⟨b.block,b.off+3,none⟩ w fun (c:Bool)=>cond c (a true w) (call Tryz.prog 131 ([.pointer d]) ([.one .bool]) w fun (e:Bool) f=>a e f)) fun (g:Bool) h=>cond g (K 7 h) (nn d fun i=>ld .slice ⟨i.block,i.off+1,none⟩ h fun j=>loop (Int) (fun k (l:Int) m=>cond (decide (l<(↑j.len:Int))) (idx j l 513 fun n=>ldV 513 n m fun o=>newZ Tryz.prog 179 m fun p q=>chk (List.length o=513)<|st ⟨p,0,none⟩ o q fun r=>nn d fun s=>ld .slice s (World.drew r) fun t=>ld (.int .i64) ⟨p,0,none⟩ (World.drew r) fun (u:Int)=>ldV 512 ⟨p,1,none⟩ (World.drew r) fun v=>idx t u 512 fun x=>chk (List.length v=512)<|st x v (World.drew r) fun y=>k (IntKind.wrap .i64 (l+1)) y) (nn d fun z=>st ⟨z.block,z.off+1,none⟩ ([.slice none 0 0]) m fun A=>K 0 A)) 0 h)
def qjY:List Ann:=[.n,.n,.j [(12,.one .bool)],.n,.n,.n,.l [(18,.one (.int .i64))],.n,.n,.n,.n,.o [[0,1,2,3,4,5,6,7,8,9]],.n,.n]
theorem qhN {d w K} (hF:qd3 d K w):call Tryz.prog 100 [.pointer d] [.one (.int .i64)] w K:=qad (an:=qjY) Tryz.func100 hF
def qdh (s:Sl) (K:Value->World->Prop) (w:World):Prop:=new (Obj.cells #[.slice s.a s.len s.cap] 173) w fun b c=>K (Value.func (Fn.func 202) #[] #[.pointer (some ⟨b,0,none⟩)]) c
def qjh:List Ann:=[.n,.n]
theorem qgH {s w K} (hF:qdh s K w):call Tryz.prog 156 [.slice s.a s.len s.cap] [.one .any] w K:=qad (an:=qjh) Tryz.func156 hF
def qcl (yield:Value) (cap0:Addr) (K:Unit->World->Prop) (w:World):Prop:=ld .slice cap0 w fun a=>loop (Int) (fun b (c:Int) d=>cond (decide (c>=0)) (ld .slice cap0 d fun e=>idx e c 513 fun f=>ldV 513 f d fun g=>callV Tryz.prog yield ([.int .i64 c,.agg (List.toArray g)]) ([.one .bool]) d fun (h:Bool) i=>cond (!h) (K () i) (b (IntKind.wrap .i64 (c-1)) i)) (K () d)) (IntKind.wrap .i64 ((↑a.len:Int)-1)) w
def qfV:List Ann:=[.n,.l [(3,.one (.int .i64))],.n,.n,.n,.n]
theorem qen {yield cap0 w K} (hF:qcl yield cap0 K w):call Tryz.prog 202 [yield,.pointer (some cap0)] [] w K:=qad (an:=qfV) Tryz.func202 hF
end Go.Proofs.YtmmkegapckbomaaGreatDoor
end
section
set_option linter.unusedVariables false
set_option linter.unusedSimpArgs false
namespace Go.Proofs.YtmmkegapckbomaaGreatDoor
open Go Go.Pt
attribute [local irreducible] ld ldA ldV fld fldA newZ st new idx idxS idxA slc slcS slcP mkS chk nn call callV inv run runQ runU join loop held ext rng undefer s2a nxt ent IntKind.wrap
abbrev Blk:={l:List Int // l.length=512}
def encK (b:Blk):List Value:=b.1.map (Value.int .u8)
theorem qaQ (b:Blk):(encK b).length=512:=by rw [encK,List.length_map,b.2]
def encW (x:Int×Blk):List Value:=Value.int .i64 x.1::encK x.2
theorem qbr (x:Int×Blk):(encW x).length=513:=by rw [encW,List.length_cons,qaQ]
def Blk.zero:Blk:=⟨zs 512,qaN 512⟩
structure DiskM where
 safe:List Blk
 waits:List (Int×Blk)
 fuse:Int
 down:Bool
 writes:Int
structure DiskM.Ok (D:DiskM):Prop where
 at_:∀ x∈D.waits,0<=x.1/\x.1<D.safe.length
 fuse:-1<=D.fuse/\D.fuse<=1000000000
 safe:D.safe.length<=4096
 waits:D.waits.length<=1000000
 writes:0<=D.writes/\D.writes<=1000000000
 bytesS:∀ b∈D.safe,IsB b.1
 bytesW:∀ x∈D.waits,IsB x.2.1
abbrev DT:TypeId:=175
def dCells (D:DiskM) (sb:Nat) (wsl:Sl):Array Value:=#[.slice (some ⟨sb,0,none⟩) D.safe.length D.safe.length,.slice wsl.a wsl.len wsl.cap,.int .i64 D.fuse,.bool D.down,.int .i64 D.writes]
def DiskAt (w:World) (db:Nat) (F:List Nat) (D:DiskM):Prop:=
 ∃ (sb:Nat) (T:TypeId) (wsl:Sl) (B:List Nat),F=db::sb::B/\(db::sb::B).Nodup/\w.heap[db]?=some (.cells (dCells D sb wsl) DT (0,0))/\w.heap[sb]?=some (.cells (D.safe.flatMap encK).toArray T (0,0))/\Buf encW 513 w wsl D.waits B
theorem DiskAt.frame {w w':World} {db:Nat} {F S:List Nat} {D:DiskM} (h:DiskAt w db F D) (f:Fr S w w') (hd:∀ b∈F,b∉S):DiskAt w' db F D:=by
 obtain ⟨sb,T,wsl,B,rfl,hn,h1,h2,h3⟩:=h
 exact ⟨sb,T,wsl,B,rfl,hn,by rw [f.block db (qac h1) (hd _ (by simp))]; exact h1,by rw [f.block sb (qac h2) (hd _ (by simp))]; exact h2,h3.frame f (fun b hb=>hd b (by simp [hb]))⟩
theorem DiskAt.frame0 {w w':World} {db:Nat} {F:List Nat} {D:DiskM} (h:DiskAt w db F D) (f:Fr [] w w'):DiskAt w' db F D:=h.frame f (fun _ _ h=>by cases h)
theorem DiskAt.lt {w:World} {db:Nat} {F:List Nat} {D:DiskM} (h:DiskAt w db F D):∀ b∈F,b<w.heap.size:=by
 obtain ⟨sb,T,wsl,B,rfl,hn,h1,h2,h3⟩:=h
 intro b hb
 simp only [List.mem_cons] at hb
 rcases hb with rfl | rfl | hb
 ·exact qac h1
 ·exact qac h2
 ·exact h3.lt b hb
theorem DiskAt.cell {w:World} {db:Nat} {F:List Nat} {D:DiskM} (h:DiskAt w db F D):∃ sb wsl,w.heap[db]?=some (.cells (dCells D sb wsl) DT (0,0)):=by
 obtain ⟨sb,T,wsl,B,rfl,hn,h1,h2,h3⟩:=h
 exact ⟨sb,wsl,h1⟩
theorem DiskAt.mem {w:World} {db:Nat} {F:List Nat} {D:DiskM} (h:DiskAt w db F D):db∈F:=by
 obtain ⟨sb,T,wsl,B,rfl,_⟩:=h
 simp
def dCellsC (D:DiskM) (sb c:Nat) (wsl:Sl):Array Value:=#[.slice (some ⟨sb,0,none⟩) D.safe.length c,.slice wsl.a wsl.len wsl.cap,.int .i64 D.fuse,.bool D.down,.int .i64 D.writes]
def DiskZ (w:World) (db:Nat) (F:List Nat) (D:DiskM) (c:Nat) (Z:List Value):Prop:=
 ∃ (sb:Nat) (T:TypeId) (wsl:Sl) (B:List Nat),F=db::sb::B/\(db::sb::B).Nodup/\w.heap[db]?=some (.cells (dCellsC D sb c wsl) DT (0,0))/\w.heap[sb]?=some (.cells (D.safe.flatMap encK++Z).toArray T (0,0))/\Buf encW 513 w wsl D.waits B
theorem DiskAt.z {w:World} {db:Nat} {F:List Nat} {D:DiskM} (h:DiskAt w db F D):DiskZ w db F D D.safe.length []:=by
 obtain ⟨sb,T,wsl,B,rfl,hn,h1,h2,h3⟩:=h
 exact ⟨sb,T,wsl,B,rfl,hn,h1,by rw [List.append_nil]; exact h2,h3⟩
theorem DiskAt.turn {w w':World} {db:Nat} {F:List Nat} {D D':DiskM} {sb:Nat} {wsl:Sl} (h:DiskAt w db F D) (hc:w.heap[db]?=some (.cells (dCells D sb wsl) DT (0,0))) (f:Fr [db] w w') (hs:D'.safe=D.safe) (hw:D'.waits=D.waits) (hc':w'.heap[db]?=some (.cells (dCells D' sb wsl) DT (0,0))):DiskAt w' db F D':=by
 obtain ⟨sb',T,wsl',B,rfl,hn,h1,h2,h3⟩:=h
 have he:sb'=sb/\wsl'=wsl:=by
  have q:=h1.symm.trans hc
  have q0:=congrArg (fun o=>match o with | some (Obj.cells cs _ _)=>(match cs[0]? with | some (Value.slice (some a) _ _)=>a.block | _=>0) | _=>0) q
  have q1:=congrArg (fun o=>match o with | some (Obj.cells cs _ _)=>cs[1]? | _=>none) q
  refine ⟨q0,?_⟩
  have q2:Value.slice wsl'.a wsl'.len wsl'.cap=Value.slice wsl.a wsl.len wsl.cap:=Option.some.inj q1
  cases wsl
  cases wsl'
  simp only [Value.slice.injEq] at q2
  obtain ⟨rfl,rfl,rfl⟩:=q2
  rfl
 obtain ⟨rfl,rfl⟩:=he
 have hsb:sb'≠db:=fun e=>by rw [e] at hn; simp at hn
 have hB:∀ b∈B,b∉[db]:=fun b hb he=>by simp at he; subst he; simp at hn; exact hn.1.2 hb
 exact ⟨sb',T,wsl',B,rfl,hn,hc',by rw [hs,f.block sb' (qac h2) (by simpa using hsb)]; exact h2,by rw [hw]; exact h3.frame f hB⟩
theorem qgG {w:World} {db:Nat} {F:List Nat} {D:DiskM} {K:Int->World->Prop} (h:DiskAt w db F D) (hk:K D.safe.length w):call Tryz.prog 97 [.pointer (some ⟨db,0,none⟩)] [.one (.int .i64)] w K:=by
 refine qfY (d:=some ⟨db,0,none⟩) ?_
 unfold qc2
 obtain ⟨sb,wsl,hc⟩:=h.cell
 refine qae (qaq (c:=.slice) hc ⟨some ⟨sb,0,none⟩,D.safe.length,D.safe.length⟩ rfl ?_)
 exact hk
def newM (blocks:Nat):DiskM:=⟨List.replicate blocks .zero,[],-1,false,0⟩
theorem qtM {n:Nat} (h:n<=4096):(newM n).Ok:=
 ⟨fun _ h=>(by cases h),⟨by show (-1:Int)<=-1; decide,by show (-1:Int)<=1000000000; decide⟩,by rw [newM]; simpa using h,by simp [newM],by simp [newM],fun b hb=>by rw [List.eq_of_mem_replicate hb]; exact IsB.zs 512,fun _ h=>(by cases h)⟩
theorem qn0 (n:Nat) (b:Blk):(List.replicate n (encK b)).flatten=(List.replicate n b).flatMap encK:=by
 rw [List.flatMap_def,List.map_replicate]
set_option maxRecDepth 100000 in
theorem qtQ {w:World} {blocks:Int} {K:Option Addr×Int->World->Prop} (hbad:(blocks<8\/blocks>4096)->K (none,1) w)
  (hk:8<=blocks->blocks<=4096->∀ db F w',DiskAt w' db F (newM blocks.toNat)->Fr [] w w'->(∀ b∈F,w.heap.size<=b)->K (some ⟨db,0,none⟩,0) w') :
  call Tryz.prog 57 [.int .i64 blocks] [.one .ptr,.one (.int .i64)] w K:=by
 refine qoe ?_
 unfold qlr
 refine qag (fun b w'=>b=decide (blocks<8\/blocks>4096)/\w'=w) ?_ ?_
 ·refine qab (fun hc=>?_) (fun hc=>?_)
  ·exact ⟨by rw [decide_eq_true (Or.inl (of_decide_eq_true hc))],rfl⟩
  ·have:=of_decide_eq_false hc
   exact ⟨by simp [this],rfl⟩
 rintro b w1 ⟨rfl,rfl⟩
 refine qab (fun hc=>hbad (of_decide_eq_true hc)) (fun hc=>?_)
 have hr:=of_decide_eq_false hc
 have h8:8<=blocks:=by omega
 have h4:blocks<=4096:=by omega
 obtain ⟨n,rfl⟩:∃ n:Nat,blocks=n:=⟨blocks.toNat,by omega⟩
 refine Own.mkN (zero:=encK Blk.zero) (Own.start [] w1) (qaQ _) (by omega) (by omega) (by omega) (by omega) fun sb w2 e2 ho=>?_
 refine Own.new ho fun db w3 e3 s3 ho=>?_
 have hlit:(List.replicate (n:Int).toNat (encK Blk.zero)).flatten=((newM n).safe).flatMap encK:=by rw [Int.toNat_natCast]; exact qn0 n _
 refine hk h8 h4 db [db,sb] w3 ⟨sb,177,⟨none,0,0⟩,[],rfl,?_,?_,?_,.nil _ _ _⟩ ho.fr (fun b hb=>?_)
 ·have:=ho.nodup; simpa using this
 ·have:=ho.at (i:=0) rfl
  rw [this]
  simp [dCells,newM]
 ·have:=ho.at (i:=1) rfl
  rw [this,Int.toNat_natCast,<- hlit,Int.toNat_natCast]
 ·simp at hb
  have:=ho.own
  rcases hb with rfl | rfl
  ·have:=ho.own (b,_) (List.mem_of_getElem? (i:=0) rfl)
   simpa using this
  ·have:=ho.own (b,_) (List.mem_of_getElem? (i:=1) rfl)
   simpa using this
def actM (D:DiskM):DiskM×Bool:=if D.fuse=0 then ({ D with down:=true },true) else if D.fuse>0 then ({ D with fuse:=D.fuse-1 },false) else (D,false)
theorem qqS {w:World} {db:Nat} {F:List Nat} {D:DiskM} {K:Bool->World->Prop} (h:DiskAt w db F D) (hD:D.fuse<=1000000000) (hk:∀ w',DiskAt w' db F (actM D).1->Fr [db] w w'->K (actM D).2 w') :
  call Tryz.prog 131 [.pointer (some ⟨db,0,none⟩)] [.one .bool] w K:=by
 refine qiP (d:=some ⟨db,0,none⟩) ?_
 unfold qeU
 obtain ⟨sb,wsl,hc⟩:=h.cell
 have ho:Own [db] w w [(db,.cells (dCells D sb wsl) DT (0,0))]:=⟨by simpa using hc,by simp,.refl _ _,by simp⟩
 refine qae (Own.ld (c:=.int .i64) ho 0 rfl D.fuse rfl ?_)
 refine qab (fun hz=>?_) (fun hz=>?_)
 ·have hz':D.fuse=0:=by simpa using hz
  refine qae ?_
  refine Own.st ho 0 rfl _ rfl rfl rfl fun w1 ho _=>?_
  have:=hk w1 (by rw [actM,if_pos hz']; exact h.turn hc ho.fr rfl rfl (ho.at (i:=0) rfl)) ho.fr
  rw [actM,if_pos hz'] at this
  exact this
 ·have hz':¬ D.fuse=0:=by simpa using hz
  refine qag (fun _ w'=>DiskAt w' db F (actM D).1/\Fr [db] w w') ?_ ?_
  ·refine qae (Own.ld (c:=.int .i64) ho 0 rfl D.fuse rfl ?_)
   refine qab (fun hp=>?_) (fun hp=>?_)
   ·have hp':D.fuse>0:=of_decide_eq_true hp
    refine qae (Own.ld (c:=.int .i64) ho 0 rfl D.fuse rfl ?_)
    refine qae ?_
    rw [wi' _ (by omega)]
    refine Own.st ho 0 rfl _ rfl rfl rfl fun w1 ho _=>?_
    refine ⟨?_,ho.fr⟩
    rw [actM,if_neg hz',if_pos hp']
    exact h.turn hc ho.fr rfl rfl (ho.at (i:=0) rfl)
   ·have hp':¬ D.fuse>0:=of_decide_eq_false hp
    refine ⟨?_,.refl _ _⟩
    rw [actM,if_neg hz',if_neg hp']
    exact h
  ·rintro _ w1 ⟨h1,h2⟩
   have:=hk w1 h1 h2
   have e:(actM D).2=false:=by rw [actM,if_neg hz']; split <;> rfl
   rw [e] at this
   exact this
theorem qs8:∃ i,Tryz.prog.info? 179=some i/\(∃ z,i.zero=some z/\z.cells.size=513)/\i.size=513/\i.bytes=520:=by
 have h:(Tryz.prog.info? 179).map (fun i=>(i.zero.map (fun z=>z.cells.size),i.size,i.bytes))=some (some 513,513,520):=by kernel_rfl
 obtain ⟨i,hi,he⟩:=Option.map_eq_some_iff.1 h
 simp only [Prod.mk.injEq] at he
 obtain ⟨z,hz,hzs⟩:=Option.map_eq_some_iff.1 he.1
 exact ⟨i,hi,⟨z,hz,hzs⟩,he.2.1,he.2.2⟩
def addW (D:DiskM) (n:Int) (b:Blk):DiskM:={ D with waits:=D.waits++[(n,b)],writes:=D.writes+1 }
def writeM (D:DiskM) (n:Int) (l:List Int):DiskM×Int:=
 if D.down then (D,7) else if n<0\/n>=D.safe.length then (D,4) else
 if h:l.length=512 then ((actM (addW D n ⟨l,h⟩)).1,if (actM (addW D n ⟨l,h⟩)).2 then 7 else 0) else (D,1)
theorem qou (n:Int) (b:Blk) (w:World):(Instr.build 179 #[(0,.int .i64 n),(1,.agg (encK b).toArray)]).run Tryz.prog w=.ok (.agg (encW (n,b)).toArray) w:=by
 obtain ⟨z,hz,hzs⟩:∃ z,(Tryz.prog.info? 179).bind (·.zero)=some z/\z.cells.size=513:=by
  obtain ⟨i,hi,⟨z,hz,hzs⟩,_⟩:=qs8
  exact ⟨z,by rw [hi]; exact hz,hzs⟩
 have:=qpM (P:=Tryz.prog) (a:=.int .i64 n) (b:=.agg (encK b).toArray) (o1:=1) (s0:=1) (s1:=512) hz (by kernel_rfl) (fun w=>by kernel_rfl) rfl (by show (encK b).toArray.size=512; rw [List.size_toArray,qaQ]) rfl hzs w
 exact this
theorem qhO (l:List Int):((l.map (Value.int .u8)).all Value.oneCell')=true:=by
 rw [List.all_eq_true]
 intro v hv
 obtain ⟨x,_,rfl⟩:=List.mem_map.1 hv
 rfl
theorem qmD (b:Blk):((encK b).all Value.oneCell')=true:=qhO _
theorem qiz (x:Int×Blk):((encW x).all Value.oneCell')=true:=by
 rw [encW,List.all_cons,qmD]; rfl
theorem qrZ {S:List Nat} {w:World} {s:Sl} {l:List Int} (h:RdB S w s l) (hl:l≠[]):∃ b o cs T fr,s.a=some ⟨b,o,none⟩/\w.heap[b]?=some (.cells cs T fr)/\b∉S/\(cs.toList.drop o).take l.length=l.map (Value.int .u8):=by
 rcases h.2.2 with h3 | ⟨b,o,cs,T,fr,ha,hb,hS,hc⟩
 ·exact absurd h3 hl
 ·refine ⟨b,o,cs,T,fr,ha,hb,hS,?_⟩
  apply List.ext_getElem?
  intro i
  rw [List.getElem?_take,List.getElem?_map]
  by_cases hi:i<l.length
  ·rw [if_pos hi,List.getElem?_drop,List.getElem?_eq_getElem hi]
   have:=hc i l[i] (List.getElem?_eq_getElem hi)
   rw [Nat.mul_one] at this
   have:=congrArg (·[0]?) this
   simpa using this
  ·rw [if_neg hi,List.getElem?_eq_none (by omega)]
   rfl
theorem qlg {S:List Nat} {w:World} {db:Nat} {F:List Nat} {D:DiskM} {n:Int} {s:Sl} {l:List Int} {K:Int->World->Prop} (h:DiskAt w db F D) (hD:D.Ok) (hs:RdB S w s l)
  (hk:∀ F' w',DiskAt w' db F' (writeM D n l).1->Fr F w w'->(∀ b∈F',b∈F\/w.heap.size<=b)->K (writeM D n l).2 w') :
  call Tryz.prog 99 [.pointer (some ⟨db,0,none⟩),.int .i64 n,.slice s.a s.len s.cap] [.one (.int .i64)] w K:=by
 refine qg2 (d:=some ⟨db,0,none⟩) (b:=s) ?_
 unfold qdx
 have hlen:=hs.1
 have hdb:=h.mem
 obtain ⟨sb,T,wsl,B,hF,hn,hc,hsb,hbuf⟩:=h
 have h:DiskAt w db F D:=⟨sb,T,wsl,B,hF,hn,hc,hsb,hbuf⟩
 have ho:Own F w w [(db,.cells (dCells D sb wsl) DT (0,0))]:=⟨by simpa using hc,by simp,.refl _ _,by simp [hdb]⟩
 refine qae (Own.ld (c:=.bool) ho 0 rfl D.down rfl ?_)
 have same:∀ {e:Int},writeM D n l=(D,e)->∀ {w'},w'=w->K e w':=by
  rintro e he w' rfl
  have:=hk F w' (by rw [he]; exact h) (.refl _ _) (fun b hb=>.inl hb)
  rw [he] at this
  exact this
 refine qab (fun hd=>same (by rw [writeM,if_pos hd]) rfl) (fun hd=>?_)
 refine qag (fun b w'=>b=decide (n<0\/n>=D.safe.length)/\w'=w) ?_ ?_
 ·refine qab (fun hc=>?_) (fun hc=>?_)
  ·exact ⟨by rw [decide_eq_true (Or.inl (of_decide_eq_true hc))],rfl⟩
  ·refine qae (Own.ld (c:=.slice) ho 0 rfl ⟨some ⟨sb,0,none⟩,D.safe.length,D.safe.length⟩ rfl ⟨?_,rfl⟩)
   have:=of_decide_eq_false hc
   by_cases h2:n>=D.safe.length <;> simp [this,h2]
 rintro b w1 ⟨rfl,rfl⟩
 refine qab (fun hr=>same (by rw [writeM,if_neg (by simpa using hd),if_pos (of_decide_eq_true hr)]) rfl) (fun hr=>?_)
 have hr':=of_decide_eq_false hr
 refine qab (fun hq=>same ?_ rfl) (fun hq=>?_)
 ·have:¬ l.length=512:=by simp at hq; omega
  rw [writeM,if_neg (by simpa using hd),if_neg hr',dif_neg this]
 have h512:l.length=512:=by simp at hq; omega
 obtain ⟨blk,hblk⟩:∃ blk:Blk,blk.1=l:=⟨⟨l,h512⟩,rfl⟩
 have hw:writeM D n l=((actM (addW D n blk)).1,if (actM (addW D n blk)).2 then 7 else 0):=by
  rw [writeM,if_neg (by simpa using hd),if_neg hr',dif_pos h512]
  have:blk=⟨l,h512⟩:=Subtype.ext hblk
  rw [this]
 rw [hw] at hk
 have hd1:=ho.drew
 refine qae (Own.ld (c:=.slice) hd1 0 rfl wsl rfl ?_)
 obtain ⟨sbk,so,scs,sT,sfr,hsa,hsbk,hsS,hscs⟩:=qrZ hs (by rw [<- List.length_pos_iff]; omega)
 obtain ⟨sa,slen,scap⟩:=s
 simp only at hsa hlen
 subst hsa
 refine qua (by omega) ?_
 refine qbT (n:=512) (w:=w1.drew) hsbk (encK blk) (qaQ _) (by rw [<- h512,hscs,encK,hblk]) ?_
 refine qbl (ts:=[.raw]) (encW (n,blk)) (qou n blk _) ?_
 refine qaX (qbr _) ?_
 refine Own.new' hd1 fun r w2 er fr2 ho2=>?_
 refine qah (ho2.cell (off:=1) 1 rfl rfl) ?_
 obtain ⟨iW,hi,⟨z,hz,hzs⟩,hsz,hby⟩:=qs8
 have hwl:=hD.waits
 have hwr:=hD.writes
 have hfz:=hD.fuse
 have fr2':Fr [] w1 w2:=(Fr.refl [] w1).drew.trans fr2
 have hbuf2:Buf encW 513 w2 wsl D.waits B:=hbuf.frame0 fr2'
 have hsb2:w2.heap[sb]?=some (.cells (D.safe.flatMap encK).toArray T (0,0)):=by rw [fr2'.block sb (qac hsb) (by simp)]; exact hsb
 have hBF:∀ b∈B,b∈F:=fun b hb=>by rw [hF]; simp [hb]
 have hdbB:∀ b∈B,b≠db:=fun b hb e=>by subst e; simp at hn; exact hn.1.2 hb
 have hsbB:∀ b∈B,b≠sb:=fun b hb e=>by subst e; simp at hn; exact hn.2.1 hb
 have hrB:∀ b∈B,b≠r:=fun b hb e=>by have:=hbuf.lt b hb; have e1:w1.drew.heap.size=w1.heap.size:=rfl; omega
 refine Buf.appSrc (ys:=[(n,blk)]) (e:=179) hbuf2 qbr (by kernel_rfl) hi hz hsz hzs (.ofSlice _ (e':=179) (by kernel_rfl) _ 1 1 _ ?_ ?_ ?_) rfl (by rw [hby]; omega) (by omega) fun s' B' w3 g1 g2 g3 _=>?_
 ·simp [qbr]
 ·intro j u hj
  rw [Addr.add_mk,qai (ho2.at (i:=0) rfl),Nat.zero_add]
  have:(encW (n,blk))[j]?=some u:=by simpa using hj
  simpa using this
 ·intro u hu
  have:u∈encW (n,blk):=by simpa using hu
  exact List.all_eq_true.1 (qiz (n,blk)) u this
 have ho3:Own F w1 w3 [(r,.cells (encW (n,blk)).toArray 179 (0,0)),(db,.cells (dCells D sb wsl) DT (0,0))]:=
  ho2.frame g2 (fun b hb=>.inl (hBF b hb)) (fun p hp=>by simp at hp; rcases hp with rfl | rfl; exact fun hb=>hrB _ hb rfl; exact fun hb=>hdbB _ hb rfl)
 have hsb3:w3.heap[sb]?=some (.cells (D.safe.flatMap encK).toArray T (0,0)):=by rw [g2.block sb (qac hsb2) (fun hb=>hsbB _ hb rfl)]; exact hsb2
 have hc3:=ho3.at (i:=1) rfl
 refine qae ?_
 refine qhm hc3 (dCells { D with waits:=D.waits++[(n,blk)] } sb s') rfl rfl (Nat.le_of_ble_eq_true rfl) fun w4 hc4 f4=>?_
 refine qae (qaq (c:=.int .i64) hc4 D.writes rfl ?_)
 refine qae ?_
 rw [wi' (D.writes+1) (by omega)]
 refine qhm hc4 (dCells (addW D n blk) sb s') rfl rfl (Nat.le_of_ble_eq_true rfl) fun w5 hc5 f5=>?_
 have hs2:=fr2'.size
 have hs3:=g2.size
 have hne:sb≠db:=fun e=>by rw [e] at hn; simp at hn
 have f35:Fr [db] w3 w5:=f4.trans f5
 have hB'db:∀ b∈B',b≠db:=fun b hb e=>by
  rcases g3 b hb with h' | h'
  ·exact hdbB b h' e
  ·have:=qac hc; omega
 have hB'sb:∀ b∈B',b≠sb:=fun b hb e=>by
  rcases g3 b hb with h' | h'
  ·exact hsbB b h' e
  ·have:=qac hsb; omega
 have hB'n:B'.Nodup:=by
  rcases g1 with ⟨_,_,rfl⟩ | ⟨b',o',cs',T',rfl,_⟩
  ·simp
  ·simp
 have h5:DiskAt w5 db (db::sb::B') (addW D n blk):=by
  refine ⟨sb,T,s',B',rfl,?_,hc5,?_,?_⟩
  ·simp only [List.nodup_cons,List.mem_cons,not_or]
   exact ⟨⟨fun e=>hne e.symm,fun hb=>hB'db _ hb rfl⟩,fun hb=>hB'sb _ hb rfl,hB'n⟩
  ·rw [f35.block sb (qac hsb3) (by simpa using hne)]
   exact hsb3
  ·exact g1.frame f35 (fun b hb=>by simpa using hB'db b hb)
 have hF':∀ b∈db::sb::B',b∈F\/w1.heap.size<=b:=fun b hb=>by
  simp only [List.mem_cons] at hb
  rcases hb with rfl | rfl | hb
  ·exact .inl hdb
  ·exact .inl (by rw [hF]; simp)
  ·rcases g3 b hb with h' | h'
   ·exact .inl (hBF b h')
   ·exact .inr (by omega)
 have f15:Fr F w1 w5:=((fr2'.mono (fun i hi _=>by cases hi)).trans' g2 (fun b hb=>.inl (hBF b hb))).trans' f35 (fun b hb=>by simp at hb; subst hb; exact .inl hdb)
 refine qqS h5 (by show D.fuse<=_; omega) fun w6 h6 f6=>?_
 have:=hk (db::sb::B') w6 h6 (f15.trans' f6 (fun b hb=>by simp at hb; subst hb; exact .inl hdb)) hF'
 refine qab (fun ha=>?_) (fun ha=>?_)
 ·rw [ha] at this; exact this
 ·rw [ha] at this; exact this
def laySafe (s:List Blk) (x:Int×Blk):List Blk:=s.set x.1.toNat x.2
theorem qbK (l:List (Int×Blk)):∀ s:List Blk,(l.foldl laySafe s).length=s.length:=by
 induction l with
 | nil=>intro s; rfl
 | cons x l ih=>intro s; rw [List.foldl_cons,ih,laySafe,List.length_set]
def syncM (D:DiskM):DiskM×Int:=
 if D.down then (D,7) else if (actM D).2 then ((actM D).1,7) else ({ (actM D).1 with safe:=D.waits.foldl laySafe D.safe,waits:=[] },0)
theorem qcJ (D:DiskM):(actM D).1.safe=D.safe/\(actM D).1.waits=D.waits:=by
 unfold actM
 split
 ·exact ⟨rfl,rfl⟩
 ·split <;> exact ⟨rfl,rfl⟩
theorem qnr {w:World} {db:Nat} {F:List Nat} {D:DiskM} {K:Int->World->Prop} (h:DiskAt w db F D) (hD:D.Ok)
  (hk:∀ F' w',DiskAt w' db F' (syncM D).1->Fr F w w'->(∀ b∈F',b∈F)->K (syncM D).2 w') :
  call Tryz.prog 100 [.pointer (some ⟨db,0,none⟩)] [.one (.int .i64)] w K:=by
 refine qhN (d:=some ⟨db,0,none⟩) ?_
 unfold qd3
 have hdb:=h.mem
 have hfz:=hD.fuse
 refine qag (fun b w'=>(D.down=true/\b=true/\w'=w)\/(D.down=false/\b=(actM D).2/\DiskAt w' db F (actM D).1/\Fr [db] w w')) ?_ ?_
 ·obtain ⟨sb,wsl,hc⟩:=h.cell
  refine qae (qaq (c:=.bool) hc D.down rfl ?_)
  refine qab (fun hd=>.inl ⟨hd,rfl,rfl⟩) (fun hd=>?_)
  exact qqS h (by omega) fun w1 h1 f1=>.inr ⟨hd,rfl,h1,f1⟩
 rintro b w1 (⟨hd,rfl,rfl⟩ | ⟨hd,rfl,h1,f1⟩)
 ·refine cond_true rfl ?_
  have:=hk F w1 (by rw [syncM,if_pos hd]; exact h) (.refl _ _) (fun b hb=>hb)
  rw [syncM,if_pos hd] at this
  exact this
 have fF:Fr F w w1:=f1.mono (fun i hi _=>by simp at hi; subst hi; exact hdb)
 refine qab (fun ha=>?_) (fun ha=>?_)
 ·have:=hk F w1 (by rw [syncM,if_neg (by simp [hd]),if_pos ha]; exact h1) fF (fun b hb=>hb)
  rw [syncM,if_neg (by simp [hd]),if_pos ha] at this
  exact this
 have hsm:syncM D=({ (actM D).1 with safe:=D.waits.foldl laySafe D.safe,waits:=[] },0):=by rw [syncM,if_neg (by simp [hd]),if_neg (by simp [ha])]
 rw [hsm] at hk
 obtain ⟨hss,hww⟩:=qcJ D
 generalize (actM D).1=D1 at h1 hss hww hk
 obtain ⟨sb,T,wsl,B,hF,hn,hc,hsb,hbuf⟩:=h1
 rw [hss] at hsb
 rw [hww] at hbuf
 have hne:sb≠db:=fun e=>by rw [e] at hn; simp at hn
 have hB:∀ b∈B,b∉[sb]:=fun b hb he=>by simp at he; subst he; simp at hn; exact hn.2.1 hb
 have hwl:=hbuf.len
 have hwmax:=hD.waits
 have hsmax:=hD.safe
 refine qae (qaq (c:=.slice) hc wsl rfl ?_)
 refine qak (fun x w'=>∃ i:Nat,x=i/\i<=D.waits.length/\w'.heap[sb]?=some (.cells (((D.waits.take i).foldl laySafe D.safe).flatMap encK).toArray T (0,0))/\Fr [sb] w1 w') (fun x _=>((D.waits.length:Int)-x).toNat)
  ⟨0,rfl,by omega,hsb,.refl _ _⟩ ?_
 rintro x w2 ⟨i,rfl,hi,hs2,f2⟩ X hX
 have hc2:w2.heap[db]?=some (.cells (dCells D1 sb wsl) DT (0,0)):=by rw [f2.block db (qac hc) (by simpa using fun e=>hne e.symm)]; exact hc
 refine qab (fun hcnd=>?_) (fun hcnd=>?_)
 ·have hil:i<D.waits.length:=by have:=of_decide_eq_true hcnd; omega
  have hr2:Rds encW 513 [] w2 wsl D.waits:=(hbuf.frame f2 hB).rds qbr (by simp)
  have hget:=List.getElem?_eq_getElem hil
  have hat:=hD.at_ D.waits[i] (List.getElem_mem hil)
  refine hr2.getV qbr i rfl hget ?_
  refine Own.newFill (Own.start [] w2) (by kernel_rfl) (qbr _) (qiz _) fun r w3 er ho=>?_
  have hs3:w3.heap[sb]?=some (.cells (((D.waits.take i).foldl laySafe D.safe).flatMap encK).toArray T (0,0)):=by rw [ho.fr.block sb (qac hs2) (by simp)]; exact hs2
  have hc3:w3.heap[db]?=some (.cells (dCells D1 sb wsl) DT (0,0)):=by rw [ho.fr.block db (qac hc2) (by simp)]; exact hc2
  refine qae (qaq (c:=.slice) (w:=w3.drew) hc3 ⟨some ⟨sb,0,none⟩,D1.safe.length,D1.safe.length⟩ rfl ?_)
  have hr3:=ho.at (i:=0) rfl
  refine qaq (c:=.int .i64) (w:=w3.drew) hr3 D.waits[i].1 rfl ?_
  refine qbT (n:=512) (w:=w3.drew) hr3 (encK D.waits[i].2) (qaQ _) (by rw [show (encW D.waits[i]).toArray.toList.drop 1=encK D.waits[i].2 from rfl,List.take_of_length_le (by rw [qaQ]; exact Nat.le_refl _)]) ?_
  have hlenF:=qbK (D.waits.take i) D.safe
  refine qcq (by omega) (by rw [hss]; omega) ?_
  refine qaX (qaQ _) ?_
  have hbound:0+Int.toNat D.waits[i].1*512+(encK D.waits[i].2).length<=(((D.waits.take i).foldl laySafe D.safe).flatMap encK).toArray.size:=by
   rw [List.size_toArray,qbw qaQ,qaQ,hlenF]
   omega
  refine qhm (w:=w3.drew) hs3 (((((D.waits.take i).foldl laySafe D.safe).set D.waits[i].1.toNat D.waits[i].2).flatMap encK).toArray) (by rw [Nat.zero_add]; exact qoA qaQ ((D.waits.take i).foldl laySafe D.safe) D.waits[i].1.toNat D.waits[i].2 (by rw [hlenF]; omega)) (qmD _) hbound fun w4 hs4 f4=>?_
  rw [wi' _ (by omega)]
  refine hX _ _ ⟨i+1,by simp,by omega,?_,?_⟩ (by omega)
  ·rw [List.take_succ_eq_append_getElem hil,List.foldl_append]
   exact hs4
  ·have f23:Fr [sb] w2 w3.drew:=ho.fr.drew.mono (fun i hi _=>by cases hi)
   exact f2.trans (f23.trans f4)
 ·have hil:i=D.waits.length:=by have:=of_decide_eq_false hcnd; omega
  subst hil
  rw [List.take_length] at hs2
  refine qae ?_
  have hlenF:=qbK D.waits D.safe
  refine qhm hc2 (dCells { D1 with safe:=D.waits.foldl laySafe D.safe,waits:=[] } sb ⟨none,0,0⟩) (by simp [splice,dCells,hlenF,hss]) rfl (Nat.le_of_ble_eq_true rfl) fun w3 hc3 f3=>?_
  have f13:Fr F w w3:=(fF.trans (f2.mono (fun i hi _=>by simp at hi; subst hi; rw [hF]; simp))).trans (f3.mono (fun i hi _=>by simp at hi; subst hi; exact hdb))
  refine hk [db,sb] w3 ⟨sb,T,⟨none,0,0⟩,[],rfl,by simpa using fun e=>hne e.symm,hc3,?_,.nil _ _ _⟩ f13 (fun b hb=>by rw [hF]; simp at hb; rcases hb with rfl | rfl <;> simp)
  rw [f3.block sb (qac hs2) (by simpa using hne)]
  exact hs2
def lastW (n:Int):List (Int×Blk)->Option Blk
 | []=>none
 | x::r=>match lastW n r with | some b=>some b | none=>if x.1=n then some x.2 else none
theorem qlJ {n:Int}:∀ (l:List (Int×Blk)) (i:Nat) (h:i<l.length),lastW n (l.drop (i+1))=none->l[i].1=n->lastW n l=some l[i].2
 | x::l,0,h,hn,he=>by
  simp only [Nat.zero_add,List.drop_succ_cons,List.drop_zero] at hn
  simp only [List.getElem_cons_zero] at he ⊢
  simp [lastW,hn,he]
 | x::l,i+1,h,hn,he=>by
  have:=qlJ l i (by simpa using h) (by simpa using hn) (by simpa using he)
  simp only [lastW,this,List.getElem_cons_succ]
theorem qps {n:Int}:∀ (l:List (Int×Blk)) (i:Nat) (h:i<l.length),lastW n (l.drop (i+1))=none->l[i].1≠n->lastW n (l.drop i)=none:=by
 intro l i h hn hne
 rw [List.drop_eq_getElem_cons h,lastW,hn]
 simp [hne]
def readV (D:DiskM) (n:Int):List Int×Int:=
 if D.down then ([],7) else if n<0\/n>=D.safe.length then ([],4) else
 match lastW n D.waits with | some b=>(b.1,0) | none=>((D.safe.getD n.toNat .zero).1,0)
theorem qnw {b o n:Nat} {size:Nat} {K:Sl->Prop} (hn:0<n) (k:K ⟨some ⟨b,o,none⟩,n,n⟩):slcP ⟨b,o,none⟩ n none none none size K:=by
 unfold slcP
 refine ⟨by simp,?_⟩
 simp only [Option.getD_none,Int.toNat_natCast,Int.toNat_zero,Nat.sub_zero,Nat.zero_mul]
 rw [if_neg (by omega),qgJ]
 exact k
theorem qm6 {S:List Nat} {w:World} {b o:Nat} {cs:Array Value} {T:TypeId} {fr:Nat×Nat} {x:Blk} (hb:w.heap[b]?=some (.cells cs T fr)) (hc:(cs.toList.drop o).take 512=encK x) (hS:b∉S):RdB S w ⟨some ⟨b,o,none⟩,512,512⟩ x.1:=by
 refine ⟨x.2.symm,Nat.le_refl _,.inr ⟨b,o,cs,T,fr,rfl,hb,hS,fun i v hv=>?_⟩⟩
 have hi:=(List.getElem?_eq_some_iff.1 hv).1
 rw [x.2] at hi
 rw [Nat.mul_one]
 have h1:(encK x)[i]?=some (.int .u8 v):=by rw [encK,List.getElem?_map,hv]; rfl
 rw [<- hc,List.getElem?_take,if_pos hi,List.getElem?_drop] at h1
 apply List.ext_getElem?
 intro j
 rw [List.getElem?_take,List.getElem?_drop]
 match j with
 | 0=>simpa using h1
 | j+1=>simp
theorem qoh {w:World} {s:Sl} {K:Value->World->Prop} (hk:∀ rb w',(∀ S w0 L,Own S w0 w L->Own S w0 w' ((rb,.cells #[.slice s.a s.len s.cap] 173 (0,0))::L))->K (.func (.func 202) #[] #[.pointer (some ⟨rb,0,none⟩)]) w') :
  call Tryz.prog 156 [.slice s.a s.len s.cap] [.one .any] w K:=by
 refine qgH (s:=s) ?_
 unfold qdh
 exact Pt.qju (hk _ _ fun S w0 L h=>h.alloc _)
theorem qop {Z:List Value} (l:List Blk) (i:Nat) (x:Blk) (h:l[i]?=some x):((l.flatMap encK++Z).drop (i*512)).take 512=encK x:=by
 have hi:=(List.getElem?_eq_some_iff.1 h).1
 have hl:(l.flatMap encK).length=l.length*512:=qbw qaQ l
 rw [List.drop_append_of_le_length (by rw [hl]; omega),List.take_append_of_le_length (by rw [List.length_drop,hl]; omega)]
 exact qfs qaQ l i x h
theorem qrI {w:World} {db c:Nat} {F:List Nat} {D:DiskM} {Z:List Value} {n:Int} {K:Sl×Int->World->Prop} (h:DiskZ w db F D c Z) (hD:D.Ok)
  (hk:∀ s' B w',BufB w' s' (readV D n).1 B->Fr [] w w'->(∀ b∈B,w.heap.size<=b)->K (s',(readV D n).2) w') :
  call Tryz.prog 125 [.pointer (some ⟨db,0,none⟩),.int .i64 n] [.one .slice,.one (.int .i64)] w K:=by
 refine qhD (d:=some ⟨db,0,none⟩) ?_
 unfold qdL
 refine Own.new' (Own.start [] w) fun r1 w1 e1 f1 ho=>?_
 refine Own.new' ho fun r3 w2 e2 f2 ho=>?_
 refine Own.new' ho fun r5 w3 e3 f3 ho=>?_
 obtain ⟨sb,T,wsl,B,hF,hn,hc,hsb,hbuf⟩:=h
 have hcW:∀ {w':World},Fr [] w w'->w'.heap[db]?=some (.cells (dCellsC D sb c wsl) DT (0,0)):=fun f=>by rw [f.block db (qac hc) (by simp)]; exact hc
 have hsbW:∀ {w':World},Fr [] w w'->w'.heap[sb]?=some (.cells (D.safe.flatMap encK++Z).toArray T (0,0)):=fun f=>by rw [f.block sb (qac hsb) (by simp)]; exact hsb
 have bad:∀ {e:Int} {w':World} {L'},readV D n=([],e)->Own [] w w' L'->L'[1]?=some (r3,.cells #[.slice none 0 0] 23 (0,0))->L'[0]?=some (r5,.cells #[.int .i64 e] 33 (0,0))->ld Cell.slice ⟨r3,0,none⟩ w' fun s=>ld (.int .i64) ⟨r5,0,none⟩ w' fun x=>K (s,x) w':=by
  intro e w' L' he ho h1 h0
  refine Own.ld (c:=.slice) ho 1 h1 ⟨none,0,0⟩ rfl ?_
  refine Own.ld (c:=.int .i64) ho 0 h0 e rfl ?_
  have:=hk ⟨none,0,0⟩ [] w' (by rw [he]; exact .nil _ _ _) ho.fr (by simp)
  rw [he] at this
  exact this
 refine qae (qaq (c:=.bool) (hcW ho.fr) D.down rfl ?_)
 refine qab (fun hd=>?_) (fun hd=>?_)
 ·refine Own.st ho 1 rfl _ rfl rfl rfl fun w4 ho _=>?_
  refine Own.st ho 0 rfl _ rfl rfl rfl fun w5 ho _=>?_
  exact bad (by rw [readV,if_pos hd]) ho rfl rfl
 refine qag (fun b w'=>b=decide (n<0\/n>=D.safe.length)/\w'=w3.drew) ?_ ?_
 ·refine Own.ld (c:=.int .i64) ho.drew 2 rfl n rfl ?_
  refine qab (fun hc=>?_) (fun hc'=>?_)
  ·exact ⟨by rw [decide_eq_true (Or.inl (of_decide_eq_true hc))],rfl⟩
  ·refine Own.ld (c:=.int .i64) ho.drew 2 rfl n rfl ?_
   refine qae (qaq (c:=.slice) (hcW ho.drew.fr) ⟨some ⟨sb,0,none⟩,D.safe.length,c⟩ rfl ⟨?_,rfl⟩)
   have:=of_decide_eq_false hc'
   by_cases h2:n>=D.safe.length <;> simp [this,h2]
 rintro b w4 ⟨rfl,rfl⟩
 refine qab (fun hr=>?_) (fun hr=>?_)
 ·refine Own.st ho.drew 1 rfl _ rfl rfl rfl fun w4 ho _=>?_
  refine Own.st ho 0 rfl _ rfl rfl rfl fun w5 ho _=>?_
  exact bad (by rw [readV,if_neg (by simpa using hd),if_pos (of_decide_eq_true hr)]) ho rfl rfl
 have hr':=of_decide_eq_false hr
 have hn0:0<=n:=by omega
 have hnl:n<D.safe.length:=by omega
 have hwmax:=hD.waits
 have hsmax:=hD.safe
 have hwl:=hbuf.len
 have hrv:readV D n=match lastW n D.waits with | some b=>(b.1,0) | none=>((D.safe.getD n.toNat .zero).1,0):=by
  rw [readV,if_neg (by simpa using hd),if_neg hr']
 refine qae (qaq (c:=.slice) (hcW ho.drew.fr) wsl rfl ?_)
 refine qoh fun rb w5 hrb=>?_
 have ho5:=hrb _ _ _ ho.drew
 refine Own.rng (lb:=[.pointer (some ⟨rb,0,none⟩)]) ho5 rfl (by kernel_rfl) fun Dm l R Bz J E E0 w6 el eD f56 ho6 hy=>?_
 refine qen ?_
 unfold qcl
 refine Own.ld (c:=.slice) ho6 2 rfl wsl rfl ?_
 rw [wi' _ (by omega)]
 have fin:∀ {bl:Blk} {s7:Sl} {Bf:List Nat} {w10 wz:World} {L10:List (Nat×Obj)},readV D n=(bl.1,0)->Own [] w w10 L10->BufB w10 s7 bl.1 Bf->(∀ b∈Bf,w.heap.size<=b)->(∀ b∈Bf,b∉L10.map (·.1))->Fr (L10.map (·.1)) w10 wz->K (s7,0) wz:=by
  intro bl s7 Bf w10 wz L10 he h10 hb7 hnew hdis fz
  have:=hk s7 Bf wz (by rw [he]; exact hb7.frame fz hdis) (h10.back (L':=[]) fz) hnew
  rw [he] at this
  exact this
 refine qak (fun x w'=>∃ i:Nat,x=(i:Int)-1/\i<=D.waits.length/\lastW n (D.waits.drop i)=none/\Own [] w w' [(l,R),(Dm,.deferred (some [])),(rb,.cells #[.slice wsl.a wsl.len wsl.cap] 173 (0,0)),(r5,.cells #[.int .i64 0] 33 (0,0)),(r3,.cells #[.slice none 0 0] 23 (0,0)),(r1,.cells #[.int .i64 n] 3 (0,0))]) (fun x _=>(x+1).toNat)
  ⟨D.waits.length,by rw [hwl],Nat.le_refl _,by rw [List.drop_length]; rfl,ho6⟩ ?_
 rintro x w7 ⟨i,rfl,hi,hno,ho7⟩ X hX
 refine qab (fun hc1=>?_) (fun hc1=>?_)
 ·have hge:=of_decide_eq_true hc1
  obtain ⟨i,rfl⟩:∃ k,i=k+1:=⟨i-1,by omega⟩
  have hil:i<D.waits.length:=by omega
  refine Own.ld (c:=.slice) ho7 2 rfl wsl rfl ?_
  have hr7:Rds encW 513 [] w7 wsl D.waits:=(hbuf.frame0 ho7.fr).rds qbr (by simp)
  refine hr7.getV qbr i (by omega) (List.getElem?_eq_getElem hil) ?_
  refine hy ((((i+1:Nat):Int)-1),encW D.waits[i]) w7 _ (ho7.at (i:=0) rfl) ?_
  dsimp only
  refine Own.newFill ho7 (by kernel_rfl) (qbr _) (qiz _) fun r w8 er ho8=>?_
  refine ⟨ho8.at (i:=1) rfl,?_⟩
  have ho9:=ho8.upd (o':=Bz) 1 rfl
  refine Own.ld (c:=.int .i64) ho9 0 rfl D.waits[i].1 rfl ?_
  refine Own.ld (c:=.int .i64) ho9 6 rfl n rfl ?_
  refine qab (fun hm=>?_) (fun hm=>?_)
  ·have hm':D.waits[i].1=n:=by simpa using hm
   have hlast:=qlJ D.waits i hil hno hm'
   have hrv2:readV D n=(D.waits[i].2.1,0):=by rw [hrv,hlast]
   refine qnw (by decide) ?_
   have hrd:RdB [] (Pt.upd w8 l Bz) ⟨some ⟨r,1,none⟩,512,512⟩ D.waits[i].2.1:=
    qm6 (x:=D.waits[i].2) (ho9.at (i:=0) rfl) (by rw [show (encW D.waits[i]).toArray.toList.drop 1=encK D.waits[i].2 from rfl,List.take_of_length_le (by rw [qaQ]; exact Nat.le_refl _)]) (by simp)
   refine qaR (s:=⟨some ⟨r,1,none⟩,512,512⟩) hrd (by rw [D.waits[i].2.2]; decide) fun s7 Bf w10 hb7 f10 n10 _ _=>?_
   have ho10:=ho9.frame0 f10
   have hbk:=ho10.rebase
   have hnew:∀ b∈Bf,w.heap.size<=b:=fun b hb=>by have h1:(Pt.upd w8 l Bz).heap.size<=b:=n10 b hb; have:=ho9.fr.size; omega
   have hdis:∀ b∈Bf,b∉[r,l,Dm,rb,r5,r3,r1]:=fun b hb hm=>by
    have h1:(Pt.upd w8 l Bz).heap.size<=b:=n10 b hb
    have h2:∀ p∈[r,l,Dm,rb,r5,r3,r1],p<(Pt.upd w8 l Bz).heap.size:=fun p hp=>by
     have hlt:=fun (k:Nat) (q:Nat×Obj) (hq:_[k]?=some q)=>qac (ho9.at (i:=k) hq)
     simp only [List.mem_cons,List.not_mem_nil,or_false] at hp
     rcases hp with rfl | rfl | rfl | rfl | rfl | rfl | rfl
     ·exact hlt 0 _ rfl
     ·exact hlt 1 _ rfl
     ·exact hlt 2 _ rfl
     ·exact hlt 3 _ rfl
     ·exact hlt 4 _ rfl
     ·exact hlt 5 _ rfl
     ·exact hlt 6 _ rfl
    have:=h2 b hm
    omega
   refine Own.st hbk 5 rfl _ rfl rfl rfl fun w11 hbk _=>?_
   refine Own.st hbk 4 rfl _ rfl rfl rfl fun w12 hbk _=>?_
   refine ⟨hbk.at (i:=1) rfl,?_⟩
   have hbk:=hbk.upd (o':=J 0) 1 rfl
   refine cond_true rfl ?_
   refine .inr ⟨0,_,rfl,hbk.at (i:=1) rfl,?_⟩
   have hbk:=hbk.upd (o':=E 0) 1 rfl
   refine Own.undefer hbk 2 rfl fun w13 hbk=>?_
   refine Own.ld (c:=.slice) hbk 5 rfl s7 rfl ?_
   refine Own.ld (c:=.int .i64) hbk 4 rfl 0 rfl ?_
   exact fin hrv2 ho10 hb7 hnew hdis hbk.fr
  ·have hm':D.waits[i].1≠n:=by simpa using hm
   refine ⟨ho9.at (i:=1) rfl,?_⟩
   have hoA:=ho9.upd (o':=R) 1 rfl
   refine cond_false rfl ?_
   rw [wi' _ (by omega)]
   refine hX _ _ ⟨i,by omega,by omega,qps D.waits i hil hno hm',hoA.sub (List.sublist_cons_self _ _)⟩ (by omega)
 ·have hlt:=of_decide_eq_false hc1
  obtain rfl:i=0:=by omega
  rw [List.drop_zero] at hno
  refine .inl ⟨ho7.at (i:=0) rfl,?_⟩
  have ho8:=(ho7.upd (o':=E0) 0 rfl).drew
  have hrv2:readV D n=((D.safe.getD n.toNat .zero).1,0):=by rw [hrv,hno]
  have hnl':n.toNat<D.safe.length:=by omega
  have hgd:D.safe[n.toNat]?=some (D.safe.getD n.toNat .zero):=by rw [List.getD_eq_getElem?_getD,List.getElem?_eq_getElem hnl']; rfl
  refine qae (qaq (c:=.slice) (hcW ho8.fr) ⟨some ⟨sb,0,none⟩,D.safe.length,c⟩ rfl ?_)
  refine Own.ld (c:=.int .i64) ho8 5 rfl n rfl ?_
  refine qcq hn0 hnl ?_
  refine qnw (by decide) ?_
  have hrd:RdB [] (Pt.upd w7 l E0).drew ⟨some ⟨sb,0+n.toNat*512,none⟩,512,512⟩ (D.safe.getD n.toNat .zero).1:=
   qm6 (hsbW ho8.fr) (by rw [Nat.zero_add]; exact qop D.safe n.toNat _ hgd) (by simp)
  refine qaR (s:=⟨some ⟨sb,0+n.toNat*512,none⟩,512,512⟩) hrd (by rw [(D.safe.getD n.toNat .zero).2]; decide) fun s7 Bf w10 hb7 f10 n10 _ _=>?_
  have ho10:=ho8.frame0 f10
  have hbk:=ho10.rebase
  have hnew:∀ b∈Bf,w.heap.size<=b:=fun b hb=>by have h1:(Pt.upd w7 l E0).drew.heap.size<=b:=n10 b hb; have:=ho8.fr.size; omega
  have hdis:∀ b∈Bf,b∉[l,Dm,rb,r5,r3,r1]:=fun b hb hm=>by
   have h1:(Pt.upd w7 l E0).drew.heap.size<=b:=n10 b hb
   have h2:∀ p∈[l,Dm,rb,r5,r3,r1],p<(Pt.upd w7 l E0).drew.heap.size:=fun p hp=>by
    have hlt:=fun (k:Nat) (q:Nat×Obj) (hq:_[k]?=some q)=>qac (ho8.at (i:=k) hq)
    simp only [List.mem_cons,List.not_mem_nil,or_false] at hp
    rcases hp with rfl | rfl | rfl | rfl | rfl | rfl
    ·exact hlt 0 _ rfl
    ·exact hlt 1 _ rfl
    ·exact hlt 2 _ rfl
    ·exact hlt 3 _ rfl
    ·exact hlt 4 _ rfl
    ·exact hlt 5 _ rfl
   have:=h2 b hm
   omega
  refine Own.st hbk 4 rfl _ rfl rfl rfl fun w11 hbk _=>?_
  refine Own.st hbk 3 rfl _ rfl rfl rfl fun w12 hbk _=>?_
  refine Own.undefer hbk 1 rfl fun w13 hbk=>?_
  refine Own.ld (c:=.slice) hbk 4 rfl s7 rfl ?_
  refine Own.ld (c:=.int .i64) hbk 3 rfl 0 rfl ?_
  exact fin hrv2 ho10 hb7 hnew hdis hbk.fr
theorem qfC {w:World} {db:Nat} {F:List Nat} {D:DiskM} {n:Int} {K:Sl×Int->World->Prop} (h:DiskAt w db F D) (hD:D.Ok)
  (hk:∀ s' B w',BufB w' s' (readV D n).1 B->Fr [] w w'->(∀ b∈B,w.heap.size<=b)->K (s',(readV D n).2) w') :
  call Tryz.prog 125 [.pointer (some ⟨db,0,none⟩),.int .i64 n] [.one .slice,.one (.int .i64)] w K:=qrI h.z hD hk
def insAll (l:List Int):List Int:=l.foldl (fun a n=>ins n a) []
theorem qo5 (n:Int):∀ l:List Int,(ins n l).length<=l.length+1
 | []=>by simp [ins]
 | a::l=>by
  have:=qo5 n l
  simp only [ins]
  split
  ·simp
  ·split
   ·simp
   ·simp only [List.length_cons]; omega
theorem qot {l:List Int} {i:Nat} (h:i<l.length):insAll (l.take (i+1))=ins l[i] (insAll (l.take i)):=by
 rw [insAll,List.take_succ_eq_append_getElem h,List.foldl_append]
 rfl
theorem qpR (l:List Int):(insAll l).length<=l.length:=by
 unfold insAll
 have:∀ (l a:List Int),(l.foldl (fun a n=>ins n a) a).length<=a.length+l.length:=by
  intro l
  induction l with
  | nil=>intro a; simp
  | cons x l ih=>
   intro a
   have h1:=ih (ins x a)
   have h2:=qo5 x a
   rw [List.foldl_cons,List.length_cons]
   omega
 simpa using this l []
theorem qkG (l:List Int):∀ a:List Int,a.Pairwise (· < ·)->(l.foldl (fun a n=>ins n a) a).Pairwise (· < ·):=by
 induction l with
 | nil=>intro a h; exact h
 | cons x l ih=>intro a h; exact ih _ (qce h)
theorem qnl (l:List Int):∀ a:List Int,(a++l).Nodup->(l.foldl (fun a n=>ins n a) a).Perm (a++l):=by
 induction l with
 | nil=>intro a h; rw [List.append_nil]; exact .refl _
 | cons x l ih=>
  intro a h
  have hx:x∉a:=fun hm=>by
   rw [List.nodup_append] at h
   exact h.2.2 x hm x (by simp) rfl
  have hp:=qct hx
  have hp2:(ins x a++l).Perm (a++x::l):=(hp.append_right l).trans (List.perm_middle.symm)
  exact (ih (ins x a) (hp2.nodup_iff.2 h)).trans hp2
theorem qms (l:List Int):(insAll l).Pairwise (· < ·):=qkG l [] .nil
theorem qog {l:List Int} (h:l.Nodup):(insAll l).Perm l:=by
 have:=qnl l [] (by simpa using h)
 simpa [insAll] using this
theorem qta {l:List Int} (h:l.Pairwise (· < ·)):l.Pairwise (·<=·):=h.imp Int.le_of_lt
theorem qfw {l:List Int} (h:l.Pairwise (· < ·)):l.Nodup:=h.imp (fun h=>Int.ne_of_lt h)
theorem qky {l l':List Int} (h:l'.Perm l) (hs:l'.Pairwise (·<=·)) (hn:l.Nodup):l'=insAll l:=
 qew (h.trans (qog hn).symm) hs (qta (qms l))
theorem qqI {l:List Int} (h:l.Pairwise (· < ·)):insAll l=l:=(qky (.refl _) (qta h) (qfw h)).symm
theorem qeF {x y:Int}:∀ {l:List Int},y∈ins x l↔y=x\/y∈l
 | []=>by simp [ins]
 | a::l=>by
  have:=qeF (x:=x) (y:=y) (l:=l)
  simp only [ins]
  split
  ·simp
  ·split
   ·rename_i h; subst h; simp
   ·simp only [List.mem_cons,this]
    constructor
    ·rintro (h | h | h)
     ·exact .inr (.inl h)
     ·exact .inl h
     ·exact .inr (.inr h)
    ·rintro (h | h | h)
     ·exact .inr (.inl h)
     ·exact .inl h
     ·exact .inr (.inr h)
def andThen (r:DiskM×Int) (f:DiskM->DiskM×Int):DiskM×Int:=if r.2=0 then f r.1 else r
def writesM:List (Int×List Int)->DiskM->DiskM×Int
 | [],D=>(D,0)
 | x::r,D=>andThen (writeM D x.1 x.2) (writesM r)
def spreadM (D:DiskM) (numbers pages:List Int):DiskM×Int:=
 if (bodiesV numbers pages).2≠0 then (D,(bodiesV numbers pages).2)
 else andThen (writesM ((pages.zip (bodiesV numbers pages).1).map fun x=>(x.1,sealV x.1 2 x.2)) D) syncM
def superP (s:Sup):Int×List Int:=(Int.tmod s.1 2,sealV (IntKind.wrap .u32 (Int.tmod s.1 2)) 1 (superB s.1 s.2))
def sealM (D:DiskM) (s:Sup):DiskM×Int:=andThen (writeM D (superP s).1 (superP s).2) syncM
def allV (n:Nat):List Int:=(List.range (n-2)).map fun (i:Nat)=>(i:Int)+2
def fmtSup (n:Nat):Sup:=(1,[IntKind.wrap .u32 n,2,IntKind.wrap .u32 ((allV n).length-needP (allV n).length:Int)]++zs 24)
def formatM (D:DiskM):DiskM×Int:=
 andThen (writeM D 0 (zs 512)) fun D=>andThen (writeM D 1 (zs 512)) fun D=>andThen (syncM D) fun D=>
 andThen (spreadM D ((allV D.safe.length).drop (needP (allV D.safe.length).length)) ((allV D.safe.length).take (needP (allV D.safe.length).length))) fun D=>sealM D (fmtSup D.safe.length)
def walkM (D:DiskM) (blocks:Int):Nat->Int->List Int->List Int->Option (List Int×List Int)
 | 0,_,_,_=>none
 | f+1,a,lists,named=>
  if a=0 then some (lists,named) else
  if a<2\/a>=blocks\/a∈lists then none else
  if (readV D a).2≠0 then none else
  if (openV a (readV D a).1).2.2≠0\/(openV a (readV D a).1).1≠2 then none else
  if (parseV (openV a (readV D a).1).2.1).2.2≠0 then none else
  walkM D blocks f (parseV (openV a (readV D a).1).2.1).1 (lists++[a]) (named++(parseV (openV a (readV D a).1).2.1).2.1)
def namedB (blocks:Int) (lists:List Int):Int->List Int->Bool
 | _,[]=>true
 | last,n::r=>!(decide (n<=last)||decide (n>=blocks)||decide (n∈lists))&&namedB blocks lists n r
def loadM (D:DiskM) (s:Sup):Option (List Int×List Int):=
 match walkM D (s.2.getD 0 0) ((s.2.getD 0 0).toNat+1) (s.2.getD 1 0) [] [] with
 | none=>none
 | some x=>if namedB (s.2.getD 0 0) x.1 0 x.2=true/\(x.2.length:Int)=s.2.getD 2 0 then some x else none
def begunM (sup:Sup) (lists named:List Int) (turn:Int) (over:Bool) (free:List Int):PgM:=⟨sup,lists,named,turn,over,free,[],[],sup.2.drop 3⟩
def openM (D:DiskM):Option PgM×Int:=
 if (readV D 0).2≠0 then (none,(readV D 0).2) else
 if (readV D 1).2≠0 then (none,(readV D 1).2) else
 if (newestV (readV D 0).1 (readV D 1).1).2≠0 then (none,(newestV (readV D 0).1 (readV D 1).1).2) else
 if (newestV (readV D 0).1 (readV D 1).1).1.2.getD 0 0≠D.safe.length then (none,2) else
 match loadM D (newestV (readV D 0).1 (readV D 1).1).1 with
 | none=>(none,2)
 | some x=>(some (begunM (newestV (readV D 0).1 (readV D 1).1).1 x.1 x.2 1 false x.2),0)
def beginTail (pb:Nat) (x y:Option Addr) (mb:Nat) (vs:List Value) (K:Unit->World->Prop) (w:World):Prop:=
 runQ [Ty1.raw] (fun (w':Go.World)=>(Instr.build WKT (#[(0,Value.pointer x),(1,Value.pointer y),(2,Value.map (some mb)),(3,Value.agg (List.toArray vs))])).run Tryz.prog w') w<|
 fun (vs_17:List Value)=>
 nn (some ⟨pb,0,none⟩)<|
 fun (a_18:Addr)=>
 chk (List.length vs_17=27)<|
 st ({ block:=a_18.block,off:=a_18.off+33 }) vs_17 w<|
 fun (w_19:World)=>
 nn (some ⟨pb,0,none⟩)<|
 fun (a_20:Addr)=>
 ld Cell.slice ({ block:=a_20.block,off:=a_20.off+30 }) w_19<|
 fun (s_21:Sl)=>
 loop (Int) (fun (X_22:Int->World->Prop) (x_23:Int) (w_24:World)=>
  cond (decide (x_23<(↑s_21.len:Int)))
   (idx s_21 x_23 1<|
   fun (a_25:Addr)=>
   ld (Cell.int IntKind.u32) a_25 w_24<|
   fun (x_26:Int)=>
   nn (some ⟨pb,0,none⟩)<|
   fun (a_27:Addr)=>
   ld Cell.ptr ({ block:=a_27.block,off:=a_27.off+33 }) w_24<|
   fun (p_28:Option Addr)=>
   call Tryz.prog 116 ([Value.pointer p_28,Value.int IntKind.u32 x_26]) ([Ty1.one Cell.bool]) w_24<|
   fun (b_29:Bool) (w_30:World)=>
   X_22 (IntKind.wrap IntKind.i64 (x_23+1)) w_30)
   (K () w_24)) 0 w_19
theorem qpQ {w w3:World} {X:List Nat} {pb fb defb mb:Nat} {db:Option Addr} {sup:Sup} {sl sn:Sl} {turn:Int} {over:Bool} {wk:List Value} {lists named:List Int} {F1 F2:List Nat} {K:Unit->World->Prop}
  (hs:sup.2.length=27) (hw:wk.length=27) (hX:∀ b∈X,b<w.heap.size/\b≠pb) (hlists:Rd (X++[pb]) w sl lists) (hnamed:Rd (X++[pb]) w sn named) (hn:named.length<=100000)
  (ho:Own [pb] w w3 [(pb,.cells (pgRaw db sup sl sn turn over wk) PGT (0,0))]) (h1:PoolAt w3 fb F1 []) (h2:PoolAt w3 defb F2 []) (h3:MapS u32V w3 mb [])
  (n1:∀ b∈F1,w.heap.size<=b) (n2:∀ b∈F2,w.heap.size<=b) (n3:w.heap.size<=mb) (hpb:pb<w.heap.size) (sp1:mb∉F1) (sp2:mb∉F2) (sp3:∀ b∈F1,b∉F2)
  (hk:∀ F' w',PagerAt w' X pb db F' (begunM sup lists named turn over (insAll named))->Fr [pb] w w'->(∀ b∈F',b=pb\/w.heap.size<=b)->K () w') :
  beginTail pb (some ⟨fb,0,none⟩) (some ⟨defb,0,none⟩) mb ((sup.2.drop 3).map (Value.int .u32)) K w3:=by
 have hr24:(sup.2.drop 3).length=24:=by rw [List.length_drop,hs]
 unfold beginTail
 refine qbl (ts:=[Ty1.raw]) (workV (some ⟨fb,0,none⟩) (some ⟨defb,0,none⟩) (some mb) (sup.2.drop 3)) (qpS hr24 w3) ?_
 refine qae ?_
 refine qaX (qcA hr24) ?_
 have hone:(workV (some ⟨fb,0,none⟩) (some ⟨defb,0,none⟩) (some mb) (sup.2.drop 3)).all Value.oneCell'=true:=by
  rw [List.all_eq_true]
  intro v hv
  simp only [workV,List.mem_append,List.mem_cons,List.mem_map,List.not_mem_nil,or_false] at hv
  rcases hv with (rfl | rfl | rfl) | ⟨x,_,rfl⟩ <;> rfl
 refine Own.st' ho 0 rfl (pgCells db sup sl sn turn over fb defb mb (sup.2.drop 3)) (by rw [<- qow]; exact qsx hs (by rw [hw,qcA hr24])) hone (by rw [qfp hs,qcA hr24,hw]; exact Nat.le_of_ble_eq_true rfl) fun w4 ho4 f4=>?_
 have hpF1:∀ b∈F1,b≠pb:=fun b hb e=>by have:=n1 b hb; omega
 have hpF2:∀ b∈F2,b≠pb:=fun b hb e=>by have:=n2 b hb; omega
 have hS:∀ b∈pb::mb::(F1++F2),b∈[pb]\/w.heap.size<=b:=fun b hb=>by
  simp only [List.mem_cons,List.mem_append] at hb
  rcases hb with rfl | rfl | hb | hb
  ·exact .inl (by simp)
  ·exact .inr n3
  ·exact .inr (n1 b hb)
  ·exact .inr (n2 b hb)
 have hx:PgX w4 X pb db (begunM sup lists named turn over []) fb defb mb sl sn F1 F2 []:={
  cell:=ho4.at (i:=0) rfl
  free:=h1.frame f4 fun b hb=>by simpa using hpF1 b hb
  deferred:=h2.frame f4 fun b hb=>by simpa using hpF2 b hb
  map:=h3.frame f4 (by simp; omega)
  fresh:=rfl
  rows:=by
   have hf:Fr (X++[pb]) w w4:=ho4.fr.mono fun b hb _=>List.mem_append_right _ hb
   exact ⟨hlists.frame hf (qkW hS),hnamed.frame hf (qkW hS),fun e he=>by cases he⟩
  xlt:=fun b hb=>Nat.lt_of_lt_of_le (hX b hb).1 ho4.fr.size
  xsep:=qsT (fun b hb=>(hX b hb).1) (fun b hb=>by simpa using (hX b hb).2) hS
  sep:=⟨by omega,fun b hb=>⟨hpF1 b hb,fun e=>sp1 (e▸hb),sp3 b hb⟩,fun b hb=>⟨hpF2 b hb,fun e=>sp2 (e▸hb)⟩⟩
  suplen:=hs
  rootlen:=hr24 }
 refine qae (qaq (c:=.slice) hx.cell sn (qs0 hs) ?_)
 have hnl:=hnamed.1
 refine qak (fun x w'=>∃ (i:Nat) (F1':List Nat),x=i/\i<=named.length/\PgX w' X pb db (begunM sup lists named turn over (insAll (named.take i))) fb defb mb sl sn F1' F2 []/\Fr [pb] w w'/\∀ b∈F1',w.heap.size<=b) (fun x _=>((named.length:Int)-x).toNat)
  ⟨0,F1,rfl,by omega,hx,ho4.fr,n1⟩ ?_
 rintro x w5 ⟨i,F1',rfl,hi,hx5,f5,n5⟩ Z hZ
 refine qab (fun hc=>?_) (fun hc=>?_)
 ·have hil:i<named.length:=by have:=of_decide_eq_true hc; omega
  refine Rd.at hx5.rows.named i rfl (List.getElem?_eq_getElem hil) ?_
  refine qae (qaq (c:=.ptr) hx5.cell (some ⟨fb,0,none⟩) (qej hs) ?_)
  have hl5:=qpR (named.take i)
  rw [List.length_take] at hl5
  refine qmx hx5.free (by show (insAll (named.take i)).length<=_; omega) fun F1'' w6 hp6 f6 n6=>?_
  have hx6:=hx5.setFree f6 hp6 n6
  rw [wi' _ (by omega)]
  refine hZ _ _ ⟨i+1,F1'',by simp,by omega,?_,f5.trans' f6 (fun b hb=>.inr (n5 b hb)),fun b hb=>?_⟩ (by omega)
  ·rw [qot hil]; exact hx6
  ·rcases n6 b hb with h | h
   ·exact n5 b h
   ·exact Nat.le_trans f5.size h
 ·have:i=named.length:=by have:=of_decide_eq_false hc; omega
  subst this
  rw [List.take_length] at hx5
  refine hk _ w5 ⟨fb,defb,mb,sl,sn,F1',F2,[],rfl,hx5⟩ f5 fun b hb=>?_
  simp only [List.mem_cons,List.mem_append] at hb
  rcases hb with rfl | rfl | hb | hb
  ·exact .inl rfl
  ·exact .inr n3
  ·exact .inr (n5 b hb)
  ·exact .inr (n2 b hb)
theorem qrP {w:World} {X:List Nat} {pb:Nat} {db:Option Addr} {sup:Sup} {sl sn:Sl} {turn:Int} {over:Bool} {wk:List Value} {lists named:List Int} {K:Unit->World->Prop}
  (hc:w.heap[pb]?=some (.cells (pgRaw db sup sl sn turn over wk) PGT (0,0))) (hs:sup.2.length=27) (hw:wk.length=27) (ht:0<=turn/\turn<=1000000000) (hX:∀ b∈X,b<w.heap.size/\b≠pb) (hlists:Rd (X++[pb]) w sl lists) (hnamed:Rd (X++[pb]) w sn named) (hn:named.length<=100000)
  (hk:∀ F' w',PagerAt w' X pb db F' (begunM sup lists named (turn+1) over (insAll named))->Fr [pb] w w'->(∀ b∈F',b=pb\/w.heap.size<=b)->K () w') :
  call Tryz.prog 81 [.pointer (some ⟨pb,0,none⟩)] [] w K:=by
 have hpb:=qac hc
 have ho:Own [pb] w w [(pb,.cells (pgRaw db sup sl sn turn over wk) PGT (0,0))]:=⟨by simpa using hc,by simp,.refl _ _,by simp⟩
 refine qe4 (p:=some ⟨pb,0,none⟩) ?_
 unfold qcK
 refine qae (Own.ld (c:=.int .i64) ho 0 rfl turn (qcD hs 2 (by decide)) ?_)
 rw [wi' _ (by omega)]
 refine qae (Own.st' ho 0 rfl (pgRaw db sup sl sn (turn+1) over wk) (qsU hs) rfl (by rw [qfp hs,hw]; exact Nat.le_of_ble_eq_true rfl) fun w1 ho f1=>?_)
 have hrl:((sup.2.drop 3).map (Value.int .u32)).length=24:=by rw [List.length_map,List.length_drop,hs]
 have hcA:∀ {w':World},w'.heap[pb]?=some (.cells (pgRaw db sup sl sn (turn+1) over wk) PGT (0,0))->cellsAt w' ⟨pb,5,none⟩ 0 ((sup.2.drop 3).map (Value.int .u32)):=fun h=>qbd h _ 5 0 (by rw [hrl]; exact qlt hs)
 have tail:=fun {w3:World} {fb defb mb:Nat} {F1 F2:List Nat}=>qpQ (w:=w) (w3:=w3) (X:=X) (pb:=pb) (fb:=fb) (defb:=defb) (mb:=mb) (F1:=F1) (F2:=F2) hs hw hX hlists hnamed hn (K:=K) (turn:=turn+1) (over:=over) (wk:=wk) (db:=db)
 have hs1:=f1.size
 have ho':=ho.drew
 generalize w1.drew=wd at ho'
 have hld:∀ {K':List Value->Prop},K' ((sup.2.drop 3).map (Value.int .u32))->ldV 24 ⟨pb,5,none⟩ wd K':=fun k=>qbT (ho'.at (i:=0) rfl) _ hrl (qlt hs) k
 have hsd:w.heap.size<=wd.heap.size:=ho'.fr.size
 have fin:∀ {w3:World} {fb defb mb:Nat} {F1 F2:List Nat},Fr [] wd w3->PoolAt w3 fb F1 []->PoolAt w3 defb F2 []->MapS u32V w3 mb []->(∀ b∈F1,wd.heap.size<=b)->(∀ b∈F2,wd.heap.size<=b)->wd.heap.size<=mb->mb∉F1->mb∉F2->(∀ b∈F1,b∉F2)->
   beginTail pb (some ⟨fb,0,none⟩) (some ⟨defb,0,none⟩) mb ((sup.2.drop 3).map (Value.int .u32)) K w3:=fun f p1 p2 p3 n1 n2 n3 s1 s2 s3=>
  tail (ho'.frame0 f) p1 p2 p3 (fun b hb=>Nat.le_trans hsd (n1 b hb)) (fun b hb=>Nat.le_trans hsd (n2 b hb)) (Nat.le_trans hsd n3) hpb s1 s2 s3 hk
 refine ⟨?_,?_,?_⟩
 ·refine qae ?_
  simp only [Addr.add_mk]
  refine hld ?_
  refine qef fun fb F1 w2 p1 f2 n1=>?_
  refine qah (hcA ((ho'.frame0 f2).at (i:=0) rfl)) ?_
  refine qef fun defb F2 w3 p2 f3 n2=>?_
  refine qah (hcA ((ho'.frame0 (f2.trans f3)).at (i:=0) rfl)) ?_
  refine Own.new' (ho'.frame0 (f2.trans f3)) fun mb w4 e4 f4 ho4=>?_
  refine qah (hcA (ho4.at (i:=1) rfl)) ?_
  refine fin ((f2.trans f3).trans f4) (p1.frame (f3.trans f4) (by simp)) (p2.frame f4 (by simp)) (.empty (ho4.at (i:=0) rfl)) n1 (fun b hb=>Nat.le_trans f2.size (n2 b hb)) (by rw [e4]; exact (f2.trans f3).size) (fun hm=>?_) (fun hm=>?_) (fun b hb hb2=>?_)
  ·have:=(p1.frame f3 (by simp)).lt mb hm; omega
  ·have:=p2.lt mb hm; omega
  ·have:=p1.lt b hb; have:=n2 b hb2; omega
 ·refine qae ?_
  simp only [Addr.add_mk]
  refine hld ?_
  refine qef fun fb F1 w2 p1 f2 n1=>?_
  refine qah (hcA ((ho'.frame0 f2).at (i:=0) rfl)) ?_
  refine Own.new' (ho'.frame0 f2) fun mb w3 e3 f3 ho3=>?_
  refine qah (hcA (ho3.at (i:=1) rfl)) ?_
  refine qef fun defb F2 w4 p2 f4 n2=>?_
  have ho4:=ho3.frame0 f4
  refine qah (hcA (ho4.at (i:=1) rfl)) ?_
  have hmb:=qac (ho3.at (i:=0) rfl)
  refine fin ((f2.trans f3).trans f4) (p1.frame (f3.trans f4) (by simp)) p2 (.empty (ho4.at (i:=0) rfl)) n1 (fun b hb=>Nat.le_trans (f2.trans f3).size (n2 b hb)) (by rw [e3]; exact f2.size) (fun hm=>?_) (fun hm=>?_) (fun b hb hb2=>?_)
  ·have:=p1.lt mb hm; omega
  ·have:=n2 mb hm; omega
  ·have:=(p1.frame f3 (by simp)).lt b hb; have:=n2 b hb2; omega
 ·refine qae ?_
  simp only [Addr.add_mk]
  refine hld ?_
  refine Own.new' ho' fun mb w2 e2 f2 ho2=>?_
  refine qah (hcA (ho2.at (i:=1) rfl)) ?_
  have hmb:=qac (ho2.at (i:=0) rfl)
  refine qef fun fb F1 w3 p1 f3 n1=>?_
  have ho3:=ho2.frame0 f3
  refine qah (hcA (ho3.at (i:=1) rfl)) ?_
  refine qef fun defb F2 w4 p2 f4 n2=>?_
  have ho4:=ho3.frame0 f4
  refine qah (hcA (ho4.at (i:=1) rfl)) ?_
  refine fin ((f2.trans f3).trans f4) (p1.frame f4 (by simp)) p2 (.empty (ho4.at (i:=0) rfl)) (fun b hb=>Nat.le_trans f2.size (n1 b hb)) (fun b hb=>Nat.le_trans (f2.trans f3).size (n2 b hb)) (by rw [e2]; exact Nat.le_refl _) (fun hm=>?_) (fun hm=>?_) (fun b hb hb2=>?_)
  ·have:=n1 mb hm; omega
  ·have:=n2 mb hm; have:=f3.size; omega
  ·have:=p1.lt b hb; have:=n2 b hb2; omega
abbrev U32 (n:Int):Prop:=0<=n/\n<4294967296
theorem qdC {n:Int} (h:U32 n) (r:List Int):first4 (be n 4++r)=n:=by
 rw [be4 h.1]
 exact qsj h
theorem qlH:∀ (c:List Int) (i:Nat),(c.flatMap (be · 4)).drop (4*i)=(c.drop i).flatMap (be · 4)
 | [],i=>by simp
 | a::c,0=>by simp
 | a::c,i+1=>by
  rw [List.flatMap_cons,List.drop_succ_cons,<- qlH c i,List.drop_append,qam,List.drop_eq_nil_of_le (by rw [qam]; omega),List.nil_append]
  congr 1
theorem qsc (c:List Int):(c.flatMap (be · 4)).length=4*c.length:=by
 induction c with
 | nil=>rfl
 | cons a c ih=>rw [List.flatMap_cons,List.length_append,qam,ih,List.length_cons]; omega
theorem qie {c:List Int} {i:Nat} (h:i<c.length) (hr:∀ x∈c,U32 x):first4 ((c.flatMap (be · 4)).drop (4*i))=c[i]:=by
 rw [qlH,List.drop_eq_getElem_cons h,List.flatMap_cons]
 exact qdC (hr _ (List.getElem_mem h)) _
theorem qdG (next:Int) (c:List Int):(bodyV next c).length=6+4*c.length:=by
 rw [bodyV,List.length_append,List.length_append,qam,qsc]
 rfl
theorem qmw (c:List Int):IsB (c.flatMap (be · 4)):=by
 induction c with
 | nil=>exact fun x h=>by cases h
 | cons a c ih=>rw [List.flatMap_cons]; exact (qbj _ _).append ih
theorem qtU (x:Int):0<=IntKind.wrap .u8 x/\IntKind.wrap .u8 x<256:=by rw [wu8]; omega
theorem qlB (next:Int) (c:List Int):IsB (bodyV next c):=by
 refine ((qbj _ _).append fun x hx=>?_).append (qmw c)
 simp only [List.mem_cons,List.not_mem_nil,or_false] at hx
 rcases hx with rfl | rfl <;> exact qtU _
theorem qmN {next:Int} {c:List Int} (hn:U32 next) (h1:next≠1) (hc:∀ x∈c,U32 x) (hr:risesB 1 c=true) (hl:c.length<=123):parseV (bodyV next c)=(next,c,0):=by
 have hlen:=qdG next c
 have e:bodyV next c=be next 4++([IntKind.wrap .u8 (Int.fdiv c.length (2^8)),IntKind.wrap .u8 c.length]++c.flatMap (be · 4)):=by rw [bodyV,List.append_assoc]
 have hf:first4 (bodyV next c)=next:=by rw [e]; exact qdC hn _
 have hcnt:cntV (bodyV next c)=c.length:=by
  have h4:(bodyV next c).getD 4 0=IntKind.wrap .u8 (Int.fdiv c.length (2^8)):=by rw [e,be4 hn.1]; rfl
  have h5:(bodyV next c).getD 5 0=IntKind.wrap .u8 c.length:=by rw [e,be4 hn.1]; rfl
  have hd:Int.fdiv (c.length:Int) (2^8)=0:=by rw [Int.fdiv_eq_ediv_of_nonneg _ (by decide)]; omega
  rw [cntV,h4,h5,wu8,wu8,hd]
  omega
 have hnums:numsV (bodyV next c) c.length=c:=by
  apply List.ext_getElem
  ·simp [numsV]
  intro i h1 h2
  have:(bodyV next c).drop (6+4*i)=(c.flatMap (be · 4)).drop (4*i):=by
   have h6:(bodyV next c).drop 6=c.flatMap (be · 4):=by rw [e,be4 hn.1]; rfl
   rw [<- h6,List.drop_drop]
  simp only [numsV,List.getElem_map,List.getElem_range,this]
  exact qie h2 hc
 rw [parseV,if_neg (by omega),if_neg (by rw [hf,hcnt]; omega),hcnt,Int.toNat_natCast,hnums,if_pos hr,hf]
theorem qpV (x:Int) (h:0<=x/\x<18446744073709551616):IntKind.wrap .u64 x=x:=by
 unfold IntKind.wrap
 have:(IntKind.u64.signed)=false:=rfl
 simp only [this,Bool.false_and,Bool.false_eq_true,if_false]
 exact Int.emod_eq_of_lt h.1 h.2
theorem qq6 {A B:Int} (k:Nat) (hA:0<=A) (hm:A%2^k=0) (hB:0<=B) (hBk:B<2^k) (hs:A+B<18446744073709551616):bits .or .u64 A B=A+B:=by
 obtain ⟨a,rfl⟩:∃ a:Nat,A=a:=⟨A.toNat,by omega⟩
 obtain ⟨b,rfl⟩:∃ b:Nat,B=b:=⟨B.toNat,by omega⟩
 have hm':a%2^k=0:=by
  have:((a:Int)%((2^k:Nat):Int))=0:=by rw [Int.natCast_pow]; exact hm
  omega
 have hb':b<2^k:=by
  have:(b:Int)<((2^k:Nat):Int):=by rw [Int.natCast_pow]; exact hBk
  omega
 obtain ⟨q,rfl⟩:∃ q,a=2^k*q:=⟨a / 2^k,by have:=Nat.div_add_mod a (2^k); omega⟩
 show IntKind.wrap .u64 ((BitVec.ofInt 64 ((2^k*q:Nat):Int)||| BitVec.ofInt 64 (b:Int)).toNat:Nat)=_
 rw [BitVec.toNat_or,BitVec.ofInt_natCast,BitVec.ofInt_natCast,BitVec.toNat_ofNat,BitVec.toNat_ofNat,Nat.mod_eq_of_lt (show 2^k*q<2^64 by omega),Nat.mod_eq_of_lt (show b<2^64 by omega),<- Nat.two_pow_add_eq_or_of_lt hb']
 rw [qpV _ (by omega)]
 omega
abbrev U64 (n:Int):Prop:=0<=n/\n<18446744073709551616
theorem qca {q:Int} {t:List Int}:superB q t=be (IntKind.wrap .u32 (Int.fdiv q (2^32))) 4++(be (IntKind.wrap .u32 q) 4++t.flatMap (be · 4)):=by rw [superB,List.append_assoc]
theorem qfE {q:Int} {t:List Int} (hq:U64 q):parseQ (superB q t)=q:=by
 have hd:Int.fdiv q (2^32)=q / 4294967296:=by rw [Int.fdiv_eq_ediv_of_nonneg _ (by decide)]; rfl
 have h0:first4 (superB q t)=q / 4294967296:=by
  rw [qca,hd,qaV _ (by omega)]
  exact qdC (by constructor <;> omega) _
 have h4:(superB q t).drop 4=be (IntKind.wrap .u32 q) 4++t.flatMap (be · 4):=by
  rw [qca,List.drop_append,qam,List.drop_eq_nil_of_le (by rw [qam]; exact Nat.le_refl _)]; rfl
 have hw:IntKind.wrap .u32 q=q%4294967296:=by
  unfold IntKind.wrap
  have:(IntKind.u32.signed)=false:=rfl
  simp only [this,Bool.false_and,Bool.false_eq_true,if_false]
  rfl
 have h1:first4 ((superB q t).drop 4)=q%4294967296:=by
  rw [h4,hw]
  exact qdC (by constructor <;> omega) _
 rw [parseQ,h0,h1,qpV (q / 4294967296) (by omega),qpV (q%4294967296) (by omega),qpV (q / 4294967296*2^32) (by omega)]
 rw [qq6 32 (by omega) (by omega) (by omega) (by omega) (by omega)]
 omega
theorem qp8 (q:Int) (t:List Int):IsB (superB q t):=by
 rw [qca]
 exact (qbj _ _).append ((qbj _ _).append (qmw t))
theorem qmq {q:Int} {t:List Int} (ht:t.length=27) (hr:∀ x∈t,U32 x):parseT (superB q t)=t:=by
 apply List.ext_getElem
 ·rw [qaM,ht]
 intro i h1 h2
 have h8:(superB q t).drop 8=t.flatMap (be · 4):=by
  rw [qca,<- List.append_assoc,List.drop_append,List.length_append,qam,qam,List.drop_eq_nil_of_le (by rw [List.length_append,qam,qam]; exact Nat.le_refl _)]; rfl
 have:(superB q t).drop (8+4*i)=(t.flatMap (be · 4)).drop (4*i):=by rw [<- h8,List.drop_drop]
 simp only [parseT,List.getElem_map,List.getElem_range,this]
 exact qie h2 hr
theorem qoq {q place:Int} {t:List Int} (hq:U64 q) (ht:t.length=27) (hr:∀ x∈t,U32 x) (hp:Int.tmod q 2=place):readSV place (sealV place 1 (superB q t))=((q,t),0):=by
 have hpl:U32 place:=by rw [<- hp,Int.tmod_eq_emod_of_nonneg hq.1]; constructor <;> omega
 have ho:=qid (kind:=1) (body:=superB q t) hpl (by rw [qbH ht]; decide)
 rw [readSV,ho,if_neg (by simp),if_neg (by simp [qbH ht]),if_neg (by rw [qfE hq,hp]; simp),qfE hq,qmq ht hr]
def view (D:DiskM) (n:Int):List Int:=match lastW n D.waits with | some b=>b.1 | none=>(D.safe.getD n.toNat .zero).1
def DiskM.size (D:DiskM):Int:=D.safe.length
theorem qeY {D:DiskM} {n:Int} (hd:D.down=false) (hn:0<=n/\n<D.size):readV D n=(view D n,0):=by
 have h2:n<(D.safe.length:Int):=hn.2
 rw [readV,if_neg (by rw [hd]; decide),if_neg (by omega),view]
 cases lastW n D.waits <;> rfl
theorem qge (n:Int):∀ (l:List (Int×Blk)) (x:Int×Blk),lastW n (l++[x])=if x.1=n then some x.2 else lastW n l
 | [],x=>rfl
 | y::l,x=>by
  simp only [List.cons_append,lastW]
  rw [qge n l x]
  by_cases h:x.1=n
  ·simp [h]
  ·simp [h]
theorem qmy (n:Nat):∀ (l:List (Int×Blk)) (s:List Blk),(∀ x∈l,0<=x.1/\x.1<s.length)->(l.foldl laySafe s).getD n .zero=match lastW n l with | some b=>b | none=>s.getD n .zero
 | [],s,_=>rfl
 | x::l,s,h=>by
  have hx:=h x (by simp)
  rw [List.foldl_cons,qmy n l (laySafe s x) (fun y hy=>by rw [laySafe,List.length_set]; exact h y (List.mem_cons_of_mem _ hy)),lastW]
  cases lastW (n:Int) l with
  | some b=>rfl
  | none=>
   dsimp only
   by_cases he:x.1=n
   ·rw [if_pos he,laySafe,List.getD_eq_getElem?_getD]
    have:x.1.toNat=n:=by omega
    rw [this,List.getElem?_set_self (by omega)]
    rfl
   ·rw [if_neg he,laySafe,List.getD_eq_getElem?_getD,List.getElem?_set_ne (by omega),List.getD_eq_getElem?_getD]
structure Quiet (D:DiskM):Prop where
 down:D.down=false
 fuse:D.fuse=-1
 at_:∀ x∈D.waits,0<=x.1/\x.1<D.safe.length
theorem Quiet.act {D:DiskM} (h:Quiet D):actM D=(D,false):=by rw [actM,if_neg (by rw [h.fuse]; decide),if_neg (by rw [h.fuse]; decide)]
theorem Quiet.write {D:DiskM} (h:Quiet D) {n:Int} {l:List Int} (hn:0<=n/\n<D.size) (hl:l.length=512) :
  ∃ D',writeM D n l=(D',0)/\Quiet D'/\D'.size=D.size/\∀ m,view D' m=if m=n then l else view D m:=by
 have h2:n<(D.safe.length:Int):=hn.2
 have hq:Quiet (addW D n ⟨l,hl⟩):=⟨h.down,h.fuse,fun x hx=>by
  rcases List.mem_append.1 hx with hx | hx
  ·exact h.at_ x hx
  ·simp at hx; subst hx; exact ⟨hn.1,h2⟩⟩
 refine ⟨addW D n ⟨l,hl⟩,?_,hq,rfl,fun m=>?_⟩
 ·rw [writeM,if_neg (by rw [h.down]; decide),if_neg (by omega),dif_pos hl,hq.act]
  rfl
 ·rw [view,addW]
  dsimp only
  rw [qge]
  by_cases hm:m=n
  ·rw [if_pos hm,if_pos hm.symm]
  ·rw [if_neg hm,if_neg (fun e=>hm e.symm),view]
theorem Quiet.sync {D:DiskM} (h:Quiet D):∃ D',syncM D=(D',0)/\Quiet D'/\D'.size=D.size/\D'.waits=[]/\∀ m,0<=m->view D' m=view D m:=by
 refine ⟨{ D with safe:=D.waits.foldl laySafe D.safe,waits:=[] },?_,⟨h.down,h.fuse,fun x hx=>by cases hx⟩,?_,rfl,fun m hm=>?_⟩
 ·rw [syncM,if_neg (by rw [h.down]; decide),h.act]
  rfl
 ·show ((D.waits.foldl laySafe D.safe).length:Int)=_
  rw [qbK]; rfl
 ·obtain ⟨k,rfl⟩:∃ k:Nat,m=k:=⟨m.toNat,by omega⟩
  show ((D.waits.foldl laySafe D.safe).getD (k:Int).toNat .zero).1=_
  rw [Int.toNat_natCast,qmy k _ _ h.at_,view,Int.toNat_natCast]
  cases lastW (k:Int) D.waits <;> rfl
theorem Quiet.writes:∀ {l:List (Int×List Int)} {D:DiskM},Quiet D->(∀ x∈l,(0<=x.1/\x.1<D.size)/\x.2.length=512)->(l.map (·.1)).Nodup->
  ∃ D',writesM l D=(D',0)/\Quiet D'/\D'.size=D.size/\(∀ x∈l,view D' x.1=x.2)/\∀ m,m∉l.map (·.1)->view D' m=view D m
 | [],D,h,_,_=>⟨D,rfl,h,rfl,(fun x hx=>by cases hx),fun m _=>rfl⟩
 | y::l,D,h,hl,hn=>by
  obtain ⟨hy,hy2⟩:=hl y (by simp)
  obtain ⟨D1,e1,q1,s1,v1⟩:=h.write hy hy2
  rw [List.map_cons,List.nodup_cons] at hn
  obtain ⟨D2,e2,q2,s2,v2,u2⟩:=Quiet.writes (l:=l) q1 (fun x hx=>by rw [s1]; exact hl x (List.mem_cons_of_mem _ hx)) hn.2
  refine ⟨D2,?_,q2,s2.trans s1,fun x hx=>?_,fun m hm=>?_⟩
  ·rw [writesM,e1]; exact e2
  ·rcases List.mem_cons.1 hx with rfl | hx
   ·rw [u2 _ hn.1,v1,if_pos rfl]
   ·exact v2 x hx
  ·rw [List.map_cons,List.mem_cons,not_or] at hm
   rw [u2 m hm.2,v1,if_neg hm.1]
def chunk (numbers:List Int) (i:Nat):List Int:=(numbers.drop (123*i)).take 123
def Listed (D:DiskM) (numbers pages:List Int):Prop:=∀ (i:Nat) p,pages[i]?=some p->view D p=sealV p 2 (bodyV (pages.getD (i+1) 0) (chunk numbers i))
theorem qj3 (numbers pages:List Int) (k i:Nat):(bodiesL numbers pages k)[i]?=if i<k then some (bodyV (pages.getD (i+1) 0) (chunk numbers i)) else none:=by
 rw [bodiesL,List.getElem?_map]
 by_cases h:i<k
 ·rw [if_pos h,List.getElem?_range h]; rfl
 ·rw [if_neg h,List.getElem?_eq_none (by simpa using h)]; rfl
theorem qhW (numbers pages:List Int) (k:Nat):(bodiesL numbers pages k).length=k:=by simp [bodiesL]
theorem qgc (numbers:List Int) (i:Nat):(chunk numbers i).length<=123:=by rw [chunk,List.length_take]; omega
structure ListOk (n:Int) (numbers pages:List Int):Prop where
 rises:numbers.Pairwise (· < ·)
 nums:∀ x∈numbers,2<=x/\x<n
 pgs:∀ x∈pages,2<=x/\x<n
 nodup:pages.Nodup
 apart:∀ x∈pages,x∉numbers
 room:numbers.length<=123*pages.length
theorem qfn:∀ (l:List Int) (a:Int),risesB a l=true↔(∀ x∈l,a<x)/\l.Pairwise (· < ·)
 | [],a=>by simp [risesB]
 | x::l,a=>by
  rw [risesB,Bool.and_eq_true,decide_eq_true_iff,qfn l x,List.pairwise_cons]
  constructor
  ·rintro ⟨h1,h2,h3⟩
   refine ⟨fun y hy=>?_,h2,h3⟩
   rcases List.mem_cons.1 hy with rfl | hy
   ·exact h1
   ·exact Int.lt_trans h1 (h2 y hy)
  ·rintro ⟨h1,h2,h3⟩
   exact ⟨h1 x (by simp),h2,h3⟩
theorem ListOk.bodies {n:Int} {numbers pages:List Int} (h:ListOk n numbers pages):bodiesV numbers pages=(bodiesL numbers pages pages.length,0):=by
 have hr:risesB 1 numbers=true:=(qfn _ _).2 ⟨fun x hx=>by have:=h.nums x hx; omega,h.rises⟩
 rw [bodiesV,if_neg (by rw [hr]; have:=h.room; simp; omega),if_neg]
 rintro ⟨p,hp,h2⟩
 have:=h.pgs p hp
 omega
theorem qh3 {α β:Type} {x:α×β}:∀ {l:List α} {r:List β},x∈l.zip r->∃ i:Nat,l[i]?=some x.1/\r[i]?=some x.2
 | [],_,h=>by simp at h
 | _::_,[],h=>by simp at h
 | a::l,b::r,h=>by
  rw [List.zip_cons_cons,List.mem_cons] at h
  rcases h with rfl | h
  ·exact ⟨0,rfl,rfl⟩
  ·obtain ⟨i,h1,h2⟩:=qh3 h
   exact ⟨i+1,by simpa using h1,by simpa using h2⟩
theorem qoR {α β:Type}:∀ {l:List α} {r:List β},l.length=r.length->(l.zip r).map (·.1)=l
 | [],[],_=>rfl
 | a::l,b::r,h=>by rw [List.zip_cons_cons,List.map_cons,qoR (by simpa using h)]
theorem Quiet.spread {D:DiskM} {numbers pages:List Int} (h:Quiet D) (hk:ListOk D.size numbers pages) :
  ∃ D',spreadM D numbers pages=(D',0)/\Quiet D'/\D'.size=D.size/\D'.waits=[]/\Listed D' numbers pages/\∀ m,0<=m->m∉pages->view D' m=view D m:=by
 have hz:((pages.zip (bodiesL numbers pages pages.length)).map fun x=>(x.1,sealV x.1 2 x.2)).map (·.1)=pages:=by
  rw [List.map_map]
  exact qoR (by rw [qhW])
 obtain ⟨D1,e1,q1,s1,v1,u1⟩:=h.writes (l:=(pages.zip (bodiesL numbers pages pages.length)).map fun x=>(x.1,sealV x.1 2 x.2)) (fun x hx=>by
  obtain ⟨y,hy,rfl⟩:=List.mem_map.1 hx
  obtain ⟨i,h1,h2⟩:=qh3 hy
  rw [qj3] at h2
  have hp:=hk.pgs _ (List.mem_of_getElem? h1)
  refine ⟨⟨by show 0<=y.1; omega,hp.2⟩,qcH ?_⟩
  by_cases hi:i<pages.length
  ·rw [if_pos hi] at h2
   have h2:=Option.some.inj h2
   rw [<- h2,qdG]
   have:=qgc numbers i
   omega
  ·rw [if_neg hi] at h2; cases h2) (by rw [hz]; exact hk.nodup)
 rw [hz] at u1
 obtain ⟨D2,e2,q2,s2,w2,v2⟩:=q1.sync
 refine ⟨D2,?_,q2,s2.trans s1,w2,fun i p hp=>?_,fun m hm hm2=>by rw [v2 m hm,u1 m hm2]⟩
 ·rw [spreadM,hk.bodies,if_neg (by simp)]
  show andThen _ _=_
  rw [e1]
  exact e2
 ·have hi:=(List.getElem?_eq_some_iff.1 hp).1
  have hmem:(p,sealV p 2 (bodyV (pages.getD (i+1) 0) (chunk numbers i)))∈(pages.zip (bodiesL numbers pages pages.length)).map fun x=>(x.1,sealV x.1 2 x.2):=by
   refine List.mem_map.2 ⟨(p,bodyV (pages.getD (i+1) 0) (chunk numbers i)),?_,rfl⟩
   refine List.mem_of_getElem? (i:=i) ?_
   rw [List.getElem?_zip_eq_some]
   exact ⟨hp,by rw [qj3,if_pos hi]⟩
  have hp2:=hk.pgs _ (List.mem_of_getElem? hp)
  rw [v2 p (by omega)]
  exact v1 _ hmem
theorem qh9 (numbers:List Int):∀ k,(List.range k).flatMap (chunk numbers)=numbers.take (123*k)
 | 0=>by simp
 | k+1=>by
  rw [List.range_succ,List.flatMap_append,qh9 numbers k,List.flatMap_singleton,chunk,Nat.mul_succ,<- List.take_append_drop (123*k) (numbers.take (123*k+123))]
  congr 1
  ·rw [List.take_take,Nat.min_eq_left (by omega)]
  ·rw [List.drop_take,Nat.add_sub_cancel_left]
theorem qoW {D:DiskM} {numbers pages:List Int} {n:Int} (hd:D.down=false) (hs:D.size=n) (hn:n<=4096) (hk:ListOk n numbers pages) (hl:Listed D numbers pages) :
  ∀ (k i f:Nat),i+k=pages.length->k<f->walkM D n f (pages.getD i 0) (pages.take i) ((List.range i).flatMap (chunk numbers))=some (pages,numbers)
 | 0,i,f+1,hi,hf=>by
  have:pages.getD i 0=0:=by rw [List.getD_eq_getElem?_getD,List.getElem?_eq_none (by omega)]; rfl
  have hr:=hk.room
  have hi':i=pages.length:=by omega
  subst hi'
  rw [this,walkM,if_pos rfl,qh9,List.take_length,List.take_of_length_le hr]
 | k+1,i,f+1,hi,hf=>by
  have hil:i<pages.length:=by omega
  have hp:pages.getD i 0=pages[i]:=by rw [List.getD_eq_getElem?_getD,List.getElem?_eq_getElem hil]; rfl
  have hr:=hk.pgs _ (List.getElem_mem hil)
  have hnot:pages[i]∉pages.take i:=fun hm=>by
   obtain ⟨j,hj,he⟩:=List.getElem_of_mem hm
   rw [List.getElem_take] at he
   rw [List.length_take] at hj
   have:=List.pairwise_iff_getElem.1 hk.nodup j i (by omega) hil (by omega)
   exact this he
  have hv:=hl i _ (List.getElem?_eq_getElem hil)
  have hread:=qeY hd (n:=pages[i]) (by rw [hs]; omega)
  rw [hv] at hread
  have hcl:=qgc numbers i
  have hopen:=qid (number:=pages[i]) (kind:=2) (body:=bodyV (pages.getD (i+1) 0) (chunk numbers i)) (by omega) (by rw [qdG]; omega)
  have hcm:∀ x∈chunk numbers i,x∈numbers:=fun x hx=>List.mem_of_mem_drop (List.mem_of_mem_take hx)
  have hnext:U32 (pages.getD (i+1) 0)/\pages.getD (i+1) 0≠1:=by
   rw [List.getD_eq_getElem?_getD]
   cases h:pages[i+1]? with
   | none=>exact ⟨⟨by decide,by decide⟩,by decide⟩
   | some p=>
    have:=hk.pgs p (List.mem_of_getElem? h)
    constructor
    ·constructor <;> (simp; omega)
    ·simp; omega
  have hparse:=qmN hnext.1 hnext.2 (c:=chunk numbers i) (fun x hx=>by have:=hk.nums x (hcm x hx); constructor <;> omega)
   ((qfn _ _).2 ⟨fun x hx=>by have:=hk.nums x (hcm x hx); omega,hk.rises.sublist ((List.take_sublist _ _).trans (List.drop_sublist _ _))⟩) hcl
  rw [hp,walkM,if_neg (by omega),if_neg (by intro h; rcases h with h | h | h; omega; omega; exact hnot h),hread,hopen,if_neg (by simp),if_neg (by simp),hparse,if_neg (by simp)]
  have:=qoW hd hs hn hk hl k (i+1) f (by omega) (by omega)
  rw [List.take_succ_eq_append_getElem hil,List.range_succ,List.flatMap_append,List.flatMap_singleton] at this
  exact this
theorem qfc (n:Int) (lists:List Int):∀ (l:List Int) (a:Int),namedB n lists a l=true↔(∀ x∈l,a<x/\x<n/\x∉lists)/\l.Pairwise (· < ·)
 | [],a=>by simp [namedB]
 | x::l,a=>by
  rw [namedB,Bool.and_eq_true,qfc n lists l x,List.pairwise_cons]
  simp only [Bool.not_eq_true',Bool.or_eq_false_iff,decide_eq_false_iff_not,Int.not_le,Int.not_lt,ge_iff_le]
  constructor
  ·rintro ⟨⟨⟨h1,h2⟩,h3⟩,h4,h5⟩
   refine ⟨fun y hy=>?_,fun y hy=>(h4 y hy).1,h5⟩
   rcases List.mem_cons.1 hy with rfl | hy
   ·exact ⟨h1,h2,h3⟩
   ·have:=h4 y hy; exact ⟨by omega,this.2⟩
  ·rintro ⟨h1,h2,h3⟩
   have:=h1 x (by simp)
   exact ⟨⟨⟨this.1,this.2.1⟩,this.2.2⟩,fun y hy=>⟨h2 y hy,(h1 y (List.mem_cons_of_mem _ hy)).2⟩,h3⟩
theorem qgA:∀ (n:Nat) (l:List Nat),l.Nodup->(∀ x∈l,x<n)->l.length<=n
 | 0,l,_,h=>by cases l with
  | nil=>simp
  | cons a l=>exact absurd (h a (by simp)) (by omega)
 | n+1,l,hn,h=>by
  by_cases hm:n∈l
  ·have h1:=qgA n (l.erase n) (hn.erase n) (fun x hx=>by
    have h2:=(hn.mem_erase_iff).1 hx
    have:=h x h2.2
    have:=h2.1
    omega)
   have:=List.length_erase_of_mem hm
   have:=List.length_pos_of_mem hm
   omega
  ·have:=qgA n l hn (fun x hx=>by
    have:=h x hx
    have:x≠n:=fun e=>hm (e▸hx)
    omega)
   omega
theorem qc7 {l:List Int} {n:Int} (hn:l.Nodup) (h:∀ x∈l,2<=x/\x<n):(l.length:Int)<=n-2\/l=[]:=by
 by_cases h0:l=[]
 ·exact .inr h0
 ·left
  obtain ⟨a,ha⟩:=List.exists_mem_of_ne_nil l h0
  have h1:=h a ha
  have:=qgA (n-2).toNat (l.map fun x=>(x-2).toNat) (by
   refine List.pairwise_map.2 (hn.imp_of_mem fun {x y} hx hy hne=>?_)
   have:=h x hx
   have:=h y hy
   omega) (fun x hx=>by
   obtain ⟨y,hy,rfl⟩:=List.mem_map.1 hx
   have:=h y hy
   omega)
  rw [List.length_map] at this
  omega
structure Opens (D:DiskM) (s:Sup) (pages numbers:List Int):Prop where
 down:D.down=false
 size:8<=D.size/\D.size<=4096
 newest:newestV (view D 0) (view D 1)=(s,0)
 blocks:s.2.getD 0 0=D.size
 list:s.2.getD 1 0=pages.headD 0
 free:s.2.getD 2 0=numbers.length
 ok:ListOk D.size numbers pages
 listed:Listed D numbers pages
theorem Opens.load {D:DiskM} {s:Sup} {pages numbers:List Int} (h:Opens D s pages numbers):loadM D s=some (pages,numbers):=by
 have hw:walkM D D.size (D.size.toNat+1) (pages.headD 0) [] []=some (pages,numbers):=by
  have:=qoW h.down rfl h.size.2 h.ok h.listed pages.length 0 (D.size.toNat+1) (by omega) (by
   have:=qc7 h.ok.nodup h.ok.pgs
   have h2:=h.size
   rcases this with h1 | h1
   ·omega
   ·rw [h1]; simp)
  have e:pages.headD 0=pages.getD 0 0:=by cases pages <;> rfl
  rw [e]
  exact this
 rw [loadM,h.blocks,h.list,hw]
 dsimp only
 rw [if_pos]
 exact ⟨(qfc _ _ _ _).2 ⟨fun x hx=>⟨by have:=h.ok.nums x hx; omega,(h.ok.nums x hx).2,fun hm=>h.ok.apart x hm hx⟩,h.ok.rises⟩,h.free.symm⟩
theorem Opens.open {D:DiskM} {s:Sup} {pages numbers:List Int} (h:Opens D s pages numbers):openM D=(some (begunM s pages numbers 1 false numbers),0):=by
 have r0:=qeY h.down (n:=0) ⟨by decide,by have:=h.size; omega⟩
 have r1:=qeY h.down (n:=1) ⟨by decide,by have:=h.size; omega⟩
 have hb:s.2.getD 0 0=(D.safe.length:Int):=h.blocks
 rw [openM,r0,r1,h.newest,if_neg (by simp),if_neg (by simp),if_neg (by simp),if_neg (by rw [hb]; simp),h.load]
theorem qdc {α:Type} {enc:α->List Value} {k:Nat} {P:Program} {S:List Nat} {w:World} {s:Sl} {l:List α} {tx e':TypeId} (h:Rds enc k S w s l) (henc:∀ x,(enc x).length=k) (hone:∀ x,∀ u∈enc x,u.oneCell'=true) (hk:P.underlying tx=some (.slice e')) :
  Src P k tx (.slice s.a s.len s.cap) s.len (l.flatMap enc) w:=by
 obtain ⟨a,len,cap⟩:=s
 have hl:=h.1
 simp only at hl
 cases a with
 | none=>
  have:l=[]:=by
   rcases h.2.2 with h | ⟨b,o,cs,T,fr,ha,_⟩
   ·exact h
   ·cases ha
  subst this
  simp at hl
  subst hl
  exact .ofNil w hk cap
 | some a=>
  refine .ofSlice w hk a len cap _ (by rw [qbw henc,hl]) (h.cells henc rfl) fun u hu=>?_
  obtain ⟨x,_,hx⟩:=List.mem_flatMap.1 hu
  exact hone x u hx
theorem qup {S:List Nat} {w:World} {s src:Sl} {l ys:List Int} {B:List Nat} {K:Sl->World->Prop} (h:BufU w s l B) (hr:Rd S w src ys) (hl:l.length+ys.length<=1000000)
  (kk:∀ s' B' w',BufU w' s' (l++ys) B'->Fr B w w'->(∀ b∈B',b∈B\/w.heap.size<=b)->K s' w') :
  Pt.run [Ty1.one Cell.slice] ((Builtin.append_ #[92,92] 92 #[.slice s.a s.len s.cap,.slice src.a src.len src.cap]).run Tryz.prog w) K:=by
 obtain ⟨i,hi,hz,hsz,hby⟩:=qdq
 have hlen:=hr.1
 refine Buf.appSrc (e:=37) h qaT (by kernel_rfl) hi hz hsz rfl (qdc (e':=37) hr qaT (fun x u hu=>by simp at hu; subst hu; rfl) (by kernel_rfl)) hlen (by rw [hby]; omega) (by omega) fun s' B' w' b' f' n' _=>kk s' B' w' b' f' n'
theorem qbp {D:DiskM} (h:D.Ok) (n:Int):IsB (readV D n).1/\(readV D n).1.length<=512:=by
 have hz:IsB (zs 512):=IsB.zs 512
 unfold readV
 split
 ·exact ⟨(fun x hx=>by cases hx),by simp⟩
 split
 ·exact ⟨(fun x hx=>by cases hx),by simp⟩
 split
 ·rename_i b hb
  refine ⟨?_,Nat.le_of_eq b.2⟩
  have:∀ l:List (Int×Blk),(∀ x∈l,IsB x.2.1)->lastW n l=some b->IsB b.1:=by
   intro l
   induction l with
   | nil=>intro _ h; cases h
   | cons x l ih=>
    intro h1 h2
    rw [lastW] at h2
    cases h3:lastW n l with
    | some c=>rw [h3] at h2; exact ih (fun y hy=>h1 y (List.mem_cons_of_mem _ hy)) (by rw [h3]; exact h2)
    | none=>
     rw [h3] at h2
     dsimp only at h2
     split at h2
     ·cases h2; exact h1 x (by simp)
     ·cases h2
  exact this _ h.bytesW hb
 ·refine ⟨?_,Nat.le_of_eq (D.safe.getD n.toNat .zero).2⟩
  rw [List.getD_eq_getElem?_getD]
  cases he:D.safe[n.toNat]? with
  | none=>exact hz
  | some b=>exact h.bytesS b (List.mem_of_getElem? he)
theorem qlS {l:List Int} (h:IsB l) (n:Int):IsB (openV n l).2.1/\(openV n l).2.1.length<=l.length:=by
 have hz:IsB ([]:List Int):=fun x hx=>by cases hx
 unfold openV
 split
 ·exact ⟨hz,by simp⟩
 split
 ·exact ⟨hz,by simp⟩
 split
 ·exact ⟨hz,by simp⟩
 split
 ·exact ⟨hz,by simp⟩
 split
 ·exact ⟨hz,by simp⟩
 ·refine ⟨(h.take _).drop _,?_⟩
  rw [List.length_drop,List.length_take]
  omega
abbrev MIT:TypeId:=200
theorem qt9:Tryz.prog.underlying MIT=some (.map 37 3):=by kernel_rfl
theorem quD:∀ w,(zeroValue 3).run Tryz.prog w=.ok (.int .i64 0) w:=fun w=>by kernel_rfl
def onesM (l:List Int):List (Int×Value):=l.map fun n=>(n,.int .i64 1)
theorem qe7 (n:Int):∀ l:List Int,(n∈l->∃ i,look n (onesM l)=some (i,.int .i64 1))/\(n∉l->look n (onesM l)=none)
 | []=>⟨(fun h=>by cases h),fun _=>rfl⟩
 | a::l=>by
  obtain ⟨h1,h2⟩:=qe7 n l
  simp only [onesM,List.map_cons,look]
  by_cases h:n=a
  ·rw [if_pos h]
   exact ⟨fun _=>⟨0,rfl⟩,fun hn=>absurd (by rw [h]; simp) hn⟩
  ·rw [if_neg h]
   refine ⟨fun hm=>?_,fun hm=>?_⟩
   ·rcases List.mem_cons.1 hm with e | hm
    ·exact absurd e h
    ·obtain ⟨i,hi⟩:=h1 hm
     unfold onesM at hi
     exact ⟨i+1,by rw [hi]; rfl⟩
   ·have:=h2 (fun hm'=>hm (List.mem_cons_of_mem _ hm'))
    unfold onesM at this
    rw [this]; rfl
theorem qmY {w:World} {r:Nat} {lists:List Int} {n:Int} {K:Int->Prop} (h:MapS u32V w r (onesM lists)) (k:∀ x:Int,decide (x>0)=decide (n∈lists)->K x) :
  runQ [Ty1.one (Cell.int .i64)] (fun w'=>(Instr.lookup MIT (.map (some r)) (.int .u32 n) false).run Tryz.prog w') w K:=by
 have:=qe1 (P:=Tryz.prog) qt9 quD qbR h.at n
 rw [qbG] at this
 obtain ⟨h1,h2⟩:=qe7 n lists
 by_cases hn:n∈lists
 ·obtain ⟨i,hi⟩:=h1 hn
  rw [hi] at this
  exact qbl (ts:=[Ty1.one (Cell.int .i64)]) (1:Int) this (k 1 (by simp [hn]))
 ·rw [h2 hn] at this
  exact qbl (ts:=[Ty1.one (Cell.int .i64)]) (0:Int) this (k 0 (by simp [hn]))
theorem qqy {db:Option Addr} {sup:Sup} {sl sl' sn:Sl} {turn:Int} {over:Bool} {wk:List Value} (hl:sup.2.length=27):splice (pgRaw db sup sl sn turn over wk) 29 [.slice sl'.a sl'.len sl'.cap]=pgRaw db sup sl' sn turn over wk:=by
 have h:=qaU (db:=db) hl
 have:=qbt (A:=(Value.pointer db::supV sup.1 sup.2)) (X:=[.slice sl.a sl.len sl.cap]) (Y:=[.slice sl'.a sl'.len sl'.cap]) (Z:=.slice sn.a sn.len sn.cap::.int .i64 turn::.bool over::wk) rfl
 rw [h] at this
 simpa [pgRaw] using this
theorem qrm {db:Option Addr} {sup:Sup} {sl sn sn':Sl} {turn:Int} {over:Bool} {wk:List Value} (hl:sup.2.length=27):splice (pgRaw db sup sl sn turn over wk) 30 [.slice sn'.a sn'.len sn'.cap]=pgRaw db sup sl sn' turn over wk:=by
 have h:((Value.pointer db::supV sup.1 sup.2)++([.slice sl.a sl.len sl.cap]:List Value)).length=30:=by rw [List.length_append,qaU hl]; rfl
 have:=qbt (A:=(Value.pointer db::supV sup.1 sup.2)++([.slice sl.a sl.len sl.cap]:List Value)) (X:=[.slice sn.a sn.len sn.cap]) (Y:=[.slice sn'.a sn'.len sn'.cap]) (Z:=.int .i64 turn::.bool over::wk) rfl
 rw [h] at this
 simpa [pgRaw] using this
theorem qgl {l:List Int}:U32 (first4 l):=by unfold first4 get4V; exact qbF _ _ _
theorem qpn (l:List Int):U32 (parseV l).1:=by
 unfold parseV
 split
 ·constructor <;> decide
 split
 ·constructor <;> decide
 split
 ·exact qgl
 ·constructor <;> decide
theorem qpD (l:List Int):(parseV l).2.1.length<=123:=by
 unfold parseV
 split
 ·simp
 split
 ·simp
 rename_i h
 split
 ·simp only [numsV,List.length_map,List.length_range]; omega
 ·simp
structure Walk (w:World) (FD:List Nat) (pb r:Nat) (db:Option Addr) (sup:Sup) (turn:Int) (over:Bool) (wk:List Value) (a:Int) (lists named:List Int) (w':World) (sl sn:Sl) (B1 B2:List Nat):Prop where
 own:Own [pb] w w' [(pb,.cells (pgRaw db sup sl sn turn over wk) PGT (0,0))]
 b1:BufU w' sl lists B1
 b2:BufU w' sn named B2
 map:MapS u32V w' r (onesM lists)
 n1:∀ b∈B1,w.heap.size<=b/\b≠r/\b∉B2
 n2:∀ b∈B2,w.heap.size<=b/\b≠r
 nr:w.heap.size<=r
 at_:U32 a
 nodup:lists.Nodup
 range:∀ x∈lists,2<=x/\x<sup.2.getD 0 0
 len:named.length<=123*lists.length
theorem qsl {w:World} {pb dbk:Nat} {FD:List Nat} {D:DiskM} {sup:Sup} {turn:Int} {over:Bool} {wk:List Value} {K:Bool->World->Prop}
  (hc:w.heap[pb]?=some (.cells (pgRaw (some ⟨dbk,0,none⟩) sup ⟨none,0,0⟩ ⟨none,0,0⟩ turn over wk) PGT (0,0))) (hs:sup.2.length=27) (hw:wk.length=27) (hd:DiskAt w dbk FD D) (hD:D.Ok) (hv:Hv w) (hpb:pb∉FD) (hpv:pb≠HG)
  (hb4:sup.2.getD 0 0<=4096) (hat:U32 (sup.2.getD 1 0)) (hfr:U32 (sup.2.getD 2 0))
  (hno:loadM D sup=none->∀ w',Fr [pb] w w'->K false w')
  (hk:∀ sl sn lists named w',loadM D sup=some (lists,named)->Own [pb] w w' [(pb,.cells (pgRaw (some ⟨dbk,0,none⟩) sup sl sn turn over wk) PGT (0,0))]->(∀ G:List Nat,(∀ b∈G,b<w.heap.size)->Rd G w' sl lists/\Rd G w' sn named)->K true w') :
  call Tryz.prog 98 [.pointer (some ⟨pb,0,none⟩)] [.one .bool] w K:=by
 have hpb':=qac hc
 have ho:Own [pb] w w [(pb,.cells (pgRaw (some ⟨dbk,0,none⟩) sup ⟨none,0,0⟩ ⟨none,0,0⟩ turn over wk) PGT (0,0))]:=⟨by simpa using hc,by simp,.refl _ _,by simp⟩
 refine qf2 (p:=some ⟨pb,0,none⟩) ?_
 unfold qcV
 refine Own.new' ho fun r w1 e1 f1 ho1=>?_
 have hmap1:MapS u32V w1 r (onesM []):=.empty (ho1.at (i:=0) rfl)
 have ho1:=ho1.sub (L':=[(pb,_)]) (List.Sublist.cons _ (List.Sublist.refl _))
 refine qae (Own.ld (c:=.int .u32) ho1 0 rfl (sup.2.getD 1 0) (qhk hs 1 (by decide)) ?_)
 have disk:∀ {w':World},Fr [pb] w w'->DiskAt w' dbk FD D:=fun f=>hd.frame f fun b hb=>by simp only [List.mem_singleton]; rintro rfl; exact hpb hb
 have half:∀ {w':World},Fr [pb] w w'->Hv w':=fun f=>hv.frame f (by simpa using fun e=>hpv e.symm)
 generalize hF0:(sup.2.getD 0 0).toNat+1=F0
 have hload:loadM D sup=match walkM D (sup.2.getD 0 0) F0 (sup.2.getD 1 0) [] [] with | none=>none | some x=>if namedB (sup.2.getD 0 0) x.1 0 x.2=true/\(x.2.length:Int)=sup.2.getD 2 0 then some x else none:=by rw [<- hF0]; rfl
 refine qak (fun a w'=>∃ lists named sl sn B1 B2 f,Walk w FD pb r (some ⟨dbk,0,none⟩) sup turn over wk a lists named w' sl sn B1 B2/\f+lists.length=F0/\walkM D (sup.2.getD 0 0) f a lists named=walkM D (sup.2.getD 0 0) F0 (sup.2.getD 1 0) [] [])
  (fun a w'=>match w'.heap[r]? with | some (.map es _)=>F0-es.size | _=>0) ⟨[],[],⟨none,0,0⟩,⟨none,0,0⟩,[],[],F0,⟨ho1,.nil _ _ _,.nil _ _ _,hmap1,by simp,by simp,by rw [e1]; exact Nat.le_refl _,hat,.nil,by simp,by simp⟩,rfl,rfl⟩ ?_
 rintro a w2 ⟨lists,named,sl,sn,B1,B2,f,H,hf,hwalk⟩ X hX
 have hpos:lists.length<F0:=by
  rcases qc7 H.nodup H.range with h | h
  ·omega
  ·rw [h]; simp; omega
 obtain ⟨f,rfl⟩:∃ g,f=g+1:=⟨f-1,by omega⟩
 have fr2:=H.own.fr
 refine qab (fun hc1=>?_) (fun hc1=>?_)
 ·have ha0:a≠0:=by simpa using hc1
  rw [walkM,if_neg ha0] at hwalk
  refine qag (fun b w'=>b=decide (a<2\/a>=sup.2.getD 0 0\/a∈lists)/\w'=w2) ?_ ?_
  ·refine qab (fun h=>⟨by rw [decide_eq_true (Or.inl (of_decide_eq_true h))],rfl⟩) (fun h=>?_)
   have h1:=of_decide_eq_false h
   refine qae (Own.ld (c:=.int .u32) H.own 0 rfl (sup.2.getD 0 0) (qhk hs 0 (by decide)) ?_)
   refine qab (fun h=>⟨by rw [decide_eq_true (Or.inr (Or.inl (of_decide_eq_true h)))],rfl⟩) (fun h=>?_)
   have h2:=of_decide_eq_false h
   refine qmY H.map fun x hx=>⟨?_,rfl⟩
   rw [hx]
   refine decide_eq_decide.2 ⟨fun h=>.inr (.inr h),fun h=>?_⟩
   rcases h with h | h | h
   ·exact absurd h h1
   ·exact absurd h h2
   ·exact h
  rintro b w3 ⟨rfl,rfl⟩
  refine qab (fun h=>?_) (fun h=>?_)
  ·have h:=of_decide_eq_true h
   rw [if_pos h] at hwalk
   exact hno (by rw [hload,<- hwalk]) w3 fr2
  have hbad:=of_decide_eq_false h
  rw [if_neg hbad] at hwalk
  have ha2:2<=a:=by omega
  have hab:a<sup.2.getD 0 0:=by omega
  have hal:a∉lists:=fun h=>hbad (.inr (.inr h))
  obtain ⟨o,hr,hm⟩:=qfm (v:=.int .i64 1) qt9 H.map a
  refine qhl _ hr ?_
  have hsetL:setL a (.int .i64 1) (onesM lists)=onesM (lists++[a]):=by
   rw [setL,(qe7 a lists).2 hal]
   simp [onesM]
  rw [hsetL] at hm
  have hrlt:=H.map.lt
  have fm:Fr [r] w3 (upd w3 r o):=qdo hrlt o
  have hrpb:r≠pb:=by have:=H.nr; omega
  have ho4:=H.own.frame fm (fun b hb=>by simp only [List.mem_singleton] at hb; subst hb; exact .inr H.nr) (fun p hp=>by simp at hp; subst hp; simpa using fun e=>hrpb e.symm)
  have b14:=H.b1.frame fm (fun b hb=>by simpa using (H.n1 b hb).2.1)
  have b24:=H.b2.frame fm (fun b hb=>by simpa using (H.n2 b hb).2)
  generalize upd w3 r o=w4 at hm fm ho4 b14 b24
  refine qae (Own.ld (c:=.ptr) ho4 0 rfl (some ⟨dbk,0,none⟩) qus ?_)
  rw [wi' a (by omega)]
  refine qfC (disk ho4.fr) hD fun s5 B5 w5 b5 f5 n5=>?_
  have ho5:=ho4.frame0 f5
  refine qab (fun h=>?_) (fun h=>?_)
  ·have h:(readV D a).2≠0:=by simpa using h
   rw [if_pos h] at hwalk
   exact hno (by rw [hload,<- hwalk]) w5 ho5.fr
  have h:¬ (readV D a).2≠0:=by simpa using h
  rw [if_neg h] at hwalk
  refine qkC (b5.rds qas (S:=[]) (by simp)) (half ho5.fr) (qbp hD a).1 (by have:=(qbp hD a).2; omega) fun s6 B6 w6 b6 f6 n6=>?_
  have ho6:=ho5.frame0 f6
  refine qag (fun b w'=>b=decide ((openV a (readV D a).1).2.2≠0\/(openV a (readV D a).1).1≠2)/\w'=w6) ?_ ?_
  ·refine qab (fun h=>?_) (fun h=>?_)
   ·have h:(openV a (readV D a).1).2.2≠0:=by simpa using h
    exact ⟨by rw [decide_eq_true (Or.inl h)],rfl⟩
   ·have h:(openV a (readV D a).1).2.2=0:=by simpa using h
    refine ⟨?_,rfl⟩
    by_cases h2:(openV a (readV D a).1).1=2 <;> simp [h,h2]
  rintro b w6' ⟨rfl,rfl⟩
  refine qab (fun h=>?_) (fun h=>?_)
  ·have h:=of_decide_eq_true h
   rw [if_pos h] at hwalk
   exact hno (by rw [hload,<- hwalk]) w6' ho6.fr
  have h:=of_decide_eq_false h
  rw [if_neg h] at hwalk
  have hoB:=qlS (qbp hD a).1 a
  refine qre (b6.rds qas (S:=[]) (by simp)) hoB.1 (by have:=hoB.2; have:=(qbp hD a).2; omega) fun s7 B7 w7 b7 f7 n7=>?_
  have ho7:=ho6.frame0 f7
  refine qab (fun h=>?_) (fun h=>?_)
  ·have h:(parseV (openV a (readV D a).1).2.1).2.2≠0:=by simpa using h
   rw [if_pos h] at hwalk
   exact hno (by rw [hload,<- hwalk]) w7 ho7.fr
  have h:¬ (parseV (openV a (readV D a).1).2.1).2.2≠0:=by simpa using h
  rw [if_neg h] at hwalk
  have hpl:=qpD (openV a (readV D a).1).2.1
  have hpu:=qpn (openV a (readV D a).1).2.1
  generalize parseV (openV a (readV D a).1).2.1=pv at hwalk b7 hpl hpu
  have f47:=(f5.trans f6).trans f7
  have hml:=H.len
  have hl4:lists.length<=4096:=by omega
  have hoD:=ho7.drew
  have hd7:Fr [] w4 w7.drew:=f47.drew
  have b1d:=b14.frame0 hd7
  have b2d:=b24.frame0 hd7
  have hmd:=hm.frame hd7 (by simp)
  have b7d:=b7.frame0 ((Fr.refl [] w7).drew)
  have l7:∀ b∈B7,w4.heap.size<=b:=fun b hb=>Nat.le_trans (f5.trans f6).size (n7 b hb)
  have hr4:r<w4.heap.size:=hm.lt
  generalize w7.drew=wd at hoD hd7 b1d b2d hmd b7d
  refine qae (Own.ld (c:=.slice) hoD 0 rfl sl (qcD hs 0 (by decide)) ?_)
  refine qae (Own.ld (c:=.slice) hoD 0 rfl sn (qcD hs 1 (by decide)) ?_)
  refine Own.new' hoD fun rn w8 e8 f8 ho8=>?_
  refine qap (ho8.cell 1 rfl (qcD hs 1 (by decide))) (ho8.cell 1 rfl (qcD hs 0 (by decide))) ?_
  have hone:Rd [] w8 ⟨some ⟨rn,0,none⟩,1,1⟩ [a]:=by
   refine ⟨rfl,Nat.le_refl _,.inr ⟨rn,0,_,_,_,rfl,ho8.at (i:=0) rfl,by simp,fun i x hx=>?_⟩⟩
   match i with
   | 0=>simp at hx; subst hx; rfl
   | i+1=>simp at hx
  refine qup (s:=sl) (src:=⟨some ⟨rn,0,none⟩,1,1⟩) (b1d.frame0 f8) hone (by simp; omega) fun s9 B9 w9 b9 f9 n9=>?_
  have hB1:∀ b∈B1,b<wd.heap.size:=fun b hb=>b1d.lt b hb
  have hB2:∀ b∈B2,b<wd.heap.size:=fun b hb=>b2d.lt b hb
  have h78:wd.heap.size<=w8.heap.size:=f8.size
  have h4d:w4.heap.size<=wd.heap.size:=hd7.size
  have hw0:w.heap.size<=w4.heap.size:=ho4.fr.size
  have ho9:=(ho8.sub (L':=[(pb,_)]) (List.Sublist.cons _ (List.Sublist.refl _))).frame f9 (fun b hb=>.inr (H.n1 b hb).1) (fun p hp hb=>by simp at hp; subst hp; have:=(H.n1 _ hb).1; dsimp only at this; omega)
  refine qah (ho9.cell 0 rfl (qcD hs 1 (by decide))) ?_
  have b29:=(b2d.frame0 f8).frame f9 (fun b hb hb1=>(H.n1 b hb1).2.2 hb)
  have r79:Rd [] w9 s7 pv.2.1:=((b7d.frame0 f8).frame f9 (fun b hb hb1=>by have:=l7 b hb; have:=b14.lt b hb1; omega)).rds qaT (by simp)
  refine qup b29 r79 (by omega) fun s10 B10 w10 b10 f10 n10=>?_
  have hlt9:wd.heap.size<=w9.heap.size:=Nat.le_trans h78 f9.size
  have ho10:=ho9.frame f10 (fun b hb=>.inr (H.n2 b hb).1) (fun p hp hb=>by simp at hp; subst hp; have:=(H.n2 _ hb).1; dsimp only at this; omega)
  have nB9:∀ b∈B9,w.heap.size<=b/\b≠r/\b∉B2/\b<w9.heap.size:=fun b hb=>by
   refine ⟨?_,?_,?_,b9.lt b hb⟩
   ·rcases n9 b hb with h | h
    ·exact (H.n1 b h).1
    ·omega
   ·rcases n9 b hb with h | h
    ·exact (H.n1 b h).2.1
    ·omega
   ·rcases n9 b hb with h | h
    ·exact (H.n1 b h).2.2
    ·intro h2; have:=hB2 b h2; omega
  have nB10:∀ b∈B10,w.heap.size<=b/\b≠r:=fun b hb=>by
   rcases n10 b hb with h | h
   ·exact H.n2 b h
   ·constructor <;> omega
  have b910:=b9.frame f10 (fun b hb h2=>(nB9 b hb).2.2.1 h2)
  have sep:∀ b∈B9,b∉B10:=fun b hb hb2=>by
   rcases n10 b hb2 with h | h
   ·exact (nB9 b hb).2.2.1 h
   ·have:=(nB9 b hb).2.2.2; omega
  refine qae (Own.st' ho10 0 rfl (pgRaw (some ⟨dbk,0,none⟩) sup s9 sn turn over wk) (qqy hs) rfl (by rw [qfp hs,hw]; exact Nat.le_of_ble_eq_true rfl) fun w11 ho11 f11=>?_)
  refine qae (Own.st' ho11 0 rfl (pgRaw (some ⟨dbk,0,none⟩) sup s9 s10 turn over wk) (qrm hs) rfl (by rw [qfp hs,hw]; exact Nat.le_of_ble_eq_true rfl) fun w12 ho12 f12=>?_)
  have f1112:=f11.trans f12
  have npb:∀ b,w.heap.size<=b->b∉[pb]:=fun b hb=>by simp; omega
  have hm12:=(((hmd.frame f8 (by simp)).frame f9 (fun h=>(H.n1 r h).2.1 rfl)).frame f10 (fun h=>(H.n2 r h).2 rfl)).frame f1112 (npb r H.nr)
  refine hX _ _ ⟨lists++[a],named++pv.2.1,s9,s10,B9,B10,f,⟨ho12,b910.frame f1112 (fun b hb=>npb b (nB9 b hb).1),b10.frame f1112 (fun b hb=>npb b (nB10 b hb).1),hm12,fun b hb=>⟨(nB9 b hb).1,(nB9 b hb).2.1,sep b hb⟩,nB10,H.nr,hpu,?_,?_,?_⟩,?_,hwalk⟩ ?_
  ·rw [List.nodup_append]
   exact ⟨H.nodup,by simp,fun x hx y hy=>by simp at hy; subst hy; exact fun e=>hal (e▸hx)⟩
  ·intro x hx
   rcases List.mem_append.1 hx with h | h
   ·exact H.range x h
   ·simp at h; subst h; exact ⟨ha2,hab⟩
  ·rw [List.length_append,List.length_append]
   have:[a].length=1:=rfl
   omega
  ·rw [List.length_append]
   have:[a].length=1:=rfl
   omega
  ·have key:∀ {w':World} {l:List Int},MapS u32V w' r (onesM l)->(match w'.heap[r]? with | some (.map es _)=>F0-es.size | _=>0)=F0-l.length:=by
    rintro w' l ⟨es,c,h1,h2,_⟩
    rw [h1]
    have:=congrArg List.length h2
    simp [onesM] at this
    simp [this]
   rw [key hm12,key H.map,List.length_append]
   have:[a].length=1:=rfl
   omega
 ·have ha0:a=0:=by simpa using hc1
  subst ha0
  rw [walkM,if_pos rfl] at hwalk
  rw [<- hwalk] at hload
  dsimp only at hload
  refine qae (Own.ld (c:=.slice) H.own 0 rfl sn (qcD hs 1 (by decide)) ?_)
  have rn:Rd [] w2 sn named:=H.b2.rds qaT (by simp)
  have hnl:=rn.1
  have hml:=H.len
  have hl4:lists.length<=4096:=by omega
  refine qak (fun x w'=>w'=w2/\∃ i:Nat,x.2=i/\i<=named.length/\namedB (sup.2.getD 0 0) lists x.1 (named.drop i)=namedB (sup.2.getD 0 0) lists 0 named) (fun x _=>((named.length:Int)-x.2).toNat) ⟨rfl,0,rfl,by omega,rfl⟩ ?_
  rintro ⟨last,ii⟩ w' ⟨rfl,i,hi0,hi,hn⟩ Z hZ
  simp only at hi0 hn
  subst hi0
  refine qab (fun hc=>?_) (fun hc=>?_)
  ·have hil:i<named.length:=by have:=of_decide_eq_true hc; dsimp only at this; omega
   refine Rd.at rn i rfl (List.getElem?_eq_getElem hil) ?_
   rw [List.drop_eq_getElem_cons hil,namedB] at hn
   refine qag (fun b w3=>b=(decide (named[i]<=last)||decide (named[i]>=sup.2.getD 0 0)||decide (named[i]∈lists))/\w3=w') ?_ ?_
   ·refine qab (fun h=>⟨by rw [h]; rfl,rfl⟩) (fun h=>?_)
    refine qae (Own.ld (c:=.int .u32) H.own 0 rfl (sup.2.getD 0 0) (qhk hs 0 (by decide)) ?_)
    refine qab (fun h2=>⟨by rw [h,h2]; rfl,rfl⟩) (fun h2=>?_)
    refine qmY H.map fun x hx=>⟨?_,rfl⟩
    rw [hx,h,h2]; rfl
   rintro b w3 ⟨rfl,rfl⟩
   refine qab (fun h=>?_) (fun h=>?_)
   ·rw [h] at hn
    refine hno ?_ w3 fr2
    rw [hload,if_neg]
    rw [<- hn]
    simp
   ·rw [h] at hn
    rw [wi' _ (by dsimp only; omega)]
    exact hZ _ _ ⟨rfl,i+1,by simp,by omega,by simpa using hn⟩ (by dsimp only; omega)
  ·have:i=named.length:=by have:=of_decide_eq_false hc; dsimp only at this; omega
   subst this
   rw [List.drop_length] at hn
   have hn':namedB (sup.2.getD 0 0) lists 0 named=true:=hn.symm
   have hoD:=H.own.drew
   refine qae (Own.ld (c:=.slice) hoD 0 rfl sn (qcD hs 1 (by decide)) ?_)
   refine qae (Own.ld (c:=.int .u32) hoD 0 rfl (sup.2.getD 2 0) (qhk hs 2 (by decide)) ?_)
   rw [wi' _ (by omega)]
   by_cases hfree:(named.length:Int)=sup.2.getD 2 0
   ·rw [if_pos ⟨hn',hfree⟩] at hload
    have e:((sn.len:Int)==sup.2.getD 2 0)=true:=by rw [beq_iff_eq]; omega
    rw [e]
    refine hk sl sn lists named _ hload hoD fun G hG=>?_
    have away:∀ b,w.heap.size<=b->b∉G:=fun b hb h=>by have:=hG b h; omega
    exact ⟨(H.b1.frame0 ((Fr.refl [] w').drew)).rds qaT fun b hb=>away b (H.n1 b hb).1,(H.b2.frame0 ((Fr.refl [] w').drew)).rds qaT fun b hb=>away b (H.n2 b hb).1⟩
   ·have e:((sn.len:Int)==sup.2.getD 2 0)=false:=by rw [beq_eq_false_iff_ne]; omega
    rw [e]
    exact hno (by rw [hload,if_neg (fun h=>hfree h.2)]) _ hoD.fr
theorem qh1 {S:List Nat} {w:World} {s:Sl} {l:List Int} (h:RdB S w s l):(Extern.Bytes.bytesOf (.slice s.a s.len s.cap)).run Tryz.prog w=.ok ⟨(Lib.bytesOf l).toArray⟩ w:=by
 have hlen:=h.1
 cases ha:s.a with
 | none=>
  have hl0:l=[]:=by
   rcases h.2.2 with h3 | ⟨b,o,cs,T,fr,ha',_⟩
   ·exact h3
   ·rw [ha] at ha'; cases ha'
  subst hl0
  rfl
 | some a=>
  have hc:=h.cells qas ha
  have:=Lib.run_loadBytesX (P:=Tryz.prog) w l a .empty (fun j x hj=>hc j (.int .u8 x) (by rw [qaA,List.getElem?_map,hj]; rfl))
  rw [hlen]
  show (Extern.Bytes.loadBytes a l.length .empty).run Tryz.prog w=_
  rw [this]
  have e:(#[]:Array UInt8)++(Lib.bytesOf l).toArray=(Lib.bytesOf l).toArray:=by simp
  exact congrArg (fun d=>Result.ok (ByteArray.mk d) w) e
theorem qdI:∀ {a b:List Int},IsB a->IsB b->Lib.compareBytes (Lib.bytesOf a) (Lib.bytesOf b)=cmpL a b
 | [],[],_,_=>rfl
 | [],y::b,_,_=>rfl
 | x::a,[],_,_=>rfl
 | x::a,y::b,ha,hb=>by
  have hx:=ha x (by simp)
  have hy:=hb y (by simp)
  have ih:=qdI (a:=a) (b:=b) (fun z hz=>ha z (List.mem_cons_of_mem _ hz)) (fun z hz=>hb z (List.mem_cons_of_mem _ hz))
  have e:∀ {u v:Int},(0<=u/\u<256)->(0<=v/\v<256)->(u.toNat.toUInt8<v.toNat.toUInt8↔u<v):=fun {u v} hu hv=>by
   rw [UInt8.lt_iff_toNat_lt]
   simp
   omega
  show (if x.toNat.toUInt8<y.toNat.toUInt8 then (-1:Int) else if y.toNat.toUInt8<x.toNat.toUInt8 then 1 else Lib.compareBytes (Lib.bytesOf a) (Lib.bytesOf b))=cmpL (x::a) (y::b)
  rw [cmpL,ih]
  by_cases h1:x<y
  ·rw [if_pos ((e hx hy).2 h1),if_pos h1]
  ·rw [if_neg (fun h=>h1 ((e hx hy).1 h)),if_neg h1]
   by_cases h2:y<x
   ·rw [if_pos ((e hy hx).2 h2),if_pos h2]
   ·rw [if_neg (fun h=>h2 ((e hy hx).1 h)),if_neg h2]
theorem qoo {S S':List Nat} {w:World} {s s':Sl} {l l':List Int} (h:RdB S w s l) (h':RdB S' w s' l') (hB:IsB l) (hB':IsB l') :
  (Extern.BytealgCompare.compare #[.slice s.a s.len s.cap,.slice s'.a s'.len s'.cap]).run Tryz.prog w=.ok (.int .i64 (cmpL l l')) w:=by
 show Sem.run Tryz.prog (do pure (goInt (Extern.BytealgCompare.cmp (<- Extern.Bytes.bytesOf (.slice s.a s.len s.cap)) (<- Extern.Bytes.bytesOf (.slice s'.a s'.len s'.cap))))) w=_
 have e:=qdI hB hB'
 simp only [Sem.run_bind,qh1 h,Result.andThen_ok,qh1 h',Lib.cmp_eq]
 rw [e]
 rfl
theorem qmL {S S':List Nat} {w:World} {s s':Sl} {l l':List Int} {K:Int->World->Prop} (h:RdB S w s l) (h':RdB S' w s' l') (hB:IsB l) (hB':IsB l') (hk:K (cmpL l l') w) :
  call Tryz.prog 111 [.slice s.a s.len s.cap,.slice s'.a s'.len s'.cap] [.one (.int .i64)] w K:=by
 refine qqb (a:=s) (b:=s') ?_
 unfold qm5
 refine qja (a:=s) (b:=s') ?_
 unfold qeS
 exact qjP (e:=Extern.BytealgCompare.compare) Tryz.func182 (by kernel_rfl) (by kernel_rfl) (by kernel_rfl) (by kernel_rfl) (cmpL l l') w (qoo h h' hB hB') hk
def encSl (s:Sl):List Value:=[.slice s.a s.len s.cap]
theorem qb0 (s:Sl):(encSl s).length=1:=rfl
theorem qqQ (s:Sl):∀ u∈encSl s,u.oneCell'=true:=fun u hu=>by rw [List.mem_singleton.1 hu]; rfl
abbrev Kps:=List (Sl×Key)
abbrev slsP (ps:Kps):List Sl:=ps.map (·.1)
abbrev keyP (ps:Kps):List Key:=ps.map (·.2)
def RdK (S:List Nat) (w:World) (s:Sl) (ps:Kps):Prop:=Rds encSl 1 S w s (slsP ps)/\∀ p∈ps,RdB S w p.1 p.2
theorem RdK.frame {S S':List Nat} {w w':World} {s:Sl} {ps:Kps} (h:RdK S w s ps) (f:Fr S w w') (hS:∀ b∈S',b∈S\/w.heap.size<=b):RdK S' w' s ps:=⟨h.1.frame f hS,fun p hp=>(h.2 p hp).frame f hS⟩
theorem RdK.frame0 {S:List Nat} {w w':World} {s:Sl} {ps:Kps} (h:RdK S w s ps) (f:Fr [] w w'):RdK S w' s ps:=⟨h.1.frame0 f,fun p hp=>(h.2 p hp).frame0 f⟩
theorem RdK.len {S:List Nat} {w:World} {s:Sl} {ps:Kps} (h:RdK S w s ps):s.len=ps.length:=by rw [h.1.1,List.length_map]
theorem RdK.nil (S:List Nat) (w:World):RdK S w ⟨none,0,0⟩ []:=⟨.nil _ _ _ _,fun p hp=>nomatch hp⟩
theorem RdK.get {S:List Nat} {w:World} {s:Sl} {ps:Kps} (h:RdK S w s ps) (n:Nat) {i:Int} {K:Sl->Prop} (hi:i=n) (hn:n<ps.length) (kk:K ps[n].1):idx s i 1 fun a=>ld .slice a w K:=
 Rds.get (c:=.slice) h.1 n hi (x:=ps[n].1) (by rw [List.getElem?_map,List.getElem?_eq_getElem hn]; rfl) (y:=ps[n].1) rfl kk
end Go.Proofs.YtmmkegapckbomaaGreatDoor
end
section
namespace Go.Proofs.YtmmkegapckbomaaGreatDoor
open Go.ChangeShapes Go.WideShapes Go.ChangeAt Go.RowKit Go.Pt
set_option linter.unusedVariables false
section
variable {H:Type} {enc:TypeId×Value->H} {W:World} {base:Nat} {spare:Nat->Bool} {held:Bool}
theorem qpo:∀ n cells y,DataW.trod enc Tryz.prog W base spare held n 23 cells=some y->∃ x:Sl,cells=encSl x/\∃ l,RdB [] W x l/\IsB l:=by
 intro n cells y h
 have hs:∃ s:Sl,cells=[.slice s.a s.len s.cap]:=by
  rcases Go.Deep.open_slice (e:=5) (by kernel_rfl) h with ⟨hm,_⟩ | ⟨a,len,cap,m,n',D,Pl,hm,_⟩
  ·exact ⟨⟨none,0,0⟩,hm⟩
  ·exact ⟨⟨some a,len,cap⟩,hm⟩
 obtain ⟨s,rfl⟩:=hs
 obtain ⟨l,g,e⟩:=qg4 (P:=Tryz.prog) (t:=23) (e:=5) (s:=s) (k:=1) (encB:=fun n=>[Value.int .u8 n]) (by kernel_rfl) (by kernel_rfl) (by decide) (qnN (k:=.u8) (by kernel_rfl)) h
 exact ⟨s,rfl,l,g,fun z hz=>qs9 (e z hz)⟩
theorem qrS {S:List Nat} {w:World} {s:Sl}:∀ {l:List Sl},(∀ x∈l,∃ r,RdB S w x r/\IsB r)->∃ rows:Kps,slsP rows=l/\∀ p∈rows,RdB S w p.1 p.2/\IsB p.2
 | [],h=>⟨[],rfl,fun p hp=>nomatch hp⟩
 | x::l,h=>by
  obtain ⟨r,h1,h2⟩:=h x (List.mem_cons_self ..)
  obtain ⟨rows,e,h3⟩:=qrS (s:=s) (l:=l) fun y hy=>h y (List.mem_cons_of_mem _ hy)
  refine ⟨(x,r)::rows,by rw [<- e]; rfl,fun p hp=>?_⟩
  rcases List.mem_cons.1 hp with rfl | hp
  ·exact ⟨h1,h2⟩
  ·exact h3 p hp
theorem qtc {n:Nat} {s:Sl} {y:DataW H×List MemPlace} (h:DataW.trod enc Tryz.prog W base spare held n 22 [.slice s.a s.len s.cap]=some y):∃ rows:Kps,RdK [] W s rows/\∀ p∈rows,IsB p.2:=by
 obtain ⟨l,g,e⟩:=qg4 (P:=Tryz.prog) (t:=22) (e:=23) (s:=s) (k:=1) (encB:=encSl) (by kernel_rfl) (by kernel_rfl) (by decide) qpo h
 obtain ⟨rows,e2,h2⟩:=qrS (s:=s) e
 exact ⟨rows,⟨by rw [e2]; exact g,fun p hp=>(h2 p hp).1⟩,fun p hp=>(h2 p hp).2⟩
end
end Go.Proofs.YtmmkegapckbomaaGreatDoor
end
